/- Contracts: the reader of envelope. Contracts: the reader of envelope: names of one letter. Contracts: the reader of envelope: heads. Own rows of raw cells: a store, a part (for the stack of envelope's reader). Contracts: the reader of envelope at the pair's bytes: heads, the stack's states. A term written over an element of an own row (stack of envelope's reader). -/
import Derived.Test.YtfaienbdebjfcaaGreatGF
import Derived.Deep.QuietTactic
import Derived.BigQuiet
import Derived.Test.YtfaienbdebjfcaaGreatGA
namespace Go.Proofs.YtfaienbdebjfcaaGreat
open Go Go.RowKit
set_option linter.unusedVariables false
set_option linter.unusedSimpArgs false

/-- the reader of s, at k -/
def RdB (w : World) (rb : Nat) (s : ByteArray) (k : Nat) : Prop := w.heap[rb]? = some (.cells #[.string s, .int .i64 k, .bool false] 123)
theorem RdB.lt {w : World} {rb : Nat} {s : ByteArray} {k : Nat} (h : RdB w rb s k) : rb < w.heap.size := (Array.getElem?_eq_some_iff.1 h).1
theorem RdB.ext {w w' : World} {rb : Nat} {s : ByteArray} {k : Nat} (h : RdB w rb s k) (hE : Ext w w') : RdB w' rb s k := hs_ext hE h
theorem gr_trans {a b c : World} {r : Option Nat} (h : a.grownBy b r) (k : b.grownBy c r) : a.grownBy c r :=
 ⟨k.os.trans h.os, k.tape.trans h.tape, k.output.trans h.output, Nat.le_trans h.size k.size, fun i hi hn => (k.block i (Nat.lt_of_lt_of_le hi h.size) hn).trans (h.block i hi hn)⟩
theorem gr_ext {a b : World} {r : Option Nat} (h : Ext a b) : a.grownBy b r := ⟨h.os, h.tape, h.output, h.size, fun i hi _ => h.block hi⟩
set_option maxRecDepth 100000 in
set_option maxHeartbeats 4000000 in
theorem next_any {w : World} {rb k : Nat} {s : ByteArray} {lo hi : Int} (h : RdB w rb s k) (hk : k < s.size) (hs : s.size ≤ 1000) (hl : lo ≤ s[k].toNat) (hh : (s[k].toNat : Int) ≤ hi) :
 Calls Tryz.prog 116 #[.pointer (some ⟨rb, 0, none⟩), .int .i64 lo, .int .i64 hi] w fun e w' => e = .returned (.int .i64 s[k].toNat) ∧ RdB w' rb s (k + 1) ∧ w.grownBy w' (some rb) := by
 have r0 : w.cell? ⟨rb, 0, none⟩ = some (.string s) := by rw [cellc h]; rfl
 have r1 : w.cell? ⟨rb, 1, none⟩ = some (.int .i64 k) := by rw [cellc h]; rfl
 have r2 : w.cell? ⟨rb, 2, none⟩ = some (.bool false) := by rw [cellc h]; rfl
 have HR := Lib.hid h
 have hki : (k : Int) < (s.size : Int) := by omega
 have hsb : s[k].toNat < 256 := UInt8.toNat_lt _
 have hws : IntKind.i64.wrap (s[k].toNat : Int) = (s[k].toNat : Int) := by rw [IntKind.wrap_i64]; omega
 have hl2 : ¬ (s[k].toNat : Int) < lo := by omega
 have hh2 : ¬ hi < (s[k].toNat : Int) := by omega
 clear h
 go_enter Tryz.func116, Tryz.ntmps116
 go_upto_region 1 with fail
 have HFCT := Lib.hid (And.intro r0 (And.intro r1 r2))
 refine wp_region_reg 44 false (by kernel_rfl) (by kernel_rfl) ?_
 refine reg_value (fun _ => rfl) ?_ (fun g w' vs hM hE hP => ?_) ?_
 rotate_left
 · (clear hP hM; go_simp; first | done | rfl)
 refine reg_value (fun _ => rfl) ?_ (fun g w' vs hM hE hP => ?_) ?_
 rotate_left
 · (clear hP hM; go_simp; first | done | rfl)
 refine reg_value (fun _ => rfl) ?_ (fun g w' vs hM hE hP => ?_) ?_
 rotate_left
 · (clear hP hM; go_simp; first | done | rfl)
 refine reg_value (fun _ => rfl) ?_ (fun g w' vs hM hE hP => ?_) ?_
 rotate_left
 · (clear hP hM; have ⟨z0, z1, z2⟩ := cs_e3 hE HFCT.out; go_simp; first | done | rfl)
 refine reg_value (fun _ => rfl) ?_ (fun g w' vs hM hE hP => ?_) ?_
 rotate_left
 · (clear hP hM; go_simp; first | done | rfl)
 refine reg_value (fun g => by go_simp) ?_ (fun g w' vs hM hE hP => ?_) ?_
 rotate_left
 · (clear hP hM; go_simp; first | done | rfl)
 refine reg_value (fun g => by go_simp) ?_ (fun g w' vs hM hE hP => ?_) ?_
 rotate_left
 · (clear hP hM; go_simp; first | done | rfl)
 refine reg_value (fun g => by go_simp) ?_ (fun g w' vs hM hE hP => ?_) ?_
 rotate_left
 · (clear hP hM; go_simp; first | done | rfl)
 refine reg_value (fun g => by go_simp) ?_ (fun g w' vs hM hE hP => ?_) ?_
 rotate_left
 · (clear hP hM; have ⟨z0, z1, z2⟩ := cs_e3 hE HFCT.out; go_simp; first | done | rfl)
 refine reg_value (fun g => by go_simp) ?_ (fun g w' vs hM hE hP => ?_) ?_
 rotate_left
 · (clear hP hM; go_simp; first | done | rfl)
 refine reg_value (fun g => by go_simp) ?_ (fun g w' vs hM hE hP => ?_) ?_
 rotate_left
 · (clear hP hM; go_simp; first | done | rfl)
 refine reg_value (fun g => by go_simp) ?_ (fun g w' vs hM hE hP => ?_) ?_
 rotate_left
 · (clear hP hM; go_simp; first | done | rfl)
 refine reg_value (fun g => by go_simp) ?_ (fun g w' vs hM hE hP => ?_) ?_
 rotate_left
 · (clear hP hM; have ⟨z0, z1, z2⟩ := cs_e3 hE HFCT.out; go_simp; first | done | rfl)
 refine reg_value (fun g => by go_simp) ?_ (fun g w' vs hM hE hP => ?_) ?_
 rotate_left
 · (clear hP hM; go_simp; first | done | rfl)
 refine reg_value (fun g => by go_simp) ?_ (fun g w' vs hM hE hP => ?_) ?_
 rotate_left
 · (clear hP hM; go_simp; first | done | rfl)
 refine reg_value (fun _ => rfl) ?_ (fun g w' vs hM hE hP => ?_) ?_
 rotate_left
 · (clear hP hM; go_simp; first | done | rfl)
 refine reg_value (fun _ => rfl) ?_ (fun g w' vs hM hE hP => ?_) ?_
 rotate_left
 · (clear hP hM; go_simp; first | done | rfl)
 refine reg_value (fun g => by go_simp) ?_ (fun g w' vs hM hE hP => ?_) ?_
 rotate_left
 · (clear hP hM; go_simp; first | done | rfl)
 refine reg_value (fun g => by go_simp) ?_ (fun g w' vs hM hE hP => ?_) ?_
 rotate_left
 · (clear hP hM; go_simp; first | done | rfl)
 refine reg_value (fun g => by go_simp) ?_ (fun g w' vs hM hE hP => ?_) ?_
 rotate_left
 · (clear hP hM; go_simp; first | done | rfl)
 refine reg_value (fun g => by go_simp) ?_ (fun g w' vs hM hE hP => ?_) ?_
 rotate_left
 · (clear hP hM; have ⟨z0, z1, z2⟩ := cs_e3 hE HFCT.out; go_simp; first | done | rfl)
 refine reg_value (fun g => by go_simp) ?_ (fun g w' vs hM hE hP => ?_) ?_
 rotate_left
 · (clear hP hM; go_simp; first | done | rfl)
 refine reg_value (fun g => by go_simp) ?_ (fun g w' vs hM hE hP => ?_) ?_
 rotate_left
 · (clear hP hM; go_simp; first | done | rfl)
 refine reg_value (fun g => by go_simp) ?_ (fun g w' vs hM hE hP => ?_) ?_
 rotate_left
 · (clear hP hM; go_simp; first | done | rfl)
 refine reg_value (fun g => by go_simp) ?_ (fun g w' vs hM hE hP => ?_) ?_
 rotate_left
 · (clear hP hM; have ⟨z0, z1, z2⟩ := cs_e3 hE HFCT.out; go_simp; first | done | rfl)
 refine reg_value (fun g => by go_simp) ?_ (fun g w' vs hM hE hP => ?_) ?_
 rotate_left
 · (clear hP hM; go_simp; first | done | rfl)
 refine reg_value (fun g => by go_simp) ?_ (fun g w' vs hM hE hP => ?_) ?_
 rotate_left
 · (clear hP hM; go_simp; first | done | rfl)
 refine reg_value (fun g => by go_simp) ?_ (fun g w' vs hM hE hP => ?_) ?_
 rotate_left
 · (clear hP hM; go_simp; first | done | rfl)
 refine reg_value (fun g => by go_simp) ?_ (fun g w' vs hM hE hP => ?_) ?_
 rotate_left
 · (clear hP hM; go_simp; first | done | rfl)
 refine reg_value (fun _ => rfl) ?_ (fun g w' vs hM hE hP => ?_) ?_
 rotate_left
 · (clear hP hM; go_simp; first | done | rfl)
 refine reg_value (fun _ => rfl) ?_ (fun g w' vs hM hE hP => ?_) ?_
 rotate_left
 · (clear hP hM; go_simp; first | done | rfl)
 refine reg_value (fun g => by go_simp) ?_ (fun g w' vs hM hE hP => ?_) ?_
 rotate_left
 · (clear hP hM; go_simp; first | done | rfl)
 refine reg_value (fun g => by go_simp) ?_ (fun g w' vs hM hE hP => ?_) ?_
 rotate_left
 · (clear hP hM; go_simp; first | done | rfl)
 refine reg_value (fun g => by go_simp) ?_ (fun g w' vs hM hE hP => ?_) ?_
 rotate_left
 · (clear hP hM; go_simp; first | done | rfl)
 refine reg_value (fun g => by go_simp) ?_ (fun g w' vs hM hE hP => ?_) ?_
 rotate_left
 · (clear hP hM; have ⟨z0, z1, z2⟩ := cs_e3 hE HFCT.out; go_simp; first | done | rfl)
 refine reg_value (fun g => by go_simp) ?_ (fun g w' vs hM hE hP => ?_) ?_
 rotate_left
 · (clear hP hM; go_simp; first | done | rfl)
 refine reg_value (fun g => by go_simp) ?_ (fun g w' vs hM hE hP => ?_) ?_
 rotate_left
 · (clear hP hM; go_simp; first | done | rfl)
 refine reg_value (fun g => by go_simp) ?_ (fun g w' vs hM hE hP => ?_) ?_
 rotate_left
 · (clear hP hM; go_simp; first | done | rfl)
 refine reg_value (fun g => by go_simp) ?_ (fun g w' vs hM hE hP => ?_) ?_
 rotate_left
 · (clear hP hM; have ⟨z0, z1, z2⟩ := cs_e3 hE HFCT.out; go_simp; first | done | rfl)
 refine reg_value (fun g => by go_simp) ?_ (fun g w' vs hM hE hP => ?_) ?_
 rotate_left
 · (clear hP hM; go_simp; first | done | rfl)
 refine reg_value (fun g => by go_simp) ?_ (fun g w' vs hM hE hP => ?_) ?_
 rotate_left
 · (clear hP hM; go_simp; first | done | rfl)
 refine reg_value (fun g => by go_simp) ?_ (fun g w' vs hM hE hP => ?_) ?_
 rotate_left
 · (clear hP hM; go_simp; first | done | rfl)
 refine reg_value (fun g => by go_simp) ?_ (fun g w' vs hM hE hP => ?_) ?_
 rotate_left
 · (clear hP hM; go_simp; first | done | rfl)
 refine reg_value (fun _ => rfl) ?_ (fun g w' vs hM hE hP => ?_) ?_
 rotate_left
 · (clear hP hM; go_simp; first | done | rfl)
 intro g w2 hE2 hF hQ
 simp only [List.drop_succ_cons, List.drop_zero, Act.put, List.setIfInBounds_toArray, List.set_cons_succ, List.set_cons_zero]
 have HR2 := Lib.hid (HR.out.ext hE2)
 obtain ⟨r0, r1, r2⟩ := cs_e3 hE2 ⟨r0, r1, r2⟩
 have HG2 : Hid (w.grownBy w2 (some rb)) := Lib.hid (gr_ext hE2)
 have f1 : w2.frozen? ⟨rb, 1, none⟩ = false := frozenc HR2.out
 have HR3 : Hid (RdB (w2.setCell ⟨rb, 1, none⟩ (.int .i64 ((k : Int) + 1))) rb s (k + 1)) := Lib.hid (by unfold RdB; rw [heap_setCell_same w2 rb 1 _ _ _ HR2.out]; rfl)
 have HG3 : Hid (w.grownBy (w2.setCell ⟨rb, 1, none⟩ (.int .i64 ((k : Int) + 1))) (some rb)) := Lib.hid (gr_trans HG2.out ⟨rfl, rfl, rfl, by rw [World.size_setCell]; exact Nat.le_refl _, fun i _ hn => heap_setCell_other _ _ _ _ (fun e => hn (by rw [e]))⟩)
 have hk1 : IntKind.i64.wrap ((k : Int) + 1) = (k : Int) + 1 := by rw [IntKind.wrap_i64]; omega
 clear hE2 hF hQ
 go_upto_region 5 with fail
 generalize hw3 : World.setCell w2 _ _ = w3 at HR3 HG3 ⊢
 clear hw3 r0 r1 r2 f1
 have r0 : w3.cell? ⟨rb, 0, none⟩ = some (.string s) := by rw [cellc HR3.out]; rfl
 have r1 : w3.cell? ⟨rb, 1, none⟩ = some (.int .i64 ((k : Int) + 1)) := by rw [cellc HR3.out]; rfl
 have hk2 : IntKind.i64.wrap ((k : Int) + 1 - 1) = (k : Int) := by rw [IntKind.wrap_i64]; omega
 have hk3 : IntKind.i64.wrap (k : Int) = (k : Int) := by rw [IntKind.wrap_i64]; omega
 clear hl2 hh2 hl hh hk1
 have HFCT := Lib.hid (And.intro r0 r1)
 refine wp_region_reg 11 false (by kernel_rfl) (by kernel_rfl) ?_
 refine reg_value (fun _ => rfl) ?_ (fun g w' vs hM hE hP => ?_) ?_
 rotate_left
 · (clear hP hM; go_simp; first | done | rfl)
 refine reg_value (fun _ => rfl) ?_ (fun g w' vs hM hE hP => ?_) ?_
 rotate_left
 · (clear hP hM; go_simp; first | done | rfl)
 refine reg_value (fun _ => rfl) ?_ (fun g w' vs hM hE hP => ?_) ?_
 rotate_left
 · (clear hP hM; go_simp; first | done | rfl)
 refine reg_value (fun _ => rfl) ?_ (fun g w' vs hM hE hP => ?_) ?_
 rotate_left
 · (clear hP hM; have ⟨z0, z1⟩ := cs_e2 hE HFCT.out; go_simp; first | done | rfl)
 refine reg_value (fun _ => rfl) ?_ (fun g w' vs hM hE hP => ?_) ?_
 rotate_left
 · (clear hP hM; go_simp; first | done | rfl)
 refine reg_value (fun _ => rfl) ?_ (fun g w' vs hM hE hP => ?_) ?_
 rotate_left
 · (clear hP hM; go_simp; first | done | rfl)
 refine reg_value (fun _ => rfl) ?_ (fun g w' vs hM hE hP => ?_) ?_
 rotate_left
 · (clear hP hM; go_simp; first | done | rfl)
 refine reg_value (fun _ => rfl) ?_ (fun g w' vs hM hE hP => ?_) ?_
 rotate_left
 · (clear hP hM; have ⟨z0, z1⟩ := cs_e2 hE HFCT.out; go_simp; first | done | rfl)
 refine reg_value (fun _ => rfl) ?_ (fun g w' vs hM hE hP => ?_) ?_
 rotate_left
 · (clear hP hM; go_simp; first | done | rfl)
 refine reg_value (fun _ => rfl) ?_ (fun g w' vs hM hE hP => ?_) ?_
 rotate_left
 · (clear hP hM; go_simp; first | done | rfl)
 refine reg_value (fun _ => rfl) ?_ (fun g w' vs hM hE hP => ?_) ?_
 rotate_left
 · (clear hP hM; go_simp; first | done | rfl)
 intro g w4 hE4 hF hQ
 simp only [List.drop_succ_cons, List.drop_zero, Act.put, List.setIfInBounds_toArray, List.set_cons_succ, List.set_cons_zero]
 have HR4 := Lib.hid (HR3.out.ext hE4)
 have HG4 := Lib.hid (gr_trans HG3.out (gr_ext hE4))
 clear hE4 hF hQ
 go_wp2_with fail
 go_ret
 exact ⟨rfl, HR4.out, HG4.out⟩

theorem RdB.set {w : World} {rb k : Nat} {s : ByteArray} (h : RdB w rb s k) (j : Nat) : RdB (w.setCell ⟨rb, 1, none⟩ (.int .i64 j)) rb s j := by
 unfold RdB; rw [heap_setCell_same w rb 1 _ _ _ h]; rfl
theorem gr_set {w : World} {rb o : Nat} {v : Value} : w.grownBy (w.setCell ⟨rb, o, none⟩ v) (some rb) :=
 ⟨rfl, rfl, rfl, by rw [World.size_setCell]; exact Nat.le_refl _, fun i _ hn => heap_setCell_other _ _ _ _ (fun e => hn (by rw [e]))⟩
set_option maxRecDepth 100000 in
set_option maxHeartbeats 8000000 in
theorem rname1_any {w : World} {rb k c : Nat} {s : ByteArray} (h : RdB w rb s k) (hk : k + 1 < s.size) (hs : s.size ≤ 1000) (h1 : s[k].toNat = 1) (hc : s[k + 1].toNat = c) (hc1 : 97 ≤ c) (hc2 : c ≤ 122) :
 Calls Tryz.prog 117 #[.pointer (some ⟨rb, 0, none⟩)] w fun e w' => e = .returned (.string (s.extract (k + 1) (k + 2))) ∧ RdB w' rb s (k + 2) ∧ w.grownBy w' (some rb) := by
 have HN := Lib.hid (next_any (lo := 1) (hi := 24) h (by omega) hs (by omega) (by omega))
 rw [h1] at HN
 have HS := Lib.hid hs
 clear h h1
 go_enter Tryz.func117, Tryz.ntmps117
 go_wp2_with fail
 refine HN.out.mono ?_
 rintro e w1 ⟨rfl, hR1, hG1⟩
 have HR1 := Lib.hid hR1
 have HG1 := Lib.hid hG1
 have r1 : w1.cell? ⟨rb, 1, none⟩ = some (.int .i64 ((k : Int) + 1)) := by rw [cellc hR1]; rfl
 clear hR1 hG1
 go_wp2_with fail
 clear r1
 go_loopw [5, 6, 7, 15] (fun x5 x6 x7 jv wr => ∃ j : Nat, jv = .int .i64 j ∧ j ≤ 1 ∧ Hid (RdB wr rb s (k + 1 + j)) ∧ Hid (w.grownBy wr (some rb))) (fun _ _ _ jv _ => 1 - (intOf jv).toNat)
 case atStart => exact ⟨0, rfl, by omega, HR1, HG1⟩
 case round =>
  obtain ⟨j, rfl, hj, HR, HG⟩ := hrel
  by_cases hj0 : j = 0
  · subst hj0
    have HR : Hid (RdB wr rb s (k + 1)) := HR
    have r0 : wr.cell? ⟨rb, 0, none⟩ = some (.string s) := by rw [cellc HR.out]; rfl
    have r1 : wr.cell? ⟨rb, 1, none⟩ = some (.int .i64 ((k : Int) + 1)) := by rw [cellc HR.out]; rfl
    have r2 : wr.cell? ⟨rb, 2, none⟩ = some (.bool false) := by rw [cellc HR.out]; rfl
    have hki : (k : Int) + 1 < (s.size : Int) := by omega
    have hk0 : (0 : Int) ≤ (k : Int) + 1 := by omega
    go_upto_region 6 with fail
    have HFCT := Lib.hid (And.intro r0 (And.intro r1 r2))
    refine wp_region_reg 16 false (by kernel_rfl) (by kernel_rfl) ?_
    refine reg_value (fun _ => rfl) ?_ (fun g w' vs hM hE hP => ?_) ?_
    rotate_left
    · (clear hP hM; go_simp; first | done | rfl)
    refine reg_value (fun _ => rfl) ?_ (fun g w' vs hM hE hP => ?_) ?_
    rotate_left
    · (clear hP hM; go_simp; first | done | rfl)
    refine reg_value (fun _ => rfl) ?_ (fun g w' vs hM hE hP => ?_) ?_
    rotate_left
    · (clear hP hM; go_simp; first | done | rfl)
    refine reg_value (fun _ => rfl) ?_ (fun g w' vs hM hE hP => ?_) ?_
    rotate_left
    · (clear hP hM; have ⟨z0, z1, z2⟩ := cs_e3 hE HFCT.out; go_simp; first | done | rfl)
    refine reg_value (fun _ => rfl) ?_ (fun g w' vs hM hE hP => ?_) ?_
    rotate_left
    · (clear hP hM; go_simp; first | done | rfl)
    refine reg_value (fun g => by go_simp) ?_ (fun g w' vs hM hE hP => ?_) ?_
    rotate_left
    · (clear hP hM; go_simp; first | done | rfl)
    refine reg_value (fun g => by go_simp) ?_ (fun g w' vs hM hE hP => ?_) ?_
    rotate_left
    · (clear hP hM; go_simp; first | done | rfl)
    refine reg_value (fun g => by go_simp) ?_ (fun g w' vs hM hE hP => ?_) ?_
    rotate_left
    · (clear hP hM; go_simp; first | done | rfl)
    refine reg_value (fun g => by go_simp) ?_ (fun g w' vs hM hE hP => ?_) ?_
    rotate_left
    · (clear hP hM; have ⟨z0, z1, z2⟩ := cs_e3 hE HFCT.out; go_simp; first | done | rfl)
    refine reg_value (fun g => by go_simp) ?_ (fun g w' vs hM hE hP => ?_) ?_
    rotate_left
    · (clear hP hM; go_simp; first | done | rfl)
    refine reg_value (fun g => by go_simp) ?_ (fun g w' vs hM hE hP => ?_) ?_
    rotate_left
    · (clear hP hM; go_simp; first | done | rfl)
    refine reg_value (fun g => by go_simp) ?_ (fun g w' vs hM hE hP => ?_) ?_
    rotate_left
    · (clear hP hM; go_simp; first | done | rfl)
    refine reg_value (fun g => by go_simp) ?_ (fun g w' vs hM hE hP => ?_) ?_
    rotate_left
    · (clear hP hM; have ⟨z0, z1, z2⟩ := cs_e3 hE HFCT.out; go_simp; first | done | rfl)
    refine reg_value (fun g => by go_simp) ?_ (fun g w' vs hM hE hP => ?_) ?_
    rotate_left
    · (clear hP hM; go_simp; first | done | rfl)
    refine reg_value (fun g => by go_simp) ?_ (fun g w' vs hM hE hP => ?_) ?_
    rotate_left
    · (clear hP hM; go_simp; first | done | rfl)
    refine reg_value (fun _ => rfl) ?_ (fun g w' vs hM hE hP => ?_) ?_
    rotate_left
    · (clear hP hM; go_simp; first | done | rfl)
    intro g w2 hE2 hF hQ
    simp only [List.drop_succ_cons, List.drop_zero, Act.put, List.setIfInBounds_toArray, List.set_cons_succ, List.set_cons_zero]
    have HR2 := Lib.hid (HR.out.ext hE2)
    obtain ⟨r0, r1, r2⟩ := cs_e3 hE2 ⟨r0, r1, r2⟩
    have HG2 := Lib.hid (gr_trans HG.out (gr_ext hE2))
    clear hE2 hF hQ
    go_upto_region 9 with fail
    have HFCT := Lib.hid (And.intro r0 r1)
    refine wp_region_reg 9 false (by kernel_rfl) (by kernel_rfl) ?_
    refine reg_value (fun _ => rfl) ?_ (fun g w' vs hM hE hP => ?_) ?_
    rotate_left
    · (clear hP hM; go_simp; first | done | rfl)
    refine reg_value (fun _ => rfl) ?_ (fun g w' vs hM hE hP => ?_) ?_
    rotate_left
    · (clear hP hM; go_simp; first | done | rfl)
    refine reg_value (fun _ => rfl) ?_ (fun g w' vs hM hE hP => ?_) ?_
    rotate_left
    · (clear hP hM; go_simp; first | done | rfl)
    refine reg_value (fun _ => rfl) ?_ (fun g w' vs hM hE hP => ?_) ?_
    rotate_left
    · (clear hP hM; have ⟨z0, z1⟩ := cs_e2 hE HFCT.out; go_simp; first | done | rfl)
    refine reg_value (fun _ => rfl) ?_ (fun g w' vs hM hE hP => ?_) ?_
    rotate_left
    · (clear hP hM; go_simp; first | done | rfl)
    refine reg_value (fun _ => rfl) ?_ (fun g w' vs hM hE hP => ?_) ?_
    rotate_left
    · (clear hP hM; go_simp; first | done | rfl)
    refine reg_value (fun _ => rfl) ?_ (fun g w' vs hM hE hP => ?_) ?_
    rotate_left
    · (clear hP hM; go_simp; first | done | rfl)
    refine reg_value (fun _ => rfl) ?_ (fun g w' vs hM hE hP => ?_) ?_
    rotate_left
    · (clear hP hM; have ⟨z0, z1⟩ := cs_e2 hE HFCT.out; go_simp; first | done | rfl)
    refine reg_value (fun _ => rfl) ?_ (fun g w' vs hM hE hP => ?_) ?_
    rotate_left
    · (clear hP hM; go_simp; first | done | rfl)
    intro g w3 hE3 hF hQ
    simp only [List.drop_succ_cons, List.drop_zero, Act.put, List.setIfInBounds_toArray, List.set_cons_succ, List.set_cons_zero]
    have HR3 := Lib.hid (HR2.out.ext hE3)
    obtain ⟨r0, r1, r2⟩ := cs_e3 hE3 ⟨r0, r1, r2⟩
    have HG3 := Lib.hid (gr_trans HG2.out (gr_ext hE3))
    clear hE3 hF hQ
    have f1 : w3.frozen? ⟨rb, 1, none⟩ = false := frozenc HR3.out
    have e2 : ((k + 2 : Nat) : Int) = (k : Int) + 1 + 1 := by omega
    have HR4 : Hid (RdB (w3.setCell ⟨rb, 1, none⟩ (.int .i64 ((k : Int) + 1 + 1))) rb s (k + 2)) := Lib.hid (by have := HR3.out.set (k + 2); rwa [e2] at this)
    have HG4 : Hid (w.grownBy (w3.setCell ⟨rb, 1, none⟩ (.int .i64 ((k : Int) + 1 + 1))) (some rb)) := Lib.hid (gr_trans HG3.out gr_set)
    have hk2 : IntKind.i64.wrap ((k : Int) + 1 + 1) = (k : Int) + 1 + 1 := by rw [IntKind.wrap_i64]; omega
    have hcl : (97 : Int) ≤ (c : Int) := by omega
    have hcu : (c : Int) ≤ 122 := by omega
    clear e2
    go_wp2_with fail
    go_roundw
    case rel => exact ⟨1, by go_num, by omega, HR4, HG4⟩
    case measure => simp [intOf]
  · have HJ1 : Hid (j = 1) := Lib.hid (by omega)
    have hji : ¬ (j : Int) < 1 := by omega
    have HR : Hid (RdB wr rb s (k + 2)) := Lib.hid (by have := HR.out; rwa [HJ1.out] at this)
    have r0 : wr.cell? ⟨rb, 0, none⟩ = some (.string s) := by rw [cellc HR.out]; rfl
    have r1 : wr.cell? ⟨rb, 1, none⟩ = some (.int .i64 ((k : Int) + 2)) := by rw [cellc HR.out]; rfl
    have hkk : (k : Int) + 1 ≤ (k : Int) + 2 := by omega
    have hk2 : (k : Int) + 2 ≤ (s.size : Int) := by omega
    have hk0 : (0 : Int) ≤ (k : Int) + 1 := by omega
    clear hj0
    go_upto_region 16 with fail
    have HFCT := Lib.hid (And.intro r0 r1)
    refine wp_region_reg 10 false (by kernel_rfl) (by kernel_rfl) ?_
    refine reg_value (fun _ => rfl) ?_ (fun g w' vs hM hE hP => ?_) ?_
    rotate_left
    · (clear hP hM; go_simp; first | done | rfl)
    refine reg_value (fun _ => rfl) ?_ (fun g w' vs hM hE hP => ?_) ?_
    rotate_left
    · (clear hP hM; go_simp; first | done | rfl)
    refine reg_value (fun _ => rfl) ?_ (fun g w' vs hM hE hP => ?_) ?_
    rotate_left
    · (clear hP hM; go_simp; first | done | rfl)
    refine reg_value (fun _ => rfl) ?_ (fun g w' vs hM hE hP => ?_) ?_
    rotate_left
    · (clear hP hM; have ⟨z0, z1⟩ := cs_e2 hE HFCT.out; go_simp; first | done | rfl)
    refine reg_value (fun _ => rfl) ?_ (fun g w' vs hM hE hP => ?_) ?_
    rotate_left
    · (clear hP hM; go_simp; first | done | rfl)
    refine reg_value (fun _ => rfl) ?_ (fun g w' vs hM hE hP => ?_) ?_
    rotate_left
    · (clear hP hM; go_simp; first | done | rfl)
    refine reg_value (fun _ => rfl) ?_ (fun g w' vs hM hE hP => ?_) ?_
    rotate_left
    · (clear hP hM; go_simp; first | done | rfl)
    refine reg_value (fun _ => rfl) ?_ (fun g w' vs hM hE hP => ?_) ?_
    rotate_left
    · (clear hP hM; go_simp; first | done | rfl)
    refine reg_value (fun _ => rfl) ?_ (fun g w' vs hM hE hP => ?_) ?_
    rotate_left
    · (clear hP hM; have ⟨z0, z1⟩ := cs_e2 hE HFCT.out; go_simp; first | done | rfl)
    refine reg_value (fun _ => rfl) ?_ (fun g w' vs hM hE hP => ?_) ?_
    rotate_left
    · (clear hP hM; go_simp; first | done | rfl)
    intro g w2 hE2 hF hQ
    simp only [List.drop_succ_cons, List.drop_zero, Act.put, List.setIfInBounds_toArray, List.set_cons_succ, List.set_cons_zero]
    have HR2 := Lib.hid (HR.out.ext hE2)
    have HG2 := Lib.hid (gr_trans HG.out (gr_ext hE2))
    clear hE2 hF hQ
    go_wp2_with fail
    go_ret
    exact ⟨rfl, HR2.out, HG2.out⟩

theorem sizNd : (Tryz.prog.info? 173).map (·.size) = some 5 := by kernel_rfl
theorem ret_nd {F : Func} {p g : Nat} {tmps : Array Value} {w : World} {cs : Array Value} {R : Ending → World → Prop} (hr : F.results = #[.cell p 173]) (hp : tmps.getD p undef = .pointer (some ⟨g, 0, none⟩)) (hg : w.heap[g]? = some (.cells cs 173)) (hs : cs.size = 5) (h : R (.returned (.agg cs)) w) :
 bodyPost Tryz.prog F R .ret ⟨tmps, []⟩ w :=
 bodyPost_ret (results_cell_row hr tmps w g _ cs _ _ hp hg Tryz.underlying173 rfl (by rw [hs]; exact sizNd)) rfl h
theorem gr_ne {a b : World} {rb g : Nat} {o : Obj} (h : a.grownBy b (some rb)) (hg : a.heap[g]? = some o) (hne : g ≠ rb) : b.heap[g]? = some o :=
 (h.block g (Array.getElem?_eq_some_iff.1 hg).1 (fun e => hne (by cases e; rfl))).trans hg
theorem gr_set2 {a b : World} {rx o : Nat} {v : Value} {r : Option Nat} (h : a.grownBy b r) (hx : a.heap.size ≤ rx) : a.grownBy (b.setCell ⟨rx, o, none⟩ v) r :=
 ⟨h.os, h.tape, h.output, by rw [World.size_setCell]; exact h.size, fun i hi hn => (heap_setCell_other _ _ _ _ (by show i ≠ rx; omega)).trans (h.block i hi hn)⟩
theorem gr_box {a w b : World} {rb rx : Nat} {d0 d1 d2 d3 d4 : Value} (hE : Ext a w) (h : w.grownBy b (some rb)) (hx : a.heap.size ≤ rx) :
 a.grownBy (((((b.setCell ⟨rx, 0, none⟩ d0).setCell ⟨rx, 1, none⟩ d1).setCell ⟨rx, 2, none⟩ d2).setCell ⟨rx, 3, none⟩ d3).setCell ⟨rx, 4, none⟩ d4) (some rb) :=
 gr_set2 (gr_set2 (gr_set2 (gr_set2 (gr_set2 (gr_trans (gr_ext hE) h) hx) hx) hx) hx) hx
theorem set5n_box {w : World} {g T : Nat} {a b c d e : Value} (a' b' c' d' e' : Value) (h : w.heap[g]? = some (.cells #[a, b, c, d, e] T)) :
 (((((w.setCell ⟨g, 0, none⟩ a').setCell ⟨g, 1, none⟩ b').setCell ⟨g, 2, none⟩ c').setCell ⟨g, 3, none⟩ d').setCell ⟨g, 4, none⟩ e').heap[g]? = some (.cells #[a', b', c', d', e'] T) := by
 have h1 := heap_setCell_same w g 0 _ _ a' h
 have h5 := heap_setCell_same _ g 1 _ _ b' h1
 have h6 := heap_setCell_same _ g 2 _ _ c' h5
 have h7 := heap_setCell_same _ g 3 _ _ d' h6
 have h8 := heap_setCell_same _ g 4 _ _ e' h7
 rw [h8]; simp
set_option maxRecDepth 100000 in
set_option maxHeartbeats 8000000 in
theorem headA_any {w : World} {rb k c so : Nat} {s nm : ByteArray} (h : RdB w rb s k) (hk : k + 2 < s.size) (hs : s.size ≤ 1000) (hso : s[k].toNat = so) (hso5 : so ≤ 5) (h1 : s[k + 1].toNat = 1) (hc : s[k + 2].toNat = c) (hc1 : 97 ≤ c) (hc2 : c ≤ 122) (hnm : nm = s.extract (k + 2) (k + 3)) :
 Calls Tryz.prog 91 #[.pointer (some ⟨rb, 0, none⟩)] w fun e w' => e = .returned (.agg #[.int .i64 2, .string nm, .int .i64 so, .slice none 0 0, .int .i64 0]) ∧ RdB w' rb s (k + 3) ∧ w.grownBy w' (some rb) := by
 obtain ⟨rx, w1, hrx, hw1, HX, hE1⟩ := box_new w (.cells #[.int .i64 0, .string ⟨#[]⟩, .int .i64 0, .slice none 0 0, .int .i64 0] 173)
 have HR := Lib.hid (h.ext hE1)
 have HXS : Hid (w.heap.size ≤ rx ∧ rx ≠ rb) := Lib.hid ⟨by rw [hrx]; exact Nat.le_refl _, by have := h.lt; omega⟩
 have HE1 := Lib.hid hE1
 have r0 : w1.cell? ⟨rb, 0, none⟩ = some (.string s) := by rw [cellc HR.out]; rfl
 have r1 : w1.cell? ⟨rb, 1, none⟩ = some (.int .i64 k) := by rw [cellc HR.out]; rfl
 have hki : (k : Int) < (s.size : Int) := by omega
 have hsi : (so : Int) ≤ 5 := by omega
 have HNX := Lib.hid (fun (w' : World) (h' : RdB w' rb s k) => next_any (lo := 0) (hi := 5) h' (by omega) hs (by omega) (by omega))
 rw [hso] at HNX
 have HNM := Lib.hid (fun (w' : World) (h' : RdB w' rb s (k + 1)) => rname1_any h' (by omega) hs h1 hc hc1 hc2)
 rw [show k + 1 + 1 = k + 2 from rfl, show k + 1 + 2 = k + 3 from rfl, ← hnm] at HNM
 clear h hE1 h1 hc hc1 hc2 hnm
 go_enter Tryz.func91, Tryz.ntmps91
 go_upto_region 1 with fail
 rw [← hw1, ← hrx]
 clear hw1 hrx
 have HFCT := Lib.hid (And.intro r0 r1)
 refine wp_region_reg 22 false (by kernel_rfl) (by kernel_rfl) ?_
 refine reg_value (fun _ => rfl) ?_ (fun g w' vs hM hE hP => ?_) ?_
 rotate_left
 · (clear hP hM; go_simp; first | done | rfl)
 refine reg_value (fun _ => rfl) ?_ (fun g w' vs hM hE hP => ?_) ?_
 rotate_left
 · (clear hP hM; go_simp; first | done | rfl)
 refine reg_value (fun _ => rfl) ?_ (fun g w' vs hM hE hP => ?_) ?_
 rotate_left
 · (clear hP hM; go_simp; first | done | rfl)
 refine reg_value (fun _ => rfl) ?_ (fun g w' vs hM hE hP => ?_) ?_
 rotate_left
 · (clear hP hM; have ⟨z0, z1⟩ := cs_e2 hE HFCT.out; go_simp; first | done | rfl)
 refine reg_value (fun _ => rfl) ?_ (fun g w' vs hM hE hP => ?_) ?_
 rotate_left
 · (clear hP hM; go_simp; first | done | rfl)
 refine reg_value (fun _ => rfl) ?_ (fun g w' vs hM hE hP => ?_) ?_
 rotate_left
 · (clear hP hM; go_simp; first | done | rfl)
 refine reg_value (fun _ => rfl) ?_ (fun g w' vs hM hE hP => ?_) ?_
 rotate_left
 · (clear hP hM; go_simp; first | done | rfl)
 refine reg_value (fun _ => rfl) ?_ (fun g w' vs hM hE hP => ?_) ?_
 rotate_left
 · (clear hP hM; have ⟨z0, z1⟩ := cs_e2 hE HFCT.out; go_simp; first | done | rfl)
 refine reg_value (fun _ => rfl) ?_ (fun g w' vs hM hE hP => ?_) ?_
 rotate_left
 · (clear hP hM; go_simp; first | done | rfl)
 refine reg_value (fun _ => rfl) ?_ (fun g w' vs hM hE hP => ?_) ?_
 rotate_left
 · (clear hP hM; go_simp; first | done | rfl)
 refine reg_value (fun _ => rfl) ?_ (fun g w' vs hM hE hP => ?_) ?_
 rotate_left
 · (clear hP hM; go_simp; first | done | rfl)
 refine reg_value (fun g => by go_simp) ?_ (fun g w' vs hM hE hP => ?_) ?_
 rotate_left
 · (clear hP hM; go_simp; first | done | rfl)
 refine reg_value (fun g => by go_simp) ?_ (fun g w' vs hM hE hP => ?_) ?_
 rotate_left
 · (clear hP hM; go_simp; first | done | rfl)
 refine reg_value (fun g => by go_simp) ?_ (fun g w' vs hM hE hP => ?_) ?_
 rotate_left
 · (clear hP hM; go_simp; first | done | rfl)
 refine reg_value (fun g => by go_simp) ?_ (fun g w' vs hM hE hP => ?_) ?_
 rotate_left
 · (clear hP hM; have ⟨z0, z1⟩ := cs_e2 hE HFCT.out; go_simp; first | done | rfl)
 refine reg_value (fun g => by go_simp) ?_ (fun g w' vs hM hE hP => ?_) ?_
 rotate_left
 · (clear hP hM; go_simp; first | done | rfl)
 refine reg_value (fun g => by go_simp) ?_ (fun g w' vs hM hE hP => ?_) ?_
 rotate_left
 · (clear hP hM; go_simp; first | done | rfl)
 refine reg_value (fun g => by go_simp) ?_ (fun g w' vs hM hE hP => ?_) ?_
 rotate_left
 · (clear hP hM; go_simp; first | done | rfl)
 refine reg_value (fun g => by go_simp) ?_ (fun g w' vs hM hE hP => ?_) ?_
 rotate_left
 · (clear hP hM; have ⟨z0, z1⟩ := cs_e2 hE HFCT.out; go_simp; first | done | rfl)
 refine reg_value (fun g => by go_simp) ?_ (fun g w' vs hM hE hP => ?_) ?_
 rotate_left
 · (clear hP hM; go_simp; first | done | rfl)
 refine reg_value (fun g => by go_simp) ?_ (fun g w' vs hM hE hP => ?_) ?_
 rotate_left
 · (clear hP hM; go_simp; first | done | rfl)
 refine reg_value (fun _ => rfl) ?_ (fun g w' vs hM hE hP => ?_) ?_
 rotate_left
 · (clear hP hM; go_simp; first | done | rfl)
 intro g w2 hE2 hF hQ
 simp only [List.drop_succ_cons, List.drop_zero, Act.put, List.setIfInBounds_toArray, List.set_cons_succ, List.set_cons_zero]
 have HR2 := Lib.hid (HR.out.ext hE2)
 have HX2 := Lib.hid (hs_ext hE2 HX.out)
 have HE2 := Lib.hid (HE1.out.trans hE2)
 have HN2 := Lib.hid (HNX.out w2 HR2.out)
 clear hE2 hF hQ r0 r1
 go_wp2_with fail
 refine HN2.out.mono ?_
 rintro e w3 ⟨rfl, hR3, hG3⟩
 have HX3 := Lib.hid (gr_ne hG3 HX2.out HXS.out.2)
 have HN3 := Lib.hid (HNM.out w3 hR3)
 have HG3 := Lib.hid hG3
 clear hR3 hG3
 go_wp2_with fail
 refine HN3.out.mono ?_
 rintro e w4 ⟨rfl, hR4, hG4⟩
 have hx4 := gr_ne hG4 HX3.out HXS.out.2
 have x0 : w4.cell? ⟨rx, 0, none⟩ = some (.int .i64 0) := by rw [cellc hx4]; rfl
 have x1 : w4.cell? ⟨rx, 1, none⟩ = some (.string ⟨#[]⟩) := by rw [cellc hx4]; rfl
 have x2 : w4.cell? ⟨rx, 2, none⟩ = some (.int .i64 0) := by rw [cellc hx4]; rfl
 have x3 : w4.cell? ⟨rx, 3, none⟩ = some (.slice none 0 0) := by rw [cellc hx4]; rfl
 have x4 : w4.cell? ⟨rx, 4, none⟩ = some (.int .i64 0) := by rw [cellc hx4]; rfl
 have f0 : w4.frozen? ⟨rx, 0, none⟩ = false := frozenc hx4
 have f1 : w4.frozen? ⟨rx, 1, none⟩ = false := frozenc hx4
 have f2 : w4.frozen? ⟨rx, 2, none⟩ = false := frozenc hx4
 have f3 : w4.frozen? ⟨rx, 3, none⟩ = false := frozenc hx4
 have f4 : w4.frozen? ⟨rx, 4, none⟩ = false := frozenc hx4
 have HX4 := Lib.hid hx4
 have HR4 := Lib.hid hR4
 have HG4 := Lib.hid (gr_trans HG3.out hG4)
 clear hx4 hR4 hG4
 go_wp2_with fail
 refine ret_nd (g := rx) rfl rfl (set5n_box _ _ _ _ _ HX4.out) rfl ⟨rfl, ?_, gr_box HE2.out HG4.out HXS.out.1⟩
 have hne : rb ≠ rx := fun e => HXS.out.2 e.symm
 unfold RdB
 rw [heap_setCell_other _ _ _ _ hne, heap_setCell_other _ _ _ _ hne, heap_setCell_other _ _ _ _ hne, heap_setCell_other _ _ _ _ hne, heap_setCell_other _ _ _ _ hne]
 exact HR4.out
set_option maxRecDepth 100000 in
set_option maxHeartbeats 8000000 in
theorem headP_any {w : World} {rb k : Nat} {s : ByteArray} (h : RdB w rb s k) (hk : k < s.size) (hs : s.size ≤ 1000) (hso : s[k].toNat = 16) :
 Calls Tryz.prog 91 #[.pointer (some ⟨rb, 0, none⟩)] w fun e w' => e = .returned (.agg #[.int .i64 3, .string nPair, .int .i64 0, .slice none 0 0, .int .i64 2]) ∧ RdB w' rb s (k + 1) ∧ w.grownBy w' (some rb) := by
 obtain ⟨rx, w1, hrx, hw1, HX, hE1⟩ := box_new w (.cells #[.int .i64 0, .string ⟨#[]⟩, .int .i64 0, .slice none 0 0, .int .i64 0] 173)
 have HR := Lib.hid (h.ext hE1)
 have HXS : Hid (w.heap.size ≤ rx ∧ rx ≠ rb) := Lib.hid ⟨by rw [hrx]; exact Nat.le_refl _, by have := h.lt; omega⟩
 have HE1 := Lib.hid hE1
 have r0 : w1.cell? ⟨rb, 0, none⟩ = some (.string s) := by rw [cellc HR.out]; rfl
 have r1 : w1.cell? ⟨rb, 1, none⟩ = some (.int .i64 k) := by rw [cellc HR.out]; rfl
 have hki : (k : Int) < (s.size : Int) := by omega
 have HNX := Lib.hid (fun (w' : World) (h' : RdB w' rb s k) => next_any (lo := 16) (hi := 30) h' (by omega) hs (by omega) (by omega))
 rw [hso] at HNX
 have HSY := Lib.hid (fun (w' : World) => symbolsE_any (w := w'))
 have HCT := Lib.hid (fun (w' : World) => counted_any (w := w') (n := nPair))
 clear h hE1
 go_enter Tryz.func91, Tryz.ntmps91
 go_upto_region 1 with fail
 rw [← hw1, ← hrx]
 clear hw1 hrx
 have HFCT := Lib.hid (And.intro r0 r1)
 refine wp_region_reg 22 false (by kernel_rfl) (by kernel_rfl) ?_
 refine reg_value (fun _ => rfl) ?_ (fun g w' vs hM hE hP => ?_) ?_
 rotate_left
 · (clear hP hM; go_simp; first | done | rfl)
 refine reg_value (fun _ => rfl) ?_ (fun g w' vs hM hE hP => ?_) ?_
 rotate_left
 · (clear hP hM; go_simp; first | done | rfl)
 refine reg_value (fun _ => rfl) ?_ (fun g w' vs hM hE hP => ?_) ?_
 rotate_left
 · (clear hP hM; go_simp; first | done | rfl)
 refine reg_value (fun _ => rfl) ?_ (fun g w' vs hM hE hP => ?_) ?_
 rotate_left
 · (clear hP hM; have ⟨z0, z1⟩ := cs_e2 hE HFCT.out; go_simp; first | done | rfl)
 refine reg_value (fun _ => rfl) ?_ (fun g w' vs hM hE hP => ?_) ?_
 rotate_left
 · (clear hP hM; go_simp; first | done | rfl)
 refine reg_value (fun _ => rfl) ?_ (fun g w' vs hM hE hP => ?_) ?_
 rotate_left
 · (clear hP hM; go_simp; first | done | rfl)
 refine reg_value (fun _ => rfl) ?_ (fun g w' vs hM hE hP => ?_) ?_
 rotate_left
 · (clear hP hM; go_simp; first | done | rfl)
 refine reg_value (fun _ => rfl) ?_ (fun g w' vs hM hE hP => ?_) ?_
 rotate_left
 · (clear hP hM; have ⟨z0, z1⟩ := cs_e2 hE HFCT.out; go_simp; first | done | rfl)
 refine reg_value (fun _ => rfl) ?_ (fun g w' vs hM hE hP => ?_) ?_
 rotate_left
 · (clear hP hM; go_simp; first | done | rfl)
 refine reg_value (fun _ => rfl) ?_ (fun g w' vs hM hE hP => ?_) ?_
 rotate_left
 · (clear hP hM; go_simp; first | done | rfl)
 refine reg_value (fun _ => rfl) ?_ (fun g w' vs hM hE hP => ?_) ?_
 rotate_left
 · (clear hP hM; go_simp; first | done | rfl)
 refine reg_value (fun g => by go_simp) ?_ (fun g w' vs hM hE hP => ?_) ?_
 rotate_left
 · (clear hP hM; go_simp; first | done | rfl)
 refine reg_value (fun g => by go_simp) ?_ (fun g w' vs hM hE hP => ?_) ?_
 rotate_left
 · (clear hP hM; go_simp; first | done | rfl)
 refine reg_value (fun g => by go_simp) ?_ (fun g w' vs hM hE hP => ?_) ?_
 rotate_left
 · (clear hP hM; go_simp; first | done | rfl)
 refine reg_value (fun g => by go_simp) ?_ (fun g w' vs hM hE hP => ?_) ?_
 rotate_left
 · (clear hP hM; have ⟨z0, z1⟩ := cs_e2 hE HFCT.out; go_simp; first | done | rfl)
 refine reg_value (fun g => by go_simp) ?_ (fun g w' vs hM hE hP => ?_) ?_
 rotate_left
 · (clear hP hM; go_simp; first | done | rfl)
 refine reg_value (fun g => by go_simp) ?_ (fun g w' vs hM hE hP => ?_) ?_
 rotate_left
 · (clear hP hM; go_simp; first | done | rfl)
 refine reg_value (fun g => by go_simp) ?_ (fun g w' vs hM hE hP => ?_) ?_
 rotate_left
 · (clear hP hM; go_simp; first | done | rfl)
 refine reg_value (fun g => by go_simp) ?_ (fun g w' vs hM hE hP => ?_) ?_
 rotate_left
 · (clear hP hM; have ⟨z0, z1⟩ := cs_e2 hE HFCT.out; go_simp; first | done | rfl)
 refine reg_value (fun g => by go_simp) ?_ (fun g w' vs hM hE hP => ?_) ?_
 rotate_left
 · (clear hP hM; go_simp; first | done | rfl)
 refine reg_value (fun g => by go_simp) ?_ (fun g w' vs hM hE hP => ?_) ?_
 rotate_left
 · (clear hP hM; go_simp; first | done | rfl)
 refine reg_value (fun _ => rfl) ?_ (fun g w' vs hM hE hP => ?_) ?_
 rotate_left
 · (clear hP hM; go_simp; first | done | rfl)
 intro g w2 hE2 hF hQ
 simp only [List.drop_succ_cons, List.drop_zero, Act.put, List.setIfInBounds_toArray, List.set_cons_succ, List.set_cons_zero]
 have HR2 := Lib.hid (HR.out.ext hE2)
 have HX2 := Lib.hid (hs_ext hE2 HX.out)
 have HE2 := Lib.hid (HE1.out.trans hE2)
 clear hE2 hF hQ r0 r1
 go_wp2_with fail
 refine (HSY.out _).mono ?_
 rintro e w3 ⟨sb, rfl, hE3, s0, s1, s2⟩
 have HE3 := Lib.hid (HE2.out.trans hE3)
 have HR3 := Lib.hid (HR2.out.ext hE3)
 have HX3 := Lib.hid (hs_ext hE3 HX2.out)
 clear hE3
 go_wp2_with fail
 refine (HSY.out _).mono ?_
 rintro e w4 ⟨sb2, rfl, hE4, -, -, -⟩
 have HE4 := Lib.hid (HE3.out.trans hE4)
 have HR4 := Lib.hid (HR3.out.ext hE4)
 have HX4 := Lib.hid (hs_ext hE4 HX3.out)
 have HN4 := Lib.hid (HNX.out w4 HR4.out)
 obtain ⟨s0, s1, s2⟩ := cs_e3 hE4 ⟨s0, s1, s2⟩
 clear hE4
 go_wp2_with fail
 refine HN4.out.mono ?_
 rintro e w5 ⟨rfl, hR5, hG5⟩
 have hsb : ∀ b' : Nat, w4.cell? ⟨b', 2, none⟩ = some (.int .i64 2) → (some b' : Option Nat) ≠ some rb := fun b' hb e => by
  cases e
  have h2 : w4.cell? ⟨rb, 2, none⟩ = some (.bool false) := by rw [cellc HR4.out]; rfl
  rw [hb] at h2
  cases h2
 have s0 := hG5.cell s0 (hsb _ s2)
 have s1 := hG5.cell s1 (hsb _ s2)
 have s2 := hG5.cell s2 (hsb _ s2)
 have HX5 := Lib.hid (gr_ne hG5 HX4.out HXS.out.2)
 have HR5 := Lib.hid hR5
 have HG5 := Lib.hid hG5
 obtain ⟨yb, w6, hyb, hw6, HY, hE6⟩ := box_new w5 (.cells #[.string nPair, .int .i64 2, .int .i64 2] 169)
 have y0 : w6.cell? ⟨yb, 0, none⟩ = some (.string nPair) := by rw [cellc HY.out]; rfl
 have y1 : w6.cell? ⟨yb, 1, none⟩ = some (.int .i64 2) := by rw [cellc HY.out]; rfl
 have y2 : w6.cell? ⟨yb, 2, none⟩ = some (.int .i64 2) := by rw [cellc HY.out]; rfl
 have HX6 := Lib.hid (hs_ext hE6 HX5.out)
 have HR6 := Lib.hid (HR5.out.ext hE6)
 have HG6 := Lib.hid (gr_trans HG5.out (gr_ext hE6))
 clear hR5 hG5 hE6 hsb
 go_upto_region 5 with fail
 rw [← hw6, ← hyb]
 clear hw6 hyb s0 s1 s2
 go_wp2_with fail
 refine (HCT.out _).mono ?_
 rintro e w7 ⟨rfl, hE7⟩
 obtain ⟨y0, y1, y2⟩ := cs_e3 hE7 ⟨y0, y1, y2⟩
 have hx7 := hs_ext hE7 HX6.out
 have HR7 := Lib.hid (HR6.out.ext hE7)
 have HG7 := Lib.hid (gr_trans HG6.out (gr_ext hE7))
 have x0 : w7.cell? ⟨rx, 0, none⟩ = some (.int .i64 0) := by rw [cellc hx7]; rfl
 have x1 : w7.cell? ⟨rx, 1, none⟩ = some (.string ⟨#[]⟩) := by rw [cellc hx7]; rfl
 have x2 : w7.cell? ⟨rx, 2, none⟩ = some (.int .i64 0) := by rw [cellc hx7]; rfl
 have x3 : w7.cell? ⟨rx, 3, none⟩ = some (.slice none 0 0) := by rw [cellc hx7]; rfl
 have x4 : w7.cell? ⟨rx, 4, none⟩ = some (.int .i64 0) := by rw [cellc hx7]; rfl
 have f0 : w7.frozen? ⟨rx, 0, none⟩ = false := frozenc hx7
 have f1 : w7.frozen? ⟨rx, 1, none⟩ = false := frozenc hx7
 have f2 : w7.frozen? ⟨rx, 2, none⟩ = false := frozenc hx7
 have f3 : w7.frozen? ⟨rx, 3, none⟩ = false := frozenc hx7
 have f4 : w7.frozen? ⟨rx, 4, none⟩ = false := frozenc hx7
 have HX7 := Lib.hid hx7
 clear hx7 hE7
 go_wp2_with fail
 refine ret_nd (g := rx) rfl rfl (set5n_box _ _ _ _ _ HX7.out) rfl ⟨rfl, ?_, gr_box HE4.out HG7.out HXS.out.1⟩
 have hne : rb ≠ rx := fun e => HXS.out.2 e.symm
 unfold RdB
 rw [heap_setCell_other _ _ _ _ hne, heap_setCell_other _ _ _ _ hne, heap_setCell_other _ _ _ _ hne, heap_setCell_other _ _ _ _ hne, heap_setCell_other _ _ _ _ hne]
 exact HR7.out

theorem row_set {w : World} {base e size n cap g k : Nat} {xs : List Value} {u : Value} (h : w.ownsRow base e size (.slice (some ⟨g, 0, none⟩) n cap) n xs) (hk : k < n * size) :
 (w.setCell ⟨g, k, none⟩ u).ownsRow base e size (.slice (some ⟨g, 0, none⟩) n cap) n (xs.set k u) := by
 obtain ⟨h0, h1⟩ := h
 refine ⟨by rw [List.length_set]; exact h0, ?_⟩
 rcases h1 with ⟨h1, -⟩ | ⟨g', cap', cur, h1, h2, h3, h4, h5, h6, h7⟩
 · cases h1
 · cases h1
   refine .inr ⟨g, cap, cur.setIfInBounds k u, rfl, h2, ?_, h4, h5, by rw [Array.size_setIfInBounds]; exact h6, ?_⟩
   · rw [heap_setCell_same w g k _ _ u h3]
   · rw [Array.toList_setIfInBounds, List.take_set, h7]
theorem row_take {w : World} {base e size n m cap g : Nat} {xs : List Value} (h : w.ownsRow base e size (.slice (some ⟨g, 0, none⟩) n cap) n xs) (hm : m ≤ n) :
 w.ownsRow base e size (.slice (some ⟨g, 0, none⟩) m cap) m (xs.take (m * size)) := by
 obtain ⟨h0, h1⟩ := h
 have hle : m * size ≤ n * size := Nat.mul_le_mul_right _ hm
 refine ⟨by rw [List.length_take, h0]; exact Nat.min_eq_left hle, ?_⟩
 rcases h1 with ⟨h1, -⟩ | ⟨g', cap', cur, h1, h2, h3, h4, h5, h6, h7⟩
 · cases h1
 · cases h1
   refine .inr ⟨g, cap, cur, rfl, h2, h3, Nat.le_trans hm h4, h5, h6, ?_⟩
   rw [← h7, List.take_take, Nat.min_eq_left hle]
theorem row_at {w : World} {base e size n : Nat} {v : Value} {xs : List Value} (h : w.ownsRow base e size v n xs) (hn : 0 < n) :
 ∃ g cap cur, v = .slice (some ⟨g, 0, none⟩) n cap ∧ base ≤ g ∧ n ≤ cap ∧ cap ≤ maxLen ∧ w.heap[g]? = some (.cells cur e) ∧ ∀ (k : Nat) u, xs[k]? = some u → w.cell? ⟨g, k, none⟩ = some u := by
 obtain ⟨h0, h1⟩ := h
 rcases h1 with ⟨-, h1⟩ | ⟨g, cap, cur, h1, h2, h3, h4, h5, h6, h7⟩
 · omega
 · refine ⟨g, cap, cur, h1, h2, h4, h5, h3, fun k u hu => ?_⟩
   rw [cellc h3]
   have hk := (List.getElem?_eq_some_iff.1 hu).1
   rw [h0] at hk
   rw [← h7, List.getElem?_take] at hu
   rw [if_pos hk] at hu
   simpa using hu

/-- where the reader stands, what is left of the pair, the atom on the stack: in state m -/
def posN (m : Nat) : Nat := if m = 0 then 1 else if m ≤ 2 then 4 else 7
def leftN (m : Nat) : Int := if m = 0 then 2 else if m ≤ 2 then 1 else 0
def secN (m : Nat) : List Value := if m = 1 then [.int .i64 2, .string ⟨#[97]⟩, .int .i64 1, .slice none 0 0, .int .i64 0] else if m = 3 then [.int .i64 2, .string ⟨#[110]⟩, .int .i64 2, .slice none 0 0, .int .i64 0] else []
structure NdI (w1 wr : World) (rb base : Nat) (v : Value) (m : Nat) : Prop where
 rd : RdB wr rb bsP (posN m)
 gr : w1.grownBy wr (some rb)
 row : ∃ V, wr.ownsRow base 173 5 v (1 + m % 2) ([.int .i64 3, .string nPair, .int .i64 0, V, .int .i64 (leftN m)] ++ secN m) ∧ OwnT wr base (fun _ => False) V (tP.kids.take (m / 2)) ∧ (∀ c, V.ownBlock = some c → v.ownBlock ≠ some c)
theorem head0_any {w : World} {rb : Nat} (h : RdB w rb bsP 1) :
 Calls Tryz.prog 91 #[.pointer (some ⟨rb, 0, none⟩)] w fun e w' => e = .returned (.agg #[.int .i64 2, .string ⟨#[97]⟩, .int .i64 1, .slice none 0 0, .int .i64 0]) ∧ RdB w' rb bsP 4 ∧ w.grownBy w' (some rb) :=
 headA_any (k := 1) (c := 97) (so := 1) (nm := ⟨#[97]⟩) h (by decide) (by decide) (by decide) (by decide) (by decide) (by decide) (by decide) (by decide) (by decide +kernel)
theorem head1_any {w : World} {rb : Nat} (h : RdB w rb bsP 4) :
 Calls Tryz.prog 91 #[.pointer (some ⟨rb, 0, none⟩)] w fun e w' => e = .returned (.agg #[.int .i64 2, .string ⟨#[110]⟩, .int .i64 2, .slice none 0 0, .int .i64 0]) ∧ RdB w' rb bsP 7 ∧ w.grownBy w' (some rb) :=
 headA_any (k := 4) (c := 110) (so := 2) (nm := ⟨#[110]⟩) h (by decide) (by decide) (by decide) (by decide) (by decide) (by decide) (by decide) (by decide) (by decide +kernel)
theorem headP0_any {w : World} {rb : Nat} (h : RdB w rb bsP 0) :
 Calls Tryz.prog 91 #[.pointer (some ⟨rb, 0, none⟩)] w fun e w' => e = .returned (.agg #[.int .i64 3, .string nPair, .int .i64 0, .slice none 0 0, .int .i64 2]) ∧ RdB w' rb bsP 1 ∧ w.grownBy w' (some rb) :=
 headP_any h (by decide) (by decide) (by decide)

theorem flatsetJ {R : List TE} {k : Nat} {e old : TE} {rest : List Value} (h : R[k]? = some old) :
 (R.flatMap encE ++ rest).take (k * 4) ++ encE e ++ (R.flatMap encE ++ rest).drop (k * 4 + 4) = (R.set k e).flatMap encE ++ rest := by
 induction R generalizing k with
 | nil => simp at h
 | cons x R ih =>
   cases k with
   | zero => rfl
   | succ k =>
     have h' : R[k]? = some old := by simpa using h
     have i := ih h'
     rw [List.set_cons_succ, List.flatMap_cons, List.flatMap_cons, List.append_assoc (encE x), List.append_assoc (encE x), ← i]
     have e4 : (encE x).length = 4 := rfl
     rw [List.take_append, List.drop_append, e4, List.take_of_length_le (by rw [e4]; omega), List.drop_of_length_le (by rw [e4]; omega), show (k + 1) * 4 - 4 = k * 4 by omega, show (k + 1) * 4 + 4 - 4 = k * 4 + 4 by omega]
     simp
theorem listset4J {l : List Value} {m : Nat} {a b c d : Value} (h : m + 4 ≤ l.length) : l.take m ++ [a, b, c, d] ++ l.drop (m + 4) = (((l.set m a).set (m + 1) b).set (m + 2) c).set (m + 3) d := by
 apply List.ext_getElem?
 intro i
 simp only [List.getElem?_set, List.length_set]
 by_cases h1 : i < m
 · rw [List.append_assoc, List.getElem?_append_left (by rw [List.length_take]; omega), List.getElem?_take, if_pos h1, if_neg (by omega), if_neg (by omega), if_neg (by omega), if_neg (by omega)]
 · by_cases h2 : i < m + 4
   · rw [List.append_assoc, List.getElem?_append_right (by rw [List.length_take]; omega), List.length_take, Nat.min_eq_left (by omega)]
     rcases (by omega : i = m ∨ i = m + 1 ∨ i = m + 2 ∨ i = m + 3) with rfl | rfl | rfl | rfl
     · rw [Nat.sub_self, if_neg (by omega), if_neg (by omega), if_neg (by omega), if_pos rfl, if_pos (by omega)]; rfl
     · rw [show m + 1 - m = 1 by omega, if_neg (by omega), if_neg (by omega), if_pos rfl, if_pos (by omega)]; rfl
     · rw [show m + 2 - m = 2 by omega, if_neg (by omega), if_pos rfl, if_pos (by omega)]; rfl
     · rw [show m + 3 - m = 3 by omega, if_pos rfl, if_pos (by omega)]; rfl
   · rw [List.getElem?_append_right (by simp; omega), List.getElem?_drop, if_neg (by omega), if_neg (by omega), if_neg (by omega), if_neg (by omega)]
     congr 1
     simp
     omega
theorem setCellGrownJ {w : World} {g o : Nat} {v : Value} {W : World} (h : W.grownBy w (some g)) : W.grownBy (w.setCell ⟨g, o, none⟩ v) (some g) :=
 ⟨h.os, h.tape, h.output, by simpa using h.size, fun q hq hne => (heap_setCell_other _ _ _ _ (fun e => hne (by rw [e]))).trans (h.block q hq hne)⟩
/-- a term written over an element of a row, cell by cell -/
theorem OwnT.set4J {w : World} {base : Nat} {S : Nat → Prop} {L : List Tm} {g n cap k : Nat} {t : Tm} {ka : Option Addr} {kc : Nat} (h : OwnT w base S (.slice (some ⟨g, 0, none⟩) n cap) L) (hk : k < L.length) (hT : TmW w S ka kc t) (hS : ∀ c, S c → c ≠ g) :
 OwnT ((((w.setCell ⟨g, k * 4, none⟩ (.int .i64 t.kind)).setCell ⟨g, k * 4 + 1, none⟩ (.string t.name)).setCell ⟨g, k * 4 + 2, none⟩ (.int .i64 t.sort)).setCell ⟨g, k * 4 + 3, none⟩ (.slice ka t.kids.length kc)) base S (.slice (some ⟨g, 0, none⟩) n cap) (L.set k t) ∧
  w.grownBy ((((w.setCell ⟨g, k * 4, none⟩ (.int .i64 t.kind)).setCell ⟨g, k * 4 + 1, none⟩ (.string t.name)).setCell ⟨g, k * 4 + 2, none⟩ (.int .i64 t.sort)).setCell ⟨g, k * 4 + 3, none⟩ (.slice ka t.kids.length kc)) (some g) := by
 have hoth : ∀ q, q ≠ g → ((((w.setCell ⟨g, k * 4, none⟩ (.int .i64 t.kind)).setCell ⟨g, k * 4 + 1, none⟩ (.string t.name)).setCell ⟨g, k * 4 + 2, none⟩ (.int .i64 t.sort)).setCell ⟨g, k * 4 + 3, none⟩ (.slice ka t.kids.length kc)).heap[q]? = w.heap[q]? := fun q hq => by
  rw [heap_setCell_other _ _ _ _ hq, heap_setCell_other _ _ _ _ hq, heap_setCell_other _ _ _ _ hq, heap_setCell_other _ _ _ _ hq]
 have hgr : w.grownBy ((((w.setCell ⟨g, k * 4, none⟩ (.int .i64 t.kind)).setCell ⟨g, k * 4 + 1, none⟩ (.string t.name)).setCell ⟨g, k * 4 + 2, none⟩ (.int .i64 t.sort)).setCell ⟨g, k * 4 + 3, none⟩ (.slice ka t.kids.length kc)) (some g) :=
  setCellGrownJ (setCellGrownJ (setCellGrownJ (setCellGrownJ ⟨rfl, rfl, rfl, Nat.le_refl _, fun _ _ _ => rfl⟩)))
 refine ⟨?_, hgr⟩
 obtain ⟨E, rfl, h2, h3⟩ := h
 rw [List.length_map] at hk
 obtain ⟨old, hold⟩ : ∃ e, E[k]? = some e := ⟨_, List.getElem?_eq_getElem hk⟩
 rcases h2.2 with ⟨h4, -⟩ | ⟨g', cap', cur, hv, hb, hblk, hn, hc, hsz, htk⟩
 · cases h4
 cases hv
 have hfl := flatE_len encE_len E
 have hcl : cur.toList.length = cur.size := Array.length_toList
 have hcur : cur.toList = E.flatMap encE ++ cur.toList.drop (E.length * 4) := by rw [← htk, List.take_append_drop]
 have hset := flatsetJ (k := k) (e := ⟨t, ka, kc⟩) (old := old) (rest := cur.toList.drop (E.length * 4)) hold
 rw [← hcur] at hset
 have h1 := heap_setCell_same w g (k * 4) _ _ (.int .i64 t.kind) hblk
 have h5 := heap_setCell_same _ g (k * 4 + 1) _ _ (.string t.name) h1
 have h6 := heap_setCell_same _ g (k * 4 + 2) _ _ (.int .i64 t.sort) h5
 have h7 := heap_setCell_same _ g (k * 4 + 3) _ _ (.slice ka t.kids.length kc) h6
 refine ⟨E.set k ⟨t, ka, kc⟩, by rw [List.map_set], ?_, fun e he => ?_⟩
 · refine ⟨flatE_len encE_len _, .inr ⟨g, cap, _, by simp, hb, h7, by simpa using hn, hc, by simp [hsz], ?_⟩⟩
   have e1 : ((((cur.setIfInBounds (k * 4) (.int .i64 t.kind)).setIfInBounds (k * 4 + 1) (.string t.name)).setIfInBounds (k * 4 + 2) (.int .i64 t.sort)).setIfInBounds (k * 4 + 3) (.slice ka t.kids.length kc)).toList = (E.set k ⟨t, ka, kc⟩).flatMap encE ++ cur.toList.drop (E.length * 4) := by
    rw [← hset]
    simp only [Array.toList_setIfInBounds, encE]
    rw [listset4J (by omega)]
   rw [e1, ← flatE_len encE_len, List.take_left]
 · have : TmW w S e.a e.cap e.t := by
    rcases List.mem_or_eq_of_mem_set he with h | h
    · exact h3 e h
    · rw [h]; exact hT
   exact this.keep (fun c hc _ => hoth c (hS c hc)) (fun _ h _ => h)
/-- the cells of an element of a row -/
theorem OwnT.cells4J {w : World} {base : Nat} {S : Nat → Prop} {L : List Tm} {g n cap k : Nat} (h : OwnT w base S (.slice (some ⟨g, 0, none⟩) n cap) L) {t : Tm} (hk : L[k]? = some t) :
 ∃ a c, w.cell? ⟨g, k * 4, none⟩ = some (.int .i64 t.kind) ∧ w.cell? ⟨g, k * 4 + 1, none⟩ = some (.string t.name) ∧ w.cell? ⟨g, k * 4 + 2, none⟩ = some (.int .i64 t.sort) ∧ w.cell? ⟨g, k * 4 + 3, none⟩ = some (.slice a t.kids.length c) ∧ TmW w S a c t ∧ ∀ o, w.frozen? ⟨g, o, none⟩ = false := by
 obtain ⟨g', cg, cs, hv, hb, hlt, ⟨a, c, rfl, hW⟩, hcs⟩ := h.g.at hk
 cases hv
 obtain ⟨cur, hcur⟩ := h.g.block (g := g) rfl
 exact ⟨a, c, hcs 0 _ rfl, hcs 1 _ rfl, hcs 2 _ rfl, hcs 3 _ rfl, hW, fun o => frozenc hcur⟩

theorem ownSomeJ {w : World} {base : Nat} {S : Nat → Prop} {v : Value} {L : List Tm} (h : OwnT w base S v L) (hl : 0 < L.length) :
 ∃ g cap, v = .slice (some ⟨g, 0, none⟩) L.length cap ∧ base ≤ g ∧ L.length ≤ cap ∧ cap ≤ maxLen := by
 obtain ⟨E, rfl, h2, h3⟩ := h
 rw [List.length_map] at hl ⊢
 rcases h2.2 with ⟨-, h4⟩ | ⟨g', cap', cur, hv, hb, hblk, hn, hc, hsz, htk⟩
 · omega
 · exact ⟨g', cap', hv, hb, hn, hc⟩
end Go.Proofs.YtfaienbdebjfcaaGreat
