/- Contracts: the reader of codec: take, number, tag. Contracts: the reader of codec: field. -/
import Derived.Test.YtfaienbdebjfcaaGreatGR
namespace Go.Proofs.YtfaienbdebjfcaaGreat
open Go Go.RowKit
set_option linter.unusedVariables false
set_option linter.unusedSimpArgs false

/-- codec's reader of s, at k -/
def RdC (w : World) (rb : Nat) (v0 : Value) (s : ByteArray) (k : Nat) (fl : Bool) : Prop := w.heap[rb]? = some (.cells #[v0, .string s, .int .i64 k, .bool fl] 98)
section
variable {w w' : World} {rb k : Nat} {v0 : Value} {s : ByteArray} {fl : Bool}
theorem RdC.lt (h : RdC w rb v0 s k fl) : rb < w.heap.size := (Array.getElem?_eq_some_iff.1 h).1
theorem RdC.ext (h : RdC w rb v0 s k fl) (hE : Ext w w') : RdC w' rb v0 s k fl := hs_ext hE h
theorem RdC.c0 (h : RdC w rb v0 s k fl) : w.cell? ⟨rb, 0, none⟩ = some v0 := by rw [cellc h]; rfl
theorem RdC.c1 (h : RdC w rb v0 s k fl) : w.cell? ⟨rb, 1, none⟩ = some (.string s) := by rw [cellc h]; rfl
theorem RdC.c2 (h : RdC w rb v0 s k fl) : w.cell? ⟨rb, 2, none⟩ = some (.int .i64 k) := by rw [cellc h]; rfl
theorem RdC.c3 (h : RdC w rb v0 s k fl) : w.cell? ⟨rb, 3, none⟩ = some (.bool fl) := by rw [cellc h]; rfl
theorem RdC.fr (h : RdC w rb v0 s k fl) (o : Nat) : w.frozen? ⟨rb, o, none⟩ = false := frozenc h
theorem RdC.to (h : RdC w rb v0 s k fl) (m : Nat) : RdC (w.setCell ⟨rb, 2, none⟩ (.int .i64 m)) rb v0 s m fl := by
 unfold RdC
 rw [heap_setCell_same w rb 2 _ _ _ h]; rfl
theorem RdC.fail (h : RdC w rb v0 s k fl) (m : Nat) : RdC ((w.setCell ⟨rb, 2, none⟩ (.int .i64 m)).setCell ⟨rb, 3, none⟩ (.bool true)) rb v0 s m true := by
 unfold RdC
 rw [heap_setCell_same _ rb 3 _ _ _ (h.to m)]; rfl
theorem gr_own (w : World) (g o : Nat) (v : Value) : w.grownBy (w.setCell ⟨g, o, none⟩ v) (some g) :=
 ⟨rfl, rfl, rfl, by rw [World.size_setCell]; exact Nat.le_refl _, fun i _ hn => heap_setCell_other _ _ _ _ (fun e => hn (by rw [e]))⟩
/-- what a reading leaves: the reader at k -/
def RdE (w : World) (rb : Nat) (v0 : Value) (s : ByteArray) (k : Nat) (fl : Bool) (v : Value) (e : Ending) (w' : World) : Prop := e = .returned v ∧ RdC w' rb v0 s k fl ∧ w.grownBy w' (some rb)
set_option maxRecDepth 100000 in
set_option maxHeartbeats 2000000 in
theorem take_ok {n ed : Nat} (h : RdC w rb v0 s k false) (hn : k + n ≤ ed) (he : ed ≤ s.size) (hs : s.size ≤ 100000) : Calls Tryz.prog 104 #[.pointer (some ⟨rb, 0, none⟩), .int .i64 n, .int .i64 ed] w (RdE w rb v0 s (k + n) false (.string (s.extract k (k + n)))) := by
 have c1 := h.c1
 have c2 := h.c2
 have f2 := h.fr 2
 have H := Lib.hid h
 have hw1 : IntKind.i64.wrap ((ed : Int) - (k : Int)) = (ed : Int) - (k : Int) := by rw [IntKind.wrap_i64]; omega
 have hl1 : ¬ (((ed : Int) - (k : Int)) < (n : Int)) := by omega
 have hw2 : IntKind.i64.wrap ((k : Int) + (n : Int)) = (k : Int) + (n : Int) := by rw [IntKind.wrap_i64]; omega
 have hk1 : (k : Int) ≤ (k : Int) + (n : Int) := by omega
 have hk2 : (k : Int) + (n : Int) ≤ (s.size : Int) := by omega
 have hk0 : (0 : Int) ≤ (k : Int) := by omega
 clear h hn he hs
 go_enter Tryz.func104, Tryz.ntmps104
 go_upto_region 4 with fail
 have HFCT := Lib.hid (And.intro c1 c2)
 refine wp_region_reg 15 false (by kernel_rfl) (by kernel_rfl) ?_
 refine reg_value (fun _ => rfl) ?_ (fun g w' vs hM hE hP => ?_) ?_
 rotate_left
 · (clear hP hM; go_simp; first | done | rfl)
 refine reg_value (fun _ => rfl) ?_ (fun g w' vs hM hE hP => ?_) ?_
 rotate_left
 · (clear hP hM; go_simp; first | done | rfl)
 refine reg_value (fun _ => rfl) ?_ (fun g w' vs hM hE hP => ?_) ?_
 rotate_left
 · (clear hP hM; go_simp; first | done | rfl)
 refine reg_value (fun _ => rfl) ?_ (fun g w' vs hM hE hP => ?_) ?_
 rotate_left
 · (clear hP hM; have ⟨z0, z1⟩ := cs_e2 hE HFCT.out; go_simp; first | done | rfl)
 refine reg_value (fun _ => rfl) ?_ (fun g w' vs hM hE hP => ?_) ?_
 rotate_left
 · (clear hP hM; go_simp; first | done | rfl)
 refine reg_value (fun _ => rfl) ?_ (fun g w' vs hM hE hP => ?_) ?_
 rotate_left
 · (clear hP hM; go_simp; first | done | rfl)
 refine reg_value (fun _ => rfl) ?_ (fun g w' vs hM hE hP => ?_) ?_
 rotate_left
 · (clear hP hM; go_simp; first | done | rfl)
 refine reg_value (fun _ => rfl) ?_ (fun g w' vs hM hE hP => ?_) ?_
 rotate_left
 · (clear hP hM; have ⟨z0, z1⟩ := cs_e2 hE HFCT.out; go_simp; first | done | rfl)
 refine reg_value (fun _ => rfl) ?_ (fun g w' vs hM hE hP => ?_) ?_
 rotate_left
 · (clear hP hM; go_simp; first | done | rfl)
 refine reg_value (fun _ => rfl) ?_ (fun g w' vs hM hE hP => ?_) ?_
 rotate_left
 · (clear hP hM; go_simp; first | done | rfl)
 refine reg_value (fun _ => rfl) ?_ (fun g w' vs hM hE hP => ?_) ?_
 rotate_left
 · (clear hP hM; go_simp; first | done | rfl)
 refine reg_value (fun _ => rfl) ?_ (fun g w' vs hM hE hP => ?_) ?_
 rotate_left
 · (clear hP hM; have ⟨z0, z1⟩ := cs_e2 hE HFCT.out; go_simp; first | done | rfl)
 refine reg_value (fun _ => rfl) ?_ (fun g w' vs hM hE hP => ?_) ?_
 rotate_left
 · (clear hP hM; go_simp; first | done | rfl)
 refine reg_value (fun _ => rfl) ?_ (fun g w' vs hM hE hP => ?_) ?_
 rotate_left
 · (clear hP hM; go_simp; first | done | rfl)
 refine reg_value (fun _ => rfl) ?_ (fun g w' vs hM hE hP => ?_) ?_
 rotate_left
 · (clear hP hM; go_simp; first | done | rfl)
 intro g wn hEn hFn hQn
 simp only [List.drop_succ_cons, List.drop_zero, Act.put, List.setIfInBounds_toArray, List.set_cons_succ, List.set_cons_zero]
 have HEn := Lib.hid hEn
 have hR := H.out.ext HEn.out
 have c1 := hR.c1
 have c2 := hR.c2
 have f2 := hR.fr 2
 have HR := Lib.hid hR
 clear hR hEn hFn hQn
 go_wp2_with fail
 go_ret
 exact ⟨by rfl, HR.out.to (k + n), gr_trans (gr_ext HEn.out) (gr_own _ _ _ _)⟩
set_option maxRecDepth 100000 in
set_option maxHeartbeats 2000000 in
theorem number_ok {ed : Nat} {lo hi : Int} (h : RdC w rb v0 s k false) (hk : k < s.size) (hn : k < ed) (hs : s.size ≤ 100000) (hlo : lo ≤ s[k].toNat) (hhi : (s[k].toNat : Int) ≤ hi) : Calls Tryz.prog 105 #[.pointer (some ⟨rb, 0, none⟩), .int .i64 lo, .int .i64 hi, .int .i64 ed] w (RdE w rb v0 s (k + 1) false (.int .i64 s[k].toNat)) := by
 have c1 := h.c1
 have c2 := h.c2
 have f2 := h.fr 2
 have H := Lib.hid h
 have hl1 : ¬ ((ed : Int) ≤ (k : Int)) := by omega
 have hki : (k : Int) < (s.size : Int) := by omega
 have hk0 : (0 : Int) ≤ (k : Int) := by omega
 have hsb : s[k].toNat < 256 := UInt8.toNat_lt _
 have hws : IntKind.i64.wrap (s[k].toNat : Int) = (s[k].toNat : Int) := by rw [IntKind.wrap_i64]; omega
 have hwk : IntKind.i64.wrap ((k : Int) + 1) = (k : Int) + 1 := by rw [IntKind.wrap_i64]; omega
 have hl2 : ¬ (s[k].toNat : Int) < lo := by omega
 have hh2 : ¬ hi < (s[k].toNat : Int) := by omega
 clear h hn hs hlo hhi
 go_enter Tryz.func105, Tryz.ntmps105
 go_upto_region 4 with fail
 have HFCT := Lib.hid (And.intro c1 c2)
 refine wp_region_reg 10 false (by kernel_rfl) (by kernel_rfl) ?_
 refine reg_value (fun _ => rfl) ?_ (fun g w' vs hM hE hP => ?_) ?_
 rotate_left
 · (clear hP hM; go_simp; first | done | rfl)
 refine reg_value (fun _ => rfl) ?_ (fun g w' vs hM hE hP => ?_) ?_
 rotate_left
 · (clear hP hM; go_simp; first | done | rfl)
 refine reg_value (fun _ => rfl) ?_ (fun g w' vs hM hE hP => ?_) ?_
 rotate_left
 · (clear hP hM; go_simp; first | done | rfl)
 refine reg_value (fun _ => rfl) ?_ (fun g w' vs hM hE hP => ?_) ?_
 rotate_left
 · (clear hP hM; have ⟨z0, z1⟩ := cs_e2 hE HFCT.out; go_simp; first | done | rfl)
 refine reg_value (fun _ => rfl) ?_ (fun g w' vs hM hE hP => ?_) ?_
 rotate_left
 · (clear hP hM; go_simp; first | done | rfl)
 refine reg_value (fun _ => rfl) ?_ (fun g w' vs hM hE hP => ?_) ?_
 rotate_left
 · (clear hP hM; go_simp; first | done | rfl)
 refine reg_value (fun _ => rfl) ?_ (fun g w' vs hM hE hP => ?_) ?_
 rotate_left
 · (clear hP hM; go_simp; first | done | rfl)
 refine reg_value (fun _ => rfl) ?_ (fun g w' vs hM hE hP => ?_) ?_
 rotate_left
 · (clear hP hM; have ⟨z0, z1⟩ := cs_e2 hE HFCT.out; go_simp; first | done | rfl)
 refine reg_value (fun _ => rfl) ?_ (fun g w' vs hM hE hP => ?_) ?_
 rotate_left
 · (clear hP hM; go_simp; first | done | rfl)
 refine reg_value (fun _ => rfl) ?_ (fun g w' vs hM hE hP => ?_) ?_
 rotate_left
 · (clear hP hM; go_simp; first | done | rfl)
 intro g wn hEn hFn hQn
 simp only [List.drop_succ_cons, List.drop_zero, Act.put, List.setIfInBounds_toArray, List.set_cons_succ, List.set_cons_zero]
 have HEn := Lib.hid hEn
 have hR := H.out.ext HEn.out
 have c1 := hR.c1
 have c2 := hR.c2
 have f2 := hR.fr 2
 have HR := Lib.hid hR
 clear hR hEn hFn hQn
 go_wp2_with fail
 go_ret
 exact ⟨rfl, HR.out.to (k + 1), gr_trans (gr_ext HEn.out) (gr_own _ _ _ _)⟩
set_option maxRecDepth 100000 in
set_option maxHeartbeats 4000000 in
theorem tag_ok {ed : Nat} {g : ByteArray} (h : RdC w rb v0 s k false) (hn : k + g.size ≤ ed) (he : ed ≤ s.size) (hs : s.size ≤ 100000) (heq : ∀ (j : Nat) (h1 : j < g.size) (h2 : k + j < s.size), s[k + j] = g[j]) : Calls Tryz.prog 103 #[.pointer (some ⟨rb, 0, none⟩), .string g, .int .i64 ed] w (RdE w rb v0 s (k + g.size) false (.tuple #[])) := by
 have H : Hid (RdC w rb v0 s (k + 0) false ∧ w.grownBy w (some rb)) := Lib.hid ⟨h, gr_ext (Ext.refl _)⟩
 have HEQ := Lib.hid heq
 clear h heq
 go_enter Tryz.func103, Tryz.ntmps103
 go_upto_region 1 with fail
 go_loopw [6, 9] (fun _ jv wr => ∃ j : Nat, jv = .int .i64 j ∧ j ≤ g.size ∧ Hid (RdC wr rb v0 s (k + j) false ∧ w.grownBy wr (some rb))) (fun _ jv _ => g.size - (intOf jv).toNat)
 case atStart => exact ⟨0, rfl, by omega, H⟩
 case round =>
  obtain ⟨j, rfl, hj, HR⟩ := hrel
  by_cases hlt : j < g.size
  · have hji : (j : Int) < (g.size : Int) := by omega
    have hj0 : (0 : Int) ≤ (j : Int) := by omega
    obtain ⟨m, hm⟩ : ∃ m, m = k + j := ⟨_, rfl⟩
    have hms : m < s.size := by omega
    have hb1 : s[m].toNat < 256 := UInt8.toNat_lt _
    have hE : s[m].toNat = g[j].toNat := by
     have := HEQ.out j hlt (by omega)
     rw [← this]
     congr 2
    have e1 : ¬ ((ed : Int) ≤ (m : Int)) := by omega
    have hmi : (m : Int) < (s.size : Int) := by omega
    have hm0 : (0 : Int) ≤ (m : Int) := by omega
    have hwk : IntKind.i64.wrap ((m : Int) + 1) = (m : Int) + 1 := by rw [IntKind.wrap_i64]; omega
    have HR' : Hid (RdC wr rb v0 s m false ∧ w.grownBy wr (some rb)) := Lib.hid (by rw [hm]; exact HR.out)
    have c1 := HR'.out.1.c1
    have c2 := HR'.out.1.c2
    have HM := Lib.hid hm
    clear hm HR
    go_upto_region 3 with fail
    have HFCT := Lib.hid (And.intro c1 c2)
    refine wp_region_reg 21 false (by kernel_rfl) (by kernel_rfl) ?_
    refine reg_value (fun _ => rfl) ?_ (fun g w' vs hM hE hP => ?_) ?_
    rotate_left
    · (clear hP hM; go_simp; first | done | rfl)
    refine reg_value (fun _ => rfl) ?_ (fun g w' vs hM hE hP => ?_) ?_
    rotate_left
    · (clear hP hM; go_simp; first | done | rfl)
    refine reg_value (fun _ => rfl) ?_ (fun g w' vs hM hE hP => ?_) ?_
    rotate_left
    · (clear hP hM; go_simp; first | done | rfl)
    refine reg_value (fun _ => rfl) ?_ (fun g w' vs hM hE hP => ?_) ?_
    rotate_left
    · (clear hP hM; have ⟨z0, z1⟩ := cs_e2 hE HFCT.out; go_simp; first | done | rfl)
    refine reg_value (fun _ => rfl) ?_ (fun g w' vs hM hE hP => ?_) ?_
    rotate_left
    · (clear hP hM; go_simp; first | done | rfl)
    refine reg_value (fun _ => rfl) ?_ (fun g w' vs hM hE hP => ?_) ?_
    rotate_left
    · (clear hP hM; go_simp; first | done | rfl)
    refine reg_value (fun _ => rfl) ?_ (fun g w' vs hM hE hP => ?_) ?_
    rotate_left
    · (clear hP hM; go_simp; first | done | rfl)
    refine reg_value (fun g => by go_simp) ?_ (fun g w' vs hM hE hP => ?_) ?_
    rotate_left
    · (clear hP hM; go_simp; first | done | rfl)
    refine reg_value (fun g => by go_simp) ?_ (fun g w' vs hM hE hP => ?_) ?_
    rotate_left
    · (clear hP hM; go_simp; first | done | rfl)
    refine reg_value (fun g => by go_simp) ?_ (fun g w' vs hM hE hP => ?_) ?_
    rotate_left
    · (clear hP hM; go_simp; first | done | rfl)
    refine reg_value (fun g => by go_simp) ?_ (fun g w' vs hM hE hP => ?_) ?_
    rotate_left
    · (clear hP hM; have ⟨z0, z1⟩ := cs_e2 hE HFCT.out; go_simp; first | done | rfl)
    refine reg_value (fun g => by go_simp) ?_ (fun g w' vs hM hE hP => ?_) ?_
    rotate_left
    · (clear hP hM; go_simp; first | done | rfl)
    refine reg_value (fun g => by go_simp) ?_ (fun g w' vs hM hE hP => ?_) ?_
    rotate_left
    · (clear hP hM; go_simp; first | done | rfl)
    refine reg_value (fun g => by go_simp) ?_ (fun g w' vs hM hE hP => ?_) ?_
    rotate_left
    · (clear hP hM; go_simp; first | done | rfl)
    refine reg_value (fun g => by go_simp) ?_ (fun g w' vs hM hE hP => ?_) ?_
    rotate_left
    · (clear hP hM; have ⟨z0, z1⟩ := cs_e2 hE HFCT.out; go_simp; first | done | rfl)
    refine reg_value (fun g => by go_simp) ?_ (fun g w' vs hM hE hP => ?_) ?_
    rotate_left
    · (clear hP hM; go_simp; first | done | rfl)
    refine reg_value (fun g => by go_simp) ?_ (fun g w' vs hM hE hP => ?_) ?_
    rotate_left
    · (clear hP hM; go_simp; first | done | rfl)
    refine reg_value (fun g => by go_simp) ?_ (fun g w' vs hM hE hP => ?_) ?_
    rotate_left
    · (clear hP hM; go_simp; first | done | rfl)
    refine reg_value (fun g => by go_simp) ?_ (fun g w' vs hM hE hP => ?_) ?_
    rotate_left
    · (clear hP hM; go_simp; first | done | rfl)
    refine reg_value (fun g => by go_simp) ?_ (fun g w' vs hM hE hP => ?_) ?_
    rotate_left
    · (clear hP hM; go_simp; first | done | rfl)
    refine reg_value (fun _ => rfl) ?_ (fun g w' vs hM hE hP => ?_) ?_
    rotate_left
    · (clear hP hM; go_simp; first | done | rfl)
    intro g3 wn hEn hFn hQn
    simp only [List.drop_succ_cons, List.drop_zero, Act.put, List.setIfInBounds_toArray, List.set_cons_succ, List.set_cons_zero]
    have HEn := Lib.hid hEn
    have hR := HR'.out.1.ext HEn.out
    have c1 := hR.c1
    have c2 := hR.c2
    have f2 := hR.fr 2
    have HR2 : Hid (RdC (wn.setCell ⟨rb, 2, none⟩ (.int .i64 ((m : Int) + 1))) rb v0 s (k + (j + 1)) false ∧ w.grownBy (wn.setCell ⟨rb, 2, none⟩ (.int .i64 ((m : Int) + 1))) (some rb)) := Lib.hid ⟨by rw [show k + (j + 1) = m + 1 by have := HM.out; omega]; exact hR.to (m + 1), gr_trans (gr_trans HR'.out.2 (gr_ext HEn.out)) (gr_own _ _ _ _)⟩
    clear hR hEn hFn hQn
    go_wp2_with fail
    go_roundw
    case rel => exact ⟨j + 1, by go_num, by omega, HR2⟩
    case measure => simp [intOf]; omega
  · have hji : ¬ (j : Int) < (g.size : Int) := by omega
    have HJ : Hid (j = g.size) := Lib.hid (by omega)
    go_wp2_with fail
    go_end0
    exact ⟨rfl, by rw [← HJ.out]; exact HR.out.1, HR.out.2⟩
end
end Go.Proofs.YtfaienbdebjfcaaGreat

namespace Go.Proofs.YtfaienbdebjfcaaGreat
open Go Go.RowKit
set_option linter.unusedVariables false
set_option linter.unusedSimpArgs false

/-- the bytes e lie in s at k -/
def AtU (s : ByteArray) (k : Nat) (e : List UInt8) : Prop := k + e.length ≤ s.size ∧ ∀ (j : Nat) (h1 : j < e.length) (h2 : k + j < s.size), s[k + j] = e[j]
theorem AtU.left {s : ByteArray} {k : Nat} {a b : List UInt8} (h : AtU s k (a ++ b)) : AtU s k a :=
 ⟨by have := h.1; rw [List.length_append] at this; omega, fun j h1 h2 => by rw [h.2 j (by rw [List.length_append]; omega) h2, List.getElem_append_left h1]⟩
theorem AtU.right {s : ByteArray} {k : Nat} {a b : List UInt8} (h : AtU s k (a ++ b)) : AtU s (k + a.length) b :=
 ⟨by have := h.1; rw [List.length_append] at this; omega, fun j h1 h2 => by
  have := h.2 (a.length + j) (by rw [List.length_append]; omega) (by omega)
  rw [List.getElem_append_right (by omega)] at this
  simp only [Nat.add_sub_cancel_left] at this
  rw [← this]
  congr 1
  omega⟩
theorem AtU.str {s : ByteArray} {k : Nat} {b : ByteArray} (h : AtU s k b.data.toList) : s.extract k (k + b.size) = b := by
 have hl : b.data.toList.length = b.size := by rw [Array.length_toList]; rfl
 have h1 := h.1
 rw [hl] at h1
 apply ByteArray.ext
 rw [ByteArray.data_extract]
 apply Array.ext
 · rw [Array.size_extract]
   show min (k + b.size) s.size - k = b.size
   omega
 · intro i hi1 hi2
   rw [Array.getElem_extract]
   have := h.2 i (by rw [hl]; exact hi2) (by have : i < b.size := hi2; omega)
   rw [Array.getElem_toList] at this
   exact this
set_option maxRecDepth 100000 in
set_option maxHeartbeats 4000000 in
theorem fieldR_ok {E' : Elm Vl} {w : World} {rb k ed : Nat} {v0 : Value} {s : ByteArray} {t : List Fmt} {f : Fld} {x : Vl} {pre : Bool} (h : RdC w rb v0 s k false) (hg : FGd t f) (hx : ValF t f x) (hat : AtU s k (encF1 t f x)) (hn : k + (encF1 t f x).length ≤ ed) (he : ed ≤ s.size) (hs : s.size ≤ 100000)
 (hrest : f.kind = 6 → (pre = false → ed = k + x.bytes.size) ∧ (pre = true → (x.bytes.size : Int) = f.high))
 (HREC : f.kind = 5 → ∀ w', Ext w w' → Calls Tryz.prog 106 #[.pointer (some ⟨rb, 0, none⟩), .int .i64 f.n, .int .i64 ed] w' fun e w'' => ∃ ka kc, e = .returned (.agg #[.string x.bytes, .int .i64 x.num, .slice ka x.kids.length kc]) ∧ RdC w'' rb v0 s (k + (encF1 t f x).length) false ∧ w'.grownBy w'' (some rb) ∧ LsG E' w'' (fun c => w'.heap.size ≤ c) (.slice ka x.kids.length kc) x.kids) :
 Calls Tryz.prog 72 #[.pointer (some ⟨rb, 0, none⟩), .agg #[.int .i64 f.kind, .string f.bytes, .int .i64 f.n, .int .i64 f.low, .int .i64 f.high], .int .i64 ed, .bool pre] w fun e w' => ∃ ka kc, e = .returned (.agg #[.string x.bytes, .int .i64 x.num, .slice ka x.kids.length kc]) ∧ RdC w' rb v0 s (k + (encF1 t f x).length) false ∧ w.grownBy w' (some rb) ∧ LsG E' w' (fun c => w.heap.size ≤ c) (.slice ka x.kids.length kc) x.kids := by
 obtain ⟨N, hN⟩ : ∃ N, N = k + (encF1 t f x).length := ⟨_, rfl⟩
 rw [← hN] at HREC ⊢
 obtain ⟨zb, w1, hzb, hw1, HZ, hE1⟩ := box_new w (.cells #[.int .i64 f.kind, .string f.bytes, .int .i64 f.n, .int .i64 f.low, .int .i64 f.high] 59)
 obtain ⟨rx, w2, hrx, hw2, HX, hE2⟩ := box_new w1 (.cells #[.string ⟨#[]⟩, .int .i64 0, .slice none 0 0] 41)
 have hrx1 : rx = zb + 1 := by rw [hrx, hw1, World.size_alloc, hzb]
 have HZ2 := Lib.hid (hs_ext hE2 HZ.out)
 have z0 : w2.cell? ⟨zb, 0, none⟩ = some (.int .i64 f.kind) := by rw [cellc HZ2.out]; rfl
 have z1 : w2.cell? ⟨zb, 1, none⟩ = some (.string f.bytes) := by rw [cellc HZ2.out]; rfl
 have z2 : w2.cell? ⟨zb, 2, none⟩ = some (.int .i64 f.n) := by rw [cellc HZ2.out]; rfl
 have z3 : w2.cell? ⟨zb, 3, none⟩ = some (.int .i64 f.low) := by rw [cellc HZ2.out]; rfl
 have z4 : w2.cell? ⟨zb, 4, none⟩ = some (.int .i64 f.high) := by rw [cellc HZ2.out]; rfl
 have HE2 := Lib.hid (hE1.trans hE2)
 have HR := Lib.hid (h.ext (hE1.trans hE2))
 have HS : Hid (w.heap.size ≤ rx ∧ rb ≠ rx ∧ rx < w2.heap.size ∧ zb ≠ rb) := Lib.hid ⟨by have h1 : zb = w.heap.size := (by first | exact hzb | exact hzb.symm); omega, by have h1 : zb = w.heap.size := (by first | exact hzb | exact hzb.symm); have := h.lt; omega, (Array.getElem?_eq_some_iff.1 HX.out).1, by have h1 : zb = w.heap.size := (by first | exact hzb | exact hzb.symm); have := h.lt; omega⟩
 clear hE1 hE2 h
 go_enter Tryz.func72, Tryz.ntmps72
 go_upto_region 1 with fail
 rw [← hw1, ← hzb, ← hw2, ← hrx1]
 clear hw1 hzb hw2 hrx1 hrx
 rcases hx with (⟨h1, rfl⟩ | ⟨h1, h2, h3⟩ | ⟨h1, h2, h3⟩ | ⟨h1, h2, h3, h4⟩ | ⟨h1, h2, h3, h4⟩) | ⟨h1, j, gm, h2, h3, h4, h5⟩
 · have hen : encF1 t f zeroVl = f.bytes.data.toList := by rw [encF1_p (by omega)]; unfold encP1; rw [if_pos h1]
   have hbl : f.bytes.data.toList.length = f.bytes.size := by rw [Array.length_toList]; rfl
   rw [hen] at hat hn hN
   rw [hbl] at hn hN
   have HNP := Lib.hid hN
   clear hN
   have HC := Lib.hid (tag_ok (g := f.bytes) HR.out hn he hs (fun j hj1 hj2 => by have := hat.2 j (by rw [hbl]; exact hj1) hj2; rw [Array.getElem_toList] at this; exact this))
   rw [h1] at z0
   clear hat hn hen hbl hrest HREC h1 hg
   go_wp2_with fail
   refine HC.out.mono ?_
   rintro e wq ⟨rfl, hRq, hGq⟩
   have hsx := HS.out
   have hxq := gr_ne hGq HX.out (fun e => HS.out.2.1 e.symm)
   obtain ⟨y0, y1, y2⟩ := box3r hxq
   have fy0 : wq.frozen? ⟨rx, 0, none⟩ = false := frozenc hxq
   have fy1 : wq.frozen? ⟨rx, 1, none⟩ = false := frozenc hxq
   have fy2 : wq.frozen? ⟨rx, 2, none⟩ = false := frozenc hxq
   have HXQ := Lib.hid hxq
   have HRQ := Lib.hid hRq
   have HGQ := Lib.hid (gr_trans (gr_ext HE2.out) hGq)
   clear hsx hxq hRq hGq
   go_wp2_with fail
   refine ret_vl (g := rx) rfl rfl (set3v_box _ _ _ HXQ.out) rfl ?_
   exact ⟨none, 0, rfl, by rw [HNP.out]; exact (set3v_other _ _ _ HS.out.2.1).trans HRQ.out, gr_set2 (gr_set2 (gr_set2 HGQ.out HS.out.1) HS.out.1) HS.out.1, LsG.nil⟩
 · obtain ⟨b, hb⟩ : ∃ b, b = x.bytes := ⟨_, rfl⟩
   rw [← hb] at h2 h3
   subst h3
   have hen : encF1 t f (Vl.mk b 0 []) = b.data.toList := by rw [encF1_p (by omega)]; unfold encP1; rw [if_neg (by omega), if_neg (by omega), if_neg (by omega)]; rfl
   have hbl : b.data.toList.length = b.size := by rw [Array.length_toList]; rfl
   rw [hen] at hat hn hN
   rw [hbl] at hn hN
   have HNP := Lib.hid hN
   clear hN
   have HC := Lib.hid (take_ok (n := b.size) HR.out hn he hs)
   rw [hat.str] at HC
   rw [h1] at z0
   rw [← h2] at z2
   clear hat hn hen hbl hrest HREC h1 h2 hg hb
   go_wp2_with fail
   refine HC.out.mono ?_
   rintro e wq ⟨rfl, hRq, hGq⟩
   have hsx := HS.out
   have hxq := gr_ne hGq HX.out (fun e => HS.out.2.1 e.symm)
   obtain ⟨y0, y1, y2⟩ := box3r hxq
   have fy0 : wq.frozen? ⟨rx, 0, none⟩ = false := frozenc hxq
   have fy1 : wq.frozen? ⟨rx, 1, none⟩ = false := frozenc hxq
   have fy2 : wq.frozen? ⟨rx, 2, none⟩ = false := frozenc hxq
   have HXQ := Lib.hid hxq
   have HRQ := Lib.hid hRq
   have HGQ := Lib.hid (gr_trans (gr_ext HE2.out) hGq)
   clear hsx hxq hRq hGq
   go_wp2_with fail
   refine ret_vl (g := rx) rfl rfl (set3v_box _ _ _ HXQ.out) rfl ?_
   exact ⟨none, 0, rfl, by rw [HNP.out]; exact (set3v_other _ _ _ HS.out.2.1).trans HRQ.out, gr_set2 (gr_set2 (gr_set2 HGQ.out HS.out.1) HS.out.1) HS.out.1, LsG.nil⟩
 · obtain ⟨b, hb⟩ : ∃ b, b = x.bytes := ⟨_, rfl⟩
   rw [← hb] at h2 h3
   subst h3
   have hen : encF1 t f (Vl.mk b 0 []) = b.size.toUInt8 :: b.data.toList := by rw [encF1_p (by omega)]; unfold encP1; rw [if_neg (by omega), if_pos h1]; rfl
   have hbl : b.data.toList.length = b.size := by rw [Array.length_toList]; rfl
   have hb15 : b.size ≤ 15 := by rcases hg with h | h | h | h | h | h <;> first | omega | (have := h.1; omega)
   rw [hen] at hat hn hN
   rw [List.length_cons, hbl] at hn hN
   have HNP : Hid (N = k + 1 + b.size) := Lib.hid (by omega)
   clear hN
   have hks : k < s.size := by omega
   have hsk : s[k].toNat = b.size := by
    have := hat.2 0 (by simp) (by omega)
    simp only [Nat.add_zero, List.getElem_cons_zero] at this
    rw [this]
    simp [Nat.mod_eq_of_lt (show b.size < 256 by omega)]
   have HN := Lib.hid (number_ok (ed := ed) (lo := 0) (hi := f.n) HR.out hks (by omega) hs (by omega) (by rw [hsk]; exact h2))
   rw [hsk] at HN
   have hr := AtU.right (a := [b.size.toUInt8]) hat
   have HAT : Hid (s.extract (k + 1) (k + 1 + b.size) = b) := Lib.hid (AtU.str hr)
   have HLN : Hid (k + 1 + b.size ≤ ed) := Lib.hid (by omega)
   rw [h1] at z0
   clear hat hn hen hbl hrest HREC h1 h2 hg hb hr hsk hks hb15
   go_wp2_with fail
   refine HN.out.mono ?_
   rintro e wp ⟨rfl, hRp, hGp⟩
   have c3 := hRp.c3
   have HC := Lib.hid (take_ok (n := b.size) hRp HLN.out he hs)
   rw [HAT.out] at HC
   have HGP := Lib.hid hGp
   clear hRp hGp
   go_wp2_with fail
   refine HC.out.mono ?_
   rintro e wq ⟨rfl, hRq, hGq'⟩
   have hGq := gr_trans HGP.out hGq'
   clear hGq'
   have hsx := HS.out
   have hxq := gr_ne hGq HX.out (fun e => HS.out.2.1 e.symm)
   obtain ⟨y0, y1, y2⟩ := box3r hxq
   have fy0 : wq.frozen? ⟨rx, 0, none⟩ = false := frozenc hxq
   have fy1 : wq.frozen? ⟨rx, 1, none⟩ = false := frozenc hxq
   have fy2 : wq.frozen? ⟨rx, 2, none⟩ = false := frozenc hxq
   have HXQ := Lib.hid hxq
   have HRQ := Lib.hid hRq
   have HGQ := Lib.hid (gr_trans (gr_ext HE2.out) hGq)
   clear hsx hxq hRq hGq
   go_wp2_with fail
   refine ret_vl (g := rx) rfl rfl (set3v_box _ _ _ HXQ.out) rfl ?_
   exact ⟨none, 0, rfl, by rw [HNP.out]; exact (set3v_other _ _ _ HS.out.2.1).trans HRQ.out, gr_set2 (gr_set2 (gr_set2 HGQ.out HS.out.1) HS.out.1) HS.out.1, LsG.nil⟩
 · obtain ⟨q, hq⟩ : ∃ q : Nat, x.num = q := ⟨x.num.toNat, by rcases hg with h | h | h | h | h | h <;> first | omega | (have := h.1; omega)⟩
   rw [hq] at h2 h3 h4
   subst h4
   have hen : encF1 t f (Vl.mk ⟨#[]⟩ q []) = [q.toUInt8] := by rw [encF1_p (by omega)]; unfold encP1; rw [if_neg (by omega), if_neg (by omega), if_pos h1]; rfl
   have hq255 : q ≤ 255 := by rcases hg with h | h | h | h | h | h <;> first | omega | (have := h.1; omega)
   rw [hen] at hat hn hN
   rw [List.length_singleton] at hn hN
   have HNP := Lib.hid hN
   have hks : k < s.size := by omega
   have hsk : s[k].toNat = q := by
    have := hat.2 0 (by simp) (by omega)
    simp only [Nat.add_zero, List.getElem_cons_zero] at this
    rw [this]
    simp [Nat.mod_eq_of_lt (show q < 256 by omega)]
   have HC := Lib.hid (number_ok (ed := ed) (lo := f.low) (hi := f.high) HR.out hks (by omega) hs (by rw [hsk]; exact h2) (by rw [hsk]; exact h3))
   rw [hsk] at HC
   rw [h1] at z0
   clear hat hn hen hrest HREC h1 h2 h3 hg hsk hks hN hq255 hq
   go_wp2_with fail
   refine HC.out.mono ?_
   rintro e wq ⟨rfl, hRq, hGq⟩
   have hsx := HS.out
   have hxq := gr_ne hGq HX.out (fun e => HS.out.2.1 e.symm)
   obtain ⟨y0, y1, y2⟩ := box3r hxq
   have fy0 : wq.frozen? ⟨rx, 0, none⟩ = false := frozenc hxq
   have fy1 : wq.frozen? ⟨rx, 1, none⟩ = false := frozenc hxq
   have fy2 : wq.frozen? ⟨rx, 2, none⟩ = false := frozenc hxq
   have HXQ := Lib.hid hxq
   have HRQ := Lib.hid hRq
   have HGQ := Lib.hid (gr_trans (gr_ext HE2.out) hGq)
   clear hsx hxq hRq hGq
   go_wp2_with fail
   refine ret_vl (g := rx) rfl rfl (set3v_box _ _ _ HXQ.out) rfl ?_
   exact ⟨none, 0, rfl, by rw [HNP.out]; exact (set3v_other _ _ _ HS.out.2.1).trans HRQ.out, gr_set2 (gr_set2 (gr_set2 HGQ.out HS.out.1) HS.out.1) HS.out.1, LsG.nil⟩
 · obtain ⟨b, hb⟩ : ∃ b, b = x.bytes := ⟨_, rfl⟩
   rw [← hb] at h2 h3 h4 hrest
   subst h4
   have hen : encF1 t f (Vl.mk b 0 []) = b.data.toList := by rw [encF1_p (by omega)]; unfold encP1; rw [if_neg (by omega), if_neg (by omega), if_neg (by omega)]; rfl
   have hbl : b.data.toList.length = b.size := by rw [Array.length_toList]; rfl
   rw [hen] at hat hn hN
   rw [hbl] at hn hN
   have HNP := Lib.hid hN
   have HC := Lib.hid (take_ok (n := b.size) HR.out hn he hs)
   rw [hat.str] at HC
   have hr := hrest h1
   rw [h1] at z0
   have c2 := HR.out.c2
   have hws : IntKind.i64.wrap ((ed : Int) - (k : Int)) = (ed : Int) - (k : Int) := by rw [IntKind.wrap_i64]; omega
   cases pre with
   | false =>
     have hed := hr.1 rfl
     have hn2 : (ed : Int) - (k : Int) = (b.size : Int) := by omega
     have hl1 : ¬ ((b.size : Int) < f.low) := by omega
     have hl2 : ¬ (f.high < (b.size : Int)) := by omega
     clear hat hn hen hbl hrest HREC h1 h2 h3 hg hb hr hN hed
     go_wp2_with fail
     refine HC.out.mono ?_
     rintro e wq ⟨rfl, hRq, hGq⟩
     have hsx := HS.out
     have hxq := gr_ne hGq HX.out (fun e => HS.out.2.1 e.symm)
     obtain ⟨y0, y1, y2⟩ := box3r hxq
     have fy0 : wq.frozen? ⟨rx, 0, none⟩ = false := frozenc hxq
     have fy1 : wq.frozen? ⟨rx, 1, none⟩ = false := frozenc hxq
     have fy2 : wq.frozen? ⟨rx, 2, none⟩ = false := frozenc hxq
     have HXQ := Lib.hid hxq
     have HRQ := Lib.hid hRq
     have HGQ := Lib.hid (gr_trans (gr_ext HE2.out) hGq)
     clear hsx hxq hRq hGq
     go_wp2_with fail
     refine ret_vl (g := rx) rfl rfl (set3v_box _ _ _ HXQ.out) rfl ?_
     exact ⟨none, 0, rfl, by rw [HNP.out]; exact (set3v_other _ _ _ HS.out.2.1).trans HRQ.out, gr_set2 (gr_set2 (gr_set2 HGQ.out HS.out.1) HS.out.1) HS.out.1, LsG.nil⟩
   | true =>
     have hfh := hr.2 rfl
     rw [← hfh] at z4
     have hmin : min ((ed : Int) - (k : Int)) (b.size : Int) = (b.size : Int) := by omega
     have hml : (b.size : Int) ≤ (ed : Int) - (k : Int) := by omega
     have hl1 : ¬ ((b.size : Int) < f.low) := by omega
     have hl2 : ¬ ((b.size : Int) < (b.size : Int)) := by omega
     clear hat hn hen hbl hrest HREC h1 h2 h3 hg hb hr hN hfh
     go_wp2_with fail
     refine HC.out.mono ?_
     rintro e wq ⟨rfl, hRq, hGq⟩
     have hsx := HS.out
     have hxq := gr_ne hGq HX.out (fun e => HS.out.2.1 e.symm)
     obtain ⟨y0, y1, y2⟩ := box3r hxq
     have fy0 : wq.frozen? ⟨rx, 0, none⟩ = false := frozenc hxq
     have fy1 : wq.frozen? ⟨rx, 1, none⟩ = false := frozenc hxq
     have fy2 : wq.frozen? ⟨rx, 2, none⟩ = false := frozenc hxq
     have HXQ := Lib.hid hxq
     have HRQ := Lib.hid hRq
     have HGQ := Lib.hid (gr_trans (gr_ext HE2.out) hGq)
     clear hsx hxq hRq hGq
     go_wp2_with fail
     refine ret_vl (g := rx) rfl rfl (set3v_box _ _ _ HXQ.out) rfl ?_
     exact ⟨none, 0, rfl, by rw [HNP.out]; exact (set3v_other _ _ _ HS.out.2.1).trans HRQ.out, gr_set2 (gr_set2 (gr_set2 HGQ.out HS.out.1) HS.out.1) HS.out.1, LsG.nil⟩
 · have HC := Lib.hid (HREC h1 w2 HE2.out)
   rw [h1] at z0
   clear hat hn hrest HREC h1 h2 h3 h4 h5 hg hN
   go_wp2_with fail
   refine HC.out.mono ?_
   rintro e wq ⟨ka, kc, rfl, hRq, hGq, hL⟩
   have HL := Lib.hid hL
   clear hL
   have hsx := HS.out
   have hxq := gr_ne hGq HX.out (fun e => HS.out.2.1 e.symm)
   obtain ⟨y0, y1, y2⟩ := box3r hxq
   have fy0 : wq.frozen? ⟨rx, 0, none⟩ = false := frozenc hxq
   have fy1 : wq.frozen? ⟨rx, 1, none⟩ = false := frozenc hxq
   have fy2 : wq.frozen? ⟨rx, 2, none⟩ = false := frozenc hxq
   have HXQ := Lib.hid hxq
   have HRQ := Lib.hid hRq
   have HGQ := Lib.hid (gr_trans (gr_ext HE2.out) hGq)
   clear hsx hxq hRq hGq
   go_wp2_with fail
   refine ret_vl (g := rx) rfl rfl (set3v_box _ _ _ HXQ.out) rfl ?_
   refine ⟨ka, kc, rfl, (set3v_other _ _ _ HS.out.2.1).trans HRQ.out, gr_set2 (gr_set2 (gr_set2 HGQ.out HS.out.1) HS.out.1) HS.out.1, ?_⟩
   exact HL.out.hold (fun c hc _ => set3v_other _ _ _ (by have h : w2.heap.size ≤ c := hc; have := HS.out.2.2.1; omega)) (fun c hc _ => by have h : w2.heap.size ≤ c := hc; have := HE2.out.size; show w.heap.size ≤ c; omega)
end Go.Proofs.YtfaienbdebjfcaaGreat
