/- Contracts: the reference's order: stronger, light, right, wrong. -/
import Derived.Test.YtkobikdkbpdjeaaGreatDoorC5
namespace Go.Proofs.YtkobikdkbpdjeaaGreatDoor
open Go Go.RowKit
set_option linter.unusedVariables false
set_option linter.unusedSimpArgs false

theorem orE_z (a : Int) : orE a 0 = a := by unfold orE; split <;> omega
theorem lex_strong (l : List ByteArray) (s t : Tm) : lexI [rnk l s.name, s.kind, s.sort, (s.kids.length : Int)] [rnk l t.name, t.kind, t.sort, (t.kids.length : Int)] = strong l s t := by
 simp only [lexI]
 rw [orE_z]
 rfl
theorem rnk_6 (l : List ByteArray) (s : ByteArray) (h : l.length ≤ maxLen) : I64 (rnk l s) := by
 have h1 := rnk_lo l s
 have h2 := rnk_hi l s
 unfold maxLen at h
 unfold I64
 omega
set_option maxRecDepth 100000 in
set_option maxHeartbeats 2000000 in
theorem RStrong_any {w : World} {Sl S S' : Nat → Prop} {v a a' : Option Addr} {m vc cap cap' : Nat} {l : List ByteArray} {s t : Tm} (hL : LsG elS w Sl (.slice v m vc) l) (hs : TmW w S a cap s) (ht : TmW w S' a' cap' t) :
 Calls Tryz.prog 47 #[.slice v m vc, .agg #[.int .i64 s.kind, .string s.name, .int .i64 s.sort, .slice a s.kids.length cap], .agg #[.int .i64 t.kind, .string t.name, .int .i64 t.sort, .slice a' t.kids.length cap']] w fun e w' => e = .returned (.int .i64 (strong l s t)) ∧ Ext w w' := by
 have hsl := hs.len
 have hsc := hs.cap
 have htl := ht.len
 have htc := ht.cap
 unfold maxLen at hsc htc
 obtain ⟨rfl, hvl, hvc⟩ := hL.len
 obtain ⟨bx, w0, hbbx, hwbx, HBbx, hEbx⟩ := box_new w (.cells #[.int .i64 s.kind, .string s.name, .int .i64 s.sort, .slice a s.kids.length cap] 24)
 obtain ⟨cx, w1, hbcx, hwcx, HBcx, hEcx⟩ := box_new w0 (.cells #[.int .i64 t.kind, .string t.name, .int .i64 t.sort, .slice a' t.kids.length cap'] 24)
 have hcx1 : cx = bx + 1 := by rw [hbcx, hwbx, World.size_alloc, hbbx]
 have HBX := Lib.hid (hs_ext hEcx HBbx.out)
 have hE1 := hEbx.trans hEcx
 obtain ⟨b0, b1, b2, b3⟩ := box4r (HBX.out)
 obtain ⟨c0, c1, c2, c3⟩ := box4r (HBcx.out)
 have HL := Lib.hid (hL.ext hE1)
 have hr6 := rnk_6 l s.name (by omega)
 have hq6 := rnk_6 l t.name (by omega)
 have h1 := fun (w' : World) (h : Ext w1 w') => at_any (s := s.name) (HL.out.ext h) hs.name
 have h2 := fun (w' : World) (h : Ext w1 w') => at_any (s := t.name) (HL.out.ext h) ht.name
 have HST := Lib.hid (lex_strong l s t)
 obtain ⟨r, hr⟩ : ∃ r, r = rnk l s.name := ⟨_, rfl⟩
 obtain ⟨q, hq⟩ : ∃ q, q = rnk l t.name := ⟨_, rfl⟩
 obtain ⟨V, hV⟩ : ∃ V, V = strong l s t := ⟨_, rfl⟩
 rw [← hr, ← hq, ← hV] at HST
 rw [← hV]
 rw [← hr] at h1 hr6
 rw [← hq] at h2 hq6
 have H1 := Lib.hid h1
 have H2 := Lib.hid h2
 have HR6 := Lib.hid hr6
 have HQ6 := Lib.hid hq6
 have HSK := Lib.hid hs.kind
 have HSS := Lib.hid hs.sort
 have HTK := Lib.hid ht.kind
 have HTS := Lib.hid ht.sort
 have HE := Lib.hid hE1
 clear h1 h2 hr hq hV hr6 hq6 hL hs ht hE1 hEbx hEcx
 go_enter Tryz.func47, Tryz.ntmps47
 go_upto_region 1 with fail
 rw [← hwbx, ← hbbx]
 clear hwbx hbbx
 rw [← hwcx, ← hcx1]
 clear hwcx hcx1 hbcx
 have HFCT := Lib.hid (And.intro b0 (And.intro b1 (And.intro b2 b3)))
 refine wp_region_reg 12 false (by kernel_rfl) (by kernel_rfl) ?_
 refine reg_value (fun _ => rfl) ?_ (fun g w' vs hM hE hP => ?_) ?_
 rotate_left
 · (clear hP hM; have ⟨z0, z1, z2, z3⟩ := cs_e4 hE HFCT.out; go_simp; first | done | rfl)
 refine reg_value (fun _ => rfl) ?_ (fun g w' vs hM hE hP => ?_) ?_
 rotate_left
 · (clear hP hM; have ⟨z0, z1, z2, z3⟩ := cs_e4 hE HFCT.out; go_simp; first | done | rfl)
 refine reg_value (fun _ => rfl) ?_ (fun g w' vs hM hE hP => ?_) ?_
 rotate_left
 · (clear hP hM; have ⟨z0, z1, z2, z3⟩ := cs_e4 hE HFCT.out; go_simp; first | done | rfl)
 refine reg_const (fun _ => rfl) 43 ?_ (fun g w' vs hM hE hP => ?_) ?_
 rotate_left
 · (clear hP hM; have ⟨z0, z1, z2, z3⟩ := cs_e4 hE HFCT.out; go_simp; first | done | exact ⟨rfl, rfl⟩ | rfl)
 apply Exists.intro
 refine And.intro (fun g w' vs hM hE hP => ?_) ?_
 · exact H1.out w' hE
 refine reg_value (fun _ => rfl) ?_ (fun g w' vs hM hE hP => ?_) ?_
 rotate_left
 · (clear hP hM; have ⟨z0, z1, z2, z3⟩ := cs_e4 hE HFCT.out; go_simp; first | done | rfl)
 refine reg_value (fun _ => rfl) ?_ (fun g w' vs hM hE hP => ?_) ?_
 rotate_left
 · (clear hP hM; have ⟨z0, z1, z2, z3⟩ := cs_e4 hE HFCT.out; go_simp; first | done | rfl)
 refine reg_value (fun _ => rfl) ?_ (fun g w' vs hM hE hP => ?_) ?_
 rotate_left
 · (clear hP hM; have ⟨z0, z1, z2, z3⟩ := cs_e4 hE HFCT.out; go_simp; first | done | rfl)
 refine reg_value (fun _ => rfl) ?_ (fun g w' vs hM hE hP => ?_) ?_
 rotate_left
 · (clear hP hM; have ⟨z0, z1, z2, z3⟩ := cs_e4 hE HFCT.out; go_simp; first | done | rfl)
 refine reg_value (fun _ => rfl) ?_ (fun g w' vs hM hE hP => ?_) ?_
 rotate_left
 · (clear hP hM; have ⟨z0, z1, z2, z3⟩ := cs_e4 hE HFCT.out; go_simp; first | done | rfl)
 refine reg_value (fun _ => rfl) ?_ (fun g w' vs hM hE hP => ?_) ?_
 rotate_left
 · (clear hP hM; have ⟨z0, z1, z2, z3⟩ := cs_e4 hE HFCT.out; go_simp; first | done | rfl)
 refine reg_value (fun _ => rfl) ?_ (fun g w' vs hM hE hP => ?_) ?_
 rotate_left
 · (clear hP hM; have ⟨z0, z1, z2, z3⟩ := cs_e4 hE HFCT.out; go_simp; first | done | rfl)
 refine reg_fresh (fun _ => rfl) (fun n => .slice (some ⟨n, 0, none⟩) 4 4) (fun _ => .cells #[.int .i64 r, .int .i64 s.kind, .int .i64 s.sort, .int .i64 s.kids.length] 3) (fun g w' vs hM hE hP => ?_) ?_
 · clear hP hM
   go_simp
   first | done | rfl | exact ⟨rfl, rfl⟩
 intro g w2 hE2 hF hQ
 simp only [List.drop_succ_cons, List.drop_zero, Act.put, List.setIfInBounds_toArray, List.set_cons_succ, List.set_cons_zero]
 obtain ⟨hf, -⟩ := hF.2.1 ((11, fun _ => Obj.cells #[.int .i64 r, .int .i64 s.kind, .int .i64 s.sort, .int .i64 s.kids.length] 3) : Nat × (Ghs → Obj)) (by simp)
 simp only at hf
 obtain ⟨x, hx⟩ : ∃ x, x = (g 11).n := ⟨_, rfl⟩
 rw [← hx] at hf
 rw [← hx]
 have HX := Lib.hid hf
 obtain ⟨c0, c1, c2, c3⟩ := cs_e4 hE2 ⟨c0, c1, c2, c3⟩
 have HE2 := Lib.hid hE2
 clear hE2 hF hQ hf hx b0 b1 b2 b3
 go_upto_region 2 with fail
 have HFCT := Lib.hid (And.intro c0 (And.intro c1 (And.intro c2 c3)))
 refine wp_region_reg 12 false (by kernel_rfl) (by kernel_rfl) ?_
 refine reg_value (fun _ => rfl) ?_ (fun g w' vs hM hE hP => ?_) ?_
 rotate_left
 · (clear hP hM; have ⟨z0, z1, z2, z3⟩ := cs_e4 hE HFCT.out; go_simp; first | done | rfl)
 refine reg_value (fun _ => rfl) ?_ (fun g w' vs hM hE hP => ?_) ?_
 rotate_left
 · (clear hP hM; have ⟨z0, z1, z2, z3⟩ := cs_e4 hE HFCT.out; go_simp; first | done | rfl)
 refine reg_value (fun _ => rfl) ?_ (fun g w' vs hM hE hP => ?_) ?_
 rotate_left
 · (clear hP hM; have ⟨z0, z1, z2, z3⟩ := cs_e4 hE HFCT.out; go_simp; first | done | rfl)
 refine reg_const (fun _ => rfl) 43 ?_ (fun g w' vs hM hE hP => ?_) ?_
 rotate_left
 · (clear hP hM; have ⟨z0, z1, z2, z3⟩ := cs_e4 hE HFCT.out; go_simp; first | done | exact ⟨rfl, rfl⟩ | rfl)
 apply Exists.intro
 refine And.intro (fun g w' vs hM hE hP => ?_) ?_
 · exact H2.out w' (HE2.out.trans hE)
 refine reg_value (fun _ => rfl) ?_ (fun g w' vs hM hE hP => ?_) ?_
 rotate_left
 · (clear hP hM; have ⟨z0, z1, z2, z3⟩ := cs_e4 hE HFCT.out; go_simp; first | done | rfl)
 refine reg_value (fun _ => rfl) ?_ (fun g w' vs hM hE hP => ?_) ?_
 rotate_left
 · (clear hP hM; have ⟨z0, z1, z2, z3⟩ := cs_e4 hE HFCT.out; go_simp; first | done | rfl)
 refine reg_value (fun _ => rfl) ?_ (fun g w' vs hM hE hP => ?_) ?_
 rotate_left
 · (clear hP hM; have ⟨z0, z1, z2, z3⟩ := cs_e4 hE HFCT.out; go_simp; first | done | rfl)
 refine reg_value (fun _ => rfl) ?_ (fun g w' vs hM hE hP => ?_) ?_
 rotate_left
 · (clear hP hM; have ⟨z0, z1, z2, z3⟩ := cs_e4 hE HFCT.out; go_simp; first | done | rfl)
 refine reg_value (fun _ => rfl) ?_ (fun g w' vs hM hE hP => ?_) ?_
 rotate_left
 · (clear hP hM; have ⟨z0, z1, z2, z3⟩ := cs_e4 hE HFCT.out; go_simp; first | done | rfl)
 refine reg_value (fun _ => rfl) ?_ (fun g w' vs hM hE hP => ?_) ?_
 rotate_left
 · (clear hP hM; have ⟨z0, z1, z2, z3⟩ := cs_e4 hE HFCT.out; go_simp; first | done | rfl)
 refine reg_value (fun _ => rfl) ?_ (fun g w' vs hM hE hP => ?_) ?_
 rotate_left
 · (clear hP hM; have ⟨z0, z1, z2, z3⟩ := cs_e4 hE HFCT.out; go_simp; first | done | rfl)
 refine reg_fresh (fun _ => rfl) (fun n => .slice (some ⟨n, 0, none⟩) 4 4) (fun _ => .cells #[.int .i64 q, .int .i64 t.kind, .int .i64 t.sort, .int .i64 t.kids.length] 3) (fun g w' vs hM hE hP => ?_) ?_
 · clear hP hM
   go_simp
   first | done | rfl | exact ⟨rfl, rfl⟩
 intro g w3 hE3 hF hQ
 simp only [List.drop_succ_cons, List.drop_zero, Act.put, List.setIfInBounds_toArray, List.set_cons_succ, List.set_cons_zero]
 obtain ⟨hf, -⟩ := hF.2.1 ((11, fun _ => Obj.cells #[.int .i64 q, .int .i64 t.kind, .int .i64 t.sort, .int .i64 t.kids.length] 3) : Nat × (Ghs → Obj)) (by simp)
 simp only at hf
 obtain ⟨y, hy⟩ : ∃ y, y = (g 11).n := ⟨_, rfl⟩
 rw [← hy] at hf
 rw [← hy]
 have HY := Lib.hid hf
 have HX := Lib.hid (hs_ext hE3 HX.out)
 have HE3 := Lib.hid (HE.out.trans (HE2.out.trans hE3))
 clear hE3 hF hQ hf hy c0 c1 c2 c3
 have HLX := Lib.hid (RLex_any (ints4 HX.out HR6.out HSK.out HSS.out (by unfold I64; omega)) (ints4 HY.out HQ6.out HTK.out HTS.out (by unfold I64; omega)))
 rw [HST.out] at HLX
 go_wp2_with fail
 refine HLX.out.mono ?_
 rintro e w4 ⟨rfl, hE4⟩
 go_wp2_with fail
 go_ret
 exact ⟨rfl, HE3.out.trans hE4⟩

theorem least_of {R : Nat → Prop} : ∀ (n : Nat), R n → ∃ k, R k ∧ ∀ j, R j → k ≤ j := by
 intro n
 induction n using Nat.strongRecOn with
 | _ n ih =>
   intro hn
   by_cases h : ∃ j, j < n ∧ R j
   · obtain ⟨j, hj, hR⟩ := h
     exact ih j hj hR
   · exact ⟨n, hn, fun j hj => Nat.le_of_not_lt (fun hlt => h ⟨j, hlt, hj⟩)⟩
open Classical in
/-- the least number that a world allows -/
noncomputable def leastN (R : Nat → World → Prop) (w : World) : Nat := if h : ∃ k, R k w ∧ ∀ j, R j w → k ≤ j then Classical.choose h else 0
theorem leastN_spec {R : Nat → World → Prop} {w : World} (h : ∃ k, R k w) : R (leastN R w) w := by
 obtain ⟨k, hk⟩ := h
 have h := least_of (R := fun k => R k w) k hk
 unfold leastN
 rw [dif_pos h]
 exact (Classical.choose_spec h).1
theorem leastN_le {R : Nat → World → Prop} {w : World} {k : Nat} (hk : R k w) : leastN R w ≤ k := by
 have h := least_of (R := fun k => R k w) k hk
 unfold leastN
 rw [dif_pos h]
 exact (Classical.choose_spec h).2 k hk
theorem light_kids (l : List ByteArray) (W : List Int) (t x : Tm) : lightT l W t x = (decide (t = x) || (decide (t.kind = 3) && decide (t.kids.length = 1) && decide (wAt l W t.name = 0) && lightL l W t.kids x)) := by cases t; rw [lightT]; rfl

set_option maxRecDepth 100000 in
set_option maxHeartbeats 4000000 in
theorem RLight_any {w : World} {Sl Sw S S' : Nat → Prop} {v u a a' : Option Addr} {m vc q uc cap cap' : Nat} {l : List ByteArray} {W : List Int} {s x : Tm} (hs6 : sizeT s ≤ 10000) (hx6 : sizeT x ≤ 10000) (hx1 : x.kind = 1) (hlen : W.length = l.length) (hkn : knT l s = true) (hL : LsG elS w Sl (.slice v m vc) l) (hI : LsG elI w Sw (.slice u q uc) W) (hS : ∀ c, S c → c < w.heap.size) (hs : TmW w S a cap s) (hx : TmW w S' a' cap' x) :
 Calls Tryz.prog 46 #[.slice v m vc, .slice u q uc, .agg #[.int .i64 s.kind, .string s.name, .int .i64 s.sort, .slice a s.kids.length cap], .agg #[.int .i64 x.kind, .string x.name, .int .i64 x.sort, .slice a' x.kids.length cap']] w fun e w' => e = .returned (.bool (lightT l W s x)) ∧ Ext w w' := by
 have hxl := hx.len
 have hxc := hx.cap
 unfold maxLen at hxc
 obtain ⟨rfl, hul, huc⟩ := hI.len
 unfold maxLen at huc
 obtain ⟨cx, w0, hbcx, hwcx, HBcx, hEcx⟩ := box_new w (.cells #[.int .i64 s.kind, .string s.name, .int .i64 s.sort, .slice a s.kids.length cap] 24)
 obtain ⟨bx, w1, hbbx, hwbx, HBbx, hEbx⟩ := box_new w0 (.cells #[.int .i64 x.kind, .string x.name, .int .i64 x.sort, .slice a' x.kids.length cap'] 24)
 have hcx1 : bx = cx + 1 := by rw [hbbx, hwcx, World.size_alloc, hbcx]
 have hcz : cx = w.heap.size := hbcx
 have HCX := Lib.hid (hs_ext hEbx HBcx.out)
 have hE1 := hEcx.trans hEbx
 obtain ⟨b0, b1, b2, b3⟩ := box4r (HBbx.out)
 have HL := Lib.hid hL
 have HI := Lib.hid hI
 have HX := Lib.hid hx
 have HE := Lib.hid hE1
 have HLEN := Lib.hid hlen
 have HX6 := Lib.hid hx6
 have HX1 := Lib.hid hx1
 obtain ⟨V, hV⟩ : ∃ V, V = lightT l W s x := ⟨_, rfl⟩
 rw [← hV]
 obtain ⟨R, hR⟩ : ∃ R : Nat → World → Prop, R = fun k wr => ∃ (t : Tm) (ta : Option Addr) (tc : Nat), sizeT t = k ∧ sizeT t ≤ 10000 ∧ wr.heap[cx]? = some (.cells #[.int .i64 t.kind, .string t.name, .int .i64 t.sort, .slice ta t.kids.length tc] 24) ∧ TmW wr (fun c => c ≠ cx) ta tc t ∧ V = lightT l W t x ∧ knT l t = true ∧ (∀ c, c ≠ cx → c < w1.heap.size → wr.heap[c]? = w1.heap[c]?) ∧ w1.heap.size ≤ wr.heap.size ∧ Ext w wr := ⟨_, rfl⟩
 have HR := Lib.hid hR
 have HCZ := Lib.hid hcz
 have HBC : Hid (bx ≠ cx) := Lib.hid (by omega)
 have HR0 : Hid (∃ k, R k w1) := Lib.hid ⟨sizeT s, by rw [hR]; exact ⟨s, a, cap, rfl, hs6, HCX.out, (hs.ext hE1).wide (fun c h _ => by have := hS c h; omega), hV, hkn, fun _ _ _ => rfl, Nat.le_refl _, hE1⟩⟩
 clear hE1 hEcx hEbx hL hI hx hs hlen hkn hS hV hR hs6 hx1 hcz
 go_enter Tryz.func46, Tryz.ntmps46
 go_upto_region 1 with fail
 rw [← hwcx, ← hbcx]
 clear hwcx hbcx
 rw [← hwbx, ← hcx1]
 clear hwbx hcx1 hbbx
 go_loopw [28] (fun r wr => ∃ k, R k wr) (fun r wr => leastN R wr)
 case atStart => exact HR0.out
 case round =>
  have h := leastN_spec hrel
  obtain ⟨n, hn⟩ : ∃ n, n = leastN R wr := ⟨_, rfl⟩
  rw [← hn] at h
  have HNM := Lib.hid hn
  clear hn hrel
  rw [HR.out] at h
  obtain ⟨t, ta, tc, htn, ht6, hc, htw, hV, hkn, hfar, hsz, hE⟩ := h
  have htl := htw.len
  have htc := htw.cap
  unfold maxLen at htc
  obtain ⟨c0, c1, c2, c3⟩ := box4r hc
  have hlow : ∀ {b o : Nat} {z : Value}, b ≠ cx → w1.cell? ⟨b, o, none⟩ = some z → wr.cell? ⟨b, o, none⟩ = some z := fun hb hz => (World.cell?_of_block (hfar _ hb (World.block_lt_of_cell? w1 _ hz))).trans hz
  have b0 := hlow HBC.out b0
  have b1 := hlow HBC.out b1
  have b2 := hlow HBC.out b2
  have b3 := hlow HBC.out b3
  have HSA := Lib.hid (fun (w' : World) (h : Ext wr w') => RSame_any (w := w') (s := t) (t := x) (by omega) (by have := HX6.out; omega) (htw.ext h) ((HX.out.ext hE).ext h))
  have HVE := Lib.hid (hV.trans (light_kids l W t x))
  have HKN := Lib.hid hkn
  have HFAR := Lib.hid hfar
  have HTN := Lib.hid htn
  have HT6 := Lib.hid ht6
  have HTW := Lib.hid htw
  have HCC := Lib.hid hc
  have HEr := Lib.hid hE
  have HSZ := Lib.hid hsz
  have HAT := Lib.hid (at_any (s := t.name) (HL.out.ext hE) htw.name)
  clear htn ht6 hc htw hV hkn hfar hE hlow hsz
  by_cases hk3 : t.kind = 3
  · have hk3b : (t.kind == 3) = true := by simp [hk3]
    have HK3 := Lib.hid hk3
    clear hk3
    by_cases hl1 : t.kids.length = 1
    · obtain ⟨r, hr, hrl, hwr⟩ := wAt_get HLEN.out (knT_name HKN.out (by have := HK3.out; omega))
      rw [hr] at HAT
      obtain ⟨wb, wo, rfl, v0, -⟩ := (HI.out.ext HEr.out).iAt hwr
      obtain ⟨va, hva⟩ : ∃ va : Int, va = wAt l W t.name := ⟨_, rfl⟩
      rw [← hva] at v0 HVE
      have HNX : Hid (t ≠ x) := Lib.hid (fun e => by have := HX1.out; have := HK3.out; rw [e] at this; omega)
      have hl1' : ((t.kids.length : Int) == 1) = true := by simp; omega
      have r1 : (r : Int) < (W.length : Int) := by omega
      have r2 : (0 : Int) ≤ (r : Int) := by omega
      have HL1 := Lib.hid hl1
      have hl0 : (0 : Int) < (t.kids.length : Int) := by omega
      clear hva hr hrl hwr hl1
      by_cases hv0 : va = 0
      · obtain ⟨y, hy⟩ : ∃ y, t.kids[0]? = some y := ⟨_, List.getElem?_eq_getElem (by have := HL1.out; omega)⟩
        subst hv0
        have HKY := Lib.hid (knT_kid HKN.out hy)
        have HYS := Lib.hid (show sizeT y < sizeT t by have := size_kid (List.mem_of_getElem? hy); omega)
        have HVY : Hid (V = lightT l W y x) := Lib.hid (by
         rw [HVE.out, decide_eq_false HNX.out, decide_eq_true HK3.out, decide_eq_true HL1.out]
         have : t.kids = [y] := by
          have hlen := HL1.out
          match h : t.kids, hlen with
          | [q], _ => rw [h] at hy; simp at hy; rw [hy]
         rw [this]
         simp [lightL])
        obtain ⟨yb, yo, ya, yc, rfl, y0, y1, y2, y3, hTy⟩ := HTW.out.ts.at hy
        rw [Nat.zero_mul, Nat.add_zero] at y0 y1 y2 y3
        have HTY := Lib.hid hTy
        clear hy hTy
        go_upto_region 2 with (go_at_call 43; refine HAT.out.mono ?_; rintro e w2 ⟨rfl, hE2⟩; have v0 := cs_ext hE2 v0)
        obtain ⟨c0, c1, c2, c3, y0, y1, y2, y3⟩ := cs_e8 hE2 ⟨c0, c1, c2, c3, y0, y1, y2, y3⟩
        have HTY2 := Lib.hid (HTY.out.ext hE2)
        have HCC2 := Lib.hid (hs_ext hE2 HCC.out)
        have HE2 := Lib.hid hE2
        clear hE2 b0 b1 b2 b3 v0 r1 r2
        go_wp2_with ((refine wpList_storeT rfl (.tmp 6) (.tmp 31) rfl (g := cx) rfl (k := y.kind) (s := y.sort) (n := y.name) (ka := ya) (kl := y.kids.length) (kc := yc) rfl HCC2.out rfl ?_); intro w6 c6 q6 e6 z6
                     have HC6 := Lib.hid c6
                     have HQ6 := Lib.hid q6
                     have HZ6 := Lib.hid z6
                     have HE6 := Lib.hid (e6 w (HEr.out.trans HE2.out) (Nat.le_of_eq HCZ.out.symm))
                     clear c6 q6 e6 z6)
        have HRN : Hid (R (sizeT y) w6) := Lib.hid (by
         rw [HR.out]
         refine ⟨y, ya, yc, rfl, by have := HYS.out; have := HT6.out; omega, HC6.out, HTY2.out.keep (fun c hc _ => HQ6.out c hc) (fun _ h _ => h), HVY.out, HKY.out, fun c h1 h2 => ?_, ?_, HE6.out⟩
         · rw [HQ6.out c h1, HE2.out.block (by have := HSZ.out; omega)]
           exact HFAR.out c h1 h2
         · rw [HZ6.out]; exact Nat.le_trans HSZ.out HE2.out.size)
        go_roundw
        case rel =>
         refine ⟨_, _, _, _, _, _, _, _, _, _, _, _, _, _, _, _, _, _, _, _, _, _, _, ?_, rfl⟩
         exact ⟨_, HRN.out⟩
        case measure =>
         have h1 := leastN_le HRN.out
         have h2 := HYS.out
         have h3 := HTN.out
         rw [← HNM.out]
         omega
      · have HV2 : Hid (V = decide (t = x)) := Lib.hid (by rw [HVE.out, decide_eq_false hv0]; simp)
        have hv1 : (va == 0) = false := by simp [hv0]
        clear hv0
        go_upto_region 3 with (go_at_call 43; refine HAT.out.mono ?_; rintro e w2 ⟨rfl, hE2⟩; have v0 := cs_ext hE2 v0)
        obtain ⟨b0, b1, b2, b3, c0, c1, c2, c3⟩ := cs_e8 hE2 ⟨b0, b1, b2, b3, c0, c1, c2, c3⟩
        have HE2 := Lib.hid hE2
        clear hE2
        obtain ⟨y, hy⟩ : ∃ y, y = decide (t = x) := ⟨_, rfl⟩
        rw [← hy] at HSA HV2
        clear hy
        go_wp2_with (go_at_call 15; refine (HSA.out _ HE2.out).mono ?_; rintro e w5 ⟨rfl, hE5⟩)
        go_ret
        exact ⟨by rw [HV2.out]; rfl, HEr.out.trans (HE2.out.trans hE5)⟩
    · have HV2 : Hid (V = decide (t = x)) := Lib.hid (by rw [HVE.out, decide_eq_false hl1]; simp)
      have hl2 : ((t.kids.length : Int) == 1) = false := by simp; omega
      have HE2 := Lib.hid (Ext.refl wr)
      clear hl1
      obtain ⟨y, hy⟩ : ∃ y, y = decide (t = x) := ⟨_, rfl⟩
      rw [← hy] at HSA HV2
      clear hy
      go_wp2_with (go_at_call 15; refine (HSA.out _ HE2.out).mono ?_; rintro e w5 ⟨rfl, hE5⟩)
      go_ret
      exact ⟨by rw [HV2.out]; rfl, HEr.out.trans (HE2.out.trans hE5)⟩
  · have HV2 : Hid (V = decide (t = x)) := Lib.hid (by rw [HVE.out, decide_eq_false hk3]; simp)
    have hl2 : (t.kind == 3) = false := by simp [hk3]
    have HE2 := Lib.hid (Ext.refl wr)
    clear hk3
    obtain ⟨y, hy⟩ : ∃ y, y = decide (t = x) := ⟨_, rfl⟩
    rw [← hy] at HSA HV2
    clear hy
    go_wp2_with (go_at_call 15; refine (HSA.out _ HE2.out).mono ?_; rintro e w5 ⟨rfl, hE5⟩)
    go_ret
    exact ⟨by rw [HV2.out]; rfl, HEr.out.trans (HE2.out.trans hE5)⟩
end Go.Proofs.YtkobikdkbpdjeaaGreatDoor
