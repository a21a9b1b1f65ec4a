/- Contracts: whether a node has each variable as often as another one. -/
import Derived.Test.YtkobikdkbpdjeaaDoorBF
namespace Go.Proofs.YtkobikdkbpdjeaaDoor
open Go Go.RowKit Go.Maps
set_option linter.unusedVariables false
set_option linter.unusedSimpArgs false

mutual
theorem vrs_sub {l : List ByteArray} {N : List Nd} (hG : Grown l N) {v : Tm} : ∀ (t : Tm) (i : Nat) (x : Nd), N[i]? = some x → x.t = t → v ∈ vrs t → ∃ (m : Nat) (z : Nd), N[m]? = some z ∧ z.t = v
 | .mk k n s ks, i, x, hx, hxt, hv => by
   rw [vrs] at hv
   rcases List.mem_append.1 hv with hv | hv
   · split at hv
     · simp at hv
       exact ⟨i, x, hx, by rw [hxt, hv]⟩
     · simp at hv
   · refine vrsL_sub hG ks (fun u hu => ?_) hv
     obtain ⟨j, hj⟩ := List.mem_iff_getElem?.1 hu
     have hl := hG.len x (List.mem_of_getElem? hx)
     have hk : x.t.kids = ks := by rw [hxt]; rfl
     have hjl := (List.getElem?_eq_some_iff.1 hj).1
     have hjx : j < x.ks.length := by rw [hl, hk]; exact hjl
     obtain ⟨m, y, -, -, hy, hyk⟩ := hG.kid i x hx j x.ks[j] (List.getElem?_eq_getElem hjx)
     rw [hk, hj] at hyk
     cases hyk
     exact ⟨m, y, hy, rfl⟩
theorem vrsL_sub {l : List ByteArray} {N : List Nd} (hG : Grown l N) {v : Tm} : ∀ (L : List Tm), (∀ u ∈ L, ∃ (m : Nat) (z : Nd), N[m]? = some z ∧ z.t = u) → v ∈ vrsL L → ∃ (m : Nat) (z : Nd), N[m]? = some z ∧ z.t = v
 | [], _, hv => by simp [vrsL] at hv
 | t :: ks, hL, hv => by
   rw [vrsL] at hv
   rcases List.mem_append.1 hv with hv | hv
   · obtain ⟨m, z, hz, e⟩ := hL t (by simp)
     exact vrs_sub hG t m z hz e hv
   · exact vrsL_sub hG ks (fun u hu => hL u (by simp [hu])) hv
end
theorem occ_at {N : List Nd} {m : Nat} {z : Nd} (hz : N[m]? = some z) (t : Tm) : occ N t (m : Int) = if z.t.kind = 1 then cnt z.t t else 0 := by
 unfold occ
 simp [hz]
/-- the counts tell it -/
theorem cov_occ {l : List ByteArray} {N : List Nd} {i k : Nat} {x y : Nd} (hG : Grown l N) (hN : N.length ≤ 1000) (hx : N[i]? = some x) (hy : N[k]? = some y) : cov x.t y.t = true ↔ ∀ m : Int, I64 m → 0 ≤ occ N x.t m - occ N y.t m := by
 constructor
 · intro h m _
   rw [cov_iff] at h
   unfold occ
   split
   · cases hz : N[m.toNat]? with
     | none => simp
     | some z =>
       simp only
       split
       · rename_i h1
         have := h z.t h1
         omega
       · simp
   · simp
 · intro h
   unfold cov
   rw [List.all_eq_true]
   intro v hv
   rw [decide_eq_true_eq]
   obtain ⟨m, z, hz, rfl⟩ := vrs_sub hG y.t k y hy rfl hv
   have h1 := vrs_kind y.t hv
   have hm := (List.getElem?_eq_some_iff.1 hz).1
   have := h (m : Int) (by unfold I64; omega)
   rw [occ_at hz, occ_at hz, if_pos h1, if_pos h1] at this
   omega

set_option maxRecDepth 100000 in
set_option maxHeartbeats 8000000 in
theorem covers_any {w : World} {B fb ib mb : Nat} {l : List ByteArray} {lv nv : Value} {N : List Nd} {S : Nat → Prop} {wa : Option Addr} {wc : Nat} {W : List Int} {i k : Nat} {x y : Nd} (hSW : SW w B fb ib mb l lv nv N S wa wc W) (hN : N.length ≤ 1000) (hsz : sizeT x.t ≤ 10000 ∧ sizeT y.t ≤ 10000) (hx : N[i]? = some x) (hy : N[k]? = some y) :
 Calls Tryd.prog 49 #[.agg #[.pointer (some ⟨fb, 0, none⟩), .slice wa W.length wc], .int .i64 i, .int .i64 k] w fun e w' => e = .returned (.bool (cov x.t y.t)) ∧ Ext w w' := by
 obtain ⟨sx, w1, hsx, hw1, HB1, hE1⟩ := box_new w (.cells #[.pointer (some ⟨fb, 0, none⟩), .slice wa W.length wc] 60)
 obtain ⟨cb, w2, hcb, hw2, HB2, hE2⟩ := box_new w1 (.map #[] 0)
 have hE12 := hE1.trans hE2
 have hb2 := hs_ext hE2 HB1.out
 have s0 : w2.cell? ⟨sx, 0, none⟩ = some (.pointer (some ⟨fb, 0, none⟩)) := by rw [cellc hb2]; rfl
 have s1 : w2.cell? ⟨sx, 1, none⟩ = some (.slice wa W.length wc) := by rw [cellc hb2]; rfl
 have hcb1 : cb = sx + 1 := by rw [hcb, hw1, World.size_alloc, hsx]
 have HSW := Lib.hid (hSW.ext hE12)
 have HSX : Hid (sx = w.heap.size ∧ cb = sx + 1) := Lib.hid ⟨hsx, hcb1⟩
 have HNI : Hid (cb ≠ ib ∧ B ≤ cb) := Lib.hid ⟨by have := hSW.fw.ibl; omega, by have := hSW.fw.low.2.2.2.2; omega⟩
 have HM0 : Hid (CK w2 cb 0 (fun _ => 0)) := Lib.hid ⟨.map [], 0, Nat.le_refl _, by rw [hw2, hcb]; exact World.ownsMap_made _ _ _ _, fun m _ => rfl⟩
 have HE := Lib.hid hE12
 have HX := Lib.hid hx
 have HY := Lib.hid hy
 have HB := Lib.hid hb2
 have HC1 := Lib.hid (count_any _ w2 B fb ib mb l lv nv N S wa wc W cb 0 (fun _ => 0) 0 1 i x (Nat.le_refl _) (by omega) HSW.out hN hx HM0.out (by omega) HNI.out.1 HNI.out.2 (fun m => by simp) (by omega) (by omega) (.inl rfl))
 obtain ⟨V, hV⟩ : ∃ V, V = cov x.t y.t := ⟨_, rfl⟩
 rw [← hV]
 have HV := Lib.hid hV
 have hmm := @run_makeMap Tryd.prog
 clear hV hSW hE1 hE2 hE12 hb2 hx hy
 go_enter Tryd.func49, Tryd.ntmps49
 go_upto_region 2 with fail
 rw [← hw1, ← hw2, ← hsx, ← hcb1]
 clear hw1 hw2 hsx hcb hcb1 hmm
 go_wp2_with fail
 refine HC1.out.mono ?_
 rintro e w3 ⟨rfl, k3, c3⟩
 have HK3 := Lib.hid k3
 have HCK3 := Lib.hid c3
 have hb3 := k3.hs HB.out (by have := HSX.out; omega)
 have s0 : w3.cell? ⟨sx, 0, none⟩ = some (.pointer (some ⟨fb, 0, none⟩)) := by rw [cellc hb3]; rfl
 have s1 : w3.cell? ⟨sx, 1, none⟩ = some (.slice wa W.length wc) := by rw [cellc hb3]; rfl
 have HSW3 := Lib.hid (HSW.out.count HM0.out.map HNI.out.1 HNI.out.2 k3)
 have HC2 := Lib.hid (count_any _ w3 B fb ib mb l lv nv N S wa wc W cb (0 + sizeT x.t) _ (sizeT x.t : Int) (-1) k y (Nat.le_refl _) (by omega) HSW3.out hN HY.out HCK3.out (by omega) HNI.out.1 HNI.out.2 (fun m => by have := occ_rng N x.t m; omega) (by omega) (by omega) (.inr rfl))
 clear k3 c3 hb3
 go_wp2_with fail
 refine HC2.out.mono ?_
 rintro e w4 ⟨rfl, k4, c4⟩
 have HK4 := Lib.hid (HK3.out.trans k4)
 obtain ⟨c, hc⟩ : ∃ c : Int → Int, c = fun m => 0 + 1 * occ N x.t m + -1 * occ N y.t m := ⟨_, rfl⟩
 rw [← hc] at c4
 have HCC : Hid (cov x.t y.t = true ↔ ∀ m : Int, I64 m → 0 ≤ c m) := Lib.hid (by
  rw [cov_occ HSW.out.fw.grown hN HX.out HY.out, hc]
  constructor
  · intro h m hm; have := h m hm; simp only; omega
  · intro h m hm; have := h m hm; simp only at this; omega)
 obtain ⟨D, n, hn, hown, hat⟩ := c4
 have HAT := Lib.hid hat
 have HX4 : Hid (Ext w w4) := Lib.hid (Below.trans (Ext.below HE.out (Nat.le_refl _)) (HK4.out.outside HE.out.size (by have := HSX.out; omega)))
 rw [← HV.out] at HCC
 clear k4 hc hat s0 s1
 go_wp2_with (first
  | (at_range
     refine wpList_range_own _ rfl _ 96 rfl 3 3 lawI Tryd.underlying96 _ cb n _ rfl hown ?_
     intro w5 hrg5 hg5 hs5))
 go_frame
 go_loopw [9] (fun _ wr => ∃ (left : Lit → Bool) (lc : Nat), wr.ranges Tryd.prog 3 (plainElem Tryd.prog 3) cb w4.heap.size n D left lc ∧ Hid (Ext w wr) ∧ Hid (∀ m : Int, I64 m → left (.int .i64 m) = false → 0 ≤ c m)) (fun _ wr => wr.rangeLeft cb w4.heap.size)
 case atStart => exact ⟨_, _, hrg5, Lib.hid (HX4.out.grown hg5 (fun k hk => by cases hk)), Lib.hid (fun m hm h => by
   have := HAT.out m hm
   rw [atKey_of_not_has h] at this
   simp at this; omega)⟩
 case round =>
  obtain ⟨left, lc, hrg, HEr, HL⟩ := hrel
  go_wp2_with (first
   | (at_next
      refine wpList_next_ranges_ii _ rfl _ rfl 3 3 .i64 .i64 lawI Tryd.underlying3 Tryd.underlying3 cb w4.heap.size n _ _ _ rfl hrg ?_ ?_))
  · intro _ hl0
    have HV1 : Hid (V = true) := Lib.hid (HCC.out.2 (fun m hm => HL.out m hm (hl0 _)))
    go_wp2_with fail
    go_ret
    exact ⟨by rw [HV1.out]; rfl, HEr.out⟩
  · intro q e w6 cnt6 hwq hwe hlq hatq hrg6 hlt hg6 hs6 hen
    have HE6 : Hid (Ext w w6) := Lib.hid (HEr.out.grown hg6 (fun k hk => by cases hk; exact HX4.out.size))
    have HQ : Hid (I64 q ∧ e = c q) := Lib.hid (by
     have hq : I64 q := by
      have h := hwq
      unfold I64
      simp only [Lit.wf, Bool.and_eq_true, decide_eq_true_eq] at h
      have e1 : IntKind.i64.min = -9223372036854775808 := by decide
      have e2 : IntKind.i64.max = 9223372036854775807 := by decide
      omega
     refine ⟨hq, ?_⟩
     have := HAT.out q hq
     rw [hatq] at this
     simpa using this)
    by_cases he : e < 0
    · have HV0 : Hid (V = false) := Lib.hid (by
       rw [Bool.eq_false_iff]
       intro h
       have := HCC.out.1 h q HQ.out.1
       have := HQ.out.2
       omega)
      go_wp2_with fail
      go_ret
      exact ⟨by rw [HV0.out]; rfl, HE6.out⟩
    · go_wp2_with fail
      go_roundw
      case rel => exact ⟨_, cnt6, hrg6, HE6, Lib.hid (fun m hm h => by
        by_cases hmq : m = q
        · subst hmq; have := HQ.out.2; omega
        · refine HL.out m hm ?_
          have : (Lit.int .i64 m).sameKey (.int .i64 q) = false := by simp [Lit.sameKey, hmq]
          rw [this] at h
          simpa using h)⟩
      case measure => rw [hrg6.left_eq, hrg.left_eq]; exact hlt

end Go.Proofs.YtkobikdkbpdjeaaDoor
