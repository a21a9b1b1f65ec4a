/- The walk of the law RewriteRedexes. -/
import Derived.Test.YtpfnlbaloaohgaaGreatA2
import Derived.Test.YtpfnlbaloaohgaaGreatN47
import Derived.Test.YtpfnlbaloaohgaaGreatN34
namespace Go.Proofs.YtpfnlbaloaohgaaGreat
open Go Go.RowKit
set_option linter.unusedVariables false
set_option linter.unusedSimpArgs false

theorem few_oneT {t : Tm} {m : Int} (h : fewT [t] 1 m = true) : (sizeT t : Int) ≤ m := by
  have h1 := (few_size h).2
  simp only [sizeL] at h1
  omega

set_option maxRecDepth 100000 in
set_option maxHeartbeats 8000000 in
theorem law_redexes {w : World} {S S' : Nat → Prop} {a ta : Option Addr} {cap tc : Nat} {R : List (Tm × Tm)} {t : Tm} (hL : LsG elP w S (.slice a R.length cap) R) (hz : FitsR (R.length + 1)) (hT : TmW w S' ta tc t) :
    Calls Tryz.prog 3 #[.slice a R.length cap, .agg #[.int .i64 t.kind, .string t.name, .int .i64 t.sort, .slice ta t.kids.length tc]] w fun e w' => e = .returned (.bool true) ∧ Ext w w' := by
  obtain ⟨-, hll, hlc⟩ := hL.len
  unfold maxLen at hlc
  obtain ⟨bx, hbbx⟩ : ∃ zz9, zz9 = w.heap.size := ⟨_, rfl⟩
  obtain ⟨w1, hwbx⟩ : ∃ zz9, zz9 = w.alloc (.cells #[.int .i64 t.kind, .string t.name, .int .i64 t.sort, .slice ta t.kids.length tc] 25) := ⟨_, rfl⟩
  have HBbx : Hid (w1.heap[bx]? = some (.cells #[.int .i64 t.kind, .string t.name, .int .i64 t.sort, .slice ta t.kids.length tc] 25)) := Lib.hid (by rw [hwbx, hbbx]; exact hs_new)
  have hEbx : Ext w w1 := by rw [hwbx]; exact Ext.alloc _ _
  have b0 : w1.cell? ⟨bx, 0, none⟩ = some (.int .i64 t.kind) := by rw [cellc (HBbx.out)]; rfl
  have b1 : w1.cell? ⟨bx, 1, none⟩ = some (.string t.name) := by rw [cellc (HBbx.out)]; rfl
  have b2 : w1.cell? ⟨bx, 2, none⟩ = some (.int .i64 t.sort) := by rw [cellc (HBbx.out)]; rfl
  have b3 : w1.cell? ⟨bx, 3, none⟩ = some (.slice ta t.kids.length tc) := by rw [cellc (HBbx.out)]; rfl
  have HL := Lib.hid (hL.ext hEbx)
  have HT := Lib.hid (hT.ext hEbx)
  have HE1 := Lib.hid hEbx
  have HCA := Lib.hid (fun w' => awake5 (w := w'))
  obtain ⟨o, ho⟩ : ∃ o, o = fewT (sidesR R) (2 * 6) 120 := ⟨_, rfl⟩
  have HCF := Lib.hid (fun w' (hE : Ext w1 w') => by
    have h := RFewR_any (w := w') (n := 6) (m := 120) (by omega) (by omega) (by omega) (by omega) hz ((hL.ext hEbx).ext hE)
    rw [← ho] at h
    exact h)
  have HO := Lib.hid ho
  obtain ⟨o2, ho2⟩ : ∃ o, o = fewT [t] 1 60 := ⟨_, rfl⟩
  have HO2 := Lib.hid ho2
  clear hL hz hT hEbx ho ho2
  go_enter Tryz.func3, Tryz.ntmps3
  go_upto_region 1 with fail
  rw [← hwbx, ← hbbx]
  clear hwbx hbbx
  go_wp2_with fail
  refine (HCA.out _).mono ?_
  rintro e w2 ⟨rfl, hE2⟩
  have b0 := cs_ext hE2 b0
  have b1 := cs_ext hE2 b1
  have b2 := cs_ext hE2 b2
  have b3 := cs_ext hE2 b3
  have HL := Lib.hid (HL.out.ext hE2)
  have HT := Lib.hid (HT.out.ext hE2)
  have HE1 := Lib.hid (HE1.out.trans hE2)
  have HX2 := Lib.hid hE2
  clear hE2
  go_wp2_with fail
  refine (HCF.out _ HX2.out).mono ?_
  rintro e w3 ⟨rfl, hE3⟩
  have b0 := cs_ext hE3 b0
  have b1 := cs_ext hE3 b1
  have b2 := cs_ext hE3 b2
  have b3 := cs_ext hE3 b3
  have HL := Lib.hid (HL.out.ext hE3)
  have HT := Lib.hid (HT.out.ext hE3)
  have HE1 := Lib.hid (HE1.out.trans hE3)
  clear hE3
  cases o with
  | false =>
    go_wp2_with fail
    refine (HCA.out _).mono ?_
    rintro e w9 ⟨rfl, hE9⟩
    have HE9 := Lib.hid (HE1.out.trans hE9)
    clear hE9
    go_wp2_with fail
    go_ret
    exact ⟨rfl, HE9.out⟩
  | true =>
    have HS : Hid (smallR R) := Lib.hid (small_few (by omega) HO.out.symm)
    obtain ⟨fb, hfb⟩ : ∃ zz9, zz9 = w3.heap.size := ⟨_, rfl⟩
    obtain ⟨w4, hw4⟩ : ∃ zz9, zz9 = w3.alloc (.cells #[.int .i64 t.kind, .string t.name, .int .i64 t.sort, .slice ta t.kids.length tc] 25) := ⟨_, rfl⟩
    have hE4 : Ext w3 w4 := by rw [hw4]; exact Ext.alloc _ _
    have hfl : LsT w4 S' (.slice (some ⟨fb, 0, none⟩) 1 1) [t] := one_ls (by rw [hw4, hfb]; exact hs_new) (HT.out.ext hE4)
    have hcf := Few_any (w := w4) (n := 1) (m := 60) (L := [t]) (cap := 1) (by omega) (by omega) (by omega) (by unfold maxLen; simp) hfl.ts
    rw [← HO2.out] at hcf
    have HCF2 := Lib.hid hcf
    go_wp2_with fail
    rw [← hw4, ← hfb]
    clear hw4 hfb
    have b0 := cs_ext hE4 b0
    have b1 := cs_ext hE4 b1
    have b2 := cs_ext hE4 b2
    have b3 := cs_ext hE4 b3
    have HL := Lib.hid (HL.out.ext hE4)
    have HT := Lib.hid (HT.out.ext hE4)
    have HE1 := Lib.hid (HE1.out.trans hE4)
    clear hE4 hfl hcf
    refine HCF2.out.mono ?_
    rintro e w5 ⟨rfl, hE5⟩
    have b0 := cs_ext hE5 b0
    have b1 := cs_ext hE5 b1
    have b2 := cs_ext hE5 b2
    have b3 := cs_ext hE5 b3
    have HL := Lib.hid (HL.out.ext hE5)
    have HT := Lib.hid (HT.out.ext hE5)
    have HE1 := Lib.hid (HE1.out.trans hE5)
    clear hE5
    cases o2 with
    | false =>
      go_wp2_with fail
      refine (HCA.out _).mono ?_
      rintro e w9 ⟨rfl, hE9⟩
      have HE9 := Lib.hid (HE1.out.trans hE9)
      clear hE9
      go_wp2_with fail
      go_ret
      exact ⟨rfl, HE9.out⟩
    | true =>
      have HTZ : Hid (sizeT t ≤ 60) := Lib.hid (by have := few_oneT HO2.out.symm; omega)
      have hn := normal_red R t
      have hp := PRedexes_any HS.out HL.out (by have := HTZ.out; omega) HT.out
      have hq := fun w' (hE : Ext w5 w') => PIsNormal_any (w := w') HS.out (HL.out.ext hE) (by have := HTZ.out; omega) (HT.out.ext hE)
      have hp' := fun w' (hE : Ext w5 w') => RRedexes_any (w := w') HS.out (HL.out.ext hE) (by have := HTZ.out; omega) (HT.out.ext hE)
      have hq' := fun w' (hE : Ext w5 w') => RIsNormal_any (w := w') HS.out (HL.out.ext hE) (by have := HTZ.out; omega) (HT.out.ext hE)
      obtain ⟨X, hX⟩ : ∃ X, X = redP R t := ⟨_, rfl⟩
      obtain ⟨z, hzz⟩ : ∃ z, z = normalP R t := ⟨_, rfl⟩
      rw [← hX] at hn hp hp'
      rw [← hzz] at hn hq hq'
      have HN : Hid (X.length ≠ 0 → z = false) := Lib.hid (fun h => by rw [hn, decide_eq_false h, Bool.and_false])
      have HP := Lib.hid hp
      have HQ := Lib.hid hq
      have HP' := Lib.hid hp'
      have HQ' := Lib.hid hq'
      clear hn hp hq hp' hq' hX hzz
      go_wp2_with fail
      refine HP.out.mono ?_
      rintro e w6 ⟨v, rfl, hE6, hX6⟩
      obtain ⟨xa, xc, rfl, hxl, hxc⟩ := hX6.slice
      unfold maxLen at hxc
      have b0 := cs_ext hE6 b0
      have b1 := cs_ext hE6 b1
      have b2 := cs_ext hE6 b2
      have b3 := cs_ext hE6 b3
      have HE1 := Lib.hid (HE1.out.trans hE6)
      have HX6 := Lib.hid hX6
      have HE56 := Lib.hid hE6
      clear hE6 hX6
      go_wp2_with fail
      refine (HQ.out _ HE56.out).mono ?_
      rintro e w7 ⟨rfl, hE7⟩
      have b0 := cs_ext hE7 b0
      have b1 := cs_ext hE7 b1
      have b2 := cs_ext hE7 b2
      have b3 := cs_ext hE7 b3
      have HE1 := Lib.hid (HE1.out.trans hE7)
      have HX6 := Lib.hid (HX6.out.ext hE7)
      have HE56 := Lib.hid (HE56.out.trans hE7)
      clear hE7
      go_wp2_with fail
      refine (HP'.out _ HE56.out).mono ?_
      rintro e w8 ⟨v, rfl, hE8, hY8⟩
      obtain ⟨ya, yc, rfl, hyl, hyc⟩ := hY8.slice
      unfold maxLen at hyc
      have b0 := cs_ext hE8 b0
      have b1 := cs_ext hE8 b1
      have b2 := cs_ext hE8 b2
      have b3 := cs_ext hE8 b3
      have HE1 := Lib.hid (HE1.out.trans hE8)
      have HX6 := Lib.hid (HX6.out.ext hE8)
      have HE56 := Lib.hid (HE56.out.trans hE8)
      have hcs := RSameTrace_any HX6.out hY8
      rw [show decide (X = X) = true from decide_eq_true rfl] at hcs
      have HCS := Lib.hid hcs
      clear hE8 hY8 hcs
      go_wp2_with fail
      refine HCS.out.mono ?_
      rintro e w9 ⟨rfl, hE9⟩
      have b0 := cs_ext hE9 b0
      have b1 := cs_ext hE9 b1
      have b2 := cs_ext hE9 b2
      have b3 := cs_ext hE9 b3
      have HE1 := Lib.hid (HE1.out.trans hE9)
      have HX6 := Lib.hid (HX6.out.ext hE9)
      have HE56 := Lib.hid (HE56.out.trans hE9)
      clear hE9
      go_wp2_with fail
      refine (HQ'.out _ HE56.out).mono ?_
      rintro e w10 ⟨rfl, hE10⟩
      have HE1 := Lib.hid (HE1.out.trans hE10)
      clear hE10
      by_cases h0 : X.length = 0
      · have e0 : ((X.length : Int) == 0) = true := by simp [h0]
        have ez : (z == z) = true := by simp
        clear h0
        go_wp2_with fail
        go_ret
        exact ⟨rb (by simp), HE1.out⟩
      · have e0 : ((X.length : Int) == 0) = false := by simpa using h0
        have hz0 := HN.out h0
        subst hz0
        clear h0
        go_wp2_with fail
        go_ret
        exact ⟨rb (by simp), HE1.out⟩

end Go.Proofs.YtpfnlbaloaohgaaGreat
