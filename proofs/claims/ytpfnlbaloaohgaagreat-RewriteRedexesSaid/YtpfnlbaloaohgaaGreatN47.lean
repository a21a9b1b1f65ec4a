/- Contracts: the reference's IsNormal. -/
import Derived.Test.YtpfnlbaloaohgaaGreatN46
import Derived.Test.YtpfnlbaloaohgaaGreatR10
import Derived.Test.YtpfnlbaloaohgaaGreatH7
namespace Go.Proofs.YtpfnlbaloaohgaaGreat
open Go Go.RowKit
set_option linter.unusedVariables false
set_option linter.unusedSimpArgs false

/-- a term is in normal form where it has no redex -/
theorem normal_red (R : List Rl) (t : Tm) : normalP R t = (decide (orE (rulesE R) (validT t) = 0) && decide ((redP R t).length = 0)) := by
  unfold normalP
  by_cases h1 : rulesE R = 0
  · by_cases h2 : validT t = 0
    · rw [redP_all h1 h2]
      have h := best_first R t
      have h3 : orE (rulesE R) (validT t) = 0 := by rw [h1, h2]; rfl
      rw [decide_eq_true h1, decide_eq_true h2, decide_eq_true h3, Bool.true_and, Bool.true_and, Bool.true_and]
      cases hA : allR R t with
      | nil => rw [hA] at h; rw [← h]; rfl
      | cons a l => rw [hA] at h; rw [← h]; rfl
    · have h3 : ¬ orE (rulesE R) (validT t) = 0 := by rw [h1]; exact h2
      rw [decide_eq_false h2, decide_eq_false h3]; simp
  · have h3 : ¬ orE (rulesE R) (validT t) = 0 := by simp [orE, h1]
    rw [decide_eq_false h1, decide_eq_false h3]; simp

set_option maxRecDepth 100000 in
set_option maxHeartbeats 4000000 in
theorem RIsNormal_any {w : World} {S S' : Nat → Prop} {a ta : Option Addr} {cap tc : Nat} {R : List Rl} {t : Tm} (hz : smallR R) (hL : LsG elP w S (.slice a R.length cap) R) (ht : sizeT t ≤ 100000) (hT : TmW w S' ta tc t) :
    Calls Tryz.prog 16 #[.slice a R.length cap, .agg #[.int .i64 t.kind, .string t.name, .int .i64 t.sort, .slice ta t.kids.length tc]] w fun e w' => e = .returned (.bool (normalP R t)) ∧ Ext w w' := by
  obtain ⟨-, hll, hlc⟩ := hL.len
  unfold maxLen at hlc
  obtain ⟨bx, hbbx⟩ : ∃ zz9, zz9 = w.heap.size := ⟨_, rfl⟩
  obtain ⟨w1, hwbx⟩ : ∃ zz9, zz9 = w.alloc (.cells #[.int .i64 t.kind, .string t.name, .int .i64 t.sort, .slice ta t.kids.length tc] 25) := ⟨_, rfl⟩
  have HBbx : Hid (w1.heap[bx]? = some (.cells #[.int .i64 t.kind, .string t.name, .int .i64 t.sort, .slice ta t.kids.length tc] 25)) := Lib.hid (by rw [hwbx, hbbx]; exact hs_new)
  have hEbx : Ext w w1 := by rw [hwbx]; exact Ext.alloc _ _
  have b0 : w1.cell? ⟨bx, 0, none⟩ = some (.int .i64 t.kind) := by rw [cellc (HBbx.out)]; rfl
  have b1 : w1.cell? ⟨bx, 1, none⟩ = some (.string t.name) := by rw [cellc (HBbx.out)]; rfl
  have b2 : w1.cell? ⟨bx, 2, none⟩ = some (.int .i64 t.sort) := by rw [cellc (HBbx.out)]; rfl
  have b3 : w1.cell? ⟨bx, 3, none⟩ = some (.slice ta t.kids.length tc) := by rw [cellc (HBbx.out)]; rfl
  have HE := Lib.hid hEbx
  have HC1 := Lib.hid (RRight_any hz (hL.ext hEbx) (by omega) (hT.ext hEbx))
  have HC2 := Lib.hid (fun w' (hE : Ext w1 w') => RRedexes_any hz ((hL.ext hEbx).ext hE) ht ((hT.ext hEbx).ext hE))
  have hn := normal_red R t
  obtain ⟨o, ho⟩ : ∃ o, o = orE (rulesE R) (validT t) := ⟨_, rfl⟩
  obtain ⟨Z, hZ⟩ : ∃ Z, Z = normalP R t := ⟨_, rfl⟩
  obtain ⟨X, hX⟩ : ∃ X, X = redP R t := ⟨_, rfl⟩
  rw [← ho] at HC1
  rw [← ho, ← hZ, ← hX] at hn
  rw [← hX] at HC2
  rw [← hZ]
  have HN := Lib.hid hn
  clear hL hT hz ht hEbx hn ho hZ hX
  go_enter Tryz.func16, Tryz.ntmps16
  go_upto_region 1 with fail
  rw [← hwbx, ← hbbx]
  clear hwbx hbbx
  go_wp2_with fail
  refine HC1.out.mono ?_
  rintro e w2 ⟨rfl, hE2⟩
  have b0 := cs_ext hE2 b0
  have b1 := cs_ext hE2 b1
  have b2 := cs_ext hE2 b2
  have b3 := cs_ext hE2 b3
  have HE := Lib.hid (HE.out.trans hE2)
  have HE12 := Lib.hid hE2
  clear hE2
  by_cases h0 : o = 0
  · have e0 : (o == 0) = true := by simp [h0]
    have HN2 : Hid (Z = decide (X.length = 0)) := Lib.hid (by rw [HN.out, decide_eq_true h0, Bool.true_and])
    clear h0
    go_wp2_with fail
    refine (HC2.out _ HE12.out).mono ?_
    rintro e w3 ⟨v, rfl, hE3, hL3⟩
    obtain ⟨xa, xc, rfl, hxl, hxc⟩ := hL3.slice
    unfold maxLen at hxc
    have HE3 := Lib.hid (HE.out.trans hE3)
    clear hE3 hL3
    go_wp2_with fail
    go_ret
    exact ⟨rb (by rw [HN2.out, Bool.eq_iff_iff]; simp), HE3.out⟩
  · have e0 : (o == 0) = false := by simpa using h0
    have HN2 : Hid (Z = false) := Lib.hid (by rw [HN.out, decide_eq_false h0, Bool.false_and])
    clear h0
    go_wp2_with fail
    go_ret
    exact ⟨rb (by rw [HN2.out]), HE.out⟩

end Go.Proofs.YtpfnlbaloaohgaaGreat
