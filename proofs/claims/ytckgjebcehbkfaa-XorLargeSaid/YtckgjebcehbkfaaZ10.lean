/- Plain law: equal atoms, many times. -/
import Derived.Test.YtckgjebcehbkfaaZ9
import Derived.Test.YtckgjebcehbkfaaY15
namespace Go.Proofs.Ytckgjebcehbkfaa
open Go
set_option linter.unusedVariables false

abbrev manyA (k : Nat) : List Tm := List.replicate k tmA
theorem tmA_sum : sumT tmA = [tmA] := by unfold tmA atomTm; rw [sumT]; simp [isZero, isXor]
theorem tmA_valid : validT tmA = 0 := by decide +kernel
theorem sizeL_many : ∀ k, sizeL (manyA k) = k
  | 0 => rfl
  | k + 1 => by
    show sizeL (tmA :: manyA k) = _
    rw [sizeL, sizeL_many k]
    have : sizeT tmA = 1 := by decide +kernel
    omega
theorem plus_nilA : plusS [] [tmA] = [tmA] := by rw [plusS]
theorem plus_AA : plusS [tmA] [tmA] = [] := by
  rw [plusS]
  have h : cmpT tmA tmA = 0 := (cmpT_zero tmA tmA).2 rfl
  rw [if_neg (by omega), if_neg (by omega), plusS]
theorem sum_many : ∀ k, sumL (manyA k) [] = (if k % 2 = 1 then [tmA] else []) ∧ sumL (manyA k) [tmA] = (if k % 2 = 1 then [] else [tmA])
  | 0 => ⟨by simp [sumL], by simp [sumL]⟩
  | k + 1 => by
    obtain ⟨h1, h2⟩ := sum_many k
    constructor
    · show sumL (tmA :: manyA k) [] = _
      rw [sumL, tmA_sum, plus_nilA, h2]
      by_cases h : k % 2 = 1
      · rw [if_pos h, if_neg (by omega)]
      · rw [if_neg h, if_pos (by omega)]
    · show sumL (tmA :: manyA k) [tmA] = _
      rw [sumL, tmA_sum, plus_AA, h1]
      by_cases h : k % 2 = 1
      · rw [if_pos h, if_neg (by omega)]
      · rw [if_neg h, if_pos (by omega)]
theorem valid_many : ∀ k M, validL (manyA k ++ M) = validL M
  | 0, M => rfl
  | k + 1, M => by
    show validL (tmA :: (manyA k ++ M)) = _
    rw [validL, tmA_valid, valid_many k M]; rfl
theorem right_many {k : Nat} {M : List Tm} (hM : validL M = 0) : rightS (manyA k) M = if 200 < k then 3 else 0 := by
  unfold rightS
  rw [List.length_replicate, valid_many, hM]
theorem validL_A : validL [tmA] = 0 := by rw [validL, tmA_valid, validL]; rfl
theorem errSum_many (k : Nat) : errSum (manyA k) = if 200 < k then 3 else 0 := by
  unfold errSum
  rw [right_many (by rw [validL]), (sum_many k).1]
  have h0 : validT (termOf []) = 0 := by decide +kernel
  have h1 : validT (termOf [tmA]) = 0 := tmA_valid
  split
  · rfl
  · split
    · rfl
    · rfl
theorem vT_many {k i : Nat} (h : i < k) : vT (manyA k) i = chi [tmA] := by
  unfold vT
  rw [List.getElem?_replicate, if_pos h]
  show chi (sumT tmA) = _
  rw [tmA_sum]
theorem chi_ne : chi [tmA] ≠ (zv : Vec Tm) := fun h => by
  have := congrFun h tmA
  simp [chi, zv] at this
theorem span_many {k : Nat} (h : 0 < k) : InSpan (manyA k) tmA := by
  refine ⟨fun j => decide (j = 0), ?_⟩
  rw [comb_one, List.length_replicate, if_pos h, vT_many h, tmA_sum]
theorem basis_many {k : Nat} {B : List Nat} (hk : 0 < k) (h : BasisR (manyA k) B) : B.length = 1 := by
  have hb : B = [0] := by
    refine h.eq ⟨by simp, fun i => ?_⟩
    rw [List.length_replicate]
    constructor
    · intro hi
      simp at hi
      subst hi
      refine ⟨hk, ?_⟩
      rintro ⟨c, hc⟩
      rw [vT_many hk] at hc
      exact chi_ne hc
    · rintro ⟨h1, h2⟩
      have : i = 0 := Classical.byContradiction fun hn => h2 ⟨fun j => decide (j = 0), by
        rw [comb_one, if_pos (by omega), vT_many h1, vT_many hk]⟩
      subst this; simp
  rw [hb]; rfl
theorem chk_many {k : Nat} (h : 3 < k) : chkS (manyA k) tmA [3] = decide (k ≤ 200) := by
  unfold chkS
  rw [right_many validL_A]
  have h1 : decide (okC (manyA k).length [3]) = true := decide_eq_true (by
    rw [List.length_replicate]
    refine ⟨fun x hx => ?_, by simp⟩
    simp at hx; omega)
  have h2 : selS (manyA k) [3] = [tmA] := by
    unfold selS
    have : (manyA k)[(3 : Int).toNat]? = some tmA := by
      rw [List.getElem?_replicate, if_pos (by show 3 < k; exact h)]
    simp only [List.filterMap_cons, this, List.filterMap_nil]
  have h3 : sumL [tmA] [] = sumT tmA := by
    have := (sum_many 1).1
    rw [if_pos (by decide)] at this
    rw [tmA_sum]; exact this
  rw [h1, h2, decide_eq_true h3]
  by_cases h : 200 < k
  · rw [if_pos h]
    rw [decide_eq_false (by omega), decide_eq_false (by omega)]; rfl
  · rw [if_neg h, decide_eq_true rfl, decide_eq_true (by omega)]; rfl

end Go.Proofs.Ytckgjebcehbkfaa
