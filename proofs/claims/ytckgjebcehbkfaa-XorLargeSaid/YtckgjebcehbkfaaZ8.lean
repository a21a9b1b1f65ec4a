/- Sums of terms: order does not matter; a sum's summands. -/
import Derived.Test.YtckgjebcehbkfaaG12
import Derived.Test.YtckgjebcehbkfaaG4
namespace Go.Proofs.Ytckgjebcehbkfaa
open Go Go.RowKit
set_option linter.unusedVariables false
set_option linter.unusedSimpArgs false

theorem sumT_self {t : Tm} (h0 : isZero t.kind t.name t.kids.length = false) (h1 : isXor t.kind t.name = false) : sumT t = [t] := by
  rw [sumT_eq, h0, h1]; simp
mutual
theorem sumT_proper : ∀ (t x : Tm), x ∈ sumT t → sumT x = [x]
  | .mk k n s l, x, h => by
    rw [sumT] at h
    split at h
    · simp at h
    · rename_i h0
      split at h
      · rcases sumL_proper l [] x h with h | h
        · simp at h
        · exact h
      · rename_i h1
        simp at h
        subst h
        exact sumT_self (Bool.eq_false_iff.2 h0) (Bool.eq_false_iff.2 h1)
theorem sumL_proper : ∀ (l acc : List Tm) (x : Tm), x ∈ sumL l acc → x ∈ acc ∨ sumT x = [x]
  | [], acc, x, h => .inl (by simpa [sumL] using h)
  | t :: l, acc, x, h => by
    rw [sumL] at h
    rcases sumL_proper l _ x h with h | h
    · rcases plusS_sub _ _ x h with h | h
      · exact .inl h
      · exact .inr (sumT_proper t x h)
    · exact .inr h
end
theorem plusS_snoc {A : List Tm} {x : Tm} (hA : Asc (A ++ [x])) : plusS A [x] = A ++ [x] := by
  have h1 := (List.pairwise_append.1 hA).1
  have hx : x ∉ A := fun hm => ltT_irrefl ((List.pairwise_append.1 hA).2.2 x hm x (by simp))
  refine asc_eq (plusS_asc _ _ h1 (by simp)) hA (fun y => ?_)
  rw [plusS_mem _ _ h1 (by simp), List.mem_append, List.mem_singleton]
  by_cases e : y = x
  · subst e; simp [hx]
  · simp [e]
theorem sumL_asc_self {P : List Tm} (hA : Asc P) (hp : ∀ x ∈ P, sumT x = [x]) : sumL P [] = P := by
  have key : ∀ k, k ≤ P.length → sumL (P.take k) [] = P.take k := by
    intro k
    induction k with
    | zero => intro _; simp [sumL]
    | succ k ih =>
      intro h
      have hx : P[k]? = some P[k] := List.getElem?_eq_getElem (by omega)
      have ht : P.take (k + 1) = P.take k ++ [P[k]] := by rw [List.take_add_one, hx]; rfl
      rw [sumL_take hx, ih (by omega), hp _ (List.getElem_mem _), ht]
      refine plusS_snoc ?_
      rw [← ht]
      exact hA.sublist (List.take_sublist _ _)
  have := key P.length (Nat.le_refl _)
  rwa [List.take_length] at this
theorem sumT_termOf {P : List Tm} (hA : Asc P) (hp : ∀ x ∈ P, sumT x = [x]) : sumT (termOf P) = P := by
  match P, hA, hp with
  | [], _, _ => rw [termOf]; decide +kernel
  | [x], _, hp => rw [termOf]; exact hp x (by simp)
  | x :: y :: Q, hA, hp =>
    rw [termOf, sumT_eq]
    have h0 : isZero (appTm xorN (x :: y :: Q)).kind (appTm xorN (x :: y :: Q)).name (appTm xorN (x :: y :: Q)).kids.length = false := by
      simp [isZero, appTm, Tm.kids]
    have h1 : isXor (appTm xorN (x :: y :: Q)).kind (appTm xorN (x :: y :: Q)).name = true := by
      show isXor 3 xorN = true
      decide +kernel
    rw [h0, h1]
    exact sumL_asc_self hA hp

/-- the sum of a list's vectors -/
def chiL : List Tm → Vec Tm
  | [] => zv
  | t :: L => xr (chi (sumT t)) (chiL L)
theorem chi_sumL : ∀ (L acc : List Tm), Asc acc → chi (sumL L acc) = xr (chi acc) (chiL L)
  | [], acc, _ => by rw [sumL, chiL, xr_zero]
  | t :: L, acc, h => by rw [sumL, chi_sumL L _ (plusS_asc _ _ h (sumT_asc t)), chi_plus h (sumT_asc t), chiL, xr_assoc]
theorem chiL_append : ∀ (L M : List Tm), chiL (L ++ M) = xr (chiL L) (chiL M)
  | [], M => by rw [List.nil_append, chiL, zero_xr]
  | t :: L, M => by rw [List.cons_append, chiL, chiL, chiL_append L M, xr_assoc]
theorem chiL_reverse : ∀ L : List Tm, chiL L.reverse = chiL L
  | [] => rfl
  | t :: L => by rw [List.reverse_cons, chiL_append, chiL_reverse L, chiL, chiL, chiL, xr_zero, xr_comm]
theorem chi_sum (L : List Tm) : chi (sumL L []) = chiL L := by rw [chi_sumL L [] (by simp), chi_nil, zero_xr]
theorem sumL_asc0 (L : List Tm) : Asc (sumL L []) := sumL_asc L [] (by simp)
theorem sumL_reverse (L : List Tm) : sumL L.reverse [] = sumL L [] := chi_inj (sumL_asc0 _) (sumL_asc0 _) (by rw [chi_sum, chi_sum, chiL_reverse])
theorem sumL_split (L M : List Tm) : plusS (sumL L []) (sumL M []) = sumL (L ++ M) [] := chi_inj (plusS_asc _ _ (sumL_asc0 _) (sumL_asc0 _)) (sumL_asc0 _) (by rw [chi_plus (sumL_asc0 _) (sumL_asc0 _), chi_sum, chi_sum, chi_sum, chiL_append])
theorem sumL_prop {L : List Tm} : ∀ x ∈ sumL L [], sumT x = [x] := fun x hx => by
  rcases sumL_proper L [] x hx with h | h
  · simp at h
  · exact h
theorem sumT_sum (L : List Tm) : sumT (termOf (sumL L [])) = sumL L [] := sumT_termOf (sumL_asc0 L) sumL_prop
theorem plusS_comm {A B : List Tm} (hA : Asc A) (hB : Asc B) : plusS A B = plusS B A := chi_inj (plusS_asc _ _ hA hB) (plusS_asc _ _ hB hA) (by rw [chi_plus hA hB, chi_plus hB hA, xr_comm])
theorem plusS_assoc {A B C : List Tm} (hA : Asc A) (hB : Asc B) (hC : Asc C) : plusS (plusS A B) C = plusS A (plusS B C) :=
  chi_inj (plusS_asc _ _ (plusS_asc _ _ hA hB) hC) (plusS_asc _ _ hA (plusS_asc _ _ hB hC)) (by rw [chi_plus (plusS_asc _ _ hA hB) hC, chi_plus hA hB, chi_plus hA (plusS_asc _ _ hB hC), chi_plus hB hC, xr_assoc])

theorem sumL_two (s t : Tm) : sumL [s, t] [] = plusS (sumT s) (sumT t) := by simp [sumL, plusS]
theorem right_two {s t : Tm} (hs : validT s = 0) (ht : validT t = 0) : rightS [s, t] [] = 0 := by
  unfold rightS
  rw [if_neg (by simp)]
  simp [validL, hs, ht, orE]
theorem errSum_two {s t : Tm} (hs : validT s = 0) (ht : validT t = 0) : errSum [s, t] = if validT (termOf (plusS (sumT s) (sumT t))) = 0 then 0 else 3 := by
  unfold errSum
  rw [right_two hs ht, sumL_two]
  simp [orE]
theorem sumR_ok {L : List Tm} (h : errSum L = 0) : sumR L = termOf (sumL L []) := by unfold sumR; rw [if_pos h]
theorem errSum_ok {L : List Tm} (h : errSum L = 0) : rightS L [] = 0 ∧ validT (termOf (sumL L [])) = 0 := by
  unfold errSum at h
  rw [orE_zero] at h
  refine ⟨h.1, ?_⟩
  by_cases e : validT (termOf (sumL L [])) = 0
  · exact e
  · rw [if_neg e] at h; exact absurd h.2 (by omega)
/-- a sum that is right: it is valid, and its summands are the list's -/
theorem sumR_facts {L : List Tm} (h : errSum L = 0) : validT (sumR L) = 0 ∧ sumT (sumR L) = sumL L [] := by
  rw [sumR_ok h]; exact ⟨(errSum_ok h).2, sumT_sum L⟩

/-- XorLaws -/
theorem add_comm_err {a b : Tm} (ha : validT a = 0) (hb : validT b = 0) : errSum [b, a] = errSum [a, b] ∧ sumR [b, a] = sumR [a, b] := by
  have h1 : errSum [b, a] = errSum [a, b] := by rw [errSum_two hb ha, errSum_two ha hb, plusS_comm (sumT_asc b) (sumT_asc a)]
  refine ⟨h1, ?_⟩
  unfold sumR
  rw [h1, sumL_two, sumL_two, plusS_comm (sumT_asc b) (sumT_asc a)]
theorem add_assoc_err {a b c : Tm} (ha : validT a = 0) (hc : validT c = 0) (h1 : errSum [a, b] = 0) (h2 : errSum [b, c] = 0) : errSum [a, sumR [b, c]] = errSum [sumR [a, b], c] ∧ sumR [a, sumR [b, c]] = sumR [sumR [a, b], c] := by
  obtain ⟨v1, s1⟩ := sumR_facts h1
  obtain ⟨v2, s2⟩ := sumR_facts h2
  have hp : plusS (sumT a) (sumT (sumR [b, c])) = plusS (sumT (sumR [a, b])) (sumT c) := by
    rw [s1, s2, sumL_two, sumL_two, plusS_assoc (sumT_asc a) (sumT_asc b) (sumT_asc c)]
  have he : errSum [a, sumR [b, c]] = errSum [sumR [a, b], c] := by rw [errSum_two ha v2, errSum_two v1 hc, hp]
  refine ⟨he, ?_⟩
  have e1 : ∀ L : List Tm, sumR L = if errSum L = 0 then termOf (sumL L []) else zT := fun L => rfl
  rw [e1 [a, sumR [b, c]], e1 [sumR [a, b], c], he, sumL_two, sumL_two, hp]
theorem add_self {a : Tm} (ha : validT a = 0) : errSum [a, a] = 0 ∧ sumR [a, a] = appTm zeroN [] := by
  have h : errSum [a, a] = 0 := by rw [errSum_two ha ha, plusS_self, termOf, zeroN_valid]; rfl
  exact ⟨h, by rw [sumR_ok h, sumL_two, plusS_self, termOf]⟩
theorem xadd_zero {L : List Tm} (h : errSum L = 0) : errSum [sumR L, appTm zeroN []] = 0 ∧ sumR [sumR L, appTm zeroN []] = sumR L := by
  obtain ⟨v1, s1⟩ := sumR_facts h
  have hz : sumT (appTm zeroN []) = [] := by decide +kernel
  have h2 : errSum [sumR L, appTm zeroN []] = 0 := by rw [errSum_two v1 zeroN_valid, hz, plusS_nil_right, s1, ← sumR_ok h, v1]; rfl
  exact ⟨h2, by rw [sumR_ok h2, sumL_two, hz, plusS_nil_right, s1, ← sumR_ok h]⟩

/-- XorSum -/
theorem validL_zero : ∀ {L : List Tm}, validL L = 0 ↔ ∀ x ∈ L, validT x = 0
  | [] => by simp [validL]
  | x :: L => by rw [validL, orE_zero, validL_zero]; simp
theorem rightS_zero {L : List Tm} : rightS L [] = 0 ↔ L.length ≤ 200 ∧ ∀ x ∈ L, validT x = 0 := by
  unfold rightS
  rw [List.append_nil]
  split
  · rename_i h; constructor
    · intro h2; omega
    · rintro ⟨h2, -⟩; omega
  · rename_i h; rw [validL_zero]; exact ⟨fun h2 => ⟨by omega, h2⟩, fun h2 => h2.2⟩
theorem sum_reverse {L : List Tm} (h : errSum L = 0) : errSum L.reverse = 0 ∧ sumR L.reverse = sumR L := by
  obtain ⟨h1, h2⟩ := errSum_ok h
  have h3 : errSum L.reverse = 0 := by
    unfold errSum
    rw [sumL_reverse, h2, rightS_zero.2 ⟨by rw [List.length_reverse]; exact (rightS_zero.1 h1).1, fun x hx => (rightS_zero.1 h1).2 x (List.mem_reverse.1 hx)⟩]
    rfl
  exact ⟨h3, by rw [sumR_ok h3, sumR_ok h, sumL_reverse]⟩
theorem sum_split {L M : List Tm} (h : errSum (L ++ M) = 0) (h1 : errSum L = 0) (h2 : errSum M = 0) : errSum [sumR L, sumR M] = 0 ∧ sumR [sumR L, sumR M] = sumR (L ++ M) := by
  obtain ⟨v1, s1⟩ := sumR_facts h1
  obtain ⟨v2, s2⟩ := sumR_facts h2
  obtain ⟨-, v3⟩ := errSum_ok h
  have h3 : errSum [sumR L, sumR M] = 0 := by rw [errSum_two v1 v2, s1, s2, sumL_split, v3]; rfl
  exact ⟨h3, by rw [sumR_ok h3, sumL_two, s1, s2, sumL_split, ← sumR_ok h]⟩

end Go.Proofs.Ytckgjebcehbkfaa
