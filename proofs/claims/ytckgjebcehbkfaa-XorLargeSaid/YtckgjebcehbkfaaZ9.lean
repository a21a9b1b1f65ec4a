/- Plain law: every term is in the span of the basis' terms. -/
import Derived.Test.YtckgjebcehbkfaaU8
namespace Go.Proofs.Ytckgjebcehbkfaa
open Go
set_option linter.unusedVariables false

theorem spn_xr {κ : Type} {v : Nat → Vec κ} {m : Nat} {a b : Vec κ} (ha : Spn v m a) (hb : Spn v m b) : Spn v m (xr a b) := by
  obtain ⟨c, rfl⟩ := ha
  obtain ⟨d, rfl⟩ := hb
  exact ⟨xr c d, (comb_xr v c d m).symm⟩
theorem spn_zero {κ : Type} {v : Nat → Vec κ} {m : Nat} : Spn v m zv := ⟨zv, (comb_zero v m).symm⟩
theorem spn_mem {M : List Tm} {x : Tm} (h : x ∈ M) : InSpan M x := by
  obtain ⟨k, hk⟩ := List.mem_iff_getElem?.1 h
  have hl := (List.getElem?_eq_some_iff.1 hk).1
  refine ⟨fun j => decide (j = k), ?_⟩
  rw [comb_one, if_pos hl]
  unfold vT
  rw [hk]; rfl
theorem spn_comb {κ : Type} {v u : Nat → Vec κ} {m : Nat} (c : Vec Nat) : ∀ k, (∀ i, i < k → Spn v m (u i)) → Spn v m (comb u c k)
  | 0, _ => spn_zero
  | k + 1, h => by
    refine spn_xr (spn_comb c k (fun i hi => h i (by omega))) ?_
    split
    · exact h k (by omega)
    · exact spn_zero
theorem basis_spans {L M : List Tm} {B : List Nat} (hB : BasisR L B) (hM : ∀ (i : Nat) x, i ∈ B → L[i]? = some x → x ∈ M) : ∀ (i : Nat) x, L[i]? = some x → InSpan M x := by
  intro i
  induction i using Nat.strongRecOn with
  | ind i ih =>
    intro x hx
    have hi := (List.getElem?_eq_some_iff.1 hx).1
    by_cases h : i ∈ B
    · exact spn_mem (hM i x h hx)
    · have h2 : Spn (vT L) i (vT L i) := Classical.byContradiction (fun hn => h ((hB.2 i).2 ⟨hi, hn⟩))
      obtain ⟨c, hc⟩ := h2
      have hv : vT L i = chi (sumT x) := by unfold vT; rw [hx]; rfl
      unfold InSpan
      rw [← hv, hc]
      refine spn_comb c i (fun j hj => ?_)
      obtain ⟨y, hy⟩ : ∃ y, L[j]? = some y := ⟨_, List.getElem?_eq_getElem (by omega)⟩
      have h3 := ih j hj y hy
      have hv2 : vT L j = chi (sumT y) := by unfold vT; rw [hy]; rfl
      rw [hv2]
      exact h3

end Go.Proofs.Ytckgjebcehbkfaa
