/- Contracts: slices.ContainsFunc at fields, slices.Equal. Plain law: the tagged table of a table's shapes is valid. Plain law: the bytes of a value of a tagged format. -/
import Derived.Test.YtfaienbdebjfcaaGreatGU
namespace Go.Proofs.YtfaienbdebjfcaaGreat
open Go Go.RowKit
set_option linter.unusedVariables false
set_option linter.unusedSimpArgs false

theorem encFs_len {t : List Fmt} (hv : validF t = 0) : ∀ {F : List Fld} {X : List Vl}, (∀ f ∈ F, FGd t f) → ValsF t F X → (encFs t F X).length ≤ F.length * 2000
 | [], X, _, _ => by cases X <;> simp [encFs]
 | f :: F, [], _, h => by have := h.1; simp at this
 | f :: F, x :: X, h1, h3 => by
   have hx : ValF t f x := h3.2 0 f x rfl rfl
   have hl := (enc_ok hv (h1 f (by simp)) hx).2.1
   have ih := encFs_len hv (F := F) (X := X) (fun g hg => h1 g (by simp [hg])) ⟨by have := h3.1; simpa using this, fun k g y hg hy => h3.2 (k + 1) g y (by simpa using hg) (by simpa using hy)⟩
   rw [encFs, List.length_append, List.length_cons]
   omega
theorem rest_last {t : List Fmt} (hv : validF t = 0) {i : Nat} {fm : Fmt} (hi : t[i]? = some fm) {j : Nat} {f : Fld} (hf : fm.fields[j]? = some f) (h6 : f.kind = 6) : j + 1 = fm.fields.length := by
 rcases (valid_at hv hi).2.2 j f hf with h | h | h | h | h | ⟨-, h, -⟩
 iterate 5 (exact absurd h.1 (by omega))
 exact of_decide_eq_true h
theorem rest_ok {t : List Fmt} (hv : validF t = 0) {i : Nat} {fm : Fmt} (hi : t[i]? = some fm) {X : List Vl} (hV : ValsF t fm.fields X) {k ed : Nat} (hed : ed = k + (encFs t fm.fields X).length) : RestOk t fm.fields X k ed false := by
 intro j f x hf hx h6
 refine ⟨fun _ => ?_, fun h => by cases h⟩
 have hl := rest_last hv hi hf h6
 have h1 := encFs_take (t := t) hf hx
 rw [List.take_of_length_le (by omega), List.take_of_length_le (by rw [hV.1]; omega)] at h1
 have h2 : encF1 t f x = x.bytes.data.toList := by
  rw [encF1_p (by omega)]
  unfold encP1
  rw [if_neg (by omega), if_neg (by omega), if_neg (by omega)]
 rw [hed, h1, List.length_append, h2, Array.length_toList]
 show k + (_ + x.bytes.size) = _
 omega
end Go.Proofs.YtfaienbdebjfcaaGreat
