/- Contracts: the reference's positions. -/
import Derived.Test.YtpfnlbaloaohgaaN31
import Derived.Test.YtpfnlbaloaohgaaH7
namespace Go.Proofs.Ytpfnlbaloaohgaa
open Go Go.RowKit
set_option linter.unusedVariables false
set_option linter.unusedSimpArgs false

theorem own_oneL {α : Type} {E : Elm α} {w : World} {base fb T : Nat} {S : Nat → Prop} {v : Value} {l : List α} (hb : w.heap[fb]? = some (.cells #[v] T)) (hf : base ≤ fb) (hl : LsG E w S v l) : OwnG (elL E) w base T S (.slice (some ⟨fb, 0, none⟩) 1 1) [l] :=
  ⟨[(l, [v])], rfl, fun p hp => by simp at hp; subst hp; exact ⟨v, rfl, hl⟩, ⟨rfl, .inr ⟨fb, 1, _, rfl, hf, hb, Nat.le_refl _, by unfold maxLen; omega, rfl, rfl⟩⟩⟩
theorem one_lsL {α : Type} {E : Elm α} {w : World} {fb T : Nat} {S : Nat → Prop} {v : Value} {l : List α} (hb : w.heap[fb]? = some (.cells #[v] T)) (hl : LsG E w S v l) : LsE (elL E) w S (.slice (some ⟨fb, 0, none⟩) 1 1) [l] :=
  cells_lsE (P := [(l, [v])]) hb rfl rfl rfl (by unfold maxLen; simp) (fun p hp => by simp at hp; subst hp; exact ⟨v, rfl, hl⟩)

end Go.Proofs.Ytpfnlbaloaohgaa
