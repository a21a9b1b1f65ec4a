/- The walk of the law RewriteValid. -/
import Derived.Test.YtpfnlbaloaohgaaGreatA1
import Derived.Test.YtpfnlbaloaohgaaGreatH12
import Derived.Test.YtpfnlbaloaohgaaGreatH9
namespace Go.Proofs.YtpfnlbaloaohgaaGreat
open Go Go.RowKit
set_option linter.unusedVariables false
set_option linter.unusedSimpArgs false

/-- how many rules a row of arguments can hold -/
abbrev FitsR (n : Nat) : Prop := n * 112 ≤ 140737488355328
theorem small_few {R : List (Tm × Tm)} {n m : Int} (hm : m ≤ 1000) (h : fewT (sidesR R) n m = true) : smallR R := by
 have h1 := (few_size h).2
 intro r hr
 obtain ⟨i, hi⟩ := List.mem_iff_getElem?.1 hr
 have key : ∀ (l : List (Tm × Tm)), r ∈ l → sizeT r.1 + sizeT r.2 ≤ sizeL (sidesR l) := by
  intro l
  induction l with
  | nil => intro h; simp at h
  | cons q l ih =>
    intro h
    have e : sidesR (q :: l) = q.1 :: q.2 :: sidesR l := rfl
    rw [e, sizeL, sizeL]
    rcases List.mem_cons.1 h with rfl | h
    · omega
    · have := ih h; omega
 have := key R hr
 omega

end Go.Proofs.YtpfnlbaloaohgaaGreat
