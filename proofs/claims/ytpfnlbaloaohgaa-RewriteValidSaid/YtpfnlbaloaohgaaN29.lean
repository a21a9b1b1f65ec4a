/- Contracts: joins. -/
import Derived.Test.YtpfnlbaloaohgaaN28
namespace Go.Proofs.Ytpfnlbaloaohgaa
open Go Go.RowKit
set_option linter.unusedVariables false
set_option linter.unusedSimpArgs false

abbrev Jn := List Rdx × List Rdx × Tm
def zeroJ : Jn := ([], [], zeroTm)
/-- the join by normal forms -/
def joinsP (R : List Rl) (t u : Tm) (fuel : Int) : Int × Jn :=
  if (normP R t fuel).1 ≠ 0 then ((normP R t fuel).1, zeroJ) else if (normP R u fuel).1 ≠ 0 then ((normP R u fuel).1, zeroJ) else
  if cmpT (normP R t fuel).2.1 (normP R u fuel).2.1 ≠ 0 then (11, zeroJ) else (0, (normP R t fuel).2.2, (normP R u fuel).2.2, (normP R t fuel).2.1)
/-- whether a join is one of two terms -/
def checkJ (R : List Rl) (t u : Tm) (j : Jn) : Bool := traceP R t j.1 j.2.2 && traceP R u j.2.1 j.2.2
def joinV (w : World) (S : Nat → Prop) (v : Value) (j : Jn) : Prop :=
  ∃ la lc ra rc ja jc, v = .agg #[.slice la j.1.length lc, .slice ra j.2.1.length rc, .int .i64 j.2.2.kind, .string j.2.2.name, .int .i64 j.2.2.sort, .slice ja j.2.2.kids.length jc] ∧ LsG elX w S (.slice la j.1.length lc) j.1 ∧ LsG elX w S (.slice ra j.2.1.length rc) j.2.1 ∧ TmW w S ja jc j.2.2
def joinR (w : World) (S : Nat → Prop) (v : Value) (er : Int) (Q : Int × Jn) : Prop :=
  er = Q.1 ∧ (Q.1 = 0 → joinV w S v Q.2) ∧ (Q.1 ≠ 0 → v = .agg #[.slice none 0 0, .slice none 0 0, .int .i64 0, .string ⟨#[]⟩, .int .i64 0, .slice none 0 0])
theorem normF_valid {R : List Rl} : ∀ (n : Nat) (u : Tm) (T : List Rdx), validT u = 0 → (normF R n u T).1 = 0 → validT (normF R n u T).2.1 = 0
  | 0, u, T, hu, h => by
    cases hf : firstP R u with
    | none => rw [normF_none hf]; exact hu
    | some q => rw [normF_fuel hf] at h; simp at h
  | n + 1, u, T, hu, h => by
    cases hf : firstP R u with
    | none => rw [normF_none hf]; exact hu
    | some q =>
      by_cases hs : (stepP R u q).1 = 0
      · rw [normF_step hf hs (by omega), Nat.add_sub_cancel] at h ⊢
        exact normF_valid n _ _ (stepP_ok hs) h
      · rw [normF_err hf hs (by omega)] at h
        exact absurd h hs
theorem normP_valid {R : List Rl} {t : Tm} {fuel : Int} (h : (normP R t fuel).1 = 0) : validT (normP R t fuel).2.1 = 0 := by
  unfold normP at h ⊢
  split at h
  · rename_i h0; exact absurd h h0
  · rename_i h0
    split at h
    · rename_i h1
      rw [if_neg h0, if_pos h1]
      exact normF_valid _ _ _ (orE_split (Classical.not_not.1 h0)).2 h
    · simp at h

end Go.Proofs.Ytpfnlbaloaohgaa
