/- Plain law: the first redex of all is the leftmost innermost one. -/
import Derived.Test.YtpfnlbaloaohgaaGreatH7
import Derived.Test.YtpfnlbaloaohgaaGreatR9
import Derived.Test.YtpfnlbaloaohgaaGreatN39
namespace Go.Proofs.YtpfnlbaloaohgaaGreat
open Go
set_option linter.unusedVariables false
set_option linter.unusedSimpArgs false

def liftR (i : Nat) (r : Rdx) : Rdx := (r.1, (i : Int) :: r.2)
def bestO : List Rdx → Option Rdx | [] => none | r :: l => some (bestL r l)
mutual
/-- all redexes, by recursion -/
def allR (R : List Rl) : Tm → List Rdx | .mk k n s l => fitI R (.mk k n s l) [] R.length ++ allRL R l 0
def allRL (R : List Rl) : List Tm → Nat → List Rdx | [], _ => [] | t :: l, i => (allR R t).map (liftR i) ++ allRL R l (i + 1)
end
theorem allR_kids (R : List Rl) (t : Tm) : allR R t = fitI R t [] R.length ++ allRL R t.kids 0 := by cases t; rw [allR]; rfl
theorem fitI_at (R : List Rl) (u : Tm) (p q : List Int) : ∀ n, fitI R u p n = (fitI R u q n).map (fun r => (r.1, p))
  | 0 => rfl
  | n + 1 => by
    rw [fitI, fitI, List.map_append, fitI_at R u p q n]
    congr 1
    split
    · split <;> simp
    · rfl
theorem fitI_lift (R : List Rl) (u : Tm) (i : Nat) (p : List Int) (n : Nat) : fitI R u ((i : Int) :: p) n = (fitI R u p n).map (liftR i) := by
  rw [fitI_at R u ((i : Int) :: p) p n]
  apply List.map_congr_left
  intro r hr
  rw [fitI_at R u p p n] at hr
  obtain ⟨q, -, rfl⟩ := List.mem_map.1 hr
  rfl
theorem redAt_lift {R : List Rl} {t x : Tm} {i : Nat} (h : t.kids[i]? = some x) (p : List Int) : redAt R t ((i : Int) :: p) = (redAt R x p).map (liftR i) := by
  unfold redAt
  rw [atT, if_pos (by omega)]
  simp only [Int.toNat_natCast, h]
  cases atT p x with
  | none => rfl
  | some u => exact fitI_lift R u i p _
mutual
theorem allR_pos (R : List Rl) : ∀ t : Tm, (posT t).flatMap (redAt R t) = allR R t
  | .mk k n s l => by
    rw [posT, allR, List.flatMap_cons, allRL_pos R l 0 (.mk k n s l) rfl]
    rfl
theorem allRL_pos (R : List Rl) : ∀ (l : List Tm) (i : Nat) (T : Tm), T.kids.drop i = l → (posL l i).flatMap (redAt R T) = allRL R l i
  | [], i, T, _ => rfl
  | t :: l, i, T, h => by
    have hi : T.kids[i]? = some t := by
      have := congrArg (fun q => q[0]?) h
      simpa using this
    have hl : T.kids.drop (i + 1) = l := by
      have := congrArg (fun q => q.drop 1) h
      simpa [List.drop_drop] using this
    rw [posL, allRL, List.flatMap_append, List.flatMap_map, allRL_pos R l (i + 1) T hl, ← allR_pos R t, List.map_flatMap]
    congr 1
    have : (fun a => redAt R T ((i : Int) :: a)) = fun a => (redAt R t a).map (liftR i) := funext (fun p => redAt_lift hi p)
    rw [this]
end
theorem redP_all {R : List Rl} {t : Tm} (hR : rulesE R = 0) (ht : validT t = 0) : redP R t = allR R t := by
  unfold redP
  rw [if_neg (by rw [hR, ht]; simp [orE]), allR_pos]

theorem bestL_append : ∀ (A B : List Rdx) (b : Rdx), bestL b (A ++ B) = bestL (bestL b A) B
  | [], B, b => rfl
  | a :: A, B, b => by rw [List.cons_append, bestL, bestL, bestL_append A B]
theorem bestL_lift (i : Nat) : ∀ (A : List Rdx) (b : Rdx), bestL (liftR i b) (A.map (liftR i)) = liftR i (bestL b A)
  | [], b => rfl
  | a :: A, b => by
    rw [List.map_cons, bestL, bestL]
    have e : befL (liftR i a).2 (liftR i b).2 = befL a.2 b.2 := by simp [liftR, befL]
    rw [e]
    split
    · exact bestL_lift i A a
    · exact bestL_lift i A b
theorem bestL_root : ∀ (A : List Rdx) (b : Rdx), b.2 = [] → (∀ r ∈ A, r.2 = []) → bestL b A = b
  | [], b, _, _ => rfl
  | a :: A, b, hb, h => by
    have e : befL a.2 b.2 = false := by rw [h a (by simp), hb]; simp [befL]
    rw [bestL, e]
    exact bestL_root A b hb (fun r hr => h r (by simp [hr]))
theorem bestL_right {i : Nat} : ∀ (A : List Rdx) (b : Rdx) (p : List Int), b.2 = (i : Int) :: p → (∀ r ∈ A, ∃ (j : Nat) (q : List Int), r.2 = (j : Int) :: q ∧ i < j) → bestL b A = b
  | [], b, p, _, _ => rfl
  | a :: A, b, p, hb, h => by
    obtain ⟨j, q, e, hj⟩ := h a (by simp)
    have e2 : befL a.2 b.2 = false := by
      rw [e, hb, befL, if_neg (by omega)]
      simp; omega
    rw [bestL, e2]
    exact bestL_right A b p hb (fun r hr => h r (by simp [hr]))
theorem allRL_heads (R : List Rl) : ∀ (l : List Tm) (i : Nat), ∀ r ∈ allRL R l i, ∃ (j : Nat) (q : List Int), r.2 = (j : Int) :: q ∧ i ≤ j
  | [], i, r, h => by simp [allRL] at h
  | t :: l, i, r, h => by
    rw [allRL] at h
    rcases List.mem_append.1 h with h | h
    · obtain ⟨q, -, rfl⟩ := List.mem_map.1 h
      exact ⟨i, q.2, rfl, Nat.le_refl _⟩
    · obtain ⟨j, q, e, hj⟩ := allRL_heads R l (i + 1) r h
      exact ⟨j, q, e, by omega⟩
theorem fitI_root (R : List Rl) (u : Tm) (n : Nat) : ∀ r ∈ fitI R u [] n, r.2 = [] := fun r hr => by
  rw [fitI_at R u [] [] n] at hr
  obtain ⟨q, -, rfl⟩ := List.mem_map.1 hr
  rfl
mutual
theorem best_first (R : List Rl) : ∀ t : Tm, bestO (allR R t) = firstP R t
  | .mk k n s l => by
    have hl := best_firstL R l 0
    rw [allR, firstP]
    have hr := fitI_root R (.mk k n s l) R.length
    unfold firstI
    generalize fitI R (.mk k n s l) [] R.length = F at hr ⊢
    have hh := allRL_heads R l 0
    generalize allRL R l 0 = M at hl hh ⊢
    cases M with
    | nil =>
      simp only [bestO] at hl
      rw [← hl, List.append_nil]
      cases F with
      | nil => rfl
      | cons r F =>
        rw [bestO, bestL_root F r (hr r (by simp)) (fun x hx => hr x (by simp [hx]))]; rfl
    | cons m M =>
      simp only [bestO] at hl
      rw [← hl]
      cases F with
      | nil => rfl
      | cons r F =>
        rw [List.cons_append, bestO, bestL_append, bestL_root F r (hr r (by simp)) (fun x hx => hr x (by simp [hx])), bestL]
        obtain ⟨j, q, e, -⟩ := hh m (by simp)
        have e2 : befL m.2 r.2 = true := by rw [e, hr r (by simp)]; simp [befL]
        rw [e2]; rfl
theorem best_firstL (R : List Rl) : ∀ (l : List Tm) (i : Nat), bestO (allRL R l i) = firstL R l i
  | [], i => rfl
  | t :: l, i => by
    have ht := best_first R t
    have hl := best_firstL R l (i + 1)
    rw [allRL, firstL]
    have hh := allRL_heads R l (i + 1)
    generalize allR R t = A at ht ⊢
    cases A with
    | nil =>
      simp only [bestO] at ht
      rw [← ht]
      exact hl
    | cons a A =>
      simp only [bestO] at ht
      rw [← ht, List.map_cons, List.cons_append, bestO, bestL_append, bestL_lift]
      congr 1
      exact bestL_right _ _ (bestL a A).2 rfl (fun r hr => by
        obtain ⟨j, q, e, hj⟩ := hh r hr
        exact ⟨j, q, e, by omega⟩)
end

end Go.Proofs.YtpfnlbaloaohgaaGreat
