/- Plain law: lists of numbers, and multisets. -/
import Derived.Test.YtkobikdkbpdjeaaDoorG1
namespace Go.Proofs.YtkobikdkbpdjeaaDoor
open Go
set_option linter.unusedVariables false
set_option linter.unusedSimpArgs false

/-- lists compared -/
def lexI : List Int → List Int → Int
 | [], [] => 0
 | [], _ :: _ => -1
 | _ :: _, [] => 1
 | a :: l, b :: m => orE (sgn a b) (lexI l m)
def leB (x y : Int) : Bool := decide (x ≤ y)
/-- from the greatest to the least -/
def desc (l : List Int) : List Int := (l.mergeSort (fun x y => decide (x ≤ y))).reverse
/-- multisets compared: the greatest that is left decides -/
def msI (a b : List Int) : Int := lexI (desc a) (desc b)

theorem lexI_self : ∀ l : List Int, lexI l l = 0
 | [] => rfl
 | a :: l => by rw [lexI, lexI_self l]; exact orE_zero.2 ⟨sgn_zero.2 rfl, rfl⟩
theorem lexI_zero : ∀ {l m : List Int}, lexI l m = 0 → l = m
 | [], [], _ => rfl
 | [], _ :: _, h => by simp [lexI] at h
 | _ :: _, [], h => by simp [lexI] at h
 | a :: l, b :: m, h => by
   rw [lexI, orE_zero, sgn_zero] at h
   rw [h.1, lexI_zero h.2]
theorem lexI_swap : ∀ (l m : List Int), lexI m l = - lexI l m
 | [], [] => rfl
 | [], _ :: _ => rfl
 | _ :: _, [] => rfl
 | a :: l, b :: m => by rw [lexI, lexI, sgn_swap a b, lexI_swap l m, orE_neg]
theorem lexI_vals : ∀ (l m : List Int), lexI l m = 0 ∨ lexI l m = 1 ∨ lexI l m = -1
 | [], [] => .inl rfl
 | [], _ :: _ => .inr (.inr rfl)
 | _ :: _, [] => .inr (.inl rfl)
 | a :: l, b :: m => by
   rw [lexI]
   have := lexI_vals l m
   unfold orE sgn
   (repeat' split) <;> omega
theorem lexI_tr : ∀ (l m n : List Int), Tr (lexI l m) (lexI m n) (lexI l n)
 | [], [], n => by cases n <;> simp [lexI, Tr]
 | [], _ :: _, [] => by simp [lexI, Tr]
 | [], _ :: _, _ :: _ => by simp only [lexI]; unfold Tr; omega
 | a :: l, [], [] => by simp [lexI, Tr]
 | a :: l, [], _ :: _ => by simp only [lexI]; unfold Tr; omega
 | a :: l, b :: m, [] => by simp only [lexI]; unfold Tr; omega
 | a :: l, b :: m, c :: n => by rw [lexI, lexI, lexI]; exact (sgn_tr a b c).or (lexI_tr l m n)
theorem desc_perm (l : List Int) : (desc l).Perm l := (List.reverse_perm _).trans (List.mergeSort_perm _ _)
theorem desc_count (l : List Int) (n : Int) : (desc l).count n = l.count n := (desc_perm l).count_eq n
theorem desc_sorted (l : List Int) : (desc l).Pairwise (fun x y => y ≤ x) := by
 unfold desc
 rw [List.pairwise_reverse]
 have := List.pairwise_mergeSort (le := fun x y : Int => decide (x ≤ y)) (fun a b c => by simp; omega) (fun a b => by simp; omega) l
 exact this.imp (fun h => by simpa using h)
theorem sorted_eq : ∀ {l m : List Int}, l.Pairwise (fun x y => y ≤ x) → m.Pairwise (fun x y => y ≤ x) → l.Perm m → l = m
 | [], m, _, _, h => by have := h.length_eq; cases m <;> simp_all
 | a :: l, [], _, _, h => by have := h.length_eq; simp at this
 | a :: l, b :: m, hl, hm, h => by
   have h1 := List.pairwise_cons.1 hl
   have h2 := List.pairwise_cons.1 hm
   have e : a = b := by
    have ha : a ∈ b :: m := h.subset (by simp)
    have hb : b ∈ a :: l := h.symm.subset (by simp)
    have i1 : a ≤ b := by
     rcases List.mem_cons.1 ha with e | e
     · omega
     · exact h2.1 a e
    have i2 : b ≤ a := by
     rcases List.mem_cons.1 hb with e | e
     · omega
     · exact h1.1 b e
    omega
   subst e
   rw [sorted_eq h1.2 h2.2 (List.Perm.cons_inv h)]
theorem desc_of_perm {l m : List Int} (h : l.Perm m) : desc l = desc m := sorted_eq (desc_sorted l) (desc_sorted m) ((desc_perm l).trans (h.trans (desc_perm m).symm))
theorem msI_swap (a b : List Int) : msI b a = - msI a b := lexI_swap _ _
theorem msI_perm {a a' : List Int} (h : a.Perm a') (b : List Int) : msI a b = msI a' b := by unfold msI; rw [desc_of_perm h]
theorem msI_trans {a b c : List Int} (h : 0 ≤ msI a b) (k : 0 ≤ msI b c) : 0 ≤ msI a c := by
 have h1 := lexI_tr (desc c) (desc b) (desc a)
 have e1 := msI_swap a b
 have e2 := msI_swap b c
 have e3 := msI_swap a c
 unfold msI at *
 unfold Tr at h1
 omega
/-- the greatest number that occurs more often on one side -/
theorem lexI_one : ∀ {D E : List Int}, D.Pairwise (fun x y => y ≤ x) → E.Pairwise (fun x y => y ≤ x) → lexI D E = 1 → ∃ m, E.count m < D.count m ∧ ∀ n, m < n → D.count n = E.count n
 | [], [], _, _, h => by simp [lexI] at h
 | [], _ :: _, _, _, h => by simp [lexI] at h
 | a :: l, [], hD, _, _ => by
   have h1 := (List.pairwise_cons.1 hD).1
   refine ⟨a, by simp, fun n hn => ?_⟩
   rw [List.count_eq_zero_of_not_mem, List.count_eq_zero_of_not_mem (by simp)]
   intro h
   rcases List.mem_cons.1 h with e | e
   · omega
   · have := h1 n e; omega
 | a :: l, b :: m, hD, hE, h => by
   have h1 := List.pairwise_cons.1 hD
   have h2 := List.pairwise_cons.1 hE
   rw [lexI] at h
   by_cases e : a = b
   · subst e
     rw [sgn_zero.2 rfl, show orE 0 (lexI l m) = lexI l m from rfl] at h
     obtain ⟨k, k1, k2⟩ := lexI_one h1.2 h2.2 h
     refine ⟨k, by rw [List.count_cons, List.count_cons]; omega, fun n hn => by rw [List.count_cons, List.count_cons, k2 n hn]⟩
   · have hlt : b < a := by
      unfold orE sgn at h
      split at h <;> (try split at h) <;> (try split at h) <;> omega
     have e1 : ∀ n, a ≤ n → (b :: m).count n = 0 := fun n hn => List.count_eq_zero_of_not_mem (fun h => by
      rcases List.mem_cons.1 h with e | e
      · omega
      · have := h2.1 n e; omega)
     refine ⟨a, by rw [e1 a (Int.le_refl _)]; simp, fun n hn => ?_⟩
     rw [e1 n (by omega), List.count_eq_zero_of_not_mem]
     intro h
     rcases List.mem_cons.1 h with e | e
     · omega
     · have := h1.1 n e; omega

/-- what is left of two lists: of the first, of the second -/
def leftM (a b : List Int) : List Int × List Int := a.foldl (fun p n => if n ∈ p.2 then (p.1, p.2.erase n) else (p.1 ++ [n], p.2)) ([], b)
def overM (p : List Int × List Int) : Int := if p.1 = [] ∧ p.2 = [] then 0 else if p.2.all (fun y => p.1.any (fun x => decide (y < x))) then 1 else -1
theorem leftM_count (b : List Int) : ∀ (a x y c : List Int), (∀ n, x.count n = c.count n - b.count n ∧ y.count n = b.count n - c.count n) →
 ∀ n, (a.foldl (fun p n => if n ∈ p.2 then (p.1, p.2.erase n) else (p.1 ++ [n], p.2)) (x, y)).1.count n = (c ++ a).count n - b.count n ∧ (a.foldl (fun p n => if n ∈ p.2 then (p.1, p.2.erase n) else (p.1 ++ [n], p.2)) (x, y)).2.count n = b.count n - (c ++ a).count n
 | [], x, y, c, h, n => by simpa using h n
 | k :: a, x, y, c, h, n => by
   rw [List.foldl_cons]
   have e : c ++ k :: a = (c ++ [k]) ++ a := by simp
   rw [e]
   by_cases hk : k ∈ y
   · rw [if_pos hk]
     refine leftM_count b a x (y.erase k) (c ++ [k]) (fun i => ?_) n
     have h1 := h i
     rw [List.count_append, List.count_singleton, List.count_erase]
     by_cases ei : k = i
     · subst ei
       have h2 := List.count_pos_iff.2 hk
       simp only [BEq.rfl, if_true]
       omega
     · have ei' : ¬ i = k := fun e => ei e.symm
       have b1 : (k == i) = false := by simpa using ei
       have b2 : (i == k) = false := by simpa using ei'
       simp only [b1, b2, Bool.false_eq_true, if_false]
       omega
   · rw [if_neg hk]
     refine leftM_count b a (x ++ [k]) y (c ++ [k]) (fun i => ?_) n
     have h1 := h i
     rw [List.count_append, List.count_append, List.count_singleton]
     by_cases ei : k = i
     · subst ei
       have h2 := List.count_eq_zero_of_not_mem hk
       simp only [BEq.rfl, if_true]
       omega
     · have b1 : (k == i) = false := by simpa using ei
       simp only [b1, Bool.false_eq_true, if_false]
       omega
/-- the reference's comparison of multisets is this one -/
theorem over_msI (a b : List Int) : overM (leftM a b) = msI a b := by
 have hc : ∀ n, (leftM a b).1.count n = a.count n - b.count n ∧ (leftM a b).2.count n = b.count n - a.count n := fun n => by
  have := leftM_count b a [] b [] (fun i => by simp) n
  simpa [leftM] using this
 obtain ⟨x, y, e⟩ : ∃ x y, leftM a b = (x, y) := ⟨_, _, rfl⟩
 rw [e] at hc
 rw [e]
 simp only at hc
 unfold overM
 simp only
 have hmem : ∀ {l : List Int} {n : Int}, 0 < l.count n → n ∈ l := fun h => List.count_pos_iff.1 h
 rcases lexI_vals (desc a) (desc b) with h | h | h
 · have := lexI_zero h
   have hz : ∀ n, a.count n = b.count n := fun n => by rw [← desc_count a, ← desc_count b, this]
   have hx : x = [] := List.eq_nil_iff_forall_not_mem.2 (fun n hn => by have := (hc n).1; rw [hz n] at this; have := List.count_pos_iff.2 hn; omega)
   have hy : y = [] := List.eq_nil_iff_forall_not_mem.2 (fun n hn => by have := (hc n).2; rw [hz n] at this; have := List.count_pos_iff.2 hn; omega)
   rw [if_pos ⟨hx, hy⟩, msI, h]
 · obtain ⟨m, h1, h2⟩ := lexI_one (desc_sorted a) (desc_sorted b) h
   rw [desc_count, desc_count] at h1
   have hm : m ∈ x := hmem (by have := (hc m).1; omega)
   rw [if_neg (by rintro ⟨h, -⟩; rw [h] at hm; simp at hm), if_pos, msI, h]
   rw [List.all_eq_true]
   intro n hn
   rw [List.any_eq_true]
   refine ⟨m, hm, ?_⟩
   rw [decide_eq_true_eq]
   have h3 := List.count_pos_iff.2 hn
   rw [(hc n).2] at h3
   rcases Int.lt_trichotomy n m with h4 | h4 | h4
   · exact h4
   · subst h4; omega
   · have := h2 n h4
     rw [desc_count, desc_count] at this
     omega
 · have h' : lexI (desc b) (desc a) = 1 := by rw [lexI_swap (desc a), h]; rfl
   obtain ⟨m, h1, h2⟩ := lexI_one (desc_sorted b) (desc_sorted a) h'
   rw [desc_count, desc_count] at h1
   have hm : m ∈ y := hmem (by have := (hc m).2; omega)
   rw [if_neg (by rintro ⟨-, h⟩; rw [h] at hm; simp at hm), if_neg, msI, h]
   intro hA
   rw [List.all_eq_true] at hA
   have := hA m hm
   rw [List.any_eq_true] at this
   obtain ⟨n, hn, hlt⟩ := this
   rw [decide_eq_true_eq] at hlt
   have h3 := List.count_pos_iff.2 hn
   rw [(hc n).1] at h3
   have := h2 n hlt
   rw [desc_count, desc_count] at this
   omega

end Go.Proofs.YtkobikdkbpdjeaaDoor
