/- Plain law: the path order and the weighted order. -/
import Derived.Test.YtkobikdkbpdjeaaDoorG1
namespace Go.Proofs.YtkobikdkbpdjeaaDoor
open Go
set_option linter.unusedVariables false
set_option linter.unusedSimpArgs false

/-- the place of a name in a list, or -1 -/
def rnk : List ByteArray → ByteArray → Int
 | [], _ => -1
 | x :: l, s => if x = s then 0 else if rnk l s < 0 then -1 else rnk l s + 1
/-- the symbols of two terms compared -/
def strong (l : List ByteArray) (s t : Tm) : Int :=
 orE (sgn (rnk l s.name) (rnk l t.name)) (orE (sgn s.kind t.kind) (orE (sgn s.sort t.sort) (sgn (s.kids.length : Int) (t.kids.length : Int))))
def lexF (f : Tm → Tm → Bool) : List Tm → List Tm → Bool
 | a :: l, b :: m => if a = b then lexF f l m else f a b
 | _, _ => false
/-- the path order, with fuel -/
def pathF (l : List ByteArray) : Nat → Tm → Tm → Bool
 | 0, _, _ => false
 | n + 1, s, t => decide (s.kind ≠ 1) && (s.kids.any (fun k => decide (k = t) || pathF l n k t) ||
     (decide (t.kind ≠ 1) && decide (0 ≤ strong l s t) && t.kids.all (fun k => pathF l n s k) && (decide (0 < strong l s t) || lexF (pathF l n) s.kids t.kids)))
def path (l : List ByteArray) (s t : Tm) : Bool := pathF l (sizeT s + sizeT t) s t

theorem sizeL_mem {t : Tm} : ∀ {L : List Tm}, t ∈ L → sizeT t ≤ sizeL L
 | [], h => by simp at h
 | x :: L, h => by
   rw [sizeL]
   rcases List.mem_cons.1 h with rfl | h
   · omega
   · have := sizeL_mem h; omega
theorem size_kid {t k : Tm} (h : k ∈ t.kids) : sizeT k < sizeT t := by rw [sizeT_kids t]; have := sizeL_mem h; omega
theorem any_same {α : Type} {f g : α → Bool} : ∀ {l : List α}, (∀ x ∈ l, f x = g x) → l.any f = l.any g
 | [], _ => rfl
 | x :: l, h => by rw [List.any_cons, List.any_cons, h x (by simp), any_same (fun y hy => h y (by simp [hy]))]
theorem all_same {α : Type} {f g : α → Bool} : ∀ {l : List α}, (∀ x ∈ l, f x = g x) → l.all f = l.all g
 | [], _ => rfl
 | x :: l, h => by rw [List.all_cons, List.all_cons, h x (by simp), all_same (fun y hy => h y (by simp [hy]))]
theorem lexF_same {f g : Tm → Tm → Bool} : ∀ {l m : List Tm}, (∀ x ∈ l, ∀ y ∈ m, f x y = g x y) → lexF f l m = lexF g l m
 | [], m, _ => by simp [lexF]
 | _ :: _, [], _ => by simp [lexF]
 | a :: l, b :: m, h => by
   rw [lexF, lexF, lexF_same (fun x hx y hy => h x (by simp [hx]) y (by simp [hy])), h a (by simp) b (by simp)]
theorem pathF_enough (l : List ByteArray) : ∀ (n m : Nat) (s t : Tm), sizeT s + sizeT t ≤ n → sizeT s + sizeT t ≤ m → pathF l n s t = pathF l m s t
 | 0, m, s, t, h, _ => by have := sizeT_kids s; omega
 | n + 1, 0, s, t, _, h => by have := sizeT_kids s; omega
 | n + 1, m + 1, s, t, h, h' => by
   have e1 : s.kids.any (fun k => decide (k = t) || pathF l n k t) = s.kids.any (fun k => decide (k = t) || pathF l m k t) :=
    any_same (fun x hx => by have := size_kid hx; rw [pathF_enough l n m x t (by omega) (by omega)])
   have e2 : t.kids.all (fun k => pathF l n s k) = t.kids.all (fun k => pathF l m s k) :=
    all_same (fun x hx => by have := size_kid hx; rw [pathF_enough l n m s x (by omega) (by omega)])
   have e3 : lexF (pathF l n) s.kids t.kids = lexF (pathF l m) s.kids t.kids :=
    lexF_same (fun x hx y hy => by have := size_kid hx; have := size_kid hy; rw [pathF_enough l n m x y (by omega) (by omega)])
   rw [pathF, pathF, e1, e2, e3]
theorem path_eq (l : List ByteArray) (s t : Tm) : path l s t = (decide (s.kind ≠ 1) && (s.kids.any (fun k => decide (k = t) || path l k t) ||
 (decide (t.kind ≠ 1) && decide (0 ≤ strong l s t) && t.kids.all (fun k => path l s k) && (decide (0 < strong l s t) || lexF (path l) s.kids t.kids)))) := by
 unfold path
 obtain ⟨n, hn⟩ : ∃ n, sizeT s + sizeT t = n + 1 := ⟨sizeT s + sizeT t - 1, by have := sizeT_kids s; omega⟩
 rw [hn, pathF]
 have e1 : s.kids.any (fun k => decide (k = t) || pathF l n k t) = s.kids.any (fun k => decide (k = t) || pathF l (sizeT k + sizeT t) k t) :=
  any_same (fun x hx => by have := size_kid hx; rw [pathF_enough l n _ x t (by omega) (Nat.le_refl _)])
 have e2 : t.kids.all (fun k => pathF l n s k) = t.kids.all (fun k => pathF l (sizeT s + sizeT k) s k) :=
  all_same (fun x hx => by have := size_kid hx; rw [pathF_enough l n _ s x (by omega) (Nat.le_refl _)])
 have e3 : lexF (pathF l n) s.kids t.kids = lexF (fun s t => pathF l (sizeT s + sizeT t) s t) s.kids t.kids :=
  lexF_same (fun x hx y hy => by have := size_kid hx; have := size_kid hy; rw [pathF_enough l n _ x y (by omega) (Nat.le_refl _)])
 rw [e1, e2, e3]
theorem path_iff {l : List ByteArray} {s t : Tm} : path l s t = true ↔ s.kind ≠ 1 ∧ ((∃ k ∈ s.kids, k = t ∨ path l k t = true) ∨
 (t.kind ≠ 1 ∧ 0 ≤ strong l s t ∧ (∀ k ∈ t.kids, path l s k = true) ∧ (0 < strong l s t ∨ lexF (path l) s.kids t.kids = true))) := by
 rw [path_eq]
 simp only [Bool.and_eq_true, Bool.or_eq_true, decide_eq_true_eq, List.any_eq_true, List.all_eq_true]
 constructor
 · rintro ⟨h, h' | ⟨⟨⟨a, b⟩, c⟩, d⟩⟩
   · exact ⟨h, .inl h'⟩
   · exact ⟨h, .inr ⟨a, b, c, d⟩⟩
 · rintro ⟨h, h' | ⟨a, b, c, d⟩⟩
   · exact ⟨h, .inl h'⟩
   · exact ⟨h, .inr ⟨⟨⟨a, b⟩, c⟩, d⟩⟩

mutual
/-- variables have no kids -/
def wfT : Tm → Prop | .mk k _ _ l => (k = 1 → l = []) ∧ wfL l
def wfL : List Tm → Prop | [] => True | t :: l => wfT t ∧ wfL l
end
theorem wfL_mem {t : Tm} : ∀ {L : List Tm}, wfL L → t ∈ L → wfT t
 | [], _, h => by simp at h
 | x :: L, hw, h => by
   rw [wfL] at hw
   rcases List.mem_cons.1 h with rfl | h
   · exact hw.1
   · exact wfL_mem hw.2 h
theorem wfT_kid {t k : Tm} (h : wfT t) (hk : k ∈ t.kids) : wfT k := by
 cases t with
 | mk a b c d => rw [wfT] at h; exact wfL_mem h.2 hk
theorem wfT_var {t k : Tm} (h : wfT t) (hk : k ∈ t.kids) : t.kind ≠ 1 := by
 cases t with
 | mk a b c d =>
   rw [wfT] at h
   intro e
   have := h.1 e
   rw [show Tm.kids (.mk a b c d) = d from rfl, this] at hk
   simp at hk

theorem strong_tr (l : List ByteArray) (s t u : Tm) : Tr (strong l s t) (strong l t u) (strong l s u) := by
 unfold strong
 exact (sgn_tr _ _ _).or ((sgn_tr _ _ _).or ((sgn_tr _ _ _).or (sgn_tr _ _ _)))
theorem strong_swap (l : List ByteArray) (s t : Tm) : strong l t s = - strong l s t := by
 unfold strong
 rw [sgn_swap (rnk l s.name), sgn_swap s.kind, sgn_swap s.sort, sgn_swap (s.kids.length : Int), orE_neg, orE_neg, orE_neg]
theorem strong_self (l : List ByteArray) (s : Tm) : strong l s s = 0 := by have := strong_swap l s s; omega
theorem strong_zero {l : List ByteArray} {s t : Tm} (h : strong l s t = 0) : rnk l s.name = rnk l t.name ∧ s.kind = t.kind ∧ s.sort = t.sort ∧ s.kids.length = t.kids.length := by
 unfold strong at h
 rw [orE_zero, orE_zero, orE_zero, sgn_zero, sgn_zero, sgn_zero, sgn_zero] at h
 omega
/-- downwards: 0 ≤ -/
theorem strong_up {l : List ByteArray} {s t u : Tm} (h : 0 ≤ strong l s t) (k : 0 ≤ strong l t u) : 0 ≤ strong l s u ∧ (0 < strong l s t ∨ 0 < strong l t u → 0 < strong l s u) ∧ (strong l s t = 0 → strong l t u = 0 → strong l s u = 0) := by
 have h1 := strong_tr l u t s
 have e1 := strong_swap l s t
 have e2 := strong_swap l t u
 have e3 := strong_swap l s u
 unfold Tr at h1
 omega

theorem lexF_true {f : Tm → Tm → Bool} : ∀ {l m : List Tm}, lexF f l m = true → ∃ i a b, l[i]? = some a ∧ m[i]? = some b ∧ a ≠ b ∧ f a b = true ∧ l.take i = m.take i
 | [], m, h => by simp [lexF] at h
 | a :: l, [], h => by simp [lexF] at h
 | a :: l, b :: m, h => by
   rw [lexF] at h
   split at h
   · rename_i e
     obtain ⟨i, x, y, h1, h2, h3, h4, h5⟩ := lexF_true h
     exact ⟨i + 1, x, y, by simpa using h1, by simpa using h2, h3, h4, by simp [e, h5]⟩
   · rename_i e
     exact ⟨0, a, b, rfl, rfl, e, h, rfl⟩
theorem lexF_intro {f : Tm → Tm → Bool} : ∀ {i : Nat} {l m : List Tm} {a b : Tm}, l[i]? = some a → m[i]? = some b → a ≠ b → f a b = true → l.take i = m.take i → lexF f l m = true
 | 0, a :: l, b :: m, x, y, h1, h2, h3, h4, _ => by
   simp at h1 h2
   subst h1 h2
   rw [lexF, if_neg h3, h4]
 | i + 1, a :: l, b :: m, x, y, h1, h2, h3, h4, h5 => by
   simp at h1 h2 h5
   rw [lexF, if_pos h5.1]
   exact lexF_intro h1 h2 h3 h4 h5.2
 | i, [], _, x, y, h1, _, _, _, _ => by simp at h1
 | i, _ :: _, [], x, y, _, h2, _, _, _ => by simp at h2
theorem lexF_irrefl {f : Tm → Tm → Bool} : ∀ (l : List Tm), lexF f l l = false
 | [] => rfl
 | a :: l => by rw [lexF, if_pos rfl, lexF_irrefl l]
/-- transitive, where the order is it at the parts -/
theorem lexF_trans {f : Tm → Tm → Bool} {l m n : List Tm} (h1 : lexF f l m = true) (h2 : lexF f m n = true)
 (hT : ∀ a ∈ l, ∀ b ∈ m, ∀ c ∈ n, f a b = true → f b c = true → f a c = true ∧ a ≠ c) : lexF f l n = true := by
 obtain ⟨i, a, b, a1, a2, a3, a4, a5⟩ := lexF_true h1
 obtain ⟨j, b', c, b1, b2, b3, b4, b5⟩ := lexF_true h2
 rcases Nat.lt_trichotomy i j with h | h | h
 · refine lexF_intro (i := i) a1 (b := b) ?_ a3 a4 ?_
   · have := congrArg (fun L => L[i]?) b5
     simp only [List.getElem?_take, h, if_true] at this
     rw [← this]; exact a2
   · rw [a5]
     have := congrArg (List.take i) b5
     simpa [List.take_take, Nat.min_eq_left (Nat.le_of_lt h)] using this
 · subst h
   rw [a2] at b1
   cases b1
   obtain ⟨c1, c2⟩ := hT a (List.mem_of_getElem? a1) b (List.mem_of_getElem? a2) c (List.mem_of_getElem? b2) a4 b4
   exact lexF_intro a1 b2 c2 c1 (a5.trans b5)
 · refine lexF_intro (i := j) (a := b') ?_ b2 b3 b4 ?_
   · have := congrArg (fun L => L[j]?) a5
     simp only [List.getElem?_take, h, if_true] at this
     rw [this]; exact b1
   · rw [← b5]
     have := congrArg (List.take j) a5
     simpa [List.take_take, Nat.min_eq_left (Nat.le_of_lt h)] using this

section
variable {l : List ByteArray}
/-- what is greater than a term is greater than its kids -/
theorem path_sub : ∀ (n : Nat) (s t k : Tm), sizeT s ≤ n → wfT s → wfT t → path l s t = true → k ∈ t.kids → path l s k = true
 | 0, s, t, k, h, _, _, _, _ => by have := sizeT_kids s; omega
 | n + 1, s, t, k, hn, hs, ht, h, hk => by
   obtain ⟨h0, h1 | ⟨h2, h3, h4, h5⟩⟩ := path_iff.1 h
   · obtain ⟨x, hx, h1 | h1⟩ := h1
     · subst h1
       refine path_iff.2 ⟨h0, .inl ⟨x, hx, .inr ?_⟩⟩
       exact path_iff.2 ⟨wfT_var ht hk, .inl ⟨k, hk, .inl rfl⟩⟩
     · refine path_iff.2 ⟨h0, .inl ⟨x, hx, .inr ?_⟩⟩
       have := size_kid hx
       exact path_sub n x t k (by omega) (wfT_kid hs hx) ht h1 hk
   · exact h4 k hk
theorem path_irrefl : ∀ (n : Nat) (s : Tm), sizeT s ≤ n → wfT s → path l s s = false
 | 0, s, h, _ => by have := sizeT_kids s; omega
 | n + 1, s, hn, hs => by
   rw [Bool.eq_false_iff]
   intro h
   obtain ⟨h0, h1 | ⟨h2, h3, h4, h5⟩⟩ := path_iff.1 h
   · obtain ⟨x, hx, h1 | h1⟩ := h1
     · have := size_kid hx; rw [h1] at this; omega
     · have hlt := size_kid hx
       have := path_sub _ x s x (Nat.le_refl _) (wfT_kid hs hx) hs h1 hx
       rw [path_irrefl n x (by omega) (wfT_kid hs hx)] at this
       cases this
   · rw [strong_self] at h5
     rcases h5 with h5 | h5
     · omega
     · rw [lexF_irrefl] at h5; cases h5
theorem path_trans : ∀ (n : Nat) (s t u : Tm), sizeT s + sizeT t + sizeT u ≤ n → wfT s → wfT t → wfT u → path l s t = true → path l t u = true → path l s u = true
 | 0, s, t, u, h, _, _, _, _, _ => by have := sizeT_kids s; omega
 | n + 1, s, t, u, hn, hs, ht, hu, h, k => by
   obtain ⟨h0, h1 | ⟨h2, h3, h4, h5⟩⟩ := path_iff.1 h
   · obtain ⟨x, hx, h1 | h1⟩ := h1
     · subst h1
       exact path_iff.2 ⟨h0, .inl ⟨x, hx, .inr k⟩⟩
     · have := size_kid hx
       exact path_iff.2 ⟨h0, .inl ⟨x, hx, .inr (path_trans n x t u (by omega) (wfT_kid hs hx) ht hu h1 k)⟩⟩
   · obtain ⟨k0, k1 | ⟨k2, k3, k4, k5⟩⟩ := path_iff.1 k
     · obtain ⟨y, hy, k1 | k1⟩ := k1
       · subst k1
         exact h4 y hy
       · have := size_kid hy
         exact path_trans n s y u (by omega) hs (wfT_kid ht hy) hu (h4 y hy) k1
     · obtain ⟨g1, g2, g3⟩ := strong_up h3 k3
       refine path_iff.2 ⟨h0, .inr ⟨k2, g1, fun z hz => ?_, ?_⟩⟩
       · have := size_kid hz
         exact path_trans n s t z (by omega) hs ht (wfT_kid hu hz) h (k4 z hz)
       · rcases h5 with h5 | h5
         · exact .inl (g2 (.inl h5))
         · rcases k5 with k5 | k5
           · exact .inl (g2 (.inr k5))
           · by_cases hp : 0 < strong l s u
             · exact .inl hp
             · refine .inr (lexF_trans h5 k5 fun a ha b hb c hc e1 e2 => ?_)
               have ha' := size_kid ha
               have hb' := size_kid hb
               have hc' := size_kid hc
               have e3 := path_trans n a b c (by omega) (wfT_kid hs ha) (wfT_kid ht hb) (wfT_kid hu hc) e1 e2
               refine ⟨e3, fun e => ?_⟩
               subst e
               rw [path_irrefl _ a (Nat.le_refl _) (wfT_kid hs ha)] at e3
               cases e3
theorem path_asymm {s t : Tm} (hs : wfT s) (ht : wfT t) (h : path l s t = true) : path l t s = false := by
 rw [Bool.eq_false_iff]
 intro k
 have := path_trans _ s t s (Nat.le_refl _) hs ht hs h k
 rw [path_irrefl _ s (Nat.le_refl _) hs] at this
 cases this
theorem path_kid {s k : Tm} (hs : wfT s) (hk : k ∈ s.kids) : path l s k = true := path_iff.2 ⟨wfT_var hs hk, .inl ⟨k, hk, .inl rfl⟩⟩

theorem rnk_lo : ∀ (l : List ByteArray) (s : ByteArray), -1 ≤ rnk l s
 | [], s => by simp [rnk]
 | x :: l, s => by rw [rnk]; have := rnk_lo l s; split <;> (try split) <;> omega
theorem rnk_inj : ∀ {l : List ByteArray} {s t : ByteArray}, 0 ≤ rnk l s → rnk l s = rnk l t → s = t
 | [], s, t, h, _ => by simp [rnk] at h
 | x :: l, s, t, h, e => by
   rw [rnk] at h
   rw [rnk, rnk] at e
   have h1 := rnk_lo l s
   have h2 := rnk_lo l t
   by_cases hs : x = s <;> by_cases ht : x = t
   · rw [← hs, ht]
   · rw [if_pos hs, if_neg ht] at e; split at e <;> omega
   · rw [if_neg hs, if_pos ht] at e; split at e <;> omega
   · rw [if_neg hs] at h
     rw [if_neg hs, if_neg ht] at e
     by_cases h3 : rnk l s < 0
     · rw [if_pos h3] at h; omega
     · rw [if_neg h3] at e
       by_cases h4 : rnk l t < 0
       · rw [if_pos h4] at e; omega
       · rw [if_neg h4] at e
         exact rnk_inj (l := l) (by omega) (by omega)
mutual
/-- no variables, and all names are known -/
def gkT (l : List ByteArray) : Tm → Prop | .mk k n _ ks => k ≠ 1 ∧ 0 ≤ rnk l n ∧ gkL l ks
def gkL (l : List ByteArray) : List Tm → Prop | [] => True | t :: ks => gkT l t ∧ gkL l ks
end
theorem gkL_mem {t : Tm} : ∀ {L : List Tm}, gkL l L → t ∈ L → gkT l t
 | [], _, h => by simp at h
 | x :: L, hw, h => by
   rw [gkL] at hw
   rcases List.mem_cons.1 h with rfl | h
   · exact hw.1
   · exact gkL_mem hw.2 h
theorem gkT_open {t : Tm} (h : gkT l t) : t.kind ≠ 1 ∧ 0 ≤ rnk l t.name ∧ ∀ k ∈ t.kids, gkT l k := by
 cases t with
 | mk a b c d => rw [gkT] at h; exact ⟨h.1, h.2.1, fun k hk => gkL_mem h.2.2 hk⟩
theorem diff_at : ∀ {l m : List Tm}, l.length = m.length → l ≠ m → ∃ i a b, l[i]? = some a ∧ m[i]? = some b ∧ a ≠ b ∧ l.take i = m.take i
 | [], [], _, h => absurd rfl h
 | [], _ :: _, h, _ => by simp at h
 | _ :: _, [], h, _ => by simp at h
 | a :: l, b :: m, h, hne => by
   by_cases e : a = b
   · subst e
     obtain ⟨i, x, y, h1, h2, h3, h4⟩ := diff_at (l := l) (m := m) (by simpa using h) (fun e => hne (by rw [e]))
     exact ⟨i + 1, x, y, by simpa using h1, by simpa using h2, h3, by simp [h4]⟩
   · exact ⟨0, a, b, rfl, rfl, e, rfl⟩
/-- two terms with the same symbol differ in their kids -/
theorem kids_diff {s t : Tm} (hs : 0 ≤ rnk l s.name) (hne : s ≠ t) (h : strong l s t = 0) : ∃ i a b, s.kids[i]? = some a ∧ t.kids[i]? = some b ∧ a ≠ b ∧ s.kids.take i = t.kids.take i := by
 obtain ⟨e1, e2, e3, e4⟩ := strong_zero h
 refine diff_at e4 (fun e => hne ?_)
 have e5 := rnk_inj hs e1
 cases s; cases t
 simp only [Tm.kind, Tm.sort, Tm.name, Tm.kids] at *
 subst e2 e3 e5 e
 rfl
theorem path_total : ∀ (n : Nat) (s t : Tm), sizeT s + sizeT t ≤ n → gkT l s → gkT l t → s ≠ t → path l s t = true ∨ path l t s = true
 | 0, s, t, h, _, _, _ => by have := sizeT_kids s; omega
 | n + 1, s, t, hn, hs, ht, hne => by
   obtain ⟨s1, s2, s3⟩ := gkT_open hs
   obtain ⟨t1, t2, t3⟩ := gkT_open ht
   by_cases h1 : ∃ k ∈ s.kids, k = t ∨ path l k t = true
   · exact .inl (path_iff.2 ⟨s1, .inl h1⟩)
   by_cases h2 : ∃ k ∈ t.kids, k = s ∨ path l k s = true
   · exact .inr (path_iff.2 ⟨t1, .inl h2⟩)
   have a1 : ∀ k ∈ s.kids, path l t k = true := fun k hk => by
    have := size_kid hk
    rcases path_total n k t (by omega) (s3 k hk) ht (fun e => h1 ⟨k, hk, .inl e⟩) with h | h
    · exact absurd ⟨k, hk, .inr h⟩ h1
    · exact h
   have a2 : ∀ k ∈ t.kids, path l s k = true := fun k hk => by
    have := size_kid hk
    rcases path_total n s k (by omega) hs (t3 k hk) (fun e => h2 ⟨k, hk, .inl e.symm⟩) with h | h
    · exact h
    · exact absurd ⟨k, hk, .inr h⟩ h2
   have e := strong_swap l s t
   rcases Int.lt_trichotomy (strong l s t) 0 with h | h | h
   · exact .inr (path_iff.2 ⟨t1, .inr ⟨s1, by omega, a1, .inl (by omega)⟩⟩)
   · obtain ⟨i, a, b, b1, b2, b3, b4⟩ := kids_diff s2 hne h
     have ha := List.mem_of_getElem? b1
     have hb := List.mem_of_getElem? b2
     have := size_kid ha
     have := size_kid hb
     rcases path_total n a b (by omega) (s3 a ha) (t3 b hb) b3 with h' | h'
     · exact .inl (path_iff.2 ⟨s1, .inr ⟨t1, by omega, a2, .inr (lexF_intro b1 b2 b3 h' b4)⟩⟩)
     · exact .inr (path_iff.2 ⟨t1, .inr ⟨s1, by omega, a1, .inr (lexF_intro b2 b1 (Ne.symm b3) h' b4.symm)⟩⟩)
   · exact .inl (path_iff.2 ⟨s1, .inr ⟨t1, by omega, a2, .inl h⟩⟩)
end

end Go.Proofs.YtkobikdkbpdjeaaDoor
