/- Plain law: the weighted order. -/
import Derived.Test.YtkobikdkbpdjeaaDoorB1
namespace Go.Proofs.YtkobikdkbpdjeaaDoor
open Go
set_option linter.unusedVariables false
set_option linter.unusedSimpArgs false

/-- the weight of a name -/
def wAt (l : List ByteArray) (w : List Int) (s : ByteArray) : Int := (w[(rnk l s).toNat]?).getD 0
mutual
def wgt (l : List ByteArray) (w : List Int) : Tm → Int | .mk k n _ ks => (if k = 1 then 1 else wAt l w n) + wgtL l w ks
def wgtL (l : List ByteArray) (w : List Int) : List Tm → Int | [] => 0 | t :: ks => wgt l w t + wgtL l w ks
end
mutual
/-- how often a term occurs -/
def cnt (x : Tm) : Tm → Int | .mk k n s ks => (if Tm.mk k n s ks = x then 1 else 0) + cntL x ks
def cntL (x : Tm) : List Tm → Int | [] => 0 | t :: ks => cnt x t + cntL x ks
end
mutual
/-- the variables, each as often as it occurs -/
def vrs : Tm → List Tm | .mk k n s ks => (if k = 1 then [Tm.mk k n s ks] else []) ++ vrsL ks
def vrsL : List Tm → List Tm | [] => [] | t :: ks => vrs t ++ vrsL ks
end
mutual
/-- applications of weight 0 about a term -/
def lightT (l : List ByteArray) (w : List Int) : Tm → Tm → Bool
 | .mk k n s ks, x => decide (Tm.mk k n s ks = x) || (decide (k = 3) && decide (ks.length = 1) && decide (wAt l w n = 0) && lightL l w ks x)
def lightL (l : List ByteArray) (w : List Int) : List Tm → Tm → Bool
 | [], _ => false
 | t :: _, x => lightT l w t x
end
def cov (s t : Tm) : Bool := (vrs t).all (fun x => decide (cnt x t ≤ cnt x s))
/-- the weighted order, with fuel -/
def hvF (l : List ByteArray) (w : List Int) : Nat → Tm → Tm → Bool
 | 0, _, _ => false
 | n + 1, s, t => decide (s ≠ t) && decide (s.kind ≠ 1) && cov s t &&
     (if wgt l w s ≠ wgt l w t then decide (wgt l w t < wgt l w s) else if t.kind = 1 then lightT l w s t else if strong l s t ≠ 0 then decide (0 < strong l s t) else lexF (hvF l w n) s.kids t.kids)
def hv (l : List ByteArray) (w : List Int) (s t : Tm) : Bool := hvF l w (sizeT s) s t

theorem hvF_enough (l : List ByteArray) (w : List Int) : ∀ (n m : Nat) (s t : Tm), sizeT s ≤ n → sizeT s ≤ m → hvF l w n s t = hvF l w m s t
 | 0, m, s, t, h, _ => by have := sizeT_kids s; omega
 | n + 1, 0, s, t, _, h => by have := sizeT_kids s; omega
 | n + 1, m + 1, s, t, h, h' => by
   have e3 : lexF (hvF l w n) s.kids t.kids = lexF (hvF l w m) s.kids t.kids :=
    lexF_same (fun x hx y hy => by have := size_kid hx; rw [hvF_enough l w n m x y (by omega) (by omega)])
   rw [hvF, hvF, e3]
theorem hv_eq (l : List ByteArray) (w : List Int) (s t : Tm) : hv l w s t = (decide (s ≠ t) && decide (s.kind ≠ 1) && cov s t &&
 (if wgt l w s ≠ wgt l w t then decide (wgt l w t < wgt l w s) else if t.kind = 1 then lightT l w s t else if strong l s t ≠ 0 then decide (0 < strong l s t) else lexF (hv l w) s.kids t.kids)) := by
 unfold hv
 obtain ⟨n, hn⟩ : ∃ n, sizeT s = n + 1 := ⟨sizeT s - 1, by have := sizeT_kids s; omega⟩
 rw [hn, hvF]
 have e3 : lexF (hvF l w n) s.kids t.kids = lexF (fun s t => hvF l w (sizeT s) s t) s.kids t.kids :=
  lexF_same (fun x hx y hy => by have := size_kid hx; rw [hvF_enough l w n _ x y (by omega) (Nat.le_refl _)])
 rw [e3]
theorem cnt_kids (x t : Tm) : cnt x t = (if t = x then 1 else 0) + cntL x t.kids := by cases t; rw [cnt]; rfl
theorem vrs_kids (t : Tm) : vrs t = (if t.kind = 1 then [t] else []) ++ vrsL t.kids := by cases t; rw [vrs]; rfl
theorem wgt_kids (l : List ByteArray) (w : List Int) (t : Tm) : wgt l w t = (if t.kind = 1 then 1 else wAt l w t.name) + wgtL l w t.kids := by cases t; rw [wgt]; rfl
mutual
theorem cnt_lo (x : Tm) : ∀ t, 0 ≤ cnt x t
 | .mk k n s ks => by rw [cnt]; have := cntL_lo x ks; split <;> omega
theorem cntL_lo (x : Tm) : ∀ t, 0 ≤ cntL x t
 | [] => by simp [cntL]
 | t :: ks => by rw [cntL]; have := cntL_lo x ks; have := cnt_lo x t; omega
end
mutual
theorem cnt_vrs {x : Tm} (hx : x.kind = 1) : ∀ t, 0 < cnt x t → x ∈ vrs t
 | .mk k n s ks, h => by
   rw [cnt] at h
   rw [vrs]
   split at h
   · rename_i e
     subst e
     rw [if_pos (show k = 1 from hx)]; simp
   · exact List.mem_append_right _ (cntL_vrs hx ks (by omega))
theorem cntL_vrs {x : Tm} (hx : x.kind = 1) : ∀ t, 0 < cntL x t → x ∈ vrsL t
 | [], h => by simp [cntL] at h
 | t :: ks, h => by
   rw [cntL] at h
   rw [vrsL]
   by_cases e : 0 < cnt x t
   · exact List.mem_append_left _ (cnt_vrs hx t e)
   · exact List.mem_append_right _ (cntL_vrs hx ks (by omega))
end
mutual
theorem vrs_kind {x : Tm} : ∀ t, x ∈ vrs t → x.kind = 1
 | .mk k n s ks, h => by
   rw [vrs] at h
   rcases List.mem_append.1 h with h | h
   · split at h
     · rename_i e; simp at h; subst h; exact e
     · simp at h
   · exact vrsL_kind ks h
theorem vrsL_kind {x : Tm} : ∀ t, x ∈ vrsL t → x.kind = 1
 | [], h => by simp [vrsL] at h
 | t :: ks, h => by
   rw [vrsL] at h
   rcases List.mem_append.1 h with h | h
   · exact vrs_kind t h
   · exact vrsL_kind ks h
end
theorem cov_iff {s t : Tm} : cov s t = true ↔ ∀ x, x.kind = 1 → cnt x t ≤ cnt x s := by
 unfold cov
 simp only [List.all_eq_true, decide_eq_true_eq]
 constructor
 · intro h x hx
   by_cases e : 0 < cnt x t
   · exact h x (cnt_vrs hx t e)
   · have := cnt_lo x s; omega
 · intro h x hx
   exact h x (vrs_kind t hx)
theorem cntL_mem {x k : Tm} : ∀ {L : List Tm}, k ∈ L → cnt x k ≤ cntL x L
 | [], h => by simp at h
 | y :: L, h => by
   rw [cntL]
   have h1 := cnt_lo x y
   have h2 := cntL_lo x L
   rcases List.mem_cons.1 h with rfl | h
   · omega
   · have := cntL_mem (x := x) h; omega
theorem cov_kid {s k : Tm} (h : k ∈ s.kids) : cov s k = true := by
 rw [cov_iff]
 intro x hx
 rw [cnt_kids x s]
 have := cntL_mem (x := x) h
 split <;> omega
theorem cov_trans {s t u : Tm} (h : cov s t = true) (k : cov t u = true) : cov s u = true := by
 rw [cov_iff] at *
 intro x hx
 have := h x hx; have := k x hx; omega

section
variable {l : List ByteArray} {w : List Int}
/-- all weights are positive -/
def Pos (l : List ByteArray) (w : List Int) (t : Tm) : Prop := ∀ x ∈ t.kids, True
mutual
/-- the names of a term that are no variables have positive weights -/
def pwT (l : List ByteArray) (w : List Int) : Tm → Prop | .mk k n _ ks => (k ≠ 1 → 0 < wAt l w n) ∧ pwL l w ks
def pwL (l : List ByteArray) (w : List Int) : List Tm → Prop | [] => True | t :: ks => pwT l w t ∧ pwL l w ks
end
theorem pwL_mem {t : Tm} : ∀ {L : List Tm}, pwL l w L → t ∈ L → pwT l w t
 | [], _, h => by simp at h
 | x :: L, hw, h => by
   rw [pwL] at hw
   rcases List.mem_cons.1 h with rfl | h
   · exact hw.1
   · exact pwL_mem hw.2 h
theorem pwT_kid {t k : Tm} (h : pwT l w t) (hk : k ∈ t.kids) : pwT l w k := by
 cases t with
 | mk a b c d => rw [pwT] at h; exact pwL_mem h.2 hk
theorem pwT_head {t : Tm} (h : pwT l w t) (hk : t.kind ≠ 1) : 0 < wAt l w t.name := by
 cases t with
 | mk a b c d => rw [pwT] at h; exact h.1 hk
mutual
theorem wgt_pos : ∀ {t : Tm}, pwT l w t → 0 < wgt l w t
 | .mk k n s ks, h => by
   rw [pwT] at h
   rw [wgt]
   have := wgtL_pos h.2
   split
   · omega
   · rename_i e; have := h.1 e; omega
theorem wgtL_pos : ∀ {t : List Tm}, pwL l w t → 0 ≤ wgtL l w t
 | [], _ => by simp [wgtL]
 | t :: ks, h => by
   rw [pwL] at h
   rw [wgtL]
   have := wgt_pos h.1; have := wgtL_pos h.2; omega
end
theorem wgtL_mem {k : Tm} : ∀ {L : List Tm}, pwL l w L → k ∈ L → wgt l w k ≤ wgtL l w L
 | [], _, h => by simp at h
 | y :: L, hp, h => by
   rw [pwL] at hp
   rw [wgtL]
   have h1 := wgt_pos hp.1
   have h2 := wgtL_pos hp.2
   rcases List.mem_cons.1 h with rfl | h
   · omega
   · have := wgtL_mem hp.2 h; omega
theorem lightT_pos {s t : Tm} (hp : pwT l w s) (hv : s.kind ≠ 1) (h : lightT l w s t = true) : s = t := by
 cases s with
 | mk a b c d =>
   rw [lightT] at h
   rw [pwT] at hp
   have h1 := hp.1 hv
   rw [decide_eq_false (show ¬ wAt l w b = 0 by omega)] at h
   simpa using h
/-- the weighted order, where all weights are positive -/
theorem hv_iff {s t : Tm} (hp : pwT l w s) : hv l w s t = true ↔ s ≠ t ∧ s.kind ≠ 1 ∧ cov s t = true ∧ (wgt l w t < wgt l w s ∨ wgt l w s = wgt l w t ∧ t.kind ≠ 1 ∧ (0 < strong l s t ∨ strong l s t = 0 ∧ lexF (hv l w) s.kids t.kids = true)) := by
 rw [hv_eq]
 simp only [Bool.and_eq_true, decide_eq_true_eq]
 constructor
 · rintro ⟨⟨⟨h1, h2⟩, h3⟩, h4⟩
   refine ⟨h1, h2, h3, ?_⟩
   split at h4
   · exact .inl (of_decide_eq_true h4)
   · rename_i e
     have e := Classical.not_not.1 e
     split at h4
     · exact absurd (lightT_pos hp h2 h4) h1
     · rename_i e2
       split at h4
       · exact .inr ⟨e, e2, .inl (of_decide_eq_true h4)⟩
       · rename_i e3
         exact .inr ⟨e, e2, .inr ⟨Classical.not_not.1 e3, h4⟩⟩
 · rintro ⟨h1, h2, h3, h4⟩
   refine ⟨⟨⟨h1, h2⟩, h3⟩, ?_⟩
   rcases h4 with h4 | ⟨h4, h5, h6 | ⟨h6, h7⟩⟩
   · rw [if_pos (by omega)]; exact decide_eq_true h4
   · rw [if_neg (by omega), if_neg h5, if_pos (by omega)]; exact decide_eq_true h6
   · rw [if_neg (by omega), if_neg h5, if_neg (by omega)]; exact h7
theorem hv_self (s : Tm) : hv l w s s = false := by rw [hv_eq]; simp
theorem hv_trans : ∀ (n : Nat) (s t u : Tm), sizeT s ≤ n → pwT l w s → pwT l w t → pwT l w u → hv l w s t = true → hv l w t u = true → hv l w s u = true ∧ s ≠ u
 | 0, s, t, u, h, _, _, _, _, _ => by have := sizeT_kids s; omega
 | n + 1, s, t, u, hn, hs, ht, hu, h, k => by
   have hne : s ≠ u → hv l w s u = true := by
    intro hne
    obtain ⟨h1, h2, h3, h4⟩ := (hv_iff hs).1 h
    obtain ⟨k1, k2, k3, k4⟩ := (hv_iff ht).1 k
    refine (hv_iff hs).2 ⟨hne, h2, cov_trans h3 k3, ?_⟩
    rcases h4 with h4 | ⟨h4, h5, h6⟩
    · rcases k4 with k4 | ⟨k4, -, -⟩ <;> exact .inl (by omega)
    · rcases k4 with k4 | ⟨k4, k5, k6⟩
      · exact .inl (by omega)
      · obtain ⟨g1, g2, g3⟩ := strong_up (l := l) (s := s) (t := t) (u := u) (by omega) (by omega)
        refine .inr ⟨by omega, k5, ?_⟩
        rcases h6 with h6 | ⟨h6, h7⟩
        · exact .inl (g2 (.inl h6))
        · rcases k6 with k6 | ⟨k6, k7⟩
          · exact .inl (g2 (.inr k6))
          · refine .inr ⟨g3 h6 k6, lexF_trans h7 k7 fun a ha b hb c hc e1 e2 => ?_⟩
            have := size_kid ha
            exact hv_trans n a b c (by omega) (pwT_kid hs ha) (pwT_kid ht hb) (pwT_kid hu hc) e1 e2
   by_cases e : s = u
   · subst e
     exfalso
     obtain ⟨h1, h2, h3, h4⟩ := (hv_iff hs).1 h
     obtain ⟨k1, k2, k3, k4⟩ := (hv_iff ht).1 k
     have e1 := strong_swap l s t
     rcases h4 with h4 | ⟨h4, h5, h6⟩
     · rcases k4 with k4 | ⟨k4, -, -⟩ <;> omega
     · rcases k4 with k4 | ⟨k4, k5, k6⟩
       · omega
       · rcases h6 with h6 | ⟨h6, h7⟩
         · rcases k6 with k6 | ⟨k6, -⟩ <;> omega
         · rcases k6 with k6 | ⟨k6, k7⟩
           · omega
           · have := lexF_trans h7 k7 fun a ha b hb c hc e1 e2 => by
              have := size_kid ha
              exact hv_trans n a b c (by omega) (pwT_kid hs ha) (pwT_kid ht hb) (pwT_kid hu hc) e1 e2
             rw [lexF_irrefl] at this
             cases this
   · exact ⟨hne e, e⟩
theorem hv_asymm {s t : Tm} (hs : pwT l w s) (ht : pwT l w t) (h : hv l w s t = true) : hv l w t s = false := by
 rw [Bool.eq_false_iff]
 intro k
 exact (hv_trans _ s t s (Nat.le_refl _) hs ht hs h k).2 rfl
theorem hv_kid {s k : Tm} (hs : wfT s) (hp : pwT l w s) (hk : k ∈ s.kids) : hv l w s k = true := by
 have hv := wfT_var hs hk
 have h1 := pwT_head hp hv
 have h2 : wgt l w k < wgt l w s := by
  rw [wgt_kids l w s, if_neg hv]
  cases s with
  | mk a b c d =>
    rw [pwT] at hp
    have := wgtL_mem hp.2 hk
    simp only [Tm.name, Tm.kids] at *
    omega
 exact (hv_iff hp).2 ⟨fun e => by rw [e] at h2; omega, hv, cov_kid hk, .inl h2⟩
mutual
theorem gk_vrs : ∀ {t : Tm}, gkT l t → vrs t = []
 | .mk k n s ks, h => by rw [gkT] at h; rw [vrs, if_neg h.1, gk_vrsL h.2.2]; rfl
theorem gk_vrsL : ∀ {t : List Tm}, gkL l t → vrsL t = []
 | [], _ => rfl
 | t :: ks, h => by rw [gkL] at h; rw [vrsL, gk_vrs h.1, gk_vrsL h.2]; rfl
end
theorem gk_cov {s t : Tm} (h : gkT l t) : cov s t = true := by unfold cov; rw [gk_vrs h]; rfl
theorem hv_total : ∀ (n : Nat) (s t : Tm), sizeT s ≤ n → gkT l s → gkT l t → pwT l w s → pwT l w t → s ≠ t → hv l w s t = true ∨ hv l w t s = true
 | 0, s, t, h, _, _, _, _, _ => by have := sizeT_kids s; omega
 | n + 1, s, t, hn, hs, ht, ps, pt, hne => by
   obtain ⟨s1, s2, s3⟩ := gkT_open hs
   obtain ⟨t1, t2, t3⟩ := gkT_open ht
   have e := strong_swap l s t
   rcases Int.lt_trichotomy (wgt l w s) (wgt l w t) with h | h | h
   · exact .inr ((hv_iff pt).2 ⟨Ne.symm hne, t1, gk_cov hs, .inl h⟩)
   · rcases Int.lt_trichotomy (strong l s t) 0 with h' | h' | h'
     · exact .inr ((hv_iff pt).2 ⟨Ne.symm hne, t1, gk_cov hs, .inr ⟨h.symm, s1, .inl (by omega)⟩⟩)
     · obtain ⟨i, a, b, b1, b2, b3, b4⟩ := kids_diff s2 hne h'
       have ha := List.mem_of_getElem? b1
       have hb := List.mem_of_getElem? b2
       have := size_kid ha
       rcases hv_total n a b (by omega) (s3 a ha) (t3 b hb) (pwT_kid ps ha) (pwT_kid pt hb) b3 with h'' | h''
       · exact .inl ((hv_iff ps).2 ⟨hne, s1, gk_cov ht, .inr ⟨h, t1, .inr ⟨h', lexF_intro b1 b2 b3 h'' b4⟩⟩⟩)
       · exact .inr ((hv_iff pt).2 ⟨Ne.symm hne, t1, gk_cov hs, .inr ⟨h.symm, s1, .inr ⟨by omega, lexF_intro b2 b1 (Ne.symm b3) h'' b4.symm⟩⟩⟩)
     · exact .inl ((hv_iff ps).2 ⟨hne, s1, gk_cov ht, .inr ⟨h, t1, .inl h'⟩⟩)
   · exact .inl ((hv_iff ps).2 ⟨hne, s1, gk_cov ht, .inl h⟩)
end

/-- how two things compare -/
def vdt (f : Tm → Tm → Bool) (s t : Tm) : Int := if s = t then 0 else if f s t then 1 else if f t s then -1 else 2

end Go.Proofs.YtkobikdkbpdjeaaDoor
