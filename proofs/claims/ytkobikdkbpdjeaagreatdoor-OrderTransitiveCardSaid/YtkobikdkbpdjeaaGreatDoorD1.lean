/- Plain law: the laws of the two orders (OrderTransitive, OrderTotal). -/
import Derived.Test.YtkobikdkbpdjeaaGreatDoorC9
namespace Go.Proofs.YtkobikdkbpdjeaaGreatDoor
open Go
set_option linter.unusedVariables false
set_option linter.unusedSimpArgs false

/-- what a right answer of the weighted order tells of its arguments -/
theorem kbo_ok {l : List ByteArray} {W : List Int} {s t : Tm} (h : kboE l W s t = 0) :
 precE l = 0 ∧ admE l W = 0 ∧ (validT s = 0 ∧ validT t = 0 ∧ knT l s = true ∧ knT l t = true) ∧ wrongT l W s = false ∧ wrongT l W t = false := by
 unfold kboE at h
 by_cases h1 : admE l W ≠ 0
 · rw [if_pos h1] at h; exact absurd h h1
 rw [if_neg h1] at h
 by_cases h2 : termsE l s t ≠ 0
 · rw [if_pos h2] at h; exact absurd h h2
 rw [if_neg h2] at h
 have h1 := Classical.not_not.1 h1
 have h2 := Classical.not_not.1 h2
 by_cases h3 : (wrongT l W s || wrongT l W t) = true
 · rw [if_pos h3] at h; omega
 · rw [Bool.or_eq_true, not_or, Bool.not_eq_true, Bool.not_eq_true] at h3
   exact ⟨(adm_ok h1).1, h1, termsE_zero h2, h3.1, h3.2⟩
theorem terms_ok {l : List ByteArray} {s t : Tm} (h1 : validT s = 0) (h2 : validT t = 0) (h3 : knT l s = true) (h4 : knT l t = true) : termsE l s t = 0 := by
 unfold termsE
 rw [h1, h2, h3, h4]; rfl
theorem kbo_fine {l : List ByteArray} {W : List Int} {s t : Tm} (h0 : admE l W = 0) (h1 : validT s = 0) (h2 : validT t = 0) (h3 : knT l s = true) (h4 : knT l t = true) (h5 : wrongT l W s = false) (h6 : wrongT l W t = false) : kboE l W s t = 0 ∧ kboV l W s t = vdt (hv l W) s t := by
 have e : kboE l W s t = 0 := by
  unfold kboE
  rw [h0, if_neg (by simp), terms_ok h1 h2 h3 h4, if_neg (by simp), h5, h6]; rfl
 exact ⟨e, by unfold kboV; rw [e, if_neg (by simp)]⟩
theorem lpo_fine {l : List ByteArray} {s t : Tm} (h0 : precE l = 0) (h1 : validT s = 0) (h2 : validT t = 0) (h3 : knT l s = true) (h4 : knT l t = true) : lpoE l s t = 0 ∧ lpoV l s t = vdt (path l) s t := by
 have e : lpoE l s t = 0 := by
  unfold lpoE
  rw [h0, if_neg (by simp), terms_ok h1 h2 h3 h4]
 exact ⟨e, by unfold lpoV; rw [e, if_neg (by simp)]⟩
/-- an order of terms: what the laws ask of a comparison -/
def lawsB (ab bc ac ba : Int) : Bool :=
 if ab = 2 ∨ ba = 2 then decide (ab = ba) else if ab ≠ -ba then false else !(decide (ab = 1) && decide (bc = 1) && decide (ac ≠ 1)) && !(decide (ab = 0) && decide (bc ≠ ac))
theorem vdt_laws {f : Tm → Tm → Bool} {s t u : Tm} (ha : f s t = true → f t s = false) (ht : f s t = true → f t u = true → f s u = true ∧ s ≠ u) :
 lawsB (vdt f s t) (vdt f t u) (vdt f s u) (vdt f t s) = true := by
 by_cases e : s = t
 · subst e
   have h1 : vdt f s s = 0 := by unfold vdt; rw [if_pos rfl]
   unfold lawsB
   rw [h1, if_neg (by decide), if_neg (by decide)]
   simp
 · have e' : ¬ t = s := fun h => e h.symm
   cases h1 : f s t with
   | true =>
     have h2 := ha h1
     have v1 : vdt f s t = 1 := by unfold vdt; rw [if_neg e, h1]; rfl
     have v2 : vdt f t s = -1 := by unfold vdt; rw [if_neg e', h2, h1]; rfl
     unfold lawsB
     rw [v1, v2, if_neg (by decide), if_neg (by decide)]
     by_cases hb : vdt f t u = 1
     · have htu : f t u = true := by
        unfold vdt at hb
        split at hb
        · omega
        · split at hb
          · assumption
          · split at hb <;> omega
       have h3 := ht h1 htu
       have v3 : vdt f s u = 1 := by unfold vdt; rw [if_neg h3.2, h3.1]; rfl
       rw [v3]; simp
     · simp [hb]
   | false =>
     cases h2 : f t s with
     | true =>
       have v1 : vdt f s t = -1 := by unfold vdt; rw [if_neg e, h1, h2]; rfl
       have v2 : vdt f t s = 1 := by unfold vdt; rw [if_neg e', h2]; rfl
       unfold lawsB
       rw [v1, v2]; simp
     | false =>
       have v1 : vdt f s t = 2 := by unfold vdt; rw [if_neg e, h1, h2]; rfl
       have v2 : vdt f t s = 2 := by unfold vdt; rw [if_neg e', h1, h2]; rfl
       unfold lawsB
       rw [v1, v2]; simp
theorem wf_valid {t : Tm} (h : validT t = 0) : wfT t := (tame_of_err (validT_iff4.1 h).1).2
theorem wAt_one {l : List ByteArray} {W : List Int} (hlen : W.length = l.length) (hW : ∀ z ∈ W, 1 ≤ z) {n : ByteArray} (h : 0 ≤ rnk l n) : 0 < wAt l W n := by
 obtain ⟨r, -, hr, hg⟩ := wAt_get hlen h
 have := hW _ (List.mem_of_getElem? hg)
 omega
mutual
theorem pw_known {l : List ByteArray} {W : List Int} (hlen : W.length = l.length) (hW : ∀ z ∈ W, 1 ≤ z) : ∀ {t : Tm}, knT l t = true → pwT l W t
 | .mk k n s ks, h => by
   rw [knT, Bool.and_eq_true] at h
   rw [pwT]
   refine ⟨fun hk => wAt_one hlen hW ?_, pw_knownL hlen hW h.2⟩
   have h1 := h.1
   rw [decide_eq_false hk] at h1
   simpa using h1
theorem pw_knownL {l : List ByteArray} {W : List Int} (hlen : W.length = l.length) (hW : ∀ z ∈ W, 1 ≤ z) : ∀ {L : List Tm}, knL l L = true → pwL l W L
 | [], _ => by rw [pwL]; trivial
 | t :: L, h => by
   rw [knL, Bool.and_eq_true] at h
   rw [pwL]
   exact ⟨pw_known hlen hW h.1, pw_knownL hlen hW h.2⟩
end
theorem depth_kid {t k : Tm} (h : k ∈ t.kids) : depthT k < depthT t := by
 have key : ∀ {L : List Tm}, k ∈ L → depthT k ≤ depthL L := by
  intro L
  induction L with
  | nil => intro h; simp at h
  | cons x L ih =>
    intro h
    rw [depthL]
    rcases List.mem_cons.1 h with rfl | h
    · omega
    · have := ih h; omega
 cases t with
 | mk k' n s L =>
   rw [depthT]
   have := key (L := L) h
   omega
theorem valid_kid {t k : Tm} (h : validT t = 0) (hk : k ∈ t.kids) : validT k = 0 := by
 obtain ⟨h1, h2, h3⟩ := validT_iff4.1 h
 obtain ⟨i, hi⟩ := List.mem_iff_getElem?.1 hk
 exact validT_iff4.2 ⟨errT_kid4 h1 hi, by have := size_kid hk; omega, by have := depth_kid hk; omega⟩
theorem wrong_kid {l : List ByteArray} {W : List Int} {t k : Tm} (h : wrongT l W t = false) (hk : k ∈ t.kids) : wrongT l W k = false := by
 obtain ⟨i, hi⟩ := List.mem_iff_getElem?.1 hk
 rw [wrongT_kids, Bool.or_eq_false_iff] at h
 cases hw : wrongT l W k with
 | false => rfl
 | true => rw [wrongL_get hi hw] at h; exact absurd h.2 (by simp)
theorem kid_ne {t k : Tm} (h : k ∈ t.kids) : t ≠ k := fun e => by have := size_kid h; rw [e] at this; omega

/-- what the law of three terms asks for -/
structure TransOk (l : List ByteArray) (W : List Int) (s t u : Tm) : Prop where
 e : ∀ x ∈ [(s, t), (t, u), (s, u), (t, s)], lpoE l x.1 x.2 = 0 ∧ kboE l W x.1 x.2 = 0
 kid : ∀ k ∈ s.kids, lpoE l s k = 0 ∧ lpoV l s k = 1 ∧ kboE l W s k = 0 ∧ kboV l W s k = 1
 p : lawsB (lpoV l s t) (lpoV l t u) (lpoV l s u) (lpoV l t s) = true
 q : lawsB (kboV l W s t) (kboV l W t u) (kboV l W s u) (kboV l W t s) = true
theorem trans_ok {l : List ByteArray} {W : List Int} {s t u : Tm} (hW : ∀ z ∈ W, 1 ≤ z) (h1 : kboE l W s t = 0) (h2 : kboE l W u u = 0) : TransOk l W s t u := by
 obtain ⟨hp, ha, ⟨vs, vt, ks, kt⟩, ws, wt⟩ := kbo_ok h1
 obtain ⟨-, -, ⟨vu, -, ku, -⟩, wu, -⟩ := kbo_ok h2
 have hlen := (adm_ok ha).2.1
 have ps := pw_known hlen hW ks
 have pt := pw_known hlen hW kt
 have pu := pw_known hlen hW ku
 have fs := wf_valid vs
 have ft := wf_valid vt
 have fu := wf_valid vu
 have L1 := lpo_fine hp vs vt ks kt
 have L2 := lpo_fine hp vt vu kt ku
 have L3 := lpo_fine hp vs vu ks ku
 have L4 := lpo_fine hp vt vs kt ks
 have K1 := kbo_fine ha vs vt ks kt ws wt
 have K2 := kbo_fine ha vt vu kt ku wt wu
 have K3 := kbo_fine ha vs vu ks ku ws wu
 have K4 := kbo_fine ha vt vs kt ks wt ws
 refine ⟨?_, fun k hk => ?_, ?_, ?_⟩
 · intro x hx
   simp only [List.mem_cons, List.mem_nil_iff, or_false] at hx
   rcases hx with rfl | rfl | rfl | rfl
   · exact ⟨L1.1, K1.1⟩
   · exact ⟨L2.1, K2.1⟩
   · exact ⟨L3.1, K3.1⟩
   · exact ⟨L4.1, K4.1⟩
 · have vk := valid_kid vs hk
   obtain ⟨i, hi⟩ := List.mem_iff_getElem?.1 hk
   have kk := knT_kid ks hi
   have A := lpo_fine hp vs vk ks kk
   have B := kbo_fine ha vs vk ks kk ws (wrong_kid ws hk)
   refine ⟨A.1, ?_, B.1, ?_⟩
   · rw [A.2]; unfold vdt; rw [if_neg (kid_ne hk), path_kid fs hk]; rfl
   · rw [B.2]; unfold vdt; rw [if_neg (kid_ne hk), hv_kid fs ps hk]; rfl
 · rw [L1.2, L2.2, L3.2, L4.2]
   refine vdt_laws (fun h => path_asymm fs ft h) (fun h k => ⟨path_trans _ s t u (Nat.le_refl _) fs ft fu h k, ?_⟩)
   intro e
   subst e
   rw [path_asymm fs ft h] at k
   cases k
 · rw [K1.2, K2.2, K3.2, K4.2]
   exact vdt_laws (fun h => hv_asymm ps pt h) (fun h k => hv_trans _ s t u (Nat.le_refl _) ps pt pu h k)
mutual
theorem gk_ground {l : List ByteArray} : ∀ {t : Tm}, knT l t = true → (∀ x ∈ allT t, x.kind ≠ 1) → gkT l t
 | .mk k n s ks, h, hg => by
   rw [knT, Bool.and_eq_true] at h
   rw [gkT]
   have hk : k ≠ 1 := hg (.mk k n s ks) (by rw [allT]; exact List.mem_cons_self)
   refine ⟨hk, ?_, gk_groundL h.2 (fun x hx => hg x (by rw [allT]; exact List.mem_cons_of_mem _ hx))⟩
   have h1 := h.1
   rw [decide_eq_false hk] at h1
   simpa using h1
theorem gk_groundL {l : List ByteArray} : ∀ {L : List Tm}, knL l L = true → (∀ x ∈ allL L, x.kind ≠ 1) → gkL l L
 | [], _, _ => by rw [gkL]; trivial
 | t :: L, h, hg => by
   rw [knL, Bool.and_eq_true] at h
   rw [gkL]
   exact ⟨gk_ground h.1 (fun x hx => hg x (by rw [allL]; exact List.mem_append.2 (.inl hx))), gk_groundL h.2 (fun x hx => hg x (by rw [allL]; exact List.mem_append.2 (.inr hx)))⟩
end
theorem vars_nil {t : Tm} (h : varsT t = []) : ∀ x ∈ allT t, x.kind ≠ 1 := fun x hx e => by
 have : x ∈ varsT t := varsT_mem.2 ⟨hx, e⟩
 rw [h] at this; simp at this
def oneB (same : Bool) (c : Int) : Bool := decide (c = 1) || decide (c = -1) || same && decide (c = 0)
theorem vdt_one {f : Tm → Tm → Bool} {s t : Tm} (h : s ≠ t → f s t = true ∨ f t s = true) : oneB (decide (s = t)) (vdt f s t) = true := by
 unfold oneB vdt
 by_cases e : s = t
 · rw [if_pos e, decide_eq_true e]; rfl
 · rw [if_neg e]
   rcases h e with h | h
   · rw [h]; simp
   · cases f s t
     · rw [h]; simp
     · simp
theorem total_ok {l : List ByteArray} {W : List Int} {s t : Tm} (hW : ∀ z ∈ W, 1 ≤ z) (h1 : kboE l W s t = 0) (hs : varsT s = []) (ht : varsT t = []) :
 lpoE l s t = 0 ∧ oneB (decide (s = t)) (lpoV l s t) = true ∧ oneB (decide (s = t)) (kboV l W s t) = true := by
 obtain ⟨hp, ha, ⟨vs, vt, ks, kt⟩, ws, wt⟩ := kbo_ok h1
 have hlen := (adm_ok ha).2.1
 have gs := gk_ground ks (vars_nil hs)
 have gt := gk_ground kt (vars_nil ht)
 have A := lpo_fine hp vs vt ks kt
 have B := kbo_fine ha vs vt ks kt ws wt
 refine ⟨A.1, ?_, ?_⟩
 · rw [A.2]; exact vdt_one (fun hne => path_total _ s t (Nat.le_refl _) gs gt hne)
 · rw [B.2]; exact vdt_one (fun hne => hv_total _ s t (Nat.le_refl _) gs gt (pw_known hlen hW ks) (pw_known hlen hW kt) hne)
end Go.Proofs.YtkobikdkbpdjeaaGreatDoor
