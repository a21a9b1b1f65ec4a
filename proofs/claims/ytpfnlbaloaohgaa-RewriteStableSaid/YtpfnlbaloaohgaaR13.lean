/- Plain law: a redex of a term is one of each instance by a substitution, and leads to the instance of the result. -/
import Derived.Test.YtpfnlbaloaohgaaH13
namespace Go.Proofs.Ytpfnlbaloaohgaa
open Go
set_option linter.unusedVariables false
set_option linter.unusedSimpArgs false

/-- a substitution that keeps sorts -/
def fitS (s : List (Tm × Tm)) : Prop := ∀ b ∈ s, isV b.1 ∧ fitsT b.1 b.2 = true
theorem getB_fit : ∀ {s : List (Tm × Tm)} {x : Tm}, fitS s → getB s x = x ∨ fitsT x (getB s x) = true
 | [], x, _ => .inl rfl
 | b :: s, x, h => by
   rw [getB]
   split
   · rename_i e; subst e; exact .inr (h b (by simp)).2
   · exact getB_fit (fun c hc => h c (by simp [hc]))
theorem fits_put {s : List (Tm × Tm)} (hs : fitS s) {p t : Tm} (ht : errT t = 0) (h : fitsT p t = true) : fitsT p (putG s t) = true := by
 rw [fitsT_iff] at h ⊢
 rcases h with h | ⟨h1, h2⟩
 · exact .inl h
 · by_cases h0 : p.sort = 0
   · exact .inl h0
   · refine .inr ?_
     rw [putG_eq]
     split
     · rcases getB_fit (x := t) hs with e | e
       · rw [e]; exact ⟨h1, h2⟩
       · rcases fitsT_iff.1 e with e | ⟨e1, e2⟩
         · omega
         · exact ⟨e1, by omega⟩
     · exact ⟨h1, h2⟩
theorem put_atom {s : List (Tm × Tm)} {t : Tm} (ht : errT t = 0) (hk : t.kind = 2) : putG s t = t := by
 rw [putG_eq, if_neg (by omega)]
 have : t.kids = [] := by
  rcases (errT_node ht).1 with ⟨-, -, -, e⟩ | ⟨e, -⟩
  · exact e
  · omega
 cases t
 simp only [Tm.kind, Tm.name, Tm.sort, Tm.kids] at this ⊢
 rw [this]; rfl
theorem alikeT_iff {a b : Tm} : alikeT a b = true ↔ a.kind = 3 ∧ b.kind = 3 ∧ a.name = b.name ∧ a.kids.length = b.kids.length := by simp [alikeT]
mutual
theorem prT_put {s : List (Tm × Tm)} (hs : fitS s) : ∀ (p t : Tm) (l : List (Tm × Tm)), errT t = 0 → prT p t = some l → prT p (putG s t) = some (l.map (fun b => (b.1, putG s b.2)))
 | .mk k n so q, t, l, ht, h => by
   rw [prT] at h ⊢
   split at h
   · rename_i hk
     rw [if_pos hk]
     split at h
     · rename_i hf
       cases h
       rw [if_pos (fits_put hs ht hf)]; rfl
     · cases h
   · rename_i hk
     rw [if_neg hk]
     split at h
     · rename_i hk2
       rw [if_pos hk2]
       split at h
       · rename_i e
         cases h
         rw [put_atom ht (by rw [← e]; exact hk2), if_pos e]; rfl
       · cases h
     · rename_i hk2
       rw [if_neg hk2]
       split at h
       · rename_i ha
         have ha2 := alikeT_iff.1 ha
         have e : putG s t = .mk t.kind t.name t.sort (putGL s t.kids) := by rw [putG_eq, if_neg (by omega)]
         have ha3 : alikeT (.mk k n so q) (putG s t) = true := by
          rw [e]
          exact alikeT_iff.2 ⟨ha2.1, ha2.2.1, ha2.2.2.1, by show _ = (putGL s t.kids).length; rw [putGL_len]; exact ha2.2.2.2⟩
         rw [if_pos ha3, e]
         exact prL_put hs q t.kids l (by rw [errT_kids] at ht; exact (orE_split ht).2) h
       · cases h
theorem prL_put {s : List (Tm × Tm)} (hs : fitS s) : ∀ (p t : List Tm) (l : List (Tm × Tm)), errL t = 0 → prL p t = some l → prL p (putGL s t) = some (l.map (fun b => (b.1, putG s b.2)))
 | [], _, l, _, h => by rw [prL] at h; cases h; rw [prL]; rfl
 | a :: p, b :: t, l, ht, h => by
   rw [errL] at ht
   rw [prL] at h
   rw [putGL, prL]
   cases ha : prT a b with
   | none => rw [ha] at h; cases h
   | some x =>
     rw [ha] at h
     simp only at h
     cases hb : prL p t with
     | none => rw [hb] at h; cases h
     | some y =>
       rw [hb] at h
       cases h
       rw [prT_put hs a b x (orE_split ht).1 ha, prL_put hs p t y (orE_split ht).2 hb]
       simp
 | _ :: _, [], l, _, h => by rw [prL] at h; cases h
end
theorem consP_put {s l : List (Tm × Tm)} (h : consP l) : consP (l.map (fun b => (b.1, putG s b.2))) := by
 intro a ha b hb e
 obtain ⟨x, hx, rfl⟩ := List.mem_map.1 ha
 obtain ⟨y, hy, rfl⟩ := List.mem_map.1 hb
 simp only at e ⊢
 rw [h x hx y hy e]
theorem firstB_put (s : List (Tm × Tm)) : ∀ (l : List (Tm × Tm)) (k : ByteArray × Int), firstB (l.map (fun b => (b.1, putG s b.2))) k = (firstB l k).map (putG s)
 | [], k => rfl
 | b :: l, k => by
   rw [List.map_cons, firstB, firstB]
   split
   · rfl
   · exact firstB_put s l k
theorem getB_bind (F : Bnd) : ∀ (L : List Tm) (x : Tm), x ∈ L → getB (bindF F L) x = (F (x.name, x.sort)).getD zeroTm
 | [], x, h => by simp at h
 | y :: L, x, h => by
   have e : bindF F (y :: L) = (if (F (y.name, y.sort)).getD zeroTm ≠ y then [(y, (F (y.name, y.sort)).getD zeroTm)] else []) ++ bindF F L := by
    unfold bindF
    rw [List.map_cons, List.filter_cons]
    by_cases h0 : (F (y.name, y.sort)).getD zeroTm = y <;> simp [h0]
   rw [e]
   by_cases hx : x ∈ L
   · have ih := getB_bind F L x hx
     by_cases h0 : (F (y.name, y.sort)).getD zeroTm ≠ y
     · rw [if_pos h0, List.singleton_append, getB]
       split
       · rename_i e2; simp only at e2; subst e2; rfl
       · exact ih
     · rw [if_neg h0, List.nil_append]; exact ih
   · have exy : x = y := by simpa [hx] using h
     subst exy
     by_cases h0 : (F (x.name, x.sort)).getD zeroTm ≠ x
     · rw [if_pos h0, List.singleton_append, getB, if_pos rfl]
     · rw [if_neg h0, List.nil_append, getB_not]
       · exact (Classical.not_not.1 h0).symm
       · intro hm
         exact hx ((bindF_sub F L).subset hm)
mutual
theorem put_put {s B C : List (Tm × Tm)} : ∀ r : Tm, (∀ x ∈ allT r, x.kind = 1 → getB C x = putG s (getB B x)) → putG C r = putG s (putG B r)
 | .mk k n so l, h => by
   rw [putG, putG]
   by_cases hk : k = 1
   · rw [if_pos hk, if_pos hk]
     exact h _ (by rw [allT]; simp) hk
   · rw [if_neg hk, if_neg hk, putG, if_neg hk, put_putL l (fun x hx => h x (by rw [allT]; simp [hx]))]
theorem put_putL {s B C : List (Tm × Tm)} : ∀ l : List Tm, (∀ x ∈ allL l, x.kind = 1 → getB C x = putG s (getB B x)) → putGL C l = putGL s (putGL B l)
 | [], _ => rfl
 | t :: l, h => by
   rw [putGL, putGL, putGL, put_put t (fun x hx => h x (by rw [allL]; simp [hx])), put_putL l (fun x hx => h x (by rw [allL]; simp [hx]))]
end
theorem kid_app {t x : Tm} {i : Nat} (ht : errT t = 0) (hx : t.kids[i]? = some x) : t.kind = 3 := by
 rcases (errT_node ht).1 with ⟨-, -, -, e⟩ | ⟨e, -⟩
 · rw [e] at hx; simp at hx
 · exact e
theorem atT_put (s : List (Tm × Tm)) : ∀ (p : List Int) (t u : Tm), errT t = 0 → atT p t = some u → atT p (putG s t) = some (putG s u)
 | [], t, u, _, h => by rw [atT] at h ⊢; cases h; rfl
 | i :: p, t, u, ht, h => by
   rw [atT] at h ⊢
   split at h
   · rename_i hi
     rw [if_pos hi]
     cases hk : t.kids[i.toNat]? with
     | none => rw [hk] at h; cases h
     | some k =>
       rw [hk] at h
       simp only at h
       have h3 := kid_app ht hk
       have e : (putG s t).kids[i.toNat]? = some (putG s k) := by
        rw [putG_eq, if_neg (by omega)]
        show (putGL s t.kids)[i.toNat]? = _
        rw [putGL_map, List.getElem?_map, hk]; rfl
       rw [e]
       rw [errT_kids] at ht
       exact atT_put s p k u (errL_get hk (orE_split ht).2) h
   · cases h
theorem repT_put (s : List (Tm × Tm)) : ∀ (p : List Int) (t P y : Tm), errT t = 0 → repT p t P = some y → repT p (putG s t) (putG s P) = some (putG s y)
 | [], t, P, y, _, h => by rw [repT] at h ⊢; cases h; rfl
 | i :: p, t, P, y, ht, h => by
   rw [repT] at h ⊢
   split at h
   · rename_i hi
     rw [if_pos hi]
     cases hk : t.kids[i.toNat]? with
     | none => rw [hk] at h; cases h
     | some k =>
       rw [hk] at h
       simp only at h
       have h3 := kid_app ht hk
       have e : (putG s t).kids[i.toNat]? = some (putG s k) := by
        rw [putG_eq, if_neg (by omega)]
        show (putGL s t.kids)[i.toNat]? = _
        rw [putGL_map, List.getElem?_map, hk]; rfl
       rw [e]
       simp only
       rw [errT_kids] at ht
       cases hr : repT p k P with
       | none => rw [hr] at h; cases h
       | some z =>
         rw [hr] at h
         simp only [Option.map_some, Option.some.injEq] at h
         subst h
         rw [repT_put s p k P z (errL_get hk (orE_split ht).2) hr]
         have e1 : putG s t = .mk t.kind t.name t.sort (putGL s t.kids) := by rw [putG_eq, if_neg (by omega)]
         rw [e1]
         show some (Tm.mk t.kind t.name t.sort ((putGL s t.kids).set i.toNat (putG s z))) = some (putG s (Tm.mk t.kind t.name t.sort (t.kids.set i.toNat z)))
         rw [putG, if_neg (by omega), putGL_map, putGL_map, List.map_set]
   · cases h
theorem atT_valid : ∀ (p : List Int) (t u : Tm), validT t = 0 → atT p t = some u → validT u = 0
 | [], t, u, ht, h => by rw [atT] at h; cases h; exact ht
 | i :: p, t, u, ht, h => by
   rw [atT] at h
   split at h
   · cases hk : t.kids[i.toNat]? with
     | none => rw [hk] at h; cases h
     | some k =>
       rw [hk] at h
       exact atT_valid p k u (valid_kid ht hk) h
   · cases h
/-- the law -/
theorem step_put {R : List Rl} {t a : Tm} {r : Rdx} {s : List (Tm × Tm)} (hs : fitS s) (hR : rulesE R = 0) (ht : validT t = 0) (hi : validT (putG s t) = 0) (h : stepP R t r = (0, a)) :
 stepP R (putG s t) r = if validT (putG s a) ≠ 0 then (validT (putG s a), zeroTm) else (0, putG s a) := by
 rw [stepG_eq hR ht] at h
 rw [stepG_eq hR hi]
 unfold stepG at h ⊢
 have hte := (validT_iff.1 ht).1
 cases hrl : ruleAt R r.1 with
 | none => rw [hrl] at h; simp at h
 | some rl =>
   rw [hrl] at h
   simp only at h ⊢
   cases hu : atT r.2 t with
   | none => rw [hu] at h; simp at h
   | some u =>
     rw [hu] at h
     rw [atT_put s r.2 t u hte hu]
     simp only at h ⊢
     split at h
     · simp at h
     · rename_i h1
       have h1 := Classical.not_not.1 h1
       have hr : ruleE rl = 0 := by
        unfold ruleAt at hrl
        split at hrl
        · exact rulesE_get hrl hR
        · cases hrl
       obtain ⟨hp, hrv, -, hvs⟩ := ruleE_iff.1 hr
       have huv := atT_valid r.2 t u ht hu
       have huv2 := atT_valid r.2 _ _ hi (atT_put s r.2 t u hte hu)
       have hm := matchP_pr hp huv
       have hm2 := matchP_pr hp huv2
       cases hl : prT rl.1 u with
       | none => rw [hl] at hm; rw [hm] at h1; simp at h1
       | some l =>
         rw [hl] at hm
         rw [prT_put hs rl.1 u l (validT_iff.1 huv).1 hl] at hm2
         simp only at hm hm2
         by_cases hc : consP l
         · rw [if_pos hc] at hm
           rw [if_pos (consP_put hc)] at hm2
           rw [hm] at h
           rw [hm2]
           simp only at h ⊢
           rw [if_neg (by simp)]
           have hput : putG (bindF (firstB (l.map (fun b => (b.1, putG s b.2)))) (varsT rl.1)) rl.2 = putG s (putG (bindF (firstB l) (varsT rl.1)) rl.2) := by
            refine put_put rl.2 (fun x hx hk => ?_)
            have hx1 : x ∈ varsT rl.1 := hvs x (varsT_mem.2 ⟨hx, hk⟩)
            rw [getB_bind _ _ _ hx1, getB_bind _ _ _ hx1, firstB_put]
            obtain ⟨b, hb, hbx⟩ := prT_has (validT_iff.1 hp).1 hl hx1
            have hsome : ∃ v, firstB l (x.name, x.sort) = some v := by
             have key : ∀ m : List (Tm × Tm), b ∈ m → ∃ v, firstB m (x.name, x.sort) = some v := by
              intro m
              induction m with
              | nil => intro h; simp at h
              | cons c m ih =>
                intro hm
                rw [firstB]
                split
                · exact ⟨_, rfl⟩
                · rename_i hne
                  rcases List.mem_cons.1 hm with e | e
                  · subst e; rw [hbx] at hne; exact absurd rfl hne
                  · exact ih e
             exact key l hb
            obtain ⟨v, hv⟩ := hsome
            rw [hv]; rfl
           rw [hput]
           cases hy : repT r.2 t (putG (bindF (firstB l) (varsT rl.1)) rl.2) with
           | none => rw [hy] at h; simp at h
           | some y =>
             rw [hy] at h
             rw [repT_put s r.2 t _ y hte hy]
             simp only at h ⊢
             split at h
             · rename_i h2
               have := congrArg Prod.fst h
               exact absurd this h2
             · have : y = a := congrArg Prod.snd h
               subst this
               rfl
         · rw [if_neg hc] at hm
           rw [hm] at h1
           simp at h1

end Go.Proofs.Ytpfnlbaloaohgaa
