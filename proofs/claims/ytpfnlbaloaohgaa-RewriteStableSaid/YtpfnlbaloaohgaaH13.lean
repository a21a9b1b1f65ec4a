/- Plain law: matching by pairs. Plain law: substitutions by bindings; a redex applied, as the reference does it. -/
import Derived.Test.YtpfnlbaloaohgaaH3
import Derived.Test.YtpfnlbaloaohgaaH6
namespace Go.Proofs.Ytpfnlbaloaohgaa
open Go
set_option linter.unusedVariables false
set_option linter.unusedSimpArgs false

mutual
/-- the pairs of variables and terms that matching makes -/
def prT : Tm → Tm → Option (List (Tm × Tm))
 | .mk k n s l, t => if k = 1 then (if fitsT (.mk k n s l) t then some [(.mk k n s l, t)] else none)
   else if k = 2 then (if .mk k n s l = t then some [] else none)
   else if alikeT (.mk k n s l) t then prL l t.kids else none
def prL : List Tm → List Tm → Option (List (Tm × Tm))
 | [], _ => some []
 | a :: l, b :: m => (match prT a b with | some x => (match prL l m with | some y => some (x ++ y) | none => none) | none => none)
 | _ :: _, [] => none
end
/-- a list of pairs put into what is known -/
def insB : List (Tm × Tm) → Bnd → Option Bnd
 | [], F => some F
 | b :: l, F => match F (b.1.name, b.1.sort) with | some v => if v = b.2 then insB l F else none | none => insB l (updT F (b.1.name, b.1.sort) b.2)
theorem insB_append : ∀ (l m : List (Tm × Tm)) (F : Bnd), insB (l ++ m) F = (match insB l F with | some G => insB m G | none => none)
 | [], m, F => rfl
 | b :: l, m, F => by
   rw [List.cons_append, insB, insB]
   split
   · split
     · exact insB_append l m F
     · rfl
   · exact insB_append l m _
def fitF (F : Bnd) : Prop := ∀ k u, F k = some u → k.2 = 0 ∨ u.kind ≠ 3 ∧ u.sort = k.2
theorem fitsT_iff {x t : Tm} : fitsT x t = true ↔ x.sort = 0 ∨ t.kind ≠ 3 ∧ t.sort = x.sort := by simp [fitsT]
theorem fitF.upd {F : Bnd} {x t : Tm} (h : fitF F) (hf : fitsT x t = true) : fitF (updT F (x.name, x.sort) t) := fun k u e => by
 unfold updT at e
 split at e
 · rename_i hk
   cases e
   rw [hk]
   exact fitsT_iff.1 hf
 · exact h k u e
theorem insB_fit : ∀ (l : List (Tm × Tm)) (F G : Bnd), (∀ b ∈ l, fitsT b.1 b.2 = true) → fitF F → insB l F = some G → fitF G
 | [], F, G, _, hF, h => by rw [insB] at h; cases h; exact hF
 | b :: l, F, G, hl, hF, h => by
   rw [insB] at h
   split at h
   · split at h
     · exact insB_fit l F G (fun c hc => hl c (by simp [hc])) hF h
     · cases h
   · exact insB_fit l _ G (fun c hc => hl c (by simp [hc])) (hF.upd (hl b (by simp))) h
mutual
theorem prT_fit : ∀ (p t : Tm) (l : List (Tm × Tm)), prT p t = some l → ∀ b ∈ l, fitsT b.1 b.2 = true
 | .mk k n s q, t, l, h, b, hb => by
   rw [prT] at h
   split at h
   · split at h
     · cases h; simp at hb; subst hb; assumption
     · cases h
   · split at h
     · split at h
       · cases h; simp at hb
       · cases h
     · split at h
       · exact prL_fit q t.kids l h b hb
       · cases h
theorem prL_fit : ∀ (p t : List Tm) (l : List (Tm × Tm)), prL p t = some l → ∀ b ∈ l, fitsT b.1 b.2 = true
 | [], _, l, h, b, hb => by rw [prL] at h; cases h; simp at hb
 | x :: p, y :: t, l, h, b, hb => by
   rw [prL] at h
   split at h
   · rename_i u hu
     split at h
     · rename_i v hv
       cases h
       rcases List.mem_append.1 hb with hb | hb
       · exact prT_fit x y u hu b hb
       · exact prL_fit p t v hv b hb
     · cases h
   · cases h
 | _ :: _, [], l, h, b, hb => by rw [prL] at h; cases h
end
mutual
/-- matching with what is known, by the pairs -/
theorem pm_pr : ∀ (p t : Tm) (F : Bnd), errT p = 0 → fitF F → pmT p t F = (match prT p t with | some l => insB l F | none => none)
 | .mk k n s q, t, F, he, hF => by
   have hn := errT_node he
   simp only [Tm.kind, Tm.kids, Tm.sort] at hn
   rw [pmT, prT]
   by_cases h1 : k = 1
   · rw [if_pos h1, if_pos h1]
     cases hu : F (n, s) with
     | some u =>
       simp only
       have hf := hF _ u hu
       by_cases e : u = t
       · subst e
         have : fitsT (.mk k n s q) u = true := fitsT_iff.2 hf
         simp only [this, if_true, insB, Tm.name, Tm.sort, hu]
       · rw [if_neg e]
         split
         · rename_i l hl
           split at hl
           · cases hl; simp only [insB, Tm.name, Tm.sort, hu, e, if_false]
           · cases hl
         · rfl
     | none =>
       simp only
       by_cases hf : fitsT (.mk k n s q) t = true
       · simp only [hf, if_true, insB, Tm.name, Tm.sort, hu]
       · simp only [hf, if_false, Bool.false_eq_true]
   · rw [if_neg h1, if_neg h1]
     by_cases h2 : k = 2
     · have ha : alikeT (.mk k n s q) t = false := by simp [alikeT, Tm.kind, h2]
       rw [ha, if_pos h2]
       simp only [Bool.false_eq_true, if_false]
       split <;> simp [insB]
     · rw [if_neg h2]
       by_cases ha : alikeT (.mk k n s q) t = true
       · rw [if_pos ha, if_pos ha]
         have hq : errL q = 0 := by rw [errT_kids] at he; exact (orE_split he).2
         exact pmL_pr q t.kids F hq hF
       · rw [if_neg ha, if_neg ha]
         simp only
         rw [if_neg]
         intro e
         apply ha
         subst e
         have hk : k = 3 := by omega
         simp [alikeT, Tm.kind, hk]
theorem pmL_pr : ∀ (p t : List Tm) (F : Bnd), errL p = 0 → fitF F → pmL p t F = (match prL p t with | some l => insB l F | none => none)
 | [], _, F, _, _ => by rw [pmL, prL]; rfl
 | x :: p, y :: t, F, he, hF => by
   rw [errL] at he
   rw [pmL, prL, pm_pr x y F (orE_split he).1 hF]
   cases hx : prT x y with
   | none => rfl
   | some u =>
     simp only
     cases hu : insB u F with
     | none =>
       simp only
       cases prL p t with
       | none => rfl
       | some v => simp only [insB_append, hu]
     | some G =>
       simp only
       rw [pmL_pr p t G (orE_split he).2 (insB_fit u F G (prT_fit x y u hx) hF hu)]
       cases prL p t with
       | none => rfl
       | some v => simp only [insB_append, hu]
 | _ :: _, [], F, _, _ => by rw [pmL, prL]
end

/-- a variable as it stands in a valid term -/
def isV (x : Tm) : Prop := x.kind = 1 ∧ x.kids = []
theorem isV_ext {x y : Tm} (hx : isV x) (hy : isV y) : (x.name, x.sort) = (y.name, y.sort) ↔ x = y := by
 obtain ⟨k, n, s, l⟩ := x
 obtain ⟨k', n', s', l'⟩ := y
 simp only [isV, Tm.kind, Tm.kids, Tm.name, Tm.sort] at *
 obtain ⟨rfl, rfl⟩ := hx
 obtain ⟨rfl, rfl⟩ := hy
 simp
/-- the same variable stands for the same term -/
def consP (l : List (Tm × Tm)) : Prop := ∀ a ∈ l, ∀ b ∈ l, a.1 = b.1 → a.2 = b.2
instance (l : List (Tm × Tm)) : Decidable (consP l) := by unfold consP; infer_instance
/-- what stands first for a name -/
def firstB : List (Tm × Tm) → Bnd
 | [], _ => none
 | b :: l, k => if k = (b.1.name, b.1.sort) then some b.2 else firstB l k
theorem insB_good : ∀ (l : List (Tm × Tm)) (F : Bnd), (∀ b ∈ l, isV b.1) → (∀ b ∈ l, ∀ u, F (b.1.name, b.1.sort) = some u → u = b.2) → consP l →
 insB l F = some (fun k => match F k with | some u => some u | none => firstB l k)
 | [], F, _, _, _ => by
   rw [insB]
   congr 1
   funext k
   simp only [firstB]
   split <;> simp [*]
 | b :: l, F, hv, hF, hc => by
   have hcl : consP l := fun a ha c hc' => hc a (by simp [ha]) c (by simp [hc'])
   rw [insB]
   cases hu : F (b.1.name, b.1.sort) with
   | some u =>
     simp only
     rw [if_pos (hF b (by simp) u hu), insB_good l F (fun c h => hv c (by simp [h])) (fun c h => hF c (by simp [h])) hcl]
     congr 1
     funext k
     simp only [firstB]
     by_cases hk : k = (b.1.name, b.1.sort)
     · subst hk; simp only [hu]
     · rw [if_neg hk]
   | none =>
     simp only
     rw [insB_good l _ (fun c h => hv c (by simp [h])) (fun c h u e => ?_) hcl]
     · congr 1
       funext k
       simp only [firstB, updT]
       by_cases hk : k = (b.1.name, b.1.sort)
       · subst hk; simp only [if_true, hu]
       · rw [if_neg hk, if_neg hk]
     · unfold updT at e
       split at e
       · rename_i hk
         cases e
         have h1 := (isV_ext (hv c (by simp [h])) (hv b (by simp))).1 hk
         exact hc b (by simp) c (by simp [h]) h1.symm
       · exact hF c (by simp [h]) u e
theorem insB_bad : ∀ (l : List (Tm × Tm)) (F G : Bnd), (∀ b ∈ l, isV b.1) → insB l F = some G → (∀ b ∈ l, ∀ u, F (b.1.name, b.1.sort) = some u → u = b.2) ∧ consP l
 | [], F, G, _, _ => ⟨by simp, fun a ha => by simp at ha⟩
 | b :: l, F, G, hv, h => by
   have hvl : ∀ c ∈ l, isV c.1 := fun c h => hv c (by simp [h])
   rw [insB] at h
   cases hu : F (b.1.name, b.1.sort) with
   | some u =>
     rw [hu] at h
     simp only at h
     split at h
     · rename_i e
       subst e
       obtain ⟨h1, h2⟩ := insB_bad l F G hvl h
       have key : ∀ c ∈ l, b.1 = c.1 → b.2 = c.2 := fun c hc e => h1 c hc b.2 (by rw [← e]; exact hu)
       refine ⟨fun c hc u e => ?_, fun a ha c hc e => ?_⟩
       · rcases List.mem_cons.1 hc with rfl | hc
         · rw [hu] at e; cases e; rfl
         · exact h1 c hc u e
       · rcases List.mem_cons.1 ha with ha | ha <;> rcases List.mem_cons.1 hc with hc | hc
         · rw [ha, hc]
         · rw [ha] at e ⊢; exact key c hc e
         · rw [hc] at e ⊢; exact (key a ha e.symm).symm
         · exact h2 a ha c hc e
     · cases h
   | none =>
     rw [hu] at h
     simp only at h
     obtain ⟨h1, h2⟩ := insB_bad l _ G hvl h
     have key : ∀ c ∈ l, b.1 = c.1 → b.2 = c.2 := fun c hc e => h1 c hc b.2 (by rw [← e]; simp [updT])
     refine ⟨fun c hc u e => ?_, fun a ha c hc e => ?_⟩
     · rcases List.mem_cons.1 hc with rfl | hc
       · rw [hu] at e; cases e
       · by_cases hk : (c.1.name, c.1.sort) = (b.1.name, b.1.sort)
         · rw [hk, hu] at e; cases e
         · exact h1 c hc u (by simp only [updT, if_neg hk]; exact e)
     · rcases List.mem_cons.1 ha with ha | ha <;> rcases List.mem_cons.1 hc with hc | hc
       · rw [ha, hc]
       · rw [ha] at e ⊢; exact key c hc e
       · rw [hc] at e ⊢; exact (key a ha e.symm).symm
       · exact h2 a ha c hc e
theorem kindT_kids (k : Int) (t : Tm) : kindT k t = (if t.kind = k then [t] else []) ++ (allL t.kids).filter (fun x => decide (x.kind = k)) := by
 unfold kindT
 rw [allT_kids, List.filter_cons]
 by_cases h : t.kind = k <;> simp [h]
mutual
theorem prT_vars : ∀ (p t : Tm) (l : List (Tm × Tm)), errT p = 0 → prT p t = some l → l.map (·.1) = kindT 1 p ∧ ∀ b ∈ l, isV b.1
 | .mk k n s q, t, l, he, h => by
   have hn := errT_node he
   simp only [Tm.kind, Tm.kids, Tm.sort] at hn
   rw [show kindT 1 (Tm.mk k n s q) = (if k = 1 then [Tm.mk k n s q] else []) ++ (allL q).filter (fun x => decide (x.kind = 1)) from kindT_kids 1 _]
   rw [prT] at h
   by_cases h1 : k = 1
   · have hq : q = [] := by
      rcases hn.1 with ⟨-, -, -, e⟩ | ⟨e, -⟩
      · exact e
      · omega
     subst hq
     rw [if_pos h1] at h
     split at h
     · cases h
       refine ⟨by simp [allL, h1], fun b hb => ?_⟩
       simp at hb; subst hb; exact ⟨h1, rfl⟩
     · cases h
   · rw [if_neg h1] at h
     rw [if_neg h1, List.nil_append]
     by_cases h2 : k = 2
     · have hq : q = [] := by
        rcases hn.1 with ⟨-, -, -, e⟩ | ⟨e, -⟩
        · exact e
        · omega
       subst hq
       rw [if_pos h2] at h
       split at h
       · cases h; exact ⟨by simp [allL], by simp⟩
       · cases h
     · rw [if_neg h2] at h
       split at h
       · have hq : errL q = 0 := by rw [errT_kids] at he; exact (orE_split he).2
         exact prL_vars q t.kids l hq (by
          rename_i ha
          simp only [alikeT, Bool.and_eq_true, decide_eq_true_eq] at ha
          exact ha.2.2.2) h
       · cases h
theorem prL_vars : ∀ (p t : List Tm) (l : List (Tm × Tm)), errL p = 0 → p.length = t.length → prL p t = some l → l.map (·.1) = (allL p).filter (fun x => decide (x.kind = 1)) ∧ ∀ b ∈ l, isV b.1
 | [], _, l, _, _, h => by rw [prL] at h; cases h; exact ⟨by simp [allL], by simp⟩
 | x :: p, y :: t, l, he, hl, h => by
   rw [errL] at he
   rw [prL] at h
   split at h
   · rename_i u hu
     split at h
     · rename_i v hv
       cases h
       obtain ⟨h1, h2⟩ := prT_vars x y u (orE_split he).1 hu
       obtain ⟨h3, h4⟩ := prL_vars p t v (orE_split he).2 (by simpa using hl) hv
       refine ⟨by rw [List.map_append, h1, h3, allL, List.filter_append]; rfl, fun b hb => ?_⟩
       rcases List.mem_append.1 hb with hb | hb
       · exact h2 b hb
       · exact h4 b hb
     · cases h
   · cases h
 | _ :: _, [], l, _, hl, h => by simp at hl
end
/-- what Match answers, by the pairs -/
theorem matchP_pr {p t : Tm} (hp : validT p = 0) (ht : validT t = 0) : matchP p t = match prT p t with | none => (11, []) | some l => if consP l then (0, bindF (firstB l) (varsT p)) else (11, []) := by
 have he := (validT_iff.1 hp).1
 unfold matchP
 rw [if_neg (by rw [hp, ht]; simp [orE]), pm_pr p t _ he (fun k u e => by cases e)]
 cases hl : prT p t with
 | none => rfl
 | some l =>
   obtain ⟨h1, h2⟩ := prT_vars p t l he hl
   simp only
   by_cases hc : consP l
   · rw [insB_good l _ h2 (fun b hb u e => by cases e) hc, if_pos hc]
   · rw [if_neg hc]
     cases hi : insB l (fun _ => none) with
     | none => rfl
     | some G => exact absurd (insB_bad l _ G h2 hi).2 hc
/-- each variable of the pattern has its pair -/
theorem prT_has {p t : Tm} {l : List (Tm × Tm)} (he : errT p = 0) (h : prT p t = some l) {x : Tm} (hx : x ∈ varsT p) : ∃ b ∈ l, b.1 = x := by
 have h1 := (prT_vars p t l he h).1
 have h2 : x ∈ kindT 1 p := by unfold varsT at hx; exact setS_mem.1 hx
 rw [← h1] at h2
 obtain ⟨b, hb, e⟩ := List.mem_map.1 h2
 exact ⟨b, hb, e⟩

/-- what stands for a variable -/
def getB : List (Tm × Tm) → Tm → Tm | [], x => x | b :: B, x => if b.1 = x then b.2 else getB B x
mutual
def putG (B : List (Tm × Tm)) : Tm → Tm | .mk k n s l => if k = 1 then getB B (.mk k n s l) else .mk k n s (putGL B l)
def putGL (B : List (Tm × Tm)) : List Tm → List Tm | [] => [] | t :: l => putG B t :: putGL B l
end
theorem putG_eq (B : List (Tm × Tm)) (t : Tm) : putG B t = if t.kind = 1 then getB B t else .mk t.kind t.name t.sort (putGL B t.kids) := by cases t; rw [putG]; rfl
theorem putGL_map (B : List (Tm × Tm)) : ∀ l, putGL B l = l.map (putG B)
 | [] => rfl
 | t :: l => by rw [putGL, putGL_map B l]; rfl
theorem putGL_len (B : List (Tm × Tm)) (l : List Tm) : (putGL B l).length = l.length := by rw [putGL_map, List.length_map]
theorem putGL_take {B : List (Tm × Tm)} {l : List Tm} {i : Nat} {x : Tm} (h : l[i]? = some x) : putGL B (l.take (i + 1)) = putGL B (l.take i) ++ [putG B x] := by
 rw [putGL_map, putGL_map, List.take_add_one, h, List.map_append]; rfl
theorem getB_not : ∀ (B : List (Tm × Tm)) (x : Tm), x ∉ B.map (·.1) → getB B x = x
 | [], x, _ => rfl
 | b :: B, x, h => by
   simp only [List.map_cons, List.mem_cons, not_or] at h
   rw [getB, if_neg (fun e => h.1 e.symm)]
   exact getB_not B x h.2
theorem bnd_get : ∀ (B : List (Tm × Tm)) (F0 : Bnd) (x : Tm), isV x → (∀ b ∈ B, isV b.1) → (B.map (·.1)).Nodup →
 B.foldl (fun F b => updT F (b.1.name, b.1.sort) b.2) F0 (x.name, x.sort) = if x ∈ B.map (·.1) then some (getB B x) else F0 (x.name, x.sort)
 | [], F0, x, _, _, _ => by simp
 | b :: B, F0, x, hx, hB, hn => by
   rw [List.map_cons, List.nodup_cons] at hn
   rw [List.foldl_cons, bnd_get B _ x hx (fun c h => hB c (by simp [h])) hn.2]
   by_cases h1 : x ∈ B.map (·.1)
   · have hne : b.1 ≠ x := fun e => hn.1 (by rw [e]; exact h1)
     rw [if_pos h1, if_pos (by simp only [List.map_cons, List.mem_cons]; exact .inr h1), getB, if_neg hne]
   · rw [if_neg h1]
     unfold updT
     by_cases h2 : b.1 = x
     · subst h2
       rw [if_pos rfl, if_pos (by simp), getB, if_pos rfl]
     · rw [if_neg (fun e => h2 ((isV_ext hx (hB b (by simp))).1 e).symm), if_neg]
       simp only [List.map_cons, List.mem_cons, not_or]
       exact ⟨fun e => h2 e.symm, h1⟩
theorem bndF_get {B : List (Tm × Tm)} {x : Tm} (hx : isV x) (hB : ∀ b ∈ B, isV b.1) (hn : (B.map (·.1)).Nodup) : (bndF B (x.name, x.sort)).getD x = getB B x := by
 unfold bndF
 rw [bnd_get B _ x hx hB hn]
 split
 · rfl
 · rename_i h; rw [getB_not B x h]; rfl
theorem isV_of {t : Tm} (he : errT t = 0) (hk : t.kind = 1) : isV t := by
 refine ⟨hk, ?_⟩
 rcases (errT_node he).1 with ⟨-, -, -, e⟩ | ⟨e, -⟩
 · exact e
 · omega
mutual
theorem put_same (B : List (Tm × Tm)) (hB : ∀ b ∈ B, isV b.1) (hn : (B.map (·.1)).Nodup) : ∀ t : Tm, errT t = 0 → putF (bndF B) t = putG B t
 | .mk k n s l, he => by
   rw [putF, putG]
   by_cases h1 : k = 1
   · rw [if_pos h1, if_pos h1]
     exact bndF_get (x := .mk k n s l) (isV_of he h1) hB hn
   · rw [if_neg h1, if_neg h1, put_sameL B hB hn l (by rw [errT_kids] at he; exact (orE_split he).2)]
theorem put_sameL (B : List (Tm × Tm)) (hB : ∀ b ∈ B, isV b.1) (hn : (B.map (·.1)).Nodup) : ∀ l : List Tm, errL l = 0 → putFL (bndF B) l = putGL B l
 | [], _ => rfl
 | t :: l, he => by
   rw [errL] at he
   rw [putFL, putGL, put_same B hB hn t (orE_split he).1, put_sameL B hB hn l (orE_split he).2]
end
theorem nodup_asc {L : List Tm} (h : Asc L) : L.Nodup := List.Pairwise.imp (fun h e => by subst e; exact ltT_irrefl h) h
theorem bindF_sub (F : Bnd) (L : List Tm) : ((bindF F L).map (·.1)).Sublist L := by
 unfold bindF
 have h : ((L.map (fun x => (x, (F (x.name, x.sort)).getD zeroTm))).filter (fun b => decide (b.2 ≠ b.1))).map (·.1) = L.filter (fun x => decide ((F (x.name, x.sort)).getD zeroTm ≠ x)) := by
  rw [List.filter_map, List.map_map]
  have : ((fun b : Tm × Tm => b.1) ∘ fun x => (x, (F (x.name, x.sort)).getD zeroTm)) = id := rfl
  rw [this, List.map_id]
  rfl
 rw [h]
 exact List.filter_sublist
theorem varsT_isV {p x : Tm} (he : errT p = 0) (h : x ∈ varsT p) : isV x := by
 have h2 : x ∈ kindT 1 p := by unfold varsT at h; exact setS_mem.1 h
 have h3 := kindT_mem.1 h2
 have key : ∀ n, ∀ t : Tm, sizeT t ≤ n → errT t = 0 → ∀ y ∈ allT t, errT y = 0 := by
  intro n
  induction n with
  | zero => intro t h; have := sizeT_kids t; omega
  | succ n ih =>
    intro t ht he y hy
    rw [allT_kids] at hy
    rcases List.mem_cons.1 hy with rfl | hy
    · exact he
    · have hl : ∀ l : List Tm, sizeL l ≤ n → errL l = 0 → ∀ y ∈ allL l, errT y = 0 := by
       intro l
       induction l with
       | nil => intro _ _ y hy; simp [allL] at hy
       | cons z l ihl =>
         intro hz hze y hy
         rw [sizeL] at hz
         rw [errL] at hze
         rw [allL] at hy
         rcases List.mem_append.1 hy with hy | hy
         · exact ih z (by omega) (orE_split hze).1 y hy
         · exact ihl (by omega) (orE_split hze).2 y hy
      have := sizeT_kids t
      exact hl t.kids (by omega) (by rw [errT_kids] at he; exact (orE_split he).2) y hy
 exact isV_of (key _ p (Nat.le_refl _) he x h3.1) h3.2
/-- the bindings that Match answers are good -/
theorem matchP_good {p t : Tm} : (∀ b ∈ (matchP p t).2, isV b.1) ∧ ((matchP p t).2.map (·.1)).Nodup := by
 unfold matchP
 split
 · simp
 · rename_i h0
   have h0 := Classical.not_not.1 h0
   have he := (validT_iff.1 (orE_split h0).1).1
   split
   · simp
   · rename_i F hF
     have hs := bindF_sub F (varsT p)
     refine ⟨fun b hb => varsT_isV he (hs.subset (List.mem_map.2 ⟨b, hb, rfl⟩)), List.Nodup.sublist hs (nodup_asc (varsT_asc p))⟩
mutual
theorem errT_put {F : Bnd} (hF : ∀ k u, F k = some u → errT u = 0) : ∀ t : Tm, errT t = 0 → errT (putF F t) = 0
 | .mk k n s l, he => by
   rw [putF]
   split
   · cases hu : F (n, s) with
     | some u => exact hF _ u hu
     | none => exact he
   · rw [errT] at he ⊢
     rw [putFL_len, (orE_split he).1, errL_put hF l (orE_split he).2]; rfl
theorem errL_put {F : Bnd} (hF : ∀ k u, F k = some u → errT u = 0) : ∀ l : List Tm, errL l = 0 → errL (putFL F l) = 0
 | [], _ => rfl
 | t :: l, he => by
   rw [errL] at he
   rw [putFL, errL, errT_put hF t (orE_split he).1, errL_put hF l (orE_split he).2]; rfl
end
theorem errL_set : ∀ {l : List Tm} {i : Nat} {x : Tm}, errL l = 0 → errT x = 0 → errL (l.set i x) = 0
 | [], i, x, h, _ => by simpa using h
 | y :: l, 0, x, h, hx => by rw [List.set_cons_zero, errL, hx]; rw [errL] at h; exact (orE_split h).2
 | y :: l, i + 1, x, h, hx => by
   rw [errL] at h
   rw [List.set_cons_succ, errL, (orE_split h).1, errL_set (orE_split h).2 hx]; rfl
theorem depthL_set {l : List Tm} {i : Nat} {k x : Tm} (h : l[i]? = some k) : depthT x ≤ depthL (l.set i x) :=
 depthL_get (i := i) (by rw [List.getElem?_set_self (List.getElem?_eq_some_iff.1 h).1])
theorem sizeL_set2 {l : List Tm} {i : Nat} {k x : Tm} (h : l[i]? = some k) : sizeT x ≤ sizeL (l.set i x) :=
 sizeL_get (i := i) (by rw [List.getElem?_set_self (List.getElem?_eq_some_iff.1 h).1])
theorem repT_ok : ∀ (p : List Int) (t u y : Tm), repT p t u = some y → errT t = 0 → errT u = 0 → errT y = 0 ∧ sizeT u ≤ sizeT y ∧ depthT u ≤ depthT y
 | [], t, u, y, h, _, hu => by cases h; exact ⟨hu, Nat.le_refl _, Nat.le_refl _⟩
 | i :: p, t, u, y, h, ht, hu => by
   rw [repT] at h
   split at h
   · split at h
     · rename_i k hk
       obtain ⟨z, hz, rfl⟩ := Option.map_eq_some_iff.1 h
       rw [errT_kids] at ht
       obtain ⟨h1, h2, h3⟩ := repT_ok p k u z hz (errL_get hk (orE_split ht).2) hu
       refine ⟨?_, ?_, ?_⟩
       · rw [errT, List.length_set, (orE_split ht).1, errL_set (orE_split ht).2 h1]; rfl
       · rw [sizeT]; have := sizeL_set2 (x := z) hk; omega
       · rw [depthT]; have := depthL_set (x := z) hk; omega
     · cases h
   · cases h
theorem validT_big {t : Tm} (he : errT t = 0) : validT t = if 400 < sizeT t ∨ 40 < depthT t then 3 else 0 := by unfold validT; rw [he]; rfl

/-- a redex of a term without an error, applied as the reference does it -/
def stepG (R : List Rl) (t : Tm) (r : Rdx) : Int × Tm :=
 match ruleAt R r.1 with
 | none => (7, zeroTm)
 | some rl => match atT r.2 t with
   | none => (7, zeroTm)
   | some u => if (matchP rl.1 u).1 ≠ 0 then (11, zeroTm) else
     match repT r.2 t (putG (matchP rl.1 u).2 rl.2) with
     | none => (7, zeroTm)
     | some y => if validT y ≠ 0 then (validT y, zeroTm) else (0, y)
theorem matchP_vals {p t : Tm} : ∀ b ∈ (matchP p t).2, validT b.2 = 0 := by
 intro b hb
 unfold matchP at hb
 split at hb
 · simp at hb
 · rename_i h0
   have h0 := Classical.not_not.1 h0
   split at hb
   · simp at hb
   · rename_i F hF
     rw [pm_pr p t _ (validT_iff.1 (orE_split h0).1).1 (fun k u e => by cases e)] at hF
     split at hF
     · rename_i l hl
       obtain ⟨h1, h2⟩ := prT_vars p t l (validT_iff.1 (orE_split h0).1).1 hl
       obtain ⟨-, h4⟩ := insB_bad l _ F h2 hF
       rw [insB_good l _ h2 (fun b hb u e => by cases e) h4] at hF
       cases hF
       unfold bindF at hb
       obtain ⟨hb1, -⟩ := List.mem_filter.1 hb
       obtain ⟨x, hx, rfl⟩ := List.mem_map.1 hb1
       obtain ⟨c, hc, e⟩ := prT_has (validT_iff.1 (orE_split h0).1).1 hl hx
       have hok : okF (fun k => match (none : Option Tm) with | some u => some u | none => firstB l k) := by
        have := pmT_vals p t (fun _ => none) _ (by rw [pm_pr p t _ (validT_iff.1 (orE_split h0).1).1 (fun k u e => by cases e), hl]; exact insB_good l _ h2 (fun b hb u e => by cases e) h4) (orE_split h0).2 (fun k u e => by cases e)
        exact this
       have hex : ∀ (l : List (Tm × Tm)) (c : Tm × Tm), c ∈ l → ∃ u, firstB l (c.1.name, c.1.sort) = some u := by
        intro l
        induction l with
        | nil => intro c hc; simp at hc
        | cons d l ih =>
          intro c hc
          rw [firstB]
          split
          · exact ⟨_, rfl⟩
          · rename_i hne
            rcases List.mem_cons.1 hc with rfl | hc
            · exact absurd rfl hne
            · exact ih c hc
       obtain ⟨u, hu⟩ := hex l c hc
       rw [e] at hu
       show validT ((firstB l (x.name, x.sort)).getD zeroTm) = 0
       rw [hu]
       exact hok _ u hu
     · cases hF
theorem stepG_eq {R : List Rl} {t : Tm} {r : Rdx} (hR : rulesE R = 0) (ht : validT t = 0) : stepP R t r = stepG R t r := by
 unfold stepP stepG
 cases hrl : ruleAt R r.1 with
 | none => rfl
 | some rl =>
   simp only
   cases hu : atT r.2 t with
   | none => rfl
   | some u =>
     simp only
     by_cases h1 : (matchP rl.1 u).1 ≠ 0
     · rw [if_pos h1, if_pos h1]
     · rw [if_neg h1, if_neg h1]
       have hr : ruleE rl = 0 := by
        unfold ruleAt at hrl
        split at hrl
        · exact rulesE_get hrl hR
        · cases hrl
       have hr2 := (validT_iff.1 (ruleE_iff.1 hr).2.1).1
       obtain ⟨hv, hn⟩ := matchP_good (p := rl.1) (t := u)
       have hps := put_same (matchP rl.1 u).2 hv hn rl.2 hr2
       have hpe : errT (putF (bndF (matchP rl.1 u).2) rl.2) = 0 := errT_put (bndF_ok (P := fun u => errT u = 0) (fun b hb => (validT_iff.1 (matchP_vals b hb)).1)) rl.2 hr2
       rw [hps] at hpe ⊢
       by_cases h3 : validT (putG (matchP rl.1 u).2 rl.2) = 0
       · rw [if_neg (by simp [h3])]; rfl
       · rw [if_pos h3]
         cases hy : repT r.2 t (putG (matchP rl.1 u).2 rl.2) with
         | none =>
           have h4 := repT_at r.2 t (putG (matchP rl.1 u).2 rl.2)
           rw [hy, hu] at h4
           cases h4
         | some y =>
           obtain ⟨h5, h6, h7⟩ := repT_ok _ _ _ _ hy (validT_iff.1 ht).1 hpe
           rw [validT_big hpe] at h3 ⊢
           have h8 : 400 < sizeT (putG (matchP rl.1 u).2 rl.2) ∨ 40 < depthT (putG (matchP rl.1 u).2 rl.2) := by
            by_cases h : 400 < sizeT (putG (matchP rl.1 u).2 rl.2) ∨ 40 < depthT (putG (matchP rl.1 u).2 rl.2)
            · exact h
            · rw [if_neg h] at h3; exact absurd rfl h3
           have h9 : validT y = 3 := by rw [validT_big h5, if_pos (by omega)]
           rw [if_pos h8]
           simp only [h9]
           rfl
end Go.Proofs.Ytpfnlbaloaohgaa
