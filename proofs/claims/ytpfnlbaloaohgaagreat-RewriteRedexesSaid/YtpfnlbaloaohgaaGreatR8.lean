/- Plain law: matching by pairs. -/
import Derived.Test.YtpfnlbaloaohgaaGreatH3
namespace Go.Proofs.YtpfnlbaloaohgaaGreat
open Go
set_option linter.unusedVariables false
set_option linter.unusedSimpArgs false

mutual
/-- the pairs of variables and terms that matching makes -/
def prT : Tm → Tm → Option (List (Tm × Tm))
  | .mk k n s l, t => if k = 1 then (if fitsT (.mk k n s l) t then some [(.mk k n s l, t)] else none)
    else if k = 2 then (if .mk k n s l = t then some [] else none)
    else if alikeT (.mk k n s l) t then prL l t.kids else none
def prL : List Tm → List Tm → Option (List (Tm × Tm))
  | [], _ => some []
  | a :: l, b :: m => (match prT a b with | some x => (match prL l m with | some y => some (x ++ y) | none => none) | none => none)
  | _ :: _, [] => none
end
theorem prT_eq (p t : Tm) : prT p t = if p.kind = 1 then (if fitsT p t then some [(p, t)] else none) else if p.kind = 2 then (if p = t then some [] else none) else if alikeT p t then prL p.kids t.kids else none := by
  cases p; rw [prT]; rfl
/-- a list of pairs put into what is known -/
def insB : List (Tm × Tm) → Bnd → Option Bnd
  | [], F => some F
  | b :: l, F => match F (b.1.name, b.1.sort) with | some v => if v = b.2 then insB l F else none | none => insB l (updT F (b.1.name, b.1.sort) b.2)
theorem insB_append : ∀ (l m : List (Tm × Tm)) (F : Bnd), insB (l ++ m) F = (match insB l F with | some G => insB m G | none => none)
  | [], m, F => rfl
  | b :: l, m, F => by
    rw [List.cons_append, insB, insB]
    split
    · split
      · exact insB_append l m F
      · rfl
    · exact insB_append l m _
def fitF (F : Bnd) : Prop := ∀ k u, F k = some u → k.2 = 0 ∨ u.kind ≠ 3 ∧ u.sort = k.2
theorem fitsT_iff {x t : Tm} : fitsT x t = true ↔ x.sort = 0 ∨ t.kind ≠ 3 ∧ t.sort = x.sort := by simp [fitsT]
theorem fitF.upd {F : Bnd} {x t : Tm} (h : fitF F) (hf : fitsT x t = true) : fitF (updT F (x.name, x.sort) t) := fun k u e => by
  unfold updT at e
  split at e
  · rename_i hk
    cases e
    rw [hk]
    exact fitsT_iff.1 hf
  · exact h k u e
theorem insB_fit : ∀ (l : List (Tm × Tm)) (F G : Bnd), (∀ b ∈ l, fitsT b.1 b.2 = true) → fitF F → insB l F = some G → fitF G
  | [], F, G, _, hF, h => by rw [insB] at h; cases h; exact hF
  | b :: l, F, G, hl, hF, h => by
    rw [insB] at h
    split at h
    · split at h
      · exact insB_fit l F G (fun c hc => hl c (by simp [hc])) hF h
      · cases h
    · exact insB_fit l _ G (fun c hc => hl c (by simp [hc])) (hF.upd (hl b (by simp))) h
mutual
theorem prT_fit : ∀ (p t : Tm) (l : List (Tm × Tm)), prT p t = some l → ∀ b ∈ l, fitsT b.1 b.2 = true
  | .mk k n s q, t, l, h, b, hb => by
    rw [prT] at h
    split at h
    · split at h
      · cases h; simp at hb; subst hb; assumption
      · cases h
    · split at h
      · split at h
        · cases h; simp at hb
        · cases h
      · split at h
        · exact prL_fit q t.kids l h b hb
        · cases h
theorem prL_fit : ∀ (p t : List Tm) (l : List (Tm × Tm)), prL p t = some l → ∀ b ∈ l, fitsT b.1 b.2 = true
  | [], _, l, h, b, hb => by rw [prL] at h; cases h; simp at hb
  | x :: p, y :: t, l, h, b, hb => by
    rw [prL] at h
    split at h
    · rename_i u hu
      split at h
      · rename_i v hv
        cases h
        rcases List.mem_append.1 hb with hb | hb
        · exact prT_fit x y u hu b hb
        · exact prL_fit p t v hv b hb
      · cases h
    · cases h
  | _ :: _, [], l, h, b, hb => by rw [prL] at h; cases h
end
mutual
/-- matching with what is known, by the pairs -/
theorem pm_pr : ∀ (p t : Tm) (F : Bnd), errT p = 0 → fitF F → pmT p t F = (match prT p t with | some l => insB l F | none => none)
  | .mk k n s q, t, F, he, hF => by
    have hn := errT_node he
    simp only [Tm.kind, Tm.kids, Tm.sort] at hn
    rw [pmT, prT]
    by_cases h1 : k = 1
    · rw [if_pos h1, if_pos h1]
      cases hu : F (n, s) with
      | some u =>
        simp only
        have hf := hF _ u hu
        by_cases e : u = t
        · subst e
          have : fitsT (.mk k n s q) u = true := fitsT_iff.2 hf
          simp only [this, if_true, insB, Tm.name, Tm.sort, hu]
        · rw [if_neg e]
          split
          · rename_i l hl
            split at hl
            · cases hl; simp only [insB, Tm.name, Tm.sort, hu, e, if_false]
            · cases hl
          · rfl
      | none =>
        simp only
        by_cases hf : fitsT (.mk k n s q) t = true
        · simp only [hf, if_true, insB, Tm.name, Tm.sort, hu]
        · simp only [hf, if_false, Bool.false_eq_true]
    · rw [if_neg h1, if_neg h1]
      by_cases h2 : k = 2
      · have ha : alikeT (.mk k n s q) t = false := by simp [alikeT, Tm.kind, h2]
        rw [ha, if_pos h2]
        simp only [Bool.false_eq_true, if_false]
        split <;> simp [insB]
      · rw [if_neg h2]
        by_cases ha : alikeT (.mk k n s q) t = true
        · rw [if_pos ha, if_pos ha]
          have hq : errL q = 0 := by rw [errT_kids] at he; exact (orE_split he).2
          exact pmL_pr q t.kids F hq hF
        · rw [if_neg ha, if_neg ha]
          simp only
          rw [if_neg]
          intro e
          apply ha
          subst e
          have hk : k = 3 := by omega
          simp [alikeT, Tm.kind, hk]
theorem pmL_pr : ∀ (p t : List Tm) (F : Bnd), errL p = 0 → fitF F → pmL p t F = (match prL p t with | some l => insB l F | none => none)
  | [], _, F, _, _ => by rw [pmL, prL]; rfl
  | x :: p, y :: t, F, he, hF => by
    rw [errL] at he
    rw [pmL, prL, pm_pr x y F (orE_split he).1 hF]
    cases hx : prT x y with
    | none => rfl
    | some u =>
      simp only
      cases hu : insB u F with
      | none =>
        simp only
        cases prL p t with
        | none => rfl
        | some v => simp only [insB_append, hu]
      | some G =>
        simp only
        rw [pmL_pr p t G (orE_split he).2 (insB_fit u F G (prT_fit x y u hx) hF hu)]
        cases prL p t with
        | none => rfl
        | some v => simp only [insB_append, hu]
  | _ :: _, [], F, _, _ => by rw [pmL, prL]
end

/-- a variable as it stands in a valid term -/
def isV (x : Tm) : Prop := x.kind = 1 ∧ x.kids = []
theorem isV_ext {x y : Tm} (hx : isV x) (hy : isV y) : (x.name, x.sort) = (y.name, y.sort) ↔ x = y := by
  obtain ⟨k, n, s, l⟩ := x
  obtain ⟨k', n', s', l'⟩ := y
  simp only [isV, Tm.kind, Tm.kids, Tm.name, Tm.sort] at *
  obtain ⟨rfl, rfl⟩ := hx
  obtain ⟨rfl, rfl⟩ := hy
  simp
/-- the same variable stands for the same term -/
def consP (l : List (Tm × Tm)) : Prop := ∀ a ∈ l, ∀ b ∈ l, a.1 = b.1 → a.2 = b.2
instance (l : List (Tm × Tm)) : Decidable (consP l) := by unfold consP; infer_instance
/-- what stands first for a name -/
def firstB : List (Tm × Tm) → Bnd
  | [], _ => none
  | b :: l, k => if k = (b.1.name, b.1.sort) then some b.2 else firstB l k
theorem insB_good : ∀ (l : List (Tm × Tm)) (F : Bnd), (∀ b ∈ l, isV b.1) → (∀ b ∈ l, ∀ u, F (b.1.name, b.1.sort) = some u → u = b.2) → consP l →
    insB l F = some (fun k => match F k with | some u => some u | none => firstB l k)
  | [], F, _, _, _ => by
    rw [insB]
    congr 1
    funext k
    simp only [firstB]
    split <;> simp [*]
  | b :: l, F, hv, hF, hc => by
    have hcl : consP l := fun a ha c hc' => hc a (by simp [ha]) c (by simp [hc'])
    rw [insB]
    cases hu : F (b.1.name, b.1.sort) with
    | some u =>
      simp only
      rw [if_pos (hF b (by simp) u hu), insB_good l F (fun c h => hv c (by simp [h])) (fun c h => hF c (by simp [h])) hcl]
      congr 1
      funext k
      simp only [firstB]
      by_cases hk : k = (b.1.name, b.1.sort)
      · subst hk; simp only [hu]
      · rw [if_neg hk]
    | none =>
      simp only
      rw [insB_good l _ (fun c h => hv c (by simp [h])) (fun c h u e => ?_) hcl]
      · congr 1
        funext k
        simp only [firstB, updT]
        by_cases hk : k = (b.1.name, b.1.sort)
        · subst hk; simp only [if_true, hu]
        · rw [if_neg hk, if_neg hk]
      · unfold updT at e
        split at e
        · rename_i hk
          cases e
          have h1 := (isV_ext (hv c (by simp [h])) (hv b (by simp))).1 hk
          exact hc b (by simp) c (by simp [h]) h1.symm
        · exact hF c (by simp [h]) u e
theorem insB_bad : ∀ (l : List (Tm × Tm)) (F G : Bnd), (∀ b ∈ l, isV b.1) → insB l F = some G → (∀ b ∈ l, ∀ u, F (b.1.name, b.1.sort) = some u → u = b.2) ∧ consP l
  | [], F, G, _, _ => ⟨by simp, fun a ha => by simp at ha⟩
  | b :: l, F, G, hv, h => by
    have hvl : ∀ c ∈ l, isV c.1 := fun c h => hv c (by simp [h])
    rw [insB] at h
    cases hu : F (b.1.name, b.1.sort) with
    | some u =>
      rw [hu] at h
      simp only at h
      split at h
      · rename_i e
        subst e
        obtain ⟨h1, h2⟩ := insB_bad l F G hvl h
        have key : ∀ c ∈ l, b.1 = c.1 → b.2 = c.2 := fun c hc e => h1 c hc b.2 (by rw [← e]; exact hu)
        refine ⟨fun c hc u e => ?_, fun a ha c hc e => ?_⟩
        · rcases List.mem_cons.1 hc with rfl | hc
          · rw [hu] at e; cases e; rfl
          · exact h1 c hc u e
        · rcases List.mem_cons.1 ha with ha | ha <;> rcases List.mem_cons.1 hc with hc | hc
          · rw [ha, hc]
          · rw [ha] at e ⊢; exact key c hc e
          · rw [hc] at e ⊢; exact (key a ha e.symm).symm
          · exact h2 a ha c hc e
      · cases h
    | none =>
      rw [hu] at h
      simp only at h
      obtain ⟨h1, h2⟩ := insB_bad l _ G hvl h
      have key : ∀ c ∈ l, b.1 = c.1 → b.2 = c.2 := fun c hc e => h1 c hc b.2 (by rw [← e]; simp [updT])
      refine ⟨fun c hc u e => ?_, fun a ha c hc e => ?_⟩
      · rcases List.mem_cons.1 hc with rfl | hc
        · rw [hu] at e; cases e
        · by_cases hk : (c.1.name, c.1.sort) = (b.1.name, b.1.sort)
          · rw [hk, hu] at e; cases e
          · exact h1 c hc u (by simp only [updT, if_neg hk]; exact e)
      · rcases List.mem_cons.1 ha with ha | ha <;> rcases List.mem_cons.1 hc with hc | hc
        · rw [ha, hc]
        · rw [ha] at e ⊢; exact key c hc e
        · rw [hc] at e ⊢; exact (key a ha e.symm).symm
        · exact h2 a ha c hc e
theorem kindT_kids (k : Int) (t : Tm) : kindT k t = (if t.kind = k then [t] else []) ++ (allL t.kids).filter (fun x => decide (x.kind = k)) := by
  unfold kindT
  rw [allT_kids, List.filter_cons]
  by_cases h : t.kind = k <;> simp [h]
mutual
theorem prT_vars : ∀ (p t : Tm) (l : List (Tm × Tm)), errT p = 0 → prT p t = some l → l.map (·.1) = kindT 1 p ∧ ∀ b ∈ l, isV b.1
  | .mk k n s q, t, l, he, h => by
    have hn := errT_node he
    simp only [Tm.kind, Tm.kids, Tm.sort] at hn
    rw [show kindT 1 (Tm.mk k n s q) = (if k = 1 then [Tm.mk k n s q] else []) ++ (allL q).filter (fun x => decide (x.kind = 1)) from kindT_kids 1 _]
    rw [prT] at h
    by_cases h1 : k = 1
    · have hq : q = [] := by
        rcases hn.1 with ⟨-, -, -, e⟩ | ⟨e, -⟩
        · exact e
        · omega
      subst hq
      rw [if_pos h1] at h
      split at h
      · cases h
        refine ⟨by simp [allL, h1], fun b hb => ?_⟩
        simp at hb; subst hb; exact ⟨h1, rfl⟩
      · cases h
    · rw [if_neg h1] at h
      rw [if_neg h1, List.nil_append]
      by_cases h2 : k = 2
      · have hq : q = [] := by
          rcases hn.1 with ⟨-, -, -, e⟩ | ⟨e, -⟩
          · exact e
          · omega
        subst hq
        rw [if_pos h2] at h
        split at h
        · cases h; exact ⟨by simp [allL], by simp⟩
        · cases h
      · rw [if_neg h2] at h
        split at h
        · have hq : errL q = 0 := by rw [errT_kids] at he; exact (orE_split he).2
          exact prL_vars q t.kids l hq (by
            rename_i ha
            simp only [alikeT, Bool.and_eq_true, decide_eq_true_eq] at ha
            exact ha.2.2.2) h
        · cases h
theorem prL_vars : ∀ (p t : List Tm) (l : List (Tm × Tm)), errL p = 0 → p.length = t.length → prL p t = some l → l.map (·.1) = (allL p).filter (fun x => decide (x.kind = 1)) ∧ ∀ b ∈ l, isV b.1
  | [], _, l, _, _, h => by rw [prL] at h; cases h; exact ⟨by simp [allL], by simp⟩
  | x :: p, y :: t, l, he, hl, h => by
    rw [errL] at he
    rw [prL] at h
    split at h
    · rename_i u hu
      split at h
      · rename_i v hv
        cases h
        obtain ⟨h1, h2⟩ := prT_vars x y u (orE_split he).1 hu
        obtain ⟨h3, h4⟩ := prL_vars p t v (orE_split he).2 (by simpa using hl) hv
        refine ⟨by rw [List.map_append, h1, h3, allL, List.filter_append]; rfl, fun b hb => ?_⟩
        rcases List.mem_append.1 hb with hb | hb
        · exact h2 b hb
        · exact h4 b hb
      · cases h
    · cases h
  | _ :: _, [], l, _, hl, h => by simp at hl
end
/-- what Match answers, by the pairs -/
theorem matchP_pr {p t : Tm} (hp : validT p = 0) (ht : validT t = 0) : matchP p t = match prT p t with | none => (11, []) | some l => if consP l then (0, bindF (firstB l) (varsT p)) else (11, []) := by
  have he := (validT_iff.1 hp).1
  unfold matchP
  rw [if_neg (by rw [hp, ht]; simp [orE]), pm_pr p t _ he (fun k u e => by cases e)]
  cases hl : prT p t with
  | none => rfl
  | some l =>
    obtain ⟨h1, h2⟩ := prT_vars p t l he hl
    simp only
    by_cases hc : consP l
    · rw [insB_good l _ h2 (fun b hb u e => by cases e) hc, if_pos hc]
    · rw [if_neg hc]
      cases hi : insB l (fun _ => none) with
      | none => rfl
      | some G => exact absurd (insB_bad l _ G h2 hi).2 hc
/-- each variable of the pattern has its pair -/
theorem prT_has {p t : Tm} {l : List (Tm × Tm)} (he : errT p = 0) (h : prT p t = some l) {x : Tm} (hx : x ∈ varsT p) : ∃ b ∈ l, b.1 = x := by
  have h1 := (prT_vars p t l he h).1
  have h2 : x ∈ kindT 1 p := by unfold varsT at hx; exact setS_mem.1 hx
  rw [← h1] at h2
  obtain ⟨b, hb, e⟩ := List.mem_map.1 h2
  exact ⟨b, hb, e⟩
theorem firstB_get : ∀ {l : List (Tm × Tm)} {i : Nat} {b : Tm × Tm} {x : Tm}, (∀ c ∈ l, isV c.1) → l[i]? = some b → b.1 = x → (∀ c ∈ l.take i, c.1 ≠ x) → firstB l (x.name, x.sort) = some b.2
  | [], i, b, x, _, h, _, _ => by simp at h
  | c :: l, 0, b, x, _, h, hx, _ => by cases h; subst hx; simp [firstB]
  | c :: l, i + 1, b, x, hv, h, hx, hn => by
    have hb : b ∈ c :: l := List.mem_of_getElem? h
    have h1 : c.1 ≠ x := hn c (by simp)
    rw [firstB, if_neg]
    · exact firstB_get (fun d hd => hv d (by simp [hd])) (by simpa using h) hx (fun d hd => hn d (by simp [hd]))
    · intro e
      exact h1 ((isV_ext (by rw [← hx]; exact hv b hb) (hv c (by simp))).1 e).symm
mutual
theorem prT_len : ∀ (p t : Tm) (l : List (Tm × Tm)), prT p t = some l → l.length ≤ sizeT p
  | .mk k n s q, t, l, h => by
    rw [prT] at h
    rw [sizeT]
    split at h
    · split at h
      · cases h; simp
      · cases h
    · split at h
      · split at h
        · cases h; simp
        · cases h
      · split at h
        · have := prL_len q t.kids l h; omega
        · cases h
theorem prL_len : ∀ (p t : List Tm) (l : List (Tm × Tm)), prL p t = some l → l.length ≤ sizeL p
  | [], _, l, h => by rw [prL] at h; cases h; simp
  | x :: p, y :: t, l, h => by
    rw [prL] at h
    rw [sizeL]
    split at h
    · rename_i u hu
      split at h
      · rename_i v hv
        cases h
        have := prT_len x y u hu
        have := prL_len p t v hv
        rw [List.length_append]
        omega
      · cases h
    · cases h
  | _ :: _, [], l, h => by rw [prL] at h; cases h
end

end Go.Proofs.YtpfnlbaloaohgaaGreat
