/- Plain law: substitutions by bindings; a redex applied, as the reference does it. -/
import Derived.Test.YtpfnlbaloaohgaaGreatH6
import Derived.Test.YtpfnlbaloaohgaaGreatR8
namespace Go.Proofs.YtpfnlbaloaohgaaGreat
open Go
set_option linter.unusedVariables false
set_option linter.unusedSimpArgs false

/-- what stands for a variable -/
def getB : List (Tm × Tm) → Tm → Tm | [], x => x | b :: B, x => if b.1 = x then b.2 else getB B x
mutual
def putG (B : List (Tm × Tm)) : Tm → Tm | .mk k n s l => if k = 1 then getB B (.mk k n s l) else .mk k n s (putGL B l)
def putGL (B : List (Tm × Tm)) : List Tm → List Tm | [] => [] | t :: l => putG B t :: putGL B l
end
theorem putG_eq (B : List (Tm × Tm)) (t : Tm) : putG B t = if t.kind = 1 then getB B t else .mk t.kind t.name t.sort (putGL B t.kids) := by cases t; rw [putG]; rfl
theorem putGL_map (B : List (Tm × Tm)) : ∀ l, putGL B l = l.map (putG B)
  | [] => rfl
  | t :: l => by rw [putGL, putGL_map B l]; rfl
theorem putGL_len (B : List (Tm × Tm)) (l : List Tm) : (putGL B l).length = l.length := by rw [putGL_map, List.length_map]
theorem putGL_take {B : List (Tm × Tm)} {l : List Tm} {i : Nat} {x : Tm} (h : l[i]? = some x) : putGL B (l.take (i + 1)) = putGL B (l.take i) ++ [putG B x] := by
  rw [putGL_map, putGL_map, List.take_add_one, h, List.map_append]; rfl
theorem getB_not : ∀ (B : List (Tm × Tm)) (x : Tm), x ∉ B.map (·.1) → getB B x = x
  | [], x, _ => rfl
  | b :: B, x, h => by
    simp only [List.map_cons, List.mem_cons, not_or] at h
    rw [getB, if_neg (fun e => h.1 e.symm)]
    exact getB_not B x h.2
theorem bnd_get : ∀ (B : List (Tm × Tm)) (F0 : Bnd) (x : Tm), isV x → (∀ b ∈ B, isV b.1) → (B.map (·.1)).Nodup →
    B.foldl (fun F b => updT F (b.1.name, b.1.sort) b.2) F0 (x.name, x.sort) = if x ∈ B.map (·.1) then some (getB B x) else F0 (x.name, x.sort)
  | [], F0, x, _, _, _ => by simp
  | b :: B, F0, x, hx, hB, hn => by
    rw [List.map_cons, List.nodup_cons] at hn
    rw [List.foldl_cons, bnd_get B _ x hx (fun c h => hB c (by simp [h])) hn.2]
    by_cases h1 : x ∈ B.map (·.1)
    · have hne : b.1 ≠ x := fun e => hn.1 (by rw [e]; exact h1)
      rw [if_pos h1, if_pos (by simp only [List.map_cons, List.mem_cons]; exact .inr h1), getB, if_neg hne]
    · rw [if_neg h1]
      unfold updT
      by_cases h2 : b.1 = x
      · subst h2
        rw [if_pos rfl, if_pos (by simp), getB, if_pos rfl]
      · rw [if_neg (fun e => h2 ((isV_ext hx (hB b (by simp))).1 e).symm), if_neg]
        simp only [List.map_cons, List.mem_cons, not_or]
        exact ⟨fun e => h2 e.symm, h1⟩
theorem bndF_get {B : List (Tm × Tm)} {x : Tm} (hx : isV x) (hB : ∀ b ∈ B, isV b.1) (hn : (B.map (·.1)).Nodup) : (bndF B (x.name, x.sort)).getD x = getB B x := by
  unfold bndF
  rw [bnd_get B _ x hx hB hn]
  split
  · rfl
  · rename_i h; rw [getB_not B x h]; rfl
theorem errL_mem : ∀ {L : List Tm} {t : Tm}, t ∈ L → errL L = 0 → errT t = 0 := fun {L t} h he => by
  obtain ⟨i, hi⟩ := List.mem_iff_getElem?.1 h
  exact errL_get hi he
theorem isV_of {t : Tm} (he : errT t = 0) (hk : t.kind = 1) : isV t := by
  refine ⟨hk, ?_⟩
  rcases (errT_node he).1 with ⟨-, -, -, e⟩ | ⟨e, -⟩
  · exact e
  · omega
mutual
theorem put_same (B : List (Tm × Tm)) (hB : ∀ b ∈ B, isV b.1) (hn : (B.map (·.1)).Nodup) : ∀ t : Tm, errT t = 0 → putF (bndF B) t = putG B t
  | .mk k n s l, he => by
    rw [putF, putG]
    by_cases h1 : k = 1
    · rw [if_pos h1, if_pos h1]
      exact bndF_get (x := .mk k n s l) (isV_of he h1) hB hn
    · rw [if_neg h1, if_neg h1, put_sameL B hB hn l (by rw [errT_kids] at he; exact (orE_split he).2)]
theorem put_sameL (B : List (Tm × Tm)) (hB : ∀ b ∈ B, isV b.1) (hn : (B.map (·.1)).Nodup) : ∀ l : List Tm, errL l = 0 → putFL (bndF B) l = putGL B l
  | [], _ => rfl
  | t :: l, he => by
    rw [errL] at he
    rw [putFL, putGL, put_same B hB hn t (orE_split he).1, put_sameL B hB hn l (orE_split he).2]
end
theorem nodup_asc {L : List Tm} (h : Asc L) : L.Nodup := List.Pairwise.imp (fun h e => by subst e; exact ltT_irrefl h) h
theorem bindF_sub (F : Bnd) (L : List Tm) : ((bindF F L).map (·.1)).Sublist L := by
  unfold bindF
  have h : ((L.map (fun x => (x, (F (x.name, x.sort)).getD zeroTm))).filter (fun b => decide (b.2 ≠ b.1))).map (·.1) = L.filter (fun x => decide ((F (x.name, x.sort)).getD zeroTm ≠ x)) := by
    rw [List.filter_map, List.map_map]
    have : ((fun b : Tm × Tm => b.1) ∘ fun x => (x, (F (x.name, x.sort)).getD zeroTm)) = id := rfl
    rw [this, List.map_id]
    rfl
  rw [h]
  exact List.filter_sublist
theorem varsT_isV {p x : Tm} (he : errT p = 0) (h : x ∈ varsT p) : isV x := by
  have h2 : x ∈ kindT 1 p := by unfold varsT at h; exact setS_mem.1 h
  have h3 := kindT_mem.1 h2
  have key : ∀ n, ∀ t : Tm, sizeT t ≤ n → errT t = 0 → ∀ y ∈ allT t, errT y = 0 := by
    intro n
    induction n with
    | zero => intro t h; have := sizeT_kids t; omega
    | succ n ih =>
      intro t ht he y hy
      rw [allT_kids] at hy
      rcases List.mem_cons.1 hy with rfl | hy
      · exact he
      · have hl : ∀ l : List Tm, sizeL l ≤ n → errL l = 0 → ∀ y ∈ allL l, errT y = 0 := by
          intro l
          induction l with
          | nil => intro _ _ y hy; simp [allL] at hy
          | cons z l ihl =>
            intro hz hze y hy
            rw [sizeL] at hz
            rw [errL] at hze
            rw [allL] at hy
            rcases List.mem_append.1 hy with hy | hy
            · exact ih z (by omega) (orE_split hze).1 y hy
            · exact ihl (by omega) (orE_split hze).2 y hy
        have := sizeT_kids t
        exact hl t.kids (by omega) (by rw [errT_kids] at he; exact (orE_split he).2) y hy
  exact isV_of (key _ p (Nat.le_refl _) he x h3.1) h3.2
/-- the bindings that Match answers are good -/
theorem matchP_good {p t : Tm} : (∀ b ∈ (matchP p t).2, isV b.1) ∧ ((matchP p t).2.map (·.1)).Nodup := by
  unfold matchP
  split
  · simp
  · rename_i h0
    have h0 := Classical.not_not.1 h0
    have he := (validT_iff.1 (orE_split h0).1).1
    split
    · simp
    · rename_i F hF
      have hs := bindF_sub F (varsT p)
      refine ⟨fun b hb => varsT_isV he (hs.subset (List.mem_map.2 ⟨b, hb, rfl⟩)), List.Nodup.sublist hs (nodup_asc (varsT_asc p))⟩
mutual
theorem errT_put {F : Bnd} (hF : ∀ k u, F k = some u → errT u = 0) : ∀ t : Tm, errT t = 0 → errT (putF F t) = 0
  | .mk k n s l, he => by
    rw [putF]
    split
    · cases hu : F (n, s) with
      | some u => exact hF _ u hu
      | none => exact he
    · rw [errT] at he ⊢
      rw [putFL_len, (orE_split he).1, errL_put hF l (orE_split he).2]; rfl
theorem errL_put {F : Bnd} (hF : ∀ k u, F k = some u → errT u = 0) : ∀ l : List Tm, errL l = 0 → errL (putFL F l) = 0
  | [], _ => rfl
  | t :: l, he => by
    rw [errL] at he
    rw [putFL, errL, errT_put hF t (orE_split he).1, errL_put hF l (orE_split he).2]; rfl
end
theorem errL_set : ∀ {l : List Tm} {i : Nat} {x : Tm}, errL l = 0 → errT x = 0 → errL (l.set i x) = 0
  | [], i, x, h, _ => by simpa using h
  | y :: l, 0, x, h, hx => by rw [List.set_cons_zero, errL, hx]; rw [errL] at h; exact (orE_split h).2
  | y :: l, i + 1, x, h, hx => by
    rw [errL] at h
    rw [List.set_cons_succ, errL, (orE_split h).1, errL_set (orE_split h).2 hx]; rfl
theorem depthL_set {l : List Tm} {i : Nat} {k x : Tm} (h : l[i]? = some k) : depthT x ≤ depthL (l.set i x) :=
  depthL_get (i := i) (by rw [List.getElem?_set_self (List.getElem?_eq_some_iff.1 h).1])
theorem sizeL_set2 {l : List Tm} {i : Nat} {k x : Tm} (h : l[i]? = some k) : sizeT x ≤ sizeL (l.set i x) :=
  sizeL_get (i := i) (by rw [List.getElem?_set_self (List.getElem?_eq_some_iff.1 h).1])
theorem repT_ok : ∀ (p : List Int) (t u y : Tm), repT p t u = some y → errT t = 0 → errT u = 0 → errT y = 0 ∧ sizeT u ≤ sizeT y ∧ depthT u ≤ depthT y
  | [], t, u, y, h, _, hu => by cases h; exact ⟨hu, Nat.le_refl _, Nat.le_refl _⟩
  | i :: p, t, u, y, h, ht, hu => by
    rw [repT] at h
    split at h
    · split at h
      · rename_i k hk
        obtain ⟨z, hz, rfl⟩ := Option.map_eq_some_iff.1 h
        rw [errT_kids] at ht
        obtain ⟨h1, h2, h3⟩ := repT_ok p k u z hz (errL_get hk (orE_split ht).2) hu
        refine ⟨?_, ?_, ?_⟩
        · rw [errT, List.length_set, (orE_split ht).1, errL_set (orE_split ht).2 h1]; rfl
        · rw [sizeT]; have := sizeL_set2 (x := z) hk; omega
        · rw [depthT]; have := depthL_set (x := z) hk; omega
      · cases h
    · cases h
theorem validT_big {t : Tm} (he : errT t = 0) : validT t = if 400 < sizeT t ∨ 40 < depthT t then 3 else 0 := by unfold validT; rw [he]; rfl

/-- a redex of a term without an error, applied as the reference does it -/
def stepG (R : List Rl) (t : Tm) (r : Rdx) : Int × Tm :=
  match ruleAt R r.1 with
  | none => (7, zeroTm)
  | some rl => match atT r.2 t with
    | none => (7, zeroTm)
    | some u => if (matchP rl.1 u).1 ≠ 0 then (11, zeroTm) else
      match repT r.2 t (putG (matchP rl.1 u).2 rl.2) with
      | none => (7, zeroTm)
      | some y => if validT y ≠ 0 then (validT y, zeroTm) else (0, y)
theorem matchP_vals {p t : Tm} : ∀ b ∈ (matchP p t).2, validT b.2 = 0 := by
  intro b hb
  unfold matchP at hb
  split at hb
  · simp at hb
  · rename_i h0
    have h0 := Classical.not_not.1 h0
    split at hb
    · simp at hb
    · rename_i F hF
      rw [pm_pr p t _ (validT_iff.1 (orE_split h0).1).1 (fun k u e => by cases e)] at hF
      split at hF
      · rename_i l hl
        obtain ⟨h1, h2⟩ := prT_vars p t l (validT_iff.1 (orE_split h0).1).1 hl
        obtain ⟨-, h4⟩ := insB_bad l _ F h2 hF
        rw [insB_good l _ h2 (fun b hb u e => by cases e) h4] at hF
        cases hF
        unfold bindF at hb
        obtain ⟨hb1, -⟩ := List.mem_filter.1 hb
        obtain ⟨x, hx, rfl⟩ := List.mem_map.1 hb1
        obtain ⟨c, hc, e⟩ := prT_has (validT_iff.1 (orE_split h0).1).1 hl hx
        have hok : okF (fun k => match (none : Option Tm) with | some u => some u | none => firstB l k) := by
          have := pmT_vals p t (fun _ => none) _ (by rw [pm_pr p t _ (validT_iff.1 (orE_split h0).1).1 (fun k u e => by cases e), hl]; exact insB_good l _ h2 (fun b hb u e => by cases e) h4) (orE_split h0).2 (fun k u e => by cases e)
          exact this
        have hex : ∀ (l : List (Tm × Tm)) (c : Tm × Tm), c ∈ l → ∃ u, firstB l (c.1.name, c.1.sort) = some u := by
          intro l
          induction l with
          | nil => intro c hc; simp at hc
          | cons d l ih =>
            intro c hc
            rw [firstB]
            split
            · exact ⟨_, rfl⟩
            · rename_i hne
              rcases List.mem_cons.1 hc with rfl | hc
              · exact absurd rfl hne
              · exact ih c hc
        obtain ⟨u, hu⟩ := hex l c hc
        rw [e] at hu
        show validT ((firstB l (x.name, x.sort)).getD zeroTm) = 0
        rw [hu]
        exact hok _ u hu
      · cases hF
theorem stepG_eq {R : List Rl} {t : Tm} {r : Rdx} (hR : rulesE R = 0) (ht : validT t = 0) : stepP R t r = stepG R t r := by
  unfold stepP stepG
  cases hrl : ruleAt R r.1 with
  | none => rfl
  | some rl =>
    simp only
    cases hu : atT r.2 t with
    | none => rfl
    | some u =>
      simp only
      by_cases h1 : (matchP rl.1 u).1 ≠ 0
      · rw [if_pos h1, if_pos h1]
      · rw [if_neg h1, if_neg h1]
        have hr : ruleE rl = 0 := by
          unfold ruleAt at hrl
          split at hrl
          · exact rulesE_get hrl hR
          · cases hrl
        have hr2 := (validT_iff.1 (ruleE_iff.1 hr).2.1).1
        obtain ⟨hv, hn⟩ := matchP_good (p := rl.1) (t := u)
        have hps := put_same (matchP rl.1 u).2 hv hn rl.2 hr2
        have hpe : errT (putF (bndF (matchP rl.1 u).2) rl.2) = 0 := errT_put (bndF_ok (P := fun u => errT u = 0) (fun b hb => (validT_iff.1 (matchP_vals b hb)).1)) rl.2 hr2
        rw [hps] at hpe ⊢
        by_cases h3 : validT (putG (matchP rl.1 u).2 rl.2) = 0
        · rw [if_neg (by simp [h3])]; rfl
        · rw [if_pos h3]
          cases hy : repT r.2 t (putG (matchP rl.1 u).2 rl.2) with
          | none =>
            have h4 := repT_at r.2 t (putG (matchP rl.1 u).2 rl.2)
            rw [hy, hu] at h4
            cases h4
          | some y =>
            obtain ⟨h5, h6, h7⟩ := repT_ok _ _ _ _ hy (validT_iff.1 ht).1 hpe
            rw [validT_big hpe] at h3 ⊢
            have h8 : 400 < sizeT (putG (matchP rl.1 u).2 rl.2) ∨ 40 < depthT (putG (matchP rl.1 u).2 rl.2) := by
              by_cases h : 400 < sizeT (putG (matchP rl.1 u).2 rl.2) ∨ 40 < depthT (putG (matchP rl.1 u).2 rl.2)
              · exact h
              · rw [if_neg h] at h3; exact absurd rfl h3
            have h9 : validT y = 3 := by rw [validT_big h5, if_pos (by omega)]
            rw [if_pos h8]
            simp only [h9]
            rfl
theorem applyG_eq (R : List Rl) (t : Tm) (r : Rdx) : applyP R t r = if orE (rulesE R) (validT t) ≠ 0 then (orE (rulesE R) (validT t), zeroTm) else stepG R t r := by
  unfold applyP
  split
  · rfl
  · rename_i h
    have h := orE_split (Classical.not_not.1 h)
    exact stepG_eq h.1 h.2

end Go.Proofs.YtpfnlbaloaohgaaGreat
