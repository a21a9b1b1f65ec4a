/- The plain law of a separation. -/
import Derived.Test.YtckgjebcehbkfaaG12
import Derived.Test.YtckgjebcehbkfaaG8
namespace Go.Proofs.Ytckgjebcehbkfaa
open Go Go.RowKit
set_option linter.unusedVariables false
set_option linter.unusedSimpArgs false

theorem dot_red {R : Nat → Option (Vec Nat)} {b : Vec Nat} {N : Nat} (hR : ∀ c r, R c = some r → dot r b N = false) (v : Vec Nat) : ∀ k, dot (red R id v k) b N = dot v b N
  | 0 => rfl
  | k + 1 => by
    show dot (stp R id (red R id v k) k) b N = _
    rw [← dot_red hR v k]
    unfold stp
    cases hk : R k with
    | none => rfl
    | some r =>
      simp only
      split
      · rw [dot_xr, hR k r hk]
        cases dot (red R id v k) b N <;> rfl
      · rfl
theorem sys_even {v : Nat → Vec Nat} {N m : Nat} {R C : Nat → Option (Vec Nat)} {B : List Nat} {b : Vec Nat} (h : Sys v id N m R C B) (hb : ∀ c r, R c = some r → dot r b N = false) {i : Nat} (hi : i < m) : dot (v i) b N = false := by
  rw [← dot_red hb (v i) N, h.ker i hi, dot_zero]
theorem dot_single {y b : Vec Nat} {o : Nat} (h : ∀ j, j ≠ o → (y j && b j) = false) (ho : (y o && b o) = true) : ∀ k, dot y b k = decide (o < k)
  | 0 => by simp [dot]
  | k + 1 => by
    show (dot y b k != (y k && b k)) = _
    rw [dot_single h ho k]
    by_cases e : k = o
    · subst e
      have h1 : decide (k < k) = false := by simp
      have h2 : decide (k < k + 1) = true := by simp
      rw [ho, h1, h2]; rfl
    · have h1 : decide (o < k + 1) = decide (o < k) := by simp; omega
      rw [h k e, h1]
      cases decide (o < k) <;> rfl

/-- the meeting without place c -/
def dotx (r b : Vec Nat) (c : Nat) : Nat → Bool
  | 0 => false
  | k + 1 => dotx r b c k != (decide (k ≠ c) && (r k && b k))
theorem dotx_dot {r b : Vec Nat} {c : Nat} (hb : b c = false) : ∀ k, dotx r b c k = dot r b k
  | 0 => rfl
  | k + 1 => by
    show (dotx r b c k != (decide (k ≠ c) && (r k && b k))) = (dot r b k != (r k && b k))
    rw [dotx_dot hb k]
    by_cases e : k = c
    · subst e; simp [hb]
    · simp [e]

/-- the separation under way: the pivots from k on are done -/
structure RefI (R : Nat → Option (Vec Nat)) (o N k : Nat) (b : Vec Nat) : Prop where
  even : ∀ d r, k ≤ d → R d = some r → dot r b N = false
  odd : b o = true
  only : ∀ j, b j = true → j = o ∨ (k ≤ j ∧ (R j).isSome = true)
theorem RefI.start {R : Nat → Option (Vec Nat)} {o N : Nat} {b : Vec Nat} (hN : ∀ d r, R d = some r → d < N) (hb : ∀ j, b j = decide (j = o)) : RefI R o N N b :=
  ⟨fun d r h1 h2 => by have := hN d r h2; omega, by rw [hb]; simp, fun j h => by rw [hb j] at h; exact .inl (of_decide_eq_true h)⟩
theorem RefI.nil {R : Nat → Option (Vec Nat)} {o N k : Nat} {b : Vec Nat} (h : RefI R o N (k + 1) b) (hk : R k = none) : RefI R o N k b :=
  ⟨fun d r h1 h2 => by
    by_cases e : d = k
    · subst e; rw [hk] at h2; cases h2
    · exact h.even d r (by omega) h2, h.odd, fun j hj => by
    rcases h.only j hj with h1 | ⟨h1, h2⟩
    · exact .inl h1
    · exact .inr ⟨by omega, h2⟩⟩
theorem RefI.bit {R : Nat → Option (Vec Nat)} {o N k : Nat} {b r : Vec Nat} (h : RefI R o N (k + 1) b) (ho : R o = none) (hk : R k = some r) : b k = false := by
  cases hb : b k with
  | false => rfl
  | true =>
    rcases h.only k hb with h1 | ⟨h1, -⟩
    · rw [h1, ho] at hk; cases hk
    · omega
theorem RefI.keep {R : Nat → Option (Vec Nat)} {o N k : Nat} {b r : Vec Nat} (h : RefI R o N (k + 1) b) (hk : R k = some r) (hd : dot r b N = false) : RefI R o N k b :=
  ⟨fun d q h1 h2 => by
    by_cases e : d = k
    · subst e; rw [hk] at h2; cases h2; exact hd
    · exact h.even d q (by omega) h2, h.odd, fun j hj => by
    rcases h.only j hj with h1 | ⟨h1, h2⟩
    · exact .inl h1
    · exact .inr ⟨by omega, h2⟩⟩
theorem RefI.flip {R : Nat → Option (Vec Nat)} {o N k : Nat} {b b' r : Vec Nat} (h : RefI R o N (k + 1) b) (hE : Ech R id) (ho : R o = none) (hk : R k = some r) (hN : k < N) (hd : dot r b N = true) (hb : ∀ j, b' j = (b j != decide (j = k))) : RefI R o N k b' := by
  have hne : k ≠ o := fun e => by rw [e, ho] at hk; cases hk
  refine ⟨fun d q h1 h2 => ?_, ?_, fun j hj => ?_⟩
  · rw [dot_flip hb]
    by_cases e : d = k
    · subst e
      rw [hk] at h2; cases h2
      rw [hd, show r d = true from (hE d r hk).1, decide_eq_true hN]; rfl
    · rw [h.even d q (by omega) h2, show q k = false from (hE d q h2).2 k (by omega) (by rw [hk]; rfl)]
      cases decide (k < N) <;> rfl
  · rw [hb, h.odd]; simp [hne.symm]
  · rw [hb] at hj
    by_cases e : j = k
    · exact .inr ⟨by omega, by rw [e, hk]; rfl⟩
    · simp [e] at hj
      rcases h.only j hj with h1 | ⟨h1, h2⟩
      · exact .inl h1
      · exact .inr ⟨by omega, h2⟩

/-- the columns that b chooses -/
def pickK (K : List Tm) (b : Vec Nat) (j : Nat) : List Tm := (sel b j).filterMap (fun i => K[i]?)
theorem pickK_succ {K : List Tm} {b : Vec Nat} {j : Nat} {x : Tm} (hx : K[j]? = some x) : pickK K b (j + 1) = pickK K b j ++ (if b j then [x] else []) := by
  unfold pickK
  rw [sel_succ, List.filterMap_append]
  cases b j <;> simp [hx]
theorem pickK_mem {K : List Tm} {b : Vec Nat} {j : Nat} {x : Tm} : x ∈ pickK K b j ↔ ∃ i, i < j ∧ b i = true ∧ K[i]? = some x := by
  unfold pickK
  rw [List.mem_filterMap]
  constructor
  · rintro ⟨i, hi, h⟩; exact ⟨i, (sel_mem.1 hi).1, (sel_mem.1 hi).2, h⟩
  · rintro ⟨i, h1, h2, h3⟩; exact ⟨i, sel_mem.2 ⟨h1, h2⟩, h3⟩
theorem pickK_asc {K : List Tm} (hK : Asc K) (b : Vec Nat) : ∀ j, j ≤ K.length → Asc (pickK K b j)
  | 0, _ => by simp [pickK, sel]
  | j + 1, h => by
    have hx : K[j]? = some K[j] := List.getElem?_eq_getElem (by omega)
    rw [pickK_succ hx]
    refine List.pairwise_append.2 ⟨pickK_asc hK b j (by omega), by split <;> simp, fun y hy z hz => ?_⟩
    obtain ⟨i, hi, -, hyi⟩ := pickK_mem.1 hy
    split at hz
    · simp at hz; subst hz; exact asc_get hK hyi hx hi
    · simp at hz
theorem pickK_len (K : List Tm) (b : Vec Nat) (j : Nat) : (pickK K b j).length ≤ (sel b j).length := List.length_filterMap_le _ _
theorem dot_len {K : List Tm} {a b : Vec Nat} : ∀ j, j ≤ K.length → dot a b j = decide ((pickK K (fun i => a i && b i) j).length % 2 = 1)
  | 0, _ => by simp [dot, pickK, sel]
  | j + 1, h => by
    have hx : K[j]? = some K[j] := List.getElem?_eq_getElem (by omega)
    show (dot a b j != (a j && b j)) = _
    rw [dot_len (K := K) j (by omega), pickK_succ hx, List.length_append]
    cases hc : (a j && b j) with
    | false => simp [hc]
    | true =>
      simp only [if_true, List.length_singleton]
      by_cases e : (pickK K (fun i => a i && b i) j).length % 2 = 1
      · rw [decide_eq_true e, decide_eq_false (by omega)]; rfl
      · rw [decide_eq_false e, decide_eq_true (by omega)]; rfl
theorem odd_dot {K : List Tm} {b : Vec Nat} {t : Tm} (hK : Asc K) (ht : ∀ x ∈ sumT t, x ∈ K) : oddS t (pickK K b K.length) = dot (rowB K (sumT t)) b K.length := by
  rw [dot_len (K := K) K.length (Nat.le_refl _)]
  unfold oddS cntS
  have e : (sumT t).filter (fun x => decide (x ∈ pickK K b K.length)) = pickK K (fun i => rowB K (sumT t) i && b i) K.length := by
    refine asc_eq (List.Pairwise.filter _ (sumT_asc t)) (pickK_asc hK _ _ (Nat.le_refl _)) (fun x => ?_)
    rw [List.mem_filter, decide_eq_true_eq, pickK_mem, pickK_mem]
    constructor
    · rintro ⟨h1, i, h2, h3, h4⟩
      refine ⟨i, h2, ?_, h4⟩
      unfold rowB
      rw [h4, h3, Bool.and_true]
      exact decide_eq_true h1
    · rintro ⟨i, h2, h3, h4⟩
      rw [Bool.and_eq_true] at h3
      have h5 := h3.1
      unfold rowB at h5
      rw [h4] at h5
      exact ⟨of_decide_eq_true h5, i, h2, h3.2, h4⟩
  rw [e]

/-- no more pivots than entries -/
theorem MapK.count {w : World} {b n : Nat} {F : Col → Option Wds} (h : MapK encI w b n (fun c => (F c).map bitsV)) {l : List Nat} (hn : l.Nodup) (hl : ∀ c ∈ l, (vecs F c).isSome = true) : l.length ≤ n := by
  obtain ⟨es, clock, -, h2, -, -, h5⟩ := h
  have key : ∀ l : List Nat, l.Nodup → (∀ c ∈ l, (vecs F c).isSome = true) → ∃ is : List Nat, is.length = l.length ∧ is.Nodup ∧ ∀ i ∈ is, i < es.size ∧ ∃ c ∈ l, ∃ e, es[i]? = some e ∧ e.key = .int .i64 (c : Nat) := by
    intro l
    induction l with
    | nil => intro _ _; exact ⟨[], rfl, List.nodup_nil, by simp⟩
    | cons c l ih =>
      intro hn hl
      have hn' := List.nodup_cons.1 hn
      obtain ⟨is, h6, h7, h8⟩ := ih hn'.2 (fun d hd => hl d (by simp [hd]))
      have hc := hl c (by simp)
      have hc6 : c < 1000000 := by
        unfold vecs at hc
        split at hc
        · assumption
        · cases hc
      have hF : (F ⟨c, hc6⟩).isSome = true := by
        have := vecs_at (F := F) ⟨c, hc6⟩
        simp only at this
        rw [this] at hc
        simpa using hc
      rcases h5 ⟨c, hc6⟩ with ⟨h9, -⟩ | ⟨i, e, hi, he, -⟩
      · obtain ⟨p, hp⟩ := Option.isSome_iff_exists.1 hF
        have h9 : (F ⟨c, hc6⟩).map bitsV = none := h9
        rw [hp] at h9; cases h9
      · have hi' := (Array.getElem?_eq_some_iff.1 hi).1
        refine ⟨i :: is, by simp [h6], List.nodup_cons.2 ⟨fun hm => ?_, h7⟩, fun j hj => ?_⟩
        · obtain ⟨-, d, hd, e', he', hk⟩ := h8 i hm
          rw [hi] at he'
          cases he'
          rw [he] at hk
          simp [encI] at hk
          have : c = d := by omega
          subst this
          exact hn'.1 hd
        · rcases List.mem_cons.1 hj with rfl | hj
          · exact ⟨hi', c, by simp, e, hi, he⟩
          · obtain ⟨h9, d, hd, h10⟩ := h8 j hj
            exact ⟨h9, d, by simp [hd], h10⟩
  obtain ⟨is, h6, h7, h8⟩ := key l hn hl
  have := nat_sub_len (K := is) (M := List.range es.size) h7 (fun i hi => List.mem_range.2 (h8 i hi).1)
  rw [List.length_range] at this
  omega

/-- what Refute answers -/
def RefuteR (L : List Tm) (t : Tm) (P : List Tm) (er : Int) : Prop :=
  (rightS L [t] ≠ 0 ∧ er = rightS L [t] ∧ P = []) ∨ (rightS L [t] = 0 ∧ ((InSpan L t ∧ er = 5 ∧ P = []) ∨ (¬ InSpan L t ∧ er = 0 ∧ (L.length ≤ 199 → crS L t P = true))))

theorem refute_plain {K L : List Tm} {t : Tm} {R C : Nat → Option (Vec Nat)} {B : List Nat} {b : Vec Nat} {o : Nat} (hK : Asc K) (hM : ∀ x, x ∈ K ↔ x ∈ allS (L ++ [t])) (hS : Sys (vvL K L) id K.length L.length R C B) (hcnt : ∀ l : List Nat, l.Nodup → (∀ c ∈ l, (R c).isSome = true) → l.length ≤ L.length)
    (hr : rightS L [t] = 0) (ho : red R id (rowB K (sumT t)) K.length o = true) (hoN : o < K.length) (hI : RefI R o K.length 0 b) (hl : L.length ≤ 199) : crS L t (pickK K b K.length) = true := by
  have hRo : R o = none := by
    cases h : R o with
    | none => rfl
    | some r => have := red_pivot hS.ech (rowB K (sumT t)) K.length o hoN (by rw [h]; rfl); rw [id_eq, ho] at this; cases this
  have hev : ∀ c r, R c = some r → dot r b K.length = false := fun c r h => hI.even c r (Nat.zero_le _) h
  have h1 : oddS t (pickK K b K.length) = true := by
    rw [odd_dot hK (fun x hx => (hM x).2 (List.mem_flatMap.2 ⟨t, by simp, hx⟩)), ← dot_red hev _ K.length]
    rw [dot_single (o := o) (fun j hj => ?_) (by rw [ho, hI.odd]; rfl), decide_eq_true hoN]
    cases hb : b j with
    | false => simp
    | true =>
      rcases hI.only j hb with h | ⟨-, h⟩
      · exact absurd h hj
      · obtain ⟨r, hr⟩ := Option.isSome_iff_exists.1 h
        have := red_pivot hS.ech (rowB K (sumT t)) K.length j (hS.top j r hr) h
        rw [id_eq] at this
        rw [this]; rfl
  have h2 : ∀ x ∈ L, oddS x (pickK K b K.length) = false := fun x hx => by
    rw [odd_dot hK (fun y hy => (hM y).2 (List.mem_flatMap.2 ⟨x, by simp [hx], hy⟩))]
    obtain ⟨i, hi⟩ := List.mem_iff_getElem?.1 hx
    have := sys_even hS hev (i := i) (List.getElem?_eq_some_iff.1 hi).1
    unfold vvL at this
    rw [hi] at this
    exact this
  have h3 : (pickK K b K.length).length ≤ 200 := by
    refine Nat.le_trans (pickK_len _ _ _) ?_
    have hnd : (sel b K.length).Nodup := (sel_asc b K.length).imp (fun h => Nat.ne_of_lt h)
    have := hcnt ((sel b K.length).erase o) (hnd.erase o) (fun c hc => by
      have hm := (hnd.mem_erase_iff).1 hc
      rcases hI.only c (sel_mem.1 hm.2).2 with h | ⟨-, h⟩
      · exact absurd h hm.1
      · exact h)
    rw [List.length_erase] at this
    split at this <;> omega
  unfold crS
  rw [hr, decide_eq_true h3, decide_eq_true (pickK_asc hK b _ (Nat.le_refl _)), h1]
  simp only [decide_true, Bool.true_and, Bool.not_eq_true', List.any_eq_false]
  exact fun x hx => by rw [h2 x hx]; simp

end Go.Proofs.Ytckgjebcehbkfaa
