/- Searching level by level. No program is in sight. -/
namespace Go.Proofs.Ythoelnoahfedmaa
set_option linter.unusedVariables false
set_option linter.unusedSimpArgs false
set_option linter.unusedSectionVars false

section
variable {K : Type} [DecidableEq K] (f : K → Nat → Option K)

/-- what one byte adds -/
def tick (x : K) (L : List K) (b : Nat) : List K := match f x b with | none => L | some n => if n ∈ L then L else L ++ [n]
/-- what the bytes below c add -/
def rowS (L : List K) (x : K) (c : Nat) : List K := (List.range c).foldl (tick f x) L
/-- the list behind k rows -/
def lev (s : K) : Nat → List K
  | 0 => [s]
  | k + 1 => match (lev s k)[k]? with | some x => rowS f (lev s k) x 256 | none => lev s k

variable {f} {s x n : K} {L : List K} {b c k : Nat}

theorem rowS_zero : rowS f L x 0 = L := rfl
theorem rowS_succ : rowS f L x (c + 1) = tick f x (rowS f L x c) c := by
  rw [rowS, List.range_succ, List.foldl_append]; rfl
theorem tick_none (h : f x b = none) : tick f x L b = L := by rw [tick, h]
theorem tick_old (h : f x b = some n) (hn : n ∈ L) : tick f x L b = L := by rw [tick, h]; simp [hn]
theorem tick_new (h : f x b = some n) (hn : n ∉ L) : tick f x L b = L ++ [n] := by rw [tick, h]; simp [hn]
theorem lev_succ (h : (lev f s k)[k]? = some x) : lev f s (k + 1) = rowS f (lev f s k) x 256 := by rw [lev, h]
theorem lev_stuck (h : (lev f s k)[k]? = none) : lev f s (k + 1) = lev f s k := by rw [lev, h]

theorem tick_pre : L <+: tick f x L b := by
  unfold tick
  split
  · exact List.prefix_rfl
  · split
    · exact List.prefix_rfl
    · exact List.prefix_append _ _
theorem rowS_pre : L <+: rowS f L x c := by
  induction c with
  | zero => exact List.prefix_rfl
  | succ c ih => rw [rowS_succ]; exact ih.trans tick_pre
theorem rowS_mono {d : Nat} (h : c ≤ d) : rowS f L x c <+: rowS f L x d := by
  induction d with
  | zero => have : c = 0 := by omega
            subst this; exact List.prefix_rfl
  | succ d ih =>
    by_cases hc : c = d + 1
    · subst hc; exact List.prefix_rfl
    · rw [rowS_succ]; exact (ih (by omega)).trans tick_pre
theorem lev_pre : lev f s k <+: lev f s (k + 1) := by
  cases h : (lev f s k)[k]? with
  | none => rw [lev_stuck h]; exact List.prefix_rfl
  | some x => rw [lev_succ h]; exact rowS_pre
theorem lev_mono {j : Nat} (h : k ≤ j) : lev f s k <+: lev f s j := by
  induction j with
  | zero => have : k = 0 := by omega
            subst this; exact List.prefix_rfl
  | succ j ih =>
    by_cases hk : k = j + 1
    · subst hk; exact List.prefix_rfl
    · exact (ih (by omega)).trans lev_pre
theorem pre_get {L L' : List K} (h : L <+: L') {i : Nat} {y : K} (hi : L[i]? = some y) : L'[i]? = some y := by
  obtain ⟨t, rfl⟩ := h
  have := (List.getElem?_eq_some_iff.1 hi).1
  rw [List.getElem?_append_left this]
  exact hi
theorem pre_mem {L L' : List K} (h : L <+: L') {y : K} (hy : y ∈ L) : y ∈ L' := h.subset hy
theorem lev_start : (lev f s k)[0]? = some s := pre_get (lev_mono (Nat.zero_le k)) rfl
theorem lev_pos : 0 < (lev f s k).length := (List.getElem?_eq_some_iff.1 (lev_start (f := f) (s := s) (k := k))).1

/-- nothing is twice -/
theorem tick_nodup (h : L.Nodup) : (tick f x L b).Nodup := by
  unfold tick
  split
  · exact h
  · split
    · exact h
    · rename_i n _ hn
      rw [List.nodup_append]
      refine ⟨h, by simp, ?_⟩
      rintro a ha c hc rfl
      simp at hc
      subst hc
      exact hn ha
theorem rowS_nodup (h : L.Nodup) : (rowS f L x c).Nodup := by
  induction c with
  | zero => exact h
  | succ c ih => rw [rowS_succ]; exact tick_nodup ih
theorem lev_nodup : (lev f s k).Nodup := by
  induction k with
  | zero => simp [lev]
  | succ k ih =>
    cases h : (lev f s k)[k]? with
    | none => rw [lev_stuck h]; exact ih
    | some x => rw [lev_succ h]; exact rowS_nodup ih

/-- the whole is found -/
def Full (f : K → Nat → Option K) (s : K) (L : List K) : Prop := ∃ k, L = lev f s k ∧ L.length ≤ k
/-- there are too many -/
def Over (f : K → Nat → Option K) (s : K) : Prop := ∃ k, 20000 < (lev f s k).length

theorem lev_const (h : (lev f s k).length ≤ k) : ∀ j, k ≤ j → lev f s j = lev f s k := by
  intro j
  induction j with
  | zero => intro hk
            have : k = 0 := by omega
            subst this; rfl
  | succ j ih =>
    intro hk
    by_cases hkj : k = j + 1
    · subst hkj; rfl
    · have e := ih (by omega)
      rw [lev_stuck (by rw [e]; exact List.getElem?_eq_none (by omega)), e]
theorem Full.unique {L L' : List K} (h : Full f s L) (h' : Full f s L') : L = L' := by
  obtain ⟨k, rfl, hk⟩ := h
  obtain ⟨j, rfl, hj⟩ := h'
  rcases Nat.le_total k j with h | h
  · exact (lev_const hk j h).symm
  · exact lev_const hj k h
theorem Full.not_over {L : List K} (h : Full f s L) (hl : L.length ≤ 20000) : ¬ Over f s := by
  rintro ⟨j, hj⟩
  obtain ⟨k, rfl, hk⟩ := h
  rcases Nat.le_total k j with h | h
  · rw [lev_const hk j h] at hj; omega
  · have := (lev_mono (f := f) (s := s) h).length_le; omega
theorem over_of_row (h : (lev f s k)[k]? = some x) (hc : c ≤ 256) (ho : 20000 < (rowS f (lev f s k) x c).length) : Over f s :=
  ⟨k + 1, by rw [lev_succ h]; have := (rowS_mono (f := f) (L := lev f s k) (x := x) hc).length_le; omega⟩

/-- what is found closes under steps -/
theorem row_has (hb : b < c) (h : f x b = some n) : n ∈ rowS f L x c := by
  refine pre_mem (rowS_mono (Nat.succ_le_of_lt hb)) ?_
  rw [rowS_succ]
  by_cases hn : n ∈ rowS f L x b
  · rw [tick_old h hn]; exact hn
  · rw [tick_new h hn]; simp
theorem Full.closed {L : List K} (h : Full f s L) (hx : x ∈ L) (hb : b < 256) (hn : f x b = some n) : n ∈ L := by
  obtain ⟨k, rfl, hk⟩ := h
  obtain ⟨i, hi⟩ := List.mem_iff_getElem?.1 hx
  have hlt := (List.getElem?_eq_some_iff.1 hi).1
  -- row i has been walked
  have hik : i < k := by omega
  have hx' : (lev f s i)[i]? = some x := by
    have hlen : i < (lev f s i).length := by
      apply Nat.lt_of_not_le
      intro hle
      have := lev_const hle k (by omega)
      rw [this] at hlt; omega
    have e := pre_get (lev_mono (f := f) (s := s) (Nat.le_of_lt hik)) (List.getElem?_eq_getElem hlen)
    rw [hi] at e
    rw [List.getElem?_eq_getElem hlen, ← e]
  refine pre_mem (lev_mono (Nat.succ_le_of_lt hik)) ?_
  rw [lev_succ hx']
  exact row_has hb hn
theorem Full.start {L : List K} (h : Full f s L) : s ∈ L := by
  obtain ⟨k, rfl, hk⟩ := h
  exact List.mem_of_getElem? lev_start

/-- steps by a string -/
def runF (f : K → Nat → Option K) (x : K) : List Nat → Option K
  | [] => some x
  | b :: l => (f x b).bind fun n => runF f n l
theorem runF_append {x : K} {l l' : List Nat} : runF f x (l ++ l') = (runF f x l).bind fun n => runF f n l' := by
  induction l generalizing x with
  | nil => rfl
  | cons b l ih =>
    simp only [List.cons_append, runF]
    cases f x b with
    | none => rfl
    | some n => simp [ih]
theorem Full.run {L : List K} (h : Full f s L) : ∀ (l : List Nat) (x y : K), x ∈ L → (∀ b ∈ l, b < 256) → runF f x l = some y → y ∈ L
  | [], x, y, hx, _, e => by cases e; exact hx
  | b :: l, x, y, hx, hl, e => by
    simp only [runF] at e
    cases hn : f x b with
    | none => rw [hn] at e; cases e
    | some n =>
      rw [hn] at e
      exact Full.run h l n y (h.closed hx (hl b (by simp)) hn) (fun c hc => hl c (by simp [hc])) e

/-- how each one was reached -/
def Ways (f : K → Nat → Option K) (L : List K) (W : List (Nat × Nat)) : Prop :=
  W.length = L.length ∧ ∀ (i : Nat) (y : K) (p b : Nat), 0 < i → L[i]? = some y → W[i]? = some (p, b) → p < i ∧ b < 256 ∧ ∃ z, L[p]? = some z ∧ f z b = some y
theorem Ways.one : Ways f [s] [(0, 0)] := ⟨rfl, fun i y p b hi h _ => by
  have := (List.getElem?_eq_some_iff.1 h).1
  simp at this; omega⟩
theorem Ways.push {W : List (Nat × Nat)} {p : Nat} {y : K} (h : Ways f L W) (hp : L[p]? = some x) (hb : b < 256) (hn : f x b = some y) : Ways f (L ++ [y]) (W ++ [(p, b)]) := by
  obtain ⟨h1, h2⟩ := h
  have hpl := (List.getElem?_eq_some_iff.1 hp).1
  refine ⟨by simp [h1], fun i z q c hi hz hw => ?_⟩
  by_cases hil : i < L.length
  · rw [List.getElem?_append_left hil] at hz
    rw [List.getElem?_append_left (by omega)] at hw
    obtain ⟨h3, h4, v, h5, h6⟩ := h2 i z q c hi hz hw
    exact ⟨h3, h4, v, by rw [List.getElem?_append_left (by omega)]; exact h5, h6⟩
  · have hi2 := (List.getElem?_eq_some_iff.1 hz).1
    simp at hi2
    have : i = L.length := by omega
    subst this
    rw [List.getElem?_append_right (by omega), Nat.sub_self] at hz
    rw [List.getElem?_append_right (by omega), show L.length - W.length = 0 by omega] at hw
    simp at hz hw
    obtain ⟨rfl, rfl⟩ := hw
    subst hz
    exact ⟨hpl, hb, x, by rw [List.getElem?_append_left hpl]; exact hp, hn⟩

/-- the bytes that lead to the i-th one, the last one first -/
def pathR (W : List (Nat × Nat)) : Nat → Nat → List Nat
  | 0, _ => []
  | fuel + 1, i => if i = 0 then [] else match W[i]? with | some (p, b) => b :: pathR W fuel p | none => []
theorem Ways.path {W : List (Nat × Nat)} (h : Ways f L W) (h0 : L[0]? = some s) : ∀ (fuel i : Nat) (y : K), i ≤ fuel → L[i]? = some y → runF f s (pathR W fuel i).reverse = some y ∧ (∀ b ∈ pathR W fuel i, b < 256) ∧ (pathR W fuel i).length ≤ i := by
  intro fuel
  induction fuel with
  | zero =>
    intro i y hi hy
    have : i = 0 := by omega
    subst this
    rw [h0] at hy
    cases hy
    exact ⟨rfl, by simp [pathR], by simp [pathR]⟩
  | succ fuel ih =>
    intro i y hi hy
    rw [pathR]
    by_cases hi0 : i = 0
    · subst hi0
      rw [h0] at hy
      cases hy
      simp [runF]
    · rw [if_neg hi0]
      have hlt := (List.getElem?_eq_some_iff.1 hy).1
      cases hwi : W[i]? with
      | none => rw [List.getElem?_eq_none_iff, h.1] at hwi; omega
      | some pb =>
        obtain ⟨p, b⟩ := pb
        obtain ⟨h3, h4, z, h5, h6⟩ := h.2 i y p b (by omega) hy hwi
        obtain ⟨r1, r2, r3⟩ := ih p z (by omega) h5
        refine ⟨?_, ?_, ?_⟩
        · simp only [List.reverse_cons]
          rw [runF_append, r1]
          simp [runF, h6]
        · intro c hc
          rcases List.mem_cons.1 hc with rfl | hc
          · exact h4
          · exact r2 c hc
        · simp; omega
end

section
variable {K K' : Type} [DecidableEq K] [DecidableEq K'] {f : K → Nat → Option K} {f' : K' → Nat → Option K'} {g : K → K'}
theorem tick_map (hg : ∀ x y, g x = g y → x = y) (h : ∀ x b, f' (g x) b = (f x b).map g) (L : List K) (x : K) (b : Nat) : tick f' (g x) (L.map g) b = (tick f x L b).map g := by
  unfold tick
  rw [h]
  cases f x b with
  | none => rfl
  | some n =>
    simp only [Option.map_some]
    by_cases hn : n ∈ L
    · rw [if_pos hn, if_pos (List.mem_map_of_mem hn)]
    · rw [if_neg hn, if_neg (fun hm => by
        obtain ⟨y, hy, e⟩ := List.mem_map.1 hm
        exact hn (hg _ _ e ▸ hy))]
      simp
theorem rowS_map (hg : ∀ x y, g x = g y → x = y) (h : ∀ x b, f' (g x) b = (f x b).map g) (L : List K) (x : K) (c : Nat) : rowS f' (L.map g) (g x) c = (rowS f L x c).map g := by
  induction c with
  | zero => rfl
  | succ c ih => rw [rowS_succ, rowS_succ, ih, tick_map hg h]
theorem lev_map (hg : ∀ x y, g x = g y → x = y) (h : ∀ x b, f' (g x) b = (f x b).map g) (s : K) (k : Nat) : lev f' (g s) k = (lev f s k).map g := by
  induction k with
  | zero => rfl
  | succ k ih =>
    cases hk : (lev f s k)[k]? with
    | none => rw [lev_stuck hk, lev_stuck (by rw [ih]; simp [hk]), ih]
    | some x => rw [lev_succ hk, lev_succ (x := g x) (by rw [ih]; simp [hk]), ih, rowS_map hg h]
theorem over_map (hg : ∀ x y, g x = g y → x = y) (h : ∀ x b, f' (g x) b = (f x b).map g) (s : K) : Over f' (g s) ↔ Over f s := by
  constructor
  · rintro ⟨k, hk⟩; exact ⟨k, by rw [lev_map hg h] at hk; simpa using hk⟩
  · rintro ⟨k, hk⟩; exact ⟨k, by rw [lev_map hg h]; simpa using hk⟩
theorem full_map (hg : ∀ x y, g x = g y → x = y) (h : ∀ x b, f' (g x) b = (f x b).map g) {s : K} {L : List K} (hF : Full f s L) : Full f' (g s) (L.map g) := by
  obtain ⟨k, rfl, hk⟩ := hF
  exact ⟨k, (lev_map hg h s k).symm, by simpa using hk⟩
end

end Go.Proofs.Ythoelnoahfedmaa
