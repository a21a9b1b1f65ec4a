/- Plain law: the reference's system of rows. -/
import Derived.Test.YtckgjebcehbkfaaY13
namespace Go.Proofs.Ytckgjebcehbkfaa
open Go
set_option linter.unusedVariables false
set_option linter.unusedSimpArgs false

def lastT (r : List Tm) : Tm := r.getLast?.getD default
def stepR (x r : List Tm) : List Tm := if lastT r ∈ x then plusS x r else x
def redR (rows : List (List Tm)) (x : List Tm) : List Tm := rows.foldl stepR x
theorem lastT_mem {r : List Tm} (h : r ≠ []) : lastT r ∈ r := by
  unfold lastT
  rw [List.getLast?_eq_some_getLast h]
  exact List.getLast_mem h
theorem stepR_asc {x r : List Tm} (hx : Asc x) (hr : Asc r) : Asc (stepR x r) := by
  unfold stepR
  split
  · exact plusS_asc _ _ hx hr
  · exact hx
theorem stepR_nil (r : List Tm) : stepR [] r = [] := by unfold stepR; rw [if_neg (by simp)]
theorem redR_nil : ∀ rows : List (List Tm), redR rows [] = []
  | [] => rfl
  | r :: rows => by show redR rows (stepR [] r) = []; rw [stepR_nil]; exact redR_nil rows
theorem redR_asc : ∀ {rows : List (List Tm)} {x : List Tm}, (∀ r ∈ rows, Asc r) → Asc x → Asc (redR rows x)
  | [], _, _, h => h
  | r :: rows, x, hr, h => redR_asc (rows := rows) (x := stepR x r) (fun q hq => hr q (by simp [hq])) (stepR_asc h (hr r (by simp)))
theorem redR_sub {P : Tm → Prop} : ∀ {rows : List (List Tm)} {x : List Tm}, (∀ r ∈ rows, Asc r) → (∀ r ∈ rows, ∀ y ∈ r, P y) → Asc x → (∀ y ∈ x, P y) → ∀ y ∈ redR rows x, P y
  | [], _, _, _, _, h => h
  | r :: rows, x, hr, hp, ha, h => redR_sub (rows := rows) (x := stepR x r) (fun q hq => hr q (by simp [hq])) (fun q hq => hp q (by simp [hq])) (stepR_asc ha (hr r (by simp))) (fun y hy => by
    unfold stepR at hy
    split at hy
    · have := (plusS_mem x r ha (hr r (by simp)) y).1 hy
      by_cases h1 : y ∈ x
      · exact h y h1
      · by_cases h2 : y ∈ r
        · exact hp r (by simp) y h2
        · simp [h1, h2] at this
    · exact h y hy)
theorem redR_succ {rows : List (List Tm)} {x r : List Tm} {k : Nat} (h : rows[k]? = some r) : redR (rows.take (k + 1)) x = stepR (redR (rows.take k) x) r := by
  unfold redR
  rw [List.take_add_one, h, List.foldl_append]
  rfl
theorem redR_stay {rows : List (List Tm)} {x : List Tm} {k : Nat} (h : redR (rows.take k) x = []) : redR rows x = [] := by
  have h2 : redR rows x = redR (rows.drop k) (redR (rows.take k) x) := by
    unfold redR
    rw [← List.foldl_append, List.take_append_drop]
  rw [h2, h, redR_nil]

def Rv (rows : List (List Tm)) (i : Nat) : Option (Vec Tm) := (rows[i]?).map chi
def Pv (rows : List (List Tm)) (i : Nat) : Tm := lastT ((rows[i]?).getD [])
theorem red_redR {rows : List (List Tm)} {x : List Tm} (hr : ∀ r ∈ rows, Asc r) (hx : Asc x) : ∀ k, chi (redR (rows.take k) x) = red (Rv rows) (Pv rows) (chi x) k
  | 0 => by simp [redR, red]
  | k + 1 => by
    have ih := red_redR hr hx k
    show _ = stp (Rv rows) (Pv rows) (red (Rv rows) (Pv rows) (chi x) k) k
    rw [← ih]
    cases h : rows[k]? with
    | none =>
      have h2 : Rv rows k = none := by unfold Rv; rw [h]; rfl
      unfold stp
      rw [h2, List.take_add_one, h]
      simp
    | some r =>
      have h2 : Rv rows k = some (chi r) := by unfold Rv; rw [h]; rfl
      have h3 : Pv rows k = lastT r := by unfold Pv; rw [h]; rfl
      have hm := List.mem_of_getElem? h
      have ha : Asc (redR (rows.take k) x) := redR_asc (fun q hq => hr q (List.mem_of_mem_take hq)) hx
      rw [redR_succ h]
      unfold stp
      simp only [h2, h3]
      unfold stepR
      by_cases hl : lastT r ∈ redR (rows.take k) x
      · rw [if_pos hl, if_pos (by unfold chi; exact decide_eq_true hl)]
        exact chi_plus ha (hr r hm)
      · rw [if_neg hl, if_neg (by unfold chi; simpa using hl)]
theorem red_cong {κ : Type} {R : Nat → Option (Vec κ)} {pv pv' : Nat → κ} (h : ∀ c, (R c).isSome = true → pv c = pv' c) (b : Vec κ) : ∀ k, red R pv b k = red R pv' b k
  | 0 => rfl
  | k + 1 => by
    show stp R pv (red R pv b k) k = stp R pv' (red R pv' b k) k
    rw [red_cong h b k]
    unfold stp
    cases hk : R k with
    | none => rfl
    | some r => simp only; rw [h k (by rw [hk]; rfl)]
theorem Sys.pv {κ : Type} {v : Nat → Vec κ} {N m : Nat} {R : Nat → Option (Vec κ)} {C : Nat → Option (Vec Nat)} {pv pv' : Nat → κ} {B : List Nat} (h : Sys v pv N m R C B) (he : ∀ c, (R c).isSome = true → pv c = pv' c) : Sys v pv' N m R C B :=
  ⟨fun c r hc => ⟨by rw [← he c (by rw [hc]; rfl)]; exact (h.ech c r hc).1, fun j hj hs => by rw [← he j hs]; exact (h.ech c r hc).2 j hj hs⟩, h.dom, h.top, h.row, h.bits, fun i hi => by rw [← red_cong he]; exact h.ker i hi, h.asc, h.mem⟩

/-- the reference's system after m terms -/
structure RefS (L : List Tm) (m : Nat) (rows : List (List Tm)) (B : List Nat) : Prop where
  len : rows.length ≤ m
  asc : ∀ r ∈ rows, Asc r
  ne : ∀ r ∈ rows, r ≠ []
  sub : ∀ r ∈ rows, ∀ y ∈ r, y ∈ allS L
  plain : ∃ C, Sys (vT L) (Pv rows) L.length m (Rv rows) C B
theorem RefS.zero (L : List Tm) : RefS L 0 [] [] :=
  ⟨Nat.le_refl _, by simp, by simp, by simp, _, by
    have h := Sys.zero (vT L) (Pv []) L.length
    have e : Rv [] = fun _ => none := by funext i; simp [Rv]
    rw [e]; exact h⟩
theorem RefS.chiRed {L : List Tm} {m : Nat} {rows : List (List Tm)} {B : List Nat} (h : RefS L m rows B) (hm : m ≤ L.length) {x : List Tm} (hx : Asc x) : chi (redR rows x) = red (Rv rows) (Pv rows) (chi x) L.length := by
  rw [← red_redR h.asc hx, List.take_of_length_le (by have := h.len; omega)]
theorem RefS.skip {L : List Tm} {m : Nat} {rows : List (List Tm)} {B : List Nat} {t : Tm} (h : RefS L m rows B) (ht : L[m]? = some t) (hx : redR rows (sumT t) = []) : RefS L (m + 1) rows B := by
  have hm : m < L.length := (List.getElem?_eq_some_iff.1 ht).1
  obtain ⟨C, hC⟩ := h.plain
  refine ⟨by have := h.len; omega, h.asc, h.ne, h.sub, C, hC.skip ?_⟩
  have hv : vT L m = chi (sumT t) := by unfold vT; rw [ht]; rfl
  rw [hv, ← h.chiRed (by omega) (sumT_asc t), hx, chi_nil]
theorem RefS.add {L : List Tm} {m : Nat} {rows : List (List Tm)} {B : List Nat} {t : Tm} (h : RefS L m rows B) (ht : L[m]? = some t) (hx : redR rows (sumT t) ≠ []) : RefS L (m + 1) (rows ++ [redR rows (sumT t)]) (B ++ [m]) := by
  have hm : m < L.length := (List.getElem?_eq_some_iff.1 ht).1
  obtain ⟨C, hC⟩ := h.plain
  have hv : vT L m = chi (sumT t) := by unfold vT; rw [ht]; rfl
  have hred := h.chiRed (by omega) (sumT_asc t)
  obtain ⟨x, hxx⟩ : ∃ x, x = redR rows (sumT t) := ⟨_, rfl⟩
  have hax : Asc x := by rw [hxx]; exact redR_asc h.asc (sumT_asc t)
  have hsx : ∀ y ∈ x, y ∈ allS L := by
    rw [hxx]
    exact redR_sub h.asc h.sub (sumT_asc t) (fun y hy => List.mem_flatMap.2 ⟨t, List.mem_of_getElem? ht, hy⟩)
  rw [← hxx] at hx hred ⊢
  have hle := h.len
  have hpv : ∀ c, (Rv rows c).isSome = true → Pv rows c = Pv (rows ++ [x]) c := fun c hc => by
    unfold Rv at hc
    unfold Pv
    have hcl : c < rows.length := by
      by_cases e : c < rows.length
      · exact e
      · rw [List.getElem?_eq_none (by omega)] at hc; cases hc
    rw [List.getElem?_append_left hcl]
  have hS := hC.pv hpv
  have hred2 : red (Rv rows) (Pv (rows ++ [x])) (vT L m) L.length = chi x := by rw [hv, ← red_cong hpv, ← hred]
  have hlast : Pv (rows ++ [x]) rows.length = lastT x := by unfold Pv; simp
  refine ⟨by simp; omega, ?_, ?_, ?_, (fun c => if c = rows.length then some (fun j => chs (Rv rows) C (Pv (rows ++ [x])) (vT L m) L.length j != decide (j = m)) else C c), ?_⟩
  · intro r hr; rcases List.mem_append.1 hr with hr | hr
    · exact h.asc r hr
    · simp at hr; subst hr; exact hax
  · intro r hr; rcases List.mem_append.1 hr with hr | hr
    · exact h.ne r hr
    · simp at hr; subst hr; exact hx
  · intro r hr; rcases List.mem_append.1 hr with hr | hr
    · exact h.sub r hr
    · simp at hr; subst hr; exact hsx
  · refine hS.add (c := rows.length) (by omega) ?_ ?_ (fun j => rfl) ?_ ?_ (by simp) (fun d hd => by simp [hd])
    · rw [hred2, hlast]
      unfold chi
      exact decide_eq_true (lastT_mem hx)
    · intro d r hd hr
      unfold Rv at hr
      rw [List.getElem?_eq_none (by omega)] at hr
      cases hr
    · rw [hred2]; unfold Rv; simp
    · intro d hd
      unfold Rv
      rcases Nat.lt_or_ge d rows.length with h1 | h1
      · rw [List.getElem?_append_left h1]
      · rw [List.getElem?_eq_none (by simp; omega), List.getElem?_eq_none h1]
theorem RefS.basis {L : List Tm} {rows : List (List Tm)} {B : List Nat} (h : RefS L L.length rows B) : BasisR L B := by
  obtain ⟨C, hC⟩ := h.plain
  exact ⟨hC.asc, hC.mem⟩
theorem RefS.span {L : List Tm} {rows : List (List Tm)} {B : List Nat} {t : Tm} (h : RefS L L.length rows B) : InSpan L t ↔ redR rows (sumT t) = [] := by
  obtain ⟨C, hC⟩ := h.plain
  unfold InSpan
  rw [hC.span, ← h.chiRed (Nat.le_refl _) (sumT_asc t)]
  constructor
  · intro e
    exact chi_inj (redR_asc h.asc (sumT_asc t)) List.Pairwise.nil (by rw [e, chi_nil])
  · intro e; rw [e, chi_nil]

/-- the reference's flip: an ascending list with n put in, or taken out -/
def flipL : List Nat → Nat → List Nat
  | [], n => [n]
  | a :: l, n => if a < n then a :: flipL l n else if a = n then l else n :: a :: l
theorem flipL_mem {n x : Nat} : ∀ {l : List Nat}, x ∈ flipL l n → x ∈ l ∨ x = n
  | [], h => by simp [flipL] at h; exact .inr h
  | a :: l, h => by
    unfold flipL at h
    split at h
    · rcases List.mem_cons.1 h with h | h
      · exact .inl (by simp [h])
      · rcases flipL_mem h with h | h
        · exact .inl (by simp [h])
        · exact .inr h
    · split at h
      · exact .inl (by simp [h])
      · rcases List.mem_cons.1 h with h | h
        · exact .inr h
        · exact .inl h
theorem flipL_asc {n : Nat} : ∀ {l : List Nat}, l.Pairwise (· < ·) → (flipL l n).Pairwise (· < ·)
  | [], _ => by simp [flipL]
  | a :: l, h => by
    obtain ⟨h1, h2⟩ := List.pairwise_cons.1 h
    unfold flipL
    split
    · rename_i hlt
      refine List.pairwise_cons.2 ⟨fun y hy => ?_, flipL_asc h2⟩
      rcases flipL_mem hy with hy | hy
      · exact h1 y hy
      · omega
    · rename_i hge
      split
      · exact h2
      · rename_i hne
        refine List.pairwise_cons.2 ⟨fun y hy => ?_, h⟩
        rcases List.mem_cons.1 hy with hy | hy
        · omega
        · have := h1 y hy; omega
/-- an ascending list of numbers below N -/
def okL (N : Nat) (l : List Nat) : Prop := (∀ x ∈ l, x < N) ∧ l.Pairwise (· < ·)
theorem okL_nil (N : Nat) : okL N [] := ⟨by simp, List.Pairwise.nil⟩
theorem okL_one {N n : Nat} (h : n < N) : okL N [n] := ⟨by simp; exact h, by simp⟩
theorem okL_flip {N : Nat} {l : List Nat} {n : Nat} (h : okL N l) (hn : n < N) : okL N (flipL l n) :=
  ⟨fun x hx => by rcases flipL_mem hx with h' | h'; exact h.1 x h'; rw [h']; exact hn, flipL_asc h.2⟩
theorem okL_len {N : Nat} {C : List Nat} (h : okL N C) : C.length ≤ N := by
  have h1 : okC N (C.map (fun k : Nat => (k : Int))) := ⟨fun x hx => by
    obtain ⟨y, hy, rfl⟩ := List.mem_map.1 hx
    have := h.1 y hy
    omega, by rw [List.pairwise_map]; exact h.2.imp (fun h => by omega)⟩
  have h2 := congrArg List.length (okC_eq h1)
  rw [List.length_map, List.length_map] at h2
  have := sel_len (fun i => decide ((i : Int) ∈ C.map (fun k : Nat => (k : Int)))) N
  omega

end Go.Proofs.Ytckgjebcehbkfaa
