/- Plain laws: a proof and a common string contradict each other; tagged formats have no string in common. -/
import Derived.Test.YthoelnoahfedmaaG14
namespace Go.Proofs.Ythoelnoahfedmaa
open Go Go.RowKit
set_option linter.unusedVariables false
set_option linter.unusedSimpArgs false

/-- a list of pairs is a proof -/
def CheckP (t : List Fmt) (i j : Int) (L : List (Int × Int)) : Prop :=
  errS t [i, j] = 0 ∧ L.length ≤ 20000 ∧ L.Pairwise ltP ∧ (0, 0) ∈ L ∧ ∃ (i' j' : Nat) (fm gm : Fmt), i = i' ∧ j = j' ∧ t[i']? = some fm ∧ t[j']? = some gm ∧ VFmt t fm ∧ VFmt t gm ∧
    ∀ p ∈ L, bothS fm.fields gm.fields p = false ∧ ∀ c < 256, ∀ n, stP t fm.fields gm.fields p c = some n → n ∈ L

theorem CheckP.body {t : List Fmt} {i j : Nat} {fm gm : Fmt} {L : List (Int × Int)} (h : CheckP t i j L) (hi : t[i]? = some fm) (hj : t[j]? = some gm) : ∀ p ∈ L, bothS fm.fields gm.fields p = false ∧ ∀ c < 256, ∀ n, stP t fm.fields gm.fields p c = some n → n ∈ L := by
  obtain ⟨-, -, -, -, i', j', fm', gm', h1, h2, h3, h4, -, -, h5⟩ := h
  have e1 : i' = i := by omega
  have e2 : j' = j := by omega
  subst e1 e2
  rw [hi] at h3
  rw [hj] at h4
  cases h3
  cases h4
  exact h5

section
variable {K : Type} [DecidableEq K] {f : K → Nat → Option K} {s : K}
theorem row_from {L : List K} {x p : K} : ∀ c, p ∈ rowS f L x c → p ∈ L ∨ ∃ b, b < c ∧ f x b = some p
  | 0, h => .inl (by rw [rowS_zero] at h; exact h)
  | c + 1, h => by
    rw [rowS_succ] at h
    have ih := row_from (L := L) (x := x) (p := p) c
    cases hn : f x c with
    | none => rw [tick_none hn] at h; rcases ih h with h | ⟨b, hb, hf⟩; exact .inl h; exact .inr ⟨b, by omega, hf⟩
    | some n =>
      by_cases hm : n ∈ rowS f L x c
      · rw [tick_old hn hm] at h; rcases ih h with h | ⟨b, hb, hf⟩; exact .inl h; exact .inr ⟨b, by omega, hf⟩
      · rw [tick_new hn hm, List.mem_append] at h
        rcases h with h | h
        · rcases ih h with h | ⟨b, hb, hf⟩; exact .inl h; exact .inr ⟨b, by omega, hf⟩
        · simp at h; subst h; exact .inr ⟨c, by omega, hn⟩
theorem lev_reach : ∀ k, ∀ p ∈ lev f s k, ∃ r, runF f s r = some p ∧ ∀ b ∈ r, b < 256
  | 0, p, h => by simp [lev] at h; subst h; exact ⟨[], rfl, by simp⟩
  | k + 1, p, h => by
    cases hk : (lev f s k)[k]? with
    | none => rw [lev_stuck hk] at h; exact lev_reach k p h
    | some x =>
      rw [lev_succ hk] at h
      rcases row_from 256 h with h | ⟨b, hb, hf⟩
      · exact lev_reach k p h
      · obtain ⟨r, h1, h2⟩ := lev_reach k x (List.mem_of_getElem? hk)
        refine ⟨r ++ [b], by rw [runF_append, h1]; simp [runF, hf], fun c hc => ?_⟩
        rcases List.mem_append.1 hc with hc | hc
        · exact h2 c hc
        · simp at hc; omega
theorem Full.reach {L : List K} {p : K} (h : Full f s L) (hp : p ∈ L) : ∃ r, runF f s r = some p ∧ ∀ b ∈ r, b < 256 := by
  obtain ⟨k, rfl, -⟩ := h
  exact lev_reach k p hp
end

theorem run_in {K : Type} {f : K → Nat → Option K} {L : List K} (hc : ∀ p ∈ L, ∀ c < 256, ∀ n, f p c = some n → n ∈ L) : ∀ (l : List Nat) (x y : K), x ∈ L → (∀ b ∈ l, b < 256) → runF f x l = some y → y ∈ L
  | [], x, y, hx, _, e => by cases e; exact hx
  | b :: l, x, y, hx, hl, e => by
    obtain ⟨z, h1, h2⟩ := run_head e
    exact run_in hc l z y (hc x hx b (hl b (by simp)) z h1) (fun c hc => hl c (by simp [hc])) h2

theorem stF_inv {t : List Fmt} {F : List Fld} {s z : Int} {b : Nat} (h : stF t F s b = some z) : z = rStep t F s b ∧ ¬ rStep t F s b < 0 := by
  unfold stF at h
  split at h
  · cases h
  · cases h; exact ⟨rfl, ‹_›⟩
theorem pair_run {t : List Fmt} {F G : List Fld} : ∀ (l : List Nat) (x : Int × Int) (y1 y2 : Int), runF (stF t F) x.1 l = some y1 → runF (stF t G) x.2 l = some y2 → runF (stP t F G) x l = some (y1, y2)
  | [], x, y1, y2, h1, h2 => by cases h1; cases h2; rfl
  | b :: l, x, y1, y2, h1, h2 => by
    obtain ⟨z1, a1, b1⟩ := run_head h1
    obtain ⟨z2, a2, b2⟩ := run_head h2
    obtain ⟨rfl, n1⟩ := stF_inv a1
    obtain ⟨rfl, n2⟩ := stF_inv a2
    have h := pair_run l (rStep t F x.1 b, rStep t G x.2 b) y1 y2 b1 b2
    simp only [runF, stP, if_neg (not_or.2 ⟨n1, n2⟩), Option.bind_some]
    exact h
theorem bel_run {t : List Fmt} {F : List Fld} {s : ByteArray} (h : belS t F s = true) : ∃ y, runF (stF t F) 0 (bytesL s) = some y ∧ rAcc F y = true := by
  unfold belS at h
  cases hy : runF (stF t F) 0 (bytesL s) with
  | none => rw [hy] at h; cases h
  | some y => rw [hy] at h; exact ⟨y, rfl, h⟩
theorem bel_both {t : List Fmt} {F G : List Fld} {s : ByteArray} (h1 : belS t F s = true) (h2 : belS t G s = true) : ∃ p, runF (stP t F G) (0, 0) (bytesL s) = some p ∧ bothS F G p = true := by
  obtain ⟨y1, a1, b1⟩ := bel_run h1
  obtain ⟨y2, a2, b2⟩ := bel_run h2
  exact ⟨(y1, y2), pair_run _ (0, 0) _ _ a1 a2, by unfold bothS; rw [b1, b2]; rfl⟩

theorem check_no {t : List Fmt} {i j : Nat} {fm gm : Fmt} {L : List (Int × Int)} {s : ByteArray} (h : CheckP t i j L) (hi : t[i]? = some fm) (hj : t[j]? = some gm) (h1 : belS t fm.fields s = true) (h2 : belS t gm.fields s = true) : False := by
  obtain ⟨p, hp, hb⟩ := bel_both h1 h2
  have hc := h.body hi hj
  have := run_in (fun p hp => (hc p hp).2) _ _ _ h.2.2.2.1 (bytesL_lt s) hp
  rw [(hc _ this).1] at hb
  cases hb

/-- what Common answers where there is a common string -/
theorem com_has {t : List Fmt} {i j : Nat} {fm gm : Fmt} {s s' : ByteArray} {er : Int} (h : CommonR t i j s' er) (hz : errS t [(i : Int), (j : Int)] = 0) (hi : t[i]? = some fm) (hj : t[j]? = some gm) (h1 : belS t fm.fields s = true) (h2 : belS t gm.fields s = true) :
    er = 3 ∨ er = 0 ∧ s'.size ≤ 20000 ∧ belS t fm.fields s' = true ∧ belS t gm.fields s' = true := by
  rcases h with ⟨h1, -, -⟩ | ⟨-, i', j', fm', gm', hi', hj', hfm, hgm, hVf, hVg, h⟩
  · exact absurd hz h1
  · have e1 : i' = i := by omega
    have e2 : j' = j := by omega
    subst e1 e2
    rw [hi] at hfm
    rw [hj] at hgm
    cases hfm
    cases hgm
    rcases h with ⟨-, -, h4⟩ | ⟨L, Ws, hF, hL, hW, h⟩
    · exact .inl h4
    · rcases h with ⟨kk, p, hk, hp, h5, h6⟩ | ⟨h5, h6, h7⟩
      · have h0 : L[0]? = some (0, 0) := by obtain ⟨k, rfl, -⟩ := hF; exact lev_start
        have hlt := (List.getElem?_eq_some_iff.1 hk).1
        obtain ⟨r1, r2, r3⟩ := hW.path h0 Ws.length kk p (by rw [hW.1]; omega) hk
        obtain ⟨b1, b2⟩ := bel_path (fun b hb => r2 b (by simpa using hb)) r1 hp
        exact .inr ⟨h5, by rw [h6, bytesN_size, List.length_reverse]; omega, by rw [h6]; exact b1, by rw [h6]; exact b2⟩
      · obtain ⟨p, hp, hb⟩ := bel_both h1 h2
        have := hF.run _ _ _ hF.start (bytesL_lt s) hp
        rw [h5 _ this] at hb
        cases hb

/-- tagged formats -/
def TagP (t : List Fmt) : Prop :=
  (∀ (i : Nat) fm, t[i]? = some fm → ∃ x, fm.fields[0]? = some x ∧ x.kind = 1) ∧
  ∀ (k i : Nat) fk fi xk xi, k < i → t[k]? = some fk → t[i]? = some fi → fk.fields[0]? = some xk → fi.fields[0]? = some xi → xi.bytes.size = xk.bytes.size ∧ xi.bytes ≠ xk.bytes

theorem tag_end {F : List Fld} {x : Fld} (hF : F[0]? = some x) (hk : x.kind = 1) {r : Nat} (h8 : r < 8) : rAcc F (r * 256 : Nat) = false := by
  have hl : F.length ≠ 0 := by have := (List.getElem?_eq_some_iff.1 hF).1; omega
  have e1 : (((r * 256 : Nat) : Int) / 262144).toNat = 0 := by omega
  unfold rAcc
  split
  · rfl
  · rw [e1, if_neg (fun h => hl h.symm), hF]
    simp [hk]
theorem tag_step {t : List Fmt} {F : List Fld} {x : Fld} (hF : F[0]? = some x) (hk : x.kind = 1) {r b : Nat} (h8 : r < 8) (hn : ¬ rStep t F (r * 256 : Nat) b < 0) : rStep t F (r * 256 : Nat) b = if (x.bytes.data.toList.getD r 0).toNat = b then cntS 0 r x.bytes.size else -1 := by
  have e1 : (((r * 256 : Nat) : Int) / 262144).toNat = 0 := by omega
  have e2 : (((r * 256 : Nat) : Int) / 256 % 1024).toNat = r := by omega
  have e3 : ((r * 256 : Nat) : Int) % 256 = 0 := by omega
  unfold rStep at hn ⊢
  rw [if_neg (by omega), e1, hF] at hn ⊢
  simp only [hk, e2, e3] at hn ⊢
  rw [if_neg (by omega)] at hn ⊢
  split at hn
  · omega
  · rename_i hc
    rw [if_neg hc]
    unfold stepK
    rw [if_pos hk]
    rfl
theorem tag_cnt {r n : Nat} (h : r + 1 < n) : cntS 0 r n = ((r + 1) * 256 : Nat) := by
  unfold cntS stS
  rw [if_neg (by omega)]
  omega
theorem tag_head {t : List Fmt} {F : List Fld} {x : Fld} (hF : F[0]? = some x) (hk : x.kind = 1) (h8 : x.bytes.size ≤ 8) (l : List Nat) : ∀ (r : Nat) (y : Int), r < x.bytes.size → runF (stF t F) (r * 256 : Nat) l = some y → rAcc F y = true → ∀ k, r + k < x.bytes.size → l[k]? = some (x.bytes.data.toList.getD (r + k) 0).toNat := by
  induction l with
  | nil =>
    intro r y hr h ha
    simp only [runF, Option.some.injEq] at h
    rw [← h, tag_end hF hk (by omega)] at ha
    cases ha
  | cons b l ih =>
    intro r y hr h ha
    obtain ⟨z, h1, h2⟩ := run_head h
    obtain ⟨rfl, hn⟩ := stF_inv h1
    have hz := tag_step hF hk (by omega) hn
    rw [hz] at hn h2
    by_cases hb : (x.bytes.data.toList.getD r 0).toNat = b
    · rw [if_pos hb] at h2
      intro k hk2
      match k, hk2 with
      | 0, _ => rw [Nat.add_zero, hb]; rfl
      | k + 1, hk2 =>
        rw [tag_cnt (by omega)] at h2
        have := ih (r + 1) y (by omega) h2 ha k (by omega)
        rw [show r + (k + 1) = r + 1 + k by omega, List.getElem?_cons_succ]
        exact this
    · rw [if_neg hb] at hn
      omega

theorem tag_no {t : List Fmt} {i j : Nat} {fm gm : Fmt} {s : ByteArray} (h : TagP t) (hij : i < j) (hi : t[i]? = some fm) (hj : t[j]? = some gm) (hVf : VFmt t fm) (hVg : VFmt t gm) (h1 : belS t fm.fields s = true) (h2 : belS t gm.fields s = true) : False := by
  obtain ⟨x, hx, hxk⟩ := h.1 i fm hi
  obtain ⟨y, hy, hyk⟩ := h.1 j gm hj
  obtain ⟨hs, hne⟩ := h.2 i j fm gm x y hij hi hj hx hy
  have b1 : 1 ≤ x.bytes.size ∧ x.bytes.size ≤ 8 := by
    rcases hVf.fld 0 x hx with h | h | h | h | h | h <;> first | exact ⟨h.2.1, h.2.2⟩ | (have := h.1; omega)
  obtain ⟨z1, a1, c1⟩ := bel_run h1
  obtain ⟨z2, a2, c2⟩ := bel_run h2
  have g1 := tag_head hx hxk b1.2 _ 0 z1 (by omega) (by simpa using a1) c1
  have g2 := tag_head hy hyk (by omega) _ 0 z2 (by omega) (by simpa using a2) c2
  apply hne
  apply ByteArray.ext
  apply Array.ext'
  apply List.ext_getElem?
  intro k
  have hsz : ∀ b : ByteArray, b.data.toList.length = b.size := fun b => by rw [Array.length_toList]; rfl
  by_cases hk : k < x.bytes.size
  · have k1 := g1 k (by omega)
    have k2 := g2 k (by omega)
    rw [k1] at k2
    simp only [Nat.zero_add, Option.some.injEq] at k2
    rw [List.getElem?_eq_getElem (by rw [hsz]; omega), List.getElem?_eq_getElem (by rw [hsz]; omega)]
    simp only [List.getD_eq_getElem?_getD, List.getElem?_eq_getElem (show k < x.bytes.data.toList.length by rw [hsz]; omega), List.getElem?_eq_getElem (show k < y.bytes.data.toList.length by rw [hsz]; omega), Option.getD_some] at k2
    rw [UInt8.toNat_inj.1 k2]
  · rw [List.getElem?_eq_none (by rw [hsz]; omega), List.getElem?_eq_none (by rw [hsz]; omega)]

end Go.Proofs.Ythoelnoahfedmaa
