/- The steps of the program and of the reference are the same; so are the states that accept. No program is in sight. -/
import Derived.Test.YthoelnoahfedmaaW8
namespace Go.Proofs.Ythoelnoahfedmaa
open Go.RowKit
set_option linter.unusedVariables false
set_option linter.unusedSimpArgs false

theorem kindS_plain {x : Fld} {inn : Fld → Int → Bool} {s : Int} {r : Nat} (hr : s / 256 % 1024 = r) (hk : x.kind = 1 ∨ x.kind = 2 ∨ x.kind = 3 ∨ x.kind = 4 ∨ x.kind = 6) : kindS x inn s = (s % 256 == 0 && plainK x r) := by
  rw [Bool.eq_iff_iff]
  rcases hk with h | h | h | h | h <;> simp [kindS, plainK, h, hr]

theorem endS_lt {F : List Fld} {s : Int} {f : Nat} (hf : s / 262144 = f) (h : f < F.length) : endS F s = false := by
  unfold endS
  have : (s == (F.length : Int) * 262144) = false := by simp; omega
  rw [this]; rfl

theorem exists0_at {F : List Fld} {q1 q2 : Nat} {y : Fld} (h2 : q2 < 1024) (hy : F[q1]? = some y) (hk : y.kind = 1 ∨ y.kind = 2 ∨ y.kind = 3 ∨ y.kind = 4 ∨ y.kind = 6) : exists0 F ((q1 : Int) * 262144 + (q2 : Int) * 256) = plainK y q2 := by
  rw [exists0, xsS_some (f := q1) (by omega) (by omega) hy, kindS_plain (r := q2) (by omega) hk]
  have : (((q1 : Int) * 262144 + (q2 : Int) * 256) % 256 == 0) = true := by simp; omega
  rw [this]; rfl

theorem pstep0_at {F : List Fld} {q1 q2 b : Nat} {y : Fld} (h2 : q2 < 1024) (hy : F[q1]? = some y) (hk : y.kind = 1 ∨ y.kind = 2 ∨ y.kind = 3 ∨ y.kind = 4 ∨ y.kind = 6) :
    pstep0 F ((q1 : Int) * 262144 + (q2 : Int) * 256) b = if plainK y q2 = false then -1 else stepK y q1 q2 b := by
  have e1 : (((q1 : Int) * 262144 + (q2 : Int) * 256) / 262144).toNat = q1 := by omega
  have e2 : (((q1 : Int) * 262144 + (q2 : Int) * 256) / 256 % 1024).toNat = q2 := by omega
  rw [pstep0, exists0_at h2 hy hk, endS_lt (f := q1) (by omega) (lt_of_get hy), e1, e2, hy]
  simp

theorem noRest_plain {gm : Fmt} (h : VPlain gm) : noRest gm.fields = true := by
  unfold noRest
  cases hl : gm.fields.getLast? with
  | none => simp at hl; exact absurd hl h.ne
  | some y =>
    simp only
    rw [List.getLast?_eq_getElem?] at hl
    rcases h.fld _ y hl with h | h | h | h <;> simp [h.1]

theorem stepK_end {gm : Fmt} (h : VPlain gm) {q1 q2 b : Nat} {y : Fld} (hy : gm.fields[q1]? = some y) (hp : plainK y q2 = true) (hq : q2 ≤ 31) (hb : b ≤ 255) (hn : 0 ≤ stepK y q1 q2 b) :
    endS gm.fields (stepK y q1 q2 b) = decide (stepK y q1 q2 b / 262144 = gm.fields.length) := by
  have hlt := lt_of_get hy
  rw [endS, noRest_plain h, Bool.and_true, Bool.eq_iff_iff]
  simp only [beq_iff_eq, decide_eq_true_eq]
  constructor
  · intro e; rw [e]; omega
  · intro e
    revert hn e
    unfold stepK cntS lftS stS
    (repeat' split) <;> intros <;> omega

theorem step_eq {t : List Fmt} {fm : Fmt} (hV : VFmt t fm) (s : Int) (b : Nat) (hb : b ≤ 255) : rStep t fm.fields s b = pstep1 t fm.fields s b := by
  by_cases hs : s < 0
  · have : exists1 t fm.fields s = false := by rw [exists1, xsS, if_pos hs]
    rw [rStep, if_pos hs, pstep1, if_pos (Or.inl this)]
  · have hs0 : 0 ≤ s := by omega
    obtain ⟨f, hfs⟩ : ∃ f : Nat, s / 262144 = f := ⟨(s / 262144).toNat, by omega⟩
    obtain ⟨r, hrs⟩ : ∃ r : Nat, s / 256 % 1024 = r := ⟨(s / 256 % 1024).toNat, by omega⟩
    obtain ⟨q, hqs⟩ : ∃ q : Nat, s % 256 = q := ⟨(s % 256).toNat, by omega⟩
    have hr : r < 1024 := by omega
    have hq : q < 256 := by omega
    rw [rStep, if_neg hs, pstep1, hfs, hrs, hqs]
    simp only [Int.toNat_natCast]
    cases hx : fm.fields[f]? with
    | none => simp
    | some x =>
      simp only
      have hend := endS_lt hfs (lt_of_get hx)
      have hex : exists1 t fm.fields s = kindS x (innS t) s := by rw [exists1, xsS_some hs0 hfs hx]
      rw [hend, hex]
      by_cases hk5 : x.kind = 5
      · rw [if_pos hk5, if_pos hk5]
        have hVn : ∃ j : Nat, x.n = j ∧ ∃ gm, t[j]? = some gm ∧ VPlain gm := by
          rcases hV.fld f x hx with h | h | h | h | h | h
          all_goals first | exact h.2 | (have := h.1; omega)
        obtain ⟨j, hj, gm, hgm, hVg⟩ := hVn
        have hnG : (t.getD x.n.toNat default).fields = gm.fields := by simp [hj, hgm]
        have hkS : kindS x (innS t) s = if r = 0 then (q : Int) == 0 else decide ((r : Int) ≤ 255) && innS t x (s % 256 / 32 * 262144 + s % 32 * 256) := by
          simp only [kindS, hk5, hrs, hqs]
          simp
        rw [hkS]
        by_cases hr0 : r = 0
        · subst hr0
          simp only [rNest, nestK, if_true]
          by_cases hq0 : q = 0
          · simp [hq0]
          · simp [hq0]
        · rw [rNest, nestK, if_neg hr0, if_neg hr0, if_neg hr0, hnG, innS, hnG]
          have en0 : s % 256 / 32 * 262144 + s % 32 * 256 = ((q / 32 : Nat) : Int) * 262144 + ((q % 32 : Nat) : Int) * 256 := by omega
          rw [en0]
          have hq1 : q / 32 < 8 := by omega
          have hq2 : q % 32 < 32 := by omega
          generalize q / 32 = q1 at *
          generalize q % 32 = q2 at *
          by_cases h255 : 255 < r
          · have : decide ((r : Int) ≤ 255) = false := by simp; omega
            rw [if_pos (Or.inl h255), this]
            simp
          · have : decide ((r : Int) ≤ 255) = true := by simp; omega
            rw [this, Bool.true_and]
            cases hy : gm.fields[q1]? with
            | none =>
              have hge : gm.fields.length ≤ q1 := List.getElem?_eq_none_iff.1 hy
              have hx0 : exists0 gm.fields ((q1 : Int) * 262144 + (q2 : Int) * 256) = endS gm.fields ((q1 : Int) * 262144 + (q2 : Int) * 256) := by
                have e1 : (((q1 : Int) * 262144 + (q2 : Int) * 256) / 262144).toNat = q1 := by omega
                rw [exists0, xsS, if_neg (by omega), e1, hy]
              rw [hx0]
              simp
            | some y =>
              have hky := hVg.kinds y (List.mem_of_getElem? hy)
              have hlt := lt_of_get hy
              rw [exists0_at (by omega) hy hky, endS_lt (f := q1) (by omega) hlt, pstep0_at (by omega) hy hky]
              have hpl : plainS gm.fields q1 q2 = plainK y q2 := by rw [plainS, if_neg (by omega), hy]
              rw [hpl]
              cases hp : plainK y q2
              · simp
              · have hqne : ¬ q1 = gm.fields.length := by omega
                simp only [Bool.true_and, Bool.not_false, Bool.true_eq_false, false_or, if_false, h255, hqne, or_self]
                by_cases hneg : stepK y q1 q2 b < 0
                · simp [hneg]
                · have he := stepK_end hVg hy hp (by omega) hb (by omega)
                  rw [if_neg hneg, he]
                  by_cases hr1 : r = 1
                  · by_cases hl : stepK y q1 q2 b / 262144 = gm.fields.length
                    · simp [hr1, hl, hneg]
                    · simp [hr1, hl, hneg]
                  · by_cases hl : stepK y q1 q2 b / 262144 = gm.fields.length
                    · simp [hr1, hl, hneg]
                    · simp [hr1, hl, hneg]
      · rw [if_neg hk5, if_neg hk5]
        have hk : x.kind = 1 ∨ x.kind = 2 ∨ x.kind = 3 ∨ x.kind = 4 ∨ x.kind = 6 := by
          rcases hV.kinds x (List.mem_of_getElem? hx) with h | h | h | h | h | h <;> first | (simp [h]; done) | exact absurd h hk5
        rw [kindS_plain hrs hk, hqs]
        have hpl : plainS fm.fields f r = plainK x r := by rw [plainS, if_neg (by have := lt_of_get hx; omega), hx]
        rw [hpl]
        by_cases hq0 : q = 0
        · cases plainK x r <;> simp [hq0]
        · simp [hq0]

theorem acc_eq {t : List Fmt} {fm : Fmt} (hV : VFmt t fm) (s : Int) : rAcc fm.fields s = accS t fm.fields s := by
  by_cases hs : s < 0
  · have : exists1 t fm.fields s = false := by rw [exists1, xsS, if_pos hs]
    rw [rAcc, if_pos (Or.inl hs), accS, this, Bool.false_and]
  · have hs0 : 0 ≤ s := by omega
    obtain ⟨f, hfs⟩ : ∃ f : Nat, s / 262144 = f := ⟨(s / 262144).toNat, by omega⟩
    obtain ⟨r, hrs⟩ : ∃ r : Nat, s / 256 % 1024 = r := ⟨(s / 256 % 1024).toNat, by omega⟩
    rw [rAcc, accS, hfs, hrs, Int.toNat_natCast]
    cases hx : fm.fields[f]? with
    | none =>
      have hge : fm.fields.length ≤ f := List.getElem?_eq_none_iff.1 hx
      have hex : exists1 t fm.fields s = endS fm.fields s := by rw [exists1, xsS, if_neg hs, hfs, Int.toNat_natCast, hx]
      rw [hex, endS, Bool.eq_iff_iff]
      by_cases hfl : f = fm.fields.length
      · simp [hfl, hs]
        constructor
        · rintro ⟨h1, h2, h3⟩
          exact ⟨by omega, h3⟩
        · rintro ⟨h1, h2⟩
          exact ⟨by omega, by omega, h2⟩
      · simp [hfl]
        omega
    | some x =>
      have hlt := lt_of_get hx
      have hex : exists1 t fm.fields s = kindS x (innS t) s := by rw [exists1, xsS_some hs0 hfs hx]
      rw [hex, Bool.eq_iff_iff]
      have hne : ¬ f = fm.fields.length := by omega
      have hne' : ¬ (f : Int) = (fm.fields.length : Int) := by omega
      by_cases hk6 : x.kind = 6
      · rw [kindS_plain hrs (by simp [hk6])]
        simp [hne, hne', hs, hk6, plainK]
        omega
      · simp [hne, hne', hk6]

end Go.Proofs.Ythoelnoahfedmaa
