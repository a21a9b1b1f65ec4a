/- The formats of a valid table. No program is in sight. -/
import Derived.Test.YthoelnoahfedmaaV4
import Derived.Test.YthoelnoahfedmaaW7
namespace Go.Proofs.Ythoelnoahfedmaa
open Go.RowKit
set_option linter.unusedVariables false
set_option linter.unusedSimpArgs false

theorem errFrom_zero {g : Nat → Int} {n : Nat} (h : errFrom g n = 0) : ∀ j, j < n → g j = 0 := by
  intro j
  induction j using Nat.strongRecOn with
  | _ j ih =>
    intro hj
    by_cases h0 : g j = 0
    · exact h0
    · have := err_at hj h0 (fun i hi => ih i hi (by omega))
      omega

theorem fieldErr_zero {t : List Fmt} {x : Fld} {last : Bool} (h : fieldErr t x last = 0) :
    x.kind = 1 ∧ 1 ≤ x.bytes.size ∧ x.bytes.size ≤ 8 ∨ x.kind = 2 ∧ 1 ≤ x.n ∧ x.n ≤ 15 ∨ x.kind = 3 ∧ 0 ≤ x.n ∧ x.n ≤ 15 ∨ x.kind = 4 ∧ 0 ≤ x.low ∧ x.low ≤ x.high ∧ x.high ≤ 255 ∨
    x.kind = 6 ∧ last = true ∧ 0 ≤ x.low ∧ x.low ≤ x.high ∧ x.high ≤ 1000 ∨ x.kind = 5 ∧ ∃ j : Nat, x.n = j ∧ ∃ gm, t[j]? = some gm ∧ plain17 gm.fields = true := by
  unfold fieldErr at h
  by_cases hs : shapeS x = false
  · rw [if_pos hs] at h; omega
  rw [if_neg hs] at h
  by_cases hr : rangesS x last = false
  · rw [if_pos hr] at h; omega
  rw [if_neg hr] at h
  simp only [Bool.not_eq_false] at hs hr
  by_cases h5 : x.kind = 5
  · rw [if_neg (by simp [h5])] at h
    by_cases hn : x.n < 0 ∨ (t.length : Int) ≤ x.n
    · rw [if_pos hn] at h; omega
    rw [if_neg hn] at h
    by_cases hp : plain17 (t.getD x.n.toNat default).fields = false
    · rw [if_pos hp] at h; omega
    refine .inr (.inr (.inr (.inr (.inr ⟨h5, x.n.toNat, by omega, t[x.n.toNat]'(by omega), List.getElem?_eq_getElem (by omega), ?_⟩))))
    have e : (t.getD x.n.toNat default) = t[x.n.toNat]'(by omega) := by
      rw [List.getD_eq_getElem?_getD, List.getElem?_eq_getElem (by omega)]; rfl
    rw [e] at hp
    simpa using hp
  · rcases kind7 x.kind with k | k | k | k | k | k | ⟨-, k1, k2, k3, k4, k5, k6⟩
    · left; simp only [rangesS, k, if_pos, decide_eq_true_eq] at hr; exact ⟨k, hr⟩
    · right; left; simp [rangesS, k] at hr; exact ⟨k, hr⟩
    · right; right; left; simp [rangesS, k] at hr; exact ⟨k, hr⟩
    · right; right; right; left; simp [rangesS, k] at hr; exact ⟨k, hr⟩
    · exact absurd k h5
    · right; right; right; right; left; simp [rangesS, k] at hr; exact ⟨k, hr⟩
    · simp [shapeS, k1, k2, k3, k4, k5, k6] at hs

theorem valid_fmt {t : List Fmt} (h : validT t = 0) {i : Nat} {fm : Fmt} (hi : t[i]? = some fm) : t.length ≤ 8 ∧ fm.fields ≠ [] ∧ fm.fields.length ≤ 6 ∧
    ∀ (k : Nat) (x : Fld), fm.fields[k]? = some x → fieldErr (t.take i) x (decide (k + 1 = fm.fields.length)) = 0 := by
  unfold validT at h
  by_cases h8 : 8 < t.length
  · rw [if_pos h8] at h; omega
  rw [if_neg h8] at h
  have h1 := errFrom_zero h i (lt_of_get hi)
  rw [fmtE_at hi] at h1
  unfold fmtErr at h1
  repeat (split at h1; · omega)
  refine ⟨by omega, fun e => ?_, by omega, fun k x hk => ?_⟩
  · simp_all
  · have := errFrom_zero h1 k (lt_of_get hk)
    rwa [fldE_at hk] at this

theorem valid_VFmt {t : List Fmt} (h : validT t = 0) {i : Nat} {fm : Fmt} (hi : t[i]? = some fm) : VFmt t fm := by
  obtain ⟨-, h2, h3, h4⟩ := valid_fmt h hi
  refine ⟨h2, h3, fun k x hk => ?_⟩
  rcases fieldErr_zero (h4 k x hk) with h | h | h | h | h | ⟨h5, j, hj, gm, hg, hp⟩
  · exact .inl h
  · exact .inr (.inl h)
  · exact .inr (.inr (.inl h))
  · exact .inr (.inr (.inr (.inl h)))
  · exact .inr (.inr (.inr (.inr (.inl ⟨h.1, by simpa using h.2.1, h.2.2⟩))))
  · refine .inr (.inr (.inr (.inr (.inr ⟨h5, j, hj, gm, ?_, ?_⟩))))
    · rw [List.getElem?_take] at hg
      split at hg
      · exact hg
      · cases hg
    · rw [List.getElem?_take] at hg
      split at hg
      case isFalse => cases hg
      obtain ⟨-, g2, g3, g4⟩ := valid_fmt h hg
      refine ⟨g2, g3, fun k y hy => ?_⟩
      have hpl : ∀ z ∈ gm.fields, z.kind ≠ 5 ∧ z.kind ≠ 6 := by simpa [plain17] using hp
      have hy2 := hpl y (List.mem_of_getElem? hy)
      rcases fieldErr_zero (g4 k y hy) with h | h | h | h | h | h
      · exact .inl h
      · exact .inr (.inl h)
      · exact .inr (.inr (.inl h))
      · exact .inr (.inr (.inr h))
      · exact absurd h.1 hy2.2
      · exact absurd h.1 hy2.1

end Go.Proofs.Ythoelnoahfedmaa
