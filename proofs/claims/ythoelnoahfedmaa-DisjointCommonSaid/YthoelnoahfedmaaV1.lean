/- Contracts: names. -/
import Derived.Test.YthoelnoahfedmaaW1
namespace Go.Proofs.Ythoelnoahfedmaa
open Go.RowKit
set_option linter.unusedVariables false
set_option linter.unusedSimpArgs false

def okB (i : Nat) (c : UInt8) : Bool := letterB c || (i != 0 && (c.toNat == 95 || digitB c))
def nameOk (s : ByteArray) : Bool := decide (0 < s.size ∧ s.size ≤ 24 ∧ ∀ i (h : i < s.size), okB i s[i] = true)

theorem nameOk_false {s : ByteArray} {k : Nat} (h : k < s.size) (hf : okB k s[k] = false) : false = nameOk s := by
  symm
  simp only [nameOk, decide_eq_false_iff_not]
  rintro ⟨-, -, hall⟩
  rw [hall k h] at hf
  cases hf
theorem nameOk_all {s : ByteArray} (hall : ∀ i (h : i < s.size), i < s.size → okB i s[i] = true) : nameOk s = decide (0 < s.size ∧ s.size ≤ 24) := by
  rw [nameOk, Bool.eq_iff_iff, decide_eq_true_iff, decide_eq_true_iff]
  exact ⟨fun h => ⟨h.1, h.2.1⟩, fun h => ⟨h.1, h.2, fun i hi => hall i hi hi⟩⟩

set_option maxHeartbeats 1000000 in
theorem isName_any (s : ByteArray) (w : World) (hs : s.size ≤ maxLen) :
    Calls Try.prog 66 #[.string s] w fun e w' => e = .returned (.bool (nameOk s)) ∧ w = w' := by
  unfold maxLen at hs
  go_enter Try.func66, Try.ntmps66
  go_wp2
  go_loop [3, 4, 5, 8] (fun _ _ _ i => ∃ k : Nat, k ≤ s.size ∧ i = .int .i64 k ∧ ∀ j (h : j < s.size), j < k → okB j s[j] = true) (fun _ _ _ i => s.size - (intOf i).toNat)
  case atStart => exact ⟨0, Nat.zero_le _, rfl, fun j h hj => by omega⟩
  case round =>
    obtain ⟨k, hk, rfl, hall⟩ := hrel
    have HALL := Lib.hid hall; clear hall
    by_cases hlt : k < s.size
    · have hb := s[k].toNat_lt
      by_cases hl : 97 ≤ s[k].toNat ∧ s[k].toNat ≤ 122 ∨ 65 ≤ s[k].toNat ∧ s[k].toNat ≤ 90
      · have HOK : Hid (okB k s[k] = true) := by
          show _ = _
          simp [okB, letterB]; omega
        rcases hl with ⟨l1, l2⟩ | ⟨l1, l2⟩
        · go_wp2
          all_goals
            go_round
            case rel => exact ⟨k + 1, by omega, by go_num, fun j h hj => by
              rcases Nat.lt_or_ge j k with h' | h'
              · exact HALL.out j h h'
              · have : j = k := by omega
                subst this
                exact HOK.out⟩
            case measure => simp [intOf]; omega
        · go_wp2
          all_goals
            go_round
            case rel => exact ⟨k + 1, by omega, by go_num, fun j h hj => by
              rcases Nat.lt_or_ge j k with h' | h'
              · exact HALL.out j h h'
              · have : j = k := by omega
                subst this
                exact HOK.out⟩
            case measure => simp [intOf]; omega
      · by_cases hk0 : k = 0
        · subst hk0
          have HOK : Hid (okB 0 s[0] = false) := by
            show _ = _
            simp [okB, letterB]; omega
          rcases (by omega : s[0].toNat < 65 ∨ 90 < s[0].toNat ∧ s[0].toNat < 97 ∨ 122 < s[0].toNat) with hc | ⟨hc, hc'⟩ | hc
          · have f0 : decide ((97 : Int) ≤ ((s[0].toNat : Nat) : Int)) = false := decide_eq_false (by omega)
            have f1 : decide (((s[0].toNat : Nat) : Int) ≤ 122) = true := decide_eq_true (by omega)
            have f2 : decide ((65 : Int) ≤ ((s[0].toNat : Nat) : Int)) = false := decide_eq_false (by omega)
            have f3 : decide (((s[0].toNat : Nat) : Int) ≤ 90) = true := decide_eq_true (by omega)
            go_wp2
            all_goals go_ret
            all_goals exact ⟨rb (nameOk_false hlt HOK.out), rfl⟩
          · have f0 : decide ((97 : Int) ≤ ((s[0].toNat : Nat) : Int)) = false := decide_eq_false (by omega)
            have f1 : decide (((s[0].toNat : Nat) : Int) ≤ 122) = true := decide_eq_true (by omega)
            have f2 : decide ((65 : Int) ≤ ((s[0].toNat : Nat) : Int)) = true := decide_eq_true (by omega)
            have f3 : decide (((s[0].toNat : Nat) : Int) ≤ 90) = false := decide_eq_false (by omega)
            go_wp2
            all_goals go_ret
            all_goals exact ⟨rb (nameOk_false hlt HOK.out), rfl⟩
          · have f0 : decide ((97 : Int) ≤ ((s[0].toNat : Nat) : Int)) = true := decide_eq_true (by omega)
            have f1 : decide (((s[0].toNat : Nat) : Int) ≤ 122) = false := decide_eq_false (by omega)
            have f2 : decide ((65 : Int) ≤ ((s[0].toNat : Nat) : Int)) = true := decide_eq_true (by omega)
            have f3 : decide (((s[0].toNat : Nat) : Int) ≤ 90) = false := decide_eq_false (by omega)
            go_wp2
            all_goals go_ret
            all_goals exact ⟨rb (nameOk_false hlt HOK.out), rfl⟩
        · have e1 : ((k : Int) == 0) = false := beq_eq_false_iff_ne.2 (by omega)
          by_cases h95 : s[k].toNat = 95
          · have e2 : (((s[k].toNat : Nat) : Int) != 95) = false := by simp; omega
            have HOK : Hid (okB k s[k] = true) := by
              show _ = _
              simp [okB, hk0, h95]
            have hn : ¬ (97 ≤ s[k].toNat) := by omega
            have hn2 : ¬ (s[k].toNat ≤ 90) := by omega
            have H95 := Lib.hid h95; clear h95
            go_wp2
            all_goals
              go_round
              case rel => exact ⟨k + 1, by omega, by go_num, fun j h hj => by
                rcases Nat.lt_or_ge j k with h' | h'
                · exact HALL.out j h h'
                · have : j = k := by omega
                  subst this
                  exact HOK.out⟩
              case measure => simp [intOf]; omega
          · have e2 : (((s[k].toNat : Nat) : Int) != 95) = true := bne_iff_ne.2 (by omega)
            by_cases hd : 48 ≤ s[k].toNat ∧ s[k].toNat ≤ 57
            · have HOK : Hid (okB k s[k] = true) := by
                show _ = _
                simp [okB, digitB, hk0, hd]
              obtain ⟨d1, d2⟩ := hd
              go_wp2
              all_goals
                go_round
                case rel => exact ⟨k + 1, by omega, by go_num, fun j h hj => by
                  rcases Nat.lt_or_ge j k with h' | h'
                  · exact HALL.out j h h'
                  · have : j = k := by omega
                    subst this
                    exact HOK.out⟩
                case measure => simp [intOf]; omega
            · have HOK : Hid (okB k s[k] = false) := by
                show _ = _
                simp [okB, digitB, letterB, h95]; omega
              rcases (by omega : s[k].toNat < 65 ∨ 90 < s[k].toNat ∧ s[k].toNat < 97 ∨ 122 < s[k].toNat) with hc | ⟨hc, hc'⟩ | hc
              · have f0 : decide ((97 : Int) ≤ ((s[k].toNat : Nat) : Int)) = false := decide_eq_false (by omega)
                have f1 : decide (((s[k].toNat : Nat) : Int) ≤ 122) = true := decide_eq_true (by omega)
                have f2 : decide ((65 : Int) ≤ ((s[k].toNat : Nat) : Int)) = false := decide_eq_false (by omega)
                have f3 : decide (((s[k].toNat : Nat) : Int) ≤ 90) = true := decide_eq_true (by omega)
                go_wp2
                all_goals go_ret
                all_goals exact ⟨rb (nameOk_false hlt HOK.out), rfl⟩
              · have f0 : decide ((97 : Int) ≤ ((s[k].toNat : Nat) : Int)) = false := decide_eq_false (by omega)
                have f1 : decide (((s[k].toNat : Nat) : Int) ≤ 122) = true := decide_eq_true (by omega)
                have f2 : decide ((65 : Int) ≤ ((s[k].toNat : Nat) : Int)) = true := decide_eq_true (by omega)
                have f3 : decide (((s[k].toNat : Nat) : Int) ≤ 90) = false := decide_eq_false (by omega)
                go_wp2
                all_goals go_ret
                all_goals exact ⟨rb (nameOk_false hlt HOK.out), rfl⟩
              · have f0 : decide ((97 : Int) ≤ ((s[k].toNat : Nat) : Int)) = true := decide_eq_true (by omega)
                have f1 : decide (((s[k].toNat : Nat) : Int) ≤ 122) = false := decide_eq_false (by omega)
                have f2 : decide ((65 : Int) ≤ ((s[k].toNat : Nat) : Int)) = true := decide_eq_true (by omega)
                have f3 : decide (((s[k].toNat : Nat) : Int) ≤ 90) = false := decide_eq_false (by omega)
                go_wp2
                all_goals go_ret
                all_goals exact ⟨rb (nameOk_false hlt HOK.out), rfl⟩
    · have hks : k = s.size := by omega
      subst hks
      go_wp2
      all_goals go_ret
      all_goals exact ⟨rb (by rw [nameOk_all HALL.out, Bool.eq_iff_iff]; simp; try omega), rfl⟩

/-- a name without the byte 35 -/
def refOk (s : ByteArray) : Bool := decide (0 < s.size ∧ s.size ≤ 24 ∧ (∀ i (h : i < s.size), i = 0 → letterB s[i] = true) ∧ ∀ i (h : i < s.size), (letterB s[i] || digitB s[i] || s[i].toNat == 95 || s[i].toNat == 35) = true)

set_option maxHeartbeats 1000000 in
theorem IsName_any (s : ByteArray) (w : World) (hs : s.size ≤ maxLen) :
    Calls Try.prog 69 #[.string s] w fun e w' => e = .returned (.bool (refOk s)) ∧ w = w' := by
  unfold maxLen at hs
  by_cases h0 : 0 < s.size ∧ s.size ≤ 24
  · obtain ⟨h0, h24⟩ := h0
    have e1 : ((s.size : Int) == 0) = false := beq_eq_false_iff_ne.2 (by omega)
    have e2 : decide ((24 : Int) < (s.size : Int)) = false := by simp; omega
    cases hl : letterB s[0]
    · go_enter Try.func69, Try.ntmps69
      go_wp2_with fail
      refine (letter_any _ _).mono ?_
      rw [hl]
      rintro e w' ⟨rfl, rfl⟩
      go_wp2_with fail
      go_ret
      exact ⟨rb (by symm; simp only [refOk, decide_eq_false_iff_not]; rintro ⟨-, -, h, -⟩; rw [h 0 h0 rfl] at hl; cases hl), rfl⟩
    · have HL := Lib.hid hl
      go_enter Try.func69, Try.ntmps69
      go_wp2_with fail
      refine (letter_any _ _).mono ?_
      rw [hl]
      clear hl
      rintro e w' ⟨rfl, rfl⟩
      go_wp2_with fail
      go_loop [3] (fun i => ∃ k : Nat, k ≤ s.size ∧ i = .int .i64 k ∧ ∀ j (h : j < s.size), j < k → (letterB s[j] || digitB s[j] || s[j].toNat == 95 || s[j].toNat == 35) = true) (fun i => s.size - (intOf i).toNat)
      case atStart => exact ⟨0, Nat.zero_le _, rfl, fun j h hj => by omega⟩
      case round =>
        obtain ⟨k, hk, rfl, hall⟩ := hrel
        have HALL := Lib.hid hall; clear hall
        by_cases hlt : k < s.size
        · have hb := s[k].toNat_lt
          generalize hlk : letterB s[k] = lk
          generalize hdk : digitB s[k] = dk
          have HLK := Lib.hid hlk
          have HDK := Lib.hid hdk
          cases lk
          · cases dk
            · by_cases h95 : s[k].toNat = 95
              · have e5 : (((s[k].toNat : Nat) : Int) != 95) = false := by simp; omega
                have H95 := Lib.hid h95; clear h95 hlk hdk
                go_wp2_with (first | (go_at_call 81; refine (letter_any _ _).mono ?_; rw [HLK.out]; rintro e w' ⟨rfl, rfl⟩) | (go_at_call 82; refine (digit_any _ _).mono ?_; rw [HDK.out]; rintro e w' ⟨rfl, rfl⟩))
                go_round
                case rel => exact ⟨k + 1, by omega, by go_num, fun j h hj => by
                  rcases Nat.lt_or_ge j k with h' | h'
                  · exact HALL.out j h h'
                  · have : j = k := by omega
                    subst this
                    simp [H95.out]⟩
                case measure => simp [intOf]; omega
              · have e5 : (((s[k].toNat : Nat) : Int) != 95) = true := bne_iff_ne.2 (by omega)
                by_cases h35 : s[k].toNat = 35
                · have e6 : (((s[k].toNat : Nat) : Int) != 35) = false := by simp; omega
                  have H95 := Lib.hid h95; clear h95 hlk hdk
                  have H35 := Lib.hid h35; clear h35
                  go_wp2_with (first | (go_at_call 81; refine (letter_any _ _).mono ?_; rw [HLK.out]; rintro e w' ⟨rfl, rfl⟩) | (go_at_call 82; refine (digit_any _ _).mono ?_; rw [HDK.out]; rintro e w' ⟨rfl, rfl⟩))
                  go_round
                  case rel => exact ⟨k + 1, by omega, by go_num, fun j h hj => by
                    rcases Nat.lt_or_ge j k with h' | h'
                    · exact HALL.out j h h'
                    · have : j = k := by omega
                      subst this
                      simp [H35.out]⟩
                  case measure => simp [intOf]; omega
                · have e6 : (((s[k].toNat : Nat) : Int) != 35) = true := bne_iff_ne.2 (by omega)
                  have H95 := Lib.hid h95; clear h95 hlk hdk
                  have H35 := Lib.hid h35; clear h35
                  go_wp2_with (first | (go_at_call 81; refine (letter_any _ _).mono ?_; rw [HLK.out]; rintro e w' ⟨rfl, rfl⟩) | (go_at_call 82; refine (digit_any _ _).mono ?_; rw [HDK.out]; rintro e w' ⟨rfl, rfl⟩))
                  go_ret
                  exact ⟨rb (by symm; simp only [refOk, decide_eq_false_iff_not]; rintro ⟨-, -, -, h⟩; have := h k hlt; rw [HLK.out, HDK.out] at this; simp [H95.out, H35.out] at this), rfl⟩
            · clear hlk hdk
              go_wp2_with (first | (go_at_call 81; refine (letter_any _ _).mono ?_; rw [HLK.out]; rintro e w' ⟨rfl, rfl⟩) | (go_at_call 82; refine (digit_any _ _).mono ?_; rw [HDK.out]; rintro e w' ⟨rfl, rfl⟩))
              go_round
              case rel => exact ⟨k + 1, by omega, by go_num, fun j h hj => by
                rcases Nat.lt_or_ge j k with h' | h'
                · exact HALL.out j h h'
                · have : j = k := by omega
                  subst this
                  simp [HDK.out]⟩
              case measure => simp [intOf]; omega
          · clear hlk hdk
            go_wp2_with (first | (go_at_call 81; refine (letter_any _ _).mono ?_; rw [HLK.out]; rintro e w' ⟨rfl, rfl⟩) | (go_at_call 82; refine (digit_any _ _).mono ?_; rw [HDK.out]; rintro e w' ⟨rfl, rfl⟩))
            go_round
            case rel => exact ⟨k + 1, by omega, by go_num, fun j h hj => by
              rcases Nat.lt_or_ge j k with h' | h'
              · exact HALL.out j h h'
              · have : j = k := by omega
                subst this
                simp [HLK.out]⟩
            case measure => simp [intOf]; omega
        · have hks : k = s.size := by omega
          subst hks
          go_wp2_with fail
          go_ret
          exact ⟨rb (by symm; simp only [refOk, decide_eq_true_eq]; exact ⟨h0, h24, fun i h e => by subst e; exact HL.out, fun i h => HALL.out i h h⟩), rfl⟩
  · have hf : refOk s = false := by
      simp only [refOk, decide_eq_false_iff_not]
      rintro ⟨h1, h2, -⟩
      exact h0 ⟨h1, h2⟩
    rw [hf]
    have HF := Lib.hid hf; clear hf
    by_cases hz : s.size = 0
    · have e1 : ((s.size : Int) == 0) = true := beq_iff_eq.2 (by omega)
      have HZ := Lib.hid hz; clear hz
      go_enter Try.func69, Try.ntmps69
      go_wp2_with fail
      go_ret
      exact ⟨rfl, rfl⟩
    · have e1 : ((s.size : Int) == 0) = false := beq_eq_false_iff_ne.2 (by omega)
      have e2 : decide ((24 : Int) < (s.size : Int)) = true := by simp; omega
      have HZ := Lib.hid hz; clear hz
      go_enter Try.func69, Try.ntmps69
      go_wp2_with fail
      go_ret
      exact ⟨rfl, rfl⟩

theorem nameOk_iff (s : ByteArray) : nameOk s = (refOk s && decide (∀ i (h : i < s.size), s[i].toNat ≠ 35)) := by
  rw [Bool.eq_iff_iff]
  simp only [nameOk, refOk, Bool.and_eq_true, decide_eq_true_eq]
  constructor
  · rintro ⟨h1, h2, h3⟩
    refine ⟨⟨h1, h2, fun i hi e => ?_, fun i hi => ?_⟩, fun i hi e => ?_⟩
    · subst e
      have := h3 0 hi
      simpa [okB] using this
    · have := h3 i hi
      simp only [okB, Bool.or_eq_true, Bool.and_eq_true] at this ⊢
      rcases this with h | ⟨-, h | h⟩
      · exact .inl (.inl (.inl h))
      · exact .inl (.inr h)
      · exact .inl (.inl (.inr h))
    · have := h3 i hi
      simp only [okB, letterB, digitB, e] at this
      simp at this
  · rintro ⟨⟨h1, h2, h3, h4⟩, h5⟩
    refine ⟨h1, h2, fun i hi => ?_⟩
    by_cases hi0 : i = 0
    · rw [okB, h3 i hi hi0, Bool.true_or]
    · have h6 := h4 i hi
      have h7 := h5 i hi
      simp only [okB, Bool.or_eq_true, Bool.and_eq_true, bne_iff_ne, beq_iff_eq] at h6 ⊢
      rcases h6 with ((h | h) | h) | h
      · exact .inl h
      · exact .inr ⟨hi0, .inr h⟩
      · exact .inr ⟨hi0, .inl h⟩
      · exact absurd h h7

set_option maxHeartbeats 1000000 in
theorem name17_any (s : ByteArray) (w : World) (hs : s.size ≤ maxLen) :
    Calls Try.prog 44 #[.string s] w fun e w' => e = .returned (.bool (nameOk s)) ∧ w = w' := by
  have hs' := hs
  unfold maxLen at hs
  go_enter Try.func44, Try.ntmps44
  go_wp2_with fail
  go_loop [3] (fun i => ∃ k : Nat, k ≤ s.size ∧ i = .int .i64 k ∧ ∀ j (h : j < s.size), j < k → s[j].toNat ≠ 35) (fun i => s.size - (intOf i).toNat)
  case atStart => exact ⟨0, Nat.zero_le _, rfl, fun j h hj => by omega⟩
  case round =>
    obtain ⟨k, hk, rfl, hall⟩ := hrel
    have HALL := Lib.hid hall; clear hall
    by_cases hlt : k < s.size
    · by_cases h35 : s[k].toNat = 35
      · have e6 : (((s[k].toNat : Nat) : Int) == 35) = true := beq_iff_eq.2 (by omega)
        have H35 := Lib.hid h35; clear h35
        go_wp2_with fail
        go_ret
        exact ⟨rb (by
          symm; rw [nameOk_iff, Bool.and_eq_false_iff]; right
          rw [decide_eq_false_iff_not]; intro h; exact h k hlt H35.out), rfl⟩
      · have e6 : (((s[k].toNat : Nat) : Int) == 35) = false := beq_eq_false_iff_ne.2 (by omega)
        have H35 := Lib.hid h35; clear h35
        go_wp2_with fail
        go_round
        case rel => exact ⟨k + 1, by omega, by go_num, fun j h hj => by
          rcases Nat.lt_or_ge j k with h' | h'
          · exact HALL.out j h h'
          · have : j = k := by omega
            subst this
            exact H35.out⟩
        case measure => simp [intOf]; omega
    · have hks : k = s.size := by omega
      subst hks
      have hres : nameOk s = refOk s := by
        rw [nameOk_iff, show decide (∀ i (h : i < s.size), s[i].toNat ≠ 35) = true from decide_eq_true (fun i h => HALL.out i h h), Bool.and_true]
      have HR := Lib.hid hres; clear hres
      go_wp2_with fail
      refine (IsName_any s w hs').mono ?_
      rintro e w' ⟨rfl, rfl⟩
      go_wp2_with fail
      go_ret
      exact ⟨rb HR.out.symm, rfl⟩

end Go.Proofs.Ythoelnoahfedmaa
