/- Contracts: names. Contracts: names in tables. Contracts: fields of formats. The contract of the reference's Valid. The formats of a valid table. No program is in sight. The reference's Error. -/
import Derived.Test.YthoelnoahfedmaaG1
import Derived.Deep.QuietTactic
import Derived.BigQuiet
import Derived.Test.YthoelnoahfedmaaG4
namespace Go.Proofs.Ythoelnoahfedmaa
open Go.RowKit
set_option linter.unusedVariables false
set_option linter.unusedSimpArgs false

def okB (i : Nat) (c : UInt8) : Bool := letterB c || (i != 0 && (c.toNat == 95 || digitB c))
def nameOk (s : ByteArray) : Bool := decide (0 < s.size ∧ s.size ≤ 24 ∧ ∀ i (h : i < s.size), okB i s[i] = true)

theorem nameOk_false {s : ByteArray} {k : Nat} (h : k < s.size) (hf : okB k s[k] = false) : false = nameOk s := by
  symm
  simp only [nameOk, decide_eq_false_iff_not]
  rintro ⟨-, -, hall⟩
  rw [hall k h] at hf
  cases hf
theorem nameOk_all {s : ByteArray} (hall : ∀ i (h : i < s.size), i < s.size → okB i s[i] = true) : nameOk s = decide (0 < s.size ∧ s.size ≤ 24) := by
  rw [nameOk, Bool.eq_iff_iff, decide_eq_true_iff, decide_eq_true_iff]
  exact ⟨fun h => ⟨h.1, h.2.1⟩, fun h => ⟨h.1, h.2, fun i hi => hall i hi hi⟩⟩

set_option maxHeartbeats 1000000 in
theorem isName_any (s : ByteArray) (w : World) (hs : s.size ≤ maxLen) :
    Calls Try.prog 66 #[.string s] w fun e w' => e = .returned (.bool (nameOk s)) ∧ w = w' := by
  unfold maxLen at hs
  go_enter Try.func66, Try.ntmps66
  go_wp2
  go_loop [3, 4, 5, 8] (fun _ _ _ i => ∃ k : Nat, k ≤ s.size ∧ i = .int .i64 k ∧ ∀ j (h : j < s.size), j < k → okB j s[j] = true) (fun _ _ _ i => s.size - (intOf i).toNat)
  case atStart => exact ⟨0, Nat.zero_le _, rfl, fun j h hj => by omega⟩
  case round =>
    obtain ⟨k, hk, rfl, hall⟩ := hrel
    have HALL := Lib.hid hall; clear hall
    by_cases hlt : k < s.size
    · have hb := s[k].toNat_lt
      by_cases hl : 97 ≤ s[k].toNat ∧ s[k].toNat ≤ 122 ∨ 65 ≤ s[k].toNat ∧ s[k].toNat ≤ 90
      · have HOK : Hid (okB k s[k] = true) := by
          show _ = _
          simp [okB, letterB]; omega
        rcases hl with ⟨l1, l2⟩ | ⟨l1, l2⟩
        · go_wp2
          all_goals
            go_round
            case rel => exact ⟨k + 1, by omega, by go_num, fun j h hj => by
              rcases Nat.lt_or_ge j k with h' | h'
              · exact HALL.out j h h'
              · have : j = k := by omega
                subst this
                exact HOK.out⟩
            case measure => simp [intOf]; omega
        · go_wp2
          all_goals
            go_round
            case rel => exact ⟨k + 1, by omega, by go_num, fun j h hj => by
              rcases Nat.lt_or_ge j k with h' | h'
              · exact HALL.out j h h'
              · have : j = k := by omega
                subst this
                exact HOK.out⟩
            case measure => simp [intOf]; omega
      · by_cases hk0 : k = 0
        · subst hk0
          have HOK : Hid (okB 0 s[0] = false) := by
            show _ = _
            simp [okB, letterB]; omega
          rcases (by omega : s[0].toNat < 65 ∨ 90 < s[0].toNat ∧ s[0].toNat < 97 ∨ 122 < s[0].toNat) with hc | ⟨hc, hc'⟩ | hc
          · have f0 : decide ((97 : Int) ≤ ((s[0].toNat : Nat) : Int)) = false := decide_eq_false (by omega)
            have f1 : decide (((s[0].toNat : Nat) : Int) ≤ 122) = true := decide_eq_true (by omega)
            have f2 : decide ((65 : Int) ≤ ((s[0].toNat : Nat) : Int)) = false := decide_eq_false (by omega)
            have f3 : decide (((s[0].toNat : Nat) : Int) ≤ 90) = true := decide_eq_true (by omega)
            go_wp2
            all_goals go_ret
            all_goals exact ⟨rb (nameOk_false hlt HOK.out), rfl⟩
          · have f0 : decide ((97 : Int) ≤ ((s[0].toNat : Nat) : Int)) = false := decide_eq_false (by omega)
            have f1 : decide (((s[0].toNat : Nat) : Int) ≤ 122) = true := decide_eq_true (by omega)
            have f2 : decide ((65 : Int) ≤ ((s[0].toNat : Nat) : Int)) = true := decide_eq_true (by omega)
            have f3 : decide (((s[0].toNat : Nat) : Int) ≤ 90) = false := decide_eq_false (by omega)
            go_wp2
            all_goals go_ret
            all_goals exact ⟨rb (nameOk_false hlt HOK.out), rfl⟩
          · have f0 : decide ((97 : Int) ≤ ((s[0].toNat : Nat) : Int)) = true := decide_eq_true (by omega)
            have f1 : decide (((s[0].toNat : Nat) : Int) ≤ 122) = false := decide_eq_false (by omega)
            have f2 : decide ((65 : Int) ≤ ((s[0].toNat : Nat) : Int)) = true := decide_eq_true (by omega)
            have f3 : decide (((s[0].toNat : Nat) : Int) ≤ 90) = false := decide_eq_false (by omega)
            go_wp2
            all_goals go_ret
            all_goals exact ⟨rb (nameOk_false hlt HOK.out), rfl⟩
        · have e1 : ((k : Int) == 0) = false := beq_eq_false_iff_ne.2 (by omega)
          by_cases h95 : s[k].toNat = 95
          · have e2 : (((s[k].toNat : Nat) : Int) != 95) = false := by simp; omega
            have HOK : Hid (okB k s[k] = true) := by
              show _ = _
              simp [okB, hk0, h95]
            have hn : ¬ (97 ≤ s[k].toNat) := by omega
            have hn2 : ¬ (s[k].toNat ≤ 90) := by omega
            have H95 := Lib.hid h95; clear h95
            go_wp2
            all_goals
              go_round
              case rel => exact ⟨k + 1, by omega, by go_num, fun j h hj => by
                rcases Nat.lt_or_ge j k with h' | h'
                · exact HALL.out j h h'
                · have : j = k := by omega
                  subst this
                  exact HOK.out⟩
              case measure => simp [intOf]; omega
          · have e2 : (((s[k].toNat : Nat) : Int) != 95) = true := bne_iff_ne.2 (by omega)
            by_cases hd : 48 ≤ s[k].toNat ∧ s[k].toNat ≤ 57
            · have HOK : Hid (okB k s[k] = true) := by
                show _ = _
                simp [okB, digitB, hk0, hd]
              obtain ⟨d1, d2⟩ := hd
              go_wp2
              all_goals
                go_round
                case rel => exact ⟨k + 1, by omega, by go_num, fun j h hj => by
                  rcases Nat.lt_or_ge j k with h' | h'
                  · exact HALL.out j h h'
                  · have : j = k := by omega
                    subst this
                    exact HOK.out⟩
                case measure => simp [intOf]; omega
            · have HOK : Hid (okB k s[k] = false) := by
                show _ = _
                simp [okB, digitB, letterB, h95]; omega
              rcases (by omega : s[k].toNat < 65 ∨ 90 < s[k].toNat ∧ s[k].toNat < 97 ∨ 122 < s[k].toNat) with hc | ⟨hc, hc'⟩ | hc
              · have f0 : decide ((97 : Int) ≤ ((s[k].toNat : Nat) : Int)) = false := decide_eq_false (by omega)
                have f1 : decide (((s[k].toNat : Nat) : Int) ≤ 122) = true := decide_eq_true (by omega)
                have f2 : decide ((65 : Int) ≤ ((s[k].toNat : Nat) : Int)) = false := decide_eq_false (by omega)
                have f3 : decide (((s[k].toNat : Nat) : Int) ≤ 90) = true := decide_eq_true (by omega)
                go_wp2
                all_goals go_ret
                all_goals exact ⟨rb (nameOk_false hlt HOK.out), rfl⟩
              · have f0 : decide ((97 : Int) ≤ ((s[k].toNat : Nat) : Int)) = false := decide_eq_false (by omega)
                have f1 : decide (((s[k].toNat : Nat) : Int) ≤ 122) = true := decide_eq_true (by omega)
                have f2 : decide ((65 : Int) ≤ ((s[k].toNat : Nat) : Int)) = true := decide_eq_true (by omega)
                have f3 : decide (((s[k].toNat : Nat) : Int) ≤ 90) = false := decide_eq_false (by omega)
                go_wp2
                all_goals go_ret
                all_goals exact ⟨rb (nameOk_false hlt HOK.out), rfl⟩
              · have f0 : decide ((97 : Int) ≤ ((s[k].toNat : Nat) : Int)) = true := decide_eq_true (by omega)
                have f1 : decide (((s[k].toNat : Nat) : Int) ≤ 122) = false := decide_eq_false (by omega)
                have f2 : decide ((65 : Int) ≤ ((s[k].toNat : Nat) : Int)) = true := decide_eq_true (by omega)
                have f3 : decide (((s[k].toNat : Nat) : Int) ≤ 90) = false := decide_eq_false (by omega)
                go_wp2
                all_goals go_ret
                all_goals exact ⟨rb (nameOk_false hlt HOK.out), rfl⟩
    · have hks : k = s.size := by omega
      subst hks
      go_wp2
      all_goals go_ret
      all_goals exact ⟨rb (by rw [nameOk_all HALL.out, Bool.eq_iff_iff]; simp; try omega), rfl⟩

/-- a name without the byte 35 -/
def refOk (s : ByteArray) : Bool := decide (0 < s.size ∧ s.size ≤ 24 ∧ (∀ i (h : i < s.size), i = 0 → letterB s[i] = true) ∧ ∀ i (h : i < s.size), (letterB s[i] || digitB s[i] || s[i].toNat == 95 || s[i].toNat == 35) = true)

set_option maxHeartbeats 1000000 in
theorem IsName_any (s : ByteArray) (w : World) (hs : s.size ≤ maxLen) :
    Calls Try.prog 69 #[.string s] w fun e w' => e = .returned (.bool (refOk s)) ∧ w = w' := by
  unfold maxLen at hs
  by_cases h0 : 0 < s.size ∧ s.size ≤ 24
  · obtain ⟨h0, h24⟩ := h0
    have e1 : ((s.size : Int) == 0) = false := beq_eq_false_iff_ne.2 (by omega)
    have e2 : decide ((24 : Int) < (s.size : Int)) = false := by simp; omega
    cases hl : letterB s[0]
    · go_enter Try.func69, Try.ntmps69
      go_wp2_with fail
      refine (letter_any _ _).mono ?_
      rw [hl]
      rintro e w' ⟨rfl, rfl⟩
      go_wp2_with fail
      go_ret
      exact ⟨rb (by symm; simp only [refOk, decide_eq_false_iff_not]; rintro ⟨-, -, h, -⟩; rw [h 0 h0 rfl] at hl; cases hl), rfl⟩
    · have HL := Lib.hid hl
      go_enter Try.func69, Try.ntmps69
      go_wp2_with fail
      refine (letter_any _ _).mono ?_
      rw [hl]
      clear hl
      rintro e w' ⟨rfl, rfl⟩
      go_wp2_with fail
      go_loop [3] (fun i => ∃ k : Nat, k ≤ s.size ∧ i = .int .i64 k ∧ ∀ j (h : j < s.size), j < k → (letterB s[j] || digitB s[j] || s[j].toNat == 95 || s[j].toNat == 35) = true) (fun i => s.size - (intOf i).toNat)
      case atStart => exact ⟨0, Nat.zero_le _, rfl, fun j h hj => by omega⟩
      case round =>
        obtain ⟨k, hk, rfl, hall⟩ := hrel
        have HALL := Lib.hid hall; clear hall
        by_cases hlt : k < s.size
        · have hb := s[k].toNat_lt
          generalize hlk : letterB s[k] = lk
          generalize hdk : digitB s[k] = dk
          have HLK := Lib.hid hlk
          have HDK := Lib.hid hdk
          cases lk
          · cases dk
            · by_cases h95 : s[k].toNat = 95
              · have e5 : (((s[k].toNat : Nat) : Int) != 95) = false := by simp; omega
                have H95 := Lib.hid h95; clear h95 hlk hdk
                go_wp2_with (first | (go_at_call 81; refine (letter_any _ _).mono ?_; rw [HLK.out]; rintro e w' ⟨rfl, rfl⟩) | (go_at_call 82; refine (digit_any _ _).mono ?_; rw [HDK.out]; rintro e w' ⟨rfl, rfl⟩))
                go_round
                case rel => exact ⟨k + 1, by omega, by go_num, fun j h hj => by
                  rcases Nat.lt_or_ge j k with h' | h'
                  · exact HALL.out j h h'
                  · have : j = k := by omega
                    subst this
                    simp [H95.out]⟩
                case measure => simp [intOf]; omega
              · have e5 : (((s[k].toNat : Nat) : Int) != 95) = true := bne_iff_ne.2 (by omega)
                by_cases h35 : s[k].toNat = 35
                · have e6 : (((s[k].toNat : Nat) : Int) != 35) = false := by simp; omega
                  have H95 := Lib.hid h95; clear h95 hlk hdk
                  have H35 := Lib.hid h35; clear h35
                  go_wp2_with (first | (go_at_call 81; refine (letter_any _ _).mono ?_; rw [HLK.out]; rintro e w' ⟨rfl, rfl⟩) | (go_at_call 82; refine (digit_any _ _).mono ?_; rw [HDK.out]; rintro e w' ⟨rfl, rfl⟩))
                  go_round
                  case rel => exact ⟨k + 1, by omega, by go_num, fun j h hj => by
                    rcases Nat.lt_or_ge j k with h' | h'
                    · exact HALL.out j h h'
                    · have : j = k := by omega
                      subst this
                      simp [H35.out]⟩
                  case measure => simp [intOf]; omega
                · have e6 : (((s[k].toNat : Nat) : Int) != 35) = true := bne_iff_ne.2 (by omega)
                  have H95 := Lib.hid h95; clear h95 hlk hdk
                  have H35 := Lib.hid h35; clear h35
                  go_wp2_with (first | (go_at_call 81; refine (letter_any _ _).mono ?_; rw [HLK.out]; rintro e w' ⟨rfl, rfl⟩) | (go_at_call 82; refine (digit_any _ _).mono ?_; rw [HDK.out]; rintro e w' ⟨rfl, rfl⟩))
                  go_ret
                  exact ⟨rb (by symm; simp only [refOk, decide_eq_false_iff_not]; rintro ⟨-, -, -, h⟩; have := h k hlt; rw [HLK.out, HDK.out] at this; simp [H95.out, H35.out] at this), rfl⟩
            · clear hlk hdk
              go_wp2_with (first | (go_at_call 81; refine (letter_any _ _).mono ?_; rw [HLK.out]; rintro e w' ⟨rfl, rfl⟩) | (go_at_call 82; refine (digit_any _ _).mono ?_; rw [HDK.out]; rintro e w' ⟨rfl, rfl⟩))
              go_round
              case rel => exact ⟨k + 1, by omega, by go_num, fun j h hj => by
                rcases Nat.lt_or_ge j k with h' | h'
                · exact HALL.out j h h'
                · have : j = k := by omega
                  subst this
                  simp [HDK.out]⟩
              case measure => simp [intOf]; omega
          · clear hlk hdk
            go_wp2_with (first | (go_at_call 81; refine (letter_any _ _).mono ?_; rw [HLK.out]; rintro e w' ⟨rfl, rfl⟩) | (go_at_call 82; refine (digit_any _ _).mono ?_; rw [HDK.out]; rintro e w' ⟨rfl, rfl⟩))
            go_round
            case rel => exact ⟨k + 1, by omega, by go_num, fun j h hj => by
              rcases Nat.lt_or_ge j k with h' | h'
              · exact HALL.out j h h'
              · have : j = k := by omega
                subst this
                simp [HLK.out]⟩
            case measure => simp [intOf]; omega
        · have hks : k = s.size := by omega
          subst hks
          go_wp2_with fail
          go_ret
          exact ⟨rb (by symm; simp only [refOk, decide_eq_true_eq]; exact ⟨h0, h24, fun i h e => by subst e; exact HL.out, fun i h => HALL.out i h h⟩), rfl⟩
  · have hf : refOk s = false := by
      simp only [refOk, decide_eq_false_iff_not]
      rintro ⟨h1, h2, -⟩
      exact h0 ⟨h1, h2⟩
    rw [hf]
    have HF := Lib.hid hf; clear hf
    by_cases hz : s.size = 0
    · have e1 : ((s.size : Int) == 0) = true := beq_iff_eq.2 (by omega)
      have HZ := Lib.hid hz; clear hz
      go_enter Try.func69, Try.ntmps69
      go_wp2_with fail
      go_ret
      exact ⟨rfl, rfl⟩
    · have e1 : ((s.size : Int) == 0) = false := beq_eq_false_iff_ne.2 (by omega)
      have e2 : decide ((24 : Int) < (s.size : Int)) = true := by simp; omega
      have HZ := Lib.hid hz; clear hz
      go_enter Try.func69, Try.ntmps69
      go_wp2_with fail
      go_ret
      exact ⟨rfl, rfl⟩

theorem nameOk_iff (s : ByteArray) : nameOk s = (refOk s && decide (∀ i (h : i < s.size), s[i].toNat ≠ 35)) := by
  rw [Bool.eq_iff_iff]
  simp only [nameOk, refOk, Bool.and_eq_true, decide_eq_true_eq]
  constructor
  · rintro ⟨h1, h2, h3⟩
    refine ⟨⟨h1, h2, fun i hi e => ?_, fun i hi => ?_⟩, fun i hi e => ?_⟩
    · subst e
      have := h3 0 hi
      simpa [okB] using this
    · have := h3 i hi
      simp only [okB, Bool.or_eq_true, Bool.and_eq_true] at this ⊢
      rcases this with h | ⟨-, h | h⟩
      · exact .inl (.inl (.inl h))
      · exact .inl (.inr h)
      · exact .inl (.inl (.inr h))
    · have := h3 i hi
      simp only [okB, letterB, digitB, e] at this
      simp at this
  · rintro ⟨⟨h1, h2, h3, h4⟩, h5⟩
    refine ⟨h1, h2, fun i hi => ?_⟩
    by_cases hi0 : i = 0
    · rw [okB, h3 i hi hi0, Bool.true_or]
    · have h6 := h4 i hi
      have h7 := h5 i hi
      simp only [okB, Bool.or_eq_true, Bool.and_eq_true, bne_iff_ne, beq_iff_eq] at h6 ⊢
      rcases h6 with ((h | h) | h) | h
      · exact .inl h
      · exact .inr ⟨hi0, .inr h⟩
      · exact .inr ⟨hi0, .inl h⟩
      · exact absurd h h7

set_option maxHeartbeats 1000000 in
theorem name17_any (s : ByteArray) (w : World) (hs : s.size ≤ maxLen) :
    Calls Try.prog 44 #[.string s] w fun e w' => e = .returned (.bool (nameOk s)) ∧ w = w' := by
  have hs' := hs
  unfold maxLen at hs
  go_enter Try.func44, Try.ntmps44
  go_wp2_with fail
  go_loop [3] (fun i => ∃ k : Nat, k ≤ s.size ∧ i = .int .i64 k ∧ ∀ j (h : j < s.size), j < k → s[j].toNat ≠ 35) (fun i => s.size - (intOf i).toNat)
  case atStart => exact ⟨0, Nat.zero_le _, rfl, fun j h hj => by omega⟩
  case round =>
    obtain ⟨k, hk, rfl, hall⟩ := hrel
    have HALL := Lib.hid hall; clear hall
    by_cases hlt : k < s.size
    · by_cases h35 : s[k].toNat = 35
      · have e6 : (((s[k].toNat : Nat) : Int) == 35) = true := beq_iff_eq.2 (by omega)
        have H35 := Lib.hid h35; clear h35
        go_wp2_with fail
        go_ret
        exact ⟨rb (by
          symm; rw [nameOk_iff, Bool.and_eq_false_iff]; right
          rw [decide_eq_false_iff_not]; intro h; exact h k hlt H35.out), rfl⟩
      · have e6 : (((s[k].toNat : Nat) : Int) == 35) = false := beq_eq_false_iff_ne.2 (by omega)
        have H35 := Lib.hid h35; clear h35
        go_wp2_with fail
        go_round
        case rel => exact ⟨k + 1, by omega, by go_num, fun j h hj => by
          rcases Nat.lt_or_ge j k with h' | h'
          · exact HALL.out j h h'
          · have : j = k := by omega
            subst this
            exact H35.out⟩
        case measure => simp [intOf]; omega
    · have hks : k = s.size := by omega
      subst hks
      have hres : nameOk s = refOk s := by
        rw [nameOk_iff, show decide (∀ i (h : i < s.size), s[i].toNat ≠ 35) = true from decide_eq_true (fun i h => HALL.out i h h), Bool.and_true]
      have HR := Lib.hid hres; clear hres
      go_wp2_with fail
      refine (IsName_any s w hs').mono ?_
      rintro e w' ⟨rfl, rfl⟩
      go_wp2_with fail
      go_ret
      exact ⟨rb HR.out.symm, rfl⟩

end Go.Proofs.Ythoelnoahfedmaa

namespace Go.Proofs.Ythoelnoahfedmaa
open Go.RowKit
set_option linter.unusedVariables false
set_option linter.unusedSimpArgs false

theorem ba_eq {a b : ByteArray} (h : a = b) : (a == b) = true := (MapKept.bytes_beq a b).2 h
theorem ba_ne {a b : ByteArray} (h : a ≠ b) : (a == b) = false := by
  cases e : a == b
  · rfl
  · exact absurd ((MapKept.bytes_beq a b).1 e) h

theorem FldsA.get' {w : World} {B : Nat} {fa : Option Addr} {F : List Fld} (hF : FldsA w B fa F) {k : Nat} {x : Fld} (hx : F[k]? = some x) : ∃ fb foff, fa = some ⟨fb, foff, none⟩ ∧ fb < B ∧ FldAt w fb (foff + k * 5) x := by
  obtain ⟨fb, foff, h1, h2, h3⟩ := hF.2 (ne_nil_of_get hx)
  exact ⟨fb, foff, h1, h2, h3 k x hx⟩
theorem TabA.at' {w : World} {B : Nat} {a : Option Addr} {t : List Fmt} {i : Nat} {fm : Fmt} (hT : TabA w B a t) (hi : t[i]? = some fm) :
    ∃ tb toff fa fcap, a = some ⟨tb, toff, none⟩ ∧ tb < B ∧ w.cell? ⟨tb, toff + i * 2, none⟩ = some (.string fm.name) ∧ w.cell? ⟨tb, toff + i * 2 + 1, none⟩ = some (.slice fa fm.fields.length fcap) ∧ FldsA w B fa fm.fields ∧ fm.name.size ≤ maxLen := by
  obtain ⟨-, hT⟩ := hT
  obtain ⟨b, off, rfl, hb, hT⟩ := hT (ne_nil_of_get hi)
  obtain ⟨hn, ⟨fa, fcap, hc, hF⟩, hw⟩ := hT i fm hi
  exact ⟨b, off, fa, fcap, rfl, hb, hn, hc, hF, hw⟩

theorem TabA.take {w : World} {B : Nat} {a : Option Addr} {t : List Fmt} (hT : TabA w B a t) (i : Nat) : TabA w B a (t.take i) := by
  refine ⟨Nat.le_trans (List.length_take_le' i t) hT.1, fun hne => ?_⟩
  obtain ⟨b, off, h1, h2, h3⟩ := hT.2 (by intro e; subst e; simp at hne)
  refine ⟨b, off, h1, h2, fun k f hk => h3 k f ?_⟩
  rw [List.getElem?_take] at hk
  split at hk
  · exact hk
  · cases hk

/-- the index of the format with a name, or -1 -/
def findS (t : List Fmt) (nm : ByteArray) : Int := match t.findIdx? (fun f => f.name == nm) with | some i => i | none => -1

theorem findS_at {t : List Fmt} {nm : ByteArray} {k : Nat} {f : Fmt} (hk : t[k]? = some f) (he : f.name = nm) (hall : ∀ (j : Nat) (f : Fmt), j < k → t[j]? = some f → f.name ≠ nm) : findS t nm = k := by
  have : t.findIdx? (fun f => f.name == nm) = some k := by
    rw [List.findIdx?_eq_some_iff_getElem]
    have hlt := lt_of_get hk
    refine ⟨hlt, ?_, fun j hj => ?_⟩
    · rw [List.getElem?_eq_getElem hlt] at hk
      cases hk
      exact ba_eq he
    · have := hall j t[j] hj (List.getElem?_eq_getElem (by omega))
      simp [ba_ne this]
  simp [findS, this]
theorem findS_none {t : List Fmt} {nm : ByteArray} (hall : ∀ (j : Nat) (f : Fmt), t[j]? = some f → f.name ≠ nm) : findS t nm = -1 := by
  have : t.findIdx? (fun f => f.name == nm) = none := by
    rw [List.findIdx?_eq_none_iff]
    intro x hx
    obtain ⟨j, hj⟩ := List.mem_iff_getElem?.1 hx
    simp [ba_ne (hall j x hj)]
  simp [findS, this]

set_option maxHeartbeats 1000000 in
theorem find_any {w : World} {B : Nat} {a : Option Addr} {t : List Fmt} {cap : Nat} (nm : ByteArray) (hT : TabA w B a t) (hB : B ≤ w.heap.size) :
    Calls Try.prog 45 #[.slice a t.length cap, .string nm] w fun e w' => e = .returned (.int .i64 (findS t nm)) ∧ w = w' := by
  have hn63 := hT.1
  unfold maxLen at hn63
  go_enter Try.func45, Try.ntmps45
  go_wp2_with fail
  go_loop [5] (fun i => ∃ k : Nat, k ≤ t.length ∧ i = .int .i64 k ∧ ∀ j f, j < k → t[j]? = some f → f.name ≠ nm) (fun i => t.length - (intOf i).toNat)
  case atStart => exact ⟨0, Nat.zero_le _, rfl, fun j f h hj => by omega⟩
  case round =>
    obtain ⟨k, hk, rfl, hall⟩ := hrel
    have HALL := Lib.hid hall; clear hall
    by_cases hlt : k < t.length
    · obtain ⟨f, hf⟩ : ∃ f, t[k]? = some f := ⟨_, List.getElem?_eq_getElem hlt⟩
      obtain ⟨tb, toff, fa, fcap, rfl, htb, htn, htc, -, -⟩ := hT.at' hf
      have HF := Lib.hid hf; clear hf
      by_cases he : f.name = nm
      · have e1 : (f.name == nm) = true := ba_eq he
        have e1' : (f.name.toList == nm.toList) = true := by rw [← beq_toListBytes]; exact e1
        have HE := Lib.hid he; clear he
        go_wp2_with fail
        go_ret
        exact ⟨ri (findS_at HF.out HE.out HALL.out).symm, rfl⟩
      · have e1 : (f.name == nm) = false := ba_ne he
        have e1' : (f.name.toList == nm.toList) = false := by rw [← beq_toListBytes]; exact e1
        have HE := Lib.hid he; clear he
        go_wp2_with fail
        go_round
        case rel => exact ⟨k + 1, by omega, by go_num, fun j f' hj hf' => by
          rcases Nat.lt_or_ge j k with h' | h'
          · exact HALL.out j f' h' hf'
          · have : j = k := by omega
            subst this
            have := HF.out
            rw [this] at hf'
            cases hf'
            exact HE.out⟩
        case measure => simp [intOf]; omega
    · go_wp2_with fail
      go_ret
      exact ⟨ri (findS_none (fun j f hf => HALL.out j f (by have := lt_of_get hf; omega) hf)).symm, rfl⟩

set_option maxHeartbeats 1000000 in
theorem index_any {w : World} {B : Nat} {a : Option Addr} {t : List Fmt} {cap : Nat} (nm : ByteArray) (hT : TabA w B a t) (hB : B ≤ w.heap.size) :
    Calls Try.prog 67 #[.slice a t.length cap, .string nm] w fun e w' => e = .returned (.int .i64 (findS t nm)) ∧ Ext w w' := by
  have hn63 := hT.1
  unfold maxLen at hn63
  go_enter Try.func67, Try.ntmps67
  go_wp2_with fail
  go_loopw [5, 6, 9] (fun _ _ i wr => ∃ k : Nat, k ≤ t.length ∧ i = .int .i64 k ∧ Ext w wr ∧ ∀ j f, j < k → t[j]? = some f → f.name ≠ nm) (fun _ _ i _ => t.length - (intOf i).toNat)
  case atStart => exact ⟨0, Nat.zero_le _, rfl, Ext.refl _, fun j f h hj => by omega⟩
  case round =>
    obtain ⟨k, hk, rfl, hE, hall⟩ := hrel
    have HALL := Lib.hid hall; clear hall
    by_cases hlt : k < t.length
    · obtain ⟨f, hf⟩ : ∃ f, t[k]? = some f := ⟨_, List.getElem?_eq_getElem hlt⟩
      obtain ⟨tb, toff, fa, fcap, rfl, htb, htn, htc, -, -⟩ := (hT.ext hB hE).at' hf
      have HF := Lib.hid hf; clear hf
      have htb' : tb < wr.heap.size := by have := hE.size; omega
      by_cases he : f.name = nm
      · have e1 : (f.name == nm) = true := ba_eq he
        have e1' : (f.name.toList == nm.toList) = true := by rw [← beq_toListBytes]; exact e1
        have HE := Lib.hid he; clear he
        go_wp2_with fail
        go_ret
        exact ⟨ri (findS_at HF.out HE.out HALL.out).symm, hE.then_al _⟩
      · have e1 : (f.name == nm) = false := ba_ne he
        have e1' : (f.name.toList == nm.toList) = false := by rw [← beq_toListBytes]; exact e1
        have HE := Lib.hid he; clear he
        go_wp2_with fail
        go_roundw
        case rel => exact ⟨k + 1, by omega, by go_num, hE.then_al _, fun j f' hj hf' => by
          rcases Nat.lt_or_ge j k with h' | h'
          · exact HALL.out j f' h' hf'
          · have : j = k := by omega
            subst this
            have := HF.out
            rw [this] at hf'
            cases hf'
            exact HE.out⟩
        case measure => simp [intOf]; omega
    · go_wp2_with fail
      go_ret
      exact ⟨ri (findS_none (fun j f hf => HALL.out j f (by have := lt_of_get hf; omega) hf)).symm, hE⟩

end Go.Proofs.Ythoelnoahfedmaa

namespace Go.Proofs.Ythoelnoahfedmaa
open Go.RowKit
set_option linter.unusedVariables false
set_option linter.unusedSimpArgs false

theorem Ext.then_drN2 {w w' : World} {n : Nat} (h : Ext w w') : Ext w (w'.drewN n) := h.trans ⟨rfl, rfl, rfl, Nat.le_refl _, fun _ _ => rfl⟩

theorem kind7 (k : Int) : k = 1 ∨ k = 2 ∨ k = 3 ∨ k = 4 ∨ k = 5 ∨ k = 6 ∨ (((k == 1) = false ∧ (k == 2) = false ∧ (k == 3) = false ∧ (k == 4) = false ∧ (k == 5) = false ∧ (k == 6) = false) ∧ k ≠ 1 ∧ k ≠ 2 ∧ k ≠ 3 ∧ k ≠ 4 ∧ k ≠ 5 ∧ k ≠ 6) := by
  by_cases h1 : k = 1
  · exact .inl h1
  by_cases h2 : k = 2
  · exact .inr (.inl h2)
  by_cases h3 : k = 3
  · exact .inr (.inr (.inl h3))
  by_cases h4 : k = 4
  · exact .inr (.inr (.inr (.inl h4)))
  by_cases h5 : k = 5
  · exact .inr (.inr (.inr (.inr (.inl h5))))
  by_cases h6 : k = 6
  · exact .inr (.inr (.inr (.inr (.inr (.inl h6)))))
  · exact .inr (.inr (.inr (.inr (.inr (.inr ⟨⟨by simp [h1], by simp [h2], by simp [h3], by simp [h4], by simp [h5], by simp [h6]⟩, h1, h2, h3, h4, h5, h6⟩)))))

def shapeS (f : Fld) : Bool :=
  if f.kind = 1 then decide (f.n = 0 ∧ f.low = 0 ∧ f.high = 0)
  else if f.kind = 2 ∨ f.kind = 3 ∨ f.kind = 5 then decide (f.bytes.toList = [] ∧ f.low = 0 ∧ f.high = 0)
  else if f.kind = 4 ∨ f.kind = 6 then decide (f.bytes.toList = [] ∧ f.n = 0)
  else false

set_option maxHeartbeats 1000000 in
theorem shape_any {w : World} (f : Fld) :
    Calls Try.prog 70 #[.agg #[.int .i64 f.kind, .string f.bytes, .int .i64 f.n, .int .i64 f.low, .int .i64 f.high]] w fun e w' => e = .returned (.bool (shapeS f)) ∧ Ext w w' := by
  by_cases hl : f.low = 0
  · have e1 : (f.low != 0) = false := by simp [hl]
    have HL := Lib.hid hl; clear hl
    rcases kind7 f.kind with hk | hk | hk | hk | hk | hk | ⟨⟨k1, k2, k3, k4, k5, k6⟩, hn⟩
    case inr.inr.inr.inr.inr.inr =>
      have HN := Lib.hid hn; clear hn
      go_enter Try.func70, Try.ntmps70
      go_wp2_with fail
      go_quiet (fail)
      go_wp2_with fail
      go_ret
      exact ⟨rb (by obtain ⟨h1, h2, h3, h4, h5, h6⟩ := HN.out; simp [shapeS, h1, h2, h3, h4, h5, h6]), (by repeat (first | exact Ext.refl _ | exact Ext.alloc _ _ | apply Ext.then_dr | apply Ext.then_drN | apply Ext.then_drN2 | (refine Ext.then_al ?_ _)))⟩
    all_goals
      go_enter Try.func70, Try.ntmps70
      go_wp2_with fail
      go_quiet (fail)
      go_wp2_with fail
      all_goals go_ret
      all_goals refine ⟨rb ?_, (by repeat (first | exact Ext.refl _ | exact Ext.alloc _ _ | apply Ext.then_dr | apply Ext.then_drN | apply Ext.then_drN2 | (refine Ext.then_al ?_ _)))⟩
      all_goals (rw [Bool.eq_iff_iff]; simp only [shapeS, hk])
      all_goals simp [*, HL.out]
  · have e1 : (f.low != 0) = true := by simp [hl]
    have HL := Lib.hid hl; clear hl
    rcases kind7 f.kind with hk | hk | hk | hk | hk | hk | ⟨⟨k1, k2, k3, k4, k5, k6⟩, hn⟩
    case inr.inr.inr.inr.inr.inr =>
      have HN := Lib.hid hn; clear hn
      go_enter Try.func70, Try.ntmps70
      go_wp2_with fail
      go_quiet (fail)
      go_wp2_with fail
      go_ret
      exact ⟨rb (by obtain ⟨h1, h2, h3, h4, h5, h6⟩ := HN.out; simp [shapeS, h1, h2, h3, h4, h5, h6]), (by repeat (first | exact Ext.refl _ | exact Ext.alloc _ _ | apply Ext.then_dr | apply Ext.then_drN | apply Ext.then_drN2 | (refine Ext.then_al ?_ _)))⟩
    all_goals
      go_enter Try.func70, Try.ntmps70
      go_wp2_with fail
      go_quiet (fail)
      go_wp2_with fail
      all_goals go_ret
      all_goals refine ⟨rb ?_, (by repeat (first | exact Ext.refl _ | exact Ext.alloc _ _ | apply Ext.then_dr | apply Ext.then_drN | apply Ext.then_drN2 | (refine Ext.then_al ?_ _)))⟩
      all_goals (rw [Bool.eq_iff_iff]; simp only [shapeS, hk])
      all_goals simp [*, HL.out]

def rangesS (f : Fld) (last : Bool) : Bool :=
  if f.kind = 1 then decide (1 ≤ f.bytes.size ∧ f.bytes.size ≤ 8)
  else if f.kind = 2 then decide (1 ≤ f.n ∧ f.n ≤ 15)
  else if f.kind = 3 then decide (0 ≤ f.n ∧ f.n ≤ 15)
  else if f.kind = 4 then decide (0 ≤ f.low ∧ f.low ≤ f.high ∧ f.high ≤ 255)
  else if f.kind = 6 then decide (last = true ∧ 0 ≤ f.low ∧ f.low ≤ f.high ∧ f.high ≤ 1000)
  else true

set_option maxRecDepth 100000 in
set_option maxHeartbeats 1000000 in
theorem ranges_any {w : World} (f : Fld) (last : Bool) :
    Calls Try.prog 71 #[.agg #[.int .i64 f.kind, .string f.bytes, .int .i64 f.n, .int .i64 f.low, .int .i64 f.high], .bool last] w fun e w' => e = .returned (.bool (rangesS f last)) ∧ Ext w w' := by
  rcases kind7 f.kind with hk | hk | hk | hk | hk | hk | ⟨⟨k1, k2, k3, k4, k5, k6⟩, hn⟩
  case inr.inr.inr.inr.inr.inr =>
    have HN := Lib.hid hn; clear hn
    go_enter Try.func71, Try.ntmps71
    go_wp2_with fail
    go_ret
    exact ⟨rb (by obtain ⟨h1, h2, h3, h4, h5, h6⟩ := HN.out; simp [rangesS, h1, h2, h3, h4, h5, h6]), (by repeat (first | exact Ext.refl _ | exact Ext.alloc _ _ | apply Ext.then_dr | apply Ext.then_drN | apply Ext.then_drN2 | (refine Ext.then_al ?_ _)))⟩
  all_goals
    cases last
    all_goals
      go_enter Try.func71, Try.ntmps71
      go_wp2_with fail
      all_goals go_ret
      all_goals refine ⟨rb ?_, (by repeat (first | exact Ext.refl _ | exact Ext.alloc _ _ | apply Ext.then_dr | apply Ext.then_drN | apply Ext.then_drN2 | (refine Ext.then_al ?_ _)))⟩
      all_goals (rw [Bool.eq_iff_iff]; simp only [rangesS, hk])
      all_goals simp [*]
      all_goals try omega

/-- no nested field, no rest -/
def plain17 (F : List Fld) : Bool := decide (∀ x ∈ F, x.kind ≠ 5 ∧ x.kind ≠ 6)

set_option maxRecDepth 100000 in
set_option maxHeartbeats 1000000 in
theorem plain17_any {w : World} {B : Nat} {fa : Option Addr} {F : List Fld} {nm : ByteArray} {fcap : Nat} (hF : FldsA w B fa F) (hB : B ≤ w.heap.size) :
   Calls Try.prog 72 #[.agg #[.string nm, .slice fa F.length fcap]] w fun e w' => e = .returned (.bool (plain17 F)) ∧ Ext w w' := by
  have hn63 := hF.1
  unfold maxLen at hn63
  go_enter Try.func72, Try.ntmps72
  go_wp2_with fail
  go_loop [3] (fun i => ∃ k : Nat, k ≤ F.length ∧ i = .int .i64 k ∧ ∀ (j : Nat) (x : Fld), j < k → F[j]? = some x → x.kind ≠ 5 ∧ x.kind ≠ 6) (fun i => F.length - (intOf i).toNat)
  case atStart => exact ⟨0, Nat.zero_le _, rfl, fun j f h hj => by omega⟩
  case round =>
    obtain ⟨k, hk, rfl, hall⟩ := hrel
    have HALL := Lib.hid hall; clear hall
    by_cases hlt : k < F.length
    · obtain ⟨x, hx⟩ : ∃ f, F[k]? = some f := ⟨_, List.getElem?_eq_getElem hlt⟩
      obtain ⟨fb, foff, rfl, hfb, hc⟩ := hF.get' hx
      have c0 := hc.kind
      have hfb' : fb < w.heap.size := by omega
      clear hc
      have HX := Lib.hid hx; clear hx
      by_cases h5 : x.kind = 5
      · have e5 : (x.kind == 5) = true := by simp [h5]
        have H5 := Lib.hid h5; clear h5
        go_wp2_with fail
        go_ret
        exact ⟨rb (by symm; rw [plain17, decide_eq_false_iff_not]; intro h; exact (h x (List.mem_of_getElem? HX.out)).1 H5.out), (by repeat (first | exact Ext.refl _ | exact Ext.alloc _ _ | apply Ext.then_dr | apply Ext.then_drN | apply Ext.then_drN2 | (refine Ext.then_al ?_ _)))⟩
      · have e5 : (x.kind == 5) = false := by simp [h5]
        have H5 := Lib.hid h5; clear h5
        by_cases h6 : x.kind = 6
        · have e6 : (x.kind == 6) = true := by simp [h6]
          have H6 := Lib.hid h6; clear h6
          go_wp2_with fail
          go_ret
          exact ⟨rb (by symm; rw [plain17, decide_eq_false_iff_not]; intro h; exact (h x (List.mem_of_getElem? HX.out)).2 H6.out), (by repeat (first | exact Ext.refl _ | exact Ext.alloc _ _ | apply Ext.then_dr | apply Ext.then_drN | apply Ext.then_drN2 | (refine Ext.then_al ?_ _)))⟩
        · have e6 : (x.kind == 6) = false := by simp [h6]
          have H6 := Lib.hid h6; clear h6
          go_wp2_with fail
          go_round
          case rel => exact ⟨k + 1, by omega, by go_num, fun j x' hj hx' => by
            rcases Nat.lt_or_ge j k with h' | h'
            · exact HALL.out j x' h' hx'
            · have : j = k := by omega
              subst this
              have := HX.out
              rw [this] at hx'
              cases hx'
              exact ⟨H5.out, H6.out⟩⟩
          case measure => simp [intOf]; omega
    · go_wp2_with fail
      go_ret
      exact ⟨rb (by symm; rw [plain17, decide_eq_true_iff]; intro x hx; obtain ⟨j, hj⟩ := List.mem_iff_getElem?.1 hx; exact HALL.out j x (by have := lt_of_get hj; omega) hj), (by repeat (first | exact Ext.refl _ | exact Ext.alloc _ _ | apply Ext.then_dr | apply Ext.then_drN | apply Ext.then_drN2 | (refine Ext.then_al ?_ _)))⟩

def fieldErr (t : List Fmt) (f : Fld) (last : Bool) : Int :=
  if shapeS f = false then 1
  else if rangesS f last = false then 7
  else if f.kind ≠ 5 then 0
  else if f.n < 0 ∨ (t.length : Int) ≤ f.n then 4
  else if plain17 (t.getD f.n.toNat default).fields = false then 10
  else 0

set_option maxRecDepth 100000 in
set_option maxHeartbeats 1000000 in
theorem field_any {w : World} {B : Nat} {a : Option Addr} {t : List Fmt} {cap : Nat} (f : Fld) (last : Bool) (hT : TabA w B a t) (hB : B ≤ w.heap.size) :
    Calls Try.prog 46 #[.slice a t.length cap, .agg #[.int .i64 f.kind, .string f.bytes, .int .i64 f.n, .int .i64 f.low, .int .i64 f.high], .bool last] w fun e w' => e = .returned (.int .i64 (fieldErr t f last)) ∧ Ext w w' := by
  have hn63 := hT.1
  unfold maxLen at hn63
  obtain ⟨res, hres⟩ : ∃ res, res = fieldErr t f last := ⟨_, rfl⟩
  rw [← hres]
  rw [fieldErr] at hres
  generalize hsh : shapeS f = sh at *
  have HSH := Lib.hid hsh
  cases sh
  · have HRES := Lib.hid hres; clear hres hsh
    go_enter Try.func46, Try.ntmps46
    go_wp2_with fail
    refine (shape_any f).mono ?_
    rw [HSH.out]
    rintro e w1 ⟨rfl, hb1⟩
    go_wp2_with fail
    go_ret
    exact ⟨ri (by rw [HRES.out]; simp), hb1.al⟩
  · generalize hrg : rangesS f last = rg at *
    have HRG := Lib.hid hrg
    cases rg
    · have HRES := Lib.hid hres; clear hres hsh hrg
      go_enter Try.func46, Try.ntmps46
      go_wp2_with fail
      refine (shape_any f).mono ?_
      rw [HSH.out]
      rintro e w1 ⟨rfl, hb1⟩
      obtain ⟨hc1, -, hs1⟩ := hb1.cells1
      go_wp2_with fail
      refine (ranges_any f last).mono ?_
      rw [HRG.out]
      rintro e w2 ⟨rfl, hb2⟩
      go_wp2_with fail
      go_ret
      exact ⟨ri (by rw [HRES.out]; simp), hb1.al.trans hb2⟩
    · by_cases hk : f.kind = 5
      · have e5 : (f.kind != 5) = false := by simp [hk]
        by_cases hneg : f.n < 0
        · have HRES := Lib.hid hres; clear hres hsh hrg
          have HK := Lib.hid hk; clear hk
          go_enter Try.func46, Try.ntmps46
          go_wp2_with fail
          refine (shape_any f).mono ?_
          rw [HSH.out]
          rintro e w1 ⟨rfl, hb1⟩
          obtain ⟨hc1, -, hs1⟩ := hb1.cells1
          have hl1 : w.heap.size < w1.heap.size := by omega
          go_wp2_with fail
          refine (ranges_any f last).mono ?_
          rw [HRG.out]
          rintro e w2 ⟨rfl, hb2⟩
          obtain ⟨hc2, -⟩ := hb2.cells
          go_wp2_with fail
          go_ret
          exact ⟨ri (by rw [HRES.out]; simp [HK.out, hneg]), hb1.al.trans hb2⟩
        · obtain ⟨j, hj⟩ : ∃ j : Nat, f.n = j := ⟨f.n.toNat, by omega⟩
          by_cases hge : t.length ≤ j
          · have HRES := Lib.hid hres; clear hres hsh hrg
            have HJ := Lib.hid hj; clear hj
            have HK := Lib.hid hk; clear hk
            go_enter Try.func46, Try.ntmps46
            go_wp2_with fail
            refine (shape_any f).mono ?_
            rw [HSH.out]
            rintro e w1 ⟨rfl, hb1⟩
            obtain ⟨hc1, -, hs1⟩ := hb1.cells1
            have hl1 : w.heap.size < w1.heap.size := by omega
            go_wp2_with fail
            refine (ranges_any f last).mono ?_
            rw [HRG.out]
            rintro e w2 ⟨rfl, hb2⟩
            have hj := HJ.out
            obtain ⟨hc2, -⟩ := hb2.cells
            go_wp2_with fail
            go_ret
            exact ⟨ri (by rw [HRES.out]; simp [HK.out, hj, hge]), hb1.al.trans hb2⟩
          · obtain ⟨gm, hgm⟩ : ∃ g, t[j]? = some g := ⟨_, List.getElem?_eq_getElem (by omega)⟩
            obtain ⟨tb, toff, ga, gcap, rfl, htb, htn, htc, hG, -⟩ := hT.at' hgm
            have hgd : (t.getD f.n.toNat default).fields = gm.fields := by simp [hj, hgm]
            rw [hgd] at hres
            have HRES := Lib.hid hres; clear hres hsh hrg hgd
            have HJ := Lib.hid hj; clear hj
            have HK := Lib.hid hk; clear hk
            have hjl := lt_of_get hgm
            have HGM := Lib.hid hgm; clear hgm
            have htb' : tb < w.heap.size := by omega
            go_enter Try.func46, Try.ntmps46
            go_wp2_with fail
            refine (shape_any f).mono ?_
            rw [HSH.out]
            rintro e w1 ⟨rfl, hb1⟩
            obtain ⟨hc1, -, hs1⟩ := hb1.cells1
            have hl1 : w.heap.size < w1.heap.size := by omega
            go_wp2_with fail
            refine (ranges_any f last).mono ?_
            rw [HRG.out]
            rintro e w2 ⟨rfl, hb2⟩
            have hj := HJ.out
            have hE : Ext w w2 := hb1.al.trans hb2
            obtain ⟨hc2, -⟩ := hb2.cells
            have d1 := cs_ext hE htn
            have d2 := cs_ext hE htc
            go_wp2_with fail
            generalize hpl : plain17 gm.fields = pl
            have HPL := Lib.hid hpl
            refine (plain17_any (hG.ext hB hE) (by have := hE.size; omega)).mono ?_
            rw [hpl]
            clear hpl
            rintro e w3 ⟨rfl, hb3⟩
            cases pl
            all_goals
              go_wp2_with fail
              go_ret
              exact ⟨ri (by rw [HRES.out, HPL.out]; have hj0 : ¬ ((j : Int) < 0) := by omega
                            simp [HK.out, hj0, *]; try omega), hE.trans hb3⟩
      · have e5 : (f.kind != 5) = true := by simp [hk]
        have HRES := Lib.hid hres; clear hres hsh hrg
        have HK := Lib.hid hk; clear hk
        go_enter Try.func46, Try.ntmps46
        go_wp2_with fail
        refine (shape_any f).mono ?_
        rw [HSH.out]
        rintro e w1 ⟨rfl, hb1⟩
        obtain ⟨hc1, -, hs1⟩ := hb1.cells1
        have hl1 : w.heap.size < w1.heap.size := by omega
        go_wp2_with fail
        refine (ranges_any f last).mono ?_
        rw [HRG.out]
        rintro e w2 ⟨rfl, hb2⟩
        obtain ⟨hc2, -⟩ := hb2.cells
        go_wp2_with fail
        go_ret
        exact ⟨ri (by rw [HRES.out]; simp [HK.out]), hb1.al.trans hb2⟩

end Go.Proofs.Ythoelnoahfedmaa

namespace Go.Proofs.Ythoelnoahfedmaa
open Go.RowKit
set_option linter.unusedVariables false
set_option linter.unusedSimpArgs false

/-- the first number that is not 0, or 0 -/
def errFrom (g : Nat → Int) (n : Nat) : Int := (((List.range n).map g).find? (· != 0)).getD 0

theorem err_zero {g : Nat → Int} {n : Nat} (h : ∀ j, j < n → g j = 0) : errFrom g n = 0 := by
  have : ((List.range n).map g).find? (· != 0) = none := by
    rw [List.find?_eq_none]
    intro x hx
    obtain ⟨j, hj, rfl⟩ := List.mem_map.1 hx
    simp [h j (List.mem_range.1 hj)]
  rw [errFrom, this]; rfl
theorem err_at {g : Nat → Int} {n k : Nat} (hk : k < n) (hne : g k ≠ 0) (h : ∀ j, j < k → g j = 0) : errFrom g n = g k := by
  induction n with
  | zero => omega
  | succ n ih =>
    rw [errFrom, List.range_succ, List.map_append, List.find?_append]
    by_cases hkn : k < n
    · have := ih hkn
      unfold errFrom at this
      cases hf : ((List.range n).map g).find? (· != 0) with
      | none => rw [hf] at this; exact absurd this.symm hne
      | some x => rw [hf] at this; simpa using this
    · have hkn : k = n := by omega
      subst hkn
      have : ((List.range k).map g).find? (· != 0) = none := by
        rw [List.find?_eq_none]
        intro x hx
        obtain ⟨j, hj, rfl⟩ := List.mem_map.1 hx
        simp [h j (List.mem_range.1 hj)]
      rw [this]
      simp [hne]

def fldE (t : List Fmt) (F : List Fld) (i k : Nat) : Int := match F[k]? with | some x => fieldErr (t.take i) x (decide (k + 1 = F.length)) | none => 0
def fmtErr (t : List Fmt) (i : Nat) (fm : Fmt) : Int :=
  if nameOk fm.name = false then 2 else if 0 ≤ findS (t.take i) fm.name then 5 else if fm.fields.length = 0 then 8 else if 6 < fm.fields.length then 3
  else errFrom (fldE t fm.fields i) fm.fields.length
def fmtE (t : List Fmt) (i : Nat) : Int := match t[i]? with | some fm => fmtErr t i fm | none => 0
def validT (t : List Fmt) : Int := if 8 < t.length then 3 else errFrom (fmtE t) t.length

theorem fmtE_at {t : List Fmt} {i : Nat} {fm : Fmt} (h : t[i]? = some fm) : fmtE t i = fmtErr t i fm := by simp [fmtE, h]
theorem fldE_at {t : List Fmt} {F : List Fld} {i k : Nat} {x : Fld} (h : F[k]? = some x) : fldE t F i k = fieldErr (t.take i) x (decide (k + 1 = F.length)) := by simp [fldE, h]

theorem all_succ {g : Nat → Int} {k : Nat} (h : ∀ j, j < k → g j = 0) (hk : g k = 0) : ∀ j, j < k + 1 → g j = 0 := fun j hj => by
  rcases Nat.lt_or_ge j k with h' | h'
  · exact h j h'
  · have : j = k := by omega
    rw [this]; exact hk

set_option maxRecDepth 100000 in
set_option maxHeartbeats 4000000 in
theorem Valid17_any {w : World} {B : Nat} {a : Option Addr} {t : List Fmt} {cap : Nat} (hT : TabA w B a t) (hB : B ≤ w.heap.size) (hcap : t.length ≤ cap) (hcap2 : cap ≤ 9223372036854775807) :
    Calls Try.prog 24 #[.slice a t.length cap] w fun e w' => e = .returned (.int .i64 (validT t)) ∧ Ext w w' := by
  by_cases h8 : 8 < t.length
  · have e1 : decide ((8 : Int) < (t.length : Int)) = true := decide_eq_true (by omega)
    have HR : Hid (validT t = 3) := by show _ = _; rw [validT, if_pos h8]
    go_enter Try.func24, Try.ntmps24
    go_wp2_with fail
    go_ret
    exact ⟨ri HR.out.symm, Ext.refl _⟩
  · have e1 : decide ((8 : Int) < (t.length : Int)) = false := decide_eq_false (by omega)
    have HR : Hid (validT t = errFrom (fmtE t) t.length) := by show _ = _; rw [validT, if_neg h8]
    obtain ⟨res, hres⟩ : ∃ res, res = validT t := ⟨_, rfl⟩
    rw [← hres]
    have HRES := Lib.hid hres; clear hres
    go_enter Try.func24, Try.ntmps24
    go_wp2_with fail
    go_loopw [3, 4, 5, 6] (fun i _ _ _ wr => ∃ m : Nat, m ≤ t.length ∧ i = .int .i64 m ∧ Ext w wr ∧ ∀ j, j < m → fmtE t j = 0) (fun i _ _ _ _ => t.length - (intOf i).toNat)
    case atStart => exact ⟨0, Nat.zero_le _, rfl, Ext.refl _, fun j h => by omega⟩
    case round =>
      obtain ⟨m, hm, rfl, hE, hall⟩ := hrel
      have HALL := Lib.hid hall; clear hall
      have hBr : B ≤ wr.heap.size := by have := hE.size; omega
      have hTr := hT.ext hB hE
      by_cases hlt : m < t.length
      · obtain ⟨fm, hf⟩ : ∃ f, t[m]? = some f := ⟨_, List.getElem?_eq_getElem hlt⟩
        obtain ⟨tb, toff, fa, fcap, rfl, htb, htn, htc, hF, hnl⟩ := hTr.at' hf
        have HF := Lib.hid hf; clear hf
        have HFE : Hid (fmtE t m = fmtErr t m fm) := fmtE_at HF.out
        have htk : (t.take m).length = m := by rw [List.length_take]; omega
        have hTk := hTr.take m
        by_cases hnm : nameOk fm.name = false
        · have HFF : Hid (fmtErr t m fm = 2) := by show _ = _; rw [fmtErr, if_pos hnm]
          have HNM := Lib.hid hnm; clear hnm
          go_wp2_with fail
          refine (name17_any fm.name _ hnl).mono ?_
          rw [HNM.out]
          rintro e w' ⟨rfl, rfl⟩
          go_wp2_with fail
          go_ret
          exact ⟨ri (by rw [HRES.out, HR.out, err_at hlt (by rw [HFE.out, HFF.out]; decide) HALL.out, HFE.out, HFF.out]), hE⟩
        · have hnm' : nameOk fm.name = true := by simpa using hnm
          have hNM := Lib.hid hnm'
          clear hnm hnm'
          have hlt' : (m : Int) < (t.length : Int) := by omega
          have hcp' : (m : Int) ≤ (cap : Int) := by omega
          have hm0' : (0 : Int) ≤ (m : Int) := by omega
          generalize hfv : findS (t.take m) fm.name = fv at *
          have HFV := Lib.hid hfv
          by_cases hfd : 0 ≤ fv
          · have e2 : decide ((0 : Int) ≤ fv) = true := decide_eq_true hfd
            have HFF : Hid (fmtErr t m fm = 5) := by show _ = _; rw [fmtErr, if_neg (by simp [hNM.out]), hfv, if_pos hfd]
            clear hfv
            go_wp2_with fail
            refine (name17_any fm.name _ hnl).mono ?_
            rw [hNM.out]
            rintro e w' ⟨rfl, rfl⟩
            go_wp2_with fail
            refine wp_region_calm 10 (fun w' => Ext (wr) w') (by kernel_rfl) (by kernel_rfl) (fun _ _ h hE => h.trans hE) (Ext.drew _) ?_
            refine calm_value (fun _ => rfl) ?_ (fun g w' hE => ?_) ?_
            rotate_left
            · (have zz0 := cs_ext hE htn; go_simp; first | done | rfl)
            refine calm_value (fun _ => rfl) ?_ (fun g w' hE => ?_) ?_
            rotate_left
            · (have zz0 := cs_ext hE htn; go_simp; first | done | rfl)
            refine calm_value (fun _ => rfl) ?_ (fun g w' hE => ?_) ?_
            rotate_left
            · (have zz0 := cs_ext hE htn; go_simp; first | done | rfl)
            refine calm_value (fun _ => rfl) ?_ (fun g w' hE => ?_) ?_
            rotate_left
            · (have zz0 := cs_ext hE htn; go_simp; first | done | rfl)
            refine calm_value (fun _ => rfl) ?_ (fun g w' hE => ?_) ?_
            rotate_left
            · (have zz0 := cs_ext hE htn; go_simp; first | done | rfl)
            refine calm_value (fun _ => rfl) ?_ (fun g w' hE => ?_) ?_
            rotate_left
            · (have zz0 := cs_ext hE htn; go_simp; first | done | rfl)
            refine calm_value (fun _ => rfl) ?_ (fun g w' hE => ?_) ?_
            rotate_left
            · (have zz0 := cs_ext hE htn; go_simp; first | done | rfl)
            refine calm_value (fun _ => rfl) ?_ (fun g w' hE => ?_) ?_
            rotate_left
            · (have zz0 := cs_ext hE htn; go_simp; first | done | rfl)
            refine calm_call' (fun _ => rfl) 45 ?_ (fun g w' hE => ?_) ?_
            rotate_left
            · (have zz0 := cs_ext hE htn; go_simp; first | done | exact ⟨rfl, rfl⟩ | rfl)
            apply Exists.intro
            refine And.intro (fun w' hE => ?_) ?_
            · (have h := find_any (cap := cap) fm.name (hTk.ext hBr hE) (by have := hE.size; omega); rw [htk, HFV.out] at h; exact h.mono fun e w'' ⟨he, hw⟩ => ⟨he, hw ▸ Ext.refl _⟩)
            refine calm_value (fun _ => rfl) ?_ (fun g w' hE => ?_) ?_
            rotate_left
            · (have zz0 := cs_ext hE htn; go_simp; first | done | rfl)
            intro gg wz hEz hFz
            simp only [List.drop_succ_cons, List.drop_zero, Act.put, List.setIfInBounds_toArray, List.set_cons_succ, List.set_cons_zero]
            have hEw : Ext w wz := hE.trans hEz
            go_wp2_with fail
            go_ret
            exact ⟨ri (by rw [HRES.out, HR.out, err_at hlt (by rw [HFE.out, HFF.out]; decide) HALL.out, HFE.out, HFF.out]), hEw⟩
          · have e2 : decide ((0 : Int) ≤ fv) = false := decide_eq_false hfd
            by_cases hz : fm.fields.length = 0
            · have e3 : ((fm.fields.length : Int) == 0) = true := beq_iff_eq.2 (by omega)
              have HFF : Hid (fmtErr t m fm = 8) := by show _ = _; rw [fmtErr, if_neg (by simp [hNM.out]), hfv, if_neg hfd, if_pos hz]
              have HZ := Lib.hid hz; clear hz
              clear hfv
              go_wp2_with fail
              refine (name17_any fm.name _ hnl).mono ?_
              rw [hNM.out]
              rintro e w' ⟨rfl, rfl⟩
              go_wp2_with fail
              refine wp_region_calm 10 (fun w' => Ext (wr) w') (by kernel_rfl) (by kernel_rfl) (fun _ _ h hE => h.trans hE) (Ext.drew _) ?_
              refine calm_value (fun _ => rfl) ?_ (fun g w' hE => ?_) ?_
              rotate_left
              · (have zz0 := cs_ext hE htn; go_simp; first | done | rfl)
              refine calm_value (fun _ => rfl) ?_ (fun g w' hE => ?_) ?_
              rotate_left
              · (have zz0 := cs_ext hE htn; go_simp; first | done | rfl)
              refine calm_value (fun _ => rfl) ?_ (fun g w' hE => ?_) ?_
              rotate_left
              · (have zz0 := cs_ext hE htn; go_simp; first | done | rfl)
              refine calm_value (fun _ => rfl) ?_ (fun g w' hE => ?_) ?_
              rotate_left
              · (have zz0 := cs_ext hE htn; go_simp; first | done | rfl)
              refine calm_value (fun _ => rfl) ?_ (fun g w' hE => ?_) ?_
              rotate_left
              · (have zz0 := cs_ext hE htn; go_simp; first | done | rfl)
              refine calm_value (fun _ => rfl) ?_ (fun g w' hE => ?_) ?_
              rotate_left
              · (have zz0 := cs_ext hE htn; go_simp; first | done | rfl)
              refine calm_value (fun _ => rfl) ?_ (fun g w' hE => ?_) ?_
              rotate_left
              · (have zz0 := cs_ext hE htn; go_simp; first | done | rfl)
              refine calm_value (fun _ => rfl) ?_ (fun g w' hE => ?_) ?_
              rotate_left
              · (have zz0 := cs_ext hE htn; go_simp; first | done | rfl)
              refine calm_call' (fun _ => rfl) 45 ?_ (fun g w' hE => ?_) ?_
              rotate_left
              · (have zz0 := cs_ext hE htn; go_simp; first | done | exact ⟨rfl, rfl⟩ | rfl)
              apply Exists.intro
              refine And.intro (fun w' hE => ?_) ?_
              · (have h := find_any (cap := cap) fm.name (hTk.ext hBr hE) (by have := hE.size; omega); rw [htk, HFV.out] at h; exact h.mono fun e w'' ⟨he, hw⟩ => ⟨he, hw ▸ Ext.refl _⟩)
              refine calm_value (fun _ => rfl) ?_ (fun g w' hE => ?_) ?_
              rotate_left
              · (have zz0 := cs_ext hE htn; go_simp; first | done | rfl)
              intro gg wz hEz hFz
              simp only [List.drop_succ_cons, List.drop_zero, Act.put, List.setIfInBounds_toArray, List.set_cons_succ, List.set_cons_zero]
              have hEw : Ext w wz := hE.trans hEz
              have d2 := cs_ext hEz htc
              go_wp2_with fail
              go_ret
              exact ⟨ri (by rw [HRES.out, HR.out, err_at hlt (by rw [HFE.out, HFF.out]; decide) HALL.out, HFE.out, HFF.out]), hEw⟩
            · have e3 : ((fm.fields.length : Int) == 0) = false := beq_eq_false_iff_ne.2 (by omega)
              by_cases h6 : 6 < fm.fields.length
              · have e4 : decide ((6 : Int) < (fm.fields.length : Int)) = true := decide_eq_true (by omega)
                have HFF : Hid (fmtErr t m fm = 3) := by show _ = _; rw [fmtErr, if_neg (by simp [hNM.out]), hfv, if_neg hfd, if_neg hz, if_pos h6]
                clear hfv
                go_wp2_with fail
                refine (name17_any fm.name _ hnl).mono ?_
                rw [hNM.out]
                rintro e w' ⟨rfl, rfl⟩
                go_wp2_with fail
                refine wp_region_calm 10 (fun w' => Ext (wr) w') (by kernel_rfl) (by kernel_rfl) (fun _ _ h hE => h.trans hE) (Ext.drew _) ?_
                refine calm_value (fun _ => rfl) ?_ (fun g w' hE => ?_) ?_
                rotate_left
                · (have zz0 := cs_ext hE htn; go_simp; first | done | rfl)
                refine calm_value (fun _ => rfl) ?_ (fun g w' hE => ?_) ?_
                rotate_left
                · (have zz0 := cs_ext hE htn; go_simp; first | done | rfl)
                refine calm_value (fun _ => rfl) ?_ (fun g w' hE => ?_) ?_
                rotate_left
                · (have zz0 := cs_ext hE htn; go_simp; first | done | rfl)
                refine calm_value (fun _ => rfl) ?_ (fun g w' hE => ?_) ?_
                rotate_left
                · (have zz0 := cs_ext hE htn; go_simp; first | done | rfl)
                refine calm_value (fun _ => rfl) ?_ (fun g w' hE => ?_) ?_
                rotate_left
                · (have zz0 := cs_ext hE htn; go_simp; first | done | rfl)
                refine calm_value (fun _ => rfl) ?_ (fun g w' hE => ?_) ?_
                rotate_left
                · (have zz0 := cs_ext hE htn; go_simp; first | done | rfl)
                refine calm_value (fun _ => rfl) ?_ (fun g w' hE => ?_) ?_
                rotate_left
                · (have zz0 := cs_ext hE htn; go_simp; first | done | rfl)
                refine calm_value (fun _ => rfl) ?_ (fun g w' hE => ?_) ?_
                rotate_left
                · (have zz0 := cs_ext hE htn; go_simp; first | done | rfl)
                refine calm_call' (fun _ => rfl) 45 ?_ (fun g w' hE => ?_) ?_
                rotate_left
                · (have zz0 := cs_ext hE htn; go_simp; first | done | exact ⟨rfl, rfl⟩ | rfl)
                apply Exists.intro
                refine And.intro (fun w' hE => ?_) ?_
                · (have h := find_any (cap := cap) fm.name (hTk.ext hBr hE) (by have := hE.size; omega); rw [htk, HFV.out] at h; exact h.mono fun e w'' ⟨he, hw⟩ => ⟨he, hw ▸ Ext.refl _⟩)
                refine calm_value (fun _ => rfl) ?_ (fun g w' hE => ?_) ?_
                rotate_left
                · (have zz0 := cs_ext hE htn; go_simp; first | done | rfl)
                intro gg wz hEz hFz
                simp only [List.drop_succ_cons, List.drop_zero, Act.put, List.setIfInBounds_toArray, List.set_cons_succ, List.set_cons_zero]
                have hEw : Ext w wz := hE.trans hEz
                have d2 := cs_ext hEz htc
                have hl6 := hF.1
                unfold maxLen at hl6
                go_wp2_with fail
                go_ret
                exact ⟨ri (by rw [HRES.out, HR.out, err_at hlt (by rw [HFE.out, HFF.out]; decide) HALL.out, HFE.out, HFF.out]), hEw⟩
              · have e4 : decide ((6 : Int) < (fm.fields.length : Int)) = false := decide_eq_false (by omega)
                have HFF : Hid (fmtErr t m fm = errFrom (fldE t fm.fields m) fm.fields.length) := by show _ = _; rw [fmtErr, if_neg (by simp [hNM.out]), hfv, if_neg hfd, if_neg hz, if_neg h6]
                clear hfv
                have hw1 : IntKind.i64.wrap ((fm.fields.length : Int) - 1) = (fm.fields.length : Int) - 1 := IntWalk.i64_in _ (by omega)
                have HW1 := Lib.hid hw1; clear hw1
                go_wp2_with fail
                refine (name17_any fm.name _ hnl).mono ?_
                rw [hNM.out]
                rintro e w' ⟨rfl, rfl⟩
                go_wp2_with fail
                refine wp_region_calm 10 (fun w' => Ext (wr) w') (by kernel_rfl) (by kernel_rfl) (fun _ _ h hE => h.trans hE) (Ext.drew _) ?_
                refine calm_value (fun _ => rfl) ?_ (fun g w' hE => ?_) ?_
                rotate_left
                · (have zz0 := cs_ext hE htn; go_simp; first | done | rfl)
                refine calm_value (fun _ => rfl) ?_ (fun g w' hE => ?_) ?_
                rotate_left
                · (have zz0 := cs_ext hE htn; go_simp; first | done | rfl)
                refine calm_value (fun _ => rfl) ?_ (fun g w' hE => ?_) ?_
                rotate_left
                · (have zz0 := cs_ext hE htn; go_simp; first | done | rfl)
                refine calm_value (fun _ => rfl) ?_ (fun g w' hE => ?_) ?_
                rotate_left
                · (have zz0 := cs_ext hE htn; go_simp; first | done | rfl)
                refine calm_value (fun _ => rfl) ?_ (fun g w' hE => ?_) ?_
                rotate_left
                · (have zz0 := cs_ext hE htn; go_simp; first | done | rfl)
                refine calm_value (fun _ => rfl) ?_ (fun g w' hE => ?_) ?_
                rotate_left
                · (have zz0 := cs_ext hE htn; go_simp; first | done | rfl)
                refine calm_value (fun _ => rfl) ?_ (fun g w' hE => ?_) ?_
                rotate_left
                · (have zz0 := cs_ext hE htn; go_simp; first | done | rfl)
                refine calm_value (fun _ => rfl) ?_ (fun g w' hE => ?_) ?_
                rotate_left
                · (have zz0 := cs_ext hE htn; go_simp; first | done | rfl)
                refine calm_call' (fun _ => rfl) 45 ?_ (fun g w' hE => ?_) ?_
                rotate_left
                · (have zz0 := cs_ext hE htn; go_simp; first | done | exact ⟨rfl, rfl⟩ | rfl)
                apply Exists.intro
                refine And.intro (fun w' hE => ?_) ?_
                · (have h := find_any (cap := cap) fm.name (hTk.ext hBr hE) (by have := hE.size; omega); rw [htk, HFV.out] at h; exact h.mono fun e w'' ⟨he, hw⟩ => ⟨he, hw ▸ Ext.refl _⟩)
                refine calm_value (fun _ => rfl) ?_ (fun g w' hE => ?_) ?_
                rotate_left
                · (have zz0 := cs_ext hE htn; go_simp; first | done | rfl)
                intro gg wz hEz hFz
                simp only [List.drop_succ_cons, List.drop_zero, Act.put, List.setIfInBounds_toArray, List.set_cons_succ, List.set_cons_zero]
                have hEw : Ext w wz := hE.trans hEz
                have d2 := cs_ext hEz htc
                go_wp2_with fail
                go_loopw [5, 6] (fun i _ wr => ∃ q : Nat, q ≤ fm.fields.length ∧ i = .int .i64 q ∧ Ext wz wr ∧ ∀ j, j < q → fldE t fm.fields m j = 0) (fun i _ _ => fm.fields.length - (intOf i).toNat)
                case atStart => exact ⟨0, Nat.zero_le _, rfl, Ext.refl _, fun j h => by omega⟩
                case round =>
                  obtain ⟨q, hq, rfl, hE2, hall2⟩ := hrel
                  have HALL2 := Lib.hid hall2; clear hall2
                  have hEq := hEw.trans hE2
                  have hBq : B ≤ wr.heap.size := by have := hEq.size; omega
                  have hTq := hT.ext hB hEq
                  by_cases hlq : q < fm.fields.length
                  · obtain ⟨x, hx⟩ : ∃ f, fm.fields[q]? = some f := ⟨_, List.getElem?_eq_getElem hlq⟩
                    obtain ⟨fb, foff, hfa, hfb, hc⟩ := (hF.ext hBr (hEz.trans hE2)).get' hx
                    subst hfa
                    obtain ⟨c0, c1, c2, c3, c4, cw⟩ := hc
                    have HX := Lib.hid hx; clear hx
                    have hlq' : (q : Int) < (fm.fields.length : Int) := by omega
                    have hq0' : (0 : Int) ≤ (q : Int) := by omega
                    have d3 := cs_ext hE2 d2
                    have hlast : ((q : Int) == (fm.fields.length : Int) - 1) = decide (q + 1 = fm.fields.length) := by rw [Bool.eq_iff_iff]; simp; omega
                    have HXE : Hid (fldE t fm.fields m q = fieldErr (t.take m) x (decide (q + 1 = fm.fields.length))) := fldE_at HX.out
                    generalize hev : fieldErr (t.take m) x (decide (q + 1 = fm.fields.length)) = ev at HXE
                    have HEV := Lib.hid hev; clear hev
                    generalize hld : decide (q + 1 = fm.fields.length) = ld at hlast HEV
                    have hw1 := HW1.out
                    go_wp2_with fail
                    refine wp_region_calm 17 (fun w' => Ext (wr) w') (by kernel_rfl) (by kernel_rfl) (fun _ _ h hE => h.trans hE) (Ext.drew _) ?_
                    refine calm_value (fun _ => rfl) ?_ (fun g w' hE => ?_) ?_
                    rotate_left
                    · (have zz0 := cs_ext hE d3; have zz1 := cs_ext hE c0; have zz2 := cs_ext hE c1; have zz3 := cs_ext hE c2; have zz4 := cs_ext hE c3; have zz5 := cs_ext hE c4; go_simp; first | done | rfl)
                    refine calm_value (fun _ => rfl) ?_ (fun g w' hE => ?_) ?_
                    rotate_left
                    · (have zz0 := cs_ext hE d3; have zz1 := cs_ext hE c0; have zz2 := cs_ext hE c1; have zz3 := cs_ext hE c2; have zz4 := cs_ext hE c3; have zz5 := cs_ext hE c4; go_simp; first | done | rfl)
                    refine calm_value (fun _ => rfl) ?_ (fun g w' hE => ?_) ?_
                    rotate_left
                    · (have zz0 := cs_ext hE d3; have zz1 := cs_ext hE c0; have zz2 := cs_ext hE c1; have zz3 := cs_ext hE c2; have zz4 := cs_ext hE c3; have zz5 := cs_ext hE c4; go_simp; first | done | rfl)
                    refine calm_value (fun _ => rfl) ?_ (fun g w' hE => ?_) ?_
                    rotate_left
                    · (have zz0 := cs_ext hE d3; have zz1 := cs_ext hE c0; have zz2 := cs_ext hE c1; have zz3 := cs_ext hE c2; have zz4 := cs_ext hE c3; have zz5 := cs_ext hE c4; go_simp; first | done | rfl)
                    refine calm_value (fun _ => rfl) ?_ (fun g w' hE => ?_) ?_
                    rotate_left
                    · (have zz0 := cs_ext hE d3; have zz1 := cs_ext hE c0; have zz2 := cs_ext hE c1; have zz3 := cs_ext hE c2; have zz4 := cs_ext hE c3; have zz5 := cs_ext hE c4; go_simp; first | done | rfl)
                    refine calm_value (fun _ => rfl) ?_ (fun g w' hE => ?_) ?_
                    rotate_left
                    · (have zz0 := cs_ext hE d3; have zz1 := cs_ext hE c0; have zz2 := cs_ext hE c1; have zz3 := cs_ext hE c2; have zz4 := cs_ext hE c3; have zz5 := cs_ext hE c4; go_simp; first | done | rfl)
                    refine calm_value (fun _ => rfl) ?_ (fun g w' hE => ?_) ?_
                    rotate_left
                    · (have zz0 := cs_ext hE d3; have zz1 := cs_ext hE c0; have zz2 := cs_ext hE c1; have zz3 := cs_ext hE c2; have zz4 := cs_ext hE c3; have zz5 := cs_ext hE c4; go_simp; first | done | rfl)
                    refine calm_value (fun _ => rfl) ?_ (fun g w' hE => ?_) ?_
                    rotate_left
                    · (have zz0 := cs_ext hE d3; have zz1 := cs_ext hE c0; have zz2 := cs_ext hE c1; have zz3 := cs_ext hE c2; have zz4 := cs_ext hE c3; have zz5 := cs_ext hE c4; go_simp; first | done | rfl)
                    refine calm_value (fun _ => rfl) ?_ (fun g w' hE => ?_) ?_
                    rotate_left
                    · (have zz0 := cs_ext hE d3; have zz1 := cs_ext hE c0; have zz2 := cs_ext hE c1; have zz3 := cs_ext hE c2; have zz4 := cs_ext hE c3; have zz5 := cs_ext hE c4; go_simp; first | done | rfl)
                    refine calm_value (fun _ => rfl) ?_ (fun g w' hE => ?_) ?_
                    rotate_left
                    · (have zz0 := cs_ext hE d3; have zz1 := cs_ext hE c0; have zz2 := cs_ext hE c1; have zz3 := cs_ext hE c2; have zz4 := cs_ext hE c3; have zz5 := cs_ext hE c4; go_simp; first | done | rfl)
                    refine calm_value (fun _ => rfl) ?_ (fun g w' hE => ?_) ?_
                    rotate_left
                    · (have zz0 := cs_ext hE d3; have zz1 := cs_ext hE c0; have zz2 := cs_ext hE c1; have zz3 := cs_ext hE c2; have zz4 := cs_ext hE c3; have zz5 := cs_ext hE c4; go_simp; first | done | rfl)
                    refine calm_value (fun _ => rfl) ?_ (fun g w' hE => ?_) ?_
                    rotate_left
                    · (have zz0 := cs_ext hE d3; have zz1 := cs_ext hE c0; have zz2 := cs_ext hE c1; have zz3 := cs_ext hE c2; have zz4 := cs_ext hE c3; have zz5 := cs_ext hE c4; go_simp; first | done | rfl)
                    refine calm_value (fun _ => rfl) ?_ (fun g w' hE => ?_) ?_
                    rotate_left
                    · (have zz0 := cs_ext hE d3; have zz1 := cs_ext hE c0; have zz2 := cs_ext hE c1; have zz3 := cs_ext hE c2; have zz4 := cs_ext hE c3; have zz5 := cs_ext hE c4; go_simp; first | done | rfl)
                    refine calm_value (fun _ => rfl) ?_ (fun g w' hE => ?_) ?_
                    rotate_left
                    · (have zz0 := cs_ext hE d3; have zz1 := cs_ext hE c0; have zz2 := cs_ext hE c1; have zz3 := cs_ext hE c2; have zz4 := cs_ext hE c3; have zz5 := cs_ext hE c4; go_simp; first | done | rfl)
                    refine calm_value (fun _ => rfl) ?_ (fun g w' hE => ?_) ?_
                    rotate_left
                    · (have zz0 := cs_ext hE d3; have zz1 := cs_ext hE c0; have zz2 := cs_ext hE c1; have zz3 := cs_ext hE c2; have zz4 := cs_ext hE c3; have zz5 := cs_ext hE c4; go_simp; first | done | rfl)
                    refine calm_call' (fun _ => rfl) 46 ?_ (fun g w' hE => ?_) ?_
                    rotate_left
                    · (have zz0 := cs_ext hE d3; have zz1 := cs_ext hE c0; have zz2 := cs_ext hE c1; have zz3 := cs_ext hE c2; have zz4 := cs_ext hE c3; have zz5 := cs_ext hE c4; go_simp; first | done | exact ⟨rfl, rfl⟩ | rfl)
                    apply Exists.intro
                    refine And.intro (fun w' hE => ?_) ?_
                    · (have h := field_any (cap := cap) x ld ((hTq.take m).ext hBq hE) (by have := hE.size; omega); rw [htk, HEV.out] at h; exact h)
                    refine calm_value (fun _ => rfl) ?_ (fun g w' hE => ?_) ?_
                    rotate_left
                    · (have zz0 := cs_ext hE d3; have zz1 := cs_ext hE c0; have zz2 := cs_ext hE c1; have zz3 := cs_ext hE c2; have zz4 := cs_ext hE c3; have zz5 := cs_ext hE c4; go_simp; first | done | rfl)
                    intro g3 wy hEy hFy
                    simp only [List.drop_succ_cons, List.drop_zero, Act.put, List.setIfInBounds_toArray, List.set_cons_succ, List.set_cons_zero]
                    clear hw1 hlast
                    by_cases hev0 : ev = 0
                    · have e5 : (ev != 0) = false := by simp [hev0]
                      have HEV0 := Lib.hid hev0; clear hev0
                      go_wp2_with fail
                      go_roundw
                      case rel => exact ⟨q + 1, by omega, by go_num, hE2.trans hEy, all_succ HALL2.out (by rw [HXE.out, HEV0.out])⟩
                      case measure => simp [intOf]; omega
                    · have e5 : (ev != 0) = true := by simp [hev0]
                      have HEV0 := Lib.hid hev0; clear hev0
                      go_wp2_with fail
                      go_ret
                      have HA : errFrom (fldE t fm.fields m) fm.fields.length = ev := by rw [err_at hlq (by rw [HXE.out]; exact HEV0.out) HALL2.out, HXE.out]
                      exact ⟨ri (by rw [HRES.out, HR.out, err_at hlt (by rw [HFE.out, HFF.out, HA]; exact HEV0.out) HALL.out, HFE.out, HFF.out, HA]), hEq.trans hEy⟩
                  · go_wp2_with fail
                    go_roundw
                    case rel => exact ⟨m + 1, by omega, by go_num, hEq, all_succ HALL.out (by rw [HFE.out, HFF.out, err_zero (fun j hj => HALL2.out j (by omega))])⟩
                    case measure => simp [intOf]; omega
      · go_wp2_with fail
        go_ret
        exact ⟨ri (by rw [HRES.out, HR.out, err_zero (fun j hj => HALL.out j (by omega))]), hE⟩

end Go.Proofs.Ythoelnoahfedmaa

namespace Go.Proofs.Ythoelnoahfedmaa
open Go.RowKit
set_option linter.unusedVariables false
set_option linter.unusedSimpArgs false

theorem errFrom_zero {g : Nat → Int} {n : Nat} (h : errFrom g n = 0) : ∀ j, j < n → g j = 0 := by
  intro j
  induction j using Nat.strongRecOn with
  | _ j ih =>
    intro hj
    by_cases h0 : g j = 0
    · exact h0
    · have := err_at hj h0 (fun i hi => ih i hi (by omega))
      omega

theorem fieldErr_zero {t : List Fmt} {x : Fld} {last : Bool} (h : fieldErr t x last = 0) :
    x.kind = 1 ∧ 1 ≤ x.bytes.size ∧ x.bytes.size ≤ 8 ∨ x.kind = 2 ∧ 1 ≤ x.n ∧ x.n ≤ 15 ∨ x.kind = 3 ∧ 0 ≤ x.n ∧ x.n ≤ 15 ∨ x.kind = 4 ∧ 0 ≤ x.low ∧ x.low ≤ x.high ∧ x.high ≤ 255 ∨
    x.kind = 6 ∧ last = true ∧ 0 ≤ x.low ∧ x.low ≤ x.high ∧ x.high ≤ 1000 ∨ x.kind = 5 ∧ ∃ j : Nat, x.n = j ∧ ∃ gm, t[j]? = some gm ∧ plain17 gm.fields = true := by
  unfold fieldErr at h
  by_cases hs : shapeS x = false
  · rw [if_pos hs] at h; omega
  rw [if_neg hs] at h
  by_cases hr : rangesS x last = false
  · rw [if_pos hr] at h; omega
  rw [if_neg hr] at h
  simp only [Bool.not_eq_false] at hs hr
  by_cases h5 : x.kind = 5
  · rw [if_neg (by simp [h5])] at h
    by_cases hn : x.n < 0 ∨ (t.length : Int) ≤ x.n
    · rw [if_pos hn] at h; omega
    rw [if_neg hn] at h
    by_cases hp : plain17 (t.getD x.n.toNat default).fields = false
    · rw [if_pos hp] at h; omega
    refine .inr (.inr (.inr (.inr (.inr ⟨h5, x.n.toNat, by omega, t[x.n.toNat]'(by omega), List.getElem?_eq_getElem (by omega), ?_⟩))))
    have e : (t.getD x.n.toNat default) = t[x.n.toNat]'(by omega) := by
      rw [List.getD_eq_getElem?_getD, List.getElem?_eq_getElem (by omega)]; rfl
    rw [e] at hp
    simpa using hp
  · rcases kind7 x.kind with k | k | k | k | k | k | ⟨-, k1, k2, k3, k4, k5, k6⟩
    · left; simp only [rangesS, k, if_pos, decide_eq_true_eq] at hr; exact ⟨k, hr⟩
    · right; left; simp [rangesS, k] at hr; exact ⟨k, hr⟩
    · right; right; left; simp [rangesS, k] at hr; exact ⟨k, hr⟩
    · right; right; right; left; simp [rangesS, k] at hr; exact ⟨k, hr⟩
    · exact absurd k h5
    · right; right; right; right; left; simp [rangesS, k] at hr; exact ⟨k, hr⟩
    · simp [shapeS, k1, k2, k3, k4, k5, k6] at hs

theorem valid_fmt {t : List Fmt} (h : validT t = 0) {i : Nat} {fm : Fmt} (hi : t[i]? = some fm) : t.length ≤ 8 ∧ fm.fields ≠ [] ∧ fm.fields.length ≤ 6 ∧
    ∀ (k : Nat) (x : Fld), fm.fields[k]? = some x → fieldErr (t.take i) x (decide (k + 1 = fm.fields.length)) = 0 := by
  unfold validT at h
  by_cases h8 : 8 < t.length
  · rw [if_pos h8] at h; omega
  rw [if_neg h8] at h
  have h1 := errFrom_zero h i (lt_of_get hi)
  rw [fmtE_at hi] at h1
  unfold fmtErr at h1
  repeat (split at h1; · omega)
  refine ⟨by omega, fun e => ?_, by omega, fun k x hk => ?_⟩
  · simp_all
  · have := errFrom_zero h1 k (lt_of_get hk)
    rwa [fldE_at hk] at this

theorem valid_VFmt {t : List Fmt} (h : validT t = 0) {i : Nat} {fm : Fmt} (hi : t[i]? = some fm) : VFmt t fm := by
  obtain ⟨-, h2, h3, h4⟩ := valid_fmt h hi
  refine ⟨h2, h3, fun k x hk => ?_⟩
  rcases fieldErr_zero (h4 k x hk) with h | h | h | h | h | ⟨h5, j, hj, gm, hg, hp⟩
  · exact .inl h
  · exact .inr (.inl h)
  · exact .inr (.inr (.inl h))
  · exact .inr (.inr (.inr (.inl h)))
  · exact .inr (.inr (.inr (.inr (.inl ⟨h.1, by simpa using h.2.1, h.2.2⟩))))
  · refine .inr (.inr (.inr (.inr (.inr ⟨h5, j, hj, gm, ?_, ?_⟩))))
    · rw [List.getElem?_take] at hg
      split at hg
      · exact hg
      · cases hg
    · rw [List.getElem?_take] at hg
      split at hg
      case isFalse => cases hg
      obtain ⟨-, g2, g3, g4⟩ := valid_fmt h hg
      refine ⟨g2, g3, fun k y hy => ?_⟩
      have hpl : ∀ z ∈ gm.fields, z.kind ≠ 5 ∧ z.kind ≠ 6 := by simpa [plain17] using hp
      have hy2 := hpl y (List.mem_of_getElem? hy)
      rcases fieldErr_zero (g4 k y hy) with h | h | h | h | h | h
      · exact .inl h
      · exact .inr (.inl h)
      · exact .inr (.inr (.inl h))
      · exact .inr (.inr (.inr h))
      · exact absurd h.1 hy2.2
      · exact absurd h.1 hy2.1

end Go.Proofs.Ythoelnoahfedmaa

namespace Go.Proofs.Ythoelnoahfedmaa
open Go.RowKit
set_option linter.unusedVariables false
set_option linter.unusedSimpArgs false

/-- numbers of a slice -/
def IntsA (w : World) (a : Option Addr) (l : List Int) : Prop := ∀ (k : Nat) (x : Int), l[k]? = some x → ∃ b off, a = some ⟨b, off, none⟩ ∧ w.cell? ⟨b, off + k, none⟩ = some (.int .i64 x)
theorem IntsA.ext {w w' : World} {a : Option Addr} {l : List Int} (h : IntsA w a l) (hE : Ext w w') : IntsA w' a l := fun k x hk =>
  let ⟨b, off, ha, hc⟩ := h k x hk
  ⟨b, off, ha, cs_ext hE hc⟩

def badIx (n : Nat) (x : Int) : Bool := decide (x < 0) || decide ((n : Int) ≤ x)
/-- the error of a table and indices -/
def errS (t : List Fmt) (l : List Int) : Int := if validT t ≠ 0 then validT t else if l.any (badIx t.length) then 7 else 0

theorem any_at {l : List Int} {p : Int → Bool} {k : Nat} {x : Int} (h : l[k]? = some x) (hp : p x = true) : l.any p = true := by
  rw [List.any_eq_true]; exact ⟨x, List.mem_of_getElem? h, hp⟩
theorem any_no {l : List Int} {p : Int → Bool} (h : ∀ (k : Nat) (x : Int), l[k]? = some x → p x = false) : l.any p = false := by
  rw [List.any_eq_false]
  intro x hx
  obtain ⟨k, hk⟩ := List.mem_iff_getElem?.1 hx
  simp [h k x hk]

set_option maxRecDepth 100000 in
set_option maxHeartbeats 4000000 in
theorem Error_any {w : World} {B : Nat} {a la : Option Addr} {t : List Fmt} {cap lcap : Nat} {l : List Int} (hT : TabA w B a t) (hB : B ≤ w.heap.size) (hcap : t.length ≤ cap) (hcap2 : cap ≤ 9223372036854775807) (hl : IntsA w la l) (hl2 : l.length ≤ 1000) :
    Calls Try.prog 30 #[.slice a t.length cap, .slice la l.length lcap] w fun e w' => e = .returned (.int .i64 (errS t l)) ∧ Ext w w' := by
  have hn63 := hT.1
  unfold maxLen at hn63
  obtain ⟨res, hres⟩ : ∃ res, res = errS t l := ⟨_, rfl⟩
  rw [← hres]
  have HRES := Lib.hid hres; clear hres
  obtain ⟨v0, hv0⟩ : ∃ v0, v0 = validT t := ⟨_, rfl⟩
  have HV0 := Lib.hid hv0
  have hcon := Valid17_any hT hB hcap hcap2
  rw [← hv0] at hcon
  clear hv0
  go_enter Try.func30, Try.ntmps30
  go_wp2_with fail
  refine hcon.mono ?_
  rintro e w1 ⟨rfl, hb1⟩
  by_cases hz : v0 = 0
  · subst hz
    go_wp2_with fail
    go_loop [6] (fun i => ∃ k : Nat, k ≤ l.length ∧ i = .int .i64 k ∧ ∀ j x, j < k → l[j]? = some x → badIx t.length x = false) (fun i => l.length - (intOf i).toNat)
    case atStart => exact ⟨0, Nat.zero_le _, rfl, fun j x h => by omega⟩
    case round =>
      obtain ⟨k, hk, rfl, hall⟩ := hrel
      have HALL := Lib.hid hall; clear hall
      by_cases hlt : k < l.length
      · obtain ⟨x, hx⟩ : ∃ x, l[k]? = some x := ⟨_, List.getElem?_eq_getElem hlt⟩
        obtain ⟨b, off, rfl, hc⟩ := hl.ext hb1 k x hx
        have HX := Lib.hid hx; clear hx
        by_cases h1 : x < 0
        · have e1 : decide (x < 0) = true := decide_eq_true h1
          have HB : Hid (badIx t.length x = true) := by show _ = _; simp [badIx, e1]
          go_wp2_with fail
          go_ret
          exact ⟨ri (by rw [HRES.out, errS, if_neg (by rw [← HV0.out]; simp), any_at HX.out HB.out]; rfl), hb1⟩
        · have e1 : decide (x < 0) = false := decide_eq_false h1
          by_cases h2 : (t.length : Int) ≤ x
          · have e2 : decide ((t.length : Int) ≤ x) = true := decide_eq_true h2
            have HB : Hid (badIx t.length x = true) := by show _ = _; simp [badIx, e2]
            go_wp2_with fail
            go_ret
            exact ⟨ri (by rw [HRES.out, errS, if_neg (by rw [← HV0.out]; simp), any_at HX.out HB.out]; rfl), hb1⟩
          · have e2 : decide ((t.length : Int) ≤ x) = false := decide_eq_false h2
            have HB : Hid (badIx t.length x = false) := by show _ = _; simp [badIx, e1, e2]
            go_wp2_with fail
            go_round
            case rel => exact ⟨k + 1, by omega, by go_num, fun j y hj hy => by
              rcases Nat.lt_or_ge j k with h' | h'
              · exact HALL.out j y h' hy
              · have : j = k := by omega
                subst this
                have := HX.out
                rw [this] at hy
                cases hy
                exact HB.out⟩
            case measure => simp [intOf]; omega
      · go_wp2_with fail
        go_ret
        exact ⟨ri (by rw [HRES.out, errS, if_neg (by rw [← HV0.out]; simp), any_no (fun j x hx => HALL.out j x (by have := (List.getElem?_eq_some_iff.1 hx).1; omega) hx)]; rfl), hb1⟩
  · have e1 : (v0 == 0) = false := beq_eq_false_iff_ne.2 hz
    go_wp2_with fail
    go_ret
    exact ⟨ri (by rw [HRES.out, errS, if_pos (by rw [← HV0.out]; exact hz), HV0.out]), hb1⟩

end Go.Proofs.Ythoelnoahfedmaa
