/- Contracts: the reference's name. Contracts: the reference's words of sorts. -/
import Derived.Test.YtpfnlbaloaohgaaG2
import Derived.Test.YtpfnlbaloaohgaaH1
namespace Go.Proofs.Ytpfnlbaloaohgaa
open Go Go.RowKit
set_option linter.unusedVariables false
set_option linter.unusedSimpArgs false

def nmC (c : UInt8) : Bool := letterB c || (digitB c || (c.toNat == 95 || c.toNat == 35))
/-- the place behind the bytes of a name, from i on -/
def nameN (s : ByteArray) : Nat → Nat → Nat
 | 0, i => i
 | f + 1, i => if h : i < s.size then (if nmC s[i] then nameN s f (i + 1) else i) else i
def nameP (s : ByteArray) : ByteArray := s.extract 0 (nameN s s.size 0)
theorem nameN_le (s : ByteArray) : ∀ f i, i ≤ s.size → nameN s f i ≤ s.size
 | 0, i, h => h
 | f + 1, i, h => by
   rw [nameN]
   split
   · split
     · exact nameN_le s f (i + 1) (by omega)
     · exact h
   · exact h
theorem nameN_go {s : ByteArray} {k : Nat} (h : k < s.size) (hc : nmC s[k] = true) : nameN s (s.size - k) k = nameN s (s.size - (k + 1)) (k + 1) := by
 rw [show s.size - k = (s.size - (k + 1)) + 1 by omega, nameN, dif_pos h, if_pos hc]
theorem nameN_stop {s : ByteArray} {k : Nat} (h : k < s.size) (hc : nmC s[k] = false) : nameN s (s.size - k) k = k := by
 rw [show s.size - k = (s.size - (k + 1)) + 1 by omega, nameN, dif_pos h, if_neg (by simp [hc])]
theorem nameN_end {s : ByteArray} {k : Nat} (h : s.size ≤ k) : nameN s (s.size - k) k = k := by
 rw [show s.size - k = 0 by omega, nameN]

set_option maxRecDepth 100000 in
set_option maxHeartbeats 4000000 in
theorem RName_any (s : ByteArray) (w : World) (hs : s.size ≤ maxLen) :
 Calls Try.prog 58 #[.string s] w fun e w' => e = .returned (.string (nameP s)) ∧ w = w' := by
 unfold maxLen at hs
 obtain ⟨Z, hZ⟩ : ∃ Z, Z = nameN s s.size 0 := ⟨_, rfl⟩
 have hZl : Z ≤ s.size := by rw [hZ]; exact nameN_le s _ _ (by omega)
 have HP : Hid (nameP s = s.extract 0 Z) := Lib.hid (by rw [hZ]; rfl)
 have HZ := Lib.hid hZ
 clear hZ
 go_enter Try.func58, Try.ntmps58
 go_wp2_with fail
 go_loop [3] (fun i => Hid (∃ k : Nat, k ≤ s.size ∧ i = .int .i64 k ∧ nameN s (s.size - k) k = Z)) (fun i => s.size - (intOf i).toNat)
 case atStart => exact Lib.hid ⟨0, Nat.zero_le _, rfl, HZ.out.symm⟩
 case round =>
  obtain ⟨k, hk, rfl, hN⟩ := hrel.out
  have HN := Lib.hid hN
  clear hrel hN
  by_cases hlt : k < s.size
  · have hltz : (k : Int) < s.size := by omega
    have HGO : Hid (nmC s[k] = true → nameN s (s.size - (k + 1)) (k + 1) = Z) := Lib.hid (fun h => by rw [← nameN_go hlt h]; exact HN.out)
    have HST : Hid (nmC s[k] = false → Z = k) := Lib.hid (fun h => by rw [← HN.out]; exact nameN_stop hlt h)
    have hb := s[k].toNat_lt
    obtain ⟨l, hl⟩ : ∃ l, l = letterB s[k] := ⟨_, rfl⟩
    obtain ⟨d, hd⟩ : ∃ d, d = digitB s[k] := ⟨_, rfl⟩
    have hcl := fun w' => letter_any s[k] w'
    have hcd := fun w' => digit_any s[k] w'
    rw [← hl] at hcl
    rw [← hd] at hcd
    have HCL := Lib.hid hcl
    have HCD := Lib.hid hcd
    have HL2 := Lib.hid hl
    have HD2 := Lib.hid hd
    clear hcl hcd hl hd
    cases l with
    | true =>
      have HF := Lib.hid (HGO.out (by simp [nmC, ← HL2.out]))
      go_wp2_with fail
      refine (HCL.out _).mono ?_
      rintro e w2 ⟨rfl, rfl⟩
      go_wp2_with fail
      go_round
      case rel => exact Lib.hid ⟨k + 1, by omega, by go_num, HF.out⟩
      case measure => simp [intOf]; omega
    | false =>
      cases d with
      | true =>
        have HF := Lib.hid (HGO.out (by simp [nmC, ← HL2.out, ← HD2.out]))
        go_wp2_with fail
        refine (HCL.out _).mono ?_
        rintro e w2 ⟨rfl, rfl⟩
        go_wp2_with fail
        refine (HCD.out _).mono ?_
        rintro e w3 ⟨rfl, rfl⟩
        go_wp2_with fail
        go_round
        case rel => exact Lib.hid ⟨k + 1, by omega, by go_num, HF.out⟩
        case measure => simp [intOf]; omega
      | false =>
        by_cases h95 : s[k].toNat = 95
        · have HF := Lib.hid (HGO.out (by simp [nmC, h95]))
          have e2 : (((s[k].toNat : Nat) : Int) == 95) = true := by simp; omega
          clear h95
          go_wp2_with fail
          refine (HCL.out _).mono ?_
          rintro e w2 ⟨rfl, rfl⟩
          go_wp2_with fail
          refine (HCD.out _).mono ?_
          rintro e w3 ⟨rfl, rfl⟩
          go_wp2_with fail
          go_round
          case rel => exact Lib.hid ⟨k + 1, by omega, by go_num, HF.out⟩
          case measure => simp [intOf]; omega
        · have e2 : (((s[k].toNat : Nat) : Int) == 95) = false := by simp; omega
          by_cases h35 : s[k].toNat = 35
          · have HF := Lib.hid (HGO.out (by simp [nmC, h35]))
            have e3 : (((s[k].toNat : Nat) : Int) == 35) = true := by simp; omega
            clear h95 h35
            go_wp2_with fail
            refine (HCL.out _).mono ?_
            rintro e w2 ⟨rfl, rfl⟩
            go_wp2_with fail
            refine (HCD.out _).mono ?_
            rintro e w3 ⟨rfl, rfl⟩
            go_wp2_with fail
            go_round
            case rel => exact Lib.hid ⟨k + 1, by omega, by go_num, HF.out⟩
            case measure => simp [intOf]; omega
          · have e3 : (((s[k].toNat : Nat) : Int) == 35) = false := by simp; omega
            have HF := Lib.hid (HST.out (by simp [nmC, h95, h35, ← HL2.out, ← HD2.out]))
            clear h95 h35
            go_wp2_with fail
            refine (HCL.out _).mono ?_
            rintro e w2 ⟨rfl, rfl⟩
            go_wp2_with fail
            refine (HCD.out _).mono ?_
            rintro e w3 ⟨rfl, rfl⟩
            go_wp2_with fail
            go_ret
            exact ⟨by rw [HP.out, HF.out]; rfl, rfl⟩
  · have HF : Hid (Z = k) := Lib.hid (by rw [← HN.out]; exact nameN_end (by omega))
    have hkz : ¬ ((k : Int) < (s.size : Int)) := by omega
    go_wp2_with fail
    go_ret
    exact ⟨by rw [HP.out, HF.out]; rfl, rfl⟩

/-- the word of a sort -/
def wordS : Nat → ByteArray
 | 0 => ⟨#[97, 110, 121]⟩
 | 1 => ⟨#[97, 103, 101, 110, 116]⟩
 | 2 => ⟨#[110, 111, 110, 99, 101]⟩
 | 3 => ⟨#[107, 101, 121]⟩
 | 4 => ⟨#[100, 97, 116, 97]⟩
 | _ => ⟨#[116, 97, 103]⟩
set_option maxHeartbeats 4000000 in
theorem RWord_any (k : Nat) (w : World) (hk : k < 6) :
 Calls Try.prog 78 #[.int .i64 k] w fun e w' => e = .returned (.string (wordS k)) ∧ Ext w w' := by
 obtain ⟨bx, hbx⟩ : ∃ zz9, zz9 = w.heap.size := ⟨_, rfl⟩
 obtain ⟨w1, hw1⟩ : ∃ zz9, zz9 = w.alloc (.cells #[.string ⟨#[97, 110, 121]⟩, .string ⟨#[97, 103, 101, 110, 116]⟩, .string ⟨#[110, 111, 110, 99, 101]⟩, .string ⟨#[107, 101, 121]⟩, .string ⟨#[100, 97, 116, 97]⟩, .string ⟨#[116, 97, 103]⟩] 9) := ⟨_, rfl⟩
 have HE : Hid (Ext w w1) := Lib.hid (by rw [hw1]; exact Ext.alloc _ _)
 have hb : w1.heap[bx]? = some (.cells #[.string ⟨#[97, 110, 121]⟩, .string ⟨#[97, 103, 101, 110, 116]⟩, .string ⟨#[110, 111, 110, 99, 101]⟩, .string ⟨#[107, 101, 121]⟩, .string ⟨#[100, 97, 116, 97]⟩, .string ⟨#[116, 97, 103]⟩] 9) := by rw [hw1, hbx]; exact hs_new
 have b0 : w1.cell? ⟨bx, k, none⟩ = some (.string (wordS k)) := by
  rw [cellc hb]
  match k, hk with
  | 0, _ => rfl
  | 1, _ => rfl
  | 2, _ => rfl
  | 3, _ => rfl
  | 4, _ => rfl
  | 5, _ => rfl
  | k + 6, h => omega
 have b0z : (w.alloc (.cells #[.string ⟨#[97, 110, 121]⟩, .string ⟨#[97, 103, 101, 110, 116]⟩, .string ⟨#[110, 111, 110, 99, 101]⟩, .string ⟨#[107, 101, 121]⟩, .string ⟨#[100, 97, 116, 97]⟩, .string ⟨#[116, 97, 103]⟩] 9)).cell? ⟨w.heap.size, k, none⟩ = some (.string (wordS k)) := by rw [← hw1, ← hbx]; exact b0
 have hkz : (k : Int) < 6 := by omega
 have hkz2 : (0 : Int) ≤ (k : Int) := by omega
 clear hb
 go_enter Try.func78, Try.ntmps78
 go_wp2_with fail
 go_ret
 rw [← hw1]
 exact ⟨rfl, HE.out⟩

/-- the sort that a word names, from k on -/
def leafK (w : ByteArray) (kd : Int) : Nat → Nat → Option Nat
 | 0, _ => none
 | f + 1, k => if w = wordS k ∧ (k ≠ 0 ∨ kd = 2) then some k else leafK w kd f (k + 1)
/-- the sort behind a name -/
def leafP (k : Int) (n : ByteArray) (s : ByteArray) : Option (Tm × ByteArray) :=
 if h : 0 < s.size then (if s[0] = 58 then (match leafK (nameP (s.extract 1 s.size)) k 6 0 with | some j => some (.mk k n j [], s.extract (1 + (nameP (s.extract 1 s.size)).size) s.size) | none => none)
  else if k = 1 then some (.mk k n 0 [], s) else none) else if k = 1 then some (.mk k n 0 [], s) else none

end Go.Proofs.Ytpfnlbaloaohgaa
