/- Contracts of the small functions on numbers. -/
import Derived.Test.YthoelnoahfedmaaProg
import Derived.Test.YthoelnoahfedmaaBase
import Derived.Outline
namespace Go.Proofs.Ythoelnoahfedmaa
open Go.RowKit
set_option linter.unusedVariables false

theorem join_any (f r q : Int) (w : World) (hf : 0 ≤ f) (hf' : f ≤ 1000000) (hr : -1 ≤ r) (hr' : r ≤ 1000000) (hq : 0 ≤ q) (hq' : q ≤ 1000000) :
   Calls Try.prog 78 #[.int .i64 f, .int .i64 r, .int .i64 q] w fun e w' => e = .returned (.int .i64 (f * 262144 + r * 256 + q)) ∧ w = w' := by
  go_enter Try.func78, Try.ntmps78
  go_wp2
  go_ret
  exact ⟨rfl, rfl⟩

theorem split_any (s : Int) (w : World) (h0 : 0 ≤ s) (h1 : s ≤ 9223372036854775807) :
   Calls Try.prog 61 #[.int .i64 s] w fun e w' => e = .returned (.tuple #[.int .i64 (s / 262144), .int .i64 (s / 256 % 1024), .int .i64 (s % 256)]) ∧ w = w' := by
  go_enter Try.func61, Try.ntmps61
  go_wp2
  go_ret3
  exact ⟨rfl, rfl⟩

theorem code_any (f r q : Int) (w : World) (hf : 0 ≤ f) (hf' : f ≤ 1000000) (hr : -1 ≤ r) (hr' : r ≤ 1000000) (hq : 0 ≤ q) (hq' : q ≤ 1000000) :
   Calls Try.prog 59 #[.int .i64 f, .int .i64 r, .int .i64 q] w fun e w' => e = .returned (.int .i64 ((f * 1024 + r) * 256 + q)) ∧ w = w' := by
  go_enter Try.func59, Try.ntmps59
  go_wp2
  go_ret
  exact ⟨rfl, rfl⟩

theorem behind_any (f : Int) (w : World) (hf : 0 ≤ f) (hf' : f ≤ 1000) :
   Calls Try.prog 60 #[.int .i64 f] w fun e w' => e = .returned (.int .i64 ((f + 1) * 1024 * 256)) ∧ w = w' := by
  go_enter Try.func60, Try.ntmps60
  go_wp2_with (go_at_call 59; refine (code_any _ _ _ _ (by omega) (by omega) (by omega) (by omega) (by omega) (by omega)).mono ?_; rintro e w' ⟨rfl, rfl⟩)
  go_ret
  exact ⟨rfl, rfl⟩

theorem isNaN_any (x : Int) (w : World) :
   Calls Try.prog 93 #[.int .i64 x] w fun e w' => e = .returned (.bool false) ∧ w = w' := by
  go_enter Try.func93, Try.ntmps93
  go_wp2
  go_ret
  exact ⟨by simp, rfl⟩

def cmpI (x y : Int) : Int := if x < y then -1 else if y < x then 1 else 0

theorem cmp_any (x y : Int) (w : World) :
   Calls Try.prog 75 #[.int .i64 x, .int .i64 y] w fun e w' => e = .returned (.int .i64 (cmpI x y)) ∧ w = w' := by
  have h : x < y ∨ y < x ∨ x = y := by omega
  rcases h with h | h | h
  all_goals
    go_enter Try.func75, Try.ntmps75
    go_wp2_with (go_at_call 93; refine (isNaN_any _ _).mono ?_; rintro e w' ⟨rfl, rfl⟩)
    go_ret
    exact ⟨by simp [cmpI]; omega, rfl⟩

def letterB (c : UInt8) : Bool := decide (97 ≤ c.toNat ∧ c.toNat ≤ 122 ∨ 65 ≤ c.toNat ∧ c.toNat ≤ 90)
def digitB (c : UInt8) : Bool := decide (48 ≤ c.toNat ∧ c.toNat ≤ 57)

theorem letter_any (c : UInt8) (w : World) :
   Calls Try.prog 81 #[.int .u8 c.toNat] w fun e w' => e = .returned (.bool (letterB c)) ∧ w = w' := by
  go_enter Try.func81, Try.ntmps81
  go_wp2
  all_goals go_ret
  all_goals exact ⟨rb (by rw [Bool.eq_iff_iff]; simp [letterB]; omega), rfl⟩

theorem digit_any (c : UInt8) (w : World) :
   Calls Try.prog 82 #[.int .u8 c.toNat] w fun e w' => e = .returned (.bool (digitB c)) ∧ w = w' := by
  go_enter Try.func82, Try.ntmps82
  go_wp2
  all_goals go_ret
  all_goals exact ⟨rb (by rw [Bool.eq_iff_iff]; simp [digitB]; omega), rfl⟩

/-- the order of pairs -/
def ordS (a b c d : Int) : Int := if a < c then -1 else if c < a then 1 else if b < d then -1 else if d < b then 1 else 0

theorem order_any (a b c d : Int) (w : World) :
   Calls Try.prog 48 #[.agg #[.int .i64 a, .int .i64 b], .agg #[.int .i64 c, .int .i64 d]] w fun e w' => e = .returned (.int .i64 (ordS a b c d)) ∧ Ext w w' := by
  have h : a < c ∨ c < a ∨ a = c := by omega
  rcases h with h | h | h
  · have e1 : cmpI a c = -1 := by simp [cmpI, h]
    have e2 : ordS a b c d = -1 := by simp [ordS, h]
    rw [e2]
    have E := Lib.hid e2; clear e2
    go_enter Try.func48, Try.ntmps48
    go_wp2_with (go_at_call 75; refine (cmp_any _ _ _).mono ?_; rintro e w' ⟨rfl, rfl⟩)
    go_ret
    exact ⟨rfl, by repeat (first | exact Ext.refl _ | exact Ext.alloc _ _ | apply Ext.then_dr | (refine Ext.then_al ?_ _))⟩
  · have e1 : cmpI a c = 1 := by simp [cmpI]; omega
    have e2 : ordS a b c d = 1 := by simp [ordS]; omega
    rw [e2]
    have E := Lib.hid e2; clear e2
    go_enter Try.func48, Try.ntmps48
    go_wp2_with (go_at_call 75; refine (cmp_any _ _ _).mono ?_; rintro e w' ⟨rfl, rfl⟩)
    go_ret
    exact ⟨rfl, by repeat (first | exact Ext.refl _ | exact Ext.alloc _ _ | apply Ext.then_dr | (refine Ext.then_al ?_ _))⟩
  · have e1 : cmpI a c = 0 := by simp [cmpI]; omega
    have e2 : ordS a b c d = cmpI b d := by simp [ordS, cmpI]; omega
    rw [e2]
    have E := Lib.hid e2; clear e2
    have E2 := Lib.hid h; clear h
    go_enter Try.func48, Try.ntmps48
    go_wp2_with (go_at_call 75; refine (cmp_any _ _ _).mono ?_; rintro e w' ⟨rfl, rfl⟩)
    go_ret
    exact ⟨rfl, by repeat (first | exact Ext.refl _ | exact Ext.alloc _ _ | apply Ext.then_dr | (refine Ext.then_al ?_ _))⟩

theorem less_any (a b c d : Int) (w : World) :
   Calls Try.prog 55 #[.agg #[.int .i64 a, .int .i64 b], .agg #[.int .i64 c, .int .i64 d]] w fun e w' => e = .returned (.bool (decide (ordS a b c d < 0))) ∧ Ext w w' := by
  go_enter Try.func55, Try.ntmps55
  go_wp2
  all_goals go_ret
  all_goals exact ⟨rb (by rw [Bool.eq_iff_iff]; simp only [ordS]; (repeat' split) <;> simp <;> omega), by repeat (first | exact Ext.refl _ | exact Ext.alloc _ _ | apply Ext.then_dr | (refine Ext.then_al ?_ _))⟩

end Go.Proofs.Ythoelnoahfedmaa
