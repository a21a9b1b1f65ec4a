/- The order of pairs, with the world that it leaves. -/
import Derived.Test.YthoelnoahfedmaaG1
import Derived.Shelf.SlSortCmp.InsertionK
namespace Go.Proofs.Ythoelnoahfedmaa
open Go Go.RowKit Go.Sort
set_option linter.unusedVariables false
set_option linter.unusedSimpArgs false


theorem order_grow (a b c d : Int) (w : World) :
   Calls Try.prog 48 #[.agg #[.int .i64 a, .int .i64 b], .agg #[.int .i64 c, .int .i64 d]] w fun e w' => e = .returned (.int .i64 (ordS a b c d)) ∧ ∃ q os', w' = grow (w.drewN q) os' := by
  have h : a < c ∨ c < a ∨ a = c := by omega
  rcases h with h | h | h
  · have e1 : cmpI a c = -1 := by simp [cmpI, h]
    have e2 : ordS a b c d = -1 := by simp [ordS, h]
    rw [e2]
    have E := Lib.hid e2; clear e2
    go_enter Try.func48, Try.ntmps48
    go_wp2_with (go_at_call 75; refine (cmp_any _ _ _).mono ?_; rintro e w' ⟨rfl, rfl⟩)
    go_ret
    exact ⟨rfl, 0, _, by rw [alloc_eq_grow, alloc_eq_grow, grow_grow]; rfl⟩
  · have e1 : cmpI a c = 1 := by simp [cmpI]; omega
    have e2 : ordS a b c d = 1 := by simp [ordS]; omega
    rw [e2]
    have E := Lib.hid e2; clear e2
    go_enter Try.func48, Try.ntmps48
    go_wp2_with (go_at_call 75; refine (cmp_any _ _ _).mono ?_; rintro e w' ⟨rfl, rfl⟩)
    go_ret
    exact ⟨rfl, 0, _, by rw [alloc_eq_grow, alloc_eq_grow, grow_grow]; rfl⟩
  · have e1 : cmpI a c = 0 := by simp [cmpI]; omega
    have e2 : ordS a b c d = cmpI b d := by simp [ordS, cmpI]; omega
    rw [e2]
    have E2 := Lib.hid h; clear h
    have E := Lib.hid e2; clear e2
    go_enter Try.func48, Try.ntmps48
    go_wp2_with (go_at_call 75; refine (cmp_any _ _ _).mono ?_; rintro e w' ⟨rfl, rfl⟩)
    go_ret
    exact ⟨rfl, 0, _, by rw [alloc_eq_grow, alloc_eq_grow, grow_grow]; rfl⟩

end Go.Proofs.Ythoelnoahfedmaa
