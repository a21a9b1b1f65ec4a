/- HasPrefix. -/
import Derived.Test.YthoelnoahfedmaaG1
namespace Go.Proofs.Ythoelnoahfedmaa
open Go Go.RowKit
set_option linter.unusedVariables false
set_option linter.unusedSimpArgs false

theorem prefix42 {w : World} {s p : ByteArray} (h1 : p.size ≤ s.size) (h2 : s.size ≤ 9223372036854775807) (h3 : s.extract 0 p.size = p) :
    Calls Try.prog 42 #[.string s, .string p] w fun e w' => e = .returned (.bool true) ∧ Ext w w' := by
  have e1 : decide ((p.size : Int) ≤ (s.size : Int)) = true := decide_eq_true (by omega)
  have e2 : ((s.extract 0 p.size).toList == p.toList) = true := by rw [h3]; simp
  have E2 := Lib.hid e2
  clear h3 e2
  go_enter Try.func42, Try.ntmps42
  go_wp2_with fail
  rw [E2.out]
  go_ret
  exact ⟨rfl, Ext.refl _⟩

theorem prefix_any {w : World} {s p : ByteArray} (h1 : p.size ≤ s.size) (h2 : s.size ≤ 9223372036854775807) (h3 : s.extract 0 p.size = p) :
    Calls Try.prog 20 #[.string s, .string p] w fun e w' => e = .returned (.bool true) ∧ Ext w w' := by
  have hcon := prefix42 (w := w) h1 h2 h3
  clear h3
  go_enter Try.func20, Try.ntmps20
  go_wp2_with fail
  refine hcon.mono ?_
  rintro e w1 ⟨rfl, hE⟩
  go_wp2_with fail
  go_ret
  exact ⟨rfl, hE⟩
end Go.Proofs.Ythoelnoahfedmaa
