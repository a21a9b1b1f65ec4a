/- DisjointStates: the walk of the law. -/
import Derived.Test.YthoelnoahfedmaaS15
import Derived.Test.YthoelnoahfedmaaS3
namespace Go.Proofs.Ythoelnoahfedmaa
open Go Go.RowKit
set_option linter.unusedVariables false
set_option linter.unusedSimpArgs false

theorem StatesR.unique {t : List Fmt} {i n er m fr : Int} (h : StatesR t i n er) (k : StatesR t i m fr) : n = m ∧ er = fr := by
  rcases h with ⟨h1, h2, h3⟩ | ⟨h1, j, fm, h2, h3, -, h4⟩ <;> rcases k with ⟨k1, k2, k3⟩ | ⟨k1, j', fm', k2, k3, -, k4⟩
  · exact ⟨by rw [h2, k2], by rw [h3, k3]⟩
  · exact absurd k1 h1
  · exact absurd h1 k1
  · have : j' = j := by omega
    subst this
    rw [h3] at k3
    cases k3
    rcases h4 with ⟨h5, h6, h7⟩ | ⟨L, h5, h6, h7, h8⟩ <;> rcases k4 with ⟨k5, k6, k7⟩ | ⟨L', k5, k6, k7, k8⟩
    · exact ⟨by rw [h6, k6], by rw [h7, k7]⟩
    · exact absurd h5 (k5.not_over k6)
    · exact absurd k5 (h5.not_over h6)
    · have := h5.unique k5
      subst this
      exact ⟨by rw [h7, k7], by rw [h8, k8]⟩

set_option maxRecDepth 100000 in
set_option maxHeartbeats 1000000 in
theorem law_states {w : World} {a : Option Addr} {t : List Fmt} {cap : Nat} {i : Int} (hT : TabA w w.heap.size a t) (hcap : t.length ≤ cap) (hcap2 : cap ≤ 9223372036854775807) (hi : I64 i) :
    Calls Try.prog 3 #[.slice a t.length cap, .int .i64 i] w fun e w' => e = .returned (.bool true) ∧ Ext w w' := by
  have hconF := fun (w' : World) (hE : Ext w w') => Few_any (cap := cap) (hT.ext (Nat.le_refl _) hE) hE.size
  have hconS := fun (w' : World) (hE : Ext w w') => States_any (i := i) (hT.ext (Nat.le_refl _) hE) hE.size hcap hcap2
  have hconR := fun (w' : World) (hE : Ext w w') => rStates_any (i := i) hi (hT.ext (Nat.le_refl _) hE) hE.size hcap hcap2
  have HF := Lib.hid hconF
  have HS := Lib.hid hconS
  have HR := Lib.hid hconR
  clear hconF hconS hconR hT
  go_enter Try.func3, Try.ntmps3
  go_wp2_with fail
  refine awake_any.mono ?_
  rintro e w1 ⟨rfl, hE1⟩
  obtain ⟨few, hfew⟩ : ∃ b, b = fewS t := ⟨_, rfl⟩
  have HFW := Lib.hid hfew
  have H1 := Lib.hid hE1
  clear hfew hE1
  go_wp2_with fail
  refine (HF.out _ H1.out).mono ?_
  rintro e w2 ⟨rfl, hE2⟩
  rw [← HFW.out]
  have H2 := Lib.hid (H1.out.trans hE2)
  clear hE2
  cases few
  · go_wp2_with fail
    refine awake_any.mono ?_
    rintro e w3 ⟨rfl, hE3⟩
    have H3 := Lib.hid (H2.out.trans hE3)
    clear hE3
    go_wp2_with fail
    go_ret
    exact ⟨rfl, H3.out⟩
  · go_wp2_with fail
    refine (HS.out _ H2.out).mono ?_
    rintro e w3 ⟨n, er, rfl, hE3, hR3⟩
    have H3 := Lib.hid (H2.out.trans hE3)
    have HR3 := Lib.hid hR3
    clear hE3 hR3
    go_wp2_with fail
    refine (HR.out _ H3.out).mono ?_
    rintro e w4 ⟨m, fr, rfl, hE4, hR4⟩
    have H4 := Lib.hid (H3.out.trans hE4)
    obtain ⟨rfl, rfl⟩ := HR3.out.unique hR4
    clear hE4 hR4
    go_wp2_with fail
    go_ret
    exact ⟨rfl, H4.out⟩

end Go.Proofs.Ythoelnoahfedmaa
