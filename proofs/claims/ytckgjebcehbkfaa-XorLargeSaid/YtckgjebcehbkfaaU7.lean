/- Contracts: the reference's Basis and Span. -/
import Derived.Test.YtckgjebcehbkfaaU6
import Derived.Test.YtckgjebcehbkfaaG4
namespace Go.Proofs.Ytckgjebcehbkfaa
open Go Go.RowKit
set_option linter.unusedVariables false
set_option linter.unusedSimpArgs false

theorem okL_ls {w : World} {base N : Nat} {v : Value} {B : List Nat} (h : OwnN w base v B) (hB : ∀ b ∈ B, b ≤ 1000000) : LsI w v (intL B) := h.ls hB

set_option maxRecDepth 100000 in
set_option maxHeartbeats 4000000 in
theorem RBasis_any {w : World} {S : Nat → Prop} {a : Option Addr} {cap : Nat} {L : List Tm} (hz : sizeL L ≤ 1000) (hL : LsT w S (.slice a L.length cap) L) :
    Calls Try.prog 29 #[.slice a L.length cap] w fun e w' => ∃ u er B, e = .returned (.tuple #[u, .int .i64 er]) ∧ Ext w w' ∧ LsI w' u (intL B) ∧ er = rightS L [] ∧ (er ≠ 0 → B = []) ∧ (er = 0 → BasisR L B) := by
  obtain ⟨-, hl, hc⟩ := hL.len
  unfold maxLen at hc
  have hll := len_size L
  have HZS : Hid (sizeT (appTm zeroN []) ≤ 1000000) := Lib.hid (by decide +kernel)
  have HRZ : Hid (rightS L [appTm zeroN []] = rightS L []) := Lib.hid (by rw [rightS, rightS, validL_append, validL_one, zeroN_valid, List.append_nil]; unfold orE; (repeat' split) <;> simp_all)
  have HL6 : Hid (∀ x ∈ L, sizeT x ≤ 1000) := Lib.hid (fun x hx => by obtain ⟨i, hi⟩ := List.mem_iff_getElem?.1 hx; have := sizeL_get hi; omega)
  have HLW := Lib.hid hL.below
  have HZ := Lib.hid hz
  obtain ⟨er, her⟩ : ∃ er, er = rightS L [] := ⟨_, rfl⟩
  have HER := Lib.hid her
  have hl1 : L.length ≤ 1000 := by omega
  clear hL hz her hll
  go_enter Try.func29, Try.ntmps29
  go_wp2_with fail
  refine zero_any.mono ?_
  rintro e w2 ⟨u, rfl, hE2, ua, uc, rfl, hT⟩
  have hcon := rvalid_any (fun x hx => by have := HL6.out x hx; omega) HZS.out (HLW.out.ext hE2) hT
  rw [HRZ.out, ← HER.out] at hcon
  have hlz := hT.len
  have hcz := hT.cap
  unfold maxLen at hcz
  have HCON := Lib.hid hcon
  have HE2 := Lib.hid hE2
  clear hcon hE2 hT
  go_wp2_with fail
  refine HCON.out.mono ?_
  rintro e w3 ⟨rfl, hE3⟩
  have HE3 := Lib.hid (HE2.out.trans hE3)
  clear hE3
  by_cases hz : er = 0
  · have e1 : (er != 0) = false := by simp [hz]
    have HZ0 := Lib.hid hz
    have hcon := rrows_any HZ.out (HLW.out.ext HE3.out)
    have HCON2 := Lib.hid hcon
    clear hz hcon
    go_wp2_with fail
    refine HCON2.out.mono ?_
    rintro e w4 ⟨ov, bv, E, B, rfl, hR⟩
    have HR := Lib.hid hR
    clear hR
    go_wp2_with fail
    go_ret2
    have hB := HR.out.sys.basis
    exact ⟨_, 0, B, rfl, HE3.out.trans HR.out.ext, HR.out.bas.ls (fun b hb => by have := ((hB.2 b).1 hb).1; omega), by rw [← HER.out, HZ0.out], fun h => absurd rfl h, fun _ => hB⟩
  · have e1 : (er != 0) = true := by simp [hz]
    have HZ0 := Lib.hid hz
    clear hz
    go_wp2_with fail
    go_ret2
    exact ⟨_, er, [], rfl, HE3.out, ⟨none, 0, rfl, by simp [intL], by unfold maxLen; omega, fun i x hi => by simp [intL] at hi, fun x hx => by simp [intL] at hx⟩, HER.out, fun _ => rfl, fun h => absurd h HZ0.out⟩

end Go.Proofs.Ytckgjebcehbkfaa
