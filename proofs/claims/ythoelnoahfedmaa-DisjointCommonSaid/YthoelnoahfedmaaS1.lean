/- The reference's Error. -/
import Derived.Test.YthoelnoahfedmaaL2
import Derived.Test.YthoelnoahfedmaaV2
import Derived.Test.YthoelnoahfedmaaV4
namespace Go.Proofs.Ythoelnoahfedmaa
open Go.RowKit
set_option linter.unusedVariables false
set_option linter.unusedSimpArgs false

/-- numbers of a slice -/
def IntsA (w : World) (a : Option Addr) (l : List Int) : Prop := ∀ (k : Nat) (x : Int), l[k]? = some x → ∃ b off, a = some ⟨b, off, none⟩ ∧ w.cell? ⟨b, off + k, none⟩ = some (.int .i64 x)
theorem IntsA.ext {w w' : World} {a : Option Addr} {l : List Int} (h : IntsA w a l) (hE : Ext w w') : IntsA w' a l := fun k x hk =>
  let ⟨b, off, ha, hc⟩ := h k x hk
  ⟨b, off, ha, cs_ext hE hc⟩

def badIx (n : Nat) (x : Int) : Bool := decide (x < 0) || decide ((n : Int) ≤ x)
/-- the error of a table and indices -/
def errS (t : List Fmt) (l : List Int) : Int := if validT t ≠ 0 then validT t else if l.any (badIx t.length) then 7 else 0

theorem any_at {l : List Int} {p : Int → Bool} {k : Nat} {x : Int} (h : l[k]? = some x) (hp : p x = true) : l.any p = true := by
  rw [List.any_eq_true]; exact ⟨x, List.mem_of_getElem? h, hp⟩
theorem any_no {l : List Int} {p : Int → Bool} (h : ∀ (k : Nat) (x : Int), l[k]? = some x → p x = false) : l.any p = false := by
  rw [List.any_eq_false]
  intro x hx
  obtain ⟨k, hk⟩ := List.mem_iff_getElem?.1 hx
  simp [h k x hk]

set_option maxRecDepth 100000 in
set_option maxHeartbeats 4000000 in
theorem Error_any {w : World} {B : Nat} {a la : Option Addr} {t : List Fmt} {cap lcap : Nat} {l : List Int} (hT : TabA w B a t) (hB : B ≤ w.heap.size) (hcap : t.length ≤ cap) (hcap2 : cap ≤ 9223372036854775807) (hl : IntsA w la l) (hl2 : l.length ≤ 1000) :
    Calls Try.prog 30 #[.slice a t.length cap, .slice la l.length lcap] w fun e w' => e = .returned (.int .i64 (errS t l)) ∧ Ext w w' := by
  have hn63 := hT.1
  unfold maxLen at hn63
  obtain ⟨res, hres⟩ : ∃ res, res = errS t l := ⟨_, rfl⟩
  rw [← hres]
  have HRES := Lib.hid hres; clear hres
  obtain ⟨v0, hv0⟩ : ∃ v0, v0 = validT t := ⟨_, rfl⟩
  have HV0 := Lib.hid hv0
  have hcon := Valid17_any hT hB hcap hcap2
  rw [← hv0] at hcon
  clear hv0
  go_enter Try.func30, Try.ntmps30
  go_wp2_with fail
  refine hcon.mono ?_
  rintro e w1 ⟨rfl, hb1⟩
  by_cases hz : v0 = 0
  · subst hz
    go_wp2_with fail
    go_loop [6] (fun i => ∃ k : Nat, k ≤ l.length ∧ i = .int .i64 k ∧ ∀ j x, j < k → l[j]? = some x → badIx t.length x = false) (fun i => l.length - (intOf i).toNat)
    case atStart => exact ⟨0, Nat.zero_le _, rfl, fun j x h => by omega⟩
    case round =>
      obtain ⟨k, hk, rfl, hall⟩ := hrel
      have HALL := Lib.hid hall; clear hall
      by_cases hlt : k < l.length
      · obtain ⟨x, hx⟩ : ∃ x, l[k]? = some x := ⟨_, List.getElem?_eq_getElem hlt⟩
        obtain ⟨b, off, rfl, hc⟩ := hl.ext hb1 k x hx
        have HX := Lib.hid hx; clear hx
        by_cases h1 : x < 0
        · have e1 : decide (x < 0) = true := decide_eq_true h1
          have HB : Hid (badIx t.length x = true) := by show _ = _; simp [badIx, e1]
          go_wp2_with fail
          go_ret
          exact ⟨ri (by rw [HRES.out, errS, if_neg (by rw [← HV0.out]; simp), any_at HX.out HB.out]; rfl), hb1⟩
        · have e1 : decide (x < 0) = false := decide_eq_false h1
          by_cases h2 : (t.length : Int) ≤ x
          · have e2 : decide ((t.length : Int) ≤ x) = true := decide_eq_true h2
            have HB : Hid (badIx t.length x = true) := by show _ = _; simp [badIx, e2]
            go_wp2_with fail
            go_ret
            exact ⟨ri (by rw [HRES.out, errS, if_neg (by rw [← HV0.out]; simp), any_at HX.out HB.out]; rfl), hb1⟩
          · have e2 : decide ((t.length : Int) ≤ x) = false := decide_eq_false h2
            have HB : Hid (badIx t.length x = false) := by show _ = _; simp [badIx, e1, e2]
            go_wp2_with fail
            go_round
            case rel => exact ⟨k + 1, by omega, by go_num, fun j y hj hy => by
              rcases Nat.lt_or_ge j k with h' | h'
              · exact HALL.out j y h' hy
              · have : j = k := by omega
                subst this
                have := HX.out
                rw [this] at hy
                cases hy
                exact HB.out⟩
            case measure => simp [intOf]; omega
      · go_wp2_with fail
        go_ret
        exact ⟨ri (by rw [HRES.out, errS, if_neg (by rw [← HV0.out]; simp), any_no (fun j x hx => HALL.out j x (by have := (List.getElem?_eq_some_iff.1 hx).1; omega) hx)]; rfl), hb1⟩
  · have e1 : (v0 == 0) = false := beq_eq_false_iff_ne.2 hz
    go_wp2_with fail
    go_ret
    exact ⟨ri (by rw [HRES.out, errS, if_pos (by rw [← HV0.out]; exact hz), HV0.out]), hb1⟩

end Go.Proofs.Ythoelnoahfedmaa
