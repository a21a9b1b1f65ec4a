/- Clone of a list of pairs. -/
import Derived.Test.YthoelnoahfedmaaP1
import Derived.WalkSpells
namespace Go.Proofs.Ythoelnoahfedmaa
open Go Go.RowKit
set_option linter.unusedVariables false
set_option linter.unusedSimpArgs false

theorem flatP_get {L : List (Int × Int)} {k : Nat} {x : Int × Int} (hk : L[k]? = some x) : (flatP L)[k * 2]? = some (.int .i64 x.1) ∧ (flatP L)[k * 2 + 1]? = some (.int .i64 x.2) := by
  induction L generalizing k with
  | nil => simp at hk
  | cons y L ih =>
    match k, hk with
    | 0, hk => simp at hk; subst hk; exact ⟨rfl, rfl⟩
    | k + 1, hk =>
      obtain ⟨h1, h2⟩ := ih (k := k) (by simpa using hk)
      have e1 : (k + 1) * 2 = k * 2 + 2 := by omega
      have e2 : (k + 1) * 2 + 1 = k * 2 + 1 + 2 := by omega
      rw [e2, e1]
      exact ⟨by simpa [flatP, encP2] using h1, by simpa [flatP, encP2] using h2⟩
theorem flatP_len (L : List (Int × Int)) : (flatP L).length = L.length * 2 := by
  induction L with
  | nil => rfl
  | cons x L ih => simp only [flatP, List.flatMap_cons, List.length_append, List.length_cons, encP2] at *; simp at *; omega
theorem PairsA.own {w : World} {base : Nat} {v : Value} {L : List (Int × Int)} (h : w.ownsRow base 53 2 v L.length (flatP L)) : ∃ a cap, v = .slice a L.length cap ∧ PairsA w a L := by
  rcases h.2 with ⟨rfl, h0⟩ | ⟨g, cap, cur, rfl, -⟩
  · have : L = [] := List.length_eq_zero_iff.1 h0
    subst this
    exact ⟨none, 0, rfl, fun k x hk => by simp at hk⟩
  · refine ⟨_, _, rfl, fun k x hk => ?_⟩
    obtain ⟨g', c', e, -, -, -, hc⟩ := rowN_at (n := 2) (f := encP2) (fun _ => rfl) h hk
    cases e
    exact ⟨g, 0, rfl, by simpa using hc 0 _ rfl, by simpa using hc 1 _ rfl⟩
theorem PairsA.flat {w : World} {ad : Addr} {L : List (Int × Int)} (h : PairsA w (some ad) L) : ∀ j u, (flatP L)[j]? = some u → w.cell? (ad.add j) = some u := by
  intro j u hj
  have hlt := (List.getElem?_eq_some_iff.1 hj).1
  rw [flatP_len] at hlt
  obtain ⟨x, hx⟩ : ∃ x, L[j / 2]? = some x := ⟨_, List.getElem?_eq_getElem (by omega)⟩
  obtain ⟨b, off, e, h0, h1⟩ := h _ x hx
  cases e
  obtain ⟨g0, g1⟩ := flatP_get hx
  have hadd : ∀ j, (⟨b, off, none⟩ : Addr).add j = ⟨b, off + j, none⟩ := fun j => by
    unfold Addr.add
    split
    · rename_i h0; subst h0; rfl
    · rfl
  rw [hadd]
  by_cases hp : j % 2 = 0
  · rw [show j / 2 * 2 = j by omega] at g0 h0
    rw [g0] at hj; cases hj; exact h0
  · rw [show j / 2 * 2 + 1 = j by omega] at g1
    rw [show off + j / 2 * 2 + 1 = off + j by omega] at h1
    rw [g1] at hj; cases hj; exact h1
theorem flatP_one (L : List (Int × Int)) : ∀ u ∈ flatP L, u.oneCell' = true := by
  intro u hu
  simp only [flatP, List.mem_flatMap, encP2] at hu
  obtain ⟨x, -, hu⟩ := hu
  simp at hu
  rcases hu with rfl | rfl <;> rfl

set_option maxRecDepth 100000 in
set_option maxHeartbeats 800000 in
theorem clone_any {w : World} {a : Option Addr} {cap : Nat} {L : List (Int × Int)} (hA : PairsA w a L) (hl : L.length ≤ 100000) :
    Calls Try.prog 31 #[.slice a L.length cap] w fun e w' => ∃ v, e = .returned v ∧ Ext w w' ∧ ∃ a' cap', v = .slice a' L.length cap' ∧ PairsA w' a' L := by
  have hnil := fun (w : World) (n c : Nat) => Lib.run_eql_slice_nil (P := Try.prog) w 48 53 a n c 0 0 Try.underlying48
  cases a with
  | none =>
    have h0 : L = [] := by
      cases L with
      | nil => rfl
      | cons x L => obtain ⟨b, off, e, -⟩ := hA 0 x rfl; cases e
    subst h0
    go_enter Try.func31, Try.ntmps31
    go_wp2_with fail
    go_ret
    exact ⟨_, rfl, Ext.refl _, none, 0, rfl, fun k x hk => by simp at hk⟩
  | some ad =>
    obtain ⟨j0, hj0, hj1, hj2, hj3⟩ := info_parts inf53
    have HA := Lib.hid hA
    clear hA
    go_enter Try.func31, Try.ntmps31
    go_wp2_with (first
      | (at_builtin; (refine wpList_append_own_at _ rfl _ _ 48 rfl w.heap.size 53 j0 (.agg #[.int .i64 0, .int .i64 0]) 2 16 Try.underlying48 hj0 hj1 hj2 hj3 rfl (by decide) _ 0 [] rfl ⟨rfl, .inr ⟨w.heap.size, 0, #[], rfl, Nat.le_refl _, hs_new, Nat.le_refl _, by unfold maxLen; omega, rfl, rfl⟩⟩ ad L.length cap (flatP L) rfl (flatP_len L) (HA.out.ext (Ext.alloc w _)).flat (flatP_one L) (by unfold maxLen; omega) (by omega) (by simp) ?_); intro v5 w5 hown5 hgrow5 hnil5 hat5
         have HO := Lib.hid hown5
         have HG := Lib.hid hgrow5
         clear hown5 hgrow5 hnil5 hat5))
    go_ret
    have hg : (w.alloc (Obj.cells #[] 53)).grownBy w5 (some w.heap.size) := HG.out
    have hO := HO.out
    rw [Nat.zero_add, List.nil_append] at hO
    exact ⟨v5, rfl, (Ext.alloc w _).grown hg (fun k hk => by cases hk; exact Nat.le_refl _), PairsA.own hO⟩


end Go.Proofs.Ythoelnoahfedmaa
