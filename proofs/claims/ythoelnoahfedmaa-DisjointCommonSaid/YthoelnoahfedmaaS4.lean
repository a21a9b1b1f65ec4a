/- The automata of two formats. -/
import Derived.Test.YthoelnoahfedmaaS2
import Derived.Test.YthoelnoahfedmaaV7
namespace Go.Proofs.Ythoelnoahfedmaa
open Go Go.RowKit
set_option linter.unusedVariables false
set_option linter.unusedSimpArgs false

theorem inf67 : (Try.prog.info? 67).map (·.size) = some 2 := by kernel_rfl

theorem results_two {tmps : Array Value} {w : World} {g1 g2 : Nat} {c1 c2 : Array Value} {f1 f2 : Nat × Nat} (h6 : tmps.getD 6 undef = .pointer (some ⟨g1, 0, none⟩)) (h7 : tmps.getD 7 undef = .pointer (some ⟨g2, 0, none⟩)) (hg1 : w.heap[g1]? = some (.cells c1 67 f1)) (hg2 : w.heap[g2]? = some (.cells c2 67 f2))
    (s1 : c1.size = 2) (s2 : c2.size = 2) : (results Try.f50 tmps).run Try.prog w = .ok (.tuple #[.agg c1, .agg c2, tmps.getD 8 undef]) w := by
  have h6' : tmps[6]?.getD undef = .pointer (some ⟨g1, 0, none⟩) := by simpa using h6
  have h7' : tmps[7]?.getD undef = .pointer (some ⟨g2, 0, none⟩) := by simpa using h7
  have hi : (Try.prog.info? 67).map (·.size) = some 2 := by kernel_rfl
  simp [results, Try.results50, h6', h7', asAddr, run_loadVar_row w g1 67 67 c1 f1 _ hg1 Try.underlying67 rfl (by rw [s1]; exact hi), run_loadVar_row w g2 67 67 c2 f2 _ hg2 Try.underlying67 rfl (by rw [s2]; exact hi)]

set_option maxRecDepth 100000 in
set_option maxHeartbeats 4000000 in
theorem two_any {w : World} {B : Nat} {a : Option Addr} {t : List Fmt} {cap : Nat} {i j : Int} (hT : TabA w B a t) (hB : B ≤ w.heap.size) (hcap : t.length ≤ cap) (hcap2 : cap ≤ 9223372036854775807) :
    Calls Try.prog 50 #[.slice a t.length cap, .int .i64 i, .int .i64 j] w fun e w' => ∃ u v, e = .returned (.tuple #[u, v, .int .i64 (errS t [i, j])]) ∧ Ext w w' ∧ (errS t [i, j] = 0 → u = .agg #[.slice a t.length cap, .int .i64 i] ∧ v = .agg #[.slice a t.length cap, .int .i64 j]) ∧ (errS t [i, j] ≠ 0 → u = .agg #[.slice none 0 0, .int .i64 0] ∧ v = .agg #[.slice none 0 0, .int .i64 0]) := by
  have hn63 := hT.1
  unfold maxLen at hn63
  obtain ⟨res, hres⟩ : ∃ res, res = errS t [i, j] := ⟨_, rfl⟩
  rw [← hres]
  have HRES := Lib.hid hres; clear hres
  obtain ⟨v0, hv0⟩ : ∃ v0, v0 = validT t := ⟨_, rfl⟩
  have HV0 := Lib.hid hv0
  have hcon := fun w' (hE : Ext w w') => Valid_any (hT.ext hB hE) (by have := hE.size; omega) hcap hcap2
  rw [← hv0] at hcon
  clear hv0
  go_enter Try.func50, Try.ntmps50
  go_wp2_with fail
  refine (hcon _ ((Ext.alloc w _).then_al _)).mono ?_
  rintro e w1 ⟨rfl, hb1⟩
  have hg1 : w1.heap[w.heap.size]? = some (.cells #[.slice none 0 0, .int .i64 0] 67) := hs_ext hb1 (hs_al hs_new)
  have hg2 : w1.heap[w.heap.size + 1]? = some (.cells #[.slice none 0 0, .int .i64 0] 67) := hs_ext hb1 (by have h := hs_new (w := w.alloc (.cells #[.slice none 0 0, .int .i64 0] 67)) (o := .cells #[.slice none 0 0, .int .i64 0] 67); rwa [World.size_alloc] at h)
  have hE1 : Ext w w1 := ((Ext.alloc w _).then_al _).trans hb1
  clear hb1 hcon
  have hlt : w.heap.size + 1 < w1.heap.size := (Array.getElem?_eq_some_iff.1 hg2).1
  have done : ∀ (c1 c2 : Array Value) (tmps : Array Value), tmps.getD 6 undef = .pointer (some ⟨w.heap.size, 0, none⟩) → tmps.getD 7 undef = .pointer (some ⟨w.heap.size + 1, 0, none⟩) → tmps.getD 8 undef = .int .i64 res → c1.size = 2 → c2.size = 2 →
      (res = 0 → c1 = #[.slice a t.length cap, .int .i64 i] ∧ c2 = #[.slice a t.length cap, .int .i64 j]) → (res ≠ 0 → c1 = #[.slice none 0 0, .int .i64 0] ∧ c2 = #[.slice none 0 0, .int .i64 0]) →
      bodyPost Try.prog Try.f50 (fun e w' => ∃ u v, e = .returned (.tuple #[u, v, .int .i64 res]) ∧ Ext w w' ∧ (res = 0 → u = .agg #[.slice a t.length cap, .int .i64 i] ∧ v = .agg #[.slice a t.length cap, .int .i64 j]) ∧ (res ≠ 0 → u = .agg #[.slice none 0 0, .int .i64 0] ∧ v = .agg #[.slice none 0 0, .int .i64 0])) .ret ⟨tmps, []⟩ ((w1.setRow w.heap.size c1).setRow (w.heap.size + 1) c2) := by
    intro c1 c2 tmps h6 h7 h8 s1 s2 hc hc'
    have hh2 : ((w1.setRow w.heap.size c1).setRow (w.heap.size + 1) c2).heap[w.heap.size + 1]? = some (.cells c2 67 (0, 0)) := setRow_heap _ _ _ _ _ _ (by rw [setRow_other _ _ _ _ (by omega)]; exact hg2)
    have hh1 : ((w1.setRow w.heap.size c1).setRow (w.heap.size + 1) c2).heap[w.heap.size]? = some (.cells c1 67 (0, 0)) := by
      rw [setRow_other _ _ _ _ (by omega)]
      exact setRow_heap _ _ _ _ _ _ hg1
    refine bodyPost_ret (results_two h6 h7 hh1 hh2 s1 s2) rfl ?_
    rw [h8]
    exact ⟨_, _, rfl, (hE1.setRow (Nat.le_refl _) _).setRow (by omega) _, fun h => ⟨by rw [(hc h).1], by rw [(hc h).2]⟩, fun h => ⟨by rw [(hc' h).1], by rw [(hc' h).2]⟩⟩
  have HD := Lib.hid done; clear done
  by_cases hz : v0 = 0
  · subst hz
    have HVal : Hid (errS t [i, j] = if [i, j].any (badIx t.length) then 7 else 0) := by show _ = _; rw [errS, if_neg (by rw [← HV0.out]; simp)]
    have bad : ∀ x, x ∈ [i, j] → (x < 0 ∨ (t.length : Int) ≤ x) → Hid (res = 7) := by
      intro x hx h
      show _ = _
      rw [HRES.out, HVal.out, if_pos (List.any_eq_true.2 ⟨x, hx, by simpa [badIx] using h⟩)]
    have HB := Lib.hid bad; clear bad
    by_cases h1 : i < 0
    · have e1 : decide (i < 0) = true := decide_eq_true h1
      have hr : res = 7 := (HB.out i (by simp) (.inl h1)).out
      go_wp2_with (refine wpList_store_all rfl 67 _ _ rfl _ _ rfl rfl 67 _ (by first | exact hg1 | exact hg2 | (rw [setRow_other _ _ _ _ (by omega)]; exact hg2)) inf67 rfl (by first | rfl | simp [Value.oneCell']) ?_)
      exact HD.out _ _ _ rfl rfl (by rw [hr]; rfl) rfl rfl (by rw [hr]; omega) (fun _ => ⟨rfl, rfl⟩)
    have e1 : decide (i < 0) = false := decide_eq_false h1
    by_cases h2 : (t.length : Int) ≤ i
    · have e2 : decide ((t.length : Int) ≤ i) = true := decide_eq_true h2
      have hr : res = 7 := (HB.out i (by simp) (.inr h2)).out
      go_wp2_with (refine wpList_store_all rfl 67 _ _ rfl _ _ rfl rfl 67 _ (by first | exact hg1 | exact hg2 | (rw [setRow_other _ _ _ _ (by omega)]; exact hg2)) inf67 rfl (by first | rfl | simp [Value.oneCell']) ?_)
      exact HD.out _ _ _ rfl rfl (by rw [hr]; rfl) rfl rfl (by rw [hr]; omega) (fun _ => ⟨rfl, rfl⟩)
    have e2 : decide ((t.length : Int) ≤ i) = false := decide_eq_false h2
    by_cases h3 : j < 0
    · have e3 : decide (j < 0) = true := decide_eq_true h3
      have hr : res = 7 := (HB.out j (by simp) (.inl h3)).out
      go_wp2_with (refine wpList_store_all rfl 67 _ _ rfl _ _ rfl rfl 67 _ (by first | exact hg1 | exact hg2 | (rw [setRow_other _ _ _ _ (by omega)]; exact hg2)) inf67 rfl (by first | rfl | simp [Value.oneCell']) ?_)
      exact HD.out _ _ _ rfl rfl (by rw [hr]; rfl) rfl rfl (by rw [hr]; omega) (fun _ => ⟨rfl, rfl⟩)
    have e3 : decide (j < 0) = false := decide_eq_false h3
    by_cases h4 : (t.length : Int) ≤ j
    · have e4 : decide ((t.length : Int) ≤ j) = true := decide_eq_true h4
      have hr : res = 7 := (HB.out j (by simp) (.inr h4)).out
      go_wp2_with (refine wpList_store_all rfl 67 _ _ rfl _ _ rfl rfl 67 _ (by first | exact hg1 | exact hg2 | (rw [setRow_other _ _ _ _ (by omega)]; exact hg2)) inf67 rfl (by first | rfl | simp [Value.oneCell']) ?_)
      exact HD.out _ _ _ rfl rfl (by rw [hr]; rfl) rfl rfl (by rw [hr]; omega) (fun _ => ⟨rfl, rfl⟩)
    have e4 : decide ((t.length : Int) ≤ j) = false := decide_eq_false h4
    obtain ⟨tb, toff, rfl, -⟩ := hT.2 (by rintro rfl; simp at h2; omega)
    have hr : res = 0 := by
      rw [HRES.out, HVal.out, if_neg (by simp [badIx]; omega)]
    go_wp2_with (first | (refine wpList_store_all rfl 67 _ _ rfl (w.heap.size) #[.slice (some ⟨tb, toff, none⟩) t.length cap, .int .i64 i] rfl rfl 67 #[.slice none 0 0, .int .i64 0] (hg1) inf67 rfl (by simp [Value.oneCell']) ?_) | (refine wpList_store_all rfl 67 _ _ rfl (w.heap.size + 1) #[.slice (some ⟨tb, toff, none⟩) t.length cap, .int .i64 j] rfl rfl 67 #[.slice none 0 0, .int .i64 0] (by rw [setRow_other _ _ _ _ (by omega)]; exact hg2) inf67 rfl (by simp [Value.oneCell']) ?_))
    refine HD.out _ _ _ ?_ ?_ ?_ ?_ ?_ ?_ ?_
    · rfl
    · rfl
    · rw [hr]; rfl
    · rfl
    · rfl
    · exact fun _ => ⟨rfl, rfl⟩
    · exact fun h => absurd hr h
  · have e1 : (v0 == 0) = false := beq_eq_false_iff_ne.2 hz
    have hr : res = v0 := by rw [HRES.out, errS, if_pos (by rw [← HV0.out]; exact hz), HV0.out]
    go_wp2_with (refine wpList_store_all rfl 67 _ _ rfl _ _ rfl rfl 67 _ (by first | exact hg1 | exact hg2 | (rw [setRow_other _ _ _ _ (by omega)]; exact hg2)) inf67 rfl (by first | rfl | simp [Value.oneCell']) ?_)
    exact HD.out _ _ _ rfl rfl (by rw [hr]; rfl) rfl rfl (by rw [hr]; exact fun h => absurd h hz) (fun _ => ⟨rfl, rfl⟩)

end Go.Proofs.Ythoelnoahfedmaa
