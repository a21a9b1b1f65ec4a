/- The contract of the program's one (all kinds). -/
import Derived.Test.YthoelnoahfedmaaV5b
namespace Go.Proofs.Ythoelnoahfedmaa
open Go.RowKit
set_option linter.unusedVariables false
set_option linter.unusedSimpArgs false

set_option maxRecDepth 100000 in
set_option maxHeartbeats 4000000 in
theorem one_other {w : World} {a : Option Addr} {t : List Fmt} {cap : Nat} (f : Fld) (last : Bool) (k1 : (f.kind == 1) = false) (k2 : (f.kind == 2) = false) (k3 : (f.kind == 3) = false) (k4 : (f.kind == 4) = false) (k5 : (f.kind == 5) = false) (k6 : (f.kind == 6) = false)
    (hn : f.kind ≠ 1 ∧ f.kind ≠ 2 ∧ f.kind ≠ 3 ∧ f.kind ≠ 4 ∧ f.kind ≠ 5 ∧ f.kind ≠ 6) :
    Calls Try.prog 68 #[.slice a t.length cap, .agg #[.int .i64 f.kind, .string f.bytes, .int .i64 f.n, .int .i64 f.low, .int .i64 f.high], .bool last] w fun e w' => e = .returned (.int .i64 (fieldErr t f last)) ∧ Ext w w' := by
  have HS : Hid (shapeS f = false) := by
    show _ = _
    obtain ⟨h1, h2, h3, h4, h5, h6⟩ := hn
    simp [shapeS, h1, h2, h3, h4, h5, h6]
  clear hn
  obtain ⟨res, hres⟩ : ∃ res, res = fieldErr t f last := ⟨_, rfl⟩
  rw [← hres]
  have HRES := Lib.hid hres; clear hres
  go_enter Try.func68, Try.ntmps68
  go_wp2_with fail
  go_ret
  exact ⟨ri (by rw [HRES.out]; exact (fe_shape HS.out).symm), (by repeat (first | exact Ext.refl _ | exact Ext.alloc _ _ | apply Ext.then_dr | apply Ext.then_drN | apply Ext.then_drN2 | (refine Ext.then_al ?_ _)))⟩

set_option maxRecDepth 100000 in
set_option maxHeartbeats 4000000 in
theorem one_5 {w : World} {B : Nat} {a : Option Addr} {t : List Fmt} {cap : Nat} (f : Fld) (last : Bool) (hk : f.kind = 5) (hT : TabA w B a t) (hB : B ≤ w.heap.size) :
    Calls Try.prog 68 #[.slice a t.length cap, .agg #[.int .i64 f.kind, .string f.bytes, .int .i64 f.n, .int .i64 f.low, .int .i64 f.high], .bool last] w fun e w' => e = .returned (.int .i64 (fieldErr t f last)) ∧ Ext w w' := by
  have hn63 := hT.1
  unfold maxLen at hn63
  have HS : Hid (shapeS f = decide (f.bytes.toList = [] ∧ f.low = 0 ∧ f.high = 0)) := by show _ = _; simp [shapeS, hk]
  have HG : Hid (rangesS f last = true) := by show _ = _; simp [rangesS, hk]
  have HKK : Hid (f.kind = 5) := hk
  obtain ⟨res, hres⟩ : ∃ res, res = fieldErr t f last := ⟨_, rfl⟩
  rw [← hres]
  have HRES := Lib.hid hres; clear hres
  by_cases hs : f.bytes.toList = [] ∧ f.low = 0 ∧ f.high = 0
  · have HST : Hid (shapeS f = true) := by show _ = _; rw [HS.out]; exact decide_eq_true hs
    obtain ⟨hbz, hl0, hh0⟩ := hs
    by_cases hneg : f.n < 0
    · have HR : Hid (res = 4) := by
        show _ = _
        rw [HRES.out, fieldErr, if_neg (by simp [HST.out]), if_neg (by simp [HG.out]), if_neg (by simp [HKK.out]), if_pos (Or.inl hneg)]
      go_enter Try.func68, Try.ntmps68
      go_wp2_with fail
      go_ret
      exact ⟨ri HR.out.symm, (by repeat (first | exact Ext.refl _ | exact Ext.alloc _ _ | apply Ext.then_dr | apply Ext.then_drN | apply Ext.then_drN2 | (refine Ext.then_al ?_ _)))⟩
    · obtain ⟨j, hj⟩ : ∃ j : Nat, f.n = j := ⟨f.n.toNat, by omega⟩
      by_cases hge : t.length ≤ j
      · have HR : Hid (res = 4) := by
          show _ = _
          rw [HRES.out, fieldErr, if_neg (by simp [HST.out]), if_neg (by simp [HG.out]), if_neg (by simp [HKK.out]), if_pos (Or.inr (by omega))]
        go_enter Try.func68, Try.ntmps68
        go_wp2_with fail
        go_ret
        exact ⟨ri HR.out.symm, (by repeat (first | exact Ext.refl _ | exact Ext.alloc _ _ | apply Ext.then_dr | apply Ext.then_drN | apply Ext.then_drN2 | (refine Ext.then_al ?_ _)))⟩
      · obtain ⟨gm, hgm⟩ : ∃ g, t[j]? = some g := ⟨_, List.getElem?_eq_getElem (by omega)⟩
        obtain ⟨tb, toff, ga, gcap, rfl, htb, htn, htc, hG, -⟩ := hT.at' hgm
        have HR : Hid (res = if plain17 gm.fields = false then 10 else 0) := by
          show _ = _
          have hgd : (t.getD f.n.toNat default).fields = gm.fields := by simp [hj, hgm]
          rw [HRES.out, fieldErr, if_neg (by simp [HST.out]), if_neg (by simp [HG.out]), if_neg (by simp [HKK.out]), if_neg (by omega), hgd]
        have hjl := lt_of_get hgm
        clear hgm
        have htb' : tb < w.heap.size := by omega
        have hGl := hG.1
        unfold maxLen at hGl
        go_enter Try.func68, Try.ntmps68
        go_wp2_with fail
        go_loopw [10, 140] (fun _ i wr => ∃ k : Nat, k ≤ gm.fields.length ∧ i = .int .i64 k ∧ Ext w wr ∧ ∀ (j : Nat) (x : Fld), j < k → gm.fields[j]? = some x → x.kind ≠ 5 ∧ x.kind ≠ 6) (fun _ i _ => gm.fields.length - (intOf i).toNat)
        case atStart => exact ⟨0, Nat.zero_le _, rfl, (by repeat (first | exact Ext.refl _ | exact Ext.alloc _ _ | apply Ext.then_dr | apply Ext.then_drN | apply Ext.then_drN2 | (refine Ext.then_al ?_ _))), fun j f h hj => by omega⟩
        case round =>
          obtain ⟨k, hk', rfl, hE, hall⟩ := hrel
          have HALL := Lib.hid hall; clear hall
          by_cases hlt : k < gm.fields.length
          · obtain ⟨x, hx⟩ : ∃ f, gm.fields[k]? = some f := ⟨_, List.getElem?_eq_getElem hlt⟩
            obtain ⟨fb, foff, rfl, hfb, hc⟩ := (hG.ext hB hE).get' hx
            obtain ⟨c0, c1, c2, c3, c4, cw⟩ := hc
            have hfb' : fb < wr.heap.size := by have := hE.size; omega
            have HX := Lib.hid hx; clear hx
            by_cases h5 : x.kind = 5
            · have e5 : (x.kind == 5) = true := by simp [h5]
              have H5 := Lib.hid h5; clear h5
              go_wp2_with fail
              go_ret
              exact ⟨ri (by rw [HR.out, if_pos]; rw [plain17, decide_eq_false_iff_not]; intro h; exact (h x (List.mem_of_getElem? HX.out)).1 H5.out), hE.trans (by repeat (first | exact Ext.refl _ | exact Ext.alloc _ _ | apply Ext.then_dr | apply Ext.then_drN | apply Ext.then_drN2 | (refine Ext.then_al ?_ _)))⟩
            · have e5 : (x.kind == 5) = false := by simp [h5]
              have H5 := Lib.hid h5; clear h5
              by_cases h6 : x.kind = 6
              · have e6 : (x.kind == 6) = true := by simp [h6]
                have H6 := Lib.hid h6; clear h6
                go_wp2_with fail
                go_ret
                exact ⟨ri (by rw [HR.out, if_pos]; rw [plain17, decide_eq_false_iff_not]; intro h; exact (h x (List.mem_of_getElem? HX.out)).2 H6.out), hE.trans (by repeat (first | exact Ext.refl _ | exact Ext.alloc _ _ | apply Ext.then_dr | apply Ext.then_drN | apply Ext.then_drN2 | (refine Ext.then_al ?_ _)))⟩
              · have e6 : (x.kind == 6) = false := by simp [h6]
                have H6 := Lib.hid h6; clear h6
                go_wp2_with fail
                go_roundw
                case rel => exact ⟨k + 1, by omega, by go_num, hE.trans (by repeat (first | exact Ext.refl _ | exact Ext.alloc _ _ | apply Ext.then_dr | apply Ext.then_drN | apply Ext.then_drN2 | (refine Ext.then_al ?_ _))), fun j x' hj hx' => by
                  rcases Nat.lt_or_ge j k with h' | h'
                  · exact HALL.out j x' h' hx'
                  · have : j = k := by omega
                    subst this
                    have := HX.out
                    rw [this] at hx'
                    cases hx'
                    exact ⟨H5.out, H6.out⟩⟩
                case measure => simp [intOf]; omega
          · go_wp2_with fail
            go_ret
            exact ⟨ri (by rw [HR.out, if_neg]; simp only [Bool.not_eq_false]; rw [plain17, decide_eq_true_iff]; intro x hx; obtain ⟨j, hj⟩ := List.mem_iff_getElem?.1 hx; exact HALL.out j x (by have := lt_of_get hj; omega) hj), hE⟩
  · have HSF : Hid (shapeS f = false) := by show _ = _; rw [HS.out]; exact decide_eq_false hs
    by_cases hbz : f.bytes.toList = []
    · have hs2 : ¬ (f.low = 0 ∧ f.high = 0) := fun h => hs ⟨hbz, h⟩
      clear hs
      by_cases hl0 : f.low = 0
      · have hh0 : ¬ f.high = 0 := fun h => hs2 ⟨hl0, h⟩
        have hh0' : ¬ 0 = f.high := by omega
        clear hs2 hh0
        go_enter Try.func68, Try.ntmps68
        go_wp2_with fail
        go_ret
        exact ⟨ri (by rw [HRES.out]; exact (fe_shape HSF.out).symm), (by repeat (first | exact Ext.refl _ | exact Ext.alloc _ _ | apply Ext.then_dr | apply Ext.then_drN | apply Ext.then_drN2 | (refine Ext.then_al ?_ _)))⟩
      · have hl0' : ¬ 0 = f.low := by omega
        clear hs2 hl0
        go_enter Try.func68, Try.ntmps68
        go_wp2_with fail
        go_ret
        exact ⟨ri (by rw [HRES.out]; exact (fe_shape HSF.out).symm), (by repeat (first | exact Ext.refl _ | exact Ext.alloc _ _ | apply Ext.then_dr | apply Ext.then_drN | apply Ext.then_drN2 | (refine Ext.then_al ?_ _)))⟩
    · clear hs
      go_enter Try.func68, Try.ntmps68
      go_wp2_with fail
      go_ret
      exact ⟨ri (by rw [HRES.out]; exact (fe_shape HSF.out).symm), (by repeat (first | exact Ext.refl _ | exact Ext.alloc _ _ | apply Ext.then_dr | apply Ext.then_drN | apply Ext.then_drN2 | (refine Ext.then_al ?_ _)))⟩

theorem one_any {w : World} {B : Nat} {a : Option Addr} {t : List Fmt} {cap : Nat} (f : Fld) (last : Bool) (hT : TabA w B a t) (hB : B ≤ w.heap.size) :
    Calls Try.prog 68 #[.slice a t.length cap, .agg #[.int .i64 f.kind, .string f.bytes, .int .i64 f.n, .int .i64 f.low, .int .i64 f.high], .bool last] w fun e w' => e = .returned (.int .i64 (fieldErr t f last)) ∧ Ext w w' := by
  rcases kind7 f.kind with hk | hk | hk | hk | hk | hk | ⟨⟨k1, k2, k3, k4, k5, k6⟩, hn⟩
  · exact one_1 f last hk
  · exact one_2 f last hk
  · exact one_3 f last hk
  · exact one_4 f last hk
  · exact one_5 f last hk hT hB
  · exact one_6 f last hk
  · exact one_other f last k1 k2 k3 k4 k5 k6 hn

end Go.Proofs.Ythoelnoahfedmaa
