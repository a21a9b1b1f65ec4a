/- The contract of the program's one (all kinds). The contract of the program's Valid. -/
import Derived.Test.YthoelnoahfedmaaG6
namespace Go.Proofs.Ythoelnoahfedmaa
open Go.RowKit
set_option linter.unusedVariables false
set_option linter.unusedSimpArgs false

set_option maxRecDepth 100000 in
set_option maxHeartbeats 4000000 in
theorem one_other {w : World} {a : Option Addr} {t : List Fmt} {cap : Nat} (f : Fld) (last : Bool) (k1 : (f.kind == 1) = false) (k2 : (f.kind == 2) = false) (k3 : (f.kind == 3) = false) (k4 : (f.kind == 4) = false) (k5 : (f.kind == 5) = false) (k6 : (f.kind == 6) = false)
    (hn : f.kind ≠ 1 ∧ f.kind ≠ 2 ∧ f.kind ≠ 3 ∧ f.kind ≠ 4 ∧ f.kind ≠ 5 ∧ f.kind ≠ 6) :
    Calls Try.prog 68 #[.slice a t.length cap, .agg #[.int .i64 f.kind, .string f.bytes, .int .i64 f.n, .int .i64 f.low, .int .i64 f.high], .bool last] w fun e w' => e = .returned (.int .i64 (fieldErr t f last)) ∧ Ext w w' := by
  have HS : Hid (shapeS f = false) := by
    show _ = _
    obtain ⟨h1, h2, h3, h4, h5, h6⟩ := hn
    simp [shapeS, h1, h2, h3, h4, h5, h6]
  clear hn
  obtain ⟨res, hres⟩ : ∃ res, res = fieldErr t f last := ⟨_, rfl⟩
  rw [← hres]
  have HRES := Lib.hid hres; clear hres
  go_enter Try.func68, Try.ntmps68
  go_wp2_with fail
  go_ret
  exact ⟨ri (by rw [HRES.out]; exact (fe_shape HS.out).symm), (by repeat (first | exact Ext.refl _ | exact Ext.alloc _ _ | apply Ext.then_dr | apply Ext.then_drN | apply Ext.then_drN2 | (refine Ext.then_al ?_ _)))⟩

set_option maxRecDepth 100000 in
set_option maxHeartbeats 4000000 in
theorem one_5 {w : World} {B : Nat} {a : Option Addr} {t : List Fmt} {cap : Nat} (f : Fld) (last : Bool) (hk : f.kind = 5) (hT : TabA w B a t) (hB : B ≤ w.heap.size) :
    Calls Try.prog 68 #[.slice a t.length cap, .agg #[.int .i64 f.kind, .string f.bytes, .int .i64 f.n, .int .i64 f.low, .int .i64 f.high], .bool last] w fun e w' => e = .returned (.int .i64 (fieldErr t f last)) ∧ Ext w w' := by
  have hn63 := hT.1
  unfold maxLen at hn63
  have HS : Hid (shapeS f = decide (f.bytes.toList = [] ∧ f.low = 0 ∧ f.high = 0)) := by show _ = _; simp [shapeS, hk]
  have HG : Hid (rangesS f last = true) := by show _ = _; simp [rangesS, hk]
  have HKK : Hid (f.kind = 5) := hk
  obtain ⟨res, hres⟩ : ∃ res, res = fieldErr t f last := ⟨_, rfl⟩
  rw [← hres]
  have HRES := Lib.hid hres; clear hres
  by_cases hs : f.bytes.toList = [] ∧ f.low = 0 ∧ f.high = 0
  · have HST : Hid (shapeS f = true) := by show _ = _; rw [HS.out]; exact decide_eq_true hs
    obtain ⟨hbz, hl0, hh0⟩ := hs
    by_cases hneg : f.n < 0
    · have HR : Hid (res = 4) := by
        show _ = _
        rw [HRES.out, fieldErr, if_neg (by simp [HST.out]), if_neg (by simp [HG.out]), if_neg (by simp [HKK.out]), if_pos (Or.inl hneg)]
      go_enter Try.func68, Try.ntmps68
      go_wp2_with fail
      go_ret
      exact ⟨ri HR.out.symm, (by repeat (first | exact Ext.refl _ | exact Ext.alloc _ _ | apply Ext.then_dr | apply Ext.then_drN | apply Ext.then_drN2 | (refine Ext.then_al ?_ _)))⟩
    · obtain ⟨j, hj⟩ : ∃ j : Nat, f.n = j := ⟨f.n.toNat, by omega⟩
      by_cases hge : t.length ≤ j
      · have HR : Hid (res = 4) := by
          show _ = _
          rw [HRES.out, fieldErr, if_neg (by simp [HST.out]), if_neg (by simp [HG.out]), if_neg (by simp [HKK.out]), if_pos (Or.inr (by omega))]
        go_enter Try.func68, Try.ntmps68
        go_wp2_with fail
        go_ret
        exact ⟨ri HR.out.symm, (by repeat (first | exact Ext.refl _ | exact Ext.alloc _ _ | apply Ext.then_dr | apply Ext.then_drN | apply Ext.then_drN2 | (refine Ext.then_al ?_ _)))⟩
      · obtain ⟨gm, hgm⟩ : ∃ g, t[j]? = some g := ⟨_, List.getElem?_eq_getElem (by omega)⟩
        obtain ⟨tb, toff, ga, gcap, rfl, htb, htn, htc, hG, -⟩ := hT.at' hgm
        have HR : Hid (res = if plain17 gm.fields = false then 10 else 0) := by
          show _ = _
          have hgd : (t.getD f.n.toNat default).fields = gm.fields := by simp [hj, hgm]
          rw [HRES.out, fieldErr, if_neg (by simp [HST.out]), if_neg (by simp [HG.out]), if_neg (by simp [HKK.out]), if_neg (by omega), hgd]
        have hjl := lt_of_get hgm
        clear hgm
        have htb' : tb < w.heap.size := by omega
        have hGl := hG.1
        unfold maxLen at hGl
        go_enter Try.func68, Try.ntmps68
        go_wp2_with fail
        go_loopw [10, 140] (fun _ i wr => ∃ k : Nat, k ≤ gm.fields.length ∧ i = .int .i64 k ∧ Ext w wr ∧ ∀ (j : Nat) (x : Fld), j < k → gm.fields[j]? = some x → x.kind ≠ 5 ∧ x.kind ≠ 6) (fun _ i _ => gm.fields.length - (intOf i).toNat)
        case atStart => exact ⟨0, Nat.zero_le _, rfl, (by repeat (first | exact Ext.refl _ | exact Ext.alloc _ _ | apply Ext.then_dr | apply Ext.then_drN | apply Ext.then_drN2 | (refine Ext.then_al ?_ _))), fun j f h hj => by omega⟩
        case round =>
          obtain ⟨k, hk', rfl, hE, hall⟩ := hrel
          have HALL := Lib.hid hall; clear hall
          by_cases hlt : k < gm.fields.length
          · obtain ⟨x, hx⟩ : ∃ f, gm.fields[k]? = some f := ⟨_, List.getElem?_eq_getElem hlt⟩
            obtain ⟨fb, foff, rfl, hfb, hc⟩ := (hG.ext hB hE).get' hx
            obtain ⟨c0, c1, c2, c3, c4, cw⟩ := hc
            have hfb' : fb < wr.heap.size := by have := hE.size; omega
            have HX := Lib.hid hx; clear hx
            by_cases h5 : x.kind = 5
            · have e5 : (x.kind == 5) = true := by simp [h5]
              have H5 := Lib.hid h5; clear h5
              go_wp2_with fail
              go_ret
              exact ⟨ri (by rw [HR.out, if_pos]; rw [plain17, decide_eq_false_iff_not]; intro h; exact (h x (List.mem_of_getElem? HX.out)).1 H5.out), hE.trans (by repeat (first | exact Ext.refl _ | exact Ext.alloc _ _ | apply Ext.then_dr | apply Ext.then_drN | apply Ext.then_drN2 | (refine Ext.then_al ?_ _)))⟩
            · have e5 : (x.kind == 5) = false := by simp [h5]
              have H5 := Lib.hid h5; clear h5
              by_cases h6 : x.kind = 6
              · have e6 : (x.kind == 6) = true := by simp [h6]
                have H6 := Lib.hid h6; clear h6
                go_wp2_with fail
                go_ret
                exact ⟨ri (by rw [HR.out, if_pos]; rw [plain17, decide_eq_false_iff_not]; intro h; exact (h x (List.mem_of_getElem? HX.out)).2 H6.out), hE.trans (by repeat (first | exact Ext.refl _ | exact Ext.alloc _ _ | apply Ext.then_dr | apply Ext.then_drN | apply Ext.then_drN2 | (refine Ext.then_al ?_ _)))⟩
              · have e6 : (x.kind == 6) = false := by simp [h6]
                have H6 := Lib.hid h6; clear h6
                go_wp2_with fail
                go_roundw
                case rel => exact ⟨k + 1, by omega, by go_num, hE.trans (by repeat (first | exact Ext.refl _ | exact Ext.alloc _ _ | apply Ext.then_dr | apply Ext.then_drN | apply Ext.then_drN2 | (refine Ext.then_al ?_ _))), fun j x' hj hx' => by
                  rcases Nat.lt_or_ge j k with h' | h'
                  · exact HALL.out j x' h' hx'
                  · have : j = k := by omega
                    subst this
                    have := HX.out
                    rw [this] at hx'
                    cases hx'
                    exact ⟨H5.out, H6.out⟩⟩
                case measure => simp [intOf]; omega
          · go_wp2_with fail
            go_ret
            exact ⟨ri (by rw [HR.out, if_neg]; simp only [Bool.not_eq_false]; rw [plain17, decide_eq_true_iff]; intro x hx; obtain ⟨j, hj⟩ := List.mem_iff_getElem?.1 hx; exact HALL.out j x (by have := lt_of_get hj; omega) hj), hE⟩
  · have HSF : Hid (shapeS f = false) := by show _ = _; rw [HS.out]; exact decide_eq_false hs
    by_cases hbz : f.bytes.toList = []
    · have hs2 : ¬ (f.low = 0 ∧ f.high = 0) := fun h => hs ⟨hbz, h⟩
      clear hs
      by_cases hl0 : f.low = 0
      · have hh0 : ¬ f.high = 0 := fun h => hs2 ⟨hl0, h⟩
        have hh0' : ¬ 0 = f.high := by omega
        clear hs2 hh0
        go_enter Try.func68, Try.ntmps68
        go_wp2_with fail
        go_ret
        exact ⟨ri (by rw [HRES.out]; exact (fe_shape HSF.out).symm), (by repeat (first | exact Ext.refl _ | exact Ext.alloc _ _ | apply Ext.then_dr | apply Ext.then_drN | apply Ext.then_drN2 | (refine Ext.then_al ?_ _)))⟩
      · have hl0' : ¬ 0 = f.low := by omega
        clear hs2 hl0
        go_enter Try.func68, Try.ntmps68
        go_wp2_with fail
        go_ret
        exact ⟨ri (by rw [HRES.out]; exact (fe_shape HSF.out).symm), (by repeat (first | exact Ext.refl _ | exact Ext.alloc _ _ | apply Ext.then_dr | apply Ext.then_drN | apply Ext.then_drN2 | (refine Ext.then_al ?_ _)))⟩
    · clear hs
      go_enter Try.func68, Try.ntmps68
      go_wp2_with fail
      go_ret
      exact ⟨ri (by rw [HRES.out]; exact (fe_shape HSF.out).symm), (by repeat (first | exact Ext.refl _ | exact Ext.alloc _ _ | apply Ext.then_dr | apply Ext.then_drN | apply Ext.then_drN2 | (refine Ext.then_al ?_ _)))⟩

theorem one_any {w : World} {B : Nat} {a : Option Addr} {t : List Fmt} {cap : Nat} (f : Fld) (last : Bool) (hT : TabA w B a t) (hB : B ≤ w.heap.size) :
    Calls Try.prog 68 #[.slice a t.length cap, .agg #[.int .i64 f.kind, .string f.bytes, .int .i64 f.n, .int .i64 f.low, .int .i64 f.high], .bool last] w fun e w' => e = .returned (.int .i64 (fieldErr t f last)) ∧ Ext w w' := by
  rcases kind7 f.kind with hk | hk | hk | hk | hk | hk | ⟨⟨k1, k2, k3, k4, k5, k6⟩, hn⟩
  · exact one_1 f last hk
  · exact one_2 f last hk
  · exact one_3 f last hk
  · exact one_4 f last hk
  · exact one_5 f last hk hT hB
  · exact one_6 f last hk
  · exact one_other f last k1 k2 k3 k4 k5 k6 hn

end Go.Proofs.Ythoelnoahfedmaa

namespace Go.Proofs.Ythoelnoahfedmaa
open Go.RowKit
set_option linter.unusedVariables false
set_option linter.unusedSimpArgs false

set_option maxRecDepth 100000 in
set_option maxHeartbeats 4000000 in
theorem Valid_any {w : World} {B : Nat} {a : Option Addr} {t : List Fmt} {cap : Nat} (hT : TabA w B a t) (hB : B ≤ w.heap.size) (hcap : t.length ≤ cap) (hcap2 : cap ≤ 9223372036854775807) :
    Calls Try.prog 43 #[.slice a t.length cap] w fun e w' => e = .returned (.int .i64 (validT t)) ∧ Ext w w' := by
  by_cases h8 : 8 < t.length
  · have e1 : decide ((8 : Int) < (t.length : Int)) = true := decide_eq_true (by omega)
    have HR : Hid (validT t = 3) := by show _ = _; rw [validT, if_pos h8]
    go_enter Try.func43, Try.ntmps43
    go_wp2_with fail
    go_ret
    exact ⟨ri HR.out.symm, Ext.refl _⟩
  · have e1 : decide ((8 : Int) < (t.length : Int)) = false := decide_eq_false (by omega)
    have HR : Hid (validT t = errFrom (fmtE t) t.length) := by show _ = _; rw [validT, if_neg h8]
    obtain ⟨res, hres⟩ : ∃ res, res = validT t := ⟨_, rfl⟩
    rw [← hres]
    have HRES := Lib.hid hres; clear hres
    go_enter Try.func43, Try.ntmps43
    go_wp2_with fail
    go_loopw [3, 4, 5, 6, 7, 13, 44] (fun _ _ _ _ _ i _ wr => ∃ m : Nat, m ≤ t.length ∧ i = .int .i64 m ∧ Ext w wr ∧ ∀ j, j < m → fmtE t j = 0) (fun _ _ _ _ _ i _ _ => t.length - (intOf i).toNat)
    case atStart => exact ⟨0, Nat.zero_le _, rfl, Ext.refl _, fun j h => by omega⟩
    case round =>
      obtain ⟨m, hm, rfl, hE, hall⟩ := hrel
      have HALL := Lib.hid hall; clear hall
      have hBr : B ≤ wr.heap.size := by have := hE.size; omega
      have hTr := hT.ext hB hE
      by_cases hlt : m < t.length
      · obtain ⟨fm, hf⟩ : ∃ f, t[m]? = some f := ⟨_, List.getElem?_eq_getElem hlt⟩
        obtain ⟨tb, toff, fa, fcap, rfl, htb, htn, htc, hF, hnl⟩ := hTr.at' hf
        have htb' : tb < wr.heap.size := by omega
        have hF := hF.alloc hBr (Obj.cells #[Value.string fm.name, Value.slice fa fm.fields.length fcap] 42)
        have HF := Lib.hid hf; clear hf
        have HFE : Hid (fmtE t m = fmtErr t m fm) := fmtE_at HF.out
        have htk : (t.take m).length = m := by rw [List.length_take]; omega
        have hTk := hTr.take m
        by_cases hnm : nameOk fm.name = false
        · have HFF : Hid (fmtErr t m fm = 2) := by show _ = _; rw [fmtErr, if_pos hnm]
          have HNM := Lib.hid hnm; clear hnm
          go_wp2_with fail
          refine (isName_any fm.name _ hnl).mono ?_
          rw [HNM.out]
          rintro e w' ⟨rfl, rfl⟩
          go_wp2_with fail
          go_ret
          exact ⟨ri (by rw [HRES.out, HR.out, err_at hlt (by rw [HFE.out, HFF.out]; decide) HALL.out, HFE.out, HFF.out]), hE.then_al _⟩
        · have hnm' : nameOk fm.name = true := by simpa using hnm
          have hNM := Lib.hid hnm'
          clear hnm hnm'
          have hlt' : (m : Int) < (t.length : Int) := by omega
          have hcp' : (m : Int) ≤ (cap : Int) := by omega
          have hm0' : (0 : Int) ≤ (m : Int) := by omega
          generalize hfv : findS (t.take m) fm.name = fv at *
          have HFV := Lib.hid hfv
          by_cases hfd : 0 ≤ fv
          · have e2 : decide ((0 : Int) ≤ fv) = true := decide_eq_true hfd
            have HFF : Hid (fmtErr t m fm = 5) := by show _ = _; rw [fmtErr, if_neg (by simp [hNM.out]), hfv, if_pos hfd]
            clear hfv
            go_wp2_with fail
            refine (isName_any fm.name _ hnl).mono ?_
            rw [hNM.out]
            rintro e w' ⟨rfl, rfl⟩
            go_wp2_with fail
            have b0 : (wr.alloc (Obj.cells #[Value.string fm.name, Value.slice fa fm.fields.length fcap] 42)).cell? ⟨wr.heap.size, 0, none⟩ = some (.string fm.name) := cs_new rfl
            have b1 : (wr.alloc (Obj.cells #[Value.string fm.name, Value.slice fa fm.fields.length fcap] 42)).cell? ⟨wr.heap.size, 1, none⟩ = some (.slice fa fm.fields.length fcap) := cs_new rfl
            refine wp_region_calm 8 (fun w' => Ext (wr.alloc (Obj.cells #[Value.string fm.name, Value.slice fa fm.fields.length fcap] 42)) w') (by kernel_rfl) (by kernel_rfl) (fun _ _ h hE => h.trans hE) (Ext.drew _) ?_
            refine calm_value (fun _ => rfl) ?_ (fun g w' hE => ?_) ?_
            rotate_left
            · (have zz0 := cs_ext hE b0; have zz1 := cs_ext hE b1; go_simp; first | done | rfl)
            refine calm_value (fun _ => rfl) ?_ (fun g w' hE => ?_) ?_
            rotate_left
            · (have zz0 := cs_ext hE b0; have zz1 := cs_ext hE b1; go_simp; first | done | rfl)
            refine calm_value (fun _ => rfl) ?_ (fun g w' hE => ?_) ?_
            rotate_left
            · (have zz0 := cs_ext hE b0; have zz1 := cs_ext hE b1; go_simp; first | done | rfl)
            refine calm_value (fun _ => rfl) ?_ (fun g w' hE => ?_) ?_
            rotate_left
            · (have zz0 := cs_ext hE b0; have zz1 := cs_ext hE b1; go_simp; first | done | rfl)
            refine calm_value (fun _ => rfl) ?_ (fun g w' hE => ?_) ?_
            rotate_left
            · (have zz0 := cs_ext hE b0; have zz1 := cs_ext hE b1; go_simp; first | done | rfl)
            refine calm_call' (fun _ => rfl) 67 ?_ (fun g w' hE => ?_) ?_
            rotate_left
            · (have zz0 := cs_ext hE b0; have zz1 := cs_ext hE b1; go_simp; first | done | exact ⟨rfl, rfl⟩ | rfl)
            apply Exists.intro
            refine And.intro (fun w' hE => ?_) ?_
            · (have h := index_any (cap := cap) fm.name ((hTk.alloc hBr _).ext (by simp; omega) hE) (by have := hE.size; simp at this; omega); rw [htk, HFV.out] at h; exact h)
            refine calm_value (fun _ => rfl) ?_ (fun g w' hE => ?_) ?_
            rotate_left
            · (have zz0 := cs_ext hE b0; have zz1 := cs_ext hE b1; go_simp; first | done | rfl)
            refine calm_value (fun _ => rfl) ?_ (fun g w' hE => ?_) ?_
            rotate_left
            · (have zz0 := cs_ext hE b0; have zz1 := cs_ext hE b1; go_simp; first | done | rfl)
            intro gg wz hEz hFz
            simp only [List.drop_succ_cons, List.drop_zero, Act.put, List.setIfInBounds_toArray, List.set_cons_succ, List.set_cons_zero]
            have hEw : Ext w wz := (hE.then_al _).trans hEz
            have z0 := cs_ext hEz b0
            have z1 := cs_ext hEz b1
            go_wp2_with fail
            go_ret
            exact ⟨ri (by rw [HRES.out, HR.out, err_at hlt (by rw [HFE.out, HFF.out]; decide) HALL.out, HFE.out, HFF.out]), hEw⟩
          · have e2 : decide ((0 : Int) ≤ fv) = false := decide_eq_false hfd
            by_cases hz : fm.fields.length = 0
            · have e3 : ((fm.fields.length : Int) == 0) = true := beq_iff_eq.2 (by omega)
              have HFF : Hid (fmtErr t m fm = 8) := by show _ = _; rw [fmtErr, if_neg (by simp [hNM.out]), hfv, if_neg hfd, if_pos hz]
              have HZ := Lib.hid hz; clear hz
              clear hfv
              go_wp2_with fail
              refine (isName_any fm.name _ hnl).mono ?_
              rw [hNM.out]
              rintro e w' ⟨rfl, rfl⟩
              go_wp2_with fail
              have b0 : (wr.alloc (Obj.cells #[Value.string fm.name, Value.slice fa fm.fields.length fcap] 42)).cell? ⟨wr.heap.size, 0, none⟩ = some (.string fm.name) := cs_new rfl
              have b1 : (wr.alloc (Obj.cells #[Value.string fm.name, Value.slice fa fm.fields.length fcap] 42)).cell? ⟨wr.heap.size, 1, none⟩ = some (.slice fa fm.fields.length fcap) := cs_new rfl
              refine wp_region_calm 8 (fun w' => Ext (wr.alloc (Obj.cells #[Value.string fm.name, Value.slice fa fm.fields.length fcap] 42)) w') (by kernel_rfl) (by kernel_rfl) (fun _ _ h hE => h.trans hE) (Ext.drew _) ?_
              refine calm_value (fun _ => rfl) ?_ (fun g w' hE => ?_) ?_
              rotate_left
              · (have zz0 := cs_ext hE b0; have zz1 := cs_ext hE b1; go_simp; first | done | rfl)
              refine calm_value (fun _ => rfl) ?_ (fun g w' hE => ?_) ?_
              rotate_left
              · (have zz0 := cs_ext hE b0; have zz1 := cs_ext hE b1; go_simp; first | done | rfl)
              refine calm_value (fun _ => rfl) ?_ (fun g w' hE => ?_) ?_
              rotate_left
              · (have zz0 := cs_ext hE b0; have zz1 := cs_ext hE b1; go_simp; first | done | rfl)
              refine calm_value (fun _ => rfl) ?_ (fun g w' hE => ?_) ?_
              rotate_left
              · (have zz0 := cs_ext hE b0; have zz1 := cs_ext hE b1; go_simp; first | done | rfl)
              refine calm_value (fun _ => rfl) ?_ (fun g w' hE => ?_) ?_
              rotate_left
              · (have zz0 := cs_ext hE b0; have zz1 := cs_ext hE b1; go_simp; first | done | rfl)
              refine calm_call' (fun _ => rfl) 67 ?_ (fun g w' hE => ?_) ?_
              rotate_left
              · (have zz0 := cs_ext hE b0; have zz1 := cs_ext hE b1; go_simp; first | done | exact ⟨rfl, rfl⟩ | rfl)
              apply Exists.intro
              refine And.intro (fun w' hE => ?_) ?_
              · (have h := index_any (cap := cap) fm.name ((hTk.alloc hBr _).ext (by simp; omega) hE) (by have := hE.size; simp at this; omega); rw [htk, HFV.out] at h; exact h)
              refine calm_value (fun _ => rfl) ?_ (fun g w' hE => ?_) ?_
              rotate_left
              · (have zz0 := cs_ext hE b0; have zz1 := cs_ext hE b1; go_simp; first | done | rfl)
              refine calm_value (fun _ => rfl) ?_ (fun g w' hE => ?_) ?_
              rotate_left
              · (have zz0 := cs_ext hE b0; have zz1 := cs_ext hE b1; go_simp; first | done | rfl)
              intro gg wz hEz hFz
              simp only [List.drop_succ_cons, List.drop_zero, Act.put, List.setIfInBounds_toArray, List.set_cons_succ, List.set_cons_zero]
              have hEw : Ext w wz := (hE.then_al _).trans hEz
              have z0 := cs_ext hEz b0
              have z1 := cs_ext hEz b1
              go_wp2_with fail
              go_ret
              exact ⟨ri (by rw [HRES.out, HR.out, err_at hlt (by rw [HFE.out, HFF.out]; decide) HALL.out, HFE.out, HFF.out]), hEw⟩
            · have e3 : ((fm.fields.length : Int) == 0) = false := beq_eq_false_iff_ne.2 (by omega)
              by_cases h6 : 6 < fm.fields.length
              · have e4 : decide ((6 : Int) < (fm.fields.length : Int)) = true := decide_eq_true (by omega)
                have HFF : Hid (fmtErr t m fm = 3) := by show _ = _; rw [fmtErr, if_neg (by simp [hNM.out]), hfv, if_neg hfd, if_neg hz, if_pos h6]
                clear hfv
                go_wp2_with fail
                refine (isName_any fm.name _ hnl).mono ?_
                rw [hNM.out]
                rintro e w' ⟨rfl, rfl⟩
                go_wp2_with fail
                have b0 : (wr.alloc (Obj.cells #[Value.string fm.name, Value.slice fa fm.fields.length fcap] 42)).cell? ⟨wr.heap.size, 0, none⟩ = some (.string fm.name) := cs_new rfl
                have b1 : (wr.alloc (Obj.cells #[Value.string fm.name, Value.slice fa fm.fields.length fcap] 42)).cell? ⟨wr.heap.size, 1, none⟩ = some (.slice fa fm.fields.length fcap) := cs_new rfl
                refine wp_region_calm 8 (fun w' => Ext (wr.alloc (Obj.cells #[Value.string fm.name, Value.slice fa fm.fields.length fcap] 42)) w') (by kernel_rfl) (by kernel_rfl) (fun _ _ h hE => h.trans hE) (Ext.drew _) ?_
                refine calm_value (fun _ => rfl) ?_ (fun g w' hE => ?_) ?_
                rotate_left
                · (have zz0 := cs_ext hE b0; have zz1 := cs_ext hE b1; go_simp; first | done | rfl)
                refine calm_value (fun _ => rfl) ?_ (fun g w' hE => ?_) ?_
                rotate_left
                · (have zz0 := cs_ext hE b0; have zz1 := cs_ext hE b1; go_simp; first | done | rfl)
                refine calm_value (fun _ => rfl) ?_ (fun g w' hE => ?_) ?_
                rotate_left
                · (have zz0 := cs_ext hE b0; have zz1 := cs_ext hE b1; go_simp; first | done | rfl)
                refine calm_value (fun _ => rfl) ?_ (fun g w' hE => ?_) ?_
                rotate_left
                · (have zz0 := cs_ext hE b0; have zz1 := cs_ext hE b1; go_simp; first | done | rfl)
                refine calm_value (fun _ => rfl) ?_ (fun g w' hE => ?_) ?_
                rotate_left
                · (have zz0 := cs_ext hE b0; have zz1 := cs_ext hE b1; go_simp; first | done | rfl)
                refine calm_call' (fun _ => rfl) 67 ?_ (fun g w' hE => ?_) ?_
                rotate_left
                · (have zz0 := cs_ext hE b0; have zz1 := cs_ext hE b1; go_simp; first | done | exact ⟨rfl, rfl⟩ | rfl)
                apply Exists.intro
                refine And.intro (fun w' hE => ?_) ?_
                · (have h := index_any (cap := cap) fm.name ((hTk.alloc hBr _).ext (by simp; omega) hE) (by have := hE.size; simp at this; omega); rw [htk, HFV.out] at h; exact h)
                refine calm_value (fun _ => rfl) ?_ (fun g w' hE => ?_) ?_
                rotate_left
                · (have zz0 := cs_ext hE b0; have zz1 := cs_ext hE b1; go_simp; first | done | rfl)
                refine calm_value (fun _ => rfl) ?_ (fun g w' hE => ?_) ?_
                rotate_left
                · (have zz0 := cs_ext hE b0; have zz1 := cs_ext hE b1; go_simp; first | done | rfl)
                intro gg wz hEz hFz
                simp only [List.drop_succ_cons, List.drop_zero, Act.put, List.setIfInBounds_toArray, List.set_cons_succ, List.set_cons_zero]
                have hEw : Ext w wz := (hE.then_al _).trans hEz
                have z0 := cs_ext hEz b0
                have z1 := cs_ext hEz b1
                have hl6 := hF.1
                unfold maxLen at hl6
                go_wp2_with fail
                go_ret
                exact ⟨ri (by rw [HRES.out, HR.out, err_at hlt (by rw [HFE.out, HFF.out]; decide) HALL.out, HFE.out, HFF.out]), hEw⟩
              · have e4 : decide ((6 : Int) < (fm.fields.length : Int)) = false := decide_eq_false (by omega)
                have HFF : Hid (fmtErr t m fm = errFrom (fldE t fm.fields m) fm.fields.length) := by show _ = _; rw [fmtErr, if_neg (by simp [hNM.out]), hfv, if_neg hfd, if_neg hz, if_neg h6]
                clear hfv
                have hw1 : IntKind.i64.wrap ((fm.fields.length : Int) - 1) = (fm.fields.length : Int) - 1 := IntWalk.i64_in _ (by omega)
                have HW1 := Lib.hid hw1; clear hw1
                go_wp2_with fail
                refine (isName_any fm.name _ hnl).mono ?_
                rw [hNM.out]
                rintro e w' ⟨rfl, rfl⟩
                go_wp2_with fail
                have b0 : (wr.alloc (Obj.cells #[Value.string fm.name, Value.slice fa fm.fields.length fcap] 42)).cell? ⟨wr.heap.size, 0, none⟩ = some (.string fm.name) := cs_new rfl
                have b1 : (wr.alloc (Obj.cells #[Value.string fm.name, Value.slice fa fm.fields.length fcap] 42)).cell? ⟨wr.heap.size, 1, none⟩ = some (.slice fa fm.fields.length fcap) := cs_new rfl
                refine wp_region_calm 8 (fun w' => Ext (wr.alloc (Obj.cells #[Value.string fm.name, Value.slice fa fm.fields.length fcap] 42)) w') (by kernel_rfl) (by kernel_rfl) (fun _ _ h hE => h.trans hE) (Ext.drew _) ?_
                refine calm_value (fun _ => rfl) ?_ (fun g w' hE => ?_) ?_
                rotate_left
                · (have zz0 := cs_ext hE b0; have zz1 := cs_ext hE b1; go_simp; first | done | rfl)
                refine calm_value (fun _ => rfl) ?_ (fun g w' hE => ?_) ?_
                rotate_left
                · (have zz0 := cs_ext hE b0; have zz1 := cs_ext hE b1; go_simp; first | done | rfl)
                refine calm_value (fun _ => rfl) ?_ (fun g w' hE => ?_) ?_
                rotate_left
                · (have zz0 := cs_ext hE b0; have zz1 := cs_ext hE b1; go_simp; first | done | rfl)
                refine calm_value (fun _ => rfl) ?_ (fun g w' hE => ?_) ?_
                rotate_left
                · (have zz0 := cs_ext hE b0; have zz1 := cs_ext hE b1; go_simp; first | done | rfl)
                refine calm_value (fun _ => rfl) ?_ (fun g w' hE => ?_) ?_
                rotate_left
                · (have zz0 := cs_ext hE b0; have zz1 := cs_ext hE b1; go_simp; first | done | rfl)
                refine calm_call' (fun _ => rfl) 67 ?_ (fun g w' hE => ?_) ?_
                rotate_left
                · (have zz0 := cs_ext hE b0; have zz1 := cs_ext hE b1; go_simp; first | done | exact ⟨rfl, rfl⟩ | rfl)
                apply Exists.intro
                refine And.intro (fun w' hE => ?_) ?_
                · (have h := index_any (cap := cap) fm.name ((hTk.alloc hBr _).ext (by simp; omega) hE) (by have := hE.size; simp at this; omega); rw [htk, HFV.out] at h; exact h)
                refine calm_value (fun _ => rfl) ?_ (fun g w' hE => ?_) ?_
                rotate_left
                · (have zz0 := cs_ext hE b0; have zz1 := cs_ext hE b1; go_simp; first | done | rfl)
                refine calm_value (fun _ => rfl) ?_ (fun g w' hE => ?_) ?_
                rotate_left
                · (have zz0 := cs_ext hE b0; have zz1 := cs_ext hE b1; go_simp; first | done | rfl)
                intro gg wz hEz hFz
                simp only [List.drop_succ_cons, List.drop_zero, Act.put, List.setIfInBounds_toArray, List.set_cons_succ, List.set_cons_zero]
                have hEw : Ext w wz := (hE.then_al _).trans hEz
                have z0 := cs_ext hEz b0
                have z1 := cs_ext hEz b1
                go_wp2_with fail
                go_loopw [5, 6, 7, 44] (fun _ _ _ i wr => ∃ q : Nat, q ≤ fm.fields.length ∧ i = .int .i64 q ∧ Ext wz wr ∧ ∀ j, j < q → fldE t fm.fields m j = 0) (fun _ _ _ i _ => fm.fields.length - (intOf i).toNat)
                case atStart => exact ⟨0, Nat.zero_le _, rfl, Ext.refl _, fun j h => by omega⟩
                case round =>
                  obtain ⟨q, hq, rfl, hE2, hall2⟩ := hrel
                  have HALL2 := Lib.hid hall2; clear hall2
                  have hEq := hEw.trans hE2
                  have hBq : B ≤ wr.heap.size := by have := hEq.size; omega
                  have hTq := hT.ext hB hEq
                  by_cases hlq : q < fm.fields.length
                  · obtain ⟨x, hx⟩ : ∃ f, fm.fields[q]? = some f := ⟨_, List.getElem?_eq_getElem hlq⟩
                    obtain ⟨fb, foff, hfa, hfb, hc⟩ := (hF.ext (by simp; omega) (hEz.trans hE2)).get' hx
                    subst hfa
                    obtain ⟨c0, c1, c2, c3, c4, cw⟩ := hc
                    have HX := Lib.hid hx; clear hx
                    have hfb' : fb < wr.heap.size := by omega
                    have hlq' : (q : Int) < (fm.fields.length : Int) := by omega
                    have hq0' : (0 : Int) ≤ (q : Int) := by omega
                    have d3 := cs_al (o := Obj.cells #[Value.int IntKind.i64 x.kind, Value.string x.bytes, Value.int IntKind.i64 x.n, Value.int IntKind.i64 x.low, Value.int IntKind.i64 x.high] 39) (cs_ext hE2 z1)
                    have x0 : (wr.alloc (Obj.cells #[Value.int IntKind.i64 x.kind, Value.string x.bytes, Value.int IntKind.i64 x.n, Value.int IntKind.i64 x.low, Value.int IntKind.i64 x.high] 39)).cell? ⟨wr.heap.size, 0, none⟩ = some (.int .i64 x.kind) := cs_new rfl
                    have x1 : (wr.alloc (Obj.cells #[Value.int IntKind.i64 x.kind, Value.string x.bytes, Value.int IntKind.i64 x.n, Value.int IntKind.i64 x.low, Value.int IntKind.i64 x.high] 39)).cell? ⟨wr.heap.size, 1, none⟩ = some (.string x.bytes) := cs_new rfl
                    have x2 : (wr.alloc (Obj.cells #[Value.int IntKind.i64 x.kind, Value.string x.bytes, Value.int IntKind.i64 x.n, Value.int IntKind.i64 x.low, Value.int IntKind.i64 x.high] 39)).cell? ⟨wr.heap.size, 2, none⟩ = some (.int .i64 x.n) := cs_new rfl
                    have x3 : (wr.alloc (Obj.cells #[Value.int IntKind.i64 x.kind, Value.string x.bytes, Value.int IntKind.i64 x.n, Value.int IntKind.i64 x.low, Value.int IntKind.i64 x.high] 39)).cell? ⟨wr.heap.size, 3, none⟩ = some (.int .i64 x.low) := cs_new rfl
                    have x4 : (wr.alloc (Obj.cells #[Value.int IntKind.i64 x.kind, Value.string x.bytes, Value.int IntKind.i64 x.n, Value.int IntKind.i64 x.low, Value.int IntKind.i64 x.high] 39)).cell? ⟨wr.heap.size, 4, none⟩ = some (.int .i64 x.high) := cs_new rfl
                    have hlast : ((q : Int) == (fm.fields.length : Int) - 1) = decide (q + 1 = fm.fields.length) := by rw [Bool.eq_iff_iff]; simp; omega
                    have HXE : Hid (fldE t fm.fields m q = fieldErr (t.take m) x (decide (q + 1 = fm.fields.length))) := fldE_at HX.out
                    generalize hev : fieldErr (t.take m) x (decide (q + 1 = fm.fields.length)) = ev at HXE
                    have HEV := Lib.hid hev; clear hev
                    generalize hld : decide (q + 1 = fm.fields.length) = ld at hlast HEV
                    go_wp2_with fail
                    have hw1 := HW1.out
                    refine wp_region_calm 12 (fun w' => Ext (wr.alloc (Obj.cells #[Value.int IntKind.i64 x.kind, Value.string x.bytes, Value.int IntKind.i64 x.n, Value.int IntKind.i64 x.low, Value.int IntKind.i64 x.high] 39)) w') (by kernel_rfl) (by kernel_rfl) (fun _ _ h hE => h.trans hE) (Ext.drew _) ?_
                    refine calm_value (fun _ => rfl) ?_ (fun g w' hE => ?_) ?_
                    rotate_left
                    · (have zz0 := cs_ext hE d3; have zz1 := cs_ext hE x0; have zz2 := cs_ext hE x1; have zz3 := cs_ext hE x2; have zz4 := cs_ext hE x3; have zz5 := cs_ext hE x4; go_simp; first | done | rfl)
                    refine calm_value (fun _ => rfl) ?_ (fun g w' hE => ?_) ?_
                    rotate_left
                    · (have zz0 := cs_ext hE d3; have zz1 := cs_ext hE x0; have zz2 := cs_ext hE x1; have zz3 := cs_ext hE x2; have zz4 := cs_ext hE x3; have zz5 := cs_ext hE x4; go_simp; first | done | rfl)
                    refine calm_value (fun _ => rfl) ?_ (fun g w' hE => ?_) ?_
                    rotate_left
                    · (have zz0 := cs_ext hE d3; have zz1 := cs_ext hE x0; have zz2 := cs_ext hE x1; have zz3 := cs_ext hE x2; have zz4 := cs_ext hE x3; have zz5 := cs_ext hE x4; go_simp; first | done | rfl)
                    refine calm_value (fun _ => rfl) ?_ (fun g w' hE => ?_) ?_
                    rotate_left
                    · (have zz0 := cs_ext hE d3; have zz1 := cs_ext hE x0; have zz2 := cs_ext hE x1; have zz3 := cs_ext hE x2; have zz4 := cs_ext hE x3; have zz5 := cs_ext hE x4; go_simp; first | done | rfl)
                    refine calm_value (fun _ => rfl) ?_ (fun g w' hE => ?_) ?_
                    rotate_left
                    · (have zz0 := cs_ext hE d3; have zz1 := cs_ext hE x0; have zz2 := cs_ext hE x1; have zz3 := cs_ext hE x2; have zz4 := cs_ext hE x3; have zz5 := cs_ext hE x4; go_simp; first | done | rfl)
                    refine calm_value (fun _ => rfl) ?_ (fun g w' hE => ?_) ?_
                    rotate_left
                    · (have zz0 := cs_ext hE d3; have zz1 := cs_ext hE x0; have zz2 := cs_ext hE x1; have zz3 := cs_ext hE x2; have zz4 := cs_ext hE x3; have zz5 := cs_ext hE x4; go_simp; first | done | rfl)
                    refine calm_value (fun _ => rfl) ?_ (fun g w' hE => ?_) ?_
                    rotate_left
                    · (have zz0 := cs_ext hE d3; have zz1 := cs_ext hE x0; have zz2 := cs_ext hE x1; have zz3 := cs_ext hE x2; have zz4 := cs_ext hE x3; have zz5 := cs_ext hE x4; go_simp; first | done | rfl)
                    refine calm_value (fun _ => rfl) ?_ (fun g w' hE => ?_) ?_
                    rotate_left
                    · (have zz0 := cs_ext hE d3; have zz1 := cs_ext hE x0; have zz2 := cs_ext hE x1; have zz3 := cs_ext hE x2; have zz4 := cs_ext hE x3; have zz5 := cs_ext hE x4; go_simp; first | done | rfl)
                    refine calm_value (fun _ => rfl) ?_ (fun g w' hE => ?_) ?_
                    rotate_left
                    · (have zz0 := cs_ext hE d3; have zz1 := cs_ext hE x0; have zz2 := cs_ext hE x1; have zz3 := cs_ext hE x2; have zz4 := cs_ext hE x3; have zz5 := cs_ext hE x4; go_simp; first | done | rfl)
                    refine calm_value (fun _ => rfl) ?_ (fun g w' hE => ?_) ?_
                    rotate_left
                    · (have zz0 := cs_ext hE d3; have zz1 := cs_ext hE x0; have zz2 := cs_ext hE x1; have zz3 := cs_ext hE x2; have zz4 := cs_ext hE x3; have zz5 := cs_ext hE x4; go_simp; first | done | rfl)
                    refine calm_call' (fun _ => rfl) 68 ?_ (fun g w' hE => ?_) ?_
                    rotate_left
                    · (have zz0 := cs_ext hE d3; have zz1 := cs_ext hE x0; have zz2 := cs_ext hE x1; have zz3 := cs_ext hE x2; have zz4 := cs_ext hE x3; have zz5 := cs_ext hE x4; go_simp; first | done | exact ⟨rfl, rfl⟩ | rfl)
                    apply Exists.intro
                    refine And.intro (fun w' hE => ?_) ?_
                    · (have h := one_any (cap := cap) x ld (((hTq.take m).alloc hBq _).ext (by simp; omega) hE) (by have := hE.size; simp at this; omega); rw [htk, HEV.out] at h; exact h)
                    refine calm_value (fun _ => rfl) ?_ (fun g w' hE => ?_) ?_
                    rotate_left
                    · (have zz0 := cs_ext hE d3; have zz1 := cs_ext hE x0; have zz2 := cs_ext hE x1; have zz3 := cs_ext hE x2; have zz4 := cs_ext hE x3; have zz5 := cs_ext hE x4; go_simp; first | done | rfl)
                    intro g3 wy hEy hFy
                    simp only [List.drop_succ_cons, List.drop_zero, Act.put, List.setIfInBounds_toArray, List.set_cons_succ, List.set_cons_zero]
                    clear hw1 hlast
                    by_cases hev0 : ev = 0
                    · have e5 : (ev != 0) = false := by simp [hev0]
                      have HEV0 := Lib.hid hev0; clear hev0
                      go_wp2_with fail
                      go_roundw
                      case rel => exact ⟨q + 1, by omega, by go_num, (hE2.then_al _).trans hEy, all_succ HALL2.out (by rw [HXE.out, HEV0.out])⟩
                      case measure => simp [intOf]; omega
                    · have e5 : (ev != 0) = true := by simp [hev0]
                      have HEV0 := Lib.hid hev0; clear hev0
                      go_wp2_with fail
                      go_ret
                      have HA : errFrom (fldE t fm.fields m) fm.fields.length = ev := by rw [err_at hlq (by rw [HXE.out]; exact HEV0.out) HALL2.out, HXE.out]
                      exact ⟨ri (by rw [HRES.out, HR.out, err_at hlt (by rw [HFE.out, HFF.out, HA]; exact HEV0.out) HALL.out, HFE.out, HFF.out, HA]), (hEq.then_al _).trans hEy⟩
                  · go_wp2_with fail
                    go_roundw
                    case rel => exact ⟨m + 1, by omega, by go_num, hEq, all_succ HALL.out (by rw [HFE.out, HFF.out, err_zero (fun j hj => HALL2.out j (by omega))])⟩
                    case measure => simp [intOf]; omega
      · go_wp2_with fail
        go_ret
        exact ⟨ri (by rw [HRES.out, HR.out, err_zero (fun j hj => HALL.out j (by omega))]), hE⟩

end Go.Proofs.Ythoelnoahfedmaa
