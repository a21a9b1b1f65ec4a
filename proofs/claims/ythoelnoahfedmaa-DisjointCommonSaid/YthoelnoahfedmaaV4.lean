/- The contract of the reference's Valid. -/
import Derived.Test.YthoelnoahfedmaaV3
namespace Go.Proofs.Ythoelnoahfedmaa
open Go.RowKit
set_option linter.unusedVariables false
set_option linter.unusedSimpArgs false

/-- the first number that is not 0, or 0 -/
def errFrom (g : Nat → Int) (n : Nat) : Int := (((List.range n).map g).find? (· != 0)).getD 0

theorem err_zero {g : Nat → Int} {n : Nat} (h : ∀ j, j < n → g j = 0) : errFrom g n = 0 := by
  have : ((List.range n).map g).find? (· != 0) = none := by
    rw [List.find?_eq_none]
    intro x hx
    obtain ⟨j, hj, rfl⟩ := List.mem_map.1 hx
    simp [h j (List.mem_range.1 hj)]
  rw [errFrom, this]; rfl
theorem err_at {g : Nat → Int} {n k : Nat} (hk : k < n) (hne : g k ≠ 0) (h : ∀ j, j < k → g j = 0) : errFrom g n = g k := by
  induction n with
  | zero => omega
  | succ n ih =>
    rw [errFrom, List.range_succ, List.map_append, List.find?_append]
    by_cases hkn : k < n
    · have := ih hkn
      unfold errFrom at this
      cases hf : ((List.range n).map g).find? (· != 0) with
      | none => rw [hf] at this; exact absurd this.symm hne
      | some x => rw [hf] at this; simpa using this
    · have hkn : k = n := by omega
      subst hkn
      have : ((List.range k).map g).find? (· != 0) = none := by
        rw [List.find?_eq_none]
        intro x hx
        obtain ⟨j, hj, rfl⟩ := List.mem_map.1 hx
        simp [h j (List.mem_range.1 hj)]
      rw [this]
      simp [hne]

def fldE (t : List Fmt) (F : List Fld) (i k : Nat) : Int := match F[k]? with | some x => fieldErr (t.take i) x (decide (k + 1 = F.length)) | none => 0
def fmtErr (t : List Fmt) (i : Nat) (fm : Fmt) : Int :=
  if nameOk fm.name = false then 2 else if 0 ≤ findS (t.take i) fm.name then 5 else if fm.fields.length = 0 then 8 else if 6 < fm.fields.length then 3
  else errFrom (fldE t fm.fields i) fm.fields.length
def fmtE (t : List Fmt) (i : Nat) : Int := match t[i]? with | some fm => fmtErr t i fm | none => 0
def validT (t : List Fmt) : Int := if 8 < t.length then 3 else errFrom (fmtE t) t.length

theorem fmtE_at {t : List Fmt} {i : Nat} {fm : Fmt} (h : t[i]? = some fm) : fmtE t i = fmtErr t i fm := by simp [fmtE, h]
theorem fldE_at {t : List Fmt} {F : List Fld} {i k : Nat} {x : Fld} (h : F[k]? = some x) : fldE t F i k = fieldErr (t.take i) x (decide (k + 1 = F.length)) := by simp [fldE, h]

theorem all_succ {g : Nat → Int} {k : Nat} (h : ∀ j, j < k → g j = 0) (hk : g k = 0) : ∀ j, j < k + 1 → g j = 0 := fun j hj => by
  rcases Nat.lt_or_ge j k with h' | h'
  · exact h j h'
  · have : j = k := by omega
    rw [this]; exact hk

set_option maxRecDepth 100000 in
set_option maxHeartbeats 4000000 in
theorem Valid17_any {w : World} {B : Nat} {a : Option Addr} {t : List Fmt} {cap : Nat} (hT : TabA w B a t) (hB : B ≤ w.heap.size) (hcap : t.length ≤ cap) (hcap2 : cap ≤ 9223372036854775807) :
    Calls Try.prog 24 #[.slice a t.length cap] w fun e w' => e = .returned (.int .i64 (validT t)) ∧ Ext w w' := by
  by_cases h8 : 8 < t.length
  · have e1 : decide ((8 : Int) < (t.length : Int)) = true := decide_eq_true (by omega)
    have HR : Hid (validT t = 3) := by show _ = _; rw [validT, if_pos h8]
    go_enter Try.func24, Try.ntmps24
    go_wp2_with fail
    go_ret
    exact ⟨ri HR.out.symm, Ext.refl _⟩
  · have e1 : decide ((8 : Int) < (t.length : Int)) = false := decide_eq_false (by omega)
    have HR : Hid (validT t = errFrom (fmtE t) t.length) := by show _ = _; rw [validT, if_neg h8]
    obtain ⟨res, hres⟩ : ∃ res, res = validT t := ⟨_, rfl⟩
    rw [← hres]
    have HRES := Lib.hid hres; clear hres
    go_enter Try.func24, Try.ntmps24
    go_wp2_with fail
    go_loopw [3, 4, 5, 6] (fun i _ _ _ wr => ∃ m : Nat, m ≤ t.length ∧ i = .int .i64 m ∧ Ext w wr ∧ ∀ j, j < m → fmtE t j = 0) (fun i _ _ _ _ => t.length - (intOf i).toNat)
    case atStart => exact ⟨0, Nat.zero_le _, rfl, Ext.refl _, fun j h => by omega⟩
    case round =>
      obtain ⟨m, hm, rfl, hE, hall⟩ := hrel
      have HALL := Lib.hid hall; clear hall
      have hBr : B ≤ wr.heap.size := by have := hE.size; omega
      have hTr := hT.ext hB hE
      by_cases hlt : m < t.length
      · obtain ⟨fm, hf⟩ : ∃ f, t[m]? = some f := ⟨_, List.getElem?_eq_getElem hlt⟩
        obtain ⟨tb, toff, fa, fcap, rfl, htb, htn, htc, hF, hnl⟩ := hTr.at' hf
        have HF := Lib.hid hf; clear hf
        have HFE : Hid (fmtE t m = fmtErr t m fm) := fmtE_at HF.out
        have htk : (t.take m).length = m := by rw [List.length_take]; omega
        have hTk := hTr.take m
        by_cases hnm : nameOk fm.name = false
        · have HFF : Hid (fmtErr t m fm = 2) := by show _ = _; rw [fmtErr, if_pos hnm]
          have HNM := Lib.hid hnm; clear hnm
          go_wp2_with fail
          refine (name17_any fm.name _ hnl).mono ?_
          rw [HNM.out]
          rintro e w' ⟨rfl, rfl⟩
          go_wp2_with fail
          go_ret
          exact ⟨ri (by rw [HRES.out, HR.out, err_at hlt (by rw [HFE.out, HFF.out]; decide) HALL.out, HFE.out, HFF.out]), hE⟩
        · have hnm' : nameOk fm.name = true := by simpa using hnm
          have hNM := Lib.hid hnm'
          clear hnm hnm'
          have hlt' : (m : Int) < (t.length : Int) := by omega
          have hcp' : (m : Int) ≤ (cap : Int) := by omega
          have hm0' : (0 : Int) ≤ (m : Int) := by omega
          generalize hfv : findS (t.take m) fm.name = fv at *
          have HFV := Lib.hid hfv
          by_cases hfd : 0 ≤ fv
          · have e2 : decide ((0 : Int) ≤ fv) = true := decide_eq_true hfd
            have HFF : Hid (fmtErr t m fm = 5) := by show _ = _; rw [fmtErr, if_neg (by simp [hNM.out]), hfv, if_pos hfd]
            clear hfv
            go_wp2_with fail
            refine (name17_any fm.name _ hnl).mono ?_
            rw [hNM.out]
            rintro e w' ⟨rfl, rfl⟩
            go_wp2_with fail
            refine wp_region_calm 10 (fun w' => Ext (wr) w') (by kernel_rfl) (by kernel_rfl) (fun _ _ h hE => h.trans hE) (Ext.drew _) ?_
            refine calm_value (fun _ => rfl) ?_ (fun g w' hE => ?_) ?_
            rotate_left
            · (have zz0 := cs_ext hE htn; go_simp; first | done | rfl)
            refine calm_value (fun _ => rfl) ?_ (fun g w' hE => ?_) ?_
            rotate_left
            · (have zz0 := cs_ext hE htn; go_simp; first | done | rfl)
            refine calm_value (fun _ => rfl) ?_ (fun g w' hE => ?_) ?_
            rotate_left
            · (have zz0 := cs_ext hE htn; go_simp; first | done | rfl)
            refine calm_value (fun _ => rfl) ?_ (fun g w' hE => ?_) ?_
            rotate_left
            · (have zz0 := cs_ext hE htn; go_simp; first | done | rfl)
            refine calm_value (fun _ => rfl) ?_ (fun g w' hE => ?_) ?_
            rotate_left
            · (have zz0 := cs_ext hE htn; go_simp; first | done | rfl)
            refine calm_value (fun _ => rfl) ?_ (fun g w' hE => ?_) ?_
            rotate_left
            · (have zz0 := cs_ext hE htn; go_simp; first | done | rfl)
            refine calm_value (fun _ => rfl) ?_ (fun g w' hE => ?_) ?_
            rotate_left
            · (have zz0 := cs_ext hE htn; go_simp; first | done | rfl)
            refine calm_value (fun _ => rfl) ?_ (fun g w' hE => ?_) ?_
            rotate_left
            · (have zz0 := cs_ext hE htn; go_simp; first | done | rfl)
            refine calm_call' (fun _ => rfl) 45 ?_ (fun g w' hE => ?_) ?_
            rotate_left
            · (have zz0 := cs_ext hE htn; go_simp; first | done | exact ⟨rfl, rfl⟩ | rfl)
            apply Exists.intro
            refine And.intro (fun w' hE => ?_) ?_
            · (have h := find_any (cap := cap) fm.name (hTk.ext hBr hE) (by have := hE.size; omega); rw [htk, HFV.out] at h; exact h.mono fun e w'' ⟨he, hw⟩ => ⟨he, hw ▸ Ext.refl _⟩)
            refine calm_value (fun _ => rfl) ?_ (fun g w' hE => ?_) ?_
            rotate_left
            · (have zz0 := cs_ext hE htn; go_simp; first | done | rfl)
            intro gg wz hEz hFz
            simp only [List.drop_succ_cons, List.drop_zero, Act.put, List.setIfInBounds_toArray, List.set_cons_succ, List.set_cons_zero]
            have hEw : Ext w wz := hE.trans hEz
            go_wp2_with fail
            go_ret
            exact ⟨ri (by rw [HRES.out, HR.out, err_at hlt (by rw [HFE.out, HFF.out]; decide) HALL.out, HFE.out, HFF.out]), hEw⟩
          · have e2 : decide ((0 : Int) ≤ fv) = false := decide_eq_false hfd
            by_cases hz : fm.fields.length = 0
            · have e3 : ((fm.fields.length : Int) == 0) = true := beq_iff_eq.2 (by omega)
              have HFF : Hid (fmtErr t m fm = 8) := by show _ = _; rw [fmtErr, if_neg (by simp [hNM.out]), hfv, if_neg hfd, if_pos hz]
              have HZ := Lib.hid hz; clear hz
              clear hfv
              go_wp2_with fail
              refine (name17_any fm.name _ hnl).mono ?_
              rw [hNM.out]
              rintro e w' ⟨rfl, rfl⟩
              go_wp2_with fail
              refine wp_region_calm 10 (fun w' => Ext (wr) w') (by kernel_rfl) (by kernel_rfl) (fun _ _ h hE => h.trans hE) (Ext.drew _) ?_
              refine calm_value (fun _ => rfl) ?_ (fun g w' hE => ?_) ?_
              rotate_left
              · (have zz0 := cs_ext hE htn; go_simp; first | done | rfl)
              refine calm_value (fun _ => rfl) ?_ (fun g w' hE => ?_) ?_
              rotate_left
              · (have zz0 := cs_ext hE htn; go_simp; first | done | rfl)
              refine calm_value (fun _ => rfl) ?_ (fun g w' hE => ?_) ?_
              rotate_left
              · (have zz0 := cs_ext hE htn; go_simp; first | done | rfl)
              refine calm_value (fun _ => rfl) ?_ (fun g w' hE => ?_) ?_
              rotate_left
              · (have zz0 := cs_ext hE htn; go_simp; first | done | rfl)
              refine calm_value (fun _ => rfl) ?_ (fun g w' hE => ?_) ?_
              rotate_left
              · (have zz0 := cs_ext hE htn; go_simp; first | done | rfl)
              refine calm_value (fun _ => rfl) ?_ (fun g w' hE => ?_) ?_
              rotate_left
              · (have zz0 := cs_ext hE htn; go_simp; first | done | rfl)
              refine calm_value (fun _ => rfl) ?_ (fun g w' hE => ?_) ?_
              rotate_left
              · (have zz0 := cs_ext hE htn; go_simp; first | done | rfl)
              refine calm_value (fun _ => rfl) ?_ (fun g w' hE => ?_) ?_
              rotate_left
              · (have zz0 := cs_ext hE htn; go_simp; first | done | rfl)
              refine calm_call' (fun _ => rfl) 45 ?_ (fun g w' hE => ?_) ?_
              rotate_left
              · (have zz0 := cs_ext hE htn; go_simp; first | done | exact ⟨rfl, rfl⟩ | rfl)
              apply Exists.intro
              refine And.intro (fun w' hE => ?_) ?_
              · (have h := find_any (cap := cap) fm.name (hTk.ext hBr hE) (by have := hE.size; omega); rw [htk, HFV.out] at h; exact h.mono fun e w'' ⟨he, hw⟩ => ⟨he, hw ▸ Ext.refl _⟩)
              refine calm_value (fun _ => rfl) ?_ (fun g w' hE => ?_) ?_
              rotate_left
              · (have zz0 := cs_ext hE htn; go_simp; first | done | rfl)
              intro gg wz hEz hFz
              simp only [List.drop_succ_cons, List.drop_zero, Act.put, List.setIfInBounds_toArray, List.set_cons_succ, List.set_cons_zero]
              have hEw : Ext w wz := hE.trans hEz
              have d2 := cs_ext hEz htc
              go_wp2_with fail
              go_ret
              exact ⟨ri (by rw [HRES.out, HR.out, err_at hlt (by rw [HFE.out, HFF.out]; decide) HALL.out, HFE.out, HFF.out]), hEw⟩
            · have e3 : ((fm.fields.length : Int) == 0) = false := beq_eq_false_iff_ne.2 (by omega)
              by_cases h6 : 6 < fm.fields.length
              · have e4 : decide ((6 : Int) < (fm.fields.length : Int)) = true := decide_eq_true (by omega)
                have HFF : Hid (fmtErr t m fm = 3) := by show _ = _; rw [fmtErr, if_neg (by simp [hNM.out]), hfv, if_neg hfd, if_neg hz, if_pos h6]
                clear hfv
                go_wp2_with fail
                refine (name17_any fm.name _ hnl).mono ?_
                rw [hNM.out]
                rintro e w' ⟨rfl, rfl⟩
                go_wp2_with fail
                refine wp_region_calm 10 (fun w' => Ext (wr) w') (by kernel_rfl) (by kernel_rfl) (fun _ _ h hE => h.trans hE) (Ext.drew _) ?_
                refine calm_value (fun _ => rfl) ?_ (fun g w' hE => ?_) ?_
                rotate_left
                · (have zz0 := cs_ext hE htn; go_simp; first | done | rfl)
                refine calm_value (fun _ => rfl) ?_ (fun g w' hE => ?_) ?_
                rotate_left
                · (have zz0 := cs_ext hE htn; go_simp; first | done | rfl)
                refine calm_value (fun _ => rfl) ?_ (fun g w' hE => ?_) ?_
                rotate_left
                · (have zz0 := cs_ext hE htn; go_simp; first | done | rfl)
                refine calm_value (fun _ => rfl) ?_ (fun g w' hE => ?_) ?_
                rotate_left
                · (have zz0 := cs_ext hE htn; go_simp; first | done | rfl)
                refine calm_value (fun _ => rfl) ?_ (fun g w' hE => ?_) ?_
                rotate_left
                · (have zz0 := cs_ext hE htn; go_simp; first | done | rfl)
                refine calm_value (fun _ => rfl) ?_ (fun g w' hE => ?_) ?_
                rotate_left
                · (have zz0 := cs_ext hE htn; go_simp; first | done | rfl)
                refine calm_value (fun _ => rfl) ?_ (fun g w' hE => ?_) ?_
                rotate_left
                · (have zz0 := cs_ext hE htn; go_simp; first | done | rfl)
                refine calm_value (fun _ => rfl) ?_ (fun g w' hE => ?_) ?_
                rotate_left
                · (have zz0 := cs_ext hE htn; go_simp; first | done | rfl)
                refine calm_call' (fun _ => rfl) 45 ?_ (fun g w' hE => ?_) ?_
                rotate_left
                · (have zz0 := cs_ext hE htn; go_simp; first | done | exact ⟨rfl, rfl⟩ | rfl)
                apply Exists.intro
                refine And.intro (fun w' hE => ?_) ?_
                · (have h := find_any (cap := cap) fm.name (hTk.ext hBr hE) (by have := hE.size; omega); rw [htk, HFV.out] at h; exact h.mono fun e w'' ⟨he, hw⟩ => ⟨he, hw ▸ Ext.refl _⟩)
                refine calm_value (fun _ => rfl) ?_ (fun g w' hE => ?_) ?_
                rotate_left
                · (have zz0 := cs_ext hE htn; go_simp; first | done | rfl)
                intro gg wz hEz hFz
                simp only [List.drop_succ_cons, List.drop_zero, Act.put, List.setIfInBounds_toArray, List.set_cons_succ, List.set_cons_zero]
                have hEw : Ext w wz := hE.trans hEz
                have d2 := cs_ext hEz htc
                have hl6 := hF.1
                unfold maxLen at hl6
                go_wp2_with fail
                go_ret
                exact ⟨ri (by rw [HRES.out, HR.out, err_at hlt (by rw [HFE.out, HFF.out]; decide) HALL.out, HFE.out, HFF.out]), hEw⟩
              · have e4 : decide ((6 : Int) < (fm.fields.length : Int)) = false := decide_eq_false (by omega)
                have HFF : Hid (fmtErr t m fm = errFrom (fldE t fm.fields m) fm.fields.length) := by show _ = _; rw [fmtErr, if_neg (by simp [hNM.out]), hfv, if_neg hfd, if_neg hz, if_neg h6]
                clear hfv
                have hw1 : IntKind.i64.wrap ((fm.fields.length : Int) - 1) = (fm.fields.length : Int) - 1 := IntWalk.i64_in _ (by omega)
                have HW1 := Lib.hid hw1; clear hw1
                go_wp2_with fail
                refine (name17_any fm.name _ hnl).mono ?_
                rw [hNM.out]
                rintro e w' ⟨rfl, rfl⟩
                go_wp2_with fail
                refine wp_region_calm 10 (fun w' => Ext (wr) w') (by kernel_rfl) (by kernel_rfl) (fun _ _ h hE => h.trans hE) (Ext.drew _) ?_
                refine calm_value (fun _ => rfl) ?_ (fun g w' hE => ?_) ?_
                rotate_left
                · (have zz0 := cs_ext hE htn; go_simp; first | done | rfl)
                refine calm_value (fun _ => rfl) ?_ (fun g w' hE => ?_) ?_
                rotate_left
                · (have zz0 := cs_ext hE htn; go_simp; first | done | rfl)
                refine calm_value (fun _ => rfl) ?_ (fun g w' hE => ?_) ?_
                rotate_left
                · (have zz0 := cs_ext hE htn; go_simp; first | done | rfl)
                refine calm_value (fun _ => rfl) ?_ (fun g w' hE => ?_) ?_
                rotate_left
                · (have zz0 := cs_ext hE htn; go_simp; first | done | rfl)
                refine calm_value (fun _ => rfl) ?_ (fun g w' hE => ?_) ?_
                rotate_left
                · (have zz0 := cs_ext hE htn; go_simp; first | done | rfl)
                refine calm_value (fun _ => rfl) ?_ (fun g w' hE => ?_) ?_
                rotate_left
                · (have zz0 := cs_ext hE htn; go_simp; first | done | rfl)
                refine calm_value (fun _ => rfl) ?_ (fun g w' hE => ?_) ?_
                rotate_left
                · (have zz0 := cs_ext hE htn; go_simp; first | done | rfl)
                refine calm_value (fun _ => rfl) ?_ (fun g w' hE => ?_) ?_
                rotate_left
                · (have zz0 := cs_ext hE htn; go_simp; first | done | rfl)
                refine calm_call' (fun _ => rfl) 45 ?_ (fun g w' hE => ?_) ?_
                rotate_left
                · (have zz0 := cs_ext hE htn; go_simp; first | done | exact ⟨rfl, rfl⟩ | rfl)
                apply Exists.intro
                refine And.intro (fun w' hE => ?_) ?_
                · (have h := find_any (cap := cap) fm.name (hTk.ext hBr hE) (by have := hE.size; omega); rw [htk, HFV.out] at h; exact h.mono fun e w'' ⟨he, hw⟩ => ⟨he, hw ▸ Ext.refl _⟩)
                refine calm_value (fun _ => rfl) ?_ (fun g w' hE => ?_) ?_
                rotate_left
                · (have zz0 := cs_ext hE htn; go_simp; first | done | rfl)
                intro gg wz hEz hFz
                simp only [List.drop_succ_cons, List.drop_zero, Act.put, List.setIfInBounds_toArray, List.set_cons_succ, List.set_cons_zero]
                have hEw : Ext w wz := hE.trans hEz
                have d2 := cs_ext hEz htc
                go_wp2_with fail
                go_loopw [5, 6] (fun i _ wr => ∃ q : Nat, q ≤ fm.fields.length ∧ i = .int .i64 q ∧ Ext wz wr ∧ ∀ j, j < q → fldE t fm.fields m j = 0) (fun i _ _ => fm.fields.length - (intOf i).toNat)
                case atStart => exact ⟨0, Nat.zero_le _, rfl, Ext.refl _, fun j h => by omega⟩
                case round =>
                  obtain ⟨q, hq, rfl, hE2, hall2⟩ := hrel
                  have HALL2 := Lib.hid hall2; clear hall2
                  have hEq := hEw.trans hE2
                  have hBq : B ≤ wr.heap.size := by have := hEq.size; omega
                  have hTq := hT.ext hB hEq
                  by_cases hlq : q < fm.fields.length
                  · obtain ⟨x, hx⟩ : ∃ f, fm.fields[q]? = some f := ⟨_, List.getElem?_eq_getElem hlq⟩
                    obtain ⟨fb, foff, hfa, hfb, hc⟩ := (hF.ext hBr (hEz.trans hE2)).get' hx
                    subst hfa
                    obtain ⟨c0, c1, c2, c3, c4, cw⟩ := hc
                    have HX := Lib.hid hx; clear hx
                    have hlq' : (q : Int) < (fm.fields.length : Int) := by omega
                    have hq0' : (0 : Int) ≤ (q : Int) := by omega
                    have d3 := cs_ext hE2 d2
                    have hlast : ((q : Int) == (fm.fields.length : Int) - 1) = decide (q + 1 = fm.fields.length) := by rw [Bool.eq_iff_iff]; simp; omega
                    have HXE : Hid (fldE t fm.fields m q = fieldErr (t.take m) x (decide (q + 1 = fm.fields.length))) := fldE_at HX.out
                    generalize hev : fieldErr (t.take m) x (decide (q + 1 = fm.fields.length)) = ev at HXE
                    have HEV := Lib.hid hev; clear hev
                    generalize hld : decide (q + 1 = fm.fields.length) = ld at hlast HEV
                    have hw1 := HW1.out
                    go_wp2_with fail
                    refine wp_region_calm 17 (fun w' => Ext (wr) w') (by kernel_rfl) (by kernel_rfl) (fun _ _ h hE => h.trans hE) (Ext.drew _) ?_
                    refine calm_value (fun _ => rfl) ?_ (fun g w' hE => ?_) ?_
                    rotate_left
                    · (have zz0 := cs_ext hE d3; have zz1 := cs_ext hE c0; have zz2 := cs_ext hE c1; have zz3 := cs_ext hE c2; have zz4 := cs_ext hE c3; have zz5 := cs_ext hE c4; go_simp; first | done | rfl)
                    refine calm_value (fun _ => rfl) ?_ (fun g w' hE => ?_) ?_
                    rotate_left
                    · (have zz0 := cs_ext hE d3; have zz1 := cs_ext hE c0; have zz2 := cs_ext hE c1; have zz3 := cs_ext hE c2; have zz4 := cs_ext hE c3; have zz5 := cs_ext hE c4; go_simp; first | done | rfl)
                    refine calm_value (fun _ => rfl) ?_ (fun g w' hE => ?_) ?_
                    rotate_left
                    · (have zz0 := cs_ext hE d3; have zz1 := cs_ext hE c0; have zz2 := cs_ext hE c1; have zz3 := cs_ext hE c2; have zz4 := cs_ext hE c3; have zz5 := cs_ext hE c4; go_simp; first | done | rfl)
                    refine calm_value (fun _ => rfl) ?_ (fun g w' hE => ?_) ?_
                    rotate_left
                    · (have zz0 := cs_ext hE d3; have zz1 := cs_ext hE c0; have zz2 := cs_ext hE c1; have zz3 := cs_ext hE c2; have zz4 := cs_ext hE c3; have zz5 := cs_ext hE c4; go_simp; first | done | rfl)
                    refine calm_value (fun _ => rfl) ?_ (fun g w' hE => ?_) ?_
                    rotate_left
                    · (have zz0 := cs_ext hE d3; have zz1 := cs_ext hE c0; have zz2 := cs_ext hE c1; have zz3 := cs_ext hE c2; have zz4 := cs_ext hE c3; have zz5 := cs_ext hE c4; go_simp; first | done | rfl)
                    refine calm_value (fun _ => rfl) ?_ (fun g w' hE => ?_) ?_
                    rotate_left
                    · (have zz0 := cs_ext hE d3; have zz1 := cs_ext hE c0; have zz2 := cs_ext hE c1; have zz3 := cs_ext hE c2; have zz4 := cs_ext hE c3; have zz5 := cs_ext hE c4; go_simp; first | done | rfl)
                    refine calm_value (fun _ => rfl) ?_ (fun g w' hE => ?_) ?_
                    rotate_left
                    · (have zz0 := cs_ext hE d3; have zz1 := cs_ext hE c0; have zz2 := cs_ext hE c1; have zz3 := cs_ext hE c2; have zz4 := cs_ext hE c3; have zz5 := cs_ext hE c4; go_simp; first | done | rfl)
                    refine calm_value (fun _ => rfl) ?_ (fun g w' hE => ?_) ?_
                    rotate_left
                    · (have zz0 := cs_ext hE d3; have zz1 := cs_ext hE c0; have zz2 := cs_ext hE c1; have zz3 := cs_ext hE c2; have zz4 := cs_ext hE c3; have zz5 := cs_ext hE c4; go_simp; first | done | rfl)
                    refine calm_value (fun _ => rfl) ?_ (fun g w' hE => ?_) ?_
                    rotate_left
                    · (have zz0 := cs_ext hE d3; have zz1 := cs_ext hE c0; have zz2 := cs_ext hE c1; have zz3 := cs_ext hE c2; have zz4 := cs_ext hE c3; have zz5 := cs_ext hE c4; go_simp; first | done | rfl)
                    refine calm_value (fun _ => rfl) ?_ (fun g w' hE => ?_) ?_
                    rotate_left
                    · (have zz0 := cs_ext hE d3; have zz1 := cs_ext hE c0; have zz2 := cs_ext hE c1; have zz3 := cs_ext hE c2; have zz4 := cs_ext hE c3; have zz5 := cs_ext hE c4; go_simp; first | done | rfl)
                    refine calm_value (fun _ => rfl) ?_ (fun g w' hE => ?_) ?_
                    rotate_left
                    · (have zz0 := cs_ext hE d3; have zz1 := cs_ext hE c0; have zz2 := cs_ext hE c1; have zz3 := cs_ext hE c2; have zz4 := cs_ext hE c3; have zz5 := cs_ext hE c4; go_simp; first | done | rfl)
                    refine calm_value (fun _ => rfl) ?_ (fun g w' hE => ?_) ?_
                    rotate_left
                    · (have zz0 := cs_ext hE d3; have zz1 := cs_ext hE c0; have zz2 := cs_ext hE c1; have zz3 := cs_ext hE c2; have zz4 := cs_ext hE c3; have zz5 := cs_ext hE c4; go_simp; first | done | rfl)
                    refine calm_value (fun _ => rfl) ?_ (fun g w' hE => ?_) ?_
                    rotate_left
                    · (have zz0 := cs_ext hE d3; have zz1 := cs_ext hE c0; have zz2 := cs_ext hE c1; have zz3 := cs_ext hE c2; have zz4 := cs_ext hE c3; have zz5 := cs_ext hE c4; go_simp; first | done | rfl)
                    refine calm_value (fun _ => rfl) ?_ (fun g w' hE => ?_) ?_
                    rotate_left
                    · (have zz0 := cs_ext hE d3; have zz1 := cs_ext hE c0; have zz2 := cs_ext hE c1; have zz3 := cs_ext hE c2; have zz4 := cs_ext hE c3; have zz5 := cs_ext hE c4; go_simp; first | done | rfl)
                    refine calm_value (fun _ => rfl) ?_ (fun g w' hE => ?_) ?_
                    rotate_left
                    · (have zz0 := cs_ext hE d3; have zz1 := cs_ext hE c0; have zz2 := cs_ext hE c1; have zz3 := cs_ext hE c2; have zz4 := cs_ext hE c3; have zz5 := cs_ext hE c4; go_simp; first | done | rfl)
                    refine calm_call' (fun _ => rfl) 46 ?_ (fun g w' hE => ?_) ?_
                    rotate_left
                    · (have zz0 := cs_ext hE d3; have zz1 := cs_ext hE c0; have zz2 := cs_ext hE c1; have zz3 := cs_ext hE c2; have zz4 := cs_ext hE c3; have zz5 := cs_ext hE c4; go_simp; first | done | exact ⟨rfl, rfl⟩ | rfl)
                    apply Exists.intro
                    refine And.intro (fun w' hE => ?_) ?_
                    · (have h := field_any (cap := cap) x ld ((hTq.take m).ext hBq hE) (by have := hE.size; omega); rw [htk, HEV.out] at h; exact h)
                    refine calm_value (fun _ => rfl) ?_ (fun g w' hE => ?_) ?_
                    rotate_left
                    · (have zz0 := cs_ext hE d3; have zz1 := cs_ext hE c0; have zz2 := cs_ext hE c1; have zz3 := cs_ext hE c2; have zz4 := cs_ext hE c3; have zz5 := cs_ext hE c4; go_simp; first | done | rfl)
                    intro g3 wy hEy hFy
                    simp only [List.drop_succ_cons, List.drop_zero, Act.put, List.setIfInBounds_toArray, List.set_cons_succ, List.set_cons_zero]
                    clear hw1 hlast
                    by_cases hev0 : ev = 0
                    · have e5 : (ev != 0) = false := by simp [hev0]
                      have HEV0 := Lib.hid hev0; clear hev0
                      go_wp2_with fail
                      go_roundw
                      case rel => exact ⟨q + 1, by omega, by go_num, hE2.trans hEy, all_succ HALL2.out (by rw [HXE.out, HEV0.out])⟩
                      case measure => simp [intOf]; omega
                    · have e5 : (ev != 0) = true := by simp [hev0]
                      have HEV0 := Lib.hid hev0; clear hev0
                      go_wp2_with fail
                      go_ret
                      have HA : errFrom (fldE t fm.fields m) fm.fields.length = ev := by rw [err_at hlq (by rw [HXE.out]; exact HEV0.out) HALL2.out, HXE.out]
                      exact ⟨ri (by rw [HRES.out, HR.out, err_at hlt (by rw [HFE.out, HFF.out, HA]; exact HEV0.out) HALL.out, HFE.out, HFF.out, HA]), hEq.trans hEy⟩
                  · go_wp2_with fail
                    go_roundw
                    case rel => exact ⟨m + 1, by omega, by go_num, hEq, all_succ HALL.out (by rw [HFE.out, HFF.out, err_zero (fun j hj => HALL2.out j (by omega))])⟩
                    case measure => simp [intOf]; omega
      · go_wp2_with fail
        go_ret
        exact ⟨ri (by rw [HRES.out, HR.out, err_zero (fun j hj => HALL.out j (by omega))]), hE⟩

end Go.Proofs.Ythoelnoahfedmaa
