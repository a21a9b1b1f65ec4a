/- The contract of the program's one. The contract of the program's one. -/
import Derived.Test.YthoelnoahfedmaaG5
namespace Go.Proofs.Ythoelnoahfedmaa
open Go.RowKit
set_option linter.unusedVariables false
set_option linter.unusedSimpArgs false

theorem fe_shape {t : List Fmt} {f : Fld} {last : Bool} (h : shapeS f = false) : fieldErr t f last = 1 := by rw [fieldErr, if_pos h]
theorem fe_range {t : List Fmt} {f : Fld} {last : Bool} (h : shapeS f = true) (h2 : rangesS f last = false) : fieldErr t f last = 7 := by rw [fieldErr, if_neg (by simp [h]), if_pos h2]
theorem fe_ok {t : List Fmt} {f : Fld} {last : Bool} (h : shapeS f = true) (h2 : rangesS f last = true) (h5 : f.kind ≠ 5) : fieldErr t f last = 0 := by rw [fieldErr, if_neg (by simp [h]), if_neg (by simp [h2]), if_pos h5]

set_option maxRecDepth 100000 in
set_option maxHeartbeats 4000000 in
theorem one_1 {w : World} {a : Option Addr} {t : List Fmt} {cap : Nat} (f : Fld) (last : Bool) (hk : f.kind = 1) :
    Calls Try.prog 68 #[.slice a t.length cap, .agg #[.int .i64 f.kind, .string f.bytes, .int .i64 f.n, .int .i64 f.low, .int .i64 f.high], .bool last] w fun e w' => e = .returned (.int .i64 (fieldErr t f last)) ∧ Ext w w' := by
  have HS : Hid (shapeS f = decide (f.n = 0 ∧ f.low = 0 ∧ f.high = 0)) := by show _ = _; simp [shapeS, hk]
  have HG : Hid (rangesS f last = decide (1 ≤ f.bytes.size ∧ f.bytes.size ≤ 8)) := by show _ = _; simp [rangesS, hk]
  have HK : Hid (f.kind ≠ 5) := by show _ ≠ _; omega
  obtain ⟨res, hres⟩ : ∃ res, res = fieldErr t f last := ⟨_, rfl⟩
  rw [← hres]
  have HRES := Lib.hid hres; clear hres
  by_cases p0 : ((f.bytes.size : Nat) : Int) ≤ 8
  all_goals first | have e0 := decide_eq_true p0 | have e0 := decide_eq_false p0
  all_goals
    go_enter Try.func68, Try.ntmps68
    go_wp2_with fail
    all_goals go_ret
    all_goals first
      | exact ⟨ri (by rw [HRES.out]; exact (fe_ok (by rw [HS.out]; exact decide_eq_true (by first | omega | exact ⟨hbz, by omega⟩ | exact ⟨hbz, by omega, by omega⟩)) (by rw [HG.out]; first | exact decide_eq_true (by first | omega | exact ⟨rfl, by omega⟩) | (simp; omega)) HK.out).symm), (by repeat (first | exact Ext.refl _ | exact Ext.alloc _ _ | apply Ext.then_dr | apply Ext.then_drN | apply Ext.then_drN2 | (refine Ext.then_al ?_ _)))⟩
      | exact ⟨ri (by rw [HRES.out]; exact (fe_range (by rw [HS.out]; exact decide_eq_true (by first | omega | exact ⟨hbz, by omega⟩ | exact ⟨hbz, by omega, by omega⟩)) (by rw [HG.out]; first | exact decide_eq_false (by first | omega | exact fun h => absurd h.1 (by decide) | exact fun h => absurd h.2 (by omega)) | (simp; done) | (simp; omega))).symm), (by repeat (first | exact Ext.refl _ | exact Ext.alloc _ _ | apply Ext.then_dr | apply Ext.then_drN | apply Ext.then_drN2 | (refine Ext.then_al ?_ _)))⟩
      | exact ⟨ri (by rw [HRES.out]; exact (fe_shape (by rw [HS.out]; exact decide_eq_false (by first | omega | exact fun h => hbz h.1 | exact fun h => absurd h.2 (by omega)))).symm), (by repeat (first | exact Ext.refl _ | exact Ext.alloc _ _ | apply Ext.then_dr | apply Ext.then_drN | apply Ext.then_drN2 | (refine Ext.then_al ?_ _)))⟩
      | (exfalso; rename_i hh; simp only [Bool.not_eq_false', decide_eq_true_eq, Bool.not_eq_true', decide_eq_false_iff_not] at hh; omega)
      | (exfalso; rename_i hh _; simp only [Bool.not_eq_false', decide_eq_true_eq, Bool.not_eq_true', decide_eq_false_iff_not] at hh; omega)
      | (exfalso; rename_i hh _ _; simp only [Bool.not_eq_false', decide_eq_true_eq, Bool.not_eq_true', decide_eq_false_iff_not] at hh; omega)

set_option maxRecDepth 100000 in
set_option maxHeartbeats 4000000 in
theorem one_2 {w : World} {a : Option Addr} {t : List Fmt} {cap : Nat} (f : Fld) (last : Bool) (hk : f.kind = 2) :
    Calls Try.prog 68 #[.slice a t.length cap, .agg #[.int .i64 f.kind, .string f.bytes, .int .i64 f.n, .int .i64 f.low, .int .i64 f.high], .bool last] w fun e w' => e = .returned (.int .i64 (fieldErr t f last)) ∧ Ext w w' := by
  have HS : Hid (shapeS f = decide (f.bytes.toList = [] ∧ f.low = 0 ∧ f.high = 0)) := by show _ = _; simp [shapeS, hk]
  have HG : Hid (rangesS f last = decide (1 ≤ f.n ∧ f.n ≤ 15)) := by show _ = _; simp [rangesS, hk]
  have HK : Hid (f.kind ≠ 5) := by show _ ≠ _; omega
  obtain ⟨res, hres⟩ : ∃ res, res = fieldErr t f last := ⟨_, rfl⟩
  rw [← hres]
  have HRES := Lib.hid hres; clear hres
  by_cases p0 : f.n ≤ 15
  all_goals first | have e0 := decide_eq_true p0 | have e0 := decide_eq_false p0
  all_goals by_cases hbz : f.bytes.toList = []
  all_goals
    go_enter Try.func68, Try.ntmps68
    go_wp2_with fail
    all_goals go_ret
    all_goals first
      | exact ⟨ri (by rw [HRES.out]; exact (fe_ok (by rw [HS.out]; exact decide_eq_true (by first | omega | exact ⟨hbz, by omega⟩ | exact ⟨hbz, by omega, by omega⟩)) (by rw [HG.out]; first | exact decide_eq_true (by first | omega | exact ⟨rfl, by omega⟩) | (simp; omega)) HK.out).symm), (by repeat (first | exact Ext.refl _ | exact Ext.alloc _ _ | apply Ext.then_dr | apply Ext.then_drN | apply Ext.then_drN2 | (refine Ext.then_al ?_ _)))⟩
      | exact ⟨ri (by rw [HRES.out]; exact (fe_range (by rw [HS.out]; exact decide_eq_true (by first | omega | exact ⟨hbz, by omega⟩ | exact ⟨hbz, by omega, by omega⟩)) (by rw [HG.out]; first | exact decide_eq_false (by first | omega | exact fun h => absurd h.1 (by decide) | exact fun h => absurd h.2 (by omega)) | (simp; done) | (simp; omega))).symm), (by repeat (first | exact Ext.refl _ | exact Ext.alloc _ _ | apply Ext.then_dr | apply Ext.then_drN | apply Ext.then_drN2 | (refine Ext.then_al ?_ _)))⟩
      | exact ⟨ri (by rw [HRES.out]; exact (fe_shape (by rw [HS.out]; exact decide_eq_false (by first | omega | exact fun h => hbz h.1 | exact fun h => absurd h.2 (by omega)))).symm), (by repeat (first | exact Ext.refl _ | exact Ext.alloc _ _ | apply Ext.then_dr | apply Ext.then_drN | apply Ext.then_drN2 | (refine Ext.then_al ?_ _)))⟩
      | (exfalso; rename_i hh; simp only [Bool.not_eq_false', decide_eq_true_eq, Bool.not_eq_true', decide_eq_false_iff_not] at hh; omega)
      | (exfalso; rename_i hh _; simp only [Bool.not_eq_false', decide_eq_true_eq, Bool.not_eq_true', decide_eq_false_iff_not] at hh; omega)
      | (exfalso; rename_i hh _ _; simp only [Bool.not_eq_false', decide_eq_true_eq, Bool.not_eq_true', decide_eq_false_iff_not] at hh; omega)

set_option maxRecDepth 100000 in
set_option maxHeartbeats 4000000 in
theorem one_3 {w : World} {a : Option Addr} {t : List Fmt} {cap : Nat} (f : Fld) (last : Bool) (hk : f.kind = 3) :
    Calls Try.prog 68 #[.slice a t.length cap, .agg #[.int .i64 f.kind, .string f.bytes, .int .i64 f.n, .int .i64 f.low, .int .i64 f.high], .bool last] w fun e w' => e = .returned (.int .i64 (fieldErr t f last)) ∧ Ext w w' := by
  have HS : Hid (shapeS f = decide (f.bytes.toList = [] ∧ f.low = 0 ∧ f.high = 0)) := by show _ = _; simp [shapeS, hk]
  have HG : Hid (rangesS f last = decide (0 ≤ f.n ∧ f.n ≤ 15)) := by show _ = _; simp [rangesS, hk]
  have HK : Hid (f.kind ≠ 5) := by show _ ≠ _; omega
  obtain ⟨res, hres⟩ : ∃ res, res = fieldErr t f last := ⟨_, rfl⟩
  rw [← hres]
  have HRES := Lib.hid hres; clear hres
  by_cases p0 : f.n ≤ 15
  all_goals first | have e0 := decide_eq_true p0 | have e0 := decide_eq_false p0
  all_goals by_cases hbz : f.bytes.toList = []
  all_goals
    go_enter Try.func68, Try.ntmps68
    go_wp2_with fail
    all_goals go_ret
    all_goals first
      | exact ⟨ri (by rw [HRES.out]; exact (fe_ok (by rw [HS.out]; exact decide_eq_true (by first | omega | exact ⟨hbz, by omega⟩ | exact ⟨hbz, by omega, by omega⟩)) (by rw [HG.out]; first | exact decide_eq_true (by first | omega | exact ⟨rfl, by omega⟩) | (simp; omega)) HK.out).symm), (by repeat (first | exact Ext.refl _ | exact Ext.alloc _ _ | apply Ext.then_dr | apply Ext.then_drN | apply Ext.then_drN2 | (refine Ext.then_al ?_ _)))⟩
      | exact ⟨ri (by rw [HRES.out]; exact (fe_range (by rw [HS.out]; exact decide_eq_true (by first | omega | exact ⟨hbz, by omega⟩ | exact ⟨hbz, by omega, by omega⟩)) (by rw [HG.out]; first | exact decide_eq_false (by first | omega | exact fun h => absurd h.1 (by decide) | exact fun h => absurd h.2 (by omega)) | (simp; done) | (simp; omega))).symm), (by repeat (first | exact Ext.refl _ | exact Ext.alloc _ _ | apply Ext.then_dr | apply Ext.then_drN | apply Ext.then_drN2 | (refine Ext.then_al ?_ _)))⟩
      | exact ⟨ri (by rw [HRES.out]; exact (fe_shape (by rw [HS.out]; exact decide_eq_false (by first | omega | exact fun h => hbz h.1 | exact fun h => absurd h.2 (by omega)))).symm), (by repeat (first | exact Ext.refl _ | exact Ext.alloc _ _ | apply Ext.then_dr | apply Ext.then_drN | apply Ext.then_drN2 | (refine Ext.then_al ?_ _)))⟩
      | (exfalso; rename_i hh; simp only [Bool.not_eq_false', decide_eq_true_eq, Bool.not_eq_true', decide_eq_false_iff_not] at hh; omega)
      | (exfalso; rename_i hh _; simp only [Bool.not_eq_false', decide_eq_true_eq, Bool.not_eq_true', decide_eq_false_iff_not] at hh; omega)
      | (exfalso; rename_i hh _ _; simp only [Bool.not_eq_false', decide_eq_true_eq, Bool.not_eq_true', decide_eq_false_iff_not] at hh; omega)

set_option maxRecDepth 100000 in
set_option maxHeartbeats 4000000 in
theorem one_4 {w : World} {a : Option Addr} {t : List Fmt} {cap : Nat} (f : Fld) (last : Bool) (hk : f.kind = 4) :
    Calls Try.prog 68 #[.slice a t.length cap, .agg #[.int .i64 f.kind, .string f.bytes, .int .i64 f.n, .int .i64 f.low, .int .i64 f.high], .bool last] w fun e w' => e = .returned (.int .i64 (fieldErr t f last)) ∧ Ext w w' := by
  have HS : Hid (shapeS f = decide (f.bytes.toList = [] ∧ f.n = 0)) := by show _ = _; simp [shapeS, hk]
  have HG : Hid (rangesS f last = decide (0 ≤ f.low ∧ f.low ≤ f.high ∧ f.high ≤ 255)) := by show _ = _; simp [rangesS, hk]
  have HK : Hid (f.kind ≠ 5) := by show _ ≠ _; omega
  obtain ⟨res, hres⟩ : ∃ res, res = fieldErr t f last := ⟨_, rfl⟩
  rw [← hres]
  have HRES := Lib.hid hres; clear hres
  by_cases p0 : f.low ≤ f.high
  all_goals first | have e0 := decide_eq_true p0 | have e0 := decide_eq_false p0
  all_goals by_cases p1 : f.high ≤ 255
  all_goals first | have e1 := decide_eq_true p1 | have e1 := decide_eq_false p1
  all_goals by_cases hbz : f.bytes.toList = []
  all_goals
    go_enter Try.func68, Try.ntmps68
    go_wp2_with fail
    go_region
    all_goals go_wp2_with fail
    all_goals go_ret
    all_goals first
      | exact ⟨ri (by rw [HRES.out]; exact (fe_ok (by rw [HS.out]; exact decide_eq_true (by first | omega | exact ⟨hbz, by omega⟩ | exact ⟨hbz, by omega, by omega⟩)) (by rw [HG.out]; first | exact decide_eq_true (by first | omega | exact ⟨rfl, by omega⟩) | (simp; omega)) HK.out).symm), (by repeat (first | exact Ext.refl _ | exact Ext.alloc _ _ | apply Ext.then_dr | apply Ext.then_drN | apply Ext.then_drN2 | (refine Ext.then_al ?_ _)))⟩
      | exact ⟨ri (by rw [HRES.out]; exact (fe_range (by rw [HS.out]; exact decide_eq_true (by first | omega | exact ⟨hbz, by omega⟩ | exact ⟨hbz, by omega, by omega⟩)) (by rw [HG.out]; first | exact decide_eq_false (by first | omega | exact fun h => absurd h.1 (by decide) | exact fun h => absurd h.2 (by omega)) | (simp; done) | (simp; omega))).symm), (by repeat (first | exact Ext.refl _ | exact Ext.alloc _ _ | apply Ext.then_dr | apply Ext.then_drN | apply Ext.then_drN2 | (refine Ext.then_al ?_ _)))⟩
      | exact ⟨ri (by rw [HRES.out]; exact (fe_shape (by rw [HS.out]; exact decide_eq_false (by first | omega | exact fun h => hbz h.1 | exact fun h => absurd h.2 (by omega)))).symm), (by repeat (first | exact Ext.refl _ | exact Ext.alloc _ _ | apply Ext.then_dr | apply Ext.then_drN | apply Ext.then_drN2 | (refine Ext.then_al ?_ _)))⟩
      | (exfalso; rename_i hh; simp only [Bool.not_eq_false', decide_eq_true_eq, Bool.not_eq_true', decide_eq_false_iff_not] at hh; omega)
      | (exfalso; rename_i hh _; simp only [Bool.not_eq_false', decide_eq_true_eq, Bool.not_eq_true', decide_eq_false_iff_not] at hh; omega)
      | (exfalso; rename_i hh _ _; simp only [Bool.not_eq_false', decide_eq_true_eq, Bool.not_eq_true', decide_eq_false_iff_not] at hh; omega)

end Go.Proofs.Ythoelnoahfedmaa

namespace Go.Proofs.Ythoelnoahfedmaa
open Go.RowKit
set_option linter.unusedVariables false
set_option linter.unusedSimpArgs false

set_option maxRecDepth 100000 in
set_option maxHeartbeats 4000000 in
theorem one_6 {w : World} {a : Option Addr} {t : List Fmt} {cap : Nat} (f : Fld) (last : Bool) (hk : f.kind = 6) :
    Calls Try.prog 68 #[.slice a t.length cap, .agg #[.int .i64 f.kind, .string f.bytes, .int .i64 f.n, .int .i64 f.low, .int .i64 f.high], .bool last] w fun e w' => e = .returned (.int .i64 (fieldErr t f last)) ∧ Ext w w' := by
  have HS : Hid (shapeS f = decide (f.bytes.toList = [] ∧ f.n = 0)) := by show _ = _; simp [shapeS, hk]
  have HG : Hid (rangesS f last = decide (last = true ∧ 0 ≤ f.low ∧ f.low ≤ f.high ∧ f.high ≤ 1000)) := by show _ = _; simp [rangesS, hk]
  have HK : Hid (f.kind ≠ 5) := by show _ ≠ _; omega
  obtain ⟨res, hres⟩ : ∃ res, res = fieldErr t f last := ⟨_, rfl⟩
  rw [← hres]
  have HRES := Lib.hid hres; clear hres
  by_cases p0 : f.low ≤ f.high
  all_goals first | have e0 := decide_eq_true p0 | have e0 := decide_eq_false p0
  all_goals by_cases p1 : f.high ≤ 1000
  all_goals first | have e1 := decide_eq_true p1 | have e1 := decide_eq_false p1
  all_goals by_cases hbz : f.bytes.toList = []
  all_goals cases last
  all_goals
    go_enter Try.func68, Try.ntmps68
    go_wp2_with fail
    go_region
    all_goals go_wp2_with fail
    all_goals go_ret
    all_goals first
      | exact ⟨ri (by rw [HRES.out]; exact (fe_ok (by rw [HS.out]; exact decide_eq_true (by first | omega | exact ⟨hbz, by omega⟩ | exact ⟨hbz, by omega, by omega⟩)) (by rw [HG.out]; first | exact decide_eq_true (by first | omega | exact ⟨rfl, by omega⟩) | (simp; omega)) HK.out).symm), (by repeat (first | exact Ext.refl _ | exact Ext.alloc _ _ | apply Ext.then_dr | apply Ext.then_drN | apply Ext.then_drN2 | (refine Ext.then_al ?_ _)))⟩
      | exact ⟨ri (by rw [HRES.out]; exact (fe_range (by rw [HS.out]; exact decide_eq_true (by first | omega | exact ⟨hbz, by omega⟩ | exact ⟨hbz, by omega, by omega⟩)) (by rw [HG.out]; first | exact decide_eq_false (by first | omega | exact fun h => absurd h.1 (by decide) | exact fun h => absurd h.2 (by omega)) | (simp; done) | (simp; omega))).symm), (by repeat (first | exact Ext.refl _ | exact Ext.alloc _ _ | apply Ext.then_dr | apply Ext.then_drN | apply Ext.then_drN2 | (refine Ext.then_al ?_ _)))⟩
      | exact ⟨ri (by rw [HRES.out]; exact (fe_shape (by rw [HS.out]; exact decide_eq_false (by first | omega | exact fun h => hbz h.1 | exact fun h => absurd h.2 (by omega)))).symm), (by repeat (first | exact Ext.refl _ | exact Ext.alloc _ _ | apply Ext.then_dr | apply Ext.then_drN | apply Ext.then_drN2 | (refine Ext.then_al ?_ _)))⟩
      | (exfalso; rename_i hh; simp only [Bool.not_eq_false', decide_eq_true_eq, Bool.not_eq_true', decide_eq_false_iff_not] at hh; omega)
      | (exfalso; rename_i hh _; simp only [Bool.not_eq_false', decide_eq_true_eq, Bool.not_eq_true', decide_eq_false_iff_not] at hh; omega)
      | (exfalso; rename_i hh _ _; simp only [Bool.not_eq_false', decide_eq_true_eq, Bool.not_eq_true', decide_eq_false_iff_not] at hh; omega)

end Go.Proofs.Ythoelnoahfedmaa
