/- Contracts: fields of formats. -/
import Derived.Test.YthoelnoahfedmaaV2
import Derived.Deep.QuietTactic
import Derived.BigQuiet
namespace Go.Proofs.Ythoelnoahfedmaa
open Go.RowKit
set_option linter.unusedVariables false
set_option linter.unusedSimpArgs false

theorem Ext.then_drN2 {w w' : World} {n : Nat} (h : Ext w w') : Ext w (w'.drewN n) := h.trans ⟨rfl, rfl, rfl, Nat.le_refl _, fun _ _ => rfl⟩

theorem kind7 (k : Int) : k = 1 ∨ k = 2 ∨ k = 3 ∨ k = 4 ∨ k = 5 ∨ k = 6 ∨ (((k == 1) = false ∧ (k == 2) = false ∧ (k == 3) = false ∧ (k == 4) = false ∧ (k == 5) = false ∧ (k == 6) = false) ∧ k ≠ 1 ∧ k ≠ 2 ∧ k ≠ 3 ∧ k ≠ 4 ∧ k ≠ 5 ∧ k ≠ 6) := by
  by_cases h1 : k = 1
  · exact .inl h1
  by_cases h2 : k = 2
  · exact .inr (.inl h2)
  by_cases h3 : k = 3
  · exact .inr (.inr (.inl h3))
  by_cases h4 : k = 4
  · exact .inr (.inr (.inr (.inl h4)))
  by_cases h5 : k = 5
  · exact .inr (.inr (.inr (.inr (.inl h5))))
  by_cases h6 : k = 6
  · exact .inr (.inr (.inr (.inr (.inr (.inl h6)))))
  · exact .inr (.inr (.inr (.inr (.inr (.inr ⟨⟨by simp [h1], by simp [h2], by simp [h3], by simp [h4], by simp [h5], by simp [h6]⟩, h1, h2, h3, h4, h5, h6⟩)))))

def shapeS (f : Fld) : Bool :=
  if f.kind = 1 then decide (f.n = 0 ∧ f.low = 0 ∧ f.high = 0)
  else if f.kind = 2 ∨ f.kind = 3 ∨ f.kind = 5 then decide (f.bytes.toList = [] ∧ f.low = 0 ∧ f.high = 0)
  else if f.kind = 4 ∨ f.kind = 6 then decide (f.bytes.toList = [] ∧ f.n = 0)
  else false

set_option maxHeartbeats 1000000 in
theorem shape_any {w : World} (f : Fld) :
    Calls Try.prog 70 #[.agg #[.int .i64 f.kind, .string f.bytes, .int .i64 f.n, .int .i64 f.low, .int .i64 f.high]] w fun e w' => e = .returned (.bool (shapeS f)) ∧ Ext w w' := by
  by_cases hl : f.low = 0
  · have e1 : (f.low != 0) = false := by simp [hl]
    have HL := Lib.hid hl; clear hl
    rcases kind7 f.kind with hk | hk | hk | hk | hk | hk | ⟨⟨k1, k2, k3, k4, k5, k6⟩, hn⟩
    case inr.inr.inr.inr.inr.inr =>
      have HN := Lib.hid hn; clear hn
      go_enter Try.func70, Try.ntmps70
      go_wp2_with fail
      go_quiet (fail)
      go_wp2_with fail
      go_ret
      exact ⟨rb (by obtain ⟨h1, h2, h3, h4, h5, h6⟩ := HN.out; simp [shapeS, h1, h2, h3, h4, h5, h6]), (by repeat (first | exact Ext.refl _ | exact Ext.alloc _ _ | apply Ext.then_dr | apply Ext.then_drN | apply Ext.then_drN2 | (refine Ext.then_al ?_ _)))⟩
    all_goals
      go_enter Try.func70, Try.ntmps70
      go_wp2_with fail
      go_quiet (fail)
      go_wp2_with fail
      all_goals go_ret
      all_goals refine ⟨rb ?_, (by repeat (first | exact Ext.refl _ | exact Ext.alloc _ _ | apply Ext.then_dr | apply Ext.then_drN | apply Ext.then_drN2 | (refine Ext.then_al ?_ _)))⟩
      all_goals (rw [Bool.eq_iff_iff]; simp only [shapeS, hk])
      all_goals simp [*, HL.out]
  · have e1 : (f.low != 0) = true := by simp [hl]
    have HL := Lib.hid hl; clear hl
    rcases kind7 f.kind with hk | hk | hk | hk | hk | hk | ⟨⟨k1, k2, k3, k4, k5, k6⟩, hn⟩
    case inr.inr.inr.inr.inr.inr =>
      have HN := Lib.hid hn; clear hn
      go_enter Try.func70, Try.ntmps70
      go_wp2_with fail
      go_quiet (fail)
      go_wp2_with fail
      go_ret
      exact ⟨rb (by obtain ⟨h1, h2, h3, h4, h5, h6⟩ := HN.out; simp [shapeS, h1, h2, h3, h4, h5, h6]), (by repeat (first | exact Ext.refl _ | exact Ext.alloc _ _ | apply Ext.then_dr | apply Ext.then_drN | apply Ext.then_drN2 | (refine Ext.then_al ?_ _)))⟩
    all_goals
      go_enter Try.func70, Try.ntmps70
      go_wp2_with fail
      go_quiet (fail)
      go_wp2_with fail
      all_goals go_ret
      all_goals refine ⟨rb ?_, (by repeat (first | exact Ext.refl _ | exact Ext.alloc _ _ | apply Ext.then_dr | apply Ext.then_drN | apply Ext.then_drN2 | (refine Ext.then_al ?_ _)))⟩
      all_goals (rw [Bool.eq_iff_iff]; simp only [shapeS, hk])
      all_goals simp [*, HL.out]

def rangesS (f : Fld) (last : Bool) : Bool :=
  if f.kind = 1 then decide (1 ≤ f.bytes.size ∧ f.bytes.size ≤ 8)
  else if f.kind = 2 then decide (1 ≤ f.n ∧ f.n ≤ 15)
  else if f.kind = 3 then decide (0 ≤ f.n ∧ f.n ≤ 15)
  else if f.kind = 4 then decide (0 ≤ f.low ∧ f.low ≤ f.high ∧ f.high ≤ 255)
  else if f.kind = 6 then decide (last = true ∧ 0 ≤ f.low ∧ f.low ≤ f.high ∧ f.high ≤ 1000)
  else true

set_option maxRecDepth 100000 in
set_option maxHeartbeats 1000000 in
theorem ranges_any {w : World} (f : Fld) (last : Bool) :
    Calls Try.prog 71 #[.agg #[.int .i64 f.kind, .string f.bytes, .int .i64 f.n, .int .i64 f.low, .int .i64 f.high], .bool last] w fun e w' => e = .returned (.bool (rangesS f last)) ∧ Ext w w' := by
  rcases kind7 f.kind with hk | hk | hk | hk | hk | hk | ⟨⟨k1, k2, k3, k4, k5, k6⟩, hn⟩
  case inr.inr.inr.inr.inr.inr =>
    have HN := Lib.hid hn; clear hn
    go_enter Try.func71, Try.ntmps71
    go_wp2_with fail
    go_ret
    exact ⟨rb (by obtain ⟨h1, h2, h3, h4, h5, h6⟩ := HN.out; simp [rangesS, h1, h2, h3, h4, h5, h6]), (by repeat (first | exact Ext.refl _ | exact Ext.alloc _ _ | apply Ext.then_dr | apply Ext.then_drN | apply Ext.then_drN2 | (refine Ext.then_al ?_ _)))⟩
  all_goals
    cases last
    all_goals
      go_enter Try.func71, Try.ntmps71
      go_wp2_with fail
      all_goals go_ret
      all_goals refine ⟨rb ?_, (by repeat (first | exact Ext.refl _ | exact Ext.alloc _ _ | apply Ext.then_dr | apply Ext.then_drN | apply Ext.then_drN2 | (refine Ext.then_al ?_ _)))⟩
      all_goals (rw [Bool.eq_iff_iff]; simp only [rangesS, hk])
      all_goals simp [*]
      all_goals try omega

/-- no nested field, no rest -/
def plain17 (F : List Fld) : Bool := decide (∀ x ∈ F, x.kind ≠ 5 ∧ x.kind ≠ 6)

set_option maxRecDepth 100000 in
set_option maxHeartbeats 1000000 in
theorem plain17_any {w : World} {B : Nat} {fa : Option Addr} {F : List Fld} {nm : ByteArray} {fcap : Nat} (hF : FldsA w B fa F) (hB : B ≤ w.heap.size) :
   Calls Try.prog 72 #[.agg #[.string nm, .slice fa F.length fcap]] w fun e w' => e = .returned (.bool (plain17 F)) ∧ Ext w w' := by
  have hn63 := hF.1
  unfold maxLen at hn63
  go_enter Try.func72, Try.ntmps72
  go_wp2_with fail
  go_loop [3] (fun i => ∃ k : Nat, k ≤ F.length ∧ i = .int .i64 k ∧ ∀ (j : Nat) (x : Fld), j < k → F[j]? = some x → x.kind ≠ 5 ∧ x.kind ≠ 6) (fun i => F.length - (intOf i).toNat)
  case atStart => exact ⟨0, Nat.zero_le _, rfl, fun j f h hj => by omega⟩
  case round =>
    obtain ⟨k, hk, rfl, hall⟩ := hrel
    have HALL := Lib.hid hall; clear hall
    by_cases hlt : k < F.length
    · obtain ⟨x, hx⟩ : ∃ f, F[k]? = some f := ⟨_, List.getElem?_eq_getElem hlt⟩
      obtain ⟨fb, foff, rfl, hfb, hc⟩ := hF.get' hx
      have c0 := hc.kind
      have hfb' : fb < w.heap.size := by omega
      clear hc
      have HX := Lib.hid hx; clear hx
      by_cases h5 : x.kind = 5
      · have e5 : (x.kind == 5) = true := by simp [h5]
        have H5 := Lib.hid h5; clear h5
        go_wp2_with fail
        go_ret
        exact ⟨rb (by symm; rw [plain17, decide_eq_false_iff_not]; intro h; exact (h x (List.mem_of_getElem? HX.out)).1 H5.out), (by repeat (first | exact Ext.refl _ | exact Ext.alloc _ _ | apply Ext.then_dr | apply Ext.then_drN | apply Ext.then_drN2 | (refine Ext.then_al ?_ _)))⟩
      · have e5 : (x.kind == 5) = false := by simp [h5]
        have H5 := Lib.hid h5; clear h5
        by_cases h6 : x.kind = 6
        · have e6 : (x.kind == 6) = true := by simp [h6]
          have H6 := Lib.hid h6; clear h6
          go_wp2_with fail
          go_ret
          exact ⟨rb (by symm; rw [plain17, decide_eq_false_iff_not]; intro h; exact (h x (List.mem_of_getElem? HX.out)).2 H6.out), (by repeat (first | exact Ext.refl _ | exact Ext.alloc _ _ | apply Ext.then_dr | apply Ext.then_drN | apply Ext.then_drN2 | (refine Ext.then_al ?_ _)))⟩
        · have e6 : (x.kind == 6) = false := by simp [h6]
          have H6 := Lib.hid h6; clear h6
          go_wp2_with fail
          go_round
          case rel => exact ⟨k + 1, by omega, by go_num, fun j x' hj hx' => by
            rcases Nat.lt_or_ge j k with h' | h'
            · exact HALL.out j x' h' hx'
            · have : j = k := by omega
              subst this
              have := HX.out
              rw [this] at hx'
              cases hx'
              exact ⟨H5.out, H6.out⟩⟩
          case measure => simp [intOf]; omega
    · go_wp2_with fail
      go_ret
      exact ⟨rb (by symm; rw [plain17, decide_eq_true_iff]; intro x hx; obtain ⟨j, hj⟩ := List.mem_iff_getElem?.1 hx; exact HALL.out j x (by have := lt_of_get hj; omega) hj), (by repeat (first | exact Ext.refl _ | exact Ext.alloc _ _ | apply Ext.then_dr | apply Ext.then_drN | apply Ext.then_drN2 | (refine Ext.then_al ?_ _)))⟩

def fieldErr (t : List Fmt) (f : Fld) (last : Bool) : Int :=
  if shapeS f = false then 1
  else if rangesS f last = false then 7
  else if f.kind ≠ 5 then 0
  else if f.n < 0 ∨ (t.length : Int) ≤ f.n then 4
  else if plain17 (t.getD f.n.toNat default).fields = false then 10
  else 0

set_option maxRecDepth 100000 in
set_option maxHeartbeats 1000000 in
theorem field_any {w : World} {B : Nat} {a : Option Addr} {t : List Fmt} {cap : Nat} (f : Fld) (last : Bool) (hT : TabA w B a t) (hB : B ≤ w.heap.size) :
    Calls Try.prog 46 #[.slice a t.length cap, .agg #[.int .i64 f.kind, .string f.bytes, .int .i64 f.n, .int .i64 f.low, .int .i64 f.high], .bool last] w fun e w' => e = .returned (.int .i64 (fieldErr t f last)) ∧ Ext w w' := by
  have hn63 := hT.1
  unfold maxLen at hn63
  obtain ⟨res, hres⟩ : ∃ res, res = fieldErr t f last := ⟨_, rfl⟩
  rw [← hres]
  rw [fieldErr] at hres
  generalize hsh : shapeS f = sh at *
  have HSH := Lib.hid hsh
  cases sh
  · have HRES := Lib.hid hres; clear hres hsh
    go_enter Try.func46, Try.ntmps46
    go_wp2_with fail
    refine (shape_any f).mono ?_
    rw [HSH.out]
    rintro e w1 ⟨rfl, hb1⟩
    go_wp2_with fail
    go_ret
    exact ⟨ri (by rw [HRES.out]; simp), hb1.al⟩
  · generalize hrg : rangesS f last = rg at *
    have HRG := Lib.hid hrg
    cases rg
    · have HRES := Lib.hid hres; clear hres hsh hrg
      go_enter Try.func46, Try.ntmps46
      go_wp2_with fail
      refine (shape_any f).mono ?_
      rw [HSH.out]
      rintro e w1 ⟨rfl, hb1⟩
      obtain ⟨hc1, -, hs1⟩ := hb1.cells1
      go_wp2_with fail
      refine (ranges_any f last).mono ?_
      rw [HRG.out]
      rintro e w2 ⟨rfl, hb2⟩
      go_wp2_with fail
      go_ret
      exact ⟨ri (by rw [HRES.out]; simp), hb1.al.trans hb2⟩
    · by_cases hk : f.kind = 5
      · have e5 : (f.kind != 5) = false := by simp [hk]
        by_cases hneg : f.n < 0
        · have HRES := Lib.hid hres; clear hres hsh hrg
          have HK := Lib.hid hk; clear hk
          go_enter Try.func46, Try.ntmps46
          go_wp2_with fail
          refine (shape_any f).mono ?_
          rw [HSH.out]
          rintro e w1 ⟨rfl, hb1⟩
          obtain ⟨hc1, -, hs1⟩ := hb1.cells1
          have hl1 : w.heap.size < w1.heap.size := by omega
          go_wp2_with fail
          refine (ranges_any f last).mono ?_
          rw [HRG.out]
          rintro e w2 ⟨rfl, hb2⟩
          obtain ⟨hc2, -⟩ := hb2.cells
          go_wp2_with fail
          go_ret
          exact ⟨ri (by rw [HRES.out]; simp [HK.out, hneg]), hb1.al.trans hb2⟩
        · obtain ⟨j, hj⟩ : ∃ j : Nat, f.n = j := ⟨f.n.toNat, by omega⟩
          by_cases hge : t.length ≤ j
          · have HRES := Lib.hid hres; clear hres hsh hrg
            have HJ := Lib.hid hj; clear hj
            have HK := Lib.hid hk; clear hk
            go_enter Try.func46, Try.ntmps46
            go_wp2_with fail
            refine (shape_any f).mono ?_
            rw [HSH.out]
            rintro e w1 ⟨rfl, hb1⟩
            obtain ⟨hc1, -, hs1⟩ := hb1.cells1
            have hl1 : w.heap.size < w1.heap.size := by omega
            go_wp2_with fail
            refine (ranges_any f last).mono ?_
            rw [HRG.out]
            rintro e w2 ⟨rfl, hb2⟩
            have hj := HJ.out
            obtain ⟨hc2, -⟩ := hb2.cells
            go_wp2_with fail
            go_ret
            exact ⟨ri (by rw [HRES.out]; simp [HK.out, hj, hge]), hb1.al.trans hb2⟩
          · obtain ⟨gm, hgm⟩ : ∃ g, t[j]? = some g := ⟨_, List.getElem?_eq_getElem (by omega)⟩
            obtain ⟨tb, toff, ga, gcap, rfl, htb, htn, htc, hG, -⟩ := hT.at' hgm
            have hgd : (t.getD f.n.toNat default).fields = gm.fields := by simp [hj, hgm]
            rw [hgd] at hres
            have HRES := Lib.hid hres; clear hres hsh hrg hgd
            have HJ := Lib.hid hj; clear hj
            have HK := Lib.hid hk; clear hk
            have hjl := lt_of_get hgm
            have HGM := Lib.hid hgm; clear hgm
            have htb' : tb < w.heap.size := by omega
            go_enter Try.func46, Try.ntmps46
            go_wp2_with fail
            refine (shape_any f).mono ?_
            rw [HSH.out]
            rintro e w1 ⟨rfl, hb1⟩
            obtain ⟨hc1, -, hs1⟩ := hb1.cells1
            have hl1 : w.heap.size < w1.heap.size := by omega
            go_wp2_with fail
            refine (ranges_any f last).mono ?_
            rw [HRG.out]
            rintro e w2 ⟨rfl, hb2⟩
            have hj := HJ.out
            have hE : Ext w w2 := hb1.al.trans hb2
            obtain ⟨hc2, -⟩ := hb2.cells
            have d1 := cs_ext hE htn
            have d2 := cs_ext hE htc
            go_wp2_with fail
            generalize hpl : plain17 gm.fields = pl
            have HPL := Lib.hid hpl
            refine (plain17_any (hG.ext hB hE) (by have := hE.size; omega)).mono ?_
            rw [hpl]
            clear hpl
            rintro e w3 ⟨rfl, hb3⟩
            cases pl
            all_goals
              go_wp2_with fail
              go_ret
              exact ⟨ri (by rw [HRES.out, HPL.out]; have hj0 : ¬ ((j : Int) < 0) := by omega
                            simp [HK.out, hj0, *]; try omega), hE.trans hb3⟩
      · have e5 : (f.kind != 5) = true := by simp [hk]
        have HRES := Lib.hid hres; clear hres hsh hrg
        have HK := Lib.hid hk; clear hk
        go_enter Try.func46, Try.ntmps46
        go_wp2_with fail
        refine (shape_any f).mono ?_
        rw [HSH.out]
        rintro e w1 ⟨rfl, hb1⟩
        obtain ⟨hc1, -, hs1⟩ := hb1.cells1
        have hl1 : w.heap.size < w1.heap.size := by omega
        go_wp2_with fail
        refine (ranges_any f last).mono ?_
        rw [HRG.out]
        rintro e w2 ⟨rfl, hb2⟩
        obtain ⟨hc2, -⟩ := hb2.cells
        go_wp2_with fail
        go_ret
        exact ⟨ri (by rw [HRES.out]; simp [HK.out]), hb1.al.trans hb2⟩

end Go.Proofs.Ythoelnoahfedmaa
