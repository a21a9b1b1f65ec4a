/- Contracts of the reference's automaton. -/
import Derived.Test.YthoelnoahfedmaaW5
namespace Go.Proofs.Ythoelnoahfedmaa
open Go.RowKit
set_option linter.unusedVariables false

theorem FldsA.get {w : World} {B : Nat} {fa : Option Addr} {F : List Fld} (hF : FldsA w B fa F) {k : Nat} {x : Fld} (hx : F[k]? = some x) : ∃ fb foff, fa = some ⟨fb, foff, none⟩ ∧ fb < B ∧ FldAt w fb (foff + k * 5) x := by
  obtain ⟨fb, foff, h1, h2, h3⟩ := hF.2 (ne_nil_of_get hx)
  exact ⟨fb, foff, h1, h2, h3 k x hx⟩

theorem rest_any {w : World} {B : Nat} {fa : Option Addr} {F : List Fld} {nm : ByteArray} {fcap : Nat} (hF : FldsA w B fa F) (hB : B ≤ w.heap.size) (hne : F ≠ []) (hle : F.length ≤ 100) :
   Calls Try.prog 64 #[.agg #[.string nm, .slice fa F.length fcap]] w fun e w' => e = .returned (.bool (!noRest F)) ∧ Ext w w' := by
  have hpos : 0 < F.length := List.length_pos_iff.2 hne
  obtain ⟨x, hx⟩ : ∃ x, F[F.length - 1]? = some x := ⟨_, List.getElem?_eq_getElem (by omega)⟩
  have hres : noRest F = (x.kind != 6) := by simp [noRest, List.getLast?_eq_getElem?, hx]
  obtain ⟨fb, foff, rfl, hfb, hc⟩ := hF.get hx
  have c0 := hc.kind
  have hcast : ((F.length - 1 : Nat) : Int) = (F.length : Int) - 1 := by omega
  have hb' : fb < w.heap.size := by omega
  clear hc hx
  have HR := Lib.hid hres; clear hres
  go_enter Try.func64, Try.ntmps64
  go_wp2
  all_goals go_ret
  all_goals exact ⟨rb (by rw [HR.out, bne, Bool.not_not]), (by repeat (first | exact Ext.refl _ | exact Ext.alloc _ _ | apply Ext.then_dr | apply Ext.then_drN | apply Ext.then_drN2 | (refine Ext.then_al ?_ _)))⟩

theorem Ext.then_drN {w w' : World} {n : Nat} (h : Ext w w') : Ext w (w'.drewN n) := h.trans ⟨rfl, rfl, rfl, Nat.le_refl _, fun _ _ => rfl⟩
theorem ext_drewN (w : World) (n : Nat) : Ext w (w.drewN n) := ⟨rfl, rfl, rfl, Nat.le_refl _, fun _ _ => rfl⟩

/-- whether a number is a state in a field that is not nested, or the end -/
def plainK (x : Fld) (r : Nat) : Bool :=
  if x.kind = 1 then decide (r < x.bytes.size)
  else if x.kind = 2 then decide ((r : Int) < x.n)
  else if x.kind = 4 then r == 0
  else if x.kind = 3 then decide ((r : Int) ≤ x.n)
  else if x.kind = 6 then decide ((r : Int) ≤ x.high)
  else r == 0
def plainS (F : List Fld) (f r : Nat) : Bool :=
  if f = F.length then r == 0 && noRest F else match F[f]? with | none => false | some x => plainK x r

set_option maxRecDepth 100000 in
set_option maxHeartbeats 1000000 in
theorem plain_any {w : World} {B : Nat} {fa : Option Addr} {F : List Fld} {nm : ByteArray} {fcap : Nat} (f r : Nat) (hf : f ≤ 1000000000000000) (hr : r ≤ 1024) (hF : FldsA w B fa F) (hB : B ≤ w.heap.size) (hne : F ≠ []) (hle : F.length ≤ 100)
    (hp : ∀ x ∈ F, x.kind = 1 ∨ x.kind = 2 ∨ x.kind = 3 ∨ x.kind = 4 ∨ x.kind = 6 ∨ x.kind = 5) :
   Calls Try.prog 57 #[.agg #[.string nm, .slice fa F.length fcap], .int .i64 f, .int .i64 r] w fun e w' => e = .returned (.bool (plainS F f r)) ∧ Ext w w' := by
  by_cases hfl : f = F.length
  · have e0 : ((f : Int) == (F.length : Int)) = true := by simp [hfl]
    have HFL := Lib.hid hfl; clear hfl
    by_cases hr0 : r = 0
    · have e1 : ((r : Int) == 0) = true := by simp [hr0]
      have HR0 := Lib.hid hr0; clear hr0
      go_enter Try.func57, Try.ntmps57
      go_wp2_with fail
      refine (rest_any (hF.alloc hB _) (by simp; omega) hne hle).mono ?_
      rintro e w1 ⟨rfl, hb1⟩
      go_wp2_with fail
      go_ret
      exact ⟨rb (by simp [plainS, HFL.out, HR0.out]), hb1.al⟩
    · have e1 : ((r : Int) == 0) = false := by simp; omega
      have HR0 := Lib.hid hr0; clear hr0
      go_enter Try.func57, Try.ntmps57
      go_wp2_with fail
      go_ret
      exact ⟨rb (by simp [plainS, HFL.out, HR0.out]), (by repeat (first | exact Ext.refl _ | exact Ext.alloc _ _ | apply Ext.then_dr | apply Ext.then_drN | apply Ext.then_drN2 | (refine Ext.then_al ?_ _)))⟩
  · have e0 : ((f : Int) == (F.length : Int)) = false := by simp; omega
    by_cases hlt : f < F.length
    · obtain ⟨x, hx⟩ : ∃ x, F[f]? = some x := ⟨_, List.getElem?_eq_getElem hlt⟩
      have hmem := List.mem_of_getElem? hx
      obtain ⟨fb, foff, rfl, hfb, hc⟩ := hF.get hx
      obtain ⟨c0, c1, c2, c3, c4, cw⟩ := hc
      have hb' : fb < w.heap.size := by omega
      have hres : plainS F f r = plainK x r := by simp [plainS, hfl, hx]
      have HRS := Lib.hid hres; clear hres hx
      have HFL := Lib.hid hfl; clear hfl
      rcases hp x hmem with hk | hk | hk | hk | hk | hk
      all_goals
        go_enter Try.func57, Try.ntmps57
        go_wp2_with fail
        go_ret
        exact ⟨rb (by rw [HRS.out, Bool.eq_iff_iff]; simp [plainK, hk]), (by repeat (first | exact Ext.refl _ | exact Ext.alloc _ _ | apply Ext.then_dr | apply Ext.then_drN | apply Ext.then_drN2 | (refine Ext.then_al ?_ _)))⟩
    · have hgt : F.length < f := by omega
      have hres : plainS F f r = false := by simp [plainS, hfl, List.getElem?_eq_none (Nat.le_of_lt hgt)]
      have HRS := Lib.hid hres; clear hres
      have HFL := Lib.hid hfl; clear hfl
      go_enter Try.func57, Try.ntmps57
      go_wp2_with fail
      go_ret
      exact ⟨rb (by rw [HRS.out]), (by repeat (first | exact Ext.refl _ | exact Ext.alloc _ _ | apply Ext.then_dr | apply Ext.then_drN | apply Ext.then_drN2 | (refine Ext.then_al ?_ _)))⟩


set_option maxRecDepth 100000 in
set_option maxHeartbeats 1000000 in
theorem rstep_any {w : World} {B : Nat} {fa : Option Addr} {F : List Fld} {nm : ByteArray} {fcap : Nat} {x : Fld} (f r b : Nat) (hf : f ≤ 1000) (hr : r ≤ 1024) (hb255 : b ≤ 255) (hF : FldsA w B fa F) (hB : B ≤ w.heap.size) (hle : F.length ≤ 100) (hx : F[f]? = some x)
    (hp : x.kind = 1 ∧ r < x.bytes.size ∨ x.kind = 2 ∨ x.kind = 3 ∧ 0 ≤ x.n ∨ x.kind = 4 ∨ x.kind = 6) :
   Calls Try.prog 58 #[.agg #[.string nm, .slice fa F.length fcap], .int .i64 f, .int .i64 r, .int .u8 b] w fun e w' => e = .returned (.int .i64 (stepK x f r b)) ∧ Ext w w' := by
  have hlt := lt_of_get hx
  have e0 : ((f : Int) == (F.length : Int)) = false := by simp; omega
  obtain ⟨fb, foff, rfl, hfb, hc⟩ := hF.get hx
  obtain ⟨c0, c1, c2, c3, c4, cw⟩ := hc
  have hb' : fb < w.heap.size := by omega
  clear hx
  obtain ⟨res, hres⟩ : ∃ res, res = stepK x f r b := ⟨_, rfl⟩
  rw [← hres]
  have HRES := Lib.hid hres; clear hres
  rcases hp with ⟨hk, hrb⟩ | hk | ⟨hk, hn0⟩ | hk | hk
  · have HBR : Hid (x.bytes.data.toList.getD r 0 = x.bytes[r]) := by
      show _ = _
      rw [List.getD_eq_getElem?_getD, List.getElem?_eq_getElem (by simpa using hrb)]
      rfl
    have e3 : IntKind.i64.wrap ((r : Int) + 1) = (r : Int) + 1 := IntWalk.i64_in _ (by omega)
    by_cases hbb : x.bytes[r].toNat = b <;> by_cases hl : r + 1 = x.bytes.size
    · have e1 : (((x.bytes[r].toNat : Nat) : Int) == (b : Int)) = true := by simp; omega
      have HBB := Lib.hid hbb; clear hbb
      have e2 : ((r : Int) + 1 == (x.bytes.size : Int)) = true := by simp; omega
      have HL := Lib.hid hl; clear hl
      go_enter Try.func58, Try.ntmps58
      go_wp2_with fail
      go_quiet (fail)
      clear e3
      go_wp2_with fail
      refine (behind_any _ _ (by omega) (by omega)).mono ?_
      rintro e w' ⟨rfl, rfl⟩
      go_wp2_with fail
      go_ret
      exact ⟨ri (by have hl := HL.out; rw [HRES.out]; simp only [stepK, hk, if_true]; rw [HBR.out, if_pos HBB.out, cntS, if_pos (by omega)]; simp [stS]; try omega), (by repeat (first | exact Ext.refl _ | exact Ext.alloc _ _ | apply Ext.then_dr | apply Ext.then_drN | apply Ext.then_drN2 | (refine Ext.then_al ?_ _)))⟩
    · have e1 : (((x.bytes[r].toNat : Nat) : Int) == (b : Int)) = true := by simp; omega
      have HBB := Lib.hid hbb; clear hbb
      have e2 : ((r : Int) + 1 == (x.bytes.size : Int)) = false := by simp; omega
      have HL := Lib.hid hl; clear hl
      go_enter Try.func58, Try.ntmps58
      go_wp2_with fail
      go_quiet (fail)
      clear e3
      go_wp2_with fail
      refine (code_any _ _ _ _ (by omega) (by omega) (by omega) (by omega) (by omega) (by omega)).mono ?_
      rintro e w' ⟨rfl, rfl⟩
      go_wp2_with fail
      go_ret
      exact ⟨ri (by have hl := HL.out; rw [HRES.out]; simp only [stepK, hk, if_true]; rw [HBR.out, if_pos HBB.out, cntS, if_neg (by omega)]; simp [stS]; try omega), (by repeat (first | exact Ext.refl _ | exact Ext.alloc _ _ | apply Ext.then_dr | apply Ext.then_drN | apply Ext.then_drN2 | (refine Ext.then_al ?_ _)))⟩
    · have e1 : (((x.bytes[r].toNat : Nat) : Int) == (b : Int)) = false := by simp; omega
      have HBB := Lib.hid hbb; clear hbb
      have e2 : ((r : Int) + 1 == (x.bytes.size : Int)) = true := by simp; omega
      have HL := Lib.hid hl; clear hl
      go_enter Try.func58, Try.ntmps58
      go_wp2_with fail
      go_quiet (fail)
      clear e3
      go_wp2_with fail
      go_ret
      exact ⟨ri (by rw [HRES.out]; simp only [stepK, hk, if_true]; rw [HBR.out, if_neg HBB.out]), (by repeat (first | exact Ext.refl _ | exact Ext.alloc _ _ | apply Ext.then_dr | apply Ext.then_drN | apply Ext.then_drN2 | (refine Ext.then_al ?_ _)))⟩
    · have e1 : (((x.bytes[r].toNat : Nat) : Int) == (b : Int)) = false := by simp; omega
      have HBB := Lib.hid hbb; clear hbb
      have e2 : ((r : Int) + 1 == (x.bytes.size : Int)) = false := by simp; omega
      have HL := Lib.hid hl; clear hl
      go_enter Try.func58, Try.ntmps58
      go_wp2_with fail
      go_quiet (fail)
      clear e3
      go_wp2_with fail
      go_ret
      exact ⟨ri (by rw [HRES.out]; simp only [stepK, hk, if_true]; rw [HBR.out, if_neg HBB.out]), (by repeat (first | exact Ext.refl _ | exact Ext.alloc _ _ | apply Ext.then_dr | apply Ext.then_drN | apply Ext.then_drN2 | (refine Ext.then_al ?_ _)))⟩
  · by_cases hl : (r : Int) + 1 = x.n
    · have e2 : ((r : Int) + 1 == x.n) = true := by simp; omega
      have HL := Lib.hid hl; clear hl
      go_enter Try.func58, Try.ntmps58
      go_wp2_with fail
      refine (behind_any _ _ (by omega) (by omega)).mono ?_
      rintro e w' ⟨rfl, rfl⟩
      go_wp2_with fail
      go_ret
      exact ⟨ri (by rw [HRES.out]; simp only [stepK, cntS, stS, hk]; simp [HL.out]; try omega), (by repeat (first | exact Ext.refl _ | exact Ext.alloc _ _ | apply Ext.then_dr | apply Ext.then_drN | apply Ext.then_drN2 | (refine Ext.then_al ?_ _)))⟩
    · have e2 : ((r : Int) + 1 == x.n) = false := by simp; omega
      have HL := Lib.hid hl; clear hl
      go_enter Try.func58, Try.ntmps58
      go_wp2_with fail
      refine (code_any _ _ _ _ (by omega) (by omega) (by omega) (by omega) (by omega) (by omega)).mono ?_
      rintro e w' ⟨rfl, rfl⟩
      go_wp2_with fail
      go_ret
      exact ⟨ri (by rw [HRES.out]; simp only [stepK, cntS, stS, hk]; simp [HL.out]; try omega), (by repeat (first | exact Ext.refl _ | exact Ext.alloc _ _ | apply Ext.then_dr | apply Ext.then_drN | apply Ext.then_drN2 | (refine Ext.then_al ?_ _)))⟩
  · by_cases hr0 : r = 0
    · subst hr0
      by_cases hbn : x.n < (b : Int)
      · have e1 : decide (x.n < (b : Int)) = true := by simp; omega
        go_enter Try.func58, Try.ntmps58
        go_wp2_with fail
        go_ret
        exact ⟨ri (by rw [HRES.out]; simp only [stepK, lftS, stS, hk]; simp; omega), (by repeat (first | exact Ext.refl _ | exact Ext.alloc _ _ | apply Ext.then_dr | apply Ext.then_drN | apply Ext.then_drN2 | (refine Ext.then_al ?_ _)))⟩
      · have e1 : decide (x.n < (b : Int)) = false := by simp; omega
        by_cases hb0 : b = 0
        · have e2 : decide ((0 : Int) < (b : Int)) = false := by simp; omega
          go_enter Try.func58, Try.ntmps58
          go_wp2_with fail
          refine (behind_any _ _ (by omega) (by omega)).mono ?_
          rintro e w' ⟨rfl, rfl⟩
          go_wp2_with fail
          go_ret
          exact ⟨ri (by rw [HRES.out]; simp only [stepK, lftS, stS, hk]; simp [hb0]; omega), (by repeat (first | exact Ext.refl _ | exact Ext.alloc _ _ | apply Ext.then_dr | apply Ext.then_drN | apply Ext.then_drN2 | (refine Ext.then_al ?_ _)))⟩
        · have e2 : decide ((0 : Int) < (b : Int)) = true := by simp; omega
          go_enter Try.func58, Try.ntmps58
          go_wp2_with fail
          refine (code_any _ _ _ _ (by omega) (by omega) (by omega) (by omega) (by omega) (by omega)).mono ?_
          rintro e w' ⟨rfl, rfl⟩
          go_wp2_with fail
          go_ret
          exact ⟨ri (by rw [HRES.out]; simp only [stepK, lftS, stS, hk]; simp [hb0]; omega), (by repeat (first | exact Ext.refl _ | exact Ext.alloc _ _ | apply Ext.then_dr | apply Ext.then_drN | apply Ext.then_drN2 | (refine Ext.then_al ?_ _)))⟩
    · have e0 : ((r : Int) == 0) = false := by simp; omega
      by_cases hr1 : r = 1
      · have e1 : decide ((1 : Int) < (r : Int)) = false := by simp; omega
        go_enter Try.func58, Try.ntmps58
        go_wp2_with fail
        refine (behind_any _ _ (by omega) (by omega)).mono ?_
        rintro e w' ⟨rfl, rfl⟩
        go_wp2_with fail
        go_ret
        exact ⟨ri (by rw [HRES.out]; simp only [stepK, lftS, stS, hk]; simp [hr1]; omega), (by repeat (first | exact Ext.refl _ | exact Ext.alloc _ _ | apply Ext.then_dr | apply Ext.then_drN | apply Ext.then_drN2 | (refine Ext.then_al ?_ _)))⟩
      · have e1 : decide ((1 : Int) < (r : Int)) = true := by simp; omega
        go_enter Try.func58, Try.ntmps58
        go_wp2_with fail
        refine (code_any _ _ _ _ (by omega) (by omega) (by omega) (by omega) (by omega) (by omega)).mono ?_
        rintro e w' ⟨rfl, rfl⟩
        go_wp2_with fail
        go_ret
        exact ⟨ri (by rw [HRES.out]; simp only [stepK, lftS, stS, hk]; simp [hr0, hr1]; omega), (by repeat (first | exact Ext.refl _ | exact Ext.alloc _ _ | apply Ext.then_dr | apply Ext.then_drN | apply Ext.then_drN2 | (refine Ext.then_al ?_ _)))⟩
  · by_cases hlo : x.low ≤ (b : Int) <;> by_cases hhi : (b : Int) ≤ x.high
    · have e1 : decide (x.low ≤ (b : Int)) = true := by simp; omega
      have e2 : decide ((b : Int) ≤ x.high) = true := by simp; omega
      go_enter Try.func58, Try.ntmps58
      go_wp2_with fail
      refine (behind_any _ _ (by omega) (by omega)).mono ?_
      rintro e w' ⟨rfl, rfl⟩
      go_wp2_with fail
      go_ret
      exact ⟨ri (by rw [HRES.out]; simp only [stepK, lftS, stS, hk]; simp; omega), (by repeat (first | exact Ext.refl _ | exact Ext.alloc _ _ | apply Ext.then_dr | apply Ext.then_drN | apply Ext.then_drN2 | (refine Ext.then_al ?_ _)))⟩
    · have e1 : decide (x.low ≤ (b : Int)) = true := by simp; omega
      have e2 : decide ((b : Int) ≤ x.high) = false := by simp; omega
      go_enter Try.func58, Try.ntmps58
      go_wp2_with fail
      go_ret
      exact ⟨ri (by rw [HRES.out]; simp only [stepK, lftS, stS, hk]; simp; omega), (by repeat (first | exact Ext.refl _ | exact Ext.alloc _ _ | apply Ext.then_dr | apply Ext.then_drN | apply Ext.then_drN2 | (refine Ext.then_al ?_ _)))⟩
    · have e1 : decide (x.low ≤ (b : Int)) = false := by simp; omega
      have e2 : decide ((b : Int) ≤ x.high) = true := by simp; omega
      go_enter Try.func58, Try.ntmps58
      go_wp2_with fail
      go_ret
      exact ⟨ri (by rw [HRES.out]; simp only [stepK, lftS, stS, hk]; simp; omega), (by repeat (first | exact Ext.refl _ | exact Ext.alloc _ _ | apply Ext.then_dr | apply Ext.then_drN | apply Ext.then_drN2 | (refine Ext.then_al ?_ _)))⟩
    · have e1 : decide (x.low ≤ (b : Int)) = false := by simp; omega
      have e2 : decide ((b : Int) ≤ x.high) = false := by simp; omega
      go_enter Try.func58, Try.ntmps58
      go_wp2_with fail
      go_ret
      exact ⟨ri (by rw [HRES.out]; simp only [stepK, lftS, stS, hk]; simp; omega), (by repeat (first | exact Ext.refl _ | exact Ext.alloc _ _ | apply Ext.then_dr | apply Ext.then_drN | apply Ext.then_drN2 | (refine Ext.then_al ?_ _)))⟩
  · by_cases hrh : (r : Int) < x.high
    · have e1 : decide ((r : Int) < x.high) = true := by simp; omega
      go_enter Try.func58, Try.ntmps58
      go_wp2_with fail
      refine (code_any _ _ _ _ (by omega) (by omega) (by omega) (by omega) (by omega) (by omega)).mono ?_
      rintro e w' ⟨rfl, rfl⟩
      go_wp2_with fail
      go_ret
      exact ⟨ri (by rw [HRES.out]; simp only [stepK, lftS, stS, hk]; simp; omega), (by repeat (first | exact Ext.refl _ | exact Ext.alloc _ _ | apply Ext.then_dr | apply Ext.then_drN | apply Ext.then_drN2 | (refine Ext.then_al ?_ _)))⟩
    · have e1 : decide ((r : Int) < x.high) = false := by simp; omega
      go_enter Try.func58, Try.ntmps58
      go_wp2_with fail
      go_ret
      exact ⟨ri (by rw [HRES.out]; simp only [stepK, lftS, stS, hk]; simp; omega), (by repeat (first | exact Ext.refl _ | exact Ext.alloc _ _ | apply Ext.then_dr | apply Ext.then_drN | apply Ext.then_drN2 | (refine Ext.then_al ?_ _)))⟩

end Go.Proofs.Ythoelnoahfedmaa
