/- Contracts of the reference's automaton. The contract of the reference's step. Contracts: the reference's Accepts. The steps of the program and of the reference are the same; so are the states that accept. No program is in sight. -/
import Derived.Test.YthoelnoahfedmaaG3
namespace Go.Proofs.Ythoelnoahfedmaa
open Go.RowKit
set_option linter.unusedVariables false
set_option linter.unusedSimpArgs false

theorem FldsA.get {w : World} {B : Nat} {fa : Option Addr} {F : List Fld} (hF : FldsA w B fa F) {k : Nat} {x : Fld} (hx : F[k]? = some x) : ∃ fb foff, fa = some ⟨fb, foff, none⟩ ∧ fb < B ∧ FldAt w fb (foff + k * 5) x := by
  obtain ⟨fb, foff, h1, h2, h3⟩ := hF.2 (ne_nil_of_get hx)
  exact ⟨fb, foff, h1, h2, h3 k x hx⟩

theorem rest_any {w : World} {B : Nat} {fa : Option Addr} {F : List Fld} {nm : ByteArray} {fcap : Nat} (hF : FldsA w B fa F) (hB : B ≤ w.heap.size) (hne : F ≠ []) (hle : F.length ≤ 100) :
   Calls Try.prog 64 #[.agg #[.string nm, .slice fa F.length fcap]] w fun e w' => e = .returned (.bool (!noRest F)) ∧ Ext w w' := by
  have hpos : 0 < F.length := List.length_pos_iff.2 hne
  obtain ⟨x, hx⟩ : ∃ x, F[F.length - 1]? = some x := ⟨_, List.getElem?_eq_getElem (by omega)⟩
  have hres : noRest F = (x.kind != 6) := by simp [noRest, List.getLast?_eq_getElem?, hx]
  obtain ⟨fb, foff, rfl, hfb, hc⟩ := hF.get hx
  have c0 := hc.kind
  have hcast : ((F.length - 1 : Nat) : Int) = (F.length : Int) - 1 := by omega
  have hb' : fb < w.heap.size := by omega
  clear hc hx
  have HR := Lib.hid hres; clear hres
  go_enter Try.func64, Try.ntmps64
  go_wp2
  all_goals go_ret
  all_goals exact ⟨rb (by rw [HR.out, bne, Bool.not_not]), (by repeat (first | exact Ext.refl _ | exact Ext.alloc _ _ | apply Ext.then_dr | apply Ext.then_drN | apply Ext.then_drN2 | (refine Ext.then_al ?_ _)))⟩

theorem Ext.then_drN {w w' : World} {n : Nat} (h : Ext w w') : Ext w (w'.drewN n) := h.trans ⟨rfl, rfl, rfl, Nat.le_refl _, fun _ _ => rfl⟩
theorem ext_drewN (w : World) (n : Nat) : Ext w (w.drewN n) := ⟨rfl, rfl, rfl, Nat.le_refl _, fun _ _ => rfl⟩

/-- whether a number is a state in a field that is not nested, or the end -/
def plainK (x : Fld) (r : Nat) : Bool :=
  if x.kind = 1 then decide (r < x.bytes.size)
  else if x.kind = 2 then decide ((r : Int) < x.n)
  else if x.kind = 4 then r == 0
  else if x.kind = 3 then decide ((r : Int) ≤ x.n)
  else if x.kind = 6 then decide ((r : Int) ≤ x.high)
  else r == 0
def plainS (F : List Fld) (f r : Nat) : Bool :=
  if f = F.length then r == 0 && noRest F else match F[f]? with | none => false | some x => plainK x r

set_option maxRecDepth 100000 in
set_option maxHeartbeats 1000000 in
theorem plain_any {w : World} {B : Nat} {fa : Option Addr} {F : List Fld} {nm : ByteArray} {fcap : Nat} (f r : Nat) (hf : f ≤ 1000000000000000) (hr : r ≤ 1024) (hF : FldsA w B fa F) (hB : B ≤ w.heap.size) (hne : F ≠ []) (hle : F.length ≤ 100)
    (hp : ∀ x ∈ F, x.kind = 1 ∨ x.kind = 2 ∨ x.kind = 3 ∨ x.kind = 4 ∨ x.kind = 6 ∨ x.kind = 5) :
   Calls Try.prog 57 #[.agg #[.string nm, .slice fa F.length fcap], .int .i64 f, .int .i64 r] w fun e w' => e = .returned (.bool (plainS F f r)) ∧ Ext w w' := by
  by_cases hfl : f = F.length
  · have e0 : ((f : Int) == (F.length : Int)) = true := by simp [hfl]
    have HFL := Lib.hid hfl; clear hfl
    by_cases hr0 : r = 0
    · have e1 : ((r : Int) == 0) = true := by simp [hr0]
      have HR0 := Lib.hid hr0; clear hr0
      go_enter Try.func57, Try.ntmps57
      go_wp2_with fail
      refine (rest_any (hF.alloc hB _) (by simp; omega) hne hle).mono ?_
      rintro e w1 ⟨rfl, hb1⟩
      go_wp2_with fail
      go_ret
      exact ⟨rb (by simp [plainS, HFL.out, HR0.out]), hb1.al⟩
    · have e1 : ((r : Int) == 0) = false := by simp; omega
      have HR0 := Lib.hid hr0; clear hr0
      go_enter Try.func57, Try.ntmps57
      go_wp2_with fail
      go_ret
      exact ⟨rb (by simp [plainS, HFL.out, HR0.out]), (by repeat (first | exact Ext.refl _ | exact Ext.alloc _ _ | apply Ext.then_dr | apply Ext.then_drN | apply Ext.then_drN2 | (refine Ext.then_al ?_ _)))⟩
  · have e0 : ((f : Int) == (F.length : Int)) = false := by simp; omega
    by_cases hlt : f < F.length
    · obtain ⟨x, hx⟩ : ∃ x, F[f]? = some x := ⟨_, List.getElem?_eq_getElem hlt⟩
      have hmem := List.mem_of_getElem? hx
      obtain ⟨fb, foff, rfl, hfb, hc⟩ := hF.get hx
      obtain ⟨c0, c1, c2, c3, c4, cw⟩ := hc
      have hb' : fb < w.heap.size := by omega
      have hres : plainS F f r = plainK x r := by simp [plainS, hfl, hx]
      have HRS := Lib.hid hres; clear hres hx
      have HFL := Lib.hid hfl; clear hfl
      rcases hp x hmem with hk | hk | hk | hk | hk | hk
      all_goals
        go_enter Try.func57, Try.ntmps57
        go_wp2_with fail
        go_ret
        exact ⟨rb (by rw [HRS.out, Bool.eq_iff_iff]; simp [plainK, hk]), (by repeat (first | exact Ext.refl _ | exact Ext.alloc _ _ | apply Ext.then_dr | apply Ext.then_drN | apply Ext.then_drN2 | (refine Ext.then_al ?_ _)))⟩
    · have hgt : F.length < f := by omega
      have hres : plainS F f r = false := by simp [plainS, hfl, List.getElem?_eq_none (Nat.le_of_lt hgt)]
      have HRS := Lib.hid hres; clear hres
      have HFL := Lib.hid hfl; clear hfl
      go_enter Try.func57, Try.ntmps57
      go_wp2_with fail
      go_ret
      exact ⟨rb (by rw [HRS.out]), (by repeat (first | exact Ext.refl _ | exact Ext.alloc _ _ | apply Ext.then_dr | apply Ext.then_drN | apply Ext.then_drN2 | (refine Ext.then_al ?_ _)))⟩


set_option maxRecDepth 100000 in
set_option maxHeartbeats 1000000 in
theorem rstep_any {w : World} {B : Nat} {fa : Option Addr} {F : List Fld} {nm : ByteArray} {fcap : Nat} {x : Fld} (f r b : Nat) (hf : f ≤ 1000) (hr : r ≤ 1024) (hb255 : b ≤ 255) (hF : FldsA w B fa F) (hB : B ≤ w.heap.size) (hle : F.length ≤ 100) (hx : F[f]? = some x)
    (hp : x.kind = 1 ∧ r < x.bytes.size ∨ x.kind = 2 ∨ x.kind = 3 ∧ 0 ≤ x.n ∨ x.kind = 4 ∨ x.kind = 6) :
   Calls Try.prog 58 #[.agg #[.string nm, .slice fa F.length fcap], .int .i64 f, .int .i64 r, .int .u8 b] w fun e w' => e = .returned (.int .i64 (stepK x f r b)) ∧ Ext w w' := by
  have hlt := lt_of_get hx
  have e0 : ((f : Int) == (F.length : Int)) = false := by simp; omega
  obtain ⟨fb, foff, rfl, hfb, hc⟩ := hF.get hx
  obtain ⟨c0, c1, c2, c3, c4, cw⟩ := hc
  have hb' : fb < w.heap.size := by omega
  clear hx
  obtain ⟨res, hres⟩ : ∃ res, res = stepK x f r b := ⟨_, rfl⟩
  rw [← hres]
  have HRES := Lib.hid hres; clear hres
  rcases hp with ⟨hk, hrb⟩ | hk | ⟨hk, hn0⟩ | hk | hk
  · have HBR : Hid (x.bytes.data.toList.getD r 0 = x.bytes[r]) := by
      show _ = _
      rw [List.getD_eq_getElem?_getD, List.getElem?_eq_getElem (by simpa using hrb)]
      rfl
    have e3 : IntKind.i64.wrap ((r : Int) + 1) = (r : Int) + 1 := IntWalk.i64_in _ (by omega)
    by_cases hbb : x.bytes[r].toNat = b <;> by_cases hl : r + 1 = x.bytes.size
    · have e1 : (((x.bytes[r].toNat : Nat) : Int) == (b : Int)) = true := by simp; omega
      have HBB := Lib.hid hbb; clear hbb
      have e2 : ((r : Int) + 1 == (x.bytes.size : Int)) = true := by simp; omega
      have HL := Lib.hid hl; clear hl
      go_enter Try.func58, Try.ntmps58
      go_wp2_with fail
      go_quiet (fail)
      clear e3
      go_wp2_with fail
      refine (behind_any _ _ (by omega) (by omega)).mono ?_
      rintro e w' ⟨rfl, rfl⟩
      go_wp2_with fail
      go_ret
      exact ⟨ri (by have hl := HL.out; rw [HRES.out]; simp only [stepK, hk, if_true]; rw [HBR.out, if_pos HBB.out, cntS, if_pos (by omega)]; simp [stS]; try omega), (by repeat (first | exact Ext.refl _ | exact Ext.alloc _ _ | apply Ext.then_dr | apply Ext.then_drN | apply Ext.then_drN2 | (refine Ext.then_al ?_ _)))⟩
    · have e1 : (((x.bytes[r].toNat : Nat) : Int) == (b : Int)) = true := by simp; omega
      have HBB := Lib.hid hbb; clear hbb
      have e2 : ((r : Int) + 1 == (x.bytes.size : Int)) = false := by simp; omega
      have HL := Lib.hid hl; clear hl
      go_enter Try.func58, Try.ntmps58
      go_wp2_with fail
      go_quiet (fail)
      clear e3
      go_wp2_with fail
      refine (code_any _ _ _ _ (by omega) (by omega) (by omega) (by omega) (by omega) (by omega)).mono ?_
      rintro e w' ⟨rfl, rfl⟩
      go_wp2_with fail
      go_ret
      exact ⟨ri (by have hl := HL.out; rw [HRES.out]; simp only [stepK, hk, if_true]; rw [HBR.out, if_pos HBB.out, cntS, if_neg (by omega)]; simp [stS]; try omega), (by repeat (first | exact Ext.refl _ | exact Ext.alloc _ _ | apply Ext.then_dr | apply Ext.then_drN | apply Ext.then_drN2 | (refine Ext.then_al ?_ _)))⟩
    · have e1 : (((x.bytes[r].toNat : Nat) : Int) == (b : Int)) = false := by simp; omega
      have HBB := Lib.hid hbb; clear hbb
      have e2 : ((r : Int) + 1 == (x.bytes.size : Int)) = true := by simp; omega
      have HL := Lib.hid hl; clear hl
      go_enter Try.func58, Try.ntmps58
      go_wp2_with fail
      go_quiet (fail)
      clear e3
      go_wp2_with fail
      go_ret
      exact ⟨ri (by rw [HRES.out]; simp only [stepK, hk, if_true]; rw [HBR.out, if_neg HBB.out]), (by repeat (first | exact Ext.refl _ | exact Ext.alloc _ _ | apply Ext.then_dr | apply Ext.then_drN | apply Ext.then_drN2 | (refine Ext.then_al ?_ _)))⟩
    · have e1 : (((x.bytes[r].toNat : Nat) : Int) == (b : Int)) = false := by simp; omega
      have HBB := Lib.hid hbb; clear hbb
      have e2 : ((r : Int) + 1 == (x.bytes.size : Int)) = false := by simp; omega
      have HL := Lib.hid hl; clear hl
      go_enter Try.func58, Try.ntmps58
      go_wp2_with fail
      go_quiet (fail)
      clear e3
      go_wp2_with fail
      go_ret
      exact ⟨ri (by rw [HRES.out]; simp only [stepK, hk, if_true]; rw [HBR.out, if_neg HBB.out]), (by repeat (first | exact Ext.refl _ | exact Ext.alloc _ _ | apply Ext.then_dr | apply Ext.then_drN | apply Ext.then_drN2 | (refine Ext.then_al ?_ _)))⟩
  · by_cases hl : (r : Int) + 1 = x.n
    · have e2 : ((r : Int) + 1 == x.n) = true := by simp; omega
      have HL := Lib.hid hl; clear hl
      go_enter Try.func58, Try.ntmps58
      go_wp2_with fail
      refine (behind_any _ _ (by omega) (by omega)).mono ?_
      rintro e w' ⟨rfl, rfl⟩
      go_wp2_with fail
      go_ret
      exact ⟨ri (by rw [HRES.out]; simp only [stepK, cntS, stS, hk]; simp [HL.out]; try omega), (by repeat (first | exact Ext.refl _ | exact Ext.alloc _ _ | apply Ext.then_dr | apply Ext.then_drN | apply Ext.then_drN2 | (refine Ext.then_al ?_ _)))⟩
    · have e2 : ((r : Int) + 1 == x.n) = false := by simp; omega
      have HL := Lib.hid hl; clear hl
      go_enter Try.func58, Try.ntmps58
      go_wp2_with fail
      refine (code_any _ _ _ _ (by omega) (by omega) (by omega) (by omega) (by omega) (by omega)).mono ?_
      rintro e w' ⟨rfl, rfl⟩
      go_wp2_with fail
      go_ret
      exact ⟨ri (by rw [HRES.out]; simp only [stepK, cntS, stS, hk]; simp [HL.out]; try omega), (by repeat (first | exact Ext.refl _ | exact Ext.alloc _ _ | apply Ext.then_dr | apply Ext.then_drN | apply Ext.then_drN2 | (refine Ext.then_al ?_ _)))⟩
  · by_cases hr0 : r = 0
    · subst hr0
      by_cases hbn : x.n < (b : Int)
      · have e1 : decide (x.n < (b : Int)) = true := by simp; omega
        go_enter Try.func58, Try.ntmps58
        go_wp2_with fail
        go_ret
        exact ⟨ri (by rw [HRES.out]; simp only [stepK, lftS, stS, hk]; simp; omega), (by repeat (first | exact Ext.refl _ | exact Ext.alloc _ _ | apply Ext.then_dr | apply Ext.then_drN | apply Ext.then_drN2 | (refine Ext.then_al ?_ _)))⟩
      · have e1 : decide (x.n < (b : Int)) = false := by simp; omega
        by_cases hb0 : b = 0
        · have e2 : decide ((0 : Int) < (b : Int)) = false := by simp; omega
          go_enter Try.func58, Try.ntmps58
          go_wp2_with fail
          refine (behind_any _ _ (by omega) (by omega)).mono ?_
          rintro e w' ⟨rfl, rfl⟩
          go_wp2_with fail
          go_ret
          exact ⟨ri (by rw [HRES.out]; simp only [stepK, lftS, stS, hk]; simp [hb0]; omega), (by repeat (first | exact Ext.refl _ | exact Ext.alloc _ _ | apply Ext.then_dr | apply Ext.then_drN | apply Ext.then_drN2 | (refine Ext.then_al ?_ _)))⟩
        · have e2 : decide ((0 : Int) < (b : Int)) = true := by simp; omega
          go_enter Try.func58, Try.ntmps58
          go_wp2_with fail
          refine (code_any _ _ _ _ (by omega) (by omega) (by omega) (by omega) (by omega) (by omega)).mono ?_
          rintro e w' ⟨rfl, rfl⟩
          go_wp2_with fail
          go_ret
          exact ⟨ri (by rw [HRES.out]; simp only [stepK, lftS, stS, hk]; simp [hb0]; omega), (by repeat (first | exact Ext.refl _ | exact Ext.alloc _ _ | apply Ext.then_dr | apply Ext.then_drN | apply Ext.then_drN2 | (refine Ext.then_al ?_ _)))⟩
    · have e0 : ((r : Int) == 0) = false := by simp; omega
      by_cases hr1 : r = 1
      · have e1 : decide ((1 : Int) < (r : Int)) = false := by simp; omega
        go_enter Try.func58, Try.ntmps58
        go_wp2_with fail
        refine (behind_any _ _ (by omega) (by omega)).mono ?_
        rintro e w' ⟨rfl, rfl⟩
        go_wp2_with fail
        go_ret
        exact ⟨ri (by rw [HRES.out]; simp only [stepK, lftS, stS, hk]; simp [hr1]; omega), (by repeat (first | exact Ext.refl _ | exact Ext.alloc _ _ | apply Ext.then_dr | apply Ext.then_drN | apply Ext.then_drN2 | (refine Ext.then_al ?_ _)))⟩
      · have e1 : decide ((1 : Int) < (r : Int)) = true := by simp; omega
        go_enter Try.func58, Try.ntmps58
        go_wp2_with fail
        refine (code_any _ _ _ _ (by omega) (by omega) (by omega) (by omega) (by omega) (by omega)).mono ?_
        rintro e w' ⟨rfl, rfl⟩
        go_wp2_with fail
        go_ret
        exact ⟨ri (by rw [HRES.out]; simp only [stepK, lftS, stS, hk]; simp [hr0, hr1]; omega), (by repeat (first | exact Ext.refl _ | exact Ext.alloc _ _ | apply Ext.then_dr | apply Ext.then_drN | apply Ext.then_drN2 | (refine Ext.then_al ?_ _)))⟩
  · by_cases hlo : x.low ≤ (b : Int) <;> by_cases hhi : (b : Int) ≤ x.high
    · have e1 : decide (x.low ≤ (b : Int)) = true := by simp; omega
      have e2 : decide ((b : Int) ≤ x.high) = true := by simp; omega
      go_enter Try.func58, Try.ntmps58
      go_wp2_with fail
      refine (behind_any _ _ (by omega) (by omega)).mono ?_
      rintro e w' ⟨rfl, rfl⟩
      go_wp2_with fail
      go_ret
      exact ⟨ri (by rw [HRES.out]; simp only [stepK, lftS, stS, hk]; simp; omega), (by repeat (first | exact Ext.refl _ | exact Ext.alloc _ _ | apply Ext.then_dr | apply Ext.then_drN | apply Ext.then_drN2 | (refine Ext.then_al ?_ _)))⟩
    · have e1 : decide (x.low ≤ (b : Int)) = true := by simp; omega
      have e2 : decide ((b : Int) ≤ x.high) = false := by simp; omega
      go_enter Try.func58, Try.ntmps58
      go_wp2_with fail
      go_ret
      exact ⟨ri (by rw [HRES.out]; simp only [stepK, lftS, stS, hk]; simp; omega), (by repeat (first | exact Ext.refl _ | exact Ext.alloc _ _ | apply Ext.then_dr | apply Ext.then_drN | apply Ext.then_drN2 | (refine Ext.then_al ?_ _)))⟩
    · have e1 : decide (x.low ≤ (b : Int)) = false := by simp; omega
      have e2 : decide ((b : Int) ≤ x.high) = true := by simp; omega
      go_enter Try.func58, Try.ntmps58
      go_wp2_with fail
      go_ret
      exact ⟨ri (by rw [HRES.out]; simp only [stepK, lftS, stS, hk]; simp; omega), (by repeat (first | exact Ext.refl _ | exact Ext.alloc _ _ | apply Ext.then_dr | apply Ext.then_drN | apply Ext.then_drN2 | (refine Ext.then_al ?_ _)))⟩
    · have e1 : decide (x.low ≤ (b : Int)) = false := by simp; omega
      have e2 : decide ((b : Int) ≤ x.high) = false := by simp; omega
      go_enter Try.func58, Try.ntmps58
      go_wp2_with fail
      go_ret
      exact ⟨ri (by rw [HRES.out]; simp only [stepK, lftS, stS, hk]; simp; omega), (by repeat (first | exact Ext.refl _ | exact Ext.alloc _ _ | apply Ext.then_dr | apply Ext.then_drN | apply Ext.then_drN2 | (refine Ext.then_al ?_ _)))⟩
  · by_cases hrh : (r : Int) < x.high
    · have e1 : decide ((r : Int) < x.high) = true := by simp; omega
      go_enter Try.func58, Try.ntmps58
      go_wp2_with fail
      refine (code_any _ _ _ _ (by omega) (by omega) (by omega) (by omega) (by omega) (by omega)).mono ?_
      rintro e w' ⟨rfl, rfl⟩
      go_wp2_with fail
      go_ret
      exact ⟨ri (by rw [HRES.out]; simp only [stepK, lftS, stS, hk]; simp; omega), (by repeat (first | exact Ext.refl _ | exact Ext.alloc _ _ | apply Ext.then_dr | apply Ext.then_drN | apply Ext.then_drN2 | (refine Ext.then_al ?_ _)))⟩
    · have e1 : decide ((r : Int) < x.high) = false := by simp; omega
      go_enter Try.func58, Try.ntmps58
      go_wp2_with fail
      go_ret
      exact ⟨ri (by rw [HRES.out]; simp only [stepK, lftS, stS, hk]; simp; omega), (by repeat (first | exact Ext.refl _ | exact Ext.alloc _ _ | apply Ext.then_dr | apply Ext.then_drN | apply Ext.then_drN2 | (refine Ext.then_al ?_ _)))⟩

end Go.Proofs.Ythoelnoahfedmaa

namespace Go.Proofs.Ythoelnoahfedmaa
open Go.RowKit
set_option linter.unusedVariables false
set_option linter.unusedSimpArgs false

structure VPlain (gm : Fmt) : Prop where
  ne : gm.fields ≠ []
  le : gm.fields.length ≤ 6
  fld : ∀ (k : Nat) (y : Fld), gm.fields[k]? = some y → y.kind = 1 ∧ 1 ≤ y.bytes.size ∧ y.bytes.size ≤ 8 ∨ y.kind = 2 ∧ 1 ≤ y.n ∧ y.n ≤ 15 ∨ y.kind = 3 ∧ 0 ≤ y.n ∧ y.n ≤ 15 ∨ y.kind = 4 ∧ 0 ≤ y.low ∧ y.low ≤ y.high ∧ y.high ≤ 255

structure VFmt (t : List Fmt) (fm : Fmt) : Prop where
  ne : fm.fields ≠ []
  le : fm.fields.length ≤ 6
  fld : ∀ (k : Nat) (x : Fld), fm.fields[k]? = some x → x.kind = 1 ∧ 1 ≤ x.bytes.size ∧ x.bytes.size ≤ 8 ∨ x.kind = 2 ∧ 1 ≤ x.n ∧ x.n ≤ 15 ∨ x.kind = 3 ∧ 0 ≤ x.n ∧ x.n ≤ 15 ∨ x.kind = 4 ∧ 0 ≤ x.low ∧ x.low ≤ x.high ∧ x.high ≤ 255 ∨
    x.kind = 6 ∧ k + 1 = fm.fields.length ∧ 0 ≤ x.low ∧ x.low ≤ x.high ∧ x.high ≤ 1000 ∨ x.kind = 5 ∧ ∃ j : Nat, x.n = j ∧ ∃ gm, t[j]? = some gm ∧ VPlain gm

theorem VPlain.kinds {gm : Fmt} (h : VPlain gm) : ∀ y ∈ gm.fields, y.kind = 1 ∨ y.kind = 2 ∨ y.kind = 3 ∨ y.kind = 4 ∨ y.kind = 6 := by
  intro y hy
  obtain ⟨k, hk⟩ := List.mem_iff_getElem?.1 hy
  rcases h.fld k y hk with h | h | h | h <;> simp [h.1]
theorem VFmt.kinds {t : List Fmt} {fm : Fmt} (h : VFmt t fm) : ∀ y ∈ fm.fields, y.kind = 1 ∨ y.kind = 2 ∨ y.kind = 3 ∨ y.kind = 4 ∨ y.kind = 6 ∨ y.kind = 5 := by
  intro y hy
  obtain ⟨k, hk⟩ := List.mem_iff_getElem?.1 hy
  rcases h.fld k y hk with h | h | h | h | h | h <;> simp [h.1]
theorem VFmt.nest {t : List Fmt} {fm : Fmt} (h : VFmt t fm) : ∀ x ∈ fm.fields, x.kind = 5 → ∃ j : Nat, x.n = j ∧ ∃ gm, t[j]? = some gm ∧ gm.fields ≠ [] ∧ gm.fields.length ≤ 100 ∧ ∀ y ∈ gm.fields, y.kind = 1 ∨ y.kind = 2 ∨ y.kind = 3 ∨ y.kind = 4 ∨ y.kind = 6 := by
  intro x hx h5
  obtain ⟨k, hk⟩ := List.mem_iff_getElem?.1 hx
  rcases h.fld k x hk with h | h | h | h | h | ⟨_, j, hj, gm, hg, hv⟩
  all_goals first
    | exact ⟨j, hj, gm, hg, hv.ne, by have := hv.le; omega, hv.kinds⟩
    | (have := h.1; omega)

def rNest (t : List Fmt) (x : Fld) (f r q b : Nat) : Int :=
  if r = 0 then (if q ≠ 0 ∨ b = 0 then -1 else stS f b) else
  if 255 < r ∨ plainS (t.getD x.n.toNat default).fields (q / 32) (q % 32) = false ∨ q / 32 = (t.getD x.n.toNat default).fields.length then -1 else
  match (t.getD x.n.toNat default).fields[q / 32]? with
  | none => -1
  | some y => if stepK y (q / 32) (q % 32) b < 0 then -1 else if r = 1 then (if stepK y (q / 32) (q % 32) b / 262144 ≠ (t.getD x.n.toNat default).fields.length then -1 else stS (f + 1) 0)
    else if stepK y (q / 32) (q % 32) b / 262144 = (t.getD x.n.toNat default).fields.length then -1 else stS f (r - 1) + (stepK y (q / 32) (q % 32) b / 262144 * 32 + stepK y (q / 32) (q % 32) b / 256 % 1024)

def rStep (t : List Fmt) (F : List Fld) (s : Int) (b : Nat) : Int :=
  if s < 0 then -1 else
  match F[(s / 262144).toNat]? with
  | none => -1
  | some x => if x.kind = 5 then rNest t x (s / 262144).toNat (s / 256 % 1024).toNat (s % 256).toNat b
    else if s % 256 ≠ 0 ∨ plainS F (s / 262144).toNat (s / 256 % 1024).toNat = false then -1 else stepK x (s / 262144).toNat (s / 256 % 1024).toNat b

set_option maxRecDepth 100000 in
theorem rstep_end {w : World} {fa : Option Addr} {n : Nat} {nm : ByteArray} {fcap : Nat} (f r b : Int) (h : f = n) :
   Calls Try.prog 58 #[.agg #[.string nm, .slice fa n fcap], .int .i64 f, .int .i64 r, .int .u8 b] w fun e w' => e = .returned (.int .i64 (-1)) ∧ Ext w w' := by
  subst h
  go_enter Try.func58, Try.ntmps58
  go_wp2_with fail
  go_ret
  exact ⟨rfl, (by repeat (first | exact Ext.refl _ | exact Ext.alloc _ _ | apply Ext.then_dr | apply Ext.then_drN | apply Ext.then_drN2 | (refine Ext.then_al ?_ _)))⟩

theorem TabA.at {w : World} {B : Nat} {a : Option Addr} {t : List Fmt} {i : Nat} {fm : Fmt} (hT : TabA w B a t) (hi : t[i]? = some fm) :
    ∃ tb toff fa fcap, a = some ⟨tb, toff, none⟩ ∧ tb < B ∧ w.cell? ⟨tb, toff + i * 2, none⟩ = some (.string fm.name) ∧ w.cell? ⟨tb, toff + i * 2 + 1, none⟩ = some (.slice fa fm.fields.length fcap) ∧ FldsA w B fa fm.fields ∧ fm.name.size ≤ maxLen := by
  obtain ⟨-, hT⟩ := hT
  obtain ⟨b, off, rfl, hb, hT⟩ := hT (ne_nil_of_get hi)
  obtain ⟨hn, ⟨fa, fcap, hc, hF⟩, hw⟩ := hT i fm hi
  exact ⟨b, off, fa, fcap, rfl, hb, hn, hc, hF, hw⟩

set_option maxRecDepth 100000 in
set_option maxHeartbeats 2000000 in
theorem Step_any {w : World} {B : Nat} {a : Option Addr} {t : List Fmt} {cap : Nat} {i : Nat} {fm : Fmt} (s : Int) (b : Nat) (hb255 : b ≤ 255) (h1 : s ≤ 9223372036854775807) (hT : TabA w B a t) (hB : B ≤ w.heap.size) (hi : t[i]? = some fm) (hV : VFmt t fm) :
   Calls Try.prog 35 #[.slice a t.length cap, .int .i64 i, .int .i64 s, .int .u8 b] w fun e w' => e = .returned (.int .i64 (rStep t fm.fields s b)) ∧ Ext w w' := by
  have hin := lt_of_get hi
  have hn63 := hT.1
  unfold maxLen at hn63
  obtain ⟨tb, toff, fa, fcap, rfl, htb, htn, htc, hF, -⟩ := hT.at hi
  have htb' : tb < w.heap.size := by omega
  have hne := hV.ne
  have hle := hV.le
  obtain ⟨res, hres⟩ : ∃ res, res = rStep t fm.fields s b := ⟨_, rfl⟩
  rw [← hres]
  by_cases hs : s < 0
  · have e2 : res = -1 := by rw [hres, rStep, if_pos hs]
    clear hres
    go_enter Try.func35, Try.ntmps35
    go_wp2_with fail
    go_ret
    exact ⟨ri e2.symm, (by repeat (first | exact Ext.refl _ | exact Ext.alloc _ _ | apply Ext.then_dr | apply Ext.then_drN | apply Ext.then_drN2 | (refine Ext.then_al ?_ _)))⟩
  · have hs0 : 0 ≤ s := by omega
    obtain ⟨f, hfs⟩ : ∃ f : Nat, s / 262144 = f := ⟨(s / 262144).toNat, by omega⟩
    obtain ⟨r, hrs⟩ : ∃ r : Nat, s / 256 % 1024 = r := ⟨(s / 256 % 1024).toNat, by omega⟩
    obtain ⟨q, hqs⟩ : ∃ q : Nat, s % 256 = q := ⟨(s % 256).toNat, by omega⟩
    have hr1024 : r < 1024 := by omega
    have hq256 : q < 256 := by omega
    have hfb : f ≤ 1000000000000000 := by omega
    have hfs' : s / 256 / 1024 = f := by omega
    have hres' := hres
    rw [rStep, if_neg hs, hfs, hrs, hqs, Int.toNat_natCast, Int.toNat_natCast, Int.toNat_natCast] at hres'
    clear hres
    cases hx : fm.fields[f]? with
    | none =>
      rw [hx] at hres'
      simp only at hres'
      have hlen : fm.fields.length ≤ f := List.getElem?_eq_none_iff.1 hx
      have HX := Lib.hid hx; clear hx
      by_cases hq0 : q = 0
      · subst hq0
        cases hpl : plainS fm.fields f r
        · go_enter Try.func35, Try.ntmps35
          go_wp2_with fail
          refine (plain_any f r hfb (by omega) ((hF.alloc hB _)) (by simp; omega) hne (by omega) hV.kinds).mono ?_
          rw [hpl]
          rintro e w1 ⟨rfl, hb1⟩
          go_wp2_with fail
          go_ret
          exact ⟨ri (by first | rfl | exact hres'.symm), hb1.al⟩
        · have hfl : f = fm.fields.length := by
            apply Classical.byContradiction
            intro hne'
            simp [plainS, hne', HX.out] at hpl
          have HFL := Lib.hid hfl; clear hfl
          go_enter Try.func35, Try.ntmps35
          go_wp2_with fail
          refine (plain_any f r hfb (by omega) ((hF.alloc hB _)) (by simp; omega) hne (by omega) hV.kinds).mono ?_
          rw [hpl]
          rintro e w1 ⟨rfl, hb1⟩
          have k0 := cs_ext hb1 (w := w.alloc (Obj.cells #[Value.string fm.name, Value.slice fa fm.fields.length fcap] 42)) (cs_new (i := 0) rfl)
          have k1 := cs_ext hb1 (w := w.alloc (Obj.cells #[Value.string fm.name, Value.slice fa fm.fields.length fcap] 42)) (cs_new (i := 1) rfl)
          go_wp2_with fail
          refine (rstep_end f r b (by rw [← HFL.out])).mono ?_
          rintro e w2 ⟨rfl, hb2⟩
          go_wp2_with fail
          go_ret
          exact ⟨ri (by first | rfl | exact hres'.symm), hb1.al.trans hb2⟩
      · have e1 : ((q : Int) != 0) = true := by simp; omega
        go_enter Try.func35, Try.ntmps35
        go_wp2_with fail
        go_ret
        exact ⟨ri (by first | rfl | exact hres'.symm), (by repeat (first | exact Ext.refl _ | exact Ext.alloc _ _ | apply Ext.then_dr | apply Ext.then_drN | apply Ext.then_drN2 | (refine Ext.then_al ?_ _)))⟩
    | some x =>
      rw [hx] at hres'
      simp only at hres'
      have hlt := lt_of_get hx
      have hmem := List.mem_of_getElem? hx
      have hVx := hV.fld f x hx
      have hF0 := hF
      obtain ⟨fb, foff, rfl, hfb', hc⟩ := hF.get hx
      obtain ⟨c0, c1, c2, c3, c4, cw⟩ := hc
      have hfb2 : fb < w.heap.size := by omega
      by_cases hk5 : x.kind = 5
      · have e0 : (x.kind != 5) = false := by simp [hk5]
        rw [if_pos hk5] at hres'
        have hVn : ∃ j : Nat, x.n = j ∧ ∃ gm, t[j]? = some gm ∧ VPlain gm := by
          rcases hVx with h | h | h | h | h | h
          all_goals first | exact h.2 | (have := h.1; omega)
        obtain ⟨j, hj, gm, hgm, hVg⟩ := hVn
        have hgne := hVg.ne
        have hgle := hVg.le
        have hnG : (t.getD x.n.toNat default).fields = gm.fields := by simp [hj, hgm]
        rw [rNest, hnG] at hres'
        have HX := Lib.hid hx; clear hx
        clear hnG
        by_cases hr0 : r = 0
        · subst hr0
          rw [if_pos rfl] at hres'
          by_cases hq0 : q = 0
          · subst hq0
            by_cases hb0 : b = 0
            · subst hb0
              have HRS := Lib.hid hres'; clear hres'
              go_enter Try.func35, Try.ntmps35
              go_wp2_with fail
              go_ret
              exact ⟨ri (by rw [HRS.out]; simp), (by repeat (first | exact Ext.refl _ | exact Ext.alloc _ _ | apply Ext.then_dr | apply Ext.then_drN | apply Ext.then_drN2 | (refine Ext.then_al ?_ _)))⟩
            · have e2 : ((b : Int) == 0) = false := by simp; omega
              have HRS := Lib.hid hres'; clear hres'
              go_enter Try.func35, Try.ntmps35
              go_wp2_with fail
              refine (code_any _ _ _ _ (by omega) (by omega) (by omega) (by omega) (by omega) (by omega)).mono ?_
              rintro e w' ⟨rfl, rfl⟩
              go_wp2_with fail
              go_ret
              exact ⟨ri (by rw [HRS.out]; simp [hb0, stS]; omega), (by repeat (first | exact Ext.refl _ | exact Ext.alloc _ _ | apply Ext.then_dr | apply Ext.then_drN | apply Ext.then_drN2 | (refine Ext.then_al ?_ _)))⟩
          · have e1 : ((q : Int) != 0) = true := by simp; omega
            have HRS := Lib.hid hres'; clear hres'
            go_enter Try.func35, Try.ntmps35
            go_wp2_with fail
            go_ret
            exact ⟨ri (by rw [HRS.out]; simp [hq0]), (by repeat (first | exact Ext.refl _ | exact Ext.alloc _ _ | apply Ext.then_dr | apply Ext.then_drN | apply Ext.then_drN2 | (refine Ext.then_al ?_ _)))⟩
        · have e2 : ((r : Int) == 0) = false := by simp; omega
          rw [if_neg hr0] at hres'
          obtain ⟨tb', toff', ga, gcap, he, -, hgn, hgc, hG, -⟩ := hT.at hgm
          simp only [Option.some.injEq, Addr.mk.injEq, and_true] at he
          obtain ⟨rfl, rfl⟩ := he
          have hjn := lt_of_get hgm
          have hE2 : Ext w ((w.alloc (Obj.cells #[Value.string fm.name, Value.slice (some ⟨fb, foff, none⟩) fm.fields.length fcap] 42)).alloc (Obj.cells #[Value.string gm.name, Value.slice ga gm.fields.length gcap] 42)) := (by repeat (first | exact Ext.refl _ | exact Ext.alloc _ _ | apply Ext.then_dr | apply Ext.then_drN | apply Ext.then_drN2 | (refine Ext.then_al ?_ _)))
          have hG2 := hG.ext hB hE2
          have hB2 := hE2.size
          obtain ⟨q1, hq1⟩ : ∃ q1 : Nat, (q : Int) / 32 = q1 := ⟨q / 32, by omega⟩
          obtain ⟨q2, hq2⟩ : ∃ q2 : Nat, (q : Int) % 32 = q2 := ⟨q % 32, by omega⟩
          have hq1' : q / 32 = q1 := by omega
          have hq2' : q % 32 = q2 := by omega
          have hq1b : q1 ≤ 8 := by omega
          have hq2b : q2 ≤ 31 := by omega
          have hdv : IntKind.i64.wrap ((q : Int).tdiv 32) = q1 := by rw [IntWalk.i64_quo _ _ (by omega)]; exact hq1
          have hmd : (q : Int).tmod 32 = q2 := by rw [IntWalk.rem_in _ _ (by omega)]; exact hq2
          rw [hq1', hq2'] at hres'
          clear hq1' hq2'
          by_cases h255 : 255 < r
          · have e3 : decide ((255 : Int) < (r : Int)) = true := by simp; omega
            have HRS := Lib.hid hres'; clear hres'
            go_enter Try.func35, Try.ntmps35
            go_wp2_with fail
            go_ret
            exact ⟨ri (by rw [HRS.out, if_pos (Or.inl h255)]), (by repeat (first | exact Ext.refl _ | exact Ext.alloc _ _ | apply Ext.then_dr | apply Ext.then_drN | apply Ext.then_drN2 | (refine Ext.then_al ?_ _)))⟩
          · have e3 : decide ((255 : Int) < (r : Int)) = false := by simp; omega
            cases hpl : plainS gm.fields q1 q2
            · rw [if_pos (by right; left; exact hpl)] at hres'
              have HRS := Lib.hid hres'; clear hres'
              go_enter Try.func35, Try.ntmps35
              go_wp2_with fail
              refine (plain_any q1 q2 (by omega) (by omega) hG2 (by omega) hgne (by omega) (fun y hy => by rcases hVg.kinds y hy with h | h | h | h | h <;> simp [h])).mono ?_
              rw [hpl]
              rintro e w1 ⟨rfl, hb1⟩
              go_wp2_with fail
              go_ret
              exact ⟨ri HRS.out.symm, hE2.trans hb1⟩
            · by_cases hql : q1 = gm.fields.length
              · have e4 : ((q1 : Int) == (gm.fields.length : Int)) = true := by simp; omega
                rw [if_pos (by right; right; exact hql)] at hres'
                have HRS := Lib.hid hres'; clear hres'
                have HQL := Lib.hid hql; clear hql
                go_enter Try.func35, Try.ntmps35
                go_wp2_with fail
                refine (plain_any q1 q2 (by omega) (by omega) hG2 (by omega) hgne (by omega) (fun y hy => by rcases hVg.kinds y hy with h | h | h | h | h <;> simp [h])).mono ?_
                rw [hpl]
                rintro e w1 ⟨rfl, hb1⟩
                obtain ⟨hc1, -⟩ := hb1.cells
                simp only [World.size_alloc] at hc1
                have hs1 := hb1.size
                simp only [World.size_alloc] at hs1
                go_wp2_with fail
                go_ret
                exact ⟨ri HRS.out.symm, hE2.trans hb1⟩
              · have e4 : ((q1 : Int) == (gm.fields.length : Int)) = false := by simp; omega
                rw [if_neg (by simp [h255, hpl, hql])] at hres'
                have hlt2 : q1 < gm.fields.length := by
                  rcases Nat.lt_or_ge q1 gm.fields.length with h | h
                  · exact h
                  · exfalso
                    simp [plainS, hql, List.getElem?_eq_none h] at hpl
                obtain ⟨y, hy⟩ : ∃ y, gm.fields[q1]? = some y := ⟨_, List.getElem?_eq_getElem hlt2⟩
                have hky : y.kind = 1 ∧ q2 < y.bytes.size ∨ y.kind = 2 ∨ y.kind = 3 ∧ 0 ≤ y.n ∨ y.kind = 4 ∨ y.kind = 6 := by
                  have hpk : plainK y q2 = true := by
                    rw [plainS, if_neg hql, hy] at hpl; exact hpl
                  rcases hVg.fld q1 y hy with h | h | h | h
                  · refine .inl ⟨h.1, ?_⟩
                    simpa [plainK, h.1] using hpk
                  · exact .inr (.inl h.1)
                  · exact .inr (.inr (.inl ⟨h.1, h.2.1⟩))
                  · exact .inr (.inr (.inr (.inl h.1)))
                rw [hy] at hres'
                simp only at hres'
                have hxle := stepK_le y (f := q1) (r := q2) (by omega) (by omega) hb255
                obtain ⟨xn, hxn⟩ : ∃ xn, xn = stepK y q1 q2 b := ⟨_, rfl⟩
                rw [← hxn] at hres' hxle
                have HXN := Lib.hid hxn; clear hxn
                have HY := Lib.hid hy; clear hy
                have HQL := Lib.hid hql; clear hql
                have HRS := Lib.hid hres'; clear hres'
                go_enter Try.func35, Try.ntmps35
                go_wp2_with fail
                refine (plain_any q1 q2 (by omega) (by omega) hG2 (by omega) hgne (by omega) (fun y hy => by rcases hVg.kinds y hy with h | h | h | h | h <;> simp [h])).mono ?_
                rw [hpl]
                rintro e w1 ⟨rfl, hb1⟩
                obtain ⟨hc1, -⟩ := hb1.cells
                simp only [World.size_alloc] at hc1
                have hs1 := hb1.size
                simp only [World.size_alloc] at hs1
                go_wp2_with fail
                refine (rstep_any q1 q2 b (by omega) (by omega) hb255 (hG2.ext (by omega) hb1) (by omega) (by omega) HY.out hky).mono ?_
                rw [← HXN.out]
                rintro e w2 ⟨rfl, hb2⟩
                have hE : Ext w w2 := hE2.trans (hb1.trans hb2)
                have k1 : w2.cell? ⟨w.heap.size + 1, 1, none⟩ = some (.slice ga gm.fields.length gcap) := cs_ext hb2 (cs_ext hb1 (by rw [← World.size_alloc w (Obj.cells #[Value.string fm.name, Value.slice (some ⟨fb, foff, none⟩) fm.fields.length fcap] 42)]; exact cs_new rfl))
                by_cases hneg : xn < 0
                · go_wp2_with fail
                  go_ret
                  exact ⟨ri (by rw [HRS.out, if_pos (by omega)]), hE⟩
                · obtain ⟨g, hg⟩ : ∃ g : Nat, xn / 262144 = g := ⟨(xn / 262144).toNat, by omega⟩
                  obtain ⟨h, hh⟩ : ∃ h : Nat, xn / 256 % 1024 = h := ⟨(xn / 256 % 1024).toNat, by omega⟩
                  have hg' : xn / 256 / 1024 = g := by omega
                  have hgb : g ≤ 1000 := by omega
                  have hhb : h ≤ 1023 := by omega
                  have hrs2 := HRS.out
                  rw [if_neg hneg, hg, hh] at hrs2
                  have HRS2 := Lib.hid hrs2; clear hrs2
                  by_cases hr1 : r = 1 <;> by_cases hgl : g = gm.fields.length
                  · have e5 : ((r : Int) == 1) = true := by simp; omega
                    have e6 : ((g : Int) != (gm.fields.length : Int)) = false := by simp; omega
                    have HR1 := Lib.hid hr1; clear hr1
                    have HGL := Lib.hid hgl; clear hgl
                    go_wp2_with fail
                    refine (behind_any _ _ (by omega) (by omega)).mono ?_
                    rintro e w' ⟨rfl, rfl⟩
                    go_wp2_with fail
                    go_ret
                    exact ⟨ri (by rw [HRS2.out, if_pos HR1.out, if_neg (by simp [HGL.out])]; simp [stS]; omega), hE⟩
                  · have e5 : ((r : Int) == 1) = true := by simp; omega
                    have e6 : ((g : Int) != (gm.fields.length : Int)) = true := by simp; omega
                    have HR1 := Lib.hid hr1; clear hr1
                    have HGL := Lib.hid hgl; clear hgl
                    go_wp2_with fail
                    go_ret
                    exact ⟨ri (by rw [HRS2.out, if_pos HR1.out, if_pos (by have := HGL.out; omega)]), hE⟩
                  · have e5 : ((r : Int) == 1) = false := by simp; omega
                    have e6 : ((g : Int) == (gm.fields.length : Int)) = true := by simp; omega
                    have HR1 := Lib.hid hr1; clear hr1
                    have HGL := Lib.hid hgl; clear hgl
                    go_wp2_with fail
                    go_ret
                    exact ⟨ri (by rw [HRS2.out, if_neg HR1.out, if_pos (by simp [HGL.out])]), hE⟩
                  · have e5 : ((r : Int) == 1) = false := by simp; omega
                    have e6 : ((g : Int) == (gm.fields.length : Int)) = false := by simp; omega
                    have HR1 := Lib.hid hr1; clear hr1
                    have HGL := Lib.hid hgl; clear hgl
                    go_wp2_with fail
                    refine (code_any _ _ _ _ (by omega) (by omega) (by omega) (by omega) (by omega) (by omega)).mono ?_
                    rintro e w' ⟨rfl, rfl⟩
                    go_wp2_with fail
                    go_ret
                    exact ⟨ri (by rw [HRS2.out, if_neg HR1.out, if_neg (by have := HGL.out; omega)]; simp [stS]; omega), hE⟩
      · have e0 : (x.kind != 5) = true := by simp [hk5]
        rw [if_neg hk5] at hres'
        by_cases hq0 : q = 0
        · subst hq0
          cases hpl : plainS fm.fields f r
          · rw [if_pos (Or.inr hpl)] at hres'
            have HRS := Lib.hid hres'; clear hres'
            go_enter Try.func35, Try.ntmps35
            go_wp2_with fail
            refine (plain_any f r hfb (by omega) ((hF0.alloc hB _)) (by simp; omega) hne (by omega) hV.kinds).mono ?_
            rw [hpl]
            rintro e w1 ⟨rfl, hb1⟩
            go_wp2_with fail
            go_ret
            exact ⟨ri HRS.out.symm, hb1.al⟩
          · rw [if_neg (by simp [hpl])] at hres'
            have hkr : x.kind = 1 ∧ r < x.bytes.size ∨ x.kind = 2 ∨ x.kind = 3 ∧ 0 ≤ x.n ∨ x.kind = 4 ∨ x.kind = 6 := by
              have hpk : plainK x r = true := by
                rw [plainS, if_neg (by omega), hx] at hpl; exact hpl
              rcases hVx with h | h | h | h | h | h
              · refine .inl ⟨h.1, ?_⟩
                simpa [plainK, h.1] using hpk
              · exact .inr (.inl h.1)
              · exact .inr (.inr (.inl ⟨h.1, h.2.1⟩))
              · exact .inr (.inr (.inr (.inl h.1)))
              · exact .inr (.inr (.inr (.inr h.1)))
              · exact absurd h.1 hk5
            have HRS := Lib.hid hres'; clear hres'
            have HX := Lib.hid hx; clear hx
            go_enter Try.func35, Try.ntmps35
            go_wp2_with fail
            refine (plain_any f r hfb (by omega) ((hF0.alloc hB _)) (by simp; omega) hne (by omega) hV.kinds).mono ?_
            rw [hpl]
            rintro e w1 ⟨rfl, hb1⟩
            have k0 := cs_ext hb1 (w := w.alloc (Obj.cells #[Value.string fm.name, Value.slice (some ⟨fb, foff, none⟩) fm.fields.length fcap] 42)) (cs_new (i := 0) rfl)
            have k1 := cs_ext hb1 (w := w.alloc (Obj.cells #[Value.string fm.name, Value.slice (some ⟨fb, foff, none⟩) fm.fields.length fcap] 42)) (cs_new (i := 1) rfl)
            have hs1 := hb1.al.size
            go_wp2_with fail
            refine (rstep_any f r b (by omega) (by omega) hb255 (hF0.ext hB hb1.al) (by omega) (by omega) HX.out hkr).mono ?_
            rintro e w2 ⟨rfl, hb2⟩
            go_wp2_with fail
            go_ret
            exact ⟨ri HRS.out.symm, hb1.al.trans hb2⟩
        · have e1 : ((q : Int) != 0) = true := by simp; omega
          rw [if_pos (by left; omega)] at hres'
          have HRS := Lib.hid hres'; clear hres'
          go_enter Try.func35, Try.ntmps35
          go_wp2_with fail
          go_ret
          exact ⟨ri HRS.out.symm, (by repeat (first | exact Ext.refl _ | exact Ext.alloc _ _ | apply Ext.then_dr | apply Ext.then_drN | apply Ext.then_drN2 | (refine Ext.then_al ?_ _)))⟩

end Go.Proofs.Ythoelnoahfedmaa

namespace Go.Proofs.Ythoelnoahfedmaa
open Go.RowKit
set_option linter.unusedVariables false
set_option linter.unusedSimpArgs false

def rAcc (F : List Fld) (s : Int) : Bool :=
  if s < 0 ∨ s % 256 ≠ 0 then false else
  if (s / 262144).toNat = F.length then s / 256 % 1024 == 0 && noRest F else
  match F[(s / 262144).toNat]? with
  | none => false
  | some x => x.kind == 6 && decide (x.low ≤ s / 256 % 1024) && decide (s / 256 % 1024 ≤ x.high)

set_option maxRecDepth 100000 in
set_option maxHeartbeats 2000000 in
theorem Accepts_any {w : World} {B : Nat} {a : Option Addr} {t : List Fmt} {cap : Nat} {i : Nat} {fm : Fmt} (s : Int) (h1 : s ≤ 9223372036854775807) (h2 : -9223372036854775808 ≤ s) (hT : TabA w B a t) (hB : B ≤ w.heap.size) (hi : t[i]? = some fm) (hne : fm.fields ≠ []) (hle : fm.fields.length ≤ 100) :
   Calls Try.prog 39 #[.slice a t.length cap, .int .i64 i, .int .i64 s] w fun e w' => e = .returned (.bool (rAcc fm.fields s)) ∧ Ext w w' := by
  have hin := lt_of_get hi
  have hn63 := hT.1
  unfold maxLen at hn63
  obtain ⟨tb, toff, fa, fcap, rfl, htb, htn, htc, hF, -⟩ := hT.at hi
  have htb' : tb < w.heap.size := by omega
  obtain ⟨res, hres⟩ : ∃ res, res = rAcc fm.fields s := ⟨_, rfl⟩
  rw [← hres]
  have HRES := Lib.hid hres; clear hres
  by_cases hs : s < 0
  · go_enter Try.func39, Try.ntmps39
    go_wp2_with fail
    go_ret
    exact ⟨rb (by rw [HRES.out, rAcc, if_pos (Or.inl hs)]), (by repeat (first | exact Ext.refl _ | exact Ext.alloc _ _ | apply Ext.then_dr | apply Ext.then_drN | apply Ext.then_drN2 | (refine Ext.then_al ?_ _)))⟩
  · have hs0 : 0 ≤ s := by omega
    by_cases hq : s % 256 = 0
    · have e1 : (s % 256 != 0) = false := by simp [hq]
      have HQ := Lib.hid hq; clear hq
      obtain ⟨f, hfs⟩ : ∃ f : Nat, s / 262144 = f := ⟨(s / 262144).toNat, by omega⟩
      obtain ⟨r, hrs⟩ : ∃ r : Nat, s / 256 % 1024 = r := ⟨(s / 256 % 1024).toNat, by omega⟩
      have hfs' : s / 256 / 1024 = f := by omega
      have hr1024 : r < 1024 := by omega
      have hres2 : rAcc fm.fields s = if f = fm.fields.length then (r : Int) == 0 && noRest fm.fields else
          match fm.fields[f]? with
          | none => false
          | some x => x.kind == 6 && decide (x.low ≤ (r : Int)) && decide ((r : Int) ≤ x.high) := by
        rw [rAcc, if_neg (by have := HQ.out; omega), hfs, hrs, Int.toNat_natCast]
      have HR2 := Lib.hid hres2; clear hres2
      by_cases hfl : f = fm.fields.length
      · have e2 : ((f : Int) == (fm.fields.length : Int)) = true := by simp; omega
        have HFL := Lib.hid hfl; clear hfl
        by_cases hr0 : r = 0
        · have e3 : ((r : Int) == 0) = true := by simp; omega
          have HR0 := Lib.hid hr0; clear hr0
          go_enter Try.func39, Try.ntmps39
          go_wp2_with fail
          refine (rest_any (hF.alloc hB _) (by simp; omega) hne (by omega)).mono ?_
          rintro e w1 ⟨rfl, hb1⟩
          go_wp2_with fail
          go_ret
          exact ⟨rb (by rw [HRES.out, HR2.out, if_pos HFL.out, HR0.out]; simp), hb1.al⟩
        · have e3 : ((r : Int) == 0) = false := by simp; omega
          have HR0 := Lib.hid hr0; clear hr0
          go_enter Try.func39, Try.ntmps39
          go_wp2_with fail
          go_ret
          exact ⟨rb (by rw [HRES.out, HR2.out, if_pos HFL.out]; simp [HR0.out]), (by repeat (first | exact Ext.refl _ | exact Ext.alloc _ _ | apply Ext.then_dr | apply Ext.then_drN | apply Ext.then_drN2 | (refine Ext.then_al ?_ _)))⟩
      · have e2 : ((f : Int) == (fm.fields.length : Int)) = false := by simp; omega
        by_cases hlt : f < fm.fields.length
        · have e3 : decide ((f : Int) < (fm.fields.length : Int)) = true := by simp; omega
          obtain ⟨x, hx⟩ : ∃ x, fm.fields[f]? = some x := ⟨_, List.getElem?_eq_getElem hlt⟩
          obtain ⟨fb, foff, rfl, hfb', hc⟩ := hF.get hx
          obtain ⟨c0, c1, c2, c3, c4, cw⟩ := hc
          have hfb2 : fb < w.heap.size := by omega
          have HX := Lib.hid hx; clear hx
          have HFL := Lib.hid hfl; clear hfl
          by_cases hk6 : x.kind = 6
          · have e4 : (x.kind == 6) = true := by simp [hk6]
            have HK6 := Lib.hid hk6; clear hk6
            go_enter Try.func39, Try.ntmps39
            go_wp2_with fail
            all_goals go_ret
            all_goals exact ⟨rb (by rw [HRES.out, HR2.out, if_neg HFL.out, HX.out, Bool.eq_iff_iff]; simp [HK6.out]; try omega), (by repeat (first | exact Ext.refl _ | exact Ext.alloc _ _ | apply Ext.then_dr | apply Ext.then_drN | apply Ext.then_drN2 | (refine Ext.then_al ?_ _)))⟩
          · have e4 : (x.kind == 6) = false := by simp [hk6]
            have HK6 := Lib.hid hk6; clear hk6
            go_enter Try.func39, Try.ntmps39
            go_wp2_with fail
            go_ret
            exact ⟨rb (by rw [HRES.out, HR2.out, if_neg HFL.out, HX.out]; simp [HK6.out]), (by repeat (first | exact Ext.refl _ | exact Ext.alloc _ _ | apply Ext.then_dr | apply Ext.then_drN | apply Ext.then_drN2 | (refine Ext.then_al ?_ _)))⟩
        · have e3 : decide ((f : Int) < (fm.fields.length : Int)) = false := by simp; omega
          have hx : fm.fields[f]? = none := List.getElem?_eq_none (by omega)
          have HX := Lib.hid hx; clear hx
          have HFL := Lib.hid hfl; clear hfl
          go_enter Try.func39, Try.ntmps39
          go_wp2_with fail
          go_ret
          exact ⟨rb (by rw [HRES.out, HR2.out, if_neg HFL.out, HX.out]), (by repeat (first | exact Ext.refl _ | exact Ext.alloc _ _ | apply Ext.then_dr | apply Ext.then_drN | apply Ext.then_drN2 | (refine Ext.then_al ?_ _)))⟩
    · have e1 : (s % 256 != 0) = true := by simp [hq]
      have e0 : decide (s < 0) = false := by simp; omega
      have HQ := Lib.hid hq; clear hq
      go_enter Try.func39, Try.ntmps39
      go_wp2_with fail
      go_ret
      exact ⟨rb (by rw [HRES.out, rAcc, if_pos (Or.inr HQ.out)]), (by repeat (first | exact Ext.refl _ | exact Ext.alloc _ _ | apply Ext.then_dr | apply Ext.then_drN | apply Ext.then_drN2 | (refine Ext.then_al ?_ _)))⟩

end Go.Proofs.Ythoelnoahfedmaa

namespace Go.Proofs.Ythoelnoahfedmaa
open Go.RowKit
set_option linter.unusedVariables false
set_option linter.unusedSimpArgs false

theorem kindS_plain {x : Fld} {inn : Fld → Int → Bool} {s : Int} {r : Nat} (hr : s / 256 % 1024 = r) (hk : x.kind = 1 ∨ x.kind = 2 ∨ x.kind = 3 ∨ x.kind = 4 ∨ x.kind = 6) : kindS x inn s = (s % 256 == 0 && plainK x r) := by
  rw [Bool.eq_iff_iff]
  rcases hk with h | h | h | h | h <;> simp [kindS, plainK, h, hr]

theorem endS_lt {F : List Fld} {s : Int} {f : Nat} (hf : s / 262144 = f) (h : f < F.length) : endS F s = false := by
  unfold endS
  have : (s == (F.length : Int) * 262144) = false := by simp; omega
  rw [this]; rfl

theorem exists0_at {F : List Fld} {q1 q2 : Nat} {y : Fld} (h2 : q2 < 1024) (hy : F[q1]? = some y) (hk : y.kind = 1 ∨ y.kind = 2 ∨ y.kind = 3 ∨ y.kind = 4 ∨ y.kind = 6) : exists0 F ((q1 : Int) * 262144 + (q2 : Int) * 256) = plainK y q2 := by
  rw [exists0, xsS_some (f := q1) (by omega) (by omega) hy, kindS_plain (r := q2) (by omega) hk]
  have : (((q1 : Int) * 262144 + (q2 : Int) * 256) % 256 == 0) = true := by simp; omega
  rw [this]; rfl

theorem pstep0_at {F : List Fld} {q1 q2 b : Nat} {y : Fld} (h2 : q2 < 1024) (hy : F[q1]? = some y) (hk : y.kind = 1 ∨ y.kind = 2 ∨ y.kind = 3 ∨ y.kind = 4 ∨ y.kind = 6) :
    pstep0 F ((q1 : Int) * 262144 + (q2 : Int) * 256) b = if plainK y q2 = false then -1 else stepK y q1 q2 b := by
  have e1 : (((q1 : Int) * 262144 + (q2 : Int) * 256) / 262144).toNat = q1 := by omega
  have e2 : (((q1 : Int) * 262144 + (q2 : Int) * 256) / 256 % 1024).toNat = q2 := by omega
  rw [pstep0, exists0_at h2 hy hk, endS_lt (f := q1) (by omega) (lt_of_get hy), e1, e2, hy]
  simp

theorem noRest_plain {gm : Fmt} (h : VPlain gm) : noRest gm.fields = true := by
  unfold noRest
  cases hl : gm.fields.getLast? with
  | none => simp at hl; exact absurd hl h.ne
  | some y =>
    simp only
    rw [List.getLast?_eq_getElem?] at hl
    rcases h.fld _ y hl with h | h | h | h <;> simp [h.1]

theorem stepK_end {gm : Fmt} (h : VPlain gm) {q1 q2 b : Nat} {y : Fld} (hy : gm.fields[q1]? = some y) (hp : plainK y q2 = true) (hq : q2 ≤ 31) (hb : b ≤ 255) (hn : 0 ≤ stepK y q1 q2 b) :
    endS gm.fields (stepK y q1 q2 b) = decide (stepK y q1 q2 b / 262144 = gm.fields.length) := by
  have hlt := lt_of_get hy
  rw [endS, noRest_plain h, Bool.and_true, Bool.eq_iff_iff]
  simp only [beq_iff_eq, decide_eq_true_eq]
  constructor
  · intro e; rw [e]; omega
  · intro e
    revert hn e
    unfold stepK cntS lftS stS
    (repeat' split) <;> intros <;> omega

theorem step_eq {t : List Fmt} {fm : Fmt} (hV : VFmt t fm) (s : Int) (b : Nat) (hb : b ≤ 255) : rStep t fm.fields s b = pstep1 t fm.fields s b := by
  by_cases hs : s < 0
  · have : exists1 t fm.fields s = false := by rw [exists1, xsS, if_pos hs]
    rw [rStep, if_pos hs, pstep1, if_pos (Or.inl this)]
  · have hs0 : 0 ≤ s := by omega
    obtain ⟨f, hfs⟩ : ∃ f : Nat, s / 262144 = f := ⟨(s / 262144).toNat, by omega⟩
    obtain ⟨r, hrs⟩ : ∃ r : Nat, s / 256 % 1024 = r := ⟨(s / 256 % 1024).toNat, by omega⟩
    obtain ⟨q, hqs⟩ : ∃ q : Nat, s % 256 = q := ⟨(s % 256).toNat, by omega⟩
    have hr : r < 1024 := by omega
    have hq : q < 256 := by omega
    rw [rStep, if_neg hs, pstep1, hfs, hrs, hqs]
    simp only [Int.toNat_natCast]
    cases hx : fm.fields[f]? with
    | none => simp
    | some x =>
      simp only
      have hend := endS_lt hfs (lt_of_get hx)
      have hex : exists1 t fm.fields s = kindS x (innS t) s := by rw [exists1, xsS_some hs0 hfs hx]
      rw [hend, hex]
      by_cases hk5 : x.kind = 5
      · rw [if_pos hk5, if_pos hk5]
        have hVn : ∃ j : Nat, x.n = j ∧ ∃ gm, t[j]? = some gm ∧ VPlain gm := by
          rcases hV.fld f x hx with h | h | h | h | h | h
          all_goals first | exact h.2 | (have := h.1; omega)
        obtain ⟨j, hj, gm, hgm, hVg⟩ := hVn
        have hnG : (t.getD x.n.toNat default).fields = gm.fields := by simp [hj, hgm]
        have hkS : kindS x (innS t) s = if r = 0 then (q : Int) == 0 else decide ((r : Int) ≤ 255) && innS t x (s % 256 / 32 * 262144 + s % 32 * 256) := by
          simp only [kindS, hk5, hrs, hqs]
          simp
        rw [hkS]
        by_cases hr0 : r = 0
        · subst hr0
          simp only [rNest, nestK, if_true]
          by_cases hq0 : q = 0
          · simp [hq0]
          · simp [hq0]
        · rw [rNest, nestK, if_neg hr0, if_neg hr0, if_neg hr0, hnG, innS, hnG]
          have en0 : s % 256 / 32 * 262144 + s % 32 * 256 = ((q / 32 : Nat) : Int) * 262144 + ((q % 32 : Nat) : Int) * 256 := by omega
          rw [en0]
          have hq1 : q / 32 < 8 := by omega
          have hq2 : q % 32 < 32 := by omega
          generalize q / 32 = q1 at *
          generalize q % 32 = q2 at *
          by_cases h255 : 255 < r
          · have : decide ((r : Int) ≤ 255) = false := by simp; omega
            rw [if_pos (Or.inl h255), this]
            simp
          · have : decide ((r : Int) ≤ 255) = true := by simp; omega
            rw [this, Bool.true_and]
            cases hy : gm.fields[q1]? with
            | none =>
              have hge : gm.fields.length ≤ q1 := List.getElem?_eq_none_iff.1 hy
              have hx0 : exists0 gm.fields ((q1 : Int) * 262144 + (q2 : Int) * 256) = endS gm.fields ((q1 : Int) * 262144 + (q2 : Int) * 256) := by
                have e1 : (((q1 : Int) * 262144 + (q2 : Int) * 256) / 262144).toNat = q1 := by omega
                rw [exists0, xsS, if_neg (by omega), e1, hy]
              rw [hx0]
              simp
            | some y =>
              have hky := hVg.kinds y (List.mem_of_getElem? hy)
              have hlt := lt_of_get hy
              rw [exists0_at (by omega) hy hky, endS_lt (f := q1) (by omega) hlt, pstep0_at (by omega) hy hky]
              have hpl : plainS gm.fields q1 q2 = plainK y q2 := by rw [plainS, if_neg (by omega), hy]
              rw [hpl]
              cases hp : plainK y q2
              · simp
              · have hqne : ¬ q1 = gm.fields.length := by omega
                simp only [Bool.true_and, Bool.not_false, Bool.true_eq_false, false_or, if_false, h255, hqne, or_self]
                by_cases hneg : stepK y q1 q2 b < 0
                · simp [hneg]
                · have he := stepK_end hVg hy hp (by omega) hb (by omega)
                  rw [if_neg hneg, he]
                  by_cases hr1 : r = 1
                  · by_cases hl : stepK y q1 q2 b / 262144 = gm.fields.length
                    · simp [hr1, hl, hneg]
                    · simp [hr1, hl, hneg]
                  · by_cases hl : stepK y q1 q2 b / 262144 = gm.fields.length
                    · simp [hr1, hl, hneg]
                    · simp [hr1, hl, hneg]
      · rw [if_neg hk5, if_neg hk5]
        have hk : x.kind = 1 ∨ x.kind = 2 ∨ x.kind = 3 ∨ x.kind = 4 ∨ x.kind = 6 := by
          rcases hV.kinds x (List.mem_of_getElem? hx) with h | h | h | h | h | h <;> first | (simp [h]; done) | exact absurd h hk5
        rw [kindS_plain hrs hk, hqs]
        have hpl : plainS fm.fields f r = plainK x r := by rw [plainS, if_neg (by have := lt_of_get hx; omega), hx]
        rw [hpl]
        by_cases hq0 : q = 0
        · cases plainK x r <;> simp [hq0]
        · simp [hq0]

theorem acc_eq {t : List Fmt} {fm : Fmt} (hV : VFmt t fm) (s : Int) : rAcc fm.fields s = accS t fm.fields s := by
  by_cases hs : s < 0
  · have : exists1 t fm.fields s = false := by rw [exists1, xsS, if_pos hs]
    rw [rAcc, if_pos (Or.inl hs), accS, this, Bool.false_and]
  · have hs0 : 0 ≤ s := by omega
    obtain ⟨f, hfs⟩ : ∃ f : Nat, s / 262144 = f := ⟨(s / 262144).toNat, by omega⟩
    obtain ⟨r, hrs⟩ : ∃ r : Nat, s / 256 % 1024 = r := ⟨(s / 256 % 1024).toNat, by omega⟩
    rw [rAcc, accS, hfs, hrs, Int.toNat_natCast]
    cases hx : fm.fields[f]? with
    | none =>
      have hge : fm.fields.length ≤ f := List.getElem?_eq_none_iff.1 hx
      have hex : exists1 t fm.fields s = endS fm.fields s := by rw [exists1, xsS, if_neg hs, hfs, Int.toNat_natCast, hx]
      rw [hex, endS, Bool.eq_iff_iff]
      by_cases hfl : f = fm.fields.length
      · simp [hfl, hs]
        constructor
        · rintro ⟨h1, h2, h3⟩
          exact ⟨by omega, h3⟩
        · rintro ⟨h1, h2⟩
          exact ⟨by omega, by omega, h2⟩
      · simp [hfl]
        omega
    | some x =>
      have hlt := lt_of_get hx
      have hex : exists1 t fm.fields s = kindS x (innS t) s := by rw [exists1, xsS_some hs0 hfs hx]
      rw [hex, Bool.eq_iff_iff]
      have hne : ¬ f = fm.fields.length := by omega
      have hne' : ¬ (f : Int) = (fm.fields.length : Int) := by omega
      by_cases hk6 : x.kind = 6
      · rw [kindS_plain hrs (by simp [hk6])]
        simp [hne, hne', hs, hk6, plainK]
        omega
      · simp [hne, hne', hk6]

end Go.Proofs.Ythoelnoahfedmaa
