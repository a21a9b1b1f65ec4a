/- Contracts: the reference's Accepts. -/
import Derived.Test.YthoelnoahfedmaaW7
namespace Go.Proofs.Ythoelnoahfedmaa
open Go.RowKit
set_option linter.unusedVariables false
set_option linter.unusedSimpArgs false

def rAcc (F : List Fld) (s : Int) : Bool :=
  if s < 0 ∨ s % 256 ≠ 0 then false else
  if (s / 262144).toNat = F.length then s / 256 % 1024 == 0 && noRest F else
  match F[(s / 262144).toNat]? with
  | none => false
  | some x => x.kind == 6 && decide (x.low ≤ s / 256 % 1024) && decide (s / 256 % 1024 ≤ x.high)

set_option maxRecDepth 100000 in
set_option maxHeartbeats 2000000 in
theorem Accepts_any {w : World} {B : Nat} {a : Option Addr} {t : List Fmt} {cap : Nat} {i : Nat} {fm : Fmt} (s : Int) (h1 : s ≤ 9223372036854775807) (h2 : -9223372036854775808 ≤ s) (hT : TabA w B a t) (hB : B ≤ w.heap.size) (hi : t[i]? = some fm) (hne : fm.fields ≠ []) (hle : fm.fields.length ≤ 100) :
   Calls Try.prog 39 #[.slice a t.length cap, .int .i64 i, .int .i64 s] w fun e w' => e = .returned (.bool (rAcc fm.fields s)) ∧ Ext w w' := by
  have hin := lt_of_get hi
  have hn63 := hT.1
  unfold maxLen at hn63
  obtain ⟨tb, toff, fa, fcap, rfl, htb, htn, htc, hF, -⟩ := hT.at hi
  have htb' : tb < w.heap.size := by omega
  obtain ⟨res, hres⟩ : ∃ res, res = rAcc fm.fields s := ⟨_, rfl⟩
  rw [← hres]
  have HRES := Lib.hid hres; clear hres
  by_cases hs : s < 0
  · go_enter Try.func39, Try.ntmps39
    go_wp2_with fail
    go_ret
    exact ⟨rb (by rw [HRES.out, rAcc, if_pos (Or.inl hs)]), (by repeat (first | exact Ext.refl _ | exact Ext.alloc _ _ | apply Ext.then_dr | apply Ext.then_drN | apply Ext.then_drN2 | (refine Ext.then_al ?_ _)))⟩
  · have hs0 : 0 ≤ s := by omega
    by_cases hq : s % 256 = 0
    · have e1 : (s % 256 != 0) = false := by simp [hq]
      have HQ := Lib.hid hq; clear hq
      obtain ⟨f, hfs⟩ : ∃ f : Nat, s / 262144 = f := ⟨(s / 262144).toNat, by omega⟩
      obtain ⟨r, hrs⟩ : ∃ r : Nat, s / 256 % 1024 = r := ⟨(s / 256 % 1024).toNat, by omega⟩
      have hfs' : s / 256 / 1024 = f := by omega
      have hr1024 : r < 1024 := by omega
      have hres2 : rAcc fm.fields s = if f = fm.fields.length then (r : Int) == 0 && noRest fm.fields else
          match fm.fields[f]? with
          | none => false
          | some x => x.kind == 6 && decide (x.low ≤ (r : Int)) && decide ((r : Int) ≤ x.high) := by
        rw [rAcc, if_neg (by have := HQ.out; omega), hfs, hrs, Int.toNat_natCast]
      have HR2 := Lib.hid hres2; clear hres2
      by_cases hfl : f = fm.fields.length
      · have e2 : ((f : Int) == (fm.fields.length : Int)) = true := by simp; omega
        have HFL := Lib.hid hfl; clear hfl
        by_cases hr0 : r = 0
        · have e3 : ((r : Int) == 0) = true := by simp; omega
          have HR0 := Lib.hid hr0; clear hr0
          go_enter Try.func39, Try.ntmps39
          go_wp2_with fail
          refine (rest_any (hF.alloc hB _) (by simp; omega) hne (by omega)).mono ?_
          rintro e w1 ⟨rfl, hb1⟩
          go_wp2_with fail
          go_ret
          exact ⟨rb (by rw [HRES.out, HR2.out, if_pos HFL.out, HR0.out]; simp), hb1.al⟩
        · have e3 : ((r : Int) == 0) = false := by simp; omega
          have HR0 := Lib.hid hr0; clear hr0
          go_enter Try.func39, Try.ntmps39
          go_wp2_with fail
          go_ret
          exact ⟨rb (by rw [HRES.out, HR2.out, if_pos HFL.out]; simp [HR0.out]), (by repeat (first | exact Ext.refl _ | exact Ext.alloc _ _ | apply Ext.then_dr | apply Ext.then_drN | apply Ext.then_drN2 | (refine Ext.then_al ?_ _)))⟩
      · have e2 : ((f : Int) == (fm.fields.length : Int)) = false := by simp; omega
        by_cases hlt : f < fm.fields.length
        · have e3 : decide ((f : Int) < (fm.fields.length : Int)) = true := by simp; omega
          obtain ⟨x, hx⟩ : ∃ x, fm.fields[f]? = some x := ⟨_, List.getElem?_eq_getElem hlt⟩
          obtain ⟨fb, foff, rfl, hfb', hc⟩ := hF.get hx
          obtain ⟨c0, c1, c2, c3, c4, cw⟩ := hc
          have hfb2 : fb < w.heap.size := by omega
          have HX := Lib.hid hx; clear hx
          have HFL := Lib.hid hfl; clear hfl
          by_cases hk6 : x.kind = 6
          · have e4 : (x.kind == 6) = true := by simp [hk6]
            have HK6 := Lib.hid hk6; clear hk6
            go_enter Try.func39, Try.ntmps39
            go_wp2_with fail
            all_goals go_ret
            all_goals exact ⟨rb (by rw [HRES.out, HR2.out, if_neg HFL.out, HX.out, Bool.eq_iff_iff]; simp [HK6.out]; try omega), (by repeat (first | exact Ext.refl _ | exact Ext.alloc _ _ | apply Ext.then_dr | apply Ext.then_drN | apply Ext.then_drN2 | (refine Ext.then_al ?_ _)))⟩
          · have e4 : (x.kind == 6) = false := by simp [hk6]
            have HK6 := Lib.hid hk6; clear hk6
            go_enter Try.func39, Try.ntmps39
            go_wp2_with fail
            go_ret
            exact ⟨rb (by rw [HRES.out, HR2.out, if_neg HFL.out, HX.out]; simp [HK6.out]), (by repeat (first | exact Ext.refl _ | exact Ext.alloc _ _ | apply Ext.then_dr | apply Ext.then_drN | apply Ext.then_drN2 | (refine Ext.then_al ?_ _)))⟩
        · have e3 : decide ((f : Int) < (fm.fields.length : Int)) = false := by simp; omega
          have hx : fm.fields[f]? = none := List.getElem?_eq_none (by omega)
          have HX := Lib.hid hx; clear hx
          have HFL := Lib.hid hfl; clear hfl
          go_enter Try.func39, Try.ntmps39
          go_wp2_with fail
          go_ret
          exact ⟨rb (by rw [HRES.out, HR2.out, if_neg HFL.out, HX.out]), (by repeat (first | exact Ext.refl _ | exact Ext.alloc _ _ | apply Ext.then_dr | apply Ext.then_drN | apply Ext.then_drN2 | (refine Ext.then_al ?_ _)))⟩
    · have e1 : (s % 256 != 0) = true := by simp [hq]
      have e0 : decide (s < 0) = false := by simp; omega
      have HQ := Lib.hid hq; clear hq
      go_enter Try.func39, Try.ntmps39
      go_wp2_with fail
      go_ret
      exact ⟨rb (by rw [HRES.out, rAcc, if_pos (Or.inr HQ.out)]), (by repeat (first | exact Ext.refl _ | exact Ext.alloc _ _ | apply Ext.then_dr | apply Ext.then_drN | apply Ext.then_drN2 | (refine Ext.then_al ?_ _)))⟩

end Go.Proofs.Ythoelnoahfedmaa
