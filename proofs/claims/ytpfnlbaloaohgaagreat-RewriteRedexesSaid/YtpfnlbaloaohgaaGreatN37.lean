/- Contracts: the reference's lists of rules. -/
import Derived.Test.YtpfnlbaloaohgaaGreatN36
import Derived.Test.YtpfnlbaloaohgaaGreatH5
namespace Go.Proofs.YtpfnlbaloaohgaaGreat
open Go Go.RowKit
set_option linter.unusedVariables false
set_option linter.unusedSimpArgs false

set_option maxRecDepth 100000 in
set_option maxHeartbeats 8000000 in
theorem RRules_any {w : World} {S : Nat → Prop} {a : Option Addr} {cap : Nat} {R : List Rl} (hz : smallR R) (hL : LsG elP w S (.slice a R.length cap) R) :
    Calls Tryz.prog 63 #[.slice a R.length cap] w fun e w' => e = .returned (.int .i64 (rulesE R)) ∧ Ext w w' := by
  obtain ⟨-, hll, hlc⟩ := hL.len
  unfold maxLen at hlc
  have HL := Lib.hid hL.any
  have HZ := Lib.hid hz
  obtain ⟨E, hE⟩ : ∃ E, E = rulesE R := ⟨_, rfl⟩
  rw [← hE]
  unfold rulesE at hE
  have HEE := Lib.hid hE
  clear hL hz hE
  by_cases h40 : 40 < R.length
  · have HR : Hid (E = 3) := Lib.hid (by rw [HEE.out, if_pos h40])
    have e40 : decide ((40 : Int) < (R.length : Int)) = true := decide_eq_true (by omega)
    go_enter Tryz.func63, Tryz.ntmps63
    go_wp2_with fail
    go_ret
    exact ⟨ri HR.out.symm, Ext.refl _⟩
  · have HR : Hid (E = rulesL R) := Lib.hid (by rw [HEE.out, if_neg h40])
    have e40 : decide ((40 : Int) < (R.length : Int)) = false := decide_eq_false (by omega)
    go_enter Tryz.func63, Tryz.ntmps63
    go_wp2_with fail
    go_loopw [3] (fun kv wr => Hid (∃ k : Nat, kv = .int .i64 k ∧ k ≤ R.length ∧ rulesL (R.take k) = 0 ∧ Ext w wr)) (fun kv _ => R.length - (intOf kv).toNat)
    case atStart => exact Lib.hid ⟨0, rfl, by omega, by simp [rulesL], Ext.refl _⟩
    case round =>
      obtain ⟨k, rfl, hk, h0, hE⟩ := hrel.out
      have H0 := Lib.hid h0
      have HE := Lib.hid hE
      clear hrel h0 hE
      by_cases hlt : k < R.length
      · obtain ⟨r, hr⟩ : ∃ r, R[k]? = some r := ⟨_, List.getElem?_eq_getElem hlt⟩
        obtain ⟨rb, ro, xa, xc, ya, yc, rfl, ⟨x0, x1, x2, x3⟩, ⟨y0, y1, y2, y3⟩, hTx, hTy⟩ := (HL.out.ext HE.out).pAt hr
        have hsz := HZ.out r (List.mem_of_getElem? hr)
        have HST := Lib.hid (fun (h : ruleE r ≠ 0) => rulesL_stop hr H0.out h)
        have HTK := Lib.hid (rulesL_take hr)
        have hk1 : r.1.kids.length ≤ xc := hTx.len
        have hk3 : r.2.kids.length ≤ yc := hTy.len
        obtain ⟨o, ho⟩ : ∃ o, o = ruleE r := ⟨_, rfl⟩
        have hcr := RRule_any (w := wr) (r := r) hsz.1 hsz.2 hTx hTy
        rw [← ho] at hcr HST HTK
        have HCR := Lib.hid hcr
        clear hr hsz hTx hTy ho hcr
        go_wp2_with fail
        refine HCR.out.mono ?_
        rintro e w5 ⟨rfl, hE5⟩
        have HE5 := Lib.hid (HE.out.trans hE5)
        clear hE5
        by_cases h1 : o = 0
        · have e1 : (o != 0) = false := by simp [h1]
          have HN : Hid (rulesL (R.take (k + 1)) = 0) := Lib.hid (by rw [HTK.out, H0.out, h1]; simp [orE])
          clear h1
          go_wp2_with fail
          go_roundw
          case rel => exact Lib.hid ⟨k + 1, by go_num, by omega, HN.out, HE5.out⟩
          case measure => simp [intOf]; omega
        · have e1 : (o != 0) = true := by simp [h1]
          have HF : Hid (E = o) := Lib.hid (by rw [HR.out, HST.out h1])
          clear h1
          go_wp2_with fail
          go_ret
          exact ⟨ri HF.out.symm, HE5.out⟩
      · have HF : Hid (E = 0) := Lib.hid (by
          have h := H0.out
          rw [List.take_of_length_le (by omega)] at h
          rw [HR.out, h])
        have hkz : ¬ ((k : Int) < (R.length : Int)) := by omega
        go_wp2_with fail
        go_ret
        exact ⟨ri HF.out.symm, HE.out⟩

set_option maxRecDepth 100000 in
set_option maxHeartbeats 8000000 in
theorem RRight_any {w : World} {S S' : Nat → Prop} {a ta : Option Addr} {cap tc : Nat} {R : List Rl} {t : Tm} (hz : smallR R) (hL : LsG elP w S (.slice a R.length cap) R) (ht : sizeT t ≤ 1000000) (hT : TmW w S' ta tc t) :
    Calls Tryz.prog 42 #[.slice a R.length cap, .agg #[.int .i64 t.kind, .string t.name, .int .i64 t.sort, .slice ta t.kids.length tc]] w fun e w' => e = .returned (.int .i64 (orE (rulesE R) (validT t))) ∧ Ext w w' := by
  obtain ⟨bx, hbbx⟩ : ∃ zz9, zz9 = w.heap.size := ⟨_, rfl⟩
  obtain ⟨w1, hwbx⟩ : ∃ zz9, zz9 = w.alloc (.cells #[.int .i64 t.kind, .string t.name, .int .i64 t.sort, .slice ta t.kids.length tc] 25) := ⟨_, rfl⟩
  have HBbx : Hid (w1.heap[bx]? = some (.cells #[.int .i64 t.kind, .string t.name, .int .i64 t.sort, .slice ta t.kids.length tc] 25)) := Lib.hid (by rw [hwbx, hbbx]; exact hs_new)
  have hEbx : Ext w w1 := by rw [hwbx]; exact Ext.alloc _ _
  have b0 : w1.cell? ⟨bx, 0, none⟩ = some (.int .i64 t.kind) := by rw [cellc (HBbx.out)]; rfl
  have b1 : w1.cell? ⟨bx, 1, none⟩ = some (.string t.name) := by rw [cellc (HBbx.out)]; rfl
  have b2 : w1.cell? ⟨bx, 2, none⟩ = some (.int .i64 t.sort) := by rw [cellc (HBbx.out)]; rfl
  have b3 : w1.cell? ⟨bx, 3, none⟩ = some (.slice ta t.kids.length tc) := by rw [cellc (HBbx.out)]; rfl
  have HT := Lib.hid (hT.ext hEbx).any
  have HE1 := Lib.hid hEbx
  have HZ := Lib.hid ht
  have hc1 := RRules_any hz (hL.ext hEbx)
  obtain ⟨o1, ho1⟩ : ∃ o, o = rulesE R := ⟨_, rfl⟩
  rw [← ho1] at hc1 ⊢
  obtain ⟨o2, ho2⟩ : ∃ o, o = validT t := ⟨_, rfl⟩
  rw [← ho2]
  have HO2 := Lib.hid ho2
  have HC1 := Lib.hid hc1
  clear hT hL hEbx hc1 ho1 ho2 ht hz
  go_enter Tryz.func42, Tryz.ntmps42
  go_upto_region 1 with fail
  rw [← hwbx, ← hbbx]
  clear hwbx hbbx
  go_wp2_with fail
  refine HC1.out.mono ?_
  rintro e w2 ⟨rfl, hE2⟩
  have b0 := cs_ext hE2 b0
  have b1 := cs_ext hE2 b1
  have b2 := cs_ext hE2 b2
  have b3 := cs_ext hE2 b3
  have HT := Lib.hid (HT.out.ext hE2)
  have HE1 := Lib.hid (HE1.out.trans hE2)
  clear hE2
  have HC2 := Lib.hid (RValid_any (w := w2) (t := t) (by have := HZ.out; omega) HT.out)
  rw [← HO2.out] at HC2
  by_cases h1 : o1 = 0
  · have e1 : (o1 != 0) = false := by simp [h1]
    have H1 := Lib.hid h1
    clear h1
    go_wp2_with fail
    refine HC2.out.mono ?_
    rintro e w3 ⟨rfl, hE3⟩
    have HE3 := Lib.hid (HE1.out.trans hE3)
    clear hE3
    go_wp2_with fail
    go_ret
    exact ⟨ri (by rw [H1.out]; simp [orE]), HE3.out⟩
  · have e1 : (o1 != 0) = true := by simp [h1]
    have H1 := Lib.hid h1
    clear h1
    go_wp2_with fail
    go_ret
    exact ⟨ri (by have := H1.out; simp [orE, this]), HE1.out⟩

end Go.Proofs.YtpfnlbaloaohgaaGreat
