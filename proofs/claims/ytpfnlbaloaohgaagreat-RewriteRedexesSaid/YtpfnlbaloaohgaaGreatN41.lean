/- Contracts: the reference's Fits, same, both. -/
import Derived.Test.YtpfnlbaloaohgaaGreatH3
import Derived.Test.YtpfnlbaloaohgaaGreatR8
namespace Go.Proofs.YtpfnlbaloaohgaaGreat
open Go Go.RowKit
set_option linter.unusedVariables false
set_option linter.unusedSimpArgs false

set_option maxHeartbeats 2000000 in
theorem rsame_any {w : World} {S S' : Nat → Prop} {a a' : Option Addr} {cap cap' : Nat} {s t : Tm} (hT : TmW w S a cap s) (hT' : TmW w S' a' cap' t) :
    Calls Tryz.prog 87 #[.agg #[.int .i64 s.kind, .string s.name, .int .i64 s.sort, .slice a s.kids.length cap], .agg #[.int .i64 t.kind, .string t.name, .int .i64 t.sort, .slice a' t.kids.length cap']] w fun e w' => e = .returned (.bool (alikeT s t)) ∧ Ext w w' := by
  have hl := hT.len
  have hc := hT.cap
  have hl' := hT'.len
  have hc' := hT'.cap
  unfold maxLen at hc hc'
  clear hT hT'
  obtain ⟨R, hR⟩ : ∃ R, R = alikeT s t := ⟨_, rfl⟩
  rw [← hR]
  have HR := Lib.hid hR
  clear hR
  go_enter Tryz.func87, Tryz.ntmps87
  go_wp2_with fail
  all_goals go_ret
  all_goals
    refine ⟨rb ?_, (Ext.alloc _ _).then_al _⟩
    rw [HR.out, alikeT_eq]
    simp [*]

theorem rboth_any {w : World} {S S' : Nat → Prop} {a a' : Option Addr} {cap cap' : Nat} {s t : Tm} (hs6 : sizeT s ≤ 1000000) (ht6 : sizeT t ≤ 1000000) (hT : TmW w S a cap s) (hT' : TmW w S' a' cap' t) :
    Calls Tryz.prog 64 #[.agg #[.int .i64 s.kind, .string s.name, .int .i64 s.sort, .slice a s.kids.length cap], .agg #[.int .i64 t.kind, .string t.name, .int .i64 t.sort, .slice a' t.kids.length cap']] w fun e w' => e = .returned (.int .i64 (orE (validT s) (validT t))) ∧ Ext w w' := by
  have hl := hT.len
  have hc := hT.cap
  have hl' := hT'.len
  have hc' := hT'.cap
  have hcon := fun (w' : World) (hE : Ext w w') => RValid_any (w := w') hs6 (hT.ext hE)
  have hcon' := fun (w' : World) (hE : Ext w w') => RValid_any (w := w') ht6 (hT'.ext hE)
  obtain ⟨o, ho⟩ : ∃ o, o = validT s := ⟨_, rfl⟩
  obtain ⟨o', ho'⟩ : ∃ o, o = validT t := ⟨_, rfl⟩
  rw [← ho] at hcon ⊢
  rw [← ho'] at hcon' ⊢
  have HC := Lib.hid hcon
  have HC' := Lib.hid hcon'
  obtain ⟨bx, hbbx⟩ : ∃ zz9, zz9 = w.heap.size := ⟨_, rfl⟩
  obtain ⟨w1, hwbx⟩ : ∃ zz9, zz9 = w.alloc (.cells #[.int .i64 s.kind, .string s.name, .int .i64 s.sort, .slice a s.kids.length cap] 25) := ⟨_, rfl⟩
  have HBbx : Hid (w1.heap[bx]? = some (.cells #[.int .i64 s.kind, .string s.name, .int .i64 s.sort, .slice a s.kids.length cap] 25)) := Lib.hid (by rw [hwbx, hbbx]; exact hs_new)
  have hEbx : Ext w w1 := by rw [hwbx]; exact Ext.alloc _ _
  obtain ⟨by1, hbby1⟩ : ∃ zz9, zz9 = w1.heap.size := ⟨_, rfl⟩
  obtain ⟨w2, hwby1⟩ : ∃ zz9, zz9 = w1.alloc (.cells #[.int .i64 t.kind, .string t.name, .int .i64 t.sort, .slice a' t.kids.length cap'] 25) := ⟨_, rfl⟩
  have HBby1 : Hid (w2.heap[by1]? = some (.cells #[.int .i64 t.kind, .string t.name, .int .i64 t.sort, .slice a' t.kids.length cap'] 25)) := Lib.hid (by rw [hwby1, hbby1]; exact hs_new)
  have hEby1 : Ext w1 w2 := by rw [hwby1]; exact Ext.alloc _ _
  have hE := hEbx.trans hEby1
  have b0 : w2.cell? ⟨bx, 0, none⟩ = some (.int .i64 s.kind) := by rw [cellc (hs_ext hEby1 HBbx.out)]; rfl
  have b1 : w2.cell? ⟨bx, 1, none⟩ = some (.string s.name) := by rw [cellc (hs_ext hEby1 HBbx.out)]; rfl
  have b2 : w2.cell? ⟨bx, 2, none⟩ = some (.int .i64 s.sort) := by rw [cellc (hs_ext hEby1 HBbx.out)]; rfl
  have b3 : w2.cell? ⟨bx, 3, none⟩ = some (.slice a s.kids.length cap) := by rw [cellc (hs_ext hEby1 HBbx.out)]; rfl
  have c0 : w2.cell? ⟨by1, 0, none⟩ = some (.int .i64 t.kind) := by rw [cellc (HBby1.out)]; rfl
  have c1 : w2.cell? ⟨by1, 1, none⟩ = some (.string t.name) := by rw [cellc (HBby1.out)]; rfl
  have c2 : w2.cell? ⟨by1, 2, none⟩ = some (.int .i64 t.sort) := by rw [cellc (HBby1.out)]; rfl
  have c3 : w2.cell? ⟨by1, 3, none⟩ = some (.slice a' t.kids.length cap') := by rw [cellc (HBby1.out)]; rfl
  have hs1 : w1.heap.size = bx + 1 := by rw [hwbx, hbbx, World.size_alloc]
  have HE := Lib.hid hE
  rw [hs1] at hbby1
  clear hcon hcon' hT hT' ho ho' hE hEbx hEby1 hs1
  go_enter Tryz.func64, Tryz.ntmps64
  go_upto_region 1 with fail
  rw [← hwbx, ← hbbx, ← hwby1, ← hbby1]
  clear hwbx hbbx hwby1 hbby1
  by_cases h0 : o = 0
  · subst h0
    go_wp2_with fail
    refine (HC.out _ HE.out).mono ?_
    rintro e w3 ⟨rfl, hE3⟩
    have c0 := cs_ext hE3 c0
    have c1 := cs_ext hE3 c1
    have c2 := cs_ext hE3 c2
    have c3 := cs_ext hE3 c3
    have HE3 := Lib.hid (HE.out.trans hE3)
    clear hE3
    go_wp2_with fail
    refine (HC'.out _ HE3.out).mono ?_
    rintro e w4 ⟨rfl, hE4⟩
    have HE4 := Lib.hid (HE3.out.trans hE4)
    clear hE4
    go_wp2_with fail
    go_ret
    exact ⟨ri (by simp [orE]), HE4.out⟩
  · have HR : Hid (orE o o' = o) := Lib.hid (by simp [orE, h0])
    have e0 : (o != 0) = true := by simp [h0]
    clear h0
    go_wp2_with fail
    refine (HC.out _ HE.out).mono ?_
    rintro e w3 ⟨rfl, hE3⟩
    have HE3 := Lib.hid (HE.out.trans hE3)
    clear hE3
    go_wp2_with fail
    go_ret
    exact ⟨ri HR.out.symm, HE3.out⟩

set_option maxHeartbeats 2000000 in
theorem rFits_any {w : World} {S S' : Nat → Prop} {a a' : Option Addr} {cap cap' : Nat} {s t : Tm} (hT : TmW w S a cap s) (hT' : TmW w S' a' cap' t) :
    Calls Tryz.prog 86 #[.agg #[.int .i64 s.kind, .string s.name, .int .i64 s.sort, .slice a s.kids.length cap], .agg #[.int .i64 t.kind, .string t.name, .int .i64 t.sort, .slice a' t.kids.length cap']] w fun e w' => e = .returned (.bool (fitsT s t)) ∧ Ext w w' := by
  obtain ⟨R, hR⟩ : ∃ R, R = fitsT s t := ⟨_, rfl⟩
  rw [← hR]
  have HR : Hid (R = ((s.sort == 0) || ((t.kind != 3) && (t.sort == s.sort)))) := Lib.hid (by rw [hR, Bool.eq_iff_iff]; simp [fitsT])
  clear hR hT hT'
  go_enter Tryz.func86, Tryz.ntmps86
  go_wp2_with fail
  all_goals go_ret
  all_goals
    refine ⟨rb ?_, (Ext.alloc _ _).then_al _⟩
    first
      | (rw [HR.out]; done)
      | (rw [HR.out]; simp [*]; done)
      | (rw [HR.out]; simp_all; done)

end Go.Proofs.YtpfnlbaloaohgaaGreat
