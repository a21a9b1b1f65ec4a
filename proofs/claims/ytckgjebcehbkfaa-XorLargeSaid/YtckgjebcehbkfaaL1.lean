/- The walk of the law XorParts. -/
import Derived.Test.YtckgjebcehbkfaaY15
namespace Go.Proofs.Ytckgjebcehbkfaa
open Go Go.RowKit
set_option linter.unusedVariables false
set_option linter.unusedSimpArgs false

theorem few_one {L : List Tm} (h : fewT L 20 300 = true) : L.length ≤ 20 ∧ sizeL L ≤ 300 := by have := few_size h; omega

set_option maxRecDepth 100000 in
set_option maxHeartbeats 4000000 in
theorem law_parts {w : World} {S : Nat → Prop} {a : Option Addr} {cap : Nat} {t : Tm} (hT : TmW w S a cap t) :
    Calls Try.prog 3 #[.agg #[.int .i64 t.kind, .string t.name, .int .i64 t.sort, .slice a t.kids.length cap]] w fun e w' => e = .returned (.bool true) ∧ Ext w w' := by
  have hl := hT.len
  have hc := hT.cap
  unfold maxLen at hc
  obtain ⟨bx, hbx⟩ : ∃ bx, bx = w.heap.size := ⟨_, rfl⟩
  obtain ⟨w1, hw1⟩ : ∃ w1, w1 = w.alloc (.cells #[.int .i64 t.kind, .string t.name, .int .i64 t.sort, .slice a t.kids.length cap] 24) := ⟨_, rfl⟩
  have HE1 : Hid (Ext w w1) := Lib.hid (by rw [hw1]; exact Ext.alloc w _)
  have HBX : Hid (w1.heap[bx]? = some (.cells #[.int .i64 t.kind, .string t.name, .int .i64 t.sort, .slice a t.kids.length cap] 24)) := Lib.hid (by rw [hw1, hbx]; exact hs_new)
  have HTW := Lib.hid (hT.below.ext HE1.out)
  have HAW := Lib.hid (awake_any)
  clear hT
  go_enter Try.func3, Try.ntmps3
  go_upto_region 1 with fail
  rw [← hw1, ← hbx]
  clear hw1 hbx
  go_wp2_with fail
  refine (HAW.out _).mono ?_
  rintro e w2 ⟨rfl, hE2⟩
  have h2 := hs_ext hE2 HBX.out
  have b0 : w2.cell? ⟨bx, 0, none⟩ = some (.int .i64 t.kind) := by rw [cellc h2]; rfl
  have b1 : w2.cell? ⟨bx, 1, none⟩ = some (.string t.name) := by rw [cellc h2]; rfl
  have b2 : w2.cell? ⟨bx, 2, none⟩ = some (.int .i64 t.sort) := by rw [cellc h2]; rfl
  have b3 : w2.cell? ⟨bx, 3, none⟩ = some (.slice a t.kids.length cap) := by rw [cellc h2]; rfl
  have hcon := few_any (w := w2.alloc (.cells #[.int .i64 t.kind, .string t.name, .int .i64 t.sort, .slice a t.kids.length cap] 24)) (L := [t]) (one_ls hs_new (HTW.out.ext (hE2.trans (Ext.alloc _ _))))
  obtain ⟨b, hb⟩ : ∃ b, b = fewT [t] 20 300 := ⟨_, rfl⟩
  rw [← hb] at hcon
  have HB := Lib.hid hb
  have HCON : Hid (Calls Try.prog 13 #[.slice (some ⟨w2.heap.size, 0, none⟩) 1 1] (w2.alloc (.cells #[.int .i64 t.kind, .string t.name, .int .i64 t.sort, .slice a t.kids.length cap] 24)) fun e w' => e = .returned (.bool b) ∧ Ext (w2.alloc (.cells #[.int .i64 t.kind, .string t.name, .int .i64 t.sort, .slice a t.kids.length cap] 24)) w') := Lib.hid hcon
  have HE2 := Lib.hid hE2
  clear hcon hb h2 hE2
  go_wp2_with fail
  refine HCON.out.mono ?_
  rintro e w3 ⟨rfl, hE3⟩
  have HE3 : Hid (Ext w1 w3) := Lib.hid ((HE2.out.then_al _).trans hE3)
  clear hE3 b0 b1 b2 b3
  cases b with
  | false =>
    go_wp2_with fail
    refine (HAW.out _).mono ?_
    rintro e w4 ⟨rfl, hE4⟩
    go_wp2_with fail
    go_ret
    exact ⟨rfl, (HE1.out.trans HE3.out).trans hE4⟩
  | true =>
    have hz : sizeT t ≤ 300 := by have := (few_one HB.out.symm).2; simp only [sizeL] at this; omega
    have h3 := hs_ext HE3.out HBX.out
    have b0 : w3.cell? ⟨bx, 0, none⟩ = some (.int .i64 t.kind) := by rw [cellc h3]; rfl
    have b1 : w3.cell? ⟨bx, 1, none⟩ = some (.string t.name) := by rw [cellc h3]; rfl
    have b2 : w3.cell? ⟨bx, 2, none⟩ = some (.int .i64 t.sort) := by rw [cellc h3]; rfl
    have b3 : w3.cell? ⟨bx, 3, none⟩ = some (.slice a t.kids.length cap) := by rw [cellc h3]; rfl
    have hcon := PParts_any (w := w3) (by omega) (HTW.out.ext HE3.out)
    obtain ⟨er, her⟩ : ∃ er, er = validT t := ⟨_, rfl⟩
    obtain ⟨R, hR⟩ : ∃ R, R = partsR t := ⟨_, rfl⟩
    rw [← her, ← hR] at hcon
    have HCON2 := Lib.hid hcon
    have HER := Lib.hid her
    have HR := Lib.hid hR
    have HRS : Hid ((∀ x ∈ R, sizeT x ≤ 1000000) ∧ R.length ≤ 300) := Lib.hid (by
      rw [hR]; unfold partsR
      split
      · exact ⟨fun x hx => by have := sumT_size t x hx; omega, by have := sumT_len t; omega⟩
      · exact ⟨fun x hx => by simp at hx, by simp⟩)
    clear hcon her hR h3
    go_wp2_with fail
    refine HCON2.out.mono ?_
    rintro e w4 ⟨u, rfl, hE4, ua, uc, rfl, hul, huc, hu⟩
    unfold maxLen at huc
    have HU : Hid (LsT w4 Any (.slice ua R.length uc) R) := Lib.hid ⟨ua, uc, rfl, hul, huc, hu⟩
    have hcon := RParts_any (w := w4) (by omega) (fun c hc => hc) ((HTW.out.ext HE3.out).ext hE4).below
    rw [← HER.out, ← HR.out] at hcon
    have HCON3 := Lib.hid hcon
    have b0 := cs_ext hE4 b0
    have b1 := cs_ext hE4 b1
    have b2 := cs_ext hE4 b2
    have b3 := cs_ext hE4 b3
    have HE4 := Lib.hid (HE3.out.trans hE4)
    clear hcon hE4 hu
    go_wp2_with fail
    refine HCON3.out.mono ?_
    rintro e w5 ⟨v, rfl, hE5, va, vc, rfl, hvl, hvc, hv⟩
    unfold maxLen at hvc
    have HV : Hid (LsT w5 Any (.slice va R.length vc) R) := Lib.hid ⟨va, vc, rfl, hvl, hvc, hv⟩
    have hcon := RLists_any (w := w5) (A := R) (B := R) HRS.out.1 HRS.out.1 (HU.out.ext hE5) HV.out
    rw [show decide (R = R) = true by simp] at hcon
    have HCON4 := Lib.hid hcon
    have HE5 := Lib.hid (HE4.out.trans hE5)
    have e1 : (er == er) = true := by simp
    clear hcon hE5 hv b0 b1 b2 b3
    go_wp2_with fail
    refine HCON4.out.mono ?_
    rintro e w6 ⟨rfl, hE6⟩
    have HE6 := Lib.hid ((HE1.out.trans HE5.out).trans hE6)
    clear hE6
    go_wp2_with fail
    go_ret
    exact ⟨rfl, HE6.out⟩

end Go.Proofs.Ytckgjebcehbkfaa
