/- Contracts: the reference's Span. -/
import Derived.Test.YtckgjebcehbkfaaU7
namespace Go.Proofs.Ytckgjebcehbkfaa
open Go Go.RowKit
set_option linter.unusedVariables false
set_option linter.unusedSimpArgs false

set_option maxRecDepth 100000 in
set_option maxHeartbeats 4000000 in
theorem RSpan_any {w : World} {S S' : Nat → Prop} {a a' : Option Addr} {cap cap' : Nat} {L : List Tm} {t : Tm} (hz : sizeL L + sizeT t ≤ 1000) (hL : LsT w S (.slice a L.length cap) L) (hT : TmW w S' a' cap' t) :
    Calls Try.prog 36 #[.slice a L.length cap, .agg #[.int .i64 t.kind, .string t.name, .int .i64 t.sort, .slice a' t.kids.length cap']] w fun e w' => ∃ u er, e = .returned (.tuple #[u, .int .i64 er]) ∧ Ext w w' ∧ ((rightS L [t] ≠ 0 ∧ er = rightS L [t]) ∨ (rightS L [t] = 0 ∧ ((InSpan L t ∧ er = 0) ∨ (¬ InSpan L t ∧ er = 4)))) := by
  obtain ⟨-, hl, hc⟩ := hL.len
  have hl' := hT.len
  have hc' := hT.cap
  unfold maxLen at hc hc'
  have hll := len_size L
  have hl1 : L.length ≤ 1000 := by omega
  obtain ⟨bx, hbx⟩ : ∃ bx, bx = w.heap.size := ⟨_, rfl⟩
  obtain ⟨w1, hw1⟩ : ∃ w1, w1 = w.alloc (.cells #[.int .i64 t.kind, .string t.name, .int .i64 t.sort, .slice a' t.kids.length cap'] 24) := ⟨_, rfl⟩
  have HE1 : Hid (Ext w w1) := Lib.hid (by rw [hw1]; exact Ext.alloc w _)
  have HBX : Hid (w1.heap[bx]? = some (.cells #[.int .i64 t.kind, .string t.name, .int .i64 t.sort, .slice a' t.kids.length cap'] 24)) := Lib.hid (by rw [hw1, hbx]; exact hs_new)
  have HTW := Lib.hid (hT.below.ext HE1.out)
  have HLW := Lib.hid (hL.below.ext HE1.out)
  have HL6 : Hid (∀ x ∈ L, sizeT x ≤ 1000) := Lib.hid (fun x hx => by obtain ⟨i, hi⟩ := List.mem_iff_getElem?.1 hx; have := sizeL_get hi; omega)
  have HZ := Lib.hid hz
  have b0 : w1.cell? ⟨bx, 0, none⟩ = some (.int .i64 t.kind) := by rw [cellc HBX.out]; rfl
  have b1 : w1.cell? ⟨bx, 1, none⟩ = some (.string t.name) := by rw [cellc HBX.out]; rfl
  have b2 : w1.cell? ⟨bx, 2, none⟩ = some (.int .i64 t.sort) := by rw [cellc HBX.out]; rfl
  have b3 : w1.cell? ⟨bx, 3, none⟩ = some (.slice a' t.kids.length cap') := by rw [cellc HBX.out]; rfl
  obtain ⟨er, her⟩ : ∃ er, er = rightS L [t] := ⟨_, rfl⟩
  have HER := Lib.hid her
  have hcon := rvalid_any (w := w1) (fun x hx => by have := HL6.out x hx; omega) (by omega) HLW.out HTW.out
  rw [← her] at hcon
  have HCON := Lib.hid hcon
  clear hL hT hz her hll hcon
  go_enter Try.func36, Try.ntmps36
  go_upto_region 1 with fail
  rw [← hw1, ← hbx]
  clear hw1 hbx
  go_wp2_with fail
  refine HCON.out.mono ?_
  rintro e w3 ⟨rfl, hE3⟩
  have HE3 := Lib.hid hE3
  have b0 := cs_ext hE3 b0
  have b1 := cs_ext hE3 b1
  have b2 := cs_ext hE3 b2
  have b3 := cs_ext hE3 b3
  clear hE3
  by_cases hz : er = 0
  case neg =>
    have e1 : (er != 0) = true := by simp [hz]
    have HZ0 := Lib.hid hz
    clear hz
    go_wp2_with fail
    go_ret2
    exact ⟨_, er, rfl, HE1.out.trans HE3.out, .inl ⟨by rw [← HER.out]; exact HZ0.out, HER.out⟩⟩
  have e1 : (er != 0) = false := by simp [hz]
  have HR0 : Hid (rightS L [t] = 0) := Lib.hid (by rw [← HER.out, hz])
  have hcon := rrows_any (w := w3) (L := L) (by have := HZ.out; omega) (HLW.out.ext HE3.out)
  have HCON2 := Lib.hid hcon
  clear hz hcon
  go_wp2_with fail
  refine HCON2.out.mono ?_
  rintro e w4 ⟨ov, bv, E, B, rfl, hR⟩
  obtain ⟨oa, oc, hov, hol, hoc⟩ := hR.own.slice
  unfold maxLen at hoc
  subst hov
  have HR := Lib.hid hR
  have b0 := cs_ext hR.ext b0
  have b1 := cs_ext hR.ext b1
  have b2 := cs_ext hR.ext b2
  have b3 := cs_ext hR.ext b3
  have hcon := RSummands_any 1000 w4 (fun c => c < w3.heap.size) a' cap' t (by have := HZ.out; omega) (by omega) (fun c hc => by have := HR.out.ext.size; have hc' : c < w3.heap.size := hc; omega) ((HTW.out.ext (HE3.out.trans hR.ext)).wide (fun c hc hlt => by have := HE3.out.size; have := HE1.out.size; have hc' : c < w.heap.size := hc; show c < w3.heap.size; omega))
  have HCON3 := Lib.hid hcon
  clear hR hcon
  go_wp2_with fail
  refine HCON3.out.mono ?_
  rintro e w5 ⟨u, rfl, hE5, hO5⟩
  obtain ⟨ua, uc, hu, hul, huc, -⟩ := id hO5.ls
  unfold maxLen at huc
  subst hu
  have hR5 := HR.out.next hE5
  have hsub : ∀ y ∈ sumT t, y ∈ allS (L ++ [t]) := fun y hy => List.mem_flatMap.2 ⟨t, by simp, hy⟩
  have hsubL : ∀ r ∈ E.map (·.p), ∀ y ∈ r, y ∈ allS (L ++ [t]) := fun r hr y hy => by
    obtain ⟨z, hz, hy2⟩ := List.mem_flatMap.1 (HR.out.sys.sub r hr y hy)
    exact List.mem_flatMap.2 ⟨z, by simp [hz], hy2⟩
  have hall : sizeL (allS (L ++ [t])) ≤ 1000 := by
    have h1 := allS_sizeL (L ++ [t])
    rw [sizeL_append, sizeL, sizeL] at h1
    have := HZ.out
    omega
  have hrow : ∀ e ∈ E, sizeL e.p ≤ 1000 := fun e he => by
    have hm : e.p ∈ E.map (·.p) := List.mem_map.2 ⟨e, he, rfl⟩
    have := nodup_sizeL (asc_nodup (HR.out.sys.asc _ hm)) (hsubL _ hm)
    omega
  have hcon := rreduce_any (w := w5) (lo := 0) (N := L.length) (e0 := { p := sumT t, f := [], a := ua, cap := uc, fa := none, fcap := 0 })
    hR5.own (fun c hc => by have := hR5.ext.size; have hc' : c < w3.heap.size := hc; omega) (fun e he => HR.out.sys.ne _ (List.mem_map.2 ⟨e, he, rfl⟩)) HR.out.ok (by omega) (fun e he => HR.out.sys.asc _ (List.mem_map.2 ⟨e, he, rfl⟩)) hrow
    (fun k => Nat.le_trans (redR_size (M := allS (L ++ [t])) HR.out.sys.asc hsubL (sumT_asc t) hsub k) hall)
    ⟨hO5.ls, ⟨none, 0, rfl, by simp [intL], by unfold maxLen; omega, fun i x hi => by simp [intL] at hi, fun x hx => by simp [intL] at hx⟩, hO5.tyb, fun b o q e => by cases e⟩ (sumT_asc t) (okL_nil _)
    (Nat.zero_le _) (fun b o q e => by cases e)
  have HCON4 := Lib.hid hcon
  have HE5 := Lib.hid ((HE3.out.trans HR.out.ext).trans hE5)
  clear hcon hR5 hsub hsubL hall hrow hO5 hE5 b0 b1 b2 b3
  go_wp2_with (refine wpList_buildR rfl [_] rfl [(0, .slice ua (sumT t).length uc)] rfl (built_row1 _ _ _) ?_)
  refine HCON4.out.mono ?_
  rintro e w6 ⟨r, h5, hE6, hW6, -, hq6, -⟩
  unfold RE.pv RE.fv at h5
  subst h5
  have HP6 : Hid (r.p = redR (E.map (·.p)) (sumT t)) := Lib.hid hq6
  obtain ⟨-, hr1, hr2⟩ := hW6.p.len
  obtain ⟨-, hr3, hr4⟩ := hW6.f.len
  rw [show (intL r.f).length = r.f.length by unfold intL; rw [List.length_map]] at hr3
  unfold maxLen at hr2 hr4
  have HE6 := Lib.hid (HE5.out.trans hE6)
  obtain ⟨p7, hp7⟩ : ∃ p, p = w6.heap.size := ⟨_, rfl⟩
  obtain ⟨w7, hw7⟩ : ∃ w', w' = w6.alloc (.cells #[.slice r.a r.p.length r.cap, .slice r.fa r.f.length r.fcap] 89) := ⟨_, rfl⟩
  have HE7 : Hid (Ext w w7) := Lib.hid (by rw [hw7]; exact (HE1.out.trans HE6.out).then_al _)
  have x0 : w7.cell? ⟨p7, 0, none⟩ = some (.slice r.a r.p.length r.cap) := by rw [hw7, hp7]; exact cs_new rfl
  have x1 : w7.cell? ⟨p7, 1, none⟩ = some (.slice r.fa r.f.length r.fcap) := by rw [hw7, hp7]; exact cs_new rfl
  have HSP := Lib.hid (HR.out.sys.span (t := t))
  clear hE6 hW6 hq6
  go_upto_region 6 with fail
  rw [← hw7, ← hp7]
  clear hw7 hp7
  by_cases hpn : 0 < r.p.length
  · have HNE : Hid (¬ InSpan L t) := Lib.hid (fun h => by
      have h2 := HSP.out.1 h
      rw [← HP6.out] at h2
      rw [h2] at hpn
      simp at hpn)
    go_wp2_with fail
    go_ret2
    exact ⟨_, 4, rfl, HE7.out, .inr ⟨HR0.out, .inr ⟨HNE.out, rfl⟩⟩⟩
  · have HIN : Hid (InSpan L t) := Lib.hid (HSP.out.2 (by rw [← HP6.out]; exact List.length_eq_zero_iff.1 (by omega)))
    go_wp2_with fail
    go_ret2
    exact ⟨_, 0, rfl, HE7.out, .inr ⟨HR0.out, .inl ⟨HIN.out, rfl⟩⟩⟩

end Go.Proofs.Ytckgjebcehbkfaa
