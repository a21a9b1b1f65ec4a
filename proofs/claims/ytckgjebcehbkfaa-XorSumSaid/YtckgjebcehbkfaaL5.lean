/- The walk of the law XorSum. -/
import Derived.Test.YtckgjebcehbkfaaL2
import Derived.Test.YtckgjebcehbkfaaQ1
import Derived.Test.YtckgjebcehbkfaaQ2
namespace Go.Proofs.Ytckgjebcehbkfaa
open Go Go.RowKit
set_option linter.unusedVariables false
set_option linter.unusedSimpArgs false

theorem sizeL_reverse : ∀ L : List Tm, sizeL L.reverse = sizeL L
  | [] => rfl
  | t :: L => by rw [List.reverse_cons, sizeL_append, sizeL_reverse L, sizeL, sizeL, sizeL]; omega

/-- the rest of a list, as the program cuts it -/
theorem LsT.drop_any {w : World} {S : Nat → Prop} {a : Option Addr} {n cap k : Nat} {L : List Tm} (h : LsT w S (.slice a n cap) L) (hk : k ≤ L.length) : LsT w S (.slice (if cap = k then a else a.map (fun x => x.add (k * 4))) (n - k) (cap - k)) (L.drop k) := by
  obtain ⟨hn, hl, hc⟩ := h.len
  have hnil : ∀ a' : Option Addr, L.drop k = [] → LsT w S (.slice a' (n - k) (cap - k)) (L.drop k) := fun a' e => by
    have := congrArg List.length e
    rw [List.length_drop] at this
    simp at this
    refine ⟨a', cap - k, by rw [List.length_drop, hn], by rw [List.length_drop]; omega, by omega, fun i x hi => by rw [e] at hi; simp at hi⟩
  by_cases e : cap = k
  · rw [if_pos e]; exact hnil _ (List.drop_eq_nil_of_le (by omega))
  · rw [if_neg e]
    cases hL : L with
    | nil => rw [← hL]; exact hnil _ (by rw [hL]; simp)
    | cons x M =>
      rw [hL] at h
      obtain ⟨b, off, rfl⟩ := h.some_of
      rw [← hL] at h ⊢
      simp only [Option.map_some, add_none]
      exact h.drop hk

set_option maxRecDepth 100000 in
set_option maxHeartbeats 4000000 in
theorem law_sum {w : World} {S : Nat → Prop} {a : Option Addr} {cap : Nat} {L : List Tm} {at8 : Nat} (hL : LsT w S (.slice a L.length cap) L) (hat : at8 < 256) :
    Calls Try.prog 6 #[.slice a L.length cap, .int .u8 at8] w fun e w' => e = .returned (.bool true) ∧ Ext w w' := by
  obtain ⟨-, hl, hc⟩ := hL.len
  unfold maxLen at hc
  have HLW := Lib.hid hL.below
  have HAW := Lib.hid (awake_any)
  clear hL
  go_enter Try.func6, Try.ntmps6
  go_wp2_with fail
  refine (HAW.out _).mono ?_
  rintro e w1 ⟨rfl, hE1⟩
  have hcon := few_any (w := w1) (HLW.out.ext hE1)
  obtain ⟨fw, hfw⟩ : ∃ fw, fw = fewT L 20 300 := ⟨_, rfl⟩
  rw [← hfw] at hcon
  have HFW := Lib.hid hfw
  have HCON := Lib.hid hcon
  have HE1 := Lib.hid hE1
  clear hcon hfw hE1
  go_wp2_with fail
  refine HCON.out.mono ?_
  rintro e w2 ⟨rfl, hE2⟩
  have HE2 := Lib.hid (HE1.out.trans hE2)
  clear hE2
  cases fw with
  | false =>
    go_wp2_with fail
    refine (HAW.out _).mono ?_
    rintro e w4 ⟨rfl, hE4⟩
    go_wp2_with fail
    go_ret
    exact ⟨rfl, HE2.out.trans hE4⟩
  | true =>
    have HSZ : Hid (L.length ≤ 20 ∧ sizeL L ≤ 300) := Lib.hid (few_one HFW.out.symm)
    have hl20 : L.length ≤ 20 := HSZ.out.1
    obtain ⟨es, hes⟩ : ∃ x, x = errSum L := ⟨_, rfl⟩
    obtain ⟨s, hs⟩ : ∃ x, x = sumR L := ⟨_, rfl⟩
    have HES := Lib.hid hes
    have HS := Lib.hid hs
    have HSS : Hid (sizeT s ≤ 1000) := Lib.hid (by have h1 := sumR_size L; rw [← hs] at h1; have := HSZ.out.2; omega)
    have hcon := sClone_any (w := w2) (by omega) (fun c hc => Nat.lt_of_lt_of_le hc HE2.out.size) (HLW.out.ext HE2.out)
    have HCON2 := Lib.hid hcon
    clear hcon hes hs
    go_wp2_with fail
    refine HCON2.out.mono ?_
    rintro e w3 ⟨u, rfl, hE3, hO3⟩
    obtain ⟨ua, uc, rfl, hul, huc, -⟩ := id hO3.ls
    unfold maxLen at huc
    have hcon := PSum_any (w := w3) (L := L) (by have := HSZ.out.2; omega) hO3.ls
    rw [← HES.out, ← HS.out] at hcon
    have HCON3 := Lib.hid hcon
    have HE3 := Lib.hid (HE2.out.trans hE3)
    clear hcon hO3 hE3
    go_wp2_with fail
    refine HCON3.out.mono ?_
    rintro e w4 ⟨u, rfl, hE4, sa, sc, rfl, hT4⟩
    obtain ⟨p5, hp5⟩ : ∃ p, p = w4.heap.size := ⟨_, rfl⟩
    obtain ⟨w5, hw5⟩ : ∃ w', w' = w4.alloc (.cells #[.int .i64 s.kind, .string s.name, .int .i64 s.sort, .slice sa s.kids.length sc] 24) := ⟨_, rfl⟩
    have HE5 : Hid (Ext w w5) := Lib.hid (by rw [hw5]; exact (HE3.out.trans hE4).then_al _)
    have HB5 : Hid (w5.heap[p5]? = some (.cells #[.int .i64 s.kind, .string s.name, .int .i64 s.sort, .slice sa s.kids.length sc] 24)) := Lib.hid (by rw [hw5, hp5]; exact hs_new)
    have HT5 : Hid (TmW w5 Any sa sc s) := Lib.hid (by rw [hw5]; exact hT4.any.ext (Ext.alloc _ _))
    have hlq := hT4.len
    have hcq := hT4.cap
    unfold maxLen at hcq
    have hcon := RSum_any (w := w5) (L := L) (by have := HSZ.out.2; omega) (fun c hc => Nat.lt_of_lt_of_le hc HE5.out.size) (HLW.out.ext HE5.out)
    rw [← HES.out, ← HS.out] at hcon
    have HCON4 := Lib.hid hcon
    clear hcon
    go_upto_region 4 with fail
    rw [← hw5, ← hp5]
    clear hw5 hp5 hE4 hT4
    go_wp2_with fail
    refine HCON4.out.mono ?_
    rintro e w6 ⟨u, rfl, hE6, ta, tc, rfl, hT6⟩
    obtain ⟨p7, hp7⟩ : ∃ p, p = w6.heap.size := ⟨_, rfl⟩
    obtain ⟨w7, hw7⟩ : ∃ w', w' = w6.alloc (.cells #[.int .i64 s.kind, .string s.name, .int .i64 s.sort, .slice ta s.kids.length tc] 24) := ⟨_, rfl⟩
    have HN7 : Hid (Ext w5 w7) := Lib.hid (by rw [hw7]; exact hE6.then_al _)
    have HE7 := Lib.hid (HE5.out.trans HN7.out)
    have HB7 : Hid (w7.heap[p7]? = some (.cells #[.int .i64 s.kind, .string s.name, .int .i64 s.sort, .slice ta s.kids.length tc] 24)) := Lib.hid (by rw [hw7, hp7]; exact hs_new)
    have HT7 : Hid (TmW w7 Any ta tc s) := Lib.hid (by rw [hw7]; exact hT6.ext (Ext.alloc _ _))
    have hlr := hT6.len
    have hcr := hT6.cap
    unfold maxLen at hcr
    go_upto_region 5 with fail
    rw [← hw7, ← hp7]
    clear hw7 hp7 hE6 hT6
    have f0 : w7.cell? ⟨p5, 0, none⟩ = some (.int .i64 s.kind) := by rw [cellc (hs_ext HN7.out HB5.out)]; rfl
    have f1 : w7.cell? ⟨p5, 1, none⟩ = some (.string s.name) := by rw [cellc (hs_ext HN7.out HB5.out)]; rfl
    have f2 : w7.cell? ⟨p5, 2, none⟩ = some (.int .i64 s.sort) := by rw [cellc (hs_ext HN7.out HB5.out)]; rfl
    have f3 : w7.cell? ⟨p5, 3, none⟩ = some (.slice sa s.kids.length sc) := by rw [cellc (hs_ext HN7.out HB5.out)]; rfl
    have g0 : w7.cell? ⟨p7, 0, none⟩ = some (.int .i64 s.kind) := by rw [cellc HB7.out]; rfl
    have g1 : w7.cell? ⟨p7, 1, none⟩ = some (.string s.name) := by rw [cellc HB7.out]; rfl
    have g2 : w7.cell? ⟨p7, 2, none⟩ = some (.int .i64 s.sort) := by rw [cellc HB7.out]; rfl
    have g3 : w7.cell? ⟨p7, 3, none⟩ = some (.slice ta s.kids.length tc) := by rw [cellc HB7.out]; rfl
    have hsm := fun (w' : World) (hE : Ext w7 w') => RSame_any (w := w') (by have := HSS.out; omega) (by have := HSS.out; omega) (HT5.out.ext (HN7.out.trans hE)) (HT7.out.ext hE)
    rw [show decide (s = s) = true by simp] at hsm
    have HSM := Lib.hid hsm
    have e1 : (es != es) = false := by simp
    clear hsm
    go_wp2_with fail
    refine (HSM.out _ (Ext.refl _)).mono ?_
    rintro e w8 ⟨rfl, hE8⟩
    have HE8 := Lib.hid (HE7.out.trans hE8)
    have HN8 := Lib.hid hE8
    have f0 := cs_ext hE8 f0
    have f1 := cs_ext hE8 f1
    have f2 := cs_ext hE8 f2
    have f3 := cs_ext hE8 f3
    have g0 := cs_ext hE8 g0
    have g1 := cs_ext hE8 g1
    have g2 := cs_ext hE8 g2
    have g3 := cs_ext hE8 g3
    clear hE8
    by_cases hz : es = 0
    case neg =>
      have e2 : (es != 0) = true := by simp [hz]
      have e3 : (es == es) = true := by simp
      clear hz
      go_wp2_with fail
      refine (HSM.out _ HN8.out).mono ?_
      rintro e w9 ⟨rfl, hE9⟩
      have HE9 := Lib.hid (HE8.out.trans hE9)
      clear hE9
      go_wp2_with fail
      go_ret
      exact ⟨rfl, HE9.out⟩
    subst hz
    clear f0 f1 f2 f3 g0 g1 g2 g3
    have hrv := sum_reverse HES.out.symm
    rw [← HS.out] at hrv
    have HRV := Lib.hid hrv
    have hcon := sClone_any (w := w8) (by omega) (fun c hc => Nat.lt_of_lt_of_le hc HE8.out.size) (HLW.out.ext HE8.out)
    have HCON5 := Lib.hid hcon
    clear hcon hrv
    go_wp2_with fail
    refine HCON5.out.mono ?_
    rintro e w9 ⟨u, rfl, hE9, hO9⟩
    have hcon := reverse_own hO9 (fun c hc e => by have := (hO9.lt c e).1; have := HE8.out.size; have hc' : c < w.heap.size := hc; omega) (by omega)
    obtain ⟨va, vc, rfl, hvl, hvc, -⟩ := id hO9.ls
    unfold maxLen at hvc
    have HO9 := Lib.hid hO9
    have HE9 := Lib.hid hE9
    have HCON6 := Lib.hid hcon
    clear hcon hO9 hE9
    go_wp2_with fail
    refine HCON6.out.mono ?_
    rintro e w10 ⟨rfl, hO10, hg10⟩
    have HE10 : Hid (Ext w8 w10) := Lib.hid (HE9.out.grown hg10 (fun q hq => (HO9.out.lt q hq).1))
    have hls : LsT w10 (fun c => c < w.heap.size) (.slice va L.reverse.length vc) L.reverse := by rw [List.length_reverse]; exact hO10.ls
    have hcon := PSum_any (w := w10) (L := L.reverse) (by rw [sizeL_reverse]; have := HSZ.out.2; omega) hls
    rw [HRV.out.1, HRV.out.2, List.length_reverse] at hcon
    have HCON7 := Lib.hid hcon
    clear hcon hO10 hg10 hls
    go_wp2_with fail
    refine HCON7.out.mono ?_
    rintro e w11 ⟨u, rfl, hE11, xa, xc, rfl, hT11⟩
    obtain ⟨p10, hp10⟩ : ∃ p, p = w11.heap.size := ⟨_, rfl⟩
    obtain ⟨w12, hw12⟩ : ∃ w', w' = w11.alloc (.cells #[.int .i64 s.kind, .string s.name, .int .i64 s.sort, .slice xa s.kids.length xc] 24) := ⟨_, rfl⟩
    have HN12 : Hid (Ext w8 w12) := Lib.hid (by rw [hw12]; exact (HE10.out.trans hE11).then_al _)
    have HE12 := Lib.hid (HE8.out.trans HN12.out)
    have HB12 : Hid (w12.heap[p10]? = some (.cells #[.int .i64 s.kind, .string s.name, .int .i64 s.sort, .slice xa s.kids.length xc] 24)) := Lib.hid (by rw [hw12, hp10]; exact hs_new)
    have HT12 : Hid (TmW w12 Any xa xc s) := Lib.hid (by rw [hw12]; exact hT11.any.ext (Ext.alloc _ _))
    have hlx := hT11.len
    have hcx := hT11.cap
    unfold maxLen at hcx
    obtain ⟨k, hk⟩ : ∃ k : Nat, k = at8 % (L.length + 1) := ⟨_, rfl⟩
    have hkl : k ≤ L.length := by rw [hk]; exact Nat.lt_succ_iff.1 (Nat.mod_lt _ (by omega))
    have hki : (at8 : Int) % ((L.length : Int) + 1) = (k : Int) := by rw [hk, Int.natCast_emod]; rfl
    go_upto_region 10 with fail
    rw [← hw12, ← hp10]
    clear hw12 hp10 hE11 hT11 hk
    go_upto_region 11 with fail
    have hkc : k ≤ cap := by omega
    obtain ⟨X, hX⟩ : ∃ X, X = L.take k := ⟨_, rfl⟩
    obtain ⟨Y, hY⟩ : ∃ Y, Y = L.drop k := ⟨_, rfl⟩
    have HXY : Hid (X ++ Y = L ∧ X.length = k ∧ Y.length = L.length - k ∧ sizeL X ≤ 300 ∧ sizeL Y ≤ 300) := Lib.hid (by
      have h1 := sizeL_append X Y
      have h2 : X ++ Y = L := by rw [hX, hY, List.take_append_drop]
      rw [h2] at h1
      have := HSZ.out.2
      exact ⟨h2, by rw [hX, List.length_take]; omega, by rw [hY, List.length_drop], by omega, by omega⟩)
    have hlx : LsT w12 (fun c => c < w.heap.size) (.slice a X.length cap) X := by rw [HXY.out.2.1, hX]; exact (HLW.out.ext HE12.out).take hkl
    have hcon := sClone_any (w := w12) (by have := HXY.out.2.1; omega) (fun c hc => Nat.lt_of_lt_of_le hc HE12.out.size) hlx
    rw [HXY.out.2.1] at hcon
    have HCON8 := Lib.hid hcon
    have HY := Lib.hid hY
    clear hcon hlx hX hY
    go_wp2_with fail
    refine HCON8.out.mono ?_
    rintro e w13 ⟨u, rfl, hE13, hO13⟩
    obtain ⟨na, nc, rfl, hnl, hnc, -⟩ := id hO13.ls
    unfold maxLen at hnc
    have hcon := PSum_any (w := w13) (L := X) (by have := HXY.out.2.2.2.1; omega) hO13.ls
    obtain ⟨ex, hex⟩ : ∃ x, x = errSum X := ⟨_, rfl⟩
    obtain ⟨sx, hsx⟩ : ∃ x, x = sumR X := ⟨_, rfl⟩
    rw [← hex, ← hsx] at hcon
    have HEX := Lib.hid hex
    have HSX := Lib.hid hsx
    have HCON9 := Lib.hid hcon
    have HE13 := Lib.hid (HN12.out.trans hE13)
    have HM13 := Lib.hid hE13
    clear hcon hex hsx hO13 hE13
    go_wp2_with fail
    refine HCON9.out.mono ?_
    rintro e w14 ⟨u, rfl, hE14, ya, yc, rfl, hT14⟩
    obtain ⟨p13, hp13⟩ : ∃ p, p = w14.heap.size := ⟨_, rfl⟩
    obtain ⟨w15, hw15⟩ : ∃ w', w' = w14.alloc (.cells #[.int .i64 sx.kind, .string sx.name, .int .i64 sx.sort, .slice ya sx.kids.length yc] 24) := ⟨_, rfl⟩
    have HN15 : Hid (Ext w8 w15) := Lib.hid (by rw [hw15]; exact (HE13.out.trans hE14).then_al _)
    have HE15 := Lib.hid (HE8.out.trans HN15.out)
    have HB15 : Hid (w15.heap[p13]? = some (.cells #[.int .i64 sx.kind, .string sx.name, .int .i64 sx.sort, .slice ya sx.kids.length yc] 24)) := Lib.hid (by rw [hw15, hp13]; exact hs_new)
    have HT15 : Hid (TmW w15 Any ya yc sx) := Lib.hid (by rw [hw15]; exact hT14.any.ext (Ext.alloc _ _))
    have hly := hT14.len
    have hcy := hT14.cap
    unfold maxLen at hcy
    have HM15 : Hid (Ext w12 w15) := Lib.hid (by rw [hw15]; exact ((show Ext w12 w13 from HM13.out).trans hE14).then_al _)
    go_upto_region 12 with fail
    rw [← hw15, ← hp13]
    clear hw15 hp13 hE14 hT14
    have hk0 : (0 : Int) ≤ (k : Int) := by omega
    obtain ⟨ey, hey⟩ : ∃ x, x = errSum Y := ⟨_, rfl⟩
    obtain ⟨sy, hsy⟩ : ∃ x, x = sumR Y := ⟨_, rfl⟩
    have HEY := Lib.hid hey
    have HSY := Lib.hid hsy
    have hd := (HLW.out.ext HE15.out).drop_any hkl
    rw [← HY.out] at hd
    have HD1 : Hid (cap = k → LsT w15 (fun c => c < w.heap.size) (.slice a (L.length - k) 0) Y) := Lib.hid (fun e => by rw [if_pos e] at hd; rwa [show cap - k = 0 by omega] at hd)
    have HD2 : Hid (¬ cap = k → LsT w15 (fun c => c < w.heap.size) (.slice (Option.map (fun x => x.add (k * 4)) a) (L.length - k) (cap - k)) Y) := Lib.hid (fun e => by rwa [if_neg e] at hd)
    clear hey hsy hd
    go_cut [15, 16] from 83 to 89 (fun v15 v16 wx => ∃ pb qa qc, v15 = .pointer (some ⟨pb, 0, none⟩) ∧ v16 = .int .i64 ey ∧ Ext w15 wx ∧ wx.heap[pb]? = some (.cells #[.int .i64 sy.kind, .string sy.name, .int .i64 sy.sort, .slice qa sy.kids.length qc] 24) ∧ TmW wx Any qa qc sy)
    case first =>
      by_cases hq : cap = k
      · have hls := HD1.out hq
        have hYl : Y.length = 0 := by rw [HXY.out.2.2.1]; omega
        rw [← HXY.out.2.2.1, hYl] at hls
        subst hq
        go_wp2_with fail
        have hcon := sClone_any (w := w15) (L := Y) (by have := HXY.out.2.2.1; omega) (fun c hc => Nat.lt_of_lt_of_le hc HE15.out.size) (by rw [hYl]; exact hls)
        rw [hYl] at hcon
        refine hcon.mono ?_
        clear hcon hls hYl
        rintro e w16 ⟨u, rfl, hE16, hO16⟩
        obtain ⟨ma, mc, rfl, hml, hmc, -⟩ := id hO16.ls
        unfold maxLen at hmc
        have hcon := PSum_any (w := w16) (L := Y) (by have := HXY.out.2.2.2.2; omega) hO16.ls
        rw [← HEY.out, ← HSY.out] at hcon
        have HCONA := Lib.hid hcon
        have HE16 := Lib.hid hE16
        clear hcon hO16 hE16
        go_wp2_with fail
        refine HCONA.out.mono ?_
        rintro e w17 ⟨u, rfl, hE17, za, zc, rfl, hT17⟩
        have HE17 := Lib.hid (HE16.out.trans hE17)
        have HT17 := Lib.hid hT17.any
        clear hE17 hT17
        go_wp2_with fail
        go_meet
        exact ⟨_, _, _, rfl, rfl, HE17.out.then_al _, hs_new, HT17.out.ext (Ext.alloc _ _)⟩
      · have hls := HD2.out hq
        have hYl := HXY.out.2.2.1
        go_wp2_with fail
        have hcon := sClone_any (w := w15) (L := Y) (by have := HXY.out.2.2.1; omega) (fun c hc => Nat.lt_of_lt_of_le hc HE15.out.size) (by rw [hYl]; exact hls)
        rw [hYl] at hcon
        refine hcon.mono ?_
        clear hcon hls hYl
        rintro e w16 ⟨u, rfl, hE16, hO16⟩
        obtain ⟨ma, mc, rfl, hml, hmc, -⟩ := id hO16.ls
        unfold maxLen at hmc
        have hcon := PSum_any (w := w16) (L := Y) (by have := HXY.out.2.2.2.2; omega) hO16.ls
        rw [← HEY.out, ← HSY.out] at hcon
        have HCONA := Lib.hid hcon
        have HE16 := Lib.hid hE16
        clear hcon hO16 hE16
        go_wp2_with fail
        refine HCONA.out.mono ?_
        rintro e w17 ⟨u, rfl, hE17, za, zc, rfl, hT17⟩
        have HE17 := Lib.hid (HE16.out.trans hE17)
        have HT17 := Lib.hid hT17.any
        clear hE17 hT17
        go_wp2_with fail
        go_meet
        exact ⟨_, _, _, rfl, rfl, HE17.out.then_al _, hs_new, HT17.out.ext (Ext.alloc _ _)⟩
    case rest =>
      obtain ⟨p15, za, zc, rfl, rfl, hE18, hB18, hT18⟩ := hcut
      have HE18 := Lib.hid hE18
      have HB18 := Lib.hid hB18
      have hlz := hT18.len
      have hcz := hT18.cap
      unfold maxLen at hcz
      have x0 : wc.cell? ⟨p13, 0, none⟩ = some (.int .i64 sx.kind) := by rw [cellc (hs_ext hE18 HB15.out)]; rfl
      have x1 : wc.cell? ⟨p13, 1, none⟩ = some (.string sx.name) := by rw [cellc (hs_ext hE18 HB15.out)]; rfl
      have x2 : wc.cell? ⟨p13, 2, none⟩ = some (.int .i64 sx.sort) := by rw [cellc (hs_ext hE18 HB15.out)]; rfl
      have x3 : wc.cell? ⟨p13, 3, none⟩ = some (.slice ya sx.kids.length yc) := by rw [cellc (hs_ext hE18 HB15.out)]; rfl
      have y0 : wc.cell? ⟨p15, 0, none⟩ = some (.int .i64 sy.kind) := by rw [cellc hB18]; rfl
      have y1 : wc.cell? ⟨p15, 1, none⟩ = some (.string sy.name) := by rw [cellc hB18]; rfl
      have y2 : wc.cell? ⟨p15, 2, none⟩ = some (.int .i64 sy.sort) := by rw [cellc hB18]; rfl
      have y3 : wc.cell? ⟨p15, 3, none⟩ = some (.slice za sy.kids.length zc) := by rw [cellc hB18]; rfl
      have hcon := PAdd_new (w := wc) (s := sx) (t := sy) (by
        have h1 := sumR_size X; rw [← HSX.out] at h1
        have h2 := sumR_size Y; rw [← HSY.out] at h2
        have := HXY.out.2.2.2; omega) (HT15.out.ext hE18) hT18
      obtain ⟨eg, heg⟩ : ∃ x, x = errSum [sx, sy] := ⟨_, rfl⟩
      obtain ⟨sg, hsg⟩ : ∃ x, x = sumR [sx, sy] := ⟨_, rfl⟩
      rw [← heg, ← hsg] at hcon
      have HCONB := Lib.hid hcon
      have HEG := Lib.hid heg
      have HSG := Lib.hid hsg
      clear hcon heg hsg hE18 hB18 hT18
      go_wp2_with fail
      refine HCONB.out.mono ?_
      rintro e w19 ⟨u, rfl, hE19, qa, qc, rfl, hT19⟩
      obtain ⟨p17, hp17⟩ : ∃ p, p = w19.heap.size := ⟨_, rfl⟩
      obtain ⟨w20, hw20⟩ : ∃ w', w' = w19.alloc (.cells #[.int .i64 sg.kind, .string sg.name, .int .i64 sg.sort, .slice qa sg.kids.length qc] 24) := ⟨_, rfl⟩
      have HM20 : Hid (Ext wc w20) := Lib.hid (by rw [hw20]; exact hE19.then_al _)
      have HN20 : Hid (Ext w15 w20) := Lib.hid (HE18.out.trans HM20.out)
      have HB20 : Hid (w20.heap[p17]? = some (.cells #[.int .i64 sg.kind, .string sg.name, .int .i64 sg.sort, .slice qa sg.kids.length qc] 24)) := Lib.hid (by rw [hw20, hp17]; exact hs_new)
      have HT20 : Hid (TmW w20 Any qa qc sg) := Lib.hid (by rw [hw20]; exact hT19.any.ext (Ext.alloc _ _))
      have hlg := hT19.len
      have hcg := hT19.cap
      unfold maxLen at hcg
      go_upto_region 14 with fail
      rw [← hw20, ← hp17]
      clear hw20 hp17 hE19 hT19 x0 x1 x2 x3 y0 y1 y2 y3
      have hU := (HN8.out.trans HN15.out).trans HN20.out
      have hV := HM15.out.trans HN20.out
      have g0 : w20.cell? ⟨p7, 0, none⟩ = some (.int .i64 s.kind) := by rw [cellc (hs_ext hU HB7.out)]; rfl
      have g1 : w20.cell? ⟨p7, 1, none⟩ = some (.string s.name) := by rw [cellc (hs_ext hU HB7.out)]; rfl
      have g2 : w20.cell? ⟨p7, 2, none⟩ = some (.int .i64 s.sort) := by rw [cellc (hs_ext hU HB7.out)]; rfl
      have g3 : w20.cell? ⟨p7, 3, none⟩ = some (.slice ta s.kids.length tc) := by rw [cellc (hs_ext hU HB7.out)]; rfl
      have f0 : w20.cell? ⟨p10, 0, none⟩ = some (.int .i64 s.kind) := by rw [cellc (hs_ext hV HB12.out)]; rfl
      have f1 : w20.cell? ⟨p10, 1, none⟩ = some (.string s.name) := by rw [cellc (hs_ext hV HB12.out)]; rfl
      have f2 : w20.cell? ⟨p10, 2, none⟩ = some (.int .i64 s.sort) := by rw [cellc (hs_ext hV HB12.out)]; rfl
      have f3 : w20.cell? ⟨p10, 3, none⟩ = some (.slice xa s.kids.length xc) := by rw [cellc (hs_ext hV HB12.out)]; rfl
      have k0 : w20.cell? ⟨p17, 0, none⟩ = some (.int .i64 sg.kind) := by rw [cellc HB20.out]; rfl
      have k1 : w20.cell? ⟨p17, 1, none⟩ = some (.string sg.name) := by rw [cellc HB20.out]; rfl
      have k2 : w20.cell? ⟨p17, 2, none⟩ = some (.int .i64 sg.sort) := by rw [cellc HB20.out]; rfl
      have k3 : w20.cell? ⟨p17, 3, none⟩ = some (.slice qa sg.kids.length qc) := by rw [cellc HB20.out]; rfl
      have hsm := RSame_any (w := w20) (by have := HSS.out; omega) (by have := HSS.out; omega) (HT12.out.ext hV) (HT7.out.ext hU)
      rw [show decide (s = s) = true by simp] at hsm
      have HSM1 := Lib.hid hsm
      have HSM2 : Hid (ex = 0 → ey = 0 → eg = 0 ∧ ∀ w' : World, Ext w20 w' → Calls Try.prog 22 #[.agg #[.int .i64 sg.kind, .string sg.name, .int .i64 sg.sort, .slice qa sg.kids.length qc], .agg #[.int .i64 s.kind, .string s.name, .int .i64 s.sort, .slice ta s.kids.length tc]] w' fun e w'' => e = .returned (.bool true) ∧ Ext w' w'') := Lib.hid (fun h1 h2 => by
        rw [HEX.out] at h1
        rw [HEY.out] at h2
        have h0 := HES.out.symm
        rw [← HXY.out.1] at h0
        obtain ⟨a1, a2⟩ := sum_split h0 h1 h2
        rw [← HSX.out, ← HSY.out] at a1 a2
        rw [HXY.out.1, ← HS.out, ← HSG.out] at a2
        rw [← HEG.out] at a1
        refine ⟨a1, fun w' hE => ?_⟩
        have h5 := HT20.out.ext hE
        have h6 := HT7.out.ext (hU.trans hE)
        have hsm := RSame_any (w := w') (by have := HSS.out; rw [a2]; omega) (by have := HSS.out; omega) h5 h6
        rwa [show decide (sg = s) = true by rw [a2]; simp] at hsm)
      have HE20 := Lib.hid (HE15.out.trans HN20.out)
      have hU := Lib.hid hU
      have hV := Lib.hid hV
      have e3 : ((0 : Int) == 0) = true := rfl
      clear hsm
      by_cases hz : ex = 0
      · have e4 : (ex != 0) = false := by simp [hz]
        by_cases hz2 : ey = 0
        · have e5 : (ey != 0) = false := by simp [hz2]
          obtain ⟨hz3, hsm2⟩ := HSM2.out hz hz2
          have e6 : (eg == 0) = true := by simp [hz3]
          have HSM3 := Lib.hid hsm2
          clear hz hz2 hz3 hsm2
          go_wp2_with fail
          refine HSM1.out.mono ?_
          rintro e w21 ⟨rfl, hE21⟩
          have HE21 := Lib.hid hE21
          have k0 := cs_ext hE21 k0
          have k1 := cs_ext hE21 k1
          have k2 := cs_ext hE21 k2
          have k3 := cs_ext hE21 k3
          have g0 := cs_ext hE21 g0
          have g1 := cs_ext hE21 g1
          have g2 := cs_ext hE21 g2
          have g3 := cs_ext hE21 g3
          clear hE21
          go_wp2_with fail
          refine (HSM3.out _ HE21.out).mono ?_
          rintro e w22 ⟨rfl, hE22⟩
          have HE22 := Lib.hid ((HE20.out.trans HE21.out).trans hE22)
          clear hE22
          go_wp2_with fail
          go_ret
          exact ⟨rfl, HE22.out⟩
        · have e5 : (ey != 0) = true := by simp [hz2]
          clear hz hz2
          go_wp2_with fail
          refine HSM1.out.mono ?_
          rintro e w21 ⟨rfl, hE21⟩
          have HE21 := Lib.hid (HE20.out.trans hE21)
          clear hE21
          go_wp2_with fail
          go_ret
          exact ⟨rfl, HE21.out⟩
      · have e4 : (ex != 0) = true := by simp [hz]
        clear hz
        go_wp2_with fail
        refine HSM1.out.mono ?_
        rintro e w21 ⟨rfl, hE21⟩
        have HE21 := Lib.hid (HE20.out.trans hE21)
        clear hE21
        go_wp2_with fail
        go_ret
        exact ⟨rfl, HE21.out⟩

theorem law_sum8 {w : World} {S : Nat → Prop} {a : Option Addr} {cap : Nat} {L : List Tm} {n : Int} (hL : LsT w S (.slice a L.length cap) L) (hw : (Lit.int .u8 n).wf = true) :
    Calls Try.prog 6 #[.slice a L.length cap, .int .u8 n] w fun e w' => e = .returned (.bool true) ∧ Ext w w' := by
  simp [Lit.wf, IntKind.min, IntKind.max, IntKind.signed, IntKind.bits] at hw
  obtain ⟨m, rfl⟩ : ∃ m : Nat, n = (m : Int) := ⟨n.toNat, by omega⟩
  exact law_sum hL (by omega)

end Go.Proofs.Ytckgjebcehbkfaa
