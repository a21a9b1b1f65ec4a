/- The walk of the law RewriteJoins. -/
import Derived.Test.YtpfnlbaloaohgaaGreatAL
import Derived.Test.YtpfnlbaloaohgaaGreatN51
import Derived.Test.YtpfnlbaloaohgaaGreatH11
namespace Go.Proofs.YtpfnlbaloaohgaaGreat
open Go Go.RowKit
set_option linter.unusedVariables false
set_option linter.unusedSimpArgs false

set_option maxRecDepth 100000 in
set_option maxHeartbeats 16000000 in
theorem law_joins {w : World} {S S' S'' : Nat → Prop} {a ta ua : Option Addr} {cap tc uc : Nat} {C : List Nat} {t u : Tm} (hC : LsG elB w S (.slice a C.length cap) C) (hT : TmW w S' ta tc t) (hU : TmW w S'' ua uc u) :
 Calls Tryz.prog 8 #[.slice a C.length cap, .agg #[.int .i64 t.kind, .string t.name, .int .i64 t.sort, .slice ta t.kids.length tc], .agg #[.int .i64 u.kind, .string u.name, .int .i64 u.sort, .slice ua u.kids.length uc]] w fun e w' => e = .returned (.bool true) ∧ Ext w w' := by
 obtain ⟨-, hll, hlc⟩ := hC.len
 unfold maxLen at hlc
 obtain ⟨bx, w1, hbbx, hwbx, HBbx, hEbx⟩ := box_new w (.cells #[.int .i64 t.kind, .string t.name, .int .i64 t.sort, .slice ta t.kids.length tc] 25)
 have hs1 : w1.heap.size = bx + 1 := by rw [hwbx, hbbx, World.size_alloc]
 obtain ⟨dx, hdx⟩ : ∃ zz9, zz9 = bx + 1 := ⟨_, rfl⟩
 obtain ⟨w2, hw2⟩ : ∃ zz9, zz9 = w1.alloc (.cells #[.int .i64 u.kind, .string u.name, .int .i64 u.sort, .slice ua u.kids.length uc] 25) := ⟨_, rfl⟩
 have hE2 : Ext w1 w2 := by rw [hw2]; exact Ext.alloc _ _
 have hbd : w2.heap[dx]? = some (.cells #[.int .i64 u.kind, .string u.name, .int .i64 u.sort, .slice ua u.kids.length uc] 25) := by rw [hw2, hdx, ← hs1]; exact hs_new
 have hEa := hEbx.trans hE2
 obtain ⟨b0, b1, b2, b3⟩ := box4r (hs_ext hE2 HBbx.out)
 obtain ⟨d0, d1, d2, d3⟩ := box4r (hbd)
 have HC := Lib.hid (hC.ext hEa)
 have HT := Lib.hid (hT.ext hEa).any
 have HU := Lib.hid (hU.ext hEa).any
 have HE1 := Lib.hid hEa
 have HCA := Lib.hid (fun w' => awake5 (w := w'))
 obtain ⟨o2, ho2⟩ : ∃ o, o = fewT [t, u] 2 40 := ⟨_, rfl⟩
 have HO2 := Lib.hid ho2
 clear hC hT hU hEbx ho2 hs1 hE2 hbd hEa
 go_enter Tryz.func8, Tryz.ntmps8
 go_upto_region 1 with fail
 rw [← hwbx, ← hbbx, ← hw2, ← hdx]
 clear hwbx hbbx hw2 hdx
 go_wp2_with fail
 refine (HCA.out _).mono ?_
 rintro e w3 ⟨rfl, hE3⟩
 obtain ⟨b0, b1, b2, b3, d0, d1, d2, d3⟩ := cs_e8 hE3 ⟨b0, b1, b2, b3, d0, d1, d2, d3⟩
 have HC := Lib.hid (HC.out.ext hE3)
 have HT := Lib.hid (HT.out.ext hE3)
 have HU := Lib.hid (HU.out.ext hE3)
 have HE1 := Lib.hid (HE1.out.trans hE3)
 clear hE3
 obtain ⟨fb, hfb⟩ : ∃ zz9, zz9 = w3.heap.size := ⟨_, rfl⟩
 obtain ⟨w4, hw4⟩ : ∃ zz9, zz9 = w3.alloc (.cells #[.int .i64 t.kind, .string t.name, .int .i64 t.sort, .slice ta t.kids.length tc, .int .i64 u.kind, .string u.name, .int .i64 u.sort, .slice ua u.kids.length uc] 25) := ⟨_, rfl⟩
 have hE4 : Ext w3 w4 := by rw [hw4]; exact Ext.alloc _ _
 have hfl : TsA w4 Any (some ⟨fb, 0, none⟩) [t, u] := two_ts (by rw [hw4, hfb]; exact hs_new) (HT.out.ext hE4) (HU.out.ext hE4)
 have hcf := Few_any (w := w4) (n := 2) (m := 40) (L := [t, u]) (cap := 2) (by omega) (by omega) (by omega) (by unfold maxLen; simp) hfl
 rw [← HO2.out] at hcf
 have HCF2 := Lib.hid hcf
 go_wp2_with fail
 rw [← hw4, ← hfb]
 clear hw4 hfb
 obtain ⟨b0, b1, b2, b3, d0, d1, d2, d3⟩ := cs_e8 hE4 ⟨b0, b1, b2, b3, d0, d1, d2, d3⟩
 have HC := Lib.hid (HC.out.ext hE4)
 have HT := Lib.hid (HT.out.ext hE4)
 have HU := Lib.hid (HU.out.ext hE4)
 have HE1 := Lib.hid (HE1.out.trans hE4)
 clear hE4 hfl hcf
 refine HCF2.out.mono ?_
 rintro e w5 ⟨rfl, hE5⟩
 obtain ⟨b0, b1, b2, b3, d0, d1, d2, d3⟩ := cs_e8 hE5 ⟨b0, b1, b2, b3, d0, d1, d2, d3⟩
 have HC := Lib.hid (HC.out.ext hE5)
 have HT := Lib.hid (HT.out.ext hE5)
 have HU := Lib.hid (HU.out.ext hE5)
 have HE1 := Lib.hid (HE1.out.trans hE5)
 clear hE5
 cases o2 with
 | false =>
   go_wp2_with fail
   refine (HCA.out _).mono ?_
   rintro e w9 ⟨rfl, hE9⟩
   have HE9 := Lib.hid (HE1.out.trans hE9)
   clear hE9
   go_wp2_with fail
   go_ret
   exact ⟨rfl, HE9.out⟩
 | true =>
   have HTZ : Hid (sizeT t ≤ 40 ∧ sizeT u ≤ 40) := Lib.hid (by have := few_two HO2.out.symm; omega)
   have hcr := RRulesOf_any HC.out
   obtain ⟨R, hR⟩ : ∃ R, R = rulesOf C := ⟨_, rfl⟩
   rw [← hR] at hcr
   have HCR := Lib.hid hcr
   have HS : Hid (smallR R) := Lib.hid (by rw [hR]; exact rulesOf_small C)
   clear hcr hR
   go_wp2_with fail
   refine HCR.out.mono ?_
   rintro e w6 ⟨v, rfl, hE6, hL6⟩
   obtain ⟨ra, rc, rfl, hrl, hrc⟩ := hL6.slice
   unfold maxLen at hrc
   obtain ⟨b0, b1, b2, b3, d0, d1, d2, d3⟩ := cs_e8 hE6 ⟨b0, b1, b2, b3, d0, d1, d2, d3⟩
   have HT := Lib.hid (HT.out.ext hE6)
   have HU := Lib.hid (HU.out.ext hE6)
   have HE1 := Lib.hid (HE1.out.trans hE6)
   have HL := Lib.hid hL6.any
   clear hE6 hL6
   obtain ⟨Q, hQ⟩ : ∃ Q, Q = joinsP R t u 30 := ⟨_, rfl⟩
   have hq0 : Q.1 ≠ 0 → Q.2 = zeroJ := fun h => by rw [hQ] at h ⊢; exact joinsP_zero h
   have HXZ : Hid (sizeT Q.2.2.2 ≤ 400) := Lib.hid (by rw [hQ]; exact joinsP_size _ _ _ _)
   have HGD : Hid (Q.1 = 0 → checkJ R t u Q.2 = true) := Lib.hid (fun h => by rw [hQ] at h ⊢; exact joinsP_good h)
   have hcp := (PJoins_any (w := w6) (fuel := 30) HS.out (by unfold I64; omega) HL.out (by have := HTZ.out; omega) HT.out (by have := HTZ.out; omega) HU.out).mono (R' := fun e w'' => ∃ v, e = .returned (.tuple #[v, .int .i64 Q.1]) ∧ Ext w6 w'' ∧ joinV w'' Any v Q.2) (fun e w'' ⟨v, er, h1, h2, h3⟩ => by
    rw [← hQ] at h3
    obtain ⟨rfl, h4⟩ := joinR_res h3 hq0
    exact ⟨v, h1, h2, h4⟩)
   have hcn := fun (w' : World) (hE : Ext w6 w') => (RJoins_any (w := w') (fuel := 30) HS.out (by unfold I64; omega) (HL.out.ext hE) (by have := HTZ.out; omega) (HT.out.ext hE) (by have := HTZ.out; omega) (HU.out.ext hE)).mono (R' := fun e w'' => ∃ v, e = .returned (.tuple #[v, .int .i64 Q.1]) ∧ Ext w' w'' ∧ joinV w'' Any v Q.2) (fun e w'' ⟨v, er, h1, h2, h3⟩ => by
    rw [← hQ] at h3
    obtain ⟨rfl, h4⟩ := joinR_res h3 hq0
    exact ⟨v, h1, h2, h4⟩)
   obtain ⟨er, A, B, x⟩ := Q
   simp only at HXZ HGD hcp hcn
   have HCP := Lib.hid hcp
   have HCN := Lib.hid hcn
   clear hQ hq0 hcp hcn
   go_wp2_with fail
   refine HCP.out.mono ?_
   rintro e w7 ⟨v, rfl, hE7, la, lc, pa, pc, xa, xc, rfl, hA, hB, hTx⟩
   simp only at hA hB hTx ⊢
   obtain ⟨-, hal, hac⟩ := hA.len
   obtain ⟨-, hbl, hbc⟩ := hB.len
   have hlx := hTx.len
   have hcx := hTx.cap
   unfold maxLen at hac hbc hcx
   obtain ⟨xx, hxx⟩ : ∃ zz9, zz9 = w7.heap.size := ⟨_, rfl⟩
   obtain ⟨w8, hw8⟩ : ∃ zz9, zz9 = w7.alloc (.cells #[.slice la A.length lc, .slice pa B.length pc, .int .i64 x.kind, .string x.name, .int .i64 x.sort, .slice xa x.kids.length xc] 48) := ⟨_, rfl⟩
   have hE78 : Ext w7 w8 := by rw [hw8]; exact Ext.alloc _ _
   obtain ⟨x0, x1, x2, x3, x4, x5⟩ := box6 (show w8.heap[xx]? = some (.cells #[.slice la A.length lc, .slice pa B.length pc, .int .i64 x.kind, .string x.name, .int .i64 x.sort, .slice xa x.kids.length xc] 48) by rw [hw8, hxx]; exact hs_new)
   have hE68 := hE7.trans hE78
   have HA := Lib.hid (hA.ext hE78)
   have HB' := Lib.hid (hB.ext hE78)
   have HTX := Lib.hid (hTx.ext hE78)
   have HE68 := Lib.hid hE68
   obtain ⟨b0, b1, b2, b3, d0, d1, d2, d3⟩ := cs_e8 hE68 ⟨b0, b1, b2, b3, d0, d1, d2, d3⟩
   have HE1 := Lib.hid (HE1.out.trans hE68)
   clear hE7 hA hB hTx hE78 hE68
   go_upto_region 5 with fail
   rw [← hw8, ← hxx]
   clear hw8 hxx
   go_wp2_with fail
   refine (HCN.out _ HE68.out).mono ?_
   rintro e w9 ⟨v, rfl, hE9, ma, mc, qa, qc, ya, yc, rfl, hD, hG, hTy⟩
   simp only at hD hG hTy ⊢
   obtain ⟨-, hdl, hdc⟩ := hD.len
   obtain ⟨-, hgl, hgc⟩ := hG.len
   have hly := hTy.len
   have hcy := hTy.cap
   unfold maxLen at hdc hgc hcy
   obtain ⟨yx, hyx⟩ : ∃ zz9, zz9 = w9.heap.size := ⟨_, rfl⟩
   obtain ⟨w10, hw10⟩ : ∃ zz9, zz9 = w9.alloc (.cells #[.slice ma A.length mc, .slice qa B.length qc, .int .i64 x.kind, .string x.name, .int .i64 x.sort, .slice ya x.kids.length yc] 48) := ⟨_, rfl⟩
   have hE10 : Ext w9 w10 := by rw [hw10]; exact Ext.alloc _ _
   obtain ⟨y0, y1, y2, y3, y4, y5⟩ := box6 (show w10.heap[yx]? = some (.cells #[.slice ma A.length mc, .slice qa B.length qc, .int .i64 x.kind, .string x.name, .int .i64 x.sort, .slice ya x.kids.length yc] 48) by rw [hw10, hyx]; exact hs_new)
   have hE810 := hE9.trans hE10
   have HX6 := Lib.hid (HE68.out.trans hE810)
   obtain ⟨b0, b1, b2, b3, d0, d1, d2, d3, x0, x1, x2, x3, x4, x5⟩ := cs_e14 hE810 ⟨b0, b1, b2, b3, d0, d1, d2, d3, x0, x1, x2, x3, x4, x5⟩
   have HA := Lib.hid (HA.out.ext hE810)
   have HTX := Lib.hid (HTX.out.ext hE810)
   have HE1 := Lib.hid (HE1.out.trans hE810)
   have HBB := Lib.hid (HB'.out.ext hE810)
   have hcs := RSameJoin_any (w := w10) (by have := HXZ.out; omega) (by have := HXZ.out; omega) HA.out HBB.out HTX.out (hD.ext hE10) (hG.ext hE10) (hTy.ext hE10)
   rw [show (decide (A = A) && (decide (B = B) && decide (x = x))) = true by simp] at hcs
   have HCS := Lib.hid hcs
   have eee : (er == er) = true := by simp
   clear hE9 hD hG hTy hE10 hE810 hcs
   go_upto_region 6 with fail
   rw [← hw10, ← hyx]
   clear hw10 hyx
   go_wp2_with fail
   refine HCS.out.mono ?_
   rintro e w11 ⟨rfl, hE11⟩
   have HX11 := Lib.hid (HX6.out.trans hE11)
   have HA := Lib.hid (HA.out.ext hE11)
   have HBB := Lib.hid (HBB.out.ext hE11)
   have HTX := Lib.hid (HTX.out.ext hE11)
   obtain ⟨b0, b1, b2, b3, d0, d1, d2, d3, x0, x1, x2, x3, x4, x5⟩ := cs_e14 hE11 ⟨b0, b1, b2, b3, d0, d1, d2, d3, x0, x1, x2, x3, x4, x5⟩
   have HE1 := Lib.hid (HE1.out.trans hE11)
   clear hE11
   by_cases h0 : er = 0
   · have ee0 : (er != 0) = false := by simp [h0]
     have g1 := HGD.out h0
     have hck := PCheckJoin_any (w := w11) (j := (A, B, x)) HS.out (HL.out.ext HX11.out) (by have := HTZ.out; omega) (HT.out.ext HX11.out) (by have := HTZ.out; omega) (HU.out.ext HX11.out) HA.out HBB.out (by have := HXZ.out; show sizeT x ≤ _; omega) HTX.out
     rw [g1] at hck
     have HCK := Lib.hid hck
     clear h0 g1 hck
     go_wp2_with fail
     refine HCK.out.mono ?_
     rintro e w12 ⟨rfl, hE12⟩
     have HE1 := Lib.hid (HE1.out.trans hE12)
     clear hE12
     go_wp2_with fail
     go_ret
     exact ⟨rb (by simp), HE1.out⟩
   · have ee0 : (er != 0) = true := by simp [h0]
     clear h0
     go_wp2_with fail
     go_ret
     exact ⟨rb (by simp), HE1.out⟩

end Go.Proofs.YtpfnlbaloaohgaaGreat
