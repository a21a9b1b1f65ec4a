/- The walk of the law RewriteCheckJoin. -/
import Derived.Test.YtpfnlbaloaohgaaGreatAL
import Derived.Test.YtpfnlbaloaohgaaGreatN51
namespace Go.Proofs.YtpfnlbaloaohgaaGreat
open Go Go.RowKit
set_option linter.unusedVariables false
set_option linter.unusedSimpArgs false

set_option maxRecDepth 100000 in
set_option maxHeartbeats 16000000 in
theorem law_checkjoin {w : World} {S S' S'' : Nat → Prop} {a ta ua : Option Addr} {cap tc uc : Nat} {C : List Nat} {t u : Tm} (hC : LsG elB w S (.slice a C.length cap) C) (hT : TmW w S' ta tc t) (hU : TmW w S'' ua uc u) :
 Calls Tryz.prog 6 #[.slice a C.length cap, .agg #[.int .i64 t.kind, .string t.name, .int .i64 t.sort, .slice ta t.kids.length tc], .agg #[.int .i64 u.kind, .string u.name, .int .i64 u.sort, .slice ua u.kids.length uc]] w fun e w' => e = .returned (.bool true) ∧ Ext w w' := by
 obtain ⟨-, hll, hlc⟩ := hC.len
 unfold maxLen at hlc
 obtain ⟨bx, w1, hbbx, hwbx, HBbx, hEbx⟩ := box_new w (.cells #[.int .i64 t.kind, .string t.name, .int .i64 t.sort, .slice ta t.kids.length tc] 25)
 have hs1 : w1.heap.size = bx + 1 := by rw [hwbx, hbbx, World.size_alloc]
 obtain ⟨dx, hdx⟩ : ∃ zz9, zz9 = bx + 1 := ⟨_, rfl⟩
 obtain ⟨w2, hw2⟩ : ∃ zz9, zz9 = w1.alloc (.cells #[.int .i64 u.kind, .string u.name, .int .i64 u.sort, .slice ua u.kids.length uc] 25) := ⟨_, rfl⟩
 have hE2 : Ext w1 w2 := by rw [hw2]; exact Ext.alloc _ _
 have hbd : w2.heap[dx]? = some (.cells #[.int .i64 u.kind, .string u.name, .int .i64 u.sort, .slice ua u.kids.length uc] 25) := by rw [hw2, hdx, ← hs1]; exact hs_new
 have hEa := hEbx.trans hE2
 obtain ⟨b0, b1, b2, b3⟩ := box4r (hs_ext hE2 HBbx.out)
 obtain ⟨d0, d1, d2, d3⟩ := box4r (hbd)
 have HC := Lib.hid (hC.ext hEa)
 have HT := Lib.hid (hT.ext hEa).any
 have HU := Lib.hid (hU.ext hEa).any
 have HE1 := Lib.hid hEa
 have HCA := Lib.hid (fun w' => awake5 (w := w'))
 obtain ⟨o2, ho2⟩ : ∃ o, o = fewT [t, u] 2 40 := ⟨_, rfl⟩
 have HO2 := Lib.hid ho2
 clear hC hT hU hEbx ho2 hs1 hE2 hbd hEa
 go_enter Tryz.func6, Tryz.ntmps6
 go_upto_region 1 with fail
 rw [← hwbx, ← hbbx, ← hw2, ← hdx]
 clear hwbx hbbx hw2 hdx
 go_wp2_with fail
 refine (HCA.out _).mono ?_
 rintro e w3 ⟨rfl, hE3⟩
 obtain ⟨b0, b1, b2, b3, d0, d1, d2, d3⟩ := cs_e8 hE3 ⟨b0, b1, b2, b3, d0, d1, d2, d3⟩
 have HC := Lib.hid (HC.out.ext hE3)
 have HT := Lib.hid (HT.out.ext hE3)
 have HU := Lib.hid (HU.out.ext hE3)
 have HE1 := Lib.hid (HE1.out.trans hE3)
 clear hE3
 obtain ⟨fb, hfb⟩ : ∃ zz9, zz9 = w3.heap.size := ⟨_, rfl⟩
 obtain ⟨w4, hw4⟩ : ∃ zz9, zz9 = w3.alloc (.cells #[.int .i64 t.kind, .string t.name, .int .i64 t.sort, .slice ta t.kids.length tc, .int .i64 u.kind, .string u.name, .int .i64 u.sort, .slice ua u.kids.length uc] 25) := ⟨_, rfl⟩
 have hE4 : Ext w3 w4 := by rw [hw4]; exact Ext.alloc _ _
 have hfl : TsA w4 Any (some ⟨fb, 0, none⟩) [t, u] := two_ts (by rw [hw4, hfb]; exact hs_new) (HT.out.ext hE4) (HU.out.ext hE4)
 have hcf := Few_any (w := w4) (n := 2) (m := 40) (L := [t, u]) (cap := 2) (by omega) (by omega) (by omega) (by unfold maxLen; simp) hfl
 rw [← HO2.out] at hcf
 have HCF2 := Lib.hid hcf
 go_wp2_with fail
 rw [← hw4, ← hfb]
 clear hw4 hfb
 obtain ⟨b0, b1, b2, b3, d0, d1, d2, d3⟩ := cs_e8 hE4 ⟨b0, b1, b2, b3, d0, d1, d2, d3⟩
 have HC := Lib.hid (HC.out.ext hE4)
 have HT := Lib.hid (HT.out.ext hE4)
 have HU := Lib.hid (HU.out.ext hE4)
 have HE1 := Lib.hid (HE1.out.trans hE4)
 clear hE4 hfl hcf
 refine HCF2.out.mono ?_
 rintro e w5 ⟨rfl, hE5⟩
 obtain ⟨b0, b1, b2, b3, d0, d1, d2, d3⟩ := cs_e8 hE5 ⟨b0, b1, b2, b3, d0, d1, d2, d3⟩
 have HC := Lib.hid (HC.out.ext hE5)
 have HT := Lib.hid (HT.out.ext hE5)
 have HU := Lib.hid (HU.out.ext hE5)
 have HE1 := Lib.hid (HE1.out.trans hE5)
 clear hE5
 cases o2 with
 | false =>
   go_wp2_with fail
   refine (HCA.out _).mono ?_
   rintro e w9 ⟨rfl, hE9⟩
   have HE9 := Lib.hid (HE1.out.trans hE9)
   clear hE9
   go_wp2_with fail
   go_ret
   exact ⟨rfl, HE9.out⟩
 | true =>
   have HTZ : Hid (sizeT t ≤ 40 ∧ sizeT u ≤ 40) := Lib.hid (by have := few_two HO2.out.symm; omega)
   have hcr := RRulesOf_any HC.out
   obtain ⟨R, hR⟩ : ∃ R, R = rulesOf C := ⟨_, rfl⟩
   rw [← hR] at hcr
   have HCR := Lib.hid hcr
   have HS : Hid (smallR R) := Lib.hid (by rw [hR]; exact rulesOf_small C)
   clear hcr hR
   go_wp2_with fail
   refine HCR.out.mono ?_
   rintro e w6 ⟨v, rfl, hE6, hL6⟩
   obtain ⟨ra, rc, rfl, hrl, hrc⟩ := hL6.slice
   unfold maxLen at hrc
   obtain ⟨b0, b1, b2, b3, d0, d1, d2, d3⟩ := cs_e8 hE6 ⟨b0, b1, b2, b3, d0, d1, d2, d3⟩
   have HT := Lib.hid (HT.out.ext hE6)
   have HU := Lib.hid (HU.out.ext hE6)
   have HE1 := Lib.hid (HE1.out.trans hE6)
   have HL := Lib.hid hL6.any
   clear hE6 hL6
   obtain ⟨Q, hQ⟩ : ∃ Q, Q = joinsP R t t 30 := ⟨_, rfl⟩
   have hq0 : Q.1 ≠ 0 → Q.2 = zeroJ := fun h => by rw [hQ] at h ⊢; exact joinsP_zero h
   have HXZ : Hid (sizeT Q.2.2.2 ≤ 400) := Lib.hid (by rw [hQ]; exact joinsP_size _ _ _ _)
   have HGD : Hid (Q.1 = 0 → checkJ R t t Q.2 = true) := Lib.hid (fun h => by rw [hQ] at h ⊢; exact joinsP_good h)
   have hcn := (RJoins_any (w := w6) (fuel := 30) HS.out (by unfold I64; omega) HL.out (by have := HTZ.out; omega) HT.out (by have := HTZ.out; omega) HT.out).mono (R' := fun e w'' => ∃ v, e = .returned (.tuple #[v, .int .i64 Q.1]) ∧ Ext w6 w'' ∧ joinV w'' Any v Q.2) (fun e w'' ⟨v, er, h1, h2, h3⟩ => by
    rw [← hQ] at h3
    obtain ⟨rfl, h4⟩ := joinR_res h3 hq0
    exact ⟨v, h1, h2, h4⟩)
   obtain ⟨er, A, B, x⟩ := Q
   simp only at HXZ HGD hcn
   have HCN := Lib.hid hcn
   clear hQ hq0 hcn
   go_wp2_with fail
   refine HCN.out.mono ?_
   rintro e w7 ⟨v, rfl, hE7, la, lc, pa, pc, xa, xc, rfl, hA, hB, hTx⟩
   simp only at hA hB hTx ⊢
   obtain ⟨-, hal, hac⟩ := hA.len
   obtain ⟨-, hbl, hbc⟩ := hB.len
   have hlx := hTx.len
   have hcx := hTx.cap
   unfold maxLen at hac hbc hcx
   obtain ⟨xx, hxx⟩ : ∃ zz9, zz9 = w7.heap.size := ⟨_, rfl⟩
   obtain ⟨w8, hw8⟩ : ∃ zz9, zz9 = w7.alloc (.cells #[.slice la A.length lc, .slice pa B.length pc, .int .i64 x.kind, .string x.name, .int .i64 x.sort, .slice xa x.kids.length xc] 48) := ⟨_, rfl⟩
   have hE78 : Ext w7 w8 := by rw [hw8]; exact Ext.alloc _ _
   obtain ⟨x0, x1, x2, x3, x4, x5⟩ := box6 (show w8.heap[xx]? = some (.cells #[.slice la A.length lc, .slice pa B.length pc, .int .i64 x.kind, .string x.name, .int .i64 x.sort, .slice xa x.kids.length xc] 48) by rw [hw8, hxx]; exact hs_new)
   have hE68 := hE7.trans hE78
   have HA := Lib.hid (hA.ext hE78)
   have HBB := Lib.hid (hB.ext hE78)
   have HTX := Lib.hid (hTx.ext hE78)
   have HE68 := Lib.hid hE68
   obtain ⟨b0, b1, b2, b3, d0, d1, d2, d3⟩ := cs_e8 hE68 ⟨b0, b1, b2, b3, d0, d1, d2, d3⟩
   have HE1 := Lib.hid (HE1.out.trans hE68)
   have HT := Lib.hid (HT.out.ext hE68)
   have HU := Lib.hid (HU.out.ext hE68)
   have HL := Lib.hid (HL.out.ext hE68)
   clear hE7 hA hB hTx hE78 hE68
   go_upto_region 5 with fail
   rw [← hw8, ← hxx]
   clear hw8 hxx
   by_cases h0 : er = 0
   · have ee0 : (er != 0) = false := by simp [h0]
     have g1 := HGD.out h0
     have hjz : sizeT ((A, B, x) : Jn).2.2 ≤ 100000 := by have := HXZ.out; show sizeT x ≤ _; omega
     have h1 := fun (w' : World) (hE : Ext w8 w') => PCheckJoin_any (w := w') (j := (A, B, x)) HS.out (HL.out.ext hE) (by have := HTZ.out; omega) (HT.out.ext hE) (by have := HTZ.out; omega) (HT.out.ext hE) (HA.out.ext hE) (HBB.out.ext hE) hjz (HTX.out.ext hE)
     have h2 := fun (w' : World) (hE : Ext w8 w') => PCheckJoin_any (w := w') (j := (A, B, x)) HS.out (HL.out.ext hE) (by have := HTZ.out; omega) (HT.out.ext hE) (by have := HTZ.out; omega) (HU.out.ext hE) (HA.out.ext hE) (HBB.out.ext hE) hjz (HTX.out.ext hE)
     have h3 := fun (w' : World) (hE : Ext w8 w') => RCheckJoin_any (w := w') (j := (A, B, x)) HS.out (HL.out.ext hE) (by have := HTZ.out; omega) (HT.out.ext hE) (by have := HTZ.out; omega) (HU.out.ext hE) (HA.out.ext hE) (HBB.out.ext hE) hjz (HTX.out.ext hE)
     have h4 := fun (w' : World) (hE : Ext w8 w') => PCheckJoin_any (w := w') (j := (A, B, x)) HS.out (HL.out.ext hE) (by have := HTZ.out; omega) (HU.out.ext hE) (by have := HTZ.out; omega) (HT.out.ext hE) (HA.out.ext hE) (HBB.out.ext hE) hjz (HTX.out.ext hE)
     have h5 := fun (w' : World) (hE : Ext w8 w') => RCheckJoin_any (w := w') (j := (A, B, x)) HS.out (HL.out.ext hE) (by have := HTZ.out; omega) (HU.out.ext hE) (by have := HTZ.out; omega) (HT.out.ext hE) (HA.out.ext hE) (HBB.out.ext hE) hjz (HTX.out.ext hE)
     rw [g1] at h1
     obtain ⟨p, hp⟩ : ∃ p, p = checkJ R t u (A, B, x) := ⟨_, rfl⟩
     obtain ⟨q, hq⟩ : ∃ q, q = checkJ R u t (A, B, x) := ⟨_, rfl⟩
     rw [← hp] at h2 h3
     rw [← hq] at h4 h5
     have H1 := Lib.hid h1
     have H2 := Lib.hid h2
     have H3 := Lib.hid h3
     have H4 := Lib.hid h4
     have H5 := Lib.hid h5
     have epp : (p == p) = true := by simp
     have eqq : (q == q) = true := by simp
     clear h0 g1 hjz h1 h2 h3 h4 h5 hp hq
     go_upto_region 7 with fail
     have HFCT := Lib.hid (And.intro b0 (And.intro b1 (And.intro b2 (And.intro b3 (And.intro d0 (And.intro d1 (And.intro d2 (And.intro d3 (And.intro x0 (And.intro x1 (And.intro x2 (And.intro x3 (And.intro x4 x5)))))))))))))
     refine wp_region_reg 31 false (by kernel_rfl) (by kernel_rfl) ?_
     refine reg_value (fun _ => rfl) ?_ (fun g w' vs hM hE hP => ?_) ?_
     rotate_left
     · (clear hP hM; go_simp; first | done | rfl)
     refine reg_value (fun _ => rfl) ?_ (fun g w' vs hM hE hP => ?_) ?_
     rotate_left
     · (clear hP hM; have ⟨z0, z1, z2, z3, z4, z5, z6, z7, z8, z9, z10, z11, z12, z13⟩ := cs_e14 hE HFCT.out; go_simp; first | done | rfl)
     refine reg_value (fun _ => rfl) ?_ (fun g w' vs hM hE hP => ?_) ?_
     rotate_left
     · (clear hP hM; have ⟨z0, z1, z2, z3, z4, z5, z6, z7, z8, z9, z10, z11, z12, z13⟩ := cs_e14 hE HFCT.out; go_simp; first | done | rfl)
     refine reg_value (fun _ => rfl) ?_ (fun g w' vs hM hE hP => ?_) ?_
     rotate_left
     · (clear hP hM; have ⟨z0, z1, z2, z3, z4, z5, z6, z7, z8, z9, z10, z11, z12, z13⟩ := cs_e14 hE HFCT.out; go_simp; first | done | rfl)
     refine reg_const (fun _ => rfl) 26 ?_ (fun g w' vs hM hE hP => ?_) ?_
     rotate_left
     · (clear hP hM; have ⟨z0, z1, z2, z3, z4, z5, z6, z7, z8, z9, z10, z11, z12, z13⟩ := cs_e14 hE HFCT.out; go_simp; first | done | exact ⟨rfl, rfl⟩ | rfl)
     apply Exists.intro
     refine And.intro (fun g w' vs hM hE hP => ?_) ?_
     · exact H1.out w' hE
     refine reg_value (fun _ => rfl) ?_ (fun g w' vs hM hE hP => ?_) ?_
     rotate_left
     · (clear hP hM; go_simp; first | done | rfl)
     refine reg_value (fun g => by go_simp) ?_ (fun g w' vs hM hE hP => ?_) ?_
     rotate_left
     · (clear hP hM; go_simp; first | done | rfl)
     refine reg_value (fun g => by go_simp) ?_ (fun g w' vs hM hE hP => ?_) ?_
     rotate_left
     · (clear hP hM; have ⟨z0, z1, z2, z3, z4, z5, z6, z7, z8, z9, z10, z11, z12, z13⟩ := cs_e14 hE HFCT.out; go_simp; first | done | rfl)
     refine reg_value (fun g => by go_simp) ?_ (fun g w' vs hM hE hP => ?_) ?_
     rotate_left
     · (clear hP hM; have ⟨z0, z1, z2, z3, z4, z5, z6, z7, z8, z9, z10, z11, z12, z13⟩ := cs_e14 hE HFCT.out; go_simp; first | done | rfl)
     refine reg_value (fun g => by go_simp) ?_ (fun g w' vs hM hE hP => ?_) ?_
     rotate_left
     · (clear hP hM; have ⟨z0, z1, z2, z3, z4, z5, z6, z7, z8, z9, z10, z11, z12, z13⟩ := cs_e14 hE HFCT.out; go_simp; first | done | rfl)
     refine reg_const (fun g => by go_simp) 26 ?_ (fun g w' vs hM hE hP => ?_) ?_
     rotate_left
     · (clear hP hM; have ⟨z0, z1, z2, z3, z4, z5, z6, z7, z8, z9, z10, z11, z12, z13⟩ := cs_e14 hE HFCT.out; go_simp; first | done | exact ⟨rfl, rfl⟩ | rfl)
     apply Exists.intro
     refine And.intro (fun g w' vs hM hE hP => ?_) ?_
     · exact H2.out w' hE
     refine reg_value (fun g => by go_simp) ?_ (fun g w' vs hM hE hP => ?_) ?_
     rotate_left
     · (clear hP hM; go_simp; first | done | rfl)
     refine reg_value (fun g => by go_simp) ?_ (fun g w' vs hM hE hP => ?_) ?_
     rotate_left
     · (clear hP hM; have ⟨z0, z1, z2, z3, z4, z5, z6, z7, z8, z9, z10, z11, z12, z13⟩ := cs_e14 hE HFCT.out; go_simp; first | done | rfl)
     refine reg_value (fun g => by go_simp) ?_ (fun g w' vs hM hE hP => ?_) ?_
     rotate_left
     · (clear hP hM; have ⟨z0, z1, z2, z3, z4, z5, z6, z7, z8, z9, z10, z11, z12, z13⟩ := cs_e14 hE HFCT.out; go_simp; first | done | rfl)
     refine reg_value (fun g => by go_simp) ?_ (fun g w' vs hM hE hP => ?_) ?_
     rotate_left
     · (clear hP hM; have ⟨z0, z1, z2, z3, z4, z5, z6, z7, z8, z9, z10, z11, z12, z13⟩ := cs_e14 hE HFCT.out; go_simp; first | done | rfl)
     refine reg_const (fun g => by go_simp) 27 ?_ (fun g w' vs hM hE hP => ?_) ?_
     rotate_left
     · (clear hP hM; have ⟨z0, z1, z2, z3, z4, z5, z6, z7, z8, z9, z10, z11, z12, z13⟩ := cs_e14 hE HFCT.out; go_simp; first | done | exact ⟨rfl, rfl⟩ | rfl)
     apply Exists.intro
     refine And.intro (fun g w' vs hM hE hP => ?_) ?_
     · exact H3.out w' hE
     refine reg_value (fun g => by go_simp) ?_ (fun g w' vs hM hE hP => ?_) ?_
     rotate_left
     · (clear hP hM; go_simp; first | done | rfl)
     refine reg_value (fun _ => rfl) ?_ (fun g w' vs hM hE hP => ?_) ?_
     rotate_left
     · (clear hP hM; go_simp; first | done | rfl)
     refine reg_value (fun _ => rfl) ?_ (fun g w' vs hM hE hP => ?_) ?_
     rotate_left
     · (clear hP hM; go_simp; first | done | rfl)
     refine reg_value (fun g => by go_simp) ?_ (fun g w' vs hM hE hP => ?_) ?_
     rotate_left
     · (clear hP hM; go_simp; first | done | rfl)
     refine reg_value (fun g => by go_simp) ?_ (fun g w' vs hM hE hP => ?_) ?_
     rotate_left
     · (clear hP hM; have ⟨z0, z1, z2, z3, z4, z5, z6, z7, z8, z9, z10, z11, z12, z13⟩ := cs_e14 hE HFCT.out; go_simp; first | done | rfl)
     refine reg_value (fun g => by go_simp) ?_ (fun g w' vs hM hE hP => ?_) ?_
     rotate_left
     · (clear hP hM; have ⟨z0, z1, z2, z3, z4, z5, z6, z7, z8, z9, z10, z11, z12, z13⟩ := cs_e14 hE HFCT.out; go_simp; first | done | rfl)
     refine reg_value (fun g => by go_simp) ?_ (fun g w' vs hM hE hP => ?_) ?_
     rotate_left
     · (clear hP hM; have ⟨z0, z1, z2, z3, z4, z5, z6, z7, z8, z9, z10, z11, z12, z13⟩ := cs_e14 hE HFCT.out; go_simp; first | done | rfl)
     refine reg_const (fun g => by go_simp) 26 ?_ (fun g w' vs hM hE hP => ?_) ?_
     rotate_left
     · (clear hP hM; have ⟨z0, z1, z2, z3, z4, z5, z6, z7, z8, z9, z10, z11, z12, z13⟩ := cs_e14 hE HFCT.out; go_simp; first | done | exact ⟨rfl, rfl⟩ | rfl)
     apply Exists.intro
     refine And.intro (fun g w' vs hM hE hP => ?_) ?_
     · exact H4.out w' hE
     refine reg_value (fun g => by go_simp) ?_ (fun g w' vs hM hE hP => ?_) ?_
     rotate_left
     · (clear hP hM; go_simp; first | done | rfl)
     refine reg_value (fun g => by go_simp) ?_ (fun g w' vs hM hE hP => ?_) ?_
     rotate_left
     · (clear hP hM; have ⟨z0, z1, z2, z3, z4, z5, z6, z7, z8, z9, z10, z11, z12, z13⟩ := cs_e14 hE HFCT.out; go_simp; first | done | rfl)
     refine reg_value (fun g => by go_simp) ?_ (fun g w' vs hM hE hP => ?_) ?_
     rotate_left
     · (clear hP hM; have ⟨z0, z1, z2, z3, z4, z5, z6, z7, z8, z9, z10, z11, z12, z13⟩ := cs_e14 hE HFCT.out; go_simp; first | done | rfl)
     refine reg_value (fun g => by go_simp) ?_ (fun g w' vs hM hE hP => ?_) ?_
     rotate_left
     · (clear hP hM; have ⟨z0, z1, z2, z3, z4, z5, z6, z7, z8, z9, z10, z11, z12, z13⟩ := cs_e14 hE HFCT.out; go_simp; first | done | rfl)
     refine reg_const (fun g => by go_simp) 27 ?_ (fun g w' vs hM hE hP => ?_) ?_
     rotate_left
     · (clear hP hM; have ⟨z0, z1, z2, z3, z4, z5, z6, z7, z8, z9, z10, z11, z12, z13⟩ := cs_e14 hE HFCT.out; go_simp; first | done | exact ⟨rfl, rfl⟩ | rfl)
     apply Exists.intro
     refine And.intro (fun g w' vs hM hE hP => ?_) ?_
     · exact H5.out w' hE
     refine reg_value (fun g => by go_simp) ?_ (fun g w' vs hM hE hP => ?_) ?_
     rotate_left
     · (clear hP hM; go_simp; first | done | rfl)
     refine reg_value (fun _ => rfl) ?_ (fun g w' vs hM hE hP => ?_) ?_
     rotate_left
     · (clear hP hM; go_simp; first | done | rfl)
     intro g wz hE2 hF hQ
     simp only [List.drop_succ_cons, List.drop_zero, Act.put, List.setIfInBounds_toArray, List.set_cons_succ, List.set_cons_zero]
     have HEZ := Lib.hid (HE1.out.trans hE2)
     clear hE2 hF hQ
     go_wp2_with fail
     go_ret
     exact ⟨rb (by simp), HEZ.out⟩
   · have ee0 : (er != 0) = true := by simp [h0]
     clear h0
     go_wp2_with fail
     go_ret
     exact ⟨rb (by simp), HE1.out⟩

end Go.Proofs.YtpfnlbaloaohgaaGreat
