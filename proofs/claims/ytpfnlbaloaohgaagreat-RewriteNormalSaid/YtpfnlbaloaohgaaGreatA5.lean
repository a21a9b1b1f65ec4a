/- The walk of the law RewriteNormal. -/
import Derived.Test.YtpfnlbaloaohgaaGreatAL
import Derived.Test.YtpfnlbaloaohgaaGreatH11
import Derived.Test.YtpfnlbaloaohgaaGreatH18
namespace Go.Proofs.YtpfnlbaloaohgaaGreat
open Go Go.RowKit
set_option linter.unusedVariables false
set_option linter.unusedSimpArgs false

set_option maxRecDepth 100000 in
set_option maxHeartbeats 16000000 in
theorem law_normal {w : World} {S S' : Nat → Prop} {a ta : Option Addr} {cap tc : Nat} {C : List Nat} {t : Tm} {fuel : Int} (hC : LsG elB w S (.slice a C.length cap) C) (hT : TmW w S' ta tc t) (hf : I64 fuel) :
 Calls Tryz.prog 7 #[.slice a C.length cap, .agg #[.int .i64 t.kind, .string t.name, .int .i64 t.sort, .slice ta t.kids.length tc], .int .i64 fuel] w fun e w' => e = .returned (.bool true) ∧ Ext w w' := by
 obtain ⟨-, hll, hlc⟩ := hC.len
 unfold maxLen at hlc
 have hf1 := hf.1
 have hf2 := hf.2
 obtain ⟨bx, w1, hbbx, hwbx, HBbx, hEbx⟩ := box_new w (.cells #[.int .i64 t.kind, .string t.name, .int .i64 t.sort, .slice ta t.kids.length tc] 25)
 obtain ⟨b0, b1, b2, b3⟩ := box4r (HBbx.out)
 have HC := Lib.hid (hC.ext hEbx)
 have HT := Lib.hid (hT.ext hEbx)
 have HE1 := Lib.hid hEbx
 have HF64 := Lib.hid hf
 have HCA := Lib.hid (fun w' => awake5 (w := w'))
 obtain ⟨o2, ho2⟩ : ∃ o, o = fewT [t] 1 30 := ⟨_, rfl⟩
 have HO2 := Lib.hid ho2
 clear hC hT hEbx ho2 hf
 go_enter Tryz.func7, Tryz.ntmps7
 go_upto_region 1 with fail
 rw [← hwbx, ← hbbx]
 clear hwbx hbbx
 go_wp2_with fail
 refine (HCA.out _).mono ?_
 rintro e w3 ⟨rfl, hE3⟩
 obtain ⟨b0, b1, b2, b3⟩ := cs_e4 hE3 ⟨b0, b1, b2, b3⟩
 have HC := Lib.hid (HC.out.ext hE3)
 have HT := Lib.hid (HT.out.ext hE3)
 have HE1 := Lib.hid (HE1.out.trans hE3)
 clear hE3
 obtain ⟨fb, hfb⟩ : ∃ zz9, zz9 = w3.heap.size := ⟨_, rfl⟩
 obtain ⟨w4, hw4⟩ : ∃ zz9, zz9 = w3.alloc (.cells #[.int .i64 t.kind, .string t.name, .int .i64 t.sort, .slice ta t.kids.length tc] 25) := ⟨_, rfl⟩
 have hE4 : Ext w3 w4 := by rw [hw4]; exact Ext.alloc _ _
 have hfl : LsT w4 S' (.slice (some ⟨fb, 0, none⟩) 1 1) [t] := one_ls (by rw [hw4, hfb]; exact hs_new) (HT.out.ext hE4)
 have hcf := Few_any (w := w4) (n := 1) (m := 30) (L := [t]) (cap := 1) (by omega) (by omega) (by omega) (by unfold maxLen; simp) hfl.ts
 rw [← HO2.out] at hcf
 have HCF2 := Lib.hid hcf
 go_wp2_with fail
 rw [← hw4, ← hfb]
 clear hw4 hfb
 obtain ⟨b0, b1, b2, b3⟩ := cs_e4 hE4 ⟨b0, b1, b2, b3⟩
 have HC := Lib.hid (HC.out.ext hE4)
 have HT := Lib.hid (HT.out.ext hE4)
 have HE1 := Lib.hid (HE1.out.trans hE4)
 clear hE4 hfl hcf
 refine HCF2.out.mono ?_
 rintro e w5 ⟨rfl, hE5⟩
 obtain ⟨b0, b1, b2, b3⟩ := cs_e4 hE5 ⟨b0, b1, b2, b3⟩
 have HC := Lib.hid (HC.out.ext hE5)
 have HT := Lib.hid (HT.out.ext hE5)
 have HE1 := Lib.hid (HE1.out.trans hE5)
 clear hE5
 cases o2 with
 | false =>
   go_wp2_with fail
   refine (HCA.out _).mono ?_
   rintro e w9 ⟨rfl, hE9⟩
   have HE9 := Lib.hid (HE1.out.trans hE9)
   clear hE9
   go_wp2_with fail
   go_ret
   exact ⟨rfl, HE9.out⟩
 | true =>
   have HTZ : Hid (sizeT t ≤ 30) := Lib.hid (by have := few_oneT HO2.out.symm; omega)
   by_cases hfu : 40 < fuel ∧ fuel ≤ 1000
   · have h40 : (40 : Int) < fuel := hfu.1
     have h1000 : fuel ≤ (1000 : Int) := hfu.2
     clear hfu
     go_wp2_with fail
     refine (HCA.out _).mono ?_
     rintro e w9 ⟨rfl, hE9⟩
     have HE9 := Lib.hid (HE1.out.trans hE9)
     clear hE9
     go_wp2_with fail
     go_ret
     exact ⟨rfl, HE9.out⟩
   · obtain ⟨g, hg⟩ : ∃ g : Bool, (decide ((40 : Int) < fuel) && decide (fuel ≤ (1000 : Int))) = g := ⟨_, rfl⟩
     have hgf : g = false := by
      rw [← hg]
      by_cases h1 : (40 : Int) < fuel
      · rw [decide_eq_false (p := fuel ≤ (1000 : Int)) (fun h => hfu ⟨h1, h⟩), Bool.and_false]
      · rw [decide_eq_false h1, Bool.false_and]
     subst hgf
     have hcr := RRulesOf_any HC.out
     obtain ⟨R, hR⟩ : ∃ R, R = rulesOf C := ⟨_, rfl⟩
     rw [← hR] at hcr
     have HCR := Lib.hid hcr
     have HS : Hid (smallR R) := Lib.hid (by rw [hR]; exact rulesOf_small C)
     clear hcr hR
     by_cases h40 : (40 : Int) < fuel
     · have h1000 : ¬ fuel ≤ (1000 : Int) := fun h => hfu ⟨h40, h⟩
       clear hfu hg
       go_wp2_with fail
       refine HCR.out.mono ?_
       rintro e w6 ⟨v, rfl, hE6, hL6⟩
       obtain ⟨ra, rc, rfl, hrl, hrc⟩ := hL6.slice
       unfold maxLen at hrc
       obtain ⟨b0, b1, b2, b3⟩ := cs_e4 hE6 ⟨b0, b1, b2, b3⟩
       have HT := Lib.hid (HT.out.ext hE6)
       have HE1 := Lib.hid (HE1.out.trans hE6)
       have HL := Lib.hid hL6.any
       obtain ⟨Q, hQ⟩ : ∃ Q, Q = normP R t fuel := ⟨_, rfl⟩
       have hq0 : Q.1 ≠ 0 → Q.2 = (zeroTm, []) := fun h => by rw [hQ] at h ⊢; exact normP_zero h
       have hqv : Q.1 = 0 → validT Q.2.1 = 0 := fun h => by rw [hQ] at h ⊢; exact normP_valid h
       have HXZ : Hid (sizeT Q.2.1 ≤ 400) := Lib.hid (by
        by_cases h : Q.1 = 0
        · exact sizeT_valid (hqv h)
        · rw [hq0 h]; decide)
       have HGD : Hid (Q.1 = 0 → traceP R t Q.2.2 Q.2.1 = true ∧ normalP R Q.2.1 = true) := Lib.hid (fun h => by rw [hQ] at h ⊢; exact normP_good h)
       have hcp := (PNormal_any (w := w6) HS.out HF64.out HL.out (by have := HTZ.out; omega) HT.out).mono (R' := fun e w'' => ∃ v tv, e = .returned (.tuple #[v, tv, .int .i64 Q.1]) ∧ Ext w6 w'' ∧ IsS w'' Any v Q.2.1 ∧ LsG elX w'' Any tv Q.2.2) (fun e w'' ⟨v, tv, er, h1, h2, h3⟩ => by
        rw [← hQ] at h3
        obtain ⟨rfl, h4⟩ := normR_res h3 hq0
        exact ⟨v, tv, h1, h2, h4⟩)
       have hcn := fun (w' : World) (hE : Ext w6 w') => (RNormal_any (w := w') HS.out HF64.out (HL.out.ext hE) (by have := HTZ.out; omega) (HT.out.ext hE)).mono (R' := fun e w'' => ∃ v tv, e = .returned (.tuple #[v, tv, .int .i64 Q.1]) ∧ Ext w' w'' ∧ IsS w'' Any v Q.2.1 ∧ LsG elX w'' Any tv Q.2.2) (fun e w'' ⟨v, tv, er, h1, h2, h3⟩ => by
        rw [← hQ] at h3
        obtain ⟨rfl, h4⟩ := normR_res h3 hq0
        exact ⟨v, tv, h1, h2, h4⟩)
       obtain ⟨er, x, M⟩ := Q
       simp only at HXZ HGD hcp hcn
       have HCP := Lib.hid hcp
       have HCN := Lib.hid hcn
       clear hE6 hL6 hQ hq0 hqv hcp hcn
       go_wp2_with fail
       refine HCP.out.mono ?_
       rintro e w7 ⟨v, tv, rfl, hE7, ⟨xa, xc, rfl, hTx⟩, hLx⟩
       obtain ⟨la, lc, rfl, hll7, hlc7⟩ := hLx.slice
       unfold maxLen at hlc7
       obtain ⟨xx, hxx⟩ : ∃ zz9, zz9 = w7.heap.size := ⟨_, rfl⟩
       obtain ⟨w8, hw8⟩ : ∃ zz9, zz9 = w7.alloc (.cells #[.int .i64 x.kind, .string x.name, .int .i64 x.sort, .slice xa x.kids.length xc] 25) := ⟨_, rfl⟩
       have hE78 : Ext w7 w8 := by rw [hw8]; exact Ext.alloc _ _
       have x0 : w8.cell? ⟨xx, 0, none⟩ = some (.int .i64 x.kind) := by rw [cellc (show w8.heap[xx]? = _ by rw [hw8, hxx]; exact hs_new)]; rfl
       have x1 : w8.cell? ⟨xx, 1, none⟩ = some (.string x.name) := by rw [cellc (show w8.heap[xx]? = _ by rw [hw8, hxx]; exact hs_new)]; rfl
       have x2 : w8.cell? ⟨xx, 2, none⟩ = some (.int .i64 x.sort) := by rw [cellc (show w8.heap[xx]? = _ by rw [hw8, hxx]; exact hs_new)]; rfl
       have x3 : w8.cell? ⟨xx, 3, none⟩ = some (.slice xa x.kids.length xc) := by rw [cellc (show w8.heap[xx]? = _ by rw [hw8, hxx]; exact hs_new)]; rfl
       have hlx := hTx.len
       have hcx := hTx.cap
       unfold maxLen at hcx
       have hE68 := hE7.trans hE78
       have HTX := Lib.hid (hTx.ext hE78)
       have HLX := Lib.hid (hLx.ext hE78)
       have HE68 := Lib.hid hE68
       obtain ⟨b0, b1, b2, b3⟩ := cs_e4 hE68 ⟨b0, b1, b2, b3⟩
       have HE1 := Lib.hid (HE1.out.trans hE68)
       clear hE7 hTx hLx hE78 hE68
       go_upto_region 5 with fail
       rw [← hw8, ← hxx]
       clear hw8 hxx
       go_wp2_with fail
       refine (HCN.out _ HE68.out).mono ?_
       rintro e w9 ⟨v, tv, rfl, hE9, ⟨ya, yc, rfl, hTy⟩, hLy⟩
       obtain ⟨ma, mc, rfl, hml, hmc⟩ := hLy.slice
       unfold maxLen at hmc
       obtain ⟨yx, hyx⟩ : ∃ zz9, zz9 = w9.heap.size := ⟨_, rfl⟩
       obtain ⟨w10, hw10⟩ : ∃ zz9, zz9 = w9.alloc (.cells #[.int .i64 x.kind, .string x.name, .int .i64 x.sort, .slice ya x.kids.length yc] 25) := ⟨_, rfl⟩
       have hE10 : Ext w9 w10 := by rw [hw10]; exact Ext.alloc _ _
       have y0 : w10.cell? ⟨yx, 0, none⟩ = some (.int .i64 x.kind) := by rw [cellc (show w10.heap[yx]? = _ by rw [hw10, hyx]; exact hs_new)]; rfl
       have y1 : w10.cell? ⟨yx, 1, none⟩ = some (.string x.name) := by rw [cellc (show w10.heap[yx]? = _ by rw [hw10, hyx]; exact hs_new)]; rfl
       have y2 : w10.cell? ⟨yx, 2, none⟩ = some (.int .i64 x.sort) := by rw [cellc (show w10.heap[yx]? = _ by rw [hw10, hyx]; exact hs_new)]; rfl
       have y3 : w10.cell? ⟨yx, 3, none⟩ = some (.slice ya x.kids.length yc) := by rw [cellc (show w10.heap[yx]? = _ by rw [hw10, hyx]; exact hs_new)]; rfl
       have hly := hTy.len
       have hcy := hTy.cap
       unfold maxLen at hcy
       have hE810 := hE9.trans hE10
       obtain ⟨b0, b1, b2, b3, x0, x1, x2, x3⟩ := cs_e8 hE810 ⟨b0, b1, b2, b3, x0, x1, x2, x3⟩
       have HTX := Lib.hid (HTX.out.ext hE810)
       have HLX := Lib.hid (HLX.out.ext hE810)
       have HE1 := Lib.hid (HE1.out.trans hE810)
       have HE6A := Lib.hid (HE68.out.trans hE810)
       have hcs := fun (w' : World) (hE : Ext w10 w') => by
        have h := RSame_any (w := w') (s := x) (t := x) (by have := HXZ.out; omega) (by have := HXZ.out; omega) (HTX.out.ext hE) ((hTy.ext hE10).ext hE)
        rw [show decide (x = x) = true from decide_eq_true rfl] at h
        exact h
       have hct := fun (w' : World) (hE : Ext w10 w') => by
        have h := RSameTrace_any (w := w') (HLX.out.ext hE) ((hLy.ext hE10).ext hE)
        rw [show decide (M = M) = true from decide_eq_true rfl] at h
        exact h
       have HCS := Lib.hid hcs
       have HCT := Lib.hid hct
       have een : (er != er) = false := by simp
       have eee : (er == er) = true := by simp
       clear hE9 hTy hLy hE10 hE810 hcs hct
       go_upto_region 6 with fail
       rw [← hw10, ← hyx]
       clear hw10 hyx
       go_wp2_with fail
       refine (HCS.out _ (Ext.refl _)).mono ?_
       rintro e w11 ⟨rfl, hE11⟩
       have HX11 := Lib.hid hE11
       obtain ⟨b0, b1, b2, b3, x0, x1, x2, x3, y0, y1, y2, y3⟩ := cs_e12 hE11 ⟨b0, b1, b2, b3, x0, x1, x2, x3, y0, y1, y2, y3⟩
       have HTX := Lib.hid (HTX.out.ext hE11)
       have HLX := Lib.hid (HLX.out.ext hE11)
       have HE1 := Lib.hid (HE1.out.trans hE11)
       clear hE11
       go_wp2_with fail
       refine (HCT.out _ HX11.out).mono ?_
       rintro e w12 ⟨rfl, hE12⟩
       have HX12 := Lib.hid (HX11.out.trans hE12)
       obtain ⟨b0, b1, b2, b3, x0, x1, x2, x3, y0, y1, y2, y3⟩ := cs_e12 hE12 ⟨b0, b1, b2, b3, x0, x1, x2, x3, y0, y1, y2, y3⟩
       have HTX := Lib.hid (HTX.out.ext hE12)
       have HLX := Lib.hid (HLX.out.ext hE12)
       have HE1 := Lib.hid (HE1.out.trans hE12)
       clear hE12
       by_cases h0 : er = 0
       · have ee0 : (er != 0) = false := by simp [h0]
         obtain ⟨g1, g2⟩ := HGD.out h0
         have hci := PIsNormal_any (w := w12) HS.out (HL.out.ext (HE6A.out.trans HX12.out)) (by have := HXZ.out; omega) HTX.out
         rw [g2] at hci
         have HCI := Lib.hid hci
         have hck := fun (w' : World) (hE : Ext w12 w') => by
          have h := PTrace_any (w := w') HS.out ((HL.out.ext (HE6A.out.trans HX12.out)).ext hE) (by have := HTZ.out; omega) ((HT.out.ext (HE6A.out.trans HX12.out)).ext hE) (HLX.out.ext hE) (by have := HXZ.out; omega) (HTX.out.ext hE)
          rw [g1] at h
          exact h
         have HCK := Lib.hid hck
         clear h0 g1 g2 hci hck
         go_wp2_with fail
         refine HCI.out.mono ?_
         rintro e w13 ⟨rfl, hE13⟩
         have HX13 := Lib.hid hE13
         obtain ⟨b0, b1, b2, b3, x0, x1, x2, x3⟩ := cs_e8 hE13 ⟨b0, b1, b2, b3, x0, x1, x2, x3⟩
         have HE1 := Lib.hid (HE1.out.trans hE13)
         clear hE13
         go_wp2_with fail
         refine (HCK.out _ HX13.out).mono ?_
         rintro e w14 ⟨rfl, hE14⟩
         have HE1 := Lib.hid (HE1.out.trans hE14)
         clear hE14
         go_wp2_with fail
         go_ret
         exact ⟨rb (by simp), HE1.out⟩
       · have ee0 : (er != 0) = true := by simp [h0]
         clear h0
         go_wp2_with fail
         refine (HCS.out _ HX12.out).mono ?_
         rintro e w13 ⟨rfl, hE13⟩
         have HX13 := Lib.hid (HX12.out.trans hE13)
         have HE1 := Lib.hid (HE1.out.trans hE13)
         clear hE13
         go_wp2_with fail
         refine (HCT.out _ HX13.out).mono ?_
         rintro e w14 ⟨rfl, hE14⟩
         have HE1 := Lib.hid (HE1.out.trans hE14)
         clear hE14
         go_wp2_with fail
         go_ret
         exact ⟨rb (by simp), HE1.out⟩
     · clear hfu hg
       go_wp2_with fail
       refine HCR.out.mono ?_
       rintro e w6 ⟨v, rfl, hE6, hL6⟩
       obtain ⟨ra, rc, rfl, hrl, hrc⟩ := hL6.slice
       unfold maxLen at hrc
       obtain ⟨b0, b1, b2, b3⟩ := cs_e4 hE6 ⟨b0, b1, b2, b3⟩
       have HT := Lib.hid (HT.out.ext hE6)
       have HE1 := Lib.hid (HE1.out.trans hE6)
       have HL := Lib.hid hL6.any
       obtain ⟨Q, hQ⟩ : ∃ Q, Q = normP R t fuel := ⟨_, rfl⟩
       have hq0 : Q.1 ≠ 0 → Q.2 = (zeroTm, []) := fun h => by rw [hQ] at h ⊢; exact normP_zero h
       have hqv : Q.1 = 0 → validT Q.2.1 = 0 := fun h => by rw [hQ] at h ⊢; exact normP_valid h
       have HXZ : Hid (sizeT Q.2.1 ≤ 400) := Lib.hid (by
        by_cases h : Q.1 = 0
        · exact sizeT_valid (hqv h)
        · rw [hq0 h]; decide)
       have HGD : Hid (Q.1 = 0 → traceP R t Q.2.2 Q.2.1 = true ∧ normalP R Q.2.1 = true) := Lib.hid (fun h => by rw [hQ] at h ⊢; exact normP_good h)
       have hcp := (PNormal_any (w := w6) HS.out HF64.out HL.out (by have := HTZ.out; omega) HT.out).mono (R' := fun e w'' => ∃ v tv, e = .returned (.tuple #[v, tv, .int .i64 Q.1]) ∧ Ext w6 w'' ∧ IsS w'' Any v Q.2.1 ∧ LsG elX w'' Any tv Q.2.2) (fun e w'' ⟨v, tv, er, h1, h2, h3⟩ => by
        rw [← hQ] at h3
        obtain ⟨rfl, h4⟩ := normR_res h3 hq0
        exact ⟨v, tv, h1, h2, h4⟩)
       have hcn := fun (w' : World) (hE : Ext w6 w') => (RNormal_any (w := w') HS.out HF64.out (HL.out.ext hE) (by have := HTZ.out; omega) (HT.out.ext hE)).mono (R' := fun e w'' => ∃ v tv, e = .returned (.tuple #[v, tv, .int .i64 Q.1]) ∧ Ext w' w'' ∧ IsS w'' Any v Q.2.1 ∧ LsG elX w'' Any tv Q.2.2) (fun e w'' ⟨v, tv, er, h1, h2, h3⟩ => by
        rw [← hQ] at h3
        obtain ⟨rfl, h4⟩ := normR_res h3 hq0
        exact ⟨v, tv, h1, h2, h4⟩)
       obtain ⟨er, x, M⟩ := Q
       simp only at HXZ HGD hcp hcn
       have HCP := Lib.hid hcp
       have HCN := Lib.hid hcn
       clear hE6 hL6 hQ hq0 hqv hcp hcn
       go_wp2_with fail
       refine HCP.out.mono ?_
       rintro e w7 ⟨v, tv, rfl, hE7, ⟨xa, xc, rfl, hTx⟩, hLx⟩
       obtain ⟨la, lc, rfl, hll7, hlc7⟩ := hLx.slice
       unfold maxLen at hlc7
       obtain ⟨xx, hxx⟩ : ∃ zz9, zz9 = w7.heap.size := ⟨_, rfl⟩
       obtain ⟨w8, hw8⟩ : ∃ zz9, zz9 = w7.alloc (.cells #[.int .i64 x.kind, .string x.name, .int .i64 x.sort, .slice xa x.kids.length xc] 25) := ⟨_, rfl⟩
       have hE78 : Ext w7 w8 := by rw [hw8]; exact Ext.alloc _ _
       have x0 : w8.cell? ⟨xx, 0, none⟩ = some (.int .i64 x.kind) := by rw [cellc (show w8.heap[xx]? = _ by rw [hw8, hxx]; exact hs_new)]; rfl
       have x1 : w8.cell? ⟨xx, 1, none⟩ = some (.string x.name) := by rw [cellc (show w8.heap[xx]? = _ by rw [hw8, hxx]; exact hs_new)]; rfl
       have x2 : w8.cell? ⟨xx, 2, none⟩ = some (.int .i64 x.sort) := by rw [cellc (show w8.heap[xx]? = _ by rw [hw8, hxx]; exact hs_new)]; rfl
       have x3 : w8.cell? ⟨xx, 3, none⟩ = some (.slice xa x.kids.length xc) := by rw [cellc (show w8.heap[xx]? = _ by rw [hw8, hxx]; exact hs_new)]; rfl
       have hlx := hTx.len
       have hcx := hTx.cap
       unfold maxLen at hcx
       have hE68 := hE7.trans hE78
       have HTX := Lib.hid (hTx.ext hE78)
       have HLX := Lib.hid (hLx.ext hE78)
       have HE68 := Lib.hid hE68
       obtain ⟨b0, b1, b2, b3⟩ := cs_e4 hE68 ⟨b0, b1, b2, b3⟩
       have HE1 := Lib.hid (HE1.out.trans hE68)
       clear hE7 hTx hLx hE78 hE68
       go_upto_region 5 with fail
       rw [← hw8, ← hxx]
       clear hw8 hxx
       go_wp2_with fail
       refine (HCN.out _ HE68.out).mono ?_
       rintro e w9 ⟨v, tv, rfl, hE9, ⟨ya, yc, rfl, hTy⟩, hLy⟩
       obtain ⟨ma, mc, rfl, hml, hmc⟩ := hLy.slice
       unfold maxLen at hmc
       obtain ⟨yx, hyx⟩ : ∃ zz9, zz9 = w9.heap.size := ⟨_, rfl⟩
       obtain ⟨w10, hw10⟩ : ∃ zz9, zz9 = w9.alloc (.cells #[.int .i64 x.kind, .string x.name, .int .i64 x.sort, .slice ya x.kids.length yc] 25) := ⟨_, rfl⟩
       have hE10 : Ext w9 w10 := by rw [hw10]; exact Ext.alloc _ _
       have y0 : w10.cell? ⟨yx, 0, none⟩ = some (.int .i64 x.kind) := by rw [cellc (show w10.heap[yx]? = _ by rw [hw10, hyx]; exact hs_new)]; rfl
       have y1 : w10.cell? ⟨yx, 1, none⟩ = some (.string x.name) := by rw [cellc (show w10.heap[yx]? = _ by rw [hw10, hyx]; exact hs_new)]; rfl
       have y2 : w10.cell? ⟨yx, 2, none⟩ = some (.int .i64 x.sort) := by rw [cellc (show w10.heap[yx]? = _ by rw [hw10, hyx]; exact hs_new)]; rfl
       have y3 : w10.cell? ⟨yx, 3, none⟩ = some (.slice ya x.kids.length yc) := by rw [cellc (show w10.heap[yx]? = _ by rw [hw10, hyx]; exact hs_new)]; rfl
       have hly := hTy.len
       have hcy := hTy.cap
       unfold maxLen at hcy
       have hE810 := hE9.trans hE10
       obtain ⟨b0, b1, b2, b3, x0, x1, x2, x3⟩ := cs_e8 hE810 ⟨b0, b1, b2, b3, x0, x1, x2, x3⟩
       have HTX := Lib.hid (HTX.out.ext hE810)
       have HLX := Lib.hid (HLX.out.ext hE810)
       have HE1 := Lib.hid (HE1.out.trans hE810)
       have HE6A := Lib.hid (HE68.out.trans hE810)
       have hcs := fun (w' : World) (hE : Ext w10 w') => by
        have h := RSame_any (w := w') (s := x) (t := x) (by have := HXZ.out; omega) (by have := HXZ.out; omega) (HTX.out.ext hE) ((hTy.ext hE10).ext hE)
        rw [show decide (x = x) = true from decide_eq_true rfl] at h
        exact h
       have hct := fun (w' : World) (hE : Ext w10 w') => by
        have h := RSameTrace_any (w := w') (HLX.out.ext hE) ((hLy.ext hE10).ext hE)
        rw [show decide (M = M) = true from decide_eq_true rfl] at h
        exact h
       have HCS := Lib.hid hcs
       have HCT := Lib.hid hct
       have een : (er != er) = false := by simp
       have eee : (er == er) = true := by simp
       clear hE9 hTy hLy hE10 hE810 hcs hct
       go_upto_region 6 with fail
       rw [← hw10, ← hyx]
       clear hw10 hyx
       go_wp2_with fail
       refine (HCS.out _ (Ext.refl _)).mono ?_
       rintro e w11 ⟨rfl, hE11⟩
       have HX11 := Lib.hid hE11
       obtain ⟨b0, b1, b2, b3, x0, x1, x2, x3, y0, y1, y2, y3⟩ := cs_e12 hE11 ⟨b0, b1, b2, b3, x0, x1, x2, x3, y0, y1, y2, y3⟩
       have HTX := Lib.hid (HTX.out.ext hE11)
       have HLX := Lib.hid (HLX.out.ext hE11)
       have HE1 := Lib.hid (HE1.out.trans hE11)
       clear hE11
       go_wp2_with fail
       refine (HCT.out _ HX11.out).mono ?_
       rintro e w12 ⟨rfl, hE12⟩
       have HX12 := Lib.hid (HX11.out.trans hE12)
       obtain ⟨b0, b1, b2, b3, x0, x1, x2, x3, y0, y1, y2, y3⟩ := cs_e12 hE12 ⟨b0, b1, b2, b3, x0, x1, x2, x3, y0, y1, y2, y3⟩
       have HTX := Lib.hid (HTX.out.ext hE12)
       have HLX := Lib.hid (HLX.out.ext hE12)
       have HE1 := Lib.hid (HE1.out.trans hE12)
       clear hE12
       by_cases h0 : er = 0
       · have ee0 : (er != 0) = false := by simp [h0]
         obtain ⟨g1, g2⟩ := HGD.out h0
         have hci := PIsNormal_any (w := w12) HS.out (HL.out.ext (HE6A.out.trans HX12.out)) (by have := HXZ.out; omega) HTX.out
         rw [g2] at hci
         have HCI := Lib.hid hci
         have hck := fun (w' : World) (hE : Ext w12 w') => by
          have h := PTrace_any (w := w') HS.out ((HL.out.ext (HE6A.out.trans HX12.out)).ext hE) (by have := HTZ.out; omega) ((HT.out.ext (HE6A.out.trans HX12.out)).ext hE) (HLX.out.ext hE) (by have := HXZ.out; omega) (HTX.out.ext hE)
          rw [g1] at h
          exact h
         have HCK := Lib.hid hck
         clear h0 g1 g2 hci hck
         go_wp2_with fail
         refine HCI.out.mono ?_
         rintro e w13 ⟨rfl, hE13⟩
         have HX13 := Lib.hid hE13
         obtain ⟨b0, b1, b2, b3, x0, x1, x2, x3⟩ := cs_e8 hE13 ⟨b0, b1, b2, b3, x0, x1, x2, x3⟩
         have HE1 := Lib.hid (HE1.out.trans hE13)
         clear hE13
         go_wp2_with fail
         refine (HCK.out _ HX13.out).mono ?_
         rintro e w14 ⟨rfl, hE14⟩
         have HE1 := Lib.hid (HE1.out.trans hE14)
         clear hE14
         go_wp2_with fail
         go_ret
         exact ⟨rb (by simp), HE1.out⟩
       · have ee0 : (er != 0) = true := by simp [h0]
         clear h0
         go_wp2_with fail
         refine (HCS.out _ HX12.out).mono ?_
         rintro e w13 ⟨rfl, hE13⟩
         have HX13 := Lib.hid (HX12.out.trans hE13)
         have HE1 := Lib.hid (HE1.out.trans hE13)
         clear hE13
         go_wp2_with fail
         refine (HCT.out _ HX13.out).mono ?_
         rintro e w14 ⟨rfl, hE14⟩
         have HE1 := Lib.hid (HE1.out.trans hE14)
         clear hE14
         go_wp2_with fail
         go_ret
         exact ⟨rb (by simp), HE1.out⟩

end Go.Proofs.YtpfnlbaloaohgaaGreat
