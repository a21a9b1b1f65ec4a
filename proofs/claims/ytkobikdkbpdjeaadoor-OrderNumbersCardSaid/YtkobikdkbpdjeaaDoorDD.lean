/- The walks of the laws OrderPrecedence and OrderNumbers. -/
import Derived.Test.YtkobikdkbpdjeaaDoorC2
import Derived.Test.YtkobikdkbpdjeaaDoorDC
namespace Go.Proofs.YtkobikdkbpdjeaaDoor
open Go Go.RowKit
set_option linter.unusedVariables false
set_option linter.unusedSimpArgs false

set_option maxRecDepth 100000 in
set_option maxHeartbeats 8000000 in
theorem law_prec {w : World} {S Sw : Nat → Prop} {v u : Option Addr} {vc uc : Nat} {l : List ByteArray} {W : List Int} (hWd : Words w) (hL : LsG elS w S (.slice v l.length vc) l) (hI : LsG elI w Sw (.slice u W.length uc) W) :
 Calls Tryd.prog 3 #[.slice v l.length vc, .slice u W.length uc] w fun e w' => e = .returned (.bool true) ∧ Ext w w' := by
 obtain ⟨-, hvl, hvc⟩ := hL.len
 obtain ⟨-, hul, huc⟩ := hI.len
 unfold maxLen at hvc huc
 have HL := Lib.hid hL
 have HI := Lib.hid hI
 have HWS := Lib.hid hWd
 have HCA := Lib.hid (fun (w' : World) (h : Ext w w') => awake4 (HWS.out.ext h))
 have HLG := Lib.hid (fun (w' : World) (h : Ext w w') => contains_long (HL.out.ext h))
 obtain ⟨z, hz⟩ : ∃ z, z = l.any (fun s => decide (40 < s.size)) := ⟨_, rfl⟩
 rw [← hz] at HLG
 clear hL hI hWd hz
 go_enter Tryd.func3, Tryd.ntmps3
 by_cases hl60 : (60 : Int) < (l.length : Int)
 · go_wp2_with fail
   refine (HCA.out _ (Ext.refl _)).mono ?_
   rintro e w3 ⟨rfl, hE3⟩
   have HX := Lib.hid hE3
   clear hE3
   go_wp2_with fail
   refine (HCA.out _ HX.out).mono ?_
   rintro e w9 ⟨rfl, hE9⟩
   have HE9 := Lib.hid (HX.out.trans hE9)
   clear hE9
   go_wp2_with fail
   go_ret
   exact ⟨rfl, HE9.out⟩
 · by_cases hW100 : (100 : Int) < (W.length : Int)
   · go_wp2_with fail
     refine (HCA.out _ (Ext.refl _)).mono ?_
     rintro e w3 ⟨rfl, hE3⟩
     have HX := Lib.hid hE3
     clear hE3
     go_wp2_with fail
     refine (HCA.out _ HX.out).mono ?_
     rintro e w9 ⟨rfl, hE9⟩
     have HE9 := Lib.hid (HX.out.trans hE9)
     clear hE9
     go_wp2_with fail
     go_ret
     exact ⟨rfl, HE9.out⟩
   · go_wp2_with fail
     refine (HCA.out _ (Ext.refl _)).mono ?_
     rintro e w3 ⟨rfl, hE3⟩
     have HX := Lib.hid hE3
     clear hE3
     go_wp2_with fail
     refine (HLG.out _ HX.out).mono ?_
     rintro e w4 ⟨rfl, hE4⟩
     have HX := Lib.hid (HX.out.trans hE4)
     clear hE4
     cases z with
     | true =>
       go_wp2_with fail
       refine (HCA.out _ HX.out).mono ?_
       rintro e w9 ⟨rfl, hE9⟩
       have HE9 := Lib.hid (HX.out.trans hE9)
       clear hE9
       go_wp2_with fail
       go_ret
       exact ⟨rfl, HE9.out⟩
     | false =>
       have HP := Lib.hid (fun (w' : World) (h : Ext w w') (x : Value) (hx : LsG elS w' (fun _ => True) x l) => (by
        obtain ⟨xa, xc, rfl, -⟩ := id hx.slice
        exact prec_any (HWS.out.ext h) hx : Calls Tryd.prog 8 #[x] w' fun e w'' => e = .returned (.int .i64 (precE l)) ∧ Ext w' w''))
       have HA := Lib.hid (fun (w' : World) (h : Ext w w') (x y : Value) (hx : LsG elS w' (fun _ => True) x l) (hy : LsG elI w' (fun _ => True) y W) => (by
        obtain ⟨xa, xc, rfl, -⟩ := id hx.slice
        obtain ⟨ya, yc, rfl, -⟩ := id hy.slice
        exact adm_any (HWS.out.ext h) hx hy : Calls Tryd.prog 11 #[x, y] w' fun e w'' => e = .returned (.int .i64 (admE l W)) ∧ Ext w' w''))
       have HRP := Lib.hid (fun (w' : World) (h : Ext w w') => RPrec_any (HL.out.ext h))
       have HRA := Lib.hid (fun (w' : World) (h : Ext w w') => RAdm_any (HL.out.ext h) (HI.out.ext h))
       have HC1 := Lib.hid (fun (w' : World) (h : Ext w w') => sClone_any4 (by omega) (HL.out.ext h))
       have HC2 := Lib.hid (fun (w' : World) (h : Ext w w') => iClone_any4 (by omega) (HI.out.ext h))
       obtain ⟨p, hp⟩ : ∃ p, p = precE l := ⟨_, rfl⟩
       obtain ⟨q, hq⟩ : ∃ q, q = admE l W := ⟨_, rfl⟩
       rw [← hp] at HP HRP
       rw [← hq] at HA HRA
       clear hp hq
       go_wp2_with fail
       refine (HC1.out _ HX.out).mono ?_
       rintro e w5 ⟨x5, rfl, hE5, hL5⟩
       have HX := Lib.hid (HX.out.trans hE5)
       have HL5 := Lib.hid hL5
       clear hE5 hL5
       go_wp2_with fail
       refine (HP.out _ HX.out _ HL5.out).mono ?_
       rintro e w6 ⟨rfl, hE6⟩
       have HX := Lib.hid (HX.out.trans hE6)
       clear hE6 HL5
       go_wp2_with fail
       refine (HRP.out _ HX.out).mono ?_
       rintro e w7 ⟨rfl, hE7⟩
       have HX := Lib.hid (HX.out.trans hE7)
       clear hE7
       go_wp2_with fail
       refine (HC1.out _ HX.out).mono ?_
       rintro e w8 ⟨x8, rfl, hE8, hL8⟩
       have HX := Lib.hid (HX.out.trans hE8)
       have HL8 := Lib.hid hL8
       clear hE8 hL8
       go_wp2_with fail
       refine (HC2.out _ HX.out).mono ?_
       rintro e w9 ⟨x9, rfl, hE9, hL9⟩
       have HX := Lib.hid (HX.out.trans hE9)
       have HL8 := Lib.hid (HL8.out.ext hE9)
       have HL9 := Lib.hid hL9
       clear hE9 hL9
       go_wp2_with fail
       refine (HA.out _ HX.out _ _ HL8.out HL9.out).mono ?_
       rintro e w10 ⟨rfl, hE10⟩
       have HX := Lib.hid (HX.out.trans hE10)
       clear hE10 HL8 HL9
       go_wp2_with fail
       refine (HRA.out _ HX.out).mono ?_
       rintro e w11 ⟨rfl, hE11⟩
       have HX := Lib.hid (HX.out.trans hE11)
       clear hE11
       go_wp2_with fail
       go_ret
       exact ⟨rb (by simp), HX.out⟩

theorem msI_vals (a b : List Int) : msI a b = 0 ∨ msI a b = 1 ∨ msI a b = -1 := lexI_vals _ _
set_option maxRecDepth 100000 in
set_option maxHeartbeats 8000000 in
theorem law_numbers {w : World} {Sa Sb Sc : Nat → Prop} {a b c : Option Addr} {ca cb cc : Nat} {A B C : List Int} (hWd : Words w) (hA : LsG elI w Sa (.slice a A.length ca) A) (hB : LsG elI w Sb (.slice b B.length cb) B) (hC : LsG elI w Sc (.slice c C.length cc) C) :
 Calls Tryd.prog 4 #[.slice a A.length ca, .slice b B.length cb, .slice c C.length cc] w fun e w' => e = .returned (.bool true) ∧ Ext w w' := by
 obtain ⟨-, hal, hac⟩ := hA.len
 obtain ⟨-, hbl, hbc⟩ := hB.len
 obtain ⟨-, hcl, hcc⟩ := hC.len
 unfold maxLen at hac hbc hcc
 have HA := Lib.hid hA
 have HB := Lib.hid hB
 have HC := Lib.hid hC
 have HWS := Lib.hid hWd
 have HCA := Lib.hid (fun (w' : World) (h : Ext w w') => awake4 (HWS.out.ext h))
 clear hA hB hC hWd
 go_enter Tryd.func4, Tryd.ntmps4
 by_cases ha30 : (30 : Int) < (A.length : Int)
 · skip
   go_wp2_with fail
   refine (HCA.out _ (Ext.refl _)).mono ?_
   rintro e w3 ⟨rfl, hE3⟩
   have HX := Lib.hid hE3
   clear hE3
   go_wp2_with fail
   refine (HCA.out _ HX.out).mono ?_
   rintro e w9 ⟨rfl, hE9⟩
   have HE9 := Lib.hid (HX.out.trans hE9)
   clear hE9
   go_wp2_with fail
   go_ret
   exact ⟨rfl, HE9.out⟩
 · by_cases hb30 : (30 : Int) < (B.length : Int)
   · skip
     go_wp2_with fail
     refine (HCA.out _ (Ext.refl _)).mono ?_
     rintro e w3 ⟨rfl, hE3⟩
     have HX := Lib.hid hE3
     clear hE3
     go_wp2_with fail
     refine (HCA.out _ HX.out).mono ?_
     rintro e w9 ⟨rfl, hE9⟩
     have HE9 := Lib.hid (HX.out.trans hE9)
     clear hE9
     go_wp2_with fail
     go_ret
     exact ⟨rfl, HE9.out⟩
   · by_cases hc30 : (30 : Int) < (C.length : Int)
     · skip
       go_wp2_with fail
       refine (HCA.out _ (Ext.refl _)).mono ?_
       rintro e w3 ⟨rfl, hE3⟩
       have HX := Lib.hid hE3
       clear hE3
       go_wp2_with fail
       refine (HCA.out _ HX.out).mono ?_
       rintro e w9 ⟨rfl, hE9⟩
       have HE9 := Lib.hid (HX.out.trans hE9)
       clear hE9
       go_wp2_with fail
       go_ret
       exact ⟨rfl, HE9.out⟩
     · have HLEN : Hid (A.length ≤ 1000 ∧ B.length ≤ 1000 ∧ C.length ≤ 1000) := Lib.hid (by omega)
       have HRL : Hid (A.reverse.length ≤ 1000) := Lib.hid (by rw [List.length_reverse]; omega)
       have HLE2 : Hid (A.length ≤ 100 ∧ B.length ≤ 100) := Lib.hid (by omega)
       have HCL := Lib.hid (fun (w' : World) (h : Ext w w') => iClone4 (by have := HLEN.out; omega) (HA.out.ext h))
       have HFA := Lib.hid (fun (w' : World) (h : Ext w w') => iClone_any4 (by have := HLEN.out; omega) (HA.out.ext h))
       have HFB := Lib.hid (fun (w' : World) (h : Ext w w') => iClone_any4 (by have := HLEN.out; omega) (HB.out.ext h))
       have HFC := Lib.hid (fun (w' : World) (h : Ext w w') => iClone_any4 (by have := HLEN.out; omega) (HC.out.ext h))
       have HM : Hid (∀ (w' : World) (x y : Value) (X Y : List Int), X.length ≤ 1000 → Y.length ≤ 1000 → LsG elI w' (fun _ => True) x X → LsG elI w' (fun _ => True) y Y → Calls Tryd.prog 15 #[x, y] w' fun e w'' => e = .returned (.int .i64 (msI X Y)) ∧ Ext w' w'') := Lib.hid (fun w' x y X Y h1 h2 hx hy => by
        obtain ⟨xa, xc, rfl, -⟩ := id hx.slice
        obtain ⟨ya, yc, rfl, -⟩ := id hy.slice
        exact Multiset_any h1 h2 hx.i hy.i)
       have HLX : Hid (∀ (w' : World) (x y : Value), LsG elI w' (fun _ => True) x A → LsG elI w' (fun _ => True) y B → Calls Tryd.prog 16 #[x, y] w' fun e w'' => e = .returned (.int .i64 (lexI A B)) ∧ Ext w' w'') := Lib.hid (fun w' x y hx hy => by
        obtain ⟨xa, xc, rfl, -⟩ := id hx.slice
        obtain ⟨ya, yc, rfl, -⟩ := id hy.slice
        exact Lex_any4 hx hy)
       have HRLX := Lib.hid (fun (w' : World) (h : Ext w w') => RLex_any (HA.out.ext h) (HB.out.ext h))
       have HRM := Lib.hid (fun (w' : World) (h : Ext w w') => RMultiset_any HLE2.out.1 HLE2.out.2 (HA.out.ext h) (HB.out.ext h))
       have HM1 := Lib.hid (fun (w' : World) (x y : Value) => HM.out w' x y A B HLEN.out.1 HLEN.out.2.1)
       have HM2 := Lib.hid (fun (w' : World) (x y : Value) => HM.out w' x y B C HLEN.out.2.1 HLEN.out.2.2)
       have HM3 := Lib.hid (fun (w' : World) (x y : Value) => HM.out w' x y A C HLEN.out.1 HLEN.out.2.2)
       have HM4 := Lib.hid (fun (w' : World) (x y : Value) => HM.out w' x y A.reverse B HRL.out HLEN.out.2.1)
       have HM5 := Lib.hid (fun (w' : World) (x y : Value) => HM.out w' x y B A HLEN.out.2.1 HLEN.out.1)
       rw [msI_perm (List.reverse_perm A) B] at HM4
       rw [msI_swap A B] at HM5
       have hv := msI_vals A B
       obtain ⟨t, ht⟩ : ∃ t, t = lexI A B := ⟨_, rfl⟩
       obtain ⟨x, hx⟩ : ∃ t, t = msI A B := ⟨_, rfl⟩
       obtain ⟨y, hy⟩ : ∃ t, t = msI B C := ⟨_, rfl⟩
       obtain ⟨z, hz⟩ : ∃ t, t = msI A C := ⟨_, rfl⟩
       have HTR : Hid (0 ≤ x → 0 ≤ y → 0 ≤ z) := Lib.hid (by rw [hx, hy, hz]; exact msI_trans)
       rw [← hx] at HM1 HM4 HM5 HRM hv
       rw [← hy] at HM2
       rw [← hz] at HM3
       rw [← ht] at HLX HRLX
       have hwx : IntKind.i64.wrap (-x) = -x := by rw [IntKind.wrap_i64]; omega
       clear ht hx hy hz HM hv
       go_wp2_with fail
       refine (HCA.out _ (Ext.refl _)).mono ?_
       rintro e w3 ⟨rfl, hE3⟩
       have HX := Lib.hid hE3
       clear hE3
       go_wp2_with fail
       refine (HCL.out _ HX.out).mono ?_
       rintro e w4 ⟨bk, rfl, hE4, hO4⟩
       have HRV := Lib.hid (rev4 (by have := HLEN.out; omega) hO4)
       have HO4 := Lib.hid hO4
       have HX4 := Lib.hid HX.out.size
       have HX := Lib.hid (HX.out.trans hE4)
       clear hE4 hO4
       go_wp2_with fail
       refine HRV.out.mono ?_
       rintro e w5 ⟨rfl, hL5, hg5⟩
       have HX := Lib.hid (HX.out.grown hg5 (fun g e => Nat.le_trans HX4.out (HO4.out.lt g e).1))
       have HBK := Lib.hid hL5
       clear hL5 hg5 HO4 HRV
       go_wp2_with fail
       refine (HFA.out _ HX.out).mono ?_
       rintro e w6 ⟨v6, rfl, hEN, hL6⟩
       have HL6 := Lib.hid hL6
       clear hL6
       have HBK := Lib.hid (HBK.out.ext hEN)
       have HX := Lib.hid (HX.out.trans hEN)
       clear hEN
       go_wp2_with fail
       refine (HFB.out _ HX.out).mono ?_
       rintro e w7 ⟨v7, rfl, hEN, hL7⟩
       have HL7 := Lib.hid hL7
       have HL6 := Lib.hid (HL6.out.ext hEN)
       clear hL7
       have HBK := Lib.hid (HBK.out.ext hEN)
       have HX := Lib.hid (HX.out.trans hEN)
       clear hEN
       go_wp2_with fail
       refine (HM1.out _ _ _ HL6.out HL7.out).mono ?_
       rintro e w8 ⟨rfl, hEN⟩
       clear HL6 HL7
       have HBK := Lib.hid (HBK.out.ext hEN)
       have HX := Lib.hid (HX.out.trans hEN)
       clear hEN
       go_wp2_with fail
       refine (HFB.out _ HX.out).mono ?_
       rintro e w6 ⟨v6, rfl, hEN, hL6⟩
       have HL6 := Lib.hid hL6
       clear hL6
       have HBK := Lib.hid (HBK.out.ext hEN)
       have HX := Lib.hid (HX.out.trans hEN)
       clear hEN
       go_wp2_with fail
       refine (HFC.out _ HX.out).mono ?_
       rintro e w7 ⟨v7, rfl, hEN, hL7⟩
       have HL7 := Lib.hid hL7
       have HL6 := Lib.hid (HL6.out.ext hEN)
       clear hL7
       have HBK := Lib.hid (HBK.out.ext hEN)
       have HX := Lib.hid (HX.out.trans hEN)
       clear hEN
       go_wp2_with fail
       refine (HM2.out _ _ _ HL6.out HL7.out).mono ?_
       rintro e w8 ⟨rfl, hEN⟩
       clear HL6 HL7
       have HBK := Lib.hid (HBK.out.ext hEN)
       have HX := Lib.hid (HX.out.trans hEN)
       clear hEN
       go_wp2_with fail
       refine (HFA.out _ HX.out).mono ?_
       rintro e w6 ⟨v6, rfl, hEN, hL6⟩
       have HL6 := Lib.hid hL6
       clear hL6
       have HBK := Lib.hid (HBK.out.ext hEN)
       have HX := Lib.hid (HX.out.trans hEN)
       clear hEN
       go_wp2_with fail
       refine (HFC.out _ HX.out).mono ?_
       rintro e w7 ⟨v7, rfl, hEN, hL7⟩
       have HL7 := Lib.hid hL7
       have HL6 := Lib.hid (HL6.out.ext hEN)
       clear hL7
       have HBK := Lib.hid (HBK.out.ext hEN)
       have HX := Lib.hid (HX.out.trans hEN)
       clear hEN
       go_wp2_with fail
       refine (HM3.out _ _ _ HL6.out HL7.out).mono ?_
       rintro e w8 ⟨rfl, hEN⟩
       clear HL6 HL7
       have HBK := Lib.hid (HBK.out.ext hEN)
       have HX := Lib.hid (HX.out.trans hEN)
       clear hEN
       go_wp2_with fail
       refine (HFA.out _ HX.out).mono ?_
       rintro e w6 ⟨v6, rfl, hEN, hL6⟩
       have HL6 := Lib.hid hL6
       clear hL6
       have HBK := Lib.hid (HBK.out.ext hEN)
       have HX := Lib.hid (HX.out.trans hEN)
       clear hEN
       go_wp2_with fail
       refine (HFB.out _ HX.out).mono ?_
       rintro e w7 ⟨v7, rfl, hEN, hL7⟩
       have HL7 := Lib.hid hL7
       have HL6 := Lib.hid (HL6.out.ext hEN)
       clear hL7
       have HBK := Lib.hid (HBK.out.ext hEN)
       have HX := Lib.hid (HX.out.trans hEN)
       clear hEN
       go_wp2_with fail
       refine (HLX.out _ _ _ HL6.out HL7.out).mono ?_
       rintro e w8 ⟨rfl, hEN⟩
       clear HL6 HL7
       have HBK := Lib.hid (HBK.out.ext hEN)
       have HX := Lib.hid (HX.out.trans hEN)
       clear hEN
       go_wp2_with fail
       refine (HRLX.out _ HX.out).mono ?_
       rintro e w8 ⟨rfl, hEN⟩
       have HBK := Lib.hid (HBK.out.ext hEN)
       have HX := Lib.hid (HX.out.trans hEN)
       clear hEN
       go_wp2_with fail
       refine (HRM.out _ HX.out).mono ?_
       rintro e w8 ⟨rfl, hEN⟩
       have HBK := Lib.hid (HBK.out.ext hEN)
       have HX := Lib.hid (HX.out.trans hEN)
       clear hEN
       go_wp2_with fail
       refine (HFB.out _ HX.out).mono ?_
       rintro e w7 ⟨v7, rfl, hEN, hL7⟩
       have HL7 := Lib.hid hL7
       clear hL7
       have HBK := Lib.hid (HBK.out.ext hEN)
       have HX := Lib.hid (HX.out.trans hEN)
       clear hEN
       go_wp2_with fail
       refine (HM4.out _ _ _ HBK.out HL7.out).mono ?_
       rintro e w8 ⟨rfl, hEN⟩
       clear HL7
       have HBK := Lib.hid (HBK.out.ext hEN)
       have HX := Lib.hid (HX.out.trans hEN)
       clear hEN
       go_wp2_with fail
       refine (HFB.out _ HX.out).mono ?_
       rintro e w6 ⟨v6, rfl, hEN, hL6⟩
       have HL6 := Lib.hid hL6
       clear hL6
       have HBK := Lib.hid (HBK.out.ext hEN)
       have HX := Lib.hid (HX.out.trans hEN)
       clear hEN
       go_wp2_with fail
       refine (HFA.out _ HX.out).mono ?_
       rintro e w7 ⟨v7, rfl, hEN, hL7⟩
       have HL7 := Lib.hid hL7
       have HL6 := Lib.hid (HL6.out.ext hEN)
       clear hL7
       have HBK := Lib.hid (HBK.out.ext hEN)
       have HX := Lib.hid (HX.out.trans hEN)
       clear hEN
       go_wp2_with fail
       refine (HM5.out _ _ _ HL6.out HL7.out).mono ?_
       rintro e w8 ⟨rfl, hEN⟩
       clear HL6 HL7
       have HBK := Lib.hid (HBK.out.ext hEN)
       have HX := Lib.hid (HX.out.trans hEN)
       clear hEN
       by_cases hx0 : (0 : Int) ≤ x
       · by_cases hy0 : (0 : Int) ≤ y
         · have hz0 : ¬ z < 0 := by have := HTR.out hx0 hy0; omega
           go_wp2_with fail
           go_ret
           exact ⟨rb (by simp; omega), HX.out⟩
         · go_wp2_with fail
           go_ret
           exact ⟨rfl, HX.out⟩
       · go_wp2_with fail
         go_ret
         exact ⟨rfl, HX.out⟩
end Go.Proofs.YtkobikdkbpdjeaaDoor
