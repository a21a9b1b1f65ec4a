/- The walk of the law OrderKbo. -/
import Derived.Test.YtkobikdkbpdjeaaGreatDoorC2
import Derived.Test.YtkobikdkbpdjeaaGreatDoorCC
import Derived.Test.YtkobikdkbpdjeaaGreatDoorD1
namespace Go.Proofs.YtkobikdkbpdjeaaGreatDoor
open Go Go.RowKit
set_option linter.unusedVariables false
set_option linter.unusedSimpArgs false

theorem few_lt {L : List Tm} {n m : Int} (h : fewT L n m = true) : (sizeL L : Int) ≤ m := (few_size h).2
theorem cloneS.persist {tb : Bool} {B : Nat} {l : List ByteArray} : Persist false B [] (fun u w => LsG elS w (fun _ => True) u l) := ⟨fun u a b h hE => h.ext hE, (fun h => nomatch h), (fun h => absurd rfl h)⟩
theorem sClone_any4 {w : World} {Sq : Nat → Prop} {a : Option Addr} {cap : Nat} {C : List ByteArray} (hll : C.length ≤ 1000000) (hC : LsG elS w Sq (.slice a C.length cap) C) :
 Calls Tryz.prog 16 #[.slice a C.length cap] w fun e w' => ∃ u, e = .returned u ∧ Ext w w' ∧ LsG elS w' (fun _ => True) u C :=
 (sClone4 hll hC).mono fun e w' ⟨u, h1, h2, h3⟩ => ⟨u, h1, h2, h3.any⟩
theorem iClone_any4 {w : World} {Sq : Nat → Prop} {a : Option Addr} {cap : Nat} {C : List Int} (hll : C.length ≤ 1000000) (hC : LsG elI w Sq (.slice a C.length cap) C) :
 Calls Tryz.prog 17 #[.slice a C.length cap] w fun e w' => ∃ u, e = .returned u ∧ Ext w w' ∧ LsG elI w' (fun _ => True) u C :=
 (iClone4 hll hC).mono fun e w' ⟨u, h1, h2, h3⟩ => ⟨u, h1, h2, h3.any⟩

set_option maxRecDepth 100000 in
set_option maxHeartbeats 8000000 in
theorem law_kbo {w : World} {S Sw Sa Sb : Nat → Prop} {v u a a' : Option Addr} {vc uc cap cap' : Nat} {l : List ByteArray} {W : List Int} {s t : Tm} (hWd : Words w) (hL : LsG elS w S (.slice v l.length vc) l) (hI : LsG elI w Sw (.slice u W.length uc) W) (hs : TmW w Sa a cap s) (ht : TmW w Sb a' cap' t) :
 Calls Tryz.prog 5 #[.agg #[.slice v l.length vc, .slice u W.length uc], .agg #[.int .i64 s.kind, .string s.name, .int .i64 s.sort, .slice a s.kids.length cap], .agg #[.int .i64 t.kind, .string t.name, .int .i64 t.sort, .slice a' t.kids.length cap']] w fun e w' => e = .returned (.bool true) ∧ Ext w w' := by
 have hsl := hs.len
 have hsc := hs.cap
 have htl := ht.len
 have htc := ht.cap
 obtain ⟨-, hvl, hvc⟩ := hL.len
 obtain ⟨-, hul, huc⟩ := hI.len
 unfold maxLen at hsc htc hvc huc
 obtain ⟨px, w0, hpx, hw0, HPX, hE0⟩ := box_new w (.cells #[.slice v l.length vc, .slice u W.length uc] 44)
 obtain ⟨bx, w1, hbbx, hwbx, HBbx, hEbx⟩ := box_new w0 (.cells #[.int .i64 s.kind, .string s.name, .int .i64 s.sort, .slice a s.kids.length cap] 24)
 obtain ⟨cx, w2, hbcx, hwcx, HBcx, hEcx⟩ := box_new w1 (.cells #[.int .i64 t.kind, .string t.name, .int .i64 t.sort, .slice a' t.kids.length cap'] 24)
 have hbx1 : bx = px + 1 := by rw [hbbx, hw0, World.size_alloc, hpx]
 have hcx1 : cx = bx + 1 := by rw [hbcx, hwbx, World.size_alloc, hbbx]
 have hE12 := hEbx.trans hEcx
 have hE2 := hE0.trans hE12
 have HPX := Lib.hid (hs_ext hE12 HPX.out)
 have HBX := Lib.hid (hs_ext hEcx HBbx.out)
 have p0 : w2.cell? ⟨px, 0, none⟩ = some (.slice v l.length vc) := by rw [cellc HPX.out]; rfl
 have p1 : w2.cell? ⟨px, 1, none⟩ = some (.slice u W.length uc) := by rw [cellc HPX.out]; rfl
 obtain ⟨b0, b1, b2, b3⟩ := box4r HBX.out
 obtain ⟨c0, c1, c2, c3⟩ := box4r HBcx.out
 have HE2 := Lib.hid hE2
 have HL := Lib.hid (hL.ext hE2)
 have HI := Lib.hid (hI.ext hE2)
 have HWS := Lib.hid (hWd.ext hE2)
 have HS := Lib.hid (hs.any.ext hE2)
 have HT := Lib.hid (ht.any.ext hE2)
 have HCA := Lib.hid (fun (w' : World) (h : Ext w2 w') => awake4 (HWS.out.ext h))
 clear hL hI hWd hs ht hE2 hEbx hEcx hE0 hE12
 go_enter Tryz.func5, Tryz.ntmps5
 go_upto_region 1 with fail
 rw [← hw0, ← hpx, ← hwbx, ← hbx1, ← hwcx, ← hcx1]
 clear hw0 hpx hwbx hwcx hbx1 hcx1 hbbx hbcx
 by_cases hl20 : (20 : Int) < (l.length : Int)
 · go_wp2_with fail
   refine (HCA.out _ (Ext.refl _)).mono ?_
   rintro e w3 ⟨rfl, hE3⟩
   obtain ⟨p0, p1, b0, b1, b2, b3, c0, c1, c2, c3⟩ := cs_e10 hE3 ⟨p0, p1, b0, b1, b2, b3, c0, c1, c2, c3⟩
   have HX := Lib.hid hE3
   clear hE3
   go_wp2_with fail
   refine (HCA.out _ HX.out).mono ?_
   rintro e w9 ⟨rfl, hE9⟩
   have HE9 := Lib.hid (HE2.out.trans (HX.out.trans hE9))
   clear hE9
   go_wp2_with fail
   go_ret
   exact ⟨rfl, HE9.out⟩
 · by_cases hW30 : (30 : Int) < (W.length : Int)
   · go_wp2_with fail
     refine (HCA.out _ (Ext.refl _)).mono ?_
     rintro e w3 ⟨rfl, hE3⟩
     obtain ⟨p0, p1, b0, b1, b2, b3, c0, c1, c2, c3⟩ := cs_e10 hE3 ⟨p0, p1, b0, b1, b2, b3, c0, c1, c2, c3⟩
     have HX := Lib.hid hE3
     clear hE3
     go_wp2_with fail
     refine (HCA.out _ HX.out).mono ?_
     rintro e w9 ⟨rfl, hE9⟩
     have HE9 := Lib.hid (HE2.out.trans (HX.out.trans hE9))
     clear hE9
     go_wp2_with fail
     go_ret
     exact ⟨rfl, HE9.out⟩
   · go_wp2_with fail
     refine (HCA.out _ (Ext.refl _)).mono ?_
     rintro e w3 ⟨rfl, hE3⟩
     obtain ⟨p0, p1, b0, b1, b2, b3, c0, c1, c2, c3⟩ := cs_e10 hE3 ⟨p0, p1, b0, b1, b2, b3, c0, c1, c2, c3⟩
     have HX := Lib.hid hE3
     obtain ⟨fb, w4, hfb, hw4, HBF, hE4⟩ := box_new w3 (.cells #[.int .i64 s.kind, .string s.name, .int .i64 s.sort, .slice a s.kids.length cap, .int .i64 t.kind, .string t.name, .int .i64 t.sort, .slice a' t.kids.length cap'] 24)
     obtain ⟨o, ho⟩ : ∃ o, o = fewT [s, t] 4 60 := ⟨_, rfl⟩
     have HO := Lib.hid ho
     have hfl : LsT w4 Any (.slice (some ⟨fb, 0, none⟩) 2 2) [s, t] := cells_ls (E := [⟨s, a, cap⟩, ⟨t, a', cap'⟩]) HBF.out rfl (by simp) (fun e he => by
      simp at he
      rcases he with rfl | rfl
      · exact HS.out.ext (HX.out.trans hE4)
      · exact HT.out.ext (HX.out.trans hE4))
     have hcf := few4 (cap := 2) (by unfold maxLen; simp) hfl.ts
     rw [← ho] at hcf
     have HCF := Lib.hid hcf
     clear hE3 ho hfl hcf
     go_wp2_with fail
     rw [← hw4, ← hfb]
     clear hw4 hfb
     obtain ⟨p0, p1, b0, b1, b2, b3, c0, c1, c2, c3⟩ := cs_e10 hE4 ⟨p0, p1, b0, b1, b2, b3, c0, c1, c2, c3⟩
     have HX := Lib.hid (HX.out.trans hE4)
     clear hE4
     refine HCF.out.mono ?_
     rintro e w5 ⟨rfl, hE5⟩
     obtain ⟨p0, p1, b0, b1, b2, b3, c0, c1, c2, c3⟩ := cs_e10 hE5 ⟨p0, p1, b0, b1, b2, b3, c0, c1, c2, c3⟩
     have HX := Lib.hid (HX.out.trans hE5)
     clear hE5
     cases o with
     | false =>
       go_wp2_with fail
       refine (HCA.out _ HX.out).mono ?_
       rintro e w9 ⟨rfl, hE9⟩
       have HE9 := Lib.hid (HE2.out.trans (HX.out.trans hE9))
       clear hE9
       go_wp2_with fail
       go_ret
       exact ⟨rfl, HE9.out⟩
     | true =>
       have HSZ : Hid (sizeT s + sizeT t ≤ 60) := Lib.hid (by have := few_lt HO.out.symm; simp only [sizeL] at this; omega)
       have HK := Lib.hid (fun (w' : World) (h : Ext w5 w') (x y : Value) (hx : LsG elS w' (fun _ => True) x l) (hy : LsG elI w' (fun _ => True) y W) => (by
        obtain ⟨xa, xc, rfl, -⟩ := id hx.slice
        obtain ⟨ya, yc, rfl, -⟩ := id hy.slice
        exact Kbo_any (HWS.out.ext (HX.out.trans h)) hx.below hy.below (fun _ h => h) (fun _ h => h) (fun _ h => h) (by have := HSZ.out; omega) (HS.out.ext (HX.out.trans h)).below (HT.out.ext (HX.out.trans h)).below : Calls Tryz.prog 12 #[x, y, .agg #[.int .i64 s.kind, .string s.name, .int .i64 s.sort, .slice a s.kids.length cap], .agg #[.int .i64 t.kind, .string t.name, .int .i64 t.sort, .slice a' t.kids.length cap']] w' fun e w'' => e = .returned (.tuple #[.int .i64 (kboV l W s t), .int .i64 (kboE l W s t)]) ∧ Ext w' w''))
       have HR := Lib.hid (fun (w' : World) (h : Ext w5 w') => RKbo_any (w := w') (by have := HSZ.out; omega) (by have := HSZ.out; omega) (HL.out.ext (HX.out.trans h)) (HI.out.ext (HX.out.trans h)) (fun _ h => h) (fun _ h => h) (HS.out.ext (HX.out.trans h)).below (HT.out.ext (HX.out.trans h)).below)
       obtain ⟨z, hz⟩ : ∃ z, z = kboV l W s t := ⟨_, rfl⟩
       obtain ⟨y, hy⟩ : ∃ y, y = kboE l W s t := ⟨_, rfl⟩
       rw [← hz, ← hy] at HK HR
       have HC1 := Lib.hid (fun (w' : World) (h : Ext w5 w') => sClone_any4 (by omega) (HL.out.ext (HX.out.trans h)))
       have HC2 := Lib.hid (fun (w' : World) (h : Ext w5 w') => iClone_any4 (by omega) (HI.out.ext (HX.out.trans h)))
       clear hz hy
       go_upto_region 3 with fail
       have HFCT := Lib.hid (And.intro p0 (And.intro p1 (And.intro b0 (And.intro b1 (And.intro b2 (And.intro b3 (And.intro c0 (And.intro c1 (And.intro c2 c3)))))))))
       refine wp_region_reg 14 false (by kernel_rfl) (by kernel_rfl) ?_
       refine reg_value (fun _ => rfl) ?_ (fun g w' vs hM hE hP => ?_) ?_
       rotate_left
       · (clear hP hM; have ⟨z0, z1, z2, z3, z4, z5, z6, z7, z8, z9⟩ := cs_e10 hE HFCT.out; go_simp; first | done | rfl)
       refine reg_value (fun _ => rfl) ?_ (fun g w' vs hM hE hP => ?_) ?_
       rotate_left
       · (clear hP hM; have ⟨z0, z1, z2, z3, z4, z5, z6, z7, z8, z9⟩ := cs_e10 hE HFCT.out; go_simp; first | done | rfl)
       refine reg_call (fun _ => rfl) 16 (fun _ => #[.slice v l.length vc]) (fun g w' m hM hE hP => ?_) (fun u w => LsG elS w (fun _ => True) u l) ⟨fun u a b h hE => h.ext hE, (fun h => nomatch h), (fun h => absurd rfl h)⟩ (fun g w' m hM hE hP => ?_) ?_
       · clear hM hP
         go_simp
       · exact HC1.out w' hE
       refine reg_value (fun _ => rfl) ?_ (fun g w' vs hM hE hP => ?_) ?_
       rotate_left
       · (clear hP hM; have ⟨z0, z1, z2, z3, z4, z5, z6, z7, z8, z9⟩ := cs_e10 hE HFCT.out; go_simp; first | done | rfl)
       refine reg_value (fun _ => rfl) ?_ (fun g w' vs hM hE hP => ?_) ?_
       rotate_left
       · (clear hP hM; have ⟨z0, z1, z2, z3, z4, z5, z6, z7, z8, z9⟩ := cs_e10 hE HFCT.out; go_simp; first | done | rfl)
       refine reg_call (fun _ => rfl) 17 (fun _ => #[.slice u W.length uc]) (fun g w' m hM hE hP => ?_) (fun u w => LsG elI w (fun _ => True) u W) ⟨fun u a b h hE => h.ext hE, (fun h => nomatch h), (fun h => absurd rfl h)⟩ (fun g w' m hM hE hP => ?_) ?_
       · clear hM hP
         go_simp
       · exact HC2.out w' hE
       refine reg_value (fun _ => rfl) ?_ (fun g w' vs hM hE hP => ?_) ?_
       rotate_left
       · (clear hP hM; have ⟨z0, z1, z2, z3, z4, z5, z6, z7, z8, z9⟩ := cs_e10 hE HFCT.out; go_simp; first | done | rfl)
       refine reg_value (fun _ => rfl) ?_ (fun g w' vs hM hE hP => ?_) ?_
       rotate_left
       · (clear hP hM; have ⟨z0, z1, z2, z3, z4, z5, z6, z7, z8, z9⟩ := cs_e10 hE HFCT.out; go_simp; first | done | rfl)
       refine reg_const (fun g => rfl) 12 (fun g => #[(g 2).v, (g 5).v, .agg #[.int .i64 s.kind, .string s.name, .int .i64 s.sort, .slice a s.kids.length cap], .agg #[.int .i64 t.kind, .string t.name, .int .i64 t.sort, .slice a' t.kids.length cap']]) (fun g w' m hM hE hP => ?_) ⟨.tuple #[.int .i64 z, .int .i64 y], fun g w' m hM hE hP => ?_, ?_⟩
       · clear hP hM
         go_simp
       · have h1 := hP (2, fun u w => LsG elS w (fun _ => True) u l) (by simp) (anc_of 4 (by kernel_rfl))
         have h2 := hP (5, fun u w => LsG elI w (fun _ => True) u W) (by simp) (anc_of 4 (by kernel_rfl))
         exact HK.out w' hE _ _ h1 h2
       refine reg_value (fun _ => rfl) ?_ (fun g w' vs hM hE hP => ?_) ?_
       rotate_left
       · (clear hP hM; have ⟨z0, z1, z2, z3, z4, z5, z6, z7, z8, z9⟩ := cs_e10 hE HFCT.out; go_simp; first | done | rfl)
       refine reg_value (fun _ => rfl) ?_ (fun g w' vs hM hE hP => ?_) ?_
       rotate_left
       · (clear hP hM; have ⟨z0, z1, z2, z3, z4, z5, z6, z7, z8, z9⟩ := cs_e10 hE HFCT.out; go_simp; first | done | rfl)
       refine reg_value (fun _ => rfl) ?_ (fun g w' vs hM hE hP => ?_) ?_
       rotate_left
       · (clear hP hM; have ⟨z0, z1, z2, z3, z4, z5, z6, z7, z8, z9⟩ := cs_e10 hE HFCT.out; go_simp; first | done | rfl)
       refine reg_value (fun _ => rfl) ?_ (fun g w' vs hM hE hP => ?_) ?_
       rotate_left
       · (clear hP hM; have ⟨z0, z1, z2, z3, z4, z5, z6, z7, z8, z9⟩ := cs_e10 hE HFCT.out; go_simp; first | done | rfl)
       refine reg_value (fun _ => rfl) ?_ (fun g w' vs hM hE hP => ?_) ?_
       rotate_left
       · (clear hP hM; have ⟨z0, z1, z2, z3, z4, z5, z6, z7, z8, z9⟩ := cs_e10 hE HFCT.out; go_simp; first | done | rfl)
       intro g w6 hE6 hF hQ
       simp only [List.drop_succ_cons, List.drop_zero, Act.put, List.setIfInBounds_toArray, List.set_cons_succ, List.set_cons_zero]
       obtain ⟨p0, p1, b0, b1, b2, b3, c0, c1, c2, c3⟩ := cs_e10 hE6 ⟨p0, p1, b0, b1, b2, b3, c0, c1, c2, c3⟩
       have HE6 := Lib.hid hE6
       clear hE6 hF hQ
       go_wp2_with fail
       refine (HR.out _ HE6.out).mono ?_
       rintro e w7 ⟨rfl, hE7⟩
       have HE7 := Lib.hid (HE2.out.trans (HX.out.trans (HE6.out.trans hE7)))
       clear hE7 p0 p1 b0 b1 b2 b3 c0 c1 c2 c3
       go_wp2_with fail
       go_ret
       exact ⟨rb (by simp), HE7.out⟩
end Go.Proofs.YtkobikdkbpdjeaaGreatDoor
