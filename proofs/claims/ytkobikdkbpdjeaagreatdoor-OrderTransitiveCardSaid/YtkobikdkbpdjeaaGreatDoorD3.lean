/- The walk of the law OrderTotal. -/
import Derived.Test.YtkobikdkbpdjeaaGreatDoorD2
namespace Go.Proofs.YtkobikdkbpdjeaaGreatDoor
open Go Go.RowKit
set_option linter.unusedVariables false
set_option linter.unusedSimpArgs false

theorem oneB_cases {same : Bool} {c : Int} (h : oneB same c = true) : c = 1 ∨ c = -1 ∨ c = 0 ∧ same = true := by
 unfold oneB at h
 simp at h
 rcases h with (h | h) | ⟨h, k⟩
 · exact .inl h
 · exact .inr (.inl h)
 · exact .inr (.inr ⟨k, h⟩)

set_option maxRecDepth 100000 in
set_option maxHeartbeats 8000000 in
theorem law_total {w : World} {Sa Sb : Nat → Prop} {a a' : Option Addr} {cap cap' : Nat} {n : Int} {s t : Tm} (h0 : 0 ≤ n) (h1 : n < 256) (hWd : Words w) (hs : TmW w Sa a cap s) (ht : TmW w Sb a' cap' t) :
 Calls Tryz.prog 4 #[.int .u8 n, .agg #[.int .i64 s.kind, .string s.name, .int .i64 s.sort, .slice a s.kids.length cap], .agg #[.int .i64 t.kind, .string t.name, .int .i64 t.sort, .slice a' t.kids.length cap']] w fun e w' => e = .returned (.bool true) ∧ Ext w w' := by
 have hsl := hs.len
 have hsc := hs.cap
 have htl := ht.len
 have htc := ht.cap
 unfold maxLen at hsc htc
 obtain ⟨bx, w1, hbbx, hwbx, HBbx, hEbx⟩ := box_new w (.cells #[.int .i64 s.kind, .string s.name, .int .i64 s.sort, .slice a s.kids.length cap] 24)
 obtain ⟨cx, w2, hbcx, hwcx, HBcx, hEcx⟩ := box_new w1 (.cells #[.int .i64 t.kind, .string t.name, .int .i64 t.sort, .slice a' t.kids.length cap'] 24)
 have hcx1 : cx = bx + 1 := by rw [hbcx, hwbx, World.size_alloc, hbbx]
 have hE2 := hEbx.trans hEcx
 have HBX := Lib.hid (hs_ext hEcx HBbx.out)
 obtain ⟨b0, b1, b2, b3⟩ := box4r HBX.out
 obtain ⟨c0, c1, c2, c3⟩ := box4r HBcx.out
 have HE2 := Lib.hid hE2
 have HWS := Lib.hid (hWd.ext hE2)
 have HS := Lib.hid (hs.any.ext hE2)
 have HT := Lib.hid (ht.any.ext hE2)
 have HCA := Lib.hid (fun (w' : World) (h : Ext w2 w') => awake4 (HWS.out.ext h))
 have HNM := Lib.hid (fun (w' : World) => RNames4 (w := w') h0 h1)
 have HLI := Lib.hid (fun (w' : World) => RLight4 (w := w') h0 h1)
 clear hWd hs ht hE2 hEbx hEcx h0 h1
 go_enter Tryz.func4, Tryz.ntmps4
 go_upto_region 1 with fail
 rw [← hwbx, ← hbbx]
 clear hwbx hbbx
 rw [← hwcx, ← hcx1]
 clear hwcx hcx1 hbcx
 go_wp2_with fail
 refine (HCA.out _ (Ext.refl _)).mono ?_
 rintro e w3 ⟨rfl, hE3⟩
 obtain ⟨b0, b1, b2, b3, c0, c1, c2, c3⟩ := cs_e8 hE3 ⟨b0, b1, b2, b3, c0, c1, c2, c3⟩
 have HX := Lib.hid hE3
 obtain ⟨fb, w4, hfb, hw4, HBF, hE4⟩ := box_new w3 (.cells #[.int .i64 s.kind, .string s.name, .int .i64 s.sort, .slice a s.kids.length cap, .int .i64 t.kind, .string t.name, .int .i64 t.sort, .slice a' t.kids.length cap'] 24)
 obtain ⟨o, ho⟩ : ∃ o, o = fewT [s, t] 4 60 := ⟨_, rfl⟩
 have HO := Lib.hid ho
 have hfl : LsT w4 Any (.slice (some ⟨fb, 0, none⟩) 2 2) [s, t] := cells_ls (E := [⟨s, a, cap⟩, ⟨t, a', cap'⟩]) HBF.out rfl (by simp) (fun e he => by
  simp at he
  rcases he with rfl | rfl
  · exact HS.out.ext (HX.out.trans hE4)
  · exact HT.out.ext (HX.out.trans hE4))
 have hcf := few4 (cap := 2) (by unfold maxLen; simp) hfl.ts
 rw [← ho] at hcf
 have HCF := Lib.hid hcf
 clear hE3 ho hfl hcf
 go_wp2_with fail
 rw [← hw4, ← hfb]
 clear hw4 hfb
 obtain ⟨b0, b1, b2, b3, c0, c1, c2, c3⟩ := cs_e8 hE4 ⟨b0, b1, b2, b3, c0, c1, c2, c3⟩
 have HX := Lib.hid (HX.out.trans hE4)
 clear hE4
 refine HCF.out.mono ?_
 rintro e w5 ⟨rfl, hE5⟩
 obtain ⟨b0, b1, b2, b3, c0, c1, c2, c3⟩ := cs_e8 hE5 ⟨b0, b1, b2, b3, c0, c1, c2, c3⟩
 have HX := Lib.hid (HX.out.trans hE5)
 clear hE5
 cases o with
 | false =>
   go_wp2_with fail
   refine (HCA.out _ HX.out).mono ?_
   rintro e w9 ⟨rfl, hE9⟩
   have HE9 := Lib.hid (HE2.out.trans (HX.out.trans hE9))
   clear hE9
   go_wp2_with fail
   go_ret
   exact ⟨rfl, HE9.out⟩
 | true =>
   have HSZ : Hid (sizeT s + sizeT t ≤ 60) := Lib.hid (by have := few_lt HO.out.symm; simp only [sizeL] at this; omega)
   go_wp2_with fail
   refine (HNM.out _).mono ?_
   rintro e w6 ⟨v, l, rfl, hE6, hO6, hl6⟩
   obtain ⟨b0, b1, b2, b3, c0, c1, c2, c3⟩ := cs_e8 hE6 ⟨b0, b1, b2, b3, c0, c1, c2, c3⟩
   have HX := Lib.hid (HX.out.trans hE6)
   obtain ⟨va, vc, rfl, hvl, hvc⟩ := hO6.slice
   have HL := Lib.hid hO6.any
   clear hE6 hO6
   go_wp2_with fail
   refine (HLI.out _).mono ?_
   rintro e w7 ⟨v, W, rfl, hE7, hO7, hl7, hW7⟩
   obtain ⟨b0, b1, b2, b3, c0, c1, c2, c3⟩ := cs_e8 hE7 ⟨b0, b1, b2, b3, c0, c1, c2, c3⟩
   have HX := Lib.hid (HX.out.trans hE7)
   have HL := Lib.hid (HL.out.ext hE7)
   obtain ⟨ua, uc, rfl, hul, huc⟩ := hO7.slice
   have HI := Lib.hid hO7.any
   have HW1 : Hid (∀ z ∈ W, 1 ≤ z) := Lib.hid (fun z hz => (hW7 z hz).1)
   unfold maxLen at hvc huc
   clear hE7 hO7 hl6 hl7 hW7
   have HK := Lib.hid (fun (w' : World) (h : Ext w7 w') => Kbo_any (HWS.out.ext (HX.out.trans h)) (HL.out.ext h).below (HI.out.ext h).below (fun _ h => h) (fun _ h => h) (fun _ h => h) (by have := HSZ.out; omega) (HS.out.ext (HX.out.trans h)).below (HT.out.ext (HX.out.trans h)).below)
   have HP := Lib.hid (fun (w' : World) (h : Ext w7 w') => Lpo_any (HWS.out.ext (HX.out.trans h)) (HL.out.ext h).below (fun _ h => h) (fun _ h => h) (by have := HSZ.out; omega) (HS.out.ext (HX.out.trans h)).below (HT.out.ext (HX.out.trans h)).below)
   have HR := Lib.hid (fun (w' : World) (h : Ext w7 w') => RKbo_any (w := w') (by have := HSZ.out; omega) (by have := HSZ.out; omega) (HL.out.ext h) (HI.out.ext h) (fun _ h => h) (fun _ h => h) (HS.out.ext (HX.out.trans h)).below (HT.out.ext (HX.out.trans h)).below)
   have HG1 := Lib.hid (fun (w' : World) (h : Ext w7 w') => RGround_any (w := w') (by have := HSZ.out; omega) (fun _ h => h) (HS.out.ext (HX.out.trans h)).below)
   have HG2 := Lib.hid (fun (w' : World) (h : Ext w7 w') => RGround_any (w := w') (by have := HSZ.out; omega) (fun _ h => h) (HT.out.ext (HX.out.trans h)).below)
   have HSA := Lib.hid (fun (w' : World) (h : Ext w7 w') => RSame_any (w := w') (by have := HSZ.out; omega) (by have := HSZ.out; omega) (HS.out.ext (HX.out.trans h)) (HT.out.ext (HX.out.trans h)))
   obtain ⟨z, hz⟩ : ∃ z, z = kboV l W s t := ⟨_, rfl⟩
   obtain ⟨y, hy⟩ : ∃ y, y = kboE l W s t := ⟨_, rfl⟩
   obtain ⟨c, hc⟩ : ∃ y, y = lpoV l s t := ⟨_, rfl⟩
   obtain ⟨d, hd⟩ : ∃ y, y = lpoE l s t := ⟨_, rfl⟩
   obtain ⟨g, hg⟩ : ∃ y, y = decide (varsT s = []) := ⟨_, rfl⟩
   obtain ⟨k, hk⟩ : ∃ y, y = decide (varsT t = []) := ⟨_, rfl⟩
   obtain ⟨m, hm⟩ : ∃ y, y = decide (s = t) := ⟨_, rfl⟩
   have HOK : Hid (y = 0 → g = true → k = true → d = 0 ∧ oneB m c = true ∧ oneB m z = true) := Lib.hid (fun e1 e2 e3 => by
    have h := total_ok HW1.out (hy.symm.trans e1) (of_decide_eq_true (hg.symm.trans e2)) (of_decide_eq_true (hk.symm.trans e3))
    rw [← hd, ← hm, ← hc, ← hz] at h
    exact h)
   rw [← hz, ← hy] at HK HR
   rw [← hc, ← hd] at HP
   rw [← hg] at HG1
   rw [← hk] at HG2
   rw [← hm] at HSA
   clear hz hy hc hd hg hk hm
   go_wp2_with fail
   refine (HR.out _ (Ext.refl _)).mono ?_
   rintro e w8 ⟨rfl, hE8⟩
   obtain ⟨b0, b1, b2, b3, c0, c1, c2, c3⟩ := cs_e8 hE8 ⟨b0, b1, b2, b3, c0, c1, c2, c3⟩
   have HE8 := Lib.hid hE8
   clear hE8
   by_cases hy0 : y = 0
   · have HOK2 := Lib.hid (HOK.out hy0)
     clear HOK
     subst hy0
     cases g with
     | false =>
       go_wp2_with fail
       refine (HG1.out _ HE8.out).mono ?_
       rintro e w9 ⟨rfl, hE9⟩
       go_wp2_with fail
       go_ret
       exact ⟨rfl, HE2.out.trans (HX.out.trans (HE8.out.trans hE9))⟩
     | true =>
       go_wp2_with fail
       refine (HG1.out _ HE8.out).mono ?_
       rintro e w9 ⟨rfl, hE9⟩
       obtain ⟨b0, b1, b2, b3, c0, c1, c2, c3⟩ := cs_e8 hE9 ⟨b0, b1, b2, b3, c0, c1, c2, c3⟩
       have HE9 := Lib.hid (HE8.out.trans hE9)
       clear hE9
       cases k with
       | false =>
         go_wp2_with fail
         refine (HG2.out _ HE9.out).mono ?_
         rintro e w10 ⟨rfl, hE10⟩
         go_wp2_with fail
         go_ret
         exact ⟨rfl, HE2.out.trans (HX.out.trans (HE9.out.trans hE10))⟩
       | true =>
         obtain ⟨rfl, hc1, hz1⟩ := HOK2.out (by first | rfl | trivial) (by first | rfl | trivial)
         have HC1 := Lib.hid (oneB_cases hc1)
         have HZ1 := Lib.hid (oneB_cases hz1)
         clear hc1 hz1
         go_wp2_with fail
         refine (HG2.out _ HE9.out).mono ?_
         rintro e w10 ⟨rfl, hE10⟩
         obtain ⟨b0, b1, b2, b3, c0, c1, c2, c3⟩ := cs_e8 hE10 ⟨b0, b1, b2, b3, c0, c1, c2, c3⟩
         have HE10 := Lib.hid (HE9.out.trans hE10)
         clear hE10
         go_wp2_with fail
         refine (HP.out _ HE10.out).mono ?_
         rintro e w11 ⟨rfl, hE11⟩
         obtain ⟨b0, b1, b2, b3, c0, c1, c2, c3⟩ := cs_e8 hE11 ⟨b0, b1, b2, b3, c0, c1, c2, c3⟩
         have HE11 := Lib.hid (HE10.out.trans hE11)
         clear hE11
         go_wp2_with fail
         refine (HK.out _ HE11.out).mono ?_
         rintro e w12 ⟨rfl, hE12⟩
         obtain ⟨b0, b1, b2, b3, c0, c1, c2, c3⟩ := cs_e8 hE12 ⟨b0, b1, b2, b3, c0, c1, c2, c3⟩
         have HE12 := Lib.hid (HE11.out.trans hE12)
         clear hE12
         go_wp2_with fail
         refine (HSA.out _ HE12.out).mono ?_
         rintro e w13 ⟨rfl, hE13⟩
         have HE13 := Lib.hid (HE2.out.trans (HX.out.trans (HE12.out.trans hE13)))
         clear hE13 b0 b1 b2 b3 c0 c1 c2 c3 HK HP HR HG1 HG2 HSA HNM HLI HCA
         rcases HC1.out with rfl | rfl | ⟨rfl, rfl⟩ <;> rcases HZ1.out with rfl | rfl | ⟨rfl, hm1⟩ <;> first
          | (subst hm1
             go_wp2_with fail
             go_ret
             exact ⟨rfl, HE13.out⟩)
          | (cases hm1
             go_wp2_with fail
             go_ret
             exact ⟨rfl, HE13.out⟩)
          | (go_wp2_with fail
             go_ret
             exact ⟨rfl, HE13.out⟩)
   · have hyb : (y != 0) = true := by simp [hy0]
     clear hy0
     go_wp2_with fail
     go_ret
     exact ⟨rfl, HE2.out.trans (HX.out.trans HE8.out)⟩
end Go.Proofs.YtkobikdkbpdjeaaGreatDoor
