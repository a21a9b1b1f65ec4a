/- Contracts: the reference's Kbo. -/
import Derived.Test.YtkobikdkbpdjeaaGreatDoorC8
namespace Go.Proofs.YtkobikdkbpdjeaaGreatDoor
open Go Go.RowKit
set_option linter.unusedVariables false
set_option linter.unusedSimpArgs false

theorem termsE_zero {l : List ByteArray} {s t : Tm} (h : termsE l s t = 0) : validT s = 0 ∧ validT t = 0 ∧ knT l s = true ∧ knT l t = true := by
 unfold termsE at h
 rw [orE_zero, orE_zero] at h
 obtain ⟨h1, h2, h3⟩ := h
 refine ⟨h1, h2, ?_⟩
 by_cases hk : (knT l s && knT l t) = true
 · rw [Bool.and_eq_true] at hk; exact hk
 · rw [if_neg hk] at h3; omega

set_option maxRecDepth 100000 in
set_option maxHeartbeats 8000000 in
theorem RKbo_any {w : World} {Sl Sw S S' : Nat → Prop} {v u a a' : Option Addr} {m vc q uc cap cap' : Nat} {l : List ByteArray} {W : List Int} {s t : Tm} (hs6 : sizeT s ≤ 10000) (ht6 : sizeT t ≤ 10000) (hL : LsG elS w Sl (.slice v m vc) l) (hI : LsG elI w Sw (.slice u q uc) W) (hS : ∀ c, S c → c < w.heap.size) (hS' : ∀ c, S' c → c < w.heap.size) (hs : TmW w S a cap s) (ht : TmW w S' a' cap' t) :
 Calls Tryz.prog 10 #[.slice v m vc, .slice u q uc, .agg #[.int .i64 s.kind, .string s.name, .int .i64 s.sort, .slice a s.kids.length cap], .agg #[.int .i64 t.kind, .string t.name, .int .i64 t.sort, .slice a' t.kids.length cap']] w fun e w' => e = .returned (.tuple #[.int .i64 (kboV l W s t), .int .i64 (kboE l W s t)]) ∧ Ext w w' := by
 have hsl := hs.len
 have hsc := hs.cap
 have htl := ht.len
 have htc := ht.cap
 unfold maxLen at hsc htc
 obtain ⟨bx, w0, hbbx, hwbx, HBbx, hEbx⟩ := box_new w (.cells #[.int .i64 s.kind, .string s.name, .int .i64 s.sort, .slice a s.kids.length cap] 24)
 obtain ⟨cx, w1, hbcx, hwcx, HBcx, hEcx⟩ := box_new w0 (.cells #[.int .i64 t.kind, .string t.name, .int .i64 t.sort, .slice a' t.kids.length cap'] 24)
 have hcx1 : cx = bx + 1 := by rw [hbcx, hwbx, World.size_alloc, hbbx]
 have HBX := Lib.hid (hs_ext hEcx HBbx.out)
 have hE1 := hEbx.trans hEcx
 obtain ⟨b0, b1, b2, b3⟩ := box4r (HBX.out)
 obtain ⟨c0, c1, c2, c3⟩ := box4r (HBcx.out)
 have HL := Lib.hid (hL.ext hE1)
 have HI := Lib.hid (hI.ext hE1)
 have HS := Lib.hid (hs.ext hE1)
 have HT := Lib.hid (ht.ext hE1)
 have HSS : Hid (∀ c, S c → c < w1.heap.size) := Lib.hid (fun c h => Nat.lt_of_lt_of_le (hS c h) hE1.size)
 have HTS : Hid (∀ c, S' c → c < w1.heap.size) := Lib.hid (fun c h => Nat.lt_of_lt_of_le (hS' c h) hE1.size)
 have HE := Lib.hid hE1
 have HSZ := Lib.hid (And.intro hs6 ht6)
 obtain ⟨p, hp⟩ : ∃ p, p = admE l W := ⟨_, rfl⟩
 obtain ⟨g, hg⟩ : ∃ g, g = termsE l s t := ⟨_, rfl⟩
 obtain ⟨E, hEq⟩ : ∃ E, E = kboE l W s t := ⟨_, rfl⟩
 obtain ⟨V, hV⟩ : ∃ V, V = kboV l W s t := ⟨_, rfl⟩
 rw [← hEq, ← hV]
 have HEE : Hid (E = if p ≠ 0 then p else if g ≠ 0 then g else if wrongT l W s || wrongT l W t then 6 else 0) := Lib.hid (by rw [hEq, hp, hg]; rfl)
 have HVV : Hid (V = if E ≠ 0 then 0 else vdt (hv l W) s t) := Lib.hid (by rw [hV, hEq]; rfl)
 have HAD := Lib.hid (RAdm_any (w := w1) HL.out HI.out)
 have HRI := Lib.hid (fun (w' : World) (h : Ext w1 w') => RRight_any4 (w := w') (by have := HSZ.out; omega) (by have := HSZ.out; omega) (HL.out.ext h) (HS.out.ext h) (HT.out.ext h))
 have HSA := Lib.hid (fun (w' : World) (h : Ext w1 w') => RSame_any (w := w') (by have := HSZ.out; omega) (by have := HSZ.out; omega) (HS.out.ext h) (HT.out.ext h))
 rw [← hp] at HAD
 rw [← hg] at HRI
 have HPE := Lib.hid hp
 have HGE := Lib.hid hg
 clear hL hI hs ht hs6 ht6 hE1 hEbx hEcx hp hg hEq hV hS hS'
 go_enter Tryz.func10, Tryz.ntmps10
 go_upto_region 1 with fail
 rw [← hwbx, ← hbbx]
 clear hwbx hbbx
 rw [← hwcx, ← hcx1]
 clear hwcx hcx1 hbcx
 go_wp2_with fail
 refine HAD.out.mono ?_
 rintro e w2 ⟨rfl, hE2⟩
 obtain ⟨b0, b1, b2, b3, c0, c1, c2, c3⟩ := cs_e8 hE2 ⟨b0, b1, b2, b3, c0, c1, c2, c3⟩
 have HE2 := Lib.hid hE2
 clear hE2
 by_cases hp0 : p = 0
 · have HOK := Lib.hid (adm_ok (HPE.out.symm.trans hp0))
   have HEE2 : Hid (E = if g ≠ 0 then g else if wrongT l W s || wrongT l W t then 6 else 0) := Lib.hid (by rw [HEE.out, if_neg (by simp [hp0])])
   subst hp0
   go_wp2_with fail
   refine (HRI.out _ HE2.out).mono ?_
   rintro e w3 ⟨rfl, hE3⟩
   obtain ⟨b0, b1, b2, b3, c0, c1, c2, c3⟩ := cs_e8 hE3 ⟨b0, b1, b2, b3, c0, c1, c2, c3⟩
   have HE3 := Lib.hid (HE2.out.trans hE3)
   clear hE3
   by_cases hg0 : g = 0
   · have HEE3 : Hid (E = if wrongT l W s || wrongT l W t then 6 else 0) := Lib.hid (by rw [HEE2.out, if_neg (by simp [hg0])])
     have HTE := Lib.hid (termsE_zero (HGE.out.symm.trans hg0))
     have HW1 := Lib.hid (fun (w' : World) (h : Ext w1 w') => RWrong_any 10000 w' Sl Sw S v u a m vc q uc cap l W s (by have := HSZ.out; omega) (by omega) HOK.out.2.1 HTE.out.2.2.1 (validT_iff4.1 HTE.out.1).1 (HL.out.ext h) (HI.out.ext h) (HS.out.ext h))
     have HW2 := Lib.hid (fun (w' : World) (h : Ext w1 w') => RWrong_any 10000 w' Sl Sw S' v u a' m vc q uc cap' l W t (by have := HSZ.out; omega) (by omega) HOK.out.2.1 HTE.out.2.2.2 (validT_iff4.1 HTE.out.2.1).1 (HL.out.ext h) (HI.out.ext h) (HT.out.ext h))
     have HH1 := Lib.hid (fun (w' : World) (h : Ext w1 w') => RWeighted_any 10000 w' Sl Sw S S' v u a a' m vc q uc cap cap' l W s t (by have := HSZ.out; omega) (by omega) (by have := HSZ.out; omega) HOK.out.2.1 HOK.out.2.2.1 HTE.out.2.2.1 HTE.out.2.2.2 (fun c hc => Nat.lt_of_lt_of_le (HSS.out c hc) h.size) (fun c hc => Nat.lt_of_lt_of_le (HTS.out c hc) h.size) (HL.out.ext h) (HI.out.ext h) (HS.out.ext h) (HT.out.ext h))
     have HH2 := Lib.hid (fun (w' : World) (h : Ext w1 w') => RWeighted_any 10000 w' Sl Sw S' S v u a' a m vc q uc cap' cap l W t s (by have := HSZ.out; omega) (by omega) (by have := HSZ.out; omega) HOK.out.2.1 HOK.out.2.2.1 HTE.out.2.2.2 HTE.out.2.2.1 (fun c hc => Nat.lt_of_lt_of_le (HTS.out c hc) h.size) (fun c hc => Nat.lt_of_lt_of_le (HSS.out c hc) h.size) (HL.out.ext h) (HI.out.ext h) (HT.out.ext h) (HS.out.ext h))
     obtain ⟨x1, hx1⟩ : ∃ x, x = wrongT l W s := ⟨_, rfl⟩
     obtain ⟨x2, hx2⟩ : ∃ x, x = wrongT l W t := ⟨_, rfl⟩
     obtain ⟨y1, hy1⟩ : ∃ x, x = hv l W s t := ⟨_, rfl⟩
     obtain ⟨y2, hy2⟩ : ∃ x, x = hv l W t s := ⟨_, rfl⟩
     obtain ⟨z, hz⟩ : ∃ x, x = decide (s = t) := ⟨_, rfl⟩
     rw [← hx1] at HW1 HEE3
     rw [← hx2] at HW2 HEE3
     rw [← hy1] at HH1
     rw [← hy2] at HH2
     rw [← hz] at HSA
     have HVD : Hid (vdt (hv l W) s t = if z then 0 else if y1 then 1 else if y2 then -1 else 2) := Lib.hid (by
      unfold vdt; rw [hz, hy1, hy2]; simp)
     subst hg0
     clear hx1 hx2 hy1 hy2 hz
     cases x1 with
     | true =>
       have HE6 : Hid (E = 6) := Lib.hid HEE3.out
       have HV0 : Hid (V = 0) := Lib.hid (by rw [HVV.out, HE6.out]; rfl)
       go_wp2_with fail
       refine (HW1.out _ HE3.out).mono ?_
       rintro e w4 ⟨rfl, hE4⟩
       go_wp2_with fail
       go_ret2
       exact ⟨by rw [HE6.out, HV0.out]; rfl, HE.out.trans (HE3.out.trans hE4)⟩
     | false =>
       go_wp2_with fail
       refine (HW1.out _ HE3.out).mono ?_
       rintro e w4 ⟨rfl, hE4⟩
       obtain ⟨b0, b1, b2, b3, c0, c1, c2, c3⟩ := cs_e8 hE4 ⟨b0, b1, b2, b3, c0, c1, c2, c3⟩
       have HE4 := Lib.hid (HE3.out.trans hE4)
       clear hE4
       cases x2 with
       | true =>
         have HE6 : Hid (E = 6) := Lib.hid HEE3.out
         have HV0 : Hid (V = 0) := Lib.hid (by rw [HVV.out, HE6.out]; rfl)
         go_wp2_with fail
         refine (HW2.out _ HE4.out).mono ?_
         rintro e w5 ⟨rfl, hE5⟩
         go_wp2_with fail
         go_ret2
         exact ⟨by rw [HE6.out, HV0.out]; rfl, HE.out.trans (HE4.out.trans hE5)⟩
       | false =>
         have HE0 : Hid (E = 0) := Lib.hid HEE3.out
         have HVW : Hid (V = if z then 0 else if y1 then 1 else if y2 then -1 else 2) := Lib.hid (by rw [HVV.out, if_neg (by simp [HE0.out]), HVD.out])
         go_wp2_with fail
         refine (HW2.out _ HE4.out).mono ?_
         rintro e w5 ⟨rfl, hE5⟩
         obtain ⟨b0, b1, b2, b3, c0, c1, c2, c3⟩ := cs_e8 hE5 ⟨b0, b1, b2, b3, c0, c1, c2, c3⟩
         have HE5 := Lib.hid (HE4.out.trans hE5)
         clear hE5
         go_wp2_with fail
         refine (HSA.out _ HE5.out).mono ?_
         rintro e w6 ⟨rfl, hE6⟩
         obtain ⟨b0, b1, b2, b3, c0, c1, c2, c3⟩ := cs_e8 hE6 ⟨b0, b1, b2, b3, c0, c1, c2, c3⟩
         have HE6 := Lib.hid (HE5.out.trans hE6)
         clear hE6
         cases z with
         | true =>
           go_wp2_with fail
           go_ret2
           exact ⟨by rw [HE0.out, HVW.out]; rfl, HE.out.trans HE6.out⟩
         | false =>
           go_wp2_with fail
           refine (HH1.out _ HE6.out).mono ?_
           rintro e w7 ⟨rfl, hE7⟩
           obtain ⟨b0, b1, b2, b3, c0, c1, c2, c3⟩ := cs_e8 hE7 ⟨b0, b1, b2, b3, c0, c1, c2, c3⟩
           have HE7 := Lib.hid (HE6.out.trans hE7)
           clear hE7
           cases y1 with
           | true =>
             go_wp2_with fail
             go_ret2
             exact ⟨by rw [HE0.out, HVW.out]; rfl, HE.out.trans HE7.out⟩
           | false =>
             go_wp2_with fail
             refine (HH2.out _ HE7.out).mono ?_
             rintro e w8 ⟨rfl, hE8⟩
             have HE8 := Lib.hid (HE7.out.trans hE8)
             clear hE8
             cases y2 with
             | true =>
               go_wp2_with fail
               go_ret2
               exact ⟨by rw [HE0.out, HVW.out]; rfl, HE.out.trans HE8.out⟩
             | false =>
               go_wp2_with fail
               go_ret2
               exact ⟨by rw [HE0.out, HVW.out]; rfl, HE.out.trans HE8.out⟩
   · have HE6 : Hid (E = g) := Lib.hid (by rw [HEE2.out, if_pos hg0])
     have HV0 : Hid (V = 0) := Lib.hid (by rw [HVV.out, HE6.out, if_pos hg0])
     go_wp2_with fail
     go_ret2
     exact ⟨by rw [HE6.out, HV0.out]; rfl, HE.out.trans HE3.out⟩
 · have HE6 : Hid (E = p) := Lib.hid (by rw [HEE.out, if_pos hp0])
   have HV0 : Hid (V = 0) := Lib.hid (by rw [HVV.out, HE6.out, if_pos hp0])
   go_wp2_with fail
   go_ret2
   exact ⟨by rw [HE6.out, HV0.out]; rfl, HE.out.trans HE2.out⟩
end Go.Proofs.YtkobikdkbpdjeaaGreatDoor
