/- The walk of the law OrderTransitive. -/
import Derived.Test.YtkobikdkbpdjeaaGreatDoorD5
namespace Go.Proofs.YtkobikdkbpdjeaaGreatDoor
open Go Go.RowKit
set_option linter.unusedVariables false
set_option linter.unusedSimpArgs false

set_option maxRecDepth 100000 in
set_option maxHeartbeats 16000000 in
theorem law_trans {w : World} {Sa Sb Sc : Nat → Prop} {a b c : Option Addr} {k l0 m : Nat} {n : Int} {s t u : Tm} (h0 : 0 ≤ n) (h1 : n < 256) (hWd : Words w) (hs : TmW w Sa a k s) (ht : TmW w Sb b l0 t) (hu : TmW w Sc c m u) :
 Calls Tryz.prog 3 #[.int .u8 n, .agg #[.int .i64 s.kind, .string s.name, .int .i64 s.sort, .slice a s.kids.length k, .int .i64 t.kind, .string t.name, .int .i64 t.sort, .slice b t.kids.length l0, .int .i64 u.kind, .string u.name, .int .i64 u.sort, .slice c u.kids.length m]] w fun e w' => e = .returned (.bool true) ∧ Ext w w' := by
 have hsl := hs.len
 have hsc := hs.cap
 have htl := ht.len
 have htc := ht.cap
 have hul := hu.len
 have huc := hu.cap
 unfold maxLen at hsc htc huc
 obtain ⟨bx, w2, hbx, hw2, HBX, hE2⟩ := box_new w (.cells #[.int .i64 s.kind, .string s.name, .int .i64 s.sort, .slice a s.kids.length k, .int .i64 t.kind, .string t.name, .int .i64 t.sort, .slice b t.kids.length l0, .int .i64 u.kind, .string u.name, .int .i64 u.sort, .slice c u.kids.length m] 25)
 obtain ⟨⟨b0, b1, b2, b3⟩, ⟨c0, c1, c2, c3⟩, ⟨d0, d1, d2, d3⟩⟩ := twelve HBX.out
 have HE2 := Lib.hid hE2
 have HWS := Lib.hid (hWd.ext hE2)
 have HS := Lib.hid (hs.any.ext hE2)
 have HT := Lib.hid (ht.any.ext hE2)
 have HU := Lib.hid (hu.any.ext hE2)
 have HTH := Lib.hid (Three.mk3 HBX.out HS.out HT.out HU.out)
 have HCA := Lib.hid (fun (w' : World) (h : Ext w2 w') => awake4 (HWS.out.ext h))
 have HNM := Lib.hid (fun (w' : World) => RNames4 (w := w') h0 h1)
 have HLI := Lib.hid (fun (w' : World) => RLight4 (w := w') h0 h1)
 clear hWd hs ht hu hE2 h0 h1
 go_enter Tryz.func3, Tryz.ntmps3
 go_upto_region 1 with fail
 rw [← hw2, ← hbx]
 clear hw2 hbx
 go_wp2_with fail
 refine (HCA.out _ (Ext.refl _)).mono ?_
 rintro e w3 ⟨rfl, hE3⟩
 obtain ⟨b0, b1, b2, b3, c0, c1, c2, c3, d0, d1, d2, d3⟩ := cs_e12 hE3 ⟨b0, b1, b2, b3, c0, c1, c2, c3, d0, d1, d2, d3⟩
 have HX := Lib.hid hE3
 obtain ⟨fb, w4, hfb, hw4, HBF, hE4⟩ := box_new w3 (.cells #[.int .i64 s.kind, .string s.name, .int .i64 s.sort, .slice a s.kids.length k, .int .i64 t.kind, .string t.name, .int .i64 t.sort, .slice b t.kids.length l0, .int .i64 u.kind, .string u.name, .int .i64 u.sort, .slice c u.kids.length m] 24)
 obtain ⟨o, ho⟩ : ∃ o, o = fewT [s, t, u] 4 60 := ⟨_, rfl⟩
 have HO := Lib.hid ho
 have hfl : LsT w4 Any (.slice (some ⟨fb, 0, none⟩) 3 3) [s, t, u] := cells_ls (E := [⟨s, a, k⟩, ⟨t, b, l0⟩, ⟨u, c, m⟩]) HBF.out rfl (by simp) (fun e he => by
  simp at he
  rcases he with rfl | rfl | rfl
  · exact HS.out.ext (HX.out.trans hE4)
  · exact HT.out.ext (HX.out.trans hE4)
  · exact HU.out.ext (HX.out.trans hE4))
 have hcf := few4 (cap := 3) (by unfold maxLen; simp) hfl.ts
 rw [← ho] at hcf
 have HCF := Lib.hid hcf
 clear hE3 ho hfl hcf
 go_wp2_with fail
 rw [← hw4, ← hfb]
 clear hw4 hfb
 obtain ⟨b0, b1, b2, b3, c0, c1, c2, c3, d0, d1, d2, d3⟩ := cs_e12 hE4 ⟨b0, b1, b2, b3, c0, c1, c2, c3, d0, d1, d2, d3⟩
 have HX := Lib.hid (HX.out.trans hE4)
 clear hE4
 refine HCF.out.mono ?_
 rintro e w5 ⟨rfl, hE5⟩
 obtain ⟨b0, b1, b2, b3, c0, c1, c2, c3, d0, d1, d2, d3⟩ := cs_e12 hE5 ⟨b0, b1, b2, b3, c0, c1, c2, c3, d0, d1, d2, d3⟩
 have HX := Lib.hid (HX.out.trans hE5)
 clear hE5
 cases o with
 | false =>
   go_wp2_with fail
   refine (HCA.out _ HX.out).mono ?_
   rintro e w9 ⟨rfl, hE9⟩
   have HE9 := Lib.hid (HE2.out.trans (HX.out.trans hE9))
   clear hE9
   go_wp2_with fail
   go_ret
   exact ⟨rfl, HE9.out⟩
 | true =>
   have HSZ : Hid (sizeT s + sizeT t + sizeT u ≤ 60) := Lib.hid (by have := few_lt HO.out.symm; simp only [sizeL] at this; omega)
   go_wp2_with fail
   refine (HNM.out _).mono ?_
   rintro e w6 ⟨v, l, rfl, hE6, hO6, hl6⟩
   obtain ⟨b0, b1, b2, b3, c0, c1, c2, c3, d0, d1, d2, d3⟩ := cs_e12 hE6 ⟨b0, b1, b2, b3, c0, c1, c2, c3, d0, d1, d2, d3⟩
   have HX := Lib.hid (HX.out.trans hE6)
   obtain ⟨va, vc, rfl, hvl, hvc⟩ := hO6.slice
   have HL := Lib.hid hO6.any
   clear hE6 hO6
   go_wp2_with fail
   refine (HLI.out _).mono ?_
   rintro e w7 ⟨v, W, rfl, hE7, hO7, hl7, hW7⟩
   obtain ⟨b0, b1, b2, b3, c0, c1, c2, c3, d0, d1, d2, d3⟩ := cs_e12 hE7 ⟨b0, b1, b2, b3, c0, c1, c2, c3, d0, d1, d2, d3⟩
   have HX := Lib.hid (HX.out.trans hE7)
   have HL := Lib.hid (HL.out.ext hE7)
   obtain ⟨ua, uc, rfl, hul, huc⟩ := hO7.slice
   have HI := Lib.hid hO7.any
   have HW1 : Hid (∀ z ∈ W, 1 ≤ z) := Lib.hid (fun z hz => (hW7 z hz).1)
   unfold maxLen at hvc huc
   clear hE7 hO7 hl6 hl7 hW7
   have HR1 := Lib.hid (fun (w' : World) (h : Ext w7 w') => RKbo_any (w := w') (by have := HSZ.out; omega) (by have := HSZ.out; omega) (HL.out.ext h) (HI.out.ext h) (fun _ h => h) (fun _ h => h) (HS.out.ext (HX.out.trans h)).below (HT.out.ext (HX.out.trans h)).below)
   have HR2 := Lib.hid (fun (w' : World) (h : Ext w7 w') => RKbo_any (w := w') (by have := HSZ.out; omega) (by have := HSZ.out; omega) (HL.out.ext h) (HI.out.ext h) (fun _ h => h) (fun _ h => h) (HU.out.ext (HX.out.trans h)).below (HU.out.ext (HX.out.trans h)).below)
   obtain ⟨y1, hy1⟩ : ∃ y, y = kboE l W s t := ⟨_, rfl⟩
   obtain ⟨y2, hy2⟩ : ∃ y, y = kboE l W u u := ⟨_, rfl⟩
   have HTR : Hid (y1 = 0 → y2 = 0 → TransOk l W s t u) := Lib.hid (fun e1 e2 => trans_ok HW1.out (hy1.symm.trans e1) (hy2.symm.trans e2))
   rw [← hy1] at HR1
   rw [← hy2] at HR2
   clear hy1 hy2
   go_wp2_with fail
   refine (HR1.out _ (Ext.refl _)).mono ?_
   rintro e w8 ⟨rfl, hE8⟩
   obtain ⟨b0, b1, b2, b3, c0, c1, c2, c3, d0, d1, d2, d3⟩ := cs_e12 hE8 ⟨b0, b1, b2, b3, c0, c1, c2, c3, d0, d1, d2, d3⟩
   have HE8 := Lib.hid hE8
   clear hE8
   by_cases hy0 : y1 = 0
   · have HTR2 := Lib.hid (HTR.out hy0)
     clear HTR
     subst hy0
     go_wp2_with fail
     refine (HR2.out _ HE8.out).mono ?_
     rintro e w9 ⟨rfl, hE9⟩
     obtain ⟨b0, b1, b2, b3, c0, c1, c2, c3, d0, d1, d2, d3⟩ := cs_e12 hE9 ⟨b0, b1, b2, b3, c0, c1, c2, c3, d0, d1, d2, d3⟩
     have HE9 := Lib.hid (HE8.out.trans hE9)
     clear hE9
     by_cases hz0 : y2 = 0
     · have HOK := Lib.hid (HTR2.out hz0)
       clear HTR2
       subst hz0
       have HTH := Lib.hid (HTH.out.ext (HX.out.trans HE9.out))
       have HL := Lib.hid (HL.out.ext HE9.out)
       have HI := Lib.hid (HI.out.ext HE9.out)
       have HWS := Lib.hid (HWS.out.ext (HX.out.trans HE9.out))
       have HS := Lib.hid (HS.out.ext (HX.out.trans HE9.out))
       have HE9 := Lib.hid (HE2.out.trans (HX.out.trans HE9.out))
       obtain ⟨gb, wg, hgb, hwg, HBG, hEg⟩ := box_new w9 (.cells #[.int .i64 0, .int .i64 1, .int .i64 1, .int .i64 2, .int .i64 0, .int .i64 2, .int .i64 1, .int .i64 0] 35)
       obtain ⟨b0, b1, b2, b3⟩ := cs_e4 hEg ⟨b0, b1, b2, b3⟩
       have HEG := Lib.hid hEg
       clear hEg c0 c1 c2 c3 d0 d1 d2 d3
       go_upto_region 12 with fail
       rw [← hwg, ← hgb]
       clear hwg hgb
       go_loopw [11, 12, 14, 15, 16, 17, 18, 73] (fun pv qv x14 x15 x16 x17 x18 kv wr => ∃ k : Nat, kv = .int .i64 k ∧ k ≤ 4 ∧ Hid (Rows2 wg wr wg.heap.size pv qv ((res4 (lpoV l) s t u).take k) ((res4 (kboV l W) s t u).take k))) (fun pv qv x14 x15 x16 x17 x18 kv _ => 4 - (intOf kv).toNat)
       case atStart => exact ⟨0, rfl, by omega, Lib.hid ⟨Ext.refl _, OwnG.nil, OwnG.nil, fun g h => by simp [Value.ownBlock] at h, Nat.le_refl _, Nat.le_refl _⟩⟩
       case round =>
        obtain ⟨k2, rfl, hk, HRW⟩ := hrel
        have HEr := Lib.hid HRW.out.ext
        obtain ⟨b0, b1, b2, b3⟩ := cs_e4 HEr.out ⟨b0, b1, b2, b3⟩
        obtain ⟨pa, pc, hpv, hpl, hpc⟩ := HRW.out.p.slice
        obtain ⟨qa, qc, hqv, hql, hqc⟩ := HRW.out.q.slice
        have hl1 : ((res4 (lpoV l) s t u).take k2).length = k2 := by rw [List.length_take]; exact Nat.min_eq_left hk
        have hl2 : ((res4 (kboV l W) s t u).take k2).length = k2 := by rw [List.length_take]; exact Nat.min_eq_left hk
        rw [hl1] at hpv hpl
        rw [hl2] at hqv hql
        subst hpv
        subst hqv
        unfold maxLen at hpc hqc
        by_cases hlt : k2 < 4
        · obtain ⟨i, j, hp, hi, hj, g0, g1⟩ := pairs_at (hs_ext HEr.out HBG.out) hlt
          obtain ⟨x, xa, xc, hx, x0, x1, x2, x3, hxl, hxc, hXT⟩ := (HTH.out.ext (HEG.out.trans HEr.out)).at_ i hi
          obtain ⟨y, ya, yc, hy, y0, y1, y2, y3, hyl, hyc, hYT⟩ := (HTH.out.ext (HEG.out.trans HEr.out)).at_ j hj
          have hP := (res4_at (f := lpoV l) hp hx hy).1
          have hQ := (res4_at (f := kboV l W) hp hx hy).1
          have he := HOK.out.e (x, y) (res4_at (f := lpoV l) hp hx hy).2
          have hxs : sizeT x ≤ 60 ∧ sizeT x + sizeT y ≤ 100 := by
           have hz := HSZ.out
           have hm : ∀ z, z ∈ [s, t, u] → sizeT z ≤ 60 := fun z hz => by
            simp at hz
            have := HSZ.out
            rcases hz with rfl | rfl | rfl <;> omega
           have hxm := hm x (List.mem_of_getElem? hx)
           have hmm := (res4_at (f := lpoV l) hp hx hy).2
           simp only [List.mem_cons, List.mem_nil_iff, or_false, Prod.mk.injEq] at hmm
           rcases hmm with ⟨rfl, rfl⟩ | ⟨rfl, rfl⟩ | ⟨rfl, rfl⟩ | ⟨rfl, rfl⟩ <;> omega
          obtain ⟨ob, wq, hob, hwq, HBO, hEq⟩ := box_new wr (.cells #[.int .i64 (i : Int), .int .i64 (j : Int)] 35)
          obtain ⟨z0, z1⟩ := two HBO.out
          have HP1 := Lib.hid (fun (w' : World) (h : Ext wq w') => Lpo_any (HWS.out.ext (HEG.out.trans (HEr.out.trans (hEq.trans h)))) (HL.out.ext (HEG.out.trans (HEr.out.trans (hEq.trans h)))).below (fun _ h => h) (fun _ h => h) hxs.2 (hXT.ext (hEq.trans h)).below (hYT.ext (hEq.trans h)).below)
          have HQ1 := Lib.hid (fun (w' : World) (h : Ext wq w') => Kbo_any (HWS.out.ext (HEG.out.trans (HEr.out.trans (hEq.trans h)))) (HL.out.ext (HEG.out.trans (HEr.out.trans (hEq.trans h)))).below (HI.out.ext (HEG.out.trans (HEr.out.trans (hEq.trans h)))).below (fun _ h => h) (fun _ h => h) (fun _ h => h) hxs.2 (hXT.ext (hEq.trans h)).below (hYT.ext (hEq.trans h)).below)
          rw [he.1] at HP1
          rw [he.2] at HQ1
          have hr1 := lpoV_rng l x y
          have hr2 := kboV_rng l W x y
          obtain ⟨p, hpe⟩ : ∃ p, p = lpoV l x y := ⟨_, rfl⟩
          obtain ⟨q, hqe⟩ : ∃ p, p = kboV l W x y := ⟨_, rfl⟩
          rw [← hpe] at HP1 hP hr1
          rw [← hqe] at HQ1 hQ hr2
          have HPT : Hid ((res4 (lpoV l) s t u).take (k2 + 1) = (res4 (lpoV l) s t u).take k2 ++ [p]) := Lib.hid (by rw [List.take_add_one, hP]; rfl)
          have HQT : Hid ((res4 (kboV l W) s t u).take (k2 + 1) = (res4 (kboV l W) s t u).take k2 ++ [q]) := Lib.hid (by rw [List.take_add_one, hQ]; rfl)
          have HRG : Hid (I64 p ∧ I64 q) := Lib.hid (by unfold I64; omega)
          obtain ⟨b0, b1, b2, b3, x0, x1, x2, x3, y0, y1, y2, y3⟩ := cs_e12 hEq ⟨b0, b1, b2, b3, x0, x1, x2, x3, y0, y1, y2, y3⟩
          have HEQ := Lib.hid hEq
          clear hP hQ he hxs hr1 hr2 hpe hqe hXT hYT hx hy hp hEq
          have hi3 : (i : Int) < 3 := by omega
          have hj3 : (j : Int) < 3 := by omega
          go_upto_region 14 with fail
          rw [← hwq, ← hob]
          clear hwq hob
          have HFCT := Lib.hid (And.intro z0 (And.intro z1 (And.intro x0 (And.intro x1 (And.intro x2 (And.intro x3 (And.intro y0 (And.intro y1 (And.intro y2 y3)))))))))
          refine wp_region_reg 15 false (by kernel_rfl) (by kernel_rfl) ?_
          refine reg_value (fun _ => rfl) ?_ (fun g w' vs hM hE hP => ?_) ?_
          rotate_left
          · (clear hP hM; go_simp; first | done | rfl)
          refine reg_value (fun _ => rfl) ?_ (fun g w' vs hM hE hP => ?_) ?_
          rotate_left
          · (clear hP hM; go_simp; first | done | rfl)
          refine reg_value (fun _ => rfl) ?_ (fun g w' vs hM hE hP => ?_) ?_
          rotate_left
          · (clear hP hM; have ⟨z0, z1, z2, z3, z4, z5, z6, z7, z8, z9⟩ := cs_e10 hE HFCT.out; go_simp; first | done | rfl)
          refine reg_value (fun _ => rfl) ?_ (fun g w' vs hM hE hP => ?_) ?_
          rotate_left
          · (clear hP hM; go_simp; first | done | rfl)
          refine reg_value (fun _ => rfl) ?_ (fun g w' vs hM hE hP => ?_) ?_
          rotate_left
          · (clear hP hM; have ⟨z0, z1, z2, z3, z4, z5, z6, z7, z8, z9⟩ := cs_e10 hE HFCT.out; go_simp; first | done | rfl)
          refine reg_value (fun _ => rfl) ?_ (fun g w' vs hM hE hP => ?_) ?_
          rotate_left
          · (clear hP hM; go_simp; first | done | rfl)
          refine reg_value (fun _ => rfl) ?_ (fun g w' vs hM hE hP => ?_) ?_
          rotate_left
          · (clear hP hM; have ⟨z0, z1, z2, z3, z4, z5, z6, z7, z8, z9⟩ := cs_e10 hE HFCT.out; go_simp; first | done | rfl)
          refine reg_value (fun _ => rfl) ?_ (fun g w' vs hM hE hP => ?_) ?_
          rotate_left
          · (clear hP hM; go_simp; first | done | rfl)
          refine reg_value (fun _ => rfl) ?_ (fun g w' vs hM hE hP => ?_) ?_
          rotate_left
          · (clear hP hM; have ⟨z0, z1, z2, z3, z4, z5, z6, z7, z8, z9⟩ := cs_e10 hE HFCT.out; go_simp; first | done | rfl)
          refine reg_const (fun _ => rfl) 11 ?_ (fun g w' vs hM hE hP => ?_) ?_
          rotate_left
          · (clear hP hM; have ⟨z0, z1, z2, z3, z4, z5, z6, z7, z8, z9⟩ := cs_e10 hE HFCT.out; go_simp; first | done | exact ⟨rfl, rfl⟩ | rfl)
          apply Exists.intro
          refine And.intro (fun g w' vs hM hE hP => ?_) ?_
          · exact HP1.out w' hE
          refine reg_value (fun _ => rfl) ?_ (fun g w' vs hM hE hP => ?_) ?_
          rotate_left
          · (clear hP hM; go_simp; first | done | rfl)
          refine reg_value (fun _ => rfl) ?_ (fun g w' vs hM hE hP => ?_) ?_
          rotate_left
          · (clear hP hM; go_simp; first | done | rfl)
          refine reg_value (fun _ => rfl) ?_ (fun g w' vs hM hE hP => ?_) ?_
          rotate_left
          · (clear hP hM; go_simp; first | done | rfl)
          refine reg_value (fun _ => rfl) ?_ (fun g w' vs hM hE hP => ?_) ?_
          rotate_left
          · (clear hP hM; go_simp; first | done | rfl)
          refine reg_value (fun _ => rfl) ?_ (fun g w' vs hM hE hP => ?_) ?_
          rotate_left
          · (clear hP hM; go_simp; first | done | rfl)
          intro g wa hEa hF hQ
          simp only [List.drop_succ_cons, List.drop_zero, Act.put, List.setIfInBounds_toArray, List.set_cons_succ, List.set_cons_zero]
          obtain ⟨z0, z1, b0, b1, b2, b3, x0, x1, x2, x3, y0, y1, y2, y3⟩ := cs_e14 hEa ⟨z0, z1, b0, b1, b2, b3, x0, x1, x2, x3, y0, y1, y2, y3⟩
          have HEA := Lib.hid hEa
          clear hEa hF hQ
          go_upto_region 15 with fail
          have HFCT := Lib.hid (And.intro z0 (And.intro z1 (And.intro x0 (And.intro x1 (And.intro x2 (And.intro x3 (And.intro y0 (And.intro y1 (And.intro y2 y3)))))))))
          refine wp_region_reg 16 false (by kernel_rfl) (by kernel_rfl) ?_
          refine reg_value (fun _ => rfl) ?_ (fun g w' vs hM hE hP => ?_) ?_
          rotate_left
          · (clear hP hM; go_simp; first | done | rfl)
          refine reg_value (fun _ => rfl) ?_ (fun g w' vs hM hE hP => ?_) ?_
          rotate_left
          · (clear hP hM; go_simp; first | done | rfl)
          refine reg_value (fun _ => rfl) ?_ (fun g w' vs hM hE hP => ?_) ?_
          rotate_left
          · (clear hP hM; go_simp; first | done | rfl)
          refine reg_value (fun _ => rfl) ?_ (fun g w' vs hM hE hP => ?_) ?_
          rotate_left
          · (clear hP hM; have ⟨z0, z1, z2, z3, z4, z5, z6, z7, z8, z9⟩ := cs_e10 hE HFCT.out; go_simp; first | done | rfl)
          refine reg_value (fun _ => rfl) ?_ (fun g w' vs hM hE hP => ?_) ?_
          rotate_left
          · (clear hP hM; go_simp; first | done | rfl)
          refine reg_value (fun _ => rfl) ?_ (fun g w' vs hM hE hP => ?_) ?_
          rotate_left
          · (clear hP hM; have ⟨z0, z1, z2, z3, z4, z5, z6, z7, z8, z9⟩ := cs_e10 hE HFCT.out; go_simp; first | done | rfl)
          refine reg_value (fun _ => rfl) ?_ (fun g w' vs hM hE hP => ?_) ?_
          rotate_left
          · (clear hP hM; go_simp; first | done | rfl)
          refine reg_value (fun _ => rfl) ?_ (fun g w' vs hM hE hP => ?_) ?_
          rotate_left
          · (clear hP hM; have ⟨z0, z1, z2, z3, z4, z5, z6, z7, z8, z9⟩ := cs_e10 hE HFCT.out; go_simp; first | done | rfl)
          refine reg_value (fun _ => rfl) ?_ (fun g w' vs hM hE hP => ?_) ?_
          rotate_left
          · (clear hP hM; go_simp; first | done | rfl)
          refine reg_value (fun _ => rfl) ?_ (fun g w' vs hM hE hP => ?_) ?_
          rotate_left
          · (clear hP hM; have ⟨z0, z1, z2, z3, z4, z5, z6, z7, z8, z9⟩ := cs_e10 hE HFCT.out; go_simp; first | done | rfl)
          refine reg_const (fun _ => rfl) 12 ?_ (fun g w' vs hM hE hP => ?_) ?_
          rotate_left
          · (clear hP hM; have ⟨z0, z1, z2, z3, z4, z5, z6, z7, z8, z9⟩ := cs_e10 hE HFCT.out; go_simp; first | done | exact ⟨rfl, rfl⟩ | rfl)
          apply Exists.intro
          refine And.intro (fun g w' vs hM hE hP => ?_) ?_
          · exact HQ1.out w' (HEA.out.trans hE)
          refine reg_value (fun _ => rfl) ?_ (fun g w' vs hM hE hP => ?_) ?_
          rotate_left
          · (clear hP hM; go_simp; first | done | rfl)
          refine reg_value (fun _ => rfl) ?_ (fun g w' vs hM hE hP => ?_) ?_
          rotate_left
          · (clear hP hM; go_simp; first | done | rfl)
          refine reg_value (fun _ => rfl) ?_ (fun g w' vs hM hE hP => ?_) ?_
          rotate_left
          · (clear hP hM; go_simp; first | done | rfl)
          refine reg_value (fun _ => rfl) ?_ (fun g w' vs hM hE hP => ?_) ?_
          rotate_left
          · (clear hP hM; go_simp; first | done | rfl)
          refine reg_value (fun _ => rfl) ?_ (fun g w' vs hM hE hP => ?_) ?_
          rotate_left
          · (clear hP hM; go_simp; first | done | rfl)
          intro g wb hEb hF hQ
          simp only [List.drop_succ_cons, List.drop_zero, Act.put, List.setIfInBounds_toArray, List.set_cons_succ, List.set_cons_zero]
          have HEB := Lib.hid (HEQ.out.trans (HEA.out.trans hEb))
          clear hEb hF hQ z0 z1 x0 x1 x2 x3 y0 y1 y2 y3 b0 b1 b2 b3
          go_upto_region 18 with fail
          obtain ⟨pb, wc, hpb, hwc, HBP, hEc⟩ := box_new wb (.cells #[.int .i64 p] 3)
          have HPL := Lib.hid (one_intF (S := fun _ => False) HBP.out HRG.out.1)
          have HRC := Lib.hid (HRW.out.next (HEB.out.trans hEc))
          clear hEc
          go_upto_region 19 with (
           at_builtin
           first
           | (rw [← hpb, ← hwc]
              refine wpList_appG (E := elI) (T := 3) rfl 30 (.tmp 110) (.tmp 112) rfl rfl rfl Tryz.underlying30 infInt rfl (by decide) (by decide) HRC.out.p HRC.out.base.2 (fun c h => absurd h id) (by rw [List.length_take]; omega) (M := [p]) (by simp) HPL.out ?_
              intro v6 wd o6 g6 k6
              have hl6 : ((res4 (lpoV l) s t u).take k2 ++ [p]).length = k2 + 1 := (by rw [List.length_append, hl1]; rfl)
              obtain ⟨pa6, pc6, hp6, hpl6, hpc6⟩ := o6.slice
              rw [hl6] at hp6 hpl6
              subst hp6
              have HRD := Lib.hid (HRC.out.putP o6 g6 k6)
              obtain ⟨qb, we, hqb, hwe, HBQ, hEe⟩ := box_new wd (.cells #[.int .i64 q] 3)
              have HQL := Lib.hid (one_intF (S := fun _ => False) HBQ.out HRG.out.2)
              have HRE := Lib.hid (HRD.out.next hEe)
              clear hEe o6 g6 k6 hl6)
           | (rw [← hqb, ← hwe]
              refine wpList_appG (E := elI) (T := 3) rfl 30 (.tmp 114) (.tmp 116) rfl rfl rfl Tryz.underlying30 infInt rfl (by decide) (by decide) HRE.out.q HRE.out.base.2 (fun c h => absurd h id) (by rw [List.length_take]; omega) (M := [q]) (by simp) HQL.out ?_
              intro v7 wf o7 g7 k7
              have HRF := Lib.hid (HRE.out.swap.putP o7 g7 k7).swap
              clear o7 g7 k7))
          go_wp2_with fail
          go_roundw
          case rel => exact ⟨k2 + 1, by go_num, by omega, Lib.hid (by rw [HPT.out, HQT.out]; exact HRF.out)⟩
          case measure => simp [intOf]; omega
        · have HK4 : Hid (k2 = 4) := Lib.hid (by omega)
          have hk40 : ¬ (k2 : Int) < 4 := by omega
          obtain ⟨w0, hw0⟩ : ∃ w0, w0 = wr := ⟨_, rfl⟩
          rw [← hw0] at HRW b0 b1 b2 b3 ⊢
          have HE0 := Lib.hid (HEG.out.trans HRW.out.ext)
          clear hw0 HEr
          have HKID := Lib.hid HOK.out.kid
          have HLP : Hid (lawsB (lpoV l s t) (lpoV l t u) (lpoV l s u) (lpoV l t s) = true) := Lib.hid HOK.out.p
          have HLQ : Hid (lawsB (kboV l W s t) (kboV l W t u) (kboV l W s u) (kboV l W t s) = true) := Lib.hid HOK.out.q
          have HTS : Hid (TmW w0 Any a k s) := Lib.hid (HS.out.ext HE0.out)
          go_wp2_with fail
          go_loopw [20, 21, 22, 23, 24, 123] (fun x20 x21 x22 x23 x24 kv wr => ∃ k : Nat, kv = .int .i64 k ∧ k ≤ s.kids.length ∧ Hid (Ext w0 wr)) (fun x20 x21 x22 x23 x24 kv _ => s.kids.length - (intOf kv).toNat)
          case atStart => exact ⟨0, rfl, by omega, Lib.hid (Ext.refl _)⟩
          case round =>
           obtain ⟨j, rfl, hj, HE⟩ := hrel
           have b0 := cs_ext HE.out b0
           have b1 := cs_ext HE.out b1
           have b2 := cs_ext HE.out b2
           have b3 := cs_ext HE.out b3
           by_cases hlt : j < s.kids.length
           · obtain ⟨x, hx⟩ : ∃ x, s.kids[j]? = some x := ⟨_, List.getElem?_eq_getElem hlt⟩
             obtain ⟨xb, xo, xa, xc, ha, x0, x1, x2, x3, hTx⟩ := (HTS.out.ext HE.out).ts.at hx
             subst ha
             have hkd := HKID.out x (List.mem_of_getElem? hx)
             have hsx := size_kid (List.mem_of_getElem? hx)
             obtain ⟨ob, wq, hob, hwq, HBO, hEq⟩ := box_new wr (.cells #[.int .i64 x.kind, .string x.name, .int .i64 x.sort, .slice xa x.kids.length xc] 24)
             obtain ⟨z0, z1, z2, z3⟩ := box4r HBO.out
             have HP1 := Lib.hid (fun (w' : World) (h : Ext wq w') => Lpo_two (HWS.out.ext (HE0.out.trans (HE.out.trans (hEq.trans h)))) (HL.out.ext (HE0.out.trans (HE.out.trans (hEq.trans h)))).below (fun _ h => h) (fun _ h => h) (two_kid (by have := HSZ.out; omega) (List.mem_of_getElem? hx)) (HTS.out.ext (HE.out.trans (hEq.trans h))).below (hTx.ext (hEq.trans h)).any.below)
             have HQ1 := Lib.hid (fun (w' : World) (h : Ext wq w') => Kbo_two (HWS.out.ext (HE0.out.trans (HE.out.trans (hEq.trans h)))) (HL.out.ext (HE0.out.trans (HE.out.trans (hEq.trans h)))).below (HI.out.ext (HE0.out.trans (HE.out.trans (hEq.trans h)))).below (fun _ h => h) (fun _ h => h) (fun _ h => h) (two_kid (by have := HSZ.out; omega) (List.mem_of_getElem? hx)) (HTS.out.ext (HE.out.trans (hEq.trans h))).below (hTx.ext (hEq.trans h)).any.below)
             rw [hkd.1, hkd.2.1] at HP1
             rw [hkd.2.2.1, hkd.2.2.2] at HQ1
             obtain ⟨b0, b1, b2, b3⟩ := cs_e4 hEq ⟨b0, b1, b2, b3⟩
             have HEQ := Lib.hid (HE.out.trans hEq)
             clear hx hTx hkd hsx hEq
             go_upto_region 23 with fail
             rw [← hwq, ← hob]
             clear hwq hob
             go_wp2_with fail
             refine (HP1.out _ (Ext.refl _)).mono ?_
             rintro e wa ⟨rfl, hEa⟩
             obtain ⟨b0, b1, b2, b3, z0, z1, z2, z3⟩ := cs_e8 hEa ⟨b0, b1, b2, b3, z0, z1, z2, z3⟩
             have HEA := Lib.hid hEa
             clear hEa
             go_wp2_with fail
             refine (HQ1.out _ HEA.out).mono ?_
             rintro e wb ⟨rfl, hEb⟩
             have HEB := Lib.hid (HEQ.out.trans (HEA.out.trans hEb))
             clear hEb
             go_wp2_with fail
             go_roundw
             case rel => exact ⟨j + 1, by go_num, by omega, HEB⟩
             case measure => simp [intOf]; omega
           · have hje : j = s.kids.length := by omega
             clear b0 b1 b2 b3
             have HPX := (HRW.out.p.any.ext HE.out)
             have HQX := (HRW.out.q.any.ext HE.out)
             rw [show (res4 (lpoV l) s t u).take k2 = [lpoV l s t, lpoV l t u, lpoV l s u, lpoV l t s] from by rw [HK4.out]; rfl] at HPX
             rw [show (res4 (kboV l W) s t u).take k2 = [kboV l W s t, kboV l W t u, kboV l W s u, kboV l W t s] from by rw [HK4.out]; rfl] at HQX
             have hr1 := lpoV_rng l t s
             have hr2 := kboV_rng l W t s
             obtain ⟨p0, e0⟩ : ∃ p, p = lpoV l s t := ⟨_, rfl⟩
             obtain ⟨p1, e1⟩ : ∃ p, p = lpoV l t u := ⟨_, rfl⟩
             obtain ⟨p2, e2⟩ : ∃ p, p = lpoV l s u := ⟨_, rfl⟩
             obtain ⟨p3, e3⟩ : ∃ p, p = lpoV l t s := ⟨_, rfl⟩
             obtain ⟨q0, f0⟩ : ∃ p, p = kboV l W s t := ⟨_, rfl⟩
             obtain ⟨q1, f1⟩ : ∃ p, p = kboV l W t u := ⟨_, rfl⟩
             obtain ⟨q2, f2⟩ : ∃ p, p = kboV l W s u := ⟨_, rfl⟩
             obtain ⟨q3, f3⟩ : ∃ p, p = kboV l W t s := ⟨_, rfl⟩
             rw [← e0, ← e1, ← e2, ← e3] at HPX HLP
             rw [← f0, ← f1, ← f2, ← f3] at HQX HLQ
             rw [← e3] at hr1
             rw [← f3] at hr2
             obtain ⟨pb, po, hpe, y0, -⟩ := HPX.iAt (i := 0) (x := p0) rfl
             subst hpe
             obtain ⟨pb', po', hpe, y1, -⟩ := HPX.iAt (i := 1) (x := p1) rfl
             cases hpe
             obtain ⟨pb', po', hpe, y2, -⟩ := HPX.iAt (i := 2) (x := p2) rfl
             cases hpe
             obtain ⟨pb', po', hpe, y3, -⟩ := HPX.iAt (i := 3) (x := p3) rfl
             cases hpe
             obtain ⟨qb, qo, hqe, z0, -⟩ := HQX.iAt (i := 0) (x := q0) rfl
             subst hqe
             obtain ⟨qb', qo', hqe, z1, -⟩ := HQX.iAt (i := 1) (x := q1) rfl
             cases hqe
             obtain ⟨qb', qo', hqe, z2, -⟩ := HQX.iAt (i := 2) (x := q2) rfl
             cases hqe
             obtain ⟨qb', qo', hqe, z3, -⟩ := HQX.iAt (i := 3) (x := q3) rfl
             cases hqe
             have hL1 := fun (w' : World) => laws_any (w := w') (ab := p0) (bc := p1) (ac := p2) (ba := p3) (by omega)
             have hL2 := fun (w' : World) => laws_any (w := w') (ab := q0) (bc := q1) (ac := q2) (ba := q3) (by omega)
             rw [HLP.out] at hL1
             rw [HLQ.out] at hL2
             have HL1 := Lib.hid hL1
             have HL2 := Lib.hid hL2
             clear hL1 hL2 e0 e1 e2 e3 f0 f1 f2 f3 HPX HQX hr1 hr2
             rw [Nat.add_zero] at y0 z0
             go_upto_region 28 with fail
             have hk4 := HK4.out
             clear HK4 hk40 HKID HLP HLQ HTH HCA HNM HLI HOK
             subst hk4
             have HFCT := Lib.hid (And.intro y0 (And.intro y1 (And.intro y2 (And.intro y3 (And.intro z0 (And.intro z1 (And.intro z2 z3)))))))
             refine wp_region_reg 29 false (by kernel_rfl) (by kernel_rfl) ?_
             refine reg_value (fun _ => rfl) ?_ (fun g w' vs hM hE hP => ?_) ?_
             rotate_left
             · (clear hP hM; go_simp; first | done | rfl)
             refine reg_value (fun _ => rfl) ?_ (fun g w' vs hM hE hP => ?_) ?_
             rotate_left
             · (clear hP hM; go_simp; first | done | rfl)
             refine reg_value (fun _ => rfl) ?_ (fun g w' vs hM hE hP => ?_) ?_
             rotate_left
             · (clear hP hM; have ⟨z0, z1, z2, z3, z4, z5, z6, z7⟩ := cs_e8 hE HFCT.out; go_simp; first | done | rfl)
             refine reg_value (fun _ => rfl) ?_ (fun g w' vs hM hE hP => ?_) ?_
             rotate_left
             · (clear hP hM; go_simp; first | done | rfl)
             refine reg_value (fun _ => rfl) ?_ (fun g w' vs hM hE hP => ?_) ?_
             rotate_left
             · (clear hP hM; go_simp; first | done | rfl)
             refine reg_value (fun _ => rfl) ?_ (fun g w' vs hM hE hP => ?_) ?_
             rotate_left
             · (clear hP hM; have ⟨z0, z1, z2, z3, z4, z5, z6, z7⟩ := cs_e8 hE HFCT.out; go_simp; first | done | rfl)
             refine reg_value (fun _ => rfl) ?_ (fun g w' vs hM hE hP => ?_) ?_
             rotate_left
             · (clear hP hM; go_simp; first | done | rfl)
             refine reg_value (fun _ => rfl) ?_ (fun g w' vs hM hE hP => ?_) ?_
             rotate_left
             · (clear hP hM; go_simp; first | done | rfl)
             refine reg_value (fun _ => rfl) ?_ (fun g w' vs hM hE hP => ?_) ?_
             rotate_left
             · (clear hP hM; have ⟨z0, z1, z2, z3, z4, z5, z6, z7⟩ := cs_e8 hE HFCT.out; go_simp; first | done | rfl)
             refine reg_value (fun _ => rfl) ?_ (fun g w' vs hM hE hP => ?_) ?_
             rotate_left
             · (clear hP hM; go_simp; first | done | rfl)
             refine reg_value (fun _ => rfl) ?_ (fun g w' vs hM hE hP => ?_) ?_
             rotate_left
             · (clear hP hM; go_simp; first | done | rfl)
             refine reg_value (fun _ => rfl) ?_ (fun g w' vs hM hE hP => ?_) ?_
             rotate_left
             · (clear hP hM; have ⟨z0, z1, z2, z3, z4, z5, z6, z7⟩ := cs_e8 hE HFCT.out; go_simp; first | done | rfl)
             refine reg_const (fun _ => rfl) 13 ?_ (fun g w' vs hM hE hP => ?_) ?_
             rotate_left
             · (clear hP hM; have ⟨z0, z1, z2, z3, z4, z5, z6, z7⟩ := cs_e8 hE HFCT.out; go_simp; first | done | exact ⟨rfl, rfl⟩ | rfl)
             apply Exists.intro
             refine And.intro (fun g w' vs hM hE hP => ?_) ?_
             · exact HL1.out w'
             refine reg_value (fun _ => rfl) ?_ (fun g w' vs hM hE hP => ?_) ?_
             rotate_left
             · (clear hP hM; go_simp; first | done | rfl)
             refine reg_value (fun g => by go_simp) ?_ (fun g w' vs hM hE hP => ?_) ?_
             rotate_left
             · (clear hP hM; go_simp; first | done | rfl)
             refine reg_value (fun g => by go_simp) ?_ (fun g w' vs hM hE hP => ?_) ?_
             rotate_left
             · (clear hP hM; go_simp; first | done | rfl)
             refine reg_value (fun g => by go_simp) ?_ (fun g w' vs hM hE hP => ?_) ?_
             rotate_left
             · (clear hP hM; have ⟨z0, z1, z2, z3, z4, z5, z6, z7⟩ := cs_e8 hE HFCT.out; go_simp; first | done | rfl)
             refine reg_value (fun g => by go_simp) ?_ (fun g w' vs hM hE hP => ?_) ?_
             rotate_left
             · (clear hP hM; go_simp; first | done | rfl)
             refine reg_value (fun g => by go_simp) ?_ (fun g w' vs hM hE hP => ?_) ?_
             rotate_left
             · (clear hP hM; go_simp; first | done | rfl)
             refine reg_value (fun g => by go_simp) ?_ (fun g w' vs hM hE hP => ?_) ?_
             rotate_left
             · (clear hP hM; have ⟨z0, z1, z2, z3, z4, z5, z6, z7⟩ := cs_e8 hE HFCT.out; go_simp; first | done | rfl)
             refine reg_value (fun g => by go_simp) ?_ (fun g w' vs hM hE hP => ?_) ?_
             rotate_left
             · (clear hP hM; go_simp; first | done | rfl)
             refine reg_value (fun g => by go_simp) ?_ (fun g w' vs hM hE hP => ?_) ?_
             rotate_left
             · (clear hP hM; go_simp; first | done | rfl)
             refine reg_value (fun g => by go_simp) ?_ (fun g w' vs hM hE hP => ?_) ?_
             rotate_left
             · (clear hP hM; have ⟨z0, z1, z2, z3, z4, z5, z6, z7⟩ := cs_e8 hE HFCT.out; go_simp; first | done | rfl)
             refine reg_value (fun g => by go_simp) ?_ (fun g w' vs hM hE hP => ?_) ?_
             rotate_left
             · (clear hP hM; go_simp; first | done | rfl)
             refine reg_value (fun g => by go_simp) ?_ (fun g w' vs hM hE hP => ?_) ?_
             rotate_left
             · (clear hP hM; go_simp; first | done | rfl)
             refine reg_value (fun g => by go_simp) ?_ (fun g w' vs hM hE hP => ?_) ?_
             rotate_left
             · (clear hP hM; have ⟨z0, z1, z2, z3, z4, z5, z6, z7⟩ := cs_e8 hE HFCT.out; go_simp; first | done | rfl)
             refine reg_const (fun g => by go_simp) 13 ?_ (fun g w' vs hM hE hP => ?_) ?_
             rotate_left
             · (clear hP hM; have ⟨z0, z1, z2, z3, z4, z5, z6, z7⟩ := cs_e8 hE HFCT.out; go_simp; first | done | exact ⟨rfl, rfl⟩ | rfl)
             apply Exists.intro
             refine And.intro (fun g w' vs hM hE hP => ?_) ?_
             · exact HL2.out w'
             refine reg_value (fun _ => rfl) ?_ (fun g w' vs hM hE hP => ?_) ?_
             rotate_left
             · (clear hP hM; go_simp; first | done | rfl)
             refine reg_value (fun _ => rfl) ?_ (fun g w' vs hM hE hP => ?_) ?_
             rotate_left
             · (clear hP hM; go_simp; first | done | rfl)
             intro g wa hEa hF hQ
             simp only [List.drop_succ_cons, List.drop_zero, Act.put, List.setIfInBounds_toArray, List.set_cons_succ, List.set_cons_zero]
             have HEA := Lib.hid (HE9.out.trans (HE0.out.trans (HE.out.trans hEa)))
             clear hEa hF hQ y0 y1 y2 y3 z0 z1 z2 z3
             go_wp2_with fail
             go_ret
             exact ⟨rfl, HEA.out⟩
     · have hyb : (y2 != 0) = true := by simp [hz0]
       clear hz0
       go_wp2_with fail
       go_ret
       exact ⟨rfl, HE2.out.trans (HX.out.trans HE9.out)⟩
   · have hyb : (y1 != 0) = true := by simp [hy0]
     clear hy0
     go_wp2_with fail
     go_ret
     exact ⟨rfl, HE2.out.trans (HX.out.trans HE8.out)⟩
end Go.Proofs.YtkobikdkbpdjeaaGreatDoor
