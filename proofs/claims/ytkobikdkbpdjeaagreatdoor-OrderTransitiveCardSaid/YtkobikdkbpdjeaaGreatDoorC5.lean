/- Contracts: the reference's order: Weight, count. -/
import Derived.Test.YtkobikdkbpdjeaaGreatDoorC4
import Derived.Test.YtkobikdkbpdjeaaGreatDoorG3
import Derived.Test.YtkobikdkbpdjeaaGreatDoorBI
namespace Go.Proofs.YtkobikdkbpdjeaaGreatDoor
open Go Go.RowKit
set_option linter.unusedVariables false
set_option linter.unusedSimpArgs false

/-- the weight of a known name lies in the list -/
theorem wAt_get {l : List ByteArray} {W : List Int} (hlen : W.length = l.length) {n : ByteArray} (h : 0 ≤ rnk l n) : ∃ r : Nat, rnk l n = (r : Int) ∧ r < W.length ∧ W[r]? = some (wAt l W n) := by
 have h3 := rnk_hi l n
 have hlt : (rnk l n).toNat < W.length := by rw [hlen]; omega
 refine ⟨(rnk l n).toNat, by omega, hlt, ?_⟩
 unfold wAt
 rw [List.getElem?_eq_getElem hlt]
 rfl
theorem knT_name {l : List ByteArray} {t : Tm} (h : knT l t = true) (hk : t.kind ≠ 1) : 0 ≤ rnk l t.name := by
 rw [knT_kids, decide_eq_false hk, Bool.and_eq_true] at h
 simpa using h.1
theorem knT_kid {l : List ByteArray} {t x : Tm} {k : Nat} (h : knT l t = true) (hx : t.kids[k]? = some x) : knT l x = true := by
 rw [knT_kids, Bool.and_eq_true] at h
 exact knL_gt hx h.2

set_option maxRecDepth 100000 in
set_option maxHeartbeats 2000000 in
theorem RWeight_any (n : Nat) : ∀ (w : World) (Sl Sw S : Nat → Prop) (v u a : Option Addr) (m vc q uc cap : Nat) (l : List ByteArray) (W : List Int) (t : Tm), sizeT t ≤ n → n ≤ 10000 → W.length = l.length → (∀ z ∈ W, 0 ≤ z ∧ z ≤ 1000) → knT l t = true → LsG elS w Sl (.slice v m vc) l → LsG elI w Sw (.slice u q uc) W → TmW w S a cap t →
 Calls Tryz.prog 45 #[.slice v m vc, .slice u q uc, .agg #[.int .i64 t.kind, .string t.name, .int .i64 t.sort, .slice a t.kids.length cap]] w fun e w' => e = .returned (.int .i64 (wgt l W t)) ∧ Ext w w' := by
 induction n with
 | zero => intro w Sl Sw S v u a m vc q uc cap l W t hn; have := sizeT_kids t; omega
 | succ n ih =>
   intro w Sl Sw S v u a m vc q uc cap l W t hn hn2 hlen hrng hkn hL hI hT
   have hl := hT.len
   have hc := hT.cap
   unfold maxLen at hc
   obtain ⟨rfl, hul, huc⟩ := hI.len
   unfold maxLen at huc
   obtain ⟨bx, w1, hbbx, hwbx, HBbx, hEbx⟩ := box_new w (.cells #[.int .i64 t.kind, .string t.name, .int .i64 t.sort, .slice a t.kids.length cap] 24)
   obtain ⟨b0, b1, b2, b3⟩ := box4r (HBbx.out)
   have HT := Lib.hid (hT.ext hEbx)
   have HL := Lib.hid (hL.ext hEbx)
   have HI := Lib.hid (hI.ext hEbx)
   have HNM := Lib.hid hT.name
   have HE1 := Lib.hid hEbx
   have HK := Lib.hid (sizeT_kids t)
   have HN := Lib.hid hn
   have IH := Lib.hid ih
   have HLEN := Lib.hid hlen
   have HRNG := Lib.hid hrng
   have HKN := Lib.hid hkn
   clear hT hL hI hn ih hEbx hlen hrng hkn
   obtain ⟨V, hV⟩ : ∃ V, V = wgt l W t := ⟨_, rfl⟩
   rw [← hV]
   rw [wgt_kids] at hV
   have HVE := Lib.hid hV
   clear hV
   go_enter Tryz.func45, Tryz.ntmps45
   go_upto_region 1 with fail
   rw [← hwbx, ← hbbx]
   clear hwbx hbbx
   by_cases hk1 : t.kind = 1
   · obtain ⟨va, hva⟩ : ∃ va : Int, va = 1 := ⟨_, rfl⟩
     have HV0 := Lib.hid hva
     have HV2 : Hid (V = va + wgtL l W t.kids) := Lib.hid (by rw [HVE.out, if_pos hk1, hva])
     have HVR : Hid (0 ≤ va ∧ va ≤ 1000) := Lib.hid (by omega)
     clear hva
     obtain ⟨w2, hw2⟩ : ∃ w2, w2 = w1 := ⟨_, rfl⟩
     rw [hk1] at b0
     clear hk1
     go_upto_region 4 with fail
     rw [← hw2] at b0 b1 b2 b3 HT HL HI ⊢
     go_wp2_with fail
     have HE2 := Lib.hid (show Ext w1 w2 by rw [hw2]; exact Ext.refl _)
     clear hw2
     go_loopw [7, 8] (fun sv kv wr => ∃ (k : Nat) (sm : Int), kv = .int .i64 k ∧ sv = .int .i64 sm ∧ k ≤ t.kids.length ∧ Hid (sm = va + wgtL l W (t.kids.take k)) ∧ Hid (Ext w2 wr)) (fun sv kv _ => t.kids.length - (intOf kv).toNat)
     case atStart => exact ⟨0, _, rfl, rfl, by omega, Lib.hid (by simp [wgtL, HV0.out]), Lib.hid (Ext.refl _)⟩
     case round =>
      obtain ⟨k, sm, rfl, rfl, hk, HSM, HE⟩ := hrel
      have b3 := cs_ext HE.out b3
      clear b0 b1 b2
      by_cases hlt : k < t.kids.length
      · obtain ⟨x, hx⟩ : ∃ x, t.kids[k]? = some x := ⟨_, List.getElem?_eq_getElem hlt⟩
        obtain ⟨xb, xo, xa, xc, rfl, x0, x1, x2, x3, hTx⟩ := (HT.out.ext HE.out).ts.at hx
        have hsx := sizeL_get hx
        have hcon := IH.out wr Sl Sw S v _ xa m vc W.length uc xc l W x (by have := HK.out; have := HN.out; omega) (by omega) HLEN.out HRNG.out (knT_kid HKN.out hx) (HL.out.ext HE.out) (HI.out.ext HE.out) hTx
        have HF := Lib.hid (wgtL_take (l := l) (W := W) hx)
        have hb1 := wgtL_take_le (l := l) HRNG.out t.kids k
        have hb2 := wgt_rng (l := l) HRNG.out x
        have hb3 := HVR.out
        have hz := HK.out
        have hz2 := HN.out
        have hsm := HSM.out
        obtain ⟨y, hy⟩ : ∃ y, y = wgt l W x := ⟨_, rfl⟩
        rw [← hy] at hcon HF hb2
        have hs1 : -9223372036854775808 ≤ sm + y ∧ sm + y ≤ 9223372036854775807 := by omega
        have HCON := Lib.hid hcon
        clear hx hsx hTx hcon hy hb1 hb2 hb3 hz hz2 hsm
        go_wp2_with fail
        refine HCON.out.mono ?_
        rintro e w3 ⟨rfl, hE3⟩
        have HE3 := Lib.hid (HE.out.trans hE3)
        clear hE3
        go_wp2_with fail
        go_roundw
        case rel => exact ⟨k + 1, _, by go_num, rfl, by omega, Lib.hid (by rw [HF.out, HSM.out]; omega), HE3⟩
        case measure => simp [intOf]; omega
      · go_wp2_with fail
        go_ret
        refine ⟨?_, HE1.out.trans (HE2.out.trans HE.out)⟩
        have h := HSM.out
        rw [List.take_of_length_le (by omega)] at h
        rw [HV2.out, h]
        rfl
   · have hk2 : (t.kind == 1) = false := by simp [hk1]
     obtain ⟨r, hr, hrl, hwr⟩ := wAt_get HLEN.out (knT_name HKN.out hk1)
     have HAT := Lib.hid (at_any (s := t.name) HL.out HNM.out)
     rw [hr] at HAT
     obtain ⟨wb, wo, rfl, v0, -⟩ := HI.out.iAt hwr
     obtain ⟨va, hva⟩ : ∃ va : Int, va = wAt l W t.name := ⟨_, rfl⟩
     rw [← hva] at v0
     have HV0 := Lib.hid (rfl : va = va)
     have HV2 : Hid (V = va + wgtL l W t.kids) := Lib.hid (by rw [HVE.out, if_neg hk1, hva])
     have HVR : Hid (0 ≤ va ∧ va ≤ 1000) := Lib.hid (by rw [hva]; exact wAt_rng HRNG.out _)
     have r1 : (r : Int) < (W.length : Int) := by omega
     have r2 : (0 : Int) ≤ (r : Int) := by omega
     clear hva hr hrl hwr
     go_upto_region 4 with (go_at_call 43; refine HAT.out.mono ?_; rintro e w2 ⟨rfl, hE2⟩; have v0 := cs_ext hE2 v0)
     have b3 := cs_ext hE2 b3
     have HT := Lib.hid (HT.out.ext hE2)
     have HL := Lib.hid (HL.out.ext hE2)
     have HI := Lib.hid (HI.out.ext hE2)
     have HE2 := Lib.hid hE2
     clear hE2 b0 b1 b2 hk1 hk2 v0 r1 r2
     have b0 := b3
     have b1 := b3
     have b2 := b3
     go_wp2_with fail
     go_loopw [7, 8] (fun sv kv wr => ∃ (k : Nat) (sm : Int), kv = .int .i64 k ∧ sv = .int .i64 sm ∧ k ≤ t.kids.length ∧ Hid (sm = va + wgtL l W (t.kids.take k)) ∧ Hid (Ext w2 wr)) (fun sv kv _ => t.kids.length - (intOf kv).toNat)
     case atStart => exact ⟨0, _, rfl, rfl, by omega, Lib.hid (by simp [wgtL, HV0.out]), Lib.hid (Ext.refl _)⟩
     case round =>
      obtain ⟨k, sm, rfl, rfl, hk, HSM, HE⟩ := hrel
      have b3 := cs_ext HE.out b3
      clear b0 b1 b2
      by_cases hlt : k < t.kids.length
      · obtain ⟨x, hx⟩ : ∃ x, t.kids[k]? = some x := ⟨_, List.getElem?_eq_getElem hlt⟩
        obtain ⟨xb, xo, xa, xc, rfl, x0, x1, x2, x3, hTx⟩ := (HT.out.ext HE.out).ts.at hx
        have hsx := sizeL_get hx
        have hcon := IH.out wr Sl Sw S v _ xa m vc W.length uc xc l W x (by have := HK.out; have := HN.out; omega) (by omega) HLEN.out HRNG.out (knT_kid HKN.out hx) (HL.out.ext HE.out) (HI.out.ext HE.out) hTx
        have HF := Lib.hid (wgtL_take (l := l) (W := W) hx)
        have hb1 := wgtL_take_le (l := l) HRNG.out t.kids k
        have hb2 := wgt_rng (l := l) HRNG.out x
        have hb3 := HVR.out
        have hz := HK.out
        have hz2 := HN.out
        have hsm := HSM.out
        obtain ⟨y, hy⟩ : ∃ y, y = wgt l W x := ⟨_, rfl⟩
        rw [← hy] at hcon HF hb2
        have hs1 : -9223372036854775808 ≤ sm + y ∧ sm + y ≤ 9223372036854775807 := by omega
        have HCON := Lib.hid hcon
        clear hx hsx hTx hcon hy hb1 hb2 hb3 hz hz2 hsm
        go_wp2_with fail
        refine HCON.out.mono ?_
        rintro e w3 ⟨rfl, hE3⟩
        have HE3 := Lib.hid (HE.out.trans hE3)
        clear hE3
        go_wp2_with fail
        go_roundw
        case rel => exact ⟨k + 1, _, by go_num, rfl, by omega, Lib.hid (by rw [HF.out, HSM.out]; omega), HE3⟩
        case measure => simp [intOf]; omega
      · go_wp2_with fail
        go_ret
        refine ⟨?_, HE1.out.trans (HE2.out.trans HE.out)⟩
        have h := HSM.out
        rw [List.take_of_length_le (by omega)] at h
        rw [HV2.out, h]
        rfl

theorem cntL_tk {z : Tm} {L : List Tm} {k : Nat} {x : Tm} (h : L[k]? = some x) : cntL z (L.take (k + 1)) = cntL z (L.take k) + cnt z x := by
 have key : ∀ (A : List Tm) (x : Tm), cntL z (A ++ [x]) = cntL z A + cnt z x := by
  intro A x
  induction A with
  | nil => simp [cntL]
  | cons y A ih => rw [List.cons_append, cntL, cntL, ih]; omega
 rw [List.take_add_one, h, Option.toList_some, key]
theorem cntL_tk_hi (z : Tm) (L : List Tm) (k : Nat) : 0 ≤ cntL z (L.take k) ∧ cntL z (L.take k) ≤ sizeL L := by
 have h1 := cntL_hi z (L.take k)
 have h2 := sizeL_take_le L k
 exact ⟨cntL_lo z _, by omega⟩

set_option maxRecDepth 100000 in
set_option maxHeartbeats 2000000 in
theorem RCount_any (n : Nat) : ∀ (w : World) (S' S : Nat → Prop) (a' a : Option Addr) (cap' cap : Nat) (z t : Tm), sizeT t ≤ n → n ≤ 100000 → sizeT z ≤ 100000 → TmW w S' a' cap' z → TmW w S a cap t →
 Calls Tryz.prog 44 #[.agg #[.int .i64 z.kind, .string z.name, .int .i64 z.sort, .slice a' z.kids.length cap'], .agg #[.int .i64 t.kind, .string t.name, .int .i64 t.sort, .slice a t.kids.length cap]] w fun e w' => e = .returned (.int .i64 (cnt z t)) ∧ Ext w w' := by
 induction n with
 | zero => intro w S' S a' a cap' cap z t hn; have := sizeT_kids t; omega
 | succ n ih =>
   intro w S' S a' a cap' cap z t hn hn2 hz hZ hT
   have hl := hT.len
   have hc := hT.cap
   have hzl := hZ.len
   have hzc := hZ.cap
   unfold maxLen at hc hzc
   obtain ⟨ax, w0, hbax, hwax, HBax, hEax⟩ := box_new w (.cells #[.int .i64 z.kind, .string z.name, .int .i64 z.sort, .slice a' z.kids.length cap'] 24)
   obtain ⟨bx, w1, hbbx, hwbx, HBbx, hEbx⟩ := box_new w0 (.cells #[.int .i64 t.kind, .string t.name, .int .i64 t.sort, .slice a t.kids.length cap] 24)
   have hcx1 : bx = ax + 1 := by rw [hbbx, hwax, World.size_alloc, hbax]
   have HAX := Lib.hid (hs_ext hEbx HBax.out)
   have hE1 := hEax.trans hEbx
   obtain ⟨z0, z1, z2, z3⟩ := box4r (HAX.out)
   obtain ⟨b0, b1, b2, b3⟩ := box4r (HBbx.out)
   have HT := Lib.hid (hT.ext hE1)
   have HZ := Lib.hid (hZ.ext hE1)
   have HE1 := Lib.hid hE1
   have HK := Lib.hid (sizeT_kids t)
   have HN := Lib.hid hn
   have HZS := Lib.hid hz
   have HSM := Lib.hid (RSame_any (w := w1) (s := z) (t := t) (by omega) (by omega) HZ.out HT.out)
   have IH := Lib.hid ih
   clear hT hZ hn ih hEbx hEax hE1 hz
   obtain ⟨V, hV⟩ : ∃ V, V = cnt z t := ⟨_, rfl⟩
   rw [← hV]
   rw [cnt_kids] at hV
   obtain ⟨q, hq⟩ : ∃ q, q = decide (z = t) := ⟨_, rfl⟩
   rw [← hq] at HSM
   have HVE : Hid (V = (if q = true then 1 else 0) + cntL z t.kids) := Lib.hid (by
    rw [hV, hq]
    by_cases h : z = t
    · simp [h]
    · rw [if_neg (fun e => h e.symm), if_neg (by simp [h])])
   clear hV hq
   go_enter Tryz.func44, Tryz.ntmps44
   go_upto_region 1 with fail
   rw [← hwax, ← hbax, ← hwbx, ← hcx1]
   clear hwax hbax hwbx hcx1 hbbx
   go_upto_region 2 with fail
   go_wp2_with fail
   refine HSM.out.mono ?_
   rintro e w2 ⟨rfl, hE2⟩
   obtain ⟨b3, z0, z1, z2, z3⟩ := cs_e5 hE2 ⟨b3, z0, z1, z2, z3⟩
   have HT := Lib.hid (HT.out.ext hE2)
   have HZ := Lib.hid (HZ.out.ext hE2)
   have HE2 := Lib.hid hE2
   clear hE2 b0 b1 b2 HSM
   cases q with
   | true =>
     obtain ⟨va, hva⟩ : ∃ va : Int, va = 1 := ⟨_, rfl⟩
     have HV0 := Lib.hid hva
     have HV2 : Hid (V = va + cntL z t.kids) := Lib.hid (by rw [HVE.out, hva]; rfl)
     have HVR : Hid (0 ≤ va ∧ va ≤ 1000) := Lib.hid (by omega)
     clear hva
     go_wp2_with fail
     go_loopw [5, 6] (fun sv kv wr => ∃ (k : Nat) (sm : Int), kv = .int .i64 k ∧ sv = .int .i64 sm ∧ k ≤ t.kids.length ∧ Hid (sm = va + cntL z (t.kids.take k)) ∧ Hid (Ext w2 wr)) (fun sv kv _ => t.kids.length - (intOf kv).toNat)
     case atStart => exact ⟨0, _, rfl, rfl, by omega, Lib.hid (by simp [cntL, HV0.out]), Lib.hid (Ext.refl _)⟩
     case round =>
      obtain ⟨k, sm, rfl, rfl, hk, HSM, HE⟩ := hrel
      obtain ⟨b3, z0, z1, z2, z3⟩ := cs_e5 HE.out ⟨b3, z0, z1, z2, z3⟩
      by_cases hlt : k < t.kids.length
      · obtain ⟨x, hx⟩ : ∃ x, t.kids[k]? = some x := ⟨_, List.getElem?_eq_getElem hlt⟩
        obtain ⟨xb, xo, xa, xc, rfl, x0, x1, x2, x3, hTx⟩ := (HT.out.ext HE.out).ts.at hx
        have hsx := sizeL_get hx
        have hcon := fun (w' : World) (hE : Ext wr w') => IH.out w' S' S a' xa cap' xc z x (by have := HK.out; have := HN.out; omega) (by omega) HZS.out ((HZ.out.ext HE.out).ext hE) (hTx.ext hE)
        have HF := Lib.hid (cntL_tk (z := z) hx)
        have hb1 := cntL_tk_hi z t.kids k
        have hb2 := cnt_hi z x
        have hb4 := cnt_lo z x
        have hb3 := HVR.out
        have hz := HK.out
        have hz2 := HN.out
        have hsm := HSM.out
        obtain ⟨y, hy⟩ : ∃ y, y = cnt z x := ⟨_, rfl⟩
        rw [← hy] at hcon HF hb2 hb4
        have hs1 : IntKind.i64.wrap (sm + y) = sm + y := by rw [IntKind.wrap_i64]; omega
        have HCON := Lib.hid hcon
        clear hx hsx hTx hcon hy hb1 hb2 hb3 hb4 hz hz2 hsm
        go_upto_region 7 with fail
        have HFCT := Lib.hid (And.intro b3 (And.intro z0 (And.intro z1 (And.intro z2 (And.intro z3 (And.intro x0 (And.intro x1 (And.intro x2 x3))))))))
        refine wp_region_reg 9 false (by kernel_rfl) (by kernel_rfl) ?_
        refine reg_value (fun _ => rfl) ?_ (fun g w' vs hM hE hP => ?_) ?_
        rotate_left
        · (clear hP hM; go_simp; first | done | rfl)
        refine reg_value (fun _ => rfl) ?_ (fun g w' vs hM hE hP => ?_) ?_
        rotate_left
        · (clear hP hM; have ⟨z0, z1, z2, z3, z4, z5, z6, z7, z8⟩ := cs_e9 hE HFCT.out; go_simp; first | done | rfl)
        refine reg_value (fun _ => rfl) ?_ (fun g w' vs hM hE hP => ?_) ?_
        rotate_left
        · (clear hP hM; go_simp; first | done | rfl)
        refine reg_value (fun _ => rfl) ?_ (fun g w' vs hM hE hP => ?_) ?_
        rotate_left
        · (clear hP hM; have ⟨z0, z1, z2, z3, z4, z5, z6, z7, z8⟩ := cs_e9 hE HFCT.out; go_simp; first | done | rfl)
        refine reg_value (fun _ => rfl) ?_ (fun g w' vs hM hE hP => ?_) ?_
        rotate_left
        · (clear hP hM; go_simp; first | done | rfl)
        refine reg_value (fun _ => rfl) ?_ (fun g w' vs hM hE hP => ?_) ?_
        rotate_left
        · (clear hP hM; go_simp; first | done | rfl)
        refine reg_value (fun _ => rfl) ?_ (fun g w' vs hM hE hP => ?_) ?_
        rotate_left
        · (clear hP hM; have ⟨z0, z1, z2, z3, z4, z5, z6, z7, z8⟩ := cs_e9 hE HFCT.out; go_simp; first | done | rfl)
        refine reg_const (fun _ => rfl) 44 ?_ (fun g w' vs hM hE hP => ?_) ?_
        rotate_left
        · (clear hP hM; have ⟨z0, z1, z2, z3, z4, z5, z6, z7, z8⟩ := cs_e9 hE HFCT.out; go_simp; first | done | exact ⟨rfl, rfl⟩ | rfl)
        apply Exists.intro
        refine And.intro (fun g w' vs hM hE hP => ?_) ?_
        · exact HCON.out w' hE
        refine reg_value (fun _ => rfl) ?_ (fun g w' vs hM hE hP => ?_) ?_
        rotate_left
        · (clear hP hM; go_simp; first | done | rfl)
        intro g w3 hE3 hF hQ
        simp only [List.drop_succ_cons, List.drop_zero, Act.put, List.setIfInBounds_toArray, List.set_cons_succ, List.set_cons_zero]
        have HE3 := Lib.hid (HE.out.trans hE3)
        clear hE3 hF hQ
        go_wp2_with fail
        go_roundw
        case rel => exact ⟨k + 1, sm + y, by go_num, rfl, by omega, Lib.hid (by rw [HF.out, HSM.out]; omega), HE3⟩
        case measure => simp [intOf]; omega
      · go_wp2_with fail
        go_ret
        refine ⟨?_, HE1.out.trans (HE2.out.trans HE.out)⟩
        have h := HSM.out
        rw [List.take_of_length_le (by omega)] at h
        rw [HV2.out, h]
        rfl
   | false =>
     obtain ⟨va, hva⟩ : ∃ va : Int, va = 0 := ⟨_, rfl⟩
     have HV0 := Lib.hid hva
     have HV2 : Hid (V = va + cntL z t.kids) := Lib.hid (by rw [HVE.out, hva]; rfl)
     have HVR : Hid (0 ≤ va ∧ va ≤ 1000) := Lib.hid (by omega)
     clear hva
     go_wp2_with fail
     go_loopw [5, 6] (fun sv kv wr => ∃ (k : Nat) (sm : Int), kv = .int .i64 k ∧ sv = .int .i64 sm ∧ k ≤ t.kids.length ∧ Hid (sm = va + cntL z (t.kids.take k)) ∧ Hid (Ext w2 wr)) (fun sv kv _ => t.kids.length - (intOf kv).toNat)
     case atStart => exact ⟨0, _, rfl, rfl, by omega, Lib.hid (by simp [cntL, HV0.out]), Lib.hid (Ext.refl _)⟩
     case round =>
      obtain ⟨k, sm, rfl, rfl, hk, HSM, HE⟩ := hrel
      obtain ⟨b3, z0, z1, z2, z3⟩ := cs_e5 HE.out ⟨b3, z0, z1, z2, z3⟩
      by_cases hlt : k < t.kids.length
      · obtain ⟨x, hx⟩ : ∃ x, t.kids[k]? = some x := ⟨_, List.getElem?_eq_getElem hlt⟩
        obtain ⟨xb, xo, xa, xc, rfl, x0, x1, x2, x3, hTx⟩ := (HT.out.ext HE.out).ts.at hx
        have hsx := sizeL_get hx
        have hcon := fun (w' : World) (hE : Ext wr w') => IH.out w' S' S a' xa cap' xc z x (by have := HK.out; have := HN.out; omega) (by omega) HZS.out ((HZ.out.ext HE.out).ext hE) (hTx.ext hE)
        have HF := Lib.hid (cntL_tk (z := z) hx)
        have hb1 := cntL_tk_hi z t.kids k
        have hb2 := cnt_hi z x
        have hb4 := cnt_lo z x
        have hb3 := HVR.out
        have hz := HK.out
        have hz2 := HN.out
        have hsm := HSM.out
        obtain ⟨y, hy⟩ : ∃ y, y = cnt z x := ⟨_, rfl⟩
        rw [← hy] at hcon HF hb2 hb4
        have hs1 : IntKind.i64.wrap (sm + y) = sm + y := by rw [IntKind.wrap_i64]; omega
        have HCON := Lib.hid hcon
        clear hx hsx hTx hcon hy hb1 hb2 hb3 hb4 hz hz2 hsm
        go_upto_region 7 with fail
        have HFCT := Lib.hid (And.intro b3 (And.intro z0 (And.intro z1 (And.intro z2 (And.intro z3 (And.intro x0 (And.intro x1 (And.intro x2 x3))))))))
        refine wp_region_reg 9 false (by kernel_rfl) (by kernel_rfl) ?_
        refine reg_value (fun _ => rfl) ?_ (fun g w' vs hM hE hP => ?_) ?_
        rotate_left
        · (clear hP hM; go_simp; first | done | rfl)
        refine reg_value (fun _ => rfl) ?_ (fun g w' vs hM hE hP => ?_) ?_
        rotate_left
        · (clear hP hM; have ⟨z0, z1, z2, z3, z4, z5, z6, z7, z8⟩ := cs_e9 hE HFCT.out; go_simp; first | done | rfl)
        refine reg_value (fun _ => rfl) ?_ (fun g w' vs hM hE hP => ?_) ?_
        rotate_left
        · (clear hP hM; go_simp; first | done | rfl)
        refine reg_value (fun _ => rfl) ?_ (fun g w' vs hM hE hP => ?_) ?_
        rotate_left
        · (clear hP hM; have ⟨z0, z1, z2, z3, z4, z5, z6, z7, z8⟩ := cs_e9 hE HFCT.out; go_simp; first | done | rfl)
        refine reg_value (fun _ => rfl) ?_ (fun g w' vs hM hE hP => ?_) ?_
        rotate_left
        · (clear hP hM; go_simp; first | done | rfl)
        refine reg_value (fun _ => rfl) ?_ (fun g w' vs hM hE hP => ?_) ?_
        rotate_left
        · (clear hP hM; go_simp; first | done | rfl)
        refine reg_value (fun _ => rfl) ?_ (fun g w' vs hM hE hP => ?_) ?_
        rotate_left
        · (clear hP hM; have ⟨z0, z1, z2, z3, z4, z5, z6, z7, z8⟩ := cs_e9 hE HFCT.out; go_simp; first | done | rfl)
        refine reg_const (fun _ => rfl) 44 ?_ (fun g w' vs hM hE hP => ?_) ?_
        rotate_left
        · (clear hP hM; have ⟨z0, z1, z2, z3, z4, z5, z6, z7, z8⟩ := cs_e9 hE HFCT.out; go_simp; first | done | exact ⟨rfl, rfl⟩ | rfl)
        apply Exists.intro
        refine And.intro (fun g w' vs hM hE hP => ?_) ?_
        · exact HCON.out w' hE
        refine reg_value (fun _ => rfl) ?_ (fun g w' vs hM hE hP => ?_) ?_
        rotate_left
        · (clear hP hM; go_simp; first | done | rfl)
        intro g w3 hE3 hF hQ
        simp only [List.drop_succ_cons, List.drop_zero, Act.put, List.setIfInBounds_toArray, List.set_cons_succ, List.set_cons_zero]
        have HE3 := Lib.hid (HE.out.trans hE3)
        clear hE3 hF hQ
        go_wp2_with fail
        go_roundw
        case rel => exact ⟨k + 1, sm + y, by go_num, rfl, by omega, Lib.hid (by rw [HF.out, HSM.out]; omega), HE3⟩
        case measure => simp [intOf]; omega
      · go_wp2_with fail
        go_ret
        refine ⟨?_, HE1.out.trans (HE2.out.trans HE.out)⟩
        have h := HSM.out
        rw [List.take_of_length_le (by omega)] at h
        rw [HV2.out, h]
        rfl
end Go.Proofs.YtkobikdkbpdjeaaGreatDoor
