/- Contracts: the reference's weighted order. -/
import Derived.Test.YtkobikdkbpdjeaaGreatDoorC7
import Derived.Test.YtkobikdkbpdjeaaGreatDoorH1
namespace Go.Proofs.YtkobikdkbpdjeaaGreatDoor
open Go Go.RowKit
set_option linter.unusedVariables false
set_option linter.unusedSimpArgs false

mutual
theorem vrs_all : ∀ t : Tm, vrs t = (allT t).filter (fun x => decide (x.kind = 1))
 | .mk k n s ks => by
   rw [vrs, allT, List.filter_cons, vrs_allL ks]
   by_cases h : k = 1
   · rw [if_pos h, if_pos (by simp [Tm.kind, h])]; rfl
   · rw [if_neg h, if_neg (by simp [Tm.kind, h])]; rfl
theorem vrs_allL : ∀ L : List Tm, vrsL L = (allL L).filter (fun x => decide (x.kind = 1))
 | [] => rfl
 | t :: L => by rw [vrsL, allL, List.filter_append, vrs_all t, vrs_allL L]
end
theorem cov_vars (s t : Tm) : cov s t = (varsT t).all (fun x => decide (cnt x t ≤ cnt x s)) := by
 unfold cov
 rw [vrs_all, Bool.eq_iff_iff, List.all_eq_true, List.all_eq_true]
 constructor
 · intro h x hx
   have := varsT_mem.1 hx
   exact h x (List.mem_filter.2 ⟨this.1, decide_eq_true this.2⟩)
 · intro h x hx
   have := List.mem_filter.1 hx
   exact h x (varsT_mem.2 ⟨this.1, of_decide_eq_true this.2⟩)
theorem all_tk {α : Type} {p : α → Bool} {L : List α} {k : Nat} {x : α} (h : L[k]? = some x) : (L.take (k + 1)).all p = ((L.take k).all p && p x) := by
 rw [List.take_add_one, h]; simp
theorem all_gt {α : Type} {p : α → Bool} {L : List α} {k : Nat} {x : α} (h : L[k]? = some x) (hp : p x = false) : L.all p = false := by
 rw [List.all_eq_false]
 exact ⟨x, List.mem_of_getElem? h, by simp [hp]⟩
theorem lexF_drop {f : Tm → Tm → Bool} {A B : List Tm} {k : Nat} {x y : Tm} (hA : A[k]? = some x) (hB : B[k]? = some y) : lexF f (A.drop k) (B.drop k) = if x = y then lexF f (A.drop (k + 1)) (B.drop (k + 1)) else f x y := by
 have hla := (List.getElem?_eq_some_iff.1 hA).1
 have hlb := (List.getElem?_eq_some_iff.1 hB).1
 rw [List.drop_eq_getElem_cons hla, List.drop_eq_getElem_cons hlb, (List.getElem?_eq_some_iff.1 hA).2, (List.getElem?_eq_some_iff.1 hB).2, lexF]

set_option maxRecDepth 100000 in
set_option maxHeartbeats 4000000 in
theorem RWeighted_any (n : Nat) : ∀ (w : World) (Sl Sw S S' : Nat → Prop) (v u a a' : Option Addr) (m vc q uc cap cap' : Nat) (l : List ByteArray) (W : List Int) (s t : Tm), sizeT s ≤ n → n ≤ 10000 → sizeT t ≤ 10000 → W.length = l.length → (∀ z ∈ W, 0 ≤ z ∧ z ≤ 1000) → knT l s = true → knT l t = true → (∀ c, S c → c < w.heap.size) → (∀ c, S' c → c < w.heap.size) → LsG elS w Sl (.slice v m vc) l → LsG elI w Sw (.slice u q uc) W → TmW w S a cap s → TmW w S' a' cap' t →
 Calls Tryz.prog 26 #[.slice v m vc, .slice u q uc, .agg #[.int .i64 s.kind, .string s.name, .int .i64 s.sort, .slice a s.kids.length cap], .agg #[.int .i64 t.kind, .string t.name, .int .i64 t.sort, .slice a' t.kids.length cap']] w fun e w' => e = .returned (.bool (hv l W s t)) ∧ Ext w w' := by
 induction n with
 | zero => intro w Sl Sw S S' v u a a' m vc q uc cap cap' l W s t hn; have := sizeT_kids s; omega
 | succ n ih =>
   intro w Sl Sw S S' v u a a' m vc q uc cap cap' l W s t hn hn2 ht6 hlen hrng hks hkt hS hS' hL hI hs ht
   have hsl := hs.len
   have hsc := hs.cap
   have htl := ht.len
   have htc := ht.cap
   unfold maxLen at hsc htc
   obtain ⟨rfl, hul, huc⟩ := hI.len
   obtain ⟨bx, w0, hbbx, hwbx, HBbx, hEbx⟩ := box_new w (.cells #[.int .i64 s.kind, .string s.name, .int .i64 s.sort, .slice a s.kids.length cap] 24)
   obtain ⟨cx, w1, hbcx, hwcx, HBcx, hEcx⟩ := box_new w0 (.cells #[.int .i64 t.kind, .string t.name, .int .i64 t.sort, .slice a' t.kids.length cap'] 24)
   have hcx1 : cx = bx + 1 := by rw [hbcx, hwbx, World.size_alloc, hbbx]
   have HBX := Lib.hid (hs_ext hEcx HBbx.out)
   have hE1 := hEbx.trans hEcx
   obtain ⟨b0, b1, b2, b3⟩ := box4r (HBX.out)
   obtain ⟨c0, c1, c2, c3⟩ := box4r (HBcx.out)
   have HL := Lib.hid (hL.ext hE1)
   have HI := Lib.hid (hI.ext hE1)
   have HS := Lib.hid (hs.ext hE1)
   have HT := Lib.hid (ht.ext hE1)
   have HSS : Hid (∀ c, S c → c < w1.heap.size) := Lib.hid (fun c h => Nat.lt_of_lt_of_le (hS c h) hE1.size)
   have HTS : Hid (∀ c, S' c → c < w1.heap.size) := Lib.hid (fun c h => Nat.lt_of_lt_of_le (hS' c h) hE1.size)
   have HE := Lib.hid hE1
   have HKS := Lib.hid hks
   have HKT := Lib.hid hkt
   have HLEN := Lib.hid hlen
   have HRNG := Lib.hid hrng
   have HN := Lib.hid hn
   have HT6 := Lib.hid ht6
   have IH := Lib.hid ih
   obtain ⟨V, hV⟩ : ∃ V, V = hv l W s t := ⟨_, rfl⟩
   rw [← hV]
   have HV0 := Lib.hid (hV.trans (hv_eq l W s t))
   have HSA := Lib.hid (RSame_any (w := w1) (by omega) (by omega) HS.out HT.out)
   have HVA := Lib.hid (fun (w' : World) (h : Ext w1 w') => RVars_any (w := w') (by omega) (fun c hc => Nat.lt_of_lt_of_le (HTS.out c hc) h.size) (HT.out.ext h))
   clear hV hL hI hs ht hE1 hEbx hEcx hks hkt hlen hrng hn ht6 ih hS hS' hul huc
   go_enter Tryz.func26, Tryz.ntmps26
   go_upto_region 1 with fail
   rw [← hwbx, ← hbbx]
   clear hwbx hbbx
   rw [← hwcx, ← hcx1]
   clear hwcx hcx1 hbcx
   by_cases hk1 : s.kind = 1
   · have HV1 : Hid (V = false) := Lib.hid (by rw [HV0.out, decide_eq_false (p := s.kind ≠ 1) (by simp [hk1])]; simp)
     rw [hk1] at b0
     clear hk1
     go_wp2_with fail
     go_ret
     exact ⟨by rw [HV1.out]; rfl, HE.out⟩
   · obtain ⟨y, hy⟩ : ∃ y, y = decide (s = t) := ⟨_, rfl⟩
     rw [← hy] at HSA
     cases y with
     | true =>
       have HV1 : Hid (V = false) := Lib.hid (by rw [HV0.out, decide_eq_false (p := s ≠ t) (by simp [of_decide_eq_true hy.symm])]; simp)
       clear hy
       go_wp2_with fail
       refine HSA.out.mono ?_
       rintro e w2 ⟨rfl, hE2⟩
       go_wp2_with fail
       go_ret
       exact ⟨by rw [HV1.out]; rfl, HE.out.trans hE2⟩
     | false =>
       have HV1 : Hid (V = (cov s t && (if wgt l W s ≠ wgt l W t then decide (wgt l W t < wgt l W s) else if t.kind = 1 then lightT l W s t else if strong l s t ≠ 0 then decide (0 < strong l s t) else lexF (hv l W) s.kids t.kids))) := Lib.hid (by
        rw [HV0.out, decide_eq_true (p := s.kind ≠ 1) hk1, decide_eq_true (p := s ≠ t) (of_decide_eq_false hy.symm)]
        simp)
       clear hy
       go_wp2_with fail
       refine HSA.out.mono ?_
       rintro e w2 ⟨rfl, hE2⟩
       obtain ⟨b0, b1, b2, b3, c0, c1, c2, c3⟩ := cs_e8 hE2 ⟨b0, b1, b2, b3, c0, c1, c2, c3⟩
       have HE2 := Lib.hid hE2
       clear hE2 HSA
       go_wp2_with fail
       refine (HVA.out _ HE2.out).mono ?_
       rintro e w3 ⟨r, rfl, hE3, hO3⟩
       obtain ⟨ra, rc, hr, hrl, hrc, -⟩ := id hO3.ls
       subst hr
       unfold maxLen at hrc
       obtain ⟨b0, b1, b2, b3, c0, c1, c2, c3⟩ := cs_e8 hE3 ⟨b0, b1, b2, b3, c0, c1, c2, c3⟩
       have HR := Lib.hid hO3.ls
       have HE3 := Lib.hid (HE2.out.trans hE3)
       have HCV := Lib.hid (cov_vars s t)
       have HVS : Hid (∀ x ∈ varsT t, sizeT x ≤ 10000) := Lib.hid (fun x hx => by have := varsT_size hx; have := HT6.out; omega)
       obtain ⟨G, hG⟩ : ∃ G, G = varsT t := ⟨_, rfl⟩
       rw [← hG] at HR hrl HCV HVS ⊢
       clear hE3 hO3 hG HVA hk1
       go_wp2_with fail
       go_loopw [8, 10] (fun z kv wr => ∃ k : Nat, kv = .int .i64 k ∧ k ≤ G.length ∧ Hid ((G.take k).all (fun x => decide (cnt x t ≤ cnt x s)) = true) ∧ Hid (Ext w3 wr)) (fun z kv _ => G.length - (intOf kv).toNat)
       case atStart => exact ⟨0, rfl, by omega, Lib.hid rfl, Lib.hid (Ext.refl _)⟩
       case round =>
        obtain ⟨k, rfl, hk, HJ, HEr⟩ := hrel
        have b0 := cs_ext HEr.out b0
        have b1 := cs_ext HEr.out b1
        have b2 := cs_ext HEr.out b2
        have b3 := cs_ext HEr.out b3
        have c0 := cs_ext HEr.out c0
        have c1 := cs_ext HEr.out c1
        have c2 := cs_ext HEr.out c2
        have c3 := cs_ext HEr.out c3
        by_cases hlt : k < G.length
        · obtain ⟨x, hx⟩ : ∃ x, G[k]? = some x := ⟨_, List.getElem?_eq_getElem hlt⟩
          obtain ⟨xb, xo, xa, xc, rfl, x0, x1, x2, x3, hTx⟩ := (HR.out.ext HEr.out).ts.at hx
          have hx6 := HVS.out x (List.mem_of_getElem? hx)
          have HC1 := Lib.hid (fun (w' : World) (h : Ext wr w') => RCount_any 10000 w' _ _ _ _ _ _ x s (by have := HN.out; omega) (by omega) (by omega) (hTx.ext h) ((HS.out.ext (HE3.out.trans HEr.out)).ext h))
          have HC2 := Lib.hid (fun (w' : World) (h : Ext wr w') => RCount_any 10000 w' _ _ _ _ _ _ x t (by have := HT6.out; omega) (by omega) (by omega) (hTx.ext h) ((HT.out.ext (HE3.out.trans HEr.out)).ext h))
          have HF := Lib.hid (all_tk (p := fun x => decide (cnt x t ≤ cnt x s)) hx)
          have HG := Lib.hid (all_gt (p := fun x => decide (cnt x t ≤ cnt x s)) hx)
          obtain ⟨d, hd⟩ : ∃ d, d = cnt x s := ⟨_, rfl⟩
          obtain ⟨f, hf⟩ : ∃ f, f = cnt x t := ⟨_, rfl⟩
          rw [← hd] at HC1
          rw [← hf] at HC2
          have HD := Lib.hid hd
          have HFF := Lib.hid hf
          clear hx hTx hx6 hd hf
          by_cases hlt2 : d < f
          · go_upto_region 7 with fail
            have HFCT := Lib.hid (And.intro x0 (And.intro x1 (And.intro x2 (And.intro x3 (And.intro b0 (And.intro b1 (And.intro b2 (And.intro b3 (And.intro c0 (And.intro c1 (And.intro c2 c3)))))))))))
            refine wp_region_reg 13 false (by kernel_rfl) (by kernel_rfl) ?_
            refine reg_value (fun _ => rfl) ?_ (fun g w' vs hM hE hP => ?_) ?_
            rotate_left
            · (clear hP hM; go_simp; first | done | rfl)
            refine reg_value (fun _ => rfl) ?_ (fun g w' vs hM hE hP => ?_) ?_
            rotate_left
            · (clear hP hM; go_simp; first | done | rfl)
            refine reg_value (fun _ => rfl) ?_ (fun g w' vs hM hE hP => ?_) ?_
            rotate_left
            · (clear hP hM; go_simp; first | done | rfl)
            refine reg_value (fun _ => rfl) ?_ (fun g w' vs hM hE hP => ?_) ?_
            rotate_left
            · (clear hP hM; have ⟨z0, z1, z2, z3, z4, z5, z6, z7, z8, z9, z10, z11⟩ := cs_e12 hE HFCT.out; go_simp; first | done | rfl)
            refine reg_value (fun _ => rfl) ?_ (fun g w' vs hM hE hP => ?_) ?_
            rotate_left
            · (clear hP hM; have ⟨z0, z1, z2, z3, z4, z5, z6, z7, z8, z9, z10, z11⟩ := cs_e12 hE HFCT.out; go_simp; first | done | rfl)
            refine reg_const (fun _ => rfl) 44 ?_ (fun g w' vs hM hE hP => ?_) ?_
            rotate_left
            · (clear hP hM; have ⟨z0, z1, z2, z3, z4, z5, z6, z7, z8, z9, z10, z11⟩ := cs_e12 hE HFCT.out; go_simp; first | done | exact ⟨rfl, rfl⟩ | rfl)
            apply Exists.intro
            refine And.intro (fun g w' vs hM hE hP => ?_) ?_
            · exact HC1.out w' hE
            refine reg_value (fun _ => rfl) ?_ (fun g w' vs hM hE hP => ?_) ?_
            rotate_left
            · (clear hP hM; go_simp; first | done | rfl)
            refine reg_value (fun _ => rfl) ?_ (fun g w' vs hM hE hP => ?_) ?_
            rotate_left
            · (clear hP hM; go_simp; first | done | rfl)
            refine reg_value (fun _ => rfl) ?_ (fun g w' vs hM hE hP => ?_) ?_
            rotate_left
            · (clear hP hM; go_simp; first | done | rfl)
            refine reg_value (fun _ => rfl) ?_ (fun g w' vs hM hE hP => ?_) ?_
            rotate_left
            · (clear hP hM; have ⟨z0, z1, z2, z3, z4, z5, z6, z7, z8, z9, z10, z11⟩ := cs_e12 hE HFCT.out; go_simp; first | done | rfl)
            refine reg_value (fun _ => rfl) ?_ (fun g w' vs hM hE hP => ?_) ?_
            rotate_left
            · (clear hP hM; have ⟨z0, z1, z2, z3, z4, z5, z6, z7, z8, z9, z10, z11⟩ := cs_e12 hE HFCT.out; go_simp; first | done | rfl)
            refine reg_const (fun _ => rfl) 44 ?_ (fun g w' vs hM hE hP => ?_) ?_
            rotate_left
            · (clear hP hM; have ⟨z0, z1, z2, z3, z4, z5, z6, z7, z8, z9, z10, z11⟩ := cs_e12 hE HFCT.out; go_simp; first | done | exact ⟨rfl, rfl⟩ | rfl)
            apply Exists.intro
            refine And.intro (fun g w' vs hM hE hP => ?_) ?_
            · exact HC2.out w' hE
            refine reg_value (fun _ => rfl) ?_ (fun g w' vs hM hE hP => ?_) ?_
            rotate_left
            · (clear hP hM; go_simp; first | done | rfl)
            intro g w4 hE4 hF hQ
            simp only [List.drop_succ_cons, List.drop_zero, Act.put, List.setIfInBounds_toArray, List.set_cons_succ, List.set_cons_zero]
            have HE4 := Lib.hid (HE3.out.trans (HEr.out.trans hE4))
            clear hE4 hF hQ
            have HV2 : Hid (V = false) := Lib.hid (by
             rw [HV1.out, HCV.out, HG.out (decide_eq_false (by rw [← HD.out, ← HFF.out]; omega))]; rfl)
            go_wp2_with fail
            go_ret
            exact ⟨by rw [HV2.out]; rfl, HE.out.trans HE4.out⟩
          · go_upto_region 7 with fail
            have HFCT := Lib.hid (And.intro x0 (And.intro x1 (And.intro x2 (And.intro x3 (And.intro b0 (And.intro b1 (And.intro b2 (And.intro b3 (And.intro c0 (And.intro c1 (And.intro c2 c3)))))))))))
            refine wp_region_reg 13 false (by kernel_rfl) (by kernel_rfl) ?_
            refine reg_value (fun _ => rfl) ?_ (fun g w' vs hM hE hP => ?_) ?_
            rotate_left
            · (clear hP hM; go_simp; first | done | rfl)
            refine reg_value (fun _ => rfl) ?_ (fun g w' vs hM hE hP => ?_) ?_
            rotate_left
            · (clear hP hM; go_simp; first | done | rfl)
            refine reg_value (fun _ => rfl) ?_ (fun g w' vs hM hE hP => ?_) ?_
            rotate_left
            · (clear hP hM; go_simp; first | done | rfl)
            refine reg_value (fun _ => rfl) ?_ (fun g w' vs hM hE hP => ?_) ?_
            rotate_left
            · (clear hP hM; have ⟨z0, z1, z2, z3, z4, z5, z6, z7, z8, z9, z10, z11⟩ := cs_e12 hE HFCT.out; go_simp; first | done | rfl)
            refine reg_value (fun _ => rfl) ?_ (fun g w' vs hM hE hP => ?_) ?_
            rotate_left
            · (clear hP hM; have ⟨z0, z1, z2, z3, z4, z5, z6, z7, z8, z9, z10, z11⟩ := cs_e12 hE HFCT.out; go_simp; first | done | rfl)
            refine reg_const (fun _ => rfl) 44 ?_ (fun g w' vs hM hE hP => ?_) ?_
            rotate_left
            · (clear hP hM; have ⟨z0, z1, z2, z3, z4, z5, z6, z7, z8, z9, z10, z11⟩ := cs_e12 hE HFCT.out; go_simp; first | done | exact ⟨rfl, rfl⟩ | rfl)
            apply Exists.intro
            refine And.intro (fun g w' vs hM hE hP => ?_) ?_
            · exact HC1.out w' hE
            refine reg_value (fun _ => rfl) ?_ (fun g w' vs hM hE hP => ?_) ?_
            rotate_left
            · (clear hP hM; go_simp; first | done | rfl)
            refine reg_value (fun _ => rfl) ?_ (fun g w' vs hM hE hP => ?_) ?_
            rotate_left
            · (clear hP hM; go_simp; first | done | rfl)
            refine reg_value (fun _ => rfl) ?_ (fun g w' vs hM hE hP => ?_) ?_
            rotate_left
            · (clear hP hM; go_simp; first | done | rfl)
            refine reg_value (fun _ => rfl) ?_ (fun g w' vs hM hE hP => ?_) ?_
            rotate_left
            · (clear hP hM; have ⟨z0, z1, z2, z3, z4, z5, z6, z7, z8, z9, z10, z11⟩ := cs_e12 hE HFCT.out; go_simp; first | done | rfl)
            refine reg_value (fun _ => rfl) ?_ (fun g w' vs hM hE hP => ?_) ?_
            rotate_left
            · (clear hP hM; have ⟨z0, z1, z2, z3, z4, z5, z6, z7, z8, z9, z10, z11⟩ := cs_e12 hE HFCT.out; go_simp; first | done | rfl)
            refine reg_const (fun _ => rfl) 44 ?_ (fun g w' vs hM hE hP => ?_) ?_
            rotate_left
            · (clear hP hM; have ⟨z0, z1, z2, z3, z4, z5, z6, z7, z8, z9, z10, z11⟩ := cs_e12 hE HFCT.out; go_simp; first | done | exact ⟨rfl, rfl⟩ | rfl)
            apply Exists.intro
            refine And.intro (fun g w' vs hM hE hP => ?_) ?_
            · exact HC2.out w' hE
            refine reg_value (fun _ => rfl) ?_ (fun g w' vs hM hE hP => ?_) ?_
            rotate_left
            · (clear hP hM; go_simp; first | done | rfl)
            intro g w4 hE4 hF hQ
            simp only [List.drop_succ_cons, List.drop_zero, Act.put, List.setIfInBounds_toArray, List.set_cons_succ, List.set_cons_zero]
            have HE4 := Lib.hid (HEr.out.trans hE4)
            clear hE4 hF hQ
            go_wp2_with fail
            go_roundw
            case rel => exact ⟨k + 1, by go_num, by omega, Lib.hid (by rw [HF.out, HJ.out, decide_eq_true (by rw [← HD.out, ← HFF.out]; omega)]; rfl), HE4⟩
            case measure => simp [intOf]; omega
        · have HV2 : Hid (V = (if wgt l W s ≠ wgt l W t then decide (wgt l W t < wgt l W s) else if t.kind = 1 then lightT l W s t else if strong l s t ≠ 0 then decide (0 < strong l s t) else lexF (hv l W) s.kids t.kids)) := Lib.hid (by
           have h := HJ.out
           rw [List.take_of_length_le (by omega)] at h
           rw [HV1.out, HCV.out, h]; rfl)
          have HE4 := Lib.hid (HE3.out.trans HEr.out)
          clear HCV HJ HVS
          go_upto_region 9 with fail
          have HW1 := Lib.hid (fun (w' : World) (h : Ext wr w') => RWeight_any 10000 w' Sl Sw S v u a m vc W.length uc cap l W s (by have := HN.out; omega) (by omega) HLEN.out HRNG.out HKS.out (HL.out.ext (HE4.out.trans h)) (HI.out.ext (HE4.out.trans h)) (HS.out.ext (HE4.out.trans h)))
          have HW2 := Lib.hid (fun (w' : World) (h : Ext wr w') => RWeight_any 10000 w' Sl Sw S' v u a' m vc W.length uc cap' l W t (by have := HT6.out; omega) (by omega) HLEN.out HRNG.out HKT.out (HL.out.ext (HE4.out.trans h)) (HI.out.ext (HE4.out.trans h)) (HT.out.ext (HE4.out.trans h)))
          obtain ⟨p, hp⟩ : ∃ p, p = wgt l W s := ⟨_, rfl⟩
          obtain ⟨o, ho⟩ : ∃ o, o = wgt l W t := ⟨_, rfl⟩
          rw [← hp] at HW1 HV2
          rw [← ho] at HW2 HV2
          clear hp ho
          have HFCT := Lib.hid (And.intro b0 (And.intro b1 (And.intro b2 (And.intro b3 (And.intro c0 (And.intro c1 (And.intro c2 c3)))))))
          refine wp_region_reg 10 false (by kernel_rfl) (by kernel_rfl) ?_
          refine reg_value (fun _ => rfl) ?_ (fun g w' vs hM hE hP => ?_) ?_
          rotate_left
          · (clear hP hM; have ⟨z0, z1, z2, z3, z4, z5, z6, z7⟩ := cs_e8 hE HFCT.out; go_simp; first | done | rfl)
          refine reg_value (fun _ => rfl) ?_ (fun g w' vs hM hE hP => ?_) ?_
          rotate_left
          · (clear hP hM; have ⟨z0, z1, z2, z3, z4, z5, z6, z7⟩ := cs_e8 hE HFCT.out; go_simp; first | done | rfl)
          refine reg_value (fun _ => rfl) ?_ (fun g w' vs hM hE hP => ?_) ?_
          rotate_left
          · (clear hP hM; have ⟨z0, z1, z2, z3, z4, z5, z6, z7⟩ := cs_e8 hE HFCT.out; go_simp; first | done | rfl)
          refine reg_const (fun _ => rfl) 45 ?_ (fun g w' vs hM hE hP => ?_) ?_
          rotate_left
          · (clear hP hM; have ⟨z0, z1, z2, z3, z4, z5, z6, z7⟩ := cs_e8 hE HFCT.out; go_simp; first | done | exact ⟨rfl, rfl⟩ | rfl)
          apply Exists.intro
          refine And.intro (fun g w' vs hM hE hP => ?_) ?_
          · exact HW1.out w' hE
          refine reg_value (fun _ => rfl) ?_ (fun g w' vs hM hE hP => ?_) ?_
          rotate_left
          · (clear hP hM; have ⟨z0, z1, z2, z3, z4, z5, z6, z7⟩ := cs_e8 hE HFCT.out; go_simp; first | done | rfl)
          refine reg_value (fun _ => rfl) ?_ (fun g w' vs hM hE hP => ?_) ?_
          rotate_left
          · (clear hP hM; have ⟨z0, z1, z2, z3, z4, z5, z6, z7⟩ := cs_e8 hE HFCT.out; go_simp; first | done | rfl)
          refine reg_value (fun _ => rfl) ?_ (fun g w' vs hM hE hP => ?_) ?_
          rotate_left
          · (clear hP hM; have ⟨z0, z1, z2, z3, z4, z5, z6, z7⟩ := cs_e8 hE HFCT.out; go_simp; first | done | rfl)
          refine reg_const (fun _ => rfl) 45 ?_ (fun g w' vs hM hE hP => ?_) ?_
          rotate_left
          · (clear hP hM; have ⟨z0, z1, z2, z3, z4, z5, z6, z7⟩ := cs_e8 hE HFCT.out; go_simp; first | done | exact ⟨rfl, rfl⟩ | rfl)
          apply Exists.intro
          refine And.intro (fun g w' vs hM hE hP => ?_) ?_
          · exact HW2.out w' hE
          refine reg_value (fun _ => rfl) ?_ (fun g w' vs hM hE hP => ?_) ?_
          rotate_left
          · (clear hP hM; have ⟨z0, z1, z2, z3, z4, z5, z6, z7⟩ := cs_e8 hE HFCT.out; go_simp; first | done | rfl)
          refine reg_value (fun _ => rfl) ?_ (fun g w' vs hM hE hP => ?_) ?_
          rotate_left
          · (clear hP hM; have ⟨z0, z1, z2, z3, z4, z5, z6, z7⟩ := cs_e8 hE HFCT.out; go_simp; first | done | rfl)
          intro g w5 hE5 hF hQ
          simp only [List.drop_succ_cons, List.drop_zero, Act.put, List.setIfInBounds_toArray, List.set_cons_succ, List.set_cons_zero]
          obtain ⟨b0, b1, b2, b3, c0, c1, c2, c3⟩ := cs_e8 hE5 ⟨b0, b1, b2, b3, c0, c1, c2, c3⟩
          have HE5 := Lib.hid (HE4.out.trans hE5)
          clear hE5 hF hQ HW1 HW2
          by_cases hpo : p = o
          · have HV3 : Hid (V = (if t.kind = 1 then lightT l W s t else if strong l s t ≠ 0 then decide (0 < strong l s t) else lexF (hv l W) s.kids t.kids)) := Lib.hid (by rw [HV2.out, if_neg (by simp [hpo])])
            have hpb : (p != o) = false := by simp [hpo]
            clear hpo
            by_cases hkt : t.kind = 1
            · have HV4 : Hid (V = lightT l W s t) := Lib.hid (by rw [HV3.out, if_pos hkt])
              have HLI := Lib.hid (fun (w' : World) (h : Ext w5 w') => RLight_any (w := w') (by have := HN.out; omega) HT6.out hkt HLEN.out HKS.out (HL.out.ext (HE5.out.trans h)) (HI.out.ext (HE5.out.trans h)) (fun c hc => Nat.lt_of_lt_of_le (HSS.out c hc) (HE5.out.trans h).size) (HS.out.ext (HE5.out.trans h)) (HT.out.ext (HE5.out.trans h)))
              obtain ⟨z, hz⟩ : ∃ z, z = lightT l W s t := ⟨_, rfl⟩
              rw [← hz] at HLI HV4
              have hkb : (t.kind == 1) = true := by simp [hkt]
              clear hz hkt
              go_wp2_with fail
              refine (HLI.out w5 (Ext.refl _)).mono ?_
              rintro e w6 ⟨rfl, hE6⟩
              go_wp2_with fail
              go_ret
              exact ⟨by rw [HV4.out]; rfl, HE.out.trans (HE5.out.trans hE6)⟩
            · have hkb : (t.kind == 1) = false := by simp [hkt]
              have HV4 : Hid (V = (if strong l s t ≠ 0 then decide (0 < strong l s t) else lexF (hv l W) s.kids t.kids)) := Lib.hid (by rw [HV3.out, if_neg hkt])
              have HST := Lib.hid (RStrong_any (w := w5) (HL.out.ext HE5.out) (HS.out.ext HE5.out) (HT.out.ext HE5.out))
              have HZ := Lib.hid (strong_zero (l := l) (s := s) (t := t))
              obtain ⟨d, hd⟩ : ∃ d, d = strong l s t := ⟨_, rfl⟩
              rw [← hd] at HST HV4 HZ
              clear hd hkt
              go_wp2_with fail
              refine HST.out.mono ?_
              rintro e w6 ⟨rfl, hE6⟩
              obtain ⟨b3, c3⟩ := cs_e2 hE6 ⟨b3, c3⟩
              have HE6 := Lib.hid (HE5.out.trans hE6)
              clear hE6 b0 b1 b2 c0 c1 c2 HST
              by_cases hd0 : d = 0
              · have HV5 : Hid (V = lexF (hv l W) s.kids t.kids) := Lib.hid (by rw [HV4.out, if_neg (by simp [hd0])])
                have hkl : s.kids.length = t.kids.length := (HZ.out hd0).2.2.2
                have hdb : (d != 0) = false := by simp [hd0]
                have HKL := Lib.hid hkl
                clear hd0 hkl
                go_wp2_with fail
                go_loopw [8, 14] (fun z kv wr => ∃ k : Nat, kv = .int .i64 k ∧ k ≤ s.kids.length ∧ Hid (V = lexF (hv l W) (s.kids.drop k) (t.kids.drop k)) ∧ Hid (Ext w6 wr)) (fun z kv _ => s.kids.length - (intOf kv).toNat)
                case atStart => exact ⟨0, rfl, by omega, Lib.hid (by simpa using HV5.out), Lib.hid (Ext.refl _)⟩
                case round =>
                 obtain ⟨k2, rfl, hk2, HJ2, HEs⟩ := hrel
                 have b3 := cs_ext HEs.out b3
                 have c3 := cs_ext HEs.out c3
                 by_cases hlt2 : k2 < s.kids.length
                 · have hlt3 : k2 < t.kids.length := by have := HKL.out; omega
                   obtain ⟨x, hx⟩ : ∃ x, s.kids[k2]? = some x := ⟨_, List.getElem?_eq_getElem hlt2⟩
                   obtain ⟨z, hz⟩ : ∃ z, t.kids[k2]? = some z := ⟨_, List.getElem?_eq_getElem hlt3⟩
                   obtain ⟨xb, xo, xa, xc, rfl, x0, x1, x2, x3, hTx⟩ := (HS.out.ext (HE6.out.trans HEs.out)).ts.at hx
                   obtain ⟨zb, zo, za, zc, rfl, z0, z1, z2, z3, hTz⟩ := (HT.out.ext (HE6.out.trans HEs.out)).ts.at hz
                   have hsx := size_kid (List.mem_of_getElem? hx)
                   have hsz := size_kid (List.mem_of_getElem? hz)
                   have HX := Lib.hid (lexF_drop (f := hv l W) hx hz)
                   have HQ := Lib.hid (fun (w' : World) (h : Ext wr w') => RSame_any (w := w') (s := x) (t := z) (by have := HN.out; omega) (by have := HT6.out; omega) (hTx.ext h) (hTz.ext h))
                   have HREC := Lib.hid (fun (w' : World) (h : Ext wr w') => IH.out w' Sl Sw S S' v u xa za m vc W.length uc xc zc l W x z (by have := HN.out; omega) (by omega) (by have := HT6.out; omega) HLEN.out HRNG.out (knT_kid HKS.out hx) (knT_kid HKT.out hz) (fun c hc => Nat.lt_of_lt_of_le (HSS.out c hc) (HE6.out.trans (HEs.out.trans h)).size) (fun c hc => Nat.lt_of_lt_of_le (HTS.out c hc) (HE6.out.trans (HEs.out.trans h)).size) (HL.out.ext (HE6.out.trans (HEs.out.trans h))) (HI.out.ext (HE6.out.trans (HEs.out.trans h))) (hTx.ext h) (hTz.ext h))
                   obtain ⟨y, hy⟩ : ∃ y, y = decide (x = z) := ⟨_, rfl⟩
                   obtain ⟨g0, hg0⟩ : ∃ g0, g0 = hv l W x z := ⟨_, rfl⟩
                   rw [← hy] at HQ
                   rw [← hg0] at HREC HX
                   have HY := Lib.hid hy
                   clear hx hz hTx hTz hsx hsz hy hg0
                   go_upto_region 20 with fail
                   have HFCT := Lib.hid (And.intro b3 (And.intro c3 (And.intro x0 (And.intro x1 (And.intro x2 (And.intro x3 (And.intro z0 (And.intro z1 (And.intro z2 z3)))))))))
                   refine wp_region_reg 12 false (by kernel_rfl) (by kernel_rfl) ?_
                   refine reg_value (fun _ => rfl) ?_ (fun g w' vs hM hE hP => ?_) ?_
                   rotate_left
                   · (clear hP hM; go_simp; first | done | rfl)
                   refine reg_value (fun _ => rfl) ?_ (fun g w' vs hM hE hP => ?_) ?_
                   rotate_left
                   · (clear hP hM; have ⟨z0, z1, z2, z3, z4, z5, z6, z7, z8, z9⟩ := cs_e10 hE HFCT.out; go_simp; first | done | rfl)
                   refine reg_value (fun _ => rfl) ?_ (fun g w' vs hM hE hP => ?_) ?_
                   rotate_left
                   · (clear hP hM; go_simp; first | done | rfl)
                   refine reg_value (fun _ => rfl) ?_ (fun g w' vs hM hE hP => ?_) ?_
                   rotate_left
                   · (clear hP hM; go_simp; first | done | rfl)
                   refine reg_value (fun _ => rfl) ?_ (fun g w' vs hM hE hP => ?_) ?_
                   rotate_left
                   · (clear hP hM; have ⟨z0, z1, z2, z3, z4, z5, z6, z7, z8, z9⟩ := cs_e10 hE HFCT.out; go_simp; first | done | rfl)
                   refine reg_value (fun _ => rfl) ?_ (fun g w' vs hM hE hP => ?_) ?_
                   rotate_left
                   · (clear hP hM; go_simp; first | done | rfl)
                   refine reg_value (fun _ => rfl) ?_ (fun g w' vs hM hE hP => ?_) ?_
                   rotate_left
                   · (clear hP hM; have ⟨z0, z1, z2, z3, z4, z5, z6, z7, z8, z9⟩ := cs_e10 hE HFCT.out; go_simp; first | done | rfl)
                   refine reg_value (fun _ => rfl) ?_ (fun g w' vs hM hE hP => ?_) ?_
                   rotate_left
                   · (clear hP hM; go_simp; first | done | rfl)
                   refine reg_value (fun _ => rfl) ?_ (fun g w' vs hM hE hP => ?_) ?_
                   rotate_left
                   · (clear hP hM; go_simp; first | done | rfl)
                   refine reg_value (fun _ => rfl) ?_ (fun g w' vs hM hE hP => ?_) ?_
                   rotate_left
                   · (clear hP hM; have ⟨z0, z1, z2, z3, z4, z5, z6, z7, z8, z9⟩ := cs_e10 hE HFCT.out; go_simp; first | done | rfl)
                   refine reg_const (fun _ => rfl) 15 ?_ (fun g w' vs hM hE hP => ?_) ?_
                   rotate_left
                   · (clear hP hM; have ⟨z0, z1, z2, z3, z4, z5, z6, z7, z8, z9⟩ := cs_e10 hE HFCT.out; go_simp; first | done | exact ⟨rfl, rfl⟩ | rfl)
                   apply Exists.intro
                   refine And.intro (fun g w' vs hM hE hP => ?_) ?_
                   · exact HQ.out w' hE
                   refine reg_value (fun _ => rfl) ?_ (fun g w' vs hM hE hP => ?_) ?_
                   rotate_left
                   · (clear hP hM; go_simp; first | done | rfl)
                   intro g w7 hE7 hF hQ
                   simp only [List.drop_succ_cons, List.drop_zero, Act.put, List.setIfInBounds_toArray, List.set_cons_succ, List.set_cons_zero]
                   obtain ⟨b3, c3, x0, x1, x2, x3, z0, z1, z2, z3⟩ := cs_e10 hE7 ⟨b3, c3, x0, x1, x2, x3, z0, z1, z2, z3⟩
                   have HE7 := Lib.hid (HEs.out.trans hE7)
                   have HE7r := Lib.hid hE7
                   clear hE7 hF hQ
                   cases y with
                   | true =>
                     go_wp2_with fail
                     go_roundw
                     case rel => exact ⟨k2 + 1, by go_num, by omega, Lib.hid (by rw [HJ2.out, HX.out, if_pos (of_decide_eq_true HY.out.symm)]), HE7⟩
                     case measure => simp [intOf]; omega
                   | false =>
                     have HV6 : Hid (V = g0) := Lib.hid (by rw [HJ2.out, HX.out, if_neg (of_decide_eq_false HY.out.symm)])
                     go_upto_region 21 with fail
                     have HFCT := Lib.hid (And.intro b3 (And.intro c3 (And.intro x0 (And.intro x1 (And.intro x2 (And.intro x3 (And.intro z0 (And.intro z1 (And.intro z2 z3)))))))))
                     refine wp_region_reg 13 false (by kernel_rfl) (by kernel_rfl) ?_
                     refine reg_value (fun _ => rfl) ?_ (fun g w' vs hM hE hP => ?_) ?_
                     rotate_left
                     · (clear hP hM; go_simp; first | done | rfl)
                     refine reg_value (fun _ => rfl) ?_ (fun g w' vs hM hE hP => ?_) ?_
                     rotate_left
                     · (clear hP hM; go_simp; first | done | rfl)
                     refine reg_value (fun _ => rfl) ?_ (fun g w' vs hM hE hP => ?_) ?_
                     rotate_left
                     · (clear hP hM; go_simp; first | done | rfl)
                     refine reg_value (fun _ => rfl) ?_ (fun g w' vs hM hE hP => ?_) ?_
                     rotate_left
                     · (clear hP hM; have ⟨z0, z1, z2, z3, z4, z5, z6, z7, z8, z9⟩ := cs_e10 hE HFCT.out; go_simp; first | done | rfl)
                     refine reg_value (fun _ => rfl) ?_ (fun g w' vs hM hE hP => ?_) ?_
                     rotate_left
                     · (clear hP hM; go_simp; first | done | rfl)
                     refine reg_value (fun _ => rfl) ?_ (fun g w' vs hM hE hP => ?_) ?_
                     rotate_left
                     · (clear hP hM; go_simp; first | done | rfl)
                     refine reg_value (fun _ => rfl) ?_ (fun g w' vs hM hE hP => ?_) ?_
                     rotate_left
                     · (clear hP hM; have ⟨z0, z1, z2, z3, z4, z5, z6, z7, z8, z9⟩ := cs_e10 hE HFCT.out; go_simp; first | done | rfl)
                     refine reg_value (fun _ => rfl) ?_ (fun g w' vs hM hE hP => ?_) ?_
                     rotate_left
                     · (clear hP hM; go_simp; first | done | rfl)
                     refine reg_value (fun _ => rfl) ?_ (fun g w' vs hM hE hP => ?_) ?_
                     rotate_left
                     · (clear hP hM; have ⟨z0, z1, z2, z3, z4, z5, z6, z7, z8, z9⟩ := cs_e10 hE HFCT.out; go_simp; first | done | rfl)
                     refine reg_value (fun _ => rfl) ?_ (fun g w' vs hM hE hP => ?_) ?_
                     rotate_left
                     · (clear hP hM; go_simp; first | done | rfl)
                     refine reg_value (fun _ => rfl) ?_ (fun g w' vs hM hE hP => ?_) ?_
                     rotate_left
                     · (clear hP hM; go_simp; first | done | rfl)
                     refine reg_value (fun _ => rfl) ?_ (fun g w' vs hM hE hP => ?_) ?_
                     rotate_left
                     · (clear hP hM; have ⟨z0, z1, z2, z3, z4, z5, z6, z7, z8, z9⟩ := cs_e10 hE HFCT.out; go_simp; first | done | rfl)
                     refine reg_const (fun _ => rfl) 26 ?_ (fun g w' vs hM hE hP => ?_) ?_
                     rotate_left
                     · (clear hP hM; have ⟨z0, z1, z2, z3, z4, z5, z6, z7, z8, z9⟩ := cs_e10 hE HFCT.out; go_simp; first | done | exact ⟨rfl, rfl⟩ | rfl)
                     apply Exists.intro
                     refine And.intro (fun g w' vs hM hE hP => ?_) ?_
                     · exact HREC.out w' (HE7r.out.trans hE)
                     intro g w8 hE8 hF hQ
                     simp only [List.drop_succ_cons, List.drop_zero, Act.put, List.setIfInBounds_toArray, List.set_cons_succ, List.set_cons_zero]
                     have HE8 := Lib.hid (HE6.out.trans (HE7.out.trans hE8))
                     clear hE8 hF hQ
                     go_wp2_with fail
                     go_ret
                     exact ⟨by rw [HV6.out]; rfl, HE.out.trans HE8.out⟩
                 · have HV6 : Hid (V = false) := Lib.hid (by
                    rw [HJ2.out, List.drop_of_length_le (by omega)]
                    cases t.kids.drop k2 <;> rfl)
                   go_wp2_with fail
                   go_ret
                   exact ⟨by rw [HV6.out]; rfl, HE.out.trans (HE6.out.trans HEs.out)⟩
              · have HV5 : Hid (V = decide (0 < d)) := Lib.hid (by rw [HV4.out, if_pos hd0])
                have hdb : (d != 0) = true := by simp [hd0]
                clear hd0
                go_wp2_with fail
                go_ret
                exact ⟨by rw [HV5.out]; rfl, HE.out.trans HE6.out⟩
          · have HV3 : Hid (V = decide (o < p)) := Lib.hid (by rw [HV2.out, if_pos hpo])
            have hpb : (p != o) = true := by simp [hpo]
            clear hpo
            go_wp2_with fail
            go_ret
            exact ⟨by rw [HV3.out]; rfl, HE.out.trans HE5.out⟩
end Go.Proofs.YtkobikdkbpdjeaaGreatDoor
