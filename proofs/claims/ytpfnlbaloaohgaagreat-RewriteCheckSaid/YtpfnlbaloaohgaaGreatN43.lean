/- Contracts: the reference's Match. -/
import Derived.Test.YtpfnlbaloaohgaaGreatH14
import Derived.Test.YtpfnlbaloaohgaaGreatH1
namespace Go.Proofs.YtpfnlbaloaohgaaGreat
open Go Go.RowKit
set_option linter.unusedVariables false
set_option linter.unusedSimpArgs false

mutual
theorem prT_sizes : ∀ (p t : Tm) (l : List (Tm × Tm)), prT p t = some l → ∀ b ∈ l, sizeT b.1 ≤ sizeT p ∧ sizeT b.2 ≤ sizeT t
 | .mk k n s q, t, l, h, b, hb => by
   rw [prT] at h
   split at h
   · split at h
     · cases h; simp at hb; subst hb; exact ⟨Nat.le_refl _, Nat.le_refl _⟩
     · cases h
   · split at h
     · split at h
       · cases h; simp at hb
       · cases h
     · split at h
       · have h1 := prL_sizes q t.kids l h b hb
         have h2 := sizeT_kids t
         rw [sizeT]
         omega
       · cases h
theorem prL_sizes : ∀ (p t : List Tm) (l : List (Tm × Tm)), prL p t = some l → ∀ b ∈ l, sizeT b.1 ≤ sizeL p ∧ sizeT b.2 ≤ sizeL t
 | [], _, l, h, b, hb => by rw [prL] at h; cases h; simp at hb
 | x :: p, y :: t, l, h, b, hb => by
   rw [prL] at h
   rw [sizeL, sizeL]
   split at h
   · rename_i u hu
     split at h
     · rename_i v hv
       cases h
       rcases List.mem_append.1 hb with hb | hb
       · have := prT_sizes x y u hu b hb; omega
       · have := prL_sizes p t v hv b hb; omega
     · cases h
   · cases h
 | _ :: _, [], l, h, b, hb => by rw [prL] at h; cases h
end
theorem consP_step {l : List (Tm × Tm)} {i : Nat} {x : Tm × Tm} (hx : l[i]? = some x) (h : consP (l.take i)) (hn : ∀ b ∈ l.take i, x.1 = b.1 → x.2 = b.2) : consP (l.take (i + 1)) := by
 intro a ha b hb e
 rw [List.take_add_one, hx] at ha hb
 have ha := List.mem_append.1 ha
 have hb := List.mem_append.1 hb
 simp only [Option.toList_some, List.mem_singleton] at ha hb
 rcases ha with ha | ha
 · rcases hb with hb | hb
   · exact h a ha b hb e
   · rw [hb] at e ⊢; exact (hn a ha e.symm).symm
 · rcases hb with hb | hb
   · rw [ha] at e ⊢; exact hn b hb e
   · rw [ha, hb]
theorem take_step {α : Type} {l : List α} {P : α → Prop} {k : Nat} {y : α} (hy : l[k]? = some y) (h : ∀ b ∈ l.take k, P b) (hn : P y) : ∀ b ∈ l.take (k + 1), P b := by
 intro b hb
 rw [List.take_add_one, hy] at hb
 rcases List.mem_append.1 hb with hb | hb
 · exact h b hb
 · simp at hb; subst hb; exact hn

set_option maxRecDepth 100000 in
set_option maxHeartbeats 16000000 in
theorem RMatch_any {w : World} {S S' : Nat → Prop} {a a' : Option Addr} {cap cap' : Nat} {p t : Tm} (hp6 : sizeT p ≤ 100000) (ht6 : sizeT t ≤ 100000) (hT : TmW w S a cap p) (hT' : TmW w S' a' cap' t) :
 Calls Tryz.prog 45 #[.agg #[.int .i64 p.kind, .string p.name, .int .i64 p.sort, .slice a p.kids.length cap], .agg #[.int .i64 t.kind, .string t.name, .int .i64 t.sort, .slice a' t.kids.length cap']] w fun e w' => ∃ u, e = .returned (.tuple #[u, .int .i64 (matchP p t).1]) ∧ Ext w w' ∧ LsG elP w' (fun c => (S c ∧ c < w.heap.size) ∨ (S' c ∧ c < w.heap.size) ∨ w.heap.size ≤ c) u (matchP p t).2 := by
 obtain ⟨bx, w1, hbbx, hwbx, HBbx, hEbx⟩ := box_new w (.cells #[.int .i64 p.kind, .string p.name, .int .i64 p.sort, .slice a p.kids.length cap] 25)
 obtain ⟨cx, w2, hbcx, hwcx, HBcx, hEcx⟩ := box_new w1 (.cells #[.int .i64 t.kind, .string t.name, .int .i64 t.sort, .slice a' t.kids.length cap'] 25)
 have hE := hEbx.trans hEcx
 have hs1 : w1.heap.size = bx + 1 := by rw [hwbx, hbbx, World.size_alloc]
 rw [hs1] at hbcx
 obtain ⟨b0, b1, b2, b3⟩ := box4r (hs_ext hEcx HBbx.out)
 obtain ⟨c0, c1, c2, c3⟩ := box4r (HBcx.out)
 have HBX := Lib.hid (hs_ext hEcx HBbx.out)
 have HBC := Lib.hid HBcx.out
 obtain ⟨S0, hS0⟩ : ∃ S0 : Nat → Prop, S0 = fun c => (S c ∧ c < w.heap.size) ∨ (S' c ∧ c < w.heap.size) := ⟨_, rfl⟩
 have HT := Lib.hid (((hT.wide (S' := S0) (fun c h h2 => by rw [hS0]; exact .inl ⟨h, h2⟩))).ext hE)
 have HT' := Lib.hid (((hT'.wide (S' := S0) (fun c h h2 => by rw [hS0]; exact .inr ⟨h, h2⟩))).ext hE)
 have HS0 : Hid (∀ c, S0 c → c < w.heap.size) := Lib.hid (fun c h => by rw [hS0] at h; rcases h with h | h <;> exact h.2)
 have HSF : Hid (∀ c, (S0 c ∨ w.heap.size ≤ c) → ((S c ∧ c < w.heap.size) ∨ (S' c ∧ c < w.heap.size) ∨ w.heap.size ≤ c)) := Lib.hid (fun c h => by rw [hS0] at h; rcases h with (h | h) | h <;> simp [h])
 clear hS0
 have HE := Lib.hid hE
 have HZ6 := Lib.hid (And.intro hp6 ht6)
 have HCV := Lib.hid (rboth_any (by omega) (by omega) HT.out HT'.out)
 obtain ⟨R, hR⟩ : ∃ R, R = matchP p t := ⟨_, rfl⟩
 rw [← hR]
 have HR := Lib.hid hR
 obtain ⟨o, ho⟩ : ∃ o, o = orE (validT p) (validT t) := ⟨_, rfl⟩
 rw [← ho] at HCV
 have HO := Lib.hid ho
 clear hT hT' hE hEbx hEcx hs1 hR ho hp6 ht6
 go_enter Tryz.func45, Tryz.ntmps45
 go_upto_region 1 with fail
 rw [← hwbx, ← hbbx, ← hwcx, ← hbcx]
 clear hwbx hbbx hwcx hbcx
 go_wp2_with fail
 refine HCV.out.mono ?_
 rintro e w3 ⟨rfl, hE3⟩
 obtain ⟨b0, b1, b2, b3, c0, c1, c2, c3⟩ := cs_e8 hE3 ⟨b0, b1, b2, b3, c0, c1, c2, c3⟩
 have HBX := Lib.hid (hs_ext hE3 HBX.out)
 have HBC := Lib.hid (hs_ext hE3 HBC.out)
 have HE := Lib.hid (HE.out.trans hE3)
 have HT := Lib.hid (HT.out.ext hE3)
 have HT' := Lib.hid (HT'.out.ext hE3)
 clear hE3
 by_cases h0 : o = 0
 · have e0 : (o != 0) = false := by simp [h0]
   have HVP : Hid (validT p = 0 ∧ validT t = 0) := Lib.hid (orE_split (by rw [← HO.out]; exact h0))
   have HRP : Hid (R = match prT p t with | none => (11, []) | some l => if consP l then (0, bindF (firstB l) (varsT p)) else (11, [])) := Lib.hid (by rw [HR.out]; exact matchP_pr HVP.out.1 HVP.out.2)
   have HE3W : Hid (w.heap.size ≤ w3.heap.size) := Lib.hid HE.out.size
   have HC4 := Lib.hid (rmatch_any (sizeT p) w3 w3.heap.size S0 a a' cap cap' p t (.slice none 0 0) [] (fun c h => Nat.lt_of_lt_of_le (HS0.out c h) HE.out.size) (Nat.le_refl _) (by have := HZ6.out; simp; omega) HZ6.out.2 (Nat.le_refl _) HT.out HT'.out OwnG.nil)
   have HPV := Lib.hid (fun l (h : prT p t = some l) => (prT_vars p t l (validT_iff.1 HVP.out.1).1 h).2)
   have HPH := Lib.hid (fun l (h : prT p t = some l) x (hx : x ∈ varsT p) => prT_has (validT_iff.1 HVP.out.1).1 h hx)
   have HPS := Lib.hid (fun l (h : prT p t = some l) => prT_sizes p t l h)
   obtain ⟨P, hP⟩ : ∃ P, P = prT p t := ⟨_, rfl⟩
   rw [← hP] at HRP HC4 HPV HPH HPS
   clear h0 hP
   go_wp2_with fail
   refine HC4.out.mono ?_
   rintro e w4 ⟨v4, rfl, L4, o4, h4, h4l, h4r, h4x⟩
   obtain ⟨va, vc, rfl, hvl, hvc⟩ := o4.slice
   unfold maxLen at hvc
   have hE4 : Ext w3 w4 := h4x w3 (Ext.refl _) (Nat.le_refl _)
   obtain ⟨b0, b1, b2, b3, c0, c1, c2, c3⟩ := cs_e8 hE4 ⟨b0, b1, b2, b3, c0, c1, c2, c3⟩
   have HBX := Lib.hid (hs_ext hE4 HBX.out)
   have HBC := Lib.hid (hs_ext hE4 HBC.out)
   have HE := Lib.hid (HE.out.trans hE4)
   have HT := Lib.hid (HT.out.ext hE4)
   have HT' := Lib.hid (HT'.out.ext hE4)
   cases P with
   | none =>
     have HF : Hid (R = (11, [])) := Lib.hid HRP.out
     clear o4 h4 h4l h4r h4x hE4
     go_wp2_with fail
     go_ret2
     exact ⟨.slice none 0 0, by rw [HF.out]; rfl, HE.out, by rw [HF.out]; exact LsG.nil⟩
   | some l =>
     have hl4 : L4 = l := by simpa using h4 l rfl
     subst hl4
     have HF0 : Hid (R = if consP L4 then (0, bindF (firstB L4) (varsT p)) else (11, [])) := Lib.hid HRP.out
     have HL4 := Lib.hid (o4.ls (S' := fun c => S0 c ∨ w.heap.size ≤ c) (fun c h _ => .inl h) (fun g _ h _ => .inr (Nat.le_trans HE3W.out h)))
     have HP4 := Lib.hid (HPV.out L4 rfl)
     have HH4 := Lib.hid (HPH.out L4 rfl)
     have hll : L4.length ≤ 100000 := by have := HZ6.out; simp at h4l; omega
     have HSZ4 : Hid (∀ q ∈ L4, sizeT q.1 ≤ 100000 ∧ sizeT q.2 ≤ 100000) := Lib.hid (fun q hq => by have := HPS.out L4 rfl q hq; have := HZ6.out; omega)
     clear o4 h4 h4l h4r h4x hE4
     go_wp2_with fail
     go_loopw [9] (fun iv wr => Hid (∃ i : Nat, iv = .int .i64 i ∧ i ≤ L4.length ∧ consP (L4.take i) ∧ Ext w4 wr)) (fun iv _ => L4.length - (intOf iv).toNat)
     case atStart => exact Lib.hid ⟨0, rfl, by omega, fun a ha => by simp at ha, Ext.refl _⟩
     case round =>
      obtain ⟨i, rfl, hi, hc, hE5⟩ := hrel.out
      have HC := Lib.hid hc
      have HE5 := Lib.hid hE5
      obtain ⟨b0, b1, b2, b3, c0, c1, c2, c3⟩ := cs_e8 hE5 ⟨b0, b1, b2, b3, c0, c1, c2, c3⟩
      clear hrel hc hE5
      by_cases hlt : i < L4.length
      · obtain ⟨x, hx⟩ : ∃ x, L4[i]? = some x := ⟨_, List.getElem?_eq_getElem hlt⟩
        have HX := Lib.hid hx
        clear hx
        go_wp2_with fail
        go_loopw [10] (fun kv wr => Hid (∃ k : Nat, kv = .int .i64 k ∧ k ≤ i ∧ (∀ b ∈ L4.take k, x.1 = b.1 → x.2 = b.2) ∧ Ext w4 wr)) (fun kv _ => i - (intOf kv).toNat)
        case atStart => exact Lib.hid ⟨0, rfl, by omega, fun b hb => by simp at hb, HE5.out⟩
        case round =>
         obtain ⟨k, rfl, hk, hn, hE6⟩ := hrel.out
         have HN := Lib.hid hn
         have HE6 := Lib.hid hE6
         clear hrel hn hE6 b0 b1 b2 b3 c0 c1 c2 c3
         by_cases hlk : k < i
         · obtain ⟨y, hy⟩ : ∃ y, L4[k]? = some y := ⟨_, List.getElem?_eq_getElem (by omega)⟩
           obtain ⟨lb, lo, xa, xc, ya, yc, rfl, ⟨x0, x1, x2, x3⟩, ⟨x4, x5, x6, x7⟩, hX1, hX2⟩ := (HL4.out.ext HE6.out).pAt HX.out
           obtain ⟨lb', lo', za, zc, ua, uc, e', ⟨y0, y1, y2, y3⟩, ⟨y4, y5, y6, y7⟩, hY1, hY2⟩ := (HL4.out.ext HE6.out).pAt hy
           cases e'
           have hkl : k < L4.length := by omega
           have HS1 := Lib.hid (fun w' (hE : Ext wr w') => RSame_any (w := w') (by have := (HSZ4.out x (List.mem_of_getElem? HX.out)).1; omega) (by have := (HSZ4.out y (List.mem_of_getElem? hy)).1; omega) (hX1.ext hE) (hY1.ext hE))
           have HS2 := Lib.hid (fun w' (hE : Ext wr w') => RSame_any (w := w') (by have := (HSZ4.out x (List.mem_of_getElem? HX.out)).2; omega) (by have := (HSZ4.out y (List.mem_of_getElem? hy)).2; omega) (hX2.ext hE) (hY2.ext hE))
           have HY := Lib.hid hy
           have hiz0 : (0 : Int) ≤ (i : Int) := by omega
           have hkz0 : (0 : Int) ≤ (k : Int) := by omega
           have hiz1 : (i : Int) < (L4.length : Int) := by omega
           have hkz1 : (k : Int) < (L4.length : Int) := by omega
           obtain ⟨f1, hf1⟩ : ∃ f, f = decide (x.1 = y.1) := ⟨_, rfl⟩
           obtain ⟨f2, hf2⟩ : ∃ f, f = decide (x.2 = y.2) := ⟨_, rfl⟩
           rw [← hf1] at HS1
           rw [← hf2] at HS2
           have HF1 := Lib.hid hf1
           have HF2 := Lib.hid hf2
           clear hX1 hX2 hY1 hY2 hy hf1 hf2
           cases f1 with
           | false =>
             have HN2 : Hid (∀ b ∈ L4.take (k + 1), x.1 = b.1 → x.2 = b.2) := Lib.hid (take_step HY.out HN.out (fun e => by have h := HF1.out; rw [e] at h; simp at h))
             go_upto_region 13 with fail
             have HFCT := Lib.hid (And.intro x0 (And.intro x1 (And.intro x2 (And.intro x3 (And.intro x4 (And.intro x5 (And.intro x6 (And.intro x7 (And.intro y0 (And.intro y1 (And.intro y2 (And.intro y3 (And.intro y4 (And.intro y5 (And.intro y6 y7)))))))))))))))
             refine wp_region_reg 25 false (by kernel_rfl) (by kernel_rfl) ?_
             refine reg_value (fun _ => rfl) ?_ (fun g w' vs hM hE hP => ?_) ?_
             rotate_left
             · (clear hP hM; go_simp; first | done | rfl)
             refine reg_value (fun _ => rfl) ?_ (fun g w' vs hM hE hP => ?_) ?_
             rotate_left
             · (clear hP hM; go_simp; first | done | rfl)
             refine reg_value (fun _ => rfl) ?_ (fun g w' vs hM hE hP => ?_) ?_
             rotate_left
             · (clear hP hM; go_simp; first | done | rfl)
             refine reg_value (fun _ => rfl) ?_ (fun g w' vs hM hE hP => ?_) ?_
             rotate_left
             · (clear hP hM; go_simp; first | done | rfl)
             refine reg_value (fun _ => rfl) ?_ (fun g w' vs hM hE hP => ?_) ?_
             rotate_left
             · (clear hP hM; have ⟨z0, z1, z2, z3, z4, z5, z6, z7, z8, z9, z10, z11, z12, z13, z14, z15⟩ := cs_e16 hE HFCT.out; go_simp; first | done | rfl)
             refine reg_value (fun _ => rfl) ?_ (fun g w' vs hM hE hP => ?_) ?_
             rotate_left
             · (clear hP hM; go_simp; first | done | rfl)
             refine reg_value (fun _ => rfl) ?_ (fun g w' vs hM hE hP => ?_) ?_
             rotate_left
             · (clear hP hM; go_simp; first | done | rfl)
             refine reg_value (fun _ => rfl) ?_ (fun g w' vs hM hE hP => ?_) ?_
             rotate_left
             · (clear hP hM; go_simp; first | done | rfl)
             refine reg_value (fun _ => rfl) ?_ (fun g w' vs hM hE hP => ?_) ?_
             rotate_left
             · (clear hP hM; go_simp; first | done | rfl)
             refine reg_value (fun _ => rfl) ?_ (fun g w' vs hM hE hP => ?_) ?_
             rotate_left
             · (clear hP hM; have ⟨z0, z1, z2, z3, z4, z5, z6, z7, z8, z9, z10, z11, z12, z13, z14, z15⟩ := cs_e16 hE HFCT.out; go_simp; first | done | rfl)
             refine reg_const (fun _ => rfl) 20 ?_ (fun g w' vs hM hE hP => ?_) ?_
             rotate_left
             · (clear hP hM; have ⟨z0, z1, z2, z3, z4, z5, z6, z7, z8, z9, z10, z11, z12, z13, z14, z15⟩ := cs_e16 hE HFCT.out; go_simp; first | done | exact ⟨rfl, rfl⟩ | rfl)
             apply Exists.intro
             refine And.intro (fun g w' vs hM hE hP => ?_) ?_
             · exact HS1.out w' hE
             refine reg_value (fun _ => rfl) ?_ (fun g w' vs hM hE hP => ?_) ?_
             rotate_left
             · (clear hP hM; go_simp; first | done | rfl)
             refine reg_skip (fun g => by go_simp; first | done | (intro h; cases h) | simp [undef]) ?_
             refine reg_skip (fun g => by go_simp; first | done | (intro h; cases h) | simp [undef]) ?_
             refine reg_skip (fun g => by go_simp; first | done | (intro h; cases h) | simp [undef]) ?_
             refine reg_skip (fun g => by go_simp; first | done | (intro h; cases h) | simp [undef]) ?_
             refine reg_skip (fun g => by go_simp; first | done | (intro h; cases h) | simp [undef]) ?_
             refine reg_skip (fun g => by go_simp; first | done | (intro h; cases h) | simp [undef]) ?_
             refine reg_skip (fun g => by go_simp; first | done | (intro h; cases h) | simp [undef]) ?_
             refine reg_skip (fun g => by go_simp; first | done | (intro h; cases h) | simp [undef]) ?_
             refine reg_skip (fun g => by go_simp; first | done | (intro h; cases h) | simp [undef]) ?_
             refine reg_skip (fun g => by go_simp; first | done | (intro h; cases h) | simp [undef]) ?_
             refine reg_skip (fun g => by go_simp; first | done | (intro h; cases h) | simp [undef]) ?_
             refine reg_skip (fun g => by go_simp; first | done | (intro h; cases h) | simp [undef]) ?_
             refine reg_value (fun _ => rfl) ?_ (fun g w' vs hM hE hP => ?_) ?_
             rotate_left
             · (clear hP hM; go_simp; first | done | rfl)
             intro g wz hE2 hF hQ
             simp only [List.drop_succ_cons, List.drop_zero, Act.put, List.setIfInBounds_toArray, List.set_cons_succ, List.set_cons_zero]
             have HE6 := Lib.hid (HE6.out.trans hE2)
             clear hE2 hF hQ
             go_wp2_with fail
             go_roundw
             case rel => exact Lib.hid ⟨k + 1, by go_num, by omega, HN2.out, HE6.out⟩
             case measure => simp [intOf]; omega
           | true =>
             cases f2 with
             | true =>
               have HN2 : Hid (∀ b ∈ L4.take (k + 1), x.1 = b.1 → x.2 = b.2) := Lib.hid (take_step HY.out HN.out (fun _ => of_decide_eq_true HF2.out.symm))
               go_upto_region 13 with fail
               have HFCT := Lib.hid (And.intro x0 (And.intro x1 (And.intro x2 (And.intro x3 (And.intro x4 (And.intro x5 (And.intro x6 (And.intro x7 (And.intro y0 (And.intro y1 (And.intro y2 (And.intro y3 (And.intro y4 (And.intro y5 (And.intro y6 y7)))))))))))))))
               refine wp_region_reg 25 false (by kernel_rfl) (by kernel_rfl) ?_
               refine reg_value (fun _ => rfl) ?_ (fun g w' vs hM hE hP => ?_) ?_
               rotate_left
               · (clear hP hM; go_simp; first | done | rfl)
               refine reg_value (fun _ => rfl) ?_ (fun g w' vs hM hE hP => ?_) ?_
               rotate_left
               · (clear hP hM; go_simp; first | done | rfl)
               refine reg_value (fun _ => rfl) ?_ (fun g w' vs hM hE hP => ?_) ?_
               rotate_left
               · (clear hP hM; go_simp; first | done | rfl)
               refine reg_value (fun _ => rfl) ?_ (fun g w' vs hM hE hP => ?_) ?_
               rotate_left
               · (clear hP hM; go_simp; first | done | rfl)
               refine reg_value (fun _ => rfl) ?_ (fun g w' vs hM hE hP => ?_) ?_
               rotate_left
               · (clear hP hM; have ⟨z0, z1, z2, z3, z4, z5, z6, z7, z8, z9, z10, z11, z12, z13, z14, z15⟩ := cs_e16 hE HFCT.out; go_simp; first | done | rfl)
               refine reg_value (fun _ => rfl) ?_ (fun g w' vs hM hE hP => ?_) ?_
               rotate_left
               · (clear hP hM; go_simp; first | done | rfl)
               refine reg_value (fun _ => rfl) ?_ (fun g w' vs hM hE hP => ?_) ?_
               rotate_left
               · (clear hP hM; go_simp; first | done | rfl)
               refine reg_value (fun _ => rfl) ?_ (fun g w' vs hM hE hP => ?_) ?_
               rotate_left
               · (clear hP hM; go_simp; first | done | rfl)
               refine reg_value (fun _ => rfl) ?_ (fun g w' vs hM hE hP => ?_) ?_
               rotate_left
               · (clear hP hM; go_simp; first | done | rfl)
               refine reg_value (fun _ => rfl) ?_ (fun g w' vs hM hE hP => ?_) ?_
               rotate_left
               · (clear hP hM; have ⟨z0, z1, z2, z3, z4, z5, z6, z7, z8, z9, z10, z11, z12, z13, z14, z15⟩ := cs_e16 hE HFCT.out; go_simp; first | done | rfl)
               refine reg_const (fun _ => rfl) 20 ?_ (fun g w' vs hM hE hP => ?_) ?_
               rotate_left
               · (clear hP hM; have ⟨z0, z1, z2, z3, z4, z5, z6, z7, z8, z9, z10, z11, z12, z13, z14, z15⟩ := cs_e16 hE HFCT.out; go_simp; first | done | exact ⟨rfl, rfl⟩ | rfl)
               apply Exists.intro
               refine And.intro (fun g w' vs hM hE hP => ?_) ?_
               · exact HS1.out w' hE
               refine reg_value (fun _ => rfl) ?_ (fun g w' vs hM hE hP => ?_) ?_
               rotate_left
               · (clear hP hM; go_simp; first | done | rfl)
               refine reg_value (fun g => by go_simp) ?_ (fun g w' vs hM hE hP => ?_) ?_
               rotate_left
               · (clear hP hM; go_simp; first | done | rfl)
               refine reg_value (fun g => by go_simp) ?_ (fun g w' vs hM hE hP => ?_) ?_
               rotate_left
               · (clear hP hM; go_simp; first | done | rfl)
               refine reg_value (fun g => by go_simp) ?_ (fun g w' vs hM hE hP => ?_) ?_
               rotate_left
               · (clear hP hM; go_simp; first | done | rfl)
               refine reg_value (fun g => by go_simp) ?_ (fun g w' vs hM hE hP => ?_) ?_
               rotate_left
               · (clear hP hM; go_simp; first | done | rfl)
               refine reg_value (fun g => by go_simp) ?_ (fun g w' vs hM hE hP => ?_) ?_
               rotate_left
               · (clear hP hM; have ⟨z0, z1, z2, z3, z4, z5, z6, z7, z8, z9, z10, z11, z12, z13, z14, z15⟩ := cs_e16 hE HFCT.out; go_simp; first | done | rfl)
               refine reg_value (fun g => by go_simp) ?_ (fun g w' vs hM hE hP => ?_) ?_
               rotate_left
               · (clear hP hM; go_simp; first | done | rfl)
               refine reg_value (fun g => by go_simp) ?_ (fun g w' vs hM hE hP => ?_) ?_
               rotate_left
               · (clear hP hM; go_simp; first | done | rfl)
               refine reg_value (fun g => by go_simp) ?_ (fun g w' vs hM hE hP => ?_) ?_
               rotate_left
               · (clear hP hM; go_simp; first | done | rfl)
               refine reg_value (fun g => by go_simp) ?_ (fun g w' vs hM hE hP => ?_) ?_
               rotate_left
               · (clear hP hM; go_simp; first | done | rfl)
               refine reg_value (fun g => by go_simp) ?_ (fun g w' vs hM hE hP => ?_) ?_
               rotate_left
               · (clear hP hM; have ⟨z0, z1, z2, z3, z4, z5, z6, z7, z8, z9, z10, z11, z12, z13, z14, z15⟩ := cs_e16 hE HFCT.out; go_simp; first | done | rfl)
               refine reg_const (fun g => by go_simp) 20 ?_ (fun g w' vs hM hE hP => ?_) ?_
               rotate_left
               · (clear hP hM; have ⟨z0, z1, z2, z3, z4, z5, z6, z7, z8, z9, z10, z11, z12, z13, z14, z15⟩ := cs_e16 hE HFCT.out; go_simp; first | done | exact ⟨rfl, rfl⟩ | rfl)
               apply Exists.intro
               refine And.intro (fun g w' vs hM hE hP => ?_) ?_
               · exact HS2.out w' hE
               refine reg_value (fun g => by go_simp) ?_ (fun g w' vs hM hE hP => ?_) ?_
               rotate_left
               · (clear hP hM; go_simp; first | done | rfl)
               refine reg_value (fun _ => rfl) ?_ (fun g w' vs hM hE hP => ?_) ?_
               rotate_left
               · (clear hP hM; go_simp; first | done | rfl)
               intro g wz hE2 hF hQ
               simp only [List.drop_succ_cons, List.drop_zero, Act.put, List.setIfInBounds_toArray, List.set_cons_succ, List.set_cons_zero]
               have HE6 := Lib.hid (HE6.out.trans hE2)
               clear hE2 hF hQ
               go_wp2_with fail
               go_roundw
               case rel => exact Lib.hid ⟨k + 1, by go_num, by omega, HN2.out, HE6.out⟩
               case measure => simp [intOf]; omega
             | false =>
               have HF : Hid (R = (11, [])) := Lib.hid (by
                rw [HF0.out, if_neg]
                intro h
                have h1 := h x (List.mem_of_getElem? HX.out) y (List.mem_of_getElem? HY.out) (of_decide_eq_true HF1.out.symm)
                have h2 := HF2.out
                rw [h1] at h2
                simp at h2)
               go_upto_region 13 with fail
               have HFCT := Lib.hid (And.intro x0 (And.intro x1 (And.intro x2 (And.intro x3 (And.intro x4 (And.intro x5 (And.intro x6 (And.intro x7 (And.intro y0 (And.intro y1 (And.intro y2 (And.intro y3 (And.intro y4 (And.intro y5 (And.intro y6 y7)))))))))))))))
               refine wp_region_reg 25 false (by kernel_rfl) (by kernel_rfl) ?_
               refine reg_value (fun _ => rfl) ?_ (fun g w' vs hM hE hP => ?_) ?_
               rotate_left
               · (clear hP hM; go_simp; first | done | rfl)
               refine reg_value (fun _ => rfl) ?_ (fun g w' vs hM hE hP => ?_) ?_
               rotate_left
               · (clear hP hM; go_simp; first | done | rfl)
               refine reg_value (fun _ => rfl) ?_ (fun g w' vs hM hE hP => ?_) ?_
               rotate_left
               · (clear hP hM; go_simp; first | done | rfl)
               refine reg_value (fun _ => rfl) ?_ (fun g w' vs hM hE hP => ?_) ?_
               rotate_left
               · (clear hP hM; go_simp; first | done | rfl)
               refine reg_value (fun _ => rfl) ?_ (fun g w' vs hM hE hP => ?_) ?_
               rotate_left
               · (clear hP hM; have ⟨z0, z1, z2, z3, z4, z5, z6, z7, z8, z9, z10, z11, z12, z13, z14, z15⟩ := cs_e16 hE HFCT.out; go_simp; first | done | rfl)
               refine reg_value (fun _ => rfl) ?_ (fun g w' vs hM hE hP => ?_) ?_
               rotate_left
               · (clear hP hM; go_simp; first | done | rfl)
               refine reg_value (fun _ => rfl) ?_ (fun g w' vs hM hE hP => ?_) ?_
               rotate_left
               · (clear hP hM; go_simp; first | done | rfl)
               refine reg_value (fun _ => rfl) ?_ (fun g w' vs hM hE hP => ?_) ?_
               rotate_left
               · (clear hP hM; go_simp; first | done | rfl)
               refine reg_value (fun _ => rfl) ?_ (fun g w' vs hM hE hP => ?_) ?_
               rotate_left
               · (clear hP hM; go_simp; first | done | rfl)
               refine reg_value (fun _ => rfl) ?_ (fun g w' vs hM hE hP => ?_) ?_
               rotate_left
               · (clear hP hM; have ⟨z0, z1, z2, z3, z4, z5, z6, z7, z8, z9, z10, z11, z12, z13, z14, z15⟩ := cs_e16 hE HFCT.out; go_simp; first | done | rfl)
               refine reg_const (fun _ => rfl) 20 ?_ (fun g w' vs hM hE hP => ?_) ?_
               rotate_left
               · (clear hP hM; have ⟨z0, z1, z2, z3, z4, z5, z6, z7, z8, z9, z10, z11, z12, z13, z14, z15⟩ := cs_e16 hE HFCT.out; go_simp; first | done | exact ⟨rfl, rfl⟩ | rfl)
               apply Exists.intro
               refine And.intro (fun g w' vs hM hE hP => ?_) ?_
               · exact HS1.out w' hE
               refine reg_value (fun _ => rfl) ?_ (fun g w' vs hM hE hP => ?_) ?_
               rotate_left
               · (clear hP hM; go_simp; first | done | rfl)
               refine reg_value (fun g => by go_simp) ?_ (fun g w' vs hM hE hP => ?_) ?_
               rotate_left
               · (clear hP hM; go_simp; first | done | rfl)
               refine reg_value (fun g => by go_simp) ?_ (fun g w' vs hM hE hP => ?_) ?_
               rotate_left
               · (clear hP hM; go_simp; first | done | rfl)
               refine reg_value (fun g => by go_simp) ?_ (fun g w' vs hM hE hP => ?_) ?_
               rotate_left
               · (clear hP hM; go_simp; first | done | rfl)
               refine reg_value (fun g => by go_simp) ?_ (fun g w' vs hM hE hP => ?_) ?_
               rotate_left
               · (clear hP hM; go_simp; first | done | rfl)
               refine reg_value (fun g => by go_simp) ?_ (fun g w' vs hM hE hP => ?_) ?_
               rotate_left
               · (clear hP hM; have ⟨z0, z1, z2, z3, z4, z5, z6, z7, z8, z9, z10, z11, z12, z13, z14, z15⟩ := cs_e16 hE HFCT.out; go_simp; first | done | rfl)
               refine reg_value (fun g => by go_simp) ?_ (fun g w' vs hM hE hP => ?_) ?_
               rotate_left
               · (clear hP hM; go_simp; first | done | rfl)
               refine reg_value (fun g => by go_simp) ?_ (fun g w' vs hM hE hP => ?_) ?_
               rotate_left
               · (clear hP hM; go_simp; first | done | rfl)
               refine reg_value (fun g => by go_simp) ?_ (fun g w' vs hM hE hP => ?_) ?_
               rotate_left
               · (clear hP hM; go_simp; first | done | rfl)
               refine reg_value (fun g => by go_simp) ?_ (fun g w' vs hM hE hP => ?_) ?_
               rotate_left
               · (clear hP hM; go_simp; first | done | rfl)
               refine reg_value (fun g => by go_simp) ?_ (fun g w' vs hM hE hP => ?_) ?_
               rotate_left
               · (clear hP hM; have ⟨z0, z1, z2, z3, z4, z5, z6, z7, z8, z9, z10, z11, z12, z13, z14, z15⟩ := cs_e16 hE HFCT.out; go_simp; first | done | rfl)
               refine reg_const (fun g => by go_simp) 20 ?_ (fun g w' vs hM hE hP => ?_) ?_
               rotate_left
               · (clear hP hM; have ⟨z0, z1, z2, z3, z4, z5, z6, z7, z8, z9, z10, z11, z12, z13, z14, z15⟩ := cs_e16 hE HFCT.out; go_simp; first | done | exact ⟨rfl, rfl⟩ | rfl)
               apply Exists.intro
               refine And.intro (fun g w' vs hM hE hP => ?_) ?_
               · exact HS2.out w' hE
               refine reg_value (fun g => by go_simp) ?_ (fun g w' vs hM hE hP => ?_) ?_
               rotate_left
               · (clear hP hM; go_simp; first | done | rfl)
               refine reg_value (fun _ => rfl) ?_ (fun g w' vs hM hE hP => ?_) ?_
               rotate_left
               · (clear hP hM; go_simp; first | done | rfl)
               intro g wz hE2 hF hQ
               simp only [List.drop_succ_cons, List.drop_zero, Act.put, List.setIfInBounds_toArray, List.set_cons_succ, List.set_cons_zero]
               have HE6 := Lib.hid (HE6.out.trans hE2)
               clear hE2 hF hQ
               go_wp2_with fail
               go_ret2
               exact ⟨.slice none 0 0, by rw [HF.out]; rfl, HE.out.trans HE6.out, by rw [HF.out]; exact LsG.nil⟩
         · have hkk : k = i := by omega
           subst hkk
           have HC2 : Hid (consP (L4.take (k + 1))) := Lib.hid (consP_step HX.out HC.out HN.out)
           have hkz : ¬ ((k : Int) < (k : Int)) := by omega
           go_wp2_with fail
           go_roundw
           case rel => exact Lib.hid ⟨k + 1, by go_num, by omega, HC2.out, HE6.out⟩
           case measure => simp [intOf]; omega
      · have hCL : consP L4 := by have h := HC.out; rw [List.take_of_length_le (by omega)] at h; exact h
        have HF : Hid (R = (0, bindF (firstB L4) (varsT p))) := Lib.hid (by rw [HF0.out, if_pos hCL])
        have hiz : ¬ ((i : Int) < (L4.length : Int)) := by omega
        have HE3 := Lib.hid (HE.out.trans HE5.out)
        have HPZ : Hid (sizeT p ≤ 400) := Lib.hid (validT_iff.1 HVP.out.1).2.1
        have HWR : Hid (w.heap.size ≤ wr.heap.size) := Lib.hid HE3.out.size
        have HTW := Lib.hid (HT.out.ext HE5.out)
        have HCX := Lib.hid (RVars_any (w := wr) (t := p) (by have := HPZ.out; omega) (fun c h => Nat.lt_of_lt_of_le (HS0.out c h) HWR.out) HTW.out)
        have HVZ : Hid ((varsT p).length ≤ 400 ∧ ∀ x ∈ varsT p, sizeT x ≤ 400) := Lib.hid ⟨Nat.le_trans (varsT_len p) HPZ.out, fun x hx => Nat.le_trans (varsT_size hx) HPZ.out⟩
        have HVH := Lib.hid (fun x (hx : x ∈ varsT p) => HH4.out x hx)
        have HL5 := Lib.hid (HL4.out.ext HE5.out)
        obtain ⟨V, hV⟩ : ∃ V, V = varsT p := ⟨_, rfl⟩
        rw [← hV] at HF HCX HVZ HVH
        clear hCL hV
        go_wp2_with fail
        refine HCX.out.mono ?_
        rintro e w6 ⟨u, rfl, hE6, hO6⟩
        obtain ⟨va', vc', hv, -, hvc'⟩ := hO6.g.slice
        subst hv
        unfold maxLen at hvc'
        have HV6 := Lib.hid (hO6.g.ls (S' := fun c => (S0 c ∨ w.heap.size ≤ c) ∧ c < w6.heap.size) (fun c h h2 => ⟨.inl h, h2⟩) (fun g _ h h2 => ⟨.inr (Nat.le_trans HWR.out h), h2⟩))
        have HL6 := Lib.hid ((HL5.out.ext hE6).wide (S' := fun c => (S0 c ∨ w.heap.size ≤ c) ∧ c < w6.heap.size) (fun c h h2 => ⟨h, h2⟩))
        have HW6 : Hid (w.heap.size ≤ w6.heap.size) := Lib.hid (Nat.le_trans HWR.out hE6.size)
        have HE6 := Lib.hid (HE3.out.trans hE6)
        have hVl := HVZ.out.1
        clear hE6 hO6 b0 b1 b2 b3 c0 c1 c2 c3
        go_wp2_with fail
        go_loopw [11, 13] (fun ov iv wr => Hid (∃ i : Nat, iv = .int .i64 i ∧ i ≤ V.length ∧ OwnG elP wr w6.heap.size 96 (fun c => (S0 c ∨ w.heap.size ≤ c) ∧ c < w6.heap.size) ov (bindF (firstB L4) (V.take i)) ∧ Ext w6 wr)) (fun _ iv _ => V.length - (intOf iv).toNat)
        case atStart => exact Lib.hid ⟨0, rfl, by omega, OwnG.nil, Ext.refl _⟩
        case round =>
         obtain ⟨i, rfl, hi, hO, hE⟩ := hrel.out
         obtain ⟨O, hO9⟩ : ∃ O, O = bindF (firstB L4) (V.take i) := ⟨_, rfl⟩
         rw [← hO9] at hO
         have hOl : O.length ≤ 400 := by rw [hO9]; have := bindF_len (firstB L4) (V.take i); rw [List.length_take] at this; omega
         have HOD := Lib.hid hO9
         have HO7 := Lib.hid hO
         have HE7 := Lib.hid hE
         obtain ⟨oa, oc, hov, -, hoc⟩ := hO.slice
         subst hov
         unfold maxLen at hoc
         clear hrel hO hE hO9
         by_cases hlt : i < V.length
         · obtain ⟨x, hx⟩ : ∃ x, V[i]? = some x := ⟨_, List.getElem?_eq_getElem hlt⟩
           have HXM := Lib.hid (HVH.out x (List.mem_of_getElem? hx))
           have HXZ := Lib.hid (HVZ.out.2 x (List.mem_of_getElem? hx))
           have HBT := Lib.hid (bindF_take (F := firstB L4) hx)
           rw [← HOD.out] at HBT
           have HX := Lib.hid hx
           clear hx
           go_wp2_with fail
           go_loopw [11, 14] (fun ov kv wr => Hid (∃ k : Nat, kv = .int .i64 k ∧ ov = .slice oa O.length oc ∧ k ≤ L4.length ∧ (∀ c ∈ L4.take k, c.1 ≠ x) ∧ OwnG elP wr w6.heap.size 96 (fun c => (S0 c ∨ w.heap.size ≤ c) ∧ c < w6.heap.size) (.slice oa O.length oc) O ∧ Ext w6 wr)) (fun _ kv _ => L4.length - (intOf kv).toNat)
           case atStart => exact Lib.hid ⟨0, rfl, rfl, by omega, fun c hc => by simp at hc, HO7.out, HE7.out⟩
           case round =>
            obtain ⟨k, rfl, rfl, hk, hn, hO, hE⟩ := hrel.out
            have HN := Lib.hid hn
            have HO8 := Lib.hid hO
            have HE8 := Lib.hid hE
            clear hrel hn hO hE
            by_cases hlk : k < L4.length
            · obtain ⟨y, hy⟩ : ∃ y, L4[k]? = some y := ⟨_, List.getElem?_eq_getElem hlk⟩
              obtain ⟨vb, vo, xa, xc, rfl, x0, x1, x2, x3, hX⟩ := (HV6.out.ext HE8.out).tAt HX.out
              obtain ⟨lb, lo, ya, yc, za, zc, rfl, ⟨y0, y1, y2, y3⟩, ⟨y4, y5, y6, y7⟩, hY1, hY2⟩ := (HL6.out.ext HE8.out).pAt hy
              have HS1 := Lib.hid (fun w' (hE : Ext wr w') => RSame_any (w := w') (by have := (HSZ4.out y (List.mem_of_getElem? hy)).1; omega) (by have := HXZ.out; omega) (hY1.ext hE) (hX.ext hE))
              have HS2 := Lib.hid (fun w' (hE : Ext wr w') => RSame_any (w := w') (by have := (HSZ4.out y (List.mem_of_getElem? hy)).2; omega) (by have := HXZ.out; omega) (hY2.ext hE) (hX.ext hE))
              have HY := Lib.hid hy
              have HTX := Lib.hid hX
              have HTY := Lib.hid hY2
              have hiz0 : (0 : Int) ≤ (i : Int) := by omega
              have hkz0 : (0 : Int) ≤ (k : Int) := by omega
              have hiz1 : (i : Int) < (V.length : Int) := by omega
              have hkz1 : (k : Int) < (L4.length : Int) := by omega
              obtain ⟨f1, hf1⟩ : ∃ f, f = decide (y.1 = x) := ⟨_, rfl⟩
              obtain ⟨f2, hf2⟩ : ∃ f, f = decide (y.2 = x) := ⟨_, rfl⟩
              rw [← hf1] at HS1
              rw [← hf2] at HS2
              have HF1 := Lib.hid hf1
              have HF2 := Lib.hid hf2
              clear hX hY1 hY2 hy hf1 hf2
              go_upto_region 23 with fail
              have HFCT := Lib.hid (And.intro x0 (And.intro x1 (And.intro x2 (And.intro x3 (And.intro y0 (And.intro y1 (And.intro y2 (And.intro y3 (And.intro y4 (And.intro y5 (And.intro y6 y7)))))))))))
              refine wp_region_reg 10 false (by kernel_rfl) (by kernel_rfl) ?_
              refine reg_value (fun _ => rfl) ?_ (fun g w' vs hM hE hP => ?_) ?_
              rotate_left
              · (clear hP hM; go_simp; first | done | rfl)
              refine reg_value (fun _ => rfl) ?_ (fun g w' vs hM hE hP => ?_) ?_
              rotate_left
              · (clear hP hM; go_simp; first | done | rfl)
              refine reg_value (fun _ => rfl) ?_ (fun g w' vs hM hE hP => ?_) ?_
              rotate_left
              · (clear hP hM; go_simp; first | done | rfl)
              refine reg_value (fun _ => rfl) ?_ (fun g w' vs hM hE hP => ?_) ?_
              rotate_left
              · (clear hP hM; go_simp; first | done | rfl)
              refine reg_value (fun _ => rfl) ?_ (fun g w' vs hM hE hP => ?_) ?_
              rotate_left
              · (clear hP hM; have ⟨z0, z1, z2, z3, z4, z5, z6, z7, z8, z9, z10, z11⟩ := cs_e12 hE HFCT.out; go_simp; first | done | rfl)
              refine reg_value (fun _ => rfl) ?_ (fun g w' vs hM hE hP => ?_) ?_
              rotate_left
              · (clear hP hM; go_simp; first | done | rfl)
              refine reg_value (fun _ => rfl) ?_ (fun g w' vs hM hE hP => ?_) ?_
              rotate_left
              · (clear hP hM; go_simp; first | done | rfl)
              refine reg_value (fun _ => rfl) ?_ (fun g w' vs hM hE hP => ?_) ?_
              rotate_left
              · (clear hP hM; go_simp; first | done | rfl)
              refine reg_value (fun _ => rfl) ?_ (fun g w' vs hM hE hP => ?_) ?_
              rotate_left
              · (clear hP hM; have ⟨z0, z1, z2, z3, z4, z5, z6, z7, z8, z9, z10, z11⟩ := cs_e12 hE HFCT.out; go_simp; first | done | rfl)
              refine reg_const (fun _ => rfl) 20 ?_ (fun g w' vs hM hE hP => ?_) ?_
              rotate_left
              · (clear hP hM; have ⟨z0, z1, z2, z3, z4, z5, z6, z7, z8, z9, z10, z11⟩ := cs_e12 hE HFCT.out; go_simp; first | done | exact ⟨rfl, rfl⟩ | rfl)
              apply Exists.intro
              refine And.intro (fun g w' vs hM hE hP => ?_) ?_
              · exact HS1.out w' hE
              intro g wz hE2 hF hQ
              simp only [List.drop_succ_cons, List.drop_zero, Act.put, List.setIfInBounds_toArray, List.set_cons_succ, List.set_cons_zero]
              obtain ⟨x0, x1, x2, x3, y0, y1, y2, y3, y4, y5, y6, y7⟩ := cs_e12 hE2 ⟨x0, x1, x2, x3, y0, y1, y2, y3, y4, y5, y6, y7⟩
              have HO8 := Lib.hid (HO8.out.ext hE2)
              have HE8 := Lib.hid (HE8.out.trans hE2)
              have HTX := Lib.hid (HTX.out.ext hE2)
              have HTY := Lib.hid (HTY.out.ext hE2)
              have HEA := Lib.hid hE2
              clear hE2 hF hQ
              cases f1 with
              | false =>
                have HN2 : Hid (∀ c ∈ L4.take (k + 1), c.1 ≠ x) := Lib.hid (take_step HY.out HN.out (fun e => by have h := HF1.out; rw [e] at h; simp at h))
                go_wp2_with fail
                go_roundw
                case rel => exact Lib.hid ⟨k + 1, by go_num, rfl, by omega, HN2.out, HO8.out, HE8.out⟩
                case measure => simp [intOf]; omega
              | true =>
                have HFB : Hid ((firstB L4 (x.name, x.sort)).getD zeroTm = y.2) := Lib.hid (by rw [firstB_get HP4.out HY.out (of_decide_eq_true HF1.out.symm) HN.out]; rfl)
                go_upto_region 24 with fail
                have HFCT := Lib.hid (And.intro x0 (And.intro x1 (And.intro x2 (And.intro x3 (And.intro y0 (And.intro y1 (And.intro y2 (And.intro y3 (And.intro y4 (And.intro y5 (And.intro y6 y7)))))))))))
                refine wp_region_reg 11 false (by kernel_rfl) (by kernel_rfl) ?_
                refine reg_value (fun _ => rfl) ?_ (fun g w' vs hM hE hP => ?_) ?_
                rotate_left
                · (clear hP hM; go_simp; first | done | rfl)
                refine reg_value (fun _ => rfl) ?_ (fun g w' vs hM hE hP => ?_) ?_
                rotate_left
                · (clear hP hM; go_simp; first | done | rfl)
                refine reg_value (fun _ => rfl) ?_ (fun g w' vs hM hE hP => ?_) ?_
                rotate_left
                · (clear hP hM; go_simp; first | done | rfl)
                refine reg_value (fun _ => rfl) ?_ (fun g w' vs hM hE hP => ?_) ?_
                rotate_left
                · (clear hP hM; go_simp; first | done | rfl)
                refine reg_value (fun _ => rfl) ?_ (fun g w' vs hM hE hP => ?_) ?_
                rotate_left
                · (clear hP hM; have ⟨z0, z1, z2, z3, z4, z5, z6, z7, z8, z9, z10, z11⟩ := cs_e12 hE HFCT.out; go_simp; first | done | rfl)
                refine reg_value (fun _ => rfl) ?_ (fun g w' vs hM hE hP => ?_) ?_
                rotate_left
                · (clear hP hM; go_simp; first | done | rfl)
                refine reg_value (fun _ => rfl) ?_ (fun g w' vs hM hE hP => ?_) ?_
                rotate_left
                · (clear hP hM; go_simp; first | done | rfl)
                refine reg_value (fun _ => rfl) ?_ (fun g w' vs hM hE hP => ?_) ?_
                rotate_left
                · (clear hP hM; go_simp; first | done | rfl)
                refine reg_value (fun _ => rfl) ?_ (fun g w' vs hM hE hP => ?_) ?_
                rotate_left
                · (clear hP hM; have ⟨z0, z1, z2, z3, z4, z5, z6, z7, z8, z9, z10, z11⟩ := cs_e12 hE HFCT.out; go_simp; first | done | rfl)
                refine reg_const (fun _ => rfl) 20 ?_ (fun g w' vs hM hE hP => ?_) ?_
                rotate_left
                · (clear hP hM; have ⟨z0, z1, z2, z3, z4, z5, z6, z7, z8, z9, z10, z11⟩ := cs_e12 hE HFCT.out; go_simp; first | done | exact ⟨rfl, rfl⟩ | rfl)
                apply Exists.intro
                refine And.intro (fun g w' vs hM hE hP => ?_) ?_
                · exact HS2.out w' (HEA.out.trans hE)
                refine reg_value (fun _ => rfl) ?_ (fun g w' vs hM hE hP => ?_) ?_
                rotate_left
                · (clear hP hM; go_simp; first | done | rfl)
                intro g wz hE2 hF hQ
                simp only [List.drop_succ_cons, List.drop_zero, Act.put, List.setIfInBounds_toArray, List.set_cons_succ, List.set_cons_zero]
                obtain ⟨x0, x1, x2, x3, y0, y1, y2, y3, y4, y5, y6, y7⟩ := cs_e12 hE2 ⟨x0, x1, x2, x3, y0, y1, y2, y3, y4, y5, y6, y7⟩
                have HO8 := Lib.hid (HO8.out.ext hE2)
                have HE8 := Lib.hid (HE8.out.trans hE2)
                have HTX := Lib.hid (HTX.out.ext hE2)
                have HTY := Lib.hid (HTY.out.ext hE2)
                clear hE2 hF hQ
                cases f2 with
                | true =>
                  have HB2 : Hid (bindF (firstB L4) (V.take (i + 1)) = O) := Lib.hid (by rw [HBT.out, HFB.out, if_pos (of_decide_eq_true HF2.out.symm), List.append_nil])
                  go_wp2_with fail
                  go_roundw
                  case rel => exact Lib.hid ⟨i + 1, by go_num, by omega, by rw [HB2.out]; exact HO8.out, HE8.out⟩
                  case measure => simp [intOf]; omega
                | false =>
                  have HB2 : Hid (bindF (firstB L4) (V.take (i + 1)) = O ++ [(x, y.2)]) := Lib.hid (by rw [HBT.out, HFB.out, if_neg (fun e => by have h := HF2.out; rw [e] at h; simp at h)])
                  have hEd : Ext wz wz.drew := Ext.drew wz
                  obtain ⟨x0, x1, x2, x3, y0, y1, y2, y3, y4, y5, y6, y7⟩ := cs_e12 hEd ⟨x0, x1, x2, x3, y0, y1, y2, y3, y4, y5, y6, y7⟩
                  have HO8 := Lib.hid (HO8.out.ext hEd)
                  have HE8 := Lib.hid (HE8.out.trans hEd)
                  have HTX := Lib.hid (HTX.out.ext hEd)
                  have HTY := Lib.hid (HTY.out.ext hEd)
                  clear hEd
                  go_upto_region 25 with fail
                  go_region_law (refine step_appG (E := elP) (T := 96) rfl 71 (.tmp 100) (.tmp 111) rfl rfl rfl Tryz.underlying71 infBinding rfl (by decide) (by decide) (HO8.out.ext (by repeat (first | exact Ext.refl _ | exact Ext.alloc _ _ | apply Ext.then_dr | apply Ext.then_drN | apply Ext.then_drN2 | (refine Ext.then_al ?_ _)))) (Nat.le_trans HE8.out.size (Ext.size (by repeat (first | exact Ext.refl _ | exact Ext.alloc _ _ | apply Ext.then_dr | apply Ext.then_drN | apply Ext.then_drN2 | (refine Ext.then_al ?_ _))))) (fun c hc e => by have := (HO8.out.lt c e).1; have := hc.2; omega) (by omega) (M := [(x, y.2)]) (by simp) (one_pair hs_new (HTX.out.ext (by repeat (first | exact Ext.refl _ | exact Ext.alloc _ _ | apply Ext.then_dr | apply Ext.then_drN | apply Ext.then_drN2 | (refine Ext.then_al ?_ _)))) (HTY.out.ext (by repeat (first | exact Ext.refl _ | exact Ext.alloc _ _ | apply Ext.then_dr | apply Ext.then_drN | apply Ext.then_drN2 | (refine Ext.then_al ?_ _))))) ?_; intro v' w' h2 h3 h4; have HE9 := Lib.hid ((HE8.out.trans (by repeat (first | exact Ext.refl _ | exact Ext.alloc _ _ | apply Ext.then_dr | apply Ext.then_drN | apply Ext.then_drN2 | (refine Ext.then_al ?_ _)))).grown h3 (fun k hk => (HO8.out.lt k hk).1)); have HO9 := Lib.hid h2; clear h2 h3 h4)
                  all_goals
                   simp only [Act.put, List.getElem_cons_succ, List.getElem_cons_zero]
                   go_wp2_with fail
                   go_roundw
                   case rel => exact Lib.hid ⟨i + 1, by go_num, by omega, by rw [HB2.out]; exact HO9.out, HE9.out⟩
                   case measure => simp [intOf]; omega
            · exfalso
              obtain ⟨b, hb, e⟩ := HXM.out
              have h := HN.out
              rw [List.take_of_length_le (by omega)] at h
              exact h b hb e
         · have HVT : Hid (O = bindF (firstB L4) V) := Lib.hid (by rw [HOD.out, List.take_of_length_le (by omega)])
           have hiz : ¬ ((i : Int) < (V.length : Int)) := by omega
           go_wp2_with fail
           go_ret2
           refine ⟨.slice oa O.length oc, by rw [HF.out]; rfl, HE6.out.trans HE7.out, ?_⟩
           rw [HF.out, ← HVT.out]
           exact HO7.out.ls (fun c h _ => HSF.out c h.1) (fun g _ h _ => HSF.out g (.inr (Nat.le_trans HW6.out h)))
 · have e0 : (o != 0) = true := by simp [h0]
   have HF : Hid (R = (o, [])) := Lib.hid (by rw [HR.out, matchP, if_pos (by rw [← HO.out]; exact h0), HO.out])
   clear h0
   go_wp2_with fail
   go_ret2
   exact ⟨.slice none 0 0, by rw [HF.out]; rfl, HE.out, by rw [HF.out]; exact LsG.nil⟩

end Go.Proofs.YtpfnlbaloaohgaaGreat
