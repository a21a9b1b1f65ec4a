/- The walk of the law RewriteCheck. -/
import Derived.Test.YtpfnlbaloaohgaaGreatAL
import Derived.Test.YtpfnlbaloaohgaaGreatN52
namespace Go.Proofs.YtpfnlbaloaohgaaGreat
open Go Go.RowKit
set_option linter.unusedVariables false
set_option linter.unusedSimpArgs false

theorem traceP_of {R : List Rl} {t u : Tm} {L : List Rdx} (hR : rulesE R = 0) (ht : validT t = 0) (h : checkL R L t = some u) : traceP R t L u = true := by
 unfold traceP
 rw [if_neg (by rw [hR, ht]; simp [orE]), h]
 simp [endB, cmpT_self]
theorem rulesE_all : ∀ {R : List Rl}, R.length ≤ 40 → (∀ r ∈ R, ruleE r = 0) → rulesE R = 0 := by
 intro R h h2
 unfold rulesE
 rw [if_neg (by omega)]
 induction R with
 | nil => rfl
 | cons r R ih =>
   rw [rulesL]
   have h1 := h2 r (by simp)
   have h3 := ih (by simp at h; omega) (fun x hx => h2 x (by simp [hx]))
   rw [h1, h3]; rfl

set_option maxRecDepth 100000 in
set_option maxHeartbeats 16000000 in
theorem law_trace {w : World} {S S' S'' : Nat → Prop} {a ta da : Option Addr} {cap tc dc : Nat} {C D : List Nat} {t : Tm} (hC : LsG elB w S (.slice a C.length cap) C) (hT : TmW w S' ta tc t) (hD : LsG elB w S'' (.slice da D.length dc) D) :
 Calls Tryz.prog 5 #[.slice a C.length cap, .agg #[.int .i64 t.kind, .string t.name, .int .i64 t.sort, .slice ta t.kids.length tc], .slice da D.length dc] w fun e w' => e = .returned (.bool true) ∧ Ext w w' := by
 obtain ⟨-, hll, hlc⟩ := hC.len
 obtain ⟨-, hdl, hdc⟩ := hD.len
 unfold maxLen at hlc hdc
 obtain ⟨bx, w1, hbbx, hwbx, HBbx, hEbx⟩ := box_new w (.cells #[.int .i64 t.kind, .string t.name, .int .i64 t.sort, .slice ta t.kids.length tc] 25)
 obtain ⟨b0, b1, b2, b3⟩ := box4r (HBbx.out)
 have HC := Lib.hid (hC.ext hEbx)
 have HD := Lib.hid (hD.ext hEbx)
 have HT := Lib.hid (hT.ext hEbx).below
 have HE1 := Lib.hid hEbx
 have HNB : Hid (w.heap.size = bx) := Lib.hid hbbx.symm
 have HCA := Lib.hid (fun w' => awake5 (w := w'))
 obtain ⟨o2, ho2⟩ : ∃ o, o = fewT [t] 1 30 := ⟨_, rfl⟩
 have HO2 := Lib.hid ho2
 clear hC hT hD hEbx ho2
 go_enter Tryz.func5, Tryz.ntmps5
 go_upto_region 1 with fail
 rw [← hwbx, ← hbbx]
 clear hwbx hbbx
 go_wp2_with fail
 refine (HCA.out _).mono ?_
 rintro e w3 ⟨rfl, hE3⟩
 obtain ⟨b0, b1, b2, b3⟩ := cs_e4 hE3 ⟨b0, b1, b2, b3⟩
 have HC := Lib.hid (HC.out.ext hE3)
 have HD := Lib.hid (HD.out.ext hE3)
 have HT := Lib.hid (HT.out.ext hE3)
 have HE1 := Lib.hid (HE1.out.trans hE3)
 have HBbx := Lib.hid (hs_ext hE3 HBbx.out)
 clear hE3
 obtain ⟨fb, hfb⟩ : ∃ zz9, zz9 = w3.heap.size := ⟨_, rfl⟩
 obtain ⟨w4, hw4⟩ : ∃ zz9, zz9 = w3.alloc (.cells #[.int .i64 t.kind, .string t.name, .int .i64 t.sort, .slice ta t.kids.length tc] 25) := ⟨_, rfl⟩
 have hE4 : Ext w3 w4 := by rw [hw4]; exact Ext.alloc _ _
 have hfl : LsT w4 _ (.slice (some ⟨fb, 0, none⟩) 1 1) [t] := one_ls (by rw [hw4, hfb]; exact hs_new) (HT.out.ext hE4)
 have hcf := Few_any (w := w4) (n := 1) (m := 30) (L := [t]) (cap := 1) (by omega) (by omega) (by omega) (by unfold maxLen; simp) hfl.ts
 rw [← HO2.out] at hcf
 have HCF2 := Lib.hid hcf
 go_wp2_with fail
 rw [← hw4, ← hfb]
 clear hw4 hfb
 obtain ⟨b0, b1, b2, b3⟩ := cs_e4 hE4 ⟨b0, b1, b2, b3⟩
 have HC := Lib.hid (HC.out.ext hE4)
 have HD := Lib.hid (HD.out.ext hE4)
 have HT := Lib.hid (HT.out.ext hE4)
 have HE1 := Lib.hid (HE1.out.trans hE4)
 have HBbx := Lib.hid (hs_ext hE4 HBbx.out)
 clear hE4 hfl hcf
 refine HCF2.out.mono ?_
 rintro e w5 ⟨rfl, hE5⟩
 obtain ⟨b0, b1, b2, b3⟩ := cs_e4 hE5 ⟨b0, b1, b2, b3⟩
 have HC := Lib.hid (HC.out.ext hE5)
 have HD := Lib.hid (HD.out.ext hE5)
 have HT := Lib.hid (HT.out.ext hE5)
 have HE1 := Lib.hid (HE1.out.trans hE5)
 have HBbx := Lib.hid (hs_ext hE5 HBbx.out)
 clear hE5
 cases o2 with
 | false =>
   go_wp2_with fail
   refine (HCA.out _).mono ?_
   rintro e w9 ⟨rfl, hE9⟩
   have HE9 := Lib.hid (HE1.out.trans hE9)
   clear hE9
   go_wp2_with fail
   go_ret
   exact ⟨rfl, HE9.out⟩
 | true =>
   have HTZ : Hid (sizeT t ≤ 30) := Lib.hid (by have := few_oneT HO2.out.symm; omega)
   by_cases h12 : 12 < D.length
   · have h12z : (12 : Int) < (D.length : Int) := by omega
     go_wp2_with fail
     refine (HCA.out _).mono ?_
     rintro e w9 ⟨rfl, hE9⟩
     have HE9 := Lib.hid (HE1.out.trans hE9)
     clear hE9
     go_wp2_with fail
     go_ret
     exact ⟨rfl, HE9.out⟩
   · have h12z : ¬ (12 : Int) < (D.length : Int) := by omega
     have hcr := RRulesOf_any HC.out
     obtain ⟨R, hR⟩ : ∃ R, R = rulesOf C := ⟨_, rfl⟩
     rw [← hR] at hcr
     have HCR := Lib.hid hcr
     have HS : Hid (smallR R) := Lib.hid (by rw [hR]; exact rulesOf_small C)
     have HR5 : Hid (R.length ≤ 5) := Lib.hid (by rw [hR]; exact rulesOf_len C)
     have HR0 : Hid (rulesE R = 0) := Lib.hid (by
      rw [hR]
      refine rulesE_all (by have := rulesOf_len C; omega) (fun r hr => ?_)
      unfold rulesOf at hr
      obtain ⟨c, -, rfl⟩ := List.mem_map.1 hr
      exact (ruleN_ok (c % 12) (Nat.mod_lt _ (by omega))).1)
     clear hcr hR
     go_wp2_with fail
     refine HCR.out.mono ?_
     rintro e w6 ⟨v, rfl, hE6, hL6⟩
     obtain ⟨ra, rc, rfl, hrl, hrc⟩ := hL6.slice
     unfold maxLen at hrc
     obtain ⟨b0, b1, b2, b3⟩ := cs_e4 hE6 ⟨b0, b1, b2, b3⟩
     have HD := Lib.hid (HD.out.ext hE6)
     have HT := Lib.hid (HT.out.ext hE6)
     have HE1 := Lib.hid (HE1.out.trans hE6)
     have HBbx := Lib.hid (hs_ext hE6 HBbx.out)
     obtain ⟨ux, hux⟩ : ∃ zz9, zz9 = w6.heap.size := ⟨_, rfl⟩
     obtain ⟨w8, hw8⟩ : ∃ zz9, zz9 = w6.alloc (.cells #[.int .i64 t.kind, .string t.name, .int .i64 t.sort, .slice ta t.kids.length tc] 25) := ⟨_, rfl⟩
     have hE8 : Ext w6 w8 := by rw [hw8]; exact Ext.alloc _ _
     have HBU0 : Hid (w8.heap[ux]? = some (.cells #[.int .i64 t.kind, .string t.name, .int .i64 t.sort, .slice ta t.kids.length tc] 25)) := Lib.hid (by rw [hw8, hux]; exact hs_new)
     have HUX : Hid (w6.heap.size = ux ∧ bx < ux) := Lib.hid ⟨hux.symm, by rw [hux]; exact lt_of_get' HBbx.out⟩
     have HL := Lib.hid (hL6.wide (S' := fun c => c < ux) (fun c h h2 => by omega))
     have HT := Lib.hid (HT.out.wide (S' := fun c => c < ux) (fun c h h2 => by omega))
     have HE8 := Lib.hid hE8
     obtain ⟨b0, b1, b2, b3⟩ := cs_e4 hE8 ⟨b0, b1, b2, b3⟩
     clear hE6 hL6 hE8
     go_upto_region 5 with fail
     rw [← hw8, ← hux]
     clear hw8 hux
     go_wp2_with fail
     go_loopw [9, 36] (fun ov kv wr => Hid (∃ (i : Nat) (u : Tm) (T : List Rdx) (ka : Option Addr) (kc : Nat), kv = .int .i64 i ∧ i ≤ D.length ∧ T.length ≤ i ∧ sizeT u ≤ 400 ∧ (validT t = 0 → validT u = 0 ∧ checkL R T t = some u) ∧ (validT t ≠ 0 → T = [] ∧ u = t) ∧ (∀ r ∈ T, ∃ k : Nat, r.1 = k ∧ k < R.length) ∧ wr.heap[ux]? = some (.cells #[.int .i64 u.kind, .string u.name, .int .i64 u.sort, .slice ka u.kids.length kc] 25) ∧ TmW wr (fun c => c ≠ ux ∧ ov.ownBlock ≠ some c) ka kc u ∧ OwnG elX wr (ux + 1) 35 (fun c => ux + 1 ≤ c ∧ ov.ownBlock ≠ some c) ov T ∧ Ext w6 wr)) (fun _ kv _ => D.length - (intOf kv).toNat)
     case atStart => exact Lib.hid ⟨0, t, [], ta, tc, rfl, by omega, by simp, by have := HTZ.out; omega, fun h => ⟨h, rfl⟩, fun _ => ⟨rfl, rfl⟩, by simp, HBU0.out, (HT.out.ext HE8.out).wide (fun c h _ => ⟨by omega, fun e => by cases e⟩), OwnG.nil, HE8.out⟩
     case round =>
      obtain ⟨i, u, T, ka, kc, rfl, hi, hTi, huz, hvc, hvt, hTr, hbu, hTu, hO, hE⟩ := hrel.out
      have HBU := Lib.hid hbu
      have HTU := Lib.hid hTu
      have HOW := Lib.hid hO
      have HEW := Lib.hid hE
      have HUZ := Lib.hid huz
      have HVC0 := Lib.hid hvc
      have HVT := Lib.hid hvt
      have HTR := Lib.hid hTr
      have HVC : Hid (validT t = 0 → traceP R t T u = true) := Lib.hid (fun h => traceP_of HR0.out h (hvc h).2)
      have HTE : Hid (validT t ≠ 0 → T = []) := Lib.hid (fun h => (hvt h).1)
      have HTD : Hid (T.length ≤ D.length) := Lib.hid (by omega)
      obtain ⟨oa, oc, hov, -, hoc⟩ := hO.slice
      subst hov
      unfold maxLen at hoc
      have hlu := hTu.len
      have hcu := hTu.cap
      unfold maxLen at hcu
      clear hrel huz hvc hvt hTr hbu hTu hO hE b0 b1 b2 b3
      by_cases hlt : i < D.length
      · obtain ⟨c, hc⟩ : ∃ c, D[i]? = some c := ⟨_, List.getElem?_eq_getElem hlt⟩
        obtain ⟨cb, co, hda, c0, hc256⟩ := (HD.out.ext HEW.out).bAt hc
        subst hda
        have hiz : (i : Int) < (D.length : Int) := by omega
        have hi0 : (0 : Int) ≤ (i : Int) := by omega
        obtain ⟨L, hLd⟩ : ∃ L, L = redP R u := ⟨_, rfl⟩
        have hcx := RRedexes_any (w := wr) HS.out (HL.out.ext HEW.out) (by have := HUZ.out; omega) HTU.out
        rw [← hLd] at hcx
        have HCX := Lib.hid hcx
        have HLR : Hid (∀ r ∈ L, ∃ k : Nat, r.1 = k ∧ k < R.length) := Lib.hid (fun r h => by rw [hLd] at h; exact redP_rule h)
        have HLV : Hid (L ≠ [] → validT t = 0) := Lib.hid (fun h => by
         by_cases h0 : validT t = 0
         · exact h0
         · have h1 := (HVT.out h0).2
           rw [hLd, h1, redP_bad h0] at h
           exact absurd rfl h)
        have HOL : Hid (∀ c, (Value.slice oa T.length oc).ownBlock = some c → ux + 1 ≤ c ∧ c < wr.heap.size) := Lib.hid (fun c e => HOW.out.lt c e)
        have HWR : Hid (ux < wr.heap.size) := Lib.hid (lt_of_get' HBU.out)
        obtain ⟨u0, u1, u2, u3⟩ := box4r (HBU.out)
        clear hcx hLd hc
        go_wp2_with fail
        refine HCX.out.mono ?_
        rintro e w9 ⟨v, rfl, hE9, hL9⟩
        obtain ⟨la, lc, rfl, hll9, hlc9⟩ := hL9.slice
        unfold maxLen at hlc9
        have HWE := Lib.hid hE9
        obtain ⟨u0, u1, u2, u3⟩ := cs_e4 hE9 ⟨u0, u1, u2, u3⟩
        have HBU := Lib.hid (hs_ext hE9 HBU.out)
        have HTU := Lib.hid (HTU.out.ext hE9)
        have HOW := Lib.hid (HOW.out.ext hE9)
        have HEW := Lib.hid (HEW.out.trans hE9)
        clear hE9
        by_cases h0 : L.length = 0
        · have e0 : ((L.length : Int) == 0) = true := by simp [h0]
          clear h0 hL9 u0 u1 u2 u3
          obtain ⟨b0, b1, b2, b3⟩ := box4r (hs_ext HEW.out HBbx.out)
          obtain ⟨u0, u1, u2, u3⟩ := box4r HBU.out
          have hcv := RValid_any (w := w9) (by have := HTZ.out; omega) (HT.out.ext HEW.out)
          obtain ⟨o, ho⟩ : ∃ o, o = validT t := ⟨_, rfl⟩
          rw [← ho] at hcv
          have HCV := Lib.hid hcv
          have HOV := Lib.hid ho
          clear hcv ho
          go_wp2_with fail
          refine HCV.out.mono ?_
          rintro e w20 ⟨rfl, hE20⟩
          obtain ⟨b0, b1, b2, b3, u0, u1, u2, u3⟩ := cs_e8 hE20 ⟨b0, b1, b2, b3, u0, u1, u2, u3⟩
          have HBU := Lib.hid (hs_ext hE20 HBU.out)
          have HTU := Lib.hid (HTU.out.ext hE20)
          have HOW := Lib.hid (HOW.out.ext hE20)
          have HEW := Lib.hid (HEW.out.trans hE20)
          clear hE20
          by_cases ho0 : o = 0
          · have eo : (o == 0) = true := by simp [ho0]
            have hck := PTrace_any (w := w20) HS.out (HL.out.ext HEW.out) (by have := HTZ.out; omega) (HT.out.ext HEW.out) HOW.out.any (by have := HUZ.out; omega) HTU.out
            rw [HVC.out (by rw [← HOV.out]; exact ho0)] at hck
            have HCK := Lib.hid hck
            clear hck ho0
            go_wp2_with fail
            refine HCK.out.mono ?_
            rintro e w21 ⟨rfl, hE21⟩
            obtain ⟨b0, b1, b2, b3, u0, u1, u2, u3⟩ := cs_e8 hE21 ⟨b0, b1, b2, b3, u0, u1, u2, u3⟩
            have HBU := Lib.hid (hs_ext hE21 HBU.out)
            have HTU := Lib.hid (HTU.out.ext hE21)
            have HOW := Lib.hid (HOW.out.ext hE21)
            have HEW := Lib.hid (HEW.out.trans hE21)
            clear hE21
            by_cases hT0 : T.length = 0
            · skip
              have hpx := fun (w' : World) (hE : Ext w21 w') => PTrace_any (w := w') HS.out ((HL.out.ext HEW.out).ext hE) (by have := HTZ.out; omega) ((HT.out.ext HEW.out).ext hE) (HOW.out.any.ext hE) (by have := HUZ.out; omega) (HTU.out.ext hE)
              have hrx := fun (w' : World) (hE : Ext w21 w') => RTrace_any (w := w') HS.out ((HL.out.ext HEW.out).ext hE) (by have := HTZ.out; omega) ((HT.out.ext HEW.out).ext hE) (HOW.out.any.ext hE) (by have := HUZ.out; omega) (HTU.out.ext hE)
              obtain ⟨p, hp⟩ : ∃ p, p = traceP R t T u := ⟨_, rfl⟩
              rw [← hp] at hpx hrx
              have epp : (p == p) = true := by simp
              have HPX := Lib.hid hpx
              have HRX := Lib.hid hrx
              have HEF := Lib.hid (HE1.out.trans HEW.out)
              have hT0z : ¬ (0 : Int) < (T.length : Int) := by omega
              clear hpx hrx hp hT0
              go_upto_region 22 with fail
              have HFCT := Lib.hid (And.intro b0 (And.intro b1 (And.intro b2 (And.intro b3 (And.intro u0 (And.intro u1 (And.intro u2 u3)))))))
              refine wp_region_reg 11 false (by kernel_rfl) (by kernel_rfl) ?_
              refine reg_value (fun _ => rfl) ?_ (fun g w' vs hM hE hP => ?_) ?_
              rotate_left
              · (clear hP hM; go_simp; first | done | rfl)
              refine reg_value (fun _ => rfl) ?_ (fun g w' vs hM hE hP => ?_) ?_
              rotate_left
              · (clear hP hM; have ⟨z0, z1, z2, z3, z4, z5, z6, z7⟩ := cs_e8 hE HFCT.out; go_simp; first | done | rfl)
              refine reg_value (fun _ => rfl) ?_ (fun g w' vs hM hE hP => ?_) ?_
              rotate_left
              · (clear hP hM; go_simp; first | done | rfl)
              refine reg_value (fun _ => rfl) ?_ (fun g w' vs hM hE hP => ?_) ?_
              rotate_left
              · (clear hP hM; have ⟨z0, z1, z2, z3, z4, z5, z6, z7⟩ := cs_e8 hE HFCT.out; go_simp; first | done | rfl)
              refine reg_const (fun _ => rfl) 23 ?_ (fun g w' vs hM hE hP => ?_) ?_
              rotate_left
              · (clear hP hM; have ⟨z0, z1, z2, z3, z4, z5, z6, z7⟩ := cs_e8 hE HFCT.out; go_simp; first | done | exact ⟨rfl, rfl⟩ | rfl)
              apply Exists.intro
              refine And.intro (fun g w' vs hM hE hP => ?_) ?_
              · exact HPX.out w' hE
              refine reg_value (fun _ => rfl) ?_ (fun g w' vs hM hE hP => ?_) ?_
              rotate_left
              · (clear hP hM; go_simp; first | done | rfl)
              refine reg_value (fun _ => rfl) ?_ (fun g w' vs hM hE hP => ?_) ?_
              rotate_left
              · (clear hP hM; have ⟨z0, z1, z2, z3, z4, z5, z6, z7⟩ := cs_e8 hE HFCT.out; go_simp; first | done | rfl)
              refine reg_value (fun _ => rfl) ?_ (fun g w' vs hM hE hP => ?_) ?_
              rotate_left
              · (clear hP hM; go_simp; first | done | rfl)
              refine reg_value (fun _ => rfl) ?_ (fun g w' vs hM hE hP => ?_) ?_
              rotate_left
              · (clear hP hM; have ⟨z0, z1, z2, z3, z4, z5, z6, z7⟩ := cs_e8 hE HFCT.out; go_simp; first | done | rfl)
              refine reg_const (fun _ => rfl) 24 ?_ (fun g w' vs hM hE hP => ?_) ?_
              rotate_left
              · (clear hP hM; have ⟨z0, z1, z2, z3, z4, z5, z6, z7⟩ := cs_e8 hE HFCT.out; go_simp; first | done | exact ⟨rfl, rfl⟩ | rfl)
              apply Exists.intro
              refine And.intro (fun g w' vs hM hE hP => ?_) ?_
              · exact HRX.out w' hE
              refine reg_value (fun _ => rfl) ?_ (fun g w' vs hM hE hP => ?_) ?_
              rotate_left
              · (clear hP hM; go_simp; first | done | rfl)
              intro g9 wz hE2 hF hQ
              simp only [List.drop_succ_cons, List.drop_zero, Act.put, List.setIfInBounds_toArray, List.set_cons_succ, List.set_cons_zero]
              have HEZ := Lib.hid (HEF.out.trans hE2)
              clear hE2 hF hQ
              go_wp2_with fail
              go_ret
              exact ⟨rb (by simp), HEZ.out⟩
            · have hT1 : (0 : Int) < (T.length : Int) := by omega
              obtain ⟨d, hd⟩ : ∃ d, D[0]? = some d := ⟨_, List.getElem?_eq_getElem (by have := HTD.out; omega)⟩
              obtain ⟨db, do', hda, e0, e256⟩ := (HD.out.ext HEW.out).bAt hd
              cases hda
              rw [Nat.add_zero] at e0
              obtain ⟨k, hk⟩ : ∃ k, k = d % T.length := ⟨_, rfl⟩
              have hkT : k < T.length := by rw [hk]; exact Nat.mod_lt _ (by omega)
              obtain ⟨q, hq⟩ : ∃ q, T[k]? = some q := ⟨_, List.getElem?_eq_getElem hkT⟩
              obtain ⟨m, hm, hmR⟩ := HTR.out q (List.mem_of_getElem? hq)
              obtain ⟨g, gc, cs, hov2, hgb, hgl, hRq, hcs⟩ := HOW.out.at hq
              cases hov2
              obtain ⟨qv, hcse, hq64, hqP⟩ := hRq
              subst hcse
              have r0 : w21.cell? ⟨g, k * 2, none⟩ = some (.int .i64 q.1) := hcs 0 _ rfl
              rw [hm] at r0
              obtain ⟨cur, hcur⟩ := HOW.out.block (g := g) rfl
              have f0 : w21.frozen? ⟨g, k * 2, none⟩ = false := frozenc hcur
              obtain ⟨z, hz⟩ : ∃ z, z = (m + 1) % R.length := ⟨_, rfl⟩
              have hz5 : z < R.length := by rw [hz]; exact Nat.mod_lt _ (by omega)
              have hkz : Int.tmod (d : Int) (T.length : Int) = (k : Int) := by rw [hk, Int.tmod_eq_emod_of_nonneg (by omega)]; exact (Int.natCast_emod _ _).symm
              have hkz2 : (d : Int) % (T.length : Int) = (k : Int) := by rw [hk]; exact (Int.natCast_emod _ _).symm
              have hzz : Int.tmod ((m : Int) + 1) (R.length : Int) = (z : Int) := by rw [hz, Int.tmod_eq_emod_of_nonneg (by omega), Int.natCast_emod]; rfl
              have hzz2 : ((m : Int) + 1) % (R.length : Int) = (z : Int) := by rw [hz, Int.natCast_emod]; rfl
              have hTn : ¬ ((T.length : Int) = 0) := by omega
              have hRn : ¬ ((R.length : Int) = 0) := by omega
              have hk0 : (0 : Int) ≤ (k : Int) := by omega
              have hkl : (k : Int) < (T.length : Int) := by omega
              have HSET := Lib.hid (HOW.out.setFst hq (z := (z : Int)) (by have := HR5.out; unfold I64; omega) (fun c h e => h.2 (by rw [e]; rfl)))
              have HGX : Hid (ux + 1 ≤ g) := Lib.hid hgb
              have hm64 : (m : Int) + 1 ≤ 100 := by have := HR5.out; omega
              have hm0 : (0 : Int) ≤ (m : Int) := by omega
              clear hd hk hkT hm hcs hqP hq64 hcur hz
              go_upto_region 22 with fail
              obtain ⟨ws, hws⟩ : ∃ ws, ws = w21.setCell ⟨g, k * 2, none⟩ (.int .i64 (z : Int)) := ⟨_, rfl⟩
              have hst := HSET.out
              rw [← hws] at hst ⊢
              have hsc : ∀ c, c ≠ g → ws.heap[c]? = w21.heap[c]? := fun c h => by rw [hws]; exact heap_setCell_other _ _ _ _ h
              have hEs : Ext w6 ws := by rw [hws]; exact HEW.out.setCell (by have := HGX.out; have := HUX.out; omega) _
              obtain ⟨b0, b1, b2, b3⟩ := box4r ((hsc bx (by have := HGX.out; have := HUX.out; omega)).trans (hs_ext HEW.out HBbx.out))
              obtain ⟨u0, u1, u2, u3⟩ := box4r ((hsc ux (by have := HGX.out; omega)).trans HBU.out)
              have hTu2 := HTU.out.keep (w' := ws) (fun c h _ => hsc c (fun e => h.2 (by rw [e]; rfl))) (fun _ h _ => h)
              obtain ⟨T2, hT2⟩ : ∃ T2, T2 = T.set k ((z : Int), q.2) := ⟨_, rfl⟩
              have hlen : T2.length = T.length := by rw [hT2, List.length_set]
              rw [← hT2] at hst
              have hz1 : sizeT t ≤ 100000 := by have := HTZ.out; omega
              have hz2 : sizeT u ≤ 100000 := by have := HUZ.out; omega
              have hst2 : LsG elX ws Any (.slice (some ⟨g, 0, none⟩) T2.length oc) T2 := by rw [hlen]; exact hst
              have hpx := fun (w' : World) (hE : Ext ws w') => PTrace_any (w := w') HS.out ((HL.out.ext hEs).ext hE) hz1 ((HT.out.ext hEs).ext hE) (hst2.ext hE) hz2 (hTu2.ext hE)
              have hrx := fun (w' : World) (hE : Ext ws w') => RTrace_any (w := w') HS.out ((HL.out.ext hEs).ext hE) hz1 ((HT.out.ext hEs).ext hE) (hst2.ext hE) hz2 (hTu2.ext hE)
              rw [hlen] at hpx hrx
              obtain ⟨p, hp⟩ : ∃ p, p = traceP R t T2 u := ⟨_, rfl⟩
              rw [← hp] at hpx hrx
              have epp : (p == p) = true := by simp
              have HPX := Lib.hid hpx
              have HRX := Lib.hid hrx
              have HEF := Lib.hid (HE1.out.trans hEs)
              clear hst hws hsc hEs hTu2 hT2 hlen hpx hrx hp
              have HFCT := Lib.hid (And.intro b0 (And.intro b1 (And.intro b2 (And.intro b3 (And.intro u0 (And.intro u1 (And.intro u2 u3)))))))
              refine wp_region_reg 11 false (by kernel_rfl) (by kernel_rfl) ?_
              refine reg_value (fun _ => rfl) ?_ (fun g w' vs hM hE hP => ?_) ?_
              rotate_left
              · (clear hP hM; go_simp; first | done | rfl)
              refine reg_value (fun _ => rfl) ?_ (fun g w' vs hM hE hP => ?_) ?_
              rotate_left
              · (clear hP hM; have ⟨z0, z1, z2, z3, z4, z5, z6, z7⟩ := cs_e8 hE HFCT.out; go_simp; first | done | rfl)
              refine reg_value (fun _ => rfl) ?_ (fun g w' vs hM hE hP => ?_) ?_
              rotate_left
              · (clear hP hM; go_simp; first | done | rfl)
              refine reg_value (fun _ => rfl) ?_ (fun g w' vs hM hE hP => ?_) ?_
              rotate_left
              · (clear hP hM; have ⟨z0, z1, z2, z3, z4, z5, z6, z7⟩ := cs_e8 hE HFCT.out; go_simp; first | done | rfl)
              refine reg_const (fun _ => rfl) 23 ?_ (fun g w' vs hM hE hP => ?_) ?_
              rotate_left
              · (clear hP hM; have ⟨z0, z1, z2, z3, z4, z5, z6, z7⟩ := cs_e8 hE HFCT.out; go_simp; first | done | exact ⟨rfl, rfl⟩ | rfl)
              apply Exists.intro
              refine And.intro (fun g w' vs hM hE hP => ?_) ?_
              · exact HPX.out w' hE
              refine reg_value (fun _ => rfl) ?_ (fun g w' vs hM hE hP => ?_) ?_
              rotate_left
              · (clear hP hM; go_simp; first | done | rfl)
              refine reg_value (fun _ => rfl) ?_ (fun g w' vs hM hE hP => ?_) ?_
              rotate_left
              · (clear hP hM; have ⟨z0, z1, z2, z3, z4, z5, z6, z7⟩ := cs_e8 hE HFCT.out; go_simp; first | done | rfl)
              refine reg_value (fun _ => rfl) ?_ (fun g w' vs hM hE hP => ?_) ?_
              rotate_left
              · (clear hP hM; go_simp; first | done | rfl)
              refine reg_value (fun _ => rfl) ?_ (fun g w' vs hM hE hP => ?_) ?_
              rotate_left
              · (clear hP hM; have ⟨z0, z1, z2, z3, z4, z5, z6, z7⟩ := cs_e8 hE HFCT.out; go_simp; first | done | rfl)
              refine reg_const (fun _ => rfl) 24 ?_ (fun g w' vs hM hE hP => ?_) ?_
              rotate_left
              · (clear hP hM; have ⟨z0, z1, z2, z3, z4, z5, z6, z7⟩ := cs_e8 hE HFCT.out; go_simp; first | done | exact ⟨rfl, rfl⟩ | rfl)
              apply Exists.intro
              refine And.intro (fun g w' vs hM hE hP => ?_) ?_
              · exact HRX.out w' hE
              refine reg_value (fun _ => rfl) ?_ (fun g w' vs hM hE hP => ?_) ?_
              rotate_left
              · (clear hP hM; go_simp; first | done | rfl)
              intro g9 wz hE2 hF hQ
              simp only [List.drop_succ_cons, List.drop_zero, Act.put, List.setIfInBounds_toArray, List.set_cons_succ, List.set_cons_zero]
              have HEZ := Lib.hid (HEF.out.trans hE2)
              clear hE2 hF hQ
              go_wp2_with fail
              go_ret
              exact ⟨rb (by simp), HEZ.out⟩
          · have eo : (o == 0) = false := by simp [ho0]
            have hT0 : T.length = 0 := by rw [HTE.out (by rw [← HOV.out]; exact ho0)]; rfl
            clear ho0
            have hpx := fun (w' : World) (hE : Ext w20 w') => PTrace_any (w := w') HS.out ((HL.out.ext HEW.out).ext hE) (by have := HTZ.out; omega) ((HT.out.ext HEW.out).ext hE) (HOW.out.any.ext hE) (by have := HUZ.out; omega) (HTU.out.ext hE)
            have hrx := fun (w' : World) (hE : Ext w20 w') => RTrace_any (w := w') HS.out ((HL.out.ext HEW.out).ext hE) (by have := HTZ.out; omega) ((HT.out.ext HEW.out).ext hE) (HOW.out.any.ext hE) (by have := HUZ.out; omega) (HTU.out.ext hE)
            obtain ⟨p, hp⟩ : ∃ p, p = traceP R t T u := ⟨_, rfl⟩
            rw [← hp] at hpx hrx
            have epp : (p == p) = true := by simp
            have HPX := Lib.hid hpx
            have HRX := Lib.hid hrx
            have HEF := Lib.hid (HE1.out.trans HEW.out)
            have hT0z : ¬ (0 : Int) < (T.length : Int) := by omega
            clear hpx hrx hp hT0
            go_upto_region 22 with fail
            have HFCT := Lib.hid (And.intro b0 (And.intro b1 (And.intro b2 (And.intro b3 (And.intro u0 (And.intro u1 (And.intro u2 u3)))))))
            refine wp_region_reg 11 false (by kernel_rfl) (by kernel_rfl) ?_
            refine reg_value (fun _ => rfl) ?_ (fun g w' vs hM hE hP => ?_) ?_
            rotate_left
            · (clear hP hM; go_simp; first | done | rfl)
            refine reg_value (fun _ => rfl) ?_ (fun g w' vs hM hE hP => ?_) ?_
            rotate_left
            · (clear hP hM; have ⟨z0, z1, z2, z3, z4, z5, z6, z7⟩ := cs_e8 hE HFCT.out; go_simp; first | done | rfl)
            refine reg_value (fun _ => rfl) ?_ (fun g w' vs hM hE hP => ?_) ?_
            rotate_left
            · (clear hP hM; go_simp; first | done | rfl)
            refine reg_value (fun _ => rfl) ?_ (fun g w' vs hM hE hP => ?_) ?_
            rotate_left
            · (clear hP hM; have ⟨z0, z1, z2, z3, z4, z5, z6, z7⟩ := cs_e8 hE HFCT.out; go_simp; first | done | rfl)
            refine reg_const (fun _ => rfl) 23 ?_ (fun g w' vs hM hE hP => ?_) ?_
            rotate_left
            · (clear hP hM; have ⟨z0, z1, z2, z3, z4, z5, z6, z7⟩ := cs_e8 hE HFCT.out; go_simp; first | done | exact ⟨rfl, rfl⟩ | rfl)
            apply Exists.intro
            refine And.intro (fun g w' vs hM hE hP => ?_) ?_
            · exact HPX.out w' hE
            refine reg_value (fun _ => rfl) ?_ (fun g w' vs hM hE hP => ?_) ?_
            rotate_left
            · (clear hP hM; go_simp; first | done | rfl)
            refine reg_value (fun _ => rfl) ?_ (fun g w' vs hM hE hP => ?_) ?_
            rotate_left
            · (clear hP hM; have ⟨z0, z1, z2, z3, z4, z5, z6, z7⟩ := cs_e8 hE HFCT.out; go_simp; first | done | rfl)
            refine reg_value (fun _ => rfl) ?_ (fun g w' vs hM hE hP => ?_) ?_
            rotate_left
            · (clear hP hM; go_simp; first | done | rfl)
            refine reg_value (fun _ => rfl) ?_ (fun g w' vs hM hE hP => ?_) ?_
            rotate_left
            · (clear hP hM; have ⟨z0, z1, z2, z3, z4, z5, z6, z7⟩ := cs_e8 hE HFCT.out; go_simp; first | done | rfl)
            refine reg_const (fun _ => rfl) 24 ?_ (fun g w' vs hM hE hP => ?_) ?_
            rotate_left
            · (clear hP hM; have ⟨z0, z1, z2, z3, z4, z5, z6, z7⟩ := cs_e8 hE HFCT.out; go_simp; first | done | exact ⟨rfl, rfl⟩ | rfl)
            apply Exists.intro
            refine And.intro (fun g w' vs hM hE hP => ?_) ?_
            · exact HRX.out w' hE
            refine reg_value (fun _ => rfl) ?_ (fun g w' vs hM hE hP => ?_) ?_
            rotate_left
            · (clear hP hM; go_simp; first | done | rfl)
            intro g9 wz hE2 hF hQ
            simp only [List.drop_succ_cons, List.drop_zero, Act.put, List.setIfInBounds_toArray, List.set_cons_succ, List.set_cons_zero]
            have HEZ := Lib.hid (HEF.out.trans hE2)
            clear hE2 hF hQ
            go_wp2_with fail
            go_ret
            exact ⟨rb (by simp), HEZ.out⟩
        · have e0 : ((L.length : Int) == 0) = false := by simpa using h0
          obtain ⟨k, hk⟩ : ∃ k, k = c % L.length := ⟨_, rfl⟩
          have hkL : k < L.length := by rw [hk]; exact Nat.mod_lt _ (by omega)
          obtain ⟨q, hq⟩ : ∃ q, L[k]? = some q := ⟨_, List.getElem?_eq_getElem hkL⟩
          obtain ⟨m, hm, hmR⟩ := HLR.out q (List.mem_of_getElem? hq)
          have HV0 : Hid (validT t = 0) := Lib.hid (HLV.out (fun e => by rw [e] at h0; exact h0 rfl))
          have HVU : Hid (validT u = 0) := Lib.hid (HVC0.out HV0.out).1
          obtain ⟨xb, xo, pa, pc, hla, r0, r1, hq64, hpl, hpc, hP⟩ := hL9.xAt hq
          subst hla
          unfold maxLen at hpc
          have hkz : Int.tmod (c : Int) (L.length : Int) = (k : Int) := by rw [hk, Int.tmod_eq_emod_of_nonneg (by omega)]; exact (Int.natCast_emod _ _).symm
          have hkz2 : (c : Int) % (L.length : Int) = (k : Int) := by rw [hk]; exact (Int.natCast_emod _ _).symm
          have hLn : ¬ ((L.length : Int) = 0) := by omega
          have hk0 : (0 : Int) ≤ (k : Int) := by omega
          have hkl : (k : Int) < (L.length : Int) := by omega
          have HRX : Hid (q.1 = (m : Int) ∧ m < R.length) := Lib.hid ⟨hm, hmR⟩
          obtain ⟨vx, hvx⟩ : ∃ zz9, zz9 = w9.heap.size := ⟨_, rfl⟩
          obtain ⟨w10, hw10⟩ : ∃ zz9, zz9 = w9.alloc (.cells #[.int .i64 q.1, .slice pa q.2.length pc] 35) := ⟨_, rfl⟩
          have hEc : Ext w9 w10 := by rw [hw10]; exact Ext.alloc _ _
          have hbv : w10.heap[vx]? = some (.cells #[.int .i64 q.1, .slice pa q.2.length pc] 35) := by rw [hw10, hvx]; exact hs_new
          have HBV := Lib.hid hbv
          have v0 : w10.cell? ⟨vx, 0, none⟩ = some (.int .i64 q.1) := by rw [cellc hbv]; rfl
          have v1 : w10.cell? ⟨vx, 1, none⟩ = some (.slice pa q.2.length pc) := by rw [cellc hbv]; rfl
          have HP := Lib.hid (hP.ext hEc)
          have HI := Lib.hid hq64
          have HSV : Hid (vx < w10.heap.size ∧ ux < vx) := Lib.hid ⟨lt_of_get' hbv, by have := lt_of_get' HBU.out; omega⟩
          obtain ⟨u0, u1, u2, u3⟩ := cs_e4 hEc ⟨u0, u1, u2, u3⟩
          have HBU := Lib.hid (hs_ext hEc HBU.out)
          have HTU := Lib.hid (HTU.out.ext hEc)
          have HOW := Lib.hid (HOW.out.ext hEc)
          have HEW := Lib.hid (HEW.out.trans hEc)
          have HWE := Lib.hid (HWE.out.trans hEc)
          have hca := RApply_any (w := w10) (r := q) HS.out hq64 (HL.out.ext HEW.out) (by have := HUZ.out; omega) HTU.out HP.out
          rw [applyP_step HR0.out HVU.out] at hca
          have HCA := Lib.hid hca
          clear h0 hk hkL hq hm hmR hEc hbv hP hq64 hca hL9
          go_upto_region 12 with fail
          rw [← hw10, ← hvx]
          clear hw10 hvx r0 r1 hkz hkz2 c0
          go_wp2_with fail
          refine HCA.out.mono ?_
          rintro e w11 ⟨v11, er, rfl, hE11, hA11⟩
          have HWX : Hid (wr.heap.size ≤ w10.heap.size) := Lib.hid HWE.out.size
          by_cases h9 : (stepP R u q).1 = 0
          · obtain ⟨x, hx⟩ : ∃ x, x = (stepP R u q).2 := ⟨_, rfl⟩
            rw [← hx] at hA11
            obtain ⟨xa, xc, rfl, hTx⟩ := hA11.2.1 h9
            have her : er = 0 := hA11.1.trans h9
            subst her
            have HVX : Hid (validT x = 0) := Lib.hid (by rw [hx]; exact stepP_ok h9)
            have HNX : Hid (checkL R (T ++ [q]) t = some x) := Lib.hid (by rw [hx]; exact checkL_append R T q t u (HVC0.out HV0.out).2 h9)
            have HTX := Lib.hid (hTx.wide (S' := fun c => (c ≠ ux ∧ (Value.slice oa T.length oc).ownBlock ≠ some c) ∧ c < w11.heap.size) (fun c h h2 => ⟨by
             rcases h with h | h | h
             · exact ⟨by omega, fun e => by have := (HOL.out c e).1; omega⟩
             · exact h.1
             · exact ⟨by have := HSV.out; omega, fun e => by have := (HOL.out c e).2; have := HWX.out; omega⟩, h2⟩))
            obtain ⟨nx, hnx⟩ : ∃ zz9, zz9 = w11.heap.size := ⟨_, rfl⟩
            obtain ⟨w12, hw12⟩ : ∃ zz9, zz9 = w11.alloc (.cells #[.int .i64 x.kind, .string x.name, .int .i64 x.sort, .slice xa x.kids.length xc] 25) := ⟨_, rfl⟩
            have hE12 : Ext w11 w12 := by rw [hw12]; exact Ext.alloc _ _
            have hbn : w12.heap[nx]? = some (.cells #[.int .i64 x.kind, .string x.name, .int .i64 x.sort, .slice xa x.kids.length xc] 25) := by rw [hw12, hnx]; exact hs_new
            obtain ⟨n0, n1, n2, n3⟩ := box4r (hbn)
            have hlx := hTx.len
            have hcx := hTx.cap
            unfold maxLen at hcx
            have HS12 : Hid (w12.heap.size = w11.heap.size + 1 ∧ w10.heap.size ≤ w11.heap.size) := Lib.hid ⟨by rw [hw12, World.size_alloc], hE11.size⟩
            have hEe := hE11.trans hE12
            have HTX := Lib.hid (HTX.out.ext hE12)
            have HBU := Lib.hid (hs_ext hEe HBU.out)
            have HBV := Lib.hid (hs_ext hEe HBV.out)
            have HOW := Lib.hid (HOW.out.ext hEe)
            have HEW := Lib.hid (HEW.out.trans hEe)
            have HP := Lib.hid (HP.out.ext hEe)
            clear hE11 hA11 h9 hx hTx hE12 hbn hEe u0 u1 u2 u3 v0 v1
            go_upto_region 13 with fail
            rw [← hw12, ← hnx]
            clear hw12 hnx
            go_wp2_with (first
             | (refine wpList_storeT rfl (.tmp 8) (.tmp 63) rfl (g := ux) rfl (k := x.kind) (s := x.sort) (n := x.name) (ka := xa) (kl := x.kids.length) (kc := xc) rfl HBU.out rfl ?_
                intro wq c6 q6 e6 z6
                have HG6 := Lib.hid c6
                have HQ6 := Lib.hid q6
                have HEQ := Lib.hid (e6 w6 HEW.out (by have := HUX.out; omega))
                have HZ6 := Lib.hid z6
                have HVB : Hid (wq.heap[vx]? = some (.cells #[.int .i64 q.1, .slice pa q.2.length pc] 35)) := Lib.hid ((q6 vx (by have := HSV.out; omega)).trans HBV.out)
                have v0 : wq.cell? ⟨vx, 0, none⟩ = some (.int .i64 q.1) := by rw [cellc HVB.out]; rfl
                have v1 : wq.cell? ⟨vx, 1, none⟩ = some (.slice pa q.2.length pc) := by rw [cellc HVB.out]; rfl
                have HOQ := Lib.hid (HOW.out.keep (w' := wq) (S' := fun c => (ux + 1 ≤ c ∧ (Value.slice oa T.length oc).ownBlock ≠ some c) ∧ c < w12.heap.size) (fun c hc => q6 c (by have := (HOW.out.lt c hc).1; omega)) (fun c h1 h2 => q6 c (by have := h1.1; omega)) (fun c h1 h2 => ⟨h1, h2⟩))
                have HPQ := Lib.hid (HP.out.keep (w' := wq) (S' := fun c => (ux + 1 ≤ c ∧ (Value.slice oa T.length oc).ownBlock ≠ some c) ∧ c < w12.heap.size) (fun c h1 h2 => q6 c (by have := HWR.out; omega)) (fun c h1 h2 => ⟨⟨by have := HWR.out; omega, fun e => by have := (HOL.out c e).2; omega⟩, h2⟩) (Nat.le_of_eq z6.symm))
                clear c6 q6 e6 z6)
             | (at_builtin
                refine wpList_appG (E := elX) (T := 35) rfl 29 (.tmp 64) (.tmp 66) rfl rfl rfl Tryz.underlying29 infRedex rfl (by decide) (by decide) (HOQ.out.ext (Ext.alloc _ _)) (by rw [World.size_alloc]; have := HZ6.out; have := HWR.out; have := HWX.out; have := HS12.out; omega) (fun c h => h.1.2) (by omega) (M := [q]) (by simp) (one_rdxE hs_new HI.out (HPQ.out.ext (Ext.alloc _ _))) ?_
                intro v5 wf o5 g5 k5
                have HOF := Lib.hid o5
                have HG5 : Hid ((wq.alloc (.cells #[.int .i64 q.1, .slice pa q.2.length pc] 35)).grownBy wf (Value.slice oa T.length oc).ownBlock) := Lib.hid g5
                have HK5 : Hid (v5.ownBlock = (Value.slice oa T.length oc).ownBlock ∨ v5.ownBlock = some (wq.heap.size + 1)) := Lib.hid (by rw [World.size_alloc] at k5; exact k5)
                clear o5 g5 k5))
            have hbl : ∀ c, c < wq.heap.size → (Value.slice oa T.length oc).ownBlock ≠ some c → wf.heap[c]? = wq.heap[c]? := fun c h1 h2 => (HG5.out.block c (by rw [World.size_alloc]; omega) (fun e => h2 e.symm)).trans ((Ext.alloc wq _).block h1)
            have hsz : wq.heap.size = w12.heap.size := HZ6.out
            have hrx : wr.heap.size ≤ w10.heap.size := HWX.out
            have hlo : ∀ c, c < wr.heap.size → c < wq.heap.size := fun c h => by have := HS12.out; omega
            have hob : (Value.slice oa T.length oc).ownBlock ≠ some ux := fun e => by have := (HOL.out ux e).1; omega
            have hb5 := (hbl ux (hlo ux HWR.out) hob).trans HG6.out
            have hk5 : v5.ownBlock = (Value.slice oa T.length oc).ownBlock ∨ v5.ownBlock = some (wq.heap.size + 1) := HK5.out
            have ht5 := HTX.out.keep (w' := wf) (S' := fun c => c ≠ ux ∧ v5.ownBlock ≠ some c) (fun c h1 h2 => (hbl c (by omega) h1.1.2).trans (HQ6.out c h1.1.1)) (fun c h1 h2 => ⟨h1.1.1, fun e => by
             rcases hk5 with k | k
             · exact h1.1.2 (by rw [← k]; exact e)
             · rw [k] at e; have := Option.some.inj e; omega⟩)
            have ho5 := (HOF.out.wide (S' := fun c => (ux + 1 ≤ c ∧ (Value.slice oa T.length oc).ownBlock ≠ some c) ∧ c < wq.heap.size + 1) (fun c h h2 => ⟨h.1, by have := h.2; omega⟩)).turn hk5
            have he5 := Ext.grown (HEQ.out.trans (Ext.alloc _ _)) HG5.out (fun k hk => by have := (HOL.out k hk).1; have := HUX.out; omega)
            have hTi2 : T.length ≤ i := hTi
            go_roundw
            case rel =>
             refine Lib.hid ⟨i + 1, x, T ++ [q], xa, xc, by go_num, by omega, by rw [List.length_append]; simp; omega, sizeT_valid HVX.out, fun _ => ⟨HVX.out, HNX.out⟩, fun h => absurd HV0.out h, fun r hr => ?_, hb5, ht5, ho5, he5⟩
             rcases List.mem_append.1 hr with hr | hr
             · exact HTR.out r hr
             · simp at hr; subst hr; exact ⟨m, HRX.out⟩
            case measure => simp [intOf]; omega
          · obtain rfl := hA11.2.2 h9
            have ee : (er != 0) = true := by rw [hA11.1]; simpa using h9
            obtain ⟨wz, hwz⟩ : ∃ wz, wz = w11.alloc (.cells #[.int .i64 0, .string ⟨#[]⟩, .int .i64 0, .slice none 0 0] 25) := ⟨_, rfl⟩
            have hEz : Ext w10 wz := by rw [hwz]; exact hE11.trans (Ext.alloc _ _)
            have HBU := Lib.hid (hs_ext hEz HBU.out)
            have HTU := Lib.hid (HTU.out.ext hEz)
            have HOW := Lib.hid (HOW.out.ext hEz)
            have HEW := Lib.hid (HEW.out.trans hEz)
            clear hA11 hE11 h9 hEz u0 u1 u2 u3 v0 v1
            go_upto_region 13 with fail
            rw [← hwz]
            clear hwz
            obtain ⟨b0, b1, b2, b3⟩ := box4r (hs_ext HEW.out HBbx.out)
            obtain ⟨u0, u1, u2, u3⟩ := box4r HBU.out
            have hcv := RValid_any (w := wz) (by have := HTZ.out; omega) (HT.out.ext HEW.out)
            obtain ⟨o, ho⟩ : ∃ o, o = validT t := ⟨_, rfl⟩
            rw [← ho] at hcv
            have HCV := Lib.hid hcv
            have HOV := Lib.hid ho
            clear hcv ho
            go_wp2_with fail
            refine HCV.out.mono ?_
            rintro e w20 ⟨rfl, hE20⟩
            obtain ⟨b0, b1, b2, b3, u0, u1, u2, u3⟩ := cs_e8 hE20 ⟨b0, b1, b2, b3, u0, u1, u2, u3⟩
            have HBU := Lib.hid (hs_ext hE20 HBU.out)
            have HTU := Lib.hid (HTU.out.ext hE20)
            have HOW := Lib.hid (HOW.out.ext hE20)
            have HEW := Lib.hid (HEW.out.trans hE20)
            clear hE20
            by_cases ho0 : o = 0
            · have eo : (o == 0) = true := by simp [ho0]
              have hck := PTrace_any (w := w20) HS.out (HL.out.ext HEW.out) (by have := HTZ.out; omega) (HT.out.ext HEW.out) HOW.out.any (by have := HUZ.out; omega) HTU.out
              rw [HVC.out (by rw [← HOV.out]; exact ho0)] at hck
              have HCK := Lib.hid hck
              clear hck ho0
              go_wp2_with fail
              refine HCK.out.mono ?_
              rintro e w21 ⟨rfl, hE21⟩
              obtain ⟨b0, b1, b2, b3, u0, u1, u2, u3⟩ := cs_e8 hE21 ⟨b0, b1, b2, b3, u0, u1, u2, u3⟩
              have HBU := Lib.hid (hs_ext hE21 HBU.out)
              have HTU := Lib.hid (HTU.out.ext hE21)
              have HOW := Lib.hid (HOW.out.ext hE21)
              have HEW := Lib.hid (HEW.out.trans hE21)
              clear hE21
              by_cases hT0 : T.length = 0
              · skip
                have hpx := fun (w' : World) (hE : Ext w21 w') => PTrace_any (w := w') HS.out ((HL.out.ext HEW.out).ext hE) (by have := HTZ.out; omega) ((HT.out.ext HEW.out).ext hE) (HOW.out.any.ext hE) (by have := HUZ.out; omega) (HTU.out.ext hE)
                have hrx := fun (w' : World) (hE : Ext w21 w') => RTrace_any (w := w') HS.out ((HL.out.ext HEW.out).ext hE) (by have := HTZ.out; omega) ((HT.out.ext HEW.out).ext hE) (HOW.out.any.ext hE) (by have := HUZ.out; omega) (HTU.out.ext hE)
                obtain ⟨p, hp⟩ : ∃ p, p = traceP R t T u := ⟨_, rfl⟩
                rw [← hp] at hpx hrx
                have epp : (p == p) = true := by simp
                have HPX := Lib.hid hpx
                have HRX := Lib.hid hrx
                have HEF := Lib.hid (HE1.out.trans HEW.out)
                have hT0z : ¬ (0 : Int) < (T.length : Int) := by omega
                clear hpx hrx hp hT0
                go_upto_region 22 with fail
                have HFCT := Lib.hid (And.intro b0 (And.intro b1 (And.intro b2 (And.intro b3 (And.intro u0 (And.intro u1 (And.intro u2 u3)))))))
                refine wp_region_reg 11 false (by kernel_rfl) (by kernel_rfl) ?_
                refine reg_value (fun _ => rfl) ?_ (fun g w' vs hM hE hP => ?_) ?_
                rotate_left
                · (clear hP hM; go_simp; first | done | rfl)
                refine reg_value (fun _ => rfl) ?_ (fun g w' vs hM hE hP => ?_) ?_
                rotate_left
                · (clear hP hM; have ⟨z0, z1, z2, z3, z4, z5, z6, z7⟩ := cs_e8 hE HFCT.out; go_simp; first | done | rfl)
                refine reg_value (fun _ => rfl) ?_ (fun g w' vs hM hE hP => ?_) ?_
                rotate_left
                · (clear hP hM; go_simp; first | done | rfl)
                refine reg_value (fun _ => rfl) ?_ (fun g w' vs hM hE hP => ?_) ?_
                rotate_left
                · (clear hP hM; have ⟨z0, z1, z2, z3, z4, z5, z6, z7⟩ := cs_e8 hE HFCT.out; go_simp; first | done | rfl)
                refine reg_const (fun _ => rfl) 23 ?_ (fun g w' vs hM hE hP => ?_) ?_
                rotate_left
                · (clear hP hM; have ⟨z0, z1, z2, z3, z4, z5, z6, z7⟩ := cs_e8 hE HFCT.out; go_simp; first | done | exact ⟨rfl, rfl⟩ | rfl)
                apply Exists.intro
                refine And.intro (fun g w' vs hM hE hP => ?_) ?_
                · exact HPX.out w' hE
                refine reg_value (fun _ => rfl) ?_ (fun g w' vs hM hE hP => ?_) ?_
                rotate_left
                · (clear hP hM; go_simp; first | done | rfl)
                refine reg_value (fun _ => rfl) ?_ (fun g w' vs hM hE hP => ?_) ?_
                rotate_left
                · (clear hP hM; have ⟨z0, z1, z2, z3, z4, z5, z6, z7⟩ := cs_e8 hE HFCT.out; go_simp; first | done | rfl)
                refine reg_value (fun _ => rfl) ?_ (fun g w' vs hM hE hP => ?_) ?_
                rotate_left
                · (clear hP hM; go_simp; first | done | rfl)
                refine reg_value (fun _ => rfl) ?_ (fun g w' vs hM hE hP => ?_) ?_
                rotate_left
                · (clear hP hM; have ⟨z0, z1, z2, z3, z4, z5, z6, z7⟩ := cs_e8 hE HFCT.out; go_simp; first | done | rfl)
                refine reg_const (fun _ => rfl) 24 ?_ (fun g w' vs hM hE hP => ?_) ?_
                rotate_left
                · (clear hP hM; have ⟨z0, z1, z2, z3, z4, z5, z6, z7⟩ := cs_e8 hE HFCT.out; go_simp; first | done | exact ⟨rfl, rfl⟩ | rfl)
                apply Exists.intro
                refine And.intro (fun g w' vs hM hE hP => ?_) ?_
                · exact HRX.out w' hE
                refine reg_value (fun _ => rfl) ?_ (fun g w' vs hM hE hP => ?_) ?_
                rotate_left
                · (clear hP hM; go_simp; first | done | rfl)
                intro g9 wz hE2 hF hQ
                simp only [List.drop_succ_cons, List.drop_zero, Act.put, List.setIfInBounds_toArray, List.set_cons_succ, List.set_cons_zero]
                have HEZ := Lib.hid (HEF.out.trans hE2)
                clear hE2 hF hQ
                go_wp2_with fail
                go_ret
                exact ⟨rb (by simp), HEZ.out⟩
              · have hT1 : (0 : Int) < (T.length : Int) := by omega
                obtain ⟨d, hd⟩ : ∃ d, D[0]? = some d := ⟨_, List.getElem?_eq_getElem (by have := HTD.out; omega)⟩
                obtain ⟨db, do', hda, e0, e256⟩ := (HD.out.ext HEW.out).bAt hd
                cases hda
                rw [Nat.add_zero] at e0
                obtain ⟨k, hk⟩ : ∃ k, k = d % T.length := ⟨_, rfl⟩
                have hkT : k < T.length := by rw [hk]; exact Nat.mod_lt _ (by omega)
                obtain ⟨q, hq⟩ : ∃ q, T[k]? = some q := ⟨_, List.getElem?_eq_getElem hkT⟩
                obtain ⟨m, hm, hmR⟩ := HTR.out q (List.mem_of_getElem? hq)
                obtain ⟨g, gc, cs, hov2, hgb, hgl, hRq, hcs⟩ := HOW.out.at hq
                cases hov2
                obtain ⟨qv, hcse, hq64, hqP⟩ := hRq
                subst hcse
                have r0 : w21.cell? ⟨g, k * 2, none⟩ = some (.int .i64 q.1) := hcs 0 _ rfl
                rw [hm] at r0
                obtain ⟨cur, hcur⟩ := HOW.out.block (g := g) rfl
                have f0 : w21.frozen? ⟨g, k * 2, none⟩ = false := frozenc hcur
                obtain ⟨z, hz⟩ : ∃ z, z = (m + 1) % R.length := ⟨_, rfl⟩
                have hz5 : z < R.length := by rw [hz]; exact Nat.mod_lt _ (by omega)
                have hkz : Int.tmod (d : Int) (T.length : Int) = (k : Int) := by rw [hk, Int.tmod_eq_emod_of_nonneg (by omega)]; exact (Int.natCast_emod _ _).symm
                have hkz2 : (d : Int) % (T.length : Int) = (k : Int) := by rw [hk]; exact (Int.natCast_emod _ _).symm
                have hzz : Int.tmod ((m : Int) + 1) (R.length : Int) = (z : Int) := by rw [hz, Int.tmod_eq_emod_of_nonneg (by omega), Int.natCast_emod]; rfl
                have hzz2 : ((m : Int) + 1) % (R.length : Int) = (z : Int) := by rw [hz, Int.natCast_emod]; rfl
                have hTn : ¬ ((T.length : Int) = 0) := by omega
                have hRn : ¬ ((R.length : Int) = 0) := by omega
                have hk0 : (0 : Int) ≤ (k : Int) := by omega
                have hkl : (k : Int) < (T.length : Int) := by omega
                have HSET := Lib.hid (HOW.out.setFst hq (z := (z : Int)) (by have := HR5.out; unfold I64; omega) (fun c h e => h.2 (by rw [e]; rfl)))
                have HGX : Hid (ux + 1 ≤ g) := Lib.hid hgb
                have hm64 : (m : Int) + 1 ≤ 100 := by have := HR5.out; omega
                have hm0 : (0 : Int) ≤ (m : Int) := by omega
                clear hd hk hkT hm hcs hqP hq64 hcur hz
                go_upto_region 22 with fail
                obtain ⟨ws, hws⟩ : ∃ ws, ws = w21.setCell ⟨g, k * 2, none⟩ (.int .i64 (z : Int)) := ⟨_, rfl⟩
                have hst := HSET.out
                rw [← hws] at hst ⊢
                have hsc : ∀ c, c ≠ g → ws.heap[c]? = w21.heap[c]? := fun c h => by rw [hws]; exact heap_setCell_other _ _ _ _ h
                have hEs : Ext w6 ws := by rw [hws]; exact HEW.out.setCell (by have := HGX.out; have := HUX.out; omega) _
                obtain ⟨b0, b1, b2, b3⟩ := box4r ((hsc bx (by have := HGX.out; have := HUX.out; omega)).trans (hs_ext HEW.out HBbx.out))
                obtain ⟨u0, u1, u2, u3⟩ := box4r ((hsc ux (by have := HGX.out; omega)).trans HBU.out)
                have hTu2 := HTU.out.keep (w' := ws) (fun c h _ => hsc c (fun e => h.2 (by rw [e]; rfl))) (fun _ h _ => h)
                obtain ⟨T2, hT2⟩ : ∃ T2, T2 = T.set k ((z : Int), q.2) := ⟨_, rfl⟩
                have hlen : T2.length = T.length := by rw [hT2, List.length_set]
                rw [← hT2] at hst
                have hz1 : sizeT t ≤ 100000 := by have := HTZ.out; omega
                have hz2 : sizeT u ≤ 100000 := by have := HUZ.out; omega
                have hst2 : LsG elX ws Any (.slice (some ⟨g, 0, none⟩) T2.length oc) T2 := by rw [hlen]; exact hst
                have hpx := fun (w' : World) (hE : Ext ws w') => PTrace_any (w := w') HS.out ((HL.out.ext hEs).ext hE) hz1 ((HT.out.ext hEs).ext hE) (hst2.ext hE) hz2 (hTu2.ext hE)
                have hrx := fun (w' : World) (hE : Ext ws w') => RTrace_any (w := w') HS.out ((HL.out.ext hEs).ext hE) hz1 ((HT.out.ext hEs).ext hE) (hst2.ext hE) hz2 (hTu2.ext hE)
                rw [hlen] at hpx hrx
                obtain ⟨p, hp⟩ : ∃ p, p = traceP R t T2 u := ⟨_, rfl⟩
                rw [← hp] at hpx hrx
                have epp : (p == p) = true := by simp
                have HPX := Lib.hid hpx
                have HRX := Lib.hid hrx
                have HEF := Lib.hid (HE1.out.trans hEs)
                clear hst hws hsc hEs hTu2 hT2 hlen hpx hrx hp
                have HFCT := Lib.hid (And.intro b0 (And.intro b1 (And.intro b2 (And.intro b3 (And.intro u0 (And.intro u1 (And.intro u2 u3)))))))
                refine wp_region_reg 11 false (by kernel_rfl) (by kernel_rfl) ?_
                refine reg_value (fun _ => rfl) ?_ (fun g w' vs hM hE hP => ?_) ?_
                rotate_left
                · (clear hP hM; go_simp; first | done | rfl)
                refine reg_value (fun _ => rfl) ?_ (fun g w' vs hM hE hP => ?_) ?_
                rotate_left
                · (clear hP hM; have ⟨z0, z1, z2, z3, z4, z5, z6, z7⟩ := cs_e8 hE HFCT.out; go_simp; first | done | rfl)
                refine reg_value (fun _ => rfl) ?_ (fun g w' vs hM hE hP => ?_) ?_
                rotate_left
                · (clear hP hM; go_simp; first | done | rfl)
                refine reg_value (fun _ => rfl) ?_ (fun g w' vs hM hE hP => ?_) ?_
                rotate_left
                · (clear hP hM; have ⟨z0, z1, z2, z3, z4, z5, z6, z7⟩ := cs_e8 hE HFCT.out; go_simp; first | done | rfl)
                refine reg_const (fun _ => rfl) 23 ?_ (fun g w' vs hM hE hP => ?_) ?_
                rotate_left
                · (clear hP hM; have ⟨z0, z1, z2, z3, z4, z5, z6, z7⟩ := cs_e8 hE HFCT.out; go_simp; first | done | exact ⟨rfl, rfl⟩ | rfl)
                apply Exists.intro
                refine And.intro (fun g w' vs hM hE hP => ?_) ?_
                · exact HPX.out w' hE
                refine reg_value (fun _ => rfl) ?_ (fun g w' vs hM hE hP => ?_) ?_
                rotate_left
                · (clear hP hM; go_simp; first | done | rfl)
                refine reg_value (fun _ => rfl) ?_ (fun g w' vs hM hE hP => ?_) ?_
                rotate_left
                · (clear hP hM; have ⟨z0, z1, z2, z3, z4, z5, z6, z7⟩ := cs_e8 hE HFCT.out; go_simp; first | done | rfl)
                refine reg_value (fun _ => rfl) ?_ (fun g w' vs hM hE hP => ?_) ?_
                rotate_left
                · (clear hP hM; go_simp; first | done | rfl)
                refine reg_value (fun _ => rfl) ?_ (fun g w' vs hM hE hP => ?_) ?_
                rotate_left
                · (clear hP hM; have ⟨z0, z1, z2, z3, z4, z5, z6, z7⟩ := cs_e8 hE HFCT.out; go_simp; first | done | rfl)
                refine reg_const (fun _ => rfl) 24 ?_ (fun g w' vs hM hE hP => ?_) ?_
                rotate_left
                · (clear hP hM; have ⟨z0, z1, z2, z3, z4, z5, z6, z7⟩ := cs_e8 hE HFCT.out; go_simp; first | done | exact ⟨rfl, rfl⟩ | rfl)
                apply Exists.intro
                refine And.intro (fun g w' vs hM hE hP => ?_) ?_
                · exact HRX.out w' hE
                refine reg_value (fun _ => rfl) ?_ (fun g w' vs hM hE hP => ?_) ?_
                rotate_left
                · (clear hP hM; go_simp; first | done | rfl)
                intro g9 wz hE2 hF hQ
                simp only [List.drop_succ_cons, List.drop_zero, Act.put, List.setIfInBounds_toArray, List.set_cons_succ, List.set_cons_zero]
                have HEZ := Lib.hid (HEF.out.trans hE2)
                clear hE2 hF hQ
                go_wp2_with fail
                go_ret
                exact ⟨rb (by simp), HEZ.out⟩
            · have eo : (o == 0) = false := by simp [ho0]
              have hT0 : T.length = 0 := by rw [HTE.out (by rw [← HOV.out]; exact ho0)]; rfl
              clear ho0
              have hpx := fun (w' : World) (hE : Ext w20 w') => PTrace_any (w := w') HS.out ((HL.out.ext HEW.out).ext hE) (by have := HTZ.out; omega) ((HT.out.ext HEW.out).ext hE) (HOW.out.any.ext hE) (by have := HUZ.out; omega) (HTU.out.ext hE)
              have hrx := fun (w' : World) (hE : Ext w20 w') => RTrace_any (w := w') HS.out ((HL.out.ext HEW.out).ext hE) (by have := HTZ.out; omega) ((HT.out.ext HEW.out).ext hE) (HOW.out.any.ext hE) (by have := HUZ.out; omega) (HTU.out.ext hE)
              obtain ⟨p, hp⟩ : ∃ p, p = traceP R t T u := ⟨_, rfl⟩
              rw [← hp] at hpx hrx
              have epp : (p == p) = true := by simp
              have HPX := Lib.hid hpx
              have HRX := Lib.hid hrx
              have HEF := Lib.hid (HE1.out.trans HEW.out)
              have hT0z : ¬ (0 : Int) < (T.length : Int) := by omega
              clear hpx hrx hp hT0
              go_upto_region 22 with fail
              have HFCT := Lib.hid (And.intro b0 (And.intro b1 (And.intro b2 (And.intro b3 (And.intro u0 (And.intro u1 (And.intro u2 u3)))))))
              refine wp_region_reg 11 false (by kernel_rfl) (by kernel_rfl) ?_
              refine reg_value (fun _ => rfl) ?_ (fun g w' vs hM hE hP => ?_) ?_
              rotate_left
              · (clear hP hM; go_simp; first | done | rfl)
              refine reg_value (fun _ => rfl) ?_ (fun g w' vs hM hE hP => ?_) ?_
              rotate_left
              · (clear hP hM; have ⟨z0, z1, z2, z3, z4, z5, z6, z7⟩ := cs_e8 hE HFCT.out; go_simp; first | done | rfl)
              refine reg_value (fun _ => rfl) ?_ (fun g w' vs hM hE hP => ?_) ?_
              rotate_left
              · (clear hP hM; go_simp; first | done | rfl)
              refine reg_value (fun _ => rfl) ?_ (fun g w' vs hM hE hP => ?_) ?_
              rotate_left
              · (clear hP hM; have ⟨z0, z1, z2, z3, z4, z5, z6, z7⟩ := cs_e8 hE HFCT.out; go_simp; first | done | rfl)
              refine reg_const (fun _ => rfl) 23 ?_ (fun g w' vs hM hE hP => ?_) ?_
              rotate_left
              · (clear hP hM; have ⟨z0, z1, z2, z3, z4, z5, z6, z7⟩ := cs_e8 hE HFCT.out; go_simp; first | done | exact ⟨rfl, rfl⟩ | rfl)
              apply Exists.intro
              refine And.intro (fun g w' vs hM hE hP => ?_) ?_
              · exact HPX.out w' hE
              refine reg_value (fun _ => rfl) ?_ (fun g w' vs hM hE hP => ?_) ?_
              rotate_left
              · (clear hP hM; go_simp; first | done | rfl)
              refine reg_value (fun _ => rfl) ?_ (fun g w' vs hM hE hP => ?_) ?_
              rotate_left
              · (clear hP hM; have ⟨z0, z1, z2, z3, z4, z5, z6, z7⟩ := cs_e8 hE HFCT.out; go_simp; first | done | rfl)
              refine reg_value (fun _ => rfl) ?_ (fun g w' vs hM hE hP => ?_) ?_
              rotate_left
              · (clear hP hM; go_simp; first | done | rfl)
              refine reg_value (fun _ => rfl) ?_ (fun g w' vs hM hE hP => ?_) ?_
              rotate_left
              · (clear hP hM; have ⟨z0, z1, z2, z3, z4, z5, z6, z7⟩ := cs_e8 hE HFCT.out; go_simp; first | done | rfl)
              refine reg_const (fun _ => rfl) 24 ?_ (fun g w' vs hM hE hP => ?_) ?_
              rotate_left
              · (clear hP hM; have ⟨z0, z1, z2, z3, z4, z5, z6, z7⟩ := cs_e8 hE HFCT.out; go_simp; first | done | exact ⟨rfl, rfl⟩ | rfl)
              apply Exists.intro
              refine And.intro (fun g w' vs hM hE hP => ?_) ?_
              · exact HRX.out w' hE
              refine reg_value (fun _ => rfl) ?_ (fun g w' vs hM hE hP => ?_) ?_
              rotate_left
              · (clear hP hM; go_simp; first | done | rfl)
              intro g9 wz hE2 hF hQ
              simp only [List.drop_succ_cons, List.drop_zero, Act.put, List.setIfInBounds_toArray, List.set_cons_succ, List.set_cons_zero]
              have HEZ := Lib.hid (HEF.out.trans hE2)
              clear hE2 hF hQ
              go_wp2_with fail
              go_ret
              exact ⟨rb (by simp), HEZ.out⟩
      · have hiz : ¬ ((i : Int) < (D.length : Int)) := by omega
        obtain ⟨b0, b1, b2, b3⟩ := box4r (hs_ext HEW.out HBbx.out)
        obtain ⟨u0, u1, u2, u3⟩ := box4r HBU.out
        have hcv := RValid_any (w := wr) (by have := HTZ.out; omega) (HT.out.ext HEW.out)
        obtain ⟨o, ho⟩ : ∃ o, o = validT t := ⟨_, rfl⟩
        rw [← ho] at hcv
        have HCV := Lib.hid hcv
        have HOV := Lib.hid ho
        clear hcv ho
        go_wp2_with fail
        refine HCV.out.mono ?_
        rintro e w20 ⟨rfl, hE20⟩
        obtain ⟨b0, b1, b2, b3, u0, u1, u2, u3⟩ := cs_e8 hE20 ⟨b0, b1, b2, b3, u0, u1, u2, u3⟩
        have HBU := Lib.hid (hs_ext hE20 HBU.out)
        have HTU := Lib.hid (HTU.out.ext hE20)
        have HOW := Lib.hid (HOW.out.ext hE20)
        have HEW := Lib.hid (HEW.out.trans hE20)
        clear hE20
        by_cases ho0 : o = 0
        · have eo : (o == 0) = true := by simp [ho0]
          have hck := PTrace_any (w := w20) HS.out (HL.out.ext HEW.out) (by have := HTZ.out; omega) (HT.out.ext HEW.out) HOW.out.any (by have := HUZ.out; omega) HTU.out
          rw [HVC.out (by rw [← HOV.out]; exact ho0)] at hck
          have HCK := Lib.hid hck
          clear hck ho0
          go_wp2_with fail
          refine HCK.out.mono ?_
          rintro e w21 ⟨rfl, hE21⟩
          obtain ⟨b0, b1, b2, b3, u0, u1, u2, u3⟩ := cs_e8 hE21 ⟨b0, b1, b2, b3, u0, u1, u2, u3⟩
          have HBU := Lib.hid (hs_ext hE21 HBU.out)
          have HTU := Lib.hid (HTU.out.ext hE21)
          have HOW := Lib.hid (HOW.out.ext hE21)
          have HEW := Lib.hid (HEW.out.trans hE21)
          clear hE21
          by_cases hT0 : T.length = 0
          · skip
            have hpx := fun (w' : World) (hE : Ext w21 w') => PTrace_any (w := w') HS.out ((HL.out.ext HEW.out).ext hE) (by have := HTZ.out; omega) ((HT.out.ext HEW.out).ext hE) (HOW.out.any.ext hE) (by have := HUZ.out; omega) (HTU.out.ext hE)
            have hrx := fun (w' : World) (hE : Ext w21 w') => RTrace_any (w := w') HS.out ((HL.out.ext HEW.out).ext hE) (by have := HTZ.out; omega) ((HT.out.ext HEW.out).ext hE) (HOW.out.any.ext hE) (by have := HUZ.out; omega) (HTU.out.ext hE)
            obtain ⟨p, hp⟩ : ∃ p, p = traceP R t T u := ⟨_, rfl⟩
            rw [← hp] at hpx hrx
            have epp : (p == p) = true := by simp
            have HPX := Lib.hid hpx
            have HRX := Lib.hid hrx
            have HEF := Lib.hid (HE1.out.trans HEW.out)
            have hT0z : ¬ (0 : Int) < (T.length : Int) := by omega
            clear hpx hrx hp hT0
            go_upto_region 22 with fail
            have HFCT := Lib.hid (And.intro b0 (And.intro b1 (And.intro b2 (And.intro b3 (And.intro u0 (And.intro u1 (And.intro u2 u3)))))))
            refine wp_region_reg 11 false (by kernel_rfl) (by kernel_rfl) ?_
            refine reg_value (fun _ => rfl) ?_ (fun g w' vs hM hE hP => ?_) ?_
            rotate_left
            · (clear hP hM; go_simp; first | done | rfl)
            refine reg_value (fun _ => rfl) ?_ (fun g w' vs hM hE hP => ?_) ?_
            rotate_left
            · (clear hP hM; have ⟨z0, z1, z2, z3, z4, z5, z6, z7⟩ := cs_e8 hE HFCT.out; go_simp; first | done | rfl)
            refine reg_value (fun _ => rfl) ?_ (fun g w' vs hM hE hP => ?_) ?_
            rotate_left
            · (clear hP hM; go_simp; first | done | rfl)
            refine reg_value (fun _ => rfl) ?_ (fun g w' vs hM hE hP => ?_) ?_
            rotate_left
            · (clear hP hM; have ⟨z0, z1, z2, z3, z4, z5, z6, z7⟩ := cs_e8 hE HFCT.out; go_simp; first | done | rfl)
            refine reg_const (fun _ => rfl) 23 ?_ (fun g w' vs hM hE hP => ?_) ?_
            rotate_left
            · (clear hP hM; have ⟨z0, z1, z2, z3, z4, z5, z6, z7⟩ := cs_e8 hE HFCT.out; go_simp; first | done | exact ⟨rfl, rfl⟩ | rfl)
            apply Exists.intro
            refine And.intro (fun g w' vs hM hE hP => ?_) ?_
            · exact HPX.out w' hE
            refine reg_value (fun _ => rfl) ?_ (fun g w' vs hM hE hP => ?_) ?_
            rotate_left
            · (clear hP hM; go_simp; first | done | rfl)
            refine reg_value (fun _ => rfl) ?_ (fun g w' vs hM hE hP => ?_) ?_
            rotate_left
            · (clear hP hM; have ⟨z0, z1, z2, z3, z4, z5, z6, z7⟩ := cs_e8 hE HFCT.out; go_simp; first | done | rfl)
            refine reg_value (fun _ => rfl) ?_ (fun g w' vs hM hE hP => ?_) ?_
            rotate_left
            · (clear hP hM; go_simp; first | done | rfl)
            refine reg_value (fun _ => rfl) ?_ (fun g w' vs hM hE hP => ?_) ?_
            rotate_left
            · (clear hP hM; have ⟨z0, z1, z2, z3, z4, z5, z6, z7⟩ := cs_e8 hE HFCT.out; go_simp; first | done | rfl)
            refine reg_const (fun _ => rfl) 24 ?_ (fun g w' vs hM hE hP => ?_) ?_
            rotate_left
            · (clear hP hM; have ⟨z0, z1, z2, z3, z4, z5, z6, z7⟩ := cs_e8 hE HFCT.out; go_simp; first | done | exact ⟨rfl, rfl⟩ | rfl)
            apply Exists.intro
            refine And.intro (fun g w' vs hM hE hP => ?_) ?_
            · exact HRX.out w' hE
            refine reg_value (fun _ => rfl) ?_ (fun g w' vs hM hE hP => ?_) ?_
            rotate_left
            · (clear hP hM; go_simp; first | done | rfl)
            intro g9 wz hE2 hF hQ
            simp only [List.drop_succ_cons, List.drop_zero, Act.put, List.setIfInBounds_toArray, List.set_cons_succ, List.set_cons_zero]
            have HEZ := Lib.hid (HEF.out.trans hE2)
            clear hE2 hF hQ
            go_wp2_with fail
            go_ret
            exact ⟨rb (by simp), HEZ.out⟩
          · have hT1 : (0 : Int) < (T.length : Int) := by omega
            obtain ⟨d, hd⟩ : ∃ d, D[0]? = some d := ⟨_, List.getElem?_eq_getElem (by have := HTD.out; omega)⟩
            obtain ⟨db, do', hda, e0, e256⟩ := (HD.out.ext HEW.out).bAt hd
            cases hda
            rw [Nat.add_zero] at e0
            obtain ⟨k, hk⟩ : ∃ k, k = d % T.length := ⟨_, rfl⟩
            have hkT : k < T.length := by rw [hk]; exact Nat.mod_lt _ (by omega)
            obtain ⟨q, hq⟩ : ∃ q, T[k]? = some q := ⟨_, List.getElem?_eq_getElem hkT⟩
            obtain ⟨m, hm, hmR⟩ := HTR.out q (List.mem_of_getElem? hq)
            obtain ⟨g, gc, cs, hov2, hgb, hgl, hRq, hcs⟩ := HOW.out.at hq
            cases hov2
            obtain ⟨qv, hcse, hq64, hqP⟩ := hRq
            subst hcse
            have r0 : w21.cell? ⟨g, k * 2, none⟩ = some (.int .i64 q.1) := hcs 0 _ rfl
            rw [hm] at r0
            obtain ⟨cur, hcur⟩ := HOW.out.block (g := g) rfl
            have f0 : w21.frozen? ⟨g, k * 2, none⟩ = false := frozenc hcur
            obtain ⟨z, hz⟩ : ∃ z, z = (m + 1) % R.length := ⟨_, rfl⟩
            have hz5 : z < R.length := by rw [hz]; exact Nat.mod_lt _ (by omega)
            have hkz : Int.tmod (d : Int) (T.length : Int) = (k : Int) := by rw [hk, Int.tmod_eq_emod_of_nonneg (by omega)]; exact (Int.natCast_emod _ _).symm
            have hkz2 : (d : Int) % (T.length : Int) = (k : Int) := by rw [hk]; exact (Int.natCast_emod _ _).symm
            have hzz : Int.tmod ((m : Int) + 1) (R.length : Int) = (z : Int) := by rw [hz, Int.tmod_eq_emod_of_nonneg (by omega), Int.natCast_emod]; rfl
            have hzz2 : ((m : Int) + 1) % (R.length : Int) = (z : Int) := by rw [hz, Int.natCast_emod]; rfl
            have hTn : ¬ ((T.length : Int) = 0) := by omega
            have hRn : ¬ ((R.length : Int) = 0) := by omega
            have hk0 : (0 : Int) ≤ (k : Int) := by omega
            have hkl : (k : Int) < (T.length : Int) := by omega
            have HSET := Lib.hid (HOW.out.setFst hq (z := (z : Int)) (by have := HR5.out; unfold I64; omega) (fun c h e => h.2 (by rw [e]; rfl)))
            have HGX : Hid (ux + 1 ≤ g) := Lib.hid hgb
            have hm64 : (m : Int) + 1 ≤ 100 := by have := HR5.out; omega
            have hm0 : (0 : Int) ≤ (m : Int) := by omega
            clear hd hk hkT hm hcs hqP hq64 hcur hz
            go_upto_region 22 with fail
            obtain ⟨ws, hws⟩ : ∃ ws, ws = w21.setCell ⟨g, k * 2, none⟩ (.int .i64 (z : Int)) := ⟨_, rfl⟩
            have hst := HSET.out
            rw [← hws] at hst ⊢
            have hsc : ∀ c, c ≠ g → ws.heap[c]? = w21.heap[c]? := fun c h => by rw [hws]; exact heap_setCell_other _ _ _ _ h
            have hEs : Ext w6 ws := by rw [hws]; exact HEW.out.setCell (by have := HGX.out; have := HUX.out; omega) _
            obtain ⟨b0, b1, b2, b3⟩ := box4r ((hsc bx (by have := HGX.out; have := HUX.out; omega)).trans (hs_ext HEW.out HBbx.out))
            obtain ⟨u0, u1, u2, u3⟩ := box4r ((hsc ux (by have := HGX.out; omega)).trans HBU.out)
            have hTu2 := HTU.out.keep (w' := ws) (fun c h _ => hsc c (fun e => h.2 (by rw [e]; rfl))) (fun _ h _ => h)
            obtain ⟨T2, hT2⟩ : ∃ T2, T2 = T.set k ((z : Int), q.2) := ⟨_, rfl⟩
            have hlen : T2.length = T.length := by rw [hT2, List.length_set]
            rw [← hT2] at hst
            have hz1 : sizeT t ≤ 100000 := by have := HTZ.out; omega
            have hz2 : sizeT u ≤ 100000 := by have := HUZ.out; omega
            have hst2 : LsG elX ws Any (.slice (some ⟨g, 0, none⟩) T2.length oc) T2 := by rw [hlen]; exact hst
            have hpx := fun (w' : World) (hE : Ext ws w') => PTrace_any (w := w') HS.out ((HL.out.ext hEs).ext hE) hz1 ((HT.out.ext hEs).ext hE) (hst2.ext hE) hz2 (hTu2.ext hE)
            have hrx := fun (w' : World) (hE : Ext ws w') => RTrace_any (w := w') HS.out ((HL.out.ext hEs).ext hE) hz1 ((HT.out.ext hEs).ext hE) (hst2.ext hE) hz2 (hTu2.ext hE)
            rw [hlen] at hpx hrx
            obtain ⟨p, hp⟩ : ∃ p, p = traceP R t T2 u := ⟨_, rfl⟩
            rw [← hp] at hpx hrx
            have epp : (p == p) = true := by simp
            have HPX := Lib.hid hpx
            have HRX := Lib.hid hrx
            have HEF := Lib.hid (HE1.out.trans hEs)
            clear hst hws hsc hEs hTu2 hT2 hlen hpx hrx hp
            have HFCT := Lib.hid (And.intro b0 (And.intro b1 (And.intro b2 (And.intro b3 (And.intro u0 (And.intro u1 (And.intro u2 u3)))))))
            refine wp_region_reg 11 false (by kernel_rfl) (by kernel_rfl) ?_
            refine reg_value (fun _ => rfl) ?_ (fun g w' vs hM hE hP => ?_) ?_
            rotate_left
            · (clear hP hM; go_simp; first | done | rfl)
            refine reg_value (fun _ => rfl) ?_ (fun g w' vs hM hE hP => ?_) ?_
            rotate_left
            · (clear hP hM; have ⟨z0, z1, z2, z3, z4, z5, z6, z7⟩ := cs_e8 hE HFCT.out; go_simp; first | done | rfl)
            refine reg_value (fun _ => rfl) ?_ (fun g w' vs hM hE hP => ?_) ?_
            rotate_left
            · (clear hP hM; go_simp; first | done | rfl)
            refine reg_value (fun _ => rfl) ?_ (fun g w' vs hM hE hP => ?_) ?_
            rotate_left
            · (clear hP hM; have ⟨z0, z1, z2, z3, z4, z5, z6, z7⟩ := cs_e8 hE HFCT.out; go_simp; first | done | rfl)
            refine reg_const (fun _ => rfl) 23 ?_ (fun g w' vs hM hE hP => ?_) ?_
            rotate_left
            · (clear hP hM; have ⟨z0, z1, z2, z3, z4, z5, z6, z7⟩ := cs_e8 hE HFCT.out; go_simp; first | done | exact ⟨rfl, rfl⟩ | rfl)
            apply Exists.intro
            refine And.intro (fun g w' vs hM hE hP => ?_) ?_
            · exact HPX.out w' hE
            refine reg_value (fun _ => rfl) ?_ (fun g w' vs hM hE hP => ?_) ?_
            rotate_left
            · (clear hP hM; go_simp; first | done | rfl)
            refine reg_value (fun _ => rfl) ?_ (fun g w' vs hM hE hP => ?_) ?_
            rotate_left
            · (clear hP hM; have ⟨z0, z1, z2, z3, z4, z5, z6, z7⟩ := cs_e8 hE HFCT.out; go_simp; first | done | rfl)
            refine reg_value (fun _ => rfl) ?_ (fun g w' vs hM hE hP => ?_) ?_
            rotate_left
            · (clear hP hM; go_simp; first | done | rfl)
            refine reg_value (fun _ => rfl) ?_ (fun g w' vs hM hE hP => ?_) ?_
            rotate_left
            · (clear hP hM; have ⟨z0, z1, z2, z3, z4, z5, z6, z7⟩ := cs_e8 hE HFCT.out; go_simp; first | done | rfl)
            refine reg_const (fun _ => rfl) 24 ?_ (fun g w' vs hM hE hP => ?_) ?_
            rotate_left
            · (clear hP hM; have ⟨z0, z1, z2, z3, z4, z5, z6, z7⟩ := cs_e8 hE HFCT.out; go_simp; first | done | exact ⟨rfl, rfl⟩ | rfl)
            apply Exists.intro
            refine And.intro (fun g w' vs hM hE hP => ?_) ?_
            · exact HRX.out w' hE
            refine reg_value (fun _ => rfl) ?_ (fun g w' vs hM hE hP => ?_) ?_
            rotate_left
            · (clear hP hM; go_simp; first | done | rfl)
            intro g9 wz hE2 hF hQ
            simp only [List.drop_succ_cons, List.drop_zero, Act.put, List.setIfInBounds_toArray, List.set_cons_succ, List.set_cons_zero]
            have HEZ := Lib.hid (HEF.out.trans hE2)
            clear hE2 hF hQ
            go_wp2_with fail
            go_ret
            exact ⟨rb (by simp), HEZ.out⟩
        · have eo : (o == 0) = false := by simp [ho0]
          have hT0 : T.length = 0 := by rw [HTE.out (by rw [← HOV.out]; exact ho0)]; rfl
          clear ho0
          have hpx := fun (w' : World) (hE : Ext w20 w') => PTrace_any (w := w') HS.out ((HL.out.ext HEW.out).ext hE) (by have := HTZ.out; omega) ((HT.out.ext HEW.out).ext hE) (HOW.out.any.ext hE) (by have := HUZ.out; omega) (HTU.out.ext hE)
          have hrx := fun (w' : World) (hE : Ext w20 w') => RTrace_any (w := w') HS.out ((HL.out.ext HEW.out).ext hE) (by have := HTZ.out; omega) ((HT.out.ext HEW.out).ext hE) (HOW.out.any.ext hE) (by have := HUZ.out; omega) (HTU.out.ext hE)
          obtain ⟨p, hp⟩ : ∃ p, p = traceP R t T u := ⟨_, rfl⟩
          rw [← hp] at hpx hrx
          have epp : (p == p) = true := by simp
          have HPX := Lib.hid hpx
          have HRX := Lib.hid hrx
          have HEF := Lib.hid (HE1.out.trans HEW.out)
          have hT0z : ¬ (0 : Int) < (T.length : Int) := by omega
          clear hpx hrx hp hT0
          go_upto_region 22 with fail
          have HFCT := Lib.hid (And.intro b0 (And.intro b1 (And.intro b2 (And.intro b3 (And.intro u0 (And.intro u1 (And.intro u2 u3)))))))
          refine wp_region_reg 11 false (by kernel_rfl) (by kernel_rfl) ?_
          refine reg_value (fun _ => rfl) ?_ (fun g w' vs hM hE hP => ?_) ?_
          rotate_left
          · (clear hP hM; go_simp; first | done | rfl)
          refine reg_value (fun _ => rfl) ?_ (fun g w' vs hM hE hP => ?_) ?_
          rotate_left
          · (clear hP hM; have ⟨z0, z1, z2, z3, z4, z5, z6, z7⟩ := cs_e8 hE HFCT.out; go_simp; first | done | rfl)
          refine reg_value (fun _ => rfl) ?_ (fun g w' vs hM hE hP => ?_) ?_
          rotate_left
          · (clear hP hM; go_simp; first | done | rfl)
          refine reg_value (fun _ => rfl) ?_ (fun g w' vs hM hE hP => ?_) ?_
          rotate_left
          · (clear hP hM; have ⟨z0, z1, z2, z3, z4, z5, z6, z7⟩ := cs_e8 hE HFCT.out; go_simp; first | done | rfl)
          refine reg_const (fun _ => rfl) 23 ?_ (fun g w' vs hM hE hP => ?_) ?_
          rotate_left
          · (clear hP hM; have ⟨z0, z1, z2, z3, z4, z5, z6, z7⟩ := cs_e8 hE HFCT.out; go_simp; first | done | exact ⟨rfl, rfl⟩ | rfl)
          apply Exists.intro
          refine And.intro (fun g w' vs hM hE hP => ?_) ?_
          · exact HPX.out w' hE
          refine reg_value (fun _ => rfl) ?_ (fun g w' vs hM hE hP => ?_) ?_
          rotate_left
          · (clear hP hM; go_simp; first | done | rfl)
          refine reg_value (fun _ => rfl) ?_ (fun g w' vs hM hE hP => ?_) ?_
          rotate_left
          · (clear hP hM; have ⟨z0, z1, z2, z3, z4, z5, z6, z7⟩ := cs_e8 hE HFCT.out; go_simp; first | done | rfl)
          refine reg_value (fun _ => rfl) ?_ (fun g w' vs hM hE hP => ?_) ?_
          rotate_left
          · (clear hP hM; go_simp; first | done | rfl)
          refine reg_value (fun _ => rfl) ?_ (fun g w' vs hM hE hP => ?_) ?_
          rotate_left
          · (clear hP hM; have ⟨z0, z1, z2, z3, z4, z5, z6, z7⟩ := cs_e8 hE HFCT.out; go_simp; first | done | rfl)
          refine reg_const (fun _ => rfl) 24 ?_ (fun g w' vs hM hE hP => ?_) ?_
          rotate_left
          · (clear hP hM; have ⟨z0, z1, z2, z3, z4, z5, z6, z7⟩ := cs_e8 hE HFCT.out; go_simp; first | done | exact ⟨rfl, rfl⟩ | rfl)
          apply Exists.intro
          refine And.intro (fun g w' vs hM hE hP => ?_) ?_
          · exact HRX.out w' hE
          refine reg_value (fun _ => rfl) ?_ (fun g w' vs hM hE hP => ?_) ?_
          rotate_left
          · (clear hP hM; go_simp; first | done | rfl)
          intro g9 wz hE2 hF hQ
          simp only [List.drop_succ_cons, List.drop_zero, Act.put, List.setIfInBounds_toArray, List.set_cons_succ, List.set_cons_zero]
          have HEZ := Lib.hid (HEF.out.trans hE2)
          clear hE2 hF hQ
          go_wp2_with fail
          go_ret
          exact ⟨rb (by simp), HEZ.out⟩

end Go.Proofs.YtpfnlbaloaohgaaGreat
