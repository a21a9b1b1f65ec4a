/- The walk of the law RewriteStable. -/
import Derived.Test.YtpfnlbaloaohgaaA2
import Derived.Test.YtpfnlbaloaohgaaH20
import Derived.Test.YtpfnlbaloaohgaaO8
import Derived.Test.YtpfnlbaloaohgaaH7
import Derived.Test.YtpfnlbaloaohgaaR13
namespace Go.Proofs.Ytpfnlbaloaohgaa
open Go Go.RowKit
set_option linter.unusedVariables false
set_option linter.unusedSimpArgs false

theorem few_one5 {t : Tm} {m : Int} (h : fewT [t] 1 m = true) : (sizeT t : Int) ≤ m := by
 have h1 := (few_size h).2
 simp only [sizeL] at h1
 omega
theorem stepP_zero5 {R : List Rl} {t : Tm} {r : Rdx} (h : (stepP R t r).1 ≠ 0) : (stepP R t r).2 = zeroTm := by
 unfold stepP at h ⊢
 split
 · rfl
 · rename_i rl hr
   rw [hr] at h
   simp only at h
   split
   · rfl
   · rename_i u hu
     rw [hu] at h
     simp only at h
     split
     · rfl
     · rename_i h1
       rw [if_neg h1] at h
       split
       · rfl
       · rename_i h2
         rw [if_neg h2] at h
         split
         · rfl
         · rename_i y hy
           rw [hy] at h
           simp only at h
           split
           · rfl
           · rename_i h3
             rw [if_neg h3] at h
             exact absurd rfl h
theorem applyS_zero {B : List (Tm × Tm)} {t : Tm} (h : (applyS B t).1 ≠ 0) : (applyS B t).2 = zeroTm := by
 unfold applyS at h ⊢
 split
 · rfl
 · rename_i h1
   rw [if_neg h1] at h
   split
   · rfl
   · rename_i h2
     rw [if_neg h2] at h
     split
     · rfl
     · rename_i h3
       rw [if_neg h3] at h
       exact absurd rfl h
theorem errR_is {w : World} {S : Nat → Prop} {v : Value} {er : Int} {Q : Int × Tm} (h : errR w S v er Q.2 Q.1) (hz : Q.1 ≠ 0 → Q.2 = zeroTm) : er = Q.1 ∧ IsS w Any v Q.2 := by
 obtain ⟨rfl, h0, h1⟩ := h
 refine ⟨rfl, ?_⟩
 by_cases hq : Q.1 = 0
 · obtain ⟨a, c, rfl, hT⟩ := h0 hq
   exact ⟨a, c, rfl, hT.any⟩
 · rw [h1 hq, hz hq]
   exact ⟨none, 0, rfl, tm_nil (by unfold I64; omega) (by unfold I64; omega) (by unfold maxLen; decide)⟩
theorem rulesE_all5 : ∀ {R : List Rl}, R.length ≤ 40 → (∀ r ∈ R, ruleE r = 0) → rulesE R = 0 := by
 intro R h h2
 unfold rulesE
 rw [if_neg (by omega)]
 induction R with
 | nil => rfl
 | cons r R ih =>
   rw [rulesL]
   have h1 := h2 r (by simp)
   have h3 := ih (by simp at h; omega) (fun x hx => h2 x (by simp [hx]))
   rw [h1, h3]; rfl
theorem rulesOf_good (C : List Nat) : rulesE (rulesOf C) = 0 ∧ smallR (rulesOf C) := by
 have hl : (rulesOf C).length ≤ 5 := by unfold rulesOf; rw [List.length_map, List.length_take]; omega
 have hm : ∀ r ∈ rulesOf C, ruleE r = 0 ∧ sizeT r.1 ≤ 10 ∧ sizeT r.2 ≤ 10 := by
  intro r hr
  unfold rulesOf at hr
  obtain ⟨c, -, rfl⟩ := List.mem_map.1 hr
  exact ruleN_ok (c % 12) (Nat.mod_lt _ (by omega))
 exact ⟨rulesE_all5 (by omega) (fun r hr => (hm r hr).1), fun r hr => by have := hm r hr; omega⟩
theorem applyP_step5 {R : List Rl} {t : Tm} {r : Rdx} (hR : rulesE R = 0) (ht : validT t = 0) : applyP R t r = stepP R t r := by
 unfold applyP
 rw [if_neg (by rw [hR, ht]; simp [orE])]
/-- the two ways round the square -/
theorem square {R : List Rl} {B : List (Tm × Tm)} {t : Tm} {r : Rdx} (hR : rulesE R = 0) (hB : vldS B = 0) (ht : validT t = 0) (hi : validT (putG B t) = 0) (h : (stepP R t r).1 = 0) : stepP R (putG B t) r = applyS B (stepP R t r).2 := by
 have hv := stepP_ok h
 have hf : fitS B := fun b hb => (bndE_good (vldS_good hB b hb)).2.2
 rw [step_put hf hR ht hi (a := (stepP R t r).2) (by rw [← h])]
 have e : applyS B (stepP R t r).2 = if validT (putG B (stepP R t r).2) ≠ 0 then (validT (putG B (stepP R t r).2), zeroTm) else (0, putG B (stepP R t r).2) := by
  unfold applyS
  rw [if_neg (by simp [hB]), if_neg (by simp [hv])]
 rw [e]

set_option maxRecDepth 100000 in
set_option maxHeartbeats 16000000 in
theorem law_stable {w : World} {S S' S1 S2 S3 : Nat → Prop} {a ta xa ya za : Option Addr} {cap tc xc yc zc n : Nat} {C X Y Z : List Nat} {t : Tm} (hC : LsG elB w S (.slice a C.length cap) C) (hT : TmW w S' ta tc t) (hn : n < 256) (hX : LsG elB w S1 (.slice xa X.length xc) X) (hY : LsG elB w S2 (.slice ya Y.length yc) Y) (hZ : LsG elB w S3 (.slice za Z.length zc) Z) :
 Calls Try.prog 4 #[.slice a C.length cap, .agg #[.int .i64 t.kind, .string t.name, .int .i64 t.sort, .slice ta t.kids.length tc], .agg #[.slice xa X.length xc, .slice ya Y.length yc, .slice za Z.length zc, .int .u8 (n : Int)]] w fun e w' => e = .returned (.bool true) ∧ Ext w w' := by
 obtain ⟨-, hll, hlc⟩ := hC.len
 obtain ⟨-, hxl, hxc⟩ := hX.len
 obtain ⟨-, hyl, hyc⟩ := hY.len
 obtain ⟨-, hzl, hzc⟩ := hZ.len
 unfold maxLen at hlc hxc hyc hzc
 obtain ⟨bx, w1, hbbx, hwbx, HBbx, hEbx⟩ := box_new w (.cells #[.int .i64 t.kind, .string t.name, .int .i64 t.sort, .slice ta t.kids.length tc] 31)
 obtain ⟨dx, w2, hdx, hw2, HBD, hE2⟩ := box_new w1 (.cells #[.slice xa X.length xc, .slice ya Y.length yc, .slice za Z.length zc, .int .u8 (n : Int)] 33)
 have hs1 : w1.heap.size = bx + 1 := by rw [hwbx, hbbx, World.size_alloc]
 rw [hs1] at hdx
 have hEa := hEbx.trans hE2
 obtain ⟨b0, b1, b2, b3⟩ := box4r (hs_ext hE2 HBbx.out)
 obtain ⟨d0, d1, d2, d3⟩ := box4r HBD.out
 have HC := Lib.hid (hC.ext hEa)
 have HT := Lib.hid (hT.ext hEa).any
 have HMD := Lib.hid (fun (w' : World) (hE : Ext w2 w') => SMade_any (w := w') hn ((hX.ext hEa).ext hE) ((hY.ext hEa).ext hE) ((hZ.ext hEa).ext hE))
 have HRU := Lib.hid (fun (w' : World) (hE : Ext w2 w') => RRulesOf_any (w := w') ((hC.ext hEa).ext hE))
 have HE1 := Lib.hid hEa
 have HCA := Lib.hid (fun w' => awake5 (w := w'))
 obtain ⟨o2, ho2⟩ : ∃ o, o = fewT [t] 1 30 := ⟨_, rfl⟩
 have HO2 := Lib.hid ho2
 clear hC hT hX hY hZ hn hEbx hE2 hEa ho2 hs1
 go_enter Try.func4, Try.ntmps4
 go_upto_region 1 with fail
 rw [← hwbx, ← hbbx, ← hw2]
 try rw [← hdx]
 clear hwbx hbbx hw2 hdx
 go_wp2_with fail
 refine (HCA.out _).mono ?_
 rintro e w3 ⟨rfl, hE3⟩
 have HX2 := Lib.hid hE3
 obtain ⟨b0, b1, b2, b3, d0, d1, d2, d3⟩ := cs_e8 hE3 ⟨b0, b1, b2, b3, d0, d1, d2, d3⟩
 have HT := Lib.hid (HT.out.ext hE3)
 have HE1 := Lib.hid (HE1.out.trans hE3)
 clear hE3
 obtain ⟨fb, w4, hfb, hw4, HBF, hE4⟩ := box_new w3 (.cells #[.int .i64 t.kind, .string t.name, .int .i64 t.sort, .slice ta t.kids.length tc] 31)
 have hfl : LsT w4 _ (.slice (some ⟨fb, 0, none⟩) 1 1) [t] := one_ls HBF.out (HT.out.ext hE4)
 have hcf := Few_any (w := w4) (n := 1) (m := 30) (L := [t]) (cap := 1) (by omega) (by omega) (by omega) (by unfold maxLen; simp) hfl.ts
 rw [← HO2.out] at hcf
 have HCF2 := Lib.hid hcf
 have HX2 := Lib.hid (HX2.out.trans hE4)
 go_wp2_with fail
 rw [← hw4, ← hfb]
 clear hw4 hfb
 obtain ⟨b0, b1, b2, b3, d0, d1, d2, d3⟩ := cs_e8 hE4 ⟨b0, b1, b2, b3, d0, d1, d2, d3⟩
 have HT := Lib.hid (HT.out.ext hE4)
 have HE1 := Lib.hid (HE1.out.trans hE4)
 clear hE4 hfl hcf
 refine HCF2.out.mono ?_
 rintro e w5 ⟨rfl, hE5⟩
 have HX2 := Lib.hid (HX2.out.trans hE5)
 obtain ⟨b0, b1, b2, b3, d0, d1, d2, d3⟩ := cs_e8 hE5 ⟨b0, b1, b2, b3, d0, d1, d2, d3⟩
 have HT := Lib.hid (HT.out.ext hE5)
 have HE1 := Lib.hid (HE1.out.trans hE5)
 clear hE5
 cases o2 with
 | false =>
   go_wp2_with fail
   refine (HCA.out _).mono ?_
   rintro e w9 ⟨rfl, hE9⟩
   have HE9 := Lib.hid (HE1.out.trans hE9)
   clear hE9
   go_wp2_with fail
   go_ret
   exact ⟨rfl, HE9.out⟩
 | true =>
   have HTZ : Hid (sizeT t ≤ 30) := Lib.hid (by have := few_one5 HO2.out.symm; omega)
   have hcv := RValid_any (w := w5) (t := t) (by have := HTZ.out; omega) HT.out
   obtain ⟨o, ho⟩ : ∃ o, o = validT t := ⟨_, rfl⟩
   rw [← ho] at hcv
   have HCV := Lib.hid hcv
   have HOV := Lib.hid ho
   clear hcv ho
   go_wp2_with fail
   refine HCV.out.mono ?_
   rintro e w6 ⟨rfl, hE6⟩
   have HX2 := Lib.hid (HX2.out.trans hE6)
   obtain ⟨b0, b1, b2, b3, d0, d1, d2, d3⟩ := cs_e8 hE6 ⟨b0, b1, b2, b3, d0, d1, d2, d3⟩
   have HT := Lib.hid (HT.out.ext hE6)
   have HE1 := Lib.hid (HE1.out.trans hE6)
   clear hE6
   by_cases ho0 : o = 0
   · have eo : (o != 0) = false := by simp [ho0]
     have HV : Hid (validT t = 0) := Lib.hid (by rw [← HOV.out]; exact ho0)
     obtain ⟨R, hR⟩ : ∃ R, R = rulesOf C := ⟨_, rfl⟩
     have HRG : Hid (rulesE R = 0 ∧ smallR R) := Lib.hid (by rw [hR]; exact rulesOf_good C)
     have hru := fun (w' : World) (hE : Ext w2 w') => (HRU.out w' hE).mono (R' := fun e w'' => ∃ u, e = .returned u ∧ Ext w' w'' ∧ LsG elP w'' Any u R) (fun e w'' ⟨v, h1, h2, h3⟩ => ⟨v, h1, h2, by rw [hR]; exact h3.any⟩)
     have HRU := Lib.hid hru
     clear ho0 hR hru
     go_upto_region 3 with fail
     have HFCT := Lib.hid (And.intro d0 (And.intro d1 (And.intro d2 d3)))
     refine wp_region_reg 4 false (by kernel_rfl) (by kernel_rfl) ?_
     refine reg_value (fun _ => rfl) ?_ (fun g w' vs hM hE hP => ?_) ?_
     rotate_left
     · (clear hP hM; have ⟨z0, z1, z2, z3⟩ := cs_e4 hE HFCT.out; go_simp; first | done | rfl)
     refine reg_call (fun _ => rfl) 11 (fun _ => #[.slice a C.length cap]) (fun g w' m hM hE hP => ?_) (fun u w'' => LsG elP w'' Any u R) ⟨fun u w' w'' h hE => h.ext hE, (fun h => nomatch h), fun h => absurd rfl h⟩ (fun g w' m hM hE hP => HRU.out w' (HX2.out.trans hE)) ?_
     · (clear hP hM; go_simp; first | done | exact ⟨rfl, rfl⟩ | rfl)
     refine reg_value (fun _ => rfl) ?_ (fun g w' vs hM hE hP => ?_) ?_
     rotate_left
     · (clear hP hM; have ⟨z0, z1, z2, z3⟩ := cs_e4 hE HFCT.out; go_simp; first | done | rfl)
     refine reg_call (fun _ => rfl) 12 (fun _ => #[.agg #[.slice xa X.length xc, .slice ya Y.length yc, .slice za Z.length zc, .int .u8 (n : Int)]]) (fun g w' m hM hE hP => ?_) (smallB 4) smallB.persist (fun g w' m hM hE hP => HMD.out w' (HX2.out.trans hE)) ?_
     · (clear hP hM; go_simp; first | done | exact ⟨rfl, rfl⟩ | rfl)
     intro g w7 hE7 hF hQ
     simp only [List.drop_succ_cons, List.drop_zero, Act.put, List.setIfInBounds_toArray, List.set_cons_succ, List.set_cons_zero]
     have hs := hQ _ List.mem_cons_self
     have hs : smallB 4 (g 3).v w7 := hs
     have hl := hQ _ (List.mem_cons_of_mem _ List.mem_cons_self)
     have hl : LsG elP w7 Any (g 1).v R := hl
     generalize (g 3).v = sv at hs ⊢
     generalize (g 1).v = rv at hl ⊢
     obtain ⟨B, hB, hBs, hBl⟩ := hs
     obtain ⟨sa, sc, rfl, hsl, hsc⟩ := hB.slice
     obtain ⟨ra, rc, rfl, hrl, hrc⟩ := hl.slice
     unfold maxLen at hsc hrc
     have HL := Lib.hid hl
     have HSB := Lib.hid hB
     have HB6 : Hid (∀ b ∈ B, sizeT b.1 ≤ 1000000 ∧ sizeT b.2 ≤ 1000000) := Lib.hid (fun b hb => by have := hBs b hb; omega)
     obtain ⟨b0, b1, b2, b3⟩ := cs_e4 hE7 ⟨b0, b1, b2, b3⟩
     have HT := Lib.hid (HT.out.ext hE7)
     have HE1 := Lib.hid (HE1.out.trans hE7)
     have hap := SApply_any (w := w7) HB6.out (by have := HTZ.out; omega) hB HT.out
     obtain ⟨Q, hQd⟩ : ∃ Q, Q = applyS B t := ⟨_, rfl⟩
     rw [← hQd] at hap
     have HAP := Lib.hid (hap.mono (R' := fun e w'' => ∃ v, e = .returned (.tuple #[v, .int .i64 Q.1]) ∧ Ext w7 w'' ∧ IsS w'' Any v Q.2) (fun e w'' ⟨v, er, h1, h2, h3⟩ => by
      obtain ⟨rfl, h4⟩ := errR_is h3 (fun h => by rw [hQd] at h ⊢; exact applyS_zero h)
      exact ⟨v, h1, h2, h4⟩))
     have HQG : Hid (Q.1 = 0 → vldS B = 0 ∧ validT (putG B t) = 0 ∧ Q.2 = putG B t) := Lib.hid (fun h => by
      rw [hQd] at h ⊢
      unfold applyS at h ⊢
      split at h
      · rename_i h1; exact absurd h h1
      · rename_i h1
        rw [if_neg h1]
        split at h
        · rename_i h2; exact absurd h h2
        · rename_i h2
          rw [if_neg h2]
          split at h
          · rename_i h3; exact absurd h h3
          · rename_i h3
            rw [if_neg h3]
            exact ⟨Classical.not_not.1 h1, Classical.not_not.1 h3, rfl⟩)
     obtain ⟨er, i⟩ := Q
     simp only at HAP HQG
     clear hl hB hBs hBl hap hQd hE7 hF hQ
     go_wp2_with fail
     refine HAP.out.mono ?_
     rintro e w8 ⟨v, rfl, hE8, ia, ic, rfl, hTi⟩
     obtain ⟨ix, w9, hix, hw9, HBI, hE9⟩ := box_new w8 (.cells #[.int .i64 i.kind, .string i.name, .int .i64 i.sort, .slice ia i.kids.length ic] 31)
     have hli := hTi.len
     have hci := hTi.cap
     unfold maxLen at hci
     have hE79 := hE8.trans hE9
     have HTI := Lib.hid (hTi.ext hE9)
     obtain ⟨i0, i1, i2, i3⟩ := box4r (HBI.out)
     obtain ⟨b0, b1, b2, b3⟩ := cs_e4 hE79 ⟨b0, b1, b2, b3⟩
     have HT := Lib.hid (HT.out.ext hE79)
     have HL := Lib.hid (HL.out.ext hE79)
     have HSB := Lib.hid (HSB.out.ext hE79)
     have HE1 := Lib.hid (HE1.out.trans hE79)
     clear hE8 hTi hE9 hE79
     go_upto_region 5 with fail
     rw [← hw9, ← hix]
     clear hw9 hix
     by_cases he : er = 0
     · have ee : (er != 0) = false := by simp [he]
       obtain ⟨hvs, hvi, hii⟩ := HQG.out he
       have HVS := Lib.hid (And.intro hvs hvi)
       have HII := Lib.hid hii
       have hpr := PRedexes_any (w := w9) HRG.out.2 HL.out (by have := HTZ.out; omega) HT.out
       obtain ⟨L, hLd⟩ : ∃ L, L = redP R t := ⟨_, rfl⟩
       rw [← hLd] at hpr
       have HPR := Lib.hid hpr
       clear he hvs hvi hii hpr hLd
       go_wp2_with fail
       refine HPR.out.mono ?_
       rintro e w10 ⟨v, rfl, hE10, hL10⟩
       obtain ⟨la, lc, rfl, hll10, hlc10⟩ := hL10.slice
       unfold maxLen at hlc10
       have HLX := Lib.hid hL10
       have HTT := Lib.hid (HT.out.ext hE10)
       have HLL := Lib.hid (HL.out.ext hE10)
       have HSS := Lib.hid (HSB.out.ext hE10)
       have HTII := Lib.hid (HTI.out.ext hE10)
       obtain ⟨b0, b1, b2, b3, i0, i1, i2, i3⟩ := cs_e8 hE10 ⟨b0, b1, b2, b3, i0, i1, i2, i3⟩
       have HE1 := Lib.hid (HE1.out.trans hE10)
       clear hE10 hL10
       go_wp2_with fail
       go_loopw [49] (fun jv wr => Hid (∃ j : Nat, jv = .int .i64 j ∧ j ≤ L.length ∧ Ext w10 wr)) (fun jv _ => L.length - (intOf jv).toNat)
       case atStart => exact Lib.hid ⟨0, rfl, by omega, Ext.refl _⟩
       case round =>
        obtain ⟨j, rfl, hj, hE⟩ := hrel.out
        have HEW := Lib.hid hE
        obtain ⟨b0, b1, b2, b3, i0, i1, i2, i3⟩ := cs_e8 hE ⟨b0, b1, b2, b3, i0, i1, i2, i3⟩
        have HTT := Lib.hid (HTT.out.ext hE)
        have HLL := Lib.hid (HLL.out.ext hE)
        have HSS := Lib.hid (HSS.out.ext hE)
        have HTII := Lib.hid (HTII.out.ext hE)
        have HE1 := Lib.hid (HE1.out.trans hE)
        clear hrel hE
        by_cases hlt : j < L.length
        · have hjz : (j : Int) < (L.length : Int) := by omega
          have hj0 : (0 : Int) ≤ (j : Int) := by omega
          obtain ⟨q, hq⟩ : ∃ q, L[j]? = some q := ⟨_, List.getElem?_eq_getElem hlt⟩
          obtain ⟨xb, xo, pa, pc, hla, r0, r1, h64, hpl, hpc, hP⟩ := (HLX.out.ext HEW.out).xAt hq
          subst hla
          unfold maxLen at hpc
          obtain ⟨vx, w11, hvx, hw11, HBV, hE11⟩ := box_new wr (.cells #[.int .i64 q.1, .slice pa q.2.length pc] 45)
          have v0 : w11.cell? ⟨vx, 0, none⟩ = some (.int .i64 q.1) := by rw [cellc HBV.out]; rfl
          have v1 : w11.cell? ⟨vx, 1, none⟩ = some (.slice pa q.2.length pc) := by rw [cellc HBV.out]; rfl
          obtain ⟨b0, b1, b2, b3, i0, i1, i2, i3⟩ := cs_e8 hE11 ⟨b0, b1, b2, b3, i0, i1, i2, i3⟩
          have HTT := Lib.hid (HTT.out.ext hE11)
          have HLL := Lib.hid (HLL.out.ext hE11)
          have HSS := Lib.hid (HSS.out.ext hE11)
          have HTII := Lib.hid (HTII.out.ext hE11)
          have HE1 := Lib.hid (HE1.out.trans hE11)
          have HEW := Lib.hid (HEW.out.trans hE11)
          have HQP := Lib.hid (hP.ext hE11)
          have hc1 := PApply_any (w := w11) (r := q) HRG.out.2 h64 HLL.out (by have := HTZ.out; omega) HTT.out HQP.out
          rw [applyP_step5 HRG.out.1 HV.out] at hc1
          obtain ⟨Q1, hQ1⟩ : ∃ Q1, Q1 = stepP R t q := ⟨_, rfl⟩
          rw [← hQ1] at hc1
          have HC1 := Lib.hid (hc1.mono (R' := fun e w'' => ∃ v, e = .returned (.tuple #[v, .int .i64 Q1.1]) ∧ Ext w11 w'' ∧ IsS w'' Any v Q1.2) (fun e w'' ⟨v, er, h1, h2, h3⟩ => by
           obtain ⟨rfl, h4⟩ := errR_is h3 (fun h => by rw [hQ1] at h ⊢; exact stepP_zero5 h)
           exact ⟨v, h1, h2, h4⟩))
          have HOK : Hid (Q1.1 = 0 → validT Q1.2 = 0 ∧ stepP R i q = applyS B Q1.2) := Lib.hid (fun h => by
           rw [hQ1] at h ⊢
           exact ⟨stepP_ok h, by rw [HII.out]; exact square HRG.out.1 HVS.out.1 HV.out HVS.out.2 h⟩)
          have HIV : Hid (validT i = 0) := Lib.hid (by rw [HII.out]; exact HVS.out.2)
          have H64 := Lib.hid h64
          obtain ⟨e1, x⟩ := Q1
          simp only at HC1 HOK
          clear hq hP h64 hc1 hE11 hQ1
          go_upto_region 10 with fail
          rw [← hw11, ← hvx]
          clear hw11 hvx r0 r1
          go_wp2_with fail
          refine HC1.out.mono ?_
          rintro e w12 ⟨v, rfl, hE12, ka, kc, rfl, hTx⟩
          obtain ⟨ax, w13, hax, hw13, HBA, hE13⟩ := box_new w12 (.cells #[.int .i64 x.kind, .string x.name, .int .i64 x.sort, .slice ka x.kids.length kc] 31)
          have hlx := hTx.len
          have hcx := hTx.cap
          unfold maxLen at hcx
          have hE1213 := hE12.trans hE13
          have HTX := Lib.hid (hTx.ext hE13)
          obtain ⟨x0, x1, x2, x3⟩ := box4r (HBA.out)
          obtain ⟨b0, b1, b2, b3, i0, i1, i2, i3, v0, v1⟩ := cs_e10 hE1213 ⟨b0, b1, b2, b3, i0, i1, i2, i3, v0, v1⟩
          have HTT := Lib.hid (HTT.out.ext hE1213)
          have HLL := Lib.hid (HLL.out.ext hE1213)
          have HSS := Lib.hid (HSS.out.ext hE1213)
          have HTII := Lib.hid (HTII.out.ext hE1213)
          have HE1 := Lib.hid (HE1.out.trans hE1213)
          have HEW := Lib.hid (HEW.out.trans hE1213)
          have HQP := Lib.hid (HQP.out.ext hE1213)
          clear hE12 hTx hE13 hE1213
          go_upto_region 11 with fail
          rw [← hw13, ← hax]
          clear hw13 hax
          by_cases h1 : e1 = 0
          · have ee1 : (e1 != 0) = false := by simp [h1]
            obtain ⟨hxv, hsq⟩ := HOK.out h1
            have hxz : sizeT x ≤ 400 := sizeT_valid' hxv
            have hiz : sizeT i ≤ 400 := sizeT_valid' HIV.out
            have HXZ := Lib.hid (And.intro hxz hiz)
            have hc2 := SApply_any (w := w13) HB6.out (by omega) HSS.out HTX.out
            have hc3 := fun (w' : World) (hE : Ext w13 w') => PApply_any (w := w') (r := q) HRG.out.2 H64.out (HLL.out.ext hE) (by omega) (HTII.out.ext hE) (HQP.out.ext hE)
            rw [applyP_step5 HRG.out.1 HIV.out, hsq] at hc3
            obtain ⟨Q2, hQ2⟩ : ∃ Q2, Q2 = applyS B x := ⟨_, rfl⟩
            rw [← hQ2] at hc2 hc3
            have hz2 : Q2.1 ≠ 0 → Q2.2 = zeroTm := fun h => by rw [hQ2] at h ⊢; exact applyS_zero h
            have HC2 := Lib.hid (hc2.mono (R' := fun e w'' => ∃ v, e = .returned (.tuple #[v, .int .i64 Q2.1]) ∧ Ext w13 w'' ∧ IsS w'' Any v Q2.2) (fun e w'' ⟨v, er, h1, h2, h3⟩ => by
             obtain ⟨rfl, h4⟩ := errR_is h3 hz2
             exact ⟨v, h1, h2, h4⟩))
            have HC3 := Lib.hid (fun (w' : World) (hE : Ext w13 w') => (hc3 w' hE).mono (R' := fun e w'' => ∃ v, e = .returned (.tuple #[v, .int .i64 Q2.1]) ∧ Ext w' w'' ∧ IsS w'' Any v Q2.2) (fun e w'' ⟨v, er, h1, h2, h3⟩ => by
             obtain ⟨rfl, h4⟩ := errR_is h3 hz2
             exact ⟨v, h1, h2, h4⟩))
            have HYZ : Hid (sizeT Q2.2 ≤ 1000000) := Lib.hid (by
             by_cases h : Q2.1 = 0
             · rw [hQ2] at h ⊢
               unfold applyS at h ⊢
               split at h
               · rename_i k1; exact absurd h k1
               · rename_i k1
                 rw [if_neg k1]
                 split at h
                 · rename_i k2; exact absurd h k2
                 · rename_i k2
                   rw [if_neg k2]
                   split at h
                   · rename_i k3; exact absurd h k3
                   · rename_i k3
                     rw [if_neg k3]
                     have := sizeT_valid' (Classical.not_not.1 k3)
                     show sizeT (putG B x) ≤ _
                     omega
             · rw [hz2 h]; decide)
            obtain ⟨e2, y⟩ := Q2
            simp only at HC2 HC3 HYZ
            clear h1 hxv hsq hxz hiz hc2 hc3 hQ2 hz2
            go_wp2_with fail
            refine HC2.out.mono ?_
            rintro e w14 ⟨v, rfl, hE14, ma, mc, rfl, hTm⟩
            obtain ⟨mx, w15, hmx, hw15, HBM, hE15⟩ := box_new w14 (.cells #[.int .i64 y.kind, .string y.name, .int .i64 y.sort, .slice ma y.kids.length mc] 31)
            have hlm := hTm.len
            have hcm := hTm.cap
            unfold maxLen at hcm
            have hE1415 := hE14.trans hE15
            have HTM := Lib.hid (hTm.ext hE15)
            have HX15 := Lib.hid hE1415
            obtain ⟨m0, m1, m2, m3⟩ := box4r (HBM.out)
            obtain ⟨i0, i1, i2, i3, v0, v1⟩ := cs_e6 hE1415 ⟨i0, i1, i2, i3, v0, v1⟩
            have HE1 := Lib.hid (HE1.out.trans hE1415)
            have HEW := Lib.hid (HEW.out.trans hE1415)
            clear hE14 hTm hE15 hE1415
            go_upto_region 13 with fail
            rw [← hw15, ← hmx]
            clear hw15 hmx
            go_wp2_with fail
            refine (HC3.out _ HX15.out).mono ?_
            rintro e w16 ⟨v, rfl, hE16, na, nc, rfl, hTn⟩
            obtain ⟨nx, w17, hnx, hw17, HBN, hE17⟩ := box_new w16 (.cells #[.int .i64 y.kind, .string y.name, .int .i64 y.sort, .slice na y.kids.length nc] 31)
            have hE1617 := hE16.trans hE17
            have hcs := RSame_any (w := w17) (s := y) (t := y) HYZ.out HYZ.out (HTM.out.ext hE1617) (hTn.ext hE17)
            rw [show decide (y = y) = true from decide_eq_true rfl] at hcs
            have HCS := Lib.hid hcs
            obtain ⟨n0, n1, n2, n3⟩ := box4r (HBN.out)
            obtain ⟨m0, m1, m2, m3⟩ := cs_e4 hE1617 ⟨m0, m1, m2, m3⟩
            have HE1 := Lib.hid (HE1.out.trans hE1617)
            have HEW := Lib.hid (HEW.out.trans hE1617)
            clear hE16 hTn hE17 hE1617 hcs
            go_upto_region 14 with fail
            rw [← hw17, ← hnx]
            clear hw17 hnx
            by_cases h2 : e2 = 0
            · have ee2 : (e2 != 0) = false := by simp [h2]
              clear h2
              go_wp2_with fail
              refine HCS.out.mono ?_
              rintro e w18 ⟨rfl, hE18⟩
              have HEW := Lib.hid (HEW.out.trans hE18)
              clear hE18
              go_wp2_with fail
              go_roundw
              case rel => exact Lib.hid ⟨j + 1, by go_num, by omega, HEW.out⟩
              case measure => simp [intOf]; omega
            · have ee2 : (e2 != 0) = true := by simp [h2]
              have ee3 : (e2 == e2) = true := by simp
              clear h2
              go_wp2_with fail
              go_ret
              exact ⟨rb (by simp), HE1.out⟩
          · have ee1 : (e1 != 0) = true := by simp [h1]
            clear h1
            go_wp2_with fail
            go_roundw
            case rel => exact Lib.hid ⟨j + 1, by go_num, by omega, HEW.out⟩
            case measure => simp [intOf]; omega
        · have hjz : ¬ (j : Int) < (L.length : Int) := by omega
          go_wp2_with fail
          go_ret
          exact ⟨rfl, HE1.out⟩
     · have ee : (er != 0) = true := by simp [he]
       clear he
       go_wp2_with fail
       go_ret
       exact ⟨rfl, HE1.out⟩
   · have eo : (o != 0) = true := by simp [ho0]
     clear ho0
     go_wp2_with fail
     refine (HCA.out _).mono ?_
     rintro e w9 ⟨rfl, hE9⟩
     have HE9 := Lib.hid (HE1.out.trans hE9)
     clear hE9
     go_wp2_with fail
     go_ret
     exact ⟨rfl, HE9.out⟩

end Go.Proofs.Ytpfnlbaloaohgaa
