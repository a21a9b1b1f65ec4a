/- Contracts: the reference's redexes. Contracts: the reference's IsNormal. -/
import Derived.Test.YtpfnlbaloaohgaaGreatN43
import Derived.Test.YtpfnlbaloaohgaaGreatH12
import Derived.Test.YtpfnlbaloaohgaaGreatH11
import Derived.Test.YtpfnlbaloaohgaaGreatH13
import Derived.Test.YtpfnlbaloaohgaaGreatH7
namespace Go.Proofs.YtpfnlbaloaohgaaGreat
open Go Go.RowKit
set_option linter.unusedVariables false
set_option linter.unusedSimpArgs false

theorem rulesE_40 {R : List Rl} (h : rulesE R = 0) : R.length ≤ 40 := by
 unfold rulesE at h
 split at h
 · omega
 · omega

set_option maxRecDepth 100000 in
set_option maxHeartbeats 16000000 in
theorem RRedexes_any {w : World} {S S' : Nat → Prop} {a ta : Option Addr} {cap tc : Nat} {R : List Rl} {t : Tm} (hz : smallR R) (hL : LsG elP w S (.slice a R.length cap) R) (ht : sizeT t ≤ 100000) (hT : TmW w S' ta tc t) :
 Calls Tryz.prog 15 #[.slice a R.length cap, .agg #[.int .i64 t.kind, .string t.name, .int .i64 t.sort, .slice ta t.kids.length tc]] w fun e w' => ∃ v, e = .returned v ∧ Ext w w' ∧ LsG elX w' (fun c => w.heap.size ≤ c) v (redP R t) := by
 obtain ⟨-, hll, hlc⟩ := hL.len
 unfold maxLen at hlc
 obtain ⟨bx, w1, hbbx, hwbx, HBbx, hEbx⟩ := box_new w (.cells #[.int .i64 t.kind, .string t.name, .int .i64 t.sort, .slice ta t.kids.length tc] 25)
 obtain ⟨b0, b1, b2, b3⟩ := box4r (HBbx.out)
 have HL := Lib.hid (hL.ext hEbx).any
 have HT := Lib.hid (hT.ext hEbx).below
 have HZ := Lib.hid hz
 have HTZ := Lib.hid ht
 have HE1 := Lib.hid hEbx
 have hc1 := RRight_any hz (hL.ext hEbx) (by omega) HT.out
 obtain ⟨o1, ho1⟩ : ∃ o, o = orE (rulesE R) (validT t) := ⟨_, rfl⟩
 rw [← ho1] at hc1
 have HC1 := Lib.hid hc1
 obtain ⟨Z, hZ⟩ : ∃ Z, Z = redP R t := ⟨_, rfl⟩
 rw [← hZ]
 unfold redP at hZ
 rw [← ho1] at hZ
 have HZZ := Lib.hid hZ
 have HO := Lib.hid ho1
 clear hL hT hz ht hEbx hc1 ho1 hZ
 go_enter Tryz.func15, Tryz.ntmps15
 go_upto_region 1 with fail
 rw [← hwbx, ← hbbx]
 clear hwbx hbbx
 go_wp2_with fail
 refine HC1.out.mono ?_
 rintro e w3 ⟨rfl, hE3⟩
 have HS3 : Hid (w.heap.size ≤ w3.heap.size ∧ w1.heap.size ≤ w3.heap.size) := Lib.hid ⟨Nat.le_trans HE1.out.size hE3.size, hE3.size⟩
 obtain ⟨b0, b1, b2, b3⟩ := cs_e4 hE3 ⟨b0, b1, b2, b3⟩
 have HL := Lib.hid (HL.out.ext hE3)
 have HT := Lib.hid (HT.out.ext hE3)
 have HE1 := Lib.hid (HE1.out.trans hE3)
 have HBbx := Lib.hid (hs_ext hE3 HBbx.out)
 clear hE3
 by_cases h1 : o1 = 0
 · have e1 : (o1 != 0) = false := by simp [h1]
   have HZ2 : Hid (Z = (posT t).flatMap (redAt R t)) := Lib.hid (by rw [HZZ.out, if_neg (by simp [h1])])
   have HOO : Hid (rulesE R = 0 ∧ validT t = 0) := Lib.hid (orE_split (by rw [← HO.out]; exact h1))
   have H40 : Hid (R.length ≤ 40) := Lib.hid (rulesE_40 HOO.out.1)
   have H400 : Hid (sizeT t ≤ 400) := Lib.hid (validT_iff.1 HOO.out.2).2.1
   clear h1
   have HCP := Lib.hid (RPositions_any (sizeT t) w3 _ ta tc t (Nat.le_refl _) HTZ.out HT.out)
   go_wp2_with fail
   refine HCP.out.mono ?_
   rintro e w4 ⟨v4, rfl, hE4, hP4⟩
   obtain ⟨b0, b1, b2, b3⟩ := cs_e4 hE4 ⟨b0, b1, b2, b3⟩
   have HL := Lib.hid (HL.out.ext hE4)
   have HT := Lib.hid (HT.out.ext hE4)
   have HE1 := Lib.hid (HE1.out.trans hE4)
   have HBbx := Lib.hid (hs_ext hE4 HBbx.out)
   obtain ⟨pa, pc, hv, -, hpc⟩ := hP4.slice
   subst hv
   unfold maxLen at hpc
   have HS4 : Hid (w.heap.size ≤ w3.heap.size ∧ w3.heap.size ≤ w4.heap.size ∧ w1.heap.size ≤ w4.heap.size) := Lib.hid ⟨HS3.out.1, hE4.size, Nat.le_trans HS3.out.2 hE4.size⟩
   have HP4 := Lib.hid (hP4.wide (S' := fun c => w3.heap.size ≤ c ∧ c < w4.heap.size) (fun c h h2 => ⟨h, h2⟩))
   have hpl : (posT t).length ≤ 400 := by rw [posT_len]; exact H400.out
   have HPLN : Hid (∀ p ∈ posT t, p.length ≤ 400) := Lib.hid (fun p hp => Nat.le_trans (posT_plen t p hp) H400.out)
   have HPAT : Hid (∀ p ∈ posT t, (atT p t).isSome = true) := Lib.hid (fun p hp => posT_at t p hp)
   obtain ⟨PS, hPS⟩ : ∃ PS, PS = posT t := ⟨_, rfl⟩
   rw [← hPS] at HP4 HPAT HPLN hpl HZ2
   rw [← hPS]
   clear hE4 hP4 hPS
   go_wp2_with fail
   go_loopw [5, 7] (fun ov kv wr => Hid (∃ k : Nat, kv = .int .i64 k ∧ k ≤ PS.length ∧ OwnG elX wr w4.heap.size 35 (fun c => w3.heap.size ≤ c ∧ c < w4.heap.size) ov ((PS.take k).flatMap (redAt R t)) ∧ Ext w4 wr)) (fun _ kv _ => PS.length - (intOf kv).toNat)
   case atStart => exact Lib.hid ⟨0, rfl, by omega, by simp; exact OwnG.nil, Ext.refl _⟩
   case round =>
    obtain ⟨k, rfl, hk, hO, hE⟩ := hrel.out
    obtain ⟨O, hOd⟩ : ∃ O, O = (PS.take k).flatMap (redAt R t) := ⟨_, rfl⟩
    have hOl : O.length ≤ 400 * 40 := by
     have h := flatMap_len_le (redAt R t) 40 (fun x => Nat.le_trans (redAt_len R t x) H40.out) (PS.take k)
     rw [List.length_take] at h
     have h2 := Nat.mul_le_mul_right 40 (show min k PS.length ≤ 400 by omega)
     rw [hOd]; omega
    rw [← hOd] at hO
    have HOD := Lib.hid hOd
    clear hOd
    have HO5 := Lib.hid hO
    have HE5 := Lib.hid hE
    clear hrel hO hE
    obtain ⟨oa, oc, hov, -, hoc⟩ := HO5.out.slice
    subst hov
    unfold maxLen at hoc
    obtain ⟨b0, b1, b2, b3⟩ := cs_e4 HE5.out ⟨b0, b1, b2, b3⟩
    have HBbx := Lib.hid (hs_ext HE5.out HBbx.out)
    have HT := Lib.hid (HT.out.ext HE5.out)
    by_cases hlt : k < PS.length
    · obtain ⟨p, hp⟩ : ∃ p, PS[k]? = some p := ⟨_, List.getElem?_eq_getElem hlt⟩
      obtain ⟨qb, qo, qa, qc, rfl, q0, hq1, hq2, hQ⟩ := (HP4.out.ext HE5.out).lAt hp
      unfold maxLen at hq2
      have HQ := Lib.hid hQ
      have hfm := flatMap_take (redAt R t) hp
      rw [← HOD.out] at hfm
      obtain ⟨u, hu⟩ := Option.isSome_iff_exists.1 (HPAT.out p (List.mem_of_getElem? hp))
      have hra : redAt R t p = fitI R u p R.length := by unfold redAt; rw [hu]
      rw [hra] at hfm
      have HFM := Lib.hid hfm
      have HUZ : Hid (sizeT u ≤ 400) := Lib.hid (Nat.le_trans (atT_size _ _ _ hu) H400.out)
      have HPL : Hid (p.length ≤ 1000000) := Lib.hid (by have := HPLN.out p (List.mem_of_getElem? hp); omega)
      have HCA := Lib.hid (fun w' (hE : Ext wr w') => RAt_any (w := w') (by have := H400.out; omega) (HT.out.ext hE) (hQ.ext hE))
      rw [hu] at HCA
      have hk0 : (0 : Int) ≤ (k : Int) := by omega
      have hk1 : (k : Int) < (PS.length : Int) := by omega
      have HPK := Lib.hid hp
      have HW1R : Hid (w1.heap.size ≤ wr.heap.size) := Lib.hid (Nat.le_trans HS4.out.2.2 HE5.out.size)
      clear hp hQ hu hra hfm
      go_upto_region 8 with fail
      have b0a := cs_al (o := (.cells #[.int .i64 0, .string ⟨#[]⟩, .int .i64 0, .slice none 0 0] 25)) b0
      have b1a := cs_al (o := (.cells #[.int .i64 0, .string ⟨#[]⟩, .int .i64 0, .slice none 0 0] 25)) b1
      have b2a := cs_al (o := (.cells #[.int .i64 0, .string ⟨#[]⟩, .int .i64 0, .slice none 0 0] 25)) b2
      have b3a := cs_al (o := (.cells #[.int .i64 0, .string ⟨#[]⟩, .int .i64 0, .slice none 0 0] 25)) b3
      have q0a := cs_al (o := (.cells #[.int .i64 0, .string ⟨#[]⟩, .int .i64 0, .slice none 0 0] 25)) q0
      have hEd : Ext wr wr.drew := Ext.drew wr
      obtain ⟨b0, b1, b2, b3, q0⟩ := cs_e5 hEd ⟨b0, b1, b2, b3, q0⟩
      clear hEd
      go_cut [8, 9] from 25 to 33 (fun v8 v9 wx => ∃ q ua uc, v8 = .pointer (some ⟨q, 0, none⟩) ∧ v9 = .int .i64 0 ∧ Ext wr wx ∧ wr.heap.size ≤ q ∧ wx.heap[q]? = some (.cells #[.int .i64 u.kind, .string u.name, .int .i64 u.sort, .slice ua u.kids.length uc] 25) ∧ TmW wx (fun c => c < w1.heap.size) ua uc u)
      case first =>
       go_region_law (
        go_simp
        go_at_call 44
        refine (HCA.out _ (by repeat (first | exact Ext.refl _ | exact Ext.alloc _ _ | apply Ext.then_dr | apply Ext.then_drN | apply Ext.then_drN2 | (refine Ext.then_al ?_ _)))).mono ?_
        rintro e w5 ⟨v1, er, rfl, hE5, hA5⟩
        have hEw : Ext wr w5 := Ext.trans (by repeat (first | exact Ext.refl _ | exact Ext.alloc _ _ | apply Ext.then_dr | apply Ext.then_drN | apply Ext.then_drN2 | (refine Ext.then_al ?_ _))) hE5
        obtain ⟨rfl, ua, uc, rfl, hTu⟩ : er = 0 ∧ IsS w5 (fun c => c < w1.heap.size) v1 u := (by
         rcases hA5 with ⟨x, e1, e2, e3⟩ | ⟨e1, -⟩
         · cases e1; exact ⟨e2, e3⟩
         · cases e1)
        try (have hz : w5.heap[wr.heap.size]? = some (.cells #[.int .i64 0, .string ⟨#[]⟩, .int .i64 0, .slice none 0 0] 25) := hs_ext hE5 hs_new; have z0 : w5.cell? ⟨wr.heap.size, 0, none⟩ = some (.int .i64 0) := (cellc hz).trans rfl; have z1 : w5.cell? ⟨wr.heap.size, 1, none⟩ = some (.string ⟨#[]⟩) := (cellc hz).trans rfl; have z2 : w5.cell? ⟨wr.heap.size, 2, none⟩ = some (.int .i64 0) := (cellc hz).trans rfl; have z3 : w5.cell? ⟨wr.heap.size, 3, none⟩ = some (.slice none 0 0) := (cellc hz).trans rfl; have f0 : w5.frozen? ⟨wr.heap.size, 0, none⟩ = false := frozenc hz; have f1 : w5.frozen? ⟨wr.heap.size, 1, none⟩ = false := frozenc hz; have f2 : w5.frozen? ⟨wr.heap.size, 2, none⟩ = false := frozenc hz; have f3 : w5.frozen? ⟨wr.heap.size, 3, none⟩ = false := frozenc hz; have HZ5 := Lib.hid hz; clear hz)
        have HEW := Lib.hid hEw
        have HTU := Lib.hid hTu
        clear hE5 hA5 hEw hTu)
       all_goals
        go_wp2_with fail
        go_meet
        first
         | exact ⟨_, _, _, rfl, rfl, HEW.out.then_al _, HEW.out.size, hs_new, HTU.out.ext (Ext.alloc _ _)⟩
         | exact ⟨_, _, _, rfl, rfl, (set4_box _ _ _ _ HZ5.out).2.2 _ HEW.out (Nat.le_refl _), Nat.le_refl _, (set4_box _ _ _ _ HZ5.out).1, HTU.out.keep (fun c h _ => (set4_box _ _ _ _ HZ5.out).2.1 c (by have := HW1R.out; omega)) (fun _ h _ => h)⟩
      case rest =>
       obtain ⟨q, ua, uc, rfl, rfl, hEc, hq, hqh, hTc⟩ := hcut
       have HEC := Lib.hid (HE5.out.trans hEc)
       have HQB := Lib.hid hqh
       have HTU := Lib.hid hTc
       have HOc := Lib.hid (HO5.out.ext hEc)
       have HUO : Hid ((Value.slice oa O.length oc).ownBlock ≠ some q) := Lib.hid (fun e => by have := (HO5.out.lt q e).2; omega)
       have q0 := cs_ext hEc q0
       have HQ0 := Lib.hid q0
       have HQc := Lib.hid (HQ.out.ext hEc)
       have HKI : Hid (I64 (k : Int)) := Lib.hid (by unfold I64; omega)
       clear hEc hq hqh hTc b0 b1 b2 b3 b0a b1a b2a b3a q0a q0
       go_wp2_with fail
       go_loopw [5, 10] (fun ov jv wx => Hid (∃ j : Nat, jv = .int .i64 j ∧ j ≤ R.length ∧ OwnG elX wx w4.heap.size 35 (fun c => w3.heap.size ≤ c ∧ c < w4.heap.size) ov (O ++ fitI R u p j) ∧ Ext w4 wx ∧ RowK wc wx (.slice oa O.length oc) ov)) (fun _ jv _ => R.length - (intOf jv).toNat)
       case atStart => exact Lib.hid ⟨0, rfl, by omega, by simp [fitI]; exact HOc.out, HEC.out, RowK.of_ext (Ext.refl _)⟩
       case round =>
        rename World => wx
        obtain ⟨j, rfl, hj, hO, hE, hS⟩ := hrel.out
        have HS8 := Lib.hid hS
        obtain ⟨O2, hOd2⟩ : ∃ O2, O2 = O ++ fitI R u p j := ⟨_, rfl⟩
        have hOl2 : O2.length ≤ 1000000 := by
         have h := fitI_len R u p j
         have := H40.out
         rw [hOd2, List.length_append]; omega
        rw [← hOd2] at hO
        have HOD2 := Lib.hid hOd2
        have HO8 := Lib.hid hO
        have HE8 := Lib.hid hE
        clear hrel hO hE hOd2 hS
        obtain ⟨ob, oc', hov, -, hoc'⟩ := HO8.out.slice
        subst hov
        unfold maxLen at hoc'
        obtain ⟨u0, u1, u2, u3⟩ := box4r (HS8.out.cells HQB.out HUO.out)
        have HTU8 := Lib.hid (HTU.out.keep (w' := wx) (fun c h1 h2 => HS8.out.kept c h2 (fun e => by have := (HO5.out.lt c e).1; have := HS4.out; omega)) (fun _ h _ => h))
        by_cases hjl : j < R.length
        · obtain ⟨r, hr⟩ : ∃ r, R[j]? = some r := ⟨_, List.getElem?_eq_getElem hjl⟩
          obtain ⟨rb, ro, xa, xc, ya, yc, rfl, ⟨x0, x1, x2, x3⟩, -, hTx, -⟩ := (HL.out.ext HE8.out).pAt hr
          have hsz := HZ.out r (List.mem_of_getElem? hr)
          have hfi : O ++ fitI R u p (j + 1) = O2 ++ (if fitP r u then [((j : Int), p)] else []) := by rw [HOD2.out, fitI, hr, List.append_assoc]
          have HCM := Lib.hid (fun w' (hE : Ext wx w') => RMatch_any (w := w') hsz.1 (by have := HUZ.out; omega) (hTx.ext hE) (HTU8.out.ext hE))
          obtain ⟨m, hm⟩ : ∃ m, m = (matchP r.1 u).1 := ⟨_, rfl⟩
          have hfp : fitP r u = decide (m = 0) := by rw [hm]; rfl
          rw [← hm] at HCM
          rw [hfp] at hfi
          have HFI := Lib.hid hfi
          have hj0 : (0 : Int) ≤ (j : Int) := by omega
          have hj1 : (j : Int) < (R.length : Int) := by omega
          clear hr hsz hfi hm hfp hTx
          go_upto_region 12 with fail
          have hEd : Ext wx wx.drew := Ext.drew wx
          obtain ⟨u0, u1, u2, u3, x0, x1, x2, x3⟩ := cs_e8 hEd ⟨u0, u1, u2, u3, x0, x1, x2, x3⟩
          clear hEd
          go_cut [11, 12] from 40 to 49 (fun v11 v12 wy => ∃ sa n sc, v11 = .slice sa n sc ∧ v12 = .int .i64 m ∧ Ext wx wy)
          case first =>
           go_region_law (
            go_simp
            go_at_call 45
            refine (HCM.out _ (by repeat (first | exact Ext.refl _ | exact Ext.alloc _ _ | apply Ext.then_dr | apply Ext.then_drN | apply Ext.then_drN2 | (refine Ext.then_al ?_ _)))).mono ?_
            rintro e w6 ⟨v6, rfl, hE6, hL6⟩
            obtain ⟨sa, sc, rfl, -, -⟩ := hL6.slice
            have HE6 := Lib.hid ((Ext.drew wx).trans hE6)
            clear hE6 hL6)
           all_goals
            go_wp2_with fail
            go_meet
            exact ⟨_, _, _, rfl, rfl, HE6.out⟩
          case rest =>
           rename World => wy
           obtain ⟨sa, sn, sc, rfl, rfl, hEy⟩ := hcut
           have HEy := Lib.hid (HE8.out.trans hEy)
           have HOy := Lib.hid (HO8.out.ext hEy)
           have HSy := Lib.hid (HS8.out.trans (RowK.of_ext hEy))
           have hkeepc : wc.heap.size ≤ wy.heap.size := HSy.out.size
           have HQy := Lib.hid (HQc.out.hold (w' := wy) (S' := fun c => w3.heap.size ≤ c ∧ c < w4.heap.size) (fun c h1 h2 => HSy.out.kept c h2 (fun e => by have := (HO5.out.lt c e).1; omega)) (fun _ h _ => h))
           have q0 : wy.cell? ⟨qb, qo + k, none⟩ = some (.slice qa p.length qc) := by
            obtain ⟨g1, g2, g3, g4, hg, -⟩ := HP4.out.at HPK.out
            cases g4
            have hb := HSy.out.kept qb (World.block_lt_of_cell? wc ⟨qb, qo + k, none⟩ HQ0.out) (fun e => by have := (HO5.out.lt qb e).1; omega)
            rw [World.cell?_of_block (a := ⟨qb, qo + k, none⟩) hb]
            exact HQ0.out
           clear hEy hkeepc
           by_cases hm0 : m = 0
           · have em : (m == 0) = true := by simp [hm0]
             have HN : Hid (O ++ fitI R u p (j + 1) = O2 ++ [((j : Int), p)]) := Lib.hid (by rw [HFI.out, if_pos (by simp [hm0])])
             clear hm0
             have HJ : Hid (I64 (j : Int)) := Lib.hid (by have := H40.out; unfold I64; omega)
             go_wp2_with (first
              | (refine wpList_buildG (T := 35) rfl [_, _] rfl [(0, .int .i64 (j : Int)), (1, .slice qa p.length qc)] rfl (built_redex _ _ _ _) ?_)
              | (at_builtin
                 refine wpList_appG (E := elX) (T := 35) rfl 29 (.tmp 52) (.tmp 59) rfl rfl rfl Tryz.underlying29 infRedex rfl (by decide) (by decide) (HOy.out.ext (Ext.alloc _ _)) (HEy.out.then_al _).size (fun c h e => by have := (HO8.out.lt c e).1; omega) hOl2 (M := [((j : Int), p)]) (by simp) (one_rdxE hs_new HJ.out (HQy.out.ext (Ext.alloc _ _))) ?_
                 intro v5 wf o5 g5 k5
                 have HE5f : Hid (Ext w4 wf) := Lib.hid (Ext.grown (HEy.out.then_al _) g5 (fun c hc => (HOy.out.lt c hc).1))
                 have HS5f := Lib.hid ((HSy.out.trans (RowK.of_ext (Ext.alloc _ _))).trans (RowK.app g5 k5))
                 have HO5f := Lib.hid o5
                 clear o5 g5 k5))
             go_roundw
             case rel => exact Lib.hid ⟨j + 1, by go_num, by omega, by rw [HN.out]; exact HO5f.out, HE5f.out, HS5f.out⟩
             case measure => simp [intOf]; omega
           · have em : (m == 0) = false := by simpa using hm0
             have HN : Hid (O ++ fitI R u p (j + 1) = O2) := Lib.hid (by rw [HFI.out, if_neg (by simp [hm0]), List.append_nil])
             clear hm0
             go_wp2_with fail
             go_roundw
             case rel => exact Lib.hid ⟨j + 1, by go_num, by omega, by rw [HN.out]; exact HOy.out, HEy.out, HSy.out⟩
             case measure => simp [intOf]; omega
        · have HN : Hid ((PS.take (k + 1)).flatMap (redAt R t) = O2) := Lib.hid (by
           have e : j = R.length := by omega
           rw [HFM.out, HOD2.out, e])
          have hjz : ¬ ((j : Int) < (R.length : Int)) := by omega
          go_wp2_with fail
          go_roundw
          case rel => exact Lib.hid ⟨k + 1, by go_num, by omega, by rw [HN.out]; exact HO8.out, HE8.out⟩
          case measure => simp [intOf]; omega
    · have HF : Hid (O = Z) := Lib.hid (by rw [HOD.out, HZ2.out, List.take_of_length_le (by omega)])
      have HOF := Lib.hid (HO5.out.ls (S' := fun c => w.heap.size ≤ c) (fun c h _ => by have := HS4.out; omega) (fun g _ h1 _ => by have := HS4.out; omega))
      have hkz : ¬ ((k : Int) < (PS.length : Int)) := by omega
      go_wp2_with fail
      go_ret
      exact ⟨_, rfl, HE1.out.trans HE5.out, by rw [← HF.out]; exact HOF.out⟩
 · have e1 : (o1 != 0) = true := by simp [h1]
   have HZ2 : Hid (Z = []) := Lib.hid (by rw [HZZ.out, if_pos h1])
   clear h1
   go_wp2_with fail
   go_ret
   exact ⟨_, rfl, HE1.out, by rw [HZ2.out]; exact LsG.nil⟩

end Go.Proofs.YtpfnlbaloaohgaaGreat
