/- The walk of the law RewriteApply. -/
import Derived.Test.YtpfnlbaloaohgaaGreatAL
import Derived.Test.YtpfnlbaloaohgaaGreatH4
namespace Go.Proofs.YtpfnlbaloaohgaaGreat
open Go Go.RowKit
set_option linter.unusedVariables false
set_option linter.unusedSimpArgs false

set_option maxRecDepth 100000 in
set_option maxHeartbeats 16000000 in
theorem law_apply {w : World} {S S' S'' : Nat → Prop} {a ta pa : Option Addr} {cap tc pc : Nat} {R : List (Tm × Tm)} {t : Tm} {r : Rdx} (hL : LsG elP w S (.slice a R.length cap) R) (hz : FitsR (R.length + 1)) (hT : TmW w S' ta tc t) (hr64 : I64 r.1) (hP : LsG elI w S'' (.slice pa r.2.length pc) r.2) :
 Calls Tryz.prog 4 #[.slice a R.length cap, .agg #[.int .i64 t.kind, .string t.name, .int .i64 t.sort, .slice ta t.kids.length tc], .agg #[.int .i64 r.1, .slice pa r.2.length pc]] w fun e w' => e = .returned (.bool true) ∧ Ext w w' := by
 obtain ⟨r1, r2⟩ := r
 simp only at hr64 hP ⊢
 obtain ⟨-, hll, hlc⟩ := hL.len
 unfold maxLen at hlc
 obtain ⟨-, hpl, hpc⟩ := hP.len
 unfold maxLen at hpc
 obtain ⟨bx, w1, hbbx, hwbx, HBbx, hEbx⟩ := box_new w (.cells #[.int .i64 t.kind, .string t.name, .int .i64 t.sort, .slice ta t.kids.length tc] 25)
 have hs1 : w1.heap.size = bx + 1 := by rw [hwbx, hbbx, World.size_alloc]
 obtain ⟨dx, hdx⟩ : ∃ zz9, zz9 = bx + 1 := ⟨_, rfl⟩
 obtain ⟨w2, hw2⟩ : ∃ zz9, zz9 = w1.alloc (.cells #[.int .i64 r1, .slice pa r2.length pc] 35) := ⟨_, rfl⟩
 have hE2 : Ext w1 w2 := by rw [hw2]; exact Ext.alloc _ _
 have hbd : w2.heap[dx]? = some (.cells #[.int .i64 r1, .slice pa r2.length pc] 35) := by rw [hw2, hdx, ← hs1]; exact hs_new
 have hEa := hEbx.trans hE2
 obtain ⟨b0, b1, b2, b3⟩ := box4r (hs_ext hE2 HBbx.out)
 have d0 : w2.cell? ⟨dx, 0, none⟩ = some (.int .i64 r1) := by rw [cellc hbd]; rfl
 have d1 : w2.cell? ⟨dx, 1, none⟩ = some (.slice pa r2.length pc) := by rw [cellc hbd]; rfl
 have HL := Lib.hid (hL.ext hEa)
 have HT := Lib.hid (hT.ext hEa)
 have HP := Lib.hid (hP.ext hEa)
 have HE1 := Lib.hid hEa
 have HR64 := Lib.hid hr64
 have HCA := Lib.hid (fun w' => awake5 (w := w'))
 obtain ⟨o, ho⟩ : ∃ o, o = fewT (sidesR R) (2 * 6) 120 := ⟨_, rfl⟩
 have HCF := Lib.hid (fun w' (hE : Ext w2 w') => by
  have h := RFewR_any (w := w') (n := 6) (m := 120) (by omega) (by omega) (by omega) (by omega) hz ((hL.ext hEa).ext hE)
  rw [← ho] at h
  exact h)
 have HO := Lib.hid ho
 obtain ⟨o2, ho2⟩ : ∃ o, o = fewT [t] 1 60 := ⟨_, rfl⟩
 have HO2 := Lib.hid ho2
 clear hL hz hT hP hr64 hEbx hE2 hEa hbd ho ho2 hs1
 go_enter Tryz.func4, Tryz.ntmps4
 go_upto_region 1 with fail
 rw [← hwbx, ← hbbx, ← hw2, ← hdx]
 clear hwbx hbbx hw2 hdx
 go_wp2_with fail
 refine (HCA.out _).mono ?_
 rintro e w2 ⟨rfl, hE2⟩
 obtain ⟨b0, b1, b2, b3, d0, d1⟩ := cs_e6 hE2 ⟨b0, b1, b2, b3, d0, d1⟩
 have HL := Lib.hid (HL.out.ext hE2)
 have HT := Lib.hid (HT.out.ext hE2)
 have HP := Lib.hid (HP.out.ext hE2)
 have HE1 := Lib.hid (HE1.out.trans hE2)
 have HX2 := Lib.hid hE2
 clear hE2
 go_wp2_with fail
 refine (HCF.out _ HX2.out).mono ?_
 rintro e w3 ⟨rfl, hE3⟩
 obtain ⟨b0, b1, b2, b3, d0, d1⟩ := cs_e6 hE3 ⟨b0, b1, b2, b3, d0, d1⟩
 have HL := Lib.hid (HL.out.ext hE3)
 have HT := Lib.hid (HT.out.ext hE3)
 have HP := Lib.hid (HP.out.ext hE3)
 have HE1 := Lib.hid (HE1.out.trans hE3)
 clear hE3
 cases o with
 | false =>
   go_wp2_with fail
   refine (HCA.out _).mono ?_
   rintro e w9 ⟨rfl, hE9⟩
   have HE9 := Lib.hid (HE1.out.trans hE9)
   clear hE9
   go_wp2_with fail
   go_ret
   exact ⟨rfl, HE9.out⟩
 | true =>
   have HS : Hid (smallR R) := Lib.hid (small_few (by omega) HO.out.symm)
   obtain ⟨fb, hfb⟩ : ∃ zz9, zz9 = w3.heap.size := ⟨_, rfl⟩
   obtain ⟨w4, hw4⟩ : ∃ zz9, zz9 = w3.alloc (.cells #[.int .i64 t.kind, .string t.name, .int .i64 t.sort, .slice ta t.kids.length tc] 25) := ⟨_, rfl⟩
   have hE4 : Ext w3 w4 := by rw [hw4]; exact Ext.alloc _ _
   have hfl : LsT w4 S' (.slice (some ⟨fb, 0, none⟩) 1 1) [t] := one_ls (by rw [hw4, hfb]; exact hs_new) (HT.out.ext hE4)
   have hcf := Few_any (w := w4) (n := 1) (m := 60) (L := [t]) (cap := 1) (by omega) (by omega) (by omega) (by unfold maxLen; simp) hfl.ts
   rw [← HO2.out] at hcf
   have HCF2 := Lib.hid hcf
   go_wp2_with fail
   rw [← hw4, ← hfb]
   clear hw4 hfb
   obtain ⟨b0, b1, b2, b3, d0, d1⟩ := cs_e6 hE4 ⟨b0, b1, b2, b3, d0, d1⟩
   have HL := Lib.hid (HL.out.ext hE4)
   have HT := Lib.hid (HT.out.ext hE4)
   have HP := Lib.hid (HP.out.ext hE4)
   have HE1 := Lib.hid (HE1.out.trans hE4)
   clear hE4 hfl hcf
   refine HCF2.out.mono ?_
   rintro e w5 ⟨rfl, hE5⟩
   obtain ⟨b0, b1, b2, b3, d0, d1⟩ := cs_e6 hE5 ⟨b0, b1, b2, b3, d0, d1⟩
   have HL := Lib.hid (HL.out.ext hE5)
   have HT := Lib.hid (HT.out.ext hE5)
   have HP := Lib.hid (HP.out.ext hE5)
   have HE1 := Lib.hid (HE1.out.trans hE5)
   clear hE5
   cases o2 with
   | false =>
     go_wp2_with fail
     refine (HCA.out _).mono ?_
     rintro e w9 ⟨rfl, hE9⟩
     have HE9 := Lib.hid (HE1.out.trans hE9)
     clear hE9
     go_wp2_with fail
     go_ret
     exact ⟨rfl, HE9.out⟩
   | true =>
     have HTZ : Hid (sizeT t ≤ 60) := Lib.hid (by have := few_oneT HO2.out.symm; omega)
     by_cases h20 : 20 < r2.length
     · have hl20 : (20 : Int) < (r2.length : Int) := by omega
       go_wp2_with fail
       refine (HCA.out _).mono ?_
       rintro e w9 ⟨rfl, hE9⟩
       have HE9 := Lib.hid (HE1.out.trans hE9)
       clear hE9
       go_wp2_with fail
       go_ret
       exact ⟨rfl, HE9.out⟩
     · have hl20 : ¬ (20 : Int) < (r2.length : Int) := by omega
       obtain ⟨Q, hQ⟩ : ∃ Q, Q = applyP R t (r1, r2) := ⟨_, rfl⟩
       have hq0 : Q.1 ≠ 0 → Q.2 = zeroTm := fun h => by rw [hQ] at h ⊢; exact applyP_zero h
       have hqv : Q.1 = 0 → validT Q.2 = 0 := fun h => by rw [hQ] at h ⊢; exact applyP_ok h
       have hqe : Q.1 = 0 → errT Q.2 = 0 := fun h => (validT_iff.1 (hqv h)).1
       have HXZ : Hid (sizeT Q.2 ≤ 400) := Lib.hid (by
        by_cases h : Q.1 = 0
        · exact sizeT_valid (hqv h)
        · rw [hq0 h]; decide)
       have hcl := fun (w' : World) (hE : Ext w5 w') => (iClone_own (w := w') (by omega) (HP.out.ext hE)).mono (R' := fun e w'' => ∃ u, e = .returned u ∧ Ext w' w'' ∧ OwnG elI w'' w5.heap.size 3 (fun _ => False) u r2) (fun e w'' ⟨u, h1, h2, h3⟩ => ⟨u, h1, h2, (h3.low hE.size).free⟩)
       have hcp := fun (w' : World) (ua : Option Addr) (uc : Nat) (hE : Ext w5 w') (h : LsG elI w' Any (.slice ua r2.length uc) r2) => (PApply_any (w := w') (r := (r1, r2)) HS.out HR64.out (HL.out.ext hE) (by have := HTZ.out; omega) (HT.out.ext hE) h).mono (R' := fun e w'' => ∃ v, e = .returned v ∧ Ext w' w'' ∧ resZ2 Any Q.2 Q.1 v w'') (fun e w'' ⟨v, er, h1, h2, h3⟩ => by
        rw [← hQ] at h3
        obtain ⟨rfl, h4⟩ := errR_tm h3 hq0 hqe
        exact ⟨_, h1, h2, v, rfl, h4⟩)
       have hcr := fun (w' : World) (hE : Ext w5 w') => (RApply_any (w := w') (r := (r1, r2)) HS.out HR64.out (HL.out.ext hE) (by have := HTZ.out; omega) (HT.out.ext hE) (HP.out.ext hE)).mono (R' := fun e w'' => ∃ v, e = .returned (.tuple #[v, .int .i64 Q.1]) ∧ Ext w' w'' ∧ resZ Any Q.2 v w'') (fun e w'' ⟨v, er, h1, h2, h3⟩ => by
        rw [← hQ] at h3
        obtain ⟨rfl, h4⟩ := errR_tm h3 hq0 hqe
        exact ⟨v, h1, h2, h4⟩)
       obtain ⟨er, x⟩ := Q
       simp only at HXZ hcp hcr
       have HCL := Lib.hid hcl
       have HCP := Lib.hid hcp
       have HCR := Lib.hid hcr
       clear hQ hq0 hqv hqe hcl hcp hcr h20
       go_upto_region 3 with fail
       have HFCT := Lib.hid (And.intro b0 (And.intro b1 (And.intro b2 (And.intro b3 (And.intro d0 d1)))))
       refine wp_region_reg 15 true (by kernel_rfl) (by kernel_rfl) ?_
       refine reg_value (fun _ => rfl) ?_ (fun g w' vs hM hE hP => ?_) ?_
       rotate_left
       · (clear hP hM; have ⟨z0, z1, z2, z3, z4, z5⟩ := cs_e6 hE HFCT.out; go_simp; first | done | rfl)
       refine reg_value (fun _ => rfl) ?_ (fun g w' vs hM hE hP => ?_) ?_
       rotate_left
       · (clear hP hM; have ⟨z0, z1, z2, z3, z4, z5⟩ := cs_e6 hE HFCT.out; go_simp; first | done | rfl)
       refine reg_value (fun _ => rfl) ?_ (fun g w' vs hM hE hP => ?_) ?_
       rotate_left
       · (clear hP hM; have ⟨z0, z1, z2, z3, z4, z5⟩ := cs_e6 hE HFCT.out; go_simp; first | done | rfl)
       refine reg_value (fun _ => rfl) ?_ (fun g w' vs hM hE hP => ?_) ?_
       rotate_left
       · (clear hP hM; have ⟨z0, z1, z2, z3, z4, z5⟩ := cs_e6 hE HFCT.out; go_simp; first | done | rfl)
       refine reg_value (fun _ => rfl) ?_ (fun g w' vs hM hE hP => ?_) ?_
       rotate_left
       · (clear hP hM; have ⟨z0, z1, z2, z3, z4, z5⟩ := cs_e6 hE HFCT.out; go_simp; first | done | rfl)
       refine reg_value (fun _ => rfl) ?_ (fun g w' vs hM hE hP => ?_) ?_
       rotate_left
       · (clear hP hM; have ⟨z0, z1, z2, z3, z4, z5⟩ := cs_e6 hE HFCT.out; go_simp; first | done | rfl)
       refine reg_call (fun _ => rfl) 18 (fun _ => #[.slice pa r2.length pc]) (fun g w' m hM hE hP => ?_) (fun u w'' => OwnG elI w'' w5.heap.size 3 (fun _ => False) u r2) ownI.persist (fun g w' m hM hE hP => HCL.out w' hE) ?_
       · (clear hP hM; go_simp; first | done | exact ⟨rfl, rfl⟩ | rfl)
       refine reg_value (fun _ => rfl) (fun g => .agg #[.int .i64 r1, (g 6).v]) (fun g w' vs hM hE hP => ?_) ?_
       · obtain ⟨ua, uc, hu, -, -⟩ := OwnG.slice (hP _ List.mem_cons_self (anc_of 3 (by kernel_rfl)))
         have hu : (g 6).v = _ := hu
         clear hP hM
         rw [hu]
         go_simp
       refine reg_call (fun _ => rfl) 17 (fun g => #[.slice a R.length cap, .agg #[.int .i64 t.kind, .string t.name, .int .i64 t.sort, .slice ta t.kids.length tc], .agg #[.int .i64 r1, (g 6).v]]) (fun g w' m hM hE hP => ?_) (resZ2 Any x er) resZ2.persist (fun g w' m hM hE hP => ?_) ?_
       · (clear hP hM; go_simp; first | done | exact ⟨rfl, rfl⟩ | rfl)
       · have h := (hP _ List.mem_cons_self (anc_of 3 (by kernel_rfl)))
         have h := OwnG.any h
         obtain ⟨ua, uc, hu, -, -⟩ := h.slice
         have hu : (g 6).v = _ := hu
         rw [show (g (6, fun u w'' => OwnG elI w'' w5.heap.size 3 (fun _ => False) u r2).1).v = (g 6).v from rfl, hu] at h
         rw [hu]
         exact HCP.out w' ua uc hE h
       refine reg_value (fun _ => rfl) ?_ (fun g w' vs hM hE hP => ?_) ?_
       rotate_left
       · (clear hP hM; have ⟨z0, z1, z2, z3, z4, z5⟩ := cs_e6 hE HFCT.out; go_simp; first | done | rfl)
       refine reg_value (fun _ => rfl) (fun g => tupOf (g 8).v 0) (fun g w' vs hM hE hP => ?_) ?_
       · obtain ⟨_, hu, -⟩ := hP _ List.mem_cons_self (anc_of 3 (by kernel_rfl))
         have hu : (g 8).v = _ := hu
         clear hP hM
         go_simp
         first | done | simp [tupOf, hu]
       refine reg_value (fun _ => rfl) (fun g => tupOf (g 8).v 1) (fun g w' vs hM hE hP => ?_) ?_
       · obtain ⟨_, hu, -⟩ := hP _ List.mem_cons_self (anc_of 3 (by kernel_rfl))
         have hu : (g 8).v = _ := hu
         clear hP hM
         go_simp
         first | done | simp [tupOf, hu]
       refine reg_fresh (fun _ => rfl) (fun n => .pointer (some ⟨n, 0, none⟩)) ?_ (fun g w' vs hM hE hP => ?_) ?_
       rotate_left
       · (clear hP hM; go_simp; first | done | rfl | exact ⟨rfl, rfl⟩)
       refine reg_turn (fun _ => rfl) 12 (fun _ => .cells #[.int .i64 0, .string ⟨#[]⟩, .int .i64 0, .slice none 0 0] 25) (fun g => .cells (aggOf (tupOf (g 8).v 0)) 25) List.mem_cons_self (anc_of 3 (by kernel_rfl)) (fun _ => .inr rfl) (fun g w' m hM hE hP hb => ?_) ?_
       · obtain ⟨k9, n9, s9, a9, l9, c9, hu⟩ := resZ2_shape (hP _ List.mem_cons_self (anc_of 3 (by kernel_rfl)))
         exact turn_store hb hu (fun z0 z1 z2 z3 f0 f1 f2 f3 ht => by clear hP hM hb hE hu; go_simp)
       refine reg_value (fun _ => rfl) ?_ (fun g w' vs hM hE hP => ?_) ?_
       rotate_left
       · (clear hP hM; have ⟨z0, z1, z2, z3, z4, z5⟩ := cs_e6 hE HFCT.out; go_simp; first | done | rfl)
       intro g w6 hE6 hF hQ
       simp only [List.drop_succ_cons, List.drop_zero, Act.put, List.setIfInBounds_toArray, List.set_cons_succ, List.set_cons_zero]
       obtain ⟨v, hu, xa, xc, rfl, hTx⟩ := hQ _ List.mem_cons_self
       have hu : (g 8).v = _ := hu
       have ht0 : tupOf (g 8).v 0 = .agg #[.int .i64 x.kind, .string x.name, .int .i64 x.sort, .slice xa x.kids.length xc] := by rw [hu]; rfl
       have ht1 : tupOf (g 8).v 1 = .int .i64 er := by rw [hu]; rfl
       obtain ⟨hFb, hFo⟩ := hF.2.1 (12, fun g => .cells (aggOf (tupOf (g 8).v 0)) 25) (by simp)
       simp only [ht0, aggOf] at hFb
       simp only [ht0, ht1]
       simp only [hu]
       clear hF hQ hu ht0 ht1
       generalize (g 12).n = o at hFb hFo ⊢
       generalize (g 6).v = v38
       have HE56 := Lib.hid hE6
       obtain ⟨b0, b1, b2, b3, d0, d1⟩ := cs_e6 hE6 ⟨b0, b1, b2, b3, d0, d1⟩
       have HE1 := Lib.hid (HE1.out.trans hE6)
       obtain ⟨x0, x1, x2, x3⟩ := box4r hFb
       have HTX := Lib.hid hTx.tm
       have hlx := hTx.tm.len
       have hcx := hTx.tm.cap
       unfold maxLen at hcx
       clear hE6 hFb hFo hTx
       go_wp2_with fail
       refine (HCR.out _ HE56.out).mono ?_
       rintro e w7 ⟨v, rfl, hE7, ya, yc, rfl, hTy⟩
       obtain ⟨yx, hyx⟩ : ∃ zz9, zz9 = w7.heap.size := ⟨_, rfl⟩
       obtain ⟨w8, hw8⟩ : ∃ zz9, zz9 = w7.alloc (.cells #[.int .i64 x.kind, .string x.name, .int .i64 x.sort, .slice ya x.kids.length yc] 25) := ⟨_, rfl⟩
       have hE78 : Ext w7 w8 := by rw [hw8]; exact Ext.alloc _ _
       have y0 : w8.cell? ⟨yx, 0, none⟩ = some (.int .i64 x.kind) := by rw [cellc (show w8.heap[yx]? = _ by rw [hw8, hyx]; exact hs_new)]; rfl
       have y1 : w8.cell? ⟨yx, 1, none⟩ = some (.string x.name) := by rw [cellc (show w8.heap[yx]? = _ by rw [hw8, hyx]; exact hs_new)]; rfl
       have y2 : w8.cell? ⟨yx, 2, none⟩ = some (.int .i64 x.sort) := by rw [cellc (show w8.heap[yx]? = _ by rw [hw8, hyx]; exact hs_new)]; rfl
       have y3 : w8.cell? ⟨yx, 3, none⟩ = some (.slice ya x.kids.length yc) := by rw [cellc (show w8.heap[yx]? = _ by rw [hw8, hyx]; exact hs_new)]; rfl
       have hE68 := hE7.trans hE78
       have HTY := Lib.hid (hTy.tm.ext hE78)
       obtain ⟨x0, x1, x2, x3⟩ := cs_e4 hE68 ⟨x0, x1, x2, x3⟩
       have HTX := Lib.hid (HTX.out.ext hE68)
       have HE1 := Lib.hid (HE1.out.trans hE68)
       have hcs := RSame_any (w := w8) (s := x) (t := x) (by have := HXZ.out; omega) (by have := HXZ.out; omega) HTX.out HTY.out
       rw [show decide (x = x) = true from decide_eq_true rfl] at hcs
       have HCS := Lib.hid hcs
       have ee : (er == er) = true := by simp
       clear hE7 hE78 hE68 hTy hcs b0 b1 b2 b3 d0 d1
       go_upto_region 5 with fail
       rw [← hw8, ← hyx]
       clear hw8 hyx
       go_wp2_with fail
       refine HCS.out.mono ?_
       rintro e w9 ⟨rfl, hE9⟩
       have HE1 := Lib.hid (HE1.out.trans hE9)
       clear hE9
       go_wp2_with fail
       go_ret
       exact ⟨rb (by simp), HE1.out⟩

end Go.Proofs.YtpfnlbaloaohgaaGreat
