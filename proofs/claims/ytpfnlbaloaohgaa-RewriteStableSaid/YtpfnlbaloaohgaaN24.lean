/- Contracts: a step. -/
import Derived.Test.YtpfnlbaloaohgaaH6
namespace Go.Proofs.Ytpfnlbaloaohgaa
open Go Go.RowKit
set_option linter.unusedVariables false
set_option linter.unusedSimpArgs false

/-- what an extract takes from a tuple -/
def tupleAt (v : Value) (i : Nat) : Value := match v with
 | .tuple vs => vs.getD i undef
 | _ => undef

set_option maxRecDepth 100000 in
set_option maxHeartbeats 8000000 in
theorem step_any {w : World} {S S' S'' : Nat → Prop} {a ta pa : Option Addr} {cap tc pc : Nat} {R : List Rl} {t : Tm} {r : Rdx} (hR0 : rulesE R = 0) (ht0 : validT t = 0) (hr64 : I64 r.1) (hL : LsG elP w S (.slice a R.length cap) R) (hT : TmW w S' ta tc t) (hP : LsG elI w S'' (.slice pa r.2.length pc) r.2) :
 Calls Try.prog 38 #[.slice a R.length cap, .agg #[.int .i64 t.kind, .string t.name, .int .i64 t.sort, .slice ta t.kids.length tc], .agg #[.int .i64 r.1, .slice pa r.2.length pc]] w fun e w' => ∃ v er, e = .returned (.tuple #[v, .int .i64 er]) ∧ Ext w w' ∧ errR w' (fun c => w.heap.size ≤ c) v er (stepP R t r).2 (stepP R t r).1 := by
 obtain ⟨-, hll, hlc⟩ := hL.len
 unfold maxLen at hlc
 obtain ⟨-, hpl, hpc⟩ := hP.len
 unfold maxLen at hpc
 have ht4 := (validT_iff.1 ht0).2.1
 have h40 : R.length ≤ 40 := by
  have h := hR0
  unfold rulesE at h
  split at h
  · omega
  · omega
 have hrv : ∀ (j : Nat) rl, R[j]? = some rl → validT rl.1 = 0 ∧ validT rl.2 = 0 := fun j rl h => by
  have := ruleE_iff.1 (rulesE_get h hR0)
  exact ⟨this.1, this.2.1⟩
 obtain ⟨bx, w1, hbbx, hwbx, HBbx, hEbx⟩ := box_new w (.cells #[.int .i64 t.kind, .string t.name, .int .i64 t.sort, .slice ta t.kids.length tc] 31)
 have hs1 : w1.heap.size = bx + 1 := by rw [hwbx, hbbx, World.size_alloc]
 obtain ⟨dx, hdx⟩ : ∃ zz9, zz9 = bx + 1 := ⟨_, rfl⟩
 obtain ⟨w1b, hw1b⟩ : ∃ zz9, zz9 = w1.alloc (.cells #[.int .i64 r.1, .slice pa r.2.length pc] 45) := ⟨_, rfl⟩
 have hE1b : Ext w1 w1b := by rw [hw1b]; exact Ext.alloc _ _
 have hs1b : w1b.heap.size = dx + 1 := by rw [hw1b, World.size_alloc, hs1, hdx]
 have hbd : w1b.heap[dx]? = some (.cells #[.int .i64 r.1, .slice pa r.2.length pc] 45) := by rw [hw1b, hdx, ← hs1]; exact hs_new
 obtain ⟨rx, hrx⟩ : ∃ zz9, zz9 = dx + 1 := ⟨_, rfl⟩
 obtain ⟨w2, hw2⟩ : ∃ zz9, zz9 = w1b.alloc (.cells #[.int .i64 0, .string ⟨#[]⟩, .int .i64 0, .slice none 0 0] 31) := ⟨_, rfl⟩
 have hE2 : Ext w1b w2 := by rw [hw2]; exact Ext.alloc _ _
 have HBR : Hid (w2.heap[rx]? = some (.cells #[.int .i64 0, .string ⟨#[]⟩, .int .i64 0, .slice none 0 0] 31)) := Lib.hid (by rw [hw2, hrx, ← hs1b]; exact hs_new)
 have hEa := (hEbx.trans hE1b).trans hE2
 have HE2 := Lib.hid hEa
 have HNB : Hid (w.heap.size = bx ∧ dx = bx + 1 ∧ rx = bx + 2) := Lib.hid ⟨hbbx.symm, hdx, by omega⟩
 have HBD := Lib.hid (hs_ext hE2 hbd)
 have HBB := Lib.hid (hs_ext (hE1b.trans hE2) HBbx.out)
 obtain ⟨b0, b1, b2, b3⟩ := box4r (HBB.out)
 have d0 : w2.cell? ⟨dx, 0, none⟩ = some (.int .i64 r.1) := by rw [cellc HBD.out]; rfl
 have d1 : w2.cell? ⟨dx, 1, none⟩ = some (.slice pa r.2.length pc) := by rw [cellc HBD.out]; rfl
 have HL := Lib.hid (hL.ext hEa).any
 have HT := Lib.hid (hT.ext hEa).any
 have HP := Lib.hid (hP.ext hEa).any
 have H4 := Lib.hid (And.intro ht4 h40)
 have HT0 := Lib.hid ht0
 have HRV := Lib.hid hrv
 have hr1 := hr64.1
 have hr2 := hr64.2
 obtain ⟨Q, hQ⟩ : ∃ Q, Q = stepP R t r := ⟨_, rfl⟩
 rw [← hQ]
 unfold stepP at hQ
 have HQ0 := Lib.hid hQ
 clear hL hT hP hEbx hE1b hE2 hEa hs1 hs1b hbd hR0 ht0 ht4 h40 hrv hQ hr64
 go_enter Try.func38, Try.ntmps38
 go_upto_region 1 with fail
 rw [← hwbx, ← hbbx, ← hw1b, ← hdx, ← hw2, ← hrx]
 clear hwbx hbbx hw1b hdx hw2 hrx
 have HNZ : Hid True := Lib.hid trivial
 by_cases hin : 0 ≤ r.1 ∧ r.1 < R.length
 · obtain ⟨j, hj⟩ : ∃ j : Nat, r.1 = j := ⟨r.1.toNat, by omega⟩
   obtain ⟨rl, hrl⟩ : ∃ rl, R[j]? = some rl := ⟨_, List.getElem?_eq_getElem (by omega)⟩
   have hra : ruleAt R r.1 = some rl := by rw [hj]; unfold ruleAt; rw [if_pos (by omega)]; simpa using hrl
   rw [hj] at d0
   have hj1 : (j : Int) < (R.length : Int) := by omega
   have hj2 : ¬ ((j : Int) < 0) := by omega
   have hj3 : ¬ ((R.length : Int) ≤ (j : Int)) := by omega
   have hj4 : (0 : Int) ≤ (j : Int) := by omega
   have hq1 := HQ0.out
   rw [hra] at hq1
   simp only at hq1
   have HQ1 := Lib.hid hq1
   have HRL := Lib.hid hrl
   have HCA := Lib.hid (PAt_any (w := w2) (by have := H4.out; omega) HT.out HP.out)
   clear hrl hra hq1 hin hr1 hr2
   go_wp2_with fail
   refine HCA.out.mono ?_
   rintro e w3 ⟨v3, er, rfl, hE3, hA3⟩
   obtain ⟨b0, b1, b2, b3, d0, d1⟩ := cs_e6 hE3 ⟨b0, b1, b2, b3, d0, d1⟩
   have HL := Lib.hid (HL.out.ext hE3)
   have HT := Lib.hid (HT.out.ext hE3)
   have HP := Lib.hid (HP.out.ext hE3)
   have HBR := Lib.hid (hs_ext hE3 HBR.out)
   have HE3 := Lib.hid (HE2.out.trans hE3)
   cases hat : atT r.2 t with
   | none =>
     obtain ⟨rfl, rfl⟩ : er = 7 ∧ v3 = .agg #[.int .i64 0, .string ⟨#[]⟩, .int .i64 0, .slice none 0 0] := by
      rcases hA3 with ⟨x, e1, -⟩ | ⟨-, e2, e3⟩
      · rw [hat] at e1; cases e1
      · exact ⟨e2, e3⟩
     have HQ : Hid (Q = (7, zeroTm)) := Lib.hid (by rw [HQ1.out, hat])
     have HR4 := Lib.hid (hs_ext (Ext.alloc w3 (.cells #[.int .i64 0, .string ⟨#[]⟩, .int .i64 0, .slice none 0 0] 31)) HBR.out)
     clear hE3 hA3 hat
     go_wp2_with (first
      | (refine wpList_buildT rfl [] rfl [] rfl built_none ?_)
      | (refine wpList_storeT rfl (.tmp 6) (.tmp 33) rfl (g := rx) rfl (k := 0) (s := 0) (n := ⟨#[]⟩) (ka := none) (kl := 0) (kc := 0) rfl HR4.out rfl ?_
         intro wq c6 q6 e6 z6
         have HG6 := Lib.hid c6
         have HEQ := Lib.hid (e6 w (HE3.out.then_al _) (by have := HNB.out; omega))
         clear c6 q6 e6 z6))
     refine ret_term2 (g := rx) rfl rfl HG6.out rfl ⟨_, _, rfl, HEQ.out, ?_, ?_, ?_⟩
     · rw [HQ.out]
     · intro h; rw [HQ.out] at h; exact absurd h (by first | decide | exact HNZ.out)
     · intro _; rfl
   | some u =>
     obtain ⟨rfl, ua, uc, rfl, hTu⟩ : er = 0 ∧ IsS w3 (fun c => w2.heap.size ≤ c) v3 u := by
      rcases hA3 with ⟨x, e1, e2, e3⟩ | ⟨e1, -⟩
      · rw [hat] at e1; cases e1; exact ⟨e2, e3⟩
      · rw [hat] at e1; cases e1
     have hq2 := HQ1.out
     rw [hat] at hq2
     simp only at hq2
     have HQ2 := Lib.hid hq2
     have HUZ : Hid (sizeT u ≤ 400) := Lib.hid (Nat.le_trans (atT_size _ _ _ hat) H4.out.1)
     obtain ⟨ux, w4, hbux, hwux, HBux, hEux⟩ := box_new w3 (.cells #[.int .i64 u.kind, .string u.name, .int .i64 u.sort, .slice ua u.kids.length uc] 31)
     obtain ⟨b0, b1, b2, b3, d0, d1⟩ := cs_e6 hEux ⟨b0, b1, b2, b3, d0, d1⟩
     have HL := Lib.hid (HL.out.ext hEux)
     have HT := Lib.hid (HT.out.ext hEux)
     have HP := Lib.hid (HP.out.ext hEux)
     have HBR := Lib.hid (hs_ext hEux HBR.out)
     have HE3 := Lib.hid (HE3.out.trans hEux)
     have HTU := Lib.hid (hTu.ext hEux).any
     clear hE3 hA3 hat hTu hq2 hEux
     obtain ⟨rb, ro, xa, xc, ya, yc, rfl, ⟨x0, x1, x2, x3⟩, ⟨y0, y1, y2, y3⟩, hTx, hTy⟩ := HL.out.pAt HRL.out
     have hv := HRV.out j rl HRL.out
     have HV := Lib.hid (And.intro (validT_iff.1 hv.1).2.1 (validT_iff.1 hv.2).2.1)
     obtain ⟨m, hm⟩ : ∃ m, m = matchP rl.1 u := ⟨_, rfl⟩
     have hcm := fun (w' : World) (h : Ext w4 w') => PMatch_any (w := w') (p := rl.1) (t := u) (by have := HV.out; omega) (by have := HUZ.out; omega) (hTx.ext h) (HTU.out.ext h)
     simp only [← hm] at hcm
     have HCM := Lib.hid hcm
     have HMB : Hid (∀ b ∈ m.2, sizeT b.2 ≤ 400) := Lib.hid (by rw [hm]; exact matchP_ok)
     have HTY := Lib.hid hTy
     have hq3 := HQ2.out
     rw [← hm] at hq3
     have HQ3 := Lib.hid hq3
     go_upto_region 6 with fail
     rw [← hwux, ← hbux]
     clear hwux hbux
     obtain ⟨u0, u1, u2, u3⟩ := box4r (HBux.out)
     clear hTx hTy hv hm hcm hq3
     have HFCT := Lib.hid (And.intro d0 (And.intro d1 (And.intro x0 (And.intro x1 (And.intro x2 (And.intro x3 (And.intro u0 (And.intro u1 (And.intro u2 u3)))))))))
     refine wp_region_reg 13 false (by kernel_rfl) (by kernel_rfl) ?_
     refine reg_value (fun _ => rfl) ?_ (fun g w' vs hM hE hP => ?_) ?_
     rotate_left
     · (clear hP hM; have ⟨z0, z1, z2, z3, z4, z5, z6, z7, z8, z9⟩ := cs_e10 hE HFCT.out; go_simp; first | done | rfl)
     refine reg_value (fun _ => rfl) ?_ (fun g w' vs hM hE hP => ?_) ?_
     rotate_left
     · (clear hP hM; have ⟨z0, z1, z2, z3, z4, z5, z6, z7, z8, z9⟩ := cs_e10 hE HFCT.out; go_simp; first | done | rfl)
     refine reg_value (fun _ => rfl) ?_ (fun g w' vs hM hE hP => ?_) ?_
     rotate_left
     · (clear hP hM; have ⟨z0, z1, z2, z3, z4, z5, z6, z7, z8, z9⟩ := cs_e10 hE HFCT.out; go_simp; first | done | rfl)
     refine reg_value (fun _ => rfl) ?_ (fun g w' vs hM hE hP => ?_) ?_
     rotate_left
     · (clear hP hM; have ⟨z0, z1, z2, z3, z4, z5, z6, z7, z8, z9⟩ := cs_e10 hE HFCT.out; go_simp; first | done | rfl)
     refine reg_value (fun _ => rfl) ?_ (fun g w' vs hM hE hP => ?_) ?_
     rotate_left
     · (clear hP hM; have ⟨z0, z1, z2, z3, z4, z5, z6, z7, z8, z9⟩ := cs_e10 hE HFCT.out; go_simp; first | done | rfl)
     refine reg_value (fun _ => rfl) ?_ (fun g w' vs hM hE hP => ?_) ?_
     rotate_left
     · (clear hP hM; have ⟨z0, z1, z2, z3, z4, z5, z6, z7, z8, z9⟩ := cs_e10 hE HFCT.out; go_simp; first | done | rfl)
     refine reg_value (fun _ => rfl) ?_ (fun g w' vs hM hE hP => ?_) ?_
     rotate_left
     · (clear hP hM; have ⟨z0, z1, z2, z3, z4, z5, z6, z7, z8, z9⟩ := cs_e10 hE HFCT.out; go_simp; first | done | rfl)
     refine reg_call (fun _ => rfl) 54 ?_ (fun g w' m' hM hE hP => ?_) (fun v w'' => ∃ s, v = .tuple #[s, .int .i64 m.1] ∧ LsG elP w'' (fun _ => True) s m.2) ⟨fun u a b ⟨s, e, h⟩ hE => ⟨s, e, h.ext hE⟩, (fun h => nomatch h), (fun h => absurd rfl h)⟩ (fun g w' m' hM hE hP => ?_) ?_
     rotate_left
     · (clear hP hM; have zz1 := cs_ext hE x0; have zz2 := cs_ext hE x1; have zz3 := cs_ext hE x2; have zz4 := cs_ext hE x3; go_simp; first | done | exact ⟨rfl, rfl⟩ | rfl)
     · exact (HCM.out w' hE).mono (fun e w'' ⟨s, h1, h2, h3⟩ => ⟨_, h1, h2, s, rfl, h3⟩)
     refine reg_value (fun _ => rfl) ?_ (fun g w' vs hM hE hP => ?_) ?_
     rotate_left
     · (clear hP hM; have ⟨z0, z1, z2, z3, z4, z5, z6, z7, z8, z9⟩ := cs_e10 hE HFCT.out; go_simp; first | done | rfl)
     refine reg_value (fun _ => rfl) (fun g => tupleAt (g 7).v 0) (fun g w' vs hM hE hP => ?_) ?_
     · obtain ⟨s, hu, -⟩ := hP _ List.mem_cons_self (anc_of 3 (by kernel_rfl))
       have hu : (g 7).v = _ := hu
       clear hP hM
       go_simp
       first | done | simp [tupleAt, hu]
     refine reg_value (fun _ => rfl) (fun g => tupleAt (g 7).v 1) (fun g w' vs hM hE hP => ?_) ?_
     · obtain ⟨s, hu, -⟩ := hP _ List.mem_cons_self (anc_of 3 (by kernel_rfl))
       have hu : (g 7).v = _ := hu
       clear hP hM
       go_simp
       first | done | simp [tupleAt, hu]
     refine reg_value (fun _ => rfl) ?_ (fun g w' vs hM hE hP => ?_) ?_
     rotate_left
     · (clear hP hM; have ⟨z0, z1, z2, z3, z4, z5, z6, z7, z8, z9⟩ := cs_e10 hE HFCT.out; go_simp; first | done | rfl)
     refine reg_value (fun _ => rfl) ?_ (fun g w' vs hM hE hP => ?_) ?_
     rotate_left
     · (clear hP hM; have ⟨z0, z1, z2, z3, z4, z5, z6, z7, z8, z9⟩ := cs_e10 hE HFCT.out; go_simp; first | done | rfl)
     intro g w5 hE5 hF hQ
     simp only [List.drop_succ_cons, List.drop_zero, Act.put, List.setIfInBounds_toArray, List.set_cons_succ, List.set_cons_zero]
     obtain ⟨s, hu, hB5⟩ := hQ _ List.mem_cons_self
     have hu : (g 7).v = _ := hu
     rw [hu, show tupleAt (.tuple #[s, .int .i64 m.1]) 0 = s from rfl, show tupleAt (.tuple #[s, .int .i64 m.1]) 1 = .int .i64 m.1 from rfl]
     obtain ⟨b0, b1, b2, b3, d0, d1, x0, x1, x2, x3, y0, y1, y2, y3⟩ := cs_e14 hE5 ⟨b0, b1, b2, b3, d0, d1, x0, x1, x2, x3, y0, y1, y2, y3⟩
     have HL := Lib.hid (HL.out.ext hE5)
     have HT := Lib.hid (HT.out.ext hE5)
     have HP := Lib.hid (HP.out.ext hE5)
     have HBR := Lib.hid (hs_ext hE5 HBR.out)
     have HE3 := Lib.hid (HE3.out.trans hE5)
     have HTY := Lib.hid (HTY.out.ext hE5)
     obtain ⟨sa, sc, hs, -, hsc⟩ := hB5.slice
     unfold maxLen at hsc
     subst hs
     have HB5 := Lib.hid hB5
     clear hE5 hF hQ hu hB5 u0 u1 u2 u3
     by_cases hm0 : m.1 = 0
     · have em : (m.1 != 0) = false := by simp [hm0]
       have hq4 := HQ3.out
       rw [if_neg (by simp [hm0])] at hq4
       obtain ⟨X, hX⟩ : ∃ X, X = putF (bndF m.2) rl.2 := ⟨_, rfl⟩
       rw [← hX] at hq4
       have hca := applied_any (w := w5) HMB.out HV.out.2 HB5.out HTY.out
       rw [← hX] at hca
       obtain ⟨o, ho⟩ : ∃ o, o = validT X := ⟨_, rfl⟩
       rw [← ho] at hca hq4
       have HCA2 := Lib.hid hca
       have HQ4 := Lib.hid hq4
       have HO := Lib.hid ho
       clear hm0 hq4 hX hca ho
       go_upto_region 9 with fail
       go_wp2_with fail
       refine HCA2.out.mono ?_
       rintro e w6 ⟨v6, er, rfl, hE6, her, hX1, hX2⟩
       obtain rfl : er = o := her
       obtain ⟨b0, b1, b2, b3, d0, d1⟩ := cs_e6 hE6 ⟨b0, b1, b2, b3, d0, d1⟩
       have HL := Lib.hid (HL.out.ext hE6)
       have HT := Lib.hid (HT.out.ext hE6)
       have HP := Lib.hid (HP.out.ext hE6)
       have HBR := Lib.hid (hs_ext hE6 HBR.out)
       have HE3 := Lib.hid (HE3.out.trans hE6)
       have HE26 : Hid (Ext w w6) := HE3
       by_cases ho0 : er = 0
       · have e0 : (er != 0) = false := by simp [ho0]
         obtain ⟨va, vc, rfl, hT6⟩ := hX1 ho0
         have hq5 := HQ4.out
         rw [if_neg (by simp [ho0])] at hq5
         have HXZ : Hid (sizeT X ≤ 400) := Lib.hid (validT_iff.1 (by rw [← HO.out]; exact ho0)).2.1
         have HRW : Hid (rx < w6.heap.size) := Lib.hid (lt_of_get' HBR.out)
         obtain ⟨vx, w7, hbvx, hwvx, HBvx, hEvx⟩ := box_new w6 (.cells #[.int .i64 X.kind, .string X.name, .int .i64 X.sort, .slice va X.kids.length vc] 31)
         have HE7S : Hid (bx + 2 < w7.heap.size) := Lib.hid (by have := HRW.out; have := hEvx.size; have := HNB.out; omega)
         obtain ⟨b0, b1, b2, b3, d0, d1⟩ := cs_e6 hEvx ⟨b0, b1, b2, b3, d0, d1⟩
         have HL := Lib.hid (HL.out.ext hEvx)
         have HT := Lib.hid (HT.out.ext hEvx)
         have HP := Lib.hid (HP.out.ext hEvx)
         have HBR := Lib.hid (hs_ext hEvx HBR.out)
         have HE3 := Lib.hid (HE3.out.trans hEvx)
         have HTX := Lib.hid (hT6.ext hEvx)
         have HQ5 := Lib.hid hq5
         have HCR := Lib.hid (PReplace_any (w := w7) (p := r.2) (by have := H4.out; omega) (by have := HXZ.out; omega) HT.out HP.out HTX.out)
         clear ho0 hX1 hX2 hE6 hT6 hq5 hEvx
         go_upto_region 10 with fail
         rw [← hwvx, ← hbvx]
         clear hwvx hbvx
         obtain ⟨x0, x1, x2, x3⟩ := box4r (HBvx.out)
         go_wp2_with fail
         refine HCR.out.mono ?_
         rintro e w8 ⟨v8, er8, rfl, hE8, hA8⟩
         have HBR := Lib.hid (hs_ext hE8 HBR.out)
         have HE3 := Lib.hid (HE3.out.trans hE8)
         cases hrp : repT r.2 t X with
         | none =>
           obtain ⟨rfl, rfl⟩ : er8 = 7 ∧ v8 = .agg #[.int .i64 0, .string ⟨#[]⟩, .int .i64 0, .slice none 0 0] := by
            rcases hA8 with ⟨x, e1, -⟩ | ⟨-, e2, e3⟩
            · rw [hrp] at e1; cases e1
            · exact ⟨e2, e3⟩
           have HQ : Hid (Q = (7, zeroTm)) := Lib.hid (by rw [HQ5.out, hrp])
           have HR4 := Lib.hid (hs_ext (Ext.alloc w8 (.cells #[.int .i64 0, .string ⟨#[]⟩, .int .i64 0, .slice none 0 0] 31)) HBR.out)
           clear hE8 hA8 hrp
           go_wp2_with (first
            | (refine wpList_buildT rfl [] rfl [] rfl built_none ?_)
            | (refine wpList_storeT rfl (.tmp 6) (.tmp 78) rfl (g := rx) rfl (k := 0) (s := 0) (n := ⟨#[]⟩) (ka := none) (kl := 0) (kc := 0) rfl HR4.out rfl ?_
               intro wq c6 q6 e6 z6
               have HG6 := Lib.hid c6
               have HEQ := Lib.hid (e6 w (HE3.out.then_al _) (by have := HNB.out; omega))
               clear c6 q6 e6 z6))
           refine ret_term2 (g := rx) rfl rfl HG6.out rfl ⟨_, _, rfl, HEQ.out, ?_, ?_, ?_⟩
           · rw [HQ.out]
           · intro h; rw [HQ.out] at h; exact absurd h (by first | decide | exact HNZ.out)
           · intro _; rfl
         | some y =>
           obtain ⟨rfl, ya, yc, rfl, hTy8⟩ : er8 = 0 ∧ IsS w8 (fun c => w7.heap.size ≤ c) v8 y := by
            rcases hA8 with ⟨x, e1, e2, e3⟩ | ⟨e1, -⟩
            · rw [hrp] at e1; cases e1; exact ⟨e2, e3⟩
            · rw [hrp] at e1; cases e1
           have hq6 := HQ5.out
           rw [hrp] at hq6
           simp only at hq6
           have HYZ : Hid (sizeT y ≤ 1000) := Lib.hid (by
            have h1 := repT_at r.2 t X
            rw [hrp] at h1
            obtain ⟨z, hz⟩ := Option.isSome_iff_exists.1 h1.symm
            have := repT_size _ _ _ _ _ hrp hz
            have := HXZ.out
            have := H4.out.1
            omega)
           obtain ⟨o2, ho2⟩ : ∃ o, o = validT y := ⟨_, rfl⟩
           rw [← ho2] at hq6
           obtain ⟨yx, w9, hbyx, hwyx, HByx, hEyx⟩ := box_new w8 (.cells #[.int .i64 y.kind, .string y.name, .int .i64 y.sort, .slice ya y.kids.length yc] 31)
           have HBR := Lib.hid (hs_ext hEyx HBR.out)
           have HE3 := Lib.hid (HE3.out.trans hEyx)
           have HTY9 := Lib.hid ((hTy8.ext hEyx).wide (S' := fun c => w.heap.size ≤ c ∧ c ≠ rx) (fun c hc _ => by have := HNB.out; have := HE7S.out; omega))
           have hcv := PValid_any (w := w9) (by have := HYZ.out; omega) HTY9.out
           rw [← ho2] at hcv
           have HCV := Lib.hid hcv
           have HQ6 := Lib.hid hq6
           clear hE8 hA8 hrp hTy8 hq6 hEyx hcv ho2
           go_upto_region 13 with fail
           rw [← hwyx, ← hbyx]
           clear hwyx hbyx
           obtain ⟨z0, z1, z2, z3⟩ := box4r (HByx.out)
           go_wp2_with fail
           refine HCV.out.mono ?_
           rintro e w10 ⟨rfl, hE10⟩
           obtain ⟨z0, z1, z2, z3⟩ := cs_e4 hE10 ⟨z0, z1, z2, z3⟩
           have HBR := Lib.hid (hs_ext hE10 HBR.out)
           have HE3 := Lib.hid (HE3.out.trans hE10)
           have HTY9 := Lib.hid (HTY9.out.ext hE10)
           clear hE10
           by_cases h20 : o2 = 0
           · have e2 : (o2 != 0) = false := by simp [h20]
             have HQ : Hid (Q = (0, y)) := Lib.hid (by rw [HQ6.out, if_neg (by simp [h20])])
             clear h20
             go_wp2_with (
              refine wpList_storeT rfl (.tmp 6) (.tmp 80) rfl (g := rx) rfl (k := y.kind) (s := y.sort) (n := y.name) (ka := ya) (kl := y.kids.length) (kc := yc) rfl HBR.out rfl ?_
              intro wq c6 q6 e6 z6
              have HG6 := Lib.hid c6
              have HEQ := Lib.hid (e6 w HE3.out (by have := HNB.out; omega))
              have HTQ : Hid (TmW wq (fun c => w.heap.size ≤ c) ya yc y) := Lib.hid (HTY9.out.keep (fun c hc _ => q6 c hc.2) (fun c hc _ => hc.1))
              clear c6 q6 e6 z6)
             refine ret_term2 (g := rx) rfl rfl HG6.out rfl ⟨_, _, rfl, HEQ.out, ?_, ?_, ?_⟩
             · rw [HQ.out]
             · intro _; rw [HQ.out]; exact ⟨ya, yc, rfl, HTQ.out⟩
             · intro h; rw [HQ.out] at h; exact absurd rfl h
           · have e2 : (o2 != 0) = true := by simp [h20]
             have HQ : Hid (Q = (o2, zeroTm)) := Lib.hid (by rw [HQ6.out, if_pos h20])
             have HNZ := Lib.hid h20
             clear h20
             go_wp2_with (first
              | (refine wpList_buildT rfl [] rfl [] rfl built_none ?_)
              | (refine wpList_storeT rfl (.tmp 6) (.tmp 78) rfl (g := rx) rfl (k := 0) (s := 0) (n := ⟨#[]⟩) (ka := none) (kl := 0) (kc := 0) rfl HBR.out rfl ?_
                 intro wq c6 q6 e6 z6
                 have HG6 := Lib.hid c6
                 have HEQ := Lib.hid (e6 w HE3.out (by have := HNB.out; omega))
                 clear c6 q6 e6 z6))
             refine ret_term2 (g := rx) rfl rfl HG6.out rfl ⟨_, _, rfl, HEQ.out, ?_, ?_, ?_⟩
             · rw [HQ.out]
             · intro h; rw [HQ.out] at h; exact absurd h (by first | decide | exact HNZ.out)
             · intro _; rfl
       · have e0 : (er != 0) = true := by simp [ho0]
         obtain rfl := hX2 ho0
         have HQ : Hid (Q = (er, zeroTm)) := Lib.hid (by rw [HQ4.out, if_pos ho0])
         have HNZ := Lib.hid ho0
         have HR4 := Lib.hid (hs_ext (Ext.alloc w6 (.cells #[.int .i64 0, .string ⟨#[]⟩, .int .i64 0, .slice none 0 0] 31)) HBR.out)
         clear ho0 hX1 hX2 hE6
         go_wp2_with (first
          | (refine wpList_buildT rfl [] rfl [] rfl built_none ?_)
          | (refine wpList_storeT rfl (.tmp 6) (.tmp 62) rfl (g := rx) rfl (k := 0) (s := 0) (n := ⟨#[]⟩) (ka := none) (kl := 0) (kc := 0) rfl HR4.out rfl ?_
             intro wq c6 q6 e6 z6
             have HG6 := Lib.hid c6
             have HEQ := Lib.hid (e6 w (HE3.out.then_al _) (by have := HNB.out; omega))
             clear c6 q6 e6 z6))
         refine ret_term2 (g := rx) rfl rfl HG6.out rfl ⟨_, _, rfl, HEQ.out, ?_, ?_, ?_⟩
         · rw [HQ.out]
         · intro h; rw [HQ.out] at h; exact absurd h (by first | decide | exact HNZ.out)
         · intro _; rfl
     · have em : (m.1 != 0) = true := by simp [hm0]
       have HQ : Hid (Q = (11, zeroTm)) := Lib.hid (by rw [HQ3.out, if_pos hm0])
       clear hm0
       go_wp2_with (first
        | (refine wpList_buildT rfl [] rfl [] rfl built_none ?_)
        | (refine wpList_storeT rfl (.tmp 6) (.tmp 48) rfl (g := rx) rfl (k := 0) (s := 0) (n := ⟨#[]⟩) (ka := none) (kl := 0) (kc := 0) rfl HBR.out rfl ?_
           intro wq c6 q6 e6 z6
           have HG6 := Lib.hid c6
           have HEQ := Lib.hid (e6 w HE3.out (by have := HNB.out; omega))
           clear c6 q6 e6 z6))
       refine ret_term2 (g := rx) rfl rfl HG6.out rfl ⟨_, _, rfl, HEQ.out, ?_, ?_, ?_⟩
       · rw [HQ.out]
       · intro h; rw [HQ.out] at h; exact absurd h (by first | decide | exact HNZ.out)
       · intro _; rfl
 · have HQ : Hid (Q = (7, zeroTm)) := Lib.hid (by
    have e : ruleAt R r.1 = none := by
     unfold ruleAt
     split
     · exact List.getElem?_eq_none (by omega)
     · rfl
    rw [HQ0.out, e])
   by_cases h0 : r.1 < 0
   · skip
     go_wp2_with (first
      | (refine wpList_buildT rfl [] rfl [] rfl built_none ?_)
      | (refine wpList_storeT rfl (.tmp 6) (.tmp 23) rfl (g := rx) rfl (k := 0) (s := 0) (n := ⟨#[]⟩) (ka := none) (kl := 0) (kc := 0) rfl HBR.out rfl ?_
         intro wq c6 q6 e6 z6
         have HG6 := Lib.hid c6
         have HEQ := Lib.hid (e6 w HE2.out (by have := HNB.out; omega))
         clear c6 q6 e6 z6))
     refine ret_term2 (g := rx) rfl rfl HG6.out rfl ⟨_, _, rfl, HEQ.out, ?_, ?_, ?_⟩
     · rw [HQ.out]
     · intro h; rw [HQ.out] at h; exact absurd h (by first | decide | exact HNZ.out)
     · intro _; rfl
   · have h1 : (R.length : Int) ≤ r.1 := by omega
     go_wp2_with (first
      | (refine wpList_buildT rfl [] rfl [] rfl built_none ?_)
      | (refine wpList_storeT rfl (.tmp 6) (.tmp 23) rfl (g := rx) rfl (k := 0) (s := 0) (n := ⟨#[]⟩) (ka := none) (kl := 0) (kc := 0) rfl HBR.out rfl ?_
         intro wq c6 q6 e6 z6
         have HG6 := Lib.hid c6
         have HEQ := Lib.hid (e6 w HE2.out (by have := HNB.out; omega))
         clear c6 q6 e6 z6))
     refine ret_term2 (g := rx) rfl rfl HG6.out rfl ⟨_, _, rfl, HEQ.out, ?_, ?_, ?_⟩
     · rw [HQ.out]
     · intro h; rw [HQ.out] at h; exact absurd h (by first | decide | exact HNZ.out)
     · intro _; rfl

end Go.Proofs.Ytpfnlbaloaohgaa
