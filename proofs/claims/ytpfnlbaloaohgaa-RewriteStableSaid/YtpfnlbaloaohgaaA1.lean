/- Contracts: the chapter's examples. -/
import Derived.Test.YtpfnlbaloaohgaaR11
import Derived.Test.YtpfnlbaloaohgaaH11
namespace Go.Proofs.Ytpfnlbaloaohgaa
open Go Go.RowKit
set_option linter.unusedVariables false
set_option linter.unusedSimpArgs false

theorem awR_small : smallR awR := by
 intro r hr
 have h0 := ruleN_ok 0 (by decide)
 have h2 := ruleN_ok 2 (by decide)
 simp only [awR, List.mem_cons, List.not_mem_nil, or_false] at hr
 rcases hr with rfl | rfl
 · omega
 · omega

set_option maxRecDepth 100000 in
set_option maxHeartbeats 16000000 in
theorem awake5 {w : World} : Calls Try.prog 5 #[] w fun e w' => e = .returned (.bool true) ∧ Ext w w' := by
 obtain ⟨R, hR⟩ : ∃ R, R = awR := ⟨_, rfl⟩
 obtain ⟨T, hT⟩ : ∃ T, T = awT := ⟨_, rfl⟩
 obtain ⟨U, hU⟩ : ∃ U, U = awA := ⟨_, rfl⟩
 have HRS : Hid (smallR R) := Lib.hid (by rw [hR]; exact awR_small)
 have HRD : Hid (redP R T = [(1, []), (0, [1])]) := Lib.hid (by rw [hR, hT]; exact aw_red)
 have HNM : Hid (normP R T 2 = (0, U, [(0, [1]), (1, [])])) := Lib.hid (by rw [hR, hT, hU]; exact aw_norm)
 have HPS : Hid (parseP awS = (0, T)) := Lib.hid (by rw [hT]; exact aw_parse)
 have HRL : Hid (rulesOf [0, 2] = R) := Lib.hid (by rw [hR]; exact aw_rules)
 have HTZ : Hid (sizeT T ≤ 100) := Lib.hid (by rw [hT]; decide +kernel)
 have HU := Lib.hid hU
 clear hR hT hU
 obtain ⟨bx, hbx⟩ : ∃ zz9, zz9 = w.heap.size := ⟨_, rfl⟩
 obtain ⟨w1, hw1⟩ : ∃ zz9, zz9 = w.alloc (.cells #[.int .u8 0, .int .u8 2] 5) := ⟨_, rfl⟩
 have hE1 : Ext w w1 := by rw [hw1]; exact Ext.alloc _ _
 have hC : LsG elB w1 Any (.slice (some ⟨bx, 0, none⟩) 2 2) [0, 2] := by
  refine cells_lsG (P := [(0, [.int .u8 0]), (2, [.int .u8 2])]) (by rw [hw1, hbx]; exact hs_new) rfl rfl rfl (by unfold maxLen; decide) trivial (fun p hp => ?_)
  simp at hp
  rcases hp with rfl | rfl
  · exact ⟨rfl, by decide⟩
  · exact ⟨rfl, by decide⟩
 have hcr := RRulesOf_any (C := [0, 2]) hC
 rw [HRL.out] at hcr
 have HCR := Lib.hid hcr
 have HE := Lib.hid hE1
 clear hE1 hC hcr
 go_enter Try.func5, Try.ntmps5
 go_wp2_with fail
 rw [← hw1, ← hbx]
 clear hw1 hbx
 refine HCR.out.mono ?_
 rintro e w2 ⟨v, rfl, hE2, hL2⟩
 obtain ⟨ra, rc, rfl, hrl, hrc⟩ := hL2.slice
 unfold maxLen at hrc
 have HL := Lib.hid hL2.any
 have HE := Lib.hid (HE.out.trans hE2)
 have hcp := RParse_any (w := w2) (s := awS) (by decide)
 rw [HPS.out] at hcp
 have HCP := Lib.hid hcp
 clear hE2 hL2 hcp
 go_wp2_with fail
 refine HCP.out.mono ?_
 rintro e w3 ⟨v, er, rfl, hE3, hR3⟩
 have her : er = 0 := hR3.1
 subst her
 obtain ⟨ta, tc, rfl, hT3⟩ := hR3.2.1 rfl
 obtain ⟨tx, w4, hbtx, hwtx, HBtx, hEtx⟩ := box_new w3 (.cells #[.int .i64 T.kind, .string T.name, .int .i64 T.sort, .slice ta T.kids.length tc] 31)
 have hE4 := hE3.trans hEtx
 have HT := Lib.hid (hT3.ext hEtx).any
 have HE := Lib.hid (HE.out.trans hE4)
 have HL := Lib.hid (HL.out.ext hE4)
 clear hE3 hR3 hT3 hEtx hE4
 go_upto_region 3 with fail
 rw [← hwtx, ← hbtx]
 clear hwtx hbtx
 obtain ⟨t0, t1, t2, t3⟩ := box4r (HBtx.out)
 have hcd := PRedexes_any HRS.out HL.out (by have := HTZ.out; omega) HT.out
 rw [HRD.out] at hcd
 have HCD := Lib.hid hcd
 clear hcd
 go_wp2_with fail
 refine HCD.out.mono ?_
 rintro e w5 ⟨v, rfl, hE5, hX5⟩
 obtain ⟨la, lc, rfl, -, hlc⟩ := hX5.slice
 unfold maxLen at hlc
 have HX5 := Lib.hid hX5.any
 obtain ⟨t0, t1, t2, t3⟩ := cs_e4 hE5 ⟨t0, t1, t2, t3⟩
 have HE := Lib.hid (HE.out.trans hE5)
 have HL := Lib.hid (HL.out.ext hE5)
 have HT := Lib.hid (HT.out.ext hE5)
 have hcn := PNormal_any (fuel := 2) HRS.out (by unfold I64; omega) HL.out (by have := HTZ.out; omega) HT.out
 rw [HNM.out] at hcn
 have HCN := Lib.hid hcn
 clear hE5 hX5 hcn
 go_wp2_with fail
 refine HCN.out.mono ?_
 rintro e w6 ⟨v, tv, er, rfl, hE6, hN6⟩
 obtain ⟨her, hN6, -⟩ := hN6
 have her : er = 0 := her
 subst her
 obtain ⟨⟨ua, uc, rfl, hTU⟩, hM6⟩ := hN6 rfl
 obtain ⟨ma, mc, rfl, -, hmc⟩ := hM6.slice
 unfold maxLen at hmc
 obtain ⟨ux, w7, hbux, hwux, HBux, hEux⟩ := box_new w6 (.cells #[.int .i64 U.kind, .string U.name, .int .i64 U.sort, .slice ua U.kids.length uc] 31)
 have hE7 := hE6.trans hEux
 have HTU := Lib.hid (hTU.ext hEux).any
 have HM7 := Lib.hid (hM6.ext hEux).any
 have HE := Lib.hid (HE.out.trans hE7)
 have HX5 := Lib.hid (HX5.out.ext hE7)
 clear hE6 hTU hM6 hEux hE7 t0 t1 t2 t3
 go_upto_region 5 with fail
 rw [← hwux, ← hbux]
 clear hwux hbux
 obtain ⟨u0, u1, u2, u3⟩ := box4r (HBux.out)
 obtain ⟨lb, lo, p0a, p0c, e0, l00, l01, -, -, hp0c, hP0⟩ := HX5.out.xAt (i := 0) rfl
 cases e0
 obtain ⟨lb', lo', p1a, p1c, e1, l10, l11, -, -, hp1c, hP1⟩ := HX5.out.xAt (i := 1) rfl
 cases e1
 obtain ⟨mb, mo, q0a, q0c, e2, m00, m01, -, -, hq0c, hQ0⟩ := HM7.out.xAt (i := 0) rfl
 cases e2
 rw [Nat.zero_mul, Nat.add_zero] at l00 l01 m00 m01
 unfold maxLen at hp0c hp1c hq0c
 have HP1 := Lib.hid hP1
 have HQ0 := Lib.hid hQ0
 clear hP0 hP1 hQ0
 have l00 : w7.cell? ⟨lb, lo, none⟩ = some (.int .i64 1) := l00
 have l01 : w7.cell? ⟨lb, lo + 1, none⟩ = some (.slice p0a 0 p0c) := l01
 have l10 : w7.cell? ⟨lb, lo + 2, none⟩ = some (.int .i64 0) := l10
 have l11 : w7.cell? ⟨lb, lo + 3, none⟩ = some (.slice p1a 1 p1c) := l11
 have m00 : w7.cell? ⟨mb, mo, none⟩ = some (.int .i64 0) := m00
 have m01 : w7.cell? ⟨mb, mo + 1, none⟩ = some (.slice q0a 1 q0c) := m01
 have HUK : Hid (U.kind = 2 ∧ U.name = ⟨#[97]⟩ ∧ U.sort = 0 ∧ U.kids = []) := Lib.hid (by rw [HU.out]; exact ⟨rfl, rfl, rfl, rfl⟩)
 go_upto_region 7 with fail
 have HFCT := Lib.hid (And.intro l00 (And.intro l01 (And.intro l10 (And.intro l11 (And.intro m00 (And.intro m01 (And.intro u0 (And.intro u1 (And.intro u2 u3)))))))))
 refine wp_region_reg 36 false (by kernel_rfl) (by kernel_rfl) ?_
 refine reg_value (fun _ => rfl) ?_ (fun g w' vs hM hE hP => ?_) ?_
 rotate_left
 · (clear hP hM; have ⟨z0, z1, z2, z3, z4, z5, z6, z7, z8, z9⟩ := cs_e10 hE HFCT.out; go_simp; first | done | rfl)
 refine reg_value (fun _ => rfl) ?_ (fun g w' vs hM hE hP => ?_) ?_
 rotate_left
 · (clear hP hM; have ⟨z0, z1, z2, z3, z4, z5, z6, z7, z8, z9⟩ := cs_e10 hE HFCT.out; go_simp; first | done | rfl)
 refine reg_value (fun _ => rfl) ?_ (fun g w' vs hM hE hP => ?_) ?_
 rotate_left
 · (clear hP hM; have ⟨z0, z1, z2, z3, z4, z5, z6, z7, z8, z9⟩ := cs_e10 hE HFCT.out; go_simp; first | done | rfl)
 refine reg_value (fun _ => rfl) ?_ (fun g w' vs hM hE hP => ?_) ?_
 rotate_left
 · (clear hP hM; have ⟨z0, z1, z2, z3, z4, z5, z6, z7, z8, z9⟩ := cs_e10 hE HFCT.out; go_simp; first | done | rfl)
 refine reg_value (fun _ => rfl) ?_ (fun g w' vs hM hE hP => ?_) ?_
 rotate_left
 · (clear hP hM; have ⟨z0, z1, z2, z3, z4, z5, z6, z7, z8, z9⟩ := cs_e10 hE HFCT.out; go_simp; first | done | rfl)
 refine reg_value (fun _ => rfl) ?_ (fun g w' vs hM hE hP => ?_) ?_
 rotate_left
 · (clear hP hM; have ⟨z0, z1, z2, z3, z4, z5, z6, z7, z8, z9⟩ := cs_e10 hE HFCT.out; go_simp; first | done | rfl)
 refine reg_value (fun g => by go_simp) ?_ (fun g w' vs hM hE hP => ?_) ?_
 rotate_left
 · (clear hP hM; have ⟨z0, z1, z2, z3, z4, z5, z6, z7, z8, z9⟩ := cs_e10 hE HFCT.out; go_simp; first | done | rfl)
 refine reg_value (fun g => by go_simp) ?_ (fun g w' vs hM hE hP => ?_) ?_
 rotate_left
 · (clear hP hM; have ⟨z0, z1, z2, z3, z4, z5, z6, z7, z8, z9⟩ := cs_e10 hE HFCT.out; go_simp; first | done | rfl)
 refine reg_value (fun g => by go_simp) ?_ (fun g w' vs hM hE hP => ?_) ?_
 rotate_left
 · (clear hP hM; have ⟨z0, z1, z2, z3, z4, z5, z6, z7, z8, z9⟩ := cs_e10 hE HFCT.out; go_simp; first | done | rfl)
 refine reg_value (fun g => by go_simp) ?_ (fun g w' vs hM hE hP => ?_) ?_
 rotate_left
 · (clear hP hM; have ⟨z0, z1, z2, z3, z4, z5, z6, z7, z8, z9⟩ := cs_e10 hE HFCT.out; go_simp; first | done | rfl)
 refine reg_value (fun g => by go_simp) ?_ (fun g w' vs hM hE hP => ?_) ?_
 rotate_left
 · (clear hP hM; have ⟨z0, z1, z2, z3, z4, z5, z6, z7, z8, z9⟩ := cs_e10 hE HFCT.out; go_simp; first | done | rfl)
 refine reg_value (fun g => by go_simp) ?_ (fun g w' vs hM hE hP => ?_) ?_
 rotate_left
 · (clear hP hM; have ⟨z0, z1, z2, z3, z4, z5, z6, z7, z8, z9⟩ := cs_e10 hE HFCT.out; go_simp; first | done | rfl)
 refine reg_value (fun _ => rfl) ?_ (fun g w' vs hM hE hP => ?_) ?_
 rotate_left
 · (clear hP hM; have ⟨z0, z1, z2, z3, z4, z5, z6, z7, z8, z9⟩ := cs_e10 hE HFCT.out; go_simp; first | done | rfl)
 refine reg_value (fun _ => rfl) ?_ (fun g w' vs hM hE hP => ?_) ?_
 rotate_left
 · (clear hP hM; have ⟨z0, z1, z2, z3, z4, z5, z6, z7, z8, z9⟩ := cs_e10 hE HFCT.out; go_simp; first | done | rfl)
 refine reg_value (fun g => by go_simp) ?_ (fun g w' vs hM hE hP => ?_) ?_
 rotate_left
 · (clear hP hM; have ⟨z0, z1, z2, z3, z4, z5, z6, z7, z8, z9⟩ := cs_e10 hE HFCT.out; go_simp; first | done | rfl)
 refine reg_value (fun g => by go_simp) ?_ (fun g w' vs hM hE hP => ?_) ?_
 rotate_left
 · (clear hP hM; have ⟨z0, z1, z2, z3, z4, z5, z6, z7, z8, z9⟩ := cs_e10 hE HFCT.out; go_simp; first | done | rfl)
 refine reg_value (fun g => by go_simp) ?_ (fun g w' vs hM hE hP => ?_) ?_
 rotate_left
 · (clear hP hM; have ⟨z0, z1, z2, z3, z4, z5, z6, z7, z8, z9⟩ := cs_e10 hE HFCT.out; go_simp; first | done | rfl)
 refine reg_upon (fun g => by go_simp) (fun v w'' => Hid (∃ fb, v = .slice (some ⟨fb, 0, none⟩) 1 1 ∧ LsG elI w'' Any v [1])) ⟨fun u a b h hE => by obtain ⟨fb, h1, h2⟩ := h.out; exact Lib.hid ⟨fb, h1, h2.ext hE⟩, (fun h => nomatch h), (fun h => absurd rfl h)⟩ (fun g w' m hM hE hP => ?_) ?_
 · clear hM hP
   go_simp
   exact ⟨Ext.alloc _ _, Lib.hid ⟨⟨_, rfl⟩, (own_oneI (k := 1) (S := Any) (base := 0) hs_new (Nat.zero_le _) (by unfold I64; omega)).any⟩⟩
 refine reg_value (fun g => by go_simp) (fun g => .agg #[.int .i64 0, (g 17).v]) (fun g w' vs hM hE hP => ?_) ?_
 · obtain ⟨fb, hv, -⟩ := (hP _ List.mem_cons_self (anc_of 3 (by kernel_rfl))).out
   have hv : (g 17).v = _ := hv
   clear hM hP
   rw [hv]
   go_simp
 refine reg_const (fun g => by go_simp) 19 (fun g => #[.agg #[.int .i64 0, .slice p1a 1 p1c], .agg #[.int .i64 0, (g 17).v]]) (fun g w' m hM hE hP => ?_) ⟨.bool true, fun g w' m hM hE hP => ?_, ?_⟩
 · (clear hP hM; have zz2 := cs_ext hE l10; have zz3 := cs_ext hE l11; go_simp)
 · obtain ⟨fb, hv, hl⟩ := (hP _ List.mem_cons_self (anc_of 4 (by kernel_rfl))).out
   have hv : (g 17).v = _ := hv
   rw [hv] at hl ⊢
   have h := RSameRedex_any (r := (0, [1])) (s := (0, [1])) (HP1.out.ext hE) hl
   rw [show decide (((0, [1]) : Rdx) = (0, [1])) = true from decide_eq_true rfl] at h
   exact h
 refine reg_value (fun _ => rfl) ?_ (fun g w' vs hM hE hP => ?_) ?_
 rotate_left
 · (clear hP hM; have ⟨z0, z1, z2, z3, z4, z5, z6, z7, z8, z9⟩ := cs_e10 hE HFCT.out; go_simp; first | done | rfl)
 refine reg_value (fun _ => rfl) ?_ (fun g w' vs hM hE hP => ?_) ?_
 rotate_left
 · (clear hP hM; have ⟨z0, z1, z2, z3, z4, z5, z6, z7, z8, z9⟩ := cs_e10 hE HFCT.out; go_simp; first | done | rfl)
 refine reg_value (fun g => by go_simp) ?_ (fun g w' vs hM hE hP => ?_) ?_
 rotate_left
 · (clear hP hM; have ⟨z0, z1, z2, z3, z4, z5, z6, z7, z8, z9⟩ := cs_e10 hE HFCT.out; go_simp; first | done | rfl)
 refine reg_value (fun g => by go_simp) ?_ (fun g w' vs hM hE hP => ?_) ?_
 rotate_left
 · (clear hP hM; have ⟨z0, z1, z2, z3, z4, z5, z6, z7, z8, z9⟩ := cs_e10 hE HFCT.out; go_simp; first | done | rfl)
 refine reg_value (fun g => by go_simp) ?_ (fun g w' vs hM hE hP => ?_) ?_
 rotate_left
 · (clear hP hM; have ⟨z0, z1, z2, z3, z4, z5, z6, z7, z8, z9⟩ := cs_e10 hE HFCT.out; go_simp; first | done | rfl)
 refine reg_value (fun g => by go_simp) ?_ (fun g w' vs hM hE hP => ?_) ?_
 rotate_left
 · (clear hP hM; have ⟨z0, z1, z2, z3, z4, z5, z6, z7, z8, z9⟩ := cs_e10 hE HFCT.out; go_simp; first | done | rfl)
 refine reg_value (fun g => by go_simp) ?_ (fun g w' vs hM hE hP => ?_) ?_
 rotate_left
 · (clear hP hM; have ⟨z0, z1, z2, z3, z4, z5, z6, z7, z8, z9⟩ := cs_e10 hE HFCT.out; go_simp; first | done | rfl)
 refine reg_value (fun g => by go_simp) ?_ (fun g w' vs hM hE hP => ?_) ?_
 rotate_left
 · (clear hP hM; have ⟨z0, z1, z2, z3, z4, z5, z6, z7, z8, z9⟩ := cs_e10 hE HFCT.out; go_simp; first | done | rfl)
 refine reg_const (fun g => by go_simp) 19 (fun g => #[.agg #[.int .i64 0, .slice q0a 1 q0c], .agg #[.int .i64 0, .slice p1a 1 p1c]]) (fun g w' m hM hE hP => ?_) ⟨.bool true, fun g w' m hM hE hP => ?_, ?_⟩
 · (clear hP hM; go_simp)
 · have h := RSameRedex_any (r := (0, [1])) (s := (0, [1])) (HQ0.out.ext hE) (HP1.out.ext hE)
   rw [show decide (((0, [1]) : Rdx) = (0, [1])) = true from decide_eq_true rfl] at h
   exact h
 refine reg_value (fun _ => rfl) ?_ (fun g w' vs hM hE hP => ?_) ?_
 rotate_left
 · (clear hP hM; have ⟨z0, z1, z2, z3, z4, z5, z6, z7, z8, z9⟩ := cs_e10 hE HFCT.out; go_simp; first | done | rfl)
 refine reg_value (fun _ => rfl) ?_ (fun g w' vs hM hE hP => ?_) ?_
 rotate_left
 · (clear hP hM; have ⟨z0, z1, z2, z3, z4, z5, z6, z7, z8, z9⟩ := cs_e10 hE HFCT.out; go_simp; first | done | rfl)
 refine reg_value (fun g => by go_simp) ?_ (fun g w' vs hM hE hP => ?_) ?_
 rotate_left
 · (clear hP hM; have ⟨z0, z1, z2, z3, z4, z5, z6, z7, z8, z9⟩ := cs_e10 hE HFCT.out; go_simp; first | done | rfl)
 refine reg_const (fun g => by go_simp) 20 (fun g => #[.string ⟨#[97]⟩, .int .i64 0]) (fun g w' m hM hE hP => ?_) ⟨.agg #[.int .i64 2, .string ⟨#[97]⟩, .int .i64 0, .slice none 0 0], fun g w' m hM hE hP => ?_, ?_⟩
 · (clear hP hM; go_simp)
 · exact Atom_any (by unfold maxLen; decide) (by unfold I64; omega)
 refine reg_const (fun g => by go_simp) 16 (fun g => #[.agg #[.int .i64 U.kind, .string U.name, .int .i64 U.sort, .slice ua U.kids.length uc], .agg #[.int .i64 2, .string ⟨#[97]⟩, .int .i64 0, .slice none 0 0]]) (fun g w' m hM hE hP => ?_) ⟨.bool true, fun g w' m hM hE hP => ?_, ?_⟩
 · (clear hP hM; go_simp)
 · have h := RSame_any (w := w') (s := U) (t := awA) (by rw [HU.out]; decide +kernel) (by decide +kernel) (HTU.out.ext hE) (tm_nil (S := Any) (by unfold I64; omega) (by unfold I64; omega) (by unfold maxLen; decide))
   rw [show decide (U = awA) = true from decide_eq_true HU.out] at h
   exact h
 refine reg_value (fun _ => rfl) ?_ (fun g w' vs hM hE hP => ?_) ?_
 rotate_left
 · (clear hP hM; have ⟨z0, z1, z2, z3, z4, z5, z6, z7, z8, z9⟩ := cs_e10 hE HFCT.out; go_simp; first | done | rfl)
 refine reg_value (fun _ => rfl) ?_ (fun g w' vs hM hE hP => ?_) ?_
 rotate_left
 · (clear hP hM; have ⟨z0, z1, z2, z3, z4, z5, z6, z7, z8, z9⟩ := cs_e10 hE HFCT.out; go_simp; first | done | rfl)
 intro g w14 hE14 hF hQ
 simp only [List.drop_succ_cons, List.drop_zero, Act.put, List.setIfInBounds_toArray, List.set_cons_succ, List.set_cons_zero]
 have HE14 := Lib.hid (HE.out.trans hE14)
 clear hF hQ hE14
 go_wp2_with fail
 go_ret
 exact ⟨rfl, HE14.out⟩

end Go.Proofs.Ytpfnlbaloaohgaa
