/- Contracts: the reference's Made. -/
import Derived.Test.YtpfnlbaloaohgaaH21
import Derived.Test.YtpfnlbaloaohgaaO7
namespace Go.Proofs.Ytpfnlbaloaohgaa
open Go Go.RowKit
set_option linter.unusedVariables false
set_option linter.unusedSimpArgs false

/-- a substitution of small terms, as a row -/
def smallB (n : Nat) (v : Value) (w : World) : Prop := ∃ B : List (Tm × Tm), LsG elP w Any v B ∧ (∀ b ∈ B, sizeT b.1 ≤ 31 ∧ sizeT b.2 ≤ 31) ∧ B.length ≤ n
def smallT (v : Value) (w : World) : Prop := ∃ t : Tm, IsS w Any v t ∧ sizeT t ≤ 31
theorem smallB.ext {n : Nat} {v : Value} {w w' : World} (h : smallB n v w) (hE : Ext w w') : smallB n v w' :=
 let ⟨B, h1, h2, h3⟩ := h
 ⟨B, h1.ext hE, h2, h3⟩
theorem smallB.persist {n b : Nat} : Persist false b [] (smallB n) := ⟨fun u w w' h hE => h.ext hE, (fun h => nomatch h), fun h => absurd rfl h⟩
theorem smallT.persist {b : Nat} : Persist false b [] smallT := ⟨fun u w w' ⟨t, h1, h2⟩ hE => ⟨t, h1.ext hE, h2⟩, (fun h => nomatch h), fun h => absurd rfl h⟩
theorem bind_small {w : World} {n : Nat} {v u : Value} {x : Tm} {xa : Option Addr} {xc : Nat} (hn : n ≤ 100) (h : smallB n v w) (hu : smallT u w) (hx : sizeT x ≤ 31) (hX : TmW w Any xa xc x) :
 Calls Try.prog 30 #[v, .agg #[.int .i64 x.kind, .string x.name, .int .i64 x.sort, .slice xa x.kids.length xc], u] w fun e w' => ∃ r, e = .returned r ∧ Ext w w' ∧ smallB (n + 1) r w' := by
 obtain ⟨B, hB, hs, hl⟩ := h
 obtain ⟨a, cap, rfl, -, -⟩ := hB.slice
 obtain ⟨t, ⟨ta, tc, rfl, hT⟩, ht⟩ := hu
 refine (SBind_any (by omega) (fun b hb => by have := (hs b hb).1; omega) (by omega) (by omega) hB hX hT).mono fun e w' ⟨r, O, h1, h2, h3, h4, h5⟩ => ⟨r, h1, h2, O, h3, fun b hb => ?_, by omega⟩
 rcases h4 b hb with h | h
 · exact hs b h
 · subst h; exact ⟨hx, ht⟩

set_option maxRecDepth 100000 in
set_option maxHeartbeats 8000000 in
theorem SMade_any {w : World} {S1 S2 S3 : Nat → Prop} {xa ya za : Option Addr} {xc yc zc n : Nat} {X Y Z : List Nat} (hn : n < 256) (hX : LsG elB w S1 (.slice xa X.length xc) X) (hY : LsG elB w S2 (.slice ya Y.length yc) Y) (hZ : LsG elB w S3 (.slice za Z.length zc) Z) :
 Calls Try.prog 12 #[.agg #[.slice xa X.length xc, .slice ya Y.length yc, .slice za Z.length zc, .int .u8 (n : Int)]] w fun e w' => ∃ v, e = .returned v ∧ Ext w w' ∧ smallB 4 v w' := by
 obtain ⟨-, hxl, hxc⟩ := hX.len
 obtain ⟨-, hyl, hyc⟩ := hY.len
 obtain ⟨-, hzl, hzc⟩ := hZ.len
 unfold maxLen at hxc hyc hzc
 obtain ⟨dx, w1, hdx, hw1, HBD, hE1⟩ := box_new w (.cells #[.slice xa X.length xc, .slice ya Y.length yc, .slice za Z.length zc, .int .u8 (n : Int)] 33)
 obtain ⟨d0, d1, d2, d3⟩ := box4r HBD.out
 obtain ⟨fb, w2, hfb, hw2, HBF, hE2⟩ := box_new w1 (.cells #[.slice xa X.length xc, .slice ya Y.length yc, .slice za Z.length zc] 28)
 have hE := hE1.trans hE2
 have HX := Lib.hid (hX.ext hE)
 have HY := Lib.hid (hY.ext hE)
 have HZ := Lib.hid (hZ.ext hE)
 have HE := Lib.hid hE
 have HD3 := Lib.hid (cs_ext hE2 d3)
 clear hX hY hZ hE hE1 hE2
 go_enter Try.func12, Try.ntmps12
 go_upto_region 1 with fail
 rw [← hw1, ← hdx]
 clear hw1 hdx
 go_upto_region 3 with fail
 rw [← hw2, ← hfb]
 clear hw2 hfb d0 d1 d2 d3
 go_wp2_with fail
 go_loopw [3, 5] (fun sv iv wr => Hid (∃ i : Nat, iv = .int .i64 i ∧ i ≤ 3 ∧ smallB i sv wr ∧ Ext w2 wr)) (fun _ iv _ => 3 - (intOf iv).toNat)
 case atStart => exact Lib.hid ⟨0, rfl, by omega, ⟨[], LsG.nil, by simp, by simp⟩, Ext.refl _⟩
 case round =>
  rename_i sv iv
  obtain ⟨i, rfl, hi, hS, hE⟩ := hrel.out
  have HSM := Lib.hid hS
  have HEW := Lib.hid hE
  obtain ⟨B0, hB0, -, -⟩ := hS
  obtain ⟨sa, sc, rfl, -, hsc⟩ := hB0.slice
  clear hrel hE hB0
  by_cases hlt : i < 3
  · skip
    obtain rfl | rfl | rfl : i = 0 ∨ i = 1 ∨ i = 2 := by omega
    · skip
      have l0 : wr.cell? ⟨fb, 0, none⟩ = some (.slice xa X.length xc) := cs_ext HEW.out (by rw [cellc HBF.out]; rfl)
      by_cases h0 : X.length = 0
      · have e0 : ¬ (0 : Int) < (X.length : Int) := by omega
        clear h0
        go_wp2_with fail
        go_roundw
        case rel => exact Lib.hid ⟨0 + 1, by go_num, by omega, let ⟨B, h1, h2, h3⟩ := HSM.out; ⟨B, h1, h2, by omega⟩, HEW.out⟩
        case measure => simp [intOf]
      · have e0 : (0 : Int) < (X.length : Int) := by omega
        have HVA := Lib.hid (fun (w' : World) => SVar_any (w := w') (n := ⟨#[120]⟩) (k := 0) (by unfold maxLen; decide) (by unfold I64; omega))
        have HGR := Lib.hid (fun (w' : World) (hE : Ext wr w') => (SGrown_any (w := w') ((HX.out.ext HEW.out).ext hE)).mono (R' := fun e w'' => ∃ v, e = .returned v ∧ Ext w' w'' ∧ smallT v w'') (fun e w'' ⟨v, t, h1, h2, ⟨ta, tc, h3, h4⟩, h5⟩ => ⟨v, h1, h2, t, ⟨ta, tc, h3, h4.any⟩, h5⟩))
        clear h0
        go_upto_region 7 with fail
        refine wp_region_reg 12 false (by kernel_rfl) (by kernel_rfl) ?_
        refine reg_value (fun _ => rfl) ?_ (fun g w' vs hM hE hP => ?_) ?_
        rotate_left
        · (clear hP hM; have zz0 := cs_ext hE l0; go_simp; first | done | rfl)
        refine reg_value (fun _ => rfl) ?_ (fun g w' vs hM hE hP => ?_) ?_
        rotate_left
        · (clear hP hM; have zz0 := cs_ext hE l0; go_simp; first | done | rfl)
        refine reg_value (fun _ => rfl) ?_ (fun g w' vs hM hE hP => ?_) ?_
        rotate_left
        · (clear hP hM; have zz0 := cs_ext hE l0; go_simp; first | done | rfl)
        refine reg_value (fun _ => rfl) ?_ (fun g w' vs hM hE hP => ?_) ?_
        rotate_left
        · (clear hP hM; have zz0 := cs_ext hE l0; go_simp; first | done | rfl)
        refine reg_value (fun _ => rfl) ?_ (fun g w' vs hM hE hP => ?_) ?_
        rotate_left
        · (clear hP hM; have zz0 := cs_ext hE l0; go_simp; first | done | rfl)
        refine reg_const (fun _ => rfl) 31 ?_ (fun g w' vs hM hE hP => ?_) ?_
        rotate_left
        · (clear hP hM; have zz0 := cs_ext hE l0; go_simp; first | done | exact ⟨rfl, rfl⟩ | rfl)
        apply Exists.intro
        refine And.intro (fun g w' vs hM hE hP => ?_) ?_
        · exact HVA.out w'
        refine reg_value (fun _ => rfl) ?_ (fun g w' vs hM hE hP => ?_) ?_
        rotate_left
        · (clear hP hM; have zz0 := cs_ext hE l0; go_simp; first | done | rfl)
        refine reg_value (fun _ => rfl) ?_ (fun g w' vs hM hE hP => ?_) ?_
        rotate_left
        · (clear hP hM; have zz0 := cs_ext hE l0; go_simp; first | done | rfl)
        refine reg_value (fun _ => rfl) ?_ (fun g w' vs hM hE hP => ?_) ?_
        rotate_left
        · (clear hP hM; have zz0 := cs_ext hE l0; go_simp; first | done | rfl)
        refine reg_value (fun _ => rfl) ?_ (fun g w' vs hM hE hP => ?_) ?_
        rotate_left
        · (clear hP hM; have zz0 := cs_ext hE l0; go_simp; first | done | rfl)
        refine reg_call (fun _ => rfl) 32 (fun _ => #[.slice xa X.length xc]) (fun g w' m hM hE hP => ?_) smallT smallT.persist (fun g w' m hM hE hP => HGR.out w' hE) ?_
        · (clear hP hM; go_simp; first | done | exact ⟨rfl, rfl⟩ | rfl)
        refine reg_call (fun _ => rfl) 30 (fun g => #[.slice sa B0.length sc, .agg #[.int .i64 1, .string ⟨#[120]⟩, .int .i64 0, .slice none 0 0], (g 10).v]) (fun g w' m hM hE hP => ?_) (smallB (0 + 1)) smallB.persist (fun g w' m hM hE hP => ?_) ?_
        · (clear hP hM; go_simp; first | done | exact ⟨rfl, rfl⟩ | rfl)
        · exact bind_small (x := .mk 1 ⟨#[120]⟩ 0 []) (by omega) (HSM.out.ext hE) (hP _ List.mem_cons_self (anc_of 3 (by kernel_rfl))) (by decide) (tm_nil (by unfold I64; omega) (by unfold I64; omega) (by unfold maxLen; decide))
        intro g w5 hE5 hF hQ
        simp only [List.drop_succ_cons, List.drop_zero, Act.put, List.setIfInBounds_toArray, List.set_cons_succ, List.set_cons_zero]
        have hb := hQ _ List.mem_cons_self
        have hb : smallB (0 + 1) (g 11).v w5 := hb
        generalize (g 11).v = v11 at hb ⊢
        generalize (g 10).v = v10
        have HB5 := Lib.hid hb
        have HE5 := Lib.hid (HEW.out.trans hE5)
        clear hb hE5 hF hQ
        go_wp2_with fail
        go_roundw
        case rel => exact Lib.hid ⟨0 + 1, by go_num, by omega, HB5.out, HE5.out⟩
        case measure => simp [intOf]
    · skip
      have l0 : wr.cell? ⟨fb, 1, none⟩ = some (.slice ya Y.length yc) := cs_ext HEW.out (by rw [cellc HBF.out]; rfl)
      by_cases h0 : Y.length = 0
      · have e0 : ¬ (0 : Int) < (Y.length : Int) := by omega
        clear h0
        go_wp2_with fail
        go_roundw
        case rel => exact Lib.hid ⟨1 + 1, by go_num, by omega, let ⟨B, h1, h2, h3⟩ := HSM.out; ⟨B, h1, h2, by omega⟩, HEW.out⟩
        case measure => simp [intOf]
      · have e0 : (0 : Int) < (Y.length : Int) := by omega
        have HVA := Lib.hid (fun (w' : World) => SVar_any (w := w') (n := ⟨#[121]⟩) (k := 0) (by unfold maxLen; decide) (by unfold I64; omega))
        have HGR := Lib.hid (fun (w' : World) (hE : Ext wr w') => (SGrown_any (w := w') ((HY.out.ext HEW.out).ext hE)).mono (R' := fun e w'' => ∃ v, e = .returned v ∧ Ext w' w'' ∧ smallT v w'') (fun e w'' ⟨v, t, h1, h2, ⟨ta, tc, h3, h4⟩, h5⟩ => ⟨v, h1, h2, t, ⟨ta, tc, h3, h4.any⟩, h5⟩))
        clear h0
        go_upto_region 7 with fail
        refine wp_region_reg 12 false (by kernel_rfl) (by kernel_rfl) ?_
        refine reg_value (fun _ => rfl) ?_ (fun g w' vs hM hE hP => ?_) ?_
        rotate_left
        · (clear hP hM; have zz0 := cs_ext hE l0; go_simp; first | done | rfl)
        refine reg_value (fun _ => rfl) ?_ (fun g w' vs hM hE hP => ?_) ?_
        rotate_left
        · (clear hP hM; have zz0 := cs_ext hE l0; go_simp; first | done | rfl)
        refine reg_value (fun _ => rfl) ?_ (fun g w' vs hM hE hP => ?_) ?_
        rotate_left
        · (clear hP hM; have zz0 := cs_ext hE l0; go_simp; first | done | rfl)
        refine reg_value (fun _ => rfl) ?_ (fun g w' vs hM hE hP => ?_) ?_
        rotate_left
        · (clear hP hM; have zz0 := cs_ext hE l0; go_simp; first | done | rfl)
        refine reg_value (fun _ => rfl) ?_ (fun g w' vs hM hE hP => ?_) ?_
        rotate_left
        · (clear hP hM; have zz0 := cs_ext hE l0; go_simp; first | done | rfl)
        refine reg_const (fun _ => rfl) 31 ?_ (fun g w' vs hM hE hP => ?_) ?_
        rotate_left
        · (clear hP hM; have zz0 := cs_ext hE l0; go_simp; first | done | exact ⟨rfl, rfl⟩ | rfl)
        apply Exists.intro
        refine And.intro (fun g w' vs hM hE hP => ?_) ?_
        · exact HVA.out w'
        refine reg_value (fun _ => rfl) ?_ (fun g w' vs hM hE hP => ?_) ?_
        rotate_left
        · (clear hP hM; have zz0 := cs_ext hE l0; go_simp; first | done | rfl)
        refine reg_value (fun _ => rfl) ?_ (fun g w' vs hM hE hP => ?_) ?_
        rotate_left
        · (clear hP hM; have zz0 := cs_ext hE l0; go_simp; first | done | rfl)
        refine reg_value (fun _ => rfl) ?_ (fun g w' vs hM hE hP => ?_) ?_
        rotate_left
        · (clear hP hM; have zz0 := cs_ext hE l0; go_simp; first | done | rfl)
        refine reg_value (fun _ => rfl) ?_ (fun g w' vs hM hE hP => ?_) ?_
        rotate_left
        · (clear hP hM; have zz0 := cs_ext hE l0; go_simp; first | done | rfl)
        refine reg_call (fun _ => rfl) 32 (fun _ => #[.slice ya Y.length yc]) (fun g w' m hM hE hP => ?_) smallT smallT.persist (fun g w' m hM hE hP => HGR.out w' hE) ?_
        · (clear hP hM; go_simp; first | done | exact ⟨rfl, rfl⟩ | rfl)
        refine reg_call (fun _ => rfl) 30 (fun g => #[.slice sa B0.length sc, .agg #[.int .i64 1, .string ⟨#[121]⟩, .int .i64 0, .slice none 0 0], (g 10).v]) (fun g w' m hM hE hP => ?_) (smallB (1 + 1)) smallB.persist (fun g w' m hM hE hP => ?_) ?_
        · (clear hP hM; go_simp; first | done | exact ⟨rfl, rfl⟩ | rfl)
        · exact bind_small (x := .mk 1 ⟨#[121]⟩ 0 []) (by omega) (HSM.out.ext hE) (hP _ List.mem_cons_self (anc_of 3 (by kernel_rfl))) (by decide) (tm_nil (by unfold I64; omega) (by unfold I64; omega) (by unfold maxLen; decide))
        intro g w5 hE5 hF hQ
        simp only [List.drop_succ_cons, List.drop_zero, Act.put, List.setIfInBounds_toArray, List.set_cons_succ, List.set_cons_zero]
        have hb := hQ _ List.mem_cons_self
        have hb : smallB (1 + 1) (g 11).v w5 := hb
        generalize (g 11).v = v11 at hb ⊢
        generalize (g 10).v = v10
        have HB5 := Lib.hid hb
        have HE5 := Lib.hid (HEW.out.trans hE5)
        clear hb hE5 hF hQ
        go_wp2_with fail
        go_roundw
        case rel => exact Lib.hid ⟨1 + 1, by go_num, by omega, HB5.out, HE5.out⟩
        case measure => simp [intOf]
    · skip
      have l0 : wr.cell? ⟨fb, 2, none⟩ = some (.slice za Z.length zc) := cs_ext HEW.out (by rw [cellc HBF.out]; rfl)
      by_cases h0 : Z.length = 0
      · have e0 : ¬ (0 : Int) < (Z.length : Int) := by omega
        clear h0
        go_wp2_with fail
        go_roundw
        case rel => exact Lib.hid ⟨2 + 1, by go_num, by omega, let ⟨B, h1, h2, h3⟩ := HSM.out; ⟨B, h1, h2, by omega⟩, HEW.out⟩
        case measure => simp [intOf]
      · have e0 : (0 : Int) < (Z.length : Int) := by omega
        have HVA := Lib.hid (fun (w' : World) => SVar_any (w := w') (n := ⟨#[122]⟩) (k := 0) (by unfold maxLen; decide) (by unfold I64; omega))
        have HGR := Lib.hid (fun (w' : World) (hE : Ext wr w') => (SGrown_any (w := w') ((HZ.out.ext HEW.out).ext hE)).mono (R' := fun e w'' => ∃ v, e = .returned v ∧ Ext w' w'' ∧ smallT v w'') (fun e w'' ⟨v, t, h1, h2, ⟨ta, tc, h3, h4⟩, h5⟩ => ⟨v, h1, h2, t, ⟨ta, tc, h3, h4.any⟩, h5⟩))
        clear h0
        go_upto_region 7 with fail
        refine wp_region_reg 12 false (by kernel_rfl) (by kernel_rfl) ?_
        refine reg_value (fun _ => rfl) ?_ (fun g w' vs hM hE hP => ?_) ?_
        rotate_left
        · (clear hP hM; have zz0 := cs_ext hE l0; go_simp; first | done | rfl)
        refine reg_value (fun _ => rfl) ?_ (fun g w' vs hM hE hP => ?_) ?_
        rotate_left
        · (clear hP hM; have zz0 := cs_ext hE l0; go_simp; first | done | rfl)
        refine reg_value (fun _ => rfl) ?_ (fun g w' vs hM hE hP => ?_) ?_
        rotate_left
        · (clear hP hM; have zz0 := cs_ext hE l0; go_simp; first | done | rfl)
        refine reg_value (fun _ => rfl) ?_ (fun g w' vs hM hE hP => ?_) ?_
        rotate_left
        · (clear hP hM; have zz0 := cs_ext hE l0; go_simp; first | done | rfl)
        refine reg_value (fun _ => rfl) ?_ (fun g w' vs hM hE hP => ?_) ?_
        rotate_left
        · (clear hP hM; have zz0 := cs_ext hE l0; go_simp; first | done | rfl)
        refine reg_const (fun _ => rfl) 31 ?_ (fun g w' vs hM hE hP => ?_) ?_
        rotate_left
        · (clear hP hM; have zz0 := cs_ext hE l0; go_simp; first | done | exact ⟨rfl, rfl⟩ | rfl)
        apply Exists.intro
        refine And.intro (fun g w' vs hM hE hP => ?_) ?_
        · exact HVA.out w'
        refine reg_value (fun _ => rfl) ?_ (fun g w' vs hM hE hP => ?_) ?_
        rotate_left
        · (clear hP hM; have zz0 := cs_ext hE l0; go_simp; first | done | rfl)
        refine reg_value (fun _ => rfl) ?_ (fun g w' vs hM hE hP => ?_) ?_
        rotate_left
        · (clear hP hM; have zz0 := cs_ext hE l0; go_simp; first | done | rfl)
        refine reg_value (fun _ => rfl) ?_ (fun g w' vs hM hE hP => ?_) ?_
        rotate_left
        · (clear hP hM; have zz0 := cs_ext hE l0; go_simp; first | done | rfl)
        refine reg_value (fun _ => rfl) ?_ (fun g w' vs hM hE hP => ?_) ?_
        rotate_left
        · (clear hP hM; have zz0 := cs_ext hE l0; go_simp; first | done | rfl)
        refine reg_call (fun _ => rfl) 32 (fun _ => #[.slice za Z.length zc]) (fun g w' m hM hE hP => ?_) smallT smallT.persist (fun g w' m hM hE hP => HGR.out w' hE) ?_
        · (clear hP hM; go_simp; first | done | exact ⟨rfl, rfl⟩ | rfl)
        refine reg_call (fun _ => rfl) 30 (fun g => #[.slice sa B0.length sc, .agg #[.int .i64 1, .string ⟨#[122]⟩, .int .i64 0, .slice none 0 0], (g 10).v]) (fun g w' m hM hE hP => ?_) (smallB (2 + 1)) smallB.persist (fun g w' m hM hE hP => ?_) ?_
        · (clear hP hM; go_simp; first | done | exact ⟨rfl, rfl⟩ | rfl)
        · exact bind_small (x := .mk 1 ⟨#[122]⟩ 0 []) (by omega) (HSM.out.ext hE) (hP _ List.mem_cons_self (anc_of 3 (by kernel_rfl))) (by decide) (tm_nil (by unfold I64; omega) (by unfold I64; omega) (by unfold maxLen; decide))
        intro g w5 hE5 hF hQ
        simp only [List.drop_succ_cons, List.drop_zero, Act.put, List.setIfInBounds_toArray, List.set_cons_succ, List.set_cons_zero]
        have hb := hQ _ List.mem_cons_self
        have hb : smallB (2 + 1) (g 11).v w5 := hb
        generalize (g 11).v = v11 at hb ⊢
        generalize (g 10).v = v10
        have HB5 := Lib.hid hb
        have HE5 := Lib.hid (HEW.out.trans hE5)
        clear hb hE5 hF hQ
        go_wp2_with fail
        go_roundw
        case rel => exact Lib.hid ⟨2 + 1, by go_num, by omega, HB5.out, HE5.out⟩
        case measure => simp [intOf]
  · have hi3 : i = 3 := by omega
    subst hi3
    have d3 := cs_ext HEW.out HD3.out
    have HNV := Lib.hid (SVar_any (w := wr) (n := ⟨#[110]⟩) (k := 2) (by unfold maxLen; decide) (by unfold I64; omega))
    go_wp2_with fail
    refine HNV.out.mono ?_
    rintro e w3 ⟨rfl, hE3⟩
    obtain ⟨nx, w4, hnx, hw4, HBN, hE4⟩ := box_new w3 (.cells #[.int .i64 1, .string ⟨#[110]⟩, .int .i64 2, .slice none 0 0] 31)
    obtain ⟨n0, n1, n2, n3⟩ := box4r HBN.out
    have hE34 := hE3.trans hE4
    have HSM := Lib.hid (HSM.out.ext hE34)
    have d3 := cs_ext hE34 d3
    have HEW := Lib.hid (HEW.out.trans hE34)
    clear hE3 hE4 hE34
    go_upto_region 9 with fail
    rw [← hw4, ← hnx]
    clear hw4 hnx
    go_upto_region 10 with fail
    have hm : (n : Int) % 3 = 0 ∨ (n : Int) % 3 = 1 ∨ (n : Int) % 3 = 2 := by omega
    have HAT := Lib.hid (fun (w' : World) => Atom_any (w := w') (n := ⟨#[109]⟩) (k := 2) (by unfold maxLen; decide) (by unfold I64; omega))
    have HVK := Lib.hid (fun (w' : World) => SVar_any (w := w') (n := ⟨#[107]⟩) (k := 2) (by unfold maxLen; decide) (by unfold I64; omega))
    rcases hm with hm | hm | hm <;> rw [hm] <;> clear hm
    · go_wp2_with fail
      go_ret
      exact ⟨_, rfl, HE.out.trans HEW.out, let ⟨B, h1, h2, h3⟩ := HSM.out; ⟨B, h1, h2, by omega⟩⟩
    · go_upto_region 11 with fail
      have HFCT := Lib.hid (And.intro n0 (And.intro n1 (And.intro n2 n3)))
      refine wp_region_reg 4 false (by kernel_rfl) (by kernel_rfl) ?_
      refine reg_value (fun _ => rfl) ?_ (fun g w' vs hM hE hP => ?_) ?_
      rotate_left
      · (clear hP hM; have ⟨z0, z1, z2, z3⟩ := cs_e4 hE HFCT.out; go_simp; first | done | rfl)
      refine reg_value (fun _ => rfl) ?_ (fun g w' vs hM hE hP => ?_) ?_
      rotate_left
      · (clear hP hM; have ⟨z0, z1, z2, z3⟩ := cs_e4 hE HFCT.out; go_simp; first | done | rfl)
      refine reg_const (fun _ => rfl) 20 ?_ (fun g w' vs hM hE hP => ?_) ?_
      rotate_left
      · (clear hP hM; have ⟨z0, z1, z2, z3⟩ := cs_e4 hE HFCT.out; go_simp; first | done | exact ⟨rfl, rfl⟩ | rfl)
      apply Exists.intro
      refine And.intro (fun g w' vs hM hE hP => ?_) ?_
      · exact HAT.out w'
      refine reg_call (fun _ => rfl) 30 (fun _ => #[.slice sa B0.length sc, .agg #[.int .i64 1, .string ⟨#[110]⟩, .int .i64 2, .slice none 0 0], .agg #[.int .i64 2, .string ⟨#[109]⟩, .int .i64 2, .slice none 0 0]]) (fun g w' m hM hE hP => ?_) (smallB 4) smallB.persist (fun g w' m hM hE hP => ?_) ?_
      · (clear hP hM; go_simp; first | done | exact ⟨rfl, rfl⟩ | rfl)
      · exact bind_small (x := .mk 1 ⟨#[110]⟩ 2 []) (by omega) (HSM.out.ext hE) ⟨.mk 2 ⟨#[109]⟩ 2 [], ⟨none, 0, rfl, tm_nil (by unfold I64; omega) (by unfold I64; omega) (by unfold maxLen; decide)⟩, by decide⟩ (by decide) (tm_nil (by unfold I64; omega) (by unfold I64; omega) (by unfold maxLen; decide))
      intro g w5 hE5 hF hQ
      simp only [List.drop_succ_cons, List.drop_zero, Act.put, List.setIfInBounds_toArray, List.set_cons_succ, List.set_cons_zero]
      have hb := hQ _ List.mem_cons_self
      have hb : smallB 4 (g 3).v w5 := hb
      generalize (g 3).v = v11 at hb ⊢
      have HB5 := Lib.hid hb
      have HE5 := Lib.hid (HEW.out.trans hE5)
      clear hb hE5 hF hQ
      go_wp2_with fail
      go_ret
      exact ⟨_, rfl, HE.out.trans HE5.out, HB5.out⟩
    · go_upto_region 13 with fail
      have HFCT := Lib.hid (And.intro n0 (And.intro n1 (And.intro n2 n3)))
      refine wp_region_reg 4 false (by kernel_rfl) (by kernel_rfl) ?_
      refine reg_value (fun _ => rfl) ?_ (fun g w' vs hM hE hP => ?_) ?_
      rotate_left
      · (clear hP hM; have ⟨z0, z1, z2, z3⟩ := cs_e4 hE HFCT.out; go_simp; first | done | rfl)
      refine reg_value (fun _ => rfl) ?_ (fun g w' vs hM hE hP => ?_) ?_
      rotate_left
      · (clear hP hM; have ⟨z0, z1, z2, z3⟩ := cs_e4 hE HFCT.out; go_simp; first | done | rfl)
      refine reg_const (fun _ => rfl) 31 ?_ (fun g w' vs hM hE hP => ?_) ?_
      rotate_left
      · (clear hP hM; have ⟨z0, z1, z2, z3⟩ := cs_e4 hE HFCT.out; go_simp; first | done | exact ⟨rfl, rfl⟩ | rfl)
      apply Exists.intro
      refine And.intro (fun g w' vs hM hE hP => ?_) ?_
      · exact HVK.out w'
      refine reg_call (fun _ => rfl) 30 (fun _ => #[.slice sa B0.length sc, .agg #[.int .i64 1, .string ⟨#[110]⟩, .int .i64 2, .slice none 0 0], .agg #[.int .i64 1, .string ⟨#[107]⟩, .int .i64 2, .slice none 0 0]]) (fun g w' m hM hE hP => ?_) (smallB 4) smallB.persist (fun g w' m hM hE hP => ?_) ?_
      · (clear hP hM; go_simp; first | done | exact ⟨rfl, rfl⟩ | rfl)
      · exact bind_small (x := .mk 1 ⟨#[110]⟩ 2 []) (by omega) (HSM.out.ext hE) ⟨.mk 1 ⟨#[107]⟩ 2 [], ⟨none, 0, rfl, tm_nil (by unfold I64; omega) (by unfold I64; omega) (by unfold maxLen; decide)⟩, by decide⟩ (by decide) (tm_nil (by unfold I64; omega) (by unfold I64; omega) (by unfold maxLen; decide))
      intro g w5 hE5 hF hQ
      simp only [List.drop_succ_cons, List.drop_zero, Act.put, List.setIfInBounds_toArray, List.set_cons_succ, List.set_cons_zero]
      have hb := hQ _ List.mem_cons_self
      have hb : smallB 4 (g 3).v w5 := hb
      generalize (g 3).v = v11 at hb ⊢
      have HB5 := Lib.hid hb
      have HE5 := Lib.hid (HEW.out.trans hE5)
      clear hb hE5 hF hQ
      go_wp2_with fail
      go_ret
      exact ⟨_, rfl, HE.out.trans HE5.out, HB5.out⟩

end Go.Proofs.Ytpfnlbaloaohgaa
