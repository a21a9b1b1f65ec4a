/- Contracts: the reference's Bind. -/
import Derived.Test.YtpfnlbaloaohgaaH19
import Derived.Test.YtpfnlbaloaohgaaH3
namespace Go.Proofs.Ytpfnlbaloaohgaa
open Go Go.RowKit
set_option linter.unusedVariables false
set_option linter.unusedSimpArgs false

set_option maxRecDepth 100000 in
set_option maxHeartbeats 8000000 in
theorem SBind_any {w : World} {S S' S'' : Nat → Prop} {a xa ta : Option Addr} {cap xc tc : Nat} {B : List (Tm × Tm)} {x t : Tm} (hl : B.length ≤ 1000) (hB6 : ∀ b ∈ B, sizeT b.1 ≤ 1000000) (hx6 : sizeT x ≤ 1000000) (ht6 : sizeT t ≤ 1000000) (hB : LsG elP w S (.slice a B.length cap) B) (hX : TmW w S' xa xc x) (hT : TmW w S'' ta tc t) :
 Calls Try.prog 30 #[.slice a B.length cap, .agg #[.int .i64 x.kind, .string x.name, .int .i64 x.sort, .slice xa x.kids.length xc], .agg #[.int .i64 t.kind, .string t.name, .int .i64 t.sort, .slice ta t.kids.length tc]] w fun e w' => ∃ (v : Value) (O : List (Tm × Tm)), e = .returned v ∧ Ext w w' ∧ LsG elP w' Any v O ∧ (∀ b ∈ O, b ∈ B ∨ b = (x, t)) ∧ O.length ≤ B.length + 1 := by
 obtain ⟨-, hll, hlc⟩ := hB.len
 unfold maxLen at hlc
 have hB := hB.below
 have hX := hX.below
 have hT := hT.below
 obtain ⟨bx, w1, hbbx, hwbx, HBbx, hEbx⟩ := box_new w (.cells #[.int .i64 x.kind, .string x.name, .int .i64 x.sort, .slice xa x.kids.length xc] 31)
 obtain ⟨cx, w2, hbcx, hwcx, HBcx, hEcx⟩ := box_new w1 (.cells #[.int .i64 t.kind, .string t.name, .int .i64 t.sort, .slice ta t.kids.length tc] 31)
 have hE := hEbx.trans hEcx
 obtain ⟨b0, b1, b2, b3⟩ := box4r (hs_ext hEcx HBbx.out)
 obtain ⟨c0, c1, c2, c3⟩ := box4r (HBcx.out)
 have HBX := Lib.hid (hs_ext hEcx HBbx.out)
 have HSB := Lib.hid (hB.ext hE)
 have HTX := Lib.hid (hX.ext hE)
 have HTT := Lib.hid (hT.ext hE)
 have HE1 := Lib.hid hE
 have HB6 := Lib.hid hB6
 have HX6 := Lib.hid hx6
 have HSW : Hid (w.heap.size ≤ w2.heap.size) := Lib.hid hE.size
 have hs1 : w1.heap.size = bx + 1 := by rw [hwbx, hbbx, World.size_alloc]
 rw [hs1] at hbcx
 have hcs := RSame_any (w := w2) hx6 ht6 (hX.ext hE) (hT.ext hE)
 obtain ⟨sm, hsm⟩ : ∃ q, q = decide (x = t) := ⟨_, rfl⟩
 rw [← hsm] at hcs
 have HCS := Lib.hid hcs
 clear hB hX hT hE hEbx hEcx hB6 hx6 ht6 hcs hsm
 go_enter Try.func30, Try.ntmps30
 go_upto_region 1 with fail
 rw [← hwbx, ← hbbx, ← hwcx]
 try rw [← hbcx]
 clear hwbx hbbx hwcx hbcx hs1
 go_wp2_with fail
 refine HCS.out.mono ?_
 rintro e w3 ⟨rfl, hE3⟩
 cases sm with
 | true =>
   have HF := Lib.hid (HE1.out.trans hE3)
   have HL := Lib.hid (HSB.out.ext hE3).any
   clear hE3
   go_wp2_with fail
   go_ret
   exact ⟨_, B, rfl, HF.out, HL.out, fun b hb => .inl hb, by omega⟩
 | false =>
   have HE3 := Lib.hid hE3
   clear hE3 b0 b1 b2 b3 c0 c1 c2 c3
   go_wp2_with fail
   go_loopw [7, 8, 9] (fun ov dv iv wr => Hid (∃ (i : Nat) (O : List (Tm × Tm)) (bd : Bool), dv = .bool bd ∧ iv = .int .i64 i ∧ i ≤ B.length ∧ OwnG elP wr w2.heap.size 81 (fun c => c < w.heap.size) ov O ∧ (∀ b ∈ O, b ∈ B ∨ b = (x, t)) ∧ O.length + (if bd then 0 else 1) ≤ i + 1 ∧ Ext w2 wr)) (fun _ _ iv _ => B.length - (intOf iv).toNat)
   case atStart => exact Lib.hid ⟨0, [], false, rfl, rfl, by omega, OwnG.nil, by simp, by simp, HE3.out⟩
   case round =>
    obtain ⟨i, O, bd, rfl, rfl, hi, hO, hM, hlen, hE⟩ := hrel.out
    have HOW := Lib.hid hO
    have HM := Lib.hid hM
    have HE := Lib.hid hE
    have HLN := Lib.hid hlen
    obtain ⟨oa, oc, hov, -, hoc⟩ := hO.slice
    subst hov
    unfold maxLen at hoc
    clear hrel hO hM hE hlen
    obtain ⟨b0, b1, b2, b3⟩ := box4r (hs_ext HE.out HBX.out)
    obtain ⟨c0, c1, c2, c3⟩ := box4r (hs_ext HE.out HBcx.out)
    have hOl : O.length ≤ 1001 := by have := HLN.out; omega
    by_cases hlt : i < B.length
    · have hiz : (i : Int) < (B.length : Int) := by omega
      have hi0 : (0 : Int) ≤ (i : Int) := by omega
      obtain ⟨b, hb⟩ : ∃ b, B[i]? = some b := ⟨_, List.getElem?_eq_getElem hlt⟩
      obtain ⟨y, z⟩ := b
      obtain ⟨bb, bo, ya, yc, za, zc, hba, ⟨y0, y1, y2, y3⟩, ⟨y4, y5, y6, y7⟩, hTy, hTz⟩ := (HSB.out.ext HE.out).pAt hb
      subst hba
      simp only at y0 y1 y2 y3 y4 y5 y6 y7 hTy hTz
      have HY6 := Lib.hid (HB6.out _ (List.mem_of_getElem? hb))
      have HBI := Lib.hid hb
      have HMB : Hid ((y, z) ∈ B) := Lib.hid (List.mem_of_getElem? hb)
      have HTY := Lib.hid hTy
      have HTZ := Lib.hid hTz
      clear hb hTy hTz
      cases bd with
      | true =>
        go_upto_region 8 with fail
        have HFCT := Lib.hid (And.intro b0 (And.intro b1 (And.intro b2 (And.intro b3 (And.intro y0 (And.intro y1 (And.intro y2 y3)))))))
        refine wp_region_reg 12 false (by kernel_rfl) (by kernel_rfl) ?_
        refine reg_value (fun _ => rfl) ?_ (fun g w' vs hM hE hP => ?_) ?_
        rotate_left
        · (clear hP hM; go_simp; first | done | rfl)
        refine reg_value (fun _ => rfl) ?_ (fun g w' vs hM hE hP => ?_) ?_
        rotate_left
        · (clear hP hM; go_simp; first | done | rfl)
        refine reg_value (fun _ => rfl) ?_ (fun g w' vs hM hE hP => ?_) ?_
        rotate_left
        · (clear hP hM; go_simp; first | done | rfl)
        refine reg_skip (fun g => by go_simp; first | done | (intro h; cases h) | simp [undef]) ?_
        refine reg_skip (fun g => by go_simp; first | done | (intro h; cases h) | simp [undef]) ?_
        refine reg_skip (fun g => by go_simp; first | done | (intro h; cases h) | simp [undef]) ?_
        refine reg_skip (fun g => by go_simp; first | done | (intro h; cases h) | simp [undef]) ?_
        refine reg_skip (fun g => by go_simp; first | done | (intro h; cases h) | simp [undef]) ?_
        refine reg_skip (fun g => by go_simp; first | done | (intro h; cases h) | simp [undef]) ?_
        refine reg_skip (fun g => by go_simp; first | done | (intro h; cases h) | simp [undef]) ?_
        refine reg_skip (fun g => by go_simp; first | done | (intro h; cases h) | simp [undef]) ?_
        refine reg_value (fun _ => rfl) ?_ (fun g w' vs hM hE hP => ?_) ?_
        rotate_left
        · (clear hP hM; go_simp; first | done | rfl)
        intro g9 wz hE9 hF hQ
        simp only [List.drop_succ_cons, List.drop_zero, Act.put, List.setIfInBounds_toArray, List.set_cons_succ, List.set_cons_zero]
        obtain ⟨y0, y1, y2, y3, y4, y5, y6, y7⟩ := cs_e8 hE9 ⟨y0, y1, y2, y3, y4, y5, y6, y7⟩
        have HOW := Lib.hid (HOW.out.ext hE9)
        have HE := Lib.hid (HE.out.trans hE9)
        have HTY := Lib.hid (HTY.out.ext hE9)
        have HTZ := Lib.hid (HTZ.out.ext hE9)
        clear hE9 hF hQ
        have HOS := Lib.hid (fun c (e : (Value.slice oa O.length oc).ownBlock = some c) => (HOW.out.lt c e).1)
        have HSZ : Hid (w2.heap.size ≤ wz.heap.size) := Lib.hid HE.out.size
        have HO := HOW
        have HEO := HE
        go_wp2_with (first
         | (at_builtin
            refine wpList_appG (E := elP) (T := 81) rfl 37 (.tmp 38) (.tmp 43) rfl rfl rfl Try.underlying37 infBinding rfl (by decide) (by decide) (HO.out.ext (Ext.alloc _ _)) (by rw [World.size_alloc]; have := HSZ.out; omega) (fun c h e => by have := HOS.out c e; have := HSW.out; omega) (by first | omega | (rw [List.length_append]; simp; omega)) (M := [(y, z)]) (by simp) (one_pair hs_new (HTY.out.ext (Ext.alloc _ _)) (HTZ.out.ext (Ext.alloc _ _))) ?_
            intro v5 wf o5 g5 k5
            have HEF := Lib.hid (Ext.grown (HEO.out.trans (Ext.alloc _ _)) g5 (fun k hk => HOS.out k hk))
            have HOF := Lib.hid o5
            clear o5 g5 k5))
        go_roundw
        case rel => exact Lib.hid ⟨i + 1, O ++ [(y, z)], true, rfl, by go_num, by omega, HOF.out, fun b hb => by
          rcases List.mem_append.1 hb with h | h
          · exact HM.out b h
          · simp at h; subst h; exact .inl HMB.out, by have := HLN.out; simp at this ⊢; omega, HEF.out⟩
        case measure => simp [intOf]; omega
      | false =>
        have HCC := Lib.hid (fun (w' : World) (h : Ext wr w') => RCompare_any (sizeT x) w' _ _ xa ya xc yc x y (Nat.le_refl _) HX6.out HY6.out ((HTX.out.ext HE.out).ext h) (HTY.out.ext h))
        obtain ⟨c, hc⟩ : ∃ c, c = cmpT x y := ⟨_, rfl⟩
        simp only [← hc] at HCC
        clear hc
        by_cases hcz : c < 0
        · go_upto_region 8 with fail
          have HFCT := Lib.hid (And.intro b0 (And.intro b1 (And.intro b2 (And.intro b3 (And.intro y0 (And.intro y1 (And.intro y2 y3)))))))
          refine wp_region_reg 12 false (by kernel_rfl) (by kernel_rfl) ?_
          refine reg_value (fun _ => rfl) ?_ (fun g w' vs hM hE hP => ?_) ?_
          rotate_left
          · (clear hP hM; go_simp; first | done | rfl)
          refine reg_value (fun _ => rfl) ?_ (fun g w' vs hM hE hP => ?_) ?_
          rotate_left
          · (clear hP hM; go_simp; first | done | rfl)
          refine reg_value (fun _ => rfl) ?_ (fun g w' vs hM hE hP => ?_) ?_
          rotate_left
          · (clear hP hM; go_simp; first | done | rfl)
          refine reg_value (fun g => by go_simp) ?_ (fun g w' vs hM hE hP => ?_) ?_
          rotate_left
          · (clear hP hM; have ⟨z0, z1, z2, z3, z4, z5, z6, z7⟩ := cs_e8 hE HFCT.out; go_simp; first | done | rfl)
          refine reg_value (fun g => by go_simp) ?_ (fun g w' vs hM hE hP => ?_) ?_
          rotate_left
          · (clear hP hM; go_simp; first | done | rfl)
          refine reg_value (fun g => by go_simp) ?_ (fun g w' vs hM hE hP => ?_) ?_
          rotate_left
          · (clear hP hM; go_simp; first | done | rfl)
          refine reg_value (fun g => by go_simp) ?_ (fun g w' vs hM hE hP => ?_) ?_
          rotate_left
          · (clear hP hM; go_simp; first | done | rfl)
          refine reg_value (fun g => by go_simp) ?_ (fun g w' vs hM hE hP => ?_) ?_
          rotate_left
          · (clear hP hM; go_simp; first | done | rfl)
          refine reg_value (fun g => by go_simp) ?_ (fun g w' vs hM hE hP => ?_) ?_
          rotate_left
          · (clear hP hM; have ⟨z0, z1, z2, z3, z4, z5, z6, z7⟩ := cs_e8 hE HFCT.out; go_simp; first | done | rfl)
          refine reg_const (fun g => by go_simp) 39 ?_ (fun g w' vs hM hE hP => ?_) ?_
          rotate_left
          · (clear hP hM; have ⟨z0, z1, z2, z3, z4, z5, z6, z7⟩ := cs_e8 hE HFCT.out; go_simp; first | done | exact ⟨rfl, rfl⟩ | rfl)
          apply Exists.intro
          refine And.intro (fun g w' vs hM hE hP => ?_) ?_
          · exact HCC.out w' hE
          refine reg_value (fun g => by go_simp) ?_ (fun g w' vs hM hE hP => ?_) ?_
          rotate_left
          · (clear hP hM; go_simp; first | done | rfl)
          refine reg_value (fun _ => rfl) ?_ (fun g w' vs hM hE hP => ?_) ?_
          rotate_left
          · (clear hP hM; go_simp; first | done | rfl)
          intro g9 wz hE9 hF hQ
          simp only [List.drop_succ_cons, List.drop_zero, Act.put, List.setIfInBounds_toArray, List.set_cons_succ, List.set_cons_zero]
          have HT9 := Lib.hid (((HTX.out.ext HE.out).ext hE9))
          have HU9 := Lib.hid (((HTT.out.ext HE.out).ext hE9))
          obtain ⟨b0, b1, b2, b3, c0, c1, c2, c3, y0, y1, y2, y3, y4, y5, y6, y7⟩ := cs_e16 hE9 ⟨b0, b1, b2, b3, c0, c1, c2, c3, y0, y1, y2, y3, y4, y5, y6, y7⟩
          have HOW := Lib.hid (HOW.out.ext hE9)
          have HE := Lib.hid (HE.out.trans hE9)
          have HTY := Lib.hid (HTY.out.ext hE9)
          have HTZ := Lib.hid (HTZ.out.ext hE9)
          clear hE9 hF hQ
          have HOL0 := Lib.hid (fun c (e : (Value.slice oa O.length oc).ownBlock = some c) => (HOW.out.lt c e).1)
          have HSZ0 : Hid (w2.heap.size ≤ wz.heap.size) := Lib.hid HE.out.size
          go_wp2_with (first
           | (refine wpList_buildG (T := 81) rfl [_, _] rfl [(0, .agg #[.int .i64 x.kind, .string x.name, .int .i64 x.sort, .slice xa x.kids.length xc]), (1, .agg #[.int .i64 t.kind, .string t.name, .int .i64 t.sort, .slice ta t.kids.length tc])] rfl (built_bind _ _ _ _ _ _ _ _ _ _ _ _) ?_)
           | (at_builtin
              refine wpList_appG (E := elP) (T := 81) rfl 37 (.tmp 32) (.tmp 36) rfl rfl rfl Try.underlying37 infBinding rfl (by decide) (by decide) (HOW.out.ext (Ext.alloc _ _)) (by rw [World.size_alloc]; have := HSZ0.out; omega) (fun c h e => by have := HOL0.out c e; have := HSW.out; omega) (by omega) (M := [(x, t)]) (by simp) (one_pair hs_new (HT9.out.ext (Ext.alloc _ _)) (HU9.out.ext (Ext.alloc _ _))) ?_
              intro v4 w4 o4 g4 k4
              have HEO := Lib.hid (Ext.grown (HE.out.trans (Ext.alloc _ _)) g4 (fun k hk => HOL0.out k hk))
              have HO := Lib.hid o4
              obtain ⟨b2, o2, ya2, yc2, za2, zc2, hb2, ⟨q0, q1, q2, q3⟩, ⟨q4, q5, q6, q7⟩, hTy2, hTz2⟩ := (HSB.out.ext HEO.out).pAt HBI.out
              cases hb2
              simp only at q0 q1 q2 q3 q4 q5 q6 q7 hTy2 hTz2
              have HTY := Lib.hid hTy2
              have HTZ := Lib.hid hTz2
              have HOS := Lib.hid (fun c (e : v4.ownBlock = some c) => (HO.out.lt c e).1)
              have HSZ : Hid (w2.heap.size ≤ w4.heap.size) := Lib.hid HEO.out.size
              clear o4 g4 k4 hTy2 hTz2)
           | (at_builtin
              refine wpList_appG (E := elP) (T := 81) rfl 37 (.tmp 38) (.tmp 43) rfl rfl rfl Try.underlying37 infBinding rfl (by decide) (by decide) (HO.out.ext (Ext.alloc _ _)) (by rw [World.size_alloc]; have := HSZ.out; omega) (fun c h e => by have := HOS.out c e; have := HSW.out; omega) (by first | omega | (rw [List.length_append]; simp; omega)) (M := [(y, z)]) (by simp) (one_pair hs_new (HTY.out.ext (Ext.alloc _ _)) (HTZ.out.ext (Ext.alloc _ _))) ?_
              intro v5 wf o5 g5 k5
              have HEF := Lib.hid (Ext.grown (HEO.out.trans (Ext.alloc _ _)) g5 (fun k hk => HOS.out k hk))
              have HOF := Lib.hid o5
              clear o5 g5 k5))
          go_roundw
          case rel => exact Lib.hid ⟨i + 1, (O ++ [(x, t)]) ++ [(y, z)], true, rfl, by go_num, by omega, HOF.out, fun b hb => by
            rcases List.mem_append.1 hb with h | h
            · rcases List.mem_append.1 h with h | h
              · exact HM.out b h
              · simp at h; subst h; exact .inr rfl
            · simp at h; subst h; exact .inl HMB.out, by have := HLN.out; simp at this ⊢; omega, HEF.out⟩
          case measure => simp [intOf]; omega
        · have ec : ¬ c < 0 := hcz
          go_upto_region 8 with fail
          have HFCT := Lib.hid (And.intro b0 (And.intro b1 (And.intro b2 (And.intro b3 (And.intro y0 (And.intro y1 (And.intro y2 y3)))))))
          refine wp_region_reg 12 false (by kernel_rfl) (by kernel_rfl) ?_
          refine reg_value (fun _ => rfl) ?_ (fun g w' vs hM hE hP => ?_) ?_
          rotate_left
          · (clear hP hM; go_simp; first | done | rfl)
          refine reg_value (fun _ => rfl) ?_ (fun g w' vs hM hE hP => ?_) ?_
          rotate_left
          · (clear hP hM; go_simp; first | done | rfl)
          refine reg_value (fun _ => rfl) ?_ (fun g w' vs hM hE hP => ?_) ?_
          rotate_left
          · (clear hP hM; go_simp; first | done | rfl)
          refine reg_value (fun g => by go_simp) ?_ (fun g w' vs hM hE hP => ?_) ?_
          rotate_left
          · (clear hP hM; have ⟨z0, z1, z2, z3, z4, z5, z6, z7⟩ := cs_e8 hE HFCT.out; go_simp; first | done | rfl)
          refine reg_value (fun g => by go_simp) ?_ (fun g w' vs hM hE hP => ?_) ?_
          rotate_left
          · (clear hP hM; go_simp; first | done | rfl)
          refine reg_value (fun g => by go_simp) ?_ (fun g w' vs hM hE hP => ?_) ?_
          rotate_left
          · (clear hP hM; go_simp; first | done | rfl)
          refine reg_value (fun g => by go_simp) ?_ (fun g w' vs hM hE hP => ?_) ?_
          rotate_left
          · (clear hP hM; go_simp; first | done | rfl)
          refine reg_value (fun g => by go_simp) ?_ (fun g w' vs hM hE hP => ?_) ?_
          rotate_left
          · (clear hP hM; go_simp; first | done | rfl)
          refine reg_value (fun g => by go_simp) ?_ (fun g w' vs hM hE hP => ?_) ?_
          rotate_left
          · (clear hP hM; have ⟨z0, z1, z2, z3, z4, z5, z6, z7⟩ := cs_e8 hE HFCT.out; go_simp; first | done | rfl)
          refine reg_const (fun g => by go_simp) 39 ?_ (fun g w' vs hM hE hP => ?_) ?_
          rotate_left
          · (clear hP hM; have ⟨z0, z1, z2, z3, z4, z5, z6, z7⟩ := cs_e8 hE HFCT.out; go_simp; first | done | exact ⟨rfl, rfl⟩ | rfl)
          apply Exists.intro
          refine And.intro (fun g w' vs hM hE hP => ?_) ?_
          · exact HCC.out w' hE
          refine reg_value (fun g => by go_simp) ?_ (fun g w' vs hM hE hP => ?_) ?_
          rotate_left
          · (clear hP hM; go_simp; first | done | rfl)
          refine reg_value (fun _ => rfl) ?_ (fun g w' vs hM hE hP => ?_) ?_
          rotate_left
          · (clear hP hM; go_simp; first | done | rfl)
          intro g9 wz hE9 hF hQ
          simp only [List.drop_succ_cons, List.drop_zero, Act.put, List.setIfInBounds_toArray, List.set_cons_succ, List.set_cons_zero]
          obtain ⟨y0, y1, y2, y3, y4, y5, y6, y7⟩ := cs_e8 hE9 ⟨y0, y1, y2, y3, y4, y5, y6, y7⟩
          have HOW := Lib.hid (HOW.out.ext hE9)
          have HE := Lib.hid (HE.out.trans hE9)
          have HTY := Lib.hid (HTY.out.ext hE9)
          have HTZ := Lib.hid (HTZ.out.ext hE9)
          clear hE9 hF hQ
          have HOS := Lib.hid (fun c (e : (Value.slice oa O.length oc).ownBlock = some c) => (HOW.out.lt c e).1)
          have HSZ : Hid (w2.heap.size ≤ wz.heap.size) := Lib.hid HE.out.size
          have HO := HOW
          have HEO := HE
          go_wp2_with (first
           | (at_builtin
              refine wpList_appG (E := elP) (T := 81) rfl 37 (.tmp 38) (.tmp 43) rfl rfl rfl Try.underlying37 infBinding rfl (by decide) (by decide) (HO.out.ext (Ext.alloc _ _)) (by rw [World.size_alloc]; have := HSZ.out; omega) (fun c h e => by have := HOS.out c e; have := HSW.out; omega) (by first | omega | (rw [List.length_append]; simp; omega)) (M := [(y, z)]) (by simp) (one_pair hs_new (HTY.out.ext (Ext.alloc _ _)) (HTZ.out.ext (Ext.alloc _ _))) ?_
              intro v5 wf o5 g5 k5
              have HEF := Lib.hid (Ext.grown (HEO.out.trans (Ext.alloc _ _)) g5 (fun k hk => HOS.out k hk))
              have HOF := Lib.hid o5
              clear o5 g5 k5))
          go_roundw
          case rel => exact Lib.hid ⟨i + 1, O ++ [(y, z)], false, rfl, by go_num, by omega, HOF.out, fun b hb => by
            rcases List.mem_append.1 hb with h | h
            · exact HM.out b h
            · simp at h; subst h; exact .inl HMB.out, by have := HLN.out; simp at this ⊢; omega, HEF.out⟩
          case measure => simp [intOf]; omega
    · have hiz : ¬ (i : Int) < (B.length : Int) := by omega
      have HLE : Hid (O.length + (if bd then 0 else 1) ≤ B.length + 1) := Lib.hid (by have := HLN.out; omega)
      cases bd with
      | true =>
        have HR := Lib.hid HOW.out.any
        have HEF := Lib.hid (HE1.out.trans HE.out)
        go_wp2_with fail
        go_ret
        exact ⟨_, rfl, HEF.out, O, HR.out, fun p q hb => by simpa using HM.out (p, q) hb, by have := HLE.out; simpa using this⟩
      | false =>
        have HT9 := Lib.hid (HTX.out.ext HE.out)
        have HU9 := Lib.hid (HTT.out.ext HE.out)
        have HOS := Lib.hid (fun c (e : (Value.slice oa O.length oc).ownBlock = some c) => (HOW.out.lt c e).1)
        have HSZ : Hid (w2.heap.size ≤ wr.heap.size) := Lib.hid HE.out.size
        go_wp2_with (first
         | (refine wpList_buildG (T := 81) rfl [_, _] rfl [(0, .agg #[.int .i64 x.kind, .string x.name, .int .i64 x.sort, .slice xa x.kids.length xc]), (1, .agg #[.int .i64 t.kind, .string t.name, .int .i64 t.sort, .slice ta t.kids.length tc])] rfl (built_bind _ _ _ _ _ _ _ _ _ _ _ _) ?_)
         | (at_builtin
            refine wpList_appG (E := elP) (T := 81) rfl 37 (.tmp 47) (.tmp 51) rfl rfl rfl Try.underlying37 infBinding rfl (by decide) (by decide) (HOW.out.ext (Ext.alloc _ _)) (by rw [World.size_alloc]; have := HSZ.out; omega) (fun c h e => by have := HOS.out c e; have := HSW.out; omega) (by omega) (M := [(x, t)]) (by simp) (one_pair hs_new (HT9.out.ext (Ext.alloc _ _)) (HU9.out.ext (Ext.alloc _ _))) ?_
            intro v4 w4 o4 g4 k4
            have HEO := Lib.hid (HE1.out.trans (Ext.grown (HE.out.trans (Ext.alloc _ _)) g4 (fun k hk => HOS.out k hk)))
            have HO := Lib.hid o4.any
            clear o4 g4 k4))
        go_ret
        exact ⟨_, rfl, HEO.out, O ++ [(x, t)], HO.out, fun p q hb => by
         rcases List.mem_append.1 hb with h | h
         · simpa using HM.out (p, q) h
         · simp at h; exact .inr h, by have := HLE.out; simp at this ⊢; omega⟩

end Go.Proofs.Ytpfnlbaloaohgaa
