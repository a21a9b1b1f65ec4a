/- Contracts: the reference's substitutions: Valid. Contracts: the reference's substitutions: Apply. -/
import Derived.Test.YtpfnlbaloaohgaaH19
namespace Go.Proofs.Ytpfnlbaloaohgaa
open Go Go.RowKit
set_option linter.unusedVariables false
set_option linter.unusedSimpArgs false

set_option maxRecDepth 100000 in
set_option maxHeartbeats 1000000 in
theorem SValid_any {w : World} {S : Nat → Prop} {a : Option Addr} {cap : Nat} {B : List (Tm × Tm)} (hB6 : ∀ b ∈ B, sizeT b.1 ≤ 1000000 ∧ sizeT b.2 ≤ 1000000) (hB : LsG elP w S (.slice a B.length cap) B) :
 Calls Try.prog 33 #[.slice a B.length cap] w fun e w' => e = .returned (.int .i64 (vldS B)) ∧ Ext w w' := by
 obtain ⟨-, hll, hlc⟩ := hB.len
 unfold maxLen at hlc
 have HB := Lib.hid hB
 have HB6 := Lib.hid hB6
 obtain ⟨Z, hZ⟩ : ∃ Z, Z = vldS B := ⟨_, rfl⟩
 rw [← hZ]
 unfold vldS at hZ
 have HZ := Lib.hid hZ
 clear hB hB6 hZ
 go_enter Try.func33, Try.ntmps33
 by_cases h200 : 200 < B.length
 · have h2 : (200 : Int) < (B.length : Int) := by omega
   have HF : Hid (Z = 3) := Lib.hid (by rw [HZ.out, if_pos h200])
   clear h200
   go_wp2_with fail
   go_ret
   exact ⟨by rw [HF.out]; rfl, Ext.refl _⟩
 · have h2 : ¬ (200 : Int) < (B.length : Int) := by omega
   have HZ2 : Hid (Z = vldL B none) := Lib.hid (by rw [HZ.out, if_neg h200])
   go_wp2_with fail
   go_loopw [3] (fun iv wr => Hid (∃ i : Nat, iv = .int .i64 i ∧ i ≤ B.length ∧ vldL (B.drop i) (if i = 0 then none else (B[i - 1]?).map (·.1)) = Z ∧ Ext w wr)) (fun iv _ => B.length - (intOf iv).toNat)
   case atStart => exact Lib.hid ⟨0, rfl, by omega, by rw [HZ2.out]; rfl, Ext.refl _⟩
   case round =>
    obtain ⟨i, rfl, hi, hV, hE⟩ := hrel.out
    have HV := Lib.hid hV
    have HE := Lib.hid hE
    clear hrel hV hE
    by_cases hlt : i < B.length
    · have hiz : (i : Int) < (B.length : Int) := by omega
      have hi0 : (0 : Int) ≤ (i : Int) := by omega
      obtain ⟨b, hb⟩ : ∃ b, B[i]? = some b := ⟨_, List.getElem?_eq_getElem hlt⟩
      obtain ⟨x, t⟩ := b
      obtain ⟨bb, bo, xa, xc, ta, tc, hba, ⟨x0, x1, x2, x3⟩, ⟨x4, x5, x6, x7⟩, hTx, hTt⟩ := (HB.out.ext HE.out).pAt hb
      subst hba
      simp only at x0 x1 x2 x3 x4 x5 x6 x7 hTx hTt
      obtain ⟨hx6, ht6⟩ := HB6.out _ (List.mem_of_getElem? hb)
      have HDR : Hid (B.drop i = (x, t) :: B.drop (i + 1)) := Lib.hid (by
       obtain ⟨h, e⟩ := List.getElem?_eq_some_iff.1 hb
       rw [List.drop_eq_getElem_cons h, e])
      have HX6 := Lib.hid hx6
      have HTX := Lib.hid hTx
      have hcb := SBinding_any hx6 ht6 hTx hTt
      obtain ⟨o, ho⟩ : ∃ o, o = bndE (x, t) := ⟨_, rfl⟩
      rw [← ho] at hcb
      have HCB := Lib.hid hcb
      have HO := Lib.hid ho
      have HBI := Lib.hid hb
      clear hb hx6 ht6 hTx hTt hcb ho
      go_wp2_with fail
      refine HCB.out.mono ?_
      rintro e w2 ⟨rfl, hE2⟩
      obtain ⟨x0, x1, x2, x3⟩ := cs_e4 hE2 ⟨x0, x1, x2, x3⟩
      have HE := Lib.hid (HE.out.trans hE2)
      have HTX := Lib.hid (HTX.out.ext hE2)
      clear hE2
      by_cases ho : o = 0
      · have eo : (o != 0) = false := by simp [ho]
        have HV2 : Hid (Z = if lateB (if i = 0 then none else (B[i - 1]?).map (·.1)) x then 5 else vldL (B.drop (i + 1)) (some x)) := Lib.hid (by
         rw [← HV.out, HDR.out, vldL, ← HO.out, if_neg (by simpa using ho)])
        clear ho
        by_cases hz : i = 0
        · subst hz
          have HN : Hid (vldL (B.drop 1) (some x) = Z) := Lib.hid (by rw [HV2.out]; rfl)
          go_upto_region 9 with fail
          have HFCT := Lib.hid (And.intro x0 (And.intro x1 (And.intro x2 x3)))
          refine wp_region_reg 17 false (by kernel_rfl) (by kernel_rfl) ?_
          refine reg_value (fun _ => rfl) ?_ (fun g w' vs hM hE hP => ?_) ?_
          rotate_left
          · (clear hP hM; go_simp; first | done | rfl)
          refine reg_value (fun _ => rfl) ?_ (fun g w' vs hM hE hP => ?_) ?_
          rotate_left
          · (clear hP hM; go_simp; first | done | rfl)
          refine reg_value (fun _ => rfl) ?_ (fun g w' vs hM hE hP => ?_) ?_
          rotate_left
          · (clear hP hM; go_simp; first | done | rfl)
          refine reg_skip (fun g => by go_simp; first | done | (intro h; cases h) | simp [undef]) ?_
          refine reg_skip (fun g => by go_simp; first | done | (intro h; cases h) | simp [undef]) ?_
          refine reg_skip (fun g => by go_simp; first | done | (intro h; cases h) | simp [undef]) ?_
          refine reg_skip (fun g => by go_simp; first | done | (intro h; cases h) | simp [undef]) ?_
          refine reg_skip (fun g => by go_simp; first | done | (intro h; cases h) | simp [undef]) ?_
          refine reg_skip (fun g => by go_simp; first | done | (intro h; cases h) | simp [undef]) ?_
          refine reg_skip (fun g => by go_simp; first | done | (intro h; cases h) | simp [undef]) ?_
          refine reg_skip (fun g => by go_simp; first | done | (intro h; cases h) | simp [undef]) ?_
          refine reg_skip (fun g => by go_simp; first | done | (intro h; cases h) | simp [undef]) ?_
          refine reg_skip (fun g => by go_simp; first | done | (intro h; cases h) | simp [undef]) ?_
          refine reg_skip (fun g => by go_simp; first | done | (intro h; cases h) | simp [undef]) ?_
          refine reg_skip (fun g => by go_simp; first | done | (intro h; cases h) | simp [undef]) ?_
          refine reg_skip (fun g => by go_simp; first | done | (intro h; cases h) | simp [undef]) ?_
          refine reg_value (fun _ => rfl) ?_ (fun g w' vs hM hE hP => ?_) ?_
          rotate_left
          · (clear hP hM; go_simp; first | done | rfl)
          intro g9 wz hE3 hF hQ
          simp only [List.drop_succ_cons, List.drop_zero, Act.put, List.setIfInBounds_toArray, List.set_cons_succ, List.set_cons_zero]
          have HE := Lib.hid (HE.out.trans hE3)
          clear hE3 hF hQ
          go_wp2_with fail
          go_roundw
          case rel => exact Lib.hid ⟨1, by go_num, by omega, by rw [if_neg (by omega)]; show vldL _ ((B[0]?).map _) = _; rw [HBI.out]; exact HN.out, HE.out⟩
          case measure => simp [intOf]; omega
        · obtain ⟨j, hj⟩ : ∃ j, j = i - 1 := ⟨_, rfl⟩
          obtain ⟨p, hp⟩ : ∃ p, B[j]? = some p := ⟨_, List.getElem?_eq_getElem (by omega)⟩
          obtain ⟨y, z⟩ := p
          obtain ⟨pb, po, ya, yc, za, zc, hpa, ⟨y0, y1, y2, y3⟩, -, hTy, -⟩ := (HB.out.ext HE.out).pAt hp
          cases hpa
          simp only at y0 y1 y2 y3 hTy
          have hy6 := (HB6.out _ (List.mem_of_getElem? hp)).1
          have HCC := Lib.hid (fun (w' : World) (h : Ext w2 w') => RCompare_any (sizeT y) w' _ _ ya xa yc xc y x (Nat.le_refl _) hy6 HX6.out (hTy.ext h) (HTX.out.ext h))
          have HN : Hid (Z = if 0 ≤ cmpT y x then 5 else vldL (B.drop (i + 1)) (some x)) := Lib.hid (by
           rw [HV2.out, if_neg hz, ← hj, hp]
           show (if decide (0 ≤ cmpT y x) = true then _ else _) = _
           simp)
          obtain ⟨c, hc⟩ : ∃ c, c = cmpT y x := ⟨_, rfl⟩
          simp only [← hc] at HCC HN
          have hij : (i : Int) - 1 = (j : Int) := by omega
          have hj0 : (0 : Int) ≤ (j : Int) := by omega
          have hjl : (j : Int) < (B.length : Int) := by omega
          have hip : 0 < i := by omega
          have hwj : IntKind.i64.wrap (j : Int) = (j : Int) := by rw [IntKind.wrap_i64]; omega
          clear hz hj hp hTy hy6 hc
          by_cases hcz : 0 ≤ c
          · have ec : (0 : Int) ≤ c := hcz
            have HF : Hid (Z = 5) := Lib.hid (by rw [HN.out, if_pos hcz])
            clear hcz
            go_upto_region 9 with fail
            have HFCT := Lib.hid (And.intro x0 (And.intro x1 (And.intro x2 (And.intro x3 (And.intro y0 (And.intro y1 (And.intro y2 y3)))))))
            refine wp_region_reg 17 false (by kernel_rfl) (by kernel_rfl) ?_
            refine reg_value (fun _ => rfl) ?_ (fun g w' vs hM hE hP => ?_) ?_
            rotate_left
            · (clear hP hM; go_simp; first | done | rfl)
            refine reg_value (fun _ => rfl) ?_ (fun g w' vs hM hE hP => ?_) ?_
            rotate_left
            · (clear hP hM; go_simp; first | done | rfl)
            refine reg_value (fun _ => rfl) ?_ (fun g w' vs hM hE hP => ?_) ?_
            rotate_left
            · (clear hP hM; go_simp; first | done | rfl)
            refine reg_value (fun g => by go_simp) ?_ (fun g w' vs hM hE hP => ?_) ?_
            rotate_left
            · (clear hP hM; go_simp; first | done | rfl)
            refine reg_value (fun g => by go_simp) ?_ (fun g w' vs hM hE hP => ?_) ?_
            rotate_left
            · (clear hP hM; go_simp; first | done | rfl)
            refine reg_value (fun g => by go_simp) ?_ (fun g w' vs hM hE hP => ?_) ?_
            rotate_left
            · (clear hP hM; go_simp; first | done | rfl)
            refine reg_value (fun g => by go_simp) ?_ (fun g w' vs hM hE hP => ?_) ?_
            rotate_left
            · (clear hP hM; go_simp; first | done | rfl)
            refine reg_value (fun g => by go_simp) ?_ (fun g w' vs hM hE hP => ?_) ?_
            rotate_left
            · (clear hP hM; go_simp; first | done | rfl)
            refine reg_value (fun g => by go_simp) ?_ (fun g w' vs hM hE hP => ?_) ?_
            rotate_left
            · (clear hP hM; have ⟨z0, z1, z2, z3, z4, z5, z6, z7⟩ := cs_e8 hE HFCT.out; go_simp; first | done | rfl)
            refine reg_value (fun g => by go_simp) ?_ (fun g w' vs hM hE hP => ?_) ?_
            rotate_left
            · (clear hP hM; go_simp; first | done | rfl)
            refine reg_value (fun g => by go_simp) ?_ (fun g w' vs hM hE hP => ?_) ?_
            rotate_left
            · (clear hP hM; go_simp; first | done | rfl)
            refine reg_value (fun g => by go_simp) ?_ (fun g w' vs hM hE hP => ?_) ?_
            rotate_left
            · (clear hP hM; go_simp; first | done | rfl)
            refine reg_value (fun g => by go_simp) ?_ (fun g w' vs hM hE hP => ?_) ?_
            rotate_left
            · (clear hP hM; go_simp; first | done | rfl)
            refine reg_value (fun g => by go_simp) ?_ (fun g w' vs hM hE hP => ?_) ?_
            rotate_left
            · (clear hP hM; have ⟨z0, z1, z2, z3, z4, z5, z6, z7⟩ := cs_e8 hE HFCT.out; go_simp; first | done | rfl)
            refine reg_const (fun g => by go_simp) 39 ?_ (fun g w' vs hM hE hP => ?_) ?_
            rotate_left
            · (clear hP hM; have ⟨z0, z1, z2, z3, z4, z5, z6, z7⟩ := cs_e8 hE HFCT.out; go_simp; first | done | exact ⟨rfl, rfl⟩ | rfl)
            apply Exists.intro
            refine And.intro (fun g w' vs hM hE hP => ?_) ?_
            · exact HCC.out w' hE
            refine reg_value (fun g => by go_simp) ?_ (fun g w' vs hM hE hP => ?_) ?_
            rotate_left
            · (clear hP hM; go_simp; first | done | rfl)
            refine reg_value (fun _ => rfl) ?_ (fun g w' vs hM hE hP => ?_) ?_
            rotate_left
            · (clear hP hM; go_simp; first | done | rfl)
            intro g9 wz hE3 hF hQ
            simp only [List.drop_succ_cons, List.drop_zero, Act.put, List.setIfInBounds_toArray, List.set_cons_succ, List.set_cons_zero]
            have HE := Lib.hid (HE.out.trans hE3)
            clear hE3 hF hQ
            go_wp2_with fail
            go_ret
            exact ⟨by rw [HF.out]; rfl, HE.out⟩
          · have ec : ¬ (0 : Int) ≤ c := hcz
            have HF : Hid (vldL (B.drop (i + 1)) (some x) = Z) := Lib.hid (by rw [HN.out, if_neg hcz])
            clear hcz
            go_upto_region 9 with fail
            have HFCT := Lib.hid (And.intro x0 (And.intro x1 (And.intro x2 (And.intro x3 (And.intro y0 (And.intro y1 (And.intro y2 y3)))))))
            refine wp_region_reg 17 false (by kernel_rfl) (by kernel_rfl) ?_
            refine reg_value (fun _ => rfl) ?_ (fun g w' vs hM hE hP => ?_) ?_
            rotate_left
            · (clear hP hM; go_simp; first | done | rfl)
            refine reg_value (fun _ => rfl) ?_ (fun g w' vs hM hE hP => ?_) ?_
            rotate_left
            · (clear hP hM; go_simp; first | done | rfl)
            refine reg_value (fun _ => rfl) ?_ (fun g w' vs hM hE hP => ?_) ?_
            rotate_left
            · (clear hP hM; go_simp; first | done | rfl)
            refine reg_value (fun g => by go_simp) ?_ (fun g w' vs hM hE hP => ?_) ?_
            rotate_left
            · (clear hP hM; go_simp; first | done | rfl)
            refine reg_value (fun g => by go_simp) ?_ (fun g w' vs hM hE hP => ?_) ?_
            rotate_left
            · (clear hP hM; go_simp; first | done | rfl)
            refine reg_value (fun g => by go_simp) ?_ (fun g w' vs hM hE hP => ?_) ?_
            rotate_left
            · (clear hP hM; go_simp; first | done | rfl)
            refine reg_value (fun g => by go_simp) ?_ (fun g w' vs hM hE hP => ?_) ?_
            rotate_left
            · (clear hP hM; go_simp; first | done | rfl)
            refine reg_value (fun g => by go_simp) ?_ (fun g w' vs hM hE hP => ?_) ?_
            rotate_left
            · (clear hP hM; go_simp; first | done | rfl)
            refine reg_value (fun g => by go_simp) ?_ (fun g w' vs hM hE hP => ?_) ?_
            rotate_left
            · (clear hP hM; have ⟨z0, z1, z2, z3, z4, z5, z6, z7⟩ := cs_e8 hE HFCT.out; go_simp; first | done | rfl)
            refine reg_value (fun g => by go_simp) ?_ (fun g w' vs hM hE hP => ?_) ?_
            rotate_left
            · (clear hP hM; go_simp; first | done | rfl)
            refine reg_value (fun g => by go_simp) ?_ (fun g w' vs hM hE hP => ?_) ?_
            rotate_left
            · (clear hP hM; go_simp; first | done | rfl)
            refine reg_value (fun g => by go_simp) ?_ (fun g w' vs hM hE hP => ?_) ?_
            rotate_left
            · (clear hP hM; go_simp; first | done | rfl)
            refine reg_value (fun g => by go_simp) ?_ (fun g w' vs hM hE hP => ?_) ?_
            rotate_left
            · (clear hP hM; go_simp; first | done | rfl)
            refine reg_value (fun g => by go_simp) ?_ (fun g w' vs hM hE hP => ?_) ?_
            rotate_left
            · (clear hP hM; have ⟨z0, z1, z2, z3, z4, z5, z6, z7⟩ := cs_e8 hE HFCT.out; go_simp; first | done | rfl)
            refine reg_const (fun g => by go_simp) 39 ?_ (fun g w' vs hM hE hP => ?_) ?_
            rotate_left
            · (clear hP hM; have ⟨z0, z1, z2, z3, z4, z5, z6, z7⟩ := cs_e8 hE HFCT.out; go_simp; first | done | exact ⟨rfl, rfl⟩ | rfl)
            apply Exists.intro
            refine And.intro (fun g w' vs hM hE hP => ?_) ?_
            · exact HCC.out w' hE
            refine reg_value (fun g => by go_simp) ?_ (fun g w' vs hM hE hP => ?_) ?_
            rotate_left
            · (clear hP hM; go_simp; first | done | rfl)
            refine reg_value (fun _ => rfl) ?_ (fun g w' vs hM hE hP => ?_) ?_
            rotate_left
            · (clear hP hM; go_simp; first | done | rfl)
            intro g9 wz hE3 hF hQ
            simp only [List.drop_succ_cons, List.drop_zero, Act.put, List.setIfInBounds_toArray, List.set_cons_succ, List.set_cons_zero]
            have HE := Lib.hid (HE.out.trans hE3)
            clear hE3 hF hQ
            go_wp2_with fail
            go_roundw
            case rel => exact Lib.hid ⟨i + 1, by go_num, by omega, by rw [if_neg (by omega), Nat.add_sub_cancel, HBI.out]; exact HF.out, HE.out⟩
            case measure => simp [intOf]; omega
      · have eo : (o != 0) = true := by simp [ho]
        have HF : Hid (Z = o) := Lib.hid (by rw [← HV.out, HDR.out, vldL, ← HO.out, if_pos ho])
        clear ho
        go_wp2_with fail
        go_ret
        exact ⟨by rw [HF.out]; rfl, HE.out⟩
    · have hiz : ¬ (i : Int) < (B.length : Int) := by omega
      have HF : Hid (Z = 0) := Lib.hid (by rw [← HV.out, List.drop_of_length_le (by omega), vldL])
      go_wp2_with fail
      go_ret
      exact ⟨by rw [HF.out]; rfl, HE.out⟩

set_option maxRecDepth 100000 in
set_option maxHeartbeats 8000000 in
theorem SApply_any {w : World} {S S' : Nat → Prop} {a ta : Option Addr} {cap tc : Nat} {B : List (Tm × Tm)} {t : Tm} (hB6 : ∀ b ∈ B, sizeT b.1 ≤ 1000000 ∧ sizeT b.2 ≤ 1000000) (ht6 : sizeT t ≤ 100000) (hB : LsG elP w S (.slice a B.length cap) B) (hT : TmW w S' ta tc t) :
 Calls Try.prog 13 #[.slice a B.length cap, .agg #[.int .i64 t.kind, .string t.name, .int .i64 t.sort, .slice ta t.kids.length tc]] w fun e w' => ∃ v er, e = .returned (.tuple #[v, .int .i64 er]) ∧ Ext w w' ∧ errR w' Any v er (applyS B t).2 (applyS B t).1 := by
 obtain ⟨-, hll, hlc⟩ := hB.len
 unfold maxLen at hlc
 have hB := hB.below
 have hT := hT.below
 obtain ⟨bx, w1, hbbx, hwbx, HBbx, hEbx⟩ := box_new w (.cells #[.int .i64 t.kind, .string t.name, .int .i64 t.sort, .slice ta t.kids.length tc] 31)
 have hs1 : w1.heap.size = bx + 1 := by rw [hwbx, hbbx, World.size_alloc]
 obtain ⟨rx, hrx⟩ : ∃ zz9, zz9 = bx + 1 := ⟨_, rfl⟩
 obtain ⟨w2, hw2⟩ : ∃ zz9, zz9 = w1.alloc (.cells #[.int .i64 0, .string ⟨#[]⟩, .int .i64 0, .slice none 0 0] 31) := ⟨_, rfl⟩
 have hE2 : Ext w1 w2 := by rw [hw2]; exact Ext.alloc _ _
 have HBR : Hid (w2.heap[rx]? = some (.cells #[.int .i64 0, .string ⟨#[]⟩, .int .i64 0, .slice none 0 0] 31)) := Lib.hid (by rw [hw2, hrx, ← hs1]; exact hs_new)
 have hEa := hEbx.trans hE2
 have HE := Lib.hid hEa
 have HNB : Hid (w.heap.size = bx ∧ rx = bx + 1) := Lib.hid ⟨hbbx.symm, hrx⟩
 obtain ⟨b0, b1, b2, b3⟩ := box4r (hs_ext hE2 HBbx.out)
 have HSB := Lib.hid (hB.ext hEa)
 have HT := Lib.hid (hT.ext hEa)
 have HB6 := Lib.hid hB6
 have HT6 := Lib.hid ht6
 have hcv := SValid_any hB6 (hB.ext hEa)
 obtain ⟨o1, ho1⟩ : ∃ o, o = vldS B := ⟨_, rfl⟩
 obtain ⟨o2, ho2⟩ : ∃ o, o = validT t := ⟨_, rfl⟩
 rw [← ho1] at hcv
 have HCV := Lib.hid hcv
 have hct := fun (w' : World) (h : Ext w2 w') => RValid_any (w := w') (t := t) (by omega) ((hT.ext hEa).ext h)
 simp only [← ho2] at hct
 have HCT := Lib.hid hct
 obtain ⟨Q, hQ⟩ : ∃ Q, Q = applyS B t := ⟨_, rfl⟩
 rw [← hQ]
 unfold applyS at hQ
 rw [← ho1, ← ho2] at hQ
 have HQ0 := Lib.hid hQ
 have HO := Lib.hid (And.intro ho1 ho2)
 clear hB hT hB6 ht6 hcv hct ho1 ho2 hEbx hE2 hEa hs1 hQ
 go_enter Try.func13, Try.ntmps13
 go_upto_region 1 with fail
 rw [← hwbx, ← hbbx, ← hw2, ← hrx]
 clear hwbx hbbx hw2 hrx
 go_wp2_with fail
 refine HCV.out.mono ?_
 rintro e w3 ⟨rfl, hE3⟩
 have HX3 := Lib.hid hE3
 obtain ⟨b0, b1, b2, b3⟩ := cs_e4 hE3 ⟨b0, b1, b2, b3⟩
 have HSB := Lib.hid (HSB.out.ext hE3)
 have HT := Lib.hid (HT.out.ext hE3)
 have HBR := Lib.hid (hs_ext hE3 HBR.out)
 have HE := Lib.hid (HE.out.trans hE3)
 clear hE3
 by_cases h1 : o1 = 0
 · have e1 : (o1 != 0) = false := by simp [h1]
   have HQ1 := Lib.hid (HQ0.out.trans (if_neg (by simp [h1])))
   have HGD : Hid (∀ b ∈ B, sizeT b.2 ≤ 400) := Lib.hid (fun b hb => sizeT_valid' (bndE_good (vldS_good (by rw [← HO.out.1]; exact h1) b hb)).2.1)
   clear h1
   go_wp2_with fail
   refine (HCT.out _ HX3.out).mono ?_
   rintro e w4 ⟨rfl, hE4⟩
   obtain ⟨b0, b1, b2, b3⟩ := cs_e4 hE4 ⟨b0, b1, b2, b3⟩
   have HSB := Lib.hid (HSB.out.ext hE4)
   have HT := Lib.hid (HT.out.ext hE4)
   have HBR := Lib.hid (hs_ext hE4 HBR.out)
   have HE := Lib.hid (HE.out.trans hE4)
   clear hE4
   by_cases h2 : o2 = 0
   · have e2 : (o2 != 0) = false := by simp [h2]
     have HQ2 := Lib.hid (HQ1.out.trans (if_neg (by simp [h2])))
     have HV4 : Hid (sizeT t ≤ 400) := Lib.hid (sizeT_valid' (by rw [← HO.out.2]; exact h2))
     obtain ⟨P, hP⟩ : ∃ P, P = putG B t := ⟨_, rfl⟩
     have hcp := RPut_any 100000 w4 (fun c => c < w.heap.size) a ta cap tc B t HT6.out (by omega) (fun b hb => (HB6.out b hb).1) (fun c h => Nat.lt_of_lt_of_le h HE.out.size) HSB.out HT.out
     rw [← hP] at hcp HQ2
     have HCP := Lib.hid hcp
     have HPZ : Hid (sizeT P ≤ 160000) := Lib.hid (by have := putS_size HGD.out t; have := HV4.out; rw [hP]; omega)
     have HRX : Hid (rx < w4.heap.size) := Lib.hid (lt_of_get' HBR.out)
     clear h2 hcp hP
     go_wp2_with fail
     refine HCP.out.mono ?_
     rintro e w5 ⟨v, rfl, hE5, pa, pc, rfl, hTp⟩
     obtain ⟨ux, hux⟩ : ∃ zz9, zz9 = w5.heap.size := ⟨_, rfl⟩
     obtain ⟨w6, hw6⟩ : ∃ zz9, zz9 = w5.alloc (.cells #[.int .i64 P.kind, .string P.name, .int .i64 P.sort, .slice pa P.kids.length pc] 31) := ⟨_, rfl⟩
     have hE6 : Ext w5 w6 := by rw [hw6]; exact Ext.alloc _ _
     have hbu : w6.heap[ux]? = some (.cells #[.int .i64 P.kind, .string P.name, .int .i64 P.sort, .slice pa P.kids.length pc] 31) := by rw [hw6, hux]; exact hs_new
     obtain ⟨u0, u1, u2, u3⟩ := box4r (hbu)
     have hlp := hTp.len
     have hcpp := hTp.cap
     unfold maxLen at hcpp
     have hE46 := hE5.trans hE6
     have HTP := Lib.hid (hTp.ext hE6)
     have HBR := Lib.hid (hs_ext hE46 HBR.out)
     have HE := Lib.hid (HE.out.trans hE46)
     have hcq := RValid_any (w := w6) (t := P) (by have := HPZ.out; omega) HTP.out
     obtain ⟨o3, ho3⟩ : ∃ o, o = validT P := ⟨_, rfl⟩
     rw [← ho3] at hcq HQ2
     have HCQ := Lib.hid hcq
     clear hE5 hTp hE6 hbu hE46 hcq ho3 b0 b1 b2 b3
     go_upto_region 8 with fail
     rw [← hw6, ← hux]
     clear hw6 hux
     go_wp2_with fail
     refine HCQ.out.mono ?_
     rintro e w7 ⟨rfl, hE7⟩
     obtain ⟨u0, u1, u2, u3⟩ := cs_e4 hE7 ⟨u0, u1, u2, u3⟩
     have HTP := Lib.hid (HTP.out.ext hE7)
     have HBR := Lib.hid (hs_ext hE7 HBR.out)
     have HE := Lib.hid (HE.out.trans hE7)
     clear hE7
     by_cases h3 : o3 = 0
     · have e3 : (o3 != 0) = false := by simp [h3]
       have HF : Hid (Q = (0, P)) := Lib.hid (HQ2.out.trans (if_neg (by simp [h3])))
       clear h3
       go_wp2_with (first
        | (refine wpList_storeT rfl (.tmp 4) (.tmp 31) rfl (g := rx) rfl (k := P.kind) (s := P.sort) (n := P.name) (ka := pa) (kl := P.kids.length) (kc := pc) rfl HBR.out rfl ?_
           intro wq c6 q6 e6 z6
           have HG6 := Lib.hid c6
           have HQ6 := Lib.hid q6
           have HEQ := Lib.hid (e6 w HE.out (by have := HNB.out; omega))
           clear c6 q6 e6 z6))
       refine ret_term2 (g := rx) rfl rfl HG6.out rfl ⟨_, _, rfl, HEQ.out, by rw [HF.out], fun _ => ?_, fun h => absurd (by rw [HF.out]) h⟩
       rw [HF.out]
       exact ⟨pa, pc, rfl, HTP.out.keep (fun c h _ => HQ6.out c (by have := HNB.out; have := HRX.out; omega)) (fun _ _ _ => trivial)⟩
     · have e3 : (o3 != 0) = true := by simp [h3]
       have HF : Hid (Q = (o3, zeroTm) ∧ o3 ≠ 0) := Lib.hid ⟨HQ2.out.trans (if_pos h3), h3⟩
       clear h3
       go_wp2_with (first
        | (refine wpList_buildT rfl [] rfl [] rfl built_none ?_)
        | (refine wpList_storeT rfl (.tmp 4) (.tmp 29) rfl (g := rx) rfl (k := 0) (s := 0) (n := ⟨#[]⟩) (ka := none) (kl := 0) (kc := 0) rfl HBR.out rfl ?_
           intro w99 c6 q6 e6 z6
           have HG6 := Lib.hid c6
           have HEQ := Lib.hid (e6 w HE.out (by have := HNB.out; omega))
           clear c6 q6 e6 z6))
       exact ret_term2 (g := rx) rfl rfl HG6.out rfl ⟨_, _, rfl, HEQ.out, by rw [HF.out.1]; exact ⟨rfl, fun h => absurd h HF.out.2, fun _ => rfl⟩⟩
   · have e2 : (o2 != 0) = true := by simp [h2]
     have HF : Hid (Q = (o2, zeroTm) ∧ o2 ≠ 0) := Lib.hid ⟨HQ1.out.trans (if_pos h2), h2⟩
     clear h2
     go_wp2_with (first
      | (refine wpList_buildT rfl [] rfl [] rfl built_none ?_)
      | (refine wpList_storeT rfl (.tmp 4) (.tmp 20) rfl (g := rx) rfl (k := 0) (s := 0) (n := ⟨#[]⟩) (ka := none) (kl := 0) (kc := 0) rfl HBR.out rfl ?_
         intro w99 c6 q6 e6 z6
         have HG6 := Lib.hid c6
         have HEQ := Lib.hid (e6 w HE.out (by have := HNB.out; omega))
         clear c6 q6 e6 z6))
     exact ret_term2 (g := rx) rfl rfl HG6.out rfl ⟨_, _, rfl, HEQ.out, by rw [HF.out.1]; exact ⟨rfl, fun h => absurd h HF.out.2, fun _ => rfl⟩⟩
 · have e1 : (o1 != 0) = true := by simp [h1]
   have HF : Hid (Q = (o1, zeroTm) ∧ o1 ≠ 0) := Lib.hid ⟨HQ0.out.trans (if_pos h1), h1⟩
   clear h1
   go_wp2_with (first
    | (refine wpList_buildT rfl [] rfl [] rfl built_none ?_)
    | (refine wpList_storeT rfl (.tmp 4) (.tmp 14) rfl (g := rx) rfl (k := 0) (s := 0) (n := ⟨#[]⟩) (ka := none) (kl := 0) (kc := 0) rfl HBR.out rfl ?_
       intro w99 c6 q6 e6 z6
       have HG6 := Lib.hid c6
       have HEQ := Lib.hid (e6 w HE.out (by have := HNB.out; omega))
       clear c6 q6 e6 z6))
   exact ret_term2 (g := rx) rfl rfl HG6.out rfl ⟨_, _, rfl, HEQ.out, by rw [HF.out.1]; exact ⟨rfl, fun h => absurd h HF.out.2, fun _ => rfl⟩⟩

end Go.Proofs.Ytpfnlbaloaohgaa
