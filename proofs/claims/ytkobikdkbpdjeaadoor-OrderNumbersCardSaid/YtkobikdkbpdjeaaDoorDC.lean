/- Contracts: the reference's Multiset. -/
import Derived.Test.YtkobikdkbpdjeaaDoorDB
namespace Go.Proofs.YtkobikdkbpdjeaaDoor
open Go Go.RowKit
set_option linter.unusedVariables false
set_option linter.unusedSimpArgs false

theorem leftM_step {A B : List Int} {k : Nat} {x : Int} (h : A[k]? = some x) : leftM (A.take (k + 1)) B = if x ∈ (leftM (A.take k) B).2 then ((leftM (A.take k) B).1, (leftM (A.take k) B).2.erase x) else ((leftM (A.take k) B).1 ++ [x], (leftM (A.take k) B).2) := by
 unfold leftM
 rw [List.take_add_one, h, Option.toList_some, List.foldl_append]
 rfl
theorem all_tkI {α : Type} {p : α → Bool} {L : List α} {k : Nat} {x : α} (h : L[k]? = some x) : (L.take (k + 1)).all p = ((L.take k).all p && p x) := by
 rw [List.take_add_one, h]; simp
theorem any_tkI {α : Type} {p : α → Bool} {L : List α} {k : Nat} {x : α} (h : L[k]? = some x) : (L.take (k + 1)).any p = ((L.take k).any p || p x) := by
 rw [List.take_add_one, h]; simp

set_option maxRecDepth 100000 in
set_option maxHeartbeats 8000000 in
theorem RMultiset_any {w : World} {S S' : Nat → Prop} {a b : Option Addr} {ca cb : Nat} {A B : List Int} (hA : A.length ≤ 100) (hB : B.length ≤ 100) (hIA : LsG elI w S (.slice a A.length ca) A) (hIB : LsG elI w S' (.slice b B.length cb) B) :
 Calls Tryd.prog 18 #[.slice a A.length ca, .slice b B.length cb] w fun e w' => e = .returned (.int .i64 (msI A B)) ∧ Ext w w' := by
 obtain ⟨-, hl, hc⟩ := hIA.len
 obtain ⟨-, hl', hc'⟩ := hIB.len
 unfold maxLen at hc hc'
 obtain ⟨V, hV⟩ : ∃ V, V = msI A B := ⟨_, rfl⟩
 rw [← hV]
 have HV := Lib.hid (hV.trans (over_msI A B).symm)
 obtain ⟨eb, w1, heb, hw1, HEB, hE1⟩ := box_new w (.cells #[] 3)
 have HO1 : Hid (OwnG elI w1 w.heap.size 3 (fun _ => False) (.slice (some ⟨eb, 0, none⟩) 0 0) []) := Lib.hid (OwnG.noneI HEB.out (Nat.le_of_eq heb.symm))
 have HB1 := Lib.hid ((hIB.ext hE1).e.ints (S' := fun _ => False))
 have HE1 := Lib.hid hE1
 have HIA := Lib.hid hIA
 have HAB := Lib.hid (And.intro hA hB)
 clear hV hIA hIB hE1
 go_enter Tryd.func18, Tryd.ntmps18
 go_wp2_with (
  at_builtin
  rw [← hw1, ← heb]
  refine wpList_appG (E := elI) (T := 3) rfl 23 (.tmp 13) (.tmp 14) rfl rfl rfl Tryd.underlying23 infInt rfl (by decide) (by decide) HO1.out HE1.out.size (fun c h => absurd h id) (by simp) (M := B) (by omega) HB1.out ?_
  intro v2 w2 o2 g2 k2
  rw [List.nil_append] at o2
  have HE2 := Lib.hid (HE1.out.grownG HO1.out (Nat.le_refl _) g2)
  have HO2 := Lib.hid o2
  clear o2 g2 k2)
 go_loopw [5, 6, 7, 8, 9] (fun xv yv kv x8 x9 wr => ∃ (k : Nat) (X Y : List Int), kv = .int .i64 k ∧ k ≤ A.length ∧ Hid (leftM (A.take k) B = (X, Y)) ∧ Hid (OwnG elI wr w.heap.size 3 (fun _ => False) xv X) ∧ Hid (LsG elI wr (fun c => xv.ownBlock ≠ some c) yv Y) ∧ Hid (X.length ≤ k ∧ Y.length ≤ 100) ∧ Hid (Ext w wr)) (fun xv yv kv x8 x9 _ => A.length - (intOf kv).toNat)
 case atStart => exact ⟨0, [], B, rfl, by omega, Lib.hid rfl, Lib.hid OwnG.nil, Lib.hid (HO2.out.ls (fun _ h _ => h.elim) (fun g _ _ _ => by simp [Value.ownBlock])), Lib.hid ⟨by simp, HAB.out.2⟩, HE2⟩
 case round =>
  obtain ⟨k, X, Y, rfl, hk, HM, HX, HY, HLN, HE⟩ := hrel
  obtain ⟨xa, xc, rfl, hxl, hxc⟩ := HX.out.slice
  obtain ⟨ya, yc, rfl, hyl, hyc⟩ := HY.out.slice
  unfold maxLen at hxc hyc
  by_cases hlt : k < A.length
  · obtain ⟨x, hx⟩ : ∃ x, A[k]? = some x := ⟨_, List.getElem?_eq_getElem hlt⟩
    obtain ⟨ab, ao, rfl, x0, hxs⟩ := (HIA.out.ext HE.out).iAt hx
    have HW := Lib.hid (without_any (n := x) (by have := HLN.out; omega) HY.out)
    have HST := Lib.hid (leftM_step (B := B) hx)
    have HXS := Lib.hid hxs
    obtain ⟨z, hz⟩ : ∃ z, z = decide (x ∈ Y) := ⟨_, rfl⟩
    rw [← hz] at HW
    have HZ := Lib.hid hz
    have HLX : Hid (∀ g, (Value.slice xa X.length xc).ownBlock = some g → g < wr.heap.size) := Lib.hid (fun g h => (HX.out.lt g h).2)
    clear hx hxs hz
    go_wp2_with fail
    refine HW.out.mono ?_
    rintro e w5 ⟨v, rfl, hE5, hL5⟩
    have x0 := cs_ext hE5 x0
    have HX5 := Lib.hid (HX.out.ext hE5)
    have HY5 := Lib.hid (HY.out.ext hE5)
    have HE5 := Lib.hid (HE.out.trans hE5)
    have HL5 : Hid (LsG elI w5 (fun c => (Value.slice xa X.length xc).ownBlock ≠ some c) v (Y.erase x)) := Lib.hid (hL5.wide (fun c h _ e => h.elim (fun h => h e) (fun h => by have := HLX.out c e; omega)))
    clear hE5 hL5
    cases z with
    | true =>
      have HIN : Hid (x ∈ Y) := Lib.hid (of_decide_eq_true HZ.out.symm)
      clear x0
      go_wp2_with fail
      go_roundw
      case rel => exact ⟨k + 1, X, Y.erase x, by go_num, by omega, Lib.hid (by rw [HST.out, HM.out, if_pos HIN.out]), HX5, HL5, Lib.hid ⟨by have := HLN.out; omega, Nat.le_trans List.length_erase_le HLN.out.2⟩, HE5⟩
      case measure => simp [intOf]; omega
    | false =>
      have HIN : Hid (¬ x ∈ Y) := Lib.hid (of_decide_eq_false HZ.out.symm)
      obtain ⟨ob, wa, hob, hwa, HBO, hEa⟩ := box_new w5 (.cells #[.int .i64 x] 3)
      have HLSE := Lib.hid (one_intF (S := fun _ => False) HBO.out HXS.out)
      have HXA := Lib.hid (HX5.out.ext hEa)
      have HYA := Lib.hid (HY5.out.ext hEa)
      have HEA := Lib.hid (HE5.out.trans hEa)
      clear hEa
      go_upto_region 9 with fail
      go_wp2_with (
       at_builtin
       rw [← hob, ← hwa]
       refine wpList_appG (E := elI) (T := 3) rfl 23 (.tmp 33) (.tmp 38) rfl rfl rfl Tryd.underlying23 infInt rfl (by decide) (by decide) HXA.out HEA.out.size (fun c h => absurd h id) (by have := HLN.out; omega) (M := [x]) (by simp) HLSE.out ?_
       intro v6 w6 o6 g6 k6
       have HO6 := Lib.hid o6
       have HE6 := Lib.hid (HEA.out.grownG HXA.out (Nat.le_refl _) g6)
       have HY6 : Hid (LsG elI w6 (fun c => v6.ownBlock ≠ some c) (.slice ya Y.length yc) Y) := Lib.hid (HYA.out.keep (fun c hc hlt => g6.block c hlt (fun e => hc e.symm)) (fun c hc hlt e => (by
        rcases k6 with h | h
        · rw [h] at e; exact hc e
        · rw [h] at e; cases e; exact absurd hlt (Nat.lt_irrefl _))) g6.size)
       clear o6 g6 k6)
      go_roundw
      case rel => exact ⟨k + 1, X ++ [x], Y, by go_num, by omega, Lib.hid (by rw [HST.out, HM.out, if_neg HIN.out]), HO6, HY6, Lib.hid ⟨by have := HLN.out; rw [List.length_append, List.length_singleton]; omega, HLN.out.2⟩, HE6⟩
      case measure => simp [intOf]; omega
  · have HVM : Hid (V = overM (X, Y)) := Lib.hid (by
     have := HM.out
     rw [List.take_of_length_le (by omega)] at this
     rw [HV.out, this])
    obtain ⟨w0, hw0⟩ : ∃ w0, w0 = wr := ⟨_, rfl⟩
    rw [← hw0] at HX HY HE ⊢
    have HXL := Lib.hid HX.out.any
    have HYL := Lib.hid HY.out.any
    clear HX HY hw0
    by_cases h00 : X.length = 0 ∧ Y.length = 0
    · have HV0 : Hid (V = 0) := Lib.hid (by rw [HVM.out]; unfold overM; rw [if_pos ⟨List.eq_nil_of_length_eq_zero h00.1, List.eq_nil_of_length_eq_zero h00.2⟩])
      obtain ⟨h1, h2⟩ := h00
      have e1 : ((X.length : Int) == 0) = true := by simp [h1]
      have e2 : ((Y.length : Int) == 0) = true := by simp [h2]
      clear h1 h2
      go_wp2_with fail
      go_ret
      exact ⟨by rw [HV0.out]; rfl, HE.out⟩
    · have HV0 : Hid (V = if Y.all (fun y => X.any (fun x => decide (y < x))) then 1 else -1) := Lib.hid (by
       rw [HVM.out]; unfold overM
       rw [if_neg (fun h => h00 ⟨List.length_eq_zero_iff.2 h.1, List.length_eq_zero_iff.2 h.2⟩)])
      by_cases h1 : X.length = 0
      · have h2 : ¬ Y.length = 0 := fun h => h00 ⟨h1, h⟩
        have e1 : ((X.length : Int) == 0) = true := by simp [h1]
        have e2 : ((Y.length : Int) == 0) = false := by simpa using h2
        clear h00 h1 h2
        go_wp2_with fail
        go_loopw [10, 11, 12] (fun jv x11 x12 wr => ∃ j : Nat, jv = .int .i64 j ∧ j ≤ Y.length ∧ Hid ((Y.take j).all (fun y => X.any (fun x => decide (y < x))) = true) ∧ Hid (Ext w0 wr)) (fun jv x11 x12 _ => Y.length - (intOf jv).toNat)
        case atStart => exact ⟨0, rfl, by omega, Lib.hid (by simp), Lib.hid (Ext.refl _)⟩
        case round =>
         obtain ⟨j, rfl, hj, HJ, HEr⟩ := hrel
         by_cases hjt : j < Y.length
         · obtain ⟨y, hy⟩ : ∃ y, Y[j]? = some y := ⟨_, List.getElem?_eq_getElem hjt⟩
           obtain ⟨yb, yo, hya, y0, hys⟩ := (HYL.out.ext HEr.out).iAt hy
           subst hya
           have HJ2 := Lib.hid (all_tkI (p := fun y => X.any (fun x => decide (y < x))) hy)
           have HJN : Hid (X.any (fun x => decide (y < x)) = false → V = -1) := Lib.hid (fun h => by
            rw [HV0.out, if_neg]
            intro h2
            have := List.all_eq_true.1 h2 y (List.mem_of_getElem? hy)
            rw [h] at this; cases this)
           obtain ⟨wi, hwi⟩ : ∃ wi, wi = wr := ⟨_, rfl⟩
           rw [← hwi] at HEr y0 ⊢
           clear hy hys hwi
           go_wp2_with fail
           go_loopw [11, 12] (fun sv kv wr => ∃ (k : Nat) (z : Bool), sv = .bool z ∧ kv = .int .i64 k ∧ k ≤ X.length ∧ Hid (z = (X.take k).any (fun x => decide (y < x))) ∧ Hid (Ext wi wr)) (fun sv kv _ => X.length - (intOf kv).toNat)
           case atStart => exact ⟨0, false, rfl, rfl, by omega, Lib.hid (by simp), Lib.hid (Ext.refl _)⟩
           case round =>
            obtain ⟨i, z, rfl, rfl, hi, HZ, HEi⟩ := hrel
            have y0 := cs_ext HEi.out y0
            by_cases hit : i < X.length
            · obtain ⟨x, hx⟩ : ∃ x, X[i]? = some x := ⟨_, List.getElem?_eq_getElem hit⟩
              obtain ⟨xb, xo, hxa, x0, hxs⟩ := (HXL.out.ext (HEr.out.trans HEi.out)).iAt hx
              subst hxa
              have HZ2 := Lib.hid (any_tkI (p := fun x => decide (y < x)) hx)
              have hjb : (j : Int) < (Y.length : Int) := by omega
              clear hx hxs
              go_upto_region 19 with fail
              cases z with
              | true =>
                have HFCT := Lib.hid (And.intro x0 y0)
                refine wp_region_reg 12 false (by kernel_rfl) (by kernel_rfl) ?_
                refine reg_value (fun _ => rfl) ?_ (fun g w' vs hM hE hP => ?_) ?_
                rotate_left
                · (clear hP hM; go_simp; first | done | rfl)
                refine reg_value (fun _ => rfl) ?_ (fun g w' vs hM hE hP => ?_) ?_
                rotate_left
                · (clear hP hM; go_simp; first | done | rfl)
                refine reg_skip (fun g => by go_simp; first | done | (intro h; cases h) | simp [undef]) ?_
                refine reg_skip (fun g => by go_simp; first | done | (intro h; cases h) | simp [undef]) ?_
                refine reg_skip (fun g => by go_simp; first | done | (intro h; cases h) | simp [undef]) ?_
                refine reg_skip (fun g => by go_simp; first | done | (intro h; cases h) | simp [undef]) ?_
                refine reg_skip (fun g => by go_simp; first | done | (intro h; cases h) | simp [undef]) ?_
                refine reg_skip (fun g => by go_simp; first | done | (intro h; cases h) | simp [undef]) ?_
                refine reg_skip (fun g => by go_simp; first | done | (intro h; cases h) | simp [undef]) ?_
                refine reg_skip (fun g => by go_simp; first | done | (intro h; cases h) | simp [undef]) ?_
                refine reg_skip (fun g => by go_simp; first | done | (intro h; cases h) | simp [undef]) ?_
                refine reg_value (fun _ => rfl) ?_ (fun g w' vs hM hE hP => ?_) ?_
                rotate_left
                · (clear hP hM; go_simp; first | done | rfl)
                intro g w3 hE3 hF hQ
                simp only [List.drop_succ_cons, List.drop_zero, Act.put, List.setIfInBounds_toArray, List.set_cons_succ, List.set_cons_zero]
                have HE3 := Lib.hid (HEi.out.trans hE3)
                clear hE3 hF hQ
                go_wp2_with fail
                go_roundw
                case rel => exact ⟨i + 1, true, rfl, by go_num, by omega, Lib.hid (by rw [HZ2.out, ← HZ.out]; rfl), HE3⟩
                case measure => simp [intOf]; omega
              | false =>
                obtain ⟨q, hq⟩ : ∃ q, q = decide (y < x) := ⟨_, rfl⟩
                have HQ1 : Hid ((X.take (i + 1)).any (fun x => decide (y < x)) = q) := Lib.hid (by rw [HZ2.out, ← HZ.out, hq]; rfl)
                have HFCT := Lib.hid (And.intro x0 y0)
                refine wp_region_reg 12 false (by kernel_rfl) (by kernel_rfl) ?_
                refine reg_value (fun _ => rfl) ?_ (fun g w' vs hM hE hP => ?_) ?_
                rotate_left
                · (clear hP hM; go_simp; first | done | rfl)
                refine reg_value (fun _ => rfl) ?_ (fun g w' vs hM hE hP => ?_) ?_
                rotate_left
                · (clear hP hM; go_simp; first | done | rfl)
                refine reg_value (fun g => by go_simp) ?_ (fun g w' vs hM hE hP => ?_) ?_
                rotate_left
                · (clear hP hM; go_simp; first | done | rfl)
                refine reg_value (fun g => by go_simp) ?_ (fun g w' vs hM hE hP => ?_) ?_
                rotate_left
                · (clear hP hM; go_simp; first | done | rfl)
                refine reg_value (fun g => by go_simp) ?_ (fun g w' vs hM hE hP => ?_) ?_
                rotate_left
                · (clear hP hM; go_simp; first | done | rfl)
                refine reg_value (fun g => by go_simp) ?_ (fun g w' vs hM hE hP => ?_) ?_
                rotate_left
                · (clear hP hM; have ⟨z0, z1⟩ := cs_e2 hE HFCT.out; go_simp; first | done | rfl)
                refine reg_value (fun g => by go_simp) ?_ (fun g w' vs hM hE hP => ?_) ?_
                rotate_left
                · (clear hP hM; go_simp; first | done | rfl)
                refine reg_value (fun g => by go_simp) ?_ (fun g w' vs hM hE hP => ?_) ?_
                rotate_left
                · (clear hP hM; go_simp; first | done | rfl)
                refine reg_value (fun g => by go_simp) ?_ (fun g w' vs hM hE hP => ?_) ?_
                rotate_left
                · (clear hP hM; go_simp; first | done | rfl)
                refine reg_value (fun g => by go_simp) ?_ (fun g w' vs hM hE hP => ?_) ?_
                rotate_left
                · (clear hP hM; have ⟨z0, z1⟩ := cs_e2 hE HFCT.out; go_simp; first | done | rfl)
                refine reg_value (fun g => by go_simp) ?_ (fun g w' vs hM hE hP => ?_) ?_
                rotate_left
                · (clear hP hM; go_simp; first | done | rfl)
                refine reg_value (fun _ => rfl) ?_ (fun g w' vs hM hE hP => ?_) ?_
                rotate_left
                · (clear hP hM; go_simp; first | done | rfl)
                intro g w3 hE3 hF hQ
                simp only [List.drop_succ_cons, List.drop_zero, Act.put, List.setIfInBounds_toArray, List.set_cons_succ, List.set_cons_zero]
                have HE3 := Lib.hid (HEi.out.trans hE3)
                clear hE3 hF hQ
                rw [← hq]
                clear hq
                go_wp2_with fail
                go_roundw
                case rel => exact ⟨i + 1, q, rfl, by go_num, by omega, Lib.hid HQ1.out.symm, HE3⟩
                case measure => simp [intOf]; omega
            · have HZF : Hid (z = X.any (fun x => decide (y < x))) := Lib.hid (by rw [HZ.out, List.take_of_length_le (by omega)])
              have HE3 := Lib.hid (HEr.out.trans HEi.out)
              clear y0
              cases z with
              | true =>
                go_wp2_with fail
                go_roundw
                case rel => exact ⟨j + 1, by go_num, by omega, Lib.hid (by rw [HJ2.out, HJ.out, ← HZF.out]; rfl), HE3⟩
                case measure => simp [intOf]; omega
              | false =>
                have HVN : Hid (V = -1) := Lib.hid (HJN.out HZF.out.symm)
                go_wp2_with fail
                go_ret
                exact ⟨by rw [HVN.out]; rfl, HE.out.trans HE3.out⟩
         · have HV1 : Hid (V = 1) := Lib.hid (by
            have := HJ.out
            rw [List.take_of_length_le (by omega)] at this
            rw [HV0.out, if_pos this])
           go_wp2_with fail
           go_ret
           exact ⟨by rw [HV1.out]; rfl, HE.out.trans HEr.out⟩
      · have e1 : ((X.length : Int) == 0) = false := by simpa using h1
        clear h00 h1
        go_wp2_with fail
        go_loopw [10, 11, 12] (fun jv x11 x12 wr => ∃ j : Nat, jv = .int .i64 j ∧ j ≤ Y.length ∧ Hid ((Y.take j).all (fun y => X.any (fun x => decide (y < x))) = true) ∧ Hid (Ext w0 wr)) (fun jv x11 x12 _ => Y.length - (intOf jv).toNat)
        case atStart => exact ⟨0, rfl, by omega, Lib.hid (by simp), Lib.hid (Ext.refl _)⟩
        case round =>
         obtain ⟨j, rfl, hj, HJ, HEr⟩ := hrel
         by_cases hjt : j < Y.length
         · obtain ⟨y, hy⟩ : ∃ y, Y[j]? = some y := ⟨_, List.getElem?_eq_getElem hjt⟩
           obtain ⟨yb, yo, hya, y0, hys⟩ := (HYL.out.ext HEr.out).iAt hy
           subst hya
           have HJ2 := Lib.hid (all_tkI (p := fun y => X.any (fun x => decide (y < x))) hy)
           have HJN : Hid (X.any (fun x => decide (y < x)) = false → V = -1) := Lib.hid (fun h => by
            rw [HV0.out, if_neg]
            intro h2
            have := List.all_eq_true.1 h2 y (List.mem_of_getElem? hy)
            rw [h] at this; cases this)
           obtain ⟨wi, hwi⟩ : ∃ wi, wi = wr := ⟨_, rfl⟩
           rw [← hwi] at HEr y0 ⊢
           clear hy hys hwi
           go_wp2_with fail
           go_loopw [11, 12] (fun sv kv wr => ∃ (k : Nat) (z : Bool), sv = .bool z ∧ kv = .int .i64 k ∧ k ≤ X.length ∧ Hid (z = (X.take k).any (fun x => decide (y < x))) ∧ Hid (Ext wi wr)) (fun sv kv _ => X.length - (intOf kv).toNat)
           case atStart => exact ⟨0, false, rfl, rfl, by omega, Lib.hid (by simp), Lib.hid (Ext.refl _)⟩
           case round =>
            obtain ⟨i, z, rfl, rfl, hi, HZ, HEi⟩ := hrel
            have y0 := cs_ext HEi.out y0
            by_cases hit : i < X.length
            · obtain ⟨x, hx⟩ : ∃ x, X[i]? = some x := ⟨_, List.getElem?_eq_getElem hit⟩
              obtain ⟨xb, xo, hxa, x0, hxs⟩ := (HXL.out.ext (HEr.out.trans HEi.out)).iAt hx
              subst hxa
              have HZ2 := Lib.hid (any_tkI (p := fun x => decide (y < x)) hx)
              have hjb : (j : Int) < (Y.length : Int) := by omega
              clear hx hxs
              go_upto_region 19 with fail
              cases z with
              | true =>
                have HFCT := Lib.hid (And.intro x0 y0)
                refine wp_region_reg 12 false (by kernel_rfl) (by kernel_rfl) ?_
                refine reg_value (fun _ => rfl) ?_ (fun g w' vs hM hE hP => ?_) ?_
                rotate_left
                · (clear hP hM; go_simp; first | done | rfl)
                refine reg_value (fun _ => rfl) ?_ (fun g w' vs hM hE hP => ?_) ?_
                rotate_left
                · (clear hP hM; go_simp; first | done | rfl)
                refine reg_skip (fun g => by go_simp; first | done | (intro h; cases h) | simp [undef]) ?_
                refine reg_skip (fun g => by go_simp; first | done | (intro h; cases h) | simp [undef]) ?_
                refine reg_skip (fun g => by go_simp; first | done | (intro h; cases h) | simp [undef]) ?_
                refine reg_skip (fun g => by go_simp; first | done | (intro h; cases h) | simp [undef]) ?_
                refine reg_skip (fun g => by go_simp; first | done | (intro h; cases h) | simp [undef]) ?_
                refine reg_skip (fun g => by go_simp; first | done | (intro h; cases h) | simp [undef]) ?_
                refine reg_skip (fun g => by go_simp; first | done | (intro h; cases h) | simp [undef]) ?_
                refine reg_skip (fun g => by go_simp; first | done | (intro h; cases h) | simp [undef]) ?_
                refine reg_skip (fun g => by go_simp; first | done | (intro h; cases h) | simp [undef]) ?_
                refine reg_value (fun _ => rfl) ?_ (fun g w' vs hM hE hP => ?_) ?_
                rotate_left
                · (clear hP hM; go_simp; first | done | rfl)
                intro g w3 hE3 hF hQ
                simp only [List.drop_succ_cons, List.drop_zero, Act.put, List.setIfInBounds_toArray, List.set_cons_succ, List.set_cons_zero]
                have HE3 := Lib.hid (HEi.out.trans hE3)
                clear hE3 hF hQ
                go_wp2_with fail
                go_roundw
                case rel => exact ⟨i + 1, true, rfl, by go_num, by omega, Lib.hid (by rw [HZ2.out, ← HZ.out]; rfl), HE3⟩
                case measure => simp [intOf]; omega
              | false =>
                obtain ⟨q, hq⟩ : ∃ q, q = decide (y < x) := ⟨_, rfl⟩
                have HQ1 : Hid ((X.take (i + 1)).any (fun x => decide (y < x)) = q) := Lib.hid (by rw [HZ2.out, ← HZ.out, hq]; rfl)
                have HFCT := Lib.hid (And.intro x0 y0)
                refine wp_region_reg 12 false (by kernel_rfl) (by kernel_rfl) ?_
                refine reg_value (fun _ => rfl) ?_ (fun g w' vs hM hE hP => ?_) ?_
                rotate_left
                · (clear hP hM; go_simp; first | done | rfl)
                refine reg_value (fun _ => rfl) ?_ (fun g w' vs hM hE hP => ?_) ?_
                rotate_left
                · (clear hP hM; go_simp; first | done | rfl)
                refine reg_value (fun g => by go_simp) ?_ (fun g w' vs hM hE hP => ?_) ?_
                rotate_left
                · (clear hP hM; go_simp; first | done | rfl)
                refine reg_value (fun g => by go_simp) ?_ (fun g w' vs hM hE hP => ?_) ?_
                rotate_left
                · (clear hP hM; go_simp; first | done | rfl)
                refine reg_value (fun g => by go_simp) ?_ (fun g w' vs hM hE hP => ?_) ?_
                rotate_left
                · (clear hP hM; go_simp; first | done | rfl)
                refine reg_value (fun g => by go_simp) ?_ (fun g w' vs hM hE hP => ?_) ?_
                rotate_left
                · (clear hP hM; have ⟨z0, z1⟩ := cs_e2 hE HFCT.out; go_simp; first | done | rfl)
                refine reg_value (fun g => by go_simp) ?_ (fun g w' vs hM hE hP => ?_) ?_
                rotate_left
                · (clear hP hM; go_simp; first | done | rfl)
                refine reg_value (fun g => by go_simp) ?_ (fun g w' vs hM hE hP => ?_) ?_
                rotate_left
                · (clear hP hM; go_simp; first | done | rfl)
                refine reg_value (fun g => by go_simp) ?_ (fun g w' vs hM hE hP => ?_) ?_
                rotate_left
                · (clear hP hM; go_simp; first | done | rfl)
                refine reg_value (fun g => by go_simp) ?_ (fun g w' vs hM hE hP => ?_) ?_
                rotate_left
                · (clear hP hM; have ⟨z0, z1⟩ := cs_e2 hE HFCT.out; go_simp; first | done | rfl)
                refine reg_value (fun g => by go_simp) ?_ (fun g w' vs hM hE hP => ?_) ?_
                rotate_left
                · (clear hP hM; go_simp; first | done | rfl)
                refine reg_value (fun _ => rfl) ?_ (fun g w' vs hM hE hP => ?_) ?_
                rotate_left
                · (clear hP hM; go_simp; first | done | rfl)
                intro g w3 hE3 hF hQ
                simp only [List.drop_succ_cons, List.drop_zero, Act.put, List.setIfInBounds_toArray, List.set_cons_succ, List.set_cons_zero]
                have HE3 := Lib.hid (HEi.out.trans hE3)
                clear hE3 hF hQ
                rw [← hq]
                clear hq
                go_wp2_with fail
                go_roundw
                case rel => exact ⟨i + 1, q, rfl, by go_num, by omega, Lib.hid HQ1.out.symm, HE3⟩
                case measure => simp [intOf]; omega
            · have HZF : Hid (z = X.any (fun x => decide (y < x))) := Lib.hid (by rw [HZ.out, List.take_of_length_le (by omega)])
              have HE3 := Lib.hid (HEr.out.trans HEi.out)
              clear y0
              cases z with
              | true =>
                go_wp2_with fail
                go_roundw
                case rel => exact ⟨j + 1, by go_num, by omega, Lib.hid (by rw [HJ2.out, HJ.out, ← HZF.out]; rfl), HE3⟩
                case measure => simp [intOf]; omega
              | false =>
                have HVN : Hid (V = -1) := Lib.hid (HJN.out HZF.out.symm)
                go_wp2_with fail
                go_ret
                exact ⟨by rw [HVN.out]; rfl, HE.out.trans HE3.out⟩
         · have HV1 : Hid (V = 1) := Lib.hid (by
            have := HJ.out
            rw [List.take_of_length_le (by omega)] at this
            rw [HV0.out, if_pos this])
           go_wp2_with fail
           go_ret
           exact ⟨by rw [HV1.out]; rfl, HE.out.trans HEr.out⟩
end Go.Proofs.YtkobikdkbpdjeaaDoor
