/- Sorting one element; Equal; Prove. -/
import Derived.Test.YthoelnoahfedmaaS12
namespace Go.Proofs.Ythoelnoahfedmaa
open Go Go.RowKit
set_option linter.unusedVariables false
set_option linter.unusedSimpArgs false

theorem ins_none (v f : Value) (w : World) : Calls Try.prog 83 #[v, .int .i64 0, .int .i64 1, f] w fun e w' => e = .returned (.tuple #[]) ∧ w = w' := by
  go_enter Try.func83, Try.ntmps83
  go_wp2_with fail
  go_loop [8] (fun i => i = .int .i64 1) (fun _ => 0)
  case atStart => rfl
  case round =>
    subst hrel
    go_wp2_with fail
    go_end0
    exact ⟨rfl, rfl⟩
set_option maxRecDepth 100000 in
set_option maxHeartbeats 1000000 in
theorem len64_one (w : World) : Calls Try.prog 92 #[.int .u64 1] w fun e w' => e = .returned (.int .i64 1) ∧ w = w' := by
  go_enter Try.func92, Try.ntmps92
  go_wp2_with fail
  go_ret
  exact ⟨by kernel_rfl, rfl⟩
theorem len_one (w : World) : Calls Try.prog 74 #[.int .u64 1] w fun e w' => e = .returned (.int .i64 1) ∧ w = w' := by
  go_enter Try.func74, Try.ntmps74
  go_wp2_with (go_at_call 92; refine (len64_one _).mono ?_; rintro e w' ⟨rfl, rfl⟩)
  go_ret
  exact ⟨rfl, rfl⟩
set_option maxRecDepth 100000 in
set_option maxHeartbeats 1000000 in
theorem pdq_one (v f : Value) (w : World) : Calls Try.prog 73 #[v, .int .i64 0, .int .i64 1, .int .i64 1, f] w fun e w' => e = .returned (.tuple #[]) ∧ w = w' := by
  go_enter Try.func73, Try.ntmps73
  go_wp2_with fail
  refine wp_loop_rounds 1 ?_
  rw [rounds_succ]
  go_wp2_with (go_at_call 83; refine (ins_none _ _ _).mono ?_; rintro e w' ⟨rfl, rfl⟩)
  exact bodyPost_ret (v := .tuple #[]) (by simp [results, Try.results73, go_sem]) rfl ⟨rfl, rfl⟩
theorem sort_one (a : Option Addr) (cap : Nat) (f : Value) (w : World) : Calls Try.prog 47 #[.slice a 1 cap, f] w fun e w' => e = .returned (.tuple #[]) ∧ w = w' := by
  go_enter Try.func47, Try.ntmps47
  go_wp2_with fail
  refine (len_one _).mono ?_
  rintro e w' ⟨rfl, rfl⟩
  go_wp2_with fail
  refine (pdq_one _ _ _).mono ?_
  rintro e w' ⟨rfl, rfl⟩
  go_wp2_with fail
  go_end0
  exact ⟨rfl, rfl⟩

/-- pairs of a slice -/
def PairsA (w : World) (a : Option Addr) (L : List (Int × Int)) : Prop := ∀ (k : Nat) (x : Int × Int), L[k]? = some x → ∃ b off, a = some ⟨b, off, none⟩ ∧ w.cell? ⟨b, off + k * 2, none⟩ = some (.int .i64 x.1) ∧ w.cell? ⟨b, off + k * 2 + 1, none⟩ = some (.int .i64 x.2)
theorem PairsA.ext {w w' : World} {a : Option Addr} {L : List (Int × Int)} (h : PairsA w a L) (hE : Ext w w') : PairsA w' a L := fun k x hk =>
  let ⟨b, off, ha, h1, h2⟩ := h k x hk
  ⟨b, off, ha, cs_ext hE h1, cs_ext hE h2⟩
theorem PairsA.of_row {w : World} {base : Nat} {v : Value} {L : List (Int × Int)} (h : w.ownsRow base 53 2 v L.length (flatP L)) : ∃ a cap, v = .slice a L.length cap ∧ PairsA w a L := by
  rcases h.2 with ⟨rfl, h0⟩ | ⟨g, cap, cur, rfl, -⟩
  · refine ⟨none, 0, by rw [h0], fun k x hk => ?_⟩
    have := (List.getElem?_eq_some_iff.1 hk).1
    omega
  · refine ⟨_, cap, rfl, fun k x hk => ?_⟩
    obtain ⟨g', c', e, -, -, -, hc⟩ := row2_at (f := encP2) (fun _ => rfl) h hk
    cases e
    exact ⟨g, 0, rfl, by simpa using hc 0 _ rfl, by simpa using hc 1 _ rfl⟩

theorem list_eq_of {L M : List (Int × Int)} (hl : L.length = M.length) (h : ∀ (k : Nat) x y, L[k]? = some x → M[k]? = some y → x = y) : L = M := by
  apply List.ext_getElem hl
  intro k h1 h2
  exact h k _ _ (List.getElem?_eq_getElem h1) (List.getElem?_eq_getElem h2)

set_option maxRecDepth 100000 in
set_option maxHeartbeats 1000000 in
theorem equal_any {w : World} {a b : Option Addr} {L M : List (Int × Int)} {c d : Nat} (hL : PairsA w a L) (hM : PairsA w b M) (hl : L.length ≤ 9223372036854775807) (hm : M.length ≤ 9223372036854775807) :
    Calls Try.prog 28 #[.slice a L.length c, .slice b M.length d] w fun e w' => e = .returned (.bool (decide (L = M))) ∧ Ext w w' := by
  by_cases hne : L.length = M.length
  · have HEQ : Hid (∀ b, (b = decide (L = M)) → b = decide (L = M)) := fun b h => h
    have HNE := Lib.hid hne
    have e1 : ((L.length : Int) != (M.length : Int)) = false := by rw [bne_eq_false_iff_eq]; omega
    have e1' : ((L.length : Int) == (M.length : Int)) = true := by rw [beq_iff_eq]; omega
    clear hne
    go_enter Try.func28, Try.ntmps28
    go_wp2_with fail
    go_loopw [5, 13] (fun _ kv wr => ∃ k : Nat, kv = .int .i64 k ∧ k ≤ L.length ∧ (∀ (k' : Nat) x y, k' < k → L[k']? = some x → M[k']? = some y → x = y) ∧ Ext w wr) (fun _ kv _ => L.length - (intOf kv).toNat)
    case atStart => exact ⟨0, rfl, by omega, fun k' x y h => by omega, (by repeat (first | exact Ext.refl _ | exact Ext.alloc _ _ | apply Ext.then_dr | apply Ext.then_drN | apply Ext.then_drN2 | (refine Ext.then_al ?_ _)))⟩
    case round =>
      obtain ⟨k, rfl, hk, hall, hE⟩ := hrel
      have HALL := Lib.hid hall
      clear hall
      by_cases hlt : k < L.length
      · obtain ⟨⟨x1, x2⟩, hx⟩ : ∃ x, L[k]? = some x := ⟨_, List.getElem?_eq_getElem hlt⟩
        obtain ⟨⟨y1, y2⟩, hy⟩ : ∃ x, M[k]? = some x := ⟨_, List.getElem?_eq_getElem (by rw [← HNE.out]; exact hlt)⟩
        obtain ⟨b1, o1, rfl, c1, c2⟩ := hL k _ hx
        obtain ⟨b2, o2, rfl, d1, d2⟩ := hM k _ hy
        have c1 := cs_ext hE c1
        have c2 := cs_ext hE c2
        have d1 := cs_ext hE d1
        have d2 := cs_ext hE d2
        have hkm : k < M.length := by rw [← HNE.out]; exact hlt
        have HX := Lib.hid hx
        have HY := Lib.hid hy
        have HE := Lib.hid hE
        clear hx hy hE
        by_cases h1 : x1 = y1
        · subst h1
          by_cases h2 : x2 = y2
          · subst h2
            go_wp2_with fail
            refine wp_region_reg 9 false (by kernel_rfl) (by kernel_rfl) ?_
            refine reg_value (fun _ => rfl) ?_ (fun g w' vs hM hE hP => ?_) ?_
            rotate_left
            · (clear hP hM; have zz0 := cs_ext hE c1; have zz1 := cs_ext hE c2; have zz2 := cs_ext hE d1; have zz3 := cs_ext hE d2; go_simp; first | done | rfl)
            refine reg_value (fun _ => rfl) ?_ (fun g w' vs hM hE hP => ?_) ?_
            rotate_left
            · (clear hP hM; have zz0 := cs_ext hE c1; have zz1 := cs_ext hE c2; have zz2 := cs_ext hE d1; have zz3 := cs_ext hE d2; go_simp; first | done | rfl)
            refine reg_value (fun _ => rfl) ?_ (fun g w' vs hM hE hP => ?_) ?_
            rotate_left
            · (clear hP hM; have zz0 := cs_ext hE c1; have zz1 := cs_ext hE c2; have zz2 := cs_ext hE d1; have zz3 := cs_ext hE d2; go_simp; first | done | rfl)
            refine reg_value (fun _ => rfl) ?_ (fun g w' vs hM hE hP => ?_) ?_
            rotate_left
            · (clear hP hM; have zz0 := cs_ext hE c1; have zz1 := cs_ext hE c2; have zz2 := cs_ext hE d1; have zz3 := cs_ext hE d2; go_simp; first | done | rfl)
            refine reg_value (fun _ => rfl) ?_ (fun g w' vs hM hE hP => ?_) ?_
            rotate_left
            · (clear hP hM; have zz0 := cs_ext hE c1; have zz1 := cs_ext hE c2; have zz2 := cs_ext hE d1; have zz3 := cs_ext hE d2; go_simp; first | done | rfl)
            refine reg_value (fun _ => rfl) ?_ (fun g w' vs hM hE hP => ?_) ?_
            rotate_left
            · (clear hP hM; have zz0 := cs_ext hE c1; have zz1 := cs_ext hE c2; have zz2 := cs_ext hE d1; have zz3 := cs_ext hE d2; go_simp; first | done | rfl)
            refine reg_value (fun _ => rfl) ?_ (fun g w' vs hM hE hP => ?_) ?_
            rotate_left
            · (clear hP hM; have zz0 := cs_ext hE c1; have zz1 := cs_ext hE c2; have zz2 := cs_ext hE d1; have zz3 := cs_ext hE d2; go_simp; first | done | rfl)
            refine reg_value (fun _ => rfl) ?_ (fun g w' vs hM hE hP => ?_) ?_
            rotate_left
            · (clear hP hM; have zz0 := cs_ext hE c1; have zz1 := cs_ext hE c2; have zz2 := cs_ext hE d1; have zz3 := cs_ext hE d2; go_simp; first | done | rfl)
            refine reg_value (fun _ => rfl) ?_ (fun g w' vs hM hE hP => ?_) ?_
            rotate_left
            · (clear hP hM; have zz0 := cs_ext hE c1; have zz1 := cs_ext hE c2; have zz2 := cs_ext hE d1; have zz3 := cs_ext hE d2; go_simp; first | done | rfl)
            intro g wz hE2 hF hQ
            simp only [List.drop_succ_cons, List.drop_zero, Act.put, List.setIfInBounds_toArray, List.set_cons_succ, List.set_cons_zero]
            clear hF hQ c1 c2 d1 d2
            have HE2 := Lib.hid (HE.out.trans hE2)
            clear hE2
            go_wp2_with fail
            go_roundw
            case rel => exact ⟨k + 1, by go_num, by omega, fun k' x y h hx hy => by
              rcases Nat.lt_or_ge k' k with h' | h'
              · exact HALL.out k' x y h' hx hy
              · have : k' = k := by omega
                subst this
                rw [HX.out] at hx; rw [HY.out] at hy; cases hx; cases hy; rfl, HE2.out⟩
            case measure => simp [intOf]; omega
          · have HR : Hid (decide (L = M) = false) := Lib.hid (by
              rw [decide_eq_false_iff_not]
              rintro rfl
              have h3 := HY.out
              rw [HX.out] at h3
              simp at h3
              exact h2 h3)
            go_wp2_with fail
            refine wp_region_reg 9 false (by kernel_rfl) (by kernel_rfl) ?_
            refine reg_value (fun _ => rfl) ?_ (fun g w' vs hM hE hP => ?_) ?_
            rotate_left
            · (clear hP hM; have zz0 := cs_ext hE c1; have zz1 := cs_ext hE c2; have zz2 := cs_ext hE d1; have zz3 := cs_ext hE d2; go_simp; first | done | rfl)
            refine reg_value (fun _ => rfl) ?_ (fun g w' vs hM hE hP => ?_) ?_
            rotate_left
            · (clear hP hM; have zz0 := cs_ext hE c1; have zz1 := cs_ext hE c2; have zz2 := cs_ext hE d1; have zz3 := cs_ext hE d2; go_simp; first | done | rfl)
            refine reg_value (fun _ => rfl) ?_ (fun g w' vs hM hE hP => ?_) ?_
            rotate_left
            · (clear hP hM; have zz0 := cs_ext hE c1; have zz1 := cs_ext hE c2; have zz2 := cs_ext hE d1; have zz3 := cs_ext hE d2; go_simp; first | done | rfl)
            refine reg_value (fun _ => rfl) ?_ (fun g w' vs hM hE hP => ?_) ?_
            rotate_left
            · (clear hP hM; have zz0 := cs_ext hE c1; have zz1 := cs_ext hE c2; have zz2 := cs_ext hE d1; have zz3 := cs_ext hE d2; go_simp; first | done | rfl)
            refine reg_value (fun _ => rfl) ?_ (fun g w' vs hM hE hP => ?_) ?_
            rotate_left
            · (clear hP hM; have zz0 := cs_ext hE c1; have zz1 := cs_ext hE c2; have zz2 := cs_ext hE d1; have zz3 := cs_ext hE d2; go_simp; first | done | rfl)
            refine reg_value (fun _ => rfl) ?_ (fun g w' vs hM hE hP => ?_) ?_
            rotate_left
            · (clear hP hM; have zz0 := cs_ext hE c1; have zz1 := cs_ext hE c2; have zz2 := cs_ext hE d1; have zz3 := cs_ext hE d2; go_simp; first | done | rfl)
            refine reg_value (fun _ => rfl) ?_ (fun g w' vs hM hE hP => ?_) ?_
            rotate_left
            · (clear hP hM; have zz0 := cs_ext hE c1; have zz1 := cs_ext hE c2; have zz2 := cs_ext hE d1; have zz3 := cs_ext hE d2; go_simp; first | done | rfl)
            refine reg_value (fun _ => rfl) ?_ (fun g w' vs hM hE hP => ?_) ?_
            rotate_left
            · (clear hP hM; have zz0 := cs_ext hE c1; have zz1 := cs_ext hE c2; have zz2 := cs_ext hE d1; have zz3 := cs_ext hE d2; go_simp; first | done | rfl)
            refine reg_value (fun _ => rfl) ?_ (fun g w' vs hM hE hP => ?_) ?_
            rotate_left
            · (clear hP hM; have zz0 := cs_ext hE c1; have zz1 := cs_ext hE c2; have zz2 := cs_ext hE d1; have zz3 := cs_ext hE d2; go_simp; first | done | rfl)
            intro g wz hE2 hF hQ
            simp only [List.drop_succ_cons, List.drop_zero, Act.put, List.setIfInBounds_toArray, List.set_cons_succ, List.set_cons_zero]
            clear hF hQ c1 c2 d1 d2
            have HE2 := Lib.hid (HE.out.trans hE2)
            clear hE2
            go_wp2_with fail
            go_ret
            exact ⟨rb HR.out.symm, HE2.out⟩
        · have HR : Hid (decide (L = M) = false) := Lib.hid (by
            rw [decide_eq_false_iff_not]
            rintro rfl
            have h3 := HY.out
            rw [HX.out] at h3
            simp at h3
            exact h1 h3.1)
          go_wp2_with fail
          refine wp_region_reg 9 false (by kernel_rfl) (by kernel_rfl) ?_
          refine reg_value (fun _ => rfl) ?_ (fun g w' vs hM hE hP => ?_) ?_
          rotate_left
          · (clear hP hM; have zz0 := cs_ext hE c1; have zz1 := cs_ext hE c2; have zz2 := cs_ext hE d1; have zz3 := cs_ext hE d2; go_simp; first | done | rfl)
          refine reg_value (fun _ => rfl) ?_ (fun g w' vs hM hE hP => ?_) ?_
          rotate_left
          · (clear hP hM; have zz0 := cs_ext hE c1; have zz1 := cs_ext hE c2; have zz2 := cs_ext hE d1; have zz3 := cs_ext hE d2; go_simp; first | done | rfl)
          refine reg_value (fun _ => rfl) ?_ (fun g w' vs hM hE hP => ?_) ?_
          rotate_left
          · (clear hP hM; have zz0 := cs_ext hE c1; have zz1 := cs_ext hE c2; have zz2 := cs_ext hE d1; have zz3 := cs_ext hE d2; go_simp; first | done | rfl)
          refine reg_value (fun _ => rfl) ?_ (fun g w' vs hM hE hP => ?_) ?_
          rotate_left
          · (clear hP hM; have zz0 := cs_ext hE c1; have zz1 := cs_ext hE c2; have zz2 := cs_ext hE d1; have zz3 := cs_ext hE d2; go_simp; first | done | rfl)
          refine reg_value (fun _ => rfl) ?_ (fun g w' vs hM hE hP => ?_) ?_
          rotate_left
          · (clear hP hM; have zz0 := cs_ext hE c1; have zz1 := cs_ext hE c2; have zz2 := cs_ext hE d1; have zz3 := cs_ext hE d2; go_simp; first | done | rfl)
          refine reg_value (fun _ => rfl) ?_ (fun g w' vs hM hE hP => ?_) ?_
          rotate_left
          · (clear hP hM; have zz0 := cs_ext hE c1; have zz1 := cs_ext hE c2; have zz2 := cs_ext hE d1; have zz3 := cs_ext hE d2; go_simp; first | done | rfl)
          refine reg_value (fun _ => rfl) ?_ (fun g w' vs hM hE hP => ?_) ?_
          rotate_left
          · (clear hP hM; have zz0 := cs_ext hE c1; have zz1 := cs_ext hE c2; have zz2 := cs_ext hE d1; have zz3 := cs_ext hE d2; go_simp; first | done | rfl)
          refine reg_value (fun _ => rfl) ?_ (fun g w' vs hM hE hP => ?_) ?_
          rotate_left
          · (clear hP hM; have zz0 := cs_ext hE c1; have zz1 := cs_ext hE c2; have zz2 := cs_ext hE d1; have zz3 := cs_ext hE d2; go_simp; first | done | rfl)
          refine reg_value (fun _ => rfl) ?_ (fun g w' vs hM hE hP => ?_) ?_
          rotate_left
          · (clear hP hM; have zz0 := cs_ext hE c1; have zz1 := cs_ext hE c2; have zz2 := cs_ext hE d1; have zz3 := cs_ext hE d2; go_simp; first | done | rfl)
          intro g wz hE2 hF hQ
          simp only [List.drop_succ_cons, List.drop_zero, Act.put, List.setIfInBounds_toArray, List.set_cons_succ, List.set_cons_zero]
          clear hF hQ c1 c2 d1 d2
          have HE2 := Lib.hid (HE.out.trans hE2)
          clear hE2
          go_wp2_with fail
          go_ret
          exact ⟨rb HR.out.symm, HE2.out⟩
      · have HR : Hid (decide (L = M) = true) := Lib.hid (by
          rw [decide_eq_true_eq]
          exact list_eq_of HNE.out (fun k' x y h1 h2 => HALL.out k' x y (by have := (List.getElem?_eq_some_iff.1 h1).1; omega) h1 h2))
        have HE := Lib.hid hE
        clear hE
        go_wp2_with fail
        go_ret
        exact ⟨rb HR.out.symm, HE.out⟩
  · have HR : Hid (decide (L = M) = false) := Lib.hid (by rw [decide_eq_false_iff_not]; intro h; exact hne (by rw [h]))
    have e1 : ((L.length : Int) != (M.length : Int)) = true := by rw [bne_iff_ne]; omega
    have e1' : ((L.length : Int) == (M.length : Int)) = false := by rw [beq_eq_false_iff_ne]; omega
    clear hne
    go_enter Try.func28, Try.ntmps28
    go_wp2_with fail
    go_ret
    exact ⟨rb HR.out.symm, (by repeat (first | exact Ext.refl _ | exact Ext.alloc _ _ | apply Ext.then_dr | apply Ext.then_drN | apply Ext.then_drN2 | (refine Ext.then_al ?_ _)))⟩

end Go.Proofs.Ythoelnoahfedmaa
