/- Contracts: BinarySearchFunc on ascending terms; the closure of CheckRefute. Contracts: the program's CheckRefute. Contracts: the reference's CheckRefute. -/
import Derived.Test.YtckgjebcehbkfaaG6
import Derived.Test.YtckgjebcehbkfaaG5
import Derived.Test.YtckgjebcehbkfaaG7
import Derived.Test.YtckgjebcehbkfaaG4
namespace Go.Proofs.Ytckgjebcehbkfaa
open Go Go.RowKit
set_option linter.unusedVariables false
set_option linter.unusedSimpArgs false

theorem cmp_lt {x y : Tm} : cmpT x y < 0 ↔ ltT x y := Iff.rfl
theorem asc_get {L : List Tm} (h : Asc L) {i j : Nat} {x y : Tm} (hi : L[i]? = some x) (hj : L[j]? = some y) (hij : i < j) : ltT x y := by
  obtain ⟨h1, rfl⟩ := List.getElem?_eq_some_iff.1 hi
  obtain ⟨h2, rfl⟩ := List.getElem?_eq_some_iff.1 hj
  exact List.pairwise_iff_getElem.1 h i j h1 h2 hij

set_option maxRecDepth 100000 in
set_option maxHeartbeats 2000000 in
theorem search_any {w : World} {S S' : Nat → Prop} {a a' : Option Addr} {cap cap' : Nat} {L : List Tm} {p : Tm} (hL6 : ∀ x ∈ L, sizeT x ≤ 1000000) (hp6 : sizeT p ≤ 1000000) (hll : L.length ≤ 1000000) (hs : Asc L) (hA : LsT w S (.slice a L.length cap) L) (hT : TmW w S' a' cap' p) :
    Calls Try.prog 47 #[.slice a L.length cap, .agg #[.int .i64 p.kind, .string p.name, .int .i64 p.sort, .slice a' p.kids.length cap'], .func (.func 45) #[] #[]] w fun e w' => ∃ i : Nat, e = .returned (.tuple #[.int .i64 i, .bool (decide (p ∈ L))]) ∧ Ext w w' ∧ (p ∈ L → L[i]? = some p) := by
  obtain ⟨-, hl, hc⟩ := hA.len
  have hl' := hT.len
  have hc' := hT.cap
  unfold maxLen at hc hc'
  obtain ⟨bx, hbx⟩ : ∃ bx, bx = w.heap.size := ⟨_, rfl⟩
  obtain ⟨w1, hw1⟩ : ∃ w1, w1 = w.alloc (.cells #[.int .i64 p.kind, .string p.name, .int .i64 p.sort, .slice a' p.kids.length cap'] 24) := ⟨_, rfl⟩
  have b0 : w1.cell? ⟨bx, 0, none⟩ = some (.int .i64 p.kind) := by rw [hw1, hbx]; exact cs_new rfl
  have b1 : w1.cell? ⟨bx, 1, none⟩ = some (.string p.name) := by rw [hw1, hbx]; exact cs_new rfl
  have b2 : w1.cell? ⟨bx, 2, none⟩ = some (.int .i64 p.sort) := by rw [hw1, hbx]; exact cs_new rfl
  have b3 : w1.cell? ⟨bx, 3, none⟩ = some (.slice a' p.kids.length cap') := by rw [hw1, hbx]; exact cs_new rfl
  have HE1 : Hid (Ext w w1) := Lib.hid (by rw [hw1]; exact Ext.alloc w _)
  have HA := Lib.hid (hA.ts.ext HE1.out)
  have HT := Lib.hid (hT.ext HE1.out)
  have HL6 := Lib.hid hL6
  have HS := Lib.hid hs
  have B0 := Lib.hid b0
  have B1 := Lib.hid b1
  have B2 := Lib.hid b2
  have B3 := Lib.hid b3
  clear hA hT hL6 hs b0 b1 b2 b3
  go_enter Try.func47, Try.ntmps47
  go_upto_region 1 with fail
  rw [← hw1, ← hbx]
  clear hw1 hbx
  go_wp2_with fail
  go_loopw [9, 10, 11] (fun iv jv _ wr => ∃ i j : Nat, iv = .int .i64 i ∧ jv = .int .i64 j ∧ i ≤ j ∧ j ≤ L.length ∧ (∀ (k : Nat) x, k < i → L[k]? = some x → ltT x p) ∧ (∀ (k : Nat) x, j ≤ k → L[k]? = some x → ¬ ltT x p) ∧ Ext w1 wr) (fun iv jv _ _ => (intOf jv).toNat - (intOf iv).toNat)
  case atStart => exact ⟨0, L.length, rfl, rfl, by omega, by omega, fun k x h => by omega, fun k x h hx => by have := (List.getElem?_eq_some_iff.1 hx).1; omega, Ext.refl _⟩
  case round =>
    obtain ⟨i, j, rfl, rfl, hij, hj, hlo, hhi, hE⟩ := hrel
    have HLO := Lib.hid hlo
    have HHI := Lib.hid hhi
    have HE := Lib.hid hE
    have b0 := cs_ext hE B0.out
    have b1 := cs_ext hE B1.out
    have b2 := cs_ext hE B2.out
    have b3 := cs_ext hE B3.out
    clear hlo hhi hE
    by_cases hlt : i < j
    · obtain ⟨h, hh⟩ : ∃ h : Nat, h = (i + j) / 2 := ⟨_, rfl⟩
      have hhl : h < L.length := by omega
      have hhi2 : ((i : Int) + (j : Int)) / 2 = (h : Int) := by omega
      have hih : i ≤ h ∧ h < j := by omega
      obtain ⟨x, hx⟩ : ∃ x, L[h]? = some x := ⟨_, List.getElem?_eq_getElem hhl⟩
      obtain ⟨xb, xo, xa, xc, rfl, x0, x1, x2, x3, hTx⟩ := (HA.out.ext HE.out).at hx
      have hcon := fun (w' : World) (hE : Ext wr w') => PCmp_any (w := w') (HL6.out x (List.mem_of_getElem? hx)) hp6 (hTx.ext hE) ((HT.out.ext HE.out).ext hE)
      obtain ⟨o, ho⟩ : ∃ o, o = cmpT x p := ⟨_, rfl⟩
      rw [← ho] at hcon
      have HX := Lib.hid hx
      have HO := Lib.hid ho
      have HCON := Lib.hid hcon
      have HHI2 := Lib.hid hhi2
      clear hx ho hcon hh hhi2 hTx
      go_wp2_with fail
      rw [HHI2.out]
      refine wp_region_reg 8 false (by kernel_rfl) (by kernel_rfl) ?_
      refine reg_value (fun _ => rfl) ?_ (fun g w' vs hM hE hP => ?_) ?_
      rotate_left
      · (clear hP hM; have zz0 := cs_ext hE b0; have zz1 := cs_ext hE b1; have zz2 := cs_ext hE b2; have zz3 := cs_ext hE b3; have zz4 := cs_ext hE x0; have zz5 := cs_ext hE x1; have zz6 := cs_ext hE x2; have zz7 := cs_ext hE x3; go_simp; first | done | rfl)
      refine reg_value (fun _ => rfl) ?_ (fun g w' vs hM hE hP => ?_) ?_
      rotate_left
      · (clear hP hM; have zz0 := cs_ext hE b0; have zz1 := cs_ext hE b1; have zz2 := cs_ext hE b2; have zz3 := cs_ext hE b3; have zz4 := cs_ext hE x0; have zz5 := cs_ext hE x1; have zz6 := cs_ext hE x2; have zz7 := cs_ext hE x3; go_simp; first | done | rfl)
      refine reg_value (fun _ => rfl) ?_ (fun g w' vs hM hE hP => ?_) ?_
      rotate_left
      · (clear hP hM; have zz0 := cs_ext hE b0; have zz1 := cs_ext hE b1; have zz2 := cs_ext hE b2; have zz3 := cs_ext hE b3; have zz4 := cs_ext hE x0; have zz5 := cs_ext hE x1; have zz6 := cs_ext hE x2; have zz7 := cs_ext hE x3; go_simp; first | done | rfl)
      refine reg_value (fun _ => rfl) ?_ (fun g w' vs hM hE hP => ?_) ?_
      rotate_left
      · (clear hP hM; have zz0 := cs_ext hE b0; have zz1 := cs_ext hE b1; have zz2 := cs_ext hE b2; have zz3 := cs_ext hE b3; have zz4 := cs_ext hE x0; have zz5 := cs_ext hE x1; have zz6 := cs_ext hE x2; have zz7 := cs_ext hE x3; go_simp; first | done | rfl)
      refine reg_value (fun _ => rfl) ?_ (fun g w' vs hM hE hP => ?_) ?_
      rotate_left
      · (clear hP hM; have zz0 := cs_ext hE b0; have zz1 := cs_ext hE b1; have zz2 := cs_ext hE b2; have zz3 := cs_ext hE b3; have zz4 := cs_ext hE x0; have zz5 := cs_ext hE x1; have zz6 := cs_ext hE x2; have zz7 := cs_ext hE x3; go_simp; first | done | rfl)
      refine reg_value (fun _ => rfl) ?_ (fun g w' vs hM hE hP => ?_) ?_
      rotate_left
      · (clear hP hM; have zz0 := cs_ext hE b0; have zz1 := cs_ext hE b1; have zz2 := cs_ext hE b2; have zz3 := cs_ext hE b3; have zz4 := cs_ext hE x0; have zz5 := cs_ext hE x1; have zz6 := cs_ext hE x2; have zz7 := cs_ext hE x3; go_simp; first | done | rfl)
      refine reg_const (fun _ => rfl) 45 ?_ (fun g w' vs hM hE hP => ?_) ?_
      rotate_left
      · (clear hP hM; have zz0 := cs_ext hE b0; have zz1 := cs_ext hE b1; have zz2 := cs_ext hE b2; have zz3 := cs_ext hE b3; have zz4 := cs_ext hE x0; have zz5 := cs_ext hE x1; have zz6 := cs_ext hE x2; have zz7 := cs_ext hE x3; go_simp; first | done | exact ⟨rfl, rfl⟩ | rfl)
      apply Exists.intro
      refine And.intro (fun g w' vs hM hE hP => ?_) ?_
      · exact HCON.out _ hE
      refine reg_value (fun _ => rfl) ?_ (fun g w' vs hM hE hP => ?_) ?_
      rotate_left
      · (clear hP hM; have zz0 := cs_ext hE b0; have zz1 := cs_ext hE b1; have zz2 := cs_ext hE b2; have zz3 := cs_ext hE b3; have zz4 := cs_ext hE x0; have zz5 := cs_ext hE x1; have zz6 := cs_ext hE x2; have zz7 := cs_ext hE x3; go_simp; first | done | rfl)
      intro g wz hE2 hF hQ
      simp only [List.drop_succ_cons, List.drop_zero, Act.put, List.setIfInBounds_toArray, List.set_cons_succ, List.set_cons_zero]
      clear hF hQ x0 x1 x2 x3 b0 b1 b2 b3
      have HE2 := Lib.hid (HE.out.trans hE2)
      clear hE2
      by_cases hneg : o < 0
      · have e1 : decide (o < 0) = true := decide_eq_true hneg
        have HLT : Hid (ltT x p) := Lib.hid (by unfold ltT; rw [← HO.out]; exact hneg)
        go_wp2_with fail
        go_roundw
        case rel => exact ⟨h + 1, j, by go_num, rfl, by omega, by omega, fun k y hk hy => by
          rcases Nat.lt_or_ge k h with h' | h'
          · exact ltT_trans (asc_get HS.out hy HX.out h') HLT.out
          · have : k = h := by omega
            subst this
            rw [HX.out] at hy; cases hy; exact HLT.out, HHI.out, HE2.out⟩
        case measure => simp [intOf]; omega
      · have e1 : decide (o < 0) = false := decide_eq_false hneg
        have HGE : Hid (¬ ltT x p) := Lib.hid (fun h' => hneg (by rw [HO.out]; exact h'))
        go_wp2_with fail
        go_roundw
        case rel => exact ⟨i, h, rfl, rfl, by omega, by omega, HLO.out, fun k y hk hy hlt' => by
          rcases Nat.lt_or_ge h k with h' | h'
          · exact HGE.out (ltT_trans (asc_get HS.out HX.out hy h') hlt')
          · have : k = h := by omega
            subst this
            rw [HX.out] at hy; cases hy; exact HGE.out hlt', HE2.out⟩
        case measure => simp [intOf]; omega
    · have hije : j = i := by omega
      subst hije
      have HAT : Hid (∀ k, L[k]? = some p → k = j) := Lib.hid (fun k hk => by
        rcases Nat.lt_trichotomy k j with h | h | h
        · exact absurd (HLO.out k p h hk) ltT_irrefl
        · exact h
        · obtain ⟨y, hy⟩ : ∃ y, L[j]? = some y := ⟨_, List.getElem?_eq_getElem (by have := (List.getElem?_eq_some_iff.1 hk).1; omega)⟩
          exact absurd (asc_get HS.out hy hk h) (HHI.out j y (Nat.le_refl _) hy))
      have HIX : Hid (p ∈ L → L[j]? = some p) := Lib.hid (fun hp => by
        obtain ⟨k, hk⟩ := List.mem_iff_getElem?.1 hp
        have := HAT.out k hk
        subst this
        exact hk)
      by_cases hil : j < L.length
      · obtain ⟨x, hx⟩ : ∃ x, L[j]? = some x := ⟨_, List.getElem?_eq_getElem hil⟩
        obtain ⟨xb, xo, xa, xc, rfl, x0, x1, x2, x3, hTx⟩ := (HA.out.ext HE.out).at hx
        have hcon := fun (w' : World) (hE : Ext wr w') => PCmp_any (w := w') (HL6.out x (List.mem_of_getElem? hx)) hp6 (hTx.ext hE) ((HT.out.ext HE.out).ext hE)
        obtain ⟨o, ho⟩ : ∃ o, o = cmpT x p := ⟨_, rfl⟩
        rw [← ho] at hcon
        have HX := Lib.hid hx
        have HO := Lib.hid ho
        have HCON := Lib.hid hcon
        have HR : Hid ((o == 0) = decide (p ∈ L)) := Lib.hid (by
          rw [Bool.eq_iff_iff, beq_iff_eq, decide_eq_true_eq, HO.out, cmpT_zero]
          constructor
          · rintro rfl; exact List.mem_of_getElem? HX.out
          · intro hp
            have := HIX.out hp
            rw [HX.out] at this
            exact Option.some.inj this)
        have hilz : (j : Int) < (L.length : Int) := by omega
        have e1 : decide ((j : Int) < (L.length : Int)) = true := decide_eq_true hilz
        clear hx ho hcon hTx
        go_wp2_with fail
        refine wp_region_reg 16 false (by kernel_rfl) (by kernel_rfl) ?_
        refine reg_value (fun _ => rfl) ?_ (fun g w' vs hM hE hP => ?_) ?_
        rotate_left
        · (clear hP hM; have zz0 := cs_ext hE b0; have zz1 := cs_ext hE b1; have zz2 := cs_ext hE b2; have zz3 := cs_ext hE b3; have zz4 := cs_ext hE x0; have zz5 := cs_ext hE x1; have zz6 := cs_ext hE x2; have zz7 := cs_ext hE x3; go_simp; first | done | rfl)
        refine reg_value (fun _ => rfl) ?_ (fun g w' vs hM hE hP => ?_) ?_
        rotate_left
        · (clear hP hM; have zz0 := cs_ext hE b0; have zz1 := cs_ext hE b1; have zz2 := cs_ext hE b2; have zz3 := cs_ext hE b3; have zz4 := cs_ext hE x0; have zz5 := cs_ext hE x1; have zz6 := cs_ext hE x2; have zz7 := cs_ext hE x3; go_simp; first | done | rfl)
        refine reg_value (fun _ => rfl) ?_ (fun g w' vs hM hE hP => ?_) ?_
        rotate_left
        · (clear hP hM; have zz0 := cs_ext hE b0; have zz1 := cs_ext hE b1; have zz2 := cs_ext hE b2; have zz3 := cs_ext hE b3; have zz4 := cs_ext hE x0; have zz5 := cs_ext hE x1; have zz6 := cs_ext hE x2; have zz7 := cs_ext hE x3; go_simp; first | done | rfl)
        refine reg_value (fun _ => rfl) ?_ (fun g w' vs hM hE hP => ?_) ?_
        rotate_left
        · (clear hP hM; have zz0 := cs_ext hE b0; have zz1 := cs_ext hE b1; have zz2 := cs_ext hE b2; have zz3 := cs_ext hE b3; have zz4 := cs_ext hE x0; have zz5 := cs_ext hE x1; have zz6 := cs_ext hE x2; have zz7 := cs_ext hE x3; go_simp; first | done | rfl)
        refine reg_value (fun _ => rfl) ?_ (fun g w' vs hM hE hP => ?_) ?_
        rotate_left
        · (clear hP hM; have zz0 := cs_ext hE b0; have zz1 := cs_ext hE b1; have zz2 := cs_ext hE b2; have zz3 := cs_ext hE b3; have zz4 := cs_ext hE x0; have zz5 := cs_ext hE x1; have zz6 := cs_ext hE x2; have zz7 := cs_ext hE x3; go_simp; first | done | rfl)
        refine reg_value (fun g => by go_simp) ?_ (fun g w' vs hM hE hP => ?_) ?_
        rotate_left
        · (clear hP hM; have zz0 := cs_ext hE b0; have zz1 := cs_ext hE b1; have zz2 := cs_ext hE b2; have zz3 := cs_ext hE b3; have zz4 := cs_ext hE x0; have zz5 := cs_ext hE x1; have zz6 := cs_ext hE x2; have zz7 := cs_ext hE x3; go_simp; first | done | rfl)
        refine reg_value (fun g => by go_simp) ?_ (fun g w' vs hM hE hP => ?_) ?_
        rotate_left
        · (clear hP hM; have zz0 := cs_ext hE b0; have zz1 := cs_ext hE b1; have zz2 := cs_ext hE b2; have zz3 := cs_ext hE b3; have zz4 := cs_ext hE x0; have zz5 := cs_ext hE x1; have zz6 := cs_ext hE x2; have zz7 := cs_ext hE x3; go_simp; first | done | rfl)
        refine reg_value (fun g => by go_simp) ?_ (fun g w' vs hM hE hP => ?_) ?_
        rotate_left
        · (clear hP hM; have zz0 := cs_ext hE b0; have zz1 := cs_ext hE b1; have zz2 := cs_ext hE b2; have zz3 := cs_ext hE b3; have zz4 := cs_ext hE x0; have zz5 := cs_ext hE x1; have zz6 := cs_ext hE x2; have zz7 := cs_ext hE x3; go_simp; first | done | rfl)
        refine reg_value (fun g => by go_simp) ?_ (fun g w' vs hM hE hP => ?_) ?_
        rotate_left
        · (clear hP hM; have zz0 := cs_ext hE b0; have zz1 := cs_ext hE b1; have zz2 := cs_ext hE b2; have zz3 := cs_ext hE b3; have zz4 := cs_ext hE x0; have zz5 := cs_ext hE x1; have zz6 := cs_ext hE x2; have zz7 := cs_ext hE x3; go_simp; first | done | rfl)
        refine reg_value (fun g => by go_simp) ?_ (fun g w' vs hM hE hP => ?_) ?_
        rotate_left
        · (clear hP hM; have zz0 := cs_ext hE b0; have zz1 := cs_ext hE b1; have zz2 := cs_ext hE b2; have zz3 := cs_ext hE b3; have zz4 := cs_ext hE x0; have zz5 := cs_ext hE x1; have zz6 := cs_ext hE x2; have zz7 := cs_ext hE x3; go_simp; first | done | rfl)
        refine reg_value (fun g => by go_simp) ?_ (fun g w' vs hM hE hP => ?_) ?_
        rotate_left
        · (clear hP hM; have zz0 := cs_ext hE b0; have zz1 := cs_ext hE b1; have zz2 := cs_ext hE b2; have zz3 := cs_ext hE b3; have zz4 := cs_ext hE x0; have zz5 := cs_ext hE x1; have zz6 := cs_ext hE x2; have zz7 := cs_ext hE x3; go_simp; first | done | rfl)
        refine reg_const (fun g => by go_simp) 45 ?_ (fun g w' vs hM hE hP => ?_) ?_
        rotate_left
        · (clear hP hM; have zz0 := cs_ext hE b0; have zz1 := cs_ext hE b1; have zz2 := cs_ext hE b2; have zz3 := cs_ext hE b3; have zz4 := cs_ext hE x0; have zz5 := cs_ext hE x1; have zz6 := cs_ext hE x2; have zz7 := cs_ext hE x3; go_simp; first | done | exact ⟨rfl, rfl⟩ | rfl)
        apply Exists.intro
        refine And.intro (fun g w' vs hM hE hP => ?_) ?_
        · exact HCON.out _ hE
        refine reg_value (fun g => by go_simp) ?_ (fun g w' vs hM hE hP => ?_) ?_
        rotate_left
        · (clear hP hM; have zz0 := cs_ext hE b0; have zz1 := cs_ext hE b1; have zz2 := cs_ext hE b2; have zz3 := cs_ext hE b3; have zz4 := cs_ext hE x0; have zz5 := cs_ext hE x1; have zz6 := cs_ext hE x2; have zz7 := cs_ext hE x3; go_simp; first | done | rfl)
        refine reg_value (fun _ => rfl) ?_ (fun g w' vs hM hE hP => ?_) ?_
        rotate_left
        · (clear hP hM; have zz0 := cs_ext hE b0; have zz1 := cs_ext hE b1; have zz2 := cs_ext hE b2; have zz3 := cs_ext hE b3; have zz4 := cs_ext hE x0; have zz5 := cs_ext hE x1; have zz6 := cs_ext hE x2; have zz7 := cs_ext hE x3; go_simp; first | done | rfl)
        refine reg_value (fun _ => rfl) ?_ (fun g w' vs hM hE hP => ?_) ?_
        rotate_left
        · (clear hP hM; have zz0 := cs_ext hE b0; have zz1 := cs_ext hE b1; have zz2 := cs_ext hE b2; have zz3 := cs_ext hE b3; have zz4 := cs_ext hE x0; have zz5 := cs_ext hE x1; have zz6 := cs_ext hE x2; have zz7 := cs_ext hE x3; go_simp; first | done | rfl)
        refine reg_value (fun _ => rfl) ?_ (fun g w' vs hM hE hP => ?_) ?_
        rotate_left
        · (clear hP hM; have zz0 := cs_ext hE b0; have zz1 := cs_ext hE b1; have zz2 := cs_ext hE b2; have zz3 := cs_ext hE b3; have zz4 := cs_ext hE x0; have zz5 := cs_ext hE x1; have zz6 := cs_ext hE x2; have zz7 := cs_ext hE x3; go_simp; first | done | rfl)
        intro g wz hE2 hF hQ
        simp only [List.drop_succ_cons, List.drop_zero, Act.put, List.setIfInBounds_toArray, List.set_cons_succ, List.set_cons_zero]
        clear hF hQ x0 x1 x2 x3 b0 b1 b2 b3
        have HE2 := Lib.hid (HE.out.trans hE2)
        clear hE2
        go_wp2_with fail
        go_ret2
        exact ⟨j, by rw [← HR.out]; rfl, HE1.out.trans HE2.out, HIX.out⟩
      · have HR : Hid (decide (p ∈ L) = false) := Lib.hid (by
          rw [decide_eq_false_iff_not]
          intro hp
          have := HIX.out hp
          have := (List.getElem?_eq_some_iff.1 this).1
          omega)
        have e1 : decide ((j : Int) < (L.length : Int)) = false := decide_eq_false (by omega)
        clear b0 b1 b2 b3
        go_wp2_with fail
        refine wp_region_reg 16 false (by kernel_rfl) (by kernel_rfl) ?_
        refine reg_value (fun _ => rfl) ?_ (fun g w' vs hM hE hP => ?_) ?_
        rotate_left
        · (clear hP hM; go_simp; first | done | rfl)
        refine reg_value (fun _ => rfl) ?_ (fun g w' vs hM hE hP => ?_) ?_
        rotate_left
        · (clear hP hM; go_simp; first | done | rfl)
        refine reg_value (fun _ => rfl) ?_ (fun g w' vs hM hE hP => ?_) ?_
        rotate_left
        · (clear hP hM; go_simp; first | done | rfl)
        refine reg_value (fun _ => rfl) ?_ (fun g w' vs hM hE hP => ?_) ?_
        rotate_left
        · (clear hP hM; go_simp; first | done | rfl)
        refine reg_value (fun _ => rfl) ?_ (fun g w' vs hM hE hP => ?_) ?_
        rotate_left
        · (clear hP hM; go_simp; first | done | rfl)
        refine reg_skip (fun g => by go_simp; first | done | (intro h; cases h) | simp [undef]) ?_
        refine reg_skip (fun g => by go_simp; first | done | (intro h; cases h) | simp [undef]) ?_
        refine reg_skip (fun g => by go_simp; first | done | (intro h; cases h) | simp [undef]) ?_
        refine reg_skip (fun g => by go_simp; first | done | (intro h; cases h) | simp [undef]) ?_
        refine reg_skip (fun g => by go_simp; first | done | (intro h; cases h) | simp [undef]) ?_
        refine reg_skip (fun g => by go_simp; first | done | (intro h; cases h) | simp [undef]) ?_
        refine reg_skip (fun g => by go_simp; first | done | (intro h; cases h) | simp [undef]) ?_
        refine reg_skip (fun g => by go_simp; first | done | (intro h; cases h) | simp [undef]) ?_
        refine reg_value (fun _ => rfl) ?_ (fun g w' vs hM hE hP => ?_) ?_
        rotate_left
        · (clear hP hM; go_simp; first | done | rfl)
        refine reg_value (fun _ => rfl) ?_ (fun g w' vs hM hE hP => ?_) ?_
        rotate_left
        · (clear hP hM; go_simp; first | done | rfl)
        refine reg_value (fun _ => rfl) ?_ (fun g w' vs hM hE hP => ?_) ?_
        rotate_left
        · (clear hP hM; go_simp; first | done | rfl)
        intro g wz hE2 hF hQ
        simp only [List.drop_succ_cons, List.drop_zero, Act.put, List.setIfInBounds_toArray, List.set_cons_succ, List.set_cons_zero]
        clear hF hQ
        have HE2 := Lib.hid (HE.out.trans hE2)
        clear hE2
        go_wp2_with fail
        go_ret2
        exact ⟨j, by rw [HR.out]; rfl, HE1.out.trans HE2.out, HIX.out⟩

/-- how many summands are in a list -/
def cntS (L R : List Tm) : Nat := (L.filter (fun x => decide (x ∈ R))).length
theorem cntS_take {L R : List Tm} {k : Nat} {x : Tm} (h : L[k]? = some x) : cntS (L.take (k + 1)) R = cntS (L.take k) R + (if x ∈ R then 1 else 0) := by
  unfold cntS
  rw [filter_take h, List.length_append]
  by_cases hx : x ∈ R <;> simp [hx]
theorem cntS_le (L R : List Tm) : cntS L R ≤ L.length := List.length_filter_le _ _
def oddS (t : Tm) (R : List Tm) : Bool := decide (cntS (sumT t) R % 2 = 1)

set_option maxRecDepth 100000 in
set_option maxHeartbeats 2000000 in
theorem odd_any {w : World} {S S' : Nat → Prop} {lb : Nat} {a a' : Option Addr} {cap cap' : Nat} {R : List Tm} {t : Tm} (hR6 : ∀ x ∈ R, sizeT x ≤ 1000000) (ht6 : sizeT t ≤ 80000) (hll : R.length ≤ 1000000) (hs : Asc R) (hb : w.heap[lb]? = some (.cells #[.slice a R.length cap] 22)) (hA : LsT w S (.slice a R.length cap) R) (hT : TmW w S' a' cap' t) :
    Calls Try.prog 46 #[.agg #[.int .i64 t.kind, .string t.name, .int .i64 t.sort, .slice a' t.kids.length cap'], .pointer (some ⟨lb, 0, none⟩)] w fun e w' => e = .returned (.bool (oddS t R)) ∧ Ext w w' := by
  have hl' := hT.len
  have hc' := hT.cap
  unfold maxLen at hc'
  obtain ⟨bx, hbx⟩ : ∃ bx, bx = w.heap.size := ⟨_, rfl⟩
  obtain ⟨w1, hw1⟩ : ∃ w1, w1 = w.alloc (.cells #[.int .i64 t.kind, .string t.name, .int .i64 t.sort, .slice a' t.kids.length cap'] 24) := ⟨_, rfl⟩
  have b0 : w1.cell? ⟨bx, 0, none⟩ = some (.int .i64 t.kind) := by rw [hw1, hbx]; exact cs_new rfl
  have b1 : w1.cell? ⟨bx, 1, none⟩ = some (.string t.name) := by rw [hw1, hbx]; exact cs_new rfl
  have b2 : w1.cell? ⟨bx, 2, none⟩ = some (.int .i64 t.sort) := by rw [hw1, hbx]; exact cs_new rfl
  have b3 : w1.cell? ⟨bx, 3, none⟩ = some (.slice a' t.kids.length cap') := by rw [hw1, hbx]; exact cs_new rfl
  have HE1 : Hid (Ext w w1) := Lib.hid (by rw [hw1]; exact Ext.alloc w _)
  have HA := Lib.hid (hA.ext HE1.out)
  have HBB := Lib.hid (hs_ext HE1.out hb)
  have hcon := summands_any 90000 w1 _ a' cap' t (by omega) (Nat.le_refl _) (fun c hc => hc) (hT.ext HE1.out).below
  obtain ⟨Q, hQ⟩ : ∃ Q, Q = sumT t := ⟨_, rfl⟩
  have HQ6 : Hid (∀ y ∈ Q, sizeT y ≤ 1000000) := Lib.hid (fun y hy => by rw [hQ] at hy; have := sumT_size t y hy; omega)
  have hql : Q.length ≤ 80000 := by rw [hQ]; have := sumT_len t; omega
  rw [← hQ] at hcon
  have HR : Hid (oddS t R = decide (cntS Q R % 2 = 1)) := Lib.hid (by rw [oddS, hQ])
  have HCON := Lib.hid hcon
  have HR6 := Lib.hid hR6
  have HS := Lib.hid hs
  clear hA hT hR6 hs hb hcon hQ
  go_enter Try.func46, Try.ntmps46
  go_upto_region 1 with fail
  rw [← hw1, ← hbx]
  clear hw1 hbx
  go_wp2_with fail
  refine HCON.out.mono ?_
  rintro e w2 ⟨u, rfl, hE2, hO2⟩
  obtain ⟨ua, uc, hu, hl1, hl2, hts⟩ := id hO2.ls
  subst hu
  unfold maxLen at hl2
  have HE2 := Lib.hid hE2
  have HTS := Lib.hid hts
  clear hE2 hO2 hts b0 b1 b2 b3
  go_wp2_with fail
  go_loopw [4, 6, 7, 8, 12] (fun nv _ _ _ kv wr => ∃ k c : Nat, kv = .int .i64 k ∧ nv = .int .i64 c ∧ k ≤ Q.length ∧ c = cntS (Q.take k) R ∧ Ext w2 wr) (fun _ _ _ _ kv _ => Q.length - (intOf kv).toNat)
  case atStart => exact ⟨0, 0, rfl, rfl, by omega, by simp [cntS], Ext.refl _⟩
  case round =>
    obtain ⟨k, c, rfl, rfl, hk, hc, hE⟩ := hrel
    have hcl : c ≤ 80000 := by rw [hc]; have := cntS_le (Q.take k) R; rw [List.length_take] at this; omega
    have HC := Lib.hid hc
    have HE := Lib.hid hE
    clear hc hE
    by_cases hlt : k < Q.length
    · obtain ⟨x, hx⟩ : ∃ x, Q[k]? = some x := ⟨_, List.getElem?_eq_getElem hlt⟩
      obtain ⟨xb, xo, xa, xc, rfl, x0, x1, x2, x3, hTx⟩ := (HTS.out.ext HE.out).at hx
      have hEw : Ext w1 (wr.alloc (.cells #[.int .i64 x.kind, .string x.name, .int .i64 x.sort, .slice xa x.kids.length xc] 24)) := (HE2.out.trans HE.out).then_al _
      have hcon := search_any HR6.out (HQ6.out x (List.mem_of_getElem? hx)) hll HS.out (HA.out.ext hEw) (hTx.ext (Ext.alloc wr _))
      have z0 : (wr.alloc (.cells #[.int .i64 x.kind, .string x.name, .int .i64 x.sort, .slice xa x.kids.length xc] 24)).cell? ⟨lb, 0, none⟩ = some (.slice a R.length cap) := by rw [cellc (hs_ext hEw HBB.out)]; rfl
      obtain ⟨o, ho⟩ : ∃ o, o = decide (x ∈ R) := ⟨_, rfl⟩
      rw [← ho] at hcon
      have HCT : Hid (cntS (Q.take (k + 1)) R = c + if o = true then 1 else 0) := Lib.hid (by rw [cntS_take hx, HC.out, ho]; simp)
      have HCON2 := Lib.hid hcon
      clear hx hTx hEw hcon ho
      go_wp2_with fail
      refine HCON2.out.mono ?_
      rintro e w3 ⟨i, rfl, hE3, -⟩
      have HE3 := Lib.hid (HE.out.trans ((Ext.alloc wr _).trans hE3))
      clear hE3 z0
      cases o with
      | true =>
        go_wp2_with fail
        go_roundw
        case rel => exact ⟨k + 1, c + 1, by go_num, by go_num, by omega, by rw [HCT.out]; rfl, HE3.out⟩
        case measure => simp [intOf]; omega
      | false =>
        go_wp2_with fail
        go_roundw
        case rel => exact ⟨k + 1, c, by go_num, rfl, by omega, by rw [HCT.out]; rfl, HE3.out⟩
        case measure => simp [intOf]; omega
    · have HRR : Hid (oddS t R = decide (c % 2 = 1)) := Lib.hid (by rw [HR.out, HC.out, List.take_of_length_le (by omega)])
      go_wp2_with fail
      go_ret
      exact ⟨rb (by rw [HRR.out, Bool.eq_iff_iff]; simp; omega), HE1.out.trans (HE2.out.trans HE.out)⟩

end Go.Proofs.Ytckgjebcehbkfaa

namespace Go.Proofs.Ytckgjebcehbkfaa
open Go Go.RowKit
set_option linter.unusedVariables false
set_option linter.unusedSimpArgs false

set_option maxRecDepth 100000 in
set_option maxHeartbeats 1000000 in
theorem index_odd {w : World} {S S' : Nat → Prop} {lb : Nat} {a a' : Option Addr} {cap cap' : Nat} {L R : List Tm} (hL6 : ∀ x ∈ L, sizeT x ≤ 80000) (hR6 : ∀ x ∈ R, sizeT x ≤ 1000000) (hlr : R.length ≤ 1000000) (hll : L.length ≤ 1000000) (hs : Asc R) (hb : w.heap[lb]? = some (.cells #[.slice a R.length cap] 22)) (hA : LsT w S (.slice a R.length cap) R) (hL : LsT w S' (.slice a' L.length cap') L) :
    Calls Try.prog 74 #[.slice a' L.length cap', .func (.func 46) #[] #[.pointer (some ⟨lb, 0, none⟩)]] w fun e w' => ∃ r : Int, e = .returned (.int .i64 r) ∧ Ext w w' ∧ decide (0 ≤ r) = L.any (fun x => oddS x R) := by
  obtain ⟨-, hl, hc⟩ := hL.len
  unfold maxLen at hc
  have HA := Lib.hid hA
  have HL := Lib.hid hL
  have HB := Lib.hid hb
  have HL6 := Lib.hid hL6
  have HR6 := Lib.hid hR6
  have HS := Lib.hid hs
  clear hA hL hb hL6 hR6 hs
  go_enter Try.func74, Try.ntmps74
  go_wp2_with fail
  go_loopw [5, 8] (fun _ kv wr => ∃ k : Nat, kv = .int .i64 k ∧ k ≤ L.length ∧ (∀ (j : Nat) x, j < k → L[j]? = some x → oddS x R = false) ∧ Ext w wr) (fun _ kv _ => L.length - (intOf kv).toNat)
  case atStart => exact ⟨0, rfl, by omega, fun j x h => by omega, Ext.refl _⟩
  case round =>
    obtain ⟨k, rfl, hk, hall, hE⟩ := hrel
    have HALL := Lib.hid hall
    have HE := Lib.hid hE
    clear hall hE
    by_cases hlt : k < L.length
    · obtain ⟨x, hx⟩ : ∃ x, L[k]? = some x := ⟨_, List.getElem?_eq_getElem hlt⟩
      obtain ⟨xb, xo, xa, xc, rfl, x0, x1, x2, x3, hTx⟩ := (HL.out.ext HE.out).ts.at hx
      have hcon := odd_any HR6.out (HL6.out x (List.mem_of_getElem? hx)) hlr HS.out (hs_ext HE.out HB.out) (HA.out.ext HE.out) hTx
      obtain ⟨o, ho⟩ : ∃ o, o = oddS x R := ⟨_, rfl⟩
      rw [← ho] at hcon
      have HX := Lib.hid hx
      have HO := Lib.hid ho
      have HCON := Lib.hid hcon
      clear hx hTx ho hcon
      go_wp2_with fail
      refine HCON.out.mono ?_
      rintro e w2 ⟨rfl, hE2⟩
      have HE2 := Lib.hid (HE.out.trans hE2)
      clear hE2
      cases o with
      | true =>
        have HR : Hid (decide (0 ≤ (k : Int)) = L.any (fun x => oddS x R)) := Lib.hid (by
          symm
          rw [decide_eq_true (by omega), List.any_eq_true]
          exact ⟨x, List.mem_of_getElem? HX.out, HO.out.symm⟩)
        go_wp2_with fail
        go_ret
        exact ⟨_, rfl, HE2.out, HR.out⟩
      | false =>
        go_wp2_with fail
        go_roundw
        case rel => exact ⟨k + 1, by go_num, by omega, fun j x' hj hx' => by
          rcases Nat.lt_or_ge j k with h' | h'
          · exact HALL.out j x' h' hx'
          · have : j = k := by omega
            subst this
            rw [HX.out] at hx'; cases hx'; exact HO.out.symm, HE2.out⟩
        case measure => simp [intOf]; omega
    · have HR : Hid (decide ((0 : Int) ≤ -1) = L.any (fun x => oddS x R)) := Lib.hid (by
        symm
        rw [decide_eq_false (by omega), List.any_eq_false]
        intro x hx
        obtain ⟨j, hj⟩ := List.mem_iff_getElem?.1 hx
        rw [HALL.out j x (by have := (List.getElem?_eq_some_iff.1 hj).1; omega) hj]
        simp)
      go_wp2_with fail
      go_ret
      exact ⟨_, rfl, HE.out, HR.out⟩

theorem contains_odd {w : World} {S S' : Nat → Prop} {lb : Nat} {a a' : Option Addr} {cap cap' : Nat} {L R : List Tm} (hL6 : ∀ x ∈ L, sizeT x ≤ 80000) (hR6 : ∀ x ∈ R, sizeT x ≤ 1000000) (hlr : R.length ≤ 1000000) (hll : L.length ≤ 1000000) (hs : Asc R) (hb : w.heap[lb]? = some (.cells #[.slice a R.length cap] 22)) (hA : LsT w S (.slice a R.length cap) R) (hL : LsT w S' (.slice a' L.length cap') L) :
    Calls Try.prog 48 #[.slice a' L.length cap', .func (.func 46) #[] #[.pointer (some ⟨lb, 0, none⟩)]] w fun e w' => e = .returned (.bool (L.any (fun x => oddS x R))) ∧ Ext w w' := by
  have HC := Lib.hid (index_odd hL6 hR6 hlr hll hs hb hA hL)
  clear hA hL hb hL6 hR6 hs
  go_enter Try.func48, Try.ntmps48
  go_wp2_with fail
  refine HC.out.mono ?_
  rintro e w2 ⟨r, rfl, hE2, hr⟩
  have HE2 := Lib.hid hE2
  have HR := Lib.hid hr
  clear hE2 hr
  go_wp2_with fail
  go_ret
  exact ⟨rb (by rw [← HR.out]), HE2.out⟩

/-- what CheckRefute answers -/
def crS (L : List Tm) (t : Tm) (R : List Tm) : Bool := decide (rightS L [t] = 0) && decide (R.length ≤ 200) && decide (Asc R) && oddS t R && !(L.any (fun x => oddS x R))
theorem asc_adj {R : List Tm} (h : ∀ (q : Nat) x y, R[q]? = some x → R[q + 1]? = some y → ltT x y) : Asc R := by
  induction R with
  | nil => exact List.Pairwise.nil
  | cons x R ih =>
    have h' : Asc R := ih (fun q a b ha hb => h (q + 1) a b (by simpa using ha) (by simpa using hb))
    refine List.pairwise_cons.2 ⟨fun z hz => ?_, h'⟩
    cases R with
    | nil => simp at hz
    | cons y R =>
      have hxy := h 0 x y rfl rfl
      rcases List.mem_cons.1 hz with rfl | hz
      · exact hxy
      · exact ltT_trans hxy ((List.pairwise_cons.1 h').1 z hz)

set_option maxRecDepth 100000 in
set_option maxHeartbeats 2000000 in
theorem PCheckRefute_any {w : World} {S S' S'' : Nat → Prop} {a a' a'' : Option Addr} {cap cap' cap'' : Nat} {L R : List Tm} {t : Tm} (hL6 : ∀ x ∈ L, sizeT x ≤ 80000) (hR6 : ∀ x ∈ R, sizeT x ≤ 80000) (ht6 : sizeT t ≤ 80000) (hll : L.length ≤ 1000000) (hlr : R.length ≤ 1000000) (hL : LsT w S (.slice a L.length cap) L) (hT : TmW w S' a' cap' t) (hA : LsT w S'' (.slice a'' R.length cap'') R) :
    Calls Try.prog 18 #[.slice a L.length cap, .agg #[.int .i64 t.kind, .string t.name, .int .i64 t.sort, .slice a' t.kids.length cap'], .slice a'' R.length cap''] w fun e w' => e = .returned (.bool (crS L t R)) ∧ Ext w w' := by
  have hl' := hT.len
  have hc' := hT.cap
  obtain ⟨-, hl1, hc1⟩ := hL.len
  obtain ⟨-, hl2, hc2⟩ := hA.len
  unfold maxLen at hc' hc1 hc2
  obtain ⟨bx, hbx⟩ : ∃ bx, bx = w.heap.size := ⟨_, rfl⟩
  obtain ⟨w0, hw0⟩ : ∃ w0, w0 = w.alloc (.cells #[.int .i64 t.kind, .string t.name, .int .i64 t.sort, .slice a' t.kids.length cap'] 24) := ⟨_, rfl⟩
  have hs0 : bx + 1 = w0.heap.size := by rw [hw0, hbx, World.size_alloc]
  obtain ⟨w1, hw1⟩ : ∃ w1, w1 = w0.alloc (.cells #[.slice a'' R.length cap''] 22) := ⟨_, rfl⟩
  have h0 : w1.heap[bx]? = some (.cells #[.int .i64 t.kind, .string t.name, .int .i64 t.sort, .slice a' t.kids.length cap'] 24) := by rw [hw1, hw0, hbx]; exact hs_al hs_new
  have h1 : w1.heap[bx + 1]? = some (.cells #[.slice a'' R.length cap''] 22) := by rw [hw1, hs0]; exact hs_new
  have hE1 : Ext w w1 := by rw [hw1, hw0]; exact (Ext.alloc w _).then_al _
  have b0 : w1.cell? ⟨bx, 0, none⟩ = some (.int .i64 t.kind) := by rw [cellc h0]; rfl
  have b1 : w1.cell? ⟨bx, 1, none⟩ = some (.string t.name) := by rw [cellc h0]; rfl
  have b2 : w1.cell? ⟨bx, 2, none⟩ = some (.int .i64 t.sort) := by rw [cellc h0]; rfl
  have b3 : w1.cell? ⟨bx, 3, none⟩ = some (.slice a' t.kids.length cap') := by rw [cellc h0]; rfl
  have r0 : w1.cell? ⟨bx + 1, 0, none⟩ = some (.slice a'' R.length cap'') := by rw [cellc h1]; rfl
  have hcon := right_any (w := w1.alloc (.cells #[.int .i64 t.kind, .string t.name, .int .i64 t.sort, .slice a' t.kids.length cap'] 24)) (M := [t]) (fun x hx => by have := hL6 x hx; omega) (fun x hx => by simp at hx; subst hx; omega) (by simp) (hL.any.ext (hE1.then_al _)) (one_ls (a := a') (cap := cap') hs_new (hT.any.ext (hE1.then_al _)))
  obtain ⟨er, her⟩ : ∃ er, er = rightS L [t] := ⟨_, rfl⟩
  rw [← her] at hcon
  have HR : Hid (crS L t R = (decide (er = 0) && decide (R.length ≤ 200) && decide (Asc R) && oddS t R && !(L.any (fun x => oddS x R)))) := Lib.hid (by rw [crS, her])
  have HCON := Lib.hid hcon
  have HL := Lib.hid (hL.ext hE1)
  have HT := Lib.hid (hT.ext hE1)
  have HA := Lib.hid (hA.ext hE1)
  have HE1 := Lib.hid hE1
  have H0 := Lib.hid h0
  have H1 := Lib.hid h1
  have HL6 := Lib.hid hL6
  have HR6 := Lib.hid hR6
  clear hL hT hA hE1 h0 h1 hL6 hR6 hcon her hs0
  go_enter Try.func18, Try.ntmps18
  go_upto_region 1 with fail
  rw [← hw0, ← hbx, ← hw1]
  clear hw0 hw1 hbx
  go_wp2_with fail
  refine HCON.out.mono ?_
  rintro e w2 ⟨rfl, hE2⟩
  have hE2 := (Ext.alloc w1 _).trans hE2
  have r0 := cs_ext hE2 r0
  have HE2 := Lib.hid hE2
  clear hE2 b0 b1 b2 b3
  by_cases hz : er = 0
  case neg =>
    have e1 : (er != 0) = true := by simp [hz]
    have HRR : Hid (crS L t R = false) := Lib.hid (by rw [HR.out, decide_eq_false hz]; rfl)
    clear hz
    go_wp2_with fail
    go_ret
    exact ⟨rb HRR.out.symm, HE1.out.trans HE2.out⟩
  have e1 : (er != 0) = false := by simp [hz]
  have HZ := Lib.hid hz
  clear hz
  by_cases h200 : 200 < R.length
  case pos =>
    have h2z : (200 : Int) < R.length := by omega
    have HRR : Hid (crS L t R = false) := Lib.hid (by rw [HR.out, decide_eq_false (show ¬ R.length ≤ 200 by omega)]; simp)
    go_wp2_with fail
    go_ret
    exact ⟨rb HRR.out.symm, HE1.out.trans HE2.out⟩
  have h2z : ¬ (200 : Int) < R.length := by omega
  go_wp2_with fail
  go_loopw [7] (fun kv wr => ∃ m : Nat, kv = .int .i64 ((m : Int) + 1) ∧ m ≤ R.length ∧ (∀ (q : Nat) x y, q < m → R[q]? = some x → R[q + 1]? = some y → ltT x y) ∧ Ext w1 wr) (fun kv _ => R.length + 1 - (intOf kv).toNat)
  case atStart => exact ⟨0, rfl, by omega, fun q x y h => by omega, HE2.out⟩
  case round =>
    clear r0
    obtain ⟨m, rfl, hm, hall, hE⟩ := hrel
    have HALL := Lib.hid hall
    have HE := Lib.hid hE
    have r0 : wr.cell? ⟨bx + 1, 0, none⟩ = some (.slice a'' R.length cap'') := by rw [cellc (hs_ext hE H1.out)]; rfl
    clear hall hE
    by_cases hlt : m + 1 < R.length
    · have hltz : (m : Int) + 1 < R.length := by omega
      obtain ⟨x, hx⟩ : ∃ x, R[m]? = some x := ⟨_, List.getElem?_eq_getElem (by omega)⟩
      obtain ⟨y, hy⟩ : ∃ y, R[m + 1]? = some y := ⟨_, List.getElem?_eq_getElem hlt⟩
      obtain ⟨xb, xo, xa, xc, rfl, x0, x1, x2, x3, hTx⟩ := (HA.out.ext HE.out).ts.at hx
      obtain ⟨xb', xo', ya, yc, hxe, y0, y1, y2, y3, hTy⟩ := (HA.out.ext HE.out).ts.at hy
      cases hxe
      have hcon := fun (w' : World) (hE : Ext wr w') => PCmp_any (w := w') (by have := HR6.out x (List.mem_of_getElem? hx); omega) (by have := HR6.out y (List.mem_of_getElem? hy); omega) (hTx.ext hE) (hTy.ext hE)
      obtain ⟨o, ho⟩ : ∃ o, o = cmpT x y := ⟨_, rfl⟩
      rw [← ho] at hcon
      have HX := Lib.hid hx
      have HY := Lib.hid hy
      have HO := Lib.hid ho
      have HCON2 := Lib.hid hcon
      have hm1 : ((m : Int) + 1).toNat = m + 1 := by omega
      have hmlt : m < R.length := by omega
      have hmltz : (m : Int) < R.length := by omega
      have hwr1 : IntKind.i64.wrap (m : Int) = m := by rw [IntKind.wrap_i64]; omega
      have hm0 : (0 : Int) ≤ (m : Int) + 1 := by omega
      clear hx hy hTx hTy ho hcon
      go_wp2_with fail
      refine wp_region_reg 11 false (by kernel_rfl) (by kernel_rfl) ?_
      refine reg_value (fun _ => rfl) ?_ (fun g w' vs hM hE hP => ?_) ?_
      rotate_left
      · (clear hP hM; have zz0 := cs_ext hE r0; have zz1 := cs_ext hE x0; have zz2 := cs_ext hE x1; have zz3 := cs_ext hE x2; have zz4 := cs_ext hE x3; have zz5 := cs_ext hE y0; have zz6 := cs_ext hE y1; have zz7 := cs_ext hE y2; have zz8 := cs_ext hE y3; go_simp; first | done | rfl)
      refine reg_value (fun _ => rfl) ?_ (fun g w' vs hM hE hP => ?_) ?_
      rotate_left
      · (clear hP hM; have zz0 := cs_ext hE r0; have zz1 := cs_ext hE x0; have zz2 := cs_ext hE x1; have zz3 := cs_ext hE x2; have zz4 := cs_ext hE x3; have zz5 := cs_ext hE y0; have zz6 := cs_ext hE y1; have zz7 := cs_ext hE y2; have zz8 := cs_ext hE y3; go_simp; first | done | rfl)
      refine reg_value (fun _ => rfl) ?_ (fun g w' vs hM hE hP => ?_) ?_
      rotate_left
      · (clear hP hM; have zz0 := cs_ext hE r0; have zz1 := cs_ext hE x0; have zz2 := cs_ext hE x1; have zz3 := cs_ext hE x2; have zz4 := cs_ext hE x3; have zz5 := cs_ext hE y0; have zz6 := cs_ext hE y1; have zz7 := cs_ext hE y2; have zz8 := cs_ext hE y3; go_simp; first | done | rfl)
      refine reg_value (fun _ => rfl) ?_ (fun g w' vs hM hE hP => ?_) ?_
      rotate_left
      · (clear hP hM; have zz0 := cs_ext hE r0; have zz1 := cs_ext hE x0; have zz2 := cs_ext hE x1; have zz3 := cs_ext hE x2; have zz4 := cs_ext hE x3; have zz5 := cs_ext hE y0; have zz6 := cs_ext hE y1; have zz7 := cs_ext hE y2; have zz8 := cs_ext hE y3; go_simp; first | done | rfl)
      refine reg_value (fun _ => rfl) ?_ (fun g w' vs hM hE hP => ?_) ?_
      rotate_left
      · (clear hP hM; have zz0 := cs_ext hE r0; have zz1 := cs_ext hE x0; have zz2 := cs_ext hE x1; have zz3 := cs_ext hE x2; have zz4 := cs_ext hE x3; have zz5 := cs_ext hE y0; have zz6 := cs_ext hE y1; have zz7 := cs_ext hE y2; have zz8 := cs_ext hE y3; go_simp; first | done | rfl)
      refine reg_value (fun _ => rfl) ?_ (fun g w' vs hM hE hP => ?_) ?_
      rotate_left
      · (clear hP hM; have zz0 := cs_ext hE r0; have zz1 := cs_ext hE x0; have zz2 := cs_ext hE x1; have zz3 := cs_ext hE x2; have zz4 := cs_ext hE x3; have zz5 := cs_ext hE y0; have zz6 := cs_ext hE y1; have zz7 := cs_ext hE y2; have zz8 := cs_ext hE y3; go_simp; first | done | rfl)
      refine reg_value (fun _ => rfl) ?_ (fun g w' vs hM hE hP => ?_) ?_
      rotate_left
      · (clear hP hM; have zz0 := cs_ext hE r0; have zz1 := cs_ext hE x0; have zz2 := cs_ext hE x1; have zz3 := cs_ext hE x2; have zz4 := cs_ext hE x3; have zz5 := cs_ext hE y0; have zz6 := cs_ext hE y1; have zz7 := cs_ext hE y2; have zz8 := cs_ext hE y3; go_simp; first | done | rfl)
      refine reg_value (fun _ => rfl) ?_ (fun g w' vs hM hE hP => ?_) ?_
      rotate_left
      · (clear hP hM; have zz0 := cs_ext hE r0; have zz1 := cs_ext hE x0; have zz2 := cs_ext hE x1; have zz3 := cs_ext hE x2; have zz4 := cs_ext hE x3; have zz5 := cs_ext hE y0; have zz6 := cs_ext hE y1; have zz7 := cs_ext hE y2; have zz8 := cs_ext hE y3; go_simp; first | done | rfl)
      refine reg_value (fun _ => rfl) ?_ (fun g w' vs hM hE hP => ?_) ?_
      rotate_left
      · (clear hP hM; have zz0 := cs_ext hE r0; have zz1 := cs_ext hE x0; have zz2 := cs_ext hE x1; have zz3 := cs_ext hE x2; have zz4 := cs_ext hE x3; have zz5 := cs_ext hE y0; have zz6 := cs_ext hE y1; have zz7 := cs_ext hE y2; have zz8 := cs_ext hE y3; go_simp; first | done | rfl)
      refine reg_const (fun _ => rfl) 45 ?_ (fun g w' vs hM hE hP => ?_) ?_
      rotate_left
      · (clear hP hM; have zz0 := cs_ext hE r0; have zz1 := cs_ext hE x0; have zz2 := cs_ext hE x1; have zz3 := cs_ext hE x2; have zz4 := cs_ext hE x3; have zz5 := cs_ext hE y0; have zz6 := cs_ext hE y1; have zz7 := cs_ext hE y2; have zz8 := cs_ext hE y3; go_simp; first | done | exact ⟨rfl, rfl⟩ | rfl)
      apply Exists.intro
      refine And.intro (fun g w' vs hM hE hP => ?_) ?_
      · exact HCON2.out _ hE
      refine reg_value (fun _ => rfl) ?_ (fun g w' vs hM hE hP => ?_) ?_
      rotate_left
      · (clear hP hM; have zz0 := cs_ext hE r0; have zz1 := cs_ext hE x0; have zz2 := cs_ext hE x1; have zz3 := cs_ext hE x2; have zz4 := cs_ext hE x3; have zz5 := cs_ext hE y0; have zz6 := cs_ext hE y1; have zz7 := cs_ext hE y2; have zz8 := cs_ext hE y3; go_simp; first | done | rfl)
      intro g wz hE2 hF hQ
      simp only [List.drop_succ_cons, List.drop_zero, Act.put, List.setIfInBounds_toArray, List.set_cons_succ, List.set_cons_zero]
      clear hF hQ x0 x1 x2 x3 y0 y1 y2 y3
      have HE2 := Lib.hid (HE.out.trans hE2)
      clear hE2 r0 hwr1 hm1
      by_cases hneg : o < 0
      · have e2 : decide (0 ≤ o) = false := decide_eq_false (by omega)
        have hng : ¬ 0 ≤ o := by omega
        have HLT : Hid (ltT x y) := Lib.hid (by unfold ltT; rw [← HO.out]; exact hneg)
        go_wp2_with fail
        go_roundw
        case rel => exact ⟨m + 1, by go_num, by omega, fun q x' y' hq hx' hy' => by
          rcases Nat.lt_or_ge q m with h' | h'
          · exact HALL.out q x' y' h' hx' hy'
          · have : q = m := by omega
            subst this
            rw [HX.out] at hx'; rw [HY.out] at hy'; cases hx'; cases hy'; exact HLT.out, HE2.out⟩
        case measure => simp [intOf]; omega
      · have e2 : decide (0 ≤ o) = true := decide_eq_true (by omega)
        have hng : 0 ≤ o := by omega
        have HRR : Hid (crS L t R = false) := Lib.hid (by
          have : ¬ Asc R := fun h => by
            have := asc_get h HX.out HY.out (by omega)
            unfold ltT at this
            rw [← HO.out] at this
            omega
          rw [HR.out, decide_eq_false this]; simp)
        go_wp2_with fail
        go_ret
        exact ⟨rb HRR.out.symm, HE1.out.trans HE2.out⟩
    · have hltz : ¬ (m : Int) + 1 < R.length := by omega
      have HASC : Hid (Asc R) := Lib.hid (asc_adj (fun q x y hx hy => HALL.out q x y (by have := (List.getElem?_eq_some_iff.1 hy).1; omega) hx hy))
      have HRR : Hid (crS L t R = (oddS t R && !(L.any (fun x => oddS x R)))) := Lib.hid (by rw [HR.out, decide_eq_true HZ.out, decide_eq_true (show R.length ≤ 200 by omega), decide_eq_true HASC.out]; simp)
      have h0 := hs_ext HE.out H0.out
      have b0 : wr.cell? ⟨bx, 0, none⟩ = some (.int .i64 t.kind) := by rw [cellc h0]; rfl
      have b1 : wr.cell? ⟨bx, 1, none⟩ = some (.string t.name) := by rw [cellc h0]; rfl
      have b2 : wr.cell? ⟨bx, 2, none⟩ = some (.int .i64 t.sort) := by rw [cellc h0]; rfl
      have b3 : wr.cell? ⟨bx, 3, none⟩ = some (.slice a' t.kids.length cap') := by rw [cellc h0]; rfl
      have hcon := odd_any (fun x hx => by have := HR6.out x hx; omega) ht6 hlr HASC.out (hs_ext HE.out H1.out) (HA.out.ext HE.out) (HT.out.ext HE.out)
      have hcon2 := fun (w' : World) (hE : Ext wr w') => contains_odd (w := w') (cap := cap'') (cap' := cap) HL6.out (fun x hx => by have := HR6.out x hx; omega) hlr hll HASC.out (hs_ext hE (hs_ext HE.out H1.out)) ((HA.out.ext HE.out).ext hE) ((HL.out.ext HE.out).ext hE)
      obtain ⟨o, ho⟩ : ∃ o, o = oddS t R := ⟨_, rfl⟩
      obtain ⟨q, hq⟩ : ∃ q, q = L.any (fun x => oddS x R) := ⟨_, rfl⟩
      rw [← ho] at hcon HRR
      rw [← hq] at HRR
      simp only [← hq] at hcon2
      have HCON2 := Lib.hid hcon
      have HCON3 := Lib.hid hcon2
      clear h0 hcon hcon2 ho hq
      go_wp2_with fail
      refine HCON2.out.mono ?_
      rintro e w3 ⟨rfl, hE3⟩
      have HE3 := Lib.hid hE3
      clear hE3 b0 b1 b2 b3
      cases o with
      | false =>
        go_wp2_with fail
        go_ret
        exact ⟨rb (by rw [HRR.out]; rfl), HE1.out.trans (HE.out.trans HE3.out)⟩
      | true =>
        go_wp2_with fail
        refine (HCON3.out _ HE3.out).mono ?_
        rintro e w4 ⟨rfl, hE4⟩
        have HE4 := Lib.hid hE4
        clear hE4
        go_wp2_with fail
        go_ret
        exact ⟨rb (by rw [HRR.out]; cases q <;> rfl), HE1.out.trans (HE.out.trans (HE3.out.trans HE4.out))⟩

end Go.Proofs.Ytckgjebcehbkfaa

namespace Go.Proofs.Ytckgjebcehbkfaa
open Go Go.RowKit
set_option linter.unusedVariables false
set_option linter.unusedSimpArgs false

set_option maxRecDepth 100000 in
set_option maxHeartbeats 2000000 in
theorem Rodd_any {w : World} {S S' : Nat → Prop} {a a' : Option Addr} {cap cap' : Nat} {R : List Tm} {t : Tm} (hR6 : ∀ x ∈ R, sizeT x ≤ 1000000) (ht6 : sizeT t ≤ 30000) (hA : LsT w S (.slice a R.length cap) R) (hT : TmW w S' a' cap' t) :
    Calls Try.prog 51 #[.agg #[.int .i64 t.kind, .string t.name, .int .i64 t.sort, .slice a' t.kids.length cap'], .slice a R.length cap] w fun e w' => e = .returned (.bool (oddS t R)) ∧ Ext w w' := by
  have hl' := hT.len
  have hc' := hT.cap
  unfold maxLen at hc'
  obtain ⟨bx, hbx⟩ : ∃ bx, bx = w.heap.size := ⟨_, rfl⟩
  obtain ⟨w1, hw1⟩ : ∃ w1, w1 = w.alloc (.cells #[.int .i64 t.kind, .string t.name, .int .i64 t.sort, .slice a' t.kids.length cap'] 24) := ⟨_, rfl⟩
  have b0 : w1.cell? ⟨bx, 0, none⟩ = some (.int .i64 t.kind) := by rw [hw1, hbx]; exact cs_new rfl
  have b1 : w1.cell? ⟨bx, 1, none⟩ = some (.string t.name) := by rw [hw1, hbx]; exact cs_new rfl
  have b2 : w1.cell? ⟨bx, 2, none⟩ = some (.int .i64 t.sort) := by rw [hw1, hbx]; exact cs_new rfl
  have b3 : w1.cell? ⟨bx, 3, none⟩ = some (.slice a' t.kids.length cap') := by rw [hw1, hbx]; exact cs_new rfl
  have HE1 : Hid (Ext w w1) := Lib.hid (by rw [hw1]; exact Ext.alloc w _)
  have HA := Lib.hid (hA.ext HE1.out)
  have hcon := RSummands_any 30000 w1 _ a' cap' t ht6 (Nat.le_refl _) (fun c hc => hc) (hT.ext HE1.out).below
  obtain ⟨Q, hQ⟩ : ∃ Q, Q = sumT t := ⟨_, rfl⟩
  have HQ6 : Hid (∀ y ∈ Q, sizeT y ≤ 1000000) := Lib.hid (fun y hy => by rw [hQ] at hy; have := sumT_size t y hy; omega)
  have hql : Q.length ≤ 80000 := by rw [hQ]; have := sumT_len t; omega
  rw [← hQ] at hcon
  have HR : Hid (oddS t R = decide (cntS Q R % 2 = 1)) := Lib.hid (by rw [oddS, hQ])
  have HCON := Lib.hid hcon
  have HR6 := Lib.hid hR6
  clear hA hT hR6 hcon hQ
  go_enter Try.func51, Try.ntmps51
  go_upto_region 1 with fail
  rw [← hw1, ← hbx]
  clear hw1 hbx
  go_wp2_with fail
  refine HCON.out.mono ?_
  rintro e w2 ⟨u, rfl, hE2, hO2⟩
  obtain ⟨ua, uc, hu, hl1, hl2, hts⟩ := id hO2.ls
  subst hu
  unfold maxLen at hl2
  have HE2 := Lib.hid hE2
  have HTS := Lib.hid hts
  clear hE2 hO2 hts b0 b1 b2 b3
  go_wp2_with fail
  go_loopw [6, 7] (fun nv kv wr => ∃ k c : Nat, kv = .int .i64 k ∧ nv = .int .i64 c ∧ k ≤ Q.length ∧ c = cntS (Q.take k) R ∧ Ext w2 wr) (fun _ kv _ => Q.length - (intOf kv).toNat)
  case atStart => exact ⟨0, 0, rfl, rfl, by omega, by simp [cntS], Ext.refl _⟩
  case round =>
    obtain ⟨k, c, rfl, rfl, hk, hc, hE⟩ := hrel
    have hcl : c ≤ 80000 := by rw [hc]; have := cntS_le (Q.take k) R; rw [List.length_take] at this; omega
    have HC := Lib.hid hc
    have HE := Lib.hid hE
    clear hc hE
    by_cases hlt : k < Q.length
    · obtain ⟨x, hx⟩ : ∃ x, Q[k]? = some x := ⟨_, List.getElem?_eq_getElem hlt⟩
      obtain ⟨xb, xo, xa, xc, rfl, x0, x1, x2, x3, hTx⟩ := (HTS.out.ext HE.out).at hx
      have hcon := RHas_any HR6.out (HQ6.out x (List.mem_of_getElem? hx)) (HA.out.ext (HE2.out.trans HE.out)) hTx
      obtain ⟨o, ho⟩ : ∃ o, o = decide (x ∈ R) := ⟨_, rfl⟩
      rw [← ho] at hcon
      have HCT : Hid (cntS (Q.take (k + 1)) R = c + if o = true then 1 else 0) := Lib.hid (by rw [cntS_take hx, HC.out, ho]; simp)
      have HCON2 := Lib.hid hcon
      clear hx hTx hcon ho
      go_wp2_with fail
      refine HCON2.out.mono ?_
      rintro e w3 ⟨rfl, hE3⟩
      have HE3 := Lib.hid (HE.out.trans hE3)
      clear hE3
      cases o with
      | true =>
        go_wp2_with fail
        go_roundw
        case rel => exact ⟨k + 1, c + 1, by go_num, by go_num, by omega, by rw [HCT.out]; rfl, HE3.out⟩
        case measure => simp [intOf]; omega
      | false =>
        go_wp2_with fail
        go_roundw
        case rel => exact ⟨k + 1, c, by go_num, rfl, by omega, by rw [HCT.out]; rfl, HE3.out⟩
        case measure => simp [intOf]; omega
    · have HRR : Hid (oddS t R = decide (c % 2 = 1)) := Lib.hid (by rw [HR.out, HC.out, List.take_of_length_le (by omega)])
      go_wp2_with fail
      go_ret
      exact ⟨rb (by rw [HRR.out, Bool.eq_iff_iff]; simp; omega), HE1.out.trans (HE2.out.trans HE.out)⟩

set_option maxRecDepth 100000 in
set_option maxHeartbeats 2000000 in
theorem RCheckRefute_any {w : World} {S S' S'' : Nat → Prop} {a a' a'' : Option Addr} {cap cap' cap'' : Nat} {L R : List Tm} {t : Tm} (hL6 : ∀ x ∈ L, sizeT x ≤ 30000) (hR6 : ∀ x ∈ R, sizeT x ≤ 30000) (ht6 : sizeT t ≤ 30000) (hll : L.length ≤ 1000000) (hlr : R.length ≤ 1000000) (hL : LsT w S (.slice a L.length cap) L) (hT : TmW w S' a' cap' t) (hA : LsT w S'' (.slice a'' R.length cap'') R) :
    Calls Try.prog 19 #[.slice a L.length cap, .agg #[.int .i64 t.kind, .string t.name, .int .i64 t.sort, .slice a' t.kids.length cap'], .slice a'' R.length cap''] w fun e w' => e = .returned (.bool (crS L t R)) ∧ Ext w w' := by
  have hl' := hT.len
  have hc' := hT.cap
  obtain ⟨-, hl1, hc1⟩ := hL.len
  obtain ⟨-, hl2, hc2⟩ := hA.len
  unfold maxLen at hc' hc1 hc2
  obtain ⟨bx, hbx⟩ : ∃ bx, bx = w.heap.size := ⟨_, rfl⟩
  obtain ⟨w1, hw1⟩ : ∃ w1, w1 = w.alloc (.cells #[.int .i64 t.kind, .string t.name, .int .i64 t.sort, .slice a' t.kids.length cap'] 24) := ⟨_, rfl⟩
  have h0 : w1.heap[bx]? = some (.cells #[.int .i64 t.kind, .string t.name, .int .i64 t.sort, .slice a' t.kids.length cap'] 24) := by rw [hw1, hbx]; exact hs_new
  have hE1 : Ext w w1 := by rw [hw1]; exact Ext.alloc w _
  have b0 : w1.cell? ⟨bx, 0, none⟩ = some (.int .i64 t.kind) := by rw [cellc h0]; rfl
  have b1 : w1.cell? ⟨bx, 1, none⟩ = some (.string t.name) := by rw [cellc h0]; rfl
  have b2 : w1.cell? ⟨bx, 2, none⟩ = some (.int .i64 t.sort) := by rw [cellc h0]; rfl
  have b3 : w1.cell? ⟨bx, 3, none⟩ = some (.slice a' t.kids.length cap') := by rw [cellc h0]; rfl
  have hcon := rvalid_any (fun x hx => by have := hL6 x hx; omega) (by omega) (hL.ext hE1) (hT.ext hE1)
  obtain ⟨er, her⟩ : ∃ er, er = rightS L [t] := ⟨_, rfl⟩
  rw [← her] at hcon
  have HR : Hid (crS L t R = (decide (er = 0) && decide (R.length ≤ 200) && decide (Asc R) && oddS t R && !(L.any (fun x => oddS x R)))) := Lib.hid (by rw [crS, her])
  have HCON := Lib.hid hcon
  have HL := Lib.hid (hL.ext hE1)
  have HT := Lib.hid (hT.ext hE1)
  have HA := Lib.hid (hA.ext hE1)
  have HE1 := Lib.hid hE1
  have H0 := Lib.hid h0
  have HL6 := Lib.hid hL6
  have HR6 := Lib.hid hR6
  clear hL hT hA hE1 h0 hL6 hR6 hcon her
  go_enter Try.func19, Try.ntmps19
  go_upto_region 1 with fail
  rw [← hw1, ← hbx]
  clear hw1 hbx
  go_wp2_with fail
  refine HCON.out.mono ?_
  rintro e w2 ⟨rfl, hE2⟩
  have HE2 := Lib.hid hE2
  clear hE2 b0 b1 b2 b3
  by_cases hz : er = 0
  case neg =>
    have e1 : (er != 0) = true := by simp [hz]
    have HRR : Hid (crS L t R = false) := Lib.hid (by rw [HR.out, decide_eq_false hz]; rfl)
    clear hz
    go_wp2_with fail
    go_ret
    exact ⟨rb HRR.out.symm, HE1.out.trans HE2.out⟩
  have e1 : (er != 0) = false := by simp [hz]
  have HZ := Lib.hid hz
  clear hz
  by_cases h200 : 200 < R.length
  case pos =>
    have h2z : (200 : Int) < R.length := by omega
    have HRR : Hid (crS L t R = false) := Lib.hid (by rw [HR.out, decide_eq_false (show ¬ R.length ≤ 200 by omega)]; simp)
    go_wp2_with fail
    go_ret
    exact ⟨rb HRR.out.symm, HE1.out.trans HE2.out⟩
  have h2z : ¬ (200 : Int) < R.length := by omega
  go_wp2_with fail
  go_loopw [7] (fun kv wr => ∃ m : Nat, kv = .int .i64 ((m : Int) + 1) ∧ m ≤ R.length ∧ (∀ (q : Nat) x y, q < m → R[q]? = some x → R[q + 1]? = some y → ltT x y) ∧ Ext w1 wr) (fun kv _ => R.length + 1 - (intOf kv).toNat)
  case atStart => exact ⟨0, rfl, by omega, fun q x y h => by omega, HE2.out⟩
  case round =>
    obtain ⟨m, rfl, hm, hall, hE⟩ := hrel
    have HALL := Lib.hid hall
    have HE := Lib.hid hE
    clear hall hE
    by_cases hlt : m + 1 < R.length
    · have hltz : (m : Int) + 1 < R.length := by omega
      obtain ⟨x, hx⟩ : ∃ x, R[m]? = some x := ⟨_, List.getElem?_eq_getElem (by omega)⟩
      obtain ⟨y, hy⟩ : ∃ y, R[m + 1]? = some y := ⟨_, List.getElem?_eq_getElem hlt⟩
      obtain ⟨xb, xo, xa, xc, rfl, x0, x1, x2, x3, hTx⟩ := (HA.out.ext HE.out).ts.at hx
      obtain ⟨xb', xo', ya, yc, hxe, y0, y1, y2, y3, hTy⟩ := (HA.out.ext HE.out).ts.at hy
      cases hxe
      have hcon := fun (w' : World) (hE : Ext wr w') => RCompare_any 1000000 w' _ _ xa ya xc yc x y (by have := HR6.out x (List.mem_of_getElem? hx); omega) (by have := HR6.out x (List.mem_of_getElem? hx); omega) (by have := HR6.out y (List.mem_of_getElem? hy); omega) (hTx.ext hE) (hTy.ext hE)
      obtain ⟨o, ho⟩ : ∃ o, o = cmpT x y := ⟨_, rfl⟩
      rw [← ho] at hcon
      have HX := Lib.hid hx
      have HY := Lib.hid hy
      have HO := Lib.hid ho
      have HCON2 := Lib.hid hcon
      have hm1 : ((m : Int) + 1).toNat = m + 1 := by omega
      have hmlt : m < R.length := by omega
      have hmltz : (m : Int) < R.length := by omega
      have hwr1 : IntKind.i64.wrap (m : Int) = m := by rw [IntKind.wrap_i64]; omega
      have hm0 : (0 : Int) ≤ (m : Int) + 1 := by omega
      clear hx hy hTx hTy ho hcon
      go_wp2_with fail
      refine wp_region_reg 11 false (by kernel_rfl) (by kernel_rfl) ?_
      refine reg_value (fun _ => rfl) ?_ (fun g w' vs hM hE hP => ?_) ?_
      rotate_left
      · (clear hP hM; have zz0 := cs_ext hE x0; have zz1 := cs_ext hE x1; have zz2 := cs_ext hE x2; have zz3 := cs_ext hE x3; have zz4 := cs_ext hE y0; have zz5 := cs_ext hE y1; have zz6 := cs_ext hE y2; have zz7 := cs_ext hE y3; go_simp; first | done | rfl)
      refine reg_value (fun _ => rfl) ?_ (fun g w' vs hM hE hP => ?_) ?_
      rotate_left
      · (clear hP hM; have zz0 := cs_ext hE x0; have zz1 := cs_ext hE x1; have zz2 := cs_ext hE x2; have zz3 := cs_ext hE x3; have zz4 := cs_ext hE y0; have zz5 := cs_ext hE y1; have zz6 := cs_ext hE y2; have zz7 := cs_ext hE y3; go_simp; first | done | rfl)
      refine reg_value (fun _ => rfl) ?_ (fun g w' vs hM hE hP => ?_) ?_
      rotate_left
      · (clear hP hM; have zz0 := cs_ext hE x0; have zz1 := cs_ext hE x1; have zz2 := cs_ext hE x2; have zz3 := cs_ext hE x3; have zz4 := cs_ext hE y0; have zz5 := cs_ext hE y1; have zz6 := cs_ext hE y2; have zz7 := cs_ext hE y3; go_simp; first | done | rfl)
      refine reg_value (fun _ => rfl) ?_ (fun g w' vs hM hE hP => ?_) ?_
      rotate_left
      · (clear hP hM; have zz0 := cs_ext hE x0; have zz1 := cs_ext hE x1; have zz2 := cs_ext hE x2; have zz3 := cs_ext hE x3; have zz4 := cs_ext hE y0; have zz5 := cs_ext hE y1; have zz6 := cs_ext hE y2; have zz7 := cs_ext hE y3; go_simp; first | done | rfl)
      refine reg_value (fun _ => rfl) ?_ (fun g w' vs hM hE hP => ?_) ?_
      rotate_left
      · (clear hP hM; have zz0 := cs_ext hE x0; have zz1 := cs_ext hE x1; have zz2 := cs_ext hE x2; have zz3 := cs_ext hE x3; have zz4 := cs_ext hE y0; have zz5 := cs_ext hE y1; have zz6 := cs_ext hE y2; have zz7 := cs_ext hE y3; go_simp; first | done | rfl)
      refine reg_value (fun _ => rfl) ?_ (fun g w' vs hM hE hP => ?_) ?_
      rotate_left
      · (clear hP hM; have zz0 := cs_ext hE x0; have zz1 := cs_ext hE x1; have zz2 := cs_ext hE x2; have zz3 := cs_ext hE x3; have zz4 := cs_ext hE y0; have zz5 := cs_ext hE y1; have zz6 := cs_ext hE y2; have zz7 := cs_ext hE y3; go_simp; first | done | rfl)
      refine reg_value (fun _ => rfl) ?_ (fun g w' vs hM hE hP => ?_) ?_
      rotate_left
      · (clear hP hM; have zz0 := cs_ext hE x0; have zz1 := cs_ext hE x1; have zz2 := cs_ext hE x2; have zz3 := cs_ext hE x3; have zz4 := cs_ext hE y0; have zz5 := cs_ext hE y1; have zz6 := cs_ext hE y2; have zz7 := cs_ext hE y3; go_simp; first | done | rfl)
      refine reg_value (fun _ => rfl) ?_ (fun g w' vs hM hE hP => ?_) ?_
      rotate_left
      · (clear hP hM; have zz0 := cs_ext hE x0; have zz1 := cs_ext hE x1; have zz2 := cs_ext hE x2; have zz3 := cs_ext hE x3; have zz4 := cs_ext hE y0; have zz5 := cs_ext hE y1; have zz6 := cs_ext hE y2; have zz7 := cs_ext hE y3; go_simp; first | done | rfl)
      refine reg_value (fun _ => rfl) ?_ (fun g w' vs hM hE hP => ?_) ?_
      rotate_left
      · (clear hP hM; have zz0 := cs_ext hE x0; have zz1 := cs_ext hE x1; have zz2 := cs_ext hE x2; have zz3 := cs_ext hE x3; have zz4 := cs_ext hE y0; have zz5 := cs_ext hE y1; have zz6 := cs_ext hE y2; have zz7 := cs_ext hE y3; go_simp; first | done | rfl)
      refine reg_const (fun _ => rfl) 50 ?_ (fun g w' vs hM hE hP => ?_) ?_
      rotate_left
      · (clear hP hM; have zz0 := cs_ext hE x0; have zz1 := cs_ext hE x1; have zz2 := cs_ext hE x2; have zz3 := cs_ext hE x3; have zz4 := cs_ext hE y0; have zz5 := cs_ext hE y1; have zz6 := cs_ext hE y2; have zz7 := cs_ext hE y3; go_simp; first | done | exact ⟨rfl, rfl⟩ | rfl)
      apply Exists.intro
      refine And.intro (fun g w' vs hM hE hP => ?_) ?_
      · exact HCON2.out _ hE
      refine reg_value (fun _ => rfl) ?_ (fun g w' vs hM hE hP => ?_) ?_
      rotate_left
      · (clear hP hM; have zz0 := cs_ext hE x0; have zz1 := cs_ext hE x1; have zz2 := cs_ext hE x2; have zz3 := cs_ext hE x3; have zz4 := cs_ext hE y0; have zz5 := cs_ext hE y1; have zz6 := cs_ext hE y2; have zz7 := cs_ext hE y3; go_simp; first | done | rfl)
      intro g wz hE2 hF hQ
      simp only [List.drop_succ_cons, List.drop_zero, Act.put, List.setIfInBounds_toArray, List.set_cons_succ, List.set_cons_zero]
      clear hF hQ x0 x1 x2 x3 y0 y1 y2 y3
      have HE2 := Lib.hid (HE.out.trans hE2)
      clear hE2 hwr1 hm1
      by_cases hneg : o < 0
      · have e2 : decide (0 ≤ o) = false := decide_eq_false (by omega)
        have hng : ¬ 0 ≤ o := by omega
        have HLT : Hid (ltT x y) := Lib.hid (by unfold ltT; rw [← HO.out]; exact hneg)
        go_wp2_with fail
        go_roundw
        case rel => exact ⟨m + 1, by go_num, by omega, fun q x' y' hq hx' hy' => by
          rcases Nat.lt_or_ge q m with h' | h'
          · exact HALL.out q x' y' h' hx' hy'
          · have : q = m := by omega
            subst this
            rw [HX.out] at hx'; rw [HY.out] at hy'; cases hx'; cases hy'; exact HLT.out, HE2.out⟩
        case measure => simp [intOf]; omega
      · have e2 : decide (0 ≤ o) = true := decide_eq_true (by omega)
        have hng : 0 ≤ o := by omega
        have HRR : Hid (crS L t R = false) := Lib.hid (by
          have : ¬ Asc R := fun h => by
            have := asc_get h HX.out HY.out (by omega)
            unfold ltT at this
            rw [← HO.out] at this
            omega
          rw [HR.out, decide_eq_false this]; simp)
        go_wp2_with fail
        go_ret
        exact ⟨rb HRR.out.symm, HE1.out.trans HE2.out⟩
    · have hltz : ¬ (m : Int) + 1 < R.length := by omega
      have HASC : Hid (Asc R) := Lib.hid (asc_adj (fun q x y hx hy => HALL.out q x y (by have := (List.getElem?_eq_some_iff.1 hy).1; omega) hx hy))
      have HRR : Hid (crS L t R = (oddS t R && !(L.any (fun x => oddS x R)))) := Lib.hid (by rw [HR.out, decide_eq_true HZ.out, decide_eq_true (show R.length ≤ 200 by omega), decide_eq_true HASC.out]; simp)
      obtain ⟨o, ho⟩ : ∃ o, o = oddS t R := ⟨_, rfl⟩
      rw [← ho] at HRR
      have HO := Lib.hid ho
      clear ho
      go_wp2_with fail
      go_loopw [8] (fun kv wq => ∃ k : Nat, kv = .int .i64 k ∧ k ≤ L.length ∧ (∀ (j : Nat) x, j < k → L[j]? = some x → oddS x R = false) ∧ Ext w1 wq) (fun kv _ => L.length - (intOf kv).toNat)
      case atStart => exact ⟨0, rfl, by omega, fun j x h => by omega, HE.out⟩
      case round =>
        obtain ⟨k, rfl, hk, hall, hE⟩ := hrel
        have HALL2 := Lib.hid hall
        have HEq := Lib.hid hE
        clear hall hE
        by_cases hlt : k < L.length
        · obtain ⟨x, hx⟩ : ∃ x, L[k]? = some x := ⟨_, List.getElem?_eq_getElem hlt⟩
          obtain ⟨xb, xo, xa, xc, rfl, x0, x1, x2, x3, hTx⟩ := (HL.out.ext HEq.out).ts.at hx
          have hcon := Rodd_any (fun x hx => by have := HR6.out x hx; omega) (HL6.out x (List.mem_of_getElem? hx)) (HA.out.ext HEq.out) hTx
          obtain ⟨q, hq⟩ : ∃ q, q = oddS x R := ⟨_, rfl⟩
          rw [← hq] at hcon
          have HX := Lib.hid hx
          have HQ := Lib.hid hq
          have HCON2 := Lib.hid hcon
          clear hx hTx hq hcon
          go_wp2_with fail
          refine HCON2.out.mono ?_
          rintro e w3 ⟨rfl, hE3⟩
          have HE3 := Lib.hid (HEq.out.trans hE3)
          clear hE3
          cases q with
          | true =>
            have HR2 : Hid (L.any (fun x => oddS x R) = true) := Lib.hid (by rw [List.any_eq_true]; exact ⟨x, List.mem_of_getElem? HX.out, HQ.out.symm⟩)
            have HR3 : Hid (crS L t R = false) := Lib.hid (by rw [HRR.out, HR2.out]; simp)
            go_wp2_with fail
            go_ret
            exact ⟨rb HR3.out.symm, HE1.out.trans HE3.out⟩
          | false =>
            go_wp2_with fail
            go_roundw
            case rel => exact ⟨k + 1, by go_num, by omega, fun j x' hj hx' => by
              rcases Nat.lt_or_ge j k with h' | h'
              · exact HALL2.out j x' h' hx'
              · have : j = k := by omega
                subst this
                rw [HX.out] at hx'; cases hx'; exact HQ.out.symm, HE3.out⟩
            case measure => simp [intOf]; omega
        · have HR2 : Hid (L.any (fun x => oddS x R) = false) := Lib.hid (by
            rw [List.any_eq_false]
            intro x hx
            obtain ⟨j, hj⟩ := List.mem_iff_getElem?.1 hx
            rw [HALL2.out j x (by have := (List.getElem?_eq_some_iff.1 hj).1; omega) hj]
            simp)
          have HR3 : Hid (crS L t R = o) := Lib.hid (by rw [HRR.out, HR2.out]; simp)
          have h0 := hs_ext HEq.out H0.out
          have b0 : wr.cell? ⟨bx, 0, none⟩ = some (.int .i64 t.kind) := by rw [cellc h0]; rfl
          have b1 : wr.cell? ⟨bx, 1, none⟩ = some (.string t.name) := by rw [cellc h0]; rfl
          have b2 : wr.cell? ⟨bx, 2, none⟩ = some (.int .i64 t.sort) := by rw [cellc h0]; rfl
          have b3 : wr.cell? ⟨bx, 3, none⟩ = some (.slice a' t.kids.length cap') := by rw [cellc h0]; rfl
          have hcon := Rodd_any (fun x hx => by have := HR6.out x hx; omega) ht6 (HA.out.ext HEq.out) (HT.out.ext HEq.out)
          rw [← HO.out] at hcon
          have HCON2 := Lib.hid hcon
          clear h0 hcon
          go_wp2_with fail
          refine HCON2.out.mono ?_
          rintro e w3 ⟨rfl, hE3⟩
          have HE3 := Lib.hid (HEq.out.trans hE3)
          clear hE3
          go_wp2_with fail
          go_ret
          exact ⟨rb HR3.out.symm, HE1.out.trans HE3.out⟩

end Go.Proofs.Ytckgjebcehbkfaa
