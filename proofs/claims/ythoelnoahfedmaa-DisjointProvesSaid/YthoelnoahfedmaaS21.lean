/- BinarySearchFunc on pairs in order, and the closure of Check. -/
import Derived.Test.YthoelnoahfedmaaG14
namespace Go.Proofs.Ythoelnoahfedmaa
open Go Go.RowKit
set_option linter.unusedVariables false
set_option linter.unusedSimpArgs false

theorem ord_lt {x y : Int × Int} : ordS x.1 x.2 y.1 y.2 < 0 ↔ ltP x y := by
  unfold ordS ltP
  (repeat' split) <;> omega
theorem ord_eq {x y : Int × Int} : ordS x.1 x.2 y.1 y.2 = 0 ↔ x = y := by
  obtain ⟨a, b⟩ := x
  obtain ⟨c, d⟩ := y
  simp only [Prod.mk.injEq]
  unfold ordS
  (repeat' split) <;> omega
theorem ltP_trans {x y z : Int × Int} (h : ltP x y) (k : ltP y z) : ltP x z := by unfold ltP at *; omega
theorem ltP_irrefl {x : Int × Int} : ¬ ltP x x := by unfold ltP; omega
theorem ltP_total {x y : Int × Int} : ltP x y ∨ x = y ∨ ltP y x := by
  obtain ⟨a, b⟩ := x
  obtain ⟨c, d⟩ := y
  simp only [ltP, Prod.mk.injEq]
  omega
theorem sorted_get {L : List (Int × Int)} (h : L.Pairwise ltP) {i j : Nat} {x y : Int × Int} (hi : L[i]? = some x) (hj : L[j]? = some y) (hij : i < j) : ltP x y := by
  obtain ⟨h1, rfl⟩ := List.getElem?_eq_some_iff.1 hi
  obtain ⟨h2, rfl⟩ := List.getElem?_eq_some_iff.1 hj
  exact List.pairwise_iff_getElem.1 h i j h1 h2 hij

def fOrd : Value := .func (.func 48) #[] #[]

set_option maxRecDepth 100000 in
set_option maxHeartbeats 1600000 in
theorem search_any {w : World} {a : Option Addr} {cap : Nat} {L : List (Int × Int)} {p : Int × Int} (hA : PairsA w a L) (hs : L.Pairwise ltP) (hl : L.length ≤ 4000000000000000000) :
    Calls Try.prog 52 #[.slice a L.length cap, .agg #[.int .i64 p.1, .int .i64 p.2], .func (.func 48) #[] #[]] w fun e w' => ∃ i : Int, e = .returned (.tuple #[.int .i64 i, .bool (decide (p ∈ L))]) ∧ Ext w w' := by
  obtain ⟨pb, hpb⟩ : ∃ pb, pb = w.heap.size := ⟨_, rfl⟩
  obtain ⟨w1, hw1⟩ : ∃ w1, w1 = w.alloc (.cells #[.int .i64 p.1, .int .i64 p.2] 53) := ⟨_, rfl⟩
  have k0 : w1.cell? ⟨pb, 0, none⟩ = some (.int .i64 p.1) := by rw [hw1, hpb]; exact cs_new rfl
  have k1 : w1.cell? ⟨pb, 1, none⟩ = some (.int .i64 p.2) := by rw [hw1, hpb]; exact cs_new rfl
  have hE1 : Ext w w1 := by rw [hw1]; exact Ext.alloc w _
  have hA1 := hA.ext hE1
  have HA := Lib.hid hA1
  have HS := Lib.hid hs
  have HE1 := Lib.hid hE1
  have K0 := Lib.hid k0
  have K1 := Lib.hid k1
  clear hA hA1 hs hE1 k0 k1
  go_enter Try.func52, Try.ntmps52
  go_upto_region 1 with fail
  rw [← hw1, ← hpb]
  clear hw1 hpb
  go_wp2_with fail
  go_loopw [9, 10, 11] (fun iv jv _ wr => ∃ i j : Nat, iv = .int .i64 i ∧ jv = .int .i64 j ∧ i ≤ j ∧ j ≤ L.length ∧ (∀ (k : Nat) x, k < i → L[k]? = some x → ltP x p) ∧ (∀ (k : Nat) x, j ≤ k → L[k]? = some x → ¬ ltP x p) ∧ Ext w1 wr) (fun iv jv _ _ => (intOf jv).toNat - (intOf iv).toNat)
  case atStart => exact ⟨0, L.length, rfl, rfl, by omega, by omega, fun k x h => by omega, fun k x h hx => by have := (List.getElem?_eq_some_iff.1 hx).1; omega, Ext.refl _⟩
  case round =>
    obtain ⟨i, j, rfl, rfl, hij, hj, hlo, hhi, hE⟩ := hrel
    have HLO := Lib.hid hlo
    have HHI := Lib.hid hhi
    clear hlo hhi
    by_cases hlt : i < j
    · obtain ⟨h, hh⟩ : ∃ h : Nat, h = (i + j) / 2 := ⟨_, rfl⟩
      have hhl : h < L.length := by omega
      have hhi2 : ((i : Int) + (j : Int)) / 2 = (h : Int) := by omega
      have hih : i ≤ h ∧ h < j := by omega
      obtain ⟨x, hx⟩ : ∃ x, L[h]? = some x := ⟨_, List.getElem?_eq_getElem hhl⟩
      obtain ⟨b, off, rfl, y0, y1⟩ := HA.out _ x hx
      have y0 := cs_ext hE y0
      have y1 := cs_ext hE y1
      have k0 := cs_ext hE K0.out
      have k1 := cs_ext hE K1.out
      have HX := Lib.hid hx
      have HE := Lib.hid hE
      obtain ⟨o, ho⟩ : ∃ o, o = ordS x.1 x.2 p.1 p.2 := ⟨_, rfl⟩
      have hcon := fun (w' : World) => order_any x.1 x.2 p.1 p.2 w'
      rw [← ho] at hcon
      have HO := Lib.hid ho
      have HCON := Lib.hid hcon
      have HHI2 := Lib.hid hhi2
      clear hx hE ho hcon hh hhi2
      go_wp2_with fail
      rw [HHI2.out]
      refine wp_region_reg 8 false (by kernel_rfl) (by kernel_rfl) ?_
      refine reg_value (fun _ => rfl) ?_ (fun g w' vs hM hE hP => ?_) ?_
      rotate_left
      · (clear hP hM; have zz0 := cs_ext hE y0; have zz1 := cs_ext hE y1; have zz2 := cs_ext hE k0; have zz3 := cs_ext hE k1; go_simp; first | done | rfl)
      refine reg_value (fun _ => rfl) ?_ (fun g w' vs hM hE hP => ?_) ?_
      rotate_left
      · (clear hP hM; have zz0 := cs_ext hE y0; have zz1 := cs_ext hE y1; have zz2 := cs_ext hE k0; have zz3 := cs_ext hE k1; go_simp; first | done | rfl)
      refine reg_value (fun _ => rfl) ?_ (fun g w' vs hM hE hP => ?_) ?_
      rotate_left
      · (clear hP hM; have zz0 := cs_ext hE y0; have zz1 := cs_ext hE y1; have zz2 := cs_ext hE k0; have zz3 := cs_ext hE k1; go_simp; first | done | rfl)
      refine reg_value (fun _ => rfl) ?_ (fun g w' vs hM hE hP => ?_) ?_
      rotate_left
      · (clear hP hM; have zz0 := cs_ext hE y0; have zz1 := cs_ext hE y1; have zz2 := cs_ext hE k0; have zz3 := cs_ext hE k1; go_simp; first | done | rfl)
      refine reg_value (fun _ => rfl) ?_ (fun g w' vs hM hE hP => ?_) ?_
      rotate_left
      · (clear hP hM; have zz0 := cs_ext hE y0; have zz1 := cs_ext hE y1; have zz2 := cs_ext hE k0; have zz3 := cs_ext hE k1; go_simp; first | done | rfl)
      refine reg_value (fun _ => rfl) ?_ (fun g w' vs hM hE hP => ?_) ?_
      rotate_left
      · (clear hP hM; have zz0 := cs_ext hE y0; have zz1 := cs_ext hE y1; have zz2 := cs_ext hE k0; have zz3 := cs_ext hE k1; go_simp; first | done | rfl)
      refine reg_const (fun _ => rfl) 48 ?_ (fun g w' vs hM hE hP => ?_) ?_
      rotate_left
      · (clear hP hM; have zz0 := cs_ext hE y0; have zz1 := cs_ext hE y1; have zz2 := cs_ext hE k0; have zz3 := cs_ext hE k1; go_simp; first | done | exact ⟨rfl, rfl⟩ | rfl)
      apply Exists.intro
      refine And.intro (fun g w' vs hM hE hP => ?_) ?_
      · exact HCON.out _
      refine reg_value (fun _ => rfl) ?_ (fun g w' vs hM hE hP => ?_) ?_
      rotate_left
      · (clear hP hM; have zz0 := cs_ext hE y0; have zz1 := cs_ext hE y1; have zz2 := cs_ext hE k0; have zz3 := cs_ext hE k1; go_simp; first | done | rfl)
      intro g wz hE2 hF hQ
      simp only [List.drop_succ_cons, List.drop_zero, Act.put, List.setIfInBounds_toArray, List.set_cons_succ, List.set_cons_zero]
      clear hF hQ y0 y1 k0 k1
      have HE2 := Lib.hid (HE.out.trans hE2)
      clear hE2
      by_cases hneg : o < 0
      · have e1 : decide (o < 0) = true := decide_eq_true hneg
        have HLT : Hid (ltP x p) := Lib.hid (ord_lt.1 (by rw [← HO.out]; exact hneg))
        go_wp2_with fail
        go_roundw
        case rel => exact ⟨h + 1, j, by go_num, rfl, by omega, by omega, fun k y hk hy => by
          rcases Nat.lt_or_ge k h with h' | h'
          · exact ltP_trans (sorted_get HS.out hy HX.out h') HLT.out
          · have : k = h := by omega
            subst this
            rw [HX.out] at hy; cases hy; exact HLT.out, HHI.out, HE2.out⟩
        case measure => simp [intOf]; omega
      · have e1 : decide (o < 0) = false := decide_eq_false hneg
        have HGE : Hid (¬ ltP x p) := Lib.hid (fun h' => hneg (by rw [HO.out]; exact ord_lt.2 h'))
        go_wp2_with fail
        go_roundw
        case rel => exact ⟨i, h, rfl, rfl, by omega, by omega, HLO.out, fun k y hk hy hlt' => by
          rcases Nat.lt_or_ge h k with h' | h'
          · exact HGE.out (ltP_trans (sorted_get HS.out HX.out hy h') hlt')
          · have : k = h := by omega
            subst this
            rw [HX.out] at hy; cases hy; exact HGE.out hlt', HE2.out⟩
        case measure => simp [intOf]; omega
    · have hije : j = i := by omega
      subst hije
      by_cases hil : j < L.length
      · obtain ⟨x, hx⟩ : ∃ x, L[j]? = some x := ⟨_, List.getElem?_eq_getElem hil⟩
        obtain ⟨b, off, rfl, y0, y1⟩ := HA.out _ x hx
        have y0 := cs_ext hE y0
        have y1 := cs_ext hE y1
        have k0 := cs_ext hE K0.out
        have k1 := cs_ext hE K1.out
        have HX := Lib.hid hx
        have HE := Lib.hid hE
        obtain ⟨o, ho⟩ : ∃ o, o = ordS x.1 x.2 p.1 p.2 := ⟨_, rfl⟩
        have hcon := fun (w' : World) => order_any x.1 x.2 p.1 p.2 w'
        rw [← ho] at hcon
        have HO := Lib.hid ho
        have HCON := Lib.hid hcon
        have HR : Hid ((o == 0) = decide (p ∈ L)) := Lib.hid (by
          rw [Bool.eq_iff_iff, beq_iff_eq, decide_eq_true_eq, HO.out, ord_eq]
          constructor
          · rintro rfl; exact List.mem_of_getElem? HX.out
          · intro hp
            obtain ⟨k, hk⟩ := List.mem_iff_getElem?.1 hp
            rcases Nat.lt_trichotomy k j with h | h | h
            · exact absurd (HLO.out k p h hk) ltP_irrefl
            · subst h; rw [HX.out] at hk; cases hk; rfl
            · exact absurd (sorted_get HS.out HX.out hk h) (HHI.out j x (Nat.le_refl _) HX.out))
        have hilz : (j : Int) < (L.length : Int) := by omega
        have e1 : decide ((j : Int) < (L.length : Int)) = true := decide_eq_true hilz
        clear hx hE ho hcon
        go_wp2_with fail
        refine wp_region_reg 16 false (by kernel_rfl) (by kernel_rfl) ?_
        refine reg_value (fun _ => rfl) ?_ (fun g w' vs hM hE hP => ?_) ?_
        rotate_left
        · (clear hP hM; have zz0 := cs_ext hE y0; have zz1 := cs_ext hE y1; have zz2 := cs_ext hE k0; have zz3 := cs_ext hE k1; go_simp; first | done | rfl)
        refine reg_value (fun _ => rfl) ?_ (fun g w' vs hM hE hP => ?_) ?_
        rotate_left
        · (clear hP hM; have zz0 := cs_ext hE y0; have zz1 := cs_ext hE y1; have zz2 := cs_ext hE k0; have zz3 := cs_ext hE k1; go_simp; first | done | rfl)
        refine reg_value (fun _ => rfl) ?_ (fun g w' vs hM hE hP => ?_) ?_
        rotate_left
        · (clear hP hM; have zz0 := cs_ext hE y0; have zz1 := cs_ext hE y1; have zz2 := cs_ext hE k0; have zz3 := cs_ext hE k1; go_simp; first | done | rfl)
        refine reg_value (fun _ => rfl) ?_ (fun g w' vs hM hE hP => ?_) ?_
        rotate_left
        · (clear hP hM; have zz0 := cs_ext hE y0; have zz1 := cs_ext hE y1; have zz2 := cs_ext hE k0; have zz3 := cs_ext hE k1; go_simp; first | done | rfl)
        refine reg_value (fun _ => rfl) ?_ (fun g w' vs hM hE hP => ?_) ?_
        rotate_left
        · (clear hP hM; have zz0 := cs_ext hE y0; have zz1 := cs_ext hE y1; have zz2 := cs_ext hE k0; have zz3 := cs_ext hE k1; go_simp; first | done | rfl)
        refine reg_value (fun g => by go_simp) ?_ (fun g w' vs hM hE hP => ?_) ?_
        rotate_left
        · (clear hP hM; have zz0 := cs_ext hE y0; have zz1 := cs_ext hE y1; have zz2 := cs_ext hE k0; have zz3 := cs_ext hE k1; go_simp; first | done | rfl)
        refine reg_value (fun g => by go_simp) ?_ (fun g w' vs hM hE hP => ?_) ?_
        rotate_left
        · (clear hP hM; have zz0 := cs_ext hE y0; have zz1 := cs_ext hE y1; have zz2 := cs_ext hE k0; have zz3 := cs_ext hE k1; go_simp; first | done | rfl)
        refine reg_value (fun g => by go_simp) ?_ (fun g w' vs hM hE hP => ?_) ?_
        rotate_left
        · (clear hP hM; have zz0 := cs_ext hE y0; have zz1 := cs_ext hE y1; have zz2 := cs_ext hE k0; have zz3 := cs_ext hE k1; go_simp; first | done | rfl)
        refine reg_value (fun g => by go_simp) ?_ (fun g w' vs hM hE hP => ?_) ?_
        rotate_left
        · (clear hP hM; have zz0 := cs_ext hE y0; have zz1 := cs_ext hE y1; have zz2 := cs_ext hE k0; have zz3 := cs_ext hE k1; go_simp; first | done | rfl)
        refine reg_value (fun g => by go_simp) ?_ (fun g w' vs hM hE hP => ?_) ?_
        rotate_left
        · (clear hP hM; have zz0 := cs_ext hE y0; have zz1 := cs_ext hE y1; have zz2 := cs_ext hE k0; have zz3 := cs_ext hE k1; go_simp; first | done | rfl)
        refine reg_value (fun g => by go_simp) ?_ (fun g w' vs hM hE hP => ?_) ?_
        rotate_left
        · (clear hP hM; have zz0 := cs_ext hE y0; have zz1 := cs_ext hE y1; have zz2 := cs_ext hE k0; have zz3 := cs_ext hE k1; go_simp; first | done | rfl)
        refine reg_const (fun g => by go_simp) 48 ?_ (fun g w' vs hM hE hP => ?_) ?_
        rotate_left
        · (clear hP hM; have zz0 := cs_ext hE y0; have zz1 := cs_ext hE y1; have zz2 := cs_ext hE k0; have zz3 := cs_ext hE k1; go_simp; first | done | exact ⟨rfl, rfl⟩ | rfl)
        apply Exists.intro
        refine And.intro (fun g w' vs hM hE hP => ?_) ?_
        · exact HCON.out _
        refine reg_value (fun g => by go_simp) ?_ (fun g w' vs hM hE hP => ?_) ?_
        rotate_left
        · (clear hP hM; have zz0 := cs_ext hE y0; have zz1 := cs_ext hE y1; have zz2 := cs_ext hE k0; have zz3 := cs_ext hE k1; go_simp; first | done | rfl)
        refine reg_value (fun _ => rfl) ?_ (fun g w' vs hM hE hP => ?_) ?_
        rotate_left
        · (clear hP hM; have zz0 := cs_ext hE y0; have zz1 := cs_ext hE y1; have zz2 := cs_ext hE k0; have zz3 := cs_ext hE k1; go_simp; first | done | rfl)
        refine reg_value (fun _ => rfl) ?_ (fun g w' vs hM hE hP => ?_) ?_
        rotate_left
        · (clear hP hM; have zz0 := cs_ext hE y0; have zz1 := cs_ext hE y1; have zz2 := cs_ext hE k0; have zz3 := cs_ext hE k1; go_simp; first | done | rfl)
        refine reg_value (fun _ => rfl) ?_ (fun g w' vs hM hE hP => ?_) ?_
        rotate_left
        · (clear hP hM; have zz0 := cs_ext hE y0; have zz1 := cs_ext hE y1; have zz2 := cs_ext hE k0; have zz3 := cs_ext hE k1; go_simp; first | done | rfl)
        intro g wz hE2 hF hQ
        simp only [List.drop_succ_cons, List.drop_zero, Act.put, List.setIfInBounds_toArray, List.set_cons_succ, List.set_cons_zero]
        clear hF hQ y0 y1 k0 k1
        have HE2 := Lib.hid (HE.out.trans hE2)
        clear hE2
        go_wp2_with fail
        go_ret2
        exact ⟨_, by rw [← HR.out]; rfl, HE1.out.trans HE2.out⟩
      · have HR : Hid (decide (p ∈ L) = false) := Lib.hid (by
          rw [decide_eq_false_iff_not]
          intro hp
          obtain ⟨k, hk⟩ := List.mem_iff_getElem?.1 hp
          have := (List.getElem?_eq_some_iff.1 hk).1
          exact ltP_irrefl (HLO.out k p (by omega) hk))
        have HE := Lib.hid hE
        have e1 : decide ((j : Int) < (L.length : Int)) = false := decide_eq_false (by omega)
        clear hE
        go_wp2_with fail
        refine wp_region_reg 16 false (by kernel_rfl) (by kernel_rfl) ?_
        refine reg_value (fun _ => rfl) ?_ (fun g w' vs hM hE hP => ?_) ?_
        rotate_left
        · (clear hP hM; go_simp; first | done | rfl)
        refine reg_value (fun _ => rfl) ?_ (fun g w' vs hM hE hP => ?_) ?_
        rotate_left
        · (clear hP hM; go_simp; first | done | rfl)
        refine reg_value (fun _ => rfl) ?_ (fun g w' vs hM hE hP => ?_) ?_
        rotate_left
        · (clear hP hM; go_simp; first | done | rfl)
        refine reg_value (fun _ => rfl) ?_ (fun g w' vs hM hE hP => ?_) ?_
        rotate_left
        · (clear hP hM; go_simp; first | done | rfl)
        refine reg_value (fun _ => rfl) ?_ (fun g w' vs hM hE hP => ?_) ?_
        rotate_left
        · (clear hP hM; go_simp; first | done | rfl)
        refine reg_skip (fun g => by go_simp; first | done | (intro h; cases h) | simp [undef]) ?_
        refine reg_skip (fun g => by go_simp; first | done | (intro h; cases h) | simp [undef]) ?_
        refine reg_skip (fun g => by go_simp; first | done | (intro h; cases h) | simp [undef]) ?_
        refine reg_skip (fun g => by go_simp; first | done | (intro h; cases h) | simp [undef]) ?_
        refine reg_skip (fun g => by go_simp; first | done | (intro h; cases h) | simp [undef]) ?_
        refine reg_skip (fun g => by go_simp; first | done | (intro h; cases h) | simp [undef]) ?_
        refine reg_skip (fun g => by go_simp; first | done | (intro h; cases h) | simp [undef]) ?_
        refine reg_skip (fun g => by go_simp; first | done | (intro h; cases h) | simp [undef]) ?_
        refine reg_value (fun _ => rfl) ?_ (fun g w' vs hM hE hP => ?_) ?_
        rotate_left
        · (clear hP hM; go_simp; first | done | rfl)
        refine reg_value (fun _ => rfl) ?_ (fun g w' vs hM hE hP => ?_) ?_
        rotate_left
        · (clear hP hM; go_simp; first | done | rfl)
        refine reg_value (fun _ => rfl) ?_ (fun g w' vs hM hE hP => ?_) ?_
        rotate_left
        · (clear hP hM; go_simp; first | done | rfl)
        intro g wz hE2 hF hQ
        simp only [List.drop_succ_cons, List.drop_zero, Act.put, List.setIfInBounds_toArray, List.set_cons_succ, List.set_cons_zero]
        clear hF hQ
        have HE2 := Lib.hid (HE.out.trans hE2)
        clear hE2
        go_wp2_with fail
        go_ret2
        exact ⟨_, by rw [HR.out]; rfl, HE1.out.trans HE2.out⟩

set_option maxRecDepth 100000 in
set_option maxHeartbeats 1000000 in
theorem closure_any {w : World} {lb : Nat} {a : Option Addr} {cap : Nat} {L : List (Int × Int)} {p : Int × Int} (hb : w.heap[lb]? = some (.cells #[.slice a L.length cap] 48)) (hA : PairsA w a L) (hs : L.Pairwise ltP) (hl : L.length ≤ 4000000000000000000) :
    Calls Try.prog 51 #[.agg #[.int .i64 p.1, .int .i64 p.2], .pointer (some ⟨lb, 0, none⟩)] w fun e w' => e = .returned (.bool (decide (p ∈ L))) ∧ Ext w w' := by
  have hlt := (Array.getElem?_eq_some_iff.1 hb).1
  have hcon := search_any (p := p) (cap := cap) (hA.ext (Ext.alloc w (.cells #[.int .i64 p.1, .int .i64 p.2] 53))) hs hl
  have z0 : w.cell? ⟨lb, 0, none⟩ = some (.slice a L.length cap) := by rw [cellc hb]; rfl
  have HCON := Lib.hid hcon
  clear hcon hb hA hs
  go_enter Try.func51, Try.ntmps51
  go_wp2_with fail
  refine HCON.out.mono ?_
  rintro e w2 ⟨i, rfl, hE⟩
  have HE := Lib.hid hE.al
  clear hE z0
  go_wp2_with fail
  go_ret
  exact ⟨rfl, HE.out⟩

end Go.Proofs.Ythoelnoahfedmaa
