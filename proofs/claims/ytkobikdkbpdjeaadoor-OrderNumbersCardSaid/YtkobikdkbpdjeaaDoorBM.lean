/- Contracts: slices.Sorted(slices.Values(x)), Multiset. -/
import Derived.Test.YtkobikdkbpdjeaaDoorBB
import Derived.Test.YtkobikdkbpdjeaaDoorB3
import Derived.Test.YtkobikdkbpdjeaaDoorBJ
namespace Go.Proofs.YtkobikdkbpdjeaaDoor
open Go Go.RowKit Go.Maps Go.Sort Go.Shelf Go.Proofs
set_option linter.unusedVariables false
set_option linter.unusedSimpArgs false

theorem row_lsI {w : World} {base n : Nat} {v : Value} {C : List Int} (h : w.ownsRow base 3 1 v n (C.map encZ)) (hn : n = C.length) (hC : ∀ x ∈ C, I64 x) : LsI w v C := by
 rcases h.2 with ⟨rfl, h0⟩ | ⟨g, cap, cur, rfl, hb, hg, h1, h2, h3, h4⟩
 · have : C = [] := List.eq_nil_of_length_eq_zero (by omega)
   subst this
   exact ⟨none, 0, rfl, Nat.le_refl _, by simp [maxLen], fun i x hi => by simp at hi, fun x hx => by simp at hx⟩
 · subst hn
   refine ⟨_, _, rfl, h1, h2, fun i x hi => ⟨g, 0, rfl, ?_⟩, hC⟩
   have hi' : cur[i]? = some (.int .i64 x) := by
    have e : (cur.toList.take (C.length * 1))[i]? = (C.map encZ)[i]? := by rw [h4]
    have hil := (List.getElem?_eq_some_iff.1 hi).1
    rw [List.getElem?_take_of_lt (by omega), List.getElem?_map, hi] at e
    simpa [encZ] using e
   rw [Nat.zero_add, World.cell?]
   simp [hg, hi']
def ascI (l : List Int) : List Int := l.mergeSort (fun x y => decide (x ≤ y))
theorem ascI_perm (l : List Int) : (ascI l).Perm l := List.mergeSort_perm _ _
theorem ascI_len (l : List Int) : (ascI l).length = l.length := (ascI_perm l).length_eq

theorem appendSeq_any {w w1 : World} {C : List Int} {a : Option Addr} {cap : Nat} (hC : C.length ≤ 1000) (hI : LsI w (.slice a C.length cap) C) (hw : w1 = w.alloc (.cells #[.slice a C.length cap] 23)) :
 Calls Tryd.prog 55 #[.slice none 0 0, .func (.func 44) #[] #[.pointer (some ⟨w.heap.size, 0, none⟩)]] w1 fun e w' => ∃ v, e = .returned v ∧ w'.ownsRow w1.heap.size 3 1 v C.length (C.map encZ) ∧ Ext w1 w' := by
 refine (callsIn_wide (n := 5)).1 ((appendSeqB 5 (by omega) 44 _ (enters_of Tryd.func44 (by kernel_rfl) rfl) (fun ss => ss = C) C.length (by unfold maxLen; omega) (by omega) w1 (values_gives 4 (by omega) hI hw)).mono ?_)
 rintro e w' ⟨v, ss, rfl, rfl, h1, h2, h3⟩
 exact ⟨v, rfl, h1, h3⟩
set_option maxRecDepth 100000 in
set_option maxHeartbeats 1000000 in
theorem collect_any {w w1 : World} {C : List Int} {a : Option Addr} {cap : Nat} (hC : C.length ≤ 1000) (hI : LsI w (.slice a C.length cap) C) (hw : w1 = w.alloc (.cells #[.slice a C.length cap] 23)) :
 Calls Tryd.prog 42 #[.func (.func 44) #[] #[.pointer (some ⟨w.heap.size, 0, none⟩)]] w1 fun e w' => ∃ v, e = .returned v ∧ w'.ownsRow w1.heap.size 3 1 v C.length (C.map encZ) ∧ Ext w1 w' := by
 have HA := Lib.hid (appendSeq_any hC hI hw)
 clear hI hw hC
 go_enter Tryd.func42, Tryd.ntmps42
 go_wp2_with (go_at_call 55; refine HA.out.mono ?_; rintro e w' ⟨v, rfl, h1, h2⟩)
 go_ret
 exact ⟨v, rfl, h1, h2⟩
set_option maxRecDepth 100000 in
set_option maxHeartbeats 1000000 in
theorem sorted_any {w w1 : World} {C : List Int} {a : Option Addr} {cap : Nat} (hC : C.length ≤ 1000) (hI : LsI w (.slice a C.length cap) C) (hw : w1 = w.alloc (.cells #[.slice a C.length cap] 23)) :
 Calls Tryd.prog 28 #[.func (.func 44) #[] #[.pointer (some ⟨w.heap.size, 0, none⟩)]] w1 fun e w' => ∃ v, e = .returned v ∧ LsI w' v (ascI C) ∧ Ext w1 w' := by
 have HA := Lib.hid (collect_any hC hI hw)
 have hC64 := hI.i64
 have HS64 : Hid (∀ x ∈ ascI C, I64 x) := Lib.hid (fun x hx => hC64 x ((ascI_perm C).subset hx))
 clear hI hw hC64
 go_enter Tryd.func28, Tryd.ntmps28
 go_wp2_with (go_at_call 42; refine HA.out.mono ?_; rintro e w' ⟨v, rfl, hrow, hE⟩)
 rcases hrow.2 with ⟨rfl, hz⟩ | ⟨gb, cp, cur, rfl, hbase, hgb, r1, r2, r3, r4⟩
 · have hss : C = [] := List.eq_nil_of_length_eq_zero hz
   subst hss
   have HSo := Lib.hid (AnyM.slices_Sort_int_none sortI none 0 w')
   go_wp2_with (go_at_call 43; refine HSo.out.mono ?_; rintro e w2 ⟨rfl, rfl⟩)
   go_ret
   exact ⟨_, rfl, row_lsI (C := ascI []) (by simpa [ascI] using hrow) (by simp [ascI]) HS64.out, hE⟩
 · have hH : Holds encZ w' gb 0 C.toArray := holds_of_block_i hgb (by simpa using r4)
   have hgl : gb < w'.heap.size := (Array.getElem?_eq_some_iff.1 hgb).1
   have HSo := Lib.hid (AnyM.slices_Sort_int sortI gb 0 cp C w' hH hgl (by omega))
   have HR := Lib.hid hrow
   have HH := Lib.hid hgb
   have HB := Lib.hid hbase
   have HR3 := Lib.hid r3
   clear hH hrow hgb r4 r3 hgl hbase
   go_wp2_with (go_at_call 43; refine HSo.out.mono ?_; rintro e w2 ⟨rfl, nn, os, rfl⟩)
   go_ret
   refine ⟨_, rfl, row_lsI (C := ascI C) (ownsRow_sorted_i (by simp [ascI_len]) HB.out HH.out r1 r2 HR3.out) (by rw [ascI_len]) HS64.out, ?_⟩
   exact (hE.grown (grownBy_sorted_i _) (fun j hj => by cases hj; exact HB.out))

set_option maxRecDepth 100000 in
set_option maxHeartbeats 1000000 in
theorem values_any {w : World} {a : Option Addr} {n cap : Nat} :
 Calls Tryd.prog 29 #[.slice a n cap] w fun e w' => e = .returned (.func (.func 44) #[] #[.pointer (some ⟨w.heap.size, 0, none⟩)]) ∧ w' = w.alloc (.cells #[.slice a n cap] 23) := by
 go_enter Tryd.func29, Tryd.ntmps29
 go_wp2_with fail
 go_ret
 exact ⟨rfl, rfl⟩
/-- from the end on -/
theorem back_take {L : List Int} {i : Nat} {x : Int} (h : L[i]? = some x) : (L.take (i + 1)).reverse = x :: (L.take i).reverse := by
 rw [int_take h]; simp
theorem lexI_nilL : ∀ (L : List Int), lexI [] L = sgn 0 L.length
 | [] => rfl
 | x :: L => by rw [lexI, sgn, List.length_cons]; push_cast; rw [if_pos (by omega)]
theorem lexI_nilR : ∀ (L : List Int), lexI L [] = sgn L.length 0
 | [] => rfl
 | x :: L => by rw [lexI, sgn, List.length_cons]; push_cast; rw [if_neg (by omega), if_pos (by omega)]
set_option maxRecDepth 100000 in
set_option maxHeartbeats 1000000 in
theorem Multiset_any {w : World} {A B : List Int} {a b : Option Addr} {ca cb : Nat} (hA : A.length ≤ 1000) (hB : B.length ≤ 1000) (hIA : LsI w (.slice a A.length ca) A) (hIB : LsI w (.slice b B.length cb) B) :
 Calls Tryd.prog 15 #[.slice a A.length ca, .slice b B.length cb] w fun e w' => e = .returned (.int .i64 (msI A B)) ∧ Ext w w' := by
 have HIA := Lib.hid hIA
 have HIB := Lib.hid hIB
 have HV : Hid (∃ V, V = msI A B) := Lib.hid ⟨_, rfl⟩
 obtain ⟨V, hV⟩ := HV.out
 rw [← hV]
 unfold msI desc at hV
 change V = lexI (ascI A).reverse (ascI B).reverse at hV
 have HVE := Lib.hid hV
 clear hV HV hIA hIB
 go_enter Tryd.func15, Tryd.ntmps15
 go_upto_region 2 with (first
  | (go_at_call 29; refine (values_any).mono ?_; rintro e w' ⟨rfl, rfl⟩)
  | (go_at_call 28; first
      | (refine (sorted_any hA HIA.out rfl).mono ?_; rintro e w2 ⟨v1, rfl, hI1, hE1⟩)
      | (refine (sorted_any hB (HIB.out.ext ((Ext.alloc _ _).trans hE1)) rfl).mono ?_; rintro e w4 ⟨v2, rfl, hI2, hE2⟩)))
 have HE := Lib.hid ((Ext.alloc w _).trans (hE1.trans ((Ext.alloc _ _).trans hE2)))
 have hI1' := hI1.ext ((Ext.alloc _ _).trans hE2)
 obtain ⟨a1, c1, rfl, hl1, hc1, h1, h641⟩ := hI1'
 obtain ⟨a2, c2, rfl, hl2, hc2, h2, h642⟩ := hI2
 unfold maxLen at hc1 hc2
 have hz1 := ascI_len A
 have hz2 := ascI_len B
 obtain ⟨X, hX⟩ : ∃ X, X = ascI A := ⟨_, rfl⟩
 obtain ⟨Y, hY⟩ : ∃ Y, Y = ascI B := ⟨_, rfl⟩
 rw [← hX] at hl1 h1 h641 hz1 HVE
 rw [← hY] at hl2 h2 h642 hz2 HVE
 rw [← hX, ← hY]
 have HI1 := Lib.hid h1
 have HI2 := Lib.hid h2
 clear hE1 hE2 hI1 hX hY h1 h2 h641 h642
 obtain ⟨nx, hnx⟩ : ∃ n, n = X.length := ⟨_, rfl⟩
 obtain ⟨ny, hny⟩ : ∃ n, n = Y.length := ⟨_, rfl⟩
 rw [← hnx] at hl1 hz1
 rw [← hny] at hl2 hz2
 rw [← hnx, ← hny]
 have HNX := Lib.hid hnx
 have HNY := Lib.hid hny
 clear hnx hny
 go_loopw [4, 5, 6, 7] (fun r x y c wr => ∃ (i j cx cy : Nat), x = .slice a1 i cx ∧ y = .slice a2 j cy ∧ i ≤ nx ∧ j ≤ ny ∧ i ≤ cx ∧ j ≤ cy ∧ cx ≤ 9223372036854775807 ∧ cy ≤ 9223372036854775807 ∧ Hid (V = lexI (X.take i).reverse (Y.take j).reverse) ∧ Hid (Ext w4 wr)) (fun r x y c _ => match x with | .slice _ n _ => n | _ => 0)
 case atStart => exact ⟨nx, ny, c1, c2, rfl, rfl, Nat.le_refl _, Nat.le_refl _, hl1, hl2, by omega, by omega, Lib.hid (by rw [HVE.out, HNX.out, HNY.out, List.take_length, List.take_length]), Lib.hid (Ext.refl _)⟩
 case round =>
  obtain ⟨i, j, cx, cy, rfl, rfl, hi, hj, hicx, hjcy, hcx, hcy, HVi, HEr⟩ := hrel
  by_cases hi0 : 0 < i
  · by_cases hj0 : 0 < j
    · obtain ⟨i', hi'⟩ : ∃ i', i = i' + 1 := ⟨i - 1, by omega⟩
      obtain ⟨j', hj'⟩ : ∃ j', j = j' + 1 := ⟨j - 1, by omega⟩
      have HI' := Lib.hid hi'
      have HJ' := Lib.hid hj'
      obtain ⟨p, hp⟩ : ∃ p, X[i']? = some p := ⟨_, List.getElem?_eq_getElem (by have := HNX.out; omega)⟩
      obtain ⟨q, hq⟩ : ∃ q, Y[j']? = some q := ⟨_, List.getElem?_eq_getElem (by have := HNY.out; omega)⟩
      obtain ⟨pb, po, rfl, x0⟩ := (HI1.out.ext HEr.out) i' p hp
      obtain ⟨qb, qo, rfl, y0⟩ := (HI2.out.ext HEr.out) j' q hq
      have ei : i - 1 = i' := by omega
      have ej : j - 1 = j' := by omega
      rw [← ei] at x0
      rw [← ej] at y0
      have HV2 : Hid (V = orE (sgn p q) (lexI (X.take i').reverse (Y.take j').reverse)) := Lib.hid (by rw [HVi.out, HI'.out, HJ'.out, back_take hp, back_take hq, lexI])
      have hi1 : (1 : Int) ≤ (i : Int) := by omega
      have hi2 : (i : Int) - 1 < (i : Int) := by omega
      have hj2 : (j : Int) - 1 < (j : Int) := by omega
      have hj1 : (1 : Int) ≤ (j : Int) := by omega
      have hwi : IntKind.i64.wrap ((i : Int) - 1) = (i : Int) - 1 := by rw [IntKind.wrap_i64]; omega
      have hwj : IntKind.i64.wrap ((j : Int) - 1) = (j : Int) - 1 := by rw [IntKind.wrap_i64]; omega
      obtain ⟨c, hc⟩ : ∃ c, c = sgn p q := ⟨_, rfl⟩
      have HCE := Lib.hid hc
      have HCM : Hid (∀ w', Calls Tryd.prog 30 #[.int .i64 p, .int .i64 q] w' fun e w'' => e = .returned (.int .i64 c) ∧ Ext w' w'') := Lib.hid (fun w' => by rw [hc]; exact cmp_any)
      rw [← hc] at HV2
      clear hp hq hi' hj' hc ei ej
      go_upto_region 3 with fail
      have HFCT := Lib.hid (And.intro x0 y0)
      refine wp_region_reg 13 false (by kernel_rfl) (by kernel_rfl) ?_
      refine reg_value (fun _ => rfl) ?_ (fun g w' vs hM hE hP => ?_) ?_
      rotate_left
      · (clear hP hM; go_simp; first | done | rfl)
      refine reg_value (fun _ => rfl) ?_ (fun g w' vs hM hE hP => ?_) ?_
      rotate_left
      · (clear hP hM; go_simp; first | done | rfl)
      refine reg_value (fun _ => rfl) ?_ (fun g w' vs hM hE hP => ?_) ?_
      rotate_left
      · (clear hP hM; go_simp; first | done | rfl)
      refine reg_value (fun _ => rfl) ?_ (fun g w' vs hM hE hP => ?_) ?_
      rotate_left
      · (clear hP hM; go_simp; first | done | rfl)
      refine reg_value (fun _ => rfl) ?_ (fun g w' vs hM hE hP => ?_) ?_
      rotate_left
      · (clear hP hM; go_simp; first | done | rfl)
      refine reg_value (fun _ => rfl) ?_ (fun g w' vs hM hE hP => ?_) ?_
      rotate_left
      · (clear hP hM; have ⟨z0, z1⟩ := cs_e2 hE HFCT.out; go_simp; first | done | rfl)
      refine reg_value (fun _ => rfl) ?_ (fun g w' vs hM hE hP => ?_) ?_
      rotate_left
      · (clear hP hM; go_simp; first | done | rfl)
      refine reg_value (fun _ => rfl) ?_ (fun g w' vs hM hE hP => ?_) ?_
      rotate_left
      · (clear hP hM; go_simp; first | done | rfl)
      refine reg_value (fun _ => rfl) ?_ (fun g w' vs hM hE hP => ?_) ?_
      rotate_left
      · (clear hP hM; go_simp; first | done | rfl)
      refine reg_value (fun _ => rfl) ?_ (fun g w' vs hM hE hP => ?_) ?_
      rotate_left
      · (clear hP hM; go_simp; first | done | rfl)
      refine reg_value (fun _ => rfl) ?_ (fun g w' vs hM hE hP => ?_) ?_
      rotate_left
      · (clear hP hM; go_simp; first | done | rfl)
      refine reg_value (fun _ => rfl) ?_ (fun g w' vs hM hE hP => ?_) ?_
      rotate_left
      · (clear hP hM; have ⟨z0, z1⟩ := cs_e2 hE HFCT.out; go_simp; first | done | rfl)
      refine reg_const (fun _ => rfl) 30 ?_ (fun g w' vs hM hE hP => ?_) ?_
      rotate_left
      · (clear hP hM; have ⟨z0, z1⟩ := cs_e2 hE HFCT.out; go_simp; first | done | exact ⟨rfl, rfl⟩ | rfl)
      apply Exists.intro
      refine And.intro (fun g w' vs hM hE hP => ?_) ?_
      · exact HCM.out _
      intro g w5 hE5 hF5 hQ5
      simp only [List.drop_succ_cons, List.drop_zero, Act.put, List.setIfInBounds_toArray, List.set_cons_succ, List.set_cons_zero]
      have HE5 := Lib.hid (HEr.out.trans hE5)
      clear hE5 hF5 hQ5 x0 y0
      by_cases hc0 : c = 0
      · subst hc0
        have hs1 : (i : Int) - 1 ≤ (cx : Int) := by omega
        have hs2 : (j : Int) - 1 ≤ (cy : Int) := by omega
        have HV3 : Hid (V = lexI (X.take (i - 1)).reverse (Y.take (j - 1)).reverse) := Lib.hid (by
         have e1 : i - 1 = i' := by have := HI'.out; omega
         have e2 : j - 1 = j' := by have := HJ'.out; omega
         rw [HV2.out, e1, e2]; rfl)
        go_upto_region 6 with fail
        go_region
        go_roundw
        case rel =>
         refine ⟨_, _, _, _, _, _, _, _, _, _, _, _, _, _, _, _, _, _, _, _, _, _, _, _, _, _, _, _, _, _, _, _, _, _, _, _, _, _, ?_, rfl⟩
         exact ⟨i - 1, j - 1, cx, cy, rfl, rfl, by omega, by omega, by omega, by omega, hcx, hcy, HV3, Lib.hid HE5.out.then_dr⟩
        case measure => simp; omega
      · have HVC : Hid (V = c) := Lib.hid (by rw [HV2.out]; unfold orE; rw [if_neg hc0])
        go_wp2_with fail
        go_ret
        exact ⟨by rw [HVC.out]; rfl, HE.out.trans HE5.out⟩
    · obtain rfl : j = 0 := by omega
      have HVC : Hid (V = sgn (i : Int) 0) := Lib.hid (by
       rw [HVi.out, List.take_zero, List.reverse_nil, lexI_nilR, List.length_reverse, List.length_take, ← HNX.out]
       congr 1
       have := Nat.min_eq_left hi
       omega)
      obtain ⟨c, hc⟩ : ∃ c, c = sgn (i : Int) 0 := ⟨_, rfl⟩
      rw [← hc] at HVC
      have HCM : Hid (∀ w', Calls Tryd.prog 30 #[.int .i64 i, .int .i64 0] w' fun e w'' => e = .returned (.int .i64 c) ∧ Ext w' w'') := Lib.hid (fun w' => by rw [hc]; exact cmp_any)
      clear hc
      go_wp2_with (go_at_call 30; refine (HCM.out _).mono ?_; rintro e w6 ⟨rfl, hE6⟩)
      go_ret
      exact ⟨by rw [HVC.out]; rfl, HE.out.trans (HEr.out.trans hE6)⟩
  · obtain rfl : i = 0 := by omega
    have HVC : Hid (V = sgn 0 (j : Int)) := Lib.hid (by
     rw [HVi.out, List.take_zero, List.reverse_nil, lexI_nilL, List.length_reverse, List.length_take, ← HNY.out]
     congr 1
     have := Nat.min_eq_left hj
     omega)
    obtain ⟨c, hc⟩ : ∃ c, c = sgn 0 (j : Int) := ⟨_, rfl⟩
    rw [← hc] at HVC
    have HCM : Hid (∀ w', Calls Tryd.prog 30 #[.int .i64 0, .int .i64 j] w' fun e w'' => e = .returned (.int .i64 c) ∧ Ext w' w'') := Lib.hid (fun w' => by rw [hc]; exact cmp_any)
    clear hc
    go_wp2_with (go_at_call 30; refine (HCM.out _).mono ?_; rintro e w6 ⟨rfl, hE6⟩)
    go_ret
    exact ⟨by rw [HVC.out]; rfl, HE.out.trans (HEr.out.trans hE6)⟩
end Go.Proofs.YtkobikdkbpdjeaaDoor
