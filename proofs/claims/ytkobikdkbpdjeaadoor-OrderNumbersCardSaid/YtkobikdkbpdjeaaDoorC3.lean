/- Contracts: the reference's order: at, Lex, Precedence, Admissible. -/
import Derived.Test.YtkobikdkbpdjeaaDoorG2
import Derived.Test.YtkobikdkbpdjeaaDoorB7
import Derived.Test.YtkobikdkbpdjeaaDoorB3
namespace Go.Proofs.YtkobikdkbpdjeaaDoor
open Go Go.RowKit
set_option linter.unusedVariables false
set_option linter.unusedSimpArgs false

theorem rnk_drop {L : List ByteArray} {k : Nat} {x s : ByteArray} (h : L[k]? = some x) : rnk (L.drop k) s = if x = s then 0 else if rnk (L.drop (k + 1)) s < 0 then -1 else rnk (L.drop (k + 1)) s + 1 := by
 have hlt := (List.getElem?_eq_some_iff.1 h).1
 rw [List.drop_eq_getElem_cons hlt, (List.getElem?_eq_some_iff.1 h).2, rnk]
theorem tl_eq (x s : ByteArray) : (x.toList == s.toList) = decide (x = s) := by
 by_cases h : x = s
 · subst h; simp
 · rw [decide_eq_false h]; simp only [beq_eq_false_iff_ne, ne_eq]; exact fun e => h (bytes_eq e)
theorem lexI_drop {A B : List Int} {k : Nat} {x y : Int} (hA : A[k]? = some x) (hB : B[k]? = some y) : lexI (A.drop k) (B.drop k) = orE (sgn x y) (lexI (A.drop (k + 1)) (B.drop (k + 1))) := by
 have hla := (List.getElem?_eq_some_iff.1 hA).1
 have hlb := (List.getElem?_eq_some_iff.1 hB).1
 rw [List.drop_eq_getElem_cons hla, List.drop_eq_getElem_cons hlb, (List.getElem?_eq_some_iff.1 hA).2, (List.getElem?_eq_some_iff.1 hB).2, lexI]
theorem lexI_end : ∀ {A B : List Int}, A = [] ∨ B = [] → lexI A B = sgn A.length B.length
 | [], [], _ => rfl
 | [], y :: B, _ => by rw [lexI, sgn, List.length_cons, List.length_nil]; push_cast; rw [if_pos (by omega)]
 | x :: A, [], _ => by rw [lexI, sgn, List.length_cons, List.length_nil]; push_cast; rw [if_neg (by omega), if_pos (by omega)]
 | _ :: _, _ :: _, h => by simp at h
set_option maxRecDepth 100000 in
set_option maxHeartbeats 2000000 in
theorem RLex_any {w : World} {S S' : Nat → Prop} {a b : Option Addr} {n m ca cb : Nat} {A B : List Int} (hA : LsG elI w S (.slice a n ca) A) (hB : LsG elI w S' (.slice b m cb) B) :
 Calls Tryd.prog 17 #[.slice a n ca, .slice b m cb] w fun e w' => e = .returned (.int .i64 (lexI A B)) ∧ Ext w w' := by
 obtain ⟨rfl, hl, hc⟩ := hA.len
 obtain ⟨rfl, hl', hc'⟩ := hB.len
 unfold maxLen at hc hc'
 have HA := Lib.hid hA
 have HB := Lib.hid hB
 clear hA hB
 obtain ⟨V, hV⟩ : ∃ V, V = lexI A B := ⟨_, rfl⟩
 rw [← hV]
 have HVE := Lib.hid hV
 clear hV
 go_enter Tryd.func17, Tryd.ntmps17
 go_wp2_with fail
 go_loopw [4, 5] (fun r kv wr => ∃ k : Nat, kv = .int .i64 k ∧ k ≤ A.length ∧ k ≤ B.length ∧ Hid (V = lexI (A.drop k) (B.drop k)) ∧ Hid (Ext w wr)) (fun r kv _ => A.length - (intOf kv).toNat)
 case atStart => exact ⟨0, rfl, by omega, by omega, Lib.hid (by rw [HVE.out]; simp), Lib.hid (Ext.refl _)⟩
 case round =>
  obtain ⟨k, rfl, hk, hk', HV, HE⟩ := hrel
  by_cases hlt : k < A.length ∧ k < B.length
  · obtain ⟨h1, h2⟩ := hlt
    obtain ⟨x, hx⟩ : ∃ x, A[k]? = some x := ⟨_, List.getElem?_eq_getElem h1⟩
    obtain ⟨y, hy⟩ : ∃ y, B[k]? = some y := ⟨_, List.getElem?_eq_getElem h2⟩
    obtain ⟨xb, xo, rfl, x0, hxs⟩ := (HA.out.ext HE.out).iAt hx
    obtain ⟨yb, yo, rfl, y0, hys⟩ := (HB.out.ext HE.out).iAt hy
    have HX := Lib.hid (lexI_drop hx hy)
    clear hx hy hxs hys
    by_cases hq : x < y
    · have HVV : Hid (V = -1) := Lib.hid (by rw [HV.out, HX.out]; unfold orE sgn; rw [if_pos hq]; rfl)
      go_upto_region 4 with fail
      have HFCT := Lib.hid (And.intro x0 y0)
      refine wp_region_reg 9 false (by kernel_rfl) (by kernel_rfl) ?_
      refine reg_value (fun _ => rfl) ?_ (fun g w' vs hM hE hP => ?_) ?_
      rotate_left
      · (clear hP hM; go_simp; first | done | rfl)
      refine reg_value (fun _ => rfl) ?_ (fun g w' vs hM hE hP => ?_) ?_
      rotate_left
      · (clear hP hM; go_simp; first | done | rfl)
      refine reg_value (fun _ => rfl) ?_ (fun g w' vs hM hE hP => ?_) ?_
      rotate_left
      · (clear hP hM; go_simp; first | done | rfl)
      refine reg_value (fun _ => rfl) ?_ (fun g w' vs hM hE hP => ?_) ?_
      rotate_left
      · (clear hP hM; have ⟨z0, z1⟩ := cs_e2 hE HFCT.out; go_simp; first | done | rfl)
      refine reg_value (fun _ => rfl) ?_ (fun g w' vs hM hE hP => ?_) ?_
      rotate_left
      · (clear hP hM; go_simp; first | done | rfl)
      refine reg_value (fun _ => rfl) ?_ (fun g w' vs hM hE hP => ?_) ?_
      rotate_left
      · (clear hP hM; go_simp; first | done | rfl)
      refine reg_value (fun _ => rfl) ?_ (fun g w' vs hM hE hP => ?_) ?_
      rotate_left
      · (clear hP hM; go_simp; first | done | rfl)
      refine reg_value (fun _ => rfl) ?_ (fun g w' vs hM hE hP => ?_) ?_
      rotate_left
      · (clear hP hM; have ⟨z0, z1⟩ := cs_e2 hE HFCT.out; go_simp; first | done | rfl)
      refine reg_value (fun _ => rfl) ?_ (fun g w' vs hM hE hP => ?_) ?_
      rotate_left
      · (clear hP hM; go_simp; first | done | rfl)
      intro g w3 hE3 hF hQ
      simp only [List.drop_succ_cons, List.drop_zero, Act.put, List.setIfInBounds_toArray, List.set_cons_succ, List.set_cons_zero]
      have HE3 := Lib.hid (HE.out.trans hE3)
      clear hE3 hF hQ
      go_wp2_with fail
      go_ret
      exact ⟨by rw [HVV.out]; rfl, HE3.out⟩
    · go_upto_region 4 with fail
      have HFCT := Lib.hid (And.intro x0 y0)
      refine wp_region_reg 9 false (by kernel_rfl) (by kernel_rfl) ?_
      refine reg_value (fun _ => rfl) ?_ (fun g w' vs hM hE hP => ?_) ?_
      rotate_left
      · (clear hP hM; go_simp; first | done | rfl)
      refine reg_value (fun _ => rfl) ?_ (fun g w' vs hM hE hP => ?_) ?_
      rotate_left
      · (clear hP hM; go_simp; first | done | rfl)
      refine reg_value (fun _ => rfl) ?_ (fun g w' vs hM hE hP => ?_) ?_
      rotate_left
      · (clear hP hM; go_simp; first | done | rfl)
      refine reg_value (fun _ => rfl) ?_ (fun g w' vs hM hE hP => ?_) ?_
      rotate_left
      · (clear hP hM; have ⟨z0, z1⟩ := cs_e2 hE HFCT.out; go_simp; first | done | rfl)
      refine reg_value (fun _ => rfl) ?_ (fun g w' vs hM hE hP => ?_) ?_
      rotate_left
      · (clear hP hM; go_simp; first | done | rfl)
      refine reg_value (fun _ => rfl) ?_ (fun g w' vs hM hE hP => ?_) ?_
      rotate_left
      · (clear hP hM; go_simp; first | done | rfl)
      refine reg_value (fun _ => rfl) ?_ (fun g w' vs hM hE hP => ?_) ?_
      rotate_left
      · (clear hP hM; go_simp; first | done | rfl)
      refine reg_value (fun _ => rfl) ?_ (fun g w' vs hM hE hP => ?_) ?_
      rotate_left
      · (clear hP hM; have ⟨z0, z1⟩ := cs_e2 hE HFCT.out; go_simp; first | done | rfl)
      refine reg_value (fun _ => rfl) ?_ (fun g w' vs hM hE hP => ?_) ?_
      rotate_left
      · (clear hP hM; go_simp; first | done | rfl)
      intro g w3 hE3 hF hQ
      simp only [List.drop_succ_cons, List.drop_zero, Act.put, List.setIfInBounds_toArray, List.set_cons_succ, List.set_cons_zero]
      have x0 := cs_ext hE3 x0
      have y0 := cs_ext hE3 y0
      have HE3 := Lib.hid (HE.out.trans hE3)
      clear hE3 hF hQ
      by_cases hp : y < x
      · have HVV : Hid (V = 1) := Lib.hid (by rw [HV.out, HX.out]; unfold orE sgn; rw [if_neg hq, if_pos hp]; rfl)
        go_upto_region 6 with fail
        have HFCT := Lib.hid (And.intro x0 y0)
        refine wp_region_reg 9 false (by kernel_rfl) (by kernel_rfl) ?_
        refine reg_value (fun _ => rfl) ?_ (fun g w' vs hM hE hP => ?_) ?_
        rotate_left
        · (clear hP hM; go_simp; first | done | rfl)
        refine reg_value (fun _ => rfl) ?_ (fun g w' vs hM hE hP => ?_) ?_
        rotate_left
        · (clear hP hM; go_simp; first | done | rfl)
        refine reg_value (fun _ => rfl) ?_ (fun g w' vs hM hE hP => ?_) ?_
        rotate_left
        · (clear hP hM; go_simp; first | done | rfl)
        refine reg_value (fun _ => rfl) ?_ (fun g w' vs hM hE hP => ?_) ?_
        rotate_left
        · (clear hP hM; have ⟨z0, z1⟩ := cs_e2 hE HFCT.out; go_simp; first | done | rfl)
        refine reg_value (fun _ => rfl) ?_ (fun g w' vs hM hE hP => ?_) ?_
        rotate_left
        · (clear hP hM; go_simp; first | done | rfl)
        refine reg_value (fun _ => rfl) ?_ (fun g w' vs hM hE hP => ?_) ?_
        rotate_left
        · (clear hP hM; go_simp; first | done | rfl)
        refine reg_value (fun _ => rfl) ?_ (fun g w' vs hM hE hP => ?_) ?_
        rotate_left
        · (clear hP hM; go_simp; first | done | rfl)
        refine reg_value (fun _ => rfl) ?_ (fun g w' vs hM hE hP => ?_) ?_
        rotate_left
        · (clear hP hM; have ⟨z0, z1⟩ := cs_e2 hE HFCT.out; go_simp; first | done | rfl)
        refine reg_value (fun _ => rfl) ?_ (fun g w' vs hM hE hP => ?_) ?_
        rotate_left
        · (clear hP hM; go_simp; first | done | rfl)
        intro g w4 hE4 hF hQ
        simp only [List.drop_succ_cons, List.drop_zero, Act.put, List.setIfInBounds_toArray, List.set_cons_succ, List.set_cons_zero]
        have HE4 := Lib.hid (HE3.out.trans hE4)
        clear hE4 hF hQ
        go_wp2_with fail
        go_ret
        exact ⟨by rw [HVV.out]; rfl, HE4.out⟩
      · have HVV : Hid (V = lexI (A.drop (k + 1)) (B.drop (k + 1))) := Lib.hid (by rw [HV.out, HX.out]; unfold orE sgn; rw [if_neg hq, if_neg hp]; rfl)
        go_upto_region 6 with fail
        have HFCT := Lib.hid (And.intro x0 y0)
        refine wp_region_reg 9 false (by kernel_rfl) (by kernel_rfl) ?_
        refine reg_value (fun _ => rfl) ?_ (fun g w' vs hM hE hP => ?_) ?_
        rotate_left
        · (clear hP hM; go_simp; first | done | rfl)
        refine reg_value (fun _ => rfl) ?_ (fun g w' vs hM hE hP => ?_) ?_
        rotate_left
        · (clear hP hM; go_simp; first | done | rfl)
        refine reg_value (fun _ => rfl) ?_ (fun g w' vs hM hE hP => ?_) ?_
        rotate_left
        · (clear hP hM; go_simp; first | done | rfl)
        refine reg_value (fun _ => rfl) ?_ (fun g w' vs hM hE hP => ?_) ?_
        rotate_left
        · (clear hP hM; have ⟨z0, z1⟩ := cs_e2 hE HFCT.out; go_simp; first | done | rfl)
        refine reg_value (fun _ => rfl) ?_ (fun g w' vs hM hE hP => ?_) ?_
        rotate_left
        · (clear hP hM; go_simp; first | done | rfl)
        refine reg_value (fun _ => rfl) ?_ (fun g w' vs hM hE hP => ?_) ?_
        rotate_left
        · (clear hP hM; go_simp; first | done | rfl)
        refine reg_value (fun _ => rfl) ?_ (fun g w' vs hM hE hP => ?_) ?_
        rotate_left
        · (clear hP hM; go_simp; first | done | rfl)
        refine reg_value (fun _ => rfl) ?_ (fun g w' vs hM hE hP => ?_) ?_
        rotate_left
        · (clear hP hM; have ⟨z0, z1⟩ := cs_e2 hE HFCT.out; go_simp; first | done | rfl)
        refine reg_value (fun _ => rfl) ?_ (fun g w' vs hM hE hP => ?_) ?_
        rotate_left
        · (clear hP hM; go_simp; first | done | rfl)
        intro g w4 hE4 hF hQ
        simp only [List.drop_succ_cons, List.drop_zero, Act.put, List.setIfInBounds_toArray, List.set_cons_succ, List.set_cons_zero]
        have HE4 := Lib.hid (HE3.out.trans hE4)
        clear hE4 hF hQ
        go_wp2_with fail
        go_roundw
        case rel => exact ⟨k + 1, by go_num, by omega, by omega, HVV, HE4⟩
        case measure => simp [intOf]; omega
  · have HVV : Hid (V = sgn A.length B.length) := Lib.hid (by
     rw [HV.out, lexI_end (by rcases Nat.lt_or_ge k A.length with h | h
                              · exact .inr (List.drop_of_length_le (by omega))
                              · exact .inl (List.drop_of_length_le h)), List.length_drop, List.length_drop]
     unfold sgn
     (repeat' split) <;> omega)
    by_cases h1 : k < A.length
    · have h2 : ¬ k < B.length := fun h => hlt ⟨h1, h⟩
      have h3 : ¬ ((A.length : Int) < (B.length : Int)) := by omega
      have h4 : (B.length : Int) < (A.length : Int) := by omega
      have HV1 : Hid (V = 1) := Lib.hid (by rw [HVV.out]; unfold sgn; rw [if_neg h3, if_pos h4])
      clear hlt
      go_wp2_with fail
      go_ret
      exact ⟨by rw [HV1.out]; rfl, HE.out⟩
    · by_cases h3 : ((A.length : Int) < (B.length : Int))
      · have HV1 : Hid (V = -1) := Lib.hid (by rw [HVV.out]; unfold sgn; rw [if_pos h3])
        clear hlt
        go_wp2_with fail
        go_ret
        exact ⟨by rw [HV1.out]; rfl, HE.out⟩
      · have h4 : ¬ ((B.length : Int) < (A.length : Int)) := by omega
        have HV1 : Hid (V = 0) := Lib.hid (by rw [HVV.out]; unfold sgn; rw [if_neg h3, if_neg h4])
        clear hlt
        go_wp2_with fail
        go_ret
        exact ⟨by rw [HV1.out]; rfl, HE.out⟩

theorem take_memS {L : List ByteArray} {k : Nat} {x : ByteArray} {z : ByteArray} (h : L[k]? = some x) : z ∈ L.take (k + 1) ↔ z ∈ L.take k ∨ z = x := by
 rw [List.take_add_one, h]; simp
theorem get_take_mem {L : List ByteArray} {k i : Nat} {x : ByteArray} (h : L[k]? = some x) (hk : k < i) : x ∈ L.take i := by
 refine List.mem_of_getElem? (i := k) ?_
 rw [List.getElem?_take_of_lt hk]; exact h
set_option maxRecDepth 100000 in
set_option maxHeartbeats 2000000 in
theorem RPrec_any {w : World} {S : Nat → Prop} {a : Option Addr} {n cap : Nat} {L : List ByteArray} (hL : LsG elS w S (.slice a n cap) L) :
 Calls Tryd.prog 10 #[.slice a n cap] w fun e w' => e = .returned (.int .i64 (precE L)) ∧ Ext w w' := by
 obtain ⟨rfl, hl, hc⟩ := hL.len
 unfold maxLen at hc
 have HL := Lib.hid hL
 clear hL
 by_cases h40 : 40 < L.length
 · have h40' : (40 : Int) < (L.length : Int) := by omega
   go_enter Tryd.func10, Tryd.ntmps10
   go_wp2_with fail
   go_ret
   exact ⟨by unfold precE; rw [if_pos h40]; rfl, Ext.refl _⟩
 · have h40' : ¬ (40 : Int) < (L.length : Int) := by omega
   have HP : Hid (precE L = precR [] L) := Lib.hid (by unfold precE; rw [if_neg h40])
   have h41 : L.length ≤ 40 := by omega
   clear h40
   go_enter Tryd.func10, Tryd.ntmps10
   go_wp2_with fail
   go_loopw [2, 3, 4] (fun r kv jv wr => ∃ k : Nat, kv = .int .i64 k ∧ k ≤ L.length ∧ Hid (precR [] L = precR (L.take k) (L.drop k)) ∧ Hid (Ext w wr)) (fun r kv jv _ => L.length - (intOf kv).toNat)
   case atStart => exact ⟨0, rfl, by omega, Lib.hid (by simp), Lib.hid (Ext.refl _)⟩
   case round =>
    obtain ⟨k, rfl, hk, HR, HE⟩ := hrel
    by_cases hlt : k < L.length
    · obtain ⟨x, hx⟩ : ∃ x, L[k]? = some x := ⟨_, List.getElem?_eq_getElem hlt⟩
      obtain ⟨xb, xo, rfl, x0, hxs⟩ := (HL.out.ext HE.out).sAt hx
      have HX := Lib.hid (precR_drop hx)
      clear hx
      obtain ⟨z, hz⟩ : ∃ z, z = nameOk x := ⟨_, rfl⟩
      have HN := Lib.hid (RIsName_any x wr hxs)
      rw [← hz] at HN
      have HZ := Lib.hid hz
      clear hz
      cases z with
      | false =>
        go_wp2_with fail
        refine HN.out.mono ?_
        rintro e w2 ⟨rfl, rfl⟩
        go_wp2_with fail
        go_ret
        exact ⟨by rw [HP.out, HR.out, HX.out, if_pos HZ.out.symm]; rfl, HE.out⟩
      | true =>
        go_wp2_with fail
        refine HN.out.mono ?_
        rintro e w2 ⟨rfl, rfl⟩
        go_wp2_with fail
        obtain ⟨w0, hw0⟩ : ∃ w0, w0 = wr := ⟨_, rfl⟩
        rw [← hw0] at HE x0 ⊢
        clear HN
        clear hw0
        go_loopw [2, 4] (fun r jv wr => ∃ j : Nat, jv = .int .i64 j ∧ j ≤ k ∧ Hid (x ∉ L.take j) ∧ Hid (Ext w0 wr)) (fun r jv _ => k - (intOf jv).toNat)
        case atStart => exact ⟨0, rfl, by omega, Lib.hid (by simp), Lib.hid (Ext.refl _)⟩
        case round =>
         obtain ⟨j, rfl, hj, HJ, HE2⟩ := hrel
         have x0 := cs_ext HE2.out x0
         by_cases hjk : j < k
         · obtain ⟨y, hy⟩ : ∃ y, L[j]? = some y := ⟨_, List.getElem?_eq_getElem (by omega)⟩
           obtain ⟨yb, yo, e, y0, hys⟩ := (HL.out.ext (HE.out.trans HE2.out)).sAt hy
           cases e
           have HY := Lib.hid hy
           clear hy
           obtain ⟨q, hq⟩ : ∃ q, q = decide (y = x) := ⟨_, rfl⟩
           have HQ := Lib.hid hq
           have hq2 : (y.toList == x.toList) = q := (tl_eq y x).trans hq.symm
           clear hq
           have hjl : (j : Int) < (L.length : Int) := by omega
           go_upto_region 11 with fail
           have HFCT := Lib.hid (And.intro y0 x0)
           refine wp_region_reg 9 false (by kernel_rfl) (by kernel_rfl) ?_
           refine reg_value (fun _ => rfl) ?_ (fun g w' vs hM hE hP => ?_) ?_
           rotate_left
           · (clear hP hM; go_simp; first | done | rfl)
           refine reg_value (fun _ => rfl) ?_ (fun g w' vs hM hE hP => ?_) ?_
           rotate_left
           · (clear hP hM; go_simp; first | done | rfl)
           refine reg_value (fun _ => rfl) ?_ (fun g w' vs hM hE hP => ?_) ?_
           rotate_left
           · (clear hP hM; go_simp; first | done | rfl)
           refine reg_value (fun _ => rfl) ?_ (fun g w' vs hM hE hP => ?_) ?_
           rotate_left
           · (clear hP hM; have ⟨z0, z1⟩ := cs_e2 hE HFCT.out; go_simp; first | done | rfl)
           refine reg_value (fun _ => rfl) ?_ (fun g w' vs hM hE hP => ?_) ?_
           rotate_left
           · (clear hP hM; go_simp; first | done | rfl)
           refine reg_value (fun _ => rfl) ?_ (fun g w' vs hM hE hP => ?_) ?_
           rotate_left
           · (clear hP hM; go_simp; first | done | rfl)
           refine reg_value (fun _ => rfl) ?_ (fun g w' vs hM hE hP => ?_) ?_
           rotate_left
           · (clear hP hM; go_simp; first | done | rfl)
           refine reg_value (fun _ => rfl) ?_ (fun g w' vs hM hE hP => ?_) ?_
           rotate_left
           · (clear hP hM; have ⟨z0, z1⟩ := cs_e2 hE HFCT.out; go_simp; first | done | rfl)
           refine reg_value (fun _ => rfl) ?_ (fun g w' vs hM hE hP => ?_) ?_
           rotate_left
           · (clear hP hM; go_simp; first | done | rfl)
           intro g w3 hE3 hF hQ
           simp only [List.drop_succ_cons, List.drop_zero, Act.put, List.setIfInBounds_toArray, List.set_cons_succ, List.set_cons_zero]
           have HE3 := Lib.hid (HE2.out.trans hE3)
           clear hE3 hF hQ
           cases q with
           | true =>
             go_wp2_with fail
             go_ret
             exact ⟨by
              rw [HP.out, HR.out, HX.out, if_neg (by rw [← HZ.out]; simp), if_pos ((rnk_mem _ _).2 ?_)]
              · rfl
              · rw [← of_decide_eq_true HQ.out.symm]
                exact get_take_mem HY.out hjk, HE.out.trans HE3.out⟩
           | false =>
             go_wp2_with fail
             go_roundw
             case rel => exact ⟨j + 1, by go_num, by omega, Lib.hid (by
               rw [take_memS HY.out]
               rintro (h | h)
               · exact HJ.out h
               · exact of_decide_eq_false HQ.out.symm h.symm), HE3⟩
             case measure => simp [intOf]; omega
         · have hje : j = k := by omega
           subst hje
           go_wp2_with fail
           go_roundw
           case rel => exact ⟨j + 1, by go_num, by omega, Lib.hid (by
             rw [HR.out, HX.out, if_neg (by rw [← HZ.out]; simp), if_neg (fun h => HJ.out ((rnk_mem _ _).1 h))]), Lib.hid (HE.out.trans HE2.out)⟩
           case measure => simp [intOf]; omega
    · have hke : k = L.length := by omega
      subst hke
      go_wp2_with fail
      go_ret
      exact ⟨by rw [HP.out, HR.out, List.drop_length]; rfl, HE.out⟩

set_option maxRecDepth 100000 in
set_option maxHeartbeats 2000000 in
theorem RAdm_any {w : World} {S S' : Nat → Prop} {a a' : Option Addr} {n cap n' cap' : Nat} {L : List ByteArray} {W : List Int} (hL : LsG elS w S (.slice a n cap) L) (hI : LsG elI w S' (.slice a' n' cap') W) :
 Calls Tryd.prog 13 #[.slice a n cap, .slice a' n' cap'] w fun e w' => e = .returned (.int .i64 (admE L W)) ∧ Ext w w' := by
 obtain ⟨rfl, hl, hc⟩ := hL.len
 obtain ⟨rfl, hl', hc'⟩ := hI.len
 unfold maxLen at hc hc'
 have HL := Lib.hid hL
 have HI := Lib.hid hI
 have HP := Lib.hid (RPrec_any hL)
 obtain ⟨p, hp⟩ : ∃ p, p = precE L := ⟨_, rfl⟩
 rw [← hp] at HP
 have HPE := Lib.hid hp
 clear hL hI hp
 go_enter Tryd.func13, Tryd.ntmps13
 go_wp2_with fail
 refine HP.out.mono ?_
 rintro e w1 ⟨rfl, hE1⟩
 have HE1 := Lib.hid hE1
 clear hE1
 by_cases hp0 : p = 0
 · subst hp0
   by_cases hlen : L.length = W.length
   · have HA : Hid (admE L W = admR W.length 0 W) := Lib.hid (by unfold admE; rw [if_neg (by rw [← HPE.out]; simp), if_neg (by simp [hlen])])
     have hlen' : (L.length : Int) = (W.length : Int) := by omega
     have HLN := Lib.hid hlen
     clear hlen
     go_wp2_with fail
     have HI := Lib.hid (HI.out.ext HE1.out)
     go_loopw [4, 6, 7] (fun r kv lv wr => ∃ k : Nat, kv = .int .i64 k ∧ k ≤ W.length ∧ Hid (admR W.length 0 W = admR W.length k (W.drop k)) ∧ Hid (Ext w1 wr)) (fun r kv lv _ => W.length - (intOf kv).toNat)
     case atStart => exact ⟨0, rfl, by omega, Lib.hid (by simp), Lib.hid (Ext.refl _)⟩
     case round =>
      obtain ⟨k, rfl, hk, HR, HE⟩ := hrel
      clear hlen'
      by_cases hlt : k < W.length
      · obtain ⟨x, hx⟩ : ∃ x, W[k]? = some x := ⟨_, List.getElem?_eq_getElem hlt⟩
        obtain ⟨xb, xo, rfl, x0, hxs⟩ := (HI.out.ext HE.out).iAt hx
        have HX := Lib.hid (admR_drop (n := W.length) hx)
        clear hx hxs
        have hwn : IntKind.i64.wrap ((W.length : Int) - 1) = (W.length : Int) - 1 := by rw [IntKind.wrap_i64]; omega
        by_cases hke : (k : Int) = (W.length : Int) - 1
        · have hkb : ((k : Int) == (W.length : Int) - 1) = true := by simp [hke]
          have HKE := Lib.hid hke
          clear hke
          by_cases hx0 : x < 0
          · go_wp2_with fail
            go_ret
            exact ⟨by rw [HA.out, HR.out, HX.out, if_pos (by omega)]; rfl, HE1.out.trans HE.out⟩
          · by_cases hx1 : 1000 < x
            · go_wp2_with fail
              go_ret
              exact ⟨by rw [HA.out, HR.out, HX.out, if_pos (by omega)]; rfl, HE1.out.trans HE.out⟩
            · go_wp2_with fail
              go_roundw
              case rel => exact ⟨k + 1, by go_num, by omega, Lib.hid (by have := HKE.out; rw [HR.out, HX.out, if_neg (by omega)]), HE⟩
              case measure => simp [intOf]; omega
        · have hkb : ((k : Int) == (W.length : Int) - 1) = false := by simp [hke]
          have HKE := Lib.hid hke
          clear hke
          by_cases hx0 : x < 1
          · go_wp2_with fail
            go_ret
            exact ⟨by have := HKE.out; rw [HA.out, HR.out, HX.out, if_pos (by omega)]; rfl, HE1.out.trans HE.out⟩
          · by_cases hx1 : 1000 < x
            · go_wp2_with fail
              go_ret
              exact ⟨by rw [HA.out, HR.out, HX.out, if_pos (by omega)]; rfl, HE1.out.trans HE.out⟩
            · go_wp2_with fail
              go_roundw
              case rel => exact ⟨k + 1, by go_num, by omega, Lib.hid (by rw [HR.out, HX.out, if_neg (by omega)]), HE⟩
              case measure => simp [intOf]; omega
      · have hke : k = W.length := by omega
        subst hke
        go_wp2_with fail
        go_ret
        exact ⟨by rw [HA.out, HR.out, List.drop_length]; rfl, HE1.out.trans HE.out⟩
   · have hlen' : ¬ (L.length : Int) = (W.length : Int) := by omega
     go_wp2_with fail
     go_ret
     exact ⟨by unfold admE; rw [if_neg (by rw [← HPE.out]; simp), if_pos hlen]; rfl, HE1.out⟩
 · go_wp2_with fail
   go_ret
   exact ⟨by unfold admE; rw [if_pos (by rw [← HPE.out]; exact hp0), ← HPE.out]; rfl, HE1.out⟩
end Go.Proofs.YtkobikdkbpdjeaaDoor
