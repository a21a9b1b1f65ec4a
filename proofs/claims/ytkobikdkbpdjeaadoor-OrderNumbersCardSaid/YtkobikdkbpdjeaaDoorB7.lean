/- Contracts: the errors of precedences and of weights. -/
import Derived.Test.YtkobikdkbpdjeaaDoorB6
namespace Go.Proofs.YtkobikdkbpdjeaaDoor
open Go Go.RowKit
set_option linter.unusedVariables false
set_option linter.unusedSimpArgs false

def precR (pre : List ByteArray) : List ByteArray → Int
 | [] => 0
 | s :: l => if nameOk s = false then 2 else if 0 ≤ rnk pre s then 5 else precR (pre ++ [s]) l
/-- the error of a precedence -/
def precE (l : List ByteArray) : Int := if 40 < l.length then 3 else precR [] l
/-- the error of weights -/
def admR (n : Nat) : Nat → List Int → Int
 | _, [] => 0
 | i, x :: w => if x < 0 ∨ 1000 < x ∨ x = 0 ∧ i + 1 < n then 7 else admR n (i + 1) w
def admE (l : List ByteArray) (w : List Int) : Int := if precE l ≠ 0 then precE l else if l.length ≠ w.length then 6 else admR w.length 0 w
theorem precR_drop {L : List ByteArray} {k : Nat} {x : ByteArray} (h : L[k]? = some x) : precR (L.take k) (L.drop k) = if nameOk x = false then 2 else if 0 ≤ rnk (L.take k) x then 5 else precR (L.take (k + 1)) (L.drop (k + 1)) := by
 have hlt := (List.getElem?_eq_some_iff.1 h).1
 rw [List.drop_eq_getElem_cons hlt, (List.getElem?_eq_some_iff.1 h).2, precR, List.take_add_one, h]
 rfl

set_option maxRecDepth 100000 in
set_option maxHeartbeats 2000000 in
theorem prec_any {w : World} {S : Nat → Prop} {a : Option Addr} {n cap : Nat} {L : List ByteArray} (hW : Words w) (hL : LsG elS w S (.slice a n cap) L) :
 Calls Tryd.prog 8 #[.slice a n cap] w fun e w' => e = .returned (.int .i64 (precE L)) ∧ Ext w w' := by
 obtain ⟨rfl, hl, hc⟩ := hL.len
 unfold maxLen at hc
 have HL := Lib.hid hL
 have HW := Lib.hid hW
 clear hL hW
 by_cases h40 : 40 < L.length
 · have h40' : (40 : Int) < (L.length : Int) := by omega
   go_enter Tryd.func8, Tryd.ntmps8
   go_wp2_with fail
   go_ret
   exact ⟨by unfold precE; rw [if_pos h40]; rfl, Ext.refl _⟩
 · have h40' : ¬ (40 : Int) < (L.length : Int) := by omega
   have HP : Hid (precE L = precR [] L) := Lib.hid (by unfold precE; rw [if_neg h40])
   have h41 : L.length ≤ 40 := by omega
   clear h40
   go_enter Tryd.func8, Tryd.ntmps8
   go_wp2_with fail
   go_loopw [10] (fun kv wr => ∃ k : Nat, kv = .int .i64 k ∧ k ≤ L.length ∧ Hid (precR [] L = precR (L.take k) (L.drop k)) ∧ Hid (Ext w wr)) (fun kv _ => L.length - (intOf kv).toNat)
   case atStart => exact ⟨0, rfl, by omega, Lib.hid (by simp), Lib.hid (Ext.refl _)⟩
   case round =>
    obtain ⟨k, rfl, hk, HR, HE⟩ := hrel
    by_cases hlt : k < L.length
    · obtain ⟨x, hx⟩ : ∃ x, L[k]? = some x := ⟨_, List.getElem?_eq_getElem hlt⟩
      have hL' := HL.out.ext HE.out
      obtain ⟨xb, xo, rfl, x0, hxs⟩ := hL'.sAt hx
      have HX := Lib.hid (precR_drop hx)
      have HLK := Lib.hid (hL'.take (m := k) hk)
      clear hL' hx
      go_wp2_with fail
      refine (name_any (HW.out.ext HE.out) hxs).mono ?_
      rintro e w2 ⟨rfl, hE2⟩
      have HE2 := Lib.hid (HE.out.trans hE2)
      have HLK2 := Lib.hid (HLK.out.ext hE2)
      clear hE2
      obtain ⟨z, hz⟩ : ∃ z, z = nameOk x := ⟨_, rfl⟩
      rw [← hz]
      have HZ := Lib.hid hz
      clear hz
      cases z with
      | false =>
        go_wp2_with fail
        go_ret
        exact ⟨by rw [HP.out, HR.out, HX.out, if_pos HZ.out.symm]; rfl, HE2.out⟩
      | true =>
        go_wp2_with fail
        refine (contains_any HLK2.out).mono ?_
        rintro e w3 ⟨rfl, rfl⟩
        obtain ⟨y, hy⟩ : ∃ y, y = decide (0 ≤ rnk (L.take k) x) := ⟨_, rfl⟩
        rw [← hy]
        have HY := Lib.hid hy
        clear hy
        cases y with
        | true =>
          go_wp2_with fail
          go_ret
          exact ⟨by rw [HP.out, HR.out, HX.out, if_neg (by rw [← HZ.out]; simp), if_pos (of_decide_eq_true HY.out.symm)]; rfl, HE2.out⟩
        | false =>
          go_wp2_with fail
          go_roundw
          case rel => exact ⟨k + 1, by go_num, by omega, Lib.hid (by rw [HR.out, HX.out, if_neg (by rw [← HZ.out]; simp), if_neg (of_decide_eq_false HY.out.symm)]), HE2⟩
          case measure => simp [intOf]; omega
    · have hke : k = L.length := by omega
      subst hke
      go_wp2_with fail
      go_ret
      exact ⟨by rw [HP.out, HR.out, List.drop_length]; rfl, HE.out⟩

theorem admR_drop {W : List Int} {n k : Nat} {x : Int} (h : W[k]? = some x) : admR n k (W.drop k) = if x < 0 ∨ 1000 < x ∨ x = 0 ∧ k + 1 < n then 7 else admR n (k + 1) (W.drop (k + 1)) := by
 have hlt := (List.getElem?_eq_some_iff.1 h).1
 rw [List.drop_eq_getElem_cons hlt, (List.getElem?_eq_some_iff.1 h).2, admR]

set_option maxRecDepth 100000 in
set_option maxHeartbeats 4000000 in
theorem adm_any {w : World} {S S' : Nat → Prop} {a a' : Option Addr} {n cap n' cap' : Nat} {L : List ByteArray} {W : List Int} (hW : Words w) (hL : LsG elS w S (.slice a n cap) L) (hI : LsG elI w S' (.slice a' n' cap') W) :
 Calls Tryd.prog 11 #[.slice a n cap, .slice a' n' cap'] w fun e w' => e = .returned (.int .i64 (admE L W)) ∧ Ext w w' := by
 obtain ⟨rfl, hl, hc⟩ := hL.len
 obtain ⟨rfl, hl', hc'⟩ := hI.len
 unfold maxLen at hc hc'
 have HL := Lib.hid hL
 have HI := Lib.hid hI
 have HP := Lib.hid (prec_any hW hL)
 obtain ⟨p, hp⟩ : ∃ p, p = precE L := ⟨_, rfl⟩
 rw [← hp] at HP
 have HPE := Lib.hid hp
 clear hL hI hW hp
 go_enter Tryd.func11, Tryd.ntmps11
 go_wp2_with fail
 refine HP.out.mono ?_
 rintro e w1 ⟨rfl, hE1⟩
 have HE1 := Lib.hid hE1
 clear hE1
 by_cases hp0 : p = 0
 · by_cases hlen : (L.length : Int) = (W.length : Int)
   · have HA : Hid (admE L W = admR W.length 0 W) := Lib.hid (by unfold admE; rw [← HPE.out, if_neg (by simp [hp0]), if_neg (by simp; omega)])
     subst hp0
     go_wp2_with fail
     go_loopw [20] (fun kv wr => ∃ k : Nat, kv = .int .i64 k ∧ k ≤ W.length ∧ Hid (admR W.length 0 W = admR W.length k (W.drop k)) ∧ Hid (Ext w wr)) (fun kv _ => W.length - (intOf kv).toNat)
     case atStart => exact ⟨0, rfl, by omega, Lib.hid (by simp), HE1⟩
     case round =>
      obtain ⟨k, rfl, hk, HR, HE⟩ := hrel
      by_cases hlt : k < W.length
      · obtain ⟨x, hx⟩ : ∃ x, W[k]? = some x := ⟨_, List.getElem?_eq_getElem hlt⟩
        obtain ⟨xb, xo, rfl, x0, hxi⟩ := (HI.out.ext HE.out).iAt hx
        have HX := Lib.hid (admR_drop (n := W.length) hx)
        clear hx
        by_cases h1 : x < 0
        · go_wp2_with fail
          go_ret
          exact ⟨by rw [HA.out, HR.out, HX.out, if_pos (by omega)]; rfl, HE.out⟩
        by_cases h2 : (1000 : Int) < x
        · go_wp2_with fail
          go_ret
          exact ⟨by rw [HA.out, HR.out, HX.out, if_pos (by omega)]; rfl, HE.out⟩
        by_cases h3 : x = 0
        · by_cases h4 : (k : Int) + 1 < (W.length : Int)
          · go_wp2_with fail
            go_ret
            exact ⟨by rw [HA.out, HR.out, HX.out, if_pos (by omega)]; rfl, HE.out⟩
          · go_wp2_with fail
            go_roundw
            case rel => exact ⟨k + 1, by go_num, by omega, Lib.hid (by rw [HR.out, HX.out, if_neg (by omega)]), HE⟩
            case measure => simp [intOf]; omega
        · go_wp2_with fail
          go_roundw
          case rel => exact ⟨k + 1, by go_num, by omega, Lib.hid (by rw [HR.out, HX.out, if_neg (by omega)]), HE⟩
          case measure => simp [intOf]; omega
      · have hke : k = W.length := by omega
        subst hke
        go_wp2_with fail
        go_ret
        exact ⟨by rw [HA.out, HR.out, List.drop_length]; rfl, HE.out⟩
   · have HA : Hid (admE L W = 6) := Lib.hid (by unfold admE; rw [← HPE.out, if_neg (by simp [hp0]), if_pos (by simp; omega)])
     subst hp0
     go_wp2_with fail
     go_ret
     exact ⟨by rw [HA.out]; rfl, HE1.out⟩
 · have HA : Hid (admE L W = p) := Lib.hid (by unfold admE; rw [← HPE.out, if_pos hp0])
   go_wp2_with fail
   go_ret
   exact ⟨by rw [HA.out]; rfl, HE1.out⟩

end Go.Proofs.YtkobikdkbpdjeaaDoor
