/- Contracts: slices.Reverse at numbers, slices.ContainsFunc of the law, the reference's multisets (seat 04's plain rows). -/
import Derived.Test.YtkobikdkbpdjeaaDoorCZ
namespace Go.Proofs.YtkobikdkbpdjeaaDoor
open Go Go.RowKit Go.Sort Go.Shelf Go.Proofs
set_option linter.unusedVariables false
set_option linter.unusedSimpArgs false

theorem rev4 {w : World} {base : Nat} {v : Value} {L : List Int} (hl : L.length ≤ 1000000) (hO : OwnG elI w base 3 (fun _ => False) v L) :
 Calls Tryd.prog 14 #[v] w fun e w' => e = .returned (.tuple #[]) ∧ LsG elI w' (fun _ => True) v L.reverse ∧ w.grownBy w' v.ownBlock := by
 obtain ⟨P, e1, e2, hrow⟩ := hO
 have hP : P.flatMap (·.2) = L.map encZ := by
  rw [← e1]
  clear e1 hrow
  induction P with
  | nil => rfl
  | cons p P ih =>
    rw [List.flatMap_cons, List.map_cons, List.map_cons, ih (fun q hq => e2 q (by simp [hq])), (e2 p (by simp)).1]
    rfl
 have h64 : ∀ x ∈ L, I64 x := fun x hx => by
  rw [← e1] at hx
  obtain ⟨p, hp, rfl⟩ := List.mem_map.1 hx
  exact (e2 p hp).2
 have hlen : P.length = L.length := by rw [← e1, List.length_map]
 rcases hrow.2 with ⟨rfl, h0⟩ | ⟨g, cap, cur, rfl, hb, hg, h1, h2, h3, h4⟩
 · have hL : L = [] := List.eq_nil_of_length_eq_zero (by omega)
   subst hL
   refine (Tryd.slices_Reverse_int_empty none 0 w).mono ?_
   rintro e w' ⟨rfl, rfl⟩
   exact ⟨rfl, LsG.nil, rfl, rfl, rfl, Nat.le_refl _, fun _ _ _ => rfl⟩
 · have h4' : cur.toList.take L.length = L.map encZ := by
    rw [← hP, ← h4, ← hlen]
    show _ = List.take (P.length * 1) _
    rw [Nat.mul_one]
   have hH : Holds encZ w g 0 L.toArray := holds_of_block_i hg h4'
   rw [hlen]
   refine (Tryd.slices_Reverse_int g 0 cap L w hH (by omega)).mono ?_
   rintro e w' ⟨rfl, n, rfl⟩
   have hr := ownsRow_sorted_i (n := n) (os := #[]) (ss := L) (ts := L.reverse) (by simp) hb hg (by omega) h2 (by rw [h3]; rfl)
   rw [Go.Sort.grow_empty] at hr
   have hgr := grownBy_sorted_i (w := w) (g := g) (n := n) (os := #[]) L.reverse.toArray
   rw [Go.Sort.grow_empty] at hgr
   refine ⟨rfl, ?_, hgr⟩
   have hO : OwnG elI (putRow encZ (Sort.ahead w n) g 0 L.reverse.toArray) base 3 (fun _ => False) (.slice (some ⟨g, 0, none⟩) L.length cap) L.reverse := by
    refine ⟨L.reverse.map (fun x => (x, [.int .i64 x])), by rw [List.map_map]; exact List.map_id _, fun p hp => ?_, ?_⟩
    · obtain ⟨x, hx, rfl⟩ := List.mem_map.1 hp
      exact ⟨rfl, h64 x (List.mem_reverse.1 hx)⟩
    · rw [List.length_map, List.length_reverse, List.flatMap_map]
      have e : L.reverse.flatMap (fun x => [Value.int .i64 x]) = L.reverse.map encZ := by
       induction L.reverse with
       | nil => rfl
       | cons x M ih => rw [List.flatMap_cons, ih]; rfl
      rw [e]
      exact hr
   exact hO.any

set_option maxRecDepth 100000 in
set_option maxHeartbeats 1000000 in
theorem long_any {w : World} {s : ByteArray} :
 Calls Tryd.prog 7 #[.string s] w fun e w' => e = .returned (.bool (decide (40 < s.size))) ∧ Ext w w' := by
 by_cases h : (40 : Int) < (s.size : Int)
 · have hd : decide (40 < s.size) = true := decide_eq_true (by omega)
   rw [hd]
   clear hd
   go_enter Tryd.func7, Tryd.ntmps7
   go_wp2_with fail
   go_ret
   exact ⟨rfl, Ext.refl _⟩
 · have hd : decide (40 < s.size) = false := decide_eq_false (by omega)
   rw [hd]
   clear hd
   go_enter Tryd.func7, Tryd.ntmps7
   go_wp2_with fail
   go_ret
   exact ⟨rfl, Ext.refl _⟩
set_option maxRecDepth 100000 in
set_option maxHeartbeats 2000000 in
theorem index_long {w : World} {S : Nat → Prop} {a : Option Addr} {n cap : Nat} {L : List ByteArray} (hL : LsG elS w S (.slice a n cap) L) :
 Calls Tryd.prog 24 #[.slice a n cap, .func (.func 7) #[] #[]] w fun e w' => ∃ k : Int, e = .returned (.int .i64 k) ∧ Ext w w' ∧ (decide (0 ≤ k)) = L.any (fun s => decide (40 < s.size)) ∧ -1 ≤ k ∧ k ≤ L.length := by
 obtain ⟨rfl, hl, hc⟩ := hL.len
 unfold maxLen at hc
 have HL := Lib.hid hL
 clear hL
 go_enter Tryd.func24, Tryd.ntmps24
 go_wp2_with fail
 go_loopw [5, 8] (fun x5 kv wr => ∃ k : Nat, kv = .int .i64 k ∧ k ≤ L.length ∧ Hid ((L.take k).any (fun s => decide (40 < s.size)) = false) ∧ Hid (Ext w wr)) (fun x5 kv _ => L.length - (intOf kv).toNat)
 case atStart => exact ⟨0, rfl, by omega, Lib.hid (by simp), Lib.hid (Ext.refl _)⟩
 case round =>
  obtain ⟨k, rfl, hk, HR, HE⟩ := hrel
  by_cases hlt : k < L.length
  · obtain ⟨x, hx⟩ : ∃ x, L[k]? = some x := ⟨_, List.getElem?_eq_getElem hlt⟩
    obtain ⟨xb, xo, rfl, x0, hxs⟩ := (HL.out.ext HE.out).sAt hx
    obtain ⟨z, hz⟩ : ∃ z, z = decide (40 < x.size) := ⟨_, rfl⟩
    have HC : Hid (∀ w', Calls Tryd.prog 7 #[.string x] w' fun e w'' => e = .returned (.bool z) ∧ Ext w' w'') := Lib.hid (fun w' => by rw [hz]; exact long_any)
    have HT : Hid ((L.take (k + 1)).any (fun s => decide (40 < s.size)) = z) := Lib.hid (by rw [List.take_add_one, hx, List.any_append, HR.out, hz]; simp)
    have HA : Hid (z = true → L.any (fun s => decide (40 < s.size)) = true) := Lib.hid (fun h => List.any_eq_true.2 ⟨x, List.mem_of_getElem? hx, by rw [← h, hz]⟩)
    clear hz hx hxs
    go_wp2_with fail
    refine (HC.out _).mono ?_
    rintro e w5 ⟨rfl, hE5⟩
    have HE5 := Lib.hid (HE.out.trans hE5)
    clear hE5 x0
    cases z with
    | true =>
      go_wp2_with fail
      go_ret
      exact ⟨k, rfl, HE5.out, by rw [HA.out (by first | rfl | trivial)]; exact decide_eq_true (by omega), by omega, by omega⟩
    | false =>
      go_wp2_with fail
      go_roundw
      case rel => exact ⟨k + 1, by go_num, by omega, HT, HE5⟩
      case measure => simp [intOf]; omega
  · have HF : Hid (L.any (fun s => decide (40 < s.size)) = false) := Lib.hid (by have := HR.out; rwa [List.take_of_length_le (by omega)] at this)
    go_wp2_with fail
    go_ret
    exact ⟨-1, rfl, HE.out, by rw [HF.out]; rfl, by omega, by omega⟩
set_option maxRecDepth 100000 in
set_option maxHeartbeats 1000000 in
theorem contains_long {w : World} {S : Nat → Prop} {a : Option Addr} {n cap : Nat} {L : List ByteArray} (hL : LsG elS w S (.slice a n cap) L) :
 Calls Tryd.prog 6 #[.slice a n cap, .func (.func 7) #[] #[]] w fun e w' => e = .returned (.bool (L.any (fun s => decide (40 < s.size)))) ∧ Ext w w' := by
 have HI := Lib.hid (index_long hL)
 obtain ⟨z, hz⟩ : ∃ z, z = L.any (fun s => decide (40 < s.size)) := ⟨_, rfl⟩
 rw [← hz] at HI ⊢
 clear hz hL
 go_enter Tryd.func6, Tryd.ntmps6
 go_wp2_with fail
 refine HI.out.mono ?_
 rintro e w1 ⟨k, rfl, hE1, hd, -, -⟩
 have HD := Lib.hid hd
 clear hd
 go_wp2_with fail
 go_ret
 exact ⟨by rw [← HD.out]; rfl, hE1⟩
end Go.Proofs.YtkobikdkbpdjeaaDoor
