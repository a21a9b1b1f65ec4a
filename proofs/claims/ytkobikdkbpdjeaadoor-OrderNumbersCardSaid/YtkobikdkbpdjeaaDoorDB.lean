/- Contracts: the reference's multisets (seat 04's plain rows). -/
import Derived.Test.YtkobikdkbpdjeaaDoorDA
namespace Go.Proofs.YtkobikdkbpdjeaaDoor
open Go Go.RowKit
set_option linter.unusedVariables false
set_option linter.unusedSimpArgs false

theorem LsE.ints {w : World} {S S' : Nat → Prop} {v : Value} {L : List Int} (h : LsE elI w S v L) : LsE elI w S' v L := by
 obtain ⟨a, cap, rfl, h1, h2, h3⟩ := h
 exact ⟨a, cap, rfl, h1, h2, fun i t hi => by
  obtain ⟨b, off, cs, e1, e2, e3⟩ := h3 i t hi
  exact ⟨b, off, cs, e1, e2, e3⟩⟩
theorem OwnG.noneI {w : World} {base : Nat} {g : Nat} (h : w.heap[g]? = some (.cells #[] 3)) (hb : base ≤ g) : OwnG elI w base 3 (fun _ => False) (.slice (some ⟨g, 0, none⟩) 0 0) [] :=
 ⟨[], rfl, by simp, ⟨by simp, .inr ⟨g, 0, #[], rfl, hb, h, Nat.le_refl _, by unfold maxLen; omega, by simp, by simp⟩⟩⟩
theorem erase_at {L : List Int} {k : Nat} {n : Int} (h : L[k]? = some n) (hn : n ∉ L.take k) : L.erase n = L.take k ++ L.drop (k + 1) := by
 have hlt := (List.getElem?_eq_some_iff.1 h).1
 have e : L = L.take k ++ n :: L.drop (k + 1) := by
  conv => lhs; rw [← List.take_append_drop k L, List.drop_eq_getElem_cons hlt, (List.getElem?_eq_some_iff.1 h).2]
 conv => lhs; rw [e]
 rw [List.erase_append_right _ hn, List.erase_cons_head]
theorem take_memI {L : List Int} {k : Nat} {x z : Int} (h : L[k]? = some x) : z ∈ L.take (k + 1) ↔ z ∈ L.take k ∨ z = x := by
 rw [List.take_add_one, h]; simp

set_option maxRecDepth 100000 in
set_option maxHeartbeats 2000000 in
theorem without_any {w : World} {S : Nat → Prop} {a : Option Addr} {cap : Nat} {L : List Int} {n : Int} (hll : L.length ≤ 1000) (hL : LsG elI w S (.slice a L.length cap) L) :
 Calls Tryd.prog 32 #[.slice a L.length cap, .int .i64 n] w fun e w' => ∃ v, e = .returned (.tuple #[v, .bool (decide (n ∈ L))]) ∧ Ext w w' ∧ LsG elI w' (fun c => S c ∨ w.heap.size ≤ c) v (L.erase n) := by
 obtain ⟨-, hl, hc⟩ := hL.len
 unfold maxLen at hc
 have HL := Lib.hid hL
 clear hL
 go_enter Tryd.func32, Tryd.ntmps32
 go_wp2_with fail
 go_loopw [6] (fun kv wr => ∃ k : Nat, kv = .int .i64 k ∧ k ≤ L.length ∧ Hid (n ∉ L.take k) ∧ Hid (Ext w wr)) (fun kv _ => L.length - (intOf kv).toNat)
 case atStart => exact ⟨0, rfl, by omega, Lib.hid (by simp), Lib.hid (Ext.refl _)⟩
 case round =>
  obtain ⟨i, rfl, hk, HN, HE⟩ := hrel
  by_cases hlt : i < L.length
  · obtain ⟨x, hx⟩ : ∃ x, L[i]? = some x := ⟨_, List.getElem?_eq_getElem hlt⟩
    obtain ⟨xb, xo, rfl, x0, hxs⟩ := (HL.out.ext HE.out).iAt hx
    by_cases hxn : x = n
    · have HER := Lib.hid (erase_at (hxn ▸ hx) HN.out)
      have HIN : Hid (decide (n ∈ L) = true) := Lib.hid (decide_eq_true (hxn ▸ List.mem_of_getElem? hx))
      have hX6 := HL.out.ext HE.out
      have HT6 : Hid (LsE elI wr (fun _ => False) (.slice (some ⟨xb, xo, none⟩) i cap) (L.take i)) := Lib.hid (hX6.any.take (m := i) (by omega)).e.ints
      have HD6 : Hid (LsE elI wr (fun _ => False) (.slice (if cap = i + 1 then some ⟨xb, xo, none⟩ else some ⟨xb, xo + (i + 1), none⟩) (L.length - (i + 1)) (cap - (i + 1))) (L.drop (i + 1))) := Lib.hid (by
       have h := (hX6.any.drop_any (m := i + 1) (by omega)).e
       rw [show (i + 1) * elI.n = i + 1 from by show (i + 1) * 1 = _; omega] at h
       exact h.ints)
      have hi1 : ((i : Int) + 1) ≤ (L.length : Int) := by omega
      have hi2 : (0 : Int) ≤ (i : Int) + 1 := by omega
      have hi3 : i ≤ cap := by omega
      have hi4 : i + 1 ≤ L.length := by omega
      have hi5 : IntKind.i64.wrap ((i : Int) + 1) = (i : Int) + 1 := by rw [IntKind.wrap_i64]; omega
      have HTL : Hid ((L.take i).length = i ∧ (L.drop (i + 1)).length = L.length - (i + 1)) := Lib.hid ⟨by rw [List.length_take]; omega, by simp⟩
      have HARM : Hid (∀ wz, Ext wr wz → OwnG elI (wz.alloc (.cells #[] 3)) wr.heap.size 3 (fun _ => False) (.slice (some ⟨wz.heap.size, 0, none⟩) 0 0) []) := Lib.hid (fun wz h => OwnG.noneI hs_new h.size)
      have hxb : (x == n) = true := by simp [hxn]
      have HLL := Lib.hid hll
      clear hx hxs hxn hX6 hll
      go_upto_region 5 with fail
      clear x0 hxb
      go_region_law (first
       | (refine step_appG (E := elI) (T := 3) rfl 23 (.tmp 19) (.tmp 22) rfl rfl rfl Tryd.underlying23 infInt rfl (by decide) (by decide) (by first | exact HARM.out wr (Ext.refl _) | exact (HARM.out wr (Ext.refl _)).ext (Ext.drew _) | exact HARM.out wr.drew (Ext.drew _)) (Ext.size (by repeat (first | exact Ext.refl _ | exact Ext.alloc _ _ | apply Ext.then_dr | apply Ext.then_drN | apply Ext.then_drN2 | (refine Ext.then_al ?_ _)))) (fun c h => absurd h id) (by simp) (M := L.take i) (by have := HTL.out; have := HLL.out; omega) (HT6.out.ext (by repeat (first | exact Ext.refl _ | exact Ext.alloc _ _ | apply Ext.then_dr | apply Ext.then_drN | apply Ext.then_drN2 | (refine Ext.then_al ?_ _)))) ?_
          intro v7 w7 o7 g7 k7
          rw [List.nil_append] at o7
          have e7 := Ext.grown (show Ext wr _ from (by repeat (first | exact Ext.refl _ | exact Ext.alloc _ _ | apply Ext.then_dr | apply Ext.then_drN | apply Ext.then_drN2 | (refine Ext.then_al ?_ _)))) g7 (fun c hc => by cases hc; exact Nat.le_refl _)
          have HO7 := Lib.hid o7
          have HE7 := Lib.hid e7
          have HD7 := Lib.hid (HD6.out.ext e7)
          clear o7 g7 k7 e7)
       | (refine step_appG (E := elI) (T := 3) rfl 23 (.tmp 23) (.tmp 27) rfl rfl rfl Tryd.underlying23 infInt rfl (by decide) (by decide) HO7.out HE7.out.size (fun c h => absurd h id) (by have := HTL.out; have := HLL.out; omega) (M := L.drop (i + 1)) (by have := HTL.out; have := HLL.out; omega) HD7.out ?_
          intro v8 w8 o8 g8 k8
          have HE8 := Lib.hid (HE7.out.grownG HO7.out (Nat.le_refl _) g8)
          have HO8 := Lib.hid o8
          clear o8 g8 k8))
      simp only [Act.put, List.getElem_cons_succ, List.getElem_cons_zero]
      go_simp
      go_wp2_with fail
      all_goals
       go_ret2
       refine ⟨v8, by rw [HIN.out]; rfl, HE.out.trans HE8.out, ?_⟩
       rw [HER.out]
       exact HO8.out.ls (fun _ h _ => h.elim) (fun g _ hb _ => .inr (Nat.le_trans HE.out.size hb))
    · have hxb : (x == n) = false := by simp [hxn]
      have HN2 : Hid (n ∉ L.take (i + 1)) := Lib.hid (by
       rw [take_memI hx]
       rintro (h | h)
       · exact HN.out h
       · exact hxn h.symm)
      clear hx hxs hxn
      go_wp2_with fail
      go_roundw
      case rel => exact ⟨i + 1, by go_num, by omega, HN2, HE⟩
      case measure => simp [intOf]; omega
  · have HIN : Hid (n ∉ L) := Lib.hid (by have := HN.out; rwa [List.take_of_length_le (by omega)] at this)
    go_wp2_with fail
    go_ret2
    exact ⟨_, by rw [decide_eq_false HIN.out]; rfl, HE.out, by rw [List.erase_of_not_mem HIN.out]; exact (HL.out.ext HE.out).wide (fun _ h _ => .inl h)⟩
end Go.Proofs.YtkobikdkbpdjeaaDoor
