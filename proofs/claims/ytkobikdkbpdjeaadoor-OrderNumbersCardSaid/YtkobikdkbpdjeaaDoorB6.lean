/- Contracts: names of a precedence; lists of strings. -/
import Derived.Test.YtkobikdkbpdjeaaDoorB5
import Derived.Test.YtkobikdkbpdjeaaDoorH1
import Derived.Test.YtkobikdkbpdjeaaDoorG6
import Derived.StillTailTactics
import Derived.Lib.SlicesS
namespace Go.Proofs.YtkobikdkbpdjeaaDoor
open Go Go.RowKit Go.Shelf
set_option linter.unusedVariables false
set_option linter.unusedSimpArgs false

/-- the words of the sorts, as they are laid: the first one -/
def Words (w : World) : Prop := ∃ ba oa cap, w.cell? ⟨0, 0, none⟩ = some (.slice (some ⟨ba, oa, none⟩) 6 cap) ∧ w.cell? ⟨ba, oa, none⟩ = some (.string ⟨#[97, 110, 121]⟩)
theorem Words.ext {w w' : World} (h : Words w) (hE : Ext w w') : Words w' := by
 obtain ⟨ba, oa, cap, h1, h2⟩ := h
 exact ⟨ba, oa, cap, cs_ext hE h1, cs_ext hE h2⟩

theorem idx_rnk (x : ByteArray) : ∀ (l : List ByteArray) (i : Nat), Lib.idxFromS l x i = if rnk l x < 0 then -1 else rnk l x + i
 | [], i => by simp [Lib.idxFromS, rnk]
 | y :: l, i => by
   rw [Lib.idxFromS, rnk]
   by_cases h : y = x
   · simp [h]
   · rw [if_neg h, if_neg h, idx_rnk x l (i + 1)]
     have := rnk_lo l x
     by_cases h2 : rnk l x < 0
     · simp [h2]
     · rw [if_neg h2, if_neg h2, if_neg (by omega)]
       push_cast; omega
theorem idxOf_rnk (l : List ByteArray) (x : ByteArray) : Lib.idxOfS l x = rnk l x := by
 unfold Lib.idxOfS
 rw [idx_rnk]
 have := rnk_lo l x
 split <;> omega
theorem rnk_mem (x : ByteArray) : ∀ (l : List ByteArray), 0 ≤ rnk l x ↔ x ∈ l
 | [] => by simp [rnk]
 | y :: l => by
   rw [rnk, List.mem_cons, ← rnk_mem x l]
   have := rnk_lo l x
   by_cases h : y = x
   · simp [h]
   · rw [if_neg h]
     have h' : ¬ x = y := fun e => h e.symm
     split <;> simp only [h', false_or] <;> omega
theorem LsG.strs {w : World} {S : Nat → Prop} {a : Option Addr} {n cap : Nat} {L : List ByteArray} (h : LsG elS w S (.slice a n cap) L) (hne : L ≠ []) : ∃ b off, a = some ⟨b, off, none⟩ ∧ ∀ j, j < L.length → w.cell? ⟨b, off + j, none⟩ = some (.string (L.getD j ByteArray.empty)) := by
 obtain ⟨x, hx⟩ : ∃ x, L[0]? = some x := ⟨_, List.getElem?_eq_getElem (List.length_pos_iff.2 hne)⟩
 obtain ⟨b, off, e, -, -⟩ := h.sAt hx
 refine ⟨b, off, e, fun j hj => ?_⟩
 obtain ⟨b', off', e', hc, -⟩ := h.sAt (i := j) (x := L[j]) (List.getElem?_eq_getElem hj)
 rw [e] at e'
 cases e'
 rw [hc, List.getD_eq_getElem?_getD, List.getElem?_eq_getElem hj]
 rfl
theorem index_any {w : World} {S : Nat → Prop} {a : Option Addr} {n cap : Nat} {L : List ByteArray} {x : ByteArray} (h : LsG elS w S (.slice a n cap) L) :
 Calls Tryd.prog 39 #[.slice a n cap, .string x] w fun e w' => e = .returned (.int .i64 (rnk L x)) ∧ w' = w := by
 obtain ⟨rfl, hl, hc⟩ := h.len
 unfold maxLen at hc
 by_cases hne : L = []
 · subst hne
   have := Tryd.slices_Index_string_empty a cap x w
   rw [idxOf_rnk] at this
   exact this
 · obtain ⟨b, off, rfl, hcs⟩ := h.strs hne
   have := Tryd.slices_Index_string b off L.length cap L x w (Nat.le_refl _) (by omega) hcs
   rw [List.take_length, idxOf_rnk] at this
   exact this
theorem contains_any {w : World} {S : Nat → Prop} {a : Option Addr} {n cap : Nat} {L : List ByteArray} {x : ByteArray} (h : LsG elS w S (.slice a n cap) L) :
 Calls Tryd.prog 26 #[.slice a n cap, .string x] w fun e w' => e = .returned (.bool (decide (0 ≤ rnk L x))) ∧ w' = w := by
 obtain ⟨rfl, hl, hc⟩ := h.len
 unfold maxLen at hc
 by_cases hne : L = []
 · subst hne
   have := Tryd.slices_Contains_string_empty a cap x w
   simpa [rnk] using this
 · obtain ⟨b, off, rfl, hcs⟩ := h.strs hne
   have := Tryd.slices_Contains_string b off L.length cap L x w (Nat.le_refl _) (by omega) hcs
   rw [List.take_length] at this
   have e : Lib.containsS L x = decide (0 ≤ rnk L x) := by
    rw [Bool.eq_iff_iff, Lib.containsS_iff, decide_eq_true_eq, rnk_mem]
   rw [e] at this
   exact this

set_option maxRecDepth 100000 in
set_option maxHeartbeats 2000000 in
theorem write_atom {w : World} {B b : Nat} {nm : ByteArray} (hW : Words w) (h : Bu w B b []) (hB : B ≤ w.heap.size) (hn : nm.size ≤ 24) :
 Calls Tryd.prog 53 #[.pointer (some ⟨b, 0, none⟩), .agg #[.int .i64 2, .string nm, .int .i64 0, .slice none 0 0]] w fun e w' => e = .returned (.tuple #[]) ∧ ∃ l, Bu w' B b l ∧ Below B w w' := by
 obtain ⟨bx, hbx⟩ : ∃ bx, bx = w.heap.size := ⟨_, rfl⟩
 obtain ⟨w1, hw1⟩ : ∃ w1, w1 = w.alloc (.cells #[.int .i64 2, .string nm, .int .i64 0, .slice none 0 0] 38) := ⟨_, rfl⟩
 have h0 : w1.heap[bx]? = some (.cells #[.int .i64 2, .string nm, .int .i64 0, .slice none 0 0] 38) := by rw [hw1, hbx]; exact hs_new
 have hE1 : Ext w w1 := by rw [hw1]; exact Ext.alloc w _
 have b0 : w1.cell? ⟨bx, 0, none⟩ = some (.int .i64 2) := by rw [cellc h0]; rfl
 have b1 : w1.cell? ⟨bx, 1, none⟩ = some (.string nm) := by rw [cellc h0]; rfl
 have b2 : w1.cell? ⟨bx, 2, none⟩ = some (.int .i64 0) := by rw [cellc h0]; rfl
 have b3 : w1.cell? ⟨bx, 3, none⟩ = some (.slice none 0 0) := by rw [cellc h0]; rfl
 have HBU := Lib.hid (h.ext hE1)
 have HE := Lib.hid hE1
 obtain ⟨ba, oa, cap, g0, g1⟩ := hW.ext hE1
 clear h
 go_enter Tryd.func53, Tryd.ntmps53
 go_upto_region 7 with fail
 rw [← hbx, ← hw1]
 clear hw1 h0 hE1 hbx
 have q1 : ¬ (9223372036854775807 < nm.size + 1) := by omega
 have q2 : ¬ (9223372036854775807 < nm.size + 1 + 3) := by omega
 go_still_tail 10, (by kernel_rfl)
 change wpList _ _ _ _ _ w1.drew
 generalize hwm : World.drew w1 = wm
 have hEm : Ext w1 wm := by rw [← hwm]; exact Ext.drew w1
 have hBm := HBU.out.ext hEm
 have hEw := HE.out.trans hEm
 have hsz : w.heap.size ≤ wm.heap.size := hEw.size
 have hlm : (⟨#[97, 110, 121]⟩ : ByteArray).size = 3 := rfl
 have hlm2 : (⟨#[58]⟩ : ByteArray).size = 1 := rfl
 go_wp2_with fail
 refine (writeStr_any (l := []) hBm (by simp [ByteArray.size_append]; omega) (by omega)).mono ?_
 rintro e w' ⟨rfl, k1, k2⟩
 go_wp2
 refine bodyPost_ret (results_none rfl _ _ _) rfl ?_
 exact ⟨rfl, _, k1, (hEw.below hB).trans k2.below⟩

theorem valid_atom (nm : ByteArray) : validT (.mk 2 nm 0 []) = if nameOk nm then 0 else 2 := by
 unfold validT errT nodeE
 rw [show sizeT (.mk 2 nm 0 []) = 1 by simp [sizeT, sizeL], show depthT (.mk 2 nm 0 []) = 1 by simp [depthT, depthL]]
 cases nameOk nm <;> simp [orE, errL]

set_option maxRecDepth 100000 in
set_option maxHeartbeats 2000000 in
theorem format_atom {w : World} {nm : ByteArray} (hW : Words w) (hn : nm.size ≤ maxLen) :
 Calls Tryd.prog 38 #[.agg #[.int .i64 2, .string nm, .int .i64 0, .slice none 0 0]] w fun e w' => (∃ s, e = .returned (.tuple #[.string s, .int .i64 (if nameOk nm then 0 else 2)])) ∧ Ext w w' := by
 obtain ⟨bx, hbx⟩ : ∃ bx, bx = w.heap.size := ⟨_, rfl⟩
 obtain ⟨w1, hw1⟩ : ∃ w1, w1 = w.alloc (.cells #[.int .i64 2, .string nm, .int .i64 0, .slice none 0 0] 38) := ⟨_, rfl⟩
 have h0 : w1.heap[bx]? = some (.cells #[.int .i64 2, .string nm, .int .i64 0, .slice none 0 0] 38) := by rw [hw1, hbx]; exact hs_new
 have hE1 : Ext w w1 := by rw [hw1]; exact Ext.alloc w _
 have b0 : w1.cell? ⟨bx, 0, none⟩ = some (.int .i64 2) := by rw [cellc h0]; rfl
 have b1 : w1.cell? ⟨bx, 1, none⟩ = some (.string nm) := by rw [cellc h0]; rfl
 have b2 : w1.cell? ⟨bx, 2, none⟩ = some (.int .i64 0) := by rw [cellc h0]; rfl
 have b3 : w1.cell? ⟨bx, 3, none⟩ = some (.slice none 0 0) := by rw [cellc h0]; rfl
 have HE := Lib.hid hE1
 have HW := Lib.hid (hW.ext hE1)
 have HB := Lib.hid hbx
 have hV := PValid_any (w := w1) (S := Any) (a := none) (cap := 0) (t := .mk 2 nm 0 []) (by simp [sizeT, sizeL]) ⟨⟨by simp [Tm.kind], by simp [Tm.kind]⟩, ⟨by simp [Tm.sort], by simp [Tm.sort]⟩, hn, by simp [Tm.kids], by unfold maxLen; omega, 0, 0, by simp [Tm.kids], by simp [Tm.kids]⟩
 rw [valid_atom] at hV
 simp only [Tm.kind, Tm.name, Tm.sort, Tm.kids, List.length_nil] at hV
 have HV := Lib.hid hV
 clear hV
 go_enter Tryd.func38, Tryd.ntmps38
 go_upto_region 1 with fail
 rw [← hbx, ← hw1]
 clear hw1 hE1 hbx h0 hW
 go_wp2_with fail
 refine HV.out.mono ?_
 rintro e w2 ⟨rfl, hE2⟩
 have HE2 := Lib.hid hE2
 obtain ⟨b0, b1, b2, b3⟩ := cs_e4 hE2 ⟨b0, b1, b2, b3⟩
 clear hE2
 by_cases hok : nameOk nm = true
 · have h24 : nm.size ≤ 24 := by unfold nameOk at hok; rw [decide_eq_true_eq] at hok; exact hok.2.1
   simp only [hok, if_true]
   obtain ⟨w3, hw3⟩ : ∃ w3, w3 = w2.alloc (.cells #[.pointer none, .slice none 0 0] 82) := ⟨_, rfl⟩
   have hE3 : Ext w2 w3 := by rw [hw3]; exact Ext.alloc w2 _
   obtain ⟨bb, hbb⟩ : ∃ bb, bb = w2.heap.size := ⟨_, rfl⟩
   have hbu : Bu w3 bb bb [] := by rw [hw3, hbb]; exact Bu.fresh w2
   have hs3 : bb ≤ w3.heap.size := by rw [hbb]; exact hE3.size
   have HBU := Lib.hid hbu
   have HE3 := Lib.hid (HE.out.trans (HE2.out.trans hE3))
   have HW3 := Lib.hid (HW.out.ext (HE2.out.trans hE3))
   have HS3 := Lib.hid hs3
   have HBB := Lib.hid (show w.heap.size ≤ bb by rw [hbb]; have := HE.out.size; have := HE2.out.size; omega)
   obtain ⟨b0, b1, b2, b3⟩ := cs_e4 hE3 ⟨b0, b1, b2, b3⟩
   clear hbu hs3 hE3
   go_upto_region 5 with fail
   rw [← hbb, ← hw3]
   clear hw3 hbb
   go_wp2_with fail
   refine (write_atom HW3.out HBU.out HS3.out h24).mono ?_
   rintro e w4 ⟨rfl, l, k1, k2⟩
   have HB4 := Lib.hid k1
   have HX4 := Lib.hid (Below.trans (Below.mono HE3.out (Nat.le_refl _)) (Below.mono k2 HBB.out))
   have HS4 := Lib.hid (Nat.le_trans HS3.out k2.size)
   clear k1 k2
   go_wp2_with fail
   refine (buStr_any HB4.out HS4.out).mono ?_
   rintro e w5 ⟨rfl, k1, k2⟩
   have HX5 := Lib.hid (Below.trans HX4.out (Below.mono k2.below HBB.out))
   clear k1 k2
   go_wp2
   go_ret2
   exact ⟨⟨_, rfl⟩, HX5.out⟩
 · simp only [hok, if_false]
   go_wp2
   go_ret2
   exact ⟨⟨_, rfl⟩, HE.out.trans HE2.out⟩

/-- name: whether a string is a name -/
theorem name_any {w : World} {nm : ByteArray} (hW : Words w) (hn : nm.size ≤ maxLen) :
 Calls Tryd.prog 25 #[.string nm] w fun e w' => e = .returned (.bool (nameOk nm)) ∧ Ext w w' := by
 have HW := Lib.hid hW
 clear hW
 go_enter Tryd.func25, Tryd.ntmps25
 go_wp2_with fail
 refine (format_atom HW.out hn).mono ?_
 rintro e w1 ⟨⟨s, rfl⟩, hE1⟩
 have HE1 := Lib.hid hE1
 clear hE1
 cases hok : nameOk nm
 · simp only [Bool.false_eq_true, if_false]
   go_wp2
   go_ret
   exact ⟨by rw [hok]; rfl, HE1.out⟩
 · simp only [if_true]
   go_wp2
   go_ret
   exact ⟨by rw [hok]; rfl, HE1.out⟩

end Go.Proofs.YtkobikdkbpdjeaaDoor
