/- A row of ours in the words of the kit's sort. -/
import Derived.Test.YthoelnoahfedmaaG1
import Derived.Shelf.SlSortCmp.InsertionK
namespace Go.Proofs.Ythoelnoahfedmaa
open Go Go.RowKit Go.Sort Go.Proofs
set_option linter.unusedVariables false
set_option linter.unusedSimpArgs false

section
variable {α : Type} {enc : α → List Value} {k : Nat}

theorem flatE_len (hk : ∀ x, (enc x).length = k) : ∀ L : List α, (L.flatMap enc).length = L.length * k
  | [] => by simp
  | x :: L => by rw [List.flatMap_cons, List.length_append, hk, flatE_len hk L, List.length_cons, Nat.add_mul]; omega
theorem flatE_get (hk : ∀ x, (enc x).length = k) : ∀ (L : List α) (m j : Nat) (x : α), L[m]? = some x → j < k → (L.flatMap enc)[m * k + j]? = (enc x)[j]?
  | [], m, j, x, h, _ => by simp at h
  | y :: L, 0, j, x, h, hj => by
    simp only [List.getElem?_cons_zero, Option.some.injEq] at h
    subst h
    rw [List.flatMap_cons, List.getElem?_append_left (by rw [hk]; omega)]
    simp
  | y :: L, m + 1, j, x, h, hj => by
    simp only [List.getElem?_cons_succ] at h
    have e : (m + 1) * k + j = k + (m * k + j) := by rw [Nat.add_mul]; omega
    rw [List.flatMap_cons, List.getElem?_append_right (by rw [hk, e]; omega), hk, e, show k + (m * k + j) - k = m * k + j by omega]
    exact flatE_get hk L m j x h hj
variable [Inhabited α]
theorem flatK_list (hk : ∀ x, (enc x).length = k) (d : Array α) : (flatK enc k d).toList = d.toList.flatMap enc := by
  rcases Nat.eq_zero_or_pos k with h0 | h0
  · subst h0
    have e1 : (flatK enc 0 d).toList.length = 0 := by simp
    have e2 : (d.toList.flatMap enc).length = 0 := by rw [flatE_len hk]; simp
    rw [List.length_eq_zero_iff.1 e1, List.length_eq_zero_iff.1 e2]
  · apply List.ext_getElem?
    intro t
    have hl : (d.toList.flatMap enc).length = d.size * k := by rw [flatE_len hk, Array.length_toList]
    by_cases ht : t < d.size * k
    · have hm : t / k < d.size := (Nat.div_lt_iff_lt_mul h0).2 ht
      have hr : t % k < k := Nat.mod_lt _ h0
      have hx : d.toList[t / k]? = some d[t / k]! := by rw [Array.getElem?_toList, getElem!_pos d (t / k) hm]; exact Array.getElem?_eq_getElem hm
      have e := flatE_get hk d.toList (t / k) (t % k) _ hx hr
      rw [show t / k * k + t % k = t by rw [Nat.mul_comm]; exact Nat.div_add_mod t k] at e
      rw [e, Array.getElem?_toList, Array.getElem?_eq_getElem (by simpa using ht), List.getElem?_eq_getElem (by rw [hk]; exact hr)]
      have g := get_flatK enc k d t ht
      rw [getElem!_pos (flatK enc k d) t (by simpa using ht), getElem!_pos (enc d[t / k]!) (t % k) (by rw [hk]; exact hr)] at g
      rw [g]
    · rw [List.getElem?_eq_none (by simp; omega), List.getElem?_eq_none (by omega)]

theorem onw_holds {w : World} {base e n cap g : Nat} {L : List α} (hk : ∀ x, (enc x).length = k) (hO : w.ownsRow base e k (.slice (some ⟨g, 0, none⟩) n cap) n (L.flatMap enc)) (hl : L.length = n) :
    HoldsK enc k w g 0 L.toArray ∧ g < w.heap.size ∧ base ≤ g ∧ ∀ m (d' : Array α) os, d'.size = n → (sortWorldK enc k w g 0 m d' os).ownsRow base e k (.slice (some ⟨g, 0, none⟩) n cap) n (d'.toList.flatMap enc) ∧ w.grownBy (sortWorldK enc k w g 0 m d' os) (some g) := by
  rcases hO.2 with ⟨h, -⟩ | ⟨g', cap', cur, hv, hb, hblk, hn, hc, hsz, htk⟩
  · cases h
  · cases hv
    have hlt := (Array.getElem?_eq_some_iff.1 hblk).1
    have hnk : n * k ≤ cur.size := by rw [hsz]; exact Nat.mul_le_mul_right k hn
    refine ⟨fun j hj => ?_, hlt, hb, fun m d' os hd => ?_⟩
    · rw [size_flatK, List.size_toArray, hl] at hj
      constructor
      · have e1 : w.cell? ⟨g, 0 + j, none⟩ = cur[j]? := by simp [World.cell?, hblk]
        have e2 : (flatK enc k L.toArray).toList = L.flatMap enc := flatK_list hk L.toArray
        have hjs : j < (flatK enc k L.toArray).size := by rw [size_flatK, List.size_toArray, hl]; exact hj
        rw [e1, getElem!_pos (flatK enc k L.toArray) j hjs]
        have e3 : (flatK enc k L.toArray).toList[j]? = some ((flatK enc k L.toArray)[j]'hjs) := by rw [Array.getElem?_toList]; exact Array.getElem?_eq_getElem _
        rw [e2, ← htk, List.getElem?_take_of_lt hj, Array.getElem?_toList] at e3
        exact e3
      · unfold World.frozen?
        simp only [hblk]
        simp
    · have hh : (sortWorldK enc k w g 0 m d' os).heap = w.heap.modify g (onCells (putCells id 0 (flatK enc k d'))) ++ os := rfl
      have hfs : (flatK enc k d').size = n * k := by rw [size_flatK, hd]
      constructor
      · refine ⟨by rw [flatE_len hk, Array.length_toList, hd], .inr ⟨g, cap, putCells id 0 (flatK enc k d') cur, rfl, hb, ?_, hn, hc, ?_, ?_⟩⟩
        · rw [hh, Array.getElem?_append_left (by simpa using hlt), Array.getElem?_modify, if_pos rfl, hblk]
          rfl
        · unfold putCells; rw [Array.size_mapIdx]; exact hsz
        · rw [← flatK_list hk d']
          apply List.ext_getElem?
          intro t
          by_cases ht : t < n * k
          · rw [List.getElem?_take_of_lt ht, Array.getElem?_toList, Array.getElem?_toList]
            unfold putCells
            rw [Array.getElem?_mapIdx, Array.getElem?_eq_getElem (show t < cur.size by omega), Array.getElem?_eq_getElem (show t < (flatK enc k d').size by omega)]
            simp only [Option.map_some]
            rw [if_pos ⟨Nat.zero_le _, by omega⟩, Nat.sub_zero, getElem!_pos (flatK enc k d') t (by omega)]
            rfl
          · rw [List.getElem?_eq_none (by rw [List.length_take]; omega), List.getElem?_eq_none (by rw [Array.length_toList]; omega)]
      · refine ⟨rfl, rfl, rfl, ?_, fun q hq hne => ?_⟩
        · rw [hh]; simp
        · rw [hh, Array.getElem?_append_left (by simpa using hq), Array.getElem?_modify, if_neg (fun e => hne (by rw [e]))]
end

end Go.Proofs.Ythoelnoahfedmaa
