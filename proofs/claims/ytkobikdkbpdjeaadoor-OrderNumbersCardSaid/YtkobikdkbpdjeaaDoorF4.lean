/- From the arguments of a row to memory, seat 04: lists of strings and numbers, weights, three terms; what the listed variables give. -/
import Derived.Test.YtkobikdkbpdjeaaDoorF1
import Derived.Test.YtkobikdkbpdjeaaDoorB6
import Derived.LaidMore
namespace Go.Proofs.YtkobikdkbpdjeaaDoor
open Go Go.RowKit Go.ChangeShapes Go.WideShapes Go.ChangeAt Go.Deep
set_option linter.unusedVariables false
set_option linter.unusedSimpArgs false
set_option maxRecDepth 100000

section
variable {H : Type} {enc : TypeId × Value → H} {W : World}
set_option maxRecDepth 100000 in
/-- a slice whose elements read as such of a kind -/
theorem open_rowH {α : Type} {E : Elm α} {T sl : TypeId} (hsl : Tryd.prog.underlying sl = some (.slice T)) (hc : Tryd.prog.cellsOf T = E.n) (hn0 : 0 < E.n)
 (ho : ∀ (sp : Nat → Bool) (held : Bool) (fuel : Nat) (cs : List Value) (x : DataW H × List MemPlace), DataW.trod enc Tryd.prog W 0 sp held fuel T cs = some x → ∃ r, E.R W (fun c => c < W.heap.size) r cs)
 {sp : Nat → Bool} {held : Bool} {fuel : Nat} {cs : List Value} {x : DataW H × List MemPlace} (h : DataW.trod enc Tryd.prog W 0 sp held fuel sl cs = some x) :
 ∃ a cap, ∃ L : List α, cs = [.slice a L.length cap] ∧ LsG E W (fun c => c < W.heap.size) (.slice a L.length cap) L ∧ (L = [] ∨ ∃ es sp', x.1 = .slice es sp' ∧ es.length = L.length) := by
 rcases DataW.trod_slice hsl h with ⟨rfl, -⟩ | ⟨a, len, cap, elems, rest, n, hn, rfl, hx, -, hlc, hcm, hlen, hel, -, -⟩
 · exact ⟨none, 0, [], rfl, LsG.nil, .inl rfl⟩
 · rw [hc] at hel
   have key : ∀ i, i < len → ∃ r : α, ∃ cs', E.R W (fun c => c < W.heap.size) r cs' ∧ (∀ (j : Nat) u, cs'[j]? = some u → W.cell? ⟨a.block, a.off + i * E.n + j, none⟩ = some u) ∧ a.spot = none := by
    intro i hi
    have h1 := hel i hi
    rw [List.getElem?_eq_getElem (show i < elems.length by omega)] at h1
    obtain ⟨cs', hcc, ht⟩ := Option.bind_eq_some_iff.1 h1
    have h0 := hel 0 (by omega)
    rw [List.getElem?_eq_getElem (show 0 < elems.length by omega)] at h0
    obtain ⟨cs0, hc0, -⟩ := Option.bind_eq_some_iff.1 h0
    obtain ⟨-, hl0, hat0⟩ := World.cells?_some hc0
    have hs := spot_none ((show W.cell? a = W.cell? ((a.add (0 * E.n)).add 0) by rw [add_zero, Nat.zero_mul, add_zero]).trans ((hat0 0 hn0).trans (List.getElem?_eq_getElem (by omega))))
    obtain ⟨-, hl, hat⟩ := World.cells?_some hcc
    obtain ⟨r, hr⟩ := ho _ _ _ _ _ ht
    refine ⟨r, cs', hr, fun j u hu => ?_, hs⟩
    have hj := (List.getElem?_eq_some_iff.1 hu).1
    have := hat j (by rw [E.len hr] at hj; omega)
    rw [Go.Deep.add_add, add_plain hs, ← Nat.add_assoc] at this
    exact this.trans hu
   obtain ⟨L, hl, hL⟩ := list_choose len key
   refine ⟨some a, cap, L, by rw [hl], ⟨some a, cap, rfl, by omega, hcm, fun i t hi => ?_⟩, .inr ⟨_, _, by rw [hx], by rw [List.length_map, hlen, hl]⟩⟩
   obtain ⟨cs', h1, h2, h3⟩ := hL i t hi
   have hlt : a.block < W.heap.size := by
    have hne : cs'.length = E.n := E.len h1
    exact World.block_lt_of_cell? W ⟨a.block, a.off + i * E.n + 0, none⟩ (h2 0 _ (List.getElem?_eq_getElem (by omega)))
   exact ⟨a.block, a.off, cs', by obtain ⟨b, o, s⟩ := a; simp only at h3; subst h3; rfl, hlt, hlt, h1, h2⟩
theorem cStr : Tryd.prog.cellsOf 9 = 1 := by kernel_rfl
theorem cInt4 : Tryd.prog.cellsOf 3 = 1 := by kernel_rfl
theorem open_int4 {sp : Nat → Bool} {held : Bool} {fuel : Nat} {cs : List Value} {x : DataW H × List MemPlace} (h : DataW.trod enc Tryd.prog W 0 sp held fuel 3 cs = some x) : ∃ r : Int, elI.R W (fun c => c < W.heap.size) r cs := by
 obtain ⟨n, e, -, w⟩ := DataW.trod_int Tryd.underlying3 h
 exact ⟨n, e, wf_I64 w⟩
theorem open_str4 {sp : Nat → Bool} {held : Bool} {fuel : Nat} {cs : List Value} {x : DataW H × List MemPlace} (h : DataW.trod enc Tryd.prog W 0 sp held fuel 9 cs = some x) : ∃ r : ByteArray, elS.R W (fun c => c < W.heap.size) r cs := by
 obtain ⟨n, e, -, w⟩ := DataW.trod_string Tryd.underlying9 h
 exact ⟨n, e, w⟩
set_option maxRecDepth 100000 in
theorem open_strs {v : Value} {d : DataW H} {p : List MemPlace} {r : Reach} {b0 : Nat} (h : DataW.Trod enc Tryd.prog W 0 (fun _ => true) true 22 v d p) (hv : Value.okWide Tryd.prog W r b0 22 v) :
 ∃ a cap, ∃ L : List ByteArray, v = .slice a L.length cap ∧ LsG elS W (fun c => c < W.heap.size) (.slice a L.length cap) L := by
 obtain ⟨av, lv, cv, rfl⟩ := okWide_slice Tryd.underlying22 hv
 obtain ⟨fuel, hf⟩ := h
 obtain ⟨a, cap, L, e, hL, -⟩ := open_rowH (E := elS) Tryd.underlying22 cStr (by decide) (fun _ _ _ _ _ h => open_str4 h) hf
 simp [Value.cells] at e
 obtain ⟨rfl, rfl, rfl⟩ := e
 exact ⟨_, _, L, rfl, hL⟩
set_option maxRecDepth 100000 in
theorem open_ints {v : Value} {d : DataW H} {p : List MemPlace} {r : Reach} {b0 : Nat} (h : DataW.Trod enc Tryd.prog W 0 (fun _ => true) true 23 v d p) (hv : Value.okWide Tryd.prog W r b0 23 v) :
 ∃ a cap, ∃ L : List Int, v = .slice a L.length cap ∧ LsG elI W (fun c => c < W.heap.size) (.slice a L.length cap) L := by
 obtain ⟨av, lv, cv, rfl⟩ := okWide_slice Tryd.underlying23 hv
 obtain ⟨fuel, hf⟩ := h
 obtain ⟨a, cap, L, e, hL, -⟩ := open_rowH (E := elI) Tryd.underlying23 cInt4 (by decide) (fun _ _ _ _ _ h => open_int4 h) hf
 simp [Value.cells] at e
 obtain ⟨rfl, rfl, rfl⟩ := e
 exact ⟨_, _, L, rfl, hL⟩
theorem okWide_arr4 {n : Nat} {e t : TypeId} {v : Value} {r : Reach} {b0 : Nat} (ht : Tryd.prog.underlying t = some (.array n e)) (h : Value.okWide Tryd.prog W r b0 t v) : ∃ cs, v = .agg cs ∧ cs.size = Tryd.prog.cellsOf t := by
 simp only [Value.okWide, ht] at h
 obtain ⟨cs, h1, h2, _⟩ := h
 exact ⟨cs, h1, h2⟩
end
theorem readSs : Tryd.prog.readableRec 22 = true := by kernel_rfl
theorem rowSs : (22 : TypeId) < Tryd.prog.types.size := of_decide_eq_true (by kernel_rfl)
end Go.Proofs.YtkobikdkbpdjeaaDoor
