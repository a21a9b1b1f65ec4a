/- From the arguments of a row to memory, seat 04: lists of strings and numbers, weights, three terms; what the listed variables give. -/
import Derived.Test.YtkobikdkbpdjeaaGreatDoorF1
import Derived.Test.YtkobikdkbpdjeaaGreatDoorCA
import Derived.LaidMore
namespace Go.Proofs.YtkobikdkbpdjeaaGreatDoor
open Go Go.RowKit Go.ChangeShapes Go.WideShapes Go.ChangeAt Go.Deep
set_option linter.unusedVariables false
set_option linter.unusedSimpArgs false
set_option maxRecDepth 100000

section
variable {H : Type} {enc : TypeId × Value → H} {W : World}
set_option maxRecDepth 100000 in
/-- a slice whose elements read as such of a kind -/
theorem open_rowH {α : Type} {E : Elm α} {T sl : TypeId} (hsl : Tryz.prog.underlying sl = some (.slice T)) (hc : Tryz.prog.cellsOf T = E.n) (hn0 : 0 < E.n)
 (ho : ∀ (sp : Nat → Bool) (held : Bool) (fuel : Nat) (cs : List Value) (x : DataW H × List MemPlace), DataW.trod enc Tryz.prog W 0 sp held fuel T cs = some x → ∃ r, E.R W (fun c => c < W.heap.size) r cs)
 {sp : Nat → Bool} {held : Bool} {fuel : Nat} {cs : List Value} {x : DataW H × List MemPlace} (h : DataW.trod enc Tryz.prog W 0 sp held fuel sl cs = some x) :
 ∃ a cap, ∃ L : List α, cs = [.slice a L.length cap] ∧ LsG E W (fun c => c < W.heap.size) (.slice a L.length cap) L ∧ (L = [] ∨ ∃ es sp', x.1 = .slice es sp' ∧ es.length = L.length) := by
 rcases DataW.trod_slice hsl h with ⟨rfl, -⟩ | ⟨a, len, cap, elems, rest, n, hn, rfl, hx, -, hlc, hcm, hlen, hel, -, -⟩
 · exact ⟨none, 0, [], rfl, LsG.nil, .inl rfl⟩
 · rw [hc] at hel
   have key : ∀ i, i < len → ∃ r : α, ∃ cs', E.R W (fun c => c < W.heap.size) r cs' ∧ (∀ (j : Nat) u, cs'[j]? = some u → W.cell? ⟨a.block, a.off + i * E.n + j, none⟩ = some u) ∧ a.spot = none := by
    intro i hi
    have h1 := hel i hi
    rw [List.getElem?_eq_getElem (show i < elems.length by omega)] at h1
    obtain ⟨cs', hcc, ht⟩ := Option.bind_eq_some_iff.1 h1
    have h0 := hel 0 (by omega)
    rw [List.getElem?_eq_getElem (show 0 < elems.length by omega)] at h0
    obtain ⟨cs0, hc0, -⟩ := Option.bind_eq_some_iff.1 h0
    obtain ⟨-, hl0, hat0⟩ := World.cells?_some hc0
    have hs := spot_none ((show W.cell? a = W.cell? ((a.add (0 * E.n)).add 0) by rw [add_zero, Nat.zero_mul, add_zero]).trans ((hat0 0 hn0).trans (List.getElem?_eq_getElem (by omega))))
    obtain ⟨-, hl, hat⟩ := World.cells?_some hcc
    obtain ⟨r, hr⟩ := ho _ _ _ _ _ ht
    refine ⟨r, cs', hr, fun j u hu => ?_, hs⟩
    have hj := (List.getElem?_eq_some_iff.1 hu).1
    have := hat j (by rw [E.len hr] at hj; omega)
    rw [Go.Deep.add_add, add_plain hs, ← Nat.add_assoc] at this
    exact this.trans hu
   obtain ⟨L, hl, hL⟩ := list_choose len key
   refine ⟨some a, cap, L, by rw [hl], ⟨some a, cap, rfl, by omega, hcm, fun i t hi => ?_⟩, .inr ⟨_, _, by rw [hx], by rw [List.length_map, hlen, hl]⟩⟩
   obtain ⟨cs', h1, h2, h3⟩ := hL i t hi
   have hlt : a.block < W.heap.size := by
    have hne : cs'.length = E.n := E.len h1
    exact World.block_lt_of_cell? W ⟨a.block, a.off + i * E.n + 0, none⟩ (h2 0 _ (List.getElem?_eq_getElem (by omega)))
   exact ⟨a.block, a.off, cs', by obtain ⟨b, o, s⟩ := a; simp only at h3; subst h3; rfl, hlt, hlt, h1, h2⟩
theorem cStr : Tryz.prog.cellsOf 9 = 1 := by kernel_rfl
theorem cInt4 : Tryz.prog.cellsOf 3 = 1 := by kernel_rfl
theorem open_int4 {sp : Nat → Bool} {held : Bool} {fuel : Nat} {cs : List Value} {x : DataW H × List MemPlace} (h : DataW.trod enc Tryz.prog W 0 sp held fuel 3 cs = some x) : ∃ r : Int, elI.R W (fun c => c < W.heap.size) r cs := by
 obtain ⟨n, e, -, w⟩ := DataW.trod_int Tryz.underlying3 h
 exact ⟨n, e, wf_I64 w⟩
theorem open_str4 {sp : Nat → Bool} {held : Bool} {fuel : Nat} {cs : List Value} {x : DataW H × List MemPlace} (h : DataW.trod enc Tryz.prog W 0 sp held fuel 9 cs = some x) : ∃ r : ByteArray, elS.R W (fun c => c < W.heap.size) r cs := by
 obtain ⟨n, e, -, w⟩ := DataW.trod_string Tryz.underlying9 h
 exact ⟨n, e, w⟩
set_option maxRecDepth 100000 in
theorem open_strs {v : Value} {d : DataW H} {p : List MemPlace} {r : Reach} {b0 : Nat} (h : DataW.Trod enc Tryz.prog W 0 (fun _ => true) true 28 v d p) (hv : Value.okWide Tryz.prog W r b0 28 v) :
 ∃ a cap, ∃ L : List ByteArray, v = .slice a L.length cap ∧ LsG elS W (fun c => c < W.heap.size) (.slice a L.length cap) L := by
 obtain ⟨av, lv, cv, rfl⟩ := okWide_slice Tryz.underlying28 hv
 obtain ⟨fuel, hf⟩ := h
 obtain ⟨a, cap, L, e, hL, -⟩ := open_rowH (E := elS) Tryz.underlying28 cStr (by decide) (fun _ _ _ _ _ h => open_str4 h) hf
 simp [Value.cells] at e
 obtain ⟨rfl, rfl, rfl⟩ := e
 exact ⟨_, _, L, rfl, hL⟩
set_option maxRecDepth 100000 in
theorem open_ints {v : Value} {d : DataW H} {p : List MemPlace} {r : Reach} {b0 : Nat} (h : DataW.Trod enc Tryz.prog W 0 (fun _ => true) true 30 v d p) (hv : Value.okWide Tryz.prog W r b0 30 v) :
 ∃ a cap, ∃ L : List Int, v = .slice a L.length cap ∧ LsG elI W (fun c => c < W.heap.size) (.slice a L.length cap) L := by
 obtain ⟨av, lv, cv, rfl⟩ := okWide_slice Tryz.underlying30 hv
 obtain ⟨fuel, hf⟩ := h
 obtain ⟨a, cap, L, e, hL, -⟩ := open_rowH (E := elI) Tryz.underlying30 cInt4 (by decide) (fun _ _ _ _ _ h => open_int4 h) hf
 simp [Value.cells] at e
 obtain ⟨rfl, rfl, rfl⟩ := e
 exact ⟨_, _, L, rfl, hL⟩
set_option maxRecDepth 100000 in
theorem open_weights {v : Value} {d : DataW H} {p : List MemPlace} {r : Reach} {b0 : Nat} (h : DataW.Trod enc Tryz.prog W 0 (fun _ => true) true 44 v d p) (hv : Value.okWide Tryz.prog W r b0 44 v) :
 ∃ (L : List ByteArray) (C : List Int) (a : Option Addr) (cap : Nat) (b : Option Addr) (dap : Nat), v = .agg #[.slice a L.length cap, .slice b C.length dap] ∧ LsG elS W (fun c => c < W.heap.size) (.slice a L.length cap) L ∧ LsG elI W (fun c => c < W.heap.size) (.slice b C.length dap) C := by
 obtain ⟨cs, rfl, hs⟩ := okWide_struct Tryz.underlying44 hv
 obtain ⟨fuel, hf⟩ := h
 obtain ⟨ys, n, hn, -, hlen, hyl, hf2⟩ := DataW.trod_struct Tryz.underlying44 hf
 have hc : Tryz.prog.cellsOf 44 = 2 := by kernel_rfl
 rw [hc] at hlen
 have e : (Value.agg cs).cells.toList = cs.toList := by simp [Value.cells]
 rw [e] at hlen hf2
 obtain ⟨v0, v1, hcs⟩ : ∃ v0 v1, cs.toList = [v0, v1] := by
  match hh : cs.toList, hlen with
  | [v0, v1], _ => exact ⟨v0, v1, rfl⟩
 rw [hcs] at hf2
 have g0 : ∃ y, DataW.trod enc Tryz.prog W 0 (fun _ => true) true n 28 [v0] = some y := ⟨ys[0]'(by rw [hyl]; decide), (hf2 0 _ rfl).trans (List.getElem?_eq_getElem _)⟩
 have g1 : ∃ y, DataW.trod enc Tryz.prog W 0 (fun _ => true) true n 30 [v1] = some y := ⟨ys[1]'(by rw [hyl]; decide), (hf2 1 _ rfl).trans (List.getElem?_eq_getElem _)⟩
 obtain ⟨y0, t0⟩ := g0
 obtain ⟨y1, t1⟩ := g1
 obtain ⟨a, cap, L, e0, hL, -⟩ := open_rowH (E := elS) Tryz.underlying28 cStr (by decide) (fun _ _ _ _ _ h => open_str4 h) t0
 obtain ⟨b, dap, C, e1, hC, -⟩ := open_rowH (E := elI) Tryz.underlying30 cInt4 (by decide) (fun _ _ _ _ _ h => open_int4 h) t1
 cases e0
 cases e1
 refine ⟨L, C, a, cap, b, dap, ?_, hL, hC⟩
 have : cs = #[.slice a L.length cap, .slice b C.length dap] := by apply Array.ext'; rw [hcs]
 rw [this]
theorem okWide_arr4 {n : Nat} {e t : TypeId} {v : Value} {r : Reach} {b0 : Nat} (ht : Tryz.prog.underlying t = some (.array n e)) (h : Value.okWide Tryz.prog W r b0 t v) : ∃ cs, v = .agg cs ∧ cs.size = Tryz.prog.cellsOf t := by
 simp only [Value.okWide, ht] at h
 obtain ⟨cs, h1, h2, _⟩ := h
 exact ⟨cs, h1, h2⟩
set_option maxRecDepth 100000 in
theorem open_three {v : Value} {d : DataW H} {p : List MemPlace} {r : Reach} {b0 : Nat} (h : DataW.Trod enc Tryz.prog W 0 (fun _ => true) true 25 v d p) (hv : Value.okWide Tryz.prog W r b0 25 v) :
 ∃ (s t u : Tm) (a b c : Option Addr) (k l m : Nat), v = .agg #[.int .i64 s.kind, .string s.name, .int .i64 s.sort, .slice a s.kids.length k, .int .i64 t.kind, .string t.name, .int .i64 t.sort, .slice b t.kids.length l, .int .i64 u.kind, .string u.name, .int .i64 u.sort, .slice c u.kids.length m] ∧
   TmW W (fun c => c < W.heap.size) a k s ∧ TmW W (fun c => c < W.heap.size) b l t ∧ TmW W (fun c => c < W.heap.size) c m u := by
 obtain ⟨cs, rfl, hs⟩ := okWide_arr4 Tryz.underlying25 hv
 obtain ⟨fuel, hf⟩ := h
 obtain ⟨xs, n, hn, -, hlen, hxl, hf2⟩ := DataW.trod_array Tryz.underlying25 hf
 have hc : Tryz.prog.cellsOf 25 = 12 := by kernel_rfl
 rw [hc] at hlen
 have e : (Value.agg cs).cells.toList = cs.toList := by simp [Value.cells]
 rw [e] at hlen hf2
 rw [cTerm] at hf2
 have g0 : ∃ y, DataW.trod enc Tryz.prog W 0 (fun _ => true) true n 24 ((cs.toList.drop 0).take 4) = some y := ⟨xs[0]'(by rw [hxl]; decide), (hf2 0 (by decide)).trans (List.getElem?_eq_getElem _)⟩
 have g1 : ∃ y, DataW.trod enc Tryz.prog W 0 (fun _ => true) true n 24 ((cs.toList.drop 4).take 4) = some y := ⟨xs[1]'(by rw [hxl]; decide), (hf2 1 (by decide)).trans (List.getElem?_eq_getElem _)⟩
 have g2 : ∃ y, DataW.trod enc Tryz.prog W 0 (fun _ => true) true n 24 ((cs.toList.drop 8).take 4) = some y := ⟨xs[2]'(by rw [hxl]; decide), (hf2 2 (by decide)).trans (List.getElem?_eq_getElem _)⟩
 obtain ⟨y0, t0⟩ := g0
 obtain ⟨y1, t1⟩ := g1
 obtain ⟨y2, t2⟩ := g2
 obtain ⟨s, a, k, e0, hS⟩ := open_node (fun n _ => open_ts n) t0
 obtain ⟨t, b, l, e1, hT⟩ := open_node (fun n _ => open_ts n) t1
 obtain ⟨u, c, m, e2, hU⟩ := open_node (fun n _ => open_ts n) t2
 refine ⟨s, t, u, a, b, c, k, l, m, ?_, hS, hT, hU⟩
 have h1 : cs.toList = (cs.toList.drop 0).take 4 ++ ((cs.toList.drop 4).take 4 ++ (cs.toList.drop 8).take 4) := by
  have h8 : (cs.toList.drop 8).take 4 = cs.toList.drop 8 := List.take_of_length_le (by rw [List.length_drop, hlen]; decide)
  have h4 : cs.toList.drop 8 = (cs.toList.drop 4).drop 4 := by rw [List.drop_drop]
  rw [h8, h4, List.take_append_drop, List.drop_zero, List.take_append_drop]
 rw [e0, e1, e2] at h1
 have : cs = #[.int .i64 s.kind, .string s.name, .int .i64 s.sort, .slice a s.kids.length k, .int .i64 t.kind, .string t.name, .int .i64 t.sort, .slice b t.kids.length l, .int .i64 u.kind, .string u.name, .int .i64 u.sort, .slice c u.kids.length m] := by apply Array.ext'; rw [h1]; rfl
 rw [this]
end
theorem readSs : Tryz.prog.readableRec 28 = true := by kernel_rfl
theorem rowSs : (28 : TypeId) < Tryz.prog.types.size := of_decide_eq_true (by kernel_rfl)
theorem readWe : Tryz.prog.readableRec 44 = true := by kernel_rfl
theorem rowWe : (44 : TypeId) < Tryz.prog.types.size := of_decide_eq_true (by kernel_rfl)
theorem readTh : Tryz.prog.readableRec 25 = true := by kernel_rfl
theorem rowTh : (25 : TypeId) < Tryz.prog.types.size := of_decide_eq_true (by kernel_rfl)
end Go.Proofs.YtkobikdkbpdjeaaGreatDoor
