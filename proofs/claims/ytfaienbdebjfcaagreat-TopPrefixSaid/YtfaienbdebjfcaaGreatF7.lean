/- From the arguments of a row to memory, seat top: formats' drafts with their bytes. -/
import Derived.Test.YtfaienbdebjfcaaGreatF6
import Derived.Test.YtfaienbdebjfcaaGreatGF
namespace Go.Proofs.YtfaienbdebjfcaaGreat
open Go Go.RowKit Go.ChangeShapes Go.WideShapes Go.ChangeAt Go.Deep
set_option linter.unusedVariables false
set_option linter.unusedSimpArgs false
set_option maxRecDepth 100000

section
variable {H : Type} {enc : TypeId × Value → H} {W : World}
theorem cByteY : Tryz.prog.cellsOf 5 = 1 := by kernel_rfl
theorem open_yte {sp : Nat → Bool} {held : Bool} {fuel : Nat} {cs : List Value} {x : DataW H × List MemPlace} (h : DataW.trod enc Tryz.prog W 0 sp held fuel 5 cs = some x) : ∃ r : Nat, elY.R W (fun c => c < W.heap.size) r cs := by
 obtain ⟨k, e, hk⟩ := open_u8 h
 exact ⟨k, e, hk⟩
set_option maxRecDepth 100000 in
theorem open_formatsB {v : Value} {d : DataW H} {p : List MemPlace} {r : Reach} {b0 : Nat} (h : DataW.Trod enc Tryz.prog W 0 (fun _ => true) true 25 v d p) (hv : Value.okWide Tryz.prog W r b0 25 v) :
 ∃ (X : List (List Dr)) (da : Option Addr) (dc i j : Nat) (ba : Option Addr) (bc : Nat) (C : List Nat) (rest : ByteArray), v = .agg #[.slice da X.length dc, .int .u8 i, .int .u8 j, .slice ba C.length bc, .string rest] ∧ i < 256 ∧ j < 256 ∧
   LsG elDL W (fun c => c < W.heap.size) (.slice da X.length dc) X ∧ LsE elY W (fun c => c < W.heap.size) (.slice ba C.length bc) C := by
 obtain ⟨cs, rfl, hs⟩ := okWide_struct Tryz.underlying25 hv
 obtain ⟨fuel, hf⟩ := h
 obtain ⟨ys, n, hn, -, hlen, hyl, hf2⟩ := DataW.trod_struct Tryz.underlying25 hf
 have hc : Tryz.prog.cellsOf 25 = 5 := by kernel_rfl
 rw [hc] at hlen
 have e : (Value.agg cs).cells.toList = cs.toList := by simp [Value.cells]
 rw [e] at hlen hf2
 obtain ⟨v0, v1, v2, v3, v4, hcs⟩ : ∃ v0 v1 v2 v3 v4, cs.toList = [v0, v1, v2, v3, v4] := by
  match hh : cs.toList, hlen with
  | [v0, v1, v2, v3, v4], _ => exact ⟨v0, v1, v2, v3, v4, rfl⟩
 rw [hcs] at hf2
 have g0 : ∃ y, DataW.trod enc Tryz.prog W 0 (fun _ => true) true n 22 [v0] = some y := ⟨ys[0]'(by rw [hyl]; decide), (hf2 0 _ rfl).trans (List.getElem?_eq_getElem _)⟩
 have g1 : ∃ y, DataW.trod enc Tryz.prog W 0 (fun _ => true) true n 5 [v1] = some y := ⟨ys[1]'(by rw [hyl]; decide), (hf2 1 _ rfl).trans (List.getElem?_eq_getElem _)⟩
 have g2 : ∃ y, DataW.trod enc Tryz.prog W 0 (fun _ => true) true n 5 [v2] = some y := ⟨ys[2]'(by rw [hyl]; decide), (hf2 2 _ rfl).trans (List.getElem?_eq_getElem _)⟩
 have g3 : ∃ y, DataW.trod enc Tryz.prog W 0 (fun _ => true) true n 23 [v3] = some y := ⟨ys[3]'(by rw [hyl]; decide), (hf2 3 _ rfl).trans (List.getElem?_eq_getElem _)⟩
 have g4 : ∃ y, DataW.trod enc Tryz.prog W 0 (fun _ => true) true n 9 [v4] = some y := ⟨ys[4]'(by rw [hyl]; decide), (hf2 4 _ rfl).trans (List.getElem?_eq_getElem _)⟩
 obtain ⟨y0, t0⟩ := g0
 obtain ⟨y1, t1⟩ := g1
 obtain ⟨y2, t2⟩ := g2
 obtain ⟨y3, t3⟩ := g3
 obtain ⟨y4, t4⟩ := g4
 obtain ⟨da, dc, X, e0, hX, -⟩ := open_rowJ (E := elDL) Tryz.underlying22 cDrafts (by decide) (fun _ _ _ _ _ h => open_dl h) t0
 obtain ⟨i, e1, hi⟩ := open_u8 t1
 obtain ⟨j, e2, hj⟩ := open_u8 t2
 obtain ⟨ba, bc, C, e3, hC, -⟩ := open_rowJ (E := elY) Tryz.underlying23 cByteY (by decide) (fun _ _ _ _ _ h => open_yte h) t3
 obtain ⟨rest, e4, -⟩ := DataW.trod_string Tryz.underlying9 t4
 cases e0
 cases e1
 cases e2
 cases e3
 cases e4
 refine ⟨X, da, dc, i, j, ba, bc, C, rest, ?_, hi, hj, hX, hC.e⟩
 have : cs = #[.slice da X.length dc, .int .u8 i, .int .u8 j, .slice ba C.length bc, .string rest] := by apply Array.ext'; rw [hcs]
 rw [this]
end
end Go.Proofs.YtfaienbdebjfcaaGreat
