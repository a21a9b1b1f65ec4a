/- From the arguments of a row to memory: drafts of substitutions. -/
import Derived.Test.YtpfnlbaloaohgaaF2
namespace Go.Proofs.Ytpfnlbaloaohgaa
open Go Go.RowKit Go.ChangeShapes Go.WideShapes Go.ChangeAt Go.Deep
set_option linter.unusedVariables false
set_option linter.unusedSimpArgs false

section
variable {H : Type} {enc : TypeId × Value → H} {W : World}
set_option maxRecDepth 100000 in
theorem open_draft {v : Value} {d : DataW H} {p : List MemPlace} {r : Reach} {b0 : Nat} (h : DataW.Trod enc Try.prog W 0 (fun _ => true) true 33 v d p) (hv : Value.okWide Try.prog W r b0 33 v) :
 ∃ (X Y Z : List Nat) (n : Nat) (xa : Option Addr) (xc : Nat) (ya : Option Addr) (yc : Nat) (za : Option Addr) (zc : Nat), v = .agg #[.slice xa X.length xc, .slice ya Y.length yc, .slice za Z.length zc, .int .u8 (n : Int)] ∧ n < 256 ∧
   LsG elB W (fun c => c < W.heap.size) (.slice xa X.length xc) X ∧ LsG elB W (fun c => c < W.heap.size) (.slice ya Y.length yc) Y ∧ LsG elB W (fun c => c < W.heap.size) (.slice za Z.length zc) Z := by
 obtain ⟨cs, rfl, hs⟩ := okWide_struct Try.underlying33 hv
 obtain ⟨fuel, hf⟩ := h
 obtain ⟨ys, n, hn, -, hlen, hyl, hf2⟩ := DataW.trod_struct Try.underlying33 hf
 have hc : Try.prog.cellsOf 33 = 4 := by kernel_rfl
 rw [hc] at hlen
 have e : (Value.agg cs).cells.toList = cs.toList := by simp [Value.cells]
 rw [e] at hlen hf2
 obtain ⟨v0, v1, v2, v3, hcs⟩ : ∃ v0 v1 v2 v3, cs.toList = [v0, v1, v2, v3] := by
  match hh : cs.toList, hlen with
  | [v0, v1, v2, v3], _ => exact ⟨v0, v1, v2, v3, rfl⟩
 rw [hcs] at hf2
 have g0 : ∃ y, DataW.trod enc Try.prog W 0 (fun _ => true) true n 28 [v0] = some y := ⟨ys[0]'(by rw [hyl]; decide), (hf2 0 _ rfl).trans (List.getElem?_eq_getElem _)⟩
 have g1 : ∃ y, DataW.trod enc Try.prog W 0 (fun _ => true) true n 28 [v1] = some y := ⟨ys[1]'(by rw [hyl]; decide), (hf2 1 _ rfl).trans (List.getElem?_eq_getElem _)⟩
 have g2 : ∃ y, DataW.trod enc Try.prog W 0 (fun _ => true) true n 28 [v2] = some y := ⟨ys[2]'(by rw [hyl]; decide), (hf2 2 _ rfl).trans (List.getElem?_eq_getElem _)⟩
 have g3 : ∃ y, DataW.trod enc Try.prog W 0 (fun _ => true) true n 5 [v3] = some y := ⟨ys[3]'(by rw [hyl]; decide), (hf2 3 _ rfl).trans (List.getElem?_eq_getElem _)⟩
 obtain ⟨y0, t0⟩ := g0
 obtain ⟨y1, t1⟩ := g1
 obtain ⟨y2, t2⟩ := g2
 obtain ⟨y3, t3⟩ := g3
 obtain ⟨a0, c0, X, e0, hX, -⟩ := open_rowG (E := elB) Try.underlying28 cByte (by decide) (fun _ _ _ _ _ h => open_byte h) t0
 obtain ⟨a1, c1, Y, e1, hY, -⟩ := open_rowG (E := elB) Try.underlying28 cByte (by decide) (fun _ _ _ _ _ h => open_byte h) t1
 obtain ⟨a2, c2, Z, e2, hZ, -⟩ := open_rowG (E := elB) Try.underlying28 cByte (by decide) (fun _ _ _ _ _ h => open_byte h) t2
 obtain ⟨k, e3, hk⟩ := open_byte t3
 cases e0
 cases e1
 cases e2
 cases e3
 refine ⟨X, Y, Z, k, a0, c0, a1, c1, a2, c2, ?_, hk, hX, hY, hZ⟩
 have : cs = #[.slice a0 X.length c0, .slice a1 Y.length c1, .slice a2 Z.length c2, .int .u8 (k : Int)] := by apply Array.ext'; rw [hcs]
 rw [this]
end
theorem readD : Try.prog.readableRec 33 = true := by kernel_rfl
theorem rowD : (33 : TypeId) < Try.prog.types.size := of_decide_eq_true (by kernel_rfl)

end Go.Proofs.Ytpfnlbaloaohgaa
