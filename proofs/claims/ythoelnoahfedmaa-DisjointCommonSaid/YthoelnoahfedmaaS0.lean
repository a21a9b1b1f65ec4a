/- Facts about the program's types; keys of its maps. -/
import Derived.Test.YthoelnoahfedmaaM2
namespace Go.Proofs.Ythoelnoahfedmaa
open Go Go.RowKit
open Go.Maps (Keyed)
set_option linter.unusedVariables false
set_option linter.unusedSimpArgs false

theorem inf3 : (Try.prog.info? 3).map (fun i => (i.zero, i.size, i.bytes)) = some (some (.int .i64 0), 1, 8) := by kernel_rfl
theorem inf53 : (Try.prog.info? 53).map (fun i => (i.zero, i.size, i.bytes)) = some (some (.agg #[.int .i64 0, .int .i64 0]), 2, 16) := by kernel_rfl
theorem inf106 : (Try.prog.info? 106).map (fun i => (i.zero, i.size, i.bytes)) = some (some (.agg #[.int .i64 0, .int .u8 0]), 2, 16) := by kernel_rfl
theorem zero3 (w : World) : (zeroValue 3).run Try.prog w = .ok (.int .i64 0) w := by kernel_rfl
theorem zero4 (w : World) : (zeroValue 4).run Try.prog w = .ok (.bool false) w := by kernel_rfl

/-- numbers that a machine holds -/
abbrev N64 := { x : Int // I64 x }
def encN (x : N64) : Value := .int .i64 x.1
theorem law3 : Keyed Try.prog 3 := Maps.int_keyed Try.underlying3
theorem key3 (x : N64) : ∃ l, keyOf Try.prog 3 (encN x) = some l := by
  obtain ⟨x, h1, h2⟩ := x
  exact ⟨_, Maps.keyOf_int_mk Try.underlying3 (WalkArith.wf_i64 ⟨h1, h2⟩)⟩
theorem encN_inj (x y : N64) (h : encN x = encN y) : x = y := by
  obtain ⟨x, hx⟩ := x
  obtain ⟨y, hy⟩ := y
  simp [encN] at h
  exact Subtype.ext h

abbrev P64 := { p : Int × Int // I64 p.1 ∧ I64 p.2 }
def encP (p : P64) : Value := .agg #[.int .i64 p.1.1, .int .i64 p.1.2]
theorem laidOut : laidOutB Try.prog = true := by kernel_rfl
theorem row53 : (53 : TypeId) < Try.prog.types.size := of_decide_eq_true (by kernel_rfl)
theorem wide53 : (match Try.prog.underlying 53 with | some (.array _ _) | some (.struct _) => true | _ => false) = true := by kernel_rfl
theorem deep53 : Try.prog.keyTypeAt 2 53 = true := by kernel_rfl
theorem klaw53 : WideMaps.KeyLaw Try.prog 53 := by
  refine deep_law_laid (P := Try.prog) (k := 53) laidOut (m := 2) (by omega) row53 deep53 ?_
  rw [Try.underlying53]
theorem law53 : Keyed Try.prog 53 := Keyed.of_law klaw53
theorem keyType53 : Try.prog.keyType 53 = true := by kernel_rfl
theorem cells53 : Try.prog.cellsOf 53 = 2 := by kernel_rfl
theorem cells3 : Try.prog.cellsOf 3 = 1 := by kernel_rfl
theorem types_pos : ∃ m, Try.prog.types.size = m + 1 := ⟨Try.prog.types.size - 1, by have h : (53 : Nat) < Try.prog.types.size := row53; omega⟩
theorem key53 (p : P64) : ∃ l, keyOf Try.prog 53 (encP p) = some l := by
  obtain ⟨⟨x, y⟩, ⟨hx1, hx2⟩, ⟨hy1, hy2⟩⟩ := p
  have wx : (Lit.int .i64 x).wf = true := WalkArith.wf_i64 ⟨hx1, hx2⟩
  have wy : (Lit.int .i64 y).wf = true := WalkArith.wf_i64 ⟨hy1, hy2⟩
  obtain ⟨m, hm⟩ := types_pos
  have hu := Try.underlying53
  have hf : (Value.agg #[.int .i64 x, .int .i64 y]).formed Try.prog 53 = true := by simp [Value.formed, hu, cells53]
  refine ⟨.string (keyBytes [.int .i64 x, .int .i64 y]), ?_⟩
  unfold keyOf encP
  simp only [hu]
  rw [if_pos (by rw [keyType53, hf]; rfl), hm]
  unfold Program.keyLits
  simp [hu, Value.cells, cells53, cells3, Program.keyLits, Try.underlying3, wx, wy]
theorem encP_inj (x y : P64) (h : encP x = encP y) : x = y := by
  obtain ⟨⟨x1, x2⟩, hx⟩ := x
  obtain ⟨⟨y1, y2⟩, hy⟩ := y
  simp [encP] at h
  obtain ⟨rfl, rfl⟩ := h
  rfl

end Go.Proofs.Ythoelnoahfedmaa
