/- From the arguments of a row to memory, seat top: formats' drafts. -/
import Derived.Test.YtfaienbdebjfcaaGreatF1
import Derived.Test.YtfaienbdebjfcaaGreatGC
namespace Go.Proofs.YtfaienbdebjfcaaGreat
open Go Go.RowKit Go.ChangeShapes Go.WideShapes Go.ChangeAt Go.Deep
set_option linter.unusedVariables false
set_option linter.unusedSimpArgs false
set_option maxRecDepth 100000

section
variable {H : Type} {enc : TypeId × Value → H} {W : World}
set_option maxRecDepth 100000 in
/-- a slice whose elements read as such of a kind -/
theorem open_rowJ {α : Type} {E : Elm α} {T sl : TypeId} (hsl : Tryz.prog.underlying sl = some (.slice T)) (hc : Tryz.prog.cellsOf T = E.n) (hn0 : 0 < E.n)
 (ho : ∀ (sp : Nat → Bool) (held : Bool) (fuel : Nat) (cs : List Value) (x : DataW H × List MemPlace), DataW.trod enc Tryz.prog W 0 sp held fuel T cs = some x → ∃ r, E.R W (fun c => c < W.heap.size) r cs)
 {sp : Nat → Bool} {held : Bool} {fuel : Nat} {cs : List Value} {x : DataW H × List MemPlace} (h : DataW.trod enc Tryz.prog W 0 sp held fuel sl cs = some x) :
 ∃ a cap, ∃ L : List α, cs = [.slice a L.length cap] ∧ LsG E W (fun c => c < W.heap.size) (.slice a L.length cap) L ∧ (L = [] ∨ ∃ es sp', x.1 = .slice es sp' ∧ es.length = L.length) := by
 rcases DataW.trod_slice hsl h with ⟨rfl, -⟩ | ⟨a, len, cap, elems, rest, n, hn, rfl, hx, -, hlc, hcm, hlen, hel, -, -⟩
 · exact ⟨none, 0, [], rfl, LsG.nil, .inl rfl⟩
 · rw [hc] at hel
   have key : ∀ i, i < len → ∃ r : α, ∃ cs', E.R W (fun c => c < W.heap.size) r cs' ∧ (∀ (j : Nat) u, cs'[j]? = some u → W.cell? ⟨a.block, a.off + i * E.n + j, none⟩ = some u) ∧ a.spot = none := by
    intro i hi
    have h1 := hel i hi
    rw [List.getElem?_eq_getElem (show i < elems.length by omega)] at h1
    obtain ⟨cs', hcc, ht⟩ := Option.bind_eq_some_iff.1 h1
    have h0 := hel 0 (by omega)
    rw [List.getElem?_eq_getElem (show 0 < elems.length by omega)] at h0
    obtain ⟨cs0, hc0, -⟩ := Option.bind_eq_some_iff.1 h0
    obtain ⟨-, hl0, hat0⟩ := World.cells?_some hc0
    have hs := spot_none ((show W.cell? a = W.cell? ((a.add (0 * E.n)).add 0) by rw [add_zero, Nat.zero_mul, add_zero]).trans ((hat0 0 hn0).trans (List.getElem?_eq_getElem (by omega))))
    obtain ⟨-, hl, hat⟩ := World.cells?_some hcc
    obtain ⟨r, hr⟩ := ho _ _ _ _ _ ht
    refine ⟨r, cs', hr, fun j u hu => ?_, hs⟩
    have hj := (List.getElem?_eq_some_iff.1 hu).1
    have := hat j (by rw [E.len hr] at hj; omega)
    rw [Go.Deep.add_add, add_plain hs, ← Nat.add_assoc] at this
    exact this.trans hu
   obtain ⟨L, hl, hL⟩ := list_choose len key
   refine ⟨some a, cap, L, by rw [hl], ⟨some a, cap, rfl, by omega, hcm, fun i t hi => ?_⟩, .inr ⟨_, _, by rw [hx], by rw [List.length_map, hlen, hl]⟩⟩
   obtain ⟨cs', h1, h2, h3⟩ := hL i t hi
   have hlt : a.block < W.heap.size := by
    have hne : cs'.length = E.n := E.len h1
    exact World.block_lt_of_cell? W ⟨a.block, a.off + i * E.n + 0, none⟩ (h2 0 _ (List.getElem?_eq_getElem (by omega)))
   exact ⟨a.block, a.off, cs', by obtain ⟨b, o, s⟩ := a; simp only at h3; subst h3; rfl, hlt, hlt, h1, h2⟩
theorem open_u8 {sp : Nat → Bool} {held : Bool} {fuel : Nat} {cs : List Value} {x : DataW H × List MemPlace} (h : DataW.trod enc Tryz.prog W 0 sp held fuel 5 cs = some x) : ∃ k : Nat, cs = [.int .u8 k] ∧ k < 256 := by
 obtain ⟨n, e, -, w⟩ := DataW.trod_int Tryz.underlying5 h
 have h1 : 0 ≤ n ∧ n < 256 := by
  simp [Lit.wf, IntKind.min, IntKind.max, IntKind.signed, IntKind.bits] at w
  omega
 exact ⟨n.toNat, by rw [e]; congr 2; omega, by omega⟩
theorem cDraft : Tryz.prog.cellsOf 112 = 3 := by kernel_rfl
theorem cDrafts : Tryz.prog.cellsOf 73 = 1 := by kernel_rfl
theorem open_dr {sp : Nat → Bool} {held : Bool} {fuel : Nat} {cs : List Value} {x : DataW H × List MemPlace} (h : DataW.trod enc Tryz.prog W 0 sp held fuel 112 cs = some x) : ∃ r : Dr, elDr.R W (fun c => c < W.heap.size) r cs := by
 obtain ⟨ys, n, hn, -, hlen, hyl, hf2⟩ := DataW.trod_struct Tryz.underlying112 h
 rw [cDraft] at hlen
 obtain ⟨v0, v1, v2, hcs⟩ : ∃ v0 v1 v2, cs = [v0, v1, v2] := by
  match hh : cs, hlen with
  | [v0, v1, v2], _ => exact ⟨v0, v1, v2, rfl⟩
 rw [hcs] at hf2
 have g0 : ∃ y, DataW.trod enc Tryz.prog W 0 sp held n 5 [v0] = some y := ⟨ys[0]'(by rw [hyl]; decide), (hf2 0 _ rfl).trans (List.getElem?_eq_getElem _)⟩
 have g1 : ∃ y, DataW.trod enc Tryz.prog W 0 sp held n 5 [v1] = some y := ⟨ys[1]'(by rw [hyl]; decide), (hf2 1 _ rfl).trans (List.getElem?_eq_getElem _)⟩
 have g2 : ∃ y, DataW.trod enc Tryz.prog W 0 sp held n 5 [v2] = some y := ⟨ys[2]'(by rw [hyl]; decide), (hf2 2 _ rfl).trans (List.getElem?_eq_getElem _)⟩
 obtain ⟨y0, t0⟩ := g0
 obtain ⟨y1, t1⟩ := g1
 obtain ⟨y2, t2⟩ := g2
 obtain ⟨a, e0, h0⟩ := open_u8 t0
 obtain ⟨b, e1, h1⟩ := open_u8 t1
 obtain ⟨c, e2, h2⟩ := open_u8 t2
 cases e0
 cases e1
 cases e2
 exact ⟨(a, b, c), hcs, h0, h1, h2⟩
theorem open_dl {sp : Nat → Bool} {held : Bool} {fuel : Nat} {cs : List Value} {x : DataW H × List MemPlace} (h : DataW.trod enc Tryz.prog W 0 sp held fuel 73 cs = some x) : ∃ r : List Dr, elDL.R W (fun c => c < W.heap.size) r cs := by
 obtain ⟨a, cap, L, e, hL, -⟩ := open_rowJ (E := elDr) Tryz.underlying73 cDraft (by decide) (fun _ _ _ _ _ h => open_dr h) h
 exact ⟨L, _, e, hL⟩
end
theorem readF : Tryz.prog.readableRec 25 = true := by kernel_rfl
theorem rowF : (25 : TypeId) < Tryz.prog.types.size := of_decide_eq_true (by kernel_rfl)
end Go.Proofs.YtfaienbdebjfcaaGreat
