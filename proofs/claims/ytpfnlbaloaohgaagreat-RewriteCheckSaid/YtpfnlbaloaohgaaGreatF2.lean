/- From the arguments of a row to memory: rules, bytes, redexes. -/
import Derived.Test.YtpfnlbaloaohgaaGreatF1
import Derived.Test.YtpfnlbaloaohgaaGreatH9
namespace Go.Proofs.YtpfnlbaloaohgaaGreat
open Go Go.RowKit Go.ChangeShapes Go.WideShapes Go.ChangeAt Go.Deep
set_option linter.unusedVariables false
set_option linter.unusedSimpArgs false

section
variable {H : Type} {enc : TypeId × Value → H} {W : World}
theorem cRule : Tryz.prog.cellsOf 61 = 8 := by kernel_rfl
theorem cByte : Tryz.prog.cellsOf 5 = 1 := by kernel_rfl
theorem cInt1 : Tryz.prog.cellsOf 3 = 1 := by kernel_rfl

set_option maxRecDepth 100000 in
/-- eight cells that read as a rule -/
theorem open_pair8 {sp : Nat → Bool} {held : Bool} {fuel : Nat} {cs : List Value} {x : DataW H × List MemPlace}
 (h : DataW.trod enc Tryz.prog W 0 sp held fuel 61 cs = some x) :
 ∃ r : Tm × Tm, elP.R W (fun c => c < W.heap.size) r cs := by
 obtain ⟨ys, n, hn, -, hlen, hyl, hf⟩ := DataW.trod_struct Tryz.underlying61 h
 rw [cRule] at hlen
 have h0 : DataW.trod enc Tryz.prog W 0 sp held n 25 ((cs.drop 0).take (Tryz.prog.cellsOf 25)) = ys[0]? := hf 0 _ rfl
 have h1 : DataW.trod enc Tryz.prog W 0 sp held n 25 ((cs.drop 4).take (Tryz.prog.cellsOf 25)) = ys[1]? := hf 1 _ rfl
 rw [cTerm, List.drop_zero] at h0
 rw [cTerm] at h1
 have g0 : ∃ y, DataW.trod enc Tryz.prog W 0 sp held n 25 (cs.take 4) = some y := ⟨ys[0]'(by rw [hyl]; decide), h0.trans (List.getElem?_eq_getElem _)⟩
 have g1 : ∃ y, DataW.trod enc Tryz.prog W 0 sp held n 25 ((cs.drop 4).take 4) = some y := ⟨ys[1]'(by rw [hyl]; decide), h1.trans (List.getElem?_eq_getElem _)⟩
 obtain ⟨y0, t0⟩ := g0
 obtain ⟨y1, t1⟩ := g1
 obtain ⟨s, a, cap, e0, hS⟩ := open_node (fun n _ => open_ts n) t0
 obtain ⟨t, b, dap, e1, hT⟩ := open_node (fun n _ => open_ts n) t1
 refine ⟨(s, t), a, cap, b, dap, ?_, hS, hT⟩
 have h1 : cs = cs.take 4 ++ (cs.drop 4).take 4 := by
  rw [List.take_of_length_le (l := cs.drop 4) (by rw [List.length_drop, hlen]; decide), List.take_append_drop]
 rw [h1, e0, e1]
 rfl
set_option maxRecDepth 100000 in
/-- a slice whose elements read as such of a kind -/
theorem open_rowG {α : Type} {E : Elm α} {T sl : TypeId} (hsl : Tryz.prog.underlying sl = some (.slice T)) (hc : Tryz.prog.cellsOf T = E.n) (hn0 : 0 < E.n)
 (ho : ∀ (sp : Nat → Bool) (held : Bool) (fuel : Nat) (cs : List Value) (x : DataW H × List MemPlace), DataW.trod enc Tryz.prog W 0 sp held fuel T cs = some x → ∃ r, E.R W (fun c => c < W.heap.size) r cs)
 {sp : Nat → Bool} {held : Bool} {fuel : Nat} {cs : List Value} {x : DataW H × List MemPlace} (h : DataW.trod enc Tryz.prog W 0 sp held fuel sl cs = some x) :
 ∃ a cap, ∃ L : List α, cs = [.slice a L.length cap] ∧ LsG E W (fun c => c < W.heap.size) (.slice a L.length cap) L ∧ (L = [] ∨ ∃ es sp', x.1 = .slice es sp' ∧ es.length = L.length) := by
 rcases DataW.trod_slice hsl h with ⟨rfl, -⟩ | ⟨a, len, cap, elems, rest, n, hn, rfl, hx, -, hlc, hcm, hlen, hel, -, -⟩
 · exact ⟨none, 0, [], rfl, LsG.nil, .inl rfl⟩
 · rw [hc] at hel
   have key : ∀ i, i < len → ∃ r : α, ∃ cs', E.R W (fun c => c < W.heap.size) r cs' ∧ (∀ (j : Nat) u, cs'[j]? = some u → W.cell? ⟨a.block, a.off + i * E.n + j, none⟩ = some u) ∧ a.spot = none := by
    intro i hi
    have h1 := hel i hi
    rw [List.getElem?_eq_getElem (show i < elems.length by omega)] at h1
    obtain ⟨cs', hcc, ht⟩ := Option.bind_eq_some_iff.1 h1
    have h0 := hel 0 (by omega)
    rw [List.getElem?_eq_getElem (show 0 < elems.length by omega)] at h0
    obtain ⟨cs0, hc0, -⟩ := Option.bind_eq_some_iff.1 h0
    obtain ⟨-, hl0, hat0⟩ := World.cells?_some hc0
    have hs := spot_none ((show W.cell? a = W.cell? ((a.add (0 * E.n)).add 0) by rw [add_zero, Nat.zero_mul, add_zero]).trans ((hat0 0 hn0).trans (List.getElem?_eq_getElem (by omega))))
    obtain ⟨-, hl, hat⟩ := World.cells?_some hcc
    obtain ⟨r, hr⟩ := ho _ _ _ _ _ ht
    refine ⟨r, cs', hr, fun j u hu => ?_, hs⟩
    have hj := (List.getElem?_eq_some_iff.1 hu).1
    have := hat j (by rw [E.len hr] at hj; omega)
    rw [Go.Deep.add_add, add_plain hs, ← Nat.add_assoc] at this
    exact this.trans hu
   obtain ⟨L, hl, hL⟩ := list_choose len key
   refine ⟨some a, cap, L, by rw [hl], ⟨some a, cap, rfl, by omega, hcm, fun i t hi => ?_⟩, .inr ⟨_, _, by rw [hx], by rw [List.length_map, hlen, hl]⟩⟩
   obtain ⟨cs', h1, h2, h3⟩ := hL i t hi
   have hlt : a.block < W.heap.size := by
    have hne : cs'.length = E.n := E.len h1
    exact World.block_lt_of_cell? W ⟨a.block, a.off + i * E.n + 0, none⟩ (h2 0 _ (List.getElem?_eq_getElem (by omega)))
   exact ⟨a.block, a.off, cs', by obtain ⟨b, o, s⟩ := a; simp only at h3; subst h3; rfl, hlt, hlt, h1, h2⟩
set_option maxRecDepth 100000 in
theorem open_rules {v : Value} {d : DataW H} {p : List MemPlace} {r : Reach} {b0 : Nat} (h : DataW.Trod enc Tryz.prog W 0 (fun _ => true) true 22 v d p) (hv : Value.okWide Tryz.prog W r b0 22 v) :
 ∃ a cap, ∃ L : List (Tm × Tm), v = .slice a L.length cap ∧ LsG elP W (fun c => c < W.heap.size) (.slice a L.length cap) L ∧ (L = [] ∨ ∃ es sp, d = .slice es sp ∧ es.length = L.length) := by
 obtain ⟨av, lv, cv, rfl⟩ := okWide_slice Tryz.underlying22 hv
 obtain ⟨fuel, hf⟩ := h
 obtain ⟨a, cap, L, e, hL, hx⟩ := open_rowG (E := elP) Tryz.underlying22 cRule (by decide) (fun _ _ _ _ _ h => open_pair8 h) hf
 simp [Value.cells] at e
 obtain ⟨rfl, rfl, rfl⟩ := e
 exact ⟨_, _, L, rfl, hL, hx⟩
theorem open_byte {sp : Nat → Bool} {held : Bool} {fuel : Nat} {cs : List Value} {x : DataW H × List MemPlace} (h : DataW.trod enc Tryz.prog W 0 sp held fuel 5 cs = some x) : ∃ r : Nat, elB.R W (fun c => c < W.heap.size) r cs := by
 obtain ⟨n, e, -, w⟩ := DataW.trod_int Tryz.underlying5 h
 simp [Lit.wf, IntKind.min, IntKind.max, IntKind.signed, IntKind.bits] at w
 refine ⟨n.toNat, ?_, by omega⟩
 rw [e, show ((n.toNat : Nat) : Int) = n by omega]
theorem open_int1 {sp : Nat → Bool} {held : Bool} {fuel : Nat} {cs : List Value} {x : DataW H × List MemPlace} (h : DataW.trod enc Tryz.prog W 0 sp held fuel 3 cs = some x) : ∃ r : Int, elI.R W (fun c => c < W.heap.size) r cs := by
 obtain ⟨n, e, -, w⟩ := DataW.trod_int Tryz.underlying3 h
 exact ⟨n, e, wf_I64 w⟩
set_option maxRecDepth 100000 in
theorem open_bytes {v : Value} {d : DataW H} {p : List MemPlace} {r : Reach} {b0 : Nat} (h : DataW.Trod enc Tryz.prog W 0 (fun _ => true) true 42 v d p) (hv : Value.okWide Tryz.prog W r b0 42 v) :
 ∃ a cap, ∃ L : List Nat, v = .slice a L.length cap ∧ LsG elB W (fun c => c < W.heap.size) (.slice a L.length cap) L := by
 obtain ⟨av, lv, cv, rfl⟩ := okWide_slice Tryz.underlying42 hv
 obtain ⟨fuel, hf⟩ := h
 obtain ⟨a, cap, L, e, hL, hx⟩ := open_rowG (E := elB) Tryz.underlying42 cByte (by decide) (fun _ _ _ _ _ h => open_byte h) hf
 simp [Value.cells] at e
 obtain ⟨rfl, rfl, rfl⟩ := e
 exact ⟨_, _, L, rfl, hL⟩
set_option maxRecDepth 100000 in
theorem open_redex {v : Value} {d : DataW H} {p : List MemPlace} {r : Reach} {b0 : Nat} (h : DataW.Trod enc Tryz.prog W 0 (fun _ => true) true 35 v d p) (hv : Value.okWide Tryz.prog W r b0 35 v) :
 ∃ (q : Rdx) (a : Option Addr) (cap : Nat), v = .agg #[.int .i64 q.1, .slice a q.2.length cap] ∧ I64 q.1 ∧ LsG elI W (fun c => c < W.heap.size) (.slice a q.2.length cap) q.2 := by
 obtain ⟨cs, rfl, hs⟩ := okWide_struct Tryz.underlying35 hv
 obtain ⟨fuel, hf⟩ := h
 obtain ⟨ys, n, hn, -, hlen, hyl, hf2⟩ := DataW.trod_struct Tryz.underlying35 hf
 have hc : Tryz.prog.cellsOf 35 = 2 := by kernel_rfl
 rw [hc] at hlen
 have e : (Value.agg cs).cells.toList = cs.toList := by simp [Value.cells]
 rw [e] at hlen hf2
 obtain ⟨v0, v1, hcs⟩ : ∃ v0 v1, cs.toList = [v0, v1] := by
  match hh : cs.toList, hlen with
  | [v0, v1], _ => exact ⟨v0, v1, rfl⟩
 rw [hcs] at hf2
 have g0 : ∃ y, DataW.trod enc Tryz.prog W 0 (fun _ => true) true n 3 [v0] = some y := ⟨ys[0]'(by rw [hyl]; decide), (hf2 0 _ rfl).trans (List.getElem?_eq_getElem _)⟩
 have g1 : ∃ y, DataW.trod enc Tryz.prog W 0 (fun _ => true) true n 33 [v1] = some y := ⟨ys[1]'(by rw [hyl]; decide), (hf2 1 _ rfl).trans (List.getElem?_eq_getElem _)⟩
 obtain ⟨y0, t0⟩ := g0
 obtain ⟨y1, t1⟩ := g1
 obtain ⟨k, e0, hk⟩ := open_int1 t0
 obtain ⟨a, cap, L, e1, hL, -⟩ := open_rowG (E := elI) Tryz.underlying33 cInt1 (by decide) (fun _ _ _ _ _ h => open_int1 h) t1
 cases e0
 cases e1
 refine ⟨(k, L), a, cap, ?_, hk, hL⟩
 have : cs = #[.int .i64 k, .slice a L.length cap] := by apply Array.ext'; rw [hcs]
 rw [this]
end
theorem readRs : Tryz.prog.readableRec 22 = true := by kernel_rfl
theorem rowRs : (22 : TypeId) < Tryz.prog.types.size := of_decide_eq_true (by kernel_rfl)
theorem readBs : Tryz.prog.readableRec 42 = true := by kernel_rfl
theorem rowBs : (42 : TypeId) < Tryz.prog.types.size := of_decide_eq_true (by kernel_rfl)
theorem readX : Tryz.prog.readableRec 35 = true := by kernel_rfl
theorem rowX : (35 : TypeId) < Tryz.prog.types.size := of_decide_eq_true (by kernel_rfl)
theorem fits_rules {H : Type} {L : List (Tm × Tm)} {d : DataW H} (h : L = [] ∨ ∃ es sp, d = .slice es sp ∧ es.length = L.length) (hs : ∀ es sp, d = .slice es sp → (es.length + sp.length) * Tryz.prog.bytesOf 61 ≤ reachBytes) : (L.length + 1) * 112 ≤ 140737488355328 := by
 have hr : reachBytes = 140737488351232 := rfl
 rcases h with rfl | ⟨es, sp, e, hl⟩
 · simp
 · have h := hs es sp e
   rw [show Tryz.prog.bytesOf 61 = 112 from by kernel_rfl, hr] at h
   have h2 := Nat.mul_le_mul_right 112 (Nat.le_add_right es.length sp.length)
   rw [hl] at h2
   omega
end Go.Proofs.YtpfnlbaloaohgaaGreat
