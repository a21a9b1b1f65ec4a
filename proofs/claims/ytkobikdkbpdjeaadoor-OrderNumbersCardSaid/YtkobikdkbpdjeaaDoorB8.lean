/- A forest in memory. -/
import Derived.Test.YtkobikdkbpdjeaaDoorB7
import Derived.Test.YtkobikdkbpdjeaaDoorG1
namespace Go.Proofs.YtkobikdkbpdjeaaDoor
open Go Go.RowKit
open Go.Maps (Keyed)
set_option linter.unusedVariables false
set_option linter.unusedSimpArgs false

/-- nodes -/
def elN : Elm Nd where
 n := 6
 R w S x cs := ∃ a cap v, cs = encE ⟨x.t, a, cap⟩ ++ [.int .i64 x.r, v] ∧ TmW w S a cap x.t ∧ I64 x.r ∧ LsG elI w S v x.ks
 len := by rintro w S t cs ⟨a, cap, v, rfl, -⟩; rfl
 one := by
  rintro w S t cs ⟨a, cap, v, rfl, -, -, h⟩ u hu
  obtain ⟨a', cap', rfl, -⟩ := h.slice
  rcases List.mem_append.1 hu with h | h
  · exact encE_one' _ u h
  · simp at h
    rcases h with rfl | rfl <;> rfl
 keep := by
  rintro w w' S S' t cs ⟨a, cap, v, rfl, h, hr, hk⟩ h1 h2
  exact ⟨a, cap, v, rfl, h.keep h1 h2, hr, hk.hold h1 h2⟩
theorem infNode : (Tryd.prog.info? 67).map (fun i => (i.zero, i.size, i.bytes)) = some (some (.agg #[.int .i64 0, .string ⟨#[]⟩, .int .i64 0, .slice none 0 0, .int .i64 0, .slice none 0 0]), 6, 88) := by kernel_rfl

/-- strings, as keys -/
abbrev BKey := { s : ByteArray // s.size ≤ maxLen }
def encB (k : BKey) : Value := .string k.1
theorem encB_inj (x y : BKey) (h : encB x = encB y) : x = y := by
 obtain ⟨x, hx⟩ := x
 obtain ⟨y, hy⟩ := y
 simp [encB] at h
 subst h; rfl
/-- pairs of numbers, as keys -/
abbrev QKey := { k : Int × Int // I64 k.1 ∧ I64 k.2 }
def encQ (k : QKey) : Value := .agg #[.int .i64 k.1.1, .int .i64 k.1.2]
theorem encQ_inj (x y : QKey) (h : encQ x = encQ y) : x = y := by
 obtain ⟨⟨x1, x2⟩, hx⟩ := x
 obtain ⟨⟨y1, y2⟩, hy⟩ := y
 simp [encQ] at h
 obtain ⟨rfl, rfl⟩ := h
 rfl
theorem lawStr : Keyed Tryd.prog 9 := Maps.string_keyed Tryd.underlying9
theorem keyStr (p : BKey) : ∃ l, keyOf Tryd.prog 9 (encB p) = some l := by
 obtain ⟨x, hx⟩ := p
 refine ⟨.string x.data.toList, ?_⟩
 unfold keyOf encB
 simp only [Tryd.underlying9]
 simp [mapKey, Tryd.underlying9, hx]
theorem laidOutP : laidOutB Tryd.prog = true := by kernel_rfl
theorem cellsInt : Tryd.prog.cellsOf 3 = 1 := by kernel_rfl
theorem infPos : ∃ m, Tryd.prog.types.size = m + 1 := ⟨Tryd.prog.types.size - 1, by have h : (3 : Nat) < Tryd.prog.types.size := of_decide_eq_true (by kernel_rfl); omega⟩
theorem rowQ : (76 : TypeId) < Tryd.prog.types.size := of_decide_eq_true (by kernel_rfl)
theorem deepQ : Tryd.prog.keyTypeAt 2 76 = true := by kernel_rfl
theorem klawQ : WideMaps.KeyLaw Tryd.prog 76 := by
 refine deep_law_laid (P := Tryd.prog) (k := 76) laidOutP (m := 2) (by omega) rowQ deepQ ?_
 rw [Tryd.underlying76]
theorem lawQ : Keyed Tryd.prog 76 := Keyed.of_law klawQ
theorem keyTypeQ : Tryd.prog.keyType 76 = true := by kernel_rfl
theorem cellsQ : Tryd.prog.cellsOf 76 = 2 := by kernel_rfl
theorem keyQ (p : QKey) : ∃ l, keyOf Tryd.prog 76 (encQ p) = some l := by
 obtain ⟨⟨x, y⟩, ⟨hx1, hx2⟩, ⟨hy1, hy2⟩⟩ := p
 simp only at hx1 hx2 hy1 hy2
 have wx : (Lit.int .i64 x).wf = true := WalkArith.wf_i64 ⟨hx1, hx2⟩
 have wy : (Lit.int .i64 y).wf = true := WalkArith.wf_i64 ⟨hy1, hy2⟩
 obtain ⟨m, hm⟩ := infPos
 have hu := Tryd.underlying76
 have hf : (Value.agg #[.int .i64 x, .int .i64 y]).formed Tryd.prog 76 = true := by simp [Value.formed, hu, cellsQ]
 refine ⟨.string (keyBytes [.int .i64 x, .int .i64 y]), ?_⟩
 unfold keyOf encQ
 simp only [hu]
 rw [if_pos (by rw [keyTypeQ, hf]; rfl), hm]
 unfold Program.keyLits
 simp [hu, Value.cells, cellsQ, cellsInt, Program.keyLits, Tryd.underlying3, wx, wy, show List.range 2 = [0, 1] from rfl]

/-- the nodes N of a forest lie in memory: block fb holds it, ib its ids, mb what it knows -/
structure FW (w : World) (B fb ib mb : Nat) (l : List ByteArray) (lv nv : Value) (N : List Nd) (S : Nat → Prop) : Prop where
 blk : w.heap[fb]? = some (.cells #[lv, nv, .map (some ib), .map (some mb)] 65)
 low : B ≤ fb ∧ B ≤ ib ∧ B ≤ mb ∧ ib ≠ mb ∧ B ≤ w.heap.size
 names : LsG elS w (fun c => c < B) lv l
 out : ∀ c, S c → c < w.heap.size ∧ c ≠ fb ∧ c ≠ ib ∧ c ≠ mb ∧ nv.ownBlock ≠ some c
 base : ∀ c, c < B → S c
 typ : ∀ c, S c → B ≤ c → ∃ cur, w.heap[c]? = some (.cells cur 3)
 row : OwnG elN w B 67 S nv N
 ids : ∃ D n, IdsOk N D ∧ MapK encB w ib n (fun s => (D s.1.data.toList).map (.int .i64))
 grown : Grown l N
section
variable {w w' : World} {B fb ib mb : Nat} {l : List ByteArray} {lv nv : Value} {N : List Nd} {S : Nat → Prop}
theorem FW.fbl (h : FW w B fb ib mb l lv nv N S) : fb < w.heap.size := (Array.getElem?_eq_some_iff.1 h.blk).1
theorem FW.ibl (h : FW w B fb ib mb l lv nv N S) : ib < w.heap.size := let ⟨_, _, _, h⟩ := h.ids; h.lt
/-- what does not touch it -/
theorem FW.keep (h : FW w B fb ib mb l lv nv N S) (hs : w.heap.size ≤ w'.heap.size) (hk : ∀ c, c < w.heap.size → c < B ∨ c = fb ∨ c = ib ∨ nv.ownBlock = some c ∨ S c → w'.heap[c]? = w.heap[c]?) : FW w' B fb ib mb l lv nv N S := by
 refine ⟨(hk fb h.fbl (.inr (.inl rfl))).trans h.blk, ⟨h.low.1, h.low.2.1, h.low.2.2.1, h.low.2.2.2.1, Nat.le_trans h.low.2.2.2.2 hs⟩, h.names.keep (fun c hc hlt => hk c hlt (.inl hc)) (fun _ h _ => h) hs, fun c hc => ⟨Nat.lt_of_lt_of_le (h.out c hc).1 hs, (h.out c hc).2⟩, h.base, fun c hc hB => let ⟨cur, e⟩ := h.typ c hc hB; ⟨cur, (hk c (h.out c hc).1 (.inr (.inr (.inr (.inr hc))))).trans e⟩, h.row.keep (fun g hg => hk g (h.row.lt g hg).2 (.inr (.inr (.inr (.inl hg))))) (fun c hc hlt => hk c hlt (.inr (.inr (.inr (.inr hc))))) (fun _ h _ => h), ?_, h.grown⟩
 obtain ⟨D, n, hD, hM⟩ := h.ids
 exact ⟨D, n, hD, hM.same (hk ib hM.lt (.inr (.inr (.inl rfl))))⟩
theorem FW.ext (h : FW w B fb ib mb l lv nv N S) (hE : Ext w w') : FW w' B fb ib mb l lv nv N S := h.keep hE.size (fun c hc _ => hE.block hc)
/-- where a grown map of what is known is all that changes -/
theorem FW.known (h : FW w B fb ib mb l lv nv N S) (hg : w.grownBy w' (some mb)) (hm : nv.ownBlock ≠ some mb) (hf : fb ≠ mb) : FW w' B fb ib mb l lv nv N S := by
 refine h.keep hg.size fun c hc h' => hg.block c hc (fun e => ?_)
 cases e
 rcases h' with h' | h' | h' | h' | h'
 · have := h.low.2.2.1; omega
 · exact hf h'.symm
 · exact h.low.2.2.2.1 h'.symm
 · exact hm h'
 · exact (h.out _ h').2.2.2.1 rfl
theorem LsG.nAt {a : Option Addr} {n cap i : Nat} {L : List Nd} {x : Nd} (h : LsG elN w S (.slice a n cap) L) (hi : L[i]? = some x) : ∃ b off a' cap' ka kc, a = some ⟨b, off, none⟩ ∧
 w.cell? ⟨b, off + i * 6, none⟩ = some (.int .i64 x.t.kind) ∧ w.cell? ⟨b, off + i * 6 + 1, none⟩ = some (.string x.t.name) ∧ w.cell? ⟨b, off + i * 6 + 2, none⟩ = some (.int .i64 x.t.sort) ∧ w.cell? ⟨b, off + i * 6 + 3, none⟩ = some (.slice a' x.t.kids.length cap') ∧
 w.cell? ⟨b, off + i * 6 + 4, none⟩ = some (.int .i64 x.r) ∧ w.cell? ⟨b, off + i * 6 + 5, none⟩ = some (.slice ka x.ks.length kc) ∧ TmW w S a' cap' x.t ∧ I64 x.r ∧ LsG elI w S (.slice ka x.ks.length kc) x.ks := by
 obtain ⟨b, off, cs, e, hb, hlt, ⟨a', cap', v, rfl, hW, hr, hk⟩, hcs⟩ := h.at hi
 obtain ⟨ka, kc, rfl, -, -⟩ := hk.slice
 exact ⟨b, off, a', cap', ka, kc, e, hcs 0 _ rfl, hcs 1 _ rfl, hcs 2 _ rfl, hcs 3 _ rfl, hcs 4 _ rfl, hcs 5 _ rfl, hW, hr, hk⟩
end

theorem sizN : (Tryd.prog.info? 67).map (fun i => i.size) = some 6 := by kernel_rfl
theorem wpList_storeN {ops : Array Oper} {rest : List Oper} {o : Oper} {a : Act} {w : World} {Q : Exit → Act → World → Prop} (hgd : o.guard = none) (x y : Operand) (ho : o.op = .store 67 x y)
 {g : Nat} (hx : a.eval x = .pointer (some ⟨g, 0, none⟩)) {k s r : Int} {n : ByteArray} {ka ks : Option Addr} {kl kc sl sc : Nat} (hy : a.eval y = .agg #[.int .i64 k, .string n, .int .i64 s, .slice ka kl kc, .int .i64 r, .slice ks sl sc])
 {old : Array Value} (hg : w.heap[g]? = some (.cells old 67)) (ho4 : old.size = 6)
 (hK : ∀ w', w'.heap[g]? = some (.cells #[.int .i64 k, .string n, .int .i64 s, .slice ka kl kc, .int .i64 r, .slice ks sl sc] 67) → (∀ q, q ≠ g → w'.heap[q]? = w.heap[q]?) → (∀ W0, Ext W0 w → W0.heap.size ≤ g → Ext W0 w') → w'.heap.size = w.heap.size → wpList Tryd.prog ops Q rest (a.put o.dst undef) w') :
 wpList Tryd.prog ops Q (o :: rest) a w := by
 refine wpList_store_all hgd 67 x y ho g _ hx hy 67 old hg sizN ho4 (by simp [Value.oneCell']) ?_
 exact hK _ (setRow_heap w g old _ _ _ hg) (fun q hq => setRow_other w g q _ hq) (fun W0 h hg => h.setRow hg _) (size_setRow _ _ _)
theorem box6 {w : World} {g T : Nat} {a b c d e f : Value} (h : w.heap[g]? = some (.cells #[a, b, c, d, e, f] T)) : w.cell? ⟨g, 0, none⟩ = some a ∧ w.cell? ⟨g, 1, none⟩ = some b ∧ w.cell? ⟨g, 2, none⟩ = some c ∧ w.cell? ⟨g, 3, none⟩ = some d ∧ w.cell? ⟨g, 4, none⟩ = some e ∧ w.cell? ⟨g, 5, none⟩ = some f := by
 refine ⟨?_, ?_, ?_, ?_, ?_, ?_⟩ <;> rw [cellc h] <;> rfl

end Go.Proofs.YtkobikdkbpdjeaaDoor
