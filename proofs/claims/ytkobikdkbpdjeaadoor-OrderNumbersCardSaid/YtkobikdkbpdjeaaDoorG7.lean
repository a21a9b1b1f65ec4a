/- Contracts: Go's Clone and Concat of lists of terms. Contracts: the program's errors of lists. Contracts: copies of lists of terms. -/
import Derived.Test.YtkobikdkbpdjeaaDoorG3
import Derived.Lib.AppendZeros
import Derived.Lib.SliceRun
import Derived.Test.YtkobikdkbpdjeaaDoorG6
import Derived.Laws.MakeOwn
import Derived.Laws.CopyRow
namespace Go.Proofs.YtkobikdkbpdjeaaDoor
open Go Go.RowKit
set_option linter.unusedVariables false
set_option linter.unusedSimpArgs false

/-- the parts that are joined so far -/
def joinN (A B : List Tm) (k : Nat) : List Tm := if k = 0 then [] else if k = 1 then A else A ++ B

theorem wpList_storeAt {ops : Array Oper} {rest : List Oper} {o : Oper} {a : Act} {w : World} {Q : Exit → Act → World → Prop} (hgd : o.guard = none) (x y : Operand) (ho : o.op = .store 38 x y)
 {g off : Nat} (hx : a.eval x = .pointer (some ⟨g, off, none⟩)) {k s : Int} {n : ByteArray} {ka : Option Addr} {kl kc : Nat} (hy : a.eval y = .agg #[.int .i64 k, .string n, .int .i64 s, .slice ka kl kc])
 {cur : Array Value} (hg : w.heap[g]? = some (.cells cur 38)) (ho4 : off + 4 ≤ cur.size)
 (hK : ∀ w', w'.heap[g]? = some (.cells (cur.toList.take off ++ ([.int .i64 k, .string n, .int .i64 s, .slice ka kl kc] : List Value) ++ cur.toList.drop (off + 4)).toArray 38) → (∀ q, q ≠ g → w'.heap[q]? = w.heap[q]?) → (∀ W0, Ext W0 w → W0.heap.size ≤ g → Ext W0 w') → w'.heap.size = w.heap.size → wpList Tryd.prog ops Q rest (a.put o.dst undef) w') :
 wpList Tryd.prog ops Q (o :: rest) a w := by
 refine wpList_plain hgd fun K hK' => ?_
 have hr := run_storeCells_at (P := Tryd.prog) g off 38 [.int .i64 k, .string n, .int .i64 s, .slice ka kl kc] 0 cur w hg (by simpa using ho4) (by simp [Value.oneCell'])
 have hsz := sizT
 cases hq : Tryd.prog.info? 38 with
 | none => rw [hq] at hsz; cases hsz
 | some i0 =>
   have hs : i0.size = 4 := by rw [hq] at hsz; simpa using hsz
   have hv : (storeVar 38 ⟨g, off, none⟩ (.agg #[.int .i64 k, .string n, .int .i64 s, .slice ka kl kc])).run Tryd.prog w = .ok () (w.setRow g (cur.toList.take off ++ ([.int .i64 k, .string n, .int .i64 s, .slice ka kl kc] : List Value) ++ cur.toList.drop (off + 4)).toArray) := by
    simp only [Nat.add_zero, List.length_cons, List.length_nil] at hr
    simp [storeVar, sizeOf, typeInfo, hq, Value.cells, hs, hr]
   unfold Oper.wp execOp
   simp only [ho, hx, hy, Instr.storeAt, Instr.sureAddr, Sem.run_bind, Sem.run_pure, Result.andThen_ok, hv]
   exact hK' _ _ (hK _ (setRow_heap w g cur _ _ _ hg) (fun q hq => setRow_other w g q _ hq) (fun W0 h hg => h.setRow hg _) (size_setRow _ _ _))

/-- the row g holds E, and what is left -/
structure OwnI (w wr : World) (g n : Nat) (E : List TE) (rest : List Value) : Prop where
 row : wr.heap[g]? = some (.cells (E.flatMap encE ++ rest).toArray 38)
 len : rest.length + E.length * 4 = n * 4
 kids : ∀ e ∈ E, TmW wr (fun c => w.heap.size ≤ c ∧ c ≠ g) e.a e.cap e.t
 ext : Ext w wr
theorem OwnI.next {w wr w' : World} {g n : Nat} {E : List TE} {rest : List Value} (h : OwnI w wr g n E rest) (hE : Ext wr w') : OwnI w w' g n E rest :=
 ⟨hs_ext hE h.row, h.len, fun e he => (h.kids e he).ext hE, h.ext.trans hE⟩
theorem row_put {E : List TE} {x : Tm} {a a' : Option Addr} {c c' : Nat} {rest : List Value} : (((E ++ [(⟨x, a, c⟩ : TE)]).flatMap encE ++ rest).toArray).setIfInBounds (E.length * 4 + 3) (.slice a' x.kids.length c') = ((E ++ [(⟨x, a', c'⟩ : TE)]).flatMap encE ++ rest).toArray := by
 have hl := flatE_len encE_len E
 rw [List.setIfInBounds_toArray]
 congr 1
 simp only [List.flatMap_append, List.flatMap_cons, List.flatMap_nil, List.append_nil, List.append_assoc]
 rw [List.set_append_right _ _ (by omega), hl, show E.length * 4 + 3 - E.length * 4 = 3 by omega]
 rfl
theorem row_store {E : List TE} {x : Tm} {a : Option Addr} {c : Nat} {r0 r1 r2 r3 : Value} {rest : List Value} : ((E.flatMap encE ++ (r0 :: r1 :: r2 :: r3 :: rest)).toArray.toList.take (E.length * 4) ++ ([.int .i64 x.kind, .string x.name, .int .i64 x.sort, .slice a x.kids.length c] : List Value) ++ (E.flatMap encE ++ (r0 :: r1 :: r2 :: r3 :: rest)).toArray.toList.drop (E.length * 4 + 4)).toArray = ((E ++ [(⟨x, a, c⟩ : TE)]).flatMap encE ++ rest).toArray := by
 have hl := flatE_len encE_len E
 congr 1
 simp only [List.flatMap_append, List.flatMap_cons, List.flatMap_nil, List.append_nil]
 rw [← hl, List.take_left, ← List.drop_drop, List.drop_left]
 simp [encE]
theorem row_get {E : List TE} {x : Tm} {a : Option Addr} {c : Nat} {rest : List Value} : (((E ++ [(⟨x, a, c⟩ : TE)]).flatMap encE ++ rest).toArray)[E.length * 4 + 3]? = some (.slice a x.kids.length c) := by
 simp only [List.getElem?_toArray, List.flatMap_append, List.flatMap_cons, List.flatMap_nil, List.append_nil, List.append_assoc]
 have h1 := flatE_len encE_len E
 rw [List.getElem?_append_right (by omega), h1, show E.length * 4 + 3 - E.length * 4 = 3 by omega]
 rfl
theorem OwnI.last {w w6 w7 : World} {g n : Nat} {E : List TE} {x : Tm} {a a' : Option Addr} {c c' : Nat} {rest : List Value} (h : OwnI w w6 g n (E ++ [⟨x, a, c⟩]) rest) (hw7 : w7 = w6.setCell ⟨g, E.length * 4 + 3, none⟩ (.slice a' x.kids.length c')) (hg : w.heap.size ≤ g) (hT : TmW w6 (fun c => w.heap.size ≤ c ∧ c ≠ g) a' c' x) :
 OwnI w w7 g n (E ++ [⟨x, a', c'⟩]) rest := by
 have hk : ∀ c, c ≠ g → w7.heap[c]? = w6.heap[c]? := fun c hc => by rw [hw7]; exact heap_setCell_other _ _ _ _ hc
 refine ⟨?_, by have := h.len; simp at this ⊢; omega, fun e he => ?_, by rw [hw7]; exact h.ext.setCell hg _⟩
 · rw [hw7, heap_setCell_same _ _ _ _ _ _ h.row, row_put]
 · rcases List.mem_append.1 he with he | he
   · exact (h.kids e (by simp [he])).keep (fun c hc _ => hk c hc.2) (fun _ h _ => h)
   · simp at he
     subst he
     exact hT.keep (fun c hc _ => hk c hc.2) (fun _ h _ => h)
theorem OwnI.own {w wr : World} {g n : Nat} {E : List TE} (h : OwnI w wr g n E []) (hg : w.heap.size ≤ g) (hn : n ≤ 1000000) : E.length = n ∧ OwnT wr w.heap.size (fun c => w.heap.size ≤ c) (.slice (some ⟨g, 0, none⟩) n n) (E.map (·.t)) := by
 have hl := flatE_len encE_len E
 have hEn : E.length = n := by have := h.len; simp at this; omega
 refine ⟨hEn, E, rfl, ⟨hl, .inr ⟨g, n, _, by rw [hEn], hg, h.row, by omega, by unfold maxLen; omega, ?_, ?_⟩⟩, fun e he => (h.kids e he).wide (fun c hc _ => hc.1)⟩
 · simp only [List.append_nil, List.size_toArray]; omega
 · simp only [List.append_nil]; rw [← hl, List.take_length]

end Go.Proofs.YtkobikdkbpdjeaaDoor
