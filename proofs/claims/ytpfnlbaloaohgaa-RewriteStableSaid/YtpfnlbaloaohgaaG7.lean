/- Contracts: Go's Clone and Concat of lists of terms. Contracts: the program's errors of lists. Contracts: copies of lists of terms. -/
import Derived.Test.YtpfnlbaloaohgaaG3
import Derived.Lib.AppendZeros
import Derived.Lib.SliceRun
import Derived.Test.YtpfnlbaloaohgaaG6
import Derived.Laws.MakeOwn
import Derived.Laws.CopyRow
namespace Go.Proofs.Ytpfnlbaloaohgaa
open Go Go.RowKit
set_option linter.unusedVariables false
set_option linter.unusedSimpArgs false

/-- the row g holds E, and what is left -/
structure OwnI (w wr : World) (g n : Nat) (E : List TE) (rest : List Value) : Prop where
 row : wr.heap[g]? = some (.cells (E.flatMap encE ++ rest).toArray 31)
 len : rest.length + E.length * 4 = n * 4
 kids : ∀ e ∈ E, TmW wr (fun c => w.heap.size ≤ c ∧ c ≠ g) e.a e.cap e.t
 ext : Ext w wr
theorem OwnI.next {w wr w' : World} {g n : Nat} {E : List TE} {rest : List Value} (h : OwnI w wr g n E rest) (hE : Ext wr w') : OwnI w w' g n E rest :=
 ⟨hs_ext hE h.row, h.len, fun e he => (h.kids e he).ext hE, h.ext.trans hE⟩
theorem OwnI.own {w wr : World} {g n : Nat} {E : List TE} (h : OwnI w wr g n E []) (hg : w.heap.size ≤ g) (hn : n ≤ 1000000) : E.length = n ∧ OwnT wr w.heap.size (fun c => w.heap.size ≤ c) (.slice (some ⟨g, 0, none⟩) n n) (E.map (·.t)) := by
 have hl := flatE_len encE_len E
 have hEn : E.length = n := by have := h.len; simp at this; omega
 refine ⟨hEn, E, rfl, ⟨hl, .inr ⟨g, n, _, by rw [hEn], hg, h.row, by omega, by unfold maxLen; omega, ?_, ?_⟩⟩, fun e he => (h.kids e he).wide (fun c hc _ => hc.1)⟩
 · simp only [List.append_nil, List.size_toArray]; omega
 · simp only [List.append_nil]; rw [← hl, List.take_length]

end Go.Proofs.Ytpfnlbaloaohgaa
