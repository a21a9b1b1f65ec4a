/- Representation of tables of formats in memory. -/
import Derived.WalkKit
import Derived.Below
import Derived.Lib.Hide
import Derived.IntWalk
namespace Go.Proofs.Ythoelnoahfedmaa
open Go.RowKit

theorem rb {a b : Bool} (h : a = b) : Ending.returned (.bool a) = Ending.returned (.bool b) := by rw [h]
theorem ri {k : IntKind} {a b : Int} (h : a = b) : Ending.returned (.int k a) = Ending.returned (.int k b) := by rw [h]

/-- nothing that was there has changed -/
def Ext (w w' : World) : Prop := Below w.heap.size w w'
theorem Ext.refl (w : World) : Ext w w := Below.refl _ _
theorem Ext.size {w w' : World} (h : Ext w w') : w.heap.size ≤ w'.heap.size := Below.size h
theorem Ext.trans {a b c : World} (h : Ext a b) (k : Ext b c) : Ext a c := Below.trans h (Below.mono k h.size)
theorem Ext.alloc (w : World) (o : Obj) : Ext w (w.alloc o) := (Below.refl _ _).alloc (Nat.le_refl _) o
theorem Ext.drew (w : World) : Ext w w.drew := (Below.refl _ _).drew
theorem Ext.al {w w' : World} {o : Obj} (h : Ext (w.alloc o) w') : Ext w w' := (Ext.alloc w o).trans h
theorem Ext.dr {w w' : World} (h : Ext w.drew w') : Ext w w' := (Ext.drew w).trans h
theorem Ext.then_al {w w' : World} (h : Ext w w') (o : Obj) : Ext w (w'.alloc o) := h.trans (Ext.alloc w' o)
theorem Ext.then_dr {w w' : World} (h : Ext w w') : Ext w w'.drew := h.trans (Ext.drew w')
theorem Ext.below {w w' : World} (h : Ext w w') {B : Nat} (hB : B ≤ w.heap.size) : Below B w w' := Below.mono h hB
theorem Ext.cell {w w' : World} (h : Ext w w') {b o : Nat} (hb : b < w.heap.size) : w'.cell? ⟨b, o, none⟩ = w.cell? ⟨b, o, none⟩ := Below.cell h hb
theorem Ext.block {w w' : World} (h : Ext w w') {b : Nat} (hb : b < w.heap.size) : w'.heap[b]? = w.heap[b]? := Below.block h b hb

theorem Ext.cells {w w' : World} (h : Ext w w') : (∀ b o, b < w.heap.size → w'.cell? ⟨b, o, none⟩ = w.cell? ⟨b, o, none⟩) ∧ (∀ b o, b < w.heap.size → w'.frozen? ⟨b, o, none⟩ = w.frozen? ⟨b, o, none⟩) :=
  ⟨fun b o hb => Below.cell (p := ⟨b, o, none⟩) h hb, fun b o hb => Below.frozen (p := ⟨b, o, none⟩) h hb⟩
theorem Ext.cells1 {w w' : World} {o : Obj} (h : Ext (w.alloc o) w') : (∀ b i, b < w.heap.size + 1 → w'.cell? ⟨b, i, none⟩ = (w.alloc o).cell? ⟨b, i, none⟩) ∧ (∀ b i, b < w.heap.size + 1 → w'.frozen? ⟨b, i, none⟩ = (w.alloc o).frozen? ⟨b, i, none⟩) ∧ w.heap.size + 1 ≤ w'.heap.size := by
  have := h.cells
  have h3 := h.size
  simp only [World.size_alloc] at this h3
  exact ⟨this.1, this.2, h3⟩

theorem cs_ext {w w' : World} {p : Addr} {v : Value} (h : Ext w w') (hc : w.cell? p = some v) : w'.cell? p = some v :=
  (Below.cell h (World.block_lt_of_cell? w p hc)).trans hc
theorem cs_al {w : World} {o : Obj} {p : Addr} {v : Value} (hc : w.cell? p = some v) : (w.alloc o).cell? p = some v := cs_ext (Ext.alloc w o) hc
theorem cs_dr {w : World} {p : Addr} {v : Value} (hc : w.cell? p = some v) : w.drew.cell? p = some v := hc
theorem cs_new {w : World} {cs : Array Value} {T i : Nat} {v : Value} (h : cs[i]? = some v) : (w.alloc (.cells cs T)).cell? ⟨w.heap.size, i, none⟩ = some v := by
  rw [World.cell?_alloc_new]; exact h
theorem hs_ext {w w' : World} {b : Nat} {v : Obj} (h : Ext w w') (hc : w.heap[b]? = some v) : w'.heap[b]? = some v :=
  (h.block (Array.getElem?_eq_some_iff.1 hc).1).trans hc
theorem hs_al {w : World} {o : Obj} {b : Nat} {v : Obj} (hc : w.heap[b]? = some v) : (w.alloc o).heap[b]? = some v := hs_ext (Ext.alloc w o) hc
theorem hs_new {w : World} {o : Obj} : (w.alloc o).heap[w.heap.size]? = some o := heap_alloc_new w o

theorem Ext.setRow {w w' : World} (h : Ext w w') {g : Nat} (hg : w.heap.size ≤ g) (cs : Array Value) : Ext w (w'.setRow g cs) :=
  ⟨h.os, h.tape, h.output, by simpa using h.size, fun k hk => by rw [setRow_other _ _ _ _ (by omega)]; exact Below.block h k hk⟩
theorem wpList_store_all {P : Program} {ops : Array Oper} {rest : List Oper} {o : Oper} {a : Act} {w : World} {Q : Exit → Act → World → Prop} (hgd : o.guard = none) (ty : TypeId) (x y : Operand) (ho : o.op = .store ty x y)
    (g : Nat) (cells : Array Value) (hx : a.eval x = .pointer (some ⟨g, 0, none⟩)) (hy : a.eval y = .agg cells)
    (t : TypeId) (old : Array Value) (hg : w.heap[g]? = some (.cells old t (0, 0))) (hi : (P.info? ty).map (·.size) = some cells.size)
    (hold : old.size = cells.size) (h1 : cells.all (·.oneCell') = true)
    (h : wpList P ops Q rest (a.put o.dst undef) (w.setRow g cells)) : wpList P ops Q (o :: rest) a w :=
  wpList_plain hgd fun _ hK => wp_store_row ty x y ho g cells hx hy t old hg hi hold h1 (hK _ _ h)

structure Fld where
  kind : Int
  bytes : ByteArray
  n : Int
  low : Int
  high : Int
  deriving Inhabited

structure Fmt where
  name : ByteArray
  fields : List Fld
  deriving Inhabited

def I64 (x : Int) : Prop := -9223372036854775808 ≤ x ∧ x ≤ 9223372036854775807

structure Fld.Wf (f : Fld) : Prop where
  kind : I64 f.kind
  n : I64 f.n
  low : I64 f.low
  high : I64 f.high
  bytes : f.bytes.size ≤ maxLen

structure FldAt (w : World) (b off : Nat) (f : Fld) : Prop where
  kind : w.cell? ⟨b, off, none⟩ = some (.int .i64 f.kind)
  bytes : w.cell? ⟨b, off + 1, none⟩ = some (.string f.bytes)
  n : w.cell? ⟨b, off + 2, none⟩ = some (.int .i64 f.n)
  low : w.cell? ⟨b, off + 3, none⟩ = some (.int .i64 f.low)
  high : w.cell? ⟨b, off + 4, none⟩ = some (.int .i64 f.high)
  wf : f.Wf

theorem FldAt.same {w w' : World} {b off : Nat} {f : Fld} (h : FldAt w b off f) (hb : w'.heap[b]? = w.heap[b]?) : FldAt w' b off f := by
  have e : ∀ o, w'.cell? ⟨b, o, none⟩ = w.cell? ⟨b, o, none⟩ := fun o => World.cell?_of_block (a := ⟨b, o, none⟩) hb
  exact ⟨by rw [e]; exact h.kind, by rw [e]; exact h.bytes, by rw [e]; exact h.n, by rw [e]; exact h.low, by rw [e]; exact h.high, h.wf⟩

/-- the fields l lie at address a, in a block below B -/
def FldsA (w : World) (B : Nat) (a : Option Addr) (l : List Fld) : Prop :=
  l.length ≤ maxLen ∧ (l ≠ [] → ∃ b off, a = some ⟨b, off, none⟩ ∧ b < B ∧ ∀ i f, l[i]? = some f → FldAt w b (off + i * 5) f)

theorem FldsA.below {w w' : World} {B B' : Nat} {a : Option Addr} {l : List Fld} (h : FldsA w B a l) (hb : Below B' w w') (hB : B ≤ B') : FldsA w' B a l :=
  ⟨h.1, fun hne => let ⟨b, off, ha, hlt, hf⟩ := h.2 hne; ⟨b, off, ha, hlt, fun i f hi => (hf i f hi).same (hb.block b (Nat.lt_of_lt_of_le hlt hB))⟩⟩

structure FmtAt (w : World) (B : Nat) (b off : Nat) (f : Fmt) : Prop where
  name : w.cell? ⟨b, off, none⟩ = some (.string f.name)
  fields : ∃ a cap, w.cell? ⟨b, off + 1, none⟩ = some (.slice a f.fields.length cap) ∧ FldsA w B a f.fields
  wf : f.name.size ≤ maxLen

/-- the table t lies at address a, all of it in blocks below B -/
def TabA (w : World) (B : Nat) (a : Option Addr) (t : List Fmt) : Prop :=
  t.length ≤ maxLen ∧ (t ≠ [] → ∃ b off, a = some ⟨b, off, none⟩ ∧ b < B ∧ ∀ i f, t[i]? = some f → FmtAt w B b (off + i * 2) f)

theorem TabA.below {w w' : World} {B B' : Nat} {a : Option Addr} {t : List Fmt} (h : TabA w B a t) (hb : Below B' w w') (hB : B ≤ B') : TabA w' B a t :=
  ⟨h.1, fun hne => let ⟨b, off, ha, hlt, hf⟩ := h.2 hne; ⟨b, off, ha, hlt, fun i f hi => by
    have hblk := hb.block b (Nat.lt_of_lt_of_le hlt hB)
    obtain ⟨h1, ⟨a', cap, h2, h3⟩, h4⟩ := hf i f hi
    have e : ∀ o, w'.cell? ⟨b, o, none⟩ = w.cell? ⟨b, o, none⟩ := fun o => World.cell?_of_block (a := ⟨b, o, none⟩) hblk
    exact ⟨by rw [e]; exact h1, ⟨a', cap, by rw [e]; exact h2, h3.below hb hB⟩, h4⟩⟩⟩

theorem TabA.alloc {w : World} {B : Nat} {a : Option Addr} {t : List Fmt} (h : TabA w B a t) (hB : B ≤ w.heap.size) (o : Obj) : TabA (w.alloc o) B a t :=
  h.below ((Below.refl B w).alloc hB o) (Nat.le_refl _)

theorem FldsA.alloc {w : World} {B : Nat} {a : Option Addr} {l : List Fld} (h : FldsA w B a l) (hB : B ≤ w.heap.size) (o : Obj) : FldsA (w.alloc o) B a l :=
  h.below ((Below.refl B w).alloc hB o) (Nat.le_refl _)

theorem TabA.ext {w w' : World} {B : Nat} {a : Option Addr} {t : List Fmt} (h : TabA w B a t) (hB : B ≤ w.heap.size) (hb : Ext w w') : TabA w' B a t :=
  h.below hb hB
theorem FldsA.ext {w w' : World} {B : Nat} {a : Option Addr} {t : List Fld} (h : FldsA w B a t) (hB : B ≤ w.heap.size) (hb : Ext w w') : FldsA w' B a t :=
  h.below hb hB

theorem ne_nil_of_get {α : Type} {l : List α} {i : Nat} {x : α} (h : l[i]? = some x) : l ≠ [] := by
  intro e; subst e; simp at h

theorem lt_of_get {α : Type} {l : List α} {i : Nat} {x : α} (h : l[i]? = some x) : i < l.length :=
  (List.getElem?_eq_some_iff.1 h).1

end Go.Proofs.Ythoelnoahfedmaa
