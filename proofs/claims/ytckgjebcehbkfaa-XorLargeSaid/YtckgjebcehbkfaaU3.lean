/- The reference's rows in memory; its reduce. -/
import Derived.Test.YtckgjebcehbkfaaU2
namespace Go.Proofs.Ytckgjebcehbkfaa
open Go Go.RowKit
set_option linter.unusedVariables false
set_option linter.unusedSimpArgs false

/-- a row: its terms and its numbers, with the places of the two -/
structure RE where
  p : List Tm
  f : List Nat
  a : Option Addr
  cap : Nat
  fa : Option Addr
  fcap : Nat
def RE.pv (e : RE) : Value := .slice e.a e.p.length e.cap
def RE.fv (e : RE) : Value := .slice e.fa e.f.length e.fcap
def encR (e : RE) : List Value := [e.pv, e.fv]
theorem encR_len (e : RE) : (encR e).length = 2 := rfl
def intL (l : List Nat) : List Int := l.map (fun k : Nat => (k : Int))
/-- the block that a slice points into holds elements of type T -/
def TyB (w : World) (T : TypeId) (a : Option Addr) : Prop := ∀ b o q, a = some ⟨b, o, q⟩ → ∃ cur, w.heap[b]? = some (.cells cur T)
structure ReW (w : World) (S : Nat → Prop) (e : RE) : Prop where
  p : LsT w S e.pv e.p
  f : LsI w e.fv (intL e.f)
  tp : TyB w 24 e.a
  tf : TyB w 3 e.fa
theorem TyB.ext {w w' : World} {T : TypeId} {a : Option Addr} (h : TyB w T a) (hE : Ext w w') : TyB w' T a := fun b o q e => let ⟨cur, hc⟩ := h b o q e; ⟨cur, hs_ext hE hc⟩
theorem TyB.lt {w : World} {T : TypeId} {a : Option Addr} (h : TyB w T a) {b o q} (e : a = some ⟨b, o, q⟩) : b < w.heap.size := let ⟨_, hc⟩ := h b o q e; lt_of_get' hc
theorem TyB.hold {w w' : World} {T : TypeId} {a : Option Addr} (h : TyB w T a) (hb : ∀ b o q, a = some ⟨b, o, q⟩ → w'.heap[b]? = w.heap[b]?) : TyB w' T a := fun b o q e => let ⟨cur, hc⟩ := h b o q e; ⟨cur, by rw [hb b o q e]; exact hc⟩
def OwnR (w : World) (base : Nat) (S : Nat → Prop) (v : Value) (E : List RE) : Prop :=
  w.ownsRow base 89 2 v E.length (E.flatMap encR) ∧ ∀ e ∈ E, ReW w S e
/-- the slice does not lie in the blocks bx, bx + 1 -/
def Off2 (bx : Nat) (a : Option Addr) : Prop := ∀ b o q, a = some ⟨b, o, q⟩ → b < bx ∨ bx + 1 < b
section
variable {w w' : World} {S S' : Nat → Prop} {base bx : Nat} {v : Value} {E : List RE} {e : RE}
theorem ReW.ext (h : ReW w S e) (hE : Ext w w') : ReW w' S e := ⟨h.p.ext hE, h.f.ext hE, h.tp.ext hE, h.tf.ext hE⟩
theorem ReW.wide (h : ReW w S e) (hS : ∀ c, S c → c < w.heap.size → S' c) : ReW w S' e := ⟨h.p.wide hS, h.f, h.tp, h.tf⟩
theorem OwnR.ext (h : OwnR w base S v E) (hE : Ext w w') : OwnR w' base S v E := ⟨ownsRow_ext h.1 hE, fun e he => (h.2 e he).ext hE⟩
theorem OwnR.nil : OwnR w base S (.slice none 0 0) [] := ⟨World.ownsRow_nil _ _ _ _, by simp⟩
theorem OwnR.lt (h : OwnR w base S v E) : ∀ k, v.ownBlock = some k → base ≤ k ∧ k < w.heap.size := h.1.lt
theorem OwnR.slice (h : OwnR w base S v E) : ∃ a cap, v = .slice a E.length cap ∧ E.length ≤ cap ∧ cap ≤ maxLen := by
  rcases h.1.2 with ⟨rfl, h0⟩ | ⟨g', cap, cur, rfl, -, -, h1, h2, -⟩
  · exact ⟨none, 0, by rw [h0], by omega, by unfold maxLen; omega⟩
  · exact ⟨_, cap, rfl, h1, h2⟩
theorem OwnR.at (h : OwnR w base S v E) {i : Nat} (hi : E[i]? = some e) : ∃ g cap, v = .slice (some ⟨g, 0, none⟩) E.length cap ∧ g < w.heap.size ∧ w.cell? ⟨g, i * 2, none⟩ = some e.pv ∧ w.cell? ⟨g, i * 2 + 1, none⟩ = some e.fv ∧ ReW w S e := by
  obtain ⟨g, cap, rfl, -, -, hlt, hc⟩ := rowN_at encR_len h.1 hi
  exact ⟨g, cap, rfl, hlt, hc 0 _ rfl, hc 1 _ rfl, h.2 e (List.mem_of_getElem? hi)⟩
/-- a list stays while its own block and those of S stay -/
theorem LsT.hold {a : Option Addr} {n cap : Nat} {L : List Tm} (h : LsT w S (.slice a n cap) L) (hb : ∀ b o q, a = some ⟨b, o, q⟩ → w'.heap[b]? = w.heap[b]?) (hS : ∀ c, S c → w'.heap[c]? = w.heap[c]?) : LsT w' S (.slice a n cap) L := by
  obtain ⟨a', cap', e, h1, h2, h3⟩ := h
  cases e
  refine ⟨a, cap, rfl, h1, h2, fun i t hi => ?_⟩
  obtain ⟨b, off, rfl, ht⟩ := h3 i t hi
  exact ⟨b, off, rfl, ht.keep (hb b off none rfl) (fun c hc _ => hS c hc) (fun _ h _ => h)⟩
theorem LsI.hold {a : Option Addr} {n cap : Nat} {C : List Int} (h : LsI w (.slice a n cap) C) (hb : ∀ b o q, a = some ⟨b, o, q⟩ → w'.heap[b]? = w.heap[b]?) : LsI w' (.slice a n cap) C := by
  obtain ⟨a', cap', e, h1, h2, h3, h4⟩ := h
  cases e
  refine ⟨a, cap, rfl, h1, h2, fun i t hi => ?_, h4⟩
  obtain ⟨b, off, rfl, ht⟩ := h3 i t hi
  exact ⟨b, off, rfl, by rw [World.cell?_of_block (a := ⟨b, off + i, none⟩) (hb b off none rfl)]; exact ht⟩
end

/-- reduce under way: the box bx holds the row e, the cell bx + 1 the result -/
structure RefRow (w wr : World) (bx lo : Nat) (S : Nat → Prop) (N : Nat) (e : RE) : Prop where
  box : wr.heap[bx]? = some (.cells #[e.pv, e.fv] 89)
  res : wr.heap[bx + 1]? = some (.cells #[.slice none 0 0, .slice none 0 0] 89)
  ext : Ext w wr
  val : ReW wr S e
  op : Off2 bx e.a
  of : Off2 bx e.fa
  ok : okL N e.f
  new : ∀ b o q, e.fa = some ⟨b, o, q⟩ → lo ≤ b
section
variable {w wr w' : World} {bx lo N : Nat} {S : Nat → Prop} {e : RE}
theorem RefRow.next (h : RefRow w wr bx lo S N e) (hE : Ext wr w') : RefRow w w' bx lo S N e :=
  ⟨hs_ext hE h.box, hs_ext hE h.res, h.ext.trans hE, h.val.ext hE, h.op, h.of, h.ok, h.new⟩
theorem RefRow.putP (h : RefRow w wr bx lo S N e) (hE : Ext wr w') (hb : w.heap.size ≤ bx) (hS : ∀ c, S c → c < w.heap.size) {base cap : Nat} {a : Option Addr} {P : List Tm} (hbase : bx + 1 < base) (hO : OwnT w' base S (.slice a P.length cap) P) :
    RefRow w (w'.setCell ⟨bx, 0, none⟩ (.slice a P.length cap)) bx lo S N { e with p := P, a := a, cap := cap } := by
  have h' := h.next hE
  have hoth : ∀ q, q ≠ bx → (w'.setCell ⟨bx, 0, none⟩ (.slice a P.length cap)).heap[q]? = w'.heap[q]? := fun q hq => heap_setCell_other _ _ _ _ hq
  have hoff : Off2 bx a := fun b o q e => by
    rcases hO.ls with ⟨a', cap', e1, -⟩
    obtain ⟨E, hE1, h2, -⟩ := hO
    rcases h2.2 with ⟨h3, -⟩ | ⟨g, cap2, cur, h3, h4, -⟩
    · simp only [Value.slice.injEq] at h3; rw [h3.1] at e; cases e
    · simp only [Value.slice.injEq] at h3; rw [h3.1] at e; cases e; right; omega
  have hty : TyB w' 24 a := fun b o q e => by
    obtain ⟨E, hE1, h2, -⟩ := hO
    rcases h2.2 with ⟨h3, -⟩ | ⟨g, cap2, cur, h3, h4, h5, -⟩
    · simp only [Value.slice.injEq] at h3; rw [h3.1] at e; cases e
    · simp only [Value.slice.injEq] at h3; rw [h3.1] at e; cases e; exact ⟨cur, h5⟩
  refine ⟨?_, ?_, h'.ext.setCell hb _, ⟨?_, ?_, ?_, ?_⟩, hoff, h.of, h.ok, h.new⟩
  · have := heap_setCell_same w' bx 0 _ _ (.slice a P.length cap) h'.box
    rw [this]
    simp [RE.pv, RE.fv]
  · rw [hoth _ (by omega)]; exact h'.res
  · exact hO.ls.hold (fun b o q e => hoth b (by have := hoff b o q e; omega)) (fun c hc => hoth c (by have := hS c hc; omega))
  · exact h'.val.f.hold (fun b o q e => hoth b (by have := h.of b o q e; omega))
  · exact hty.hold (fun b o q e => hoth b (by have := hoff b o q e; omega))
  · exact h'.val.tf.hold (fun b o q e => hoth b (by have := h.of b o q e; omega))
theorem RefRow.putF (h : RefRow w wr bx lo S N e) (hE : Ext wr w') (hb : w.heap.size ≤ bx) (hS : ∀ c, S c → c < w.heap.size) {base cap : Nat} {a : Option Addr} {F : List Nat} (hbase : bx + 1 < base) (hO : OwnN w' base (.slice a F.length cap) F) (hok : okL N F) (hN : N ≤ 1000000) (hlo : lo ≤ base) :
    RefRow w (w'.setCell ⟨bx, 1, none⟩ (.slice a F.length cap)) bx lo S N { e with f := F, fa := a, fcap := cap } := by
  have h' := h.next hE
  have hoth : ∀ q, q ≠ bx → (w'.setCell ⟨bx, 1, none⟩ (.slice a F.length cap)).heap[q]? = w'.heap[q]? := fun q hq => heap_setCell_other _ _ _ _ hq
  have hoff : Off2 bx a := fun b o q e => by
    rcases hO.2 with ⟨h3, -⟩ | ⟨g, cap2, cur, h3, h4, -⟩
    · simp only [Value.slice.injEq] at h3; rw [h3.1] at e; cases e
    · simp only [Value.slice.injEq] at h3; rw [h3.1] at e; cases e; right; omega
  have hty : TyB w' 3 a := fun b o q e => by
    rcases hO.2 with ⟨h3, -⟩ | ⟨g, cap2, cur, h3, h4, h5, -⟩
    · simp only [Value.slice.injEq] at h3; rw [h3.1] at e; cases e
    · simp only [Value.slice.injEq] at h3; rw [h3.1] at e; cases e; exact ⟨cur, h5⟩
  have hnew : ∀ b o q, a = some ⟨b, o, q⟩ → lo ≤ b := fun b o q e => by
    rcases hO.2 with ⟨h3, -⟩ | ⟨g, cap2, cur, h3, h4, h5, -⟩
    · simp only [Value.slice.injEq] at h3; rw [h3.1] at e; cases e
    · simp only [Value.slice.injEq] at h3; rw [h3.1] at e; cases e; omega
  refine ⟨?_, ?_, h'.ext.setCell hb _, ⟨?_, ?_, ?_, ?_⟩, h.op, hoff, hok, hnew⟩
  · have := heap_setCell_same w' bx 1 _ _ (.slice a F.length cap) h'.box
    rw [this]
    simp [RE.pv, RE.fv]
  · rw [hoth _ (by omega)]; exact h'.res
  · exact h'.val.p.hold (fun b o q e => hoth b (by have := h.op b o q e; omega)) (fun c hc => hoth c (by have := hS c hc; omega))
  · have := hO.ls (fun b hb => by have := hok.1 b hb; omega)
    exact LsI.hold (n := F.length) this (fun b o q e => hoth b (by have := hoff b o q e; omega))
  · exact h'.val.tp.hold (fun b o q e => hoth b (by have := h.op b o q e; omega))
  · exact hty.hold (fun b o q e => hoth b (by have := hoff b o q e; omega))
end

end Go.Proofs.Ytckgjebcehbkfaa
