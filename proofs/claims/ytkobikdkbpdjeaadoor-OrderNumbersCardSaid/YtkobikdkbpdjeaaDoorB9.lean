/- A term is put into a forest: what holds under way. -/
import Derived.Test.YtkobikdkbpdjeaaDoorB8
import Derived.Test.YtkobikdkbpdjeaaDoorH1
namespace Go.Proofs.YtkobikdkbpdjeaaDoor
open Go Go.RowKit
set_option linter.unusedVariables false
set_option linter.unusedSimpArgs false

/-- what a call that puts a term into a forest may change -/
structure AFr (w w' : World) (fb ib : Nat) (nv nv' : Value) (S S' : Nat → Prop) : Prop where
 os : w'.os = w.os
 tape : w'.tape = w.tape
 output : w'.output = w.output
 size : w.heap.size ≤ w'.heap.size
 block : ∀ c, c < w.heap.size → c ≠ fb → c ≠ ib → nv.ownBlock ≠ some c → w'.heap[c]? = w.heap[c]?
 own : ∀ g, nv'.ownBlock = some g → nv.ownBlock = some g ∨ w.heap.size ≤ g
 set : ∀ c, S' c → S c ∨ w.heap.size ≤ c
section
variable {w w' w'' : World} {B fb ib mb bx nb bb : Nat} {l : List ByteArray} {lv nv nv' nv'' kv kv' : Value} {N N' : List Nd} {S S' S'' : Nat → Prop} {t : Tm} {a : Option Addr} {cap : Nat} {ks : List Int} {bt bt' : List UInt8}
theorem AFr.refl (w : World) : AFr w w fb ib nv nv S S := ⟨rfl, rfl, rfl, Nat.le_refl _, fun _ _ _ _ _ => rfl, fun g h => .inl h, fun c h => .inl h⟩
theorem AFr.trans (h : AFr w w' fb ib nv nv' S S') (k : AFr w' w'' fb ib nv' nv'' S' S'') : AFr w w'' fb ib nv nv'' S S'' := by
 refine ⟨k.os.trans h.os, k.tape.trans h.tape, k.output.trans h.output, Nat.le_trans h.size k.size, fun c hc h1 h2 h3 => ?_, fun g hg => ?_, fun c hc => ?_⟩
 · rw [k.block c (Nat.lt_of_lt_of_le hc h.size) h1 h2 (fun e => ?_), h.block c hc h1 h2 h3]
   rcases h.own c e with e | e
   · exact h3 e
   · omega
 · rcases k.own g hg with e | e
   · exact h.own g e
   · exact .inr (Nat.le_trans h.size e)
 · rcases k.set c hc with e | e
   · exact h.set c e
   · exact .inr (Nat.le_trans h.size e)
theorem AFr.below (h : AFr w w' fb ib nv nv' S S') (k : Below w.heap.size w' w'') : AFr w w'' fb ib nv nv' S S' :=
 ⟨k.os.trans h.os, k.tape.trans h.tape, k.output.trans h.output, Nat.le_trans h.size k.size, fun c hc h1 h2 h3 => (k.block c hc).trans (h.block c hc h1 h2 h3), h.own, h.set⟩
theorem AFr.outside (h : AFr w w' fb ib nv nv' S S') (hfb : B ≤ fb) (hib : B ≤ ib) (hB : B ≤ w.heap.size) (hnv : ∀ g, nv.ownBlock = some g → B ≤ g) : Below B w w' :=
 ⟨h.os, h.tape, h.output, h.size, fun c hc => h.block c (by omega) (by omega) (by omega) (fun e => by have := hnv c e; omega)⟩

/-- a term is in the forest, or one of its names is not known -/
def Added (w w' : World) (B fb ib mb : Nat) (l : List ByteArray) (lv nv : Value) (N : List Nd) (S : Nat → Prop) (t : Tm) (i : Int) (ok : Bool) : Prop :=
 ∃ nv' N' S', FW w' B fb ib mb l lv nv' N' S' ∧ AFr w w' fb ib nv nv' S S' ∧ N <+: N' ∧ N'.length ≤ N.length + sizeT t ∧ (∀ x ∈ N', x ∈ N ∨ x.t ∈ allT t) ∧ ok = knT l t ∧ (ok = true → ∃ (m : Nat) (x : Nd), i = (m : Int) ∧ N'[m]? = some x ∧ x.t = t)

/-- under way: the term's box, the node's box, the builder -/
structure FAdd (w0 w : World) (B fb ib mb : Nat) (l : List ByteArray) (lv nv0 : Value) (S0 : Nat → Prop) (t : Tm) (a : Option Addr) (cap bx nb bb : Nat) (nv : Value) (N : List Nd) (S : Nat → Prop) (kv : Value) (ks : List Int) (bt : List UInt8) : Prop where
 fw : FW w B fb ib mb l lv nv N S
 fr : AFr w0 w fb ib nv0 nv S0 S
 ord : w0.heap.size ≤ bx ∧ bx < nb ∧ nb < bb ∧ bb < w.heap.size ∧ B ≤ w0.heap.size
 old : fb < w0.heap.size ∧ ib < w0.heap.size ∧ mb < w0.heap.size
 tb : w.heap[bx]? = some (.cells #[.int .i64 t.kind, .string t.name, .int .i64 t.sort, .slice a t.kids.length cap] 38)
 nd : w.heap[nb]? = some (.cells #[.int .i64 t.kind, .string t.name, .int .i64 t.sort, .slice a t.kids.length cap, .int .i64 (rnk l t.name), kv] 67)
 own : OwnG elI w (bb + 1) 3 (fun _ => False) kv ks
 bu : Bu w bb bb bt
 sep : ∀ c, S c → kv.ownBlock ≠ some c ∧ c ≠ bx ∧ c ≠ nb ∧ c ≠ bb
 non : nv.ownBlock ≠ some nb
theorem FAdd.size (h : FAdd w w' B fb ib mb l lv nv S t a cap bx nb bb nv' N S' kv ks bt) : w.heap.size ≤ w'.heap.size := h.fr.size
theorem FAdd.ext {w0 : World} {nv0 : Value} {S0 : Nat → Prop} (h : FAdd w0 w B fb ib mb l lv nv0 S0 t a cap bx nb bb nv N S kv ks bt) (hE : Ext w w') : FAdd w0 w' B fb ib mb l lv nv0 S0 t a cap bx nb bb nv N S kv ks bt := by
 obtain ⟨o1, o2, o3, o4, o5⟩ := h.ord
 exact ⟨h.fw.ext hE, h.fr.below (hE.below (by have := h.fr.size; omega)), ⟨o1, o2, o3, Nat.lt_of_lt_of_le o4 hE.size, o5⟩, h.old, hs_ext hE h.tb, hs_ext hE h.nd, h.own.ext hE, h.bu.ext hE, h.sep, h.non⟩
theorem FAdd.wrote {w0 : World} {nv0 : Value} {S0 : Nat → Prop} (h : FAdd w0 w B fb ib mb l lv nv0 S0 t a cap bx nb bb nv N S kv ks bt) (k : Wrote bb bb w w') (hb : Bu w' bb bb bt') : FAdd w0 w' B fb ib mb l lv nv0 S0 t a cap bx nb bb nv N S kv ks bt' := by
 obtain ⟨o1, o2, o3, o4, o5⟩ := h.ord
 have hlow : ∀ c, c < bb → w'.heap[c]? = w.heap[c]? := fun c hc => k.below.block c hc
 have hfbl := h.fw.fbl
 have h1 := h.old
 have hkv : ∀ g, kv.ownBlock = some g → w'.heap[g]? = w.heap[g]? := fun g hg => by
  obtain ⟨cur, e⟩ := h.own.block hg
  have := h.own.lt g hg
  exact k.kept g (by omega) this.2 (fun c fz e' => by rw [e] at e'; simp at e')
 refine ⟨h.fw.keep k.below.size fun c hc hh => ?_, h.fr.below (k.below.mono (by omega)), ⟨o1, o2, o3, Nat.lt_of_lt_of_le o4 k.below.size, o5⟩, h.old, (hlow bx (by omega)).trans h.tb, (hlow nb o3).trans h.nd, h.own.keep hkv (fun c h => absurd h id) (fun _ h _ => h), hb, h.sep, h.non⟩
 rcases hh with hh | rfl | rfl | hh | hh
 · exact hlow c (by omega)
 · exact hlow c (by omega)
 · exact hlow c (by omega)
 · obtain ⟨cur, e⟩ := h.fw.row.block hh
   refine k.kept c (fun e' => ?_) hc (fun cs fz e' => by rw [e] at e'; simp at e')
   subst e'
   rcases h.bu with hb0 | hb0
   · obtain ⟨-, v, hv, -⟩ := hb0; rw [e] at hv; simp at hv
   · obtain ⟨-, v, hv, -⟩ := hb0; rw [e] at hv; simp at hv
 · by_cases hcB : c < B
   · exact hlow c (by omega)
   · obtain ⟨cur, e⟩ := h.fw.typ c hh (by omega)
     exact k.kept c (h.sep c hh).2.2.2 hc (fun cs fz e' => by rw [e] at e'; simp at e')
theorem FAdd.call {w0 : World} {nv0 : Value} {S0 : Nat → Prop} (h : FAdd w0 w B fb ib mb l lv nv0 S0 t a cap bx nb bb nv N S kv ks bt) (k : AFr w w' fb ib nv nv' S S') (hF : FW w' B fb ib mb l lv nv' N' S') : FAdd w0 w' B fb ib mb l lv nv0 S0 t a cap bx nb bb nv' N' S' kv ks bt := by
 obtain ⟨o1, o2, o3, o4, o5⟩ := h.ord
 obtain ⟨p1, p2, p3⟩ := h.old
 have hbu : ∃ cur, w.heap[bb]? = some (.cells cur 82 (0, 0)) := by
  rcases h.bu with hb0 | hb0
  · obtain ⟨-, v, hv, -⟩ := hb0; exact ⟨_, hv⟩
  · obtain ⟨-, v, hv, -⟩ := hb0; exact ⟨_, hv⟩
 refine ⟨hF, h.fr.trans k, ⟨o1, o2, o3, Nat.lt_of_lt_of_le o4 k.size, o5⟩, h.old, (k.block bx (by omega) (by omega) (by omega) (fun e => ?_)).trans h.tb, (k.block nb (by omega) (by omega) (by omega) h.non).trans h.nd, h.own.keep (fun g hg => ?_) (fun c h => absurd h id) (fun _ h _ => h), h.bu.keep (fun c hc => ?_), fun c hc => ?_, fun e => ?_⟩
 · obtain ⟨cur2, e2⟩ := h.fw.row.block e
   rw [h.tb] at e2
   simp at e2
 · obtain ⟨cur, e⟩ := h.own.block hg
   have := h.own.lt g hg
   refine k.block g this.2 (by omega) (by omega) (fun e' => ?_)
   obtain ⟨cur2, e2⟩ := h.fw.row.block e'
   rw [e] at e2
   simp at e2
 · rcases hc with rfl | ⟨cs, fz, e⟩
   · refine k.block c o4 (by omega) (by omega) (fun e' => ?_)
     obtain ⟨cur2, e2⟩ := h.fw.row.block e'
     obtain ⟨cur, e⟩ := hbu
     rw [e] at e2
     simp at e2
   · have hlt := (Array.getElem?_eq_some_iff.1 e).1
     refine k.block c hlt (fun e' => ?_) (fun e' => ?_) (fun e' => ?_)
     · subst e'; rw [h.fw.blk] at e; simp at e
     · subst e'
       obtain ⟨D, n, -, es, clock, h1, -⟩ := h.fw.ids
       rw [h1] at e; simp at e
     · obtain ⟨cur2, e2⟩ := h.fw.row.block e'
       rw [e] at e2
       simp at e2
 · rcases k.set c hc with hc' | hc'
   · exact h.sep c hc'
   · refine ⟨fun e => ?_, by omega, by omega, by omega⟩
     have := (h.own.lt c e).2
     omega
 · rcases k.own nb e with e | e
   · exact h.non e
   · omega
/-- a number is appended to the kids -/
theorem FAdd.push {w0 wa w5 : World} {nv0 : Value} {S0 : Nat → Prop} {i : Int} (h : FAdd w0 wa B fb ib mb l lv nv0 S0 t a cap bx nb bb nv N S kv ks bt) (o5 : OwnG elI w5 (bb + 1) 3 (fun _ => False) kv' (ks ++ [i])) (g5 : wa.grownBy w5 kv.ownBlock) (k5 : kv'.ownBlock = kv.ownBlock ∨ kv'.ownBlock = some wa.heap.size) :
 FAdd w0 (w5.setCell ⟨nb, 5, none⟩ kv') B fb ib mb l lv nv0 S0 t a cap bx nb bb nv N S kv' (ks ++ [i]) bt := by
 obtain ⟨o1, o2, o3, o4, o5'⟩ := h.ord
 obtain ⟨p1, p2, p3⟩ := h.old
 have hkg : ∀ g, kv.ownBlock = some g → bb < g ∧ g < wa.heap.size ∧ ∃ cur, wa.heap[g]? = some (.cells cur 3) := fun g hg => by
  have := h.own.lt g hg
  exact ⟨by omega, this.2, h.own.block hg⟩
 have key : ∀ c, c < wa.heap.size → c ≠ nb → kv.ownBlock ≠ some c → (w5.setCell ⟨nb, 5, none⟩ kv').heap[c]? = wa.heap[c]? := fun c hc h1 h2 => by
  rw [heap_setCell_other _ _ _ _ h1]
  exact g5.block c hc (fun e => h2 e.symm)
 have hsz : (w5.setCell ⟨nb, 5, none⟩ kv').heap.size = w5.heap.size := by simp [World.setCell]
 have hsz5 := g5.size
 have hnb5 : w5.heap[nb]? = _ := (g5.block nb (by omega) (fun e => by have := hkg nb e.symm; omega)).trans h.nd
 refine ⟨h.fw.keep (by omega) fun c hc hh => ?_, h.fr.below ⟨g5.os, g5.tape, g5.output, by omega, fun c hc => key c (by have := h.fr.size; omega) (by omega) (fun e => by have := hkg c e; omega)⟩, ⟨o1, o2, o3, by omega, o5'⟩, h.old, (key bx (by omega) (by omega) (fun e => by have := hkg bx e; omega)).trans h.tb, ?_, o5.keep (fun g hg => heap_setCell_other _ _ _ _ (by have := (o5.lt g hg).1; show g ≠ nb; omega)) (fun c h => absurd h id) (fun _ h _ => h), h.bu.keep fun c hc => ?_, fun c hc => ?_, h.non⟩
 · rcases hh with hh | rfl | rfl | hh | hh
   · exact key c hc (by omega) (fun e => by have := hkg c e; omega)
   · exact key c hc (by omega) (fun e => by have := hkg c e; omega)
   · exact key c hc (by omega) (fun e => by have := hkg c e; omega)
   · refine key c hc (fun e => h.non (e ▸ hh)) (fun e => ?_)
     obtain ⟨-, -, cur, e1⟩ := hkg c e
     obtain ⟨cur2, e2⟩ := h.fw.row.block hh
     rw [e1] at e2
     simp at e2
   · exact key c hc (h.sep c hh).2.2.1 (h.sep c hh).1
 · rw [heap_setCell_same w5 nb 5 _ _ kv' hnb5]; simp
 · rcases hc with rfl | ⟨cs, fz, e⟩
   · exact key c o4 (by omega) (fun e => by have := hkg c e; omega)
   · refine key c (Array.getElem?_eq_some_iff.1 e).1 (fun e' => ?_) (fun e' => ?_)
     · subst e'; rw [h.nd] at e; simp at e
     · obtain ⟨-, -, cur, e1⟩ := hkg c e'
       rw [e1] at e; simp at e
 · refine ⟨fun e => ?_, (h.sep c hc).2⟩
   rcases k5 with k5 | k5
   · exact (h.sep c hc).1 (by rw [← k5, e])
   · rw [k5] at e
     have := (h.fw.out c hc).1
     have := Option.some.inj e
     omega
/-- at the start -/
theorem FAdd.start {w0 : World} (hF : FW w B fb ib mb l lv nv N S) (hE : Ext w0 w) (h0 : FW w0 B fb ib mb l lv nv N S) (hm : mb < w0.heap.size) (ho : w0.heap.size ≤ bx ∧ bx < nb ∧ nb < bb ∧ bb < w.heap.size) (tb : w.heap[bx]? = some (.cells #[.int .i64 t.kind, .string t.name, .int .i64 t.sort, .slice a t.kids.length cap] 38))
 (nd : w.heap[nb]? = some (.cells #[.int .i64 t.kind, .string t.name, .int .i64 t.sort, .slice a t.kids.length cap, .int .i64 (rnk l t.name), .slice none 0 0] 67)) (hb : Bu w bb bb bt) :
 FAdd w0 w B fb ib mb l lv nv S t a cap bx nb bb nv N S (.slice none 0 0) [] bt :=
 ⟨hF, (AFr.refl w0).below (hE.below (Nat.le_refl _)), ⟨ho.1, ho.2.1, ho.2.2.1, ho.2.2.2, h0.low.2.2.2.2⟩, ⟨h0.fbl, h0.ibl, hm⟩, tb, nd, OwnG.nil, hb, fun c hc => ⟨by simp [Value.ownBlock], by have := (h0.out c hc).1; omega, by have := (h0.out c hc).1; omega, by have := (h0.out c hc).1; omega⟩, fun e => by have := (h0.row.lt nb e).2; omega⟩
/-- the node is put behind the others -/
theorem FAdd.done {w0 w1 w2 w5 : World} {nv0 : Value} {S0 : Nat → Prop} {D : List UInt8 → Option Int} {n : Nat} {ob : Obj} (h : FAdd w0 w B fb ib mb l lv nv0 S0 t a cap bx nb bb nv N S kv ks bt) (hk : KidsOk N ks t.kids) (hD : IdsOk N D) (hn : D (keyL t.kind t.sort t.name.data.toList ks) = none)
 (hne : ∀ x ∈ N, x.t ≠ t) (ht : tame t) (hr : t.kind = 1 ∨ 0 ≤ rnk l t.name) (hw1 : w1 = ChangeMaps.setBlock w ib ob) (hM : MapK encB w1 ib (n + 1) (fun s => if s.1.data.toList = keyL t.kind t.sort t.name.data.toList ks then some (.int .i64 (N.length : Int)) else (D s.1.data.toList).map (.int .i64)))
 (hE : Ext w1 w2) (g5 : w2.grownBy w5 nv.ownBlock) (o5 : OwnG elN w5 B 67 (fun c => S c ∨ kv.ownBlock = some c) nv' (N ++ [⟨t, rnk l t.name, ks⟩])) (k5 : nv'.ownBlock = nv.ownBlock ∨ nv'.ownBlock = some w2.heap.size) :
 FW (w5.setCell ⟨fb, 1, none⟩ nv') B fb ib mb l lv nv' (N ++ [⟨t, rnk l t.name, ks⟩]) (fun c => S c ∨ kv.ownBlock = some c) ∧ AFr w0 (w5.setCell ⟨fb, 1, none⟩ nv') fb ib nv0 nv' S0 (fun c => S c ∨ kv.ownBlock = some c) := by
 obtain ⟨o1, o2, o3, o4, o5'⟩ := h.ord
 obtain ⟨p1, p2, p3⟩ := h.old
 obtain ⟨q1, q2, q3, q4, q5⟩ := h.fw.low
 have hs1 : w1.heap.size = w.heap.size := by rw [hw1]; simp [ChangeMaps.setBlock]
 have hs2 := hE.size
 have hs5 := g5.size
 have hs6 : (w5.setCell ⟨fb, 1, none⟩ nv').heap.size = w5.heap.size := by simp [World.setCell]
 have hw0 := h.fr.size
 have h1b : ∀ c, c ≠ ib → w1.heap[c]? = w.heap[c]? := fun c hc => by rw [hw1]; exact turned_block hc
 have key : ∀ c, c < w.heap.size → c ≠ fb → c ≠ ib → nv.ownBlock ≠ some c → (w5.setCell ⟨fb, 1, none⟩ nv').heap[c]? = w.heap[c]? := fun c hc h1 h2 h3 => by
  rw [heap_setCell_other _ _ _ _ h1, g5.block c (by omega) (fun e => h3 e.symm), hE.block (by omega), h1b c h2]
 have hnf : nv.ownBlock ≠ some fb := fun e => by
  obtain ⟨cur, e1⟩ := h.fw.row.block e
  rw [h.fw.blk] at e1; simp at e1
 have hni : nv.ownBlock ≠ some ib := fun e => by
  obtain ⟨cur, e1⟩ := h.fw.row.block e
  obtain ⟨D', n', -, es, clock, h1, -⟩ := h.fw.ids
  rw [h1] at e1; simp at e1
 have hfi : fb ≠ ib := fun e => by
  obtain ⟨D', n', -, es, clock, h1, -⟩ := h.fw.ids
  rw [← e, h.fw.blk] at h1; simp at h1
 have hkg : ∀ g, kv.ownBlock = some g → bb < g ∧ g < w.heap.size ∧ ∃ cur, w.heap[g]? = some (.cells cur 3) := fun g hg => by
  have := h.own.lt g hg
  exact ⟨by omega, this.2, h.own.block hg⟩
 have hkn : ∀ g, kv.ownBlock = some g → nv.ownBlock ≠ some g := fun g hg e => by
  obtain ⟨-, -, cur, e1⟩ := hkg g hg
  obtain ⟨cur2, e2⟩ := h.fw.row.block e
  rw [e1] at e2; simp at e2
 have hfb5 : w5.heap[fb]? = some (.cells #[lv, nv, .map (some ib), .map (some mb)] 65) := by
  rw [g5.block fb (by omega) (fun e => hnf e.symm), hE.block (by omega), h1b fb hfi, h.fw.blk]
 have hn' : ∀ g, nv'.ownBlock = some g → nv.ownBlock = some g ∨ w.heap.size ≤ g := fun g hg => by
  rcases k5 with k5 | k5
  · exact .inl (by rw [← k5, hg])
  · rw [k5] at hg
    have := Option.some.inj hg
    exact .inr (by omega)
 have hset : ∀ c, (S c ∨ kv.ownBlock = some c) → c < w.heap.size ∧ c ≠ fb ∧ c ≠ ib ∧ c ≠ mb ∧ nv.ownBlock ≠ some c := fun c hc => by
  rcases hc with hc | hc
  · exact h.fw.out c hc
  · have := hkg c hc
    exact ⟨this.2.1, by omega, by omega, by omega, hkn c hc⟩
 refine ⟨⟨?_, ⟨q1, q2, q3, q4, by omega⟩, h.fw.names.keep (fun c hc hlt => key c hlt (by omega) (by omega) (fun e => by have := (h.fw.row.lt c e).1; omega)) (fun _ h _ => h) (by omega), fun c hc => ?_, fun c hc => .inl (h.fw.base c hc), fun c hc hB => ?_, o5.keep (fun g hg => heap_setCell_other _ _ _ _ (fun e => ?_)) (fun c hc hlt => heap_setCell_other _ _ _ _ (hset c hc).2.1) (fun _ h _ => h), ?_, h.fw.grown.snoc ht hr hk hne⟩, ?_⟩
 · rw [heap_setCell_same w5 fb 1 _ _ nv' hfb5]; simp
 · obtain ⟨c1, c2, c3, c4, c5⟩ := hset c hc
   refine ⟨by omega, c2, c3, c4, fun e => ?_⟩
   rcases hn' c e with e' | e'
   · exact c5 e'
   · omega
 · obtain ⟨c1, c2, c3, c4, c5⟩ := hset c hc
   rcases hc with hc' | hc'
   · obtain ⟨cur, e⟩ := h.fw.typ c hc' hB
     exact ⟨cur, (key c c1 c2 c3 c5).trans e⟩
   · obtain ⟨-, -, cur, e⟩ := hkg c hc'
     exact ⟨cur, (key c c1 c2 c3 c5).trans e⟩
 · subst e
   rcases hn' g hg with e' | e'
   · exact hnf e'
   · omega
 · refine ⟨_, n + 1, hD.snoc (l := l) (x := ⟨t, rnk l t.name, ks⟩) hn, ?_⟩
   have hM' := hM.same (w' := w5.setCell ⟨fb, 1, none⟩ nv') (by rw [heap_setCell_other _ _ _ _ (Ne.symm hfi), g5.block ib (by omega) (fun e => hni e.symm), hE.block (by omega)])
   have e : (fun s : BKey => ((if s.1.data.toList = keyN ⟨t, rnk l t.name, ks⟩ then some (N.length : Int) else D s.1.data.toList)).map (Value.int .i64)) = (fun s : BKey => if s.1.data.toList = keyL t.kind t.sort t.name.data.toList ks then some (Value.int .i64 (N.length : Int)) else (D s.1.data.toList).map (Value.int .i64)) := by
    funext s
    unfold keyN
    simp only
    split <;> rfl
   rw [e]
   exact hM'
 · refine ⟨?_, ?_, ?_, by omega, fun c hc h1 h2 h3 => ?_, fun g hg => ?_, fun c hc => ?_⟩
   · rw [show (w5.setCell ⟨fb, 1, none⟩ nv').os = w5.os from rfl, g5.os, hE.os, hw1]; exact h.fr.os
   · rw [show (w5.setCell ⟨fb, 1, none⟩ nv').tape = w5.tape from rfl, g5.tape, hE.tape, hw1]; exact h.fr.tape
   · rw [show (w5.setCell ⟨fb, 1, none⟩ nv').output = w5.output from rfl, g5.output, hE.output, hw1]; exact h.fr.output
   · rw [key c (by omega) h1 h2 (fun e => ?_)]
     · exact h.fr.block c hc h1 h2 h3
     · rcases h.fr.own c e with e' | e'
       · exact h3 e'
       · omega
   · rcases hn' g hg with e | e
     · exact h.fr.own g e
     · exact .inr (by omega)
   · rcases hc with hc | hc
     · exact h.fr.set c hc
     · exact .inr (by have := (hkg c hc).1; omega)
/-- the terms that came in lie as they lay -/
theorem FAdd.term {w0 : World} {nv0 : Value} {S0 : Nat → Prop} {a' : Option Addr} {cap' : Nat} {u : Tm} (h : FAdd w0 w B fb ib mb l lv nv0 S0 t a cap bx nb bb nv N S kv ks bt) (h0 : FW w0 B fb ib mb l lv nv0 N' S0) (hT : TmW w0 (fun c => c < B) a' cap' u) : TmW w (fun c => c < B) a' cap' u := by
 obtain ⟨q1, q2, q3, q4, q5⟩ := h0.low
 exact hT.keep (fun c hc hlt => h.fr.block c hlt (by omega) (by omega) (fun e => by have := (h0.row.lt c e).1; omega)) (fun _ h _ => h)
theorem one_intF {w : World} {S : Nat → Prop} {g : Nat} {k : Int} (h : w.heap[g]? = some (.cells #[.int .i64 k] 3)) (hk : I64 k) : LsE elI w S (.slice (some ⟨g, 0, none⟩) 1 1) [k] :=
 cells_lsE (P := [(k, [.int .i64 k])]) h rfl rfl rfl (by simp [maxLen]) (by intro p hp; simp at hp; subst hp; exact ⟨rfl, hk⟩)
theorem keyL_snoc (k s : Int) (n : List UInt8) (ks : List Int) (i : Int) : keyL k s n (ks ++ [i]) = keyL k s n ks ++ 32 :: num i := by
 unfold keyL; simp
theorem keyL_len {k s : Int} {n : List UInt8} {ks : List Int} (hk : 0 ≤ k ∧ k < 100) (hs : 0 ≤ s ∧ s < 100) (hi : ∀ i ∈ ks, 0 ≤ i ∧ i < 100) : (keyL k s n ks).length ≤ 6 + n.length + 3 * ks.length := by
 have h1 := num_len hk.1 hk.2
 have h2 := num_len hs.1 hs.2
 have h3 : (ks.flatMap (fun i => 32 :: num i)).length ≤ 3 * ks.length := by
  clear h1 h2
  induction ks with
  | nil => simp
  | cons i ks ih =>
    have h4 := ih (fun x hx => hi x (by simp [hx]))
    have h5 := num_len (hi i (by simp)).1 (hi i (by simp)).2
    simp only [List.flatMap_cons, List.length_append, List.length_cons]
    omega
 unfold keyL
 simp only [List.length_append, List.length_cons]
 omega
theorem knL_take {l : List ByteArray} {L : List Tm} {k : Nat} {x : Tm} (h : L[k]? = some x) : knL l (L.take (k + 1)) = (knL l (L.take k) && knT l x) := by
 have key : ∀ (A : List Tm) (x : Tm), knL l (A ++ [x]) = (knL l A && knT l x) := by
  intro A x
  induction A with
  | nil => simp [knL]
  | cons y A ih => rw [List.cons_append, knL, knL, ih, Bool.and_assoc]
 rw [List.take_add_one, h, Option.toList_some, key]
theorem knL_false {l : List ByteArray} {x : Tm} (hx : knT l x = false) : ∀ {L : List Tm}, x ∈ L → knL l L = false
 | [], h => by simp at h
 | y :: L, h => by
   rw [knL]
   rcases List.mem_cons.1 h with rfl | h
   · rw [hx]; rfl
   · rw [knL_false hx h]; simp
theorem sizeL_take' {L : List Tm} {k : Nat} {x : Tm} (h : L[k]? = some x) : sizeL (L.take (k + 1)) = sizeL (L.take k) + sizeT x := by
 have key : ∀ (A : List Tm) (x : Tm), sizeL (A ++ [x]) = sizeL A + sizeT x := by
  intro A x
  induction A with
  | nil => simp [sizeL]
  | cons y A ih => rw [List.cons_append, sizeL, sizeL, ih]; omega
 rw [List.take_add_one, h, Option.toList_some, key]
/-- a key is looked up -/
theorem ids_look {n : Nat} {D : List UInt8 → Option Int} {k : List UInt8} (hM : MapK encB w ib n (fun s => (D s.1.data.toList).map (.int .i64))) (hk : k.length ≤ 1000000) :
 (Instr.lookup 62 (.map (some ib)) (.string ⟨k.toArray⟩) true).run Tryd.prog w = .ok (.tuple #[.int .i64 ((D k).getD 0), .bool (D k).isSome]) w := by
 have h := hM.look lawStr keyStr Tryd.underlying62 (z := .int .i64 0) (Tryd.zeroValue3 w) ⟨⟨k.toArray⟩, by show k.toArray.size ≤ _; unfold maxLen; simp; omega⟩ true
 simp only [encB, if_true] at h
 rw [h]
 cases D k <;> rfl
/-- a key is put in -/
theorem ids_put {n : Nat} {D : List UInt8 → Option Int} {k : List UInt8} {i : Int} (hM : MapK encB w ib n (fun s => (D s.1.data.toList).map (.int .i64))) (hk : k.length ≤ 1000000) :
 ∃ ob, (Instr.mapUpdate 62 (.map (some ib)) (.string ⟨k.toArray⟩) (.int .i64 i)).run Tryd.prog w = .ok () (ChangeMaps.setBlock w ib ob) ∧
   MapK encB (ChangeMaps.setBlock w ib ob) ib (n + 1) (fun s => if s.1.data.toList = k then some (.int .i64 i) else (D s.1.data.toList).map (.int .i64)) := by
 obtain ⟨ob, h1, h2⟩ := hM.update lawStr keyStr encB_inj Tryd.underlying62 ⟨⟨k.toArray⟩, by show k.toArray.size ≤ _; unfold maxLen; simp; omega⟩ (.int .i64 i)
 refine ⟨ob, h1, h2 _ (by simp) (fun y hy => ?_)⟩
 have : ¬ y.1.data.toList = k := fun e => hy (Subtype.ext (ByteArray.ext (Array.ext' (by simpa using e))))
 simp [this]
theorem one_nodF {w : World} {S : Nat → Prop} {g : Nat} {x : Nd} {a : Option Addr} {cap : Nat} {v : Value} (h : w.heap[g]? = some (.cells #[.int .i64 x.t.kind, .string x.t.name, .int .i64 x.t.sort, .slice a x.t.kids.length cap, .int .i64 x.r, v] 67)) (hT : TmW w S a cap x.t) (hr : I64 x.r) (hk : LsG elI w S v x.ks) : LsE elN w S (.slice (some ⟨g, 0, none⟩) 1 1) [x] :=
 cells_lsE (P := [(x, encE ⟨x.t, a, cap⟩ ++ [.int .i64 x.r, v])]) h rfl rfl rfl (by simp [maxLen]) (by intro p hp; simp at hp; subst hp; exact ⟨a, cap, v, rfl, hT, hr, hk⟩)
theorem FW.ne_ib (h : FW w B fb ib mb l lv nv N S) : fb ≠ ib := fun e => by
 obtain ⟨D', n', -, es, clock, h1, -⟩ := h.ids
 rw [← e, h.blk] at h1; simp at h1
/-- behind the store into the ids -/
theorem FAdd.after {w0 w1 : World} {nv0 : Value} {S0 : Nat → Prop} {ob : Obj} (h : FAdd w0 w B fb ib mb l lv nv0 S0 t a cap bx nb bb nv N S kv ks bt) (h0 : FW w0 B fb ib mb l lv nv0 N' S0) (hT : TmW w0 (fun c => c < B) a cap t) (hw1 : w1 = ChangeMaps.setBlock w ib ob) :
 w1.heap[fb]? = some (.cells #[lv, nv, .map (some ib), .map (some mb)] 65) ∧ w1.heap[nb]? = some (.cells #[.int .i64 t.kind, .string t.name, .int .i64 t.sort, .slice a t.kids.length cap, .int .i64 (rnk l t.name), kv] 67) ∧
  OwnG elN w1 B 67 (fun c => S c ∨ kv.ownBlock = some c) nv N ∧ TmW w1 (fun c => S c ∨ kv.ownBlock = some c) a cap t ∧ LsG elI w1 (fun c => S c ∨ kv.ownBlock = some c) kv ks ∧ (∀ c, (S c ∨ kv.ownBlock = some c) → nv.ownBlock ≠ some c) ∧ B ≤ w1.heap.size := by
 have hb : ∀ c, c ≠ ib → w1.heap[c]? = w.heap[c]? := fun c hc => by rw [hw1]; exact turned_block hc
 obtain ⟨o1, o2, o3, o4, o5⟩ := h.ord
 obtain ⟨p1, p2, p3⟩ := h.old
 have hs1 : w1.heap.size = w.heap.size := by rw [hw1]; simp [ChangeMaps.setBlock]
 have hkg : ∀ g, kv.ownBlock = some g → bb < g ∧ ∃ cur, w.heap[g]? = some (.cells cur 3) := fun g hg => by
  have := h.own.lt g hg
  exact ⟨by omega, h.own.block hg⟩
 have hni : nv.ownBlock ≠ some ib := fun e => by
  obtain ⟨cur, e1⟩ := h.fw.row.block e
  obtain ⟨D', n', -, es, clock, h1, -⟩ := h.fw.ids
  rw [h1] at e1; simp at e1
 have hT' := h.term h0 hT
 refine ⟨(hb fb h.fw.ne_ib).trans h.fw.blk, (hb nb (by omega)).trans h.nd, h.fw.row.keep (fun g hg => hb g (fun e => hni (e ▸ hg))) (fun c hc hlt => hb c (h.fw.out c hc).2.2.1) (fun c h _ => .inl h), hT'.keep (fun c hc hlt => hb c (by have := h.fw.low; omega)) (fun c hc _ => .inl (h.fw.base c hc)), (h.own.keep (w' := w1) (S' := fun _ => False) (fun g hg => hb g (by have := hkg g hg; omega)) (fun c h => absurd h id) (fun _ h _ => h)).ls (fun c h => absurd h id) (fun g hg _ _ => .inr hg), fun c hc => ?_, by have := h.fr.size; omega⟩
 · rcases hc with hc | hc
   · exact (h.fw.out c hc).2.2.2.2
   · intro e
     obtain ⟨-, cur, e1⟩ := hkg c hc
     obtain ⟨cur2, e2⟩ := h.fw.row.block e
     rw [e1] at e2; simp at e2
theorem allT_self (t : Tm) : t ∈ allT t := by rw [allT_kids]; simp
theorem allL_mem {x : Tm} : ∀ {L : List Tm} {u : Tm}, u ∈ L → x ∈ allT u → x ∈ allL L
 | [], u, h, _ => by simp at h
 | y :: L, u, h, hx => by
   rw [allL]
   rcases List.mem_cons.1 h with rfl | h
   · exact List.mem_append_left _ hx
   · exact List.mem_append_right _ (allL_mem h hx)
theorem allT_kid {t u x : Tm} (h : u ∈ t.kids) (hx : x ∈ allT u) : x ∈ allT t := by rw [allT_kids]; exact List.mem_cons_of_mem _ (allL_mem h hx)
end

end Go.Proofs.YtkobikdkbpdjeaaDoor
