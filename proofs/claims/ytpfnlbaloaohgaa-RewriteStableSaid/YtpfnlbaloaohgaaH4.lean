/- A copy of a term, whose rows are all apart. Contracts: a copy of a term, apart. A part of a term replaced in memory. Contracts: the program's At. Contracts: the program's Replace. Contracts: a copy of a list of numbers; the positions' closure. -/
import Derived.Test.YtpfnlbaloaohgaaH2
import Derived.Test.YtpfnlbaloaohgaaH1
import Derived.Test.YtpfnlbaloaohgaaG5
import Derived.Test.YtpfnlbaloaohgaaG7
namespace Go.Proofs.Ytpfnlbaloaohgaa
open Go Go.RowKit
set_option linter.unusedVariables false
set_option linter.unusedSimpArgs false

/-- a term whose kids lie in rows of their own, no two in one block; all of these blocks lie from lo on, below hi -/
inductive SepW (w : World) : Nat → Nat → Option Addr → Nat → Tm → Prop
 | mk {lo hi : Nat} {a : Option Addr} {cap : Nat} {k : Int} {n : ByteArray} {s : Int} {l : List Tm} {ba : Nat} {I : List (Nat × Nat)} {A : Nat → Option Addr} {C : Nat → Nat}
  (hk : I64 k) (hs : I64 s) (hn : n.size ≤ maxLen) (hl : l.length ≤ cap) (hc : cap ≤ maxLen) (ha : l ≠ [] → a = some ⟨ba, 0, none⟩ ∧ lo ≤ ba ∧ ba < hi)
  (blk : l ≠ [] → ∃ cur, w.heap[ba]? = some (.cells cur 31)) (hI : I.length = l.length) (hpw : I.Pairwise (fun x y => x.2 ≤ y.1)) (hin : ∀ x ∈ I, lo ≤ x.1 ∧ x.2 ≤ hi ∧ (ba < x.1 ∨ x.2 ≤ ba))
  (cells : ∀ (i : Nat) t, l[i]? = some t → w.cell? ⟨ba, i * 4, none⟩ = some (.int .i64 t.kind) ∧ w.cell? ⟨ba, i * 4 + 1, none⟩ = some (.string t.name) ∧ w.cell? ⟨ba, i * 4 + 2, none⟩ = some (.int .i64 t.sort) ∧ w.cell? ⟨ba, i * 4 + 3, none⟩ = some (.slice (A i) t.kids.length (C i)))
  (kids : ∀ (i : Nat) t x, l[i]? = some t → I[i]? = some x → SepW w x.1 x.2 (A i) (C i) t) : SepW w lo hi a cap (.mk k n s l)

section
variable {w w' : World} {lo hi : Nat} {a : Option Addr} {cap : Nat} {t : Tm} {S : Nat → Prop}
/-- it reads as a term, wherever its cells are the same -/
theorem SepW.tm (h : SepW w lo hi a cap t) (hw : ∀ c o, lo ≤ c → c < hi → w'.cell? ⟨c, o, none⟩ = w.cell? ⟨c, o, none⟩) (hS : ∀ c, lo ≤ c → c < hi → S c) : TmW w' S a cap t := by
 induction h with
 | @mk lo hi a cap k n s l ba I A C hk hs hn hl hc ha blk hI hpw hin cells kids ih =>
   refine ⟨hk, hs, hn, hl, hc, ba, 0, fun hne => ⟨(ha hne).1, hS _ (ha hne).2.1 (ha hne).2.2⟩, fun i t hi => ?_⟩
   have hne : l ≠ [] := ne_nil_of_get hi
   obtain ⟨-, h1, h2⟩ := ha hne
   obtain ⟨x, hx⟩ : ∃ x, I[i]? = some x := ⟨_, List.getElem?_eq_getElem (by rw [hI]; exact lt_of_get hi)⟩
   obtain ⟨g1, g2, g3⟩ := hin x (List.mem_of_getElem? hx)
   obtain ⟨c0, c1, c2, c3⟩ := cells i t hi
   rw [Nat.zero_add]
   exact TmAt.close (by rw [hw _ _ h1 h2]; exact c0) (by rw [hw _ _ h1 h2]; exact c1) (by rw [hw _ _ h1 h2]; exact c2) (by rw [hw _ _ h1 h2]; exact c3) (ih i t x hi hx (fun c o e1 e2 => hw c o (by omega) (by omega)) (fun c e1 e2 => hS c (by omega) (by omega)))
theorem SepW.keep (h : SepW w lo hi a cap t) (hw : ∀ c, lo ≤ c → c < hi → w'.heap[c]? = w.heap[c]?) : SepW w' lo hi a cap t := by
 induction h with
 | @mk lo hi a cap k n s l ba I A C hk hs hn hl hc ha blk hI hpw hin cells kids ih =>
   refine .mk hk hs hn hl hc ha (fun hne => let ⟨cur, hcur⟩ := blk hne; ⟨cur, by rw [hw _ (ha hne).2.1 (ha hne).2.2]; exact hcur⟩) hI hpw hin (fun i t hi => ?_) (fun i t x hi hx => ih i t x hi hx (fun c e1 e2 => hw c (by have := hin x (List.mem_of_getElem? hx); omega) (by have := hin x (List.mem_of_getElem? hx); omega)))
   obtain ⟨-, h1, h2⟩ := ha (ne_nil_of_get hi)
   obtain ⟨c0, c1, c2, c3⟩ := cells i t hi
   have hb : ∀ o, w'.cell? ⟨ba, o, none⟩ = w.cell? ⟨ba, o, none⟩ := fun o => World.cell?_of_block (a := ⟨ba, o, none⟩) (hw ba h1 h2)
   exact ⟨by rw [hb]; exact c0, by rw [hb]; exact c1, by rw [hb]; exact c2, by rw [hb]; exact c3⟩
theorem SepW.mono {lo' hi' : Nat} (h : SepW w lo hi a cap t) (h1 : lo' ≤ lo) (h2 : hi ≤ hi') : SepW w lo' hi' a cap t := by
 cases h with
 | @mk _ _ _ _ k n s l ba I A C hk hs hn hl hc ha blk hI hpw hin cells kids =>
   exact .mk hk hs hn hl hc (fun hne => ⟨(ha hne).1, by have := (ha hne).2; omega, by have := (ha hne).2; omega⟩) blk hI hpw (fun x hx => by have := hin x hx; omega) cells kids
theorem SepW.kind (h : SepW w lo hi a cap t) : I64 t.kind ∧ I64 t.sort ∧ t.name.size ≤ maxLen ∧ t.kids.length ≤ cap ∧ cap ≤ maxLen := by
 cases h with
 | mk hk hs hn hl hc => exact ⟨hk, hs, hn, hl, hc⟩
end
/-- the kids of a copy: terms with the bounds of their blocks -/
abbrev Sp := Tm × Nat × Nat
def elC : Elm Sp where
 n := 4
 R w S x cs := ∃ a cap, cs = encE ⟨x.1, a, cap⟩ ∧ SepW w x.2.1 x.2.2 a cap x.1 ∧ ∀ c, x.2.1 ≤ c → c < x.2.2 → S c ∧ c < w.heap.size
 len := by rintro w S t cs ⟨a, cap, rfl, -⟩; rfl
 one := by rintro w S t cs ⟨a, cap, rfl, -⟩; exact encE_one' _
 keep := by
  rintro w w' S S' t cs ⟨a, cap, rfl, h, hb⟩ h1 h2
  have hblk : ∀ c, t.2.1 ≤ c → c < t.2.2 → w'.heap[c]? = w.heap[c]? := fun c e1 e2 => h1 c (hb c e1 e2).1 (hb c e1 e2).2
  refine ⟨a, cap, rfl, h.keep hblk, fun c e1 e2 => ⟨h2 c (hb c e1 e2).1 (hb c e1 e2).2, ?_⟩⟩
  have h3 : w.heap[c]? = some (w.heap[c]'(hb c e1 e2).2) := Array.getElem?_eq_getElem (hb c e1 e2).2
  rw [← hblk c e1 e2] at h3
  exact lt_of_get' h3

/-- the copy under way -/
structure CpyI (w wr : World) (bx : Nat) (k : Int) (n : ByteArray) (s : Int) (kv : Value) (O : List Sp) : Prop where
 own : OwnG elC wr (bx + 2) 31 (fun c => bx + 2 ≤ c ∧ kv.ownBlock ≠ some c) kv O
 blk : wr.heap[bx]? = some (.cells #[.int .i64 k, .string n, .int .i64 s, kv] 31)
 res : wr.heap[bx + 1]? = some (.cells #[.int .i64 0, .string ⟨#[]⟩, .int .i64 0, .slice none 0 0] 31)
 ext : Ext w wr
 pw : O.Pairwise (fun x y => x.2.2 ≤ y.2.1)
 up : ∀ x ∈ O, bx + 2 ≤ x.2.1 ∧ x.2.1 ≤ x.2.2 ∧ x.2.2 ≤ wr.heap.size
theorem CpyI.next {w wr w' : World} {bx : Nat} {k s : Int} {n : ByteArray} {kv : Value} {O : List Sp} (h : CpyI w wr bx k n s kv O) (hE : Ext wr w') : CpyI w w' bx k n s kv O :=
 ⟨h.own.ext hE, hs_ext hE h.blk, hs_ext hE h.res, h.ext.trans hE, h.pw, fun x hx => ⟨(h.up x hx).1, (h.up x hx).2.1, Nat.le_trans (h.up x hx).2.2 hE.size⟩⟩
theorem CpyI.put {w wr w' : World} {bx : Nat} {k s : Int} {n : ByteArray} {kv v' : Value} {O O' : List Sp} (h : CpyI w wr bx k n s kv O) (hb : w.heap.size ≤ bx)
 (hO : OwnG elC w' (bx + 2) 31 (fun c => (bx + 2 ≤ c ∧ kv.ownBlock ≠ some c) ∧ c < wr.heap.size) v' O') (hg : wr.grownBy w' kv.ownBlock) (hat : v'.ownBlock = kv.ownBlock ∨ v'.ownBlock = some wr.heap.size)
 (hpw : O'.Pairwise (fun x y => x.2.2 ≤ y.2.1)) (hup : ∀ x ∈ O', bx + 2 ≤ x.2.1 ∧ x.2.1 ≤ x.2.2 ∧ x.2.2 ≤ wr.heap.size) :
 CpyI w (w'.setCell ⟨bx, 3, none⟩ v') bx k n s v' O' := by
 have hk := h.own.lt
 have hk' := hO.lt
 have n1 : bx < wr.heap.size := lt_of_get' h.blk
 have n2 : bx + 1 < wr.heap.size := lt_of_get' h.res
 have b1 : w'.heap[bx]? = some (.cells #[.int .i64 k, .string n, .int .i64 s, kv] 31) := by rw [hg.block bx n1 (fun e => by have := (hk bx e.symm).1; omega)]; exact h.blk
 have b2 : w'.heap[bx + 1]? = some (.cells #[.int .i64 0, .string ⟨#[]⟩, .int .i64 0, .slice none 0 0] 31) := by rw [hg.block _ n2 (fun e => by have := (hk _ e.symm).1; omega)]; exact h.res
 have hE : Ext w w' := h.ext.grown hg (fun q hq => by have := (hk q hq).1; omega)
 refine ⟨?_, ?_, ?_, hE.setCell hb v', hpw, fun x hx => ⟨(hup x hx).1, (hup x hx).2.1, by have := (hup x hx).2.2; have := hg.size; simp; omega⟩⟩
 · refine (hO.keep (w' := w'.setCell ⟨bx, 3, none⟩ v') (S' := fun c => (bx + 2 ≤ c ∧ kv.ownBlock ≠ some c) ∧ c < wr.heap.size) (fun q hq => heap_setCell_other _ _ _ _ (by have := (hk' q hq).1; show q ≠ bx; omega)) (fun c hc hlt => heap_setCell_other _ _ _ _ (by show c ≠ bx; omega)) (fun _ h _ => h)).wide (fun c hc _ => ⟨hc.1.1, fun e => ?_⟩)
   rcases hat with h1 | h1
   · exact hc.1.2 (by rw [← h1]; exact e)
   · rw [h1] at e
     simp only [Option.some.injEq] at e
     omega
 · have := heap_setCell_same w' bx 3 _ _ v' b1
   rw [this]
   simp
 · rw [heap_setCell_other _ _ _ _ (by show bx + 1 ≠ bx; omega)]
   exact b2
theorem CpyI.after {w wr w' : World} {bx : Nat} {k s : Int} {n : ByteArray} {kv : Value} {O : List Sp} (h : CpyI w wr bx k n s kv O) (hg : wr.grownBy w' kv.ownBlock) : w'.heap[bx]? = some (.cells #[.int .i64 k, .string n, .int .i64 s, kv] 31) := by
 rw [hg.block bx (lt_of_get' h.blk) (fun e => by have := (h.own.lt bx e.symm).1; omega)]; exact h.blk

/-- the value v is a term apart -/
def IsP (w : World) (lo hi : Nat) (v : Value) (t : Tm) : Prop := ∃ a cap, v = .agg #[.int .i64 t.kind, .string t.name, .int .i64 t.sort, .slice a t.kids.length cap] ∧ SepW w lo hi a cap t

def slA (v : Option Value) : Option Addr := match v with | some (.slice a _ _) => a | _ => none
def slC (v : Option Value) : Nat := match v with | some (.slice _ _ c) => c | _ => 0
/-- a row of copies is what a copy's kids are -/
theorem OwnG.sep {w : World} {base lo hi : Nat} {S : Nat → Prop} {oa : Option Addr} {n oc : Nat} {O : List Sp} {k s : Int} {nm : ByteArray} {l : List Tm} (h : OwnG elC w base 31 S (.slice oa n oc) O) (hl : O.map (·.1) = l) (hk : I64 k) (hs : I64 s) (hn : nm.size ≤ maxLen)
 (hlo : lo ≤ base) (hhi : w.heap.size ≤ hi) (hpw : O.Pairwise (fun x y => x.2.2 ≤ y.2.1)) (hS : ∀ c, S c → base ≤ c ∧ (Value.slice oa n oc).ownBlock ≠ some c) (hup : ∀ x ∈ O, lo ≤ x.2.1 ∧ x.2.1 ≤ x.2.2 ∧ x.2.2 ≤ w.heap.size) : n = l.length ∧ SepW w lo hi oa oc (.mk k nm s l) := by
 subst hl
 obtain ⟨oa', oc', e, hlc, hcm⟩ := h.slice
 cases e
 refine ⟨by simp, ?_⟩
 have hlt := h.lt
 obtain ⟨ba, hba⟩ : ∃ ba : Nat, O ≠ [] → oa = some ⟨ba, 0, none⟩ := by
  by_cases hO : O = []
  · exact ⟨0, fun h => absurd hO h⟩
  · obtain ⟨x, hx⟩ : ∃ x, O[0]? = some x := ⟨_, List.getElem?_eq_getElem (List.length_pos_iff.2 hO)⟩
    obtain ⟨g, cap, cs, e, -⟩ := h.at hx
    cases e
    exact ⟨g, fun _ => rfl⟩
 have hpt : ∀ (i : Nat) x, O[i]? = some x → ∃ a c, (∀ (j : Nat) u, (encE ⟨x.1, a, c⟩)[j]? = some u → w.cell? ⟨ba, i * 4 + j, none⟩ = some u) ∧ SepW w x.2.1 x.2.2 a c x.1 ∧ ∀ c, x.2.1 ≤ c → c < x.2.2 → S c := fun i x hx => by
  obtain ⟨g, cap, cs, e, -, -, ⟨a, c, rfl, hW, hb⟩, hcs⟩ := h.at hx
  rw [hba (ne_nil_of_get hx)] at e
  cases e
  exact ⟨a, c, hcs, hW, fun c e1 e2 => (hb c e1 e2).1⟩
 refine .mk (ba := ba) (I := O.map (·.2)) (A := fun i => slA (w.cell? ⟨ba, i * 4 + 3, none⟩)) (C := fun i => slC (w.cell? ⟨ba, i * 4 + 3, none⟩)) hk hs hn (by simpa using hlc) hcm (fun hne => ?_) (fun hne => ?_) (by simp) ?_ (fun x hx => ?_) (fun i t hi => ?_) (fun i t x hi hx => ?_)
 · have hO : O ≠ [] := fun e => hne (by rw [e]; rfl)
   have e := hba hO
   refine ⟨e, ?_⟩
   have := hlt ba (by rw [e]; rfl)
   omega
 · have hO : O ≠ [] := fun e => hne (by rw [e]; rfl)
   exact h.block (by rw [hba hO]; rfl)
 · rw [List.pairwise_map]; exact hpw
 · obtain ⟨y, hy, rfl⟩ := List.mem_map.1 hx
   obtain ⟨h1, h2, h3⟩ := hup y hy
   refine ⟨h1, by omega, ?_⟩
   have hO : O ≠ [] := fun e => by rw [e] at hy; simp at hy
   have e := hba hO
   obtain ⟨i, hi⟩ := List.mem_iff_getElem?.1 hy
   obtain ⟨a, c, -, -, hb⟩ := hpt i y hi
   rcases Nat.lt_or_ge ba y.2.1 with h4 | h4
   · exact .inl h4
   · rcases Nat.lt_or_ge ba y.2.2 with h5 | h5
     · exact absurd (by rw [e]; rfl) (hS ba (hb ba h4 h5)).2
     · exact .inr h5
 · rw [List.getElem?_map] at hi
   obtain ⟨y, hy, rfl⟩ := Option.map_eq_some_iff.1 hi
   obtain ⟨a, c, hcs, -, -⟩ := hpt i y hy
   have c3 := hcs 3 _ rfl
   refine ⟨hcs 0 _ rfl, hcs 1 _ rfl, hcs 2 _ rfl, ?_⟩
   rw [c3]
   rfl
 · rw [List.getElem?_map] at hi hx
   obtain ⟨y, hy, rfl⟩ := Option.map_eq_some_iff.1 hi
   obtain ⟨z, hz, rfl⟩ := Option.map_eq_some_iff.1 hx
   rw [hy] at hz
   cases hz
   obtain ⟨a, c, hcs, hW, -⟩ := hpt i y hy
   have c3 := hcs 3 _ rfl
   rw [c3]
   exact hW

end Go.Proofs.Ytpfnlbaloaohgaa

namespace Go.Proofs.Ytpfnlbaloaohgaa
open Go Go.RowKit
set_option linter.unusedVariables false
set_option linter.unusedSimpArgs false

theorem IsP.carry {w w' : World} {B : Nat} {v : Value} {t : Tm} (h : ∃ lo hi, B ≤ lo ∧ lo ≤ hi ∧ hi ≤ w.heap.size ∧ IsP w lo hi v t) (hE : Ext w w') : ∃ lo hi, B ≤ lo ∧ lo ≤ hi ∧ hi ≤ w'.heap.size ∧ IsP w' lo hi v t := by
 obtain ⟨lo, hi, h1, h2, h3, a, cap, e, hW⟩ := h
 exact ⟨lo, hi, h1, h2, Nat.le_trans h3 hE.size, a, cap, e, hW.keep (fun c _ e2 => hE.block (by omega))⟩

set_option maxRecDepth 100000 in
set_option maxHeartbeats 4000000 in
theorem clone_sep (n : Nat) : ∀ (w : World) (S : Nat → Prop) (a : Option Addr) (cap : Nat) (t : Tm), sizeT t ≤ n → n ≤ 1000000 → TmW w S a cap t →
 Calls Try.prog 53 #[.agg #[.int .i64 t.kind, .string t.name, .int .i64 t.sort, .slice a t.kids.length cap]] w fun e w' => ∃ u, e = .returned u ∧ Ext w w' ∧ IsP w' w.heap.size w'.heap.size u t := by
 induction n with
 | zero => intro w S a cap t hn; have := sizeT_kids t; omega
 | succ n ih =>
   intro w S a cap t hn hn2 hT
   have hl := hT.len
   have hc := hT.cap
   unfold maxLen at hc
   have hkl : t.kids.length ≤ 1000000 := by have := sizeT_kids t; have := len_size t.kids; omega
   obtain ⟨bx, hbx⟩ : ∃ bx, bx = w.heap.size := ⟨_, rfl⟩
   obtain ⟨w0, hw0⟩ : ∃ w0, w0 = w.alloc (.cells #[.int .i64 t.kind, .string t.name, .int .i64 t.sort, .slice a t.kids.length cap] 31) := ⟨_, rfl⟩
   have hbs : bx + 1 = w0.heap.size := by rw [hw0, hbx, World.size_alloc]
   obtain ⟨w1, hw1⟩ : ∃ w1, w1 = w0.alloc (.cells #[.int .i64 0, .string ⟨#[]⟩, .int .i64 0, .slice none 0 0] 31) := ⟨_, rfl⟩
   have h0 : w1.heap[bx]? = some (.cells #[.int .i64 t.kind, .string t.name, .int .i64 t.sort, .slice a t.kids.length cap] 31) := by rw [hw1, hw0, hbx]; exact hs_al hs_new
   have h1 : w1.heap[bx + 1]? = some (.cells #[.int .i64 0, .string ⟨#[]⟩, .int .i64 0, .slice none 0 0] 31) := by rw [hw1, hbs]; exact hs_new
   have hE1 : Ext w w1 := by rw [hw1, hw0]; exact (Ext.alloc w _).then_al _
   obtain ⟨w2, hw2⟩ : ∃ w2, w2 = w1.setCell ⟨bx, 3, none⟩ (.slice none 0 0) := ⟨_, rfl⟩
   have HI : Hid (CpyI w w2 bx t.kind t.name t.sort (.slice none 0 0) []) := Lib.hid (by
    rw [hw2]
    refine ⟨OwnG.nil, ?_, ?_, hE1.setCell (by omega) _, List.Pairwise.nil, by simp⟩
    · rw [heap_setCell_same w1 bx 3 _ _ _ h0]; simp
    · rw [heap_setCell_other _ _ _ _ (by show bx + 1 ≠ bx; omega)]; exact h1)
   have b3 : w1.cell? ⟨bx, 3, none⟩ = some (.slice a t.kids.length cap) := by rw [cellc h0]; rfl
   have f3 : w1.frozen? ⟨bx, 3, none⟩ = false := frozenc h0
   have HT := Lib.hid (hT.ext HI.out.ext).ts
   have HTW := Lib.hid hT
   have HK := Lib.hid (sizeT_kids t)
   have HN := Lib.hid hn
   have HBX := Lib.hid hbx
   have IH := Lib.hid ih
   clear hT hn ih h0 h1 hE1 hbs
   go_enter Try.func53, Try.ntmps53
   go_upto_region 1 with fail
   rw [← hw0, ← hbx, ← hw1]
   clear hw1 hw0 hbx
   go_upto_region 3 with fail
   rw [← hw2]
   clear hw2 b3 f3
   go_wp2_with fail
   go_loopw [11] (fun iv wr => ∃ (i : Nat) (kv : Value) (O : List Sp), iv = .int .i64 i ∧ i ≤ t.kids.length ∧ O.map (·.1) = t.kids.take i ∧ CpyI w wr bx t.kind t.name t.sort kv O) (fun iv _ => t.kids.length - (intOf iv).toNat)
   case atStart => exact ⟨0, _, [], rfl, by omega, rfl, HI.out⟩
   case round =>
    obtain ⟨i, kv, O, rfl, hi, hOm, hI⟩ := hrel
    have HOM := Lib.hid hOm
    clear hOm
    have HI2 := Lib.hid hI
    clear hI
    by_cases hlt : i < t.kids.length
    · obtain ⟨x, hx⟩ : ∃ x, t.kids[i]? = some x := ⟨_, List.getElem?_eq_getElem hlt⟩
      obtain ⟨b, off, a', cap', rfl, y0, y1, y2, y3, hTx⟩ := (HTW.out.ext HI2.out.ext).ts.at hx
      have hsx := sizeL_get hx
      have HTK : Hid (t.kids.take (i + 1) = t.kids.take i ++ [x]) := Lib.hid (by rw [List.take_add_one, hx]; rfl)
      have hcon := fun (w' : World) (hE : Ext wr w') => IH.out w' S a' cap' x (by have := HK.out; have := HN.out; omega) (by omega) (hTx.ext hE)
      have HX := Lib.hid hx
      have HCON := Lib.hid hcon
      clear hx hsx hTx hcon
      obtain ⟨q, hq⟩ : ∃ q, q = wr.heap.size := ⟨_, rfl⟩
      obtain ⟨w3, hw3⟩ : ∃ w3, w3 = wr.alloc (.cells #[.int .i64 x.kind, .string x.name, .int .i64 x.sort, .slice a' x.kids.length cap'] 31) := ⟨_, rfl⟩
      have x0 : w3.cell? ⟨q, 0, none⟩ = some (.int .i64 x.kind) := by rw [hw3, hq]; exact cs_new rfl
      have x1 : w3.cell? ⟨q, 1, none⟩ = some (.string x.name) := by rw [hw3, hq]; exact cs_new rfl
      have x2 : w3.cell? ⟨q, 2, none⟩ = some (.int .i64 x.sort) := by rw [hw3, hq]; exact cs_new rfl
      have x3 : w3.cell? ⟨q, 3, none⟩ = some (.slice a' x.kids.length cap') := by rw [hw3, hq]; exact cs_new rfl
      have HE3 : Hid (Ext wr w3) := Lib.hid (by rw [hw3]; exact Ext.alloc _ _)
      have HI3 := Lib.hid (HI2.out.next HE3.out)
      obtain ⟨oa, oc, ho, -, hocm⟩ := HI3.out.own.slice
      unfold maxLen at hocm
      have hol : O.length = i := by have := congrArg List.length HOM.out; rw [List.length_map, List.length_take] at this; omega
      rw [hol] at ho
      subst ho
      have k3 : w3.cell? ⟨bx, 3, none⟩ = some (.slice oa i oc) := by rw [cellc HI3.out.blk]; rfl
      have HOL := Lib.hid hol
      clear hol
      go_upto_region 6 with fail
      rw [← hw3, ← hq]
      clear hw3 hq y0 y1 y2 y3
      have HFCT := Lib.hid (And.intro k3 (And.intro x0 (And.intro x1 (And.intro x2 x3))))
      refine wp_region_reg 5 false (by kernel_rfl) (by kernel_rfl) ?_
      refine reg_value (fun _ => rfl) ?_ (fun g w' vs hM hE hP => ?_) ?_
      rotate_left
      · (clear hP hM; have ⟨z0, z1, z2, z3, z4⟩ := cs_e5 hE HFCT.out; go_simp; first | done | rfl)
      refine reg_value (fun _ => rfl) ?_ (fun g w' vs hM hE hP => ?_) ?_
      rotate_left
      · (clear hP hM; have ⟨z0, z1, z2, z3, z4⟩ := cs_e5 hE HFCT.out; go_simp; first | done | rfl)
      refine reg_value (fun _ => rfl) ?_ (fun g w' vs hM hE hP => ?_) ?_
      rotate_left
      · (clear hP hM; have ⟨z0, z1, z2, z3, z4⟩ := cs_e5 hE HFCT.out; go_simp; first | done | rfl)
      refine reg_call (fun _ => rfl) 53 ?_ (fun g w' m hM hE hP => ?_) (fun u w'' => ∃ lo hi, w3.heap.size ≤ lo ∧ lo ≤ hi ∧ hi ≤ w''.heap.size ∧ IsP w'' lo hi u x) ⟨fun u a b h hE => IsP.carry h hE, (fun h => nomatch h), (fun h => absurd rfl h)⟩ (fun g w' m hM hE hP => ?_) ?_
      rotate_left
      · (clear hP hM; have zz1 := cs_ext hE x0; have zz2 := cs_ext hE x1; have zz3 := cs_ext hE x2; have zz4 := cs_ext hE x3; go_simp; first | done | exact ⟨rfl, rfl⟩ | rfl)
      · exact (HCON.out w' (HE3.out.trans hE)).mono (fun e w'' ⟨u, h1, h2, h3⟩ => ⟨u, h1, h2, _, _, hE.size, h2.size, Nat.le_refl _, h3⟩)
      refine reg_fresh (fun _ => rfl) (fun n => .slice (some ⟨n, 0, none⟩) 1 1) (fun g => .cells (aggC (g 3).v) 31) (fun g w' m hM hE hP => ?_) ?_
      · obtain ⟨-, -, -, -, -, ua, uc, hu, -⟩ := hP _ List.mem_cons_self (anc_of 3 (by kernel_rfl))
        have hu : (g 3).v = _ := hu
        clear hP hM
        go_simp
        first | done | simp [aggC, hu]
      intro g w4 hE4 hF hQ
      simp only [List.drop_succ_cons, List.drop_zero, Act.put, List.setIfInBounds_toArray, List.set_cons_succ, List.set_cons_zero]
      have hu := hQ _ List.mem_cons_self
      obtain ⟨lo, hi', q1, q2, q3, ua, uc, hu, hTu⟩ := hu
      have hu : (g 3).v = _ := hu
      have hf := (hF.2.1 _ List.mem_cons_self).1
      have hf : w4.heap[(g 4).n]? = some (.cells (aggC (g 3).v) 31) := hf
      rw [hu] at hf
      have hf : w4.heap[(g 4).n]? = some (.cells #[.int .i64 x.kind, .string x.name, .int .i64 x.sort, .slice ua x.kids.length uc] 31) := hf
      obtain ⟨fb, hfb⟩ : ∃ fb, fb = (g 4).n := ⟨_, rfl⟩
      rw [← hfb] at hf
      rw [← hfb, hu]
      have HI4 := Lib.hid (HI3.out.next hE4)
      have hkv := HI3.out.own.lt
      have n2 : bx + 1 < w3.heap.size := lt_of_get' HI3.out.res
      have hOw := HI4.out.own.wide (S' := fun c => (bx + 2 ≤ c ∧ (Value.slice oa i oc).ownBlock ≠ some c) ∧ c < w4.heap.size) (fun c h1 h2 => ⟨h1, h2⟩)
      have hone : LsE elC w4 (fun c => (bx + 2 ≤ c ∧ (Value.slice oa i oc).ownBlock ≠ some c) ∧ c < w4.heap.size) (.slice (some ⟨fb, 0, none⟩) 1 1) [(x, lo, hi')] := cells_lsE (P := [((x, lo, hi'), encE ⟨x, ua, uc⟩)]) hf rfl rfl rfl (by unfold maxLen; simp) (fun p hp => by
       simp at hp; subst hp
       exact ⟨ua, uc, rfl, hTu, fun c e1 e2 => have e1 : lo ≤ c := e1; have e2 : c < hi' := e2; ⟨⟨⟨by omega, fun e => by have := (hkv c e).2; omega⟩, by omega⟩, by omega⟩⟩)
      have hsz : bx + 2 ≤ w4.heap.size := by have := hE4.size; omega
      have hoff : ∀ c, (bx + 2 ≤ c ∧ (Value.slice oa i oc).ownBlock ≠ some c) ∧ c < w4.heap.size → (Value.slice oa i oc).ownBlock ≠ some c := fun c h => h.1.2
      have hl1 : O.length ≤ 1000000 := by rw [HOL.out]; omega
      have HUP : Hid ((O ++ [(x, lo, hi')]).Pairwise (fun x y => x.2.2 ≤ y.2.1) ∧ (∀ y ∈ O ++ [(x, lo, hi')], bx + 2 ≤ y.2.1 ∧ y.2.1 ≤ y.2.2 ∧ y.2.2 ≤ w4.heap.size) ∧ (O ++ [(x, lo, hi')]).map (·.1) = t.kids.take (i + 1)) := Lib.hid ⟨by
       rw [List.pairwise_append]
       refine ⟨HI4.out.pw, by simp, fun y hy z hz => ?_⟩
       simp at hz; subst hz
       have := (HI3.out.up y hy).2.2
       show y.2.2 ≤ lo
       omega, fun y hy => by
       rcases List.mem_append.1 hy with hy | hy
       · exact HI4.out.up y hy
       · simp at hy; subst hy; exact ⟨show bx + 2 ≤ lo by omega, q2, q3⟩, by rw [List.map_append, HOM.out, HTK.out]; rfl⟩
      have HBW : Hid (w.heap.size ≤ bx) := Lib.hid (by rw [HBX.out]; exact Nat.le_refl _)
      clear hf hTu hu hfb hF hQ hE4 hkv n2 k3 x0 x1 x2 x3 q1 q2 q3
      go_wp2_with (
       at_builtin
       refine wpList_appG (E := elC) (T := 31) rfl 29 (.tmp 16) (.tmp 19) rfl rfl rfl Try.underlying29 infT rfl (by decide) (by decide) hOw hsz hoff hl1 (M := [(x, lo, hi')]) (by simp) hone ?_
       intro v5 w5 o5 g5 k5
       have hb5 := HI4.out.after g5
       obtain ⟨pa, pc, hp, -, hpcm⟩ := o5.slice
       unfold maxLen at hpcm
       have hl5 : (O ++ [(x, lo, hi')]).length = i + 1 := by rw [List.length_append, HOL.out]; rfl
       rw [hl5] at hp
       have HP := Lib.hid (HI4.out.put HBW.out o5 g5 k5 HUP.out.1 HUP.out.2.1)
       subst hp
       have z3 : w5.cell? ⟨bx, 3, none⟩ = some (.slice oa i oc) := by rw [cellc hb5]; rfl
       have f3 : w5.frozen? ⟨bx, 3, none⟩ = false := frozenc hb5
       clear o5 g5 k5 hb5 hOw hone)
      go_roundw
      case rel => exact ⟨i + 1, _, O ++ [(x, lo, hi')], by go_num, by omega, HUP.out.2.2, HP.out⟩
      case measure => simp [intOf]; omega
    · have HTK : Hid (O.map (·.1) = t.kids) := Lib.hid (by rw [HOM.out]; exact List.take_of_length_le (by omega))
      obtain ⟨oa, oc, ho, -, hocm⟩ := HI2.out.own.slice
      unfold maxLen at hocm
      have hol : O.length = t.kids.length := by have := congrArg List.length HTK.out; rwa [List.length_map] at this
      rw [hol] at ho
      subst ho
      have k0 : wr.cell? ⟨bx, 0, none⟩ = some (.int .i64 t.kind) := by rw [cellc HI2.out.blk]; rfl
      have k1 : wr.cell? ⟨bx, 1, none⟩ = some (.string t.name) := by rw [cellc HI2.out.blk]; rfl
      have k2 : wr.cell? ⟨bx, 2, none⟩ = some (.int .i64 t.sort) := by rw [cellc HI2.out.blk]; rfl
      have k3 : wr.cell? ⟨bx, 3, none⟩ = some (.slice oa t.kids.length oc) := by rw [cellc HI2.out.blk]; rfl
      have HRES := Lib.hid HI2.out.res
      have HBW : Hid (w.heap.size ≤ bx) := Lib.hid (by rw [HBX.out]; exact Nat.le_refl _)
      clear hol
      go_wp2_with (
       refine wpList_storeT rfl (.tmp 2) (.tmp 23) rfl (g := bx + 1) rfl (k := t.kind) (s := t.sort) (n := t.name) (ka := oa) (kl := t.kids.length) (kc := oc) rfl HRES.out rfl ?_
       intro w6 c6 q6 e6 z6
       have HG6 := Lib.hid c6
       have HE6 := Lib.hid (e6 w HI2.out.ext (by have := HBW.out; omega))
       have HQ6 := Lib.hid (And.intro q6 z6)
       clear c6 q6 e6 z6)
      have hO6 := HI2.out.own.keep (w' := w6) (S' := fun c => bx + 2 ≤ c ∧ (Value.slice oa t.kids.length oc).ownBlock ≠ some c) (fun q hq => HQ6.out.1 q (by have := (HI2.out.own.lt q hq).1; omega)) (fun c hc _ => HQ6.out.1 c (by omega)) (fun _ h _ => h)
      have hfin := OwnG.sep (lo := w.heap.size) (hi := w6.heap.size) (k := t.kind) (s := t.sort) (nm := t.name) hO6 HTK.out HTW.out.kind HTW.out.sort HTW.out.name (by have := HBW.out; omega) (Nat.le_refl _) HI2.out.pw (fun c hc => hc) (fun x hx => ?_)
      · have ht : Tm.mk t.kind t.name t.sort t.kids = t := by cases t; rfl
        rw [ht] at hfin
        exact ret_term (g := bx + 1) rfl rfl HG6.out rfl ⟨_, rfl, HE6.out, oa, oc, rfl, hfin.2⟩
      · have h1 := HI2.out.up x hx
        have := HQ6.out.2
        have := HBW.out
        omega

theorem repT_snoc : ∀ (q : List Int) (t sub kid s' : Tm) (i : Int), atT q t = some sub → 0 ≤ i → sub.kids[i.toNat]? = some kid → repT (q ++ [i]) t s' = repT q t (.mk sub.kind sub.name sub.sort (sub.kids.set i.toNat s'))
 | [], t, sub, kid, s', i, h, h0, hk => by
   cases h
   show repT [i] t s' = some _
   rw [repT, if_pos h0, hk]
   rfl
 | j :: q, t, sub, kid, s', i, h, h0, hk => by
   rw [atT] at h
   split at h
   · rename_i hj
     split at h
     · rename_i x hx
       rw [List.cons_append, repT, repT, if_pos hj, if_pos hj, hx]
       simp only
       rw [repT_snoc q x sub kid s' i h h0 hk]
     · cases h
   · cases h
theorem atT_snoc {q : List Int} {t sub kid : Tm} {i : Int} (h : atT q t = some sub) (h0 : 0 ≤ i) (hk : sub.kids[i.toNat]? = some kid) : atT (q ++ [i]) t = some kid := by
 rw [atT_append, h]
 show atT [i] sub = some kid
 rw [atT, if_pos h0, hk]; rfl
theorem repT_none : ∀ (q r : List Int) (t sub u : Tm) (i : Int), atT q t = some sub → (i < 0 ∨ sub.kids[i.toNat]? = none) → repT (q ++ i :: r) t u = none
 | [], r, t, sub, u, i, h, hi => by
   cases h
   rw [List.nil_append, repT]
   rcases hi with h | h
   · rw [if_neg (by omega)]
   · split
     · rw [h]
     · rfl
 | j :: q, r, t, sub, u, i, h, hi => by
   rw [atT] at h
   split at h
   · rename_i hj
     split at h
     · rename_i x hx
       rw [List.cons_append, repT, if_pos hj, hx]
       simp only
       rw [repT_none q r x sub u i h hi]
       rfl
     · cases h
   · cases h

/-- a place within a copy: the part sub lies at place o of block b; what is put there is put there in the whole, which lies in block rb -/
structure HoleI (w : World) (S0 : Nat → Prop) (rb : Nat) (t : Tm) (q : List Int) (b o lo hi : Nat) (a : Option Addr) (cap : Nat) (sub : Tm) : Prop where
 at_ : atT q t = some sub
 c0 : w.cell? ⟨b, o, none⟩ = some (.int .i64 sub.kind)
 c1 : w.cell? ⟨b, o + 1, none⟩ = some (.string sub.name)
 c2 : w.cell? ⟨b, o + 2, none⟩ = some (.int .i64 sub.sort)
 c3 : w.cell? ⟨b, o + 3, none⟩ = some (.slice a sub.kids.length cap)
 blk : ∃ cur, w.heap[b]? = some (.cells cur 31)
 sep : SepW w lo hi a cap sub
 off : b < lo ∨ hi ≤ b
 low : ∀ c, lo ≤ c → c < hi → S0 c ∧ c < w.heap.size
 own : S0 b ∨ b = rb
 K : ∀ (w' : World) (s' : Tm), (∀ c f, c < w.heap.size → (c < lo ∨ hi ≤ c) → (c ≠ b ∨ f < o ∨ o + 4 ≤ f) → w'.cell? ⟨c, f, none⟩ = w.cell? ⟨c, f, none⟩) → TmAt w' S0 b o s' → ∃ t', repT q t s' = some t' ∧ TmAt w' S0 rb 0 t'
theorem HoleI.step {w : World} {S0 : Nat → Prop} {rb : Nat} {t : Tm} {q : List Int} {b o lo hi : Nat} {a : Option Addr} {cap : Nat} {sub kid : Tm} {i : Nat} (h : HoleI w S0 rb t q b o lo hi a cap sub) (hk : sub.kids[i]? = some kid) :
 ∃ ba lo' hi' a' cap', a = some ⟨ba, 0, none⟩ ∧ HoleI w S0 rb t (q ++ [(i : Int)]) ba (i * 4) lo' hi' a' cap' kid := by
 obtain ⟨hat, c0, c1, c2, c3, ⟨cur, hcur⟩, hsep, hoff, hlow, -, K⟩ := h
 cases hsep with
 | @mk _ _ _ _ k n s l ba I A C gk gs gn gl gc ga gblk gI gpw gin gcells gkids =>
   have hk' : l[i]? = some kid := hk
   have hne : l ≠ [] := ne_nil_of_get hk'
   obtain ⟨ea, b1, b2⟩ := ga hne
   have hi : i < l.length := lt_of_get hk'
   obtain ⟨x, hx⟩ : ∃ x, I[i]? = some x := ⟨_, List.getElem?_eq_getElem (by rw [gI]; exact hi)⟩
   obtain ⟨x1, x2, x3⟩ := gin x (List.mem_of_getElem? hx)
   obtain ⟨d0, d1, d2, d3⟩ := gcells i kid hk'
   refine ⟨ba, x.1, x.2, A i, C i, ea, ⟨atT_snoc hat (by omega) (by simpa using hk), d0, d1, d2, d3, gblk hne, gkids i kid x hk' hx, x3, fun c e1 e2 => hlow c (by omega) (by omega), .inl (hlow ba b1 b2).1, fun w' s' hw hs => ?_⟩⟩
   have hbs : b < w.heap.size := lt_of_get' hcur
   have hbas : ba < w.heap.size := (hlow ba b1 b2).2
   have hbb : b ≠ ba := by omega
   have hcb : ∀ f, w'.cell? ⟨b, f, none⟩ = w.cell? ⟨b, f, none⟩ := fun f => hw b f hbs (by omega) (.inl hbb)
   have hset : TmAt w' S0 b o (.mk k n s (l.set i s')) := by
    refine .mk (a := a) (cap := cap) (ba := ba) (oa := 0) (by rw [hcb]; exact c0) (by rw [hcb]; exact c1) (by rw [hcb]; exact c2) (by rw [hcb, List.length_set]; exact c3) gk gs gn (by rw [List.length_set]; exact gl) gc (fun _ => ⟨ea, (hlow ba b1 b2).1⟩) (fun j y hj => ?_)
    rw [Nat.zero_add]
    rw [List.getElem?_set] at hj
    split at hj
    · rename_i e
      subst e
      cases hj
      exact hs
    · rename_i hij
      obtain ⟨z, hz⟩ : ∃ z, I[j]? = some z := ⟨_, List.getElem?_eq_getElem (by rw [gI]; exact lt_of_get hj)⟩
      obtain ⟨z1, z2, z3⟩ := gin z (List.mem_of_getElem? hz)
      obtain ⟨e0, e1, e2, e3⟩ := gcells j y hj
      have hcc : ∀ f, f = j * 4 ∨ f = j * 4 + 1 ∨ f = j * 4 + 2 ∨ f = j * 4 + 3 → w'.cell? ⟨ba, f, none⟩ = w.cell? ⟨ba, f, none⟩ := fun f hf => hw ba f hbas x3 (.inr (by omega))
      have hxz : x.2 ≤ z.1 ∨ z.2 ≤ x.1 := by
       rcases Nat.lt_or_gt_of_ne hij with h | h
       · exact .inl (List.pairwise_iff_getElem.1 gpw i j (by rw [gI]; exact hi) (by rw [gI]; exact lt_of_get hj) h |> fun e => by
          rw [List.getElem?_eq_getElem (by rw [gI]; exact hi)] at hx
          rw [List.getElem?_eq_getElem (by rw [gI]; exact lt_of_get hj)] at hz
          cases hx; cases hz; exact e)
       · exact .inr (List.pairwise_iff_getElem.1 gpw j i (by rw [gI]; exact lt_of_get hj) (by rw [gI]; exact hi) h |> fun e => by
          rw [List.getElem?_eq_getElem (by rw [gI]; exact hi)] at hx
          rw [List.getElem?_eq_getElem (by rw [gI]; exact lt_of_get hj)] at hz
          cases hx; cases hz; exact e)
      refine TmAt.close (by rw [hcc _ (by omega)]; exact e0) (by rw [hcc _ (by omega)]; exact e1) (by rw [hcc _ (by omega)]; exact e2) (by rw [hcc _ (by omega)]; exact e3) ((gkids j y z hj hz).tm (fun c f f1 f2 => hw c f (hlow c (by omega) (by omega)).2 (by omega) (.inl (by omega))) (fun c f1 f2 => (hlow c (by omega) (by omega)).1))
   obtain ⟨t', h1, h2⟩ := K w' _ (fun c f hc hlh hf => hw c f hc (by omega) (.inl (by omega))) hset
   refine ⟨t', ?_, h2⟩
   rw [repT_snoc q t _ kid s' i hat (by omega) (by simpa using hk), Int.toNat_natCast]
   exact h1

theorem HoleI.start {w : World} {S0 : Nat → Prop} {rb lo hi : Nat} {a : Option Addr} {cap : Nat} {t : Tm} (hb : w.heap[rb]? = some (.cells #[.int .i64 t.kind, .string t.name, .int .i64 t.sort, .slice a t.kids.length cap] 31)) (hs : SepW w lo hi a cap t) (hoff : rb < lo ∨ hi ≤ rb) (hlow : ∀ c, lo ≤ c → c < hi → S0 c ∧ c < w.heap.size) :
 HoleI w S0 rb t [] rb 0 lo hi a cap t :=
 ⟨rfl, by rw [cellc hb]; rfl, by rw [cellc hb]; rfl, by rw [cellc hb]; rfl, by rw [cellc hb]; rfl, ⟨_, hb⟩, hs, hoff, hlow, .inr rfl, fun w' s' _ h => ⟨s', rfl, h⟩⟩
theorem HoleI.fin {w w5 : World} {S0 : Nat → Prop} {rb : Nat} {t : Tm} {q : List Int} {b o lo hi : Nat} {a : Option Addr} {cap : Nat} {sub s' : Tm} {a' : Option Addr} {c' : Nat} (h : HoleI w S0 rb t q b o lo hi a cap sub) (hE : Ext w w5) (hT : TmW w5 (fun c => w.heap.size ≤ c) a' c' s') (hS : ∀ c, w.heap.size ≤ c → S0 c) :
 ∃ t', repT q t s' = some t' ∧ TmAt ((((w5.setCell ⟨b, o, none⟩ (.int .i64 s'.kind)).setCell ⟨b, o + 1, none⟩ (.string s'.name)).setCell ⟨b, o + 2, none⟩ (.int .i64 s'.sort)).setCell ⟨b, o + 3, none⟩ (.slice a' s'.kids.length c')) S0 rb 0 t' := by
 obtain ⟨cur, hcur⟩ := h.blk
 have hbs : b < w.heap.size := lt_of_get' hcur
 have h0 := hs_ext hE hcur
 have h1 := heap_setCell_same w5 b o _ _ (.int .i64 s'.kind) h0
 have h2 := heap_setCell_same _ b (o + 1) _ _ (.string s'.name) h1
 have h3 := heap_setCell_same _ b (o + 2) _ _ (.int .i64 s'.sort) h2
 have h4 := heap_setCell_same _ b (o + 3) _ _ (.slice a' s'.kids.length c') h3
 have c3 := h.c3
 rw [cellc hcur] at c3
 have hlt : o + 3 < cur.size := lt_of_get' c3
 have hoth : ∀ c, c ≠ b → ((((w5.setCell ⟨b, o, none⟩ (.int .i64 s'.kind)).setCell ⟨b, o + 1, none⟩ (.string s'.name)).setCell ⟨b, o + 2, none⟩ (.int .i64 s'.sort)).setCell ⟨b, o + 3, none⟩ (.slice a' s'.kids.length c')).heap[c]? = w5.heap[c]? := fun c hc => by
  rw [heap_setCell_other _ _ _ _ hc, heap_setCell_other _ _ _ _ hc, heap_setCell_other _ _ _ _ hc, heap_setCell_other _ _ _ _ hc]
 refine h.K _ s' (fun c f hc hlh hf => ?_) (TmAt.close ?_ ?_ ?_ ?_ ((hT.keep (fun c hc _ => hoth c (by omega)) (fun c hc _ => hS c hc))))
 · by_cases hcb : c = b
   · subst hcb
     rw [cellc h4, cellc hcur]
     have hf' : f < o ∨ o + 4 ≤ f := by omega
     rw [Array.getElem?_setIfInBounds_ne (by omega), Array.getElem?_setIfInBounds_ne (by omega), Array.getElem?_setIfInBounds_ne (by omega), Array.getElem?_setIfInBounds_ne (by omega)]
   · rw [World.cell?_of_block (a := ⟨c, f, none⟩) (hoth c hcb)]
     exact hE.cell hc
 · rw [cellc h4, Array.getElem?_setIfInBounds_ne (by omega), Array.getElem?_setIfInBounds_ne (by omega), Array.getElem?_setIfInBounds_ne (by omega), Array.getElem?_setIfInBounds_self_of_lt (by omega)]
 · rw [cellc h4, Array.getElem?_setIfInBounds_ne (by omega), Array.getElem?_setIfInBounds_ne (by omega), Array.getElem?_setIfInBounds_self_of_lt (by simp; omega)]
 · rw [cellc h4, Array.getElem?_setIfInBounds_ne (by omega), Array.getElem?_setIfInBounds_self_of_lt (by simp; omega)]
 · rw [cellc h4, Array.getElem?_setIfInBounds_self_of_lt (by simp; omega)]

/-- what At answers -/
def atR (w : World) (S : Nat → Prop) (v : Value) (er : Int) (r : Option Tm) : Prop := (∃ x, r = some x ∧ er = 0 ∧ IsS w S v x) ∨ (r = none ∧ er = 7 ∧ v = .agg #[.int .i64 0, .string ⟨#[]⟩, .int .i64 0, .slice none 0 0])
theorem atT_stop {p : List Int} {t sub : Tm} {k : Nat} {i : Int} (h : atT (p.take k) t = some sub) (hi : p[k]? = some i) (hn : i < 0 ∨ sub.kids[i.toNat]? = none) : atT p t = none := by
 have e : p = p.take k ++ i :: p.drop (k + 1) := by
  obtain ⟨h1, rfl⟩ := List.getElem?_eq_some_iff.1 hi
  rw [List.getElem_cons_drop, List.take_append_drop]
 rw [e, atT_append, h]
 show atT (i :: p.drop (k + 1)) sub = none
 rw [atT]
 rcases hn with h | h
 · rw [if_neg (by omega)]
 · split
   · rw [h]
   · rfl

set_option maxRecDepth 100000 in
set_option maxHeartbeats 8000000 in
theorem PAt_any {w : World} {S Sp : Nat → Prop} {a pa : Option Addr} {cap pcap : Nat} {t : Tm} {p : List Int} (ht : sizeT t ≤ 900000) (hT : TmW w S a cap t) (hP : LsG elI w Sp (.slice pa p.length pcap) p) :
 Calls Try.prog 36 #[.agg #[.int .i64 t.kind, .string t.name, .int .i64 t.sort, .slice a t.kids.length cap], .slice pa p.length pcap] w fun e w' => ∃ v er, e = .returned (.tuple #[v, .int .i64 er]) ∧ Ext w w' ∧ atR w' (fun c => w.heap.size ≤ c) v er (atT p t) := by
 obtain ⟨-, hpl, hpc⟩ := hP.len
 unfold maxLen at hpc
 obtain ⟨bx, w1, hbbx, hwbx, HBbx, hEbx⟩ := box_new w (.cells #[.int .i64 t.kind, .string t.name, .int .i64 t.sort, .slice a t.kids.length cap] 31)
 obtain ⟨rx, hrx⟩ : ∃ zz9, zz9 = bx + 1 := ⟨_, rfl⟩
 obtain ⟨w2, hw2⟩ : ∃ zz9, zz9 = w1.alloc (.cells #[.int .i64 0, .string ⟨#[]⟩, .int .i64 0, .slice none 0 0] 31) := ⟨_, rfl⟩
 have hs1 : w1.heap.size = bx + 1 := by rw [hwbx, hbbx, World.size_alloc]
 have hE2 : Ext w1 w2 := by rw [hw2]; exact Ext.alloc _ _
 have HB2 : Hid (w2.heap[rx]? = some (.cells #[.int .i64 0, .string ⟨#[]⟩, .int .i64 0, .slice none 0 0] 31)) := Lib.hid (by rw [hw2, hrx, ← hs1]; exact hs_new)
 have HB1 := Lib.hid (hs_ext hE2 HBbx.out)
 have HE2 := Lib.hid (hEbx.trans hE2)
 have HNB : Hid (w.heap.size ≤ bx ∧ rx = bx + 1) := Lib.hid ⟨by omega, hrx⟩
 have HT := Lib.hid hT
 have HP := Lib.hid hP
 have HZ := Lib.hid ht
 obtain ⟨R, hR⟩ : ∃ R, R = atT p t := ⟨_, rfl⟩
 rw [← hR]
 have HR := Lib.hid hR
 clear hT hP hEbx hE2 hs1 ht hR
 go_enter Try.func36, Try.ntmps36
 go_upto_region 1 with fail
 rw [← hwbx, ← hbbx, ← hw2, ← hrx]
 clear hwbx hbbx hw2 hrx
 go_wp2_with fail
 go_loopw [7, 10] (fun _ kv wr => Hid (∃ (k : Nat) (sub : Tm) (a' : Option Addr) (cap' : Nat), kv = .int .i64 k ∧ k ≤ p.length ∧ atT (p.take k) t = some sub ∧ TmW w S a' cap' sub ∧ wr.heap[bx]? = some (.cells #[.int .i64 sub.kind, .string sub.name, .int .i64 sub.sort, .slice a' sub.kids.length cap'] 31) ∧ wr.heap[rx]? = some (.cells #[.int .i64 0, .string ⟨#[]⟩, .int .i64 0, .slice none 0 0] 31) ∧ Ext w wr)) (fun _ kv _ => p.length - (intOf kv).toNat)
 case atStart => exact Lib.hid ⟨0, t, a, cap, rfl, by omega, rfl, HT.out, HB1.out, HB2.out, HE2.out⟩
 case round =>
  obtain ⟨k, sub, a', cap', rfl, hk, hat, hTs, hb, hr, hE⟩ := hrel.out
  have HAT := Lib.hid hat
  have HTS := Lib.hid hTs
  have HBS := Lib.hid hb
  have HBR := Lib.hid hr
  have HE := Lib.hid hE
  have hsl := hTs.len
  have hsc := hTs.cap
  unfold maxLen at hsc
  obtain ⟨b0, b1, b2, b3⟩ := box4r (HBS.out)
  clear hrel hat hTs hb hr hE
  by_cases hlt : k < p.length
  · obtain ⟨i, hi⟩ : ∃ i, p[k]? = some i := ⟨_, List.getElem?_eq_getElem hlt⟩
    obtain ⟨pb, po, rfl, p0, hi64⟩ := (HP.out.ext HE.out).iAt hi
    have hi1 := hi64.1
    have hi2 := hi64.2
    have HI := Lib.hid hi
    clear hi hi64
    by_cases hin : 0 ≤ i ∧ i < sub.kids.length
    · obtain ⟨j, rfl⟩ : ∃ j : Nat, i = j := ⟨i.toNat, by omega⟩
      obtain ⟨x, hx⟩ : ∃ x, sub.kids[j]? = some x := ⟨_, List.getElem?_eq_getElem (by omega)⟩
      obtain ⟨xb, xo, xa, xc, rfl, x0, x1, x2, x3, hTx⟩ := HTS.out.ts.at hx
      have x0 := cs_ext HE.out x0
      have x1 := cs_ext HE.out x1
      have x2 := cs_ext HE.out x2
      have x3 := cs_ext HE.out x3
      have hat2 : atT (p.take (k + 1)) t = some x := by
       rw [List.take_add_one, HI.out]
       exact atT_snoc HAT.out (by omega) (by simpa using hx)
      have HAT2 := Lib.hid hat2
      have HTX := Lib.hid hTx
      have hj1 : (j : Int) < (sub.kids.length : Int) := by omega
      have hj2 : ¬ ((j : Int) < 0) := by omega
      have hj3 : ¬ ((sub.kids.length : Int) ≤ (j : Int)) := by omega
      have hj4 : (0 : Int) ≤ (j : Int) := by omega
      clear hx hTx hat2 hin
      go_wp2_with (
       refine wpList_storeT rfl (.tmp 2) (.tmp 28) rfl (g := bx) rfl (k := x.kind) (s := x.sort) (n := x.name) (ka := xa) (kl := x.kids.length) (kc := xc) rfl HBS.out rfl ?_
       intro w6 c6 q6 e6 z6
       have HG6 := Lib.hid c6
       have HE6 := Lib.hid (e6 w HE.out HNB.out.1)
       have HR6 : Hid (w6.heap[rx]? = some (.cells #[.int .i64 0, .string ⟨#[]⟩, .int .i64 0, .slice none 0 0] 31)) := Lib.hid (by rw [q6 rx (by have := HNB.out.2; omega)]; exact HBR.out)
       clear c6 q6 e6 z6)
      go_roundw
      case rel => exact Lib.hid ⟨k + 1, x, xa, xc, by go_num, by omega, HAT2.out, HTX.out, HG6.out, HR6.out, HE6.out⟩
      case measure => simp [intOf]; omega
    · have HRN : Hid (R = none) := Lib.hid (by
       rw [HR.out]
       refine atT_stop HAT.out HI.out ?_
       rcases (by omega : i < 0 ∨ (sub.kids.length : Int) ≤ i) with h | h
       · exact .inl h
       · exact .inr (List.getElem?_eq_none (by omega)))
      have r0 : wr.cell? ⟨rx, 0, none⟩ = some (.int .i64 0) := by rw [cellc HBR.out]; rfl
      by_cases h0 : i < 0
      · skip
        go_wp2_with (first
         | (refine wpList_buildT rfl [] rfl [] rfl built_none ?_)
         | (refine wpList_storeT rfl (.tmp 4) (.tmp 23) rfl (g := rx) rfl (k := 0) (s := 0) (n := ⟨#[]⟩) (ka := none) (kl := 0) (kc := 0) rfl HBR.out rfl ?_
            intro w6 c6 q6 e6 z6
            have HG6 := Lib.hid c6
            have HE6 := Lib.hid (e6 w HE.out (by have := HNB.out; omega))
            clear c6 q6 e6 z6))
        exact ret_term2 (g := rx) rfl rfl HG6.out rfl ⟨_, _, rfl, HE6.out, .inr ⟨HRN.out, rfl, rfl⟩⟩
      · have h1 : (sub.kids.length : Int) ≤ i := by omega
        go_wp2_with (first
         | (refine wpList_buildT rfl [] rfl [] rfl built_none ?_)
         | (refine wpList_storeT rfl (.tmp 4) (.tmp 23) rfl (g := rx) rfl (k := 0) (s := 0) (n := ⟨#[]⟩) (ka := none) (kl := 0) (kc := 0) rfl HBR.out rfl ?_
            intro w6 c6 q6 e6 z6
            have HG6 := Lib.hid c6
            have HE6 := Lib.hid (e6 w HE.out (by have := HNB.out; omega))
            clear c6 q6 e6 z6))
        exact ret_term2 (g := rx) rfl rfl HG6.out rfl ⟨_, _, rfl, HE6.out, .inr ⟨HRN.out, rfl, rfl⟩⟩
  · have HRS : Hid (R = some sub) := Lib.hid (by have h := HAT.out; rw [List.take_of_length_le (by omega)] at h; rw [HR.out, h])
    have hsz := atT_size _ _ _ HAT.out
    have HCL := Lib.hid (clone_any 1000000 wr S a' cap' sub (by have := HZ.out; omega) (by omega) (HTS.out.ext HE.out))
    clear hsz
    go_wp2_with fail
    refine HCL.out.mono ?_
    rintro e w5 ⟨u, rfl, hE5, ua, uc, rfl, hT5⟩
    have HB5 := Lib.hid (hs_ext hE5 HBR.out)
    have HE5 := Lib.hid (HE.out.trans hE5)
    have HRS5 : Hid (rx < wr.heap.size) := Lib.hid (lt_of_get' HBR.out)
    have HT5 := Lib.hid hT5
    clear hE5 hT5
    go_wp2_with (
     refine wpList_storeT rfl (.tmp 4) (.tmp 31) rfl (g := rx) rfl (k := sub.kind) (s := sub.sort) (n := sub.name) (ka := ua) (kl := sub.kids.length) (kc := uc) rfl HB5.out rfl ?_
     intro w6 c6 q6 e6 z6
     have HG6 := Lib.hid c6
     have HE6 := Lib.hid (e6 w HE5.out (by have := HNB.out; omega))
     have HT6 : Hid (TmW w6 (fun c => w.heap.size ≤ c) ua uc sub) := Lib.hid (HT5.out.keep (fun c hc _ => q6 c (by have := HRS5.out; omega)) (fun c hc _ => Nat.le_trans HE.out.size hc))
     clear c6 q6 e6 z6)
    exact ret_term2 (g := rx) rfl rfl HG6.out rfl ⟨_, _, rfl, HE6.out, .inl ⟨sub, HRS.out, rfl, ua, uc, rfl, HT6.out⟩⟩

theorem repT_stop {p : List Int} {t sub u : Tm} {k : Nat} {i : Int} (h : atT (p.take k) t = some sub) (hi : p[k]? = some i) (hn : i < 0 ∨ sub.kids[i.toNat]? = none) : repT p t u = none := by
 have e : p = p.take k ++ i :: p.drop (k + 1) := by
  obtain ⟨h1, rfl⟩ := List.getElem?_eq_some_iff.1 hi
  rw [List.getElem_cons_drop, List.take_append_drop]
 rw [e]
 exact repT_none _ _ t sub u i h hn

set_option maxRecDepth 100000 in
set_option maxHeartbeats 8000000 in
theorem PReplace_any {w : World} {S Sp S' : Nat → Prop} {a pa a' : Option Addr} {cap pcap cap' : Nat} {t u : Tm} {p : List Int} (ht : sizeT t ≤ 900000) (hu : sizeT u ≤ 900000) (hT : TmW w S a cap t) (hP : LsG elI w Sp (.slice pa p.length pcap) p) (hT' : TmW w S' a' cap' u) :
 Calls Try.prog 56 #[.agg #[.int .i64 t.kind, .string t.name, .int .i64 t.sort, .slice a t.kids.length cap], .slice pa p.length pcap, .agg #[.int .i64 u.kind, .string u.name, .int .i64 u.sort, .slice a' u.kids.length cap']] w fun e w' => ∃ v er, e = .returned (.tuple #[v, .int .i64 er]) ∧ Ext w w' ∧ atR w' (fun c => w.heap.size ≤ c) v er (repT p t u) := by
 obtain ⟨-, hpl, hpc⟩ := hP.len
 unfold maxLen at hpc
 obtain ⟨bx, w1, hbbx, hwbx, HBbx, hEbx⟩ := box_new w (.cells #[.int .i64 t.kind, .string t.name, .int .i64 t.sort, .slice a t.kids.length cap] 31)
 obtain ⟨ux, w1b, hbux, hwux, HBux, hEux⟩ := box_new w1 (.cells #[.int .i64 u.kind, .string u.name, .int .i64 u.sort, .slice a' u.kids.length cap'] 31)
 have hs1 : w1.heap.size = bx + 1 := by rw [hwbx, hbbx, World.size_alloc]
 have hs1b : w1b.heap.size = bx + 2 := by rw [hwux, World.size_alloc, hs1]
 rw [hs1] at hbux
 obtain ⟨rx, hrx⟩ : ∃ zz9, zz9 = ux + 1 := ⟨_, rfl⟩
 obtain ⟨w2, hw2⟩ : ∃ zz9, zz9 = w1b.alloc (.cells #[.int .i64 0, .string ⟨#[]⟩, .int .i64 0, .slice none 0 0] 31) := ⟨_, rfl⟩
 have hE2 : Ext w1b w2 := by rw [hw2]; exact Ext.alloc _ _
 have HBR : Hid (w2.heap[rx]? = some (.cells #[.int .i64 0, .string ⟨#[]⟩, .int .i64 0, .slice none 0 0] 31)) := Lib.hid (by rw [hw2, hrx, hbux, show bx + 1 + 1 = bx + 2 from rfl, ← hs1b]; exact hs_new)
 have HBU := Lib.hid (hs_ext hE2 HBux.out)
 have hEa := (hEbx.trans hEux).trans hE2
 obtain ⟨b0, b1, b2, b3⟩ := box4r (hs_ext (hEux.trans hE2) HBbx.out)
 have HE2 := Lib.hid hEa
 have HNB : Hid (w.heap.size ≤ bx ∧ ux = bx + 1 ∧ rx = bx + 2 ∧ w2.heap.size = bx + 3) := Lib.hid ⟨by omega, hbux, by omega, by rw [hw2, World.size_alloc, hs1b]⟩
 have HT' := Lib.hid (hT'.ext hEa)
 have HP := Lib.hid (hP.ext hEa)
 have HZ := Lib.hid (And.intro ht hu)
 have HCL := Lib.hid (clone_sep 1000000 w2 S a cap t (by omega) (by omega) (hT.ext hEa))
 obtain ⟨R, hR⟩ : ∃ R, R = repT p t u := ⟨_, rfl⟩
 rw [← hR]
 have HR := Lib.hid hR
 clear hT hT' hP hEbx hEux hE2 hEa hs1 hs1b ht hu hR
 go_enter Try.func56, Try.ntmps56
 go_upto_region 1 with fail
 rw [← hwbx, ← hbbx, ← hwux, ← hbux, ← hw2, ← hrx]
 clear hwbx hbbx hwux hbux hw2 hrx
 go_wp2_with fail
 refine HCL.out.mono ?_
 rintro e w3 ⟨v3, rfl, hE3, oa, oc, rfl, hS3⟩
 have hs3 := hE3.size
 obtain ⟨rb, hrb⟩ : ∃ zz9, zz9 = w3.heap.size := ⟨_, rfl⟩
 obtain ⟨w4, hw4⟩ : ∃ zz9, zz9 = w3.alloc (.cells #[.int .i64 t.kind, .string t.name, .int .i64 t.sort, .slice oa t.kids.length oc] 31) := ⟨_, rfl⟩
 have hE4 : Ext w3 w4 := by rw [hw4]; exact Ext.alloc _ _
 have hb4 : w4.heap[rb]? = some (.cells #[.int .i64 t.kind, .string t.name, .int .i64 t.sort, .slice oa t.kids.length oc] 31) := by rw [hw4, hrb]; exact hs_new
 have hs4 : w4.heap.size = w3.heap.size + 1 := by rw [hw4, World.size_alloc]
 have HH : Hid (HoleI w4 (fun c => w.heap.size ≤ c ∧ c ≠ rx) rb t [] rb 0 w2.heap.size w3.heap.size oa oc t) := Lib.hid (HoleI.start hb4 (hS3.keep (fun c _ e2 => hE4.block e2)) (by omega) (fun c e1 e2 => by have := HNB.out; exact ⟨by omega, by omega⟩))
 have hEa := hE3.trans hE4
 have HB4 := Lib.hid hb4
 have HBR4 := Lib.hid (hs_ext hEa HBR.out)
 have HBU4 := Lib.hid (hs_ext hEa HBU.out)
 have HT4 := Lib.hid (HT'.out.ext hEa)
 have HP4 := Lib.hid (HP.out.ext hEa)
 have HE4 := Lib.hid (HE2.out.trans hEa)
 have HRB : Hid (rx < rb) := Lib.hid (by have := HNB.out; omega)
 clear hE3 hE4 hEa hb4 hS3 hs3 hs4 b0 b1 b2 b3
 go_upto_region 2 with fail
 rw [← hw4, ← hrb]
 clear hw4 hrb
 go_wp2_with fail
 go_loopw [9, 11, 16] (fun pv _ kv wr => Hid (∃ (k : Nat) (sub : Tm) (b o lo hi : Nat) (a'1 : Option Addr) (cap'1 : Nat), pv = .pointer (some ⟨b, o, none⟩) ∧ kv = .int .i64 k ∧ k ≤ p.length ∧ HoleI w4 (fun c => w.heap.size ≤ c ∧ c ≠ rx) rb t (p.take k) b o lo hi a'1 cap'1 sub ∧ wr = w4)) (fun _ _ kv _ => p.length - (intOf kv).toNat)
 case atStart => exact Lib.hid ⟨0, t, rb, 0, _, _, oa, oc, rfl, rfl, by omega, HH.out, rfl⟩
 case round =>
  obtain ⟨k, sub, b, o, lo, hi, a1, cap1, rfl, rfl, hk, hH, rfl⟩ := hrel.out
  have HH1 := Lib.hid hH
  have hsl := hH.sep.kind.2.2.2.1
  have hsc := hH.sep.kind.2.2.2.2
  unfold maxLen at hsc
  have s3 := hH.c3
  clear hrel hH
  by_cases hlt : k < p.length
  · obtain ⟨i, hi⟩ : ∃ i, p[k]? = some i := ⟨_, List.getElem?_eq_getElem hlt⟩
    obtain ⟨pb, po, rfl, p0, hi64⟩ := HP4.out.iAt hi
    have hi1 := hi64.1
    have hi2 := hi64.2
    have HI := Lib.hid hi
    clear hi hi64
    by_cases hin : 0 ≤ i ∧ i < sub.kids.length
    · obtain ⟨j, rfl⟩ : ∃ j : Nat, i = j := ⟨i.toNat, by omega⟩
      obtain ⟨x, hx⟩ : ∃ x, sub.kids[j]? = some x := ⟨_, List.getElem?_eq_getElem (by omega)⟩
      obtain ⟨ba, lo', hi', a2, cap2, rfl, hH2⟩ := HH1.out.step hx
      have htk : p.take (k + 1) = p.take k ++ [(j : Int)] := by rw [List.take_add_one, HI.out]; rfl
      rw [← htk] at hH2
      have HH2 := Lib.hid hH2
      have hj1 : (j : Int) < (sub.kids.length : Int) := by omega
      have hj2 : ¬ ((j : Int) < 0) := by omega
      have hj3 : ¬ ((sub.kids.length : Int) ≤ (j : Int)) := by omega
      have hj4 : (0 : Int) ≤ (j : Int) := by omega
      clear hx htk hH2 hin
      go_wp2_with fail
      go_roundw
      case rel => exact Lib.hid ⟨k + 1, x, ba, j * 4, lo', hi', a2, cap2, by simp, by go_num, by omega, HH2.out, by first | rfl | trivial⟩
      case measure => simp [intOf]; omega
    · have HRN : Hid (R = none) := Lib.hid (by
       rw [HR.out]
       refine repT_stop HH1.out.at_ HI.out ?_
       rcases (by omega : i < 0 ∨ (sub.kids.length : Int) ≤ i) with h | h
       · exact .inl h
       · exact .inr (List.getElem?_eq_none (by omega)))
      by_cases h0 : i < 0
      · skip
        go_wp2_with (first
         | (refine wpList_buildT rfl [] rfl [] rfl built_none ?_)
         | (refine wpList_storeT rfl (.tmp 6) (.tmp 31) rfl (g := rx) rfl (k := 0) (s := 0) (n := ⟨#[]⟩) (ka := none) (kl := 0) (kc := 0) rfl HBR4.out rfl ?_
            intro w6 c6 q6 e6 z6
            have HG6 := Lib.hid c6
            have HE6 := Lib.hid (e6 w HE4.out (by have := HNB.out; omega))
            clear c6 q6 e6 z6))
        exact ret_term2 (g := rx) rfl rfl HG6.out rfl ⟨_, _, rfl, HE6.out, .inr ⟨HRN.out, rfl, rfl⟩⟩
      · have h1 : (sub.kids.length : Int) ≤ i := by omega
        go_wp2_with (first
         | (refine wpList_buildT rfl [] rfl [] rfl built_none ?_)
         | (refine wpList_storeT rfl (.tmp 6) (.tmp 31) rfl (g := rx) rfl (k := 0) (s := 0) (n := ⟨#[]⟩) (ka := none) (kl := 0) (kc := 0) rfl HBR4.out rfl ?_
            intro w6 c6 q6 e6 z6
            have HG6 := Lib.hid c6
            have HE6 := Lib.hid (e6 w HE4.out (by have := HNB.out; omega))
            clear c6 q6 e6 z6))
        exact ret_term2 (g := rx) rfl rfl HG6.out rfl ⟨_, _, rfl, HE6.out, .inr ⟨HRN.out, rfl, rfl⟩⟩
  · have htk : p.take k = p := List.take_of_length_le (by omega)
    have HHF : Hid (HoleI wr (fun c => w.heap.size ≤ c ∧ c ≠ rx) rb t p b o lo hi a1 cap1 sub) := Lib.hid (by have h := HH1.out; rwa [htk] at h)
    have HBN : Hid (rx ≠ b) := Lib.hid (by
     rcases HH1.out.own with h | h
     · exact fun e => h.2 e.symm
     · have := HRB.out; omega)
    obtain ⟨u0, u1, u2, u3⟩ := box4r (HBU4.out)
    have HCU := Lib.hid (clone_any 1000000 wr S' a' cap' u (by have := HZ.out; omega) (by omega) HT4.out)
    clear htk s3
    go_wp2_with fail
    refine HCU.out.mono ?_
    rintro e w5 ⟨v5, rfl, hE5, ua, uc, rfl, hT5⟩
    have x0 := cs_ext hE5 HHF.out.c0
    have x1 := cs_ext hE5 HHF.out.c1
    have x2 := cs_ext hE5 HHF.out.c2
    have x3 := cs_ext hE5 HHF.out.c3
    obtain ⟨cur, hcur⟩ := HHF.out.blk
    have hcur5 := hs_ext hE5 hcur
    have f0 : w5.frozen? ⟨b, o, none⟩ = false := frozenc hcur5
    have f1 : w5.frozen? ⟨b, o + 1, none⟩ = false := frozenc hcur5
    have f2 : w5.frozen? ⟨b, o + 2, none⟩ = false := frozenc hcur5
    have f3 : w5.frozen? ⟨b, o + 3, none⟩ = false := frozenc hcur5
    obtain ⟨t', hr, hTA⟩ := HHF.out.fin hE5 hT5 (fun c hc => by have := HRB.out; have := lt_of_get' HB4.out; have := HE4.out.size; exact ⟨by omega, by omega⟩)
    obtain ⟨w6, hw6⟩ : ∃ zz9, zz9 = (((w5.setCell ⟨b, o, none⟩ (.int .i64 u.kind)).setCell ⟨b, o + 1, none⟩ (.string u.name)).setCell ⟨b, o + 2, none⟩ (.int .i64 u.sort)).setCell ⟨b, o + 3, none⟩ (.slice ua u.kids.length uc) := ⟨_, rfl⟩
    have hbw : w.heap.size ≤ b := by
     rcases HH1.out.own with h | h
     · exact h.1
     · have := HRB.out; have := HNB.out; omega
    have HE6 : Hid (Ext w w6) := Lib.hid (by rw [hw6]; exact ((((HE4.out.trans hE5).setCell hbw _).setCell hbw _).setCell hbw _).setCell hbw _)
    have HR6 : Hid (w6.heap[rx]? = some (.cells #[.int .i64 0, .string ⟨#[]⟩, .int .i64 0, .slice none 0 0] 31)) := Lib.hid (by
     rw [hw6, heap_setCell_other _ _ _ _ HBN.out, heap_setCell_other _ _ _ _ HBN.out, heap_setCell_other _ _ _ _ HBN.out, heap_setCell_other _ _ _ _ HBN.out]
     exact hs_ext hE5 HBR4.out)
    rw [← hw6] at hTA
    obtain ⟨ra, rc, y0, y1, y2, y3, hTr⟩ := hTA.open
    simp only [Nat.zero_add] at y1 y2 y3
    have HRR : Hid (R = some t') := Lib.hid (by rw [HR.out, hr])
    have HTR := Lib.hid hTr
    clear hE5 hT5 hcur hcur5 hTA hbw hr hTr
    go_upto_region 11 with fail
    rw [← hw6]
    clear hw6 x0 x1 x2 x3 f0 f1 f2 f3
    go_wp2_with (
     refine wpList_storeT rfl (.tmp 6) (.tmp 43) rfl (g := rx) rfl (k := t'.kind) (s := t'.sort) (n := t'.name) (ka := ra) (kl := t'.kids.length) (kc := rc) rfl HR6.out rfl ?_
     intro w7 c7 q7 e7 z7
     have HG7 := Lib.hid c7
     have HE7 := Lib.hid (e7 w HE6.out (by have := HNB.out; omega))
     have HT7 : Hid (TmW w7 (fun c => w.heap.size ≤ c) ra rc t') := Lib.hid (HTR.out.keep (fun c hc _ => q7 c hc.2) (fun c hc _ => hc.1))
     clear c7 q7 e7 z7)
    exact ret_term2 (g := rx) rfl rfl HG7.out rfl ⟨_, _, rfl, HE7.out, .inl ⟨t', HRR.out, rfl, ra, rc, rfl, HT7.out⟩⟩

theorem own_made {α : Type} {E : Elm α} {w : World} {base : Nat} {T : TypeId} {S : Nat → Prop} (hb : base ≤ w.heap.size) : OwnG E (w.alloc (.cells #[] T)) base T S (.slice (some ⟨w.heap.size, 0, none⟩) 0 0) ([] : List α) :=
 ⟨[], rfl, by simp, ⟨by simp, .inr ⟨w.heap.size, 0, #[], rfl, hb, hs_new, Nat.le_refl _, by unfold maxLen; omega, by simp, by simp⟩⟩⟩
theorem elI_wide {w w' : World} {S S' : Nat → Prop} {C : List Int} {v : Value} {base : Nat} (h : OwnG elI w base 3 S v C) : OwnG elI w base 3 S' v C :=
 let ⟨P, e1, e2, e3⟩ := h
 ⟨P, e1, fun p hp => e2 p hp, e3⟩

set_option maxRecDepth 100000 in
set_option maxHeartbeats 1000000 in
theorem iClone_own {w : World} {Sq : Nat → Prop} {a : Option Addr} {cap : Nat} {C : List Int} (hll : C.length ≤ 1000000) (hC : LsG elI w Sq (.slice a C.length cap) C) :
 Calls Try.prog 52 #[.slice a C.length cap] w fun e w' => ∃ u, e = .returned u ∧ Ext w w' ∧ OwnG elI w' w.heap.size 3 (fun _ => True) u C := by
 have q45 : ∀ (w : World) (a : Option Addr) (n c n' c' : Nat), (binOp .eql 43 (.slice a n c) (.slice none n' c')).run Try.prog w = .ok (.bool a.isNone) w := fun w a n c n' c' => Lib.run_eql_slice_nil w _ _ a n c n' c' Try.underlying43
 cases a with
 | none =>
   have hC0 : C = [] := by
    cases C with
    | nil => rfl
    | cons x L => obtain ⟨b, off, e, -⟩ := hC.iAt (i := 0) (x := x) rfl; cases e
   subst hC0
   go_enter Try.func52, Try.ntmps52
   go_wp2
   go_ret
   exact ⟨_, rfl, Ext.refl _, OwnG.nil⟩
 | some ad =>
   have hsz : w.heap.size ≤ (w.alloc (.cells #[] 3)).heap.size := by simp
   have hO0 : OwnG elI (w.alloc (.cells #[] 3)) w.heap.size 3 (fun c => c < w.heap.size) (.slice (some ⟨w.heap.size, 0, none⟩) 0 0) [] := own_made (Nat.le_refl _)
   have hC0 := (hC.below.ext (Ext.alloc w (.cells #[] 3))).e
   have hoff : ∀ c, c < w.heap.size → (Value.slice (some ⟨w.heap.size, 0, none⟩) 0 0).ownBlock ≠ some c := fun c hc e => by
    have := Option.some.inj (show some w.heap.size = some c from e); omega
   have HE0 : Hid (Ext w (w.alloc (.cells #[] 3))) := Lib.hid (Ext.alloc w _)
   clear hC
   go_enter Try.func52, Try.ntmps52
   go_wp2_with (
    at_builtin
    refine wpList_appG (E := elI) (T := 3) rfl 43 (.tmp 5) (.tmp 6) rfl rfl rfl Try.underlying43 infInt rfl (by decide) (by decide) hO0 hsz hoff (by simp) (M := C) hll hC0 ?_
    intro v5 w5 o5 g5 k5
    have HO5 := Lib.hid o5
    have HE5 : Hid (Ext w w5) := Lib.hid (HE0.out.grown g5 (fun q hq => by cases hq; exact Nat.le_refl _))
    clear o5 g5 hO0 hC0)
   go_ret
   exact ⟨_, rfl, HE5.out, by have h := HO5.out; rw [List.nil_append] at h; exact elI_wide (w' := w) h⟩

/-- the positions under way -/
structure PosI (w0 wr : World) (ob vb : Nat) (v : Value) (L : List (List Int)) : Prop where
 ext : Ext w0 wr
 oc : wr.heap[ob]? = some (.cells #[v] 68)
 vc : wr.heap[vb]? = some (.cells #[.func (.func 51) #[] #[.pointer (some ⟨ob, 0, none⟩), .pointer (some ⟨vb, 0, none⟩)]] 85)
 own : OwnG (elL elI) wr (vb + 1) 43 (fun c => vb + 1 ≤ c ∧ v.ownBlock ≠ some c) v L
theorem PosI.next {w0 wr w' : World} {ob vb : Nat} {v : Value} {L : List (List Int)} (h : PosI w0 wr ob vb v L) (hE : Ext wr w') : PosI w0 w' ob vb v L := ⟨h.ext.trans hE, hs_ext hE h.oc, hs_ext hE h.vc, h.own.ext hE⟩
theorem PosI.put {w0 wr w' : World} {ob vb : Nat} {v v' : Value} {L L' : List (List Int)} (h : PosI w0 wr ob vb v L) (hw : w0.heap.size ≤ ob) (hov : ob < vb) (hO : OwnG (elL elI) w' (vb + 1) 43 (fun c => (vb + 1 ≤ c ∧ v.ownBlock ≠ some c) ∧ c < wr.heap.size) v' L') (hg : wr.grownBy w' v.ownBlock) (hat : v'.ownBlock = v.ownBlock ∨ v'.ownBlock = some wr.heap.size) :
 PosI w0 (w'.setCell ⟨ob, 0, none⟩ v') ob vb v' L' := by
 have hk := h.own.lt
 have hk' := hO.lt
 have n1 := lt_of_get' h.oc
 have n2 := lt_of_get' h.vc
 have b1 : w'.heap[ob]? = some (.cells #[v] 68) := by rw [hg.block ob n1 (fun e => by have := (hk ob e.symm).1; omega)]; exact h.oc
 have hE : Ext w0 w' := h.ext.grown hg (fun c hc => by have := (hk c hc).1; omega)
 refine ⟨hE.setCell hw v', ?_, ?_, ?_⟩
 · rw [heap_setCell_same w' ob 0 _ _ v' b1]; simp
 · rw [heap_setCell_other _ _ _ _ (by show vb ≠ ob; omega), hg.block vb n2 (fun e => by have := (hk vb e.symm).1; omega)]; exact h.vc
 · refine (hO.keep (w' := w'.setCell ⟨ob, 0, none⟩ v') (S' := fun c => (vb + 1 ≤ c ∧ v.ownBlock ≠ some c) ∧ c < wr.heap.size) (fun c hc => heap_setCell_other _ _ _ _ (by have := (hk' c hc).1; show c ≠ ob; omega)) (fun c hc _ => heap_setCell_other _ _ _ _ (by show c ≠ ob; omega)) (fun _ h _ => h)).wide (fun c hc _ => ⟨hc.1.1, fun e => ?_⟩)
   rcases hat with h1 | h1
   · exact hc.1.2 (by rw [← h1]; exact e)
   · rw [h1] at e
     simp only [Option.some.injEq] at e
     omega

end Go.Proofs.Ytpfnlbaloaohgaa
