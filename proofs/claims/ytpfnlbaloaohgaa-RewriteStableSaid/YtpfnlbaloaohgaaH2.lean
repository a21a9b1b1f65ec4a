/- A store into a row of our own; a struct's row as a value. Contracts: the variables of a term, the program's. Contracts: the variables of a term, the program's, whole. Contracts: terms in order, each once; the variables. -/
import Derived.Test.YtpfnlbaloaohgaaH1
import Derived.Test.YtpfnlbaloaohgaaG9
namespace Go.Proofs.Ytpfnlbaloaohgaa
open Go Go.RowKit
set_option linter.unusedVariables false
set_option linter.unusedSimpArgs false

section
variable {α : Type} {E : Elm α} {w w' : World} {S S' : Nat → Prop} {v : Value} {L M : List α} {base : Nat} {T : TypeId}
theorem flatP_set {n : Nat} : ∀ (P : List (α × List Value)) (k : Nat) (p old : α × List Value) (rest : List Value), (∀ q ∈ P, q.2.length = n) → p.2.length = n → P[k]? = some old →
 (P.flatMap (·.2) ++ rest).take (k * n) ++ p.2 ++ (P.flatMap (·.2) ++ rest).drop (k * n + n) = (P.set k p).flatMap (·.2) ++ rest
 | [], k, p, old, rest, _, _, h => by simp at h
 | q :: P, 0, p, old, rest, h, hp, hk => by
   have hq := h q (by simp)
   simp only [Nat.zero_mul, List.take_zero, List.nil_append, Nat.zero_add, List.set_cons_zero, List.flatMap_cons, List.append_assoc]
   rw [List.drop_append, List.drop_of_length_le (by omega), hq, Nat.sub_self, List.drop_zero, List.nil_append]
 | q :: P, k + 1, p, old, rest, h, hp, hk => by
   have hq := h q (by simp)
   have ih := flatP_set P k p old rest (fun r hr => h r (by simp [hr])) hp (by simpa using hk)
   rw [List.set_cons_succ, List.flatMap_cons, List.flatMap_cons, List.append_assoc q.2, List.append_assoc q.2, ← ih]
   have e1 : (k + 1) * n = n + k * n := by rw [Nat.add_mul]; omega
   rw [e1, List.take_append, List.drop_append, List.take_of_length_le (by omega), List.drop_of_length_le (by omega), hq, show n + k * n - n = k * n by omega, show n + k * n + n - n = k * n + n by omega]
   simp
theorem OwnG.store {P : Program} {g n cap k : Nat} {old x : α} {cs : List Value} {y : Value} (h : OwnG E w base T S (.slice (some ⟨g, 0, none⟩) n cap) L) (hk : L[k]? = some old) (hR : E.R w S x cs) (hS : ∀ c, S c → c ≠ g)
 (hT : (P.info? T).map (·.size) = some E.n) (hy : y.cells.toList = cs) :
 ∃ w', (storeVar T ⟨g, k * E.n, none⟩ y).run P w = .ok () w' ∧ OwnG E w' base T S (.slice (some ⟨g, 0, none⟩) n cap) (L.set k x) ∧ w.grownBy w' (some g) ∧ w'.heap.size = w.heap.size := by
 obtain ⟨Q, rfl, e2, h2⟩ := h
 rw [List.getElem?_map] at hk
 obtain ⟨p, hp, rfl⟩ := Option.map_eq_some_iff.1 hk
 have hQn : ∀ p ∈ Q, p.2.length = E.n := fun p hp => E.len (e2 p hp)
 have hlt := (List.getElem?_eq_some_iff.1 hp).1
 have hcl := E.len hR
 rcases h2.2 with ⟨h3, h4⟩ | ⟨g', cap', cur, hv, hb, hblk, hn, hc, hsz, htk⟩
 · cases h3
 cases hv
 have hfl := flatP_len Q hQn
 have hcur : cur.toList = Q.flatMap (·.2) ++ cur.toList.drop (Q.length * E.n) := by rw [← htk, List.take_append_drop]
 have hkn : k * E.n + E.n ≤ Q.length * E.n := by
  have := Nat.mul_le_mul_right E.n (show k + 1 ≤ Q.length by omega)
  rw [Nat.add_mul] at this
  omega
 have hQc : Q.length * E.n ≤ cap * E.n := Nat.mul_le_mul_right E.n hn
 have hr := run_storeCells_at (P := P) g (k * E.n) T cs 0 cur w hblk (by rw [hcl]; omega) (E.one hR)
 rw [Nat.add_zero, hcl] at hr
 have hset := flatP_set Q k (x, cs) p (cur.toList.drop (Q.length * E.n)) hQn hcl hp
 rw [← hcur] at hset
 rw [hset] at hr
 obtain ⟨i0, hi0, hi1⟩ : ∃ i, P.info? T = some i ∧ i.size = E.n := by
  cases hi : P.info? T with
  | none => rw [hi] at hT; cases hT
  | some i => rw [hi] at hT; exact ⟨i, rfl, by simpa using hT⟩
 have hcy : y.cells.size = E.n := by rw [← Array.length_toList, hy, hcl]
 refine ⟨w.setRow g ((Q.set k (x, cs)).flatMap (·.2) ++ cur.toList.drop (Q.length * E.n)).toArray, ?_, ⟨Q.set k (x, cs), by rw [List.map_set], fun q hq => ?_, ?_⟩, ⟨rfl, rfl, rfl, by simp, fun q _ hne => setRow_other w g q _ (fun e => hne (by rw [e]))⟩, by simp⟩
 · unfold storeVar
   rw [hy]
   simp [sizeOf, typeInfo, hi0, hi1, hcy, hr]
 · have : E.R w S q.1 q.2 := by
    rcases List.mem_or_eq_of_mem_set hq with h | h
    · exact e2 q h
    · rw [h]; exact hR
   exact E.keep this (fun c hc _ => setRow_other w g c _ (hS c hc)) (fun _ h _ => h)
 · have hl2 : ((Q.set k (x, cs)).flatMap (·.2)).length = Q.length * E.n := by
    rw [flatP_len (n := E.n) _ (fun q hq => by
     rcases List.mem_or_eq_of_mem_set hq with h | h
     · exact hQn q h
     · rw [h]; exact hcl), List.length_set]
   refine ⟨by rw [hl2, List.length_set], .inr ⟨g, cap, _, by simp, hb, setRow_heap w g _ _ _ _ hblk, by simpa using hn, hc, ?_, ?_⟩⟩
   · have h9 : cur.toList.length = cur.size := Array.length_toList
     simp only [List.size_toArray, List.length_append, hl2, List.length_drop]
     rw [h9, hsz]; omega
   · rw [List.length_set, ← hl2, List.take_left]
theorem wpList_storeOwn {P : Program} {ops : Array Oper} {rest : List Oper} {o : Oper} {a : Act} {Q : Exit → Act → World → Prop} (hgd : o.guard = none) (px y : Operand) (ho : o.op = .store T px y)
 {g n cap k : Nat} {old x : α} {cs : List Value} {q : Nat} (hx : a.eval px = .pointer (some ⟨g, q, none⟩)) (hq : q = k * E.n) {z : Value} (hyv : a.eval y = z)
 (h : OwnG E w base T S (.slice (some ⟨g, 0, none⟩) n cap) L) (hk : L[k]? = some old) (hR : E.R w S x cs) (hS : ∀ c, S c → c ≠ g) (hT : (P.info? T).map (·.size) = some E.n) (hy : z.cells.toList = cs)
 (hK : ∀ w', OwnG E w' base T S (.slice (some ⟨g, 0, none⟩) n cap) (L.set k x) → w.grownBy w' (some g) → w'.heap.size = w.heap.size → wpList P ops Q rest (a.put o.dst undef) w') :
 wpList P ops Q (o :: rest) a w := by
 refine wpList_plain hgd fun K hK' => ?_
 subst hq
 obtain ⟨w', hr, h1, h2, h3⟩ := OwnG.store h hk hR hS hT hy
 unfold Oper.wp execOp
 simp only [ho, hx, hyv, Instr.storeAt, Instr.sureAddr, Sem.run_bind, Sem.run_pure, Result.andThen_ok, hr]
 exact hK' _ _ (hK w' h1 h2 h3)
end
theorem OwnG.tt {w : World} {base : Nat} {S : Nat → Prop} {v : Value} {L : List Tm} (h : OwnG elT w base 31 S v L) : OwnT w base S v L := by
 obtain ⟨P, rfl, e2, h⟩ := h
 have key : ∀ P : List (Tm × List Value), (∀ p ∈ P, elT.R w S p.1 p.2) → ∃ E : List TE, E.map (·.t) = P.map (·.1) ∧ E.length = P.length ∧ E.flatMap encE = P.flatMap (·.2) ∧ ∀ e ∈ E, TmW w S e.a e.cap e.t := by
  intro P
  induction P with
  | nil => intro _; exact ⟨[], rfl, rfl, rfl, by simp⟩
  | cons p P ih =>
    intro h
    obtain ⟨E, h1, h2, h3, h4⟩ := ih (fun q hq => h q (by simp [hq]))
    obtain ⟨a, cap, e, hW⟩ := h p (by simp)
    refine ⟨⟨p.1, a, cap⟩ :: E, by simp [h1], by simp [h2], ?_, ?_⟩
    · rw [List.flatMap_cons, List.flatMap_cons, h3, e]
    · rintro x hx
      rcases List.mem_cons.1 hx with rfl | hx
      · exact hW
      · exact h4 x hx
 obtain ⟨E, h1, h2, h3, h4⟩ := key P e2
 exact ⟨E, h1, by rw [h2, h3]; exact h, h4⟩
theorem sizTT : (Try.prog.info? 31).map (·.size) = some elT.n := sizT

section
variable {w : World} {base : Nat} {S : Nat → Prop} {L : List Tm}
theorem wpList_storeTk {ops : Array Oper} {rest : List Oper} {o : Oper} {a : Act} {Q : Exit → Act → World → Prop} (hgd : o.guard = none) (px y : Operand) (ho : o.op = .store 31 px y)
 {g n cap k : Nat} {t : Tm} {ka : Option Addr} {kc : Nat} (hx : a.eval px = .pointer (some ⟨g, k * 4, none⟩)) (hy : a.eval y = .agg #[.int .i64 t.kind, .string t.name, .int .i64 t.sort, .slice ka t.kids.length kc])
 (h : OwnT w base S (.slice (some ⟨g, 0, none⟩) n cap) L) (hk : k < L.length) (hT : TmW w S ka kc t) (hS : ∀ c, S c → c ≠ g)
 (hK : ∀ w', OwnT w' base S (.slice (some ⟨g, 0, none⟩) n cap) (L.set k t) → w.grownBy w' (some g) → w'.heap.size = w.heap.size → wpList Try.prog ops Q rest (a.put o.dst undef) w') :
 wpList Try.prog ops Q (o :: rest) a w :=
 wpList_storeOwn (E := elT) (x := t) (cs := encE ⟨t, ka, kc⟩) (k := k) hgd px y ho hx rfl hy h.g (List.getElem?_eq_getElem hk) ⟨ka, kc, rfl, hT⟩ hS sizTT rfl (fun w' h1 h2 h3 => hK w' h1.tt h2 h3)
end

theorem list_set4 {l : List Value} {m : Nat} {a b c d : Value} (h : m + 4 ≤ l.length) : l.take m ++ [a, b, c, d] ++ l.drop (m + 4) = (((l.set m a).set (m + 1) b).set (m + 2) c).set (m + 3) d := by
 apply List.ext_getElem?
 intro i
 simp only [List.getElem?_set, List.length_set]
 by_cases h1 : i < m
 · rw [List.append_assoc, List.getElem?_append_left (by rw [List.length_take]; omega), List.getElem?_take, if_pos h1, if_neg (by omega), if_neg (by omega), if_neg (by omega), if_neg (by omega)]
 · by_cases h2 : i < m + 4
   · rw [List.append_assoc, List.getElem?_append_right (by rw [List.length_take]; omega), List.length_take, Nat.min_eq_left (by omega)]
     rcases (by omega : i = m ∨ i = m + 1 ∨ i = m + 2 ∨ i = m + 3) with rfl | rfl | rfl | rfl
     · rw [Nat.sub_self, if_neg (by omega), if_neg (by omega), if_neg (by omega), if_pos rfl, if_pos (by omega)]; rfl
     · rw [show m + 1 - m = 1 by omega, if_neg (by omega), if_neg (by omega), if_pos rfl, if_pos (by omega)]; rfl
     · rw [show m + 2 - m = 2 by omega, if_neg (by omega), if_pos rfl, if_pos (by omega)]; rfl
     · rw [show m + 3 - m = 3 by omega, if_pos rfl, if_pos (by omega)]; rfl
   · rw [List.getElem?_append_right (by simp; omega), List.getElem?_drop, if_neg (by omega), if_neg (by omega), if_neg (by omega), if_neg (by omega)]
     congr 1
     simp
     omega
theorem setCell_grown {w : World} {g o : Nat} {v : Value} {W : World} (h : W.grownBy w (some g)) : W.grownBy (w.setCell ⟨g, o, none⟩ v) (some g) :=
 ⟨h.os, h.tape, h.output, by simpa using h.size, fun q hq hne => (heap_setCell_other _ _ _ _ (fun e => hne (by rw [e]))).trans (h.block q hq hne)⟩
/-- a term written over an element of a row, cell by cell -/
theorem OwnT.set4 {w : World} {base : Nat} {S : Nat → Prop} {L : List Tm} {g n cap k : Nat} {t : Tm} {ka : Option Addr} {kc : Nat} (h : OwnT w base S (.slice (some ⟨g, 0, none⟩) n cap) L) (hk : k < L.length) (hT : TmW w S ka kc t) (hS : ∀ c, S c → c ≠ g) :
 OwnT ((((w.setCell ⟨g, k * 4, none⟩ (.int .i64 t.kind)).setCell ⟨g, k * 4 + 1, none⟩ (.string t.name)).setCell ⟨g, k * 4 + 2, none⟩ (.int .i64 t.sort)).setCell ⟨g, k * 4 + 3, none⟩ (.slice ka t.kids.length kc)) base S (.slice (some ⟨g, 0, none⟩) n cap) (L.set k t) ∧
  w.grownBy ((((w.setCell ⟨g, k * 4, none⟩ (.int .i64 t.kind)).setCell ⟨g, k * 4 + 1, none⟩ (.string t.name)).setCell ⟨g, k * 4 + 2, none⟩ (.int .i64 t.sort)).setCell ⟨g, k * 4 + 3, none⟩ (.slice ka t.kids.length kc)) (some g) := by
 have hoth : ∀ q, q ≠ g → ((((w.setCell ⟨g, k * 4, none⟩ (.int .i64 t.kind)).setCell ⟨g, k * 4 + 1, none⟩ (.string t.name)).setCell ⟨g, k * 4 + 2, none⟩ (.int .i64 t.sort)).setCell ⟨g, k * 4 + 3, none⟩ (.slice ka t.kids.length kc)).heap[q]? = w.heap[q]? := fun q hq => by
  rw [heap_setCell_other _ _ _ _ hq, heap_setCell_other _ _ _ _ hq, heap_setCell_other _ _ _ _ hq, heap_setCell_other _ _ _ _ hq]
 have hgr : w.grownBy ((((w.setCell ⟨g, k * 4, none⟩ (.int .i64 t.kind)).setCell ⟨g, k * 4 + 1, none⟩ (.string t.name)).setCell ⟨g, k * 4 + 2, none⟩ (.int .i64 t.sort)).setCell ⟨g, k * 4 + 3, none⟩ (.slice ka t.kids.length kc)) (some g) :=
  setCell_grown (setCell_grown (setCell_grown (setCell_grown (grown_self _ _))))
 refine ⟨?_, hgr⟩
 obtain ⟨E, rfl, h2, h3⟩ := h
 rw [List.length_map] at hk
 obtain ⟨old, hold⟩ : ∃ e, E[k]? = some e := ⟨_, List.getElem?_eq_getElem hk⟩
 rcases h2.2 with ⟨h4, -⟩ | ⟨g', cap', cur, hv, hb, hblk, hn, hc, hsz, htk⟩
 · cases h4
 cases hv
 have hfl := flatE_len encE_len E
 have hcl : cur.toList.length = cur.size := Array.length_toList
 have hcur : cur.toList = E.flatMap encE ++ cur.toList.drop (E.length * 4) := by rw [← htk, List.take_append_drop]
 have hset := flat_set (k := k) (e := ⟨t, ka, kc⟩) (old := old) (rest := cur.toList.drop (E.length * 4)) hold
 rw [← hcur] at hset
 have h1 := heap_setCell_same w g (k * 4) _ _ (.int .i64 t.kind) hblk
 have h5 := heap_setCell_same _ g (k * 4 + 1) _ _ (.string t.name) h1
 have h6 := heap_setCell_same _ g (k * 4 + 2) _ _ (.int .i64 t.sort) h5
 have h7 := heap_setCell_same _ g (k * 4 + 3) _ _ (.slice ka t.kids.length kc) h6
 refine ⟨E.set k ⟨t, ka, kc⟩, by rw [List.map_set], ?_, fun e he => ?_⟩
 · refine ⟨flatE_len encE_len _, .inr ⟨g, cap, _, by simp, hb, h7, by simpa using hn, hc, by simp [hsz], ?_⟩⟩
   have e1 : ((((cur.setIfInBounds (k * 4) (.int .i64 t.kind)).setIfInBounds (k * 4 + 1) (.string t.name)).setIfInBounds (k * 4 + 2) (.int .i64 t.sort)).setIfInBounds (k * 4 + 3) (.slice ka t.kids.length kc)).toList = (E.set k ⟨t, ka, kc⟩).flatMap encE ++ cur.toList.drop (E.length * 4) := by
    rw [← hset]
    simp only [Array.toList_setIfInBounds, encE]
    rw [list_set4 (by omega)]
   rw [e1, ← flatE_len encE_len, List.take_left]
 · have : TmW w S e.a e.cap e.t := by
    rcases List.mem_or_eq_of_mem_set he with h | h
    · exact h3 e h
    · rw [h]; exact hT
   exact this.keep (fun c hc _ => hoth c (hS c hc)) (fun _ h _ => h)
/-- the cells of an element of a row -/
theorem OwnT.cells4 {w : World} {base : Nat} {S : Nat → Prop} {L : List Tm} {g n cap k : Nat} (h : OwnT w base S (.slice (some ⟨g, 0, none⟩) n cap) L) {t : Tm} (hk : L[k]? = some t) :
 ∃ a c, w.cell? ⟨g, k * 4, none⟩ = some (.int .i64 t.kind) ∧ w.cell? ⟨g, k * 4 + 1, none⟩ = some (.string t.name) ∧ w.cell? ⟨g, k * 4 + 2, none⟩ = some (.int .i64 t.sort) ∧ w.cell? ⟨g, k * 4 + 3, none⟩ = some (.slice a t.kids.length c) ∧ TmW w S a c t ∧ ∀ o, w.frozen? ⟨g, o, none⟩ = false := by
 obtain ⟨g', cg, cs, hv, hb, hlt, ⟨a, c, rfl, hW⟩, hcs⟩ := h.g.at hk
 cases hv
 obtain ⟨cur, hcur⟩ := h.g.block (g := g) rfl
 exact ⟨a, c, hcs 0 _ rfl, hcs 1 _ rfl, hcs 2 _ rfl, hcs 3 _ rfl, hW, fun o => frozenc hcur⟩

end Go.Proofs.Ytpfnlbaloaohgaa

namespace Go.Proofs.Ytpfnlbaloaohgaa
open Go Go.RowKit
set_option linter.unusedVariables false
set_option linter.unusedSimpArgs false

/-- the list under way: the block lb holds its row, the block kb the kind -/
structure KdI (w0 wr : World) (kb lb : Nat) (q : Int) (S : Nat → Prop) (v : Value) (L : List Tm) : Prop where
 ext : Ext w0 wr
 kc : wr.heap[kb]? = some (.cells #[.int .i64 q] 3)
 lc : wr.heap[lb]? = some (.cells #[v] 29)
 own : OwnT wr (lb + 1) S v L
section
variable {w0 wr w' : World} {kb lb : Nat} {q : Int} {S : Nat → Prop} {v v' : Value} {L L' : List Tm}
theorem KdI.next (h : KdI w0 wr kb lb q S v L) (hE : Ext wr w') : KdI w0 w' kb lb q S v L := ⟨h.ext.trans hE, hs_ext hE h.kc, hs_ext hE h.lc, h.own.ext hE⟩
/-- the row has grown: it is not stored yet -/
structure KdM (w0 wr : World) (kb lb : Nat) (q : Int) (S : Nat → Prop) (v v' : Value) (L : List Tm) : Prop where
 ext : Ext w0 wr
 kc : wr.heap[kb]? = some (.cells #[.int .i64 q] 3)
 lc : wr.heap[lb]? = some (.cells #[v] 29)
 own : OwnT wr (lb + 1) S v' L
theorem KdI.grow (h : KdI w0 wr kb lb q S v L) (hw : w0.heap.size ≤ lb) (hkl : kb < lb) (hO : OwnT w' (lb + 1) S v' L') (hg : wr.grownBy w' v.ownBlock) : KdM w0 w' kb lb q S v v' L' := by
 have hk := h.own.lt
 have n1 := lt_of_get' h.kc
 have n2 := lt_of_get' h.lc
 exact ⟨h.ext.grown hg (fun c hc => by have := (hk c hc).1; omega), by rw [hg.block kb n1 (fun e => by have := (hk kb e.symm).1; omega)]; exact h.kc, by rw [hg.block lb n2 (fun e => by have := (hk lb e.symm).1; omega)]; exact h.lc, hO⟩
theorem KdM.set (h : KdM w0 wr kb lb q S v v' L) (hw : w0.heap.size ≤ lb) (hkl : kb < lb) (hO : OwnT w' (lb + 1) S v' L') (hg : wr.grownBy w' v'.ownBlock) : KdM w0 w' kb lb q S v v' L' := by
 have hk := h.own.lt
 have n1 := lt_of_get' h.kc
 have n2 := lt_of_get' h.lc
 exact ⟨h.ext.grown hg (fun c hc => by have := (hk c hc).1; omega), by rw [hg.block kb n1 (fun e => by have := (hk kb e.symm).1; omega)]; exact h.kc, by rw [hg.block lb n2 (fun e => by have := (hk lb e.symm).1; omega)]; exact h.lc, hO⟩
theorem KdI.set (h : KdI w0 wr kb lb q S v L) (hw : w0.heap.size ≤ lb) (hkl : kb < lb) (hO : OwnT w' (lb + 1) S v L') (hg : wr.grownBy w' v.ownBlock) : KdI w0 w' kb lb q S v L' :=
 let h := h.grow hw hkl hO hg
 ⟨h.ext, h.kc, h.lc, h.own⟩
theorem KdM.put (h : KdM w0 wr kb lb q S v v' L) (hw : w0.heap.size ≤ lb) (hkl : kb < lb) (hS : ∀ c, S c → c < lb) : KdI w0 (wr.setCell ⟨lb, 0, none⟩ v') kb lb q S v' L := by
 have hk' := h.own.lt
 refine ⟨h.ext.setCell hw v', ?_, ?_, ?_⟩
 · rw [heap_setCell_other _ _ _ _ (by show kb ≠ lb; omega)]; exact h.kc
 · rw [heap_setCell_same wr lb 0 _ _ v' h.lc]; simp
 · exact h.own.keep (fun c hc => heap_setCell_other _ _ _ _ (by have := (hk' c hc).1; show c ≠ lb; omega)) (fun c hc _ => heap_setCell_other _ _ _ _ (by have := hS c hc; show c ≠ lb; omega))
end
/-- what a walk leaves alone -/
structure KdS (w w' : World) (lb : Nat) (v v' : Value) : Prop where
 kept : ∀ b, b < w.heap.size → b ≠ lb → v.ownBlock ≠ some b → w'.heap[b]? = w.heap[b]?
 own : ∀ b, v'.ownBlock = some b → v.ownBlock = some b ∨ w.heap.size ≤ b
 size : w.heap.size ≤ w'.heap.size
theorem KdS.of_ext {w w' : World} {lb : Nat} {v : Value} (h : Ext w w') : KdS w w' lb v v := ⟨fun b hb _ _ => h.block hb, fun b h => .inl h, h.size⟩
theorem KdS.trans {w w' w'' : World} {lb : Nat} {v v' v'' : Value} (h : KdS w w' lb v v') (k : KdS w' w'' lb v' v'') : KdS w w'' lb v v'' := by
 refine ⟨fun b h1 h2 h3 => ?_, fun b hb => ?_, Nat.le_trans h.size k.size⟩
 · rw [k.kept b (Nat.lt_of_lt_of_le h1 h.size) h2 (fun e => by
    rcases h.own b e with e | e
    · exact h3 e
    · omega), h.kept b h1 h2 h3]
 · rcases k.own b hb with e | e
   · exact h.own b e
   · exact .inr (Nat.le_trans h.size e)
theorem kds3 {w W w3 : World} {v v' : Value} {g : Nat} (h3 : W.grownBy w3 v.ownBlock) (h4 : v'.ownBlock = v.ownBlock ∨ v'.ownBlock = some W.heap.size) (hv : v'.ownBlock = some g) (hE : Ext w W) :
 w.heap.size ≤ w3.heap.size ∧ (v.ownBlock = some g ∨ w.heap.size ≤ g) ∧ ∀ b, b < w.heap.size → v.ownBlock ≠ some b → b ≠ g ∧ w3.heap[b]? = w.heap[b]? := by
 have e2 := h3.size
 have e3 := hE.size
 have e4 : v.ownBlock = some g ∨ w.heap.size ≤ g := by
  rcases h4 with e | e
  · exact .inl (by rw [← e, hv])
  · rw [hv] at e
    have := Option.some.inj e
    exact .inr (by omega)
 refine ⟨by omega, e4, fun b b1 b3 => ⟨fun e => ?_, ?_⟩⟩
 · subst e
   rcases e4 with e | e
   · exact b3 e
   · omega
 · rw [h3.block b (by omega) (fun e => b3 e.symm), hE.block b1]
def zeroTm : Tm := .mk 0 ⟨#[]⟩ 0 []
theorem zero_ls {w : World} {S : Nat → Prop} {fb : Nat} (h : w.heap[fb]? = some (.cells #[.int .i64 0, .string ⟨#[]⟩, .int .i64 0, .slice none 0 0] 31)) : LsT w S (.slice (some ⟨fb, 0, none⟩) 1 1) [zeroTm] :=
 one_ls (t := zeroTm) (a := none) (cap := 0) h (tm_nil (by unfold I64; omega) (by unfold I64; omega) (by unfold maxLen; decide))

set_option maxRecDepth 100000 in
set_option maxHeartbeats 4000000 in
theorem kd_any {w0 w : World} {kb lb : Nat} {q : Int} {S : Nat → Prop} {v : Value} {L : List Tm} {a : Option Addr} {cap : Nat} {t : Tm} (hI : KdI w0 w kb lb q S v L) (hw : w0.heap.size ≤ lb) (hkl : kb < lb) (hS : ∀ c, S c → c < lb) (hl6 : L.length ≤ 900000) (hT : TmW w S a cap t) :
 Calls Try.prog 63 #[.agg #[.int .i64 t.kind, .string t.name, .int .i64 t.sort, .slice a t.kids.length cap], .pointer (some ⟨kb, 0, none⟩), .pointer (some ⟨lb, 0, none⟩)] w fun e w' => e = .returned (.tuple #[]) ∧ ∃ v', KdI w0 w' kb lb q S v' (L ++ if t.kind = q then [t] else []) ∧ KdS w w' lb v v' := by
 obtain ⟨bx, w1, hbbx, hwbx, HBbx, hEbx⟩ := box_new w (.cells #[.int .i64 t.kind, .string t.name, .int .i64 t.sort, .slice a t.kids.length cap] 31)
 have hI1 := hI.next hEbx
 have HT1 := Lib.hid (hT.ext hEbx)
 have HEB := Lib.hid hEbx
 obtain ⟨oa, oc, hov, hol, hoc, -⟩ := id hI.own.ls
 subst hov
 unfold maxLen at hoc
 obtain ⟨b0, b1, b2, b3⟩ := box4r (HBbx.out)
 have k0 : w1.cell? ⟨kb, 0, none⟩ = some (.int .i64 q) := by rw [cellc hI1.kc]; rfl
 have l0 : w1.cell? ⟨lb, 0, none⟩ = some (.slice oa L.length oc) := by rw [cellc hI1.lc]; rfl
 have HI1 := Lib.hid hI1
 have HS := Lib.hid hS
 obtain ⟨R, hR⟩ : ∃ R, R = L ++ (if t.kind = q then [t] else []) := ⟨_, rfl⟩
 rw [← hR]
 have HR := Lib.hid hR
 clear hI hT hI1 hEbx hS hR
 go_enter Try.func63, Try.ntmps63
 go_upto_region 1 with fail
 rw [← hwbx, ← hbbx]
 clear hwbx hbbx
 by_cases he : t.kind = q
 · have e1 : (t.kind == q) = true := by simp [he]
   have HL : Hid (R = L ++ [t]) := Lib.hid (by rw [HR.out, if_pos he])
   clear he
   go_upto_region 2 with fail
   have b0z : (w1.alloc (.cells #[.int .i64 0, .string ⟨#[]⟩, .int .i64 0, .slice none 0 0] 31)).cell? _ = _ := cs_al b0
   have b1z : (w1.alloc (.cells #[.int .i64 0, .string ⟨#[]⟩, .int .i64 0, .slice none 0 0] 31)).cell? _ = _ := cs_al b1
   have b2z : (w1.alloc (.cells #[.int .i64 0, .string ⟨#[]⟩, .int .i64 0, .slice none 0 0] 31)).cell? _ = _ := cs_al b2
   have b3z : (w1.alloc (.cells #[.int .i64 0, .string ⟨#[]⟩, .int .i64 0, .slice none 0 0] 31)).cell? _ = _ := cs_al b3
   have l0z : (w1.alloc (.cells #[.int .i64 0, .string ⟨#[]⟩, .int .i64 0, .slice none 0 0] 31)).cell? _ = _ := cs_al l0
   have hlt1 : (L.length : Int) < (L.length : Int) + 1 := by omega
   have HLZ : Hid ((L ++ [zeroTm])[L.length]? = some zeroTm ∧ (L ++ [zeroTm]).length = L.length + 1 ∧ (L ++ [zeroTm]).set L.length t = L ++ [t]) := Lib.hid ⟨by simp, by simp, by simp⟩
   go_region_law (first
    | (refine step_appT rfl (.tmp 8) (.tmp 11) rfl rfl rfl (HI1.out.own.ext (by repeat (first | exact Ext.refl _ | exact Ext.alloc _ _ | apply Ext.then_dr | apply Ext.then_drN | apply Ext.then_drN2 | (refine Ext.then_al ?_ _)))) (Nat.le_trans (Nat.succ_le_of_lt (lt_of_get' HI1.out.lc)) (Ext.size (by repeat (first | exact Ext.refl _ | exact Ext.alloc _ _ | apply Ext.then_dr | apply Ext.then_drN | apply Ext.then_drN2 | (refine Ext.then_al ?_ _))))) (fun c hc e => by have := (HI1.out.own.lt c e).1; have := HS.out c hc; omega) (by omega) (X := [zeroTm]) (by simp) (zero_ls hs_new) ?_
       intro v' w3 h2 h3 h4
       obtain ⟨g, cg, csz, hv, hg1, hg2, -, -⟩ := h2.g.at HLZ.out.1
       rw [HLZ.out.2.1] at hv
       have hT3 : TmW w3 S a cap t := (HT1.out.ext (by repeat (first | exact Ext.refl _ | exact Ext.alloc _ _ | apply Ext.then_dr | apply Ext.then_drN | apply Ext.then_drN2 | (refine Ext.then_al ?_ _)))).keep (fun c hc hlt => h3.block c (by first | exact hlt | simpa using hlt) (fun e => by have := (HI1.out.own.lt c e.symm).1; have := HS.out c hc; omega)) (fun _ h _ => h)
       have HT3 := Lib.hid hT3
       have HA := Lib.hid (KdI.grow (HI1.out.next (by repeat (first | exact Ext.refl _ | exact Ext.alloc _ _ | apply Ext.then_dr | apply Ext.then_drN | apply Ext.then_drN2 | (refine Ext.then_al ?_ _)))) hw hkl h2 h3)
       have HG1 := Lib.hid hg1
       have HS3 := Lib.hid (kds3 (v := .slice oa L.length oc) (g := g) h3 h4 (by rw [hv]; rfl) (HEB.out.trans (by repeat (first | exact Ext.refl _ | exact Ext.alloc _ _ | apply Ext.then_dr | apply Ext.then_drN | apply Ext.then_drN2 | (refine Ext.then_al ?_ _)))))
       subst hv
       have lc := HA.out.lc
       have l3 : w3.cell? ⟨lb, 0, none⟩ = some (.slice oa L.length oc) := by rw [cellc lc]; rfl
       have f3 : w3.frozen? ⟨lb, 0, none⟩ = false := frozenc lc
       obtain ⟨za, zc, z0, z1, z2, z3, -, zf⟩ := HA.out.own.cells4 HLZ.out.1
       have zf0 := zf (L.length * 4)
       have zf1 := zf (L.length * 4 + 1)
       have zf2 := zf (L.length * 4 + 2)
       have zf3 := zf (L.length * 4 + 3)
       have hgl : g ≠ lb := by have := HG1.out; omega
       have hlg : lb ≠ g := by have := HG1.out; omega
       clear h2 h3 h4 lc hT3 hg1 hg2 zf))
   all_goals
    go_end0
    rw [HL.out]
    refine ⟨rfl, .slice (some ⟨g, 0, none⟩) (L.length + 1) cg, ?_, ⟨fun b b1 b2 b3 => ?_, fun b hb => ?_, ?_⟩⟩
    rotate_left
    · obtain ⟨b4, b5⟩ := HS3.out.2.2 b b1 b3
      first
       | rw [heap_setCell_other _ _ _ _ b2, heap_setCell_other _ _ _ _ b4, heap_setCell_other _ _ _ _ b4, heap_setCell_other _ _ _ _ b4, heap_setCell_other _ _ _ _ b4, b5]
       | rw [heap_setCell_other _ _ _ _ b4, heap_setCell_other _ _ _ _ b4, heap_setCell_other _ _ _ _ b4, heap_setCell_other _ _ _ _ b4, heap_setCell_other _ _ _ _ b2, b5]
    · obtain rfl : g = b := Option.some.inj (show some g = some b from hb)
      exact HS3.out.2.1
    · simpa using HS3.out.1
    have hne : ∀ c, S c → c ≠ g := fun c hc => by have := HS.out c hc; have := HG1.out; omega
    have hk1 : L.length < (L ++ [zeroTm]).length := by rw [HLZ.out.2.1]; omega
    first
     | (obtain ⟨o6, g6⟩ := HA.out.own.set4 hk1 HT3.out hne
        rw [HLZ.out.2.2] at o6
        have o7 := (HA.out.set hw hkl o6 g6).put hw hkl HS.out
        with_reducible exact o7)
     | (obtain ⟨o6, g6⟩ := (HA.out.put hw hkl HS.out).own.set4 hk1 (HT3.out.keep (fun c hc _ => heap_setCell_other _ _ _ _ (by have := HS.out c hc; show c ≠ lb; omega)) (fun _ h _ => h)) hne
        rw [HLZ.out.2.2] at o6
        have o7 := (HA.out.put hw hkl HS.out).set hw hkl o6 g6
        with_reducible exact o7)
 · have e1 : (t.kind == q) = false := by simp [he]
   have HL : Hid (R = L) := Lib.hid (by rw [HR.out, if_neg he, List.append_nil])
   clear he
   go_wp2_with fail
   go_end0
   rw [HL.out]
   exact ⟨rfl, _, HI1.out, KdS.of_ext HEB.out⟩

end Go.Proofs.Ytpfnlbaloaohgaa

namespace Go.Proofs.Ytpfnlbaloaohgaa
open Go Go.RowKit
set_option linter.unusedVariables false
set_option linter.unusedSimpArgs false

def kindL (k : Int) (l : List Tm) : List Tm := (allL l).filter (fun x => decide (x.kind = k))
theorem kindT_eq (k : Int) (t : Tm) : kindT k t = (if t.kind = k then [t] else []) ++ kindL k t.kids := by
 unfold kindT kindL
 rw [allT_kids, List.filter_cons]
 by_cases h : t.kind = k <;> simp [h]
theorem kindL_take {k : Int} {l : List Tm} {i : Nat} {x : Tm} (h : l[i]? = some x) : kindL k (l.take (i + 1)) = kindL k (l.take i) ++ kindT k x := by
 unfold kindL kindT
 rw [allL_take h, List.filter_append]
theorem kindL_len (k : Int) (l : List Tm) : (kindL k l).length ≤ sizeL l := by
 unfold kindL; rw [← allL_len]; exact List.length_filter_le _ _

set_option maxRecDepth 100000 in
set_option maxHeartbeats 4000000 in
theorem walkK_any {w0 : World} {kb lb : Nat} {q : Int} {S : Nat → Prop} (hw : w0.heap.size ≤ lb) (hkl : kb < lb) (hS : ∀ c, S c → c < w0.heap.size) (n : Nat) : ∀ (w : World) (v : Value) (L : List Tm) (a : Option Addr) (cap : Nat) (t : Tm), sizeT t ≤ n → L.length + sizeT t ≤ 900000 → KdI w0 w kb lb q S v L → TmW w0 S a cap t →
 Calls Try.prog 62 #[.agg #[.int .i64 t.kind, .string t.name, .int .i64 t.sort, .slice a t.kids.length cap], .func (.func 63) #[] #[.pointer (some ⟨kb, 0, none⟩), .pointer (some ⟨lb, 0, none⟩)]] w fun e w' => e = .returned (.tuple #[]) ∧ ∃ v', KdI w0 w' kb lb q S v' (L ++ kindT q t) ∧ KdS w w' lb v v' := by
 induction n with
 | zero => intro w v L a cap t hn; have := sizeT_kids t; omega
 | succ n ih =>
   intro w v L a cap t hn hn2 hI hT
   have hl := hT.len
   have hc := hT.cap
   unfold maxLen at hc
   obtain ⟨bx, w1, hbbx, hwbx, HBbx, hEbx⟩ := box_new w (.cells #[.int .i64 t.kind, .string t.name, .int .i64 t.sort, .slice a t.kids.length cap] 31)
   have hI1 := hI.next hEbx
   have hlt1 : lb < bx := by rw [hbbx]; exact lt_of_get' hI.lc
   have hown1 : ∀ c, v.ownBlock = some c → c < bx := fun c hc => by rw [hbbx]; exact (hI.own.lt c hc).2
   obtain ⟨b0, b1, b2, b3⟩ := box4r (HBbx.out)
   have hcon := kd_any hI1 hw hkl (fun c hc => Nat.lt_of_lt_of_le (hS c hc) hw) (by have := sizeT_kids t; omega) ((hT.ext hI.ext).ext hEbx)
   obtain ⟨R, hR⟩ : ∃ R, R = L ++ (if t.kind = q then [t] else []) := ⟨_, rfl⟩
   rw [← hR] at hcon
   obtain ⟨Z, hZ⟩ : ∃ Z, Z = L ++ kindT q t := ⟨_, rfl⟩
   rw [← hZ]
   have HZ : Hid (Z = R ++ kindL q t.kids) := Lib.hid (by rw [hZ, hR, kindT_eq, List.append_assoc])
   have HRL : Hid (R.length ≤ L.length + 1) := Lib.hid (by rw [hR]; split <;> simp)
   have HCON := Lib.hid hcon
   have HTW := Lib.hid hT
   have HLT := Lib.hid hlt1
   have HOW := Lib.hid hown1
   have HN := Lib.hid (And.intro hn hn2)
   have HK := Lib.hid (sizeT_kids t)
   have IH := Lib.hid ih
   have HE1 := Lib.hid hEbx
   clear hI hT hI1 hEbx hcon hR hZ hlt1 hown1 hn hn2 ih
   go_enter Try.func62, Try.ntmps62
   go_upto_region 1 with fail
   rw [← hwbx, ← hbbx]
   clear hwbx hbbx
   go_wp2_with (go_at_call 63; refine HCON.out.mono ?_; rintro e w2 ⟨rfl, v2, hI2, hS2⟩; have HI2 := Lib.hid hI2; have HS2 := Lib.hid hS2
                have hb2 : w2.heap[bx]? = some (.cells #[.int .i64 t.kind, .string t.name, .int .i64 t.sort, .slice a t.kids.length cap] 31) := by rw [hS2.kept bx (lt_of_get' HBbx.out) (by have := HLT.out; omega) (fun e => by have := HOW.out bx e; omega)]; exact HBbx.out
                have c3 : w2.cell? ⟨bx, 3, none⟩ = some (.slice a t.kids.length cap) := by rw [cellc hb2]; rfl
                clear hI2 hS2 hb2)
   go_loopw [12] (fun kv wr => Hid (∃ (k : Nat) (v3 : Value), kv = .int .i64 k ∧ k ≤ t.kids.length ∧ KdI w0 wr kb lb q S v3 (R ++ kindL q (t.kids.take k)) ∧ KdS w1 wr lb v v3)) (fun kv _ => t.kids.length - (intOf kv).toNat)
   case atStart => exact Lib.hid ⟨0, v2, rfl, by omega, by simp [kindL, allL]; exact HI2.out, HS2.out⟩
   case round =>
    obtain ⟨k, v3, rfl, hk, hI3, hS3⟩ := hrel.out
    have HI3 := Lib.hid hI3
    have HS3 := Lib.hid hS3
    clear hI3 hS3 hrel c3
    by_cases hlt : k < t.kids.length
    · obtain ⟨x, hx⟩ : ∃ x, t.kids[k]? = some x := ⟨_, List.getElem?_eq_getElem hlt⟩
      obtain ⟨xb, xo, xa, xc, hxa, x0, x1, x2, x3, hTx⟩ := (HTW.out.ext HI3.out.ext).ts.at hx
      obtain ⟨xb', xo', xa', xc', hxa', y0, y1, y2, y3, hTy⟩ := HTW.out.ts.at hx
      rw [hxa] at hxa'
      obtain ⟨rfl, rfl⟩ : xb = xb' ∧ xo = xo' := by cases hxa'; exact ⟨rfl, rfl⟩
      have y3' := cs_ext HI3.out.ext y3
      rw [x3] at y3'
      obtain ⟨rfl, rfl⟩ : xa = xa' ∧ xc = xc' := by cases y3'; exact ⟨rfl, rfl⟩
      have hsx := sizeL_get hx
      have hlen := kindL_len q (t.kids.take k)
      have hlen2 : sizeL (t.kids.take k) + sizeT x ≤ sizeL t.kids := by rw [← sizeL_take hx]; exact sizeL_take_le _ _
      have hcon := IH.out (wr.alloc (.cells #[.int .i64 x.kind, .string x.name, .int .i64 x.sort, .slice xa x.kids.length xc] 31)) v3 (R ++ kindL q (t.kids.take k)) xa xc x (by have := HK.out; have := HN.out; omega) (by rw [List.length_append]; have := HK.out; have := HN.out; have := HRL.out; omega) (HI3.out.next (Ext.alloc _ _)) hTy
      rw [List.append_assoc, ← kindL_take hx] at hcon
      have HCON2 := Lib.hid hcon
      subst hxa
      clear hx hsx hlen hlen2 hcon hTx hTy y0 y1 y2 y3 y3' hxa'
      go_wp2_with (go_at_call 62; refine HCON2.out.mono ?_; rintro e w5 ⟨rfl, v5, hI5, hS5⟩; have HI5 := Lib.hid hI5; have HS5 := Lib.hid ((HS3.out.trans (KdS.of_ext (Ext.alloc _ _))).trans hS5); clear hI5 hS5)
      go_roundw
      case rel => exact Lib.hid ⟨k + 1, v5, by go_num, by omega, HI5.out, HS5.out⟩
      case measure => simp [intOf]; omega
    · have HF : Hid (Z = R ++ kindL q (t.kids.take k)) := Lib.hid (by rw [HZ.out, List.take_of_length_le (by omega)])
      go_wp2_with fail
      go_end0
      exact ⟨rfl, v3, by rw [HF.out]; exact HI3.out, (KdS.of_ext HE1.out).trans HS3.out⟩

theorem OwnT.slice {w : World} {base : Nat} {S : Nat → Prop} {v : Value} {L : List Tm} (h : OwnT w base S v L) : ∃ a cap, v = .slice a L.length cap ∧ L.length ≤ cap ∧ cap ≤ maxLen := h.g.slice
/-- the copies under way -/
structure OrdI (w wr : World) (base : Nat) (v : Value) (L : List Tm) : Prop where
 own : OwnT wr base (fun c => v.ownBlock ≠ some c) v L
 grown : w.grownBy wr v.ownBlock
theorem OrdI.next {w wr w' : World} {base : Nat} {v : Value} {L : List Tm} (h : OrdI w wr base v L) (hE : Ext wr w') : OrdI w w' base v L := ⟨h.own.ext hE, grown_ext h.grown hE⟩

set_option maxRecDepth 100000 in
set_option maxHeartbeats 4000000 in
theorem ordered_any {w : World} {base : Nat} {S : Nat → Prop} {v : Value} {L : List Tm} (hO : OwnT w base S v L) (hS : ∀ c, S c → v.ownBlock ≠ some c) (hl : L.length ≤ 1000000) (hz : ∀ t ∈ L, sizeT t ≤ 1000000) :
 Calls Try.prog 64 #[v] w fun e w' => ∃ v', e = .returned v' ∧ v'.ownBlock = v.ownBlock ∧ OwnT w' base (fun c => v.ownBlock ≠ some c) v' (setS L) ∧ w.grownBy w' v.ownBlock := by
 have HS1 := Lib.hid (sort_any hO hS (by omega) hz)
 obtain ⟨a, cap, hv, -, hcm⟩ := hO.slice
 unfold maxLen at hcm
 have HSS := Lib.hid hS
 have HZ := Lib.hid hz
 subst hv
 clear hO hS hz
 go_enter Try.func64, Try.ntmps64
 go_wp2_with (go_at_call 80; refine HS1.out.mono ?_; rintro e w1 ⟨rfl, L1, hp1, hs1, hO1, hg1⟩
              have HC1 := Lib.hid (compact_own hO1 HSS.out (fun t ht => HZ.out t (hp1.mem_iff.1 ht)) hs1)
              have HP1 := Lib.hid hp1
              have HG1 := Lib.hid hg1
              clear hO1 hp1 hs1 hg1)
 go_wp2_with (go_at_call 81; refine HC1.out.mono ?_; rintro e w2 ⟨v2, L2, rfl, hA2, hm2, hO2, hb2, hg2⟩
              have hL2 : setS L = L2 := asc_eq (setS_asc L) hA2 (fun x => by rw [setS_mem, hm2, HP1.out.mem_iff])
              have HL2 := Lib.hid hL2
              have hI2 : OrdI w2 w2 base v2 L2 := ⟨hO2.wide (fun c hc _ => by rw [hb2]; exact HSS.out c hc), grown_self _ _⟩
              have HI2 := Lib.hid hI2
              have HB2 := Lib.hid hb2
              have HG2 := Lib.hid hg2
              have HZ2 : Hid (∀ t ∈ L2, sizeT t ≤ 1000000) := Lib.hid (fun t ht => HZ.out t (HP1.out.mem_iff.1 ((hm2 t).1 ht)))
              obtain ⟨a2, cap2, hv2, hlc2, hcm2⟩ := hO2.slice
              unfold maxLen at hcm2
              subst hv2
              clear hA2 hm2 hO2 hb2 hg2 hI2 hL2)
 go_wp2_with fail
 go_loopw [3, 10] (fun _ kv wr => Hid (∃ k : Nat, kv = .int .i64 k ∧ k ≤ L2.length ∧ OrdI w2 wr base (.slice a2 L2.length cap2) L2)) (fun _ kv _ => L2.length - (intOf kv).toNat)
 case atStart => exact Lib.hid ⟨0, rfl, by omega, HI2.out⟩
 case round =>
  obtain ⟨k, rfl, hk, hI3⟩ := hrel.out
  have HI3 := Lib.hid hI3
  clear hI3 hrel
  by_cases hlt : k < L2.length
  · obtain ⟨x, hx⟩ : ∃ x, L2[k]? = some x := ⟨_, List.getElem?_eq_getElem hlt⟩
    obtain ⟨g, cg, csz, hv, hg1, hg2, -, -⟩ := HI3.out.own.g.at hx
    obtain ⟨rfl, rfl⟩ : a2 = some ⟨g, 0, none⟩ ∧ cap2 = cg := by cases hv; exact ⟨rfl, rfl⟩
    obtain ⟨xa, xc, x0, x1, x2, x3, hTx, -⟩ := HI3.out.own.cells4 hx
    have HCL := Lib.hid (clone_any 1000000 wr _ xa xc x (HZ2.out x (List.mem_of_getElem? hx)) (by omega) hTx)
    have hset : L2.set k x = L2 := by
     obtain ⟨h1, rfl⟩ := List.getElem?_eq_some_iff.1 hx
     exact List.set_getElem_self h1
    have HSET := Lib.hid hset
    have HGS := Lib.hid hg2
    clear hx hv hTx hset hg1 hg2
    go_wp2_with (first
     | (go_at_call 53; refine HCL.out.mono ?_; rintro e w4 ⟨u, rfl, hE4, ua, uc, hu, hT4⟩
        have HI4 := Lib.hid (HI3.out.next hE4)
        have hT5 := hT4.wide (S' := fun c => (Value.slice (some ⟨g, 0, none⟩) L2.length cap2).ownBlock ≠ some c) (fun c hc _ e => by
         have e2 : g = c := Option.some.inj e
         have := HGS.out
         omega)
        have HT5 := Lib.hid hT5
        subst hu
        clear hE4 hT4 hT5)
     | (refine wpList_storeTk rfl _ _ rfl (k := k) rfl rfl HI4.out.own hlt HT5.out (fun c hc e => hc (by rw [e]; rfl)) ?_
        intro w6 o6 g6 s6
        rw [HSET.out] at o6
        have HI6 : Hid (OrdI w2 w6 base (.slice (some ⟨g, 0, none⟩) L2.length cap2) L2) := Lib.hid ⟨o6, grown_trans HI4.out.grown g6⟩
        clear o6 g6 s6))
    go_roundw
    case rel => exact Lib.hid ⟨k + 1, by go_num, by omega, HI6.out⟩
    case measure => simp [intOf]; omega
  · go_wp2_with fail
    go_ret
    refine ⟨_, rfl, HB2.out, by rw [HL2.out, ← HB2.out]; exact HI3.out.own, ?_⟩
    have h := HI3.out.grown
    rw [HB2.out] at h
    exact grown_trans (grown_trans HG1.out HG2.out) h

set_option maxRecDepth 100000 in
set_option maxHeartbeats 4000000 in
theorem ofKind_any {w : World} {S : Nat → Prop} {a : Option Addr} {cap : Nat} {t : Tm} {q : Int} (hn : sizeT t ≤ 900000) (hS : ∀ c, S c → c < w.heap.size) (hT : TmW w S a cap t) :
 Calls Try.prog 43 #[.agg #[.int .i64 t.kind, .string t.name, .int .i64 t.sort, .slice a t.kids.length cap], .int .i64 q] w fun e w' => ∃ v', e = .returned v' ∧ Ext w w' ∧ OwnT w' w.heap.size Any v' (setS (kindT q t)) := by
 have hmf : ∀ (fn : Fn) (first cap : Array Value) (w : World), (Instr.makeFunc fn first cap).run Try.prog w = .ok (.func fn first cap) w := fun _ _ _ _ => rfl
 obtain ⟨bx, w1, hbbx, hwbx, HBbx, hEbx⟩ := box_new w (.cells #[.int .i64 t.kind, .string t.name, .int .i64 t.sort, .slice a t.kids.length cap] 31)
 have hs1 : w1.heap.size = bx + 1 := by rw [hwbx, hbbx, World.size_alloc]
 obtain ⟨kb, hkb⟩ : ∃ x, x = bx + 1 := ⟨_, rfl⟩
 obtain ⟨w2, hw2⟩ : ∃ x, x = w1.alloc (.cells #[.int .i64 q] 3) := ⟨_, rfl⟩
 have hbk : w2.heap[kb]? = some (.cells #[.int .i64 q] 3) := by rw [hw2, hkb, ← hs1]; exact hs_new
 have hE2 : Ext w1 w2 := by rw [hw2]; exact Ext.alloc _ _
 have hs2 : w2.heap.size = kb + 1 := by rw [hw2, World.size_alloc, hs1, hkb]
 obtain ⟨lb, hlb⟩ : ∃ x, x = kb + 1 := ⟨_, rfl⟩
 obtain ⟨w3, hw3⟩ : ∃ x, x = w2.alloc (.cells #[.slice none 0 0] 29) := ⟨_, rfl⟩
 have hbl : w3.heap[lb]? = some (.cells #[.slice none 0 0] 29) := by rw [hw3, hlb, ← hs2]; exact hs_new
 have hE3 : Ext w2 w3 := by rw [hw3]; exact Ext.alloc _ _
 have hkl : kb < lb := by omega
 have hwl : w.heap.size ≤ lb := by rw [hlb, ← hs2]; exact (hEbx.trans hE2).size
 have hI : KdI w w3 kb lb q S (.slice none 0 0) [] := ⟨(hEbx.trans hE2).trans hE3, hs_ext hE3 hbk, hbl, OwnT.nil⟩
 obtain ⟨b0, b1, b2, b3⟩ := box4r (hs_ext (hE2.trans hE3) HBbx.out)
 have HCON := Lib.hid (walkK_any hwl hkl hS 900000 w3 (.slice none 0 0) [] a cap t hn (by simpa using hn) hI hT)
 have HKL := Lib.hid (And.intro hkl hwl)
 have HS := Lib.hid hS
 have HKD : Hid ((kindT q t).length ≤ 900000 ∧ ∀ y ∈ kindT q t, sizeT y ≤ 1000000) := Lib.hid ⟨Nat.le_trans (kindT_len q t) hn, fun y hy => by have := kindT_size hy; omega⟩
 obtain ⟨K, hK⟩ : ∃ K, K = kindT q t := ⟨_, rfl⟩
 rw [← hK] at HCON HKD ⊢
 rw [List.nil_append] at HCON
 clear hT hS hI hbk hbl hE2 hE3 hkl hwl hK hEbx hn hs1 hs2
 go_enter Try.func43, Try.ntmps43
 go_upto_region 2 with fail
 rw [← hwbx, ← hbbx, ← hw2, ← hkb, ← hw3, ← hlb]
 clear hwbx hbbx hw2 hkb hw3 hlb
 go_wp2_with (go_at_call 62; refine HCON.out.mono ?_; rintro e w4 ⟨rfl, v4, hI4, -⟩
              have hc4 : w4.cell? ⟨lb, 0, none⟩ = some v4 := by rw [cellc hI4.lc]; rfl
              have HC := Lib.hid (ordered_any hI4.own (fun c hc e => by have := (hI4.own.lt c e).1; have := HS.out c hc; have := HKL.out; omega) (by have := HKD.out.1; omega) HKD.out.2)
              have HI4 := Lib.hid hI4
              obtain ⟨oa, oc, hov, -, -⟩ := hI4.own.slice
              subst hov
              clear hI4)
 go_wp2_with (go_at_call 64; refine HC.out.mono ?_; rintro e w5 ⟨v5, rfl, hb5, hO5, hg5⟩
              have HE5 : Hid (Ext w w5) := Lib.hid (HI4.out.ext.grown hg5 (fun c hc => by have := (HI4.out.own.lt c hc).1; have := HKL.out; omega))
              have HO5 := Lib.hid ((hO5.low (base' := w.heap.size) (by have := HKL.out; omega)).wide (S' := Any) (fun _ _ _ => trivial))
              clear hb5 hO5 hg5)
 go_ret
 exact ⟨_, rfl, HE5.out, HO5.out⟩

theorem PVars_any {w : World} {S : Nat → Prop} {a : Option Addr} {cap : Nat} {t : Tm} (hn : sizeT t ≤ 900000) (hT : TmW w S a cap t) :
 Calls Try.prog 22 #[.agg #[.int .i64 t.kind, .string t.name, .int .i64 t.sort, .slice a t.kids.length cap]] w fun e w' => ∃ u, e = .returned u ∧ Ext w w' ∧ OwnT w' w.heap.size Any u (varsT t) := by
 obtain ⟨bx, w1, hbbx, hwbx, HBbx, hEbx⟩ := box_new w (.cells #[.int .i64 t.kind, .string t.name, .int .i64 t.sort, .slice a t.kids.length cap] 31)
 obtain ⟨b0, b1, b2, b3⟩ := box4r (HBbx.out)
 have HCA := Lib.hid (ofKind_any (q := 1) hn (fun c hc => hc) (hT.ext hEbx).below)
 have HE1 := Lib.hid hEbx
 clear hT hEbx hn
 go_enter Try.func22, Try.ntmps22
 go_upto_region 1 with fail
 rw [← hwbx, ← hbbx]
 clear hwbx hbbx
 go_wp2_with fail
 refine HCA.out.mono ?_
 rintro e w2 ⟨u, rfl, hE2, hO2⟩
 have HE2 := Lib.hid (HE1.out.trans hE2)
 have HO2 := Lib.hid (hO2.low HE1.out.size)
 clear hE2 hO2
 go_wp2_with fail
 go_ret
 exact ⟨_, rfl, HE2.out, HO2.out⟩

end Go.Proofs.Ytpfnlbaloaohgaa
