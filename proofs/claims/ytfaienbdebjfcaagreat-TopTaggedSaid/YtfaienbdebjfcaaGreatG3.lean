/- Contracts: the reference's equality, lists, sets. Contracts: a term put into a list, or taken out of it. Sums of terms: two ways to add lists. Contracts: the reference's sums. Contracts: the reference's summands, terms, errors of lists. A term as a result; a term stored. -/
import Derived.Test.YtfaienbdebjfcaaGreatG2
import Derived.OwnWalk
import Derived.Test.YtfaienbdebjfcaaGreatG1
import Derived.Laws.Rows
import Derived.Laws.ResultCell
import Derived.Outline
namespace Go.Proofs.YtfaienbdebjfcaaGreat
open Go Go.RowKit
set_option linter.unusedVariables false
set_option linter.unusedSimpArgs false

theorem same_bool (s t : Tm) : (cmpT s t == 0) = decide (s = t) := by
 rw [Bool.eq_iff_iff, beq_iff_eq, decide_eq_true_eq, cmpT_zero]

set_option maxHeartbeats 1000000 in
theorem RSame_any {w : World} {S S' : Nat → Prop} {a a' : Option Addr} {cap cap' : Nat} {s t : Tm} (hs6 : sizeT s ≤ 1000000) (ht6 : sizeT t ≤ 1000000) (hT : TmW w S a cap s) (hT' : TmW w S' a' cap' t) :
 Calls Tryz.prog 37 #[.agg #[.int .i64 s.kind, .string s.name, .int .i64 s.sort, .slice a s.kids.length cap], .agg #[.int .i64 t.kind, .string t.name, .int .i64 t.sort, .slice a' t.kids.length cap']] w fun e w' => e = .returned (.bool (decide (s = t))) ∧ Ext w w' := by
 have hl := hT.len
 have hc := hT.cap
 have hl' := hT'.len
 have hc' := hT'.cap
 unfold maxLen at hc hc'
 have HE1 : Hid (Ext w ((w.alloc (.cells #[.int .i64 s.kind, .string s.name, .int .i64 s.sort, .slice a s.kids.length cap] 77)).alloc (.cells #[.int .i64 t.kind, .string t.name, .int .i64 t.sort, .slice a' t.kids.length cap'] 77))) := Lib.hid ((Ext.alloc w _).then_al _)
 have hcon := RCompare_any 1000000 _ S S' a a' cap cap' s t hs6 hs6 ht6 (hT.ext HE1.out) (hT'.ext HE1.out)
 have HB := Lib.hid (same_bool s t)
 obtain ⟨z, hz⟩ : ∃ z, z = cmpT s t := ⟨_, rfl⟩
 rw [← hz] at hcon
 have HB2 : Hid ((z == 0) = decide (s = t)) := Lib.hid (by rw [hz]; exact HB.out)
 have HCON := Lib.hid hcon
 clear hcon hT hT' hz HB
 go_enter Tryz.func37, Tryz.ntmps37
 go_wp2_with fail
 refine HCON.out.mono ?_
 rintro e w2 ⟨rfl, hE⟩
 have HE := Lib.hid (HE1.out.trans hE)
 clear hE
 go_wp2_with fail
 go_ret
 exact ⟨rb HB2.out, HE.out⟩

theorem take_eq_of {α : Type} {A B : List α} (hl : A.length = B.length) (h : ∀ (k : Nat) x y, A[k]? = some x → B[k]? = some y → x = y) : A = B := by
 apply List.ext_getElem? 
 intro k
 by_cases hk : k < A.length
 · rw [List.getElem?_eq_getElem hk, List.getElem?_eq_getElem (by omega)]
   exact congrArg some (h k _ _ (List.getElem?_eq_getElem hk) (List.getElem?_eq_getElem (by omega)))
 · rw [List.getElem?_eq_none (by omega), List.getElem?_eq_none (by omega)]

/-- a term put into an ascending list -/
def addS (t : Tm) : List Tm → List Tm
 | [] => [t]
 | x :: L => if cmpT t x < 0 then t :: x :: L else if cmpT t x = 0 then x :: L else x :: addS t L
/-- the state of Add: O is done, k elements are read -/
def AddI (t : Tm) (L : List Tm) (k : Nat) (O : List Tm) (d : Bool) : Prop := addS t L = O ++ (if d = true then L.drop k else addS t (L.drop k)) ∧ O.length ≤ k + 1
theorem AddI.start {t : Tm} {L : List Tm} : AddI t L 0 [] false := by simp [AddI]
theorem drop_cons {α : Type} {L : List α} {k : Nat} {x : α} (h : L[k]? = some x) : L.drop k = x :: L.drop (k + 1) := by
 obtain ⟨h1, rfl⟩ := List.getElem?_eq_some_iff.1 h
 rw [List.drop_eq_getElem_cons h1]
theorem AddI.done {t x : Tm} {L O : List Tm} {k : Nat} (h : AddI t L k O true) (hx : L[k]? = some x) : AddI t L (k + 1) (O ++ [x]) true := by
 unfold AddI at *
 simp only [if_true, drop_cons hx] at h
 simp only [if_true]
 exact ⟨by rw [h.1]; simp, by simp; omega⟩
theorem AddI.lt {t x : Tm} {L O : List Tm} {k : Nat} (h : AddI t L k O false) (hx : L[k]? = some x) (hc : cmpT t x < 0) (hO : O.length ≤ k) : AddI t L (k + 1) (O ++ [t] ++ [x]) true := by
 unfold AddI at *
 simp only [Bool.false_eq_true, if_false, drop_cons hx, addS, if_pos hc] at h
 simp only [if_true]
 exact ⟨by rw [h.1]; simp, by simp; omega⟩
theorem AddI.eq {t x : Tm} {L O : List Tm} {k : Nat} (h : AddI t L k O false) (hx : L[k]? = some x) (hc : cmpT t x = 0) : AddI t L (k + 1) (O ++ [x]) true := by
 unfold AddI at *
 simp only [Bool.false_eq_true, if_false, drop_cons hx, addS, hc, Int.lt_irrefl, if_true] at h
 simp only [if_true]
 exact ⟨by rw [h.1]; simp, by simp; omega⟩
theorem AddI.gt {t x : Tm} {L O : List Tm} {k : Nat} (h : AddI t L k O false) (hx : L[k]? = some x) (hc : 0 < cmpT t x) : AddI t L (k + 1) (O ++ [x]) false := by
 unfold AddI at *
 simp only [Bool.false_eq_true, if_false, drop_cons hx, addS, if_neg (show ¬ cmpT t x < 0 by omega), if_neg (show ¬ cmpT t x = 0 by omega)] at h
 simp only [Bool.false_eq_true, if_false]
 exact ⟨by rw [h.1]; simp, by simp; omega⟩
theorem AddI.fin {t : Tm} {L O : List Tm} {k : Nat} {d : Bool} (h : AddI t L k O d) (hk : L.length ≤ k) : addS t L = if d = true then O else O ++ [t] := by
 unfold AddI at h
 rw [h.1, List.drop_eq_nil_of_le hk]
 cases d <;> simp [addS]

theorem addS_mem {t x : Tm} {L : List Tm} : x ∈ addS t L ↔ x = t ∨ x ∈ L := by
 induction L with
 | nil => simp [addS]
 | cons y L ih =>
   rw [addS]
   split
   · simp
   · split
     · rename_i h
       have := (cmpT_zero t y).1 h
       subst this
       simp
     · simp only [List.mem_cons, ih]
       constructor
       · rintro (h | h | h) <;> simp [h]
       · rintro (h | h | h) <;> simp [h]
theorem addS_asc {t : Tm} {L : List Tm} (h : Asc L) : Asc (addS t L) := by
 induction L with
 | nil => simp [addS]
 | cons y L ih =>
   have h' := List.pairwise_cons.1 h
   rw [addS]
   split
   · rename_i hc
     exact List.pairwise_cons.2 ⟨fun z hz => by
      rcases List.mem_cons.1 hz with rfl | hz
      · exact hc
      · exact ltT_trans hc (h'.1 z hz), h⟩
   · split
     · exact h
     · rename_i h1 h2
       refine List.pairwise_cons.2 ⟨fun z hz => ?_, ih h'.2⟩
       rcases addS_mem.1 hz with rfl | hz
       · unfold ltT; rw [cmpT_swap z y]; omega
       · exact h'.1 z hz

theorem Ext.grownT {w0 w w' : World} {S : Nat → Prop} {v : Value} {L : List Tm} (h : Ext w0 w) (hO : OwnT w w0.heap.size S v L) (hg : w.grownBy w' v.ownBlock) : Ext w0 w' := h.grown hg (fun k hk => (hO.lt k hk).1)
theorem OwnT.off {w0 w : World} {S : Nat → Prop} {v : Value} {L : List Tm} (hO : OwnT w w0.heap.size S v L) (hS : ∀ c, S c → c < w0.heap.size) : ∀ c, S c → v.ownBlock ≠ some c := fun c hc e => by
 have := (hO.lt c e).1
 have := hS c hc
 omega

theorem OwnT.low {w : World} {base base' : Nat} {S : Nat → Prop} {v : Value} {L : List Tm} (h : OwnT w base S v L) (hb : base' ≤ base) : OwnT w base' S v L := by
 obtain ⟨E, h1, ⟨h2, h3⟩, h4⟩ := h
 refine ⟨E, h1, ⟨h2, ?_⟩, h4⟩
 rcases h3 with h | ⟨g, cap, cur, e, hg, h⟩
 · exact .inl h
 · exact .inr ⟨g, cap, cur, e, by omega, h⟩

end Go.Proofs.YtfaienbdebjfcaaGreat

namespace Go.Proofs.YtfaienbdebjfcaaGreat
open Go
set_option linter.unusedVariables false
set_option linter.unusedSimpArgs false

/-- a term put into a list, or taken out of it -/
def togS (t : Tm) (L : List Tm) : List Tm := if t ∈ L then L.filter (fun x => decide (x ≠ t)) else addS t L
def plusR (A B : List Tm) : List Tm := B.foldl (fun acc x => togS x acc) A

theorem togS_mem {t x : Tm} {L : List Tm} : x ∈ togS t L ↔ ¬ (x ∈ L ↔ x = t) := by
 unfold togS
 split
 · rename_i h
   simp only [List.mem_filter, decide_eq_true_eq, ne_eq]
   by_cases e : x = t
   · subst e; simp [h]
   · simp [e]
 · rename_i h
   rw [addS_mem]
   by_cases e : x = t
   · subst e; simp [h]
   · simp [e]
theorem togS_asc {t : Tm} {L : List Tm} (h : Asc L) : Asc (togS t L) := by
 unfold togS
 split
 · exact List.Pairwise.filter _ h
 · exact addS_asc h
theorem addS_len {t : Tm} {L : List Tm} : (addS t L).length ≤ L.length + 1 := by
 induction L with
 | nil => simp [addS]
 | cons y L ih => rw [addS]; (repeat' split) <;> simp <;> omega
theorem togS_len {t : Tm} {L : List Tm} : (togS t L).length ≤ L.length + 1 := by
 unfold togS
 split
 · have := List.length_filter_le (fun x => decide (x ≠ t)) L; omega
 · exact addS_len
theorem plusR_len (A : List Tm) : ∀ B : List Tm, (plusR A B).length ≤ A.length + B.length := by
 intro B
 induction B generalizing A with
 | nil => simp [plusR]
 | cons y B ih =>
   have h1 := ih (togS y A)
   have h2 := togS_len (t := y) (L := A)
   unfold plusR at *
   simp only [List.foldl_cons, List.length_cons]
   omega
theorem plusR_sub {A B : List Tm} {x : Tm} (h : x ∈ plusR A B) : x ∈ A ∨ x ∈ B := by
 induction B generalizing A with
 | nil => exact .inl h
 | cons y B ih =>
   unfold plusR at *
   simp only [List.foldl_cons] at h
   rcases ih h with h | h
   · rw [togS_mem] at h
     by_cases e : x = y
     · exact .inr (by simp [e])
     · simp [e] at h; exact .inl h
   · exact .inr (by simp [h])
theorem plusR_asc {A : List Tm} (h : Asc A) : ∀ B : List Tm, Asc (plusR A B) := by
 intro B
 induction B generalizing A with
 | nil => exact h
 | cons y B ih => unfold plusR at *; simp only [List.foldl_cons]; exact ih (togS_asc h)
theorem plusR_mem {x : Tm} : ∀ {B A : List Tm}, B.Nodup → (x ∈ plusR A B ↔ ¬ (x ∈ A ↔ x ∈ B))
 | [], A, _ => by simp [plusR]
 | y :: B, A, h => by
   have h' := List.nodup_cons.1 h
   have ih := plusR_mem (x := x) (B := B) (A := togS y A) h'.2
   unfold plusR at *
   simp only [List.foldl_cons]
   rw [ih, togS_mem, List.mem_cons]
   by_cases e : x = y
   · subst e
     by_cases hx : x ∈ A <;> simp [h'.1, hx]
   · by_cases hx : x ∈ A <;> by_cases hb : x ∈ B <;> simp [e, hx, hb]
theorem asc_nodup {L : List Tm} (h : Asc L) : L.Nodup := List.Pairwise.imp (fun hab e => by subst e; exact ltT_irrefl hab) h
theorem plusR_eq {A B : List Tm} (hA : Asc A) (hB : Asc B) : plusR A B = plusS A B :=
 asc_eq (plusR_asc hA B) (plusS_asc A B hA hB) (fun x => by rw [plusR_mem (asc_nodup hB), plusS_mem A B hA hB])

theorem plusS_len : ∀ A B : List Tm, (plusS A B).length ≤ A.length + B.length := by
 intro A B
 induction A, B using plusS.induct with
 | case1 b => simp [plusS]
 | case2 x a => simp [plusS]
 | case3 x a y b h ih => rw [plusS, if_pos h]; simp at *; omega
 | case4 x a y b h h2 ih => rw [plusS, if_neg h, if_pos h2]; simp at *; omega
 | case5 x a y b h h2 ih => rw [plusS, if_neg h, if_neg h2]; simp at *; omega
mutual
theorem sumT_len : ∀ t : Tm, (sumT t).length ≤ sizeT t
 | .mk k n s l => by
   rw [sumT, sizeT]
   split
   · simp
   · split
     · have := sumL_len l []; simp at this; omega
     · simp
theorem sumL_len : ∀ (l acc : List Tm), (sumL l acc).length ≤ acc.length + sizeL l
 | [], acc => by simp [sumL, sizeL]
 | t :: l, acc => by
   rw [sumL, sizeL]
   have h1 := sumL_len l (plusS acc (sumT t))
   have h2 := plusS_len acc (sumT t)
   have h3 := sumT_len t
   omega
end
mutual
theorem sumT_size : ∀ (t : Tm) (x : Tm), x ∈ sumT t → sizeT x ≤ sizeT t
 | .mk k n s l, x, h => by
   rw [sumT] at h
   split at h
   · simp at h
   · split at h
     · rcases sumL_size l [] x h with h | h
       · simp at h
       · rw [sizeT]; omega
     · simp at h; subst h; exact Nat.le_refl _
theorem sumL_size : ∀ (l acc : List Tm) (x : Tm), x ∈ sumL l acc → x ∈ acc ∨ sizeT x ≤ sizeL l
 | [], acc, x, h => .inl (by simpa [sumL] using h)
 | t :: l, acc, x, h => by
   rw [sumL] at h
   rw [sizeL]
   rcases sumL_size l _ x h with h | h
   · rcases plusS_sub _ _ x h with h | h
     · exact .inl h
     · have := sumT_size t x h; exact .inr (by omega)
   · exact .inr (by omega)
end
theorem sumT_eq (t : Tm) : sumT t = if isZero t.kind t.name t.kids.length then [] else if isXor t.kind t.name then sumL t.kids [] else [t] := by cases t; rw [sumT]; rfl
theorem sumL_append (l m acc : List Tm) : sumL (l ++ m) acc = sumL m (sumL l acc) := by
 induction l generalizing acc with
 | nil => simp [sumL]
 | cons x l ih => simp only [List.cons_append, sumL, ih]
theorem sumL_take {l acc : List Tm} {i : Nat} {x : Tm} (h : l[i]? = some x) : sumL (l.take (i + 1)) acc = plusS (sumL (l.take i) acc) (sumT x) := by
 rw [List.take_add_one, h, sumL_append]
 simp [sumL]

end Go.Proofs.YtfaienbdebjfcaaGreat

namespace Go.Proofs.YtfaienbdebjfcaaGreat
open Go Go.RowKit
set_option linter.unusedVariables false
set_option linter.unusedSimpArgs false

theorem filter_take {L : List Tm} {p : Tm → Bool} {k : Nat} {x : Tm} (h : L[k]? = some x) : (L.take (k + 1)).filter p = (L.take k).filter p ++ (if p x = true then [x] else []) := by
 rw [List.take_add_one, h, List.filter_append]
 simp [List.filter_cons]

/-- an empty row of our own -/
theorem own_empty {w : World} {base : Nat} {S : Nat → Prop} (hb : base ≤ w.heap.size) : OwnT (w.alloc (.cells #[] 77)) base S (.slice (some ⟨w.heap.size, 0, none⟩) 0 0) [] :=
 ⟨[], rfl, World.ownsRow_made w #[] 0 hb (by unfold maxLen; omega) rfl, by simp⟩
/-- a row of our own of one term -/
theorem own_one {w : World} {base : Nat} {S : Nat → Prop} {t : Tm} {a : Option Addr} {cap : Nat} (hb : base ≤ w.heap.size) (hT : TmW w S a cap t) : OwnT (w.alloc (.cells #[.int .i64 t.kind, .string t.name, .int .i64 t.sort, .slice a t.kids.length cap] 77)) base S (.slice (some ⟨w.heap.size, 0, none⟩) 1 1) [t] := by
 refine ⟨[⟨t, a, cap⟩], rfl, ⟨rfl, .inr ⟨w.heap.size, 1, _, rfl, hb, hs_new, Nat.le_refl _, by unfold maxLen; omega, rfl, rfl⟩⟩, fun e he => ?_⟩
 simp at he
 subst he
 exact hT.ext (Ext.alloc _ _)

theorem zeroN_list : zeroN.toList = [122, 101, 114, 111] := by rw [ByteArray.toList_eq]; rfl
theorem xorN_list : xorN.toList = [120, 111, 114] := by rw [ByteArray.toList_eq]; rfl
/-- the five kinds of terms for a sum -/
theorem sum_cases (t : Tm) :
 (t.kind ≠ 3 ∧ sumT t = [t]) ∨ (t.kind = 3 ∧ t.name.toList = [122, 101, 114, 111] ∧ t.kids.length = 0 ∧ sumT t = []) ∨ (t.kind = 3 ∧ t.name.toList = [122, 101, 114, 111] ∧ t.kids.length ≠ 0 ∧ sumT t = [t]) ∨
 (t.kind = 3 ∧ ¬ t.name.toList = [122, 101, 114, 111] ∧ t.name.toList = [120, 111, 114] ∧ sumT t = sumL t.kids []) ∨ (t.kind = 3 ∧ ¬ t.name.toList = [122, 101, 114, 111] ∧ ¬ t.name.toList = [120, 111, 114] ∧ sumT t = [t]) := by
 have h := sumT_eq t
 simp only [isZero, isXor, zeroN_list, xorN_list, Bool.and_eq_true, decide_eq_true_eq, beq_iff_eq] at h
 by_cases hk : t.kind = 3
 · by_cases hz : t.name.toList = [122, 101, 114, 111]
   · have hx : ¬ t.name.toList = [120, 111, 114] := by rw [hz]; simp
     by_cases hl : t.kids.length = 0
     · exact .inr (.inl ⟨hk, hz, hl, by rw [h, if_pos ⟨⟨hk, hz⟩, hl⟩]⟩)
     · exact .inr (.inr (.inl ⟨hk, hz, hl, by rw [h, if_neg (fun h => hl h.2), if_neg (fun h => hx h.2)]⟩))
   · by_cases hx : t.name.toList = [120, 111, 114]
     · exact .inr (.inr (.inr (.inl ⟨hk, hz, hx, by rw [h, if_neg (fun h => hz h.1.2), if_pos ⟨hk, hx⟩]⟩)))
     · exact .inr (.inr (.inr (.inr ⟨hk, hz, hx, by rw [h, if_neg (fun h => hz h.1.2), if_neg (fun h => hx h.2)]⟩)))
 · exact .inl ⟨hk, by rw [h, if_neg (fun h => hk h.1.1), if_neg (fun h => hk h.1)]⟩

theorem sizT : (Tryz.prog.info? 77).map (·.size) = some 4 := by kernel_rfl

theorem wpList_storeT {ops : Array Oper} {rest : List Oper} {o : Oper} {a : Act} {w : World} {Q : Exit → Act → World → Prop} (hgd : o.guard = none) (x y : Operand) (ho : o.op = .store 77 x y)
 {g : Nat} (hx : a.eval x = .pointer (some ⟨g, 0, none⟩)) {k s : Int} {n : ByteArray} {ka : Option Addr} {kl kc : Nat} (hy : a.eval y = .agg #[.int .i64 k, .string n, .int .i64 s, .slice ka kl kc])
 {old : Array Value} (hg : w.heap[g]? = some (.cells old 77)) (ho4 : old.size = 4)
 (hK : ∀ w', w'.heap[g]? = some (.cells #[.int .i64 k, .string n, .int .i64 s, .slice ka kl kc] 77) → (∀ q, q ≠ g → w'.heap[q]? = w.heap[q]?) → (∀ W0, Ext W0 w → W0.heap.size ≤ g → Ext W0 w') → w'.heap.size = w.heap.size → wpList Tryz.prog ops Q rest (a.put o.dst undef) w') :
 wpList Tryz.prog ops Q (o :: rest) a w := by
 refine wpList_store_all hgd 77 x y ho g _ hx hy 77 old hg sizT ho4 (by simp [Value.oneCell']) ?_
 exact hK _ (setRow_heap w g old _ _ _ hg) (fun q hq => setRow_other w g q _ hq) (fun W0 h hg => h.setRow hg _) (size_setRow _ _ _)

theorem wpList_buildT {ops : Array Oper} {rest : List Oper} {o : Oper} {a : Act} {w : World} {Q : Exit → Act → World → Prop} (hg : o.guard = none) (parts : List (Nat × Operand)) (ho : o.op = .build 77 parts.toArray) (vals : List (Nat × Value)) (hv : parts.map (fun p => (p.1, a.eval p.2)) = vals) {cells : Array Value}
 (hb : Tryz.prog.built 77 vals = some cells) (h : wpList Tryz.prog ops Q rest (a.put o.dst (.agg cells)) w) : wpList Tryz.prog ops Q (o :: rest) a w := by
 have e : (parts.toArray.map fun (i, x) => (i, a.eval x)).toList = vals := by rw [← hv]; simp
 refine wpList_build hg 77 parts.toArray ho (by rw [e, hb]; rfl) ?_
 rw [e, hb]
 exact h
theorem built_kn (k : Int) (n : ByteArray) (a : Option Addr) (l c : Nat) : Tryz.prog.built 77 [(0, .int .i64 k), (1, .string n), (3, .slice a l c)] = some #[.int .i64 k, .string n, .int .i64 0, .slice a l c] := by kernel_rfl
theorem built_ks (k s : Int) (n : ByteArray) : Tryz.prog.built 77 [(0, .int .i64 k), (1, .string n), (2, .int .i64 s)] = some #[.int .i64 k, .string n, .int .i64 s, .slice none 0 0] := by kernel_rfl
theorem built_zero (k : Int) (n : ByteArray) : Tryz.prog.built 77 [(0, .int .i64 k), (1, .string n)] = some #[.int .i64 k, .string n, .int .i64 0, .slice none 0 0] := by kernel_rfl
theorem built_none : Tryz.prog.built 77 [] = some #[.int .i64 0, .string ⟨#[]⟩, .int .i64 0, .slice none 0 0] := by kernel_rfl

theorem ret_term {F : Func} {p g : Nat} {tmps : Array Value} {w : World} {cs : Array Value} {R : Ending → World → Prop} (hr : F.results = #[.cell p 77]) (hp : tmps.getD p undef = .pointer (some ⟨g, 0, none⟩)) (hg : w.heap[g]? = some (.cells cs 77)) (hs : cs.size = 4) (h : R (.returned (.agg cs)) w) :
 bodyPost Tryz.prog F R .ret ⟨tmps, []⟩ w :=
 bodyPost_ret (results_cell_row hr tmps w g _ cs _ _ hp hg Tryz.underlying77 rfl (by rw [hs]; exact sizT)) rfl h
theorem ret_term2 {F : Func} {p u g : Nat} {tmps : Array Value} {w : World} {cs : Array Value} {R : Ending → World → Prop} (hr : F.results = #[.cell p 77, .tmp u]) (hp : tmps.getD p undef = .pointer (some ⟨g, 0, none⟩)) (hg : w.heap[g]? = some (.cells cs 77)) (hs : cs.size = 4) (h : R (.returned (.tuple #[.agg cs, tmps.getD u undef])) w) :
 bodyPost Tryz.prog F R .ret ⟨tmps, []⟩ w := by
 refine bodyPost_ret ?_ rfl h
 rw [results_cell_tmp hr, hp]
 simp only [asAddr, Sem.run_pure, Result.andThen_ok]
 rw [run_loadVar_row w g _ _ cs _ _ hg Tryz.underlying77 rfl (by rw [hs]; exact sizT)]
 rfl

/-- the term n(L) -/
def appTm (n : ByteArray) (L : List Tm) : Tm := .mk 3 n 0 L
def atomTm (n : ByteArray) : Tm := .mk 2 n 0 []
theorem tm_app {w : World} {S : Nat → Prop} {n : ByteArray} {L : List Tm} {a : Option Addr} {cap m : Nat} (hn : n.size ≤ maxLen) (h : LsT w S (.slice a m cap) L) (hS : ∀ b o, a = some ⟨b, o, none⟩ → S b) : m = L.length ∧ TmW w S a cap (appTm n L) := by
 obtain ⟨h1, h2, h3⟩ := h.len
 exact ⟨h1, ⟨(by unfold I64; exact ⟨by decide, by decide⟩ : I64 3), (by unfold I64; exact ⟨by decide, by decide⟩ : I64 0), hn, h2, h3, h.kids hS⟩⟩

end Go.Proofs.YtfaienbdebjfcaaGreat
