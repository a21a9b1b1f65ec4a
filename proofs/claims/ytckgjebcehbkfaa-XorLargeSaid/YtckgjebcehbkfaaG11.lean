/- New entries of maps that the call made; rows of numbers. Contracts: the program's elimination, its columns. Contracts: the program's elimination. -/
import Derived.Test.YtckgjebcehbkfaaG10
import Derived.Test.YtckgjebcehbkfaaX27
import Derived.Test.YtckgjebcehbkfaaG7
namespace Go.Proofs.Ytckgjebcehbkfaa
open Go Go.RowKit
open Go.Maps (Keyed)
set_option linter.unusedVariables false
set_option linter.unusedSimpArgs false

/-- the stamps of a map's entries lie below its clock -/
def Stm (w : World) (b : Nat) : Prop := ∀ es clock, w.heap[b]? = some (.map es clock) → ∀ (i : Nat) (e : MapEntry), es[i]? = some e → e.born < clock
theorem Stm.same {w w' : World} {b : Nat} (h : Stm w b) (hb : w'.heap[b]? = w.heap[b]?) : Stm w' b := fun es clock he => h es clock (hb.symm.trans he)
theorem Stm.made {w : World} {b : Nat} (h : w.heap[b]? = some (.map #[] 0)) : Stm w b := fun es clock he i e hi => by
  rw [h] at he; cases he; simp at hi

theorem MapK.push {K : Type} {enc : K → Value} {w w2 : World} {b n clock : Nat} {F : K → Option Value} {es : Array MapEntry} {x : K} {v : Value} (h : MapK enc w b n F) (hb : w.heap[b]? = some (.map es clock)) (hno : ∀ (i : Nat) (e : MapEntry), es[i]? = some e → e.key ≠ enc x) (hinj : ∀ x y, enc x = enc y → x = y)
    (hb2 : w2.heap[b]? = some (.map (es.push { key := enc x, val := v, born := clock }) (clock + 1))) (F' : K → Option Value) (h6 : F' x = some v) (h7 : ∀ y, y ≠ x → F' y = F y) : MapK enc w2 b (n + 1) F' := by
  obtain ⟨es', clock', hb', h2, h3, h4, h5⟩ := h
  rw [hb] at hb'
  cases hb'
  refine ⟨_, _, hb2, by simp; omega, ?_, ?_, ?_⟩
  · intro j e' hj
    rw [Array.getElem?_push] at hj
    split at hj
    · cases hj; exact ⟨x, rfl⟩
    · exact h3 j e' hj
  · intro i j e1 e2 hi hj hee
    rw [Array.getElem?_push] at hi hj
    split at hi <;> split at hj
    · omega
    · cases hi; exact absurd hee.symm (hno j e2 hj)
    · cases hj; exact absurd hee (hno i e1 hi)
    · exact h4 i j e1 e2 hi hj hee
  · intro y
    by_cases hy : y = x
    · subst hy
      right
      exact ⟨es.size, { key := enc y, val := v, born := clock }, by simp, rfl, h6⟩
    · rw [h7 y hy]
      rcases h5 y with ⟨h8, h9⟩ | ⟨i, e1, hi, he1, hF1⟩
      · left
        refine ⟨h8, fun j e' hj => ?_⟩
        rw [Array.getElem?_push] at hj
        split at hj
        · cases hj; exact fun h => hy (hinj _ _ h.symm)
        · exact h9 j e' hj
      · right
        have hlt := (Array.getElem?_eq_some_iff.1 hi).1
        exact ⟨i, e1, by rw [Array.getElem?_push, if_neg (by omega)]; exact hi, he1, hF1⟩

theorem setBlock_twice (w : World) (b : Nat) (o o' : Obj) : ChangeMaps.setBlock (ChangeMaps.setBlock w b o) b o' = ChangeMaps.setBlock w b o' := by
  simp [ChangeMaps.setBlock]

/-- m[c] = v for a new key c: the two steps -/
theorem entry_new {w : World} {b n : Nat} {F : Col → Option Value} (h : MapK encI w b n F) (hs : Stm w b) (c : Col) (hF : F c = none) :
    ∃ (clock : Nat) (o1 : Obj), (Instr.mapEntry 71 (.map (some b)) (encI c)).run Try.prog w = .ok (.tuple #[.slice none 0 0, .int .i64 clock]) (ChangeMaps.setBlock w b o1) ∧
      ∀ v, ∃ o2, (Instr.entryStore 71 (.map (some b)) (.int .i64 clock) v).run Try.prog (ChangeMaps.setBlock w b o1) = .ok () (ChangeMaps.setBlock w b o2) ∧ Stm (ChangeMaps.setBlock w b o2) b ∧
        ∀ F', F' c = some v → (∀ z, z ≠ c → F' z = F z) → MapK encI (ChangeMaps.setBlock w b o2) b (n + 1) F' := by
  obtain ⟨es, clock, hb, hf⟩ := h.find lawI keyI c
  obtain ⟨l, hl⟩ := keyI c
  rcases hf with ⟨hf, -, hno⟩ | ⟨i, en, hf, hi, he, hF1⟩
  · refine ⟨clock, .map (es.push { key := encI c, val := .slice none 0 0, born := clock }) (clock + 1), ?_, fun v => ⟨.map (es.push { key := encI c, val := v, born := clock }) (clock + 1), ?_, ?_, fun F' h6 h7 => ?_⟩⟩
    · simp [Instr.mapEntry, run_underlying Try.underlying71, MapKept.run_getObj_map hb, lawI.check w _ hl, hf, zeroB w, Result.andThen, MapKept.run_setObj_map _ hb, ChangeMaps.setBlock, goInt]
    · have hb1 := set_same (o' := .map (es.push { key := encI c, val := .slice none 0 0, born := clock }) (clock + 1)) hb
      have hfi : (es.push { key := encI c, val := (.slice none 0 0 : Value), born := clock }).findIdx? (fun e => (e.born : Int) == (clock : Int)) = some es.size := by
        rw [Array.findIdx?_eq_some_iff_getElem]
        refine ⟨by simp, by simp, fun j hj => ?_⟩
        rw [Array.getElem_push_lt hj]
        have := hs es clock hb j es[j] (Array.getElem?_eq_getElem hj)
        simp
        omega
      have hmod : (es.push { key := encI c, val := (.slice none 0 0 : Value), born := clock }).modify es.size (fun e => { e with val := v }) = es.push { key := encI c, val := v, born := clock } := by
        apply Array.ext_getElem?
        intro j
        rw [Array.getElem?_modify, Array.getElem?_push, Array.getElem?_push]
        by_cases hj : es.size = j
        · subst hj; simp
        · simp [hj, Ne.symm hj]
      have hst : ∀ w', (asInt (Value.int .i64 (clock : Int))).run Try.prog w' = .ok (clock : Int) w' := fun w' => by simp [asInt, asIntOf, Result.andThen]
      simp only [Instr.entryStore, Sem.run_bind, Sem.run_pure, MapKept.run_getObj_map hb1, Result.andThen_ok, hst, hfi, MapKept.run_setObj_map _ hb1, hmod]
      simp [ChangeMaps.setBlock]
    · intro es' clock' he i e hi
      rw [set_same hb] at he
      cases he
      rw [Array.getElem?_push] at hi
      split at hi
      · cases hi; simp
      · have := hs es clock hb i e hi; omega
    · exact h.push hb hno encI_inj (set_same hb) F' h6 h7
  · rw [hF] at hF1; cases hF1

/-- a row of our own that holds numbers -/
def encZ (k : Nat) : Value := .int .i64 k
def OwnN (w : World) (base : Nat) (v : Value) (B : List Nat) : Prop := w.ownsRow base 3 1 v B.length (B.map encZ)
section
variable {w w' : World} {base : Nat} {v : Value} {B : List Nat}
theorem OwnN.nil : OwnN w base (.slice none 0 0) [] := World.ownsRow_nil _ _ _ _
theorem OwnN.ext (h : OwnN w base v B) (hE : Ext w w') : OwnN w' base v B := ownsRow_ext h hE
theorem OwnN.keep (h : OwnN w base v B) (h1 : ∀ g, v.ownBlock = some g → w'.heap[g]? = w.heap[g]?) : OwnN w' base v B := ownsRow_same h h1
theorem OwnN.lt (h : OwnN w base v B) : ∀ k, v.ownBlock = some k → base ≤ k ∧ k < w.heap.size := World.ownsRow.lt h
theorem OwnN.block (h : OwnN w base v B) {g : Nat} (hg : v.ownBlock = some g) : ∃ cur, w.heap[g]? = some (.cells cur 3) := by
  rcases h.2 with ⟨rfl, -⟩ | ⟨g', cap, cur, rfl, -, hc, -⟩
  · cases hg
  · cases hg; exact ⟨cur, hc⟩
theorem OwnN.slice (h : OwnN w base v B) : ∃ a cap, v = .slice a B.length cap ∧ B.length ≤ cap ∧ cap ≤ maxLen := by
  rcases h.2 with ⟨rfl, h0⟩ | ⟨g', cap, cur, rfl, -, -, h1, h2, -⟩
  · exact ⟨none, 0, by rw [h0], by omega, by unfold maxLen; omega⟩
  · exact ⟨_, cap, rfl, h1, h2⟩
theorem OwnN.ls (h : OwnN w base v B) (h6 : ∀ b ∈ B, b ≤ 1000000) : LsI w v (B.map (fun k : Nat => (k : Int))) := by
  obtain ⟨a, cap, rfl, h1, h2⟩ := h.slice
  refine ⟨a, cap, by rw [List.length_map], by rw [List.length_map]; exact h1, h2, fun i x hi => ?_, fun x hx => ?_⟩
  · rw [List.getElem?_map] at hi
    obtain ⟨b, hb, rfl⟩ := Option.map_eq_some_iff.1 hi
    rcases h.2 with ⟨he, h0⟩ | ⟨g', cap', cur, he, -⟩
    · have := (List.getElem?_eq_some_iff.1 hb).1; omega
    · cases he
      refine ⟨g', 0, rfl, ?_⟩
      have hc := World.ownsRow.cells h (g := g') rfl i (encZ b) (by rw [List.getElem?_map, hb]; rfl)
      rw [add_none] at hc
      exact hc
  · obtain ⟨b, hb, rfl⟩ := List.mem_map.1 hx
    have := h6 b hb
    unfold I64; omega
end
theorem ownT_block {w : World} {base : Nat} {S : Nat → Prop} {v : Value} {L : List Tm} (h : OwnT w base S v L) {g : Nat} (hg : v.ownBlock = some g) : ∃ cur, w.heap[g]? = some (.cells cur 24) := by
  obtain ⟨E, -, h2, -⟩ := h
  rcases h2.2 with ⟨rfl, -⟩ | ⟨g', cap, cur, rfl, -, hc, -⟩
  · cases hg
  · cases hg; exact ⟨cur, hc⟩
theorem infI : (Try.prog.info? 3).map (fun i => (i.zero, i.size, i.bytes)) = some (some (.int .i64 0), 1, 8) := by kernel_rfl

/-- append of one number -/
theorem wpList_appN {ops : Array Oper} {rest : List Oper} {o : Oper} {a : Act} {w : World} {Q : Exit → Act → World → Prop} (hgd : o.guard = none) (s y : Operand)
    (ho : o.op = .call { callee := .builtin .append, args := #[s, y], argTypes := #[45, 45] }) {base : Nat} {v : Value} {B : List Nat} {fb x : Nat} (hs : a.eval s = v) (hy : a.eval y = .slice (some ⟨fb, 0, none⟩) 1 1)
    (h : OwnN w base v B) (hb : base ≤ w.heap.size) (hl : B.length ≤ 1000000) (hx : w.cell? ⟨fb, 0, none⟩ = some (.int .i64 (x : Nat)))
    (hK : ∀ v' w', OwnN w' base v' (B ++ [x]) → w.grownBy w' v.ownBlock → (v'.ownBlock = v.ownBlock ∨ v'.ownBlock = some w.heap.size) → wpList Try.prog ops Q rest (a.put o.dst v') w') :
    wpList Try.prog ops Q (o :: rest) a w := by
  refine wpList_plain hgd fun K hK' => ?_
  obtain ⟨i0, hi0, hi1, hi2, hi3⟩ := info_parts infI
  obtain ⟨v', w', hr, r1, r2, r3, r4⟩ := run_append_own_at (P := Try.prog) w base 45 o.type 3 i0 (.int .i64 0) 1 8 Try.underlying45 hi0 hi1 hi2 hi3 rfl (by decide)
    v B.length (B.map encZ) h ⟨fb, 0, none⟩ 1 1 [encZ x] rfl (fun j u hu => by
      match j, hu with
      | 0, hu => cases hu; rw [add_none]; exact hx) (fun u hu => by simp at hu; subst hu; rfl) (by unfold maxLen; omega) (by omega) hb
  unfold Oper.wp execOp
  simp only [ho, resolve, invoke, builtin, Sem.run_bind, Sem.run_pure, Result.andThen_ok, List.map_toArray, List.map_cons, List.map_nil, hs, hy, hr]
  refine hK' _ _ (hK v' w' ?_ r2 r4)
  unfold OwnN
  rw [List.length_append, List.map_append]
  exact r1

theorem RowsW.weak {w : World} {m n l : Nat} {T T' : Nat → Prop} {F : Col → Option Wds} (h : RowsW w m n l T F) (hT : ∀ c, T c → c < w.heap.size → T' c) : RowsW w m n l T' F :=
  ⟨h.map, fun c p hp => ⟨(h.bits c p hp).1, (h.bits c p hp).2.1, hT _ (h.bits c p hp).2.2 (lt_of_get' (h.bits c p hp).1.row)⟩⟩
theorem RowsW.more {w : World} {m n n' l : Nat} {T : Nat → Prop} {F : Col → Option Wds} (h : RowsW w m n l T F) (hn : n ≤ n') : RowsW w m n' l T F := ⟨h.map.mono hn, h.bits⟩

end Go.Proofs.Ytckgjebcehbkfaa

namespace Go.Proofs.Ytckgjebcehbkfaa
open Go Go.RowKit
set_option linter.unusedVariables false
set_option linter.unusedSimpArgs false

/-- all summands of the terms, one list behind the other -/
def allS (X : List Tm) : List Tm := X.flatMap sumT
theorem allS_take {X : List Tm} {k : Nat} {x : Tm} (h : X[k]? = some x) : allS (X.take (k + 1)) = allS (X.take k) ++ sumT x := by
  unfold allS
  rw [List.take_add_one, h, List.flatMap_append]
  simp
theorem allS_len : ∀ X : List Tm, (allS X).length ≤ sizeL X
  | [] => by simp [allS]
  | x :: X => by
    have := allS_len X
    have := sumT_len x
    unfold allS at *
    rw [List.flatMap_cons, List.length_append, sizeL]
    omega
theorem allS_size {X : List Tm} {y : Tm} (h : y ∈ allS X) : sizeT y ≤ sizeL X := by
  unfold allS at h
  obtain ⟨x, hx, hy⟩ := List.mem_flatMap.1 h
  obtain ⟨i, hi⟩ := List.mem_iff_getElem?.1 hx
  have := sizeL_get hi
  have := sumT_size x y hy
  omega

/-- the system under way: its columns -/
structure ElA (w wr : World) (sb mr mc n : Nat) (v : Value) (C : List Tm) (u : Value) (X : List Tm) : Prop where
  ext : Ext w wr
  sys : wr.heap[sb]? = some (.cells #[v, .int .i64 n, .map (some mr), .map (some mc), .slice none 0 0] 73)
  hmr : wr.heap[mr]? = some (.map #[] 0)
  hmc : wr.heap[mc]? = some (.map #[] 0)
  ne : mr ≠ mc
  lo : w.heap.size ≤ sb ∧ w.heap.size ≤ mr ∧ w.heap.size ≤ mc
  own : OwnT wr w.heap.size (fun c => c < w.heap.size) v C
  lst : OwnT wr w.heap.size (fun c => c < w.heap.size) u X
  ap : ∀ g, v.ownBlock = some g → u.ownBlock ≠ some g
theorem ElA.next {w wr w' : World} {sb mr mc n : Nat} {v u : Value} {C X : List Tm} (h : ElA w wr sb mr mc n v C u X) (hE : Ext wr w') : ElA w w' sb mr mc n v C u X :=
  ⟨h.ext.trans hE, hs_ext hE h.sys, hs_ext hE h.hmr, hs_ext hE h.hmc, h.ne, h.lo, h.own.ext hE, h.lst.ext hE, h.ap⟩
/-- the blocks of the system are not the columns' -/
theorem ElA.off {w wr : World} {sb mr mc n : Nat} {v u : Value} {C X : List Tm} (h : ElA w wr sb mr mc n v C u X) {g : Nat} (hg : v.ownBlock = some g) : g ≠ sb ∧ g ≠ mr ∧ g ≠ mc := by
  obtain ⟨cur, hc⟩ := ownT_block h.own hg
  refine ⟨fun e => ?_, fun e => ?_, fun e => ?_⟩
  · rw [e, h.sys] at hc; cases hc
  · rw [e, h.hmr] at hc; cases hc
  · rw [e, h.hmc] at hc; cases hc
theorem ElA.loff {w wr : World} {sb mr mc n : Nat} {v u : Value} {C X : List Tm} (h : ElA w wr sb mr mc n v C u X) {g : Nat} (hg : u.ownBlock = some g) : g ≠ sb ∧ g ≠ mr ∧ g ≠ mc := by
  obtain ⟨cur, hc⟩ := ownT_block h.lst hg
  refine ⟨fun e => ?_, fun e => ?_, fun e => ?_⟩
  · rw [e, h.sys] at hc; cases hc
  · rw [e, h.hmr] at hc; cases hc
  · rw [e, h.hmc] at hc; cases hc
theorem ElA.after {w wr w' : World} {sb mr mc n : Nat} {v u : Value} {C X : List Tm} (h : ElA w wr sb mr mc n v C u X) (hg : wr.grownBy w' v.ownBlock) : w'.heap[sb]? = some (.cells #[v, .int .i64 n, .map (some mr), .map (some mc), .slice none 0 0] 73) := by
  rw [hg.block sb (lt_of_get' h.sys) (fun e => (h.off e.symm).1 rfl)]; exact h.sys
/-- the columns have changed, and are laid into the system -/
theorem ElA.put {w wr w' : World} {sb mr mc n : Nat} {v u v' : Value} {C C' X : List Tm} (h : ElA w wr sb mr mc n v C u X) (hO : OwnT w' w.heap.size (fun c => c < w.heap.size) v' C') (hg : wr.grownBy w' v.ownBlock) (hat : v'.ownBlock = v.ownBlock ∨ v'.ownBlock = some wr.heap.size) :
    ElA w (w'.setCell ⟨sb, 0, none⟩ v') sb mr mc n v' C' u X := by
  have hk := h.own.lt
  have hE : Ext w w' := h.ext.grown hg (fun q hq => (hk q hq).1)
  have hb := h.after hg
  have hmr : w'.heap[mr]? = some (.map #[] 0) := by rw [hg.block mr (lt_of_get' h.hmr) (fun e => (h.off e.symm).2.1 rfl)]; exact h.hmr
  have hmc : w'.heap[mc]? = some (.map #[] 0) := by rw [hg.block mc (lt_of_get' h.hmc) (fun e => (h.off e.symm).2.2 rfl)]; exact h.hmc
  have hsl := lt_of_get' h.sys
  have hne : ∀ q, q ≠ sb → (w'.setCell ⟨sb, 0, none⟩ v').heap[q]? = w'.heap[q]? := fun q hq => heap_setCell_other _ _ _ _ hq
  have hS : ∀ c, c < w.heap.size → c < w'.heap.size → (w'.setCell ⟨sb, 0, none⟩ v').heap[c]? = w'.heap[c]? := fun c hc _ => hne c (by have := h.lo.1; omega)
  refine ⟨hE.setCell h.lo.1 v', ?_, ?_, ?_, h.ne, h.lo, ?_, ?_, fun g hg' e => ?_⟩
  · rw [heap_setCell_same w' sb 0 _ _ v' hb]; simp
  · rw [hne mr (fun e => by rw [e, hb] at hmr; cases hmr)]; exact hmr
  · rw [hne mc (fun e => by rw [e, hb] at hmc; cases hmc)]; exact hmc
  · exact hO.keep (fun q hq => hne q (fun e => by
      obtain ⟨cur, hc⟩ := ownT_block hO hq
      rw [e, hb] at hc; cases hc)) hS
  · refine h.lst.keep (fun q hq => ?_) (fun c hc hlt => ?_)
    · rw [hne q (h.loff hq).1]
      exact hg.block q (h.lst.lt q hq).2 (fun e => h.ap q e.symm hq)
    · rw [hne c (by have := h.lo.1; omega)]
      exact hg.block c hlt (fun e => by have := (hk c e.symm).1; have hc' : c < w.heap.size := hc; omega)
  · rcases hat with h1 | h1
    · exact h.ap g (by rw [← h1]; exact hg') e
    · rw [h1] at hg'
      have := (h.lst.lt g e).2
      have := Option.some.inj hg'
      omega

theorem ElA.turn {w wr w' : World} {sb mr mc n : Nat} {v u : Value} {C C' X : List Tm} (h : ElA w wr sb mr mc n v C u X) (hO : OwnT w' w.heap.size (fun c => c < w.heap.size) v C') (hg : wr.grownBy w' v.ownBlock) : ElA w w' sb mr mc n v C' u X := by
  have hk := h.own.lt
  refine ⟨h.ext.grown hg (fun q hq => (hk q hq).1), h.after hg, ?_, ?_, h.ne, h.lo, hO, ?_, h.ap⟩
  · rw [hg.block mr (lt_of_get' h.hmr) (fun e => (h.off e.symm).2.1 rfl)]; exact h.hmr
  · rw [hg.block mc (lt_of_get' h.hmc) (fun e => (h.off e.symm).2.2 rfl)]; exact h.hmc
  · exact h.lst.keep (fun q hq => hg.block q (h.lst.lt q hq).2 (fun e => h.ap q e.symm hq)) (fun c hc hlt => hg.block c hlt (fun e => by have := (hk c e.symm).1; have hc' : c < w.heap.size := hc; omega))

theorem built_sys (n : Int) (a b : Nat) : Try.prog.built 73 [(1, .int .i64 n), (2, .map (some a)), (3, .map (some b))] = some #[.slice none 0 0, .int .i64 n, .map (some a), .map (some b), .slice none 0 0] := by kernel_rfl

theorem wpList_buildS {ops : Array Oper} {rest : List Oper} {o : Oper} {a : Act} {w : World} {Q : Exit → Act → World → Prop} (hg : o.guard = none) (parts : List (Nat × Operand)) (ho : o.op = .build 73 parts.toArray) (vals : List (Nat × Value)) (hv : parts.map (fun p => (p.1, a.eval p.2)) = vals) {cells : Array Value}
    (hb : Try.prog.built 73 vals = some cells) (h : wpList Try.prog ops Q rest (a.put o.dst (.agg cells)) w) : wpList Try.prog ops Q (o :: rest) a w := by
  have e : (parts.toArray.map fun (i, x) => (i, a.eval x)).toList = vals := by rw [← hv]; simp
  refine wpList_build hg 73 parts.toArray ho (by rw [e, hb]; rfl) ?_
  rw [e, hb]
  exact h

theorem red_out {κ : Type} {R : Nat → Option (Vec κ)} {pv : Nat → κ} {b : Vec κ} {j : κ} (hR : ∀ c r, R c = some r → r j = false) (hb : b j = false) : ∀ k, red R pv b k j = false
  | 0 => hb
  | k + 1 => by
    have ih := red_out (pv := pv) hR hb k
    show stp R pv (red R pv b k) k j = false
    unfold stp
    cases hk : R k with
    | none => exact ih
    | some r =>
      simp only
      split
      · show (red R pv b k j != r j) = false
        rw [ih, hR k r hk]; rfl
      · exact ih
theorem vecs_none : vecs (fun _ => none) = fun _ => none := by
  funext c; unfold vecs; split <;> rfl
theorem vecs_at {F : Col → Option Wds} (c : Col) : vecs F c.1 = (F c).map (fun p => bitL p.2) := by
  unfold vecs; rw [dif_pos c.2]

/-- the system after m rows: memory, and the plain law -/
structure ElB (w wr : World) (sb mr mc n m : Nat) (v : Value) (K : List Tm) (bv : Value) (Bm B : List Nat) (F G : Col → Option Wds) (vv : Nat → Vec Nat) : Prop where
  ext : Ext w wr
  sys : wr.heap[sb]? = some (.cells #[v, .int .i64 n, .map (some mr), .map (some mc), bv] 73)
  ne : mr ≠ mc
  lo : w.heap.size ≤ sb ∧ w.heap.size ≤ mr ∧ w.heap.size ≤ mc
  own : OwnT wr w.heap.size (fun c => c < w.heap.size) v K
  bas : OwnN wr w.heap.size bv Bm
  rows : RowsW wr mr m (K.length / 64 + 1) (fun _ => True) F
  chos : RowsW wr mc m (n / 64 + 1) (fun _ => True) G
  sr : Stm wr mr
  sc : Stm wr mc
  plain : Sys vv id K.length m (vecs F) (vecs G) B
  zero : ∀ c r, vecs F c = some r → ∀ j, j < c ∨ K.length ≤ j → r j = false
section
variable {w wr w' : World} {sb mr mc n m : Nat} {v : Value} {K : List Tm} {bv : Value} {Bm B : List Nat} {F G : Col → Option Wds} {vv : Nat → Vec Nat}
theorem Stm.ext {b : Nat} (h : Stm w b) (hb : b < w.heap.size) (hE : Ext w w') : Stm w' b := h.same (hE.block hb)
theorem ElB.next (h : ElB w wr sb mr mc n m v K bv Bm B F G vv) (hE : Ext wr w') : ElB w w' sb mr mc n m v K bv Bm B F G vv :=
  ⟨h.ext.trans hE, hs_ext hE h.sys, h.ne, h.lo, h.own.ext hE, h.bas.ext hE, h.rows.ext hE, h.chos.ext hE, h.sr.ext h.rows.map.lt hE, h.sc.ext h.chos.map.lt hE, h.plain, h.zero⟩
theorem ElB.dom (h : ElB w wr sb mr mc n m v K bv Bm B F G vv) (c : Col) : (F c).isSome = (G c).isSome := by
  have := h.plain.dom c.1
  rw [vecs_at, vecs_at] at this
  simpa using this
theorem ElB.skip (h : ElB w wr sb mr mc n m v K bv Bm B F G vv) (hv : red (vecs F) id (vv m) K.length = zv) : ElB w wr sb mr mc n (m + 1) v K bv Bm B F G vv :=
  ⟨h.ext, h.sys, h.ne, h.lo, h.own, h.bas, h.rows.more (by omega), h.chos.more (by omega), h.sr, h.sc, h.plain.skip hv, h.zero⟩
theorem sb_notmap {b : Nat} {es : Array MapEntry} {cl : Nat} {cs : Array Value} {T : TypeId} {g : Nat} (h : w.heap[b]? = some (.map es cl)) (h2 : w.heap[g]? = some (.cells cs T)) : g ≠ b := fun e => by
  rw [e, h] at h2; cases h2

/-- no row yet -/
theorem ElB.start {u : Value} {X : List Tm} (h : ElA w wr sb mr mc n v K u X) (hK : K.length ≤ 1000000) : ElB w wr sb mr mc n 0 v K (.slice none 0 0) [] [] (fun _ => none) (fun _ => none) vv := by
  refine ⟨h.ext, h.sys, h.ne, h.lo, h.own, OwnN.nil, ⟨(MapK.made_at h.hmr).mono (by omega), fun c p hp => by cases hp⟩, ⟨(MapK.made_at h.hmc).mono (by omega), fun c p hp => by cases hp⟩, Stm.made h.hmr, Stm.made h.hmc, ?_, fun c r hr => ?_⟩
  · rw [vecs_none]; exact Sys.zero vv id K.length
  · rw [vecs_none] at hr; cases hr

/-- a new row: the four steps on the maps -/
theorem ElB.add (h : ElB w wr sb mr mc n m v K bv Bm B F G vv) (c : Col) (hc : c.1 < K.length) {g gc : Nat} {ws cs : List Nat} (hg : w.heap.size ≤ g) (hB : BitW wr g ws) (hC : BitW wr gc cs) (hl : ws.length = K.length / 64 + 1) (hlc : cs.length = n / 64 + 1)
    (hv : ∀ j, bitL ws j = red (vecs F) id (vv m) K.length j) (h1 : bitL ws c.1 = true) (hf : ∀ j, j < c.1 ∨ K.length ≤ j → bitL ws j = false) (hcs : ∀ j, bitL cs j = (chs (vecs F) (vecs G) id (vv m) K.length j != decide (j = m))) :
    ∃ k1 o1 o2 k2 o3 o4 F' G', (Instr.mapEntry 71 (.map (some mr)) (.int .i64 (c.1 : Nat))).run Try.prog wr = .ok (.tuple #[.slice none 0 0, .int .i64 (k1 : Nat)]) (ChangeMaps.setBlock wr mr o1) ∧
      (Instr.entryStore 71 (.map (some mr)) (.int .i64 (k1 : Nat)) (bitsV (g, ws))).run Try.prog (ChangeMaps.setBlock wr mr o1) = .ok () (ChangeMaps.setBlock wr mr o2) ∧
      (Instr.mapEntry 71 (.map (some mc)) (.int .i64 (c.1 : Nat))).run Try.prog (ChangeMaps.setBlock wr mr o2) = .ok (.tuple #[.slice none 0 0, .int .i64 (k2 : Nat)]) (ChangeMaps.setBlock (ChangeMaps.setBlock wr mr o2) mc o3) ∧
      (Instr.entryStore 71 (.map (some mc)) (.int .i64 (k2 : Nat)) (bitsV (gc, cs))).run Try.prog (ChangeMaps.setBlock (ChangeMaps.setBlock wr mr o2) mc o3) = .ok () (ChangeMaps.setBlock (ChangeMaps.setBlock wr mr o2) mc o4) ∧
      ElB w (ChangeMaps.setBlock (ChangeMaps.setBlock wr mr o2) mc o4) sb mr mc n (m + 1) v K bv Bm (B ++ [m]) F' G' vv := by
  have hnF : F c = none := by
    cases hk : F c with
    | none => rfl
    | some r =>
      have := red_pivot h.plain.ech (vv m) K.length c.1 hc (by rw [vecs_at, hk]; rfl)
      rw [id_eq, ← hv, h1] at this
      cases this
  have hnG : G c = none := by
    have := h.dom c
    rw [hnF] at this
    cases hk : G c with
    | none => rfl
    | some r => rw [hk] at this; cases this
  obtain ⟨k1, o1, e1, e2⟩ := entry_new h.rows.map h.sr c (by rw [hnF]; rfl)
  obtain ⟨o2, e3, e4, e5⟩ := e2 (bitsV (g, ws))
  obtain ⟨w2, hw2⟩ : ∃ w2, w2 = ChangeMaps.setBlock wr mr o2 := ⟨_, rfl⟩
  have hne2 : ∀ k, k ≠ mr → w2.heap[k]? = wr.heap[k]? := fun k hk => by rw [hw2]; exact turned_block hk
  have hcm : MapK encI w2 mc m (fun c => (G c).map bitsV) := h.chos.map.same (hne2 mc h.ne.symm)
  have hcs2 : Stm w2 mc := h.sc.same (hne2 mc h.ne.symm)
  obtain ⟨k2, o3, e6, e7⟩ := entry_new hcm hcs2 c (by rw [hnG]; rfl)
  obtain ⟨o4, e8, e9, e10⟩ := e7 (bitsV (gc, cs))
  obtain ⟨w4, hw4⟩ : ∃ w4, w4 = ChangeMaps.setBlock w2 mc o4 := ⟨_, rfl⟩
  have hne4 : ∀ k, k ≠ mc → w4.heap[k]? = w2.heap[k]? := fun k hk => by rw [hw4]; exact turned_block hk
  have hnn : ∀ k, k ≠ mr → k ≠ mc → w4.heap[k]? = wr.heap[k]? := fun k h1 h2 => (hne4 k h2).trans (hne2 k h1)
  obtain ⟨esr, clr, hbr, -⟩ := id h.rows.map
  obtain ⟨esc, clc, hbc, -⟩ := id h.chos.map
  have hcell : ∀ {k : Nat} {cs : Array Value} {T : TypeId}, wr.heap[k]? = some (Obj.cells cs T) → w4.heap[k]? = wr.heap[k]? := fun hk => hnn _ (sb_notmap hbr hk) (sb_notmap hbc hk)
  have hbit : ∀ {k : Nat} {l : List Nat}, BitW wr k l → BitW w4 k l := fun hk => hk.same (hcell hk.row)
  obtain ⟨F', hF'⟩ : ∃ F' : Col → Option Wds, F' = fun z => if z = c then some (g, ws) else F z := ⟨_, rfl⟩
  obtain ⟨G', hG'⟩ : ∃ G' : Col → Option Wds, G' = fun z => if z = c then some (gc, cs) else G z := ⟨_, rfl⟩
  have hF1 : F' c = some (g, ws) := by rw [hF']; simp
  have hG1 : G' c = some (gc, cs) := by rw [hG']; simp
  have hF2 : ∀ z, z ≠ c → F' z = F z := fun z hz => by rw [hF']; simp [hz]
  have hG2 : ∀ z, z ≠ c → G' z = G z := fun z hz => by rw [hG']; simp [hz]
  have hvF : ∀ d, d ≠ c.1 → vecs F' d = vecs F d := fun d hd => by
    unfold vecs
    split
    · rename_i h'; rw [hF2 ⟨d, h'⟩ (fun e => hd (by rw [← e]))]
    · rfl
  have hvG : ∀ d, d ≠ c.1 → vecs G' d = vecs G d := fun d hd => by
    unfold vecs
    split
    · rename_i h'; rw [hG2 ⟨d, h'⟩ (fun e => hd (by rw [← e]))]
    · rfl
  have hws : bitL ws = red (vecs F) id (vv m) K.length := funext hv
  refine ⟨k1, o1, o2, k2, o3, o4, F', G', e1, e3, by rw [← hw2]; exact e6, by rw [← hw2]; exact e8, ?_⟩
  rw [← hw2, ← hw4]
  rw [← hw2] at e4 e5
  rw [← hw4] at e9 e10
  have hE : Ext w w4 := by
    rw [hw4, hw2]
    exact (h.ext.turned h.lo.2.1).turned h.lo.2.2
  refine ⟨hE, (hcell h.sys).trans h.sys, h.ne, h.lo, ?_, ?_, ⟨?_, fun d p hp => ?_⟩, ⟨?_, fun d p hp => ?_⟩, ?_, e9, ?_, fun d r hd j hj => ?_⟩
  · refine h.own.keep (fun q hq => ?_) (fun d hd _ => ?_)
    · obtain ⟨cur, hcu⟩ := ownT_block h.own hq; exact hcell hcu
    · exact hnn d (by have := h.lo.2.1; have hd' : d < w.heap.size := hd; omega) (by have := h.lo.2.2; have hd' : d < w.heap.size := hd; omega)
  · exact h.bas.keep (fun q hq => by obtain ⟨cur, hcu⟩ := h.bas.block hq; exact hcell hcu)
  · have := e5 (fun z => (F' z).map bitsV) (by simp only [hF1, Option.map_some]) (fun z hz => by simp only [hF2 z hz])
    exact this.same (hne4 mr h.ne)
  · by_cases e : d = c
    · subst e; rw [hF1] at hp; cases hp; exact ⟨hbit hB, hl, trivial⟩
    · rw [hF2 d e] at hp; exact ⟨hbit (h.rows.bits d p hp).1, (h.rows.bits d p hp).2⟩
  · exact e10 (fun z => (G' z).map bitsV) (by simp only [hG1, Option.map_some]) (fun z hz => by simp only [hG2 z hz])
  · by_cases e : d = c
    · subst e; rw [hG1] at hp; cases hp; exact ⟨hbit hC, hlc, trivial⟩
    · rw [hG2 d e] at hp; exact ⟨hbit (h.chos.bits d p hp).1, (h.chos.bits d p hp).2⟩
  · exact e4.same (hne4 mr h.ne)
  · refine h.plain.add (c := c.1) (q := bitL cs) hc ?_ (fun d r hd hr => h.zero d r hr c.1 (.inl hd)) hcs ?_ hvF ?_ hvG
    · rw [← hws]; exact h1
    · rw [vecs_at, hF1, ← hws]; rfl
    · rw [vecs_at, hG1]; rfl
  · by_cases e : d = c.1
    · subst e
      rw [vecs_at, hF1] at hd
      cases hd
      exact hf j hj
    · rw [hvF d e] at hd
      exact h.zero d r hd j hj
theorem ElB.after (h : ElB w wr sb mr mc n m v K bv Bm B F G vv) (hg : wr.grownBy w' bv.ownBlock) : w'.heap[sb]? = some (.cells #[v, .int .i64 n, .map (some mr), .map (some mc), bv] 73) := by
  rw [hg.block sb (lt_of_get' h.sys) (fun e => by
    obtain ⟨cur, hc⟩ := h.bas.block e.symm
    rw [h.sys] at hc; cases hc)]; exact h.sys
/-- the basis has grown, and is laid into the system -/
theorem ElB.base {bv' : Value} {Bm' : List Nat} (h : ElB w wr sb mr mc n m v K bv Bm B F G vv) (hO : OwnN w' w.heap.size bv' Bm') (hg : wr.grownBy w' bv.ownBlock) : ElB w (w'.setCell ⟨sb, 4, none⟩ bv') sb mr mc n m v K bv' Bm' B F G vv := by
  have hsb := h.after hg
  obtain ⟨esr, clr, hbr, -⟩ := id h.rows.map
  obtain ⟨esc, clc, hbc, -⟩ := id h.chos.map
  have hE : Ext w w' := h.ext.grown hg (fun q hq => (h.bas.lt q hq).1)
  have hcell : ∀ {k : Nat} {cs : Array Value} {T : TypeId}, wr.heap[k]? = some (Obj.cells cs T) → T ≠ 3 → T ≠ 73 → (w'.setCell ⟨sb, 4, none⟩ bv').heap[k]? = wr.heap[k]? := fun {k cs T} hk hT hT2 => by
    rw [heap_setCell_other _ _ _ _ (by show k ≠ sb; exact fun e => by rw [e, h.sys] at hk; cases hk; exact hT2 rfl)]
    exact hg.block k (lt_of_get' hk) (fun e => by obtain ⟨cur, hc⟩ := h.bas.block e.symm; rw [hk] at hc; cases hc; exact hT rfl)
  have hmap : ∀ {k : Nat} {es : Array MapEntry} {cl : Nat}, wr.heap[k]? = some (Obj.map es cl) → (w'.setCell ⟨sb, 4, none⟩ bv').heap[k]? = wr.heap[k]? := fun {k es cl} hk => by
    rw [heap_setCell_other _ _ _ _ (by show k ≠ sb; exact fun e => by rw [e, h.sys] at hk; cases hk)]
    exact hg.block k (lt_of_get' hk) (fun e => by obtain ⟨cur, hc⟩ := h.bas.block e.symm; rw [hk] at hc; cases hc)
  have hbit : ∀ {k : Nat} {l : List Nat}, BitW wr k l → BitW (w'.setCell ⟨sb, 4, none⟩ bv') k l := fun hk => hk.same (hcell hk.row (by decide) (by decide))
  refine ⟨hE.setCell h.lo.1 bv', ?_, h.ne, h.lo, ?_, ?_, ⟨h.rows.map.same (hmap hbr), fun d p hp => ⟨hbit (h.rows.bits d p hp).1, (h.rows.bits d p hp).2⟩⟩, ⟨h.chos.map.same (hmap hbc), fun d p hp => ⟨hbit (h.chos.bits d p hp).1, (h.chos.bits d p hp).2⟩⟩, h.sr.same (hmap hbr), h.sc.same (hmap hbc), h.plain, h.zero⟩
  · rw [heap_setCell_same w' sb 4 _ _ bv' hsb]; simp
  · refine h.own.keep (fun q hq => ?_) (fun d hd hlt => ?_)
    · obtain ⟨cur, hcu⟩ := ownT_block h.own hq; exact hcell hcu (by decide) (by decide)
    · have hd' : d < w.heap.size := hd
      rw [heap_setCell_other _ _ _ _ (by show d ≠ sb; have := h.lo.1; omega)]
      exact hg.block d hlt (fun e => by have := (h.bas.lt d e.symm).1; omega)
  · exact hO.keep (fun q hq => heap_setCell_other _ _ _ _ (by
      show q ≠ sb
      intro e
      obtain ⟨cur, hc⟩ := hO.block hq
      rw [e, hsb] at hc; cases hc))
end

end Go.Proofs.Ytckgjebcehbkfaa

namespace Go.Proofs.Ytckgjebcehbkfaa
open Go Go.RowKit
open Go.Maps (Keyed)
set_option linter.unusedVariables false
set_option linter.unusedSimpArgs false

theorem nat_sub_len : ∀ {K M : List Nat}, K.Nodup → (∀ x ∈ K, x ∈ M) → K.length ≤ M.length
  | [], M, _, _ => by simp
  | x :: K, M, hn, hs => by
    have hn' := List.nodup_cons.1 hn
    have hx := hs x (by simp)
    have ih := nat_sub_len (K := K) (M := M.erase x) hn'.2 (fun y hy => (List.mem_erase_of_ne (fun e => hn'.1 (by rw [← e]; exact hy))).2 (hs y (by simp [hy])))
    rw [List.length_erase_of_mem hx] at ih
    have := List.length_pos_of_mem hx
    simp only [List.length_cons]
    omega
theorem nodup_sub_len : ∀ {K M : List Tm}, K.Nodup → (∀ x ∈ K, x ∈ M) → K.length ≤ M.length
  | [], M, _, _ => by simp
  | x :: K, M, hn, hs => by
    have hn' := List.nodup_cons.1 hn
    have hx := hs x (by simp)
    have ih := nodup_sub_len (K := K) (M := M.erase x) hn'.2 (fun y hy => (List.mem_erase_of_ne (fun e => hn'.1 (by rw [← e]; exact hy))).2 (hs y (by simp [hy])))
    rw [List.length_erase_of_mem hx] at ih
    have := List.length_pos_of_mem hx
    simp only [List.length_cons]
    omega
theorem nodup_len_lt {B : List Nat} {m : Nat} (h : B.Pairwise (· < ·)) (hl : ∀ i ∈ B, i < m) : B.length ≤ m := by
  have := nat_sub_len (K := B) (M := List.range m) (h.imp (fun h => Nat.ne_of_lt h)) (fun i hi => List.mem_range.2 (hl i hi))
  simpa using this
/-- the vector of the i-th term over the columns K -/
def vvL (K L : List Tm) (i : Nat) : Vec Nat := rowB K (sumT ((L[i]?).getD default))
/-- the system of the list L, with the columns of t -/
def Elim (w w' : World) (sb : Nat) (L : List Tm) (t : Tm) : Prop :=
  Ext w w' ∧ ∃ mr mc v K bv B F G, ElB w w' sb mr mc L.length L.length v K bv B B F G (vvL K L) ∧ Asc K ∧ (∀ x, x ∈ K ↔ x ∈ allS (L ++ [t])) ∧ K.length ≤ 80000

theorem run_newMap (w : World) : (Instr.makeMap 71 none).run Try.prog w = .ok (.map (some w.heap.size)) (w.alloc (.map #[] 0)) := by
  simp [Instr.makeMap, run_underlying Try.underlying71, Result.andThen]

set_option maxRecDepth 100000 in
set_option maxHeartbeats 4000000 in
theorem eliminate_any {w : World} {S S' : Nat → Prop} {a a' : Option Addr} {cap cap' : Nat} {L : List Tm} {t : Tm} (hz : sizeL L + sizeT t ≤ 80000) (hL : LsT w S (.slice a L.length cap) L) (hT : TmW w S' a' cap' t) :
    Calls Try.prog 59 #[.slice a L.length cap, .agg #[.int .i64 t.kind, .string t.name, .int .i64 t.sort, .slice a' t.kids.length cap']] w fun e w' => ∃ sb, e = .returned (.pointer (some ⟨sb, 0, none⟩)) ∧ Elim w w' sb L t := by
  obtain ⟨-, hl, hc⟩ := hL.len
  have hl' := hT.len
  have hc' := hT.cap
  unfold maxLen at hc hc'
  have hll := len_size L
  obtain ⟨bx, hbx⟩ : ∃ bx, bx = w.heap.size := ⟨_, rfl⟩
  obtain ⟨w1, hw1⟩ : ∃ w1, w1 = w.alloc (.cells #[.int .i64 t.kind, .string t.name, .int .i64 t.sort, .slice a' t.kids.length cap'] 24) := ⟨_, rfl⟩
  obtain ⟨mr, hmr⟩ : ∃ mr, mr = w1.heap.size := ⟨_, rfl⟩
  obtain ⟨w2, hw2⟩ : ∃ w2, w2 = w1.alloc (.map #[] 0) := ⟨_, rfl⟩
  obtain ⟨mc, hmc⟩ : ∃ mc, mc = w2.heap.size := ⟨_, rfl⟩
  obtain ⟨w3, hw3⟩ : ∃ w3, w3 = w2.alloc (.map #[] 0) := ⟨_, rfl⟩
  obtain ⟨sb, hsb⟩ : ∃ sb, sb = w3.heap.size := ⟨_, rfl⟩
  obtain ⟨w4, hw4⟩ : ∃ w4, w4 = w3.alloc (.cells #[.slice none 0 0, .int .i64 L.length, .map (some mr), .map (some mc), .slice none 0 0] 73) := ⟨_, rfl⟩
  have hE1 : Ext w w1 := by rw [hw1]; exact Ext.alloc w _
  have hE2 : Ext w1 w2 := by rw [hw2]; exact Ext.alloc w1 _
  have hE3 : Ext w2 w3 := by rw [hw3]; exact Ext.alloc w2 _
  have hE4 : Ext w3 w4 := by rw [hw4]; exact Ext.alloc w3 _
  have hT4 : w1.heap[bx]? = some (.cells #[.int .i64 t.kind, .string t.name, .int .i64 t.sort, .slice a' t.kids.length cap'] 24) := by rw [hw1, hbx]; exact hs_new
  have hmr4 : w2.heap[mr]? = some (.map #[] 0) := by rw [hw2, hmr]; exact hs_new
  have hmc4 : w3.heap[mc]? = some (.map #[] 0) := by rw [hw3, hmc]; exact hs_new
  have hsb4 : w4.heap[sb]? = some (.cells #[.slice none 0 0, .int .i64 L.length, .map (some mr), .map (some mc), .slice none 0 0] 73) := by rw [hw4, hsb]; exact hs_new
  have HT4 := Lib.hid (hs_ext (hE2.trans (hE3.trans hE4)) hT4)
  have HMR4 := Lib.hid (hs_ext (hE3.trans hE4) hmr4)
  have HMC4 := Lib.hid (hs_ext hE4 hmc4)
  have HSB4 := Lib.hid hsb4
  have HE4 := Lib.hid (hE1.trans (hE2.trans (hE3.trans hE4)))
  have HLO : Hid (w.heap.size ≤ sb ∧ w.heap.size ≤ mr ∧ w.heap.size ≤ mc ∧ mr ≠ mc) := Lib.hid (by
    have := hE1.size
    have := hE2.size
    have := hE3.size
    have := lt_of_get' hmr4
    omega)
  have hn80 : L.length ≤ 80000 := by omega
  have HL4 := Lib.hid (hL.below.ext HE4.out)
  have HTT := Lib.hid (hT.below.ext HE4.out)
  have hcon := fun (w' : World) (hE : Ext w4 w') => sClone_any (w := w') (a := a) (cap := cap) (L := L) (S := fun c => c < w.heap.size) (by omega) (fun c hc => Nat.lt_of_lt_of_le hc (HE4.out.trans hE).size) (HL4.out.ext hE)
  have HCON := Lib.hid hcon
  have HZ := Lib.hid hz
  have hLW := Lib.hid hL.below
  clear hE1 hE2 hE3 hE4 hT4 hmr4 hmc4 hsb4 hL hT hcon hz
  go_enter Try.func59, Try.ntmps59
  go_upto_region 1 with fail
  rw [← hw1, ← hbx]
  clear hw1
  have hk1 : (Instr.makeMap 71 none).run Try.prog w1 = .ok (.map (some mr)) w2 := by rw [hw2, hmr]; exact run_newMap w1
  have hk2 : (Instr.makeMap 71 none).run Try.prog w2 = .ok (.map (some mc)) w3 := by rw [hw3, hmc]; exact run_newMap w2
  clear hw2 hw3 hmr hmc hbx
  go_upto_region 2 with (refine wpList_buildS rfl [_, _, _] rfl [(1, .int .i64 L.length), (2, .map (some mr)), (3, .map (some mc))] rfl (built_sys _ _ _) ?_)
  rw [← hw4, ← hsb]
  clear hw4 hsb hk1 hk2
  have b0 : w4.cell? ⟨bx, 0, none⟩ = some (.int .i64 t.kind) := by rw [cellc HT4.out]; rfl
  have b1 : w4.cell? ⟨bx, 1, none⟩ = some (.string t.name) := by rw [cellc HT4.out]; rfl
  have b2 : w4.cell? ⟨bx, 2, none⟩ = some (.int .i64 t.sort) := by rw [cellc HT4.out]; rfl
  have b3 : w4.cell? ⟨bx, 3, none⟩ = some (.slice a' t.kids.length cap') := by rw [cellc HT4.out]; rfl
  obtain ⟨X, hX⟩ : ∃ X, X = L ++ [t] := ⟨_, rfl⟩
  have HX := Lib.hid hX
  have HXL : Hid (X.length = L.length + 1) := Lib.hid (by rw [hX]; simp)
  have HXZ : Hid (sizeL X ≤ 80000) := Lib.hid (by rw [hX, sizeL_append, sizeL, sizeL]; have := HZ.out; omega)
  have HN4 : Hid (sb < w4.heap.size ∧ mr < w4.heap.size ∧ mc < w4.heap.size) := Lib.hid ⟨lt_of_get' HSB4.out, lt_of_get' HMR4.out, lt_of_get' HMC4.out⟩
  have hfin : ∀ w5 u u' w6, Ext w4 w5 → OwnT w5 w4.heap.size (fun c => c < w.heap.size) u L → OwnT w6 w4.heap.size (fun c => c < w.heap.size) u' (L ++ [t]) → w5.grownBy w6 u.ownBlock → ∃ ua uc, u' = .slice ua X.length uc ∧ ElA w w6 sb mr mc L.length (.slice none 0 0) (allS (X.take 0)) u' X := by
    intro w5 u u' w6 hE5 hO5 o6 g6
    have hE6 : Ext w w6 := (HE4.out.trans hE5).grown g6 (fun q hq => Nat.le_trans HE4.out.size (hO5.lt q hq).1)
    have hlt := fun q hq => (hO5.lt q hq).1
    have hn := HN4.out
    have hkeep : ∀ {k : Nat} {o : Obj}, k < w4.heap.size → w4.heap[k]? = some o → w6.heap[k]? = some o := fun {k o} hk ho => (g6.block k (Nat.lt_of_lt_of_le hk hE5.size) (fun e => by have := hlt k e.symm; omega)).trans (hs_ext hE5 ho)
    obtain ⟨ua, uc, hu, -⟩ := o6.ls
    rw [← HX.out] at hu
    exact ⟨ua, uc, hu, hE6, hkeep hn.1 HSB4.out, hkeep hn.2.1 HMR4.out, hkeep hn.2.2 HMC4.out, HLO.out.2.2.2, ⟨HLO.out.1, HLO.out.2.1, HLO.out.2.2.1⟩, OwnT.nil, by rw [HX.out]; exact o6.low HE4.out.size, fun g hg => nomatch hg⟩
  have HFIN := Lib.hid hfin
  clear hfin hX
  go_cut [23, 24, 25] from 19 to 25 (fun v n k wx => ∃ ua uc, v = .slice ua X.length uc ∧ n = .int .i64 X.length ∧ k = .int .i64 0 ∧ ElA w wx sb mr mc L.length (.slice none 0 0) (allS (X.take 0)) v X)
  case first =>
    have b0 : w4.drew.cell? ⟨bx, 0, none⟩ = some (.int .i64 t.kind) := b0
    have b1 : w4.drew.cell? ⟨bx, 1, none⟩ = some (.string t.name) := b1
    have b2 : w4.drew.cell? ⟨bx, 2, none⟩ = some (.int .i64 t.sort) := b2
    have b3 : w4.drew.cell? ⟨bx, 3, none⟩ = some (.slice a' t.kids.length cap') := b3
    go_region_law (first
      | (refine step_appT rfl (.tmp 20) (.tmp 22) rfl rfl rfl (by first | exact HO5.out | exact HO5.out.ext (by repeat (first | exact Ext.refl _ | exact Ext.alloc _ _ | apply Ext.then_dr | apply Ext.then_drN | apply Ext.then_drN2 | (refine Ext.then_al ?_ _)))) (Ext.size (by first | exact HE5.out | exact HE5.out.then_al _)) (fun c hc e => by have := (HO5.out.lt c e).1; have := HE4.out.size; have hc' : c < w.heap.size := hc; omega) (by omega) (X := [t]) (by simp) (by first | exact one_ls hs_new (HTT.out.ext (by first | exact HE5.out | exact HE5.out.then_al _)) | exact one_ls (hs_ext HE5a.out (by first | exact hs_new | (show (World.alloc _ _).heap[_]? = _; exact hs_new))) (HTT.out.ext HE5.out)) ?_; intro u' w6 o6 g6 k6; obtain ⟨va, vc, hv, hA⟩ := HFIN.out _ _ _ _ (by first | exact HE5.out | exact HE5.out.then_al _) (by first | exact HO5.out | exact HO5.out.ext (by repeat (first | exact Ext.refl _ | exact Ext.alloc _ _ | apply Ext.then_dr | apply Ext.then_drN | apply Ext.then_drN2 | (refine Ext.then_al ?_ _)))) o6 g6; have HA := Lib.hid hA; have HVL := Lib.hid hv; subst hv; clear o6 g6 k6 hA)
      | (go_simp; go_at_call 17; refine (HCON.out _ (by repeat (first | exact Ext.refl _ | exact Ext.alloc _ _ | apply Ext.then_dr | apply Ext.then_drN | apply Ext.then_drN2 | (refine Ext.then_al ?_ _)))).mono ?_; rintro e w5 ⟨u, rfl, hE5a, hO5⟩; have HE5a := Lib.hid hE5a; have HE5 : Hid (Ext w4 w5) := Lib.hid (Ext.trans (by repeat (first | exact Ext.refl _ | exact Ext.alloc _ _ | apply Ext.then_dr | apply Ext.then_drN | apply Ext.then_drN2 | (refine Ext.then_al ?_ _))) hE5a); have HO5 := Lib.hid (hO5.low (show w4.heap.size ≤ _ from Ext.size (by repeat (first | exact Ext.refl _ | exact Ext.alloc _ _ | apply Ext.then_dr | apply Ext.then_drN | apply Ext.then_drN2 | (refine Ext.then_al ?_ _))))); try have b0 := cs_ext hE5a b0; try have b1 := cs_ext hE5a b1; try have b2 := cs_ext hE5a b2; try have b3 := cs_ext hE5a b3; clear hE5a hO5))
    all_goals (go_wp2_with fail; go_meet; exact ⟨_, _, rfl, rfl, rfl, HA.out⟩)
  case rest =>
    obtain ⟨ua, uc, rfl, rfl, rfl, hA⟩ := hcut
    obtain ⟨-, hul, huc⟩ := (show LsT _ _ (.slice ua X.length uc) X from hA.lst.ls).len
    unfold maxLen at huc
    have hxl2 : X.length ≤ 90000 := by have := HXL.out; omega
    have HA := Lib.hid hA
    clear hA b0 b1 b2 b3 HCON
    go_wp2_with fail
    go_loopw [7, 25] (fun _ kv wr => Hid (∃ (k : Nat) (v : Value), kv = .int .i64 k ∧ k ≤ X.length ∧ ElA w wr sb mr mc L.length v (allS (X.take k)) (.slice ua X.length uc) X)) (fun _ kv _ => X.length - (intOf kv).toNat)
    case atStart => exact Lib.hid ⟨0, _, rfl, by omega, HA.out⟩
    case round =>
      obtain ⟨k, v, rfl, hk, hI⟩ := hrel.out
      have HI := Lib.hid hI
      clear hI hrel
      by_cases hlt : k < X.length
      · obtain ⟨x, hx⟩ : ∃ x, X[k]? = some x := ⟨_, List.getElem?_eq_getElem hlt⟩
        obtain ⟨xb, xo, xa, xc, rfl, x0, x1, x2, x3, hTx⟩ := HI.out.lst.ls.ts.at hx
        obtain ⟨bq, hbq⟩ : ∃ bq, bq = wr.heap.size := ⟨_, rfl⟩
        obtain ⟨w2, hw2⟩ : ∃ w2, w2 = wr.alloc (.cells #[.int .i64 x.kind, .string x.name, .int .i64 x.sort, .slice xa x.kids.length xc] 24) := ⟨_, rfl⟩
        have HE2 : Hid (Ext wr w2) := Lib.hid (by rw [hw2]; exact Ext.alloc _ _)
        have y0 : w2.cell? ⟨bq, 0, none⟩ = some (.int .i64 x.kind) := by rw [hw2, hbq]; exact cs_new rfl
        have y1 : w2.cell? ⟨bq, 1, none⟩ = some (.string x.name) := by rw [hw2, hbq]; exact cs_new rfl
        have y2 : w2.cell? ⟨bq, 2, none⟩ = some (.int .i64 x.sort) := by rw [hw2, hbq]; exact cs_new rfl
        have y3 : w2.cell? ⟨bq, 3, none⟩ = some (.slice xa x.kids.length xc) := by rw [hw2, hbq]; exact cs_new rfl
        have HI2 := Lib.hid (HI.out.next HE2.out)
        have HTX := Lib.hid (hTx.ext HE2.out)
        have HX2 := Lib.hid hx
        have hx6 : sizeT x ≤ 80000 := by have := sizeL_get hx; have := HXZ.out; omega
        have hcon := fun (w' : World) (hE : Ext w2 w') => summands_any 90000 w' _ xa xc x (by omega) (Nat.le_refl _) (fun c hc => Nat.lt_of_lt_of_le hc (HI2.out.ext.trans hE).size) (HTX.out.ext hE)
        have HCON := Lib.hid hcon
        have HSP : Hid ((allS (X.take k)).length ≤ 80000) := Lib.hid (by have := allS_len (X.take k); have := sizeL_append (X.take k) (X.drop k); rw [List.take_append_drop] at this; have := allS_len (X.take k); have := HXZ.out; omega)
        have HSQ : Hid ((sumT x).length ≤ 80000) := Lib.hid (by have := sumT_len x; omega)
        have HAT := Lib.hid (allS_take hx)
        obtain ⟨va, vc, hv, hvl, hvc, -⟩ := id HI.out.own.ls
        unfold maxLen at hvc
        have hs0 : w2.cell? ⟨sb, 0, none⟩ = some v := by rw [cellc HI2.out.sys]; rfl
        clear hx hTx hcon hx6
        go_upto_region 5 with fail
        rw [← hw2, ← hbq]
        clear hw2 hbq x0 x1 x2 x3
        have HFN : Hid (∀ w3 u v' w4, Ext w2 w3 → OwnT w3 w2.heap.size (fun c => c < w.heap.size) u (sumT x) → OwnT w4 w.heap.size (fun c => c < w.heap.size) v' (allS (X.take k) ++ sumT x) → w3.grownBy w4 (Value.slice va (allS (X.take k)).length vc).ownBlock → (v'.ownBlock = (Value.slice va (allS (X.take k)).length vc).ownBlock ∨ v'.ownBlock = some w3.heap.size) →
            w4.cell? ⟨sb, 0, none⟩ = some (Value.slice va (allS (X.take k)).length vc) ∧ w4.frozen? ⟨sb, 0, none⟩ = false ∧ ElA w (w4.setCell ⟨sb, 0, none⟩ v') sb mr mc L.length v' (allS (X.take (k + 1))) (.slice (some ⟨xb, xo, none⟩) X.length uc) X) := Lib.hid (by
          intro w3 u v' w4 hE3 hO3 o4 g4 k4
          have hI3 := hv ▸ HI2.out.next hE3
          have hb := hI3.after g4
          refine ⟨by rw [cellc hb]; rfl, frozenc hb, ?_⟩
          rw [HAT.out]
          exact hI3.put o4 g4 k4)
        have HWN : Hid (w.heap.size ≤ w2.heap.size) := Lib.hid HI2.out.ext.size
        subst hv
        have hs0 : w2.drew.cell? ⟨sb, 0, none⟩ = _ := hs0
        have y0 : w2.drew.cell? ⟨bq, 0, none⟩ = some (.int .i64 x.kind) := y0
        have y1 : w2.drew.cell? ⟨bq, 1, none⟩ = some (.string x.name) := y1
        have y2 : w2.drew.cell? ⟨bq, 2, none⟩ = some (.int .i64 x.sort) := y2
        have y3 : w2.drew.cell? ⟨bq, 3, none⟩ = some (.slice xa x.kids.length xc) := y3
        go_region_law (first
          | (refine step_appT rfl (.tmp 33) (.tmp 35) rfl rfl rfl (HI2.out.own.ext HE3.out) (Nat.le_trans HWN.out HE3.out.size) (fun c hc e => by have := (HI2.out.own.lt c e).1; have hc' : c < w.heap.size := hc; omega) (by have := HSP.out; omega) (X := sumT x) (by have := HSQ.out; omega) HO3.out.ls ?_; intro v' w6 o6 g6 k6; obtain ⟨z0, z1, hA⟩ := HFN.out _ _ _ _ HE3.out HO3.out o6 g6 k6; obtain ⟨pa, pc, hp, -⟩ := id hA.own.ls; have HA := Lib.hid hA; subst hp; clear o6 g6 k6 hA)
          | (go_simp; go_at_call 43; refine (HCON.out _ (by repeat (first | exact Ext.refl _ | exact Ext.alloc _ _ | apply Ext.then_dr | apply Ext.then_drN | apply Ext.then_drN2 | (refine Ext.then_al ?_ _)))).mono ?_; rintro e w5 ⟨u, rfl, hE5a, hO5⟩; have HE3 : Hid (Ext w2 w5) := Lib.hid (Ext.trans (by repeat (first | exact Ext.refl _ | exact Ext.alloc _ _ | apply Ext.then_dr | apply Ext.then_drN | apply Ext.then_drN2 | (refine Ext.then_al ?_ _))) hE5a); have HO3 := Lib.hid (hO5.low (show w2.heap.size ≤ _ from Ext.size (by repeat (first | exact Ext.refl _ | exact Ext.alloc _ _ | apply Ext.then_dr | apply Ext.then_drN | apply Ext.then_drN2 | (refine Ext.then_al ?_ _))))); try have hs0 := cs_ext hE5a hs0; obtain ⟨qa, qc, hq, -⟩ := id hO5.ls; subst hq; clear hE5a hO5))
        all_goals
          go_wp2_with fail
          go_roundw
          case rel => exact Lib.hid ⟨k + 1, _, by go_num, by omega, HA.out⟩
          case measure => simp [intOf]; omega
      · have HTK : Hid (X.take k = X) := Lib.hid (List.take_of_length_le (by omega))
        have hI := HI.out
        rw [HTK.out] at hI
        obtain ⟨C, hC⟩ : ∃ C, C = allS X := ⟨_, rfl⟩
        have HC80 : Hid (C.length ≤ 80000 ∧ ∀ y ∈ C, sizeT y ≤ 80000) := Lib.hid (by rw [hC]; exact ⟨by have := allS_len X; have := HXZ.out; omega, fun y hy => by have := allS_size hy; have := HXZ.out; omega⟩)
        have HCX : Hid (C = allS (L ++ [t])) := Lib.hid (by rw [hC, HX.out])
        rw [← hC] at hI
        obtain ⟨va, vc, hv, hvl, hvc, -⟩ := id hI.own.ls
        unfold maxLen at hvc
        have hs0 : wr.cell? ⟨sb, 0, none⟩ = some v := by rw [cellc hI.sys]; rfl
        have hcon := sort_any hI.own (fun c hc e => by have := (hI.own.lt c e).1; have hc' : c < w.heap.size := hc; omega) (by have := HC80.out.1; omega) (fun y hy => by have := HC80.out.2 y hy; omega)
        have HI := Lib.hid hI
        subst hv
        have HCON := Lib.hid hcon
        clear hI hC hcon HTK
        go_wp2_with fail
        refine HCON.out.mono ?_
        rintro e w3 ⟨rfl, C2, hpm, hpw, hO3, hg3⟩
        have HI3 := Lib.hid (HI.out.turn hO3 hg3)
        have hs0 : w3.cell? ⟨sb, 0, none⟩ = some (.slice va C.length vc) := by rw [cellc HI3.out.sys]; rfl
        have HPM := Lib.hid hpm
        have hcon := compact_own HI3.out.own (fun c hc e => by have := (HI3.out.own.lt c e).1; have hc' : c < w.heap.size := hc; omega) (fun y hy => by have := HC80.out.2 y (hpm.mem_iff.1 hy); omega) hpw
        have HCON2 := Lib.hid hcon
        clear hpm hpw hO3 hg3 hcon
        go_wp2_with fail
        refine HCON2.out.mono ?_
        rintro e w5 ⟨v', K, rfl, hK1, hK2, hO5, hv5, hg5⟩
        obtain ⟨ka, kc, hkv, hkl, hkc, -⟩ := id hO5.ls
        unfold maxLen at hkc
        subst hkv
        have z0 : w5.cell? ⟨sb, 0, none⟩ = some (.slice va C.length vc) := by rw [cellc (HI3.out.after hg5)]; rfl
        have z1 : w5.frozen? ⟨sb, 0, none⟩ = false := frozenc (HI3.out.after hg5)
        have HMEM : Hid (∀ y, y ∈ K ↔ y ∈ allS (L ++ [t])) := Lib.hid (fun y => by rw [hK2 y, HPM.out.mem_iff, HCX.out])
        have HKA := Lib.hid hK1
        have hk80 : K.length ≤ 80000 := Nat.le_trans (nodup_sub_len (asc_nodup hK1) (fun y hy => (hK2 y).1 hy)) (by rw [HPM.out.length_eq]; exact HC80.out.1)
        have HK8 : Hid (∀ y ∈ K, sizeT y ≤ 80000) := Lib.hid (fun y hy => HC80.out.2 y (HPM.out.mem_iff.1 ((hK2 y).1 hy)))
        have hA := HI3.out.put hO5 hg5 (.inl hv5)
        have HB0 := Lib.hid (ElB.start (vv := vvL K L) hA (by omega))
        clear hK1 hK2 hO5 hv5 hg5 hs0 hA HI3 HCON HCON2 HPM HC80 HCX HI
        go_wp2_with fail
        go_loopw [8, 9, 10, 11, 12, 55] (fun _ _ _ _ _ kv wr => Hid (∃ (k : Nat) (bv : Value) (B : List Nat) (F G : Col → Option Wds), kv = .int .i64 k ∧ k ≤ L.length ∧ ElB w wr sb mr mc L.length k (.slice ka K.length kc) K bv B B F G (vvL K L))) (fun _ _ _ _ _ kv _ => L.length - (intOf kv).toNat)
        case atStart => exact Lib.hid ⟨0, _, _, _, _, rfl, by omega, HB0.out⟩
        case round =>
          obtain ⟨k, bv, B, F, G, rfl, hk, hI⟩ := hrel.out
          have HI := Lib.hid hI
          clear hI hrel
          by_cases hlt : k < L.length
          · obtain ⟨x, hx⟩ : ∃ x, L[k]? = some x := ⟨_, List.getElem?_eq_getElem hlt⟩
            have HLW := Lib.hid (hLW.out.ext HI.out.ext)
            obtain ⟨xb, xo, xa, xc, rfl, x0, x1, x2, x3, hTx⟩ := HLW.out.ts.at hx
            obtain ⟨bq, hbq⟩ : ∃ bq, bq = wr.heap.size := ⟨_, rfl⟩
            obtain ⟨w2, hw2⟩ : ∃ w2, w2 = wr.alloc (.cells #[.int .i64 x.kind, .string x.name, .int .i64 x.sort, .slice xa x.kids.length xc] 24) := ⟨_, rfl⟩
            have HE2 : Hid (Ext wr w2) := Lib.hid (by rw [hw2]; exact Ext.alloc _ _)
            have y0 : w2.cell? ⟨bq, 0, none⟩ = some (.int .i64 x.kind) := by rw [hw2, hbq]; exact cs_new rfl
            have y1 : w2.cell? ⟨bq, 1, none⟩ = some (.string x.name) := by rw [hw2, hbq]; exact cs_new rfl
            have y2 : w2.cell? ⟨bq, 2, none⟩ = some (.int .i64 x.sort) := by rw [hw2, hbq]; exact cs_new rfl
            have y3 : w2.cell? ⟨bq, 3, none⟩ = some (.slice xa x.kids.length xc) := by rw [hw2, hbq]; exact cs_new rfl
            have HI2 := Lib.hid (HI.out.next HE2.out)
            have HVX : Hid (vvL K L k = rowB K (sumT x)) := Lib.hid (by unfold vvL; rw [hx]; rfl)
            have hx6 : sizeT x ≤ 80000 := by have := sizeL_get hx; have := HZ.out; omega
            have hcon := row_any (w := w2) HI2.out.sys (fun y hy => by have := HK8.out y hy; omega) hx6 (by omega) HKA.out HI2.out.own.ls (hTx.ext HE2.out) (fun y hy => (HMEM.out y).2 (by
              unfold allS; rw [List.flatMap_append]
              exact List.mem_append_left _ (List.mem_flatMap.2 ⟨x, List.mem_of_getElem? hx, hy⟩)))
            have HCON := Lib.hid hcon
            clear hx hTx hcon hx6 HLW
            go_upto_region 12 with fail
            rw [← hw2, ← hbq]
            clear hw2 hbq x0 x1 x2 x3
            go_wp2_with fail
            refine HCON.out.mono ?_
            rintro e w3 ⟨g, ws, rfl, hE3, hg3, hB3, hl3, hv3⟩
            have HI3 := Lib.hid (HI2.out.next hE3)
            have hlo := HI2.out.sys
            have hcon := reduce_any (w := w3) (T := fun c => c < w2.heap.size) HI3.out.sys (by omega) (by omega)
              ⟨by have := lt_of_get' HI2.out.sys; omega, by have := HI2.out.rows.map.lt; omega, by have := HI2.out.chos.map.lt; omega⟩ (fun c hc e => by have hc' : c < w2.heap.size := hc; omega) hB3 hl3
              ((HI2.out.rows.weak (T' := fun c => c < w2.heap.size) (fun c _ h => h)).ext hE3) ((HI2.out.chos.weak (T' := fun c => c < w2.heap.size) (fun c _ h => h)).ext hE3) HI2.out.dom
            have HCON2 := Lib.hid hcon
            have HE3 := Lib.hid hE3
            have HG3 := Lib.hid hg3
            have HL3 := Lib.hid hl3
            have HV3 : Hid (bitL ws = vvL K L k) := Lib.hid (by rw [HVX.out]; exact funext hv3)
            have HGL : Hid (g < w3.heap.size) := Lib.hid (lt_of_get' hB3.row)
            clear hcon hE3 hg3 hB3 hl3 hv3 hlo y0 y1 y2 y3
            go_wp2_with fail
            refine HCON2.out.mono ?_
            rintro e w4 ⟨gc, ws', cs, rfl, hg4, hgc4, hB4, hl4, hC4, hlc4, hv4, hvc4⟩
            have HE4 : Hid (Ext w2 w4) := Lib.hid (HE3.out.grown hg4 (fun q hq => by cases hq; exact HG3.out))
            have HI4 := Lib.hid (HI2.out.next HE4.out)
            have hs0 : w4.cell? ⟨sb, 0, none⟩ = some (.slice ka K.length kc) := by rw [cellc HI4.out.sys]; rfl
            have hcon := first_any (n := K.length) hB4 (by rw [hl4, HL3.out]; omega) (by rw [hl4, HL3.out]; omega)
            rw [hl4] at hcon
            have hred : redS F G (bitL ws) K.length = (red (vecs F) id (vvL K L k) K.length, chs (vecs F) (vecs G) id (vvL K L k) K.length) := by rw [redS_eq F G HI2.out.dom, HV3.out]
            rw [hred] at hv4 hvc4
            have HCON3 := Lib.hid hcon
            have HB4 := Lib.hid hB4
            have HC4 := Lib.hid hC4
            have HL4 := Lib.hid hl4
            have HLC4 := Lib.hid hlc4
            have HV4 : Hid (∀ j, bitL ws' j = red (vecs F) id (vvL K L k) K.length j) := Lib.hid hv4
            have HVC4 : Hid (∀ j, bitL cs j = chs (vecs F) (vecs G) id (vvL K L k) K.length j) := Lib.hid hvc4
            have HGC4 := Lib.hid hgc4
            have HHI : Hid (∀ j, K.length ≤ j → red (vecs F) id (vvL K L k) K.length j = false) := Lib.hid (fun j hj => red_out (fun c r hr => HI2.out.zero c r hr j (.inr hj)) (by rw [HVX.out]; unfold rowB; rw [List.getElem?_eq_none hj]) _)
            clear hg4 hgc4 hB4 hl4 hC4 hlc4 hv4 hvc4 hcon hred
            go_wp2_with fail
            refine HCON3.out.mono ?_
            rintro e w5 ⟨r, rfl, rfl, hr⟩
            rcases hr with ⟨rfl, hr⟩ | ⟨c, rfl, hcK, hc1, hcf⟩
            · have HI5 : Hid (ElB w w4 sb mr mc L.length (k + 1) (.slice ka K.length kc) K bv B B F G (vvL K L)) := Lib.hid (HI4.out.skip (funext (fun j => by
                by_cases hj : j < K.length
                · rw [← HV4.out]; exact hr j hj
                · exact HHI.out j (by omega))))
              clear hr hs0
              go_wp2_with fail
              go_roundw
              case rel => exact Lib.hid ⟨k + 1, _, _, _, _, by go_num, by omega, HI5.out⟩
              case measure => simp [intOf]; omega
            · have hcon := flip_any (i := k) HC4.out (by rw [HLC4.out]; omega) (by rw [HLC4.out]; omega)
              have HCON4 := Lib.hid hcon
              have hc6 : c < 1000000 := by omega
              have HHF : Hid (bitL ws' c = true ∧ ∀ j, j < c ∨ K.length ≤ j → bitL ws' j = false) := Lib.hid ⟨hc1, fun j hj => by
                rcases hj with h | h
                · exact hcf j h
                · rw [HV4.out]; exact HHI.out j h⟩
              clear hcon hc1 hcf hs0
              go_upto_region 16 with (refine HCON4.out.mono ?_; rintro e w5 ⟨rfl, hg5, cs', hC5, hl5, hv5⟩)
              have hEE : Ext w2 w5 := HE4.out.grown hg5 (fun q hq => by cases hq; have := HE3.out.size; have := HGC4.out; omega)
              have hgw := HI2.out.ext.size
              have HI5 := Lib.hid (HI2.out.next (hEE.then_dr))
              have hB5 : BitW w5.drew g ws' := HB4.out.same (hg5.block g (lt_of_get' HB4.out.row) (fun e => by have := Option.some.inj e; have := HGL.out; have := HGC4.out; omega))
              obtain ⟨k1, o1, o2, k2, o3, o4, F', G', e1, e2, e3, e4, hI6⟩ := HI5.out.add (g := g) (gc := gc) (ws := ws') (cs := cs') ⟨c, hc6⟩ hcK (by have := HG3.out; omega) hB5 (hC5.ext (Ext.drew _)) (by rw [HL4.out, HL3.out]) (by rw [hl5, HLC4.out]) HV4.out HHF.out.1 HHF.out.2 (fun j => by rw [hv5 j, HVC4.out j])
              obtain ⟨wa, hwa⟩ : ∃ wa, wa = ChangeMaps.setBlock w5.drew mr o1 := ⟨_, rfl⟩
              obtain ⟨wb, hwb⟩ : ∃ wb, wb = ChangeMaps.setBlock w5.drew mr o2 := ⟨_, rfl⟩
              obtain ⟨wc, hwc⟩ : ∃ wc, wc = ChangeMaps.setBlock wb mc o3 := ⟨_, rfl⟩
              obtain ⟨wd, hwd⟩ : ∃ wd, wd = ChangeMaps.setBlock wb mc o4 := ⟨_, rfl⟩
              have hsa : wa.heap[sb]? = w5.drew.heap[sb]? := by rw [hwa]; exact turned_block (fun e => by obtain ⟨es, cl, hm, -⟩ := HI5.out.rows.map; exact sb_notmap hm HI5.out.sys e)
              have hsb2 : wb.heap[sb]? = w5.drew.heap[sb]? := by rw [hwb]; exact turned_block (fun e => by obtain ⟨es, cl, hm, -⟩ := HI5.out.rows.map; exact sb_notmap hm HI5.out.sys e)
              rw [← hwa] at e1 e2
              rw [← hwb] at e2 e3 e4 hI6
              rw [← hwc] at e3 e4
              rw [← hwd] at e4 hI6
              have z2 : w5.drew.cell? ⟨sb, 2, none⟩ = some (.map (some mr)) := by rw [cellc HI5.out.sys]; rfl
              have z3 : w5.drew.cell? ⟨sb, 3, none⟩ = some (.map (some mc)) := by rw [cellc HI5.out.sys]; rfl
              have z3a : wa.cell? ⟨sb, 3, none⟩ = some (.map (some mc)) := by rw [cellc (hsa.trans HI5.out.sys)]; rfl
              have z3b : wb.cell? ⟨sb, 3, none⟩ = some (.map (some mc)) := by rw [cellc (hsb2.trans HI5.out.sys)]; rfl
              have HI6 := Lib.hid hI6
              have hl46 : ws'.length = ws.length := HL4.out
              rw [show bitsV (g, ws') = .slice (some ⟨g, 0, none⟩) ws.length ws.length by rw [← hl46]; rfl] at e2
              rw [show bitsV (gc, cs') = .slice (some ⟨gc, 0, none⟩) cs.length cs.length by rw [← hl5]; rfl] at e4
              clear hwa hwb hwc hwd hsa hsb2 hI6 hEE hgw hB5 hC5 hv5 hg5 hl46
              go_region
              obtain ⟨pa, pc, hbv, hbl, hbc⟩ := HI6.out.bas.slice
              unfold maxLen at hbc
              subst hbv
              have z4 : wd.cell? ⟨sb, 4, none⟩ = some (.slice pa B.length pc) := by rw [cellc HI6.out.sys]; rfl
              have HIA := Lib.hid (HI6.out.next (Ext.alloc wd (.cells #[.int .i64 k] 3)))
              have hBL : B.length ≤ 1000000 := by
                have h1 := HI2.out.plain
                have := nodup_len_lt (h1.asc) (fun i hi => h1.lt hi)
                omega
              have hszA : w.heap.size ≤ (wd.alloc (.cells #[.int .i64 k] 3)).heap.size := HIA.out.ext.size
              clear e1 e2 e3 e4 z2 z3 z3a z3b
              go_wp2_with (at_builtin; (refine wpList_appN rfl (.tmp 100) (.tmp 102) rfl rfl rfl HIA.out.bas hszA hBL (x := k) (cs_new rfl) ?_); intro v' w7 o7 g7 k7
                           have hb7 := HIA.out.after g7
                           have HI7 := Lib.hid (HIA.out.base o7 g7)
                           obtain ⟨qa, qc, hq, -, -⟩ := o7.slice
                           rw [show (B ++ [k]).length = B.length + 1 by simp] at hq
                           subst hq
                           have y4 : w7.cell? ⟨sb, 4, none⟩ = some (.slice pa B.length pc) := by rw [cellc hb7]; rfl
                           have f4 : w7.frozen? ⟨sb, 4, none⟩ = false := frozenc hb7
                           clear o7 g7 k7 hb7)
              go_roundw
              case rel => exact Lib.hid ⟨k + 1, _, _, _, _, by go_num, by omega, HI7.out⟩
              case measure => simp [intOf]; omega
          · have hend : Hid (k = L.length) := Lib.hid (by omega)
            go_wp2_with fail
            go_ret
            have hI := HI.out
            rw [hend.out] at hI
            exact ⟨sb, rfl, hI.ext, mr, mc, _, K, bv, B, F, G, hI, HKA.out, HMEM.out, by omega⟩

end Go.Proofs.Ytckgjebcehbkfaa
