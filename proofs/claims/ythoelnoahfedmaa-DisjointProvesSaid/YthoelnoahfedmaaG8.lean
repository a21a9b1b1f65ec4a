/- The operations on an own map and an own slice, for the walk. Facts about the program's types; keys of its maps. The reference's States. The reference's States: the walk. The automata of two formats. -/
import Derived.Test.YthoelnoahfedmaaG1
import Derived.Test.YthoelnoahfedmaaG4
import Derived.Maps.AppendAt
import Derived.DeepKeys4
import Derived.Test.YthoelnoahfedmaaG5
import Derived.Maps.OwnSet
import Derived.Maps.OwnOps
import Derived.OwnWalk
import Derived.Test.YthoelnoahfedmaaG7
namespace Go.Proofs.Ythoelnoahfedmaa
open Go Go.RowKit
open Go.Maps (Keyed)
set_option linter.unusedVariables false
set_option linter.unusedSimpArgs false

theorem Ext.turned {w w' : World} {b : Nat} {o : Obj} (h : Ext w w') (hb : w.heap.size ≤ b) : Ext w (ChangeMaps.setBlock w' b o) :=
  ⟨h.os, h.tape, h.output, by simpa [ChangeMaps.setBlock] using h.size, fun k hk => by
    have : (ChangeMaps.setBlock w' b o).heap[k]? = w'.heap[k]? := by
      simp only [ChangeMaps.setBlock]
      rw [Array.setIfInBounds_def]
      split
      · rw [Array.getElem?_set_ne _ (by omega)]
      · rfl
    rw [this]; exact Ext.block h hk⟩
theorem turned_block {w : World} {b k : Nat} {o : Obj} (hk : k ≠ b) : (ChangeMaps.setBlock w b o).heap[k]? = w.heap[k]? := by
  simp only [ChangeMaps.setBlock]
  rw [Array.setIfInBounds_def]
  split
  · rw [Array.getElem?_set_ne _ (fun h => hk h.symm)]
  · rfl
theorem turned_size {w : World} {b : Nat} {o : Obj} : (ChangeMaps.setBlock w b o).heap.size = w.heap.size := by simp [ChangeMaps.setBlock]
theorem ownsRow_same {w w' : World} {base size n : Nat} {e : TypeId} {v : Value} {xs : List Value} (h : w.ownsRow base e size v n xs) (hb : ∀ g, v.ownBlock = some g → w'.heap[g]? = w.heap[g]?) : w'.ownsRow base e size v n xs := by
  refine ⟨h.1, ?_⟩
  rcases h.2 with h | ⟨g, cap, cur, rfl, h1, h2, h3⟩
  · exact .inl h
  · exact .inr ⟨g, cap, cur, rfl, h1, by rw [hb g rfl]; exact h2, h3⟩
theorem ownsRow_ext {w w' : World} {base size n : Nat} {e : TypeId} {v : Value} {xs : List Value} (h : w.ownsRow base e size v n xs) (hE : Ext w w') : w'.ownsRow base e size v n xs :=
  ownsRow_same h fun g hg => hE.block (h.lt g hg).2
theorem Ext.grown {w w' w'' : World} {row : Option Nat} (h : Ext w w') (hg : w'.grownBy w'' row) (hrow : ∀ k, row = some k → w.heap.size ≤ k) : Ext w w'' :=
  ⟨hg.os.trans h.os, hg.tape.trans h.tape, hg.output.trans h.output, Nat.le_trans h.size hg.size,
    fun i hi => (hg.block i (Nat.lt_of_lt_of_le hi h.size) (fun e => by have := hrow i e.symm; omega)).trans (Ext.block h hi)⟩

section
variable {K : Type} {enc : K → Value} {w : World} {b n : Nat} {F : K → Option Value} {P : Program} {ops : Array Oper} {rest : List Oper} {o : Oper} {a : Act} {Q : Exit → Act → World → Prop} {k : TypeId}

theorem wpList_mapK_update (hg : o.guard = none) (m x v : Operand) (t : TypeId) (hop : o.op = Op.mapUpdate t m x v) (h : MapK enc w b n F) (L : Keyed P k) (hk : ∀ x, ∃ l, keyOf P k (enc x) = some l) (hinj : ∀ x y, enc x = enc y → x = y)
    {e : TypeId} (ht : P.underlying t = some (.map k e)) (hm : a.eval m = .map (some b)) (y : K) (hx : a.eval x = enc y) (val : Value) (hv : a.eval v = val)
    (hK : ∀ ob, (∀ F' : K → Option Value, F' y = some val → (∀ z, z ≠ y → F' z = F z) → MapK enc (ChangeMaps.setBlock w b ob) b (n + 1) F') → wpList P ops Q rest (a.put o.dst undef) (ChangeMaps.setBlock w b ob)) :
    wpList P ops Q (o :: rest) a w := by
  refine wpList_plain hg fun K' hK' => ?_
  obtain ⟨ob, hrun, r1⟩ := h.update L hk hinj ht y val
  unfold Oper.wp
  simp [execOp, hop, hm, hx, hv, hrun, Result.andThen]
  exact hK' _ _ (hK ob r1)

theorem wpList_mapK_look (hg : o.guard = none) (m x : Operand) (t : TypeId) (c : Bool) (hop : o.op = Op.lookup t m x c) (h : MapK enc w b n F) (L : Keyed P k) (hk : ∀ x, ∃ l, keyOf P k (enc x) = some l)
    {e : TypeId} (ht : P.underlying t = some (.map k e)) {z : Value} (hz : (zeroValue e).run P w = .ok z w) (hm : a.eval m = .map (some b)) (y : K) (hx : a.eval x = enc y)
    (hK : wpList P ops Q rest (a.put o.dst (if c then .tuple #[(F y).getD z, .bool (F y).isSome] else (F y).getD z)) w) :
    wpList P ops Q (o :: rest) a w := by
  refine wpList_plain hg fun K' hK' => ?_
  have hrun := h.look L hk ht hz y c
  unfold Oper.wp
  simp [execOp, hop, hm, hx, hrun, Result.andThen]
  exact hK' _ _ (by simpa using hK)
end

def encI (x : Int) : Value := .int .i64 x
/-- whether a number is in a list -/
def inB {K : Type} [DecidableEq K] (L : List K) (x : K) : Option Value := if x ∈ L then some (.bool true) else none

theorem rStep_le {t : List Fmt} {F : List Fld} {s : Int} {b : Nat} (hF : F.length ≤ 100) (hb : b ≤ 255) : rStep t F s b ≤ 40000000 := by
  unfold rStep
  split
  · omega
  · split
    · omega
    · rename_i x hx
      have := lt_of_get hx
      split
      · unfold rNest
        split
        · split
          · omega
          · unfold stS; omega
        · split
          · omega
          · split
            · omega
            · rename_i y hy
              have hk := stepK_le y (f := (s % 256).toNat / 32) (r := (s % 256).toNat % 32) (b := b) (by omega) (by omega) hb
              generalize stepK y ((s % 256).toNat / 32) ((s % 256).toNat % 32) b = v at *
              (repeat' split) <;> (unfold stS at *; omega)
      · split
        · omega
        · have := stepK_le x (f := (s / 262144).toNat) (r := (s / 256 % 1024).toNat) (b := b) (by omega) (by omega) hb
          omega

/-- the step of a format, as a partial function -/
def stF (t : List Fmt) (F : List Fld) (s : Int) (b : Nat) : Option Int := if rStep t F s b < 0 then none else some (rStep t F s b)
/-- the step of two formats -/
def stP (t : List Fmt) (F G : List Fld) (p : Int × Int) (b : Nat) : Option (Int × Int) := if rStep t F p.1 b < 0 ∨ rStep t G p.2 b < 0 then none else some (rStep t F p.1 b, rStep t G p.2 b)

end Go.Proofs.Ythoelnoahfedmaa

namespace Go.Proofs.Ythoelnoahfedmaa
open Go Go.RowKit
open Go.Maps (Keyed)
set_option linter.unusedVariables false
set_option linter.unusedSimpArgs false

theorem inf3 : (Try.prog.info? 3).map (fun i => (i.zero, i.size, i.bytes)) = some (some (.int .i64 0), 1, 8) := by kernel_rfl
theorem inf53 : (Try.prog.info? 53).map (fun i => (i.zero, i.size, i.bytes)) = some (some (.agg #[.int .i64 0, .int .i64 0]), 2, 16) := by kernel_rfl
theorem inf106 : (Try.prog.info? 106).map (fun i => (i.zero, i.size, i.bytes)) = some (some (.agg #[.int .i64 0, .int .u8 0]), 2, 16) := by kernel_rfl
theorem zero3 (w : World) : (zeroValue 3).run Try.prog w = .ok (.int .i64 0) w := by kernel_rfl
theorem zero4 (w : World) : (zeroValue 4).run Try.prog w = .ok (.bool false) w := by kernel_rfl

/-- numbers that a machine holds -/
abbrev N64 := { x : Int // I64 x }
def encN (x : N64) : Value := .int .i64 x.1
theorem law3 : Keyed Try.prog 3 := Maps.int_keyed Try.underlying3
theorem key3 (x : N64) : ∃ l, keyOf Try.prog 3 (encN x) = some l := by
  obtain ⟨x, h1, h2⟩ := x
  exact ⟨_, Maps.keyOf_int_mk Try.underlying3 (WalkArith.wf_i64 ⟨h1, h2⟩)⟩
theorem encN_inj (x y : N64) (h : encN x = encN y) : x = y := by
  obtain ⟨x, hx⟩ := x
  obtain ⟨y, hy⟩ := y
  simp [encN] at h
  exact Subtype.ext h

abbrev P64 := { p : Int × Int // I64 p.1 ∧ I64 p.2 }
def encP (p : P64) : Value := .agg #[.int .i64 p.1.1, .int .i64 p.1.2]
theorem laidOut : laidOutB Try.prog = true := by kernel_rfl
theorem row53 : (53 : TypeId) < Try.prog.types.size := of_decide_eq_true (by kernel_rfl)
theorem wide53 : (match Try.prog.underlying 53 with | some (.array _ _) | some (.struct _) => true | _ => false) = true := by kernel_rfl
theorem deep53 : Try.prog.keyTypeAt 2 53 = true := by kernel_rfl
theorem klaw53 : WideMaps.KeyLaw Try.prog 53 := by
  refine deep_law_laid (P := Try.prog) (k := 53) laidOut (m := 2) (by omega) row53 deep53 ?_
  rw [Try.underlying53]
theorem law53 : Keyed Try.prog 53 := Keyed.of_law klaw53
theorem keyType53 : Try.prog.keyType 53 = true := by kernel_rfl
theorem cells53 : Try.prog.cellsOf 53 = 2 := by kernel_rfl
theorem cells3 : Try.prog.cellsOf 3 = 1 := by kernel_rfl
theorem types_pos : ∃ m, Try.prog.types.size = m + 1 := ⟨Try.prog.types.size - 1, by have h : (53 : Nat) < Try.prog.types.size := row53; omega⟩
theorem key53 (p : P64) : ∃ l, keyOf Try.prog 53 (encP p) = some l := by
  obtain ⟨⟨x, y⟩, ⟨hx1, hx2⟩, ⟨hy1, hy2⟩⟩ := p
  have wx : (Lit.int .i64 x).wf = true := WalkArith.wf_i64 ⟨hx1, hx2⟩
  have wy : (Lit.int .i64 y).wf = true := WalkArith.wf_i64 ⟨hy1, hy2⟩
  obtain ⟨m, hm⟩ := types_pos
  have hu := Try.underlying53
  have hf : (Value.agg #[.int .i64 x, .int .i64 y]).formed Try.prog 53 = true := by simp [Value.formed, hu, cells53]
  refine ⟨.string (keyBytes [.int .i64 x, .int .i64 y]), ?_⟩
  unfold keyOf encP
  simp only [hu]
  rw [if_pos (by rw [keyType53, hf]; rfl), hm]
  unfold Program.keyLits
  simp [hu, Value.cells, cells53, cells3, Program.keyLits, Try.underlying3, wx, wy]
theorem encP_inj (x y : P64) (h : encP x = encP y) : x = y := by
  obtain ⟨⟨x1, x2⟩, hx⟩ := x
  obtain ⟨⟨y1, y2⟩, hy⟩ := y
  simp [encP] at h
  obtain ⟨rfl, rfl⟩ := h
  rfl

end Go.Proofs.Ythoelnoahfedmaa

namespace Go.Proofs.Ythoelnoahfedmaa
open Go Go.RowKit
open Go.Maps (Keyed)
set_option linter.unusedVariables false
set_option linter.unusedSimpArgs false

theorem inB_new {K : Type} [DecidableEq K] {L : List K} {n : K} : inB (L ++ [n]) n = some (.bool true) := by simp [inB]
theorem inB_other {K : Type} [DecidableEq K] {L : List K} {n y : K} (h : y ≠ n) : inB (L ++ [n]) y = inB L y := by simp [inB, h]
theorem inB_val {K : Type} [DecidableEq K] {L : List K} {n : K} : (inB L n).getD (.bool false) = .bool (decide (n ∈ L)) := by
  unfold inB
  by_cases h : n ∈ L <;> simp [h]

/-- what States of the reference answers -/
def StatesR (t : List Fmt) (i : Int) (n er : Int) : Prop :=
  (errS t [i] ≠ 0 ∧ n = 0 ∧ er = errS t [i]) ∨ (errS t [i] = 0 ∧ ∃ (j : Nat) (fm : Fmt), i = j ∧ t[j]? = some fm ∧ VFmt t fm ∧
    ((Over (stF t fm.fields) 0 ∧ n = 0 ∧ er = 3) ∨ ∃ L, Full (stF t fm.fields) 0 L ∧ L.length ≤ 20000 ∧ n = L.length ∧ er = 0))

theorem errS_zero {t : List Fmt} {l : List Int} (h : errS t l = 0) : validT t = 0 ∧ ∀ x ∈ l, 0 ≤ x ∧ x < t.length := by
  unfold errS at h
  by_cases h1 : validT t = 0
  · rw [if_neg (by simp [h1])] at h
    refine ⟨h1, fun x hx => ?_⟩
    by_cases h2 : l.any (badIx t.length) = true
    · rw [if_pos h2] at h; omega
    · simp only [Bool.not_eq_true] at h2
      rw [List.any_eq_false] at h2
      have := h2 x hx
      simp [badIx] at this
      omega
  · rw [if_pos h1] at h; exact absurd h h1

theorem ints_get {L : List Int} {k : Nat} {x : Int} (h : L[k]? = some x) : (L.map encI)[k]? = some (.int .i64 x) := by simp [h, encI]

theorem stF_none {t : List Fmt} {F : List Fld} {s : Int} {b : Nat} (h : rStep t F s b < 0) : stF t F s b = none := by rw [stF, if_pos h]
theorem stF_some {t : List Fmt} {F : List Fld} {s : Int} {b : Nat} (h : ¬ rStep t F s b < 0) : stF t F s b = some (rStep t F s b) := by rw [stF, if_neg h]

/-- all states are small -/
theorem lev_small {t : List Fmt} {F : List Fld} (hF : F.length ≤ 100) {k : Nat} : ∀ x ∈ lev (stF t F) 0 k, 0 ≤ x ∧ x ≤ 40000000 := by
  have tk : ∀ (L : List Int) (x : Int) (b : Nat), b ≤ 255 → (∀ y ∈ L, 0 ≤ y ∧ y ≤ 40000000) → ∀ y ∈ tick (stF t F) x L b, 0 ≤ y ∧ y ≤ 40000000 := by
    intro L x b hb hL y hy
    unfold tick at hy
    split at hy
    · exact hL y hy
    · rename_i n hn
      split at hy
      · exact hL y hy
      · rcases List.mem_append.1 hy with hy | hy
        · exact hL y hy
        · simp at hy
          subst hy
          unfold stF at hn
          split at hn
          · cases hn
          · cases hn
            exact ⟨by omega, rStep_le hF hb⟩
  have rw' : ∀ (L : List Int) (x : Int) (c : Nat), c ≤ 256 → (∀ y ∈ L, 0 ≤ y ∧ y ≤ 40000000) → ∀ y ∈ rowS (stF t F) L x c, 0 ≤ y ∧ y ≤ 40000000 := by
    intro L x c
    induction c with
    | zero => intro _ h; exact h
    | succ c ih => intro hc h; rw [rowS_succ]; exact tk _ _ _ (by omega) (ih (by omega) h)
  induction k with
  | zero => simp [lev]
  | succ k ih =>
    cases h : (lev (stF t F) 0 k)[k]? with
    | none => rw [lev_stuck h]; exact ih
    | some x => rw [lev_succ h]; exact rw' _ _ _ (by omega) ih

/-- the list and the map of a search -/
structure Srch (w wr : World) (mb : Nat) (lv : Value) (L : List Int) : Prop where
  own : wr.ownsRow w.heap.size 3 1 lv L.length (L.map encI)
  map : ∃ n, MapK encN wr mb n (fun x => inB L x.1)
  apart : lv.ownBlock ≠ some mb
  mb : w.heap.size ≤ mb
  ext : Ext w wr
theorem Srch.next {w wr w' : World} {mb : Nat} {lv : Value} {L : List Int} (h : Srch w wr mb lv L) (hE : Ext wr w') : Srch w w' mb lv L :=
  ⟨ownsRow_ext h.own hE, let ⟨n, h'⟩ := h.map; ⟨n, h'.ext hE⟩, h.apart, h.mb, h.ext.trans hE⟩
theorem Srch.at {w wr : World} {mb : Nat} {lv : Value} {L : List Int} {k : Nat} {x : Int} (h : Srch w wr mb lv L) (hk : L[k]? = some x) :
    ∃ g cap, lv = .slice (some ⟨g, 0, none⟩) L.length cap ∧ wr.cell? ⟨g, k, none⟩ = some (.int .i64 x) := by
  have hlt := (List.getElem?_eq_some_iff.1 hk).1
  rcases h.own.2 with ⟨-, h0⟩ | ⟨g, cap, cur, rfl, -⟩
  · omega
  · refine ⟨g, cap, rfl, ?_⟩
    have h0 := h.own.cells (g := g) rfl k _ (ints_get hk)
    by_cases hk0 : k = 0
    · subst hk0; simpa [Addr.add] using h0
    · simpa [Addr.add, hk0] using h0
theorem Srch.slice {w wr : World} {mb : Nat} {lv : Value} {L : List Int} (h : Srch w wr mb lv L) : ∃ a cap, lv = .slice a L.length cap := by
  rcases h.own.2 with ⟨rfl, h0⟩ | ⟨g, cap, cur, rfl, -⟩
  · exact ⟨none, 0, by rw [h0]⟩
  · exact ⟨_, _, rfl⟩

theorem Srch.start {w w2 : World} {mb n : Nat} (hE : Ext w w2) (hM : MapK encN w2 mb n (fun x => inB [0] x.1)) (h1 : w.heap.size ≤ mb) (h2 : mb < w2.heap.size) :
    Srch w (w2.alloc (.cells #[.int .i64 0] 3)) mb (.slice (some ⟨w2.heap.size, 0, none⟩) 1 1) [0] :=
  ⟨⟨rfl, .inr ⟨w2.heap.size, 1, #[.int .i64 0], rfl, hE.size, heap_alloc_new w2 _, by simp, by unfold maxLen; omega, rfl, rfl⟩⟩, ⟨n, hM.al _⟩, by simp [Value.ownBlock]; omega, h1, hE.then_al _⟩

theorem Srch.push {w w4 w5 : World} {mb n : Nat} {lv v' : Value} {L : List Int} {nv : Int} {o : Obj} (hE : Ext w w4) (hM : MapK encN w4 mb n (fun x => inB (L ++ [nv]) x.1)) (ha : lv.ownBlock ≠ some mb) (hl : ∀ k, lv.ownBlock = some k → w.heap.size ≤ k) (hmb : w.heap.size ≤ mb)
    (hown : w5.ownsRow w.heap.size 3 1 v' (L.length + 1) (L.map encI ++ [.int .i64 nv])) (hg : (w4.alloc o).grownBy w5 lv.ownBlock) (hat : v'.ownBlock = lv.ownBlock ∨ v'.ownBlock = some (w4.alloc o).heap.size) : Srch w w5 mb v' (L ++ [nv]) := by
  have hlt := hM.lt
  refine ⟨by simpa [encI] using hown, ⟨n, hM.same ?_⟩, ?_, hmb, (hE.then_al o).grown hg hl⟩
  · rw [hg.block mb (by simp; omega) (fun h => ha h.symm)]
    exact (Ext.alloc w4 o).block hlt
  · rcases hat with h | h
    · rw [h]; exact ha
    · rw [h]; simp; omega
theorem Srch.put {w wr : World} {mb : Nat} {lv : Value} {L : List Int} {nv : Int} (h : Srch w wr mb lv L) (hn : I64 nv) : ∃ w4 n, (Instr.mapUpdate 72 (.map (some mb)) (.int .i64 nv) (.bool true)).run Try.prog wr = .ok () w4 ∧ Ext w w4 ∧ MapK encN w4 mb n (fun x => inB (L ++ [nv]) x.1) ∧
    w4.ownsRow w.heap.size 3 1 lv L.length (L.map encI) := by
  obtain ⟨n, hM⟩ := h.map
  obtain ⟨ob, hup, hF⟩ := hM.update law3 key3 encN_inj Try.underlying72 ⟨nv, hn⟩ (.bool true)
  refine ⟨_, n + 1, hup, h.ext.turned h.mb, hF _ inB_new (fun y hy => inB_other (fun e => hy (Subtype.ext e))), ownsRow_same h.own fun g hg => turned_block (fun e => h.apart (by rw [hg, e]))⟩
theorem Srch.look {w wr : World} {mb : Nat} {lv : Value} {L : List Int} {nv : Int} (h : Srch w wr mb lv L) (hn : I64 nv) : (Instr.lookup 72 (.map (some mb)) (.int .i64 nv) false).run Try.prog wr = .ok (.bool (decide (nv ∈ L))) wr := by
  obtain ⟨n, hM⟩ := h.map
  have := hM.look law3 key3 Try.underlying72 (zero4 wr) ⟨nv, hn⟩ false
  simp only [inB_val] at this
  exact this

end Go.Proofs.Ythoelnoahfedmaa

namespace Go.Proofs.Ythoelnoahfedmaa
open Go Go.RowKit
open Go.Maps (Keyed)
set_option linter.unusedVariables false
set_option linter.unusedSimpArgs false

set_option maxRecDepth 100000 in
set_option maxHeartbeats 4000000 in
theorem rStates_any {w : World} {B : Nat} {a : Option Addr} {t : List Fmt} {cap : Nat} {i : Int} (hi1 : I64 i) (hT : TabA w B a t) (hB : B ≤ w.heap.size) (hcap : t.length ≤ cap) (hcap2 : cap ≤ 9223372036854775807) :
    Calls Try.prog 14 #[.slice a t.length cap, .int .i64 i] w fun e w' => ∃ n er, e = .returned (.tuple #[.int .i64 n, .int .i64 er]) ∧ Ext w w' ∧ StatesR t i n er := by
  have hn63 := hT.1
  unfold maxLen at hn63
  obtain ⟨v0, hv0⟩ : ∃ v0, v0 = errS t [i] := ⟨_, rfl⟩
  have HV0 := Lib.hid hv0
  have hcon := Error_any (la := some ⟨w.heap.size, 0, none⟩) (lcap := 1) (l := [i]) (hT.alloc hB (.cells #[.int .i64 i] 3)) (by simp; omega) hcap hcap2 (fun k x hk => by
    match k, hk with
    | 0, hk => cases hk; exact ⟨_, _, rfl, cs_new rfl⟩) (by simp)
  rw [← hv0] at hcon
  clear hv0
  go_enter Try.func14, Try.ntmps14
  go_wp2_with fail
  refine hcon.mono ?_
  rintro e w1 ⟨rfl, hb0⟩
  have hb1 : Ext w w1 := hb0.al
  by_cases hz : v0 = 0
  · subst hz
    obtain ⟨hv, hix⟩ := errS_zero HV0.out.symm
    obtain ⟨h0i, hit⟩ := hix i (by simp)
    obtain ⟨j, rfl⟩ : ∃ j : Nat, i = j := ⟨i.toNat, by omega⟩
    obtain ⟨fm, hfm⟩ : ∃ fm, t[j]? = some fm := ⟨_, List.getElem?_eq_getElem (by omega)⟩
    have hV := valid_VFmt hv hfm
    have hle : fm.fields.length ≤ 100 := by have := hV.le; omega
    have hmk : (Instr.makeMap 72 none).run Try.prog w1 = .ok (.map (some w1.heap.size)) (w1.alloc (.map #[] 0)) := rfl
    obtain ⟨ob, hup, hF⟩ := (MapK.made (enc := encN) w1).update law3 key3 encN_inj Try.underlying72 ⟨0, by unfold I64; omega⟩ (.bool true)
    have hF0 := hF (fun x => inB [0] x.1) (by simp [inB]) (fun y hy => by
      have : y.1 ≠ 0 := fun h => hy (Subtype.ext h)
      simp [inB, this])
    simp only [encN] at hup
    have hb2 : Ext w (ChangeMaps.setBlock (w1.alloc (.map #[] 0)) w1.heap.size ob) := (hb1.then_al _).turned hb1.size
    have hs2 : w1.heap.size < (ChangeMaps.setBlock (w1.alloc (.map #[] 0)) w1.heap.size ob).heap.size := by rw [turned_size]; simp
    have hmb : w.heap.size ≤ w1.heap.size := hb1.size
    generalize hw2 : ChangeMaps.setBlock (w1.alloc (.map #[] 0)) w1.heap.size ob = w2 at *
    generalize hmbv : w1.heap.size = mb at *
    have hS0 := Srch.start hb2 hF0 hmb hs2
    clear hF hF0 hw2
    have HT := Lib.hid hT
    have HS0 := Lib.hid hS0; clear hS0
    go_wp2_with fail
    go_loopw [8, 9, 10, 11] (fun lv kv _ _ wr => ∃ (k : Nat), kv = .int .i64 k ∧ Srch w wr mb lv (lev (stF t fm.fields) 0 k) ∧ k ≤ (lev (stF t fm.fields) 0 k).length ∧ (lev (stF t fm.fields) 0 k).length ≤ 20000) (fun _ kv _ _ _ => 20001 - (intOf kv).toNat)
    case atStart => exact ⟨0, rfl, HS0.out, by simp, by simp [lev]⟩
    case round =>
      obtain ⟨k, rfl, hS, hk, hL⟩ := hrel
      obtain ⟨la, lcap, rfl⟩ := hS.slice
      have hll := hS.own.lt
      by_cases hlt : k < (lev (stF t fm.fields) 0 k).length
      · obtain ⟨x, hx⟩ : ∃ x, (lev (stF t fm.fields) 0 k)[k]? = some x := ⟨_, List.getElem?_eq_getElem hlt⟩
        have hxs := lev_small hle (t := t) x (List.mem_of_getElem? hx)
        have hOver : ∀ c, c ≤ 256 → 20000 < (rowS (stF t fm.fields) (lev (stF t fm.fields) 0 k) x c).length → Over (stF t fm.fields) 0 := fun c hc h => over_of_row hx hc h
        have hnext : lev (stF t fm.fields) 0 (k + 1) = rowS (stF t fm.fields) (lev (stF t fm.fields) 0 k) x 256 := lev_succ hx
        have hF1 := Lib.hid (show ∀ s b, stF t fm.fields s b = if rStep t fm.fields s b < 0 then none else some (rStep t fm.fields s b) from fun _ _ => rfl)
        generalize hff : stF t fm.fields = f at *
        have HFF := Lib.hid hff
        generalize hLL : lev f 0 k = L at *
        have HLL := Lib.hid hLL
        have HOVER := Lib.hid hOver
        have HNEXT := Lib.hid hnext
        have HX := Lib.hid hx
        have HS := Lib.hid hS
        clear hff hLL hOver hnext hx hS hll HS0
        have e1 : decide ((k : Int) < (L.length : Int)) = true := decide_eq_true (by omega)
        go_wp2_with fail
        go_loopw [8, 10, 11] (fun lv2 cv _ wr2 => ∃ c : Nat, c ≤ 256 ∧ cv = .int .i64 c ∧ Srch w wr2 mb lv2 (rowS f L x c) ∧ (rowS f L x c).length ≤ 20000 + c) (fun _ cv _ _ => 256 - (intOf cv).toNat)
        case atStart => exact ⟨0, by omega, rfl, HS.out, by rw [rowS_zero]; omega⟩
        case round =>
          obtain ⟨c, hc, rfl, hS2, hLc⟩ := hrel
          have hlen2 : L.length ≤ (rowS f L x c).length := (rowS_pre (f := f) (L := L) (x := x) (c := c)).length_le
          by_cases hc2 : c < 256
          · have e2 : decide ((c : Int) < 256) = true := decide_eq_true (by omega)
            obtain ⟨g, lcap2, rfl, hcell⟩ := hS2.at (pre_get rowS_pre HX.out)
            have HXT := hS2.ext
            obtain ⟨nv, hnv⟩ : ∃ nv, nv = rStep t fm.fields x c := ⟨_, rfl⟩
            have hcon2 := Step_any (cap := cap) x c (by omega) (by omega) (HT.out.ext hB HXT) (by have := HXT.size; omega) hfm hV
            rw [← hnv] at hcon2
            have HNV := Lib.hid hnv
            have hn40 : nv ≤ 40000000 := by rw [hnv]; exact rStep_le hle (by omega)
            clear hnv
            have HS2 := Lib.hid hS2; clear hS2
            go_wp2_with fail
            refine hcon2.mono ?_
            rintro e w3 ⟨rfl, hb3⟩
            have hS3 := HS2.out.next hb3
            by_cases hneg : nv < 0
            · have e3 : decide ((0 : Int) ≤ nv) = false := decide_eq_false (by omega)
              have hf0 : f x c = none := by rw [hF1.out, ← HNV.out, if_pos hneg]
              have HR : Hid (rowS f L x (c + 1) = rowS f L x c) := by show _ = _; rw [rowS_succ, tick_none hf0]
              have HS3 := Lib.hid hS3; clear hS3
              go_wp2_with fail
              go_roundw
              case rel => exact ⟨c + 1, by omega, by go_num, by rw [HR.out]; exact HS3.out, by rw [HR.out]; omega⟩
              case measure => simp [intOf]; omega
            · have e3 : decide ((0 : Int) ≤ nv) = true := decide_eq_true (by omega)
              have hf0 : f x c = some nv := by rw [hF1.out, ← HNV.out, if_neg hneg]
              have hI : I64 nv := ⟨by omega, by omega⟩
              have hlk := hS3.look hI
              by_cases hmem : nv ∈ rowS f L x c
              · have HR : Hid (rowS f L x (c + 1) = rowS f L x c) := by show _ = _; rw [rowS_succ, tick_old hf0 hmem]
                rw [decide_eq_true hmem] at hlk
                have HS3 := Lib.hid hS3; clear hS3
                go_wp2_with fail
                go_roundw
                case rel => exact ⟨c + 1, by omega, by go_num, by rw [HR.out]; exact HS3.out, by rw [HR.out]; omega⟩
                case measure => simp [intOf]; omega
              · have HR : Hid (rowS f L x (c + 1) = rowS f L x c ++ [nv]) := by show _ = _; rw [rowS_succ, tick_new hf0 hmem]
                rw [decide_eq_false hmem] at hlk
                obtain ⟨w4, n4, hup, hE4, hM4, hO4⟩ := hS3.put hI
                have hO4' := ownsRow_ext hO4 (Ext.alloc w4 (.cells #[.int .i64 nv] 3))
                have hapart := hS3.apart
                have hlb := fun k hk => (hS3.own.lt k hk).1
                have hsz4 := hE4.size
                have HM4 := Lib.hid hM4
                have HE4 := Lib.hid hE4
                have HS3 := Lib.hid hS3; clear hS3 hM4 hE4 hO4
                obtain ⟨i0, hi, hz0, hz1, hz2⟩ := info_parts inf3
                go_wp2_with (first
                  | (at_builtin; refine wpList_append_own_at _ rfl _ _ 58 rfl w.heap.size 3 i0 (.int .i64 0) 1 8 Try.underlying58 hi hz0 hz1 hz2 rfl (by decide) _ _ _ rfl hO4' ⟨w4.heap.size, 0, none⟩ 1 1 [.int .i64 nv] rfl rfl (cell_one_new _ _ _) (fun x hx => by simp at hx; subst hx; rfl) (by unfold maxLen; omega) (by omega) (by simp; omega) ?_; intro v' w5 hown' hgrow5 hnil5 hat5
                     have HS5 := Lib.hid (Srch.push HE4.out HM4.out hapart hlb HS3.out.mb hown' hgrow5 hat5)
                     clear hown' hgrow5 hnil5 hat5))
                go_roundw
                case rel => exact ⟨c + 1, by omega, by go_num, by rw [HR.out]; exact HS5.out, by rw [HR.out]; simp; omega⟩
                case measure => simp [intOf]; omega
          · have hc3 : c = 256 := by omega
            subst hc3
            by_cases hbig : 20000 < (rowS f L x 256).length
            · have e4 : decide ((20000 : Int) < ((rowS f L x 256).length : Int)) = true := decide_eq_true (by omega)
              have HO : Hid (Over (stF t fm.fields) 0) := by have h := HOVER.out 256 (by omega) hbig; rw [← HFF.out] at h; exact h
              obtain ⟨la2, lcap2, rfl⟩ := hS2.slice
              have HXT := Lib.hid hS2.ext
              clear hS2
              go_wp2_with fail
              go_ret2
              exact ⟨_, _, rfl, HXT.out, .inr ⟨HV0.out.symm, j, fm, rfl, hfm, hV, .inl ⟨HO.out, rfl, rfl⟩⟩⟩
            · have e4 : decide ((20000 : Int) < ((rowS f L x 256).length : Int)) = false := decide_eq_false (by omega)
              obtain ⟨la2, lcap2, rfl⟩ := hS2.slice
              have HS2 := Lib.hid hS2; clear hS2
              go_wp2_with fail
              go_roundw
              case rel => exact ⟨k + 1, by go_num, by rw [HNEXT.out]; exact HS2.out, by rw [HNEXT.out]; omega, by rw [HNEXT.out]; omega⟩
              case measure => simp [intOf]; omega
      · have HFull : Hid (Full (stF t fm.fields) 0 (lev (stF t fm.fields) 0 k)) := ⟨k, rfl, by omega⟩
        have HH := Lib.hid hL
        have HE := Lib.hid hS.ext
        have hl2 : ((lev (stF t fm.fields) 0 k).length : Int) ≤ 20000 := by omega
        have hk2 : (k : Int) = ((lev (stF t fm.fields) 0 k).length : Int) := by omega
        have hk3 : decide ((k : Int) < ((lev (stF t fm.fields) 0 k).length : Int)) = false := decide_eq_false (by omega)
        generalize hLL : (lev (stF t fm.fields) 0 k) = L at *
        clear hS hLL hL hk hk2 hll
        go_wp2_with fail
        go_ret2
        exact ⟨_, _, rfl, HE.out, .inr ⟨HV0.out.symm, j, fm, rfl, hfm, hV, .inr ⟨_, HFull.out, HH.out, rfl, rfl⟩⟩⟩
  · have e1 : (v0 == 0) = false := beq_eq_false_iff_ne.2 hz
    go_wp2_with fail
    go_ret2
    exact ⟨0, v0, rfl, hb1, .inl ⟨by rw [← HV0.out]; exact hz, rfl, HV0.out⟩⟩

end Go.Proofs.Ythoelnoahfedmaa

namespace Go.Proofs.Ythoelnoahfedmaa
open Go Go.RowKit
set_option linter.unusedVariables false
set_option linter.unusedSimpArgs false

theorem inf67 : (Try.prog.info? 67).map (·.size) = some 2 := by kernel_rfl

theorem results_two {tmps : Array Value} {w : World} {g1 g2 : Nat} {c1 c2 : Array Value} {f1 f2 : Nat × Nat} (h6 : tmps.getD 6 undef = .pointer (some ⟨g1, 0, none⟩)) (h7 : tmps.getD 7 undef = .pointer (some ⟨g2, 0, none⟩)) (hg1 : w.heap[g1]? = some (.cells c1 67 f1)) (hg2 : w.heap[g2]? = some (.cells c2 67 f2))
    (s1 : c1.size = 2) (s2 : c2.size = 2) : (results Try.f50 tmps).run Try.prog w = .ok (.tuple #[.agg c1, .agg c2, tmps.getD 8 undef]) w := by
  have h6' : tmps[6]?.getD undef = .pointer (some ⟨g1, 0, none⟩) := by simpa using h6
  have h7' : tmps[7]?.getD undef = .pointer (some ⟨g2, 0, none⟩) := by simpa using h7
  have hi : (Try.prog.info? 67).map (·.size) = some 2 := by kernel_rfl
  simp [results, Try.results50, h6', h7', asAddr, run_loadVar_row w g1 67 67 c1 f1 _ hg1 Try.underlying67 rfl (by rw [s1]; exact hi), run_loadVar_row w g2 67 67 c2 f2 _ hg2 Try.underlying67 rfl (by rw [s2]; exact hi)]

set_option maxRecDepth 100000 in
set_option maxHeartbeats 4000000 in
theorem two_any {w : World} {B : Nat} {a : Option Addr} {t : List Fmt} {cap : Nat} {i j : Int} (hT : TabA w B a t) (hB : B ≤ w.heap.size) (hcap : t.length ≤ cap) (hcap2 : cap ≤ 9223372036854775807) :
    Calls Try.prog 50 #[.slice a t.length cap, .int .i64 i, .int .i64 j] w fun e w' => ∃ u v, e = .returned (.tuple #[u, v, .int .i64 (errS t [i, j])]) ∧ Ext w w' ∧ (errS t [i, j] = 0 → u = .agg #[.slice a t.length cap, .int .i64 i] ∧ v = .agg #[.slice a t.length cap, .int .i64 j]) ∧ (errS t [i, j] ≠ 0 → u = .agg #[.slice none 0 0, .int .i64 0] ∧ v = .agg #[.slice none 0 0, .int .i64 0]) := by
  have hn63 := hT.1
  unfold maxLen at hn63
  obtain ⟨res, hres⟩ : ∃ res, res = errS t [i, j] := ⟨_, rfl⟩
  rw [← hres]
  have HRES := Lib.hid hres; clear hres
  obtain ⟨v0, hv0⟩ : ∃ v0, v0 = validT t := ⟨_, rfl⟩
  have HV0 := Lib.hid hv0
  have hcon := fun w' (hE : Ext w w') => Valid_any (hT.ext hB hE) (by have := hE.size; omega) hcap hcap2
  rw [← hv0] at hcon
  clear hv0
  go_enter Try.func50, Try.ntmps50
  go_wp2_with fail
  refine (hcon _ ((Ext.alloc w _).then_al _)).mono ?_
  rintro e w1 ⟨rfl, hb1⟩
  have hg1 : w1.heap[w.heap.size]? = some (.cells #[.slice none 0 0, .int .i64 0] 67) := hs_ext hb1 (hs_al hs_new)
  have hg2 : w1.heap[w.heap.size + 1]? = some (.cells #[.slice none 0 0, .int .i64 0] 67) := hs_ext hb1 (by have h := hs_new (w := w.alloc (.cells #[.slice none 0 0, .int .i64 0] 67)) (o := .cells #[.slice none 0 0, .int .i64 0] 67); rwa [World.size_alloc] at h)
  have hE1 : Ext w w1 := ((Ext.alloc w _).then_al _).trans hb1
  clear hb1 hcon
  have hlt : w.heap.size + 1 < w1.heap.size := (Array.getElem?_eq_some_iff.1 hg2).1
  have done : ∀ (c1 c2 : Array Value) (tmps : Array Value), tmps.getD 6 undef = .pointer (some ⟨w.heap.size, 0, none⟩) → tmps.getD 7 undef = .pointer (some ⟨w.heap.size + 1, 0, none⟩) → tmps.getD 8 undef = .int .i64 res → c1.size = 2 → c2.size = 2 →
      (res = 0 → c1 = #[.slice a t.length cap, .int .i64 i] ∧ c2 = #[.slice a t.length cap, .int .i64 j]) → (res ≠ 0 → c1 = #[.slice none 0 0, .int .i64 0] ∧ c2 = #[.slice none 0 0, .int .i64 0]) →
      bodyPost Try.prog Try.f50 (fun e w' => ∃ u v, e = .returned (.tuple #[u, v, .int .i64 res]) ∧ Ext w w' ∧ (res = 0 → u = .agg #[.slice a t.length cap, .int .i64 i] ∧ v = .agg #[.slice a t.length cap, .int .i64 j]) ∧ (res ≠ 0 → u = .agg #[.slice none 0 0, .int .i64 0] ∧ v = .agg #[.slice none 0 0, .int .i64 0])) .ret ⟨tmps, []⟩ ((w1.setRow w.heap.size c1).setRow (w.heap.size + 1) c2) := by
    intro c1 c2 tmps h6 h7 h8 s1 s2 hc hc'
    have hh2 : ((w1.setRow w.heap.size c1).setRow (w.heap.size + 1) c2).heap[w.heap.size + 1]? = some (.cells c2 67 (0, 0)) := setRow_heap _ _ _ _ _ _ (by rw [setRow_other _ _ _ _ (by omega)]; exact hg2)
    have hh1 : ((w1.setRow w.heap.size c1).setRow (w.heap.size + 1) c2).heap[w.heap.size]? = some (.cells c1 67 (0, 0)) := by
      rw [setRow_other _ _ _ _ (by omega)]
      exact setRow_heap _ _ _ _ _ _ hg1
    refine bodyPost_ret (results_two h6 h7 hh1 hh2 s1 s2) rfl ?_
    rw [h8]
    exact ⟨_, _, rfl, (hE1.setRow (Nat.le_refl _) _).setRow (by omega) _, fun h => ⟨by rw [(hc h).1], by rw [(hc h).2]⟩, fun h => ⟨by rw [(hc' h).1], by rw [(hc' h).2]⟩⟩
  have HD := Lib.hid done; clear done
  by_cases hz : v0 = 0
  · subst hz
    have HVal : Hid (errS t [i, j] = if [i, j].any (badIx t.length) then 7 else 0) := by show _ = _; rw [errS, if_neg (by rw [← HV0.out]; simp)]
    have bad : ∀ x, x ∈ [i, j] → (x < 0 ∨ (t.length : Int) ≤ x) → Hid (res = 7) := by
      intro x hx h
      show _ = _
      rw [HRES.out, HVal.out, if_pos (List.any_eq_true.2 ⟨x, hx, by simpa [badIx] using h⟩)]
    have HB := Lib.hid bad; clear bad
    by_cases h1 : i < 0
    · have e1 : decide (i < 0) = true := decide_eq_true h1
      have hr : res = 7 := (HB.out i (by simp) (.inl h1)).out
      go_wp2_with (refine wpList_store_all rfl 67 _ _ rfl _ _ rfl rfl 67 _ (by first | exact hg1 | exact hg2 | (rw [setRow_other _ _ _ _ (by omega)]; exact hg2)) inf67 rfl (by first | rfl | simp [Value.oneCell']) ?_)
      exact HD.out _ _ _ rfl rfl (by rw [hr]; rfl) rfl rfl (by rw [hr]; omega) (fun _ => ⟨rfl, rfl⟩)
    have e1 : decide (i < 0) = false := decide_eq_false h1
    by_cases h2 : (t.length : Int) ≤ i
    · have e2 : decide ((t.length : Int) ≤ i) = true := decide_eq_true h2
      have hr : res = 7 := (HB.out i (by simp) (.inr h2)).out
      go_wp2_with (refine wpList_store_all rfl 67 _ _ rfl _ _ rfl rfl 67 _ (by first | exact hg1 | exact hg2 | (rw [setRow_other _ _ _ _ (by omega)]; exact hg2)) inf67 rfl (by first | rfl | simp [Value.oneCell']) ?_)
      exact HD.out _ _ _ rfl rfl (by rw [hr]; rfl) rfl rfl (by rw [hr]; omega) (fun _ => ⟨rfl, rfl⟩)
    have e2 : decide ((t.length : Int) ≤ i) = false := decide_eq_false h2
    by_cases h3 : j < 0
    · have e3 : decide (j < 0) = true := decide_eq_true h3
      have hr : res = 7 := (HB.out j (by simp) (.inl h3)).out
      go_wp2_with (refine wpList_store_all rfl 67 _ _ rfl _ _ rfl rfl 67 _ (by first | exact hg1 | exact hg2 | (rw [setRow_other _ _ _ _ (by omega)]; exact hg2)) inf67 rfl (by first | rfl | simp [Value.oneCell']) ?_)
      exact HD.out _ _ _ rfl rfl (by rw [hr]; rfl) rfl rfl (by rw [hr]; omega) (fun _ => ⟨rfl, rfl⟩)
    have e3 : decide (j < 0) = false := decide_eq_false h3
    by_cases h4 : (t.length : Int) ≤ j
    · have e4 : decide ((t.length : Int) ≤ j) = true := decide_eq_true h4
      have hr : res = 7 := (HB.out j (by simp) (.inr h4)).out
      go_wp2_with (refine wpList_store_all rfl 67 _ _ rfl _ _ rfl rfl 67 _ (by first | exact hg1 | exact hg2 | (rw [setRow_other _ _ _ _ (by omega)]; exact hg2)) inf67 rfl (by first | rfl | simp [Value.oneCell']) ?_)
      exact HD.out _ _ _ rfl rfl (by rw [hr]; rfl) rfl rfl (by rw [hr]; omega) (fun _ => ⟨rfl, rfl⟩)
    have e4 : decide ((t.length : Int) ≤ j) = false := decide_eq_false h4
    obtain ⟨tb, toff, rfl, -⟩ := hT.2 (by rintro rfl; simp at h2; omega)
    have hr : res = 0 := by
      rw [HRES.out, HVal.out, if_neg (by simp [badIx]; omega)]
    go_wp2_with (first | (refine wpList_store_all rfl 67 _ _ rfl (w.heap.size) #[.slice (some ⟨tb, toff, none⟩) t.length cap, .int .i64 i] rfl rfl 67 #[.slice none 0 0, .int .i64 0] (hg1) inf67 rfl (by simp [Value.oneCell']) ?_) | (refine wpList_store_all rfl 67 _ _ rfl (w.heap.size + 1) #[.slice (some ⟨tb, toff, none⟩) t.length cap, .int .i64 j] rfl rfl 67 #[.slice none 0 0, .int .i64 0] (by rw [setRow_other _ _ _ _ (by omega)]; exact hg2) inf67 rfl (by simp [Value.oneCell']) ?_))
    refine HD.out _ _ _ ?_ ?_ ?_ ?_ ?_ ?_ ?_
    · rfl
    · rfl
    · rw [hr]; rfl
    · rfl
    · rfl
    · exact fun _ => ⟨rfl, rfl⟩
    · exact fun h => absurd hr h
  · have e1 : (v0 == 0) = false := beq_eq_false_iff_ne.2 hz
    have hr : res = v0 := by rw [HRES.out, errS, if_pos (by rw [← HV0.out]; exact hz), HV0.out]
    go_wp2_with (refine wpList_store_all rfl 67 _ _ rfl _ _ rfl rfl 67 _ (by first | exact hg1 | exact hg2 | (rw [setRow_other _ _ _ _ (by omega)]; exact hg2)) inf67 rfl (by first | rfl | simp [Value.oneCell']) ?_)
    exact HD.out _ _ _ rfl rfl (by rw [hr]; rfl) rfl rfl (by rw [hr]; exact fun h => absurd h hz) (fun _ => ⟨rfl, rfl⟩)

end Go.Proofs.Ythoelnoahfedmaa
