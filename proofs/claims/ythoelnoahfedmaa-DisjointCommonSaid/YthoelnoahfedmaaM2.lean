/- The operations on an own map and an own slice, for the walk. -/
import Derived.Test.YthoelnoahfedmaaMaps
import Derived.Test.YthoelnoahfedmaaW8
import Derived.Test.YthoelnoahfedmaaL3
import Derived.Maps.AppendAt
import Derived.DeepKeys4
namespace Go.Proofs.Ythoelnoahfedmaa
open Go Go.RowKit
open Go.Maps (Keyed)
set_option linter.unusedVariables false
set_option linter.unusedSimpArgs false

theorem Ext.turned {w w' : World} {b : Nat} {o : Obj} (h : Ext w w') (hb : w.heap.size ≤ b) : Ext w (ChangeMaps.setBlock w' b o) :=
  ⟨h.os, h.tape, h.output, by simpa [ChangeMaps.setBlock] using h.size, fun k hk => by
    have : (ChangeMaps.setBlock w' b o).heap[k]? = w'.heap[k]? := by
      simp only [ChangeMaps.setBlock]
      rw [Array.setIfInBounds_def]
      split
      · rw [Array.getElem?_set_ne _ (by omega)]
      · rfl
    rw [this]; exact Ext.block h hk⟩
theorem turned_block {w : World} {b k : Nat} {o : Obj} (hk : k ≠ b) : (ChangeMaps.setBlock w b o).heap[k]? = w.heap[k]? := by
  simp only [ChangeMaps.setBlock]
  rw [Array.setIfInBounds_def]
  split
  · rw [Array.getElem?_set_ne _ (fun h => hk h.symm)]
  · rfl
theorem turned_size {w : World} {b : Nat} {o : Obj} : (ChangeMaps.setBlock w b o).heap.size = w.heap.size := by simp [ChangeMaps.setBlock]
theorem ownsRow_same {w w' : World} {base size n : Nat} {e : TypeId} {v : Value} {xs : List Value} (h : w.ownsRow base e size v n xs) (hb : ∀ g, v.ownBlock = some g → w'.heap[g]? = w.heap[g]?) : w'.ownsRow base e size v n xs := by
  refine ⟨h.1, ?_⟩
  rcases h.2 with h | ⟨g, cap, cur, rfl, h1, h2, h3⟩
  · exact .inl h
  · exact .inr ⟨g, cap, cur, rfl, h1, by rw [hb g rfl]; exact h2, h3⟩
theorem ownsRow_ext {w w' : World} {base size n : Nat} {e : TypeId} {v : Value} {xs : List Value} (h : w.ownsRow base e size v n xs) (hE : Ext w w') : w'.ownsRow base e size v n xs :=
  ownsRow_same h fun g hg => hE.block (h.lt g hg).2
theorem Ext.grown {w w' w'' : World} {row : Option Nat} (h : Ext w w') (hg : w'.grownBy w'' row) (hrow : ∀ k, row = some k → w.heap.size ≤ k) : Ext w w'' :=
  ⟨hg.os.trans h.os, hg.tape.trans h.tape, hg.output.trans h.output, Nat.le_trans h.size hg.size,
    fun i hi => (hg.block i (Nat.lt_of_lt_of_le hi h.size) (fun e => by have := hrow i e.symm; omega)).trans (Ext.block h hi)⟩

section
variable {K : Type} {enc : K → Value} {w : World} {b n : Nat} {F : K → Option Value} {P : Program} {ops : Array Oper} {rest : List Oper} {o : Oper} {a : Act} {Q : Exit → Act → World → Prop} {k : TypeId}

theorem wpList_mapK_update (hg : o.guard = none) (m x v : Operand) (t : TypeId) (hop : o.op = Op.mapUpdate t m x v) (h : MapK enc w b n F) (L : Keyed P k) (hk : ∀ x, ∃ l, keyOf P k (enc x) = some l) (hinj : ∀ x y, enc x = enc y → x = y)
    {e : TypeId} (ht : P.underlying t = some (.map k e)) (hm : a.eval m = .map (some b)) (y : K) (hx : a.eval x = enc y) (val : Value) (hv : a.eval v = val)
    (hK : ∀ ob, (∀ F' : K → Option Value, F' y = some val → (∀ z, z ≠ y → F' z = F z) → MapK enc (ChangeMaps.setBlock w b ob) b (n + 1) F') → wpList P ops Q rest (a.put o.dst undef) (ChangeMaps.setBlock w b ob)) :
    wpList P ops Q (o :: rest) a w := by
  refine wpList_plain hg fun K' hK' => ?_
  obtain ⟨ob, hrun, r1⟩ := h.update L hk hinj ht y val
  unfold Oper.wp
  simp [execOp, hop, hm, hx, hv, hrun, Result.andThen]
  exact hK' _ _ (hK ob r1)

theorem wpList_mapK_look (hg : o.guard = none) (m x : Operand) (t : TypeId) (c : Bool) (hop : o.op = Op.lookup t m x c) (h : MapK enc w b n F) (L : Keyed P k) (hk : ∀ x, ∃ l, keyOf P k (enc x) = some l)
    {e : TypeId} (ht : P.underlying t = some (.map k e)) {z : Value} (hz : (zeroValue e).run P w = .ok z w) (hm : a.eval m = .map (some b)) (y : K) (hx : a.eval x = enc y)
    (hK : wpList P ops Q rest (a.put o.dst (if c then .tuple #[(F y).getD z, .bool (F y).isSome] else (F y).getD z)) w) :
    wpList P ops Q (o :: rest) a w := by
  refine wpList_plain hg fun K' hK' => ?_
  have hrun := h.look L hk ht hz y c
  unfold Oper.wp
  simp [execOp, hop, hm, hx, hrun, Result.andThen]
  exact hK' _ _ (by simpa using hK)
end

def encI (x : Int) : Value := .int .i64 x
/-- whether a number is in a list -/
def inB {K : Type} [DecidableEq K] (L : List K) (x : K) : Option Value := if x ∈ L then some (.bool true) else none

theorem rStep_le {t : List Fmt} {F : List Fld} {s : Int} {b : Nat} (hF : F.length ≤ 100) (hb : b ≤ 255) : rStep t F s b ≤ 40000000 := by
  unfold rStep
  split
  · omega
  · split
    · omega
    · rename_i x hx
      have := lt_of_get hx
      split
      · unfold rNest
        split
        · split
          · omega
          · unfold stS; omega
        · split
          · omega
          · split
            · omega
            · rename_i y hy
              have hk := stepK_le y (f := (s % 256).toNat / 32) (r := (s % 256).toNat % 32) (b := b) (by omega) (by omega) hb
              generalize stepK y ((s % 256).toNat / 32) ((s % 256).toNat % 32) b = v at *
              (repeat' split) <;> (unfold stS at *; omega)
      · split
        · omega
        · have := stepK_le x (f := (s / 262144).toNat) (r := (s / 256 % 1024).toNat) (b := b) (by omega) (by omega) hb
          omega

/-- the step of a format, as a partial function -/
def stF (t : List Fmt) (F : List Fld) (s : Int) (b : Nat) : Option Int := if rStep t F s b < 0 then none else some (rStep t F s b)
/-- the step of two formats -/
def stP (t : List Fmt) (F G : List Fld) (p : Int × Int) (b : Nat) : Option (Int × Int) := if rStep t F p.1 b < 0 ∨ rStep t G p.2 b < 0 then none else some (rStep t F p.1 b, rStep t G p.2 b)

end Go.Proofs.Ythoelnoahfedmaa
