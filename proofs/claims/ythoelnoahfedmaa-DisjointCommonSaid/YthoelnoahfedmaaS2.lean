/- The reference's States. -/
import Derived.Test.YthoelnoahfedmaaS0
import Derived.Test.YthoelnoahfedmaaS1
import Derived.Maps.OwnSet
import Derived.Maps.OwnOps
import Derived.OwnWalk
namespace Go.Proofs.Ythoelnoahfedmaa
open Go Go.RowKit
open Go.Maps (Keyed)
set_option linter.unusedVariables false
set_option linter.unusedSimpArgs false

theorem inB_new {K : Type} [DecidableEq K] {L : List K} {n : K} : inB (L ++ [n]) n = some (.bool true) := by simp [inB]
theorem inB_other {K : Type} [DecidableEq K] {L : List K} {n y : K} (h : y ≠ n) : inB (L ++ [n]) y = inB L y := by simp [inB, h]
theorem inB_val {K : Type} [DecidableEq K] {L : List K} {n : K} : (inB L n).getD (.bool false) = .bool (decide (n ∈ L)) := by
  unfold inB
  by_cases h : n ∈ L <;> simp [h]

/-- what States of the reference answers -/
def StatesR (t : List Fmt) (i : Int) (n er : Int) : Prop :=
  (errS t [i] ≠ 0 ∧ n = 0 ∧ er = errS t [i]) ∨ (errS t [i] = 0 ∧ ∃ (j : Nat) (fm : Fmt), i = j ∧ t[j]? = some fm ∧ VFmt t fm ∧
    ((Over (stF t fm.fields) 0 ∧ n = 0 ∧ er = 3) ∨ ∃ L, Full (stF t fm.fields) 0 L ∧ L.length ≤ 20000 ∧ n = L.length ∧ er = 0))

theorem errS_zero {t : List Fmt} {l : List Int} (h : errS t l = 0) : validT t = 0 ∧ ∀ x ∈ l, 0 ≤ x ∧ x < t.length := by
  unfold errS at h
  by_cases h1 : validT t = 0
  · rw [if_neg (by simp [h1])] at h
    refine ⟨h1, fun x hx => ?_⟩
    by_cases h2 : l.any (badIx t.length) = true
    · rw [if_pos h2] at h; omega
    · simp only [Bool.not_eq_true] at h2
      rw [List.any_eq_false] at h2
      have := h2 x hx
      simp [badIx] at this
      omega
  · rw [if_pos h1] at h; exact absurd h h1

theorem ints_get {L : List Int} {k : Nat} {x : Int} (h : L[k]? = some x) : (L.map encI)[k]? = some (.int .i64 x) := by simp [h, encI]

theorem stF_none {t : List Fmt} {F : List Fld} {s : Int} {b : Nat} (h : rStep t F s b < 0) : stF t F s b = none := by rw [stF, if_pos h]
theorem stF_some {t : List Fmt} {F : List Fld} {s : Int} {b : Nat} (h : ¬ rStep t F s b < 0) : stF t F s b = some (rStep t F s b) := by rw [stF, if_neg h]

/-- all states are small -/
theorem lev_small {t : List Fmt} {F : List Fld} (hF : F.length ≤ 100) {k : Nat} : ∀ x ∈ lev (stF t F) 0 k, 0 ≤ x ∧ x ≤ 40000000 := by
  have tk : ∀ (L : List Int) (x : Int) (b : Nat), b ≤ 255 → (∀ y ∈ L, 0 ≤ y ∧ y ≤ 40000000) → ∀ y ∈ tick (stF t F) x L b, 0 ≤ y ∧ y ≤ 40000000 := by
    intro L x b hb hL y hy
    unfold tick at hy
    split at hy
    · exact hL y hy
    · rename_i n hn
      split at hy
      · exact hL y hy
      · rcases List.mem_append.1 hy with hy | hy
        · exact hL y hy
        · simp at hy
          subst hy
          unfold stF at hn
          split at hn
          · cases hn
          · cases hn
            exact ⟨by omega, rStep_le hF hb⟩
  have rw' : ∀ (L : List Int) (x : Int) (c : Nat), c ≤ 256 → (∀ y ∈ L, 0 ≤ y ∧ y ≤ 40000000) → ∀ y ∈ rowS (stF t F) L x c, 0 ≤ y ∧ y ≤ 40000000 := by
    intro L x c
    induction c with
    | zero => intro _ h; exact h
    | succ c ih => intro hc h; rw [rowS_succ]; exact tk _ _ _ (by omega) (ih (by omega) h)
  induction k with
  | zero => simp [lev]
  | succ k ih =>
    cases h : (lev (stF t F) 0 k)[k]? with
    | none => rw [lev_stuck h]; exact ih
    | some x => rw [lev_succ h]; exact rw' _ _ _ (by omega) ih

/-- the list and the map of a search -/
structure Srch (w wr : World) (mb : Nat) (lv : Value) (L : List Int) : Prop where
  own : wr.ownsRow w.heap.size 3 1 lv L.length (L.map encI)
  map : ∃ n, MapK encN wr mb n (fun x => inB L x.1)
  apart : lv.ownBlock ≠ some mb
  mb : w.heap.size ≤ mb
  ext : Ext w wr
theorem Srch.next {w wr w' : World} {mb : Nat} {lv : Value} {L : List Int} (h : Srch w wr mb lv L) (hE : Ext wr w') : Srch w w' mb lv L :=
  ⟨ownsRow_ext h.own hE, let ⟨n, h'⟩ := h.map; ⟨n, h'.ext hE⟩, h.apart, h.mb, h.ext.trans hE⟩
theorem Srch.at {w wr : World} {mb : Nat} {lv : Value} {L : List Int} {k : Nat} {x : Int} (h : Srch w wr mb lv L) (hk : L[k]? = some x) :
    ∃ g cap, lv = .slice (some ⟨g, 0, none⟩) L.length cap ∧ wr.cell? ⟨g, k, none⟩ = some (.int .i64 x) := by
  have hlt := (List.getElem?_eq_some_iff.1 hk).1
  rcases h.own.2 with ⟨-, h0⟩ | ⟨g, cap, cur, rfl, -⟩
  · omega
  · refine ⟨g, cap, rfl, ?_⟩
    have h0 := h.own.cells (g := g) rfl k _ (ints_get hk)
    by_cases hk0 : k = 0
    · subst hk0; simpa [Addr.add] using h0
    · simpa [Addr.add, hk0] using h0
theorem Srch.slice {w wr : World} {mb : Nat} {lv : Value} {L : List Int} (h : Srch w wr mb lv L) : ∃ a cap, lv = .slice a L.length cap := by
  rcases h.own.2 with ⟨rfl, h0⟩ | ⟨g, cap, cur, rfl, -⟩
  · exact ⟨none, 0, by rw [h0]⟩
  · exact ⟨_, _, rfl⟩

theorem Srch.start {w w2 : World} {mb n : Nat} (hE : Ext w w2) (hM : MapK encN w2 mb n (fun x => inB [0] x.1)) (h1 : w.heap.size ≤ mb) (h2 : mb < w2.heap.size) :
    Srch w (w2.alloc (.cells #[.int .i64 0] 3)) mb (.slice (some ⟨w2.heap.size, 0, none⟩) 1 1) [0] :=
  ⟨⟨rfl, .inr ⟨w2.heap.size, 1, #[.int .i64 0], rfl, hE.size, heap_alloc_new w2 _, by simp, by unfold maxLen; omega, rfl, rfl⟩⟩, ⟨n, hM.al _⟩, by simp [Value.ownBlock]; omega, h1, hE.then_al _⟩

theorem Srch.push {w w4 w5 : World} {mb n : Nat} {lv v' : Value} {L : List Int} {nv : Int} {o : Obj} (hE : Ext w w4) (hM : MapK encN w4 mb n (fun x => inB (L ++ [nv]) x.1)) (ha : lv.ownBlock ≠ some mb) (hl : ∀ k, lv.ownBlock = some k → w.heap.size ≤ k) (hmb : w.heap.size ≤ mb)
    (hown : w5.ownsRow w.heap.size 3 1 v' (L.length + 1) (L.map encI ++ [.int .i64 nv])) (hg : (w4.alloc o).grownBy w5 lv.ownBlock) (hat : v'.ownBlock = lv.ownBlock ∨ v'.ownBlock = some (w4.alloc o).heap.size) : Srch w w5 mb v' (L ++ [nv]) := by
  have hlt := hM.lt
  refine ⟨by simpa [encI] using hown, ⟨n, hM.same ?_⟩, ?_, hmb, (hE.then_al o).grown hg hl⟩
  · rw [hg.block mb (by simp; omega) (fun h => ha h.symm)]
    exact (Ext.alloc w4 o).block hlt
  · rcases hat with h | h
    · rw [h]; exact ha
    · rw [h]; simp; omega
theorem Srch.put {w wr : World} {mb : Nat} {lv : Value} {L : List Int} {nv : Int} (h : Srch w wr mb lv L) (hn : I64 nv) : ∃ w4 n, (Instr.mapUpdate 72 (.map (some mb)) (.int .i64 nv) (.bool true)).run Try.prog wr = .ok () w4 ∧ Ext w w4 ∧ MapK encN w4 mb n (fun x => inB (L ++ [nv]) x.1) ∧
    w4.ownsRow w.heap.size 3 1 lv L.length (L.map encI) := by
  obtain ⟨n, hM⟩ := h.map
  obtain ⟨ob, hup, hF⟩ := hM.update law3 key3 encN_inj Try.underlying72 ⟨nv, hn⟩ (.bool true)
  refine ⟨_, n + 1, hup, h.ext.turned h.mb, hF _ inB_new (fun y hy => inB_other (fun e => hy (Subtype.ext e))), ownsRow_same h.own fun g hg => turned_block (fun e => h.apart (by rw [hg, e]))⟩
theorem Srch.look {w wr : World} {mb : Nat} {lv : Value} {L : List Int} {nv : Int} (h : Srch w wr mb lv L) (hn : I64 nv) : (Instr.lookup 72 (.map (some mb)) (.int .i64 nv) false).run Try.prog wr = .ok (.bool (decide (nv ∈ L))) wr := by
  obtain ⟨n, hM⟩ := h.map
  have := hM.look law3 key3 Try.underlying72 (zero4 wr) ⟨nv, hn⟩ false
  simp only [inB_val] at this
  exact this

end Go.Proofs.Ythoelnoahfedmaa
