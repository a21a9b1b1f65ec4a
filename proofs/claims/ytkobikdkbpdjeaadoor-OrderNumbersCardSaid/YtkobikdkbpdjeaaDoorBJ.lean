/- Contracts: slices.Sorted(slices.Values(x)) at ints. -/
import Derived.Test.YtkobikdkbpdjeaaDoorH1
import Derived.Test.YtkobikdkbpdjeaaDoorYP
import Derived.RangeFuncBox
import Derived.RangeFuncLeaves
import Derived.Shelf.Abstract
import Derived.WalkKit
import Derived.OwnWalkIn
import Derived.TacticsInMore
import Derived.LoopNIn
import Derived.LoopIn
import Derived.Shelf.SlIterI.Sorted
namespace Go.Proofs.YtkobikdkbpdjeaaDoor
open Go Go.RowKit Go.Maps Go.Sort Go.Shelf Go.Proofs
set_option linter.unusedVariables false
set_option linter.unusedSimpArgs false

/-- what an iterator promises to a loop whose rounds leave all that lay before it -/
def SeqB {α : Type} (n : Nat) (P : Program) (g : Nat) (lb : Array Value) (enc : α → Value) (S : List α → Prop) (N : Nat) (w : World) : Prop :=
 ∀ (l : Nat) (J : List α → World → Prop) (W : World), Below w.heap.size w W → AbidesFrom W.heap.size J → (∀ pre W1, J pre W1 → Below w.heap.size w W1) →
   (∀ pre x W1, J pre W1 → pre.length < N → YieldAt Fence.wide (n - 1) P l #[enc x] W1 fun e W' => e = .returned (.bool true) ∧ J (pre ++ [x]) W' ∧ KeepsWalks W1 W') →
   J [] W →
   CallsIn Fence.wide n P g (#[.func (.yield l) #[] #[]] ++ lb) W fun e W' => (∃ v, e = .returned v) ∧ ∃ xs, S xs ∧ J xs W'

attribute [local go_sem] Oper.semAt_some
set_option maxRecDepth 100000 in
set_option maxHeartbeats 2000000 in
theorem values1_in (n : Nat) (hn : 1 ≤ n) (l Bs : Nat) (C : List Int) (a : Option Addr) (cap : Nat) (J : List Int → World → Prop) (w0 : World) (hI : LsI w0 (.slice a C.length cap) C) (hBs : w0.cell? ⟨Bs, 0, none⟩ = some (.slice a C.length cap)) (hJB : ∀ pre W1, J pre W1 → Below w0.heap.size w0 W1)
 (hY : ∀ pre x W, J pre W → pre.length < C.length → YieldAt Fence.wide (n - 1) Tryd.prog l #[.int .i64 x] W fun e W' => e = .returned (.bool true) ∧ J (pre ++ [x]) W' ∧ KeepsWalks W W')
 (W : World) (h0 : J [] W) :
 CallsIn Fence.wide n Tryd.prog 44 #[.func (.yield l) #[] #[], .pointer (some ⟨Bs, 0, none⟩)] W fun e W' => (∃ v, e = .returned v) ∧ ∃ ys, ys = C ∧ J ys W' := by
 have hcl : ∀ {b off : Nat} {v : Value} (W1 : World), Below w0.heap.size w0 W1 → w0.cell? ⟨b, off, none⟩ = some v → W1.cell? ⟨b, off, none⟩ = some v := by
  intro b off v W1 hB hc
  have hb : b < w0.heap.size := World.block_lt_of_cell? w0 _ hc
  exact (hB.cell (p := ⟨b, off, none⟩) hb).trans hc
 have hBW := hcl W (hJB _ _ h0) hBs
 have hAll : ∀ (k : Nat) (W1 : World), J (C.take k) W1 → ∀ x, C[k]? = some x → ∃ b off, a = some ⟨b, off, none⟩ ∧ W1.cell? ⟨b, off + k, none⟩ = some (.int .i64 x) := by
  intro k W1 hJ x hx
  obtain ⟨b, off, e, hc⟩ := hI.ints k x hx
  exact ⟨b, off, e, hcl W1 (hJB _ _ hJ) hc⟩
 obtain ⟨-, hlen, hcp⟩ := hI.len
 unfold maxLen at hcp
 clear hI hBs hcl hJB
 refine callsIn_of_wp Tryd.func44 rfl trivial ?_ rfl
 simp only [Tryd.ntmps44, List.size_toArray, List.length_cons, List.length_nil, Nat.reduceAdd, Nat.reduceSub, Array.replicate_succ, Array.replicate_zero, List.push_toArray, List.append_toArray, List.nil_append, List.cons_append]
 gi_wp2
 gi_loopw [7] (fun i wr => ∃ k : Nat, k ≤ C.length ∧ i = .int .i64 k ∧ J (C.take k) wr)
  (fun i _ => C.length - (intOf i).toNat)
 case atStart => exact ⟨0, Nat.zero_le _, rfl, by simpa using h0⟩
 case round =>
  obtain ⟨k, hk, rfl, hJs⟩ := hrel
  by_cases hlt : k < C.length
  · obtain ⟨x, hx⟩ : ∃ x, C[k]? = some x := ⟨_, List.getElem?_eq_getElem hlt⟩
    obtain ⟨b, off, rfl, hcx⟩ := hAll k wr hJs x hx
    obtain ⟨fn, tmps, assign, body, hy, hR⟩ := hY _ x wr hJs (by rw [List.length_take]; omega)
    gi_wp2
    refine hR.mono ?_
    rintro e W3 ⟨rfl, hJ3, hk3⟩
    gi_wp2
    go_roundw
    case rel => exact ⟨k + 1, by omega, by simp, by rw [int_take hx]; exact hJ3⟩
    case measure => simp [intOf]; omega
  · obtain rfl : k = C.length := by omega
    gi_wp2
    go_end0
    exact ⟨⟨_, rfl⟩, _, rfl, by simpa using hJs⟩
theorem values_gives (n : Nat) (hn : 1 ≤ n) {w w' : World} {C : List Int} {a : Option Addr} {cap : Nat} (hI : LsI w (.slice a C.length cap) C) (hw : w' = w.alloc (.cells #[.slice a C.length cap] 23)) :
 SeqB n Tryd.prog 44 #[.pointer (some ⟨w.heap.size, 0, none⟩)] encZ (fun ss => ss = C) C.length w' := by
 intro l J W hW hJ hJB hY h0
 have hE : Ext w w' := by rw [hw]; exact Ext.alloc w _
 refine (values1_in n hn l w.heap.size C a cap J w' (hI.ext hE) (by rw [hw]; exact cs_new rfl) hJB hY W h0).mono ?_
 rintro e W' ⟨h1, ys, h2, h3⟩
 exact ⟨h1, ys, h2, h3⟩

theorem appendSeqB (n : Nat) (hn : 2 ≤ n) (g : Nat) (lb : Array Value) (eg : ∀ args w, (callFunc g args).run Tryd.prog w = .ok (.enter g args) w)
 (S : List Int → Prop) (N : Nat) (hN : N ≤ maxLen) (hNb : N * 8 ≤ 140737488355328) (w : World) (hseq : SeqB (n - 1) Tryd.prog g lb encZ S N w) :
 CallsIn Fence.wide n Tryd.prog 55 #[.slice none 0 0, .func (.func g) #[] lb] w fun e w' => ∃ (v : Value) (ss : List Int), e = .returned v ∧ S ss ∧ w'.ownsRow w.heap.size 3 1 v ss.length (ss.map encZ) ∧ (v = .slice none 0 0 ↔ ss = []) ∧ Below w.heap.size w w' := by
 have L := apI
 have h1 : 1 ≤ n := by omega
 have mixed := L.mixed; have t0 := L.t0; have a0 := L.a0; have z0 := L.z0; have v0 := L.v0; have t24 := L.t24; have a24 := L.a24; have z24 := L.z24; have v24 := L.v24; have t26 := L.t26; have a26 := L.a26; have z26 := L.z26; have v26 := L.v26; have t28 := L.t28; have a28 := L.a28; have z28 := L.z28; have v28 := L.v28
 have u0 := run_underlying L.t0; have u24 := run_underlying L.t24; have u26 := run_underlying L.t26; have u28 := run_underlying L.t28
 obtain ⟨_, _, FG⟩ := L.f11
 have hfl : apI_ren.f 11 = 55 := rfl
 have ht3 : apI_ren.t 26 = 3 := rfl
 have hte : apI_ren.t 24 ≠ apI_ren.t 26 := by decide
 rw [← hfl, ← ht3]
 refine callsIn_of_wp_marks FG rfl trivial ?_ rfl
 simp only [SlBodyZ.n11_ntmps apI_ren, List.size_toArray, List.length_cons, List.length_nil, Nat.reduceAdd, Nat.reduceSub, Array.replicate_succ, Array.replicate_zero, List.push_toArray, List.append_toArray, List.nil_append, List.cons_append]
 gi_wp2
 refine wpIn_rangeFunc ?_
 intro fn hfn
 obtain ⟨W0, hW0⟩ : ∃ W0, w.alloc (.cells #[.slice none 0 0] (apI_ren.t 24)) = W0 := ⟨_, rfl⟩
 have hs0 : W0.heap.size = w.heap.size + 1 := by rw [← hW0]; simp
 have hv0 : W0.heap[w.heap.size]? = some (.cells #[.slice none 0 0] (apI_ren.t 24) (0, 0)) := by rw [← hW0]; exact World.alloc_heap_new w _
 have hb0 : Below w.heap.size w W0 := by rw [← hW0]; exact (Below.refl _ w).alloc (Nat.le_refl _) _
 rw [hW0]
 obtain ⟨W1, hW1⟩ : ∃ W1, (W0.alloc (.deferred (some []))).alloc (.loop (AnyZI.apRec apI_ren fn (.func (.func g) #[] lb) w.heap.size W0.heap.size .ready none)) = W1 := ⟨_, rfl⟩
 have hold : ∀ k, k < W0.heap.size → W1.heap[k]? = W0.heap[k]? := fun k hk => by
  rw [← hW1]; exact (Below.heap_alloc _ _ k (by simp; omega)).trans (Below.heap_alloc _ _ k hk)
 have hb1 : Below w.heap.size w W1 := by rw [← hW1]; exact (hb0.alloc hb0.size _).alloc (by have := hb0.size; simp; omega) _
 have hs1 : W1.heap.size = W0.heap.size + 2 := by rw [← hW1]; simp
 have hM : AnyZI.ApAt apI_ren w fn (.func (.func g) #[] lb) w.heap.size (W0.heap.size + 1) W0.heap.size [] W1 :=
  ⟨⟨_, (hold w.heap.size (by omega)).trans hv0, ⟨rfl, .inl ⟨rfl, rfl⟩⟩, by simp⟩,
   by rw [← hW1]; have := World.alloc_heap_new (W0.alloc (.deferred (some []))) (.loop (AnyZI.apRec apI_ren fn (.func (.func g) #[] lb) w.heap.size W0.heap.size .ready none)); rwa [World.size_alloc] at this,
   by rw [← hW1]; exact (Below.heap_alloc _ _ _ (by simp)).trans (World.alloc_heap_new W0 _), hb1⟩
 refine ⟨W0.heap.size + 1, [{ target := .collected W0.heap.size, args := #[] }], W1, { target := .fn (.func g) lb, args := #[.func (.yield (W0.heap.size + 1)) #[] #[]] }, W1, g,
  #[.func (.yield (W0.heap.size + 1)) #[] #[]] ++ lb, W1, ?_, ?_, ?_, ?_, fun _ => h1, ?_⟩
 · rw [← hW1]; exact run_enterLoop_outer _ _ _ _ _
 · simp [resolve, go_sem]
 · intro f' hf'; trivial
 · simp [invoke, go_sem, eg]
 · refine (hseq (W0.heap.size + 1) (AnyZI.ApAt apI_ren w fn (.func (.func g) #[] lb) w.heap.size (W0.heap.size + 1) W0.heap.size) W1 hb1 (AnyZI.ap_abides apI_ren _ _ _ _ _ _ _ hb1.size) (fun pre W hJ => hJ.below)
    (fun pre x W hJ hl => AnyZI.apYield { L with } Fence.wide (n - 1 - 1) w fn hfn _ w.heap.size (W0.heap.size + 1) W0.heap.size (by omega) (by omega) (by omega) (Nat.le_refl _) (by omega) N hN hNb pre x W hJ hl) hM).mono ?_
   rintro e W2 ⟨⟨v0, rfl⟩, ss, hS, h2⟩
   obtain ⟨v, hv, hrow, hnil⟩ := h2.box
   have hend := run_endLoop (P := Tryd.prog) h2.L (by simp [AnyZI.apRec])
   obtain ⟨W3, hW3⟩ : ∃ W3, W2.putObj (W0.heap.size + 1) (.loop { AnyZI.apRec apI_ren fn (.func (.func g) #[] lb) w.heap.size W0.heap.size .ready none with state := .exhausted }) = W3 := ⟨_, rfl⟩
   rw [hW3] at hend
   have hg3 : W2.grownBy W3 (some (W0.heap.size + 1)) := by rw [← hW3]; exact grownBy_putObj_a _ _ _
   have hv3 : W3.heap[w.heap.size]? = some (.cells #[v] (apI_ren.t 24) (0, 0)) := by rw [← hW3]; exact (World.putObj_heap_other (by omega)).trans hv
   have hK3 : W3.heap[W0.heap.size]? = some (.deferred (some [])) := by rw [← hW3]; exact (World.putObj_heap_other (by omega)).trans h2.K
   have hrow3 := hrow.kept hg3 (ownsRow_ne_a hrow h2.L (fun cur e => by first | cases e | exact hte (Obj.cells.inj e).2.1))
   have hb3 : Below w.heap.size w W3 := h2.below.grown hg3 h2.below.size (fun k e => by cases e; omega)
   obtain ⟨hc3, hf3⟩ := cell_of_box_a hv3
   clear hW3
   refine ⟨none, W3, hend, ?_⟩
   gi_wp2
   rw [← hs0]
   refine ⟨by simp, .inl ⟨_, _, rfl, run_takeDeferred hK3, ?_⟩⟩
   exact ⟨_, results_tmp rfl _ _ _, v, ss, rfl, hS, hrow3.kept (grownBy_putObj_a _ _ _) (ownsRow_ne_a hrow3 hK3 (fun cur e => by first | cases e | exact hte (Obj.cells.inj e).2.1)), hnil, hb3.grown (grownBy_putObj_a _ _ _) hb3.size (fun k e => by cases e; omega)⟩
end Go.Proofs.YtkobikdkbpdjeaaDoor
