/- Contracts: a copy of a list of numbers; the positions' closure. -/
import Derived.Test.YtpfnlbaloaohgaaGreatH4
import Derived.Test.YtpfnlbaloaohgaaGreatH2
import Derived.Test.YtpfnlbaloaohgaaGreatG7
namespace Go.Proofs.YtpfnlbaloaohgaaGreat
open Go Go.RowKit
set_option linter.unusedVariables false
set_option linter.unusedSimpArgs false

theorem own_made {α : Type} {E : Elm α} {w : World} {base : Nat} {T : TypeId} {S : Nat → Prop} (hb : base ≤ w.heap.size) : OwnG E (w.alloc (.cells #[] T)) base T S (.slice (some ⟨w.heap.size, 0, none⟩) 0 0) ([] : List α) :=
  ⟨[], rfl, by simp, ⟨by simp, .inr ⟨w.heap.size, 0, #[], rfl, hb, hs_new, Nat.le_refl _, by unfold maxLen; omega, by simp, by simp⟩⟩⟩
theorem elI_wide {w w' : World} {S S' : Nat → Prop} {C : List Int} {v : Value} {base : Nat} (h : OwnG elI w base 3 S v C) : OwnG elI w base 3 S' v C :=
  let ⟨P, e1, e2, e3⟩ := h
  ⟨P, e1, fun p hp => e2 p hp, e3⟩

set_option maxRecDepth 100000 in
set_option maxHeartbeats 1000000 in
theorem iClone_own {w : World} {Sq : Nat → Prop} {a : Option Addr} {cap : Nat} {C : List Int} (hll : C.length ≤ 1000000) (hC : LsG elI w Sq (.slice a C.length cap) C) :
    Calls Tryz.prog 18 #[.slice a C.length cap] w fun e w' => ∃ u, e = .returned u ∧ Ext w w' ∧ OwnG elI w' w.heap.size 3 (fun _ => True) u C := by
  have q45 : ∀ (w : World) (a : Option Addr) (n c n' c' : Nat), (binOp .eql 33 (.slice a n c) (.slice none n' c')).run Tryz.prog w = .ok (.bool a.isNone) w := fun w a n c n' c' => Lib.run_eql_slice_nil w _ _ a n c n' c' Tryz.underlying33
  cases a with
  | none =>
    have hC0 : C = [] := by
      cases C with
      | nil => rfl
      | cons x L => obtain ⟨b, off, e, -⟩ := hC.iAt (i := 0) (x := x) rfl; cases e
    subst hC0
    go_enter Tryz.func18, Tryz.ntmps18
    go_wp2
    go_ret
    exact ⟨_, rfl, Ext.refl _, OwnG.nil⟩
  | some ad =>
    have hsz : w.heap.size ≤ (w.alloc (.cells #[] 3)).heap.size := by simp
    have hO0 : OwnG elI (w.alloc (.cells #[] 3)) w.heap.size 3 (fun c => c < w.heap.size) (.slice (some ⟨w.heap.size, 0, none⟩) 0 0) [] := own_made (Nat.le_refl _)
    have hC0 := (hC.below.ext (Ext.alloc w (.cells #[] 3))).e
    have hoff : ∀ c, c < w.heap.size → (Value.slice (some ⟨w.heap.size, 0, none⟩) 0 0).ownBlock ≠ some c := fun c hc e => by
      have := Option.some.inj (show some w.heap.size = some c from e); omega
    have HE0 : Hid (Ext w (w.alloc (.cells #[] 3))) := Lib.hid (Ext.alloc w _)
    clear hC
    go_enter Tryz.func18, Tryz.ntmps18
    go_wp2_with (
      at_builtin
      refine wpList_appG (E := elI) (T := 3) rfl 33 (.tmp 5) (.tmp 6) rfl rfl rfl Tryz.underlying33 infInt rfl (by decide) (by decide) hO0 hsz hoff (by simp) (M := C) hll hC0 ?_
      intro v5 w5 o5 g5 k5
      have HO5 := Lib.hid o5
      have HE5 : Hid (Ext w w5) := Lib.hid (HE0.out.grown g5 (fun q hq => by cases hq; exact Nat.le_refl _))
      clear o5 g5 hO0 hC0)
    go_ret
    exact ⟨_, rfl, HE5.out, by have h := HO5.out; rw [List.nil_append] at h; exact elI_wide (w' := w) h⟩

/-- the positions under way -/
structure PosI (w0 wr : World) (ob vb : Nat) (v : Value) (L : List (List Int)) : Prop where
  ext : Ext w0 wr
  oc : wr.heap[ob]? = some (.cells #[v] 64)
  vc : wr.heap[vb]? = some (.cells #[.func (.func 60) #[] #[.pointer (some ⟨ob, 0, none⟩), .pointer (some ⟨vb, 0, none⟩)]] 87)
  own : OwnG (elL elI) wr (vb + 1) 33 (fun c => vb + 1 ≤ c ∧ v.ownBlock ≠ some c) v L
theorem PosI.next {w0 wr w' : World} {ob vb : Nat} {v : Value} {L : List (List Int)} (h : PosI w0 wr ob vb v L) (hE : Ext wr w') : PosI w0 w' ob vb v L := ⟨h.ext.trans hE, hs_ext hE h.oc, hs_ext hE h.vc, h.own.ext hE⟩
theorem PosI.put {w0 wr w' : World} {ob vb : Nat} {v v' : Value} {L L' : List (List Int)} (h : PosI w0 wr ob vb v L) (hw : w0.heap.size ≤ ob) (hov : ob < vb) (hO : OwnG (elL elI) w' (vb + 1) 33 (fun c => (vb + 1 ≤ c ∧ v.ownBlock ≠ some c) ∧ c < wr.heap.size) v' L') (hg : wr.grownBy w' v.ownBlock) (hat : v'.ownBlock = v.ownBlock ∨ v'.ownBlock = some wr.heap.size) :
    PosI w0 (w'.setCell ⟨ob, 0, none⟩ v') ob vb v' L' := by
  have hk := h.own.lt
  have hk' := hO.lt
  have n1 := lt_of_get' h.oc
  have n2 := lt_of_get' h.vc
  have b1 : w'.heap[ob]? = some (.cells #[v] 64) := by rw [hg.block ob n1 (fun e => by have := (hk ob e.symm).1; omega)]; exact h.oc
  have hE : Ext w0 w' := h.ext.grown hg (fun c hc => by have := (hk c hc).1; omega)
  refine ⟨hE.setCell hw v', ?_, ?_, ?_⟩
  · rw [heap_setCell_same w' ob 0 _ _ v' b1]; simp
  · rw [heap_setCell_other _ _ _ _ (by show vb ≠ ob; omega), hg.block vb n2 (fun e => by have := (hk vb e.symm).1; omega)]; exact h.vc
  · refine (hO.keep (w' := w'.setCell ⟨ob, 0, none⟩ v') (S' := fun c => (vb + 1 ≤ c ∧ v.ownBlock ≠ some c) ∧ c < wr.heap.size) (fun c hc => heap_setCell_other _ _ _ _ (by have := (hk' c hc).1; show c ≠ ob; omega)) (fun c hc _ => heap_setCell_other _ _ _ _ (by show c ≠ ob; omega)) (fun _ h _ => h)).wide (fun c hc _ => ⟨hc.1.1, fun e => ?_⟩)
    rcases hat with h1 | h1
    · exact hc.1.2 (by rw [← h1]; exact e)
    · rw [h1] at e
      simp only [Option.some.injEq] at e
      omega

end Go.Proofs.YtpfnlbaloaohgaaGreat
