/- Contracts: copies of lists, small helpers of the laws (seat 04). -/
import Derived.Test.YtkobikdkbpdjeaaGreatDoorC9
namespace Go.Proofs.YtkobikdkbpdjeaaGreatDoor
open Go Go.RowKit
set_option linter.unusedVariables false
set_option linter.unusedSimpArgs false

theorem infStr : (Tryz.prog.info? 9).map (fun i => (i.zero, i.size, i.bytes)) = some (some (.string ⟨#[]⟩), 1, 16) := by kernel_rfl
theorem own_made4 {α : Type} {E : Elm α} {w : World} {base : Nat} {T : TypeId} {S : Nat → Prop} (hb : base ≤ w.heap.size) : OwnG E (w.alloc (.cells #[] T)) base T S (.slice (some ⟨w.heap.size, 0, none⟩) 0 0) ([] : List α) :=
 ⟨[], rfl, by simp, ⟨by simp, .inr ⟨w.heap.size, 0, #[], rfl, hb, hs_new, Nat.le_refl _, by unfold maxLen; omega, by simp, by simp⟩⟩⟩
theorem elI_wide4 {w w' : World} {S S' : Nat → Prop} {C : List Int} {v : Value} {base : Nat} (h : OwnG elI w base 3 S v C) : OwnG elI w base 3 S' v C :=
 let ⟨P, e1, e2, e3⟩ := h
 ⟨P, e1, fun p hp => e2 p hp, e3⟩
theorem elS_wide4 {w w' : World} {S S' : Nat → Prop} {C : List ByteArray} {v : Value} {base : Nat} (h : OwnG elS w base 9 S v C) : OwnG elS w base 9 S' v C :=
 let ⟨P, e1, e2, e3⟩ := h
 ⟨P, e1, fun p hp => e2 p hp, e3⟩

set_option maxRecDepth 100000 in
set_option maxHeartbeats 1000000 in
theorem iClone4 {w : World} {Sq : Nat → Prop} {a : Option Addr} {cap : Nat} {C : List Int} (hll : C.length ≤ 1000000) (hC : LsG elI w Sq (.slice a C.length cap) C) :
 Calls Tryz.prog 17 #[.slice a C.length cap] w fun e w' => ∃ u, e = .returned u ∧ Ext w w' ∧ OwnG elI w' w.heap.size 3 (fun _ => False) u C := by
 have q45 : ∀ (w : World) (a : Option Addr) (n c n' c' : Nat), (binOp .eql 30 (.slice a n c) (.slice none n' c')).run Tryz.prog w = .ok (.bool a.isNone) w := fun w a n c n' c' => Lib.run_eql_slice_nil w _ _ a n c n' c' Tryz.underlying30
 cases a with
 | none =>
   have hC0 : C = [] := by
    cases C with
    | nil => rfl
    | cons x L => obtain ⟨b, off, e, -⟩ := hC.iAt (i := 0) (x := x) rfl; cases e
   subst hC0
   go_enter Tryz.func17, Tryz.ntmps17
   go_wp2
   go_ret
   exact ⟨_, rfl, Ext.refl _, OwnG.nil⟩
 | some ad =>
   have hsz : w.heap.size ≤ (w.alloc (.cells #[] 3)).heap.size := by simp
   have hO0 : OwnG elI (w.alloc (.cells #[] 3)) w.heap.size 3 (fun c => c < w.heap.size) (.slice (some ⟨w.heap.size, 0, none⟩) 0 0) [] := own_made4 (Nat.le_refl _)
   have hC0 := (hC.below.ext (Ext.alloc w (.cells #[] 3))).e
   have hoff : ∀ c, c < w.heap.size → (Value.slice (some ⟨w.heap.size, 0, none⟩) 0 0).ownBlock ≠ some c := fun c hc e => by
    have := Option.some.inj (show some w.heap.size = some c from e); omega
   have HE0 : Hid (Ext w (w.alloc (.cells #[] 3))) := Lib.hid (Ext.alloc w _)
   clear hC
   go_enter Tryz.func17, Tryz.ntmps17
   go_wp2_with (
    at_builtin
    refine wpList_appG (E := elI) (T := 3) rfl 30 (.tmp 5) (.tmp 6) rfl rfl rfl Tryz.underlying30 infInt rfl (by decide) (by decide) hO0 hsz hoff (by simp) (M := C) hll hC0 ?_
    intro v5 w5 o5 g5 k5
    have HO5 := Lib.hid o5
    have HE5 : Hid (Ext w w5) := Lib.hid (HE0.out.grown g5 (fun q hq => by cases hq; exact Nat.le_refl _))
    clear o5 g5 hO0 hC0)
   go_ret
   exact ⟨_, rfl, HE5.out, by have h := HO5.out; rw [List.nil_append] at h; exact elI_wide4 (w' := w) h⟩

set_option maxRecDepth 100000 in
set_option maxHeartbeats 1000000 in
theorem sClone4 {w : World} {Sq : Nat → Prop} {a : Option Addr} {cap : Nat} {C : List ByteArray} (hll : C.length ≤ 1000000) (hC : LsG elS w Sq (.slice a C.length cap) C) :
 Calls Tryz.prog 16 #[.slice a C.length cap] w fun e w' => ∃ u, e = .returned u ∧ Ext w w' ∧ OwnG elS w' w.heap.size 9 (fun _ => False) u C := by
 have q45 : ∀ (w : World) (a : Option Addr) (n c n' c' : Nat), (binOp .eql 28 (.slice a n c) (.slice none n' c')).run Tryz.prog w = .ok (.bool a.isNone) w := fun w a n c n' c' => Lib.run_eql_slice_nil w _ _ a n c n' c' Tryz.underlying28
 cases a with
 | none =>
   have hC0 : C = [] := by
    cases C with
    | nil => rfl
    | cons x L => obtain ⟨b, off, e, -⟩ := hC.sAt (i := 0) (x := x) rfl; cases e
   subst hC0
   go_enter Tryz.func16, Tryz.ntmps16
   go_wp2
   go_ret
   exact ⟨_, rfl, Ext.refl _, OwnG.nil⟩
 | some ad =>
   have hsz : w.heap.size ≤ (w.alloc (.cells #[] 9)).heap.size := by simp
   have hO0 : OwnG elS (w.alloc (.cells #[] 9)) w.heap.size 9 (fun c => c < w.heap.size) (.slice (some ⟨w.heap.size, 0, none⟩) 0 0) [] := own_made4 (Nat.le_refl _)
   have hC0 := (hC.below.ext (Ext.alloc w (.cells #[] 9))).e
   have hoff : ∀ c, c < w.heap.size → (Value.slice (some ⟨w.heap.size, 0, none⟩) 0 0).ownBlock ≠ some c := fun c hc e => by
    have := Option.some.inj (show some w.heap.size = some c from e); omega
   have HE0 : Hid (Ext w (w.alloc (.cells #[] 9))) := Lib.hid (Ext.alloc w _)
   clear hC
   go_enter Tryz.func16, Tryz.ntmps16
   go_wp2_with (
    at_builtin
    refine wpList_appG (E := elS) (T := 9) rfl 28 (.tmp 5) (.tmp 6) rfl rfl rfl Tryz.underlying28 infStr rfl (by decide) (by decide) hO0 hsz hoff (by simp) (M := C) hll hC0 ?_
    intro v5 w5 o5 g5 k5
    have HO5 := Lib.hid o5
    have HE5 : Hid (Ext w w5) := Lib.hid (HE0.out.grown g5 (fun q hq => by cases hq; exact Nat.le_refl _))
    clear o5 g5 hO0 hC0)
   go_ret
   exact ⟨_, rfl, HE5.out, by have h := HO5.out; rw [List.nil_append] at h; exact elS_wide4 (w' := w) h⟩
theorem OwnG.new4 {α : Type} {E : Elm α} {w : World} {base : Nat} {T : TypeId} {v : Value} {L : List α} (h : OwnG E w base T (fun _ => False) v L) : LsG E w (fun c => base ≤ c ∧ c < w.heap.size) v L := h.ls (fun _ h _ => h.elim) (fun _ _ h1 h2 => ⟨h1, h2⟩)

set_option maxRecDepth 100000 in
set_option maxHeartbeats 1000000 in
theorem few4 {w : World} {S : Nat → Prop} {a : Option Addr} {cap : Nat} {L : List Tm} (hL : L.length ≤ maxLen) (hT : TsA w S a L) :
 Calls Tryz.prog 7 #[.slice a L.length cap] w fun e w' => e = .returned (.bool (fewT L 4 60)) ∧ Ext w w' := by
 have HF := Lib.hid (Few_any (w := w) (cap := cap) (n := 4) (m := 60) (by omega) (by omega) (by omega) hL hT)
 clear hT
 obtain ⟨o, ho⟩ : ∃ o, o = fewT L 4 60 := ⟨_, rfl⟩
 rw [← ho] at HF ⊢
 clear ho
 go_enter Tryz.func7, Tryz.ntmps7
 go_wp2_with fail
 refine HF.out.mono ?_
 rintro e w1 ⟨rfl, hE1⟩
 go_wp2_with fail
 go_ret
 exact ⟨rfl, hE1⟩

set_option maxRecDepth 100000 in
set_option maxHeartbeats 1000000 in
theorem RGround_any {w : World} {S : Nat → Prop} {a : Option Addr} {cap : Nat} {t : Tm} (hn : sizeT t ≤ 100000) (hS : ∀ c, S c → c < w.heap.size) (hT : TmW w S a cap t) :
 Calls Tryz.prog 14 #[.agg #[.int .i64 t.kind, .string t.name, .int .i64 t.sort, .slice a t.kids.length cap]] w fun e w' => e = .returned (.bool (decide (varsT t = []))) ∧ Ext w w' := by
 have hl := hT.len
 have hc := hT.cap
 unfold maxLen at hc
 obtain ⟨bx, w1, hbbx, hwbx, HBbx, hEbx⟩ := box_new w (.cells #[.int .i64 t.kind, .string t.name, .int .i64 t.sort, .slice a t.kids.length cap] 24)
 obtain ⟨b0, b1, b2, b3⟩ := box4r (HBbx.out)
 have HE1 := Lib.hid hEbx
 have HVA := Lib.hid (RVars_any (w := w1) hn (fun c h => Nat.lt_of_lt_of_le (hS c h) hEbx.size) (hT.ext hEbx))
 obtain ⟨G, hG⟩ : ∃ G, G = varsT t := ⟨_, rfl⟩
 rw [← hG] at HVA ⊢
 have HD : Hid (decide (G = []) = decide ((G.length : Int) = 0)) := Lib.hid (by cases G <;> simp; omega)
 clear hT hEbx hG
 go_enter Tryz.func14, Tryz.ntmps14
 go_upto_region 1 with fail
 rw [← hwbx, ← hbbx]
 clear hwbx hbbx
 go_wp2_with fail
 refine HVA.out.mono ?_
 rintro e w2 ⟨r, rfl, hE2, hO2⟩
 obtain ⟨ra, rc, hr, hrl, hrc, -⟩ := id hO2.ls
 subst hr
 clear hO2
 by_cases h0 : (G.length : Int) = 0
 · have hb : ((G.length : Int) == 0) = true := by simp [h0]
   have HH : Hid (decide (G = []) = true) := Lib.hid (by rw [HD.out, decide_eq_true h0])
   clear h0
   go_wp2_with fail
   go_ret
   exact ⟨by rw [HH.out]; rfl, HE1.out.trans hE2⟩
 · have hb : ((G.length : Int) == 0) = false := by rw [beq_eq_false_iff_ne]; exact h0
   have HH : Hid (decide (G = []) = false) := Lib.hid (by rw [HD.out, decide_eq_false h0])
   clear h0
   go_wp2_with fail
   go_ret
   exact ⟨by rw [HH.out]; rfl, HE1.out.trans hE2⟩
end Go.Proofs.YtkobikdkbpdjeaaGreatDoor
