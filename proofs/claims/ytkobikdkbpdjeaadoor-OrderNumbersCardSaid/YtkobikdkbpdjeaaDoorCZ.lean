/- Contracts: copies of lists; slices.Compare, slices.Reverse at numbers; slices.ContainsFunc of the law (seat 04's plain rows). -/
import Derived.Test.YtkobikdkbpdjeaaDoorC3
import Derived.Test.YtkobikdkbpdjeaaDoorBM
import Derived.Test.YtkobikdkbpdjeaaDoorYO
namespace Go.Proofs.YtkobikdkbpdjeaaDoor
open Go Go.RowKit
set_option linter.unusedVariables false
set_option linter.unusedSimpArgs false

theorem infStr : (Tryd.prog.info? 9).map (fun i => (i.zero, i.size, i.bytes)) = some (some (.string ⟨#[]⟩), 1, 16) := by kernel_rfl
theorem own_made4 {α : Type} {E : Elm α} {w : World} {base : Nat} {T : TypeId} {S : Nat → Prop} (hb : base ≤ w.heap.size) : OwnG E (w.alloc (.cells #[] T)) base T S (.slice (some ⟨w.heap.size, 0, none⟩) 0 0) ([] : List α) :=
 ⟨[], rfl, by simp, ⟨by simp, .inr ⟨w.heap.size, 0, #[], rfl, hb, hs_new, Nat.le_refl _, by unfold maxLen; omega, by simp, by simp⟩⟩⟩
theorem elI_wide4 {w w' : World} {S S' : Nat → Prop} {C : List Int} {v : Value} {base : Nat} (h : OwnG elI w base 3 S v C) : OwnG elI w base 3 S' v C :=
 let ⟨P, e1, e2, e3⟩ := h
 ⟨P, e1, fun p hp => e2 p hp, e3⟩
theorem elS_wide4 {w w' : World} {S S' : Nat → Prop} {C : List ByteArray} {v : Value} {base : Nat} (h : OwnG elS w base 9 S v C) : OwnG elS w base 9 S' v C :=
 let ⟨P, e1, e2, e3⟩ := h
 ⟨P, e1, fun p hp => e2 p hp, e3⟩

set_option maxRecDepth 100000 in
set_option maxHeartbeats 1000000 in
theorem iClone4 {w : World} {Sq : Nat → Prop} {a : Option Addr} {cap : Nat} {C : List Int} (hll : C.length ≤ 1000000) (hC : LsG elI w Sq (.slice a C.length cap) C) :
 Calls Tryd.prog 12 #[.slice a C.length cap] w fun e w' => ∃ u, e = .returned u ∧ Ext w w' ∧ OwnG elI w' w.heap.size 3 (fun _ => False) u C := by
 have q45 : ∀ (w : World) (a : Option Addr) (n c n' c' : Nat), (binOp .eql 23 (.slice a n c) (.slice none n' c')).run Tryd.prog w = .ok (.bool a.isNone) w := fun w a n c n' c' => Lib.run_eql_slice_nil w _ _ a n c n' c' Tryd.underlying23
 cases a with
 | none =>
   have hC0 : C = [] := by
    cases C with
    | nil => rfl
    | cons x L => obtain ⟨b, off, e, -⟩ := hC.iAt (i := 0) (x := x) rfl; cases e
   subst hC0
   go_enter Tryd.func12, Tryd.ntmps12
   go_wp2
   go_ret
   exact ⟨_, rfl, Ext.refl _, OwnG.nil⟩
 | some ad =>
   have hsz : w.heap.size ≤ (w.alloc (.cells #[] 3)).heap.size := by simp
   have hO0 : OwnG elI (w.alloc (.cells #[] 3)) w.heap.size 3 (fun c => c < w.heap.size) (.slice (some ⟨w.heap.size, 0, none⟩) 0 0) [] := own_made4 (Nat.le_refl _)
   have hC0 := (hC.below.ext (Ext.alloc w (.cells #[] 3))).e
   have hoff : ∀ c, c < w.heap.size → (Value.slice (some ⟨w.heap.size, 0, none⟩) 0 0).ownBlock ≠ some c := fun c hc e => by
    have := Option.some.inj (show some w.heap.size = some c from e); omega
   have HE0 : Hid (Ext w (w.alloc (.cells #[] 3))) := Lib.hid (Ext.alloc w _)
   clear hC
   go_enter Tryd.func12, Tryd.ntmps12
   go_wp2_with (
    at_builtin
    refine wpList_appG (E := elI) (T := 3) rfl 23 (.tmp 5) (.tmp 6) rfl rfl rfl Tryd.underlying23 infInt rfl (by decide) (by decide) hO0 hsz hoff (by simp) (M := C) hll hC0 ?_
    intro v5 w5 o5 g5 k5
    have HO5 := Lib.hid o5
    have HE5 : Hid (Ext w w5) := Lib.hid (HE0.out.grown g5 (fun q hq => by cases hq; exact Nat.le_refl _))
    clear o5 g5 hO0 hC0)
   go_ret
   exact ⟨_, rfl, HE5.out, by have h := HO5.out; rw [List.nil_append] at h; exact elI_wide4 (w' := w) h⟩

set_option maxRecDepth 100000 in
set_option maxHeartbeats 1000000 in
theorem sClone4 {w : World} {Sq : Nat → Prop} {a : Option Addr} {cap : Nat} {C : List ByteArray} (hll : C.length ≤ 1000000) (hC : LsG elS w Sq (.slice a C.length cap) C) :
 Calls Tryd.prog 9 #[.slice a C.length cap] w fun e w' => ∃ u, e = .returned u ∧ Ext w w' ∧ OwnG elS w' w.heap.size 9 (fun _ => False) u C := by
 have q45 : ∀ (w : World) (a : Option Addr) (n c n' c' : Nat), (binOp .eql 22 (.slice a n c) (.slice none n' c')).run Tryd.prog w = .ok (.bool a.isNone) w := fun w a n c n' c' => Lib.run_eql_slice_nil w _ _ a n c n' c' Tryd.underlying22
 cases a with
 | none =>
   have hC0 : C = [] := by
    cases C with
    | nil => rfl
    | cons x L => obtain ⟨b, off, e, -⟩ := hC.sAt (i := 0) (x := x) rfl; cases e
   subst hC0
   go_enter Tryd.func9, Tryd.ntmps9
   go_wp2
   go_ret
   exact ⟨_, rfl, Ext.refl _, OwnG.nil⟩
 | some ad =>
   have hsz : w.heap.size ≤ (w.alloc (.cells #[] 9)).heap.size := by simp
   have hO0 : OwnG elS (w.alloc (.cells #[] 9)) w.heap.size 9 (fun c => c < w.heap.size) (.slice (some ⟨w.heap.size, 0, none⟩) 0 0) [] := own_made4 (Nat.le_refl _)
   have hC0 := (hC.below.ext (Ext.alloc w (.cells #[] 9))).e
   have hoff : ∀ c, c < w.heap.size → (Value.slice (some ⟨w.heap.size, 0, none⟩) 0 0).ownBlock ≠ some c := fun c hc e => by
    have := Option.some.inj (show some w.heap.size = some c from e); omega
   have HE0 : Hid (Ext w (w.alloc (.cells #[] 9))) := Lib.hid (Ext.alloc w _)
   clear hC
   go_enter Tryd.func9, Tryd.ntmps9
   go_wp2_with (
    at_builtin
    refine wpList_appG (E := elS) (T := 9) rfl 22 (.tmp 5) (.tmp 6) rfl rfl rfl Tryd.underlying22 infStr rfl (by decide) (by decide) hO0 hsz hoff (by simp) (M := C) hll hC0 ?_
    intro v5 w5 o5 g5 k5
    have HO5 := Lib.hid o5
    have HE5 : Hid (Ext w w5) := Lib.hid (HE0.out.grown g5 (fun q hq => by cases hq; exact Nat.le_refl _))
    clear o5 g5 hO0 hC0)
   go_ret
   exact ⟨_, rfl, HE5.out, by have h := HO5.out; rw [List.nil_append] at h; exact elS_wide4 (w' := w) h⟩
theorem OwnG.new4 {α : Type} {E : Elm α} {w : World} {base : Nat} {T : TypeId} {v : Value} {L : List α} (h : OwnG E w base T (fun _ => False) v L) : LsG E w (fun c => base ≤ c ∧ c < w.heap.size) v L := h.ls (fun _ h _ => h.elim) (fun _ _ h1 h2 => ⟨h1, h2⟩)

theorem sClone_any4 {w : World} {Sq : Nat → Prop} {a : Option Addr} {cap : Nat} {C : List ByteArray} (hll : C.length ≤ 1000000) (hC : LsG elS w Sq (.slice a C.length cap) C) :
 Calls Tryd.prog 9 #[.slice a C.length cap] w fun e w' => ∃ u, e = .returned u ∧ Ext w w' ∧ LsG elS w' (fun _ => True) u C :=
 (sClone4 hll hC).mono fun e w' ⟨u, h1, h2, h3⟩ => ⟨u, h1, h2, h3.any⟩
theorem iClone_any4 {w : World} {Sq : Nat → Prop} {a : Option Addr} {cap : Nat} {C : List Int} (hll : C.length ≤ 1000000) (hC : LsG elI w Sq (.slice a C.length cap) C) :
 Calls Tryd.prog 12 #[.slice a C.length cap] w fun e w' => ∃ u, e = .returned u ∧ Ext w w' ∧ LsG elI w' (fun _ => True) u C :=
 (iClone4 hll hC).mono fun e w' ⟨u, h1, h2, h3⟩ => ⟨u, h1, h2, h3.any⟩

theorem lexI_nil1 (B : List Int) : lexI [] B = if B = [] then 0 else -1 := by cases B <;> simp [lexI]
set_option maxRecDepth 100000 in
set_option maxHeartbeats 2000000 in
theorem compare_any4 {w : World} {S S' : Nat → Prop} {a b : Option Addr} {n m ca cb : Nat} {A B : List Int} (hA : LsG elI w S (.slice a n ca) A) (hB : LsG elI w S' (.slice b m cb) B) :
 Calls Tryd.prog 31 #[.slice a n ca, .slice b m cb] w fun e w' => e = .returned (.int .i64 (lexI A B)) ∧ Ext w w' := by
 obtain ⟨rfl, hl, hc⟩ := hA.len
 obtain ⟨rfl, hl', hc'⟩ := hB.len
 unfold maxLen at hc hc'
 have HA := Lib.hid hA
 have HB := Lib.hid hB
 clear hA hB
 obtain ⟨V, hV⟩ : ∃ V, V = lexI A B := ⟨_, rfl⟩
 rw [← hV]
 have HVE := Lib.hid hV
 clear hV
 go_enter Tryd.func31, Tryd.ntmps31
 go_wp2_with fail
 go_loopw [5, 6, 7, 8, 11] (fun x5 x6 x7 x8 kv wr => ∃ k : Nat, kv = .int .i64 k ∧ k ≤ A.length ∧ k ≤ B.length ∧ Hid (V = lexI (A.drop k) (B.drop k)) ∧ Hid (Ext w wr)) (fun x5 x6 x7 x8 kv _ => A.length - (intOf kv).toNat)
 case atStart => exact ⟨0, rfl, by omega, by omega, Lib.hid (by rw [HVE.out]; simp), Lib.hid (Ext.refl _)⟩
 case round =>
  obtain ⟨k, rfl, hk, hk', HV, HE⟩ := hrel
  by_cases h1 : k < A.length
  · obtain ⟨x, hx⟩ : ∃ x, A[k]? = some x := ⟨_, List.getElem?_eq_getElem h1⟩
    obtain ⟨xb, xo, rfl, x0, hxs⟩ := (HA.out.ext HE.out).iAt hx
    by_cases h2 : k < B.length
    · obtain ⟨y, hy⟩ : ∃ y, B[k]? = some y := ⟨_, List.getElem?_eq_getElem h2⟩
      obtain ⟨yb, yo, rfl, y0, hys⟩ := (HB.out.ext HE.out).iAt hy
      have HV2 : Hid (V = orE (sgn x y) (lexI (A.drop (k + 1)) (B.drop (k + 1)))) := Lib.hid (by rw [HV.out, lexI_drop hx hy])
      obtain ⟨c, hc⟩ : ∃ c, c = sgn x y := ⟨_, rfl⟩
      have HCM : Hid (∀ w', Calls Tryd.prog 30 #[.int .i64 x, .int .i64 y] w' fun e w'' => e = .returned (.int .i64 c) ∧ Ext w' w'') := Lib.hid (fun w' => by rw [hc]; exact cmp_any)
      rw [← hc] at HV2
      clear hx hy hxs hys hc
      have hkb : (k : Int) < (B.length : Int) := by omega
      go_wp2_with fail
      refine (HCM.out _).mono ?_
      rintro e w5 ⟨rfl, hE5⟩
      have HE5 := Lib.hid (HE.out.trans hE5)
      clear hE5 x0 y0
      by_cases hc0 : c = 0
      · have HV3 : Hid (V = lexI (A.drop (k + 1)) (B.drop (k + 1))) := Lib.hid (by rw [HV2.out, hc0]; rfl)
        have hcb : (c != 0) = false := by simp [hc0]
        clear hc0
        go_wp2_with fail
        go_roundw
        case rel => exact ⟨k + 1, by go_num, by omega, by omega, HV3, HE5⟩
        case measure => simp [intOf]; omega
      · have HV3 : Hid (V = c) := Lib.hid (by rw [HV2.out]; unfold orE; rw [if_neg hc0])
        have hcb : (c != 0) = true := by simp [hc0]
        clear hc0
        go_wp2_with fail
        go_ret
        exact ⟨by rw [HV3.out]; rfl, HE5.out⟩
    · have hkb : (B.length : Int) ≤ (k : Int) := by omega
      have HV2 : Hid (V = 1) := Lib.hid (by
       rw [HV.out, List.drop_of_length_le (l := B) (by omega), List.drop_eq_getElem_cons h1]
       rfl)
      clear hx hxs
      go_wp2_with fail
      go_ret
      exact ⟨by rw [HV2.out]; rfl, HE.out⟩
  · have hka : k = A.length := by omega
    by_cases h2 : A.length < B.length
    · have HV2 : Hid (V = -1) := Lib.hid (by
       rw [HV.out, List.drop_of_length_le (l := A) (by omega), List.drop_eq_getElem_cons (show k < B.length by omega)]
       rfl)
      have h2i : (A.length : Int) < (B.length : Int) := by omega
      clear hka
      go_wp2_with fail
      go_ret
      exact ⟨by rw [HV2.out]; rfl, HE.out⟩
    · have HV2 : Hid (V = 0) := Lib.hid (by
       rw [HV.out, List.drop_of_length_le (l := A) (by omega), List.drop_of_length_le (l := B) (by omega)]
       rfl)
      have h2i : ¬ (A.length : Int) < (B.length : Int) := by omega
      clear hka
      go_wp2_with fail
      go_ret
      exact ⟨by rw [HV2.out]; rfl, HE.out⟩
set_option maxRecDepth 100000 in
theorem Lex_any4 {w : World} {S S' : Nat → Prop} {a b : Option Addr} {n m ca cb : Nat} {A B : List Int} (hA : LsG elI w S (.slice a n ca) A) (hB : LsG elI w S' (.slice b m cb) B) :
 Calls Tryd.prog 16 #[.slice a n ca, .slice b m cb] w fun e w' => e = .returned (.int .i64 (lexI A B)) ∧ Ext w w' := by
 have HC := Lib.hid (compare_any4 hA hB)
 obtain ⟨V, hV⟩ : ∃ V, V = lexI A B := ⟨_, rfl⟩
 rw [← hV] at HC ⊢
 clear hV hA hB
 go_enter Tryd.func16, Tryd.ntmps16
 go_wp2_with fail
 refine HC.out.mono ?_
 rintro e w1 ⟨rfl, hE1⟩
 go_wp2_with fail
 go_ret
 exact ⟨rfl, hE1⟩
end Go.Proofs.YtkobikdkbpdjeaaDoor
