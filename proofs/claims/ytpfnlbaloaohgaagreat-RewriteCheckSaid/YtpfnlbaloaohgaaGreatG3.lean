/- Contracts: the reference's equality, lists, sets. Contracts: a term put into a list, or taken out of it. Sums of terms: two ways to add lists. Contracts: the reference's sums. Contracts: the reference's summands, terms, errors of lists. A term as a result; a term stored. -/
import Derived.Test.YtpfnlbaloaohgaaGreatG2
import Derived.OwnWalk
import Derived.Test.YtpfnlbaloaohgaaGreatG1
import Derived.Laws.Rows
import Derived.Laws.ResultCell
import Derived.Outline
namespace Go.Proofs.YtpfnlbaloaohgaaGreat
open Go Go.RowKit
set_option linter.unusedVariables false
set_option linter.unusedSimpArgs false

theorem same_bool (s t : Tm) : (cmpT s t == 0) = decide (s = t) := by
 rw [Bool.eq_iff_iff, beq_iff_eq, decide_eq_true_eq, cmpT_zero]

set_option maxHeartbeats 1000000 in
theorem RSame_any {w : World} {S S' : Nat → Prop} {a a' : Option Addr} {cap cap' : Nat} {s t : Tm} (hs6 : sizeT s ≤ 1000000) (ht6 : sizeT t ≤ 1000000) (hT : TmW w S a cap s) (hT' : TmW w S' a' cap' t) :
 Calls Tryz.prog 20 #[.agg #[.int .i64 s.kind, .string s.name, .int .i64 s.sort, .slice a s.kids.length cap], .agg #[.int .i64 t.kind, .string t.name, .int .i64 t.sort, .slice a' t.kids.length cap']] w fun e w' => e = .returned (.bool (decide (s = t))) ∧ Ext w w' := by
 have hl := hT.len
 have hc := hT.cap
 have hl' := hT'.len
 have hc' := hT'.cap
 unfold maxLen at hc hc'
 have HE1 : Hid (Ext w ((w.alloc (.cells #[.int .i64 s.kind, .string s.name, .int .i64 s.sort, .slice a s.kids.length cap] 25)).alloc (.cells #[.int .i64 t.kind, .string t.name, .int .i64 t.sort, .slice a' t.kids.length cap'] 25))) := Lib.hid ((Ext.alloc w _).then_al _)
 have hcon := RCompare_any 1000000 _ S S' a a' cap cap' s t hs6 hs6 ht6 (hT.ext HE1.out) (hT'.ext HE1.out)
 have HB := Lib.hid (same_bool s t)
 obtain ⟨z, hz⟩ : ∃ z, z = cmpT s t := ⟨_, rfl⟩
 rw [← hz] at hcon
 have HB2 : Hid ((z == 0) = decide (s = t)) := Lib.hid (by rw [hz]; exact HB.out)
 have HCON := Lib.hid hcon
 clear hcon hT hT' hz HB
 go_enter Tryz.func20, Tryz.ntmps20
 go_wp2_with fail
 refine HCON.out.mono ?_
 rintro e w2 ⟨rfl, hE⟩
 have HE := Lib.hid (HE1.out.trans hE)
 clear hE
 go_wp2_with fail
 go_ret
 exact ⟨rb HB2.out, HE.out⟩

set_option maxRecDepth 100000 in
set_option maxHeartbeats 1000000 in
theorem RHas_any {w : World} {S S' : Nat → Prop} {a a' : Option Addr} {cap cap' : Nat} {A : List Tm} {t : Tm} (hA6 : ∀ x ∈ A, sizeT x ≤ 1000000) (ht6 : sizeT t ≤ 1000000) (hA : LsT w S (.slice a A.length cap) A) (hT : TmW w S' a' cap' t) :
 Calls Tryz.prog 101 #[.slice a A.length cap, .agg #[.int .i64 t.kind, .string t.name, .int .i64 t.sort, .slice a' t.kids.length cap']] w fun e w' => e = .returned (.bool (decide (t ∈ A))) ∧ Ext w w' := by
 obtain ⟨-, hl, hc⟩ := hA.len
 have hl' := hT.len
 have hc' := hT.cap
 unfold maxLen at hc hc'
 obtain ⟨bx, hbx⟩ : ∃ bx, bx = w.heap.size := ⟨_, rfl⟩
 obtain ⟨w1, hw1⟩ : ∃ w1, w1 = w.alloc (.cells #[.int .i64 t.kind, .string t.name, .int .i64 t.sort, .slice a' t.kids.length cap'] 25) := ⟨_, rfl⟩
 have b0 : w1.cell? ⟨bx, 0, none⟩ = some (.int .i64 t.kind) := by rw [hw1, hbx]; exact cs_new rfl
 have b1 : w1.cell? ⟨bx, 1, none⟩ = some (.string t.name) := by rw [hw1, hbx]; exact cs_new rfl
 have b2 : w1.cell? ⟨bx, 2, none⟩ = some (.int .i64 t.sort) := by rw [hw1, hbx]; exact cs_new rfl
 have b3 : w1.cell? ⟨bx, 3, none⟩ = some (.slice a' t.kids.length cap') := by rw [hw1, hbx]; exact cs_new rfl
 have HE1 : Hid (Ext w w1) := Lib.hid (by rw [hw1]; exact Ext.alloc w _)
 have HA := Lib.hid (hA.ts.ext HE1.out)
 have HT := Lib.hid (hT.ext HE1.out)
 have HA6 := Lib.hid hA6
 have B0 := Lib.hid b0
 have B1 := Lib.hid b1
 have B2 := Lib.hid b2
 have B3 := Lib.hid b3
 clear hA hA6 hT b0 b1 b2 b3
 go_enter Tryz.func101, Tryz.ntmps101
 go_upto_region 1 with fail
 rw [← hw1, ← hbx]
 clear hw1 hbx
 go_wp2_with fail
 go_loopw [5] (fun kv wr => ∃ k : Nat, kv = .int .i64 k ∧ k ≤ A.length ∧ (∀ (j : Nat) x, j < k → A[j]? = some x → x ≠ t) ∧ Ext w1 wr) (fun kv _ => A.length - (intOf kv).toNat)
 case atStart => exact ⟨0, rfl, by omega, fun j x h => by omega, Ext.refl _⟩
 case round =>
  obtain ⟨k, rfl, hk, hall, hE⟩ := hrel
  have HALL := Lib.hid hall
  have HE := Lib.hid hE
  have b0 := cs_ext hE B0.out
  have b1 := cs_ext hE B1.out
  have b2 := cs_ext hE B2.out
  have b3 := cs_ext hE B3.out
  clear hall hE
  by_cases hlt : k < A.length
  · obtain ⟨x, hx⟩ : ∃ x, A[k]? = some x := ⟨_, List.getElem?_eq_getElem hlt⟩
    obtain ⟨xb, xo, xa, xc, rfl, x0, x1, x2, x3, hTx⟩ := (HA.out.ext HE.out).at hx
    have hcon := fun (w' : World) (hE : Ext wr w') => RSame_any (w := w') (HA6.out x (List.mem_of_getElem? hx)) ht6 (hTx.ext hE) ((HT.out.ext HE.out).ext hE)
    obtain ⟨z, hz⟩ : ∃ z, z = decide (x = t) := ⟨_, rfl⟩
    rw [← hz] at hcon
    have HX := Lib.hid hx
    have HZ := Lib.hid hz
    have HCON := Lib.hid hcon
    clear hx hTx hz hcon
    go_wp2_with fail
    have HFCT := Lib.hid (And.intro b0 (And.intro b1 (And.intro b2 (And.intro b3 (And.intro x0 (And.intro x1 (And.intro x2 x3)))))))
    refine wp_region_reg 6 false (by kernel_rfl) (by kernel_rfl) ?_
    refine reg_value (fun _ => rfl) ?_ (fun g w' vs hM hE hP => ?_) ?_
    rotate_left
    · (clear hP hM; have ⟨z0, z1, z2, z3, z4, z5, z6, z7⟩ := cs_e8 hE HFCT.out; go_simp; first | done | rfl)
    refine reg_value (fun _ => rfl) ?_ (fun g w' vs hM hE hP => ?_) ?_
    rotate_left
    · (clear hP hM; have ⟨z0, z1, z2, z3, z4, z5, z6, z7⟩ := cs_e8 hE HFCT.out; go_simp; first | done | rfl)
    refine reg_value (fun _ => rfl) ?_ (fun g w' vs hM hE hP => ?_) ?_
    rotate_left
    · (clear hP hM; have ⟨z0, z1, z2, z3, z4, z5, z6, z7⟩ := cs_e8 hE HFCT.out; go_simp; first | done | rfl)
    refine reg_value (fun _ => rfl) ?_ (fun g w' vs hM hE hP => ?_) ?_
    rotate_left
    · (clear hP hM; have ⟨z0, z1, z2, z3, z4, z5, z6, z7⟩ := cs_e8 hE HFCT.out; go_simp; first | done | rfl)
    refine reg_value (fun _ => rfl) ?_ (fun g w' vs hM hE hP => ?_) ?_
    rotate_left
    · (clear hP hM; have ⟨z0, z1, z2, z3, z4, z5, z6, z7⟩ := cs_e8 hE HFCT.out; go_simp; first | done | rfl)
    refine reg_const (fun _ => rfl) 20 ?_ (fun g w' vs hM hE hP => ?_) ?_
    rotate_left
    · (clear hP hM; have ⟨z0, z1, z2, z3, z4, z5, z6, z7⟩ := cs_e8 hE HFCT.out; go_simp; first | done | exact ⟨rfl, rfl⟩ | rfl)
    apply Exists.intro
    refine And.intro (fun g w' vs hM hE hP => ?_) ?_
    · exact HCON.out _ hE
    intro g wz hE2 hF hQ
    simp only [List.drop_succ_cons, List.drop_zero, Act.put, List.setIfInBounds_toArray, List.set_cons_succ, List.set_cons_zero]
    have HE2 := Lib.hid (HE.out.trans hE2)
    clear hE2 hF hQ
    cases z with
    | false =>
      have hxy : x ≠ t := of_decide_eq_false HZ.out.symm
      have HXY := Lib.hid hxy
      clear hxy
      go_wp2_with fail
      go_roundw
      case rel => exact ⟨k + 1, by go_num, by omega, fun j x' hj hx' => by
        rcases Nat.lt_or_ge j k with h' | h'
        · exact HALL.out j x' h' hx'
        · have : j = k := by omega
          subst this
          rw [HX.out] at hx'; cases hx'; exact HXY.out, HE2.out⟩
      case measure => simp [intOf]; omega
    | true =>
      have HR : Hid (decide (t ∈ A) = true) := Lib.hid (by
       rw [decide_eq_true_eq, ← of_decide_eq_true HZ.out.symm]
       exact List.mem_of_getElem? HX.out)
      go_wp2_with fail
      go_ret
      exact ⟨rb HR.out.symm, HE1.out.trans HE2.out⟩
  · have HR : Hid (decide (t ∈ A) = false) := Lib.hid (by
     rw [decide_eq_false_iff_not]
     intro hm
     obtain ⟨j, hj⟩ := List.mem_iff_getElem?.1 hm
     exact HALL.out j t (by have := (List.getElem?_eq_some_iff.1 hj).1; omega) hj rfl)
    go_wp2_with fail
    go_ret
    exact ⟨rb HR.out.symm, HE1.out.trans HE.out⟩

/-- a term put into an ascending list -/
def addS (t : Tm) : List Tm → List Tm
 | [] => [t]
 | x :: L => if cmpT t x < 0 then t :: x :: L else if cmpT t x = 0 then x :: L else x :: addS t L
/-- the state of Add: O is done, k elements are read -/
def AddI (t : Tm) (L : List Tm) (k : Nat) (O : List Tm) (d : Bool) : Prop := addS t L = O ++ (if d = true then L.drop k else addS t (L.drop k)) ∧ O.length ≤ k + 1
theorem AddI.start {t : Tm} {L : List Tm} : AddI t L 0 [] false := by simp [AddI]
theorem drop_cons {α : Type} {L : List α} {k : Nat} {x : α} (h : L[k]? = some x) : L.drop k = x :: L.drop (k + 1) := by
 obtain ⟨h1, rfl⟩ := List.getElem?_eq_some_iff.1 h
 rw [List.drop_eq_getElem_cons h1]
theorem AddI.done {t x : Tm} {L O : List Tm} {k : Nat} (h : AddI t L k O true) (hx : L[k]? = some x) : AddI t L (k + 1) (O ++ [x]) true := by
 unfold AddI at *
 simp only [if_true, drop_cons hx] at h
 simp only [if_true]
 exact ⟨by rw [h.1]; simp, by simp; omega⟩
theorem AddI.lt {t x : Tm} {L O : List Tm} {k : Nat} (h : AddI t L k O false) (hx : L[k]? = some x) (hc : cmpT t x < 0) (hO : O.length ≤ k) : AddI t L (k + 1) (O ++ [t] ++ [x]) true := by
 unfold AddI at *
 simp only [Bool.false_eq_true, if_false, drop_cons hx, addS, if_pos hc] at h
 simp only [if_true]
 exact ⟨by rw [h.1]; simp, by simp; omega⟩
theorem AddI.eq {t x : Tm} {L O : List Tm} {k : Nat} (h : AddI t L k O false) (hx : L[k]? = some x) (hc : cmpT t x = 0) : AddI t L (k + 1) (O ++ [x]) true := by
 unfold AddI at *
 simp only [Bool.false_eq_true, if_false, drop_cons hx, addS, hc, Int.lt_irrefl, if_true] at h
 simp only [if_true]
 exact ⟨by rw [h.1]; simp, by simp; omega⟩
theorem AddI.gt {t x : Tm} {L O : List Tm} {k : Nat} (h : AddI t L k O false) (hx : L[k]? = some x) (hc : 0 < cmpT t x) : AddI t L (k + 1) (O ++ [x]) false := by
 unfold AddI at *
 simp only [Bool.false_eq_true, if_false, drop_cons hx, addS, if_neg (show ¬ cmpT t x < 0 by omega), if_neg (show ¬ cmpT t x = 0 by omega)] at h
 simp only [Bool.false_eq_true, if_false]
 exact ⟨by rw [h.1]; simp, by simp; omega⟩
theorem AddI.fin {t : Tm} {L O : List Tm} {k : Nat} {d : Bool} (h : AddI t L k O d) (hk : L.length ≤ k) : addS t L = if d = true then O else O ++ [t] := by
 unfold AddI at h
 rw [h.1, List.drop_eq_nil_of_le hk]
 cases d <;> simp [addS]

theorem addS_mem {t x : Tm} {L : List Tm} : x ∈ addS t L ↔ x = t ∨ x ∈ L := by
 induction L with
 | nil => simp [addS]
 | cons y L ih =>
   rw [addS]
   split
   · simp
   · split
     · rename_i h
       have := (cmpT_zero t y).1 h
       subst this
       simp
     · simp only [List.mem_cons, ih]
       constructor
       · rintro (h | h | h) <;> simp [h]
       · rintro (h | h | h) <;> simp [h]
theorem addS_asc {t : Tm} {L : List Tm} (h : Asc L) : Asc (addS t L) := by
 induction L with
 | nil => simp [addS]
 | cons y L ih =>
   have h' := List.pairwise_cons.1 h
   rw [addS]
   split
   · rename_i hc
     exact List.pairwise_cons.2 ⟨fun z hz => by
      rcases List.mem_cons.1 hz with rfl | hz
      · exact hc
      · exact ltT_trans hc (h'.1 z hz), h⟩
   · split
     · exact h
     · rename_i h1 h2
       refine List.pairwise_cons.2 ⟨fun z hz => ?_, ih h'.2⟩
       rcases addS_mem.1 hz with rfl | hz
       · unfold ltT; rw [cmpT_swap z y]; omega
       · exact h'.1 z hz

theorem Ext.grownT {w0 w w' : World} {S : Nat → Prop} {v : Value} {L : List Tm} (h : Ext w0 w) (hO : OwnT w w0.heap.size S v L) (hg : w.grownBy w' v.ownBlock) : Ext w0 w' := h.grown hg (fun k hk => (hO.lt k hk).1)
theorem OwnT.off {w0 w : World} {S : Nat → Prop} {v : Value} {L : List Tm} (hO : OwnT w w0.heap.size S v L) (hS : ∀ c, S c → c < w0.heap.size) : ∀ c, S c → v.ownBlock ≠ some c := fun c hc e => by
 have := (hO.lt c e).1
 have := hS c hc
 omega

theorem OwnT.low {w : World} {base base' : Nat} {S : Nat → Prop} {v : Value} {L : List Tm} (h : OwnT w base S v L) (hb : base' ≤ base) : OwnT w base' S v L := by
 obtain ⟨E, h1, ⟨h2, h3⟩, h4⟩ := h
 refine ⟨E, h1, ⟨h2, ?_⟩, h4⟩
 rcases h3 with h | ⟨g, cap, cur, e, hg, h⟩
 · exact .inl h
 · exact .inr ⟨g, cap, cur, e, by omega, h⟩

set_option maxRecDepth 100000 in
set_option maxHeartbeats 2000000 in
theorem RAdd_any {w : World} {S : Nat → Prop} {a a' : Option Addr} {cap cap' : Nat} {L : List Tm} {t : Tm} (hL6 : ∀ x ∈ L, sizeT x ≤ 1000000) (hll : L.length ≤ 100000) (ht6 : sizeT t ≤ 1000000) (hS : ∀ c, S c → c < w.heap.size) (hL : LsT w S (.slice a L.length cap) L) (hT : TmW w S a' cap' t) :
 Calls Tryz.prog 108 #[.slice a L.length cap, .agg #[.int .i64 t.kind, .string t.name, .int .i64 t.sort, .slice a' t.kids.length cap']] w fun e w' => ∃ u, e = .returned u ∧ Ext w w' ∧ OwnT w' w.heap.size S u (addS t L) := by
 obtain ⟨-, hl, hc⟩ := hL.len
 have hl' := hT.len
 have hc' := hT.cap
 unfold maxLen at hc hc'
 obtain ⟨bx, hbx⟩ : ∃ bx, bx = w.heap.size := ⟨_, rfl⟩
 obtain ⟨w1, hw1⟩ : ∃ w1, w1 = w.alloc (.cells #[.int .i64 t.kind, .string t.name, .int .i64 t.sort, .slice a' t.kids.length cap'] 25) := ⟨_, rfl⟩
 have b0 : w1.cell? ⟨bx, 0, none⟩ = some (.int .i64 t.kind) := by rw [hw1, hbx]; exact cs_new rfl
 have b1 : w1.cell? ⟨bx, 1, none⟩ = some (.string t.name) := by rw [hw1, hbx]; exact cs_new rfl
 have b2 : w1.cell? ⟨bx, 2, none⟩ = some (.int .i64 t.sort) := by rw [hw1, hbx]; exact cs_new rfl
 have b3 : w1.cell? ⟨bx, 3, none⟩ = some (.slice a' t.kids.length cap') := by rw [hw1, hbx]; exact cs_new rfl
 have HE1 : Hid (Ext w w1) := Lib.hid (by rw [hw1]; exact Ext.alloc w _)
 have HA := Lib.hid (hL.ts.ext HE1.out)
 have HT := Lib.hid (hT.ext HE1.out)
 have HL6 := Lib.hid hL6
 have HS : Hid (∀ c, S c → c < w1.heap.size) := Lib.hid (fun c hc => Nat.lt_of_lt_of_le (hS c hc) HE1.out.size)
 have B0 := Lib.hid b0
 have B1 := Lib.hid b1
 have B2 := Lib.hid b2
 have B3 := Lib.hid b3
 clear hL hL6 hT b0 b1 b2 b3 hS
 go_enter Tryz.func108, Tryz.ntmps108
 go_upto_region 1 with fail
 rw [← hw1, ← hbx]
 clear hw1 hbx
 go_wp2_with fail
 go_loopw [5, 6, 7, 8] (fun ov dv kv _ wr => ∃ (k : Nat) (O : List Tm) (d : Bool), kv = .int .i64 k ∧ dv = .bool d ∧ k ≤ L.length ∧ OwnT wr w1.heap.size S ov O ∧ AddI t L k O d ∧ (d = false → O.length ≤ k) ∧ Ext w1 wr) (fun _ _ kv _ _ => L.length - (intOf kv).toNat)
 case atStart => exact ⟨0, [], false, rfl, rfl, by omega, OwnT.nil, AddI.start, fun _ => by simp, Ext.refl _⟩
 case round =>
  obtain ⟨k, O, d, rfl, rfl, hk, hO, hI, hOk, hE⟩ := hrel
  have HI := Lib.hid hI
  have HO := Lib.hid hO
  have HE := Lib.hid hE
  have HOK := Lib.hid hOk
  have b0 := cs_ext hE B0.out
  have b1 := cs_ext hE B1.out
  have b2 := cs_ext hE B2.out
  have b3 := cs_ext hE B3.out
  have hO6 : O.length ≤ 200000 := by have := hI.2; omega
  clear hI hO hE hOk
  by_cases hlt : k < L.length
  · obtain ⟨x, hx⟩ : ∃ x, L[k]? = some x := ⟨_, List.getElem?_eq_getElem hlt⟩
    obtain ⟨xb, xo, xa, xc, rfl, x0, x1, x2, x3, hTx⟩ := HA.out.at hx
    have hcon := fun (w' : World) (hE : Ext wr w') => RCompare_any 1000000 w' S S a' xa cap' xc t x ht6 ht6 (HL6.out x (List.mem_of_getElem? hx)) ((HT.out.ext HE.out).ext hE) ((hTx.ext HE.out).ext hE)
    obtain ⟨z, hz⟩ : ∃ z, z = cmpT t x := ⟨_, rfl⟩
    rw [← hz] at hcon
    have HX := Lib.hid hx
    have HZ := Lib.hid hz
    have HTX := Lib.hid hTx
    have HCON := Lib.hid hcon
    have X0 := Lib.hid x0
    have X1 := Lib.hid x1
    have X2 := Lib.hid x2
    have X3 := Lib.hid x3
    have x0 := cs_ext HE.out X0.out
    have x1 := cs_ext HE.out X1.out
    have x2 := cs_ext HE.out X2.out
    have x3 := cs_ext HE.out X3.out
    clear hx hTx hz hcon
    go_wp2_with fail
    have HFCT := Lib.hid (And.intro b0 (And.intro b1 (And.intro b2 (And.intro b3 (And.intro x0 (And.intro x1 (And.intro x2 x3)))))))
    refine wp_region_reg 6 false (by kernel_rfl) (by kernel_rfl) ?_
    refine reg_value (fun _ => rfl) ?_ (fun g w' vs hM hE hP => ?_) ?_
    rotate_left
    · (clear hP hM; have ⟨z0, z1, z2, z3, z4, z5, z6, z7⟩ := cs_e8 hE HFCT.out; go_simp; first | done | rfl)
    refine reg_value (fun _ => rfl) ?_ (fun g w' vs hM hE hP => ?_) ?_
    rotate_left
    · (clear hP hM; go_simp; first | done | rfl)
    refine reg_value (fun _ => rfl) ?_ (fun g w' vs hM hE hP => ?_) ?_
    rotate_left
    · (clear hP hM; go_simp; first | done | rfl)
    refine reg_value (fun _ => rfl) ?_ (fun g w' vs hM hE hP => ?_) ?_
    rotate_left
    · (clear hP hM; go_simp; first | done | rfl)
    refine reg_value (fun _ => rfl) ?_ (fun g w' vs hM hE hP => ?_) ?_
    rotate_left
    · (clear hP hM; have ⟨z0, z1, z2, z3, z4, z5, z6, z7⟩ := cs_e8 hE HFCT.out; go_simp; first | done | rfl)
    refine reg_const (fun _ => rfl) 49 ?_ (fun g w' vs hM hE hP => ?_) ?_
    rotate_left
    · (clear hP hM; have ⟨z0, z1, z2, z3, z4, z5, z6, z7⟩ := cs_e8 hE HFCT.out; go_simp; first | done | exact ⟨rfl, rfl⟩ | rfl)
    apply Exists.intro
    refine And.intro (fun g w' vs hM hE hP => ?_) ?_
    · exact HCON.out _ hE
    intro g wz hE2 hF hQ
    simp only [List.drop_succ_cons, List.drop_zero, Act.put, List.setIfInBounds_toArray, List.set_cons_succ, List.set_cons_zero]
    have HE2 := Lib.hid (HE.out.trans hE2)
    have HO2 := Lib.hid (HO.out.ext hE2)
    have HTX2 := Lib.hid (HTX.out.ext HE2.out)
    have HT2 := Lib.hid (HT.out.ext HE2.out)
    have x0 := cs_ext HE2.out X0.out
    have x1 := cs_ext HE2.out X1.out
    have x2 := cs_ext HE2.out X2.out
    have x3 := cs_ext HE2.out X3.out
    have b0 := cs_ext hE2 b0
    have b1 := cs_ext hE2 b1
    have b2 := cs_ext hE2 b2
    have b3 := cs_ext hE2 b3
    clear hE2 hF hQ
    cases d with
    | true =>
      have hNew := Lib.hid (HI.out.done HX.out)
      have hsz : w1.heap.size ≤ (wz.alloc (.cells #[.int .i64 x.kind, .string x.name, .int .i64 x.sort, .slice xa x.kids.length xc] 25)).heap.size := by have := HE2.out.size; simp; omega
      have hO3 := HO2.out.ext (Ext.alloc wz (.cells #[.int .i64 x.kind, .string x.name, .int .i64 x.sort, .slice xa x.kids.length xc] 25))
      have hone : LsT (wz.alloc (.cells #[.int .i64 x.kind, .string x.name, .int .i64 x.sort, .slice xa x.kids.length xc] 25)) S (.slice (some ⟨wz.heap.size, 0, none⟩) 1 1) [x] := one_ls hs_new (HTX2.out.ext (Ext.alloc _ _))
      have hoff := hO3.off HS.out
      go_wp2_with (first
       | (at_builtin; (refine wpList_appT rfl (.tmp 33) (.tmp 38) rfl rfl rfl hO3 hsz hoff (by omega) (X := [x]) (by simp) hone ?_); intro v5 w5 o5 g5 k5
          have HO5 := Lib.hid o5
          have HE5 := Lib.hid ((HE2.out.then_al _).grownT hO3 g5)
          clear o5 g5 k5 hO3 hone hoff))
      go_roundw
      case rel => exact ⟨k + 1, O ++ [x], true, by go_num, rfl, by omega, HO5.out, hNew.out, (fun h => nomatch h), HE5.out⟩
      case measure => simp [intOf]; omega
    | false =>
      by_cases hz1 : 0 < z
      · have hz2 : ¬ z ≤ 0 := by omega
        have hNew := Lib.hid (HI.out.gt HX.out (by rw [← HZ.out]; exact hz1))
        have hOK := HOK.out rfl
        have hsz : w1.heap.size ≤ (wz.alloc (.cells #[.int .i64 x.kind, .string x.name, .int .i64 x.sort, .slice xa x.kids.length xc] 25)).heap.size := by have := HE2.out.size; simp; omega
        have hO3 := HO2.out.ext (Ext.alloc wz (.cells #[.int .i64 x.kind, .string x.name, .int .i64 x.sort, .slice xa x.kids.length xc] 25))
        have hone : LsT (wz.alloc (.cells #[.int .i64 x.kind, .string x.name, .int .i64 x.sort, .slice xa x.kids.length xc] 25)) S (.slice (some ⟨wz.heap.size, 0, none⟩) 1 1) [x] := one_ls hs_new (HTX2.out.ext (Ext.alloc _ _))
        have hoff := hO3.off HS.out
        go_wp2_with (first
         | (at_builtin; (refine wpList_appT rfl (.tmp 33) (.tmp 38) rfl rfl rfl hO3 hsz hoff (by omega) (X := [x]) (by simp) hone ?_); intro v5 w5 o5 g5 k5
            have HO5 := Lib.hid o5
            have HE5 := Lib.hid ((HE2.out.then_al _).grownT hO3 g5)
            clear o5 g5 k5 hO3 hone hoff))
        go_roundw
        case rel => exact ⟨k + 1, O ++ [x], false, by go_num, rfl, by omega, HO5.out, hNew.out, (fun h => by simp; omega), HE5.out⟩
        case measure => simp [intOf]; omega
      · have hz2 : z ≤ 0 := by omega
        by_cases hz3 : z = 0
        · have hNew := Lib.hid (HI.out.eq HX.out (by rw [← HZ.out]; exact hz3))
          have hz4 : ¬ z < 0 := by omega
          clear hz3
          have hsz : w1.heap.size ≤ (wz.alloc (.cells #[.int .i64 x.kind, .string x.name, .int .i64 x.sort, .slice xa x.kids.length xc] 25)).heap.size := by have := HE2.out.size; simp; omega
          have hO3 := HO2.out.ext (Ext.alloc wz (.cells #[.int .i64 x.kind, .string x.name, .int .i64 x.sort, .slice xa x.kids.length xc] 25))
          have hone : LsT (wz.alloc (.cells #[.int .i64 x.kind, .string x.name, .int .i64 x.sort, .slice xa x.kids.length xc] 25)) S (.slice (some ⟨wz.heap.size, 0, none⟩) 1 1) [x] := one_ls hs_new (HTX2.out.ext (Ext.alloc _ _))
          have hoff := hO3.off HS.out
          go_wp2_with (first
           | (at_builtin; (refine wpList_appT rfl (.tmp 33) (.tmp 38) rfl rfl rfl hO3 hsz hoff (by omega) (X := [x]) (by simp) hone ?_); intro v5 w5 o5 g5 k5
              have HO5 := Lib.hid o5
              have HE5 := Lib.hid ((HE2.out.then_al _).grownT hO3 g5)
              clear o5 g5 k5 hO3 hone hoff))
          go_roundw
          case rel => exact ⟨k + 1, O ++ [x], true, by go_num, rfl, by omega, HO5.out, hNew.out, (fun h => nomatch h), HE5.out⟩
          case measure => simp [intOf]; omega
        · have hz4 : z < 0 := by omega
          have hNew := Lib.hid (HI.out.lt HX.out (by rw [← HZ.out]; exact hz4) (HOK.out rfl))
          have hsz : w1.heap.size ≤ (wz.alloc (.cells #[.int .i64 t.kind, .string t.name, .int .i64 t.sort, .slice a' t.kids.length cap'] 25)).heap.size := by have := HE2.out.size; simp; omega
          have hO3 := HO2.out.ext (Ext.alloc wz (.cells #[.int .i64 t.kind, .string t.name, .int .i64 t.sort, .slice a' t.kids.length cap'] 25))
          have hone : LsT (wz.alloc (.cells #[.int .i64 t.kind, .string t.name, .int .i64 t.sort, .slice a' t.kids.length cap'] 25)) S (.slice (some ⟨wz.heap.size, 0, none⟩) 1 1) [t] := one_ls hs_new (HT2.out.ext (Ext.alloc _ _))
          have hoff := hO3.off HS.out
          clear hz3
          go_upto_region 11 with (first
           | (at_builtin; (refine wpList_appT rfl (.tmp 29) (.tmp 31) rfl rfl rfl hO3 hsz hoff (by omega) (X := [t]) (by simp) hone ?_); intro v5 w5 o5 g5 k5
              have HO5 := Lib.hid o5
              have HE5 := Lib.hid ((HE2.out.then_al _).grownT hO3 g5)
              clear o5 g5 k5 hO3 hone hoff))
          have x0 := cs_ext HE5.out X0.out
          have x1 := cs_ext HE5.out X1.out
          have x2 := cs_ext HE5.out X2.out
          have x3 := cs_ext HE5.out X3.out
          have HTX5 := Lib.hid (HTX.out.ext HE5.out)
          have hsz : w1.heap.size ≤ (w5.alloc (.cells #[.int .i64 x.kind, .string x.name, .int .i64 x.sort, .slice xa x.kids.length xc] 25)).heap.size := by have := HE5.out.size; simp; omega
          have hO3 := HO5.out.ext (Ext.alloc w5 (.cells #[.int .i64 x.kind, .string x.name, .int .i64 x.sort, .slice xa x.kids.length xc] 25))
          have hone : LsT (w5.alloc (.cells #[.int .i64 x.kind, .string x.name, .int .i64 x.sort, .slice xa x.kids.length xc] 25)) S (.slice (some ⟨w5.heap.size, 0, none⟩) 1 1) [x] := one_ls hs_new (HTX5.out.ext (Ext.alloc _ _))
          have hoff := hO3.off HS.out
          have hl3 : (O ++ [t]).length ≤ 1000000 := by simp; omega
          go_wp2_with (first
           | (at_builtin; (refine wpList_appT rfl (.tmp 33) (.tmp 38) rfl rfl rfl hO3 hsz hoff hl3 (X := [x]) (by simp) hone ?_); intro v6 w6 o6 g6 k6
              have HO6 := Lib.hid o6
              have HE6 := Lib.hid ((HE5.out.then_al _).grownT hO3 g6)
              clear o6 g6 k6 hO3 hone hoff))
          go_roundw
          case rel => exact ⟨k + 1, O ++ [t] ++ [x], true, by go_num, rfl, by omega, HO6.out, hNew.out, (fun h => nomatch h), HE6.out⟩
          case measure => simp [intOf]; omega
  · have HF := Lib.hid (HI.out.fin (by omega))
    cases d with
    | true =>
      have HR : Hid (addS t L = O) := Lib.hid (by rw [HF.out]; rfl)
      go_wp2_with fail
      go_ret
      exact ⟨_, rfl, HE1.out.trans HE.out, by rw [HR.out]; exact HO.out.low HE1.out.size⟩
    | false =>
      have HR : Hid (addS t L = O ++ [t]) := Lib.hid (by rw [HF.out]; rfl)
      have HT2 := Lib.hid (HT.out.ext HE.out)
      have hsz : w1.heap.size ≤ (wr.alloc (.cells #[.int .i64 t.kind, .string t.name, .int .i64 t.sort, .slice a' t.kids.length cap'] 25)).heap.size := by have := HE.out.size; simp; omega
      have hO3 := HO.out.ext (Ext.alloc wr (.cells #[.int .i64 t.kind, .string t.name, .int .i64 t.sort, .slice a' t.kids.length cap'] 25))
      have hone : LsT (wr.alloc (.cells #[.int .i64 t.kind, .string t.name, .int .i64 t.sort, .slice a' t.kids.length cap'] 25)) S (.slice (some ⟨wr.heap.size, 0, none⟩) 1 1) [t] := one_ls hs_new (HT2.out.ext (Ext.alloc _ _))
      have hoff := hO3.off HS.out
      go_wp2_with (first
       | (at_builtin; (refine wpList_appT rfl (.tmp 42) (.tmp 44) rfl rfl rfl hO3 hsz hoff (by omega) (X := [t]) (by simp) hone ?_); intro v5 w5 o5 g5 k5
          have HO5 := Lib.hid o5
          have HE5 := Lib.hid ((HE.out.then_al _).grownT hO3 g5)
          clear o5 g5 k5 hO3 hone hoff))
      go_ret
      exact ⟨_, rfl, HE1.out.trans HE5.out, by rw [HR.out]; exact HO5.out.low HE1.out.size⟩

end Go.Proofs.YtpfnlbaloaohgaaGreat

namespace Go.Proofs.YtpfnlbaloaohgaaGreat
open Go
set_option linter.unusedVariables false
set_option linter.unusedSimpArgs false

end Go.Proofs.YtpfnlbaloaohgaaGreat

namespace Go.Proofs.YtpfnlbaloaohgaaGreat
open Go Go.RowKit
set_option linter.unusedVariables false
set_option linter.unusedSimpArgs false

/-- a row of our own of one term -/
theorem own_one {w : World} {base : Nat} {S : Nat → Prop} {t : Tm} {a : Option Addr} {cap : Nat} (hb : base ≤ w.heap.size) (hT : TmW w S a cap t) : OwnT (w.alloc (.cells #[.int .i64 t.kind, .string t.name, .int .i64 t.sort, .slice a t.kids.length cap] 25)) base S (.slice (some ⟨w.heap.size, 0, none⟩) 1 1) [t] := by
 refine ⟨[⟨t, a, cap⟩], rfl, ⟨rfl, .inr ⟨w.heap.size, 1, _, rfl, hb, hs_new, Nat.le_refl _, by unfold maxLen; omega, rfl, rfl⟩⟩, fun e he => ?_⟩
 simp at he
 subst he
 exact hT.ext (Ext.alloc _ _)

theorem sizT : (Tryz.prog.info? 25).map (·.size) = some 4 := by kernel_rfl

theorem wpList_storeT {ops : Array Oper} {rest : List Oper} {o : Oper} {a : Act} {w : World} {Q : Exit → Act → World → Prop} (hgd : o.guard = none) (x y : Operand) (ho : o.op = .store 25 x y)
 {g : Nat} (hx : a.eval x = .pointer (some ⟨g, 0, none⟩)) {k s : Int} {n : ByteArray} {ka : Option Addr} {kl kc : Nat} (hy : a.eval y = .agg #[.int .i64 k, .string n, .int .i64 s, .slice ka kl kc])
 {old : Array Value} (hg : w.heap[g]? = some (.cells old 25)) (ho4 : old.size = 4)
 (hK : ∀ w', w'.heap[g]? = some (.cells #[.int .i64 k, .string n, .int .i64 s, .slice ka kl kc] 25) → (∀ q, q ≠ g → w'.heap[q]? = w.heap[q]?) → (∀ W0, Ext W0 w → W0.heap.size ≤ g → Ext W0 w') → w'.heap.size = w.heap.size → wpList Tryz.prog ops Q rest (a.put o.dst undef) w') :
 wpList Tryz.prog ops Q (o :: rest) a w := by
 refine wpList_store_all hgd 25 x y ho g _ hx hy 25 old hg sizT ho4 (by simp [Value.oneCell']) ?_
 exact hK _ (setRow_heap w g old _ _ _ hg) (fun q hq => setRow_other w g q _ hq) (fun W0 h hg => h.setRow hg _) (size_setRow _ _ _)

theorem wpList_buildT {ops : Array Oper} {rest : List Oper} {o : Oper} {a : Act} {w : World} {Q : Exit → Act → World → Prop} (hg : o.guard = none) (parts : List (Nat × Operand)) (ho : o.op = .build 25 parts.toArray) (vals : List (Nat × Value)) (hv : parts.map (fun p => (p.1, a.eval p.2)) = vals) {cells : Array Value}
 (hb : Tryz.prog.built 25 vals = some cells) (h : wpList Tryz.prog ops Q rest (a.put o.dst (.agg cells)) w) : wpList Tryz.prog ops Q (o :: rest) a w := by
 have e : (parts.toArray.map fun (i, x) => (i, a.eval x)).toList = vals := by rw [← hv]; simp
 refine wpList_build hg 25 parts.toArray ho (by rw [e, hb]; rfl) ?_
 rw [e, hb]
 exact h
theorem built_ks (k s : Int) (n : ByteArray) : Tryz.prog.built 25 [(0, .int .i64 k), (1, .string n), (2, .int .i64 s)] = some #[.int .i64 k, .string n, .int .i64 s, .slice none 0 0] := by kernel_rfl
theorem built_none : Tryz.prog.built 25 [] = some #[.int .i64 0, .string ⟨#[]⟩, .int .i64 0, .slice none 0 0] := by kernel_rfl

theorem ret_term {F : Func} {p g : Nat} {tmps : Array Value} {w : World} {cs : Array Value} {R : Ending → World → Prop} (hr : F.results = #[.cell p 25]) (hp : tmps.getD p undef = .pointer (some ⟨g, 0, none⟩)) (hg : w.heap[g]? = some (.cells cs 25)) (hs : cs.size = 4) (h : R (.returned (.agg cs)) w) :
 bodyPost Tryz.prog F R .ret ⟨tmps, []⟩ w :=
 bodyPost_ret (results_cell_row hr tmps w g _ cs _ _ hp hg Tryz.underlying25 rfl (by rw [hs]; exact sizT)) rfl h
theorem ret_term2 {F : Func} {p u g : Nat} {tmps : Array Value} {w : World} {cs : Array Value} {R : Ending → World → Prop} (hr : F.results = #[.cell p 25, .tmp u]) (hp : tmps.getD p undef = .pointer (some ⟨g, 0, none⟩)) (hg : w.heap[g]? = some (.cells cs 25)) (hs : cs.size = 4) (h : R (.returned (.tuple #[.agg cs, tmps.getD u undef])) w) :
 bodyPost Tryz.prog F R .ret ⟨tmps, []⟩ w := by
 refine bodyPost_ret ?_ rfl h
 rw [results_cell_tmp hr, hp]
 simp only [asAddr, Sem.run_pure, Result.andThen_ok]
 rw [run_loadVar_row w g _ _ cs _ _ hg Tryz.underlying25 rfl (by rw [hs]; exact sizT)]
 rfl

/-- the term n(L) -/
def appTm (n : ByteArray) (L : List Tm) : Tm := .mk 3 n 0 L
theorem tm_app {w : World} {S : Nat → Prop} {n : ByteArray} {L : List Tm} {a : Option Addr} {cap m : Nat} (hn : n.size ≤ maxLen) (h : LsT w S (.slice a m cap) L) (hS : ∀ b o, a = some ⟨b, o, none⟩ → S b) : m = L.length ∧ TmW w S a cap (appTm n L) := by
 obtain ⟨h1, h2, h3⟩ := h.len
 exact ⟨h1, ⟨(by unfold I64; exact ⟨by decide, by decide⟩ : I64 3), (by unfold I64; exact ⟨by decide, by decide⟩ : I64 0), hn, h2, h3, h.kids hS⟩⟩

end Go.Proofs.YtpfnlbaloaohgaaGreat
