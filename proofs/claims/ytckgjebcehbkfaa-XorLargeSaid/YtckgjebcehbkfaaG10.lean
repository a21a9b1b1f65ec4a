/- Contracts: a term's column, its row of bits. Contracts: a term's row of bits. Contracts: a row of bits reduced by a system. The plain law of echelon systems. The plain law of elimination: the system after some rows. The program's reduction in the words of the plain law. Columns and terms: the same spans. Even meetings: the plain law of a separation. -/
import Derived.Test.YtckgjebcehbkfaaG9
import Derived.Laws.MakeOwn
import Derived.Test.YtckgjebcehbkfaaG1
namespace Go.Proofs.Ytckgjebcehbkfaa
open Go Go.RowKit
set_option linter.unusedVariables false
set_option linter.unusedSimpArgs false

theorem asc_inj {L : List Tm} (h : Asc L) {i j : Nat} {x : Tm} (hi : L[i]? = some x) (hj : L[j]? = some x) : i = j := by
  rcases Nat.lt_trichotomy i j with h' | h' | h'
  · exact absurd (asc_get h hi hj h') ltT_irrefl
  · exact h'
  · exact absurd (asc_get h hj hi h') ltT_irrefl
theorem search_at {w : World} {S S' : Nat → Prop} {a a' : Option Addr} {cap cap' i : Nat} {L : List Tm} {p : Tm} (hL6 : ∀ x ∈ L, sizeT x ≤ 1000000) (hp6 : sizeT p ≤ 1000000) (hll : L.length ≤ 1000000) (hs : Asc L) (hA : LsT w S (.slice a L.length cap) L) (hT : TmW w S' a' cap' p) (hi : L[i]? = some p) :
    Calls Try.prog 47 #[.slice a L.length cap, .agg #[.int .i64 p.kind, .string p.name, .int .i64 p.sort, .slice a' p.kids.length cap'], .func (.func 45) #[] #[]] w fun e w' => e = .returned (.tuple #[.int .i64 i, .bool true]) ∧ Ext w w' := by
  refine (search_any hL6 hp6 hll hs hA hT).mono ?_
  rintro e w' ⟨j, rfl, hE, hj⟩
  have hm := List.mem_of_getElem? hi
  rw [asc_inj hs hi (hj hm), decide_eq_true hm]
  exact ⟨rfl, hE⟩

set_option maxRecDepth 100000 in
set_option maxHeartbeats 1000000 in
theorem column_any {w : World} {S S' : Nat → Prop} {sb : Nat} {a a' : Option Addr} {cap cap' i : Nat} {n : Int} {m1 m2 : Value} {bs : Value} {L : List Tm} {p : Tm} (hb : w.heap[sb]? = some (.cells #[.slice a L.length cap, .int .i64 n, m1, m2, bs] 73)) (hL6 : ∀ x ∈ L, sizeT x ≤ 1000000) (hp6 : sizeT p ≤ 1000000) (hll : L.length ≤ 1000000) (hs : Asc L) (hA : LsT w S (.slice a L.length cap) L) (hT : TmW w S' a' cap' p) (hi : L[i]? = some p) :
    Calls Try.prog 84 #[.pointer (some ⟨sb, 0, none⟩), .agg #[.int .i64 p.kind, .string p.name, .int .i64 p.sort, .slice a' p.kids.length cap']] w fun e w' => e = .returned (.int .i64 i) ∧ Ext w w' := by
  obtain ⟨-, hl, hc⟩ := hA.len
  have hl' := hT.len
  have hc' := hT.cap
  unfold maxLen at hc hc'
  obtain ⟨bx, hbx⟩ : ∃ bx, bx = w.heap.size := ⟨_, rfl⟩
  obtain ⟨w1, hw1⟩ : ∃ w1, w1 = w.alloc (.cells #[.int .i64 p.kind, .string p.name, .int .i64 p.sort, .slice a' p.kids.length cap'] 24) := ⟨_, rfl⟩
  have b0 : w1.cell? ⟨bx, 0, none⟩ = some (.int .i64 p.kind) := by rw [hw1, hbx]; exact cs_new rfl
  have b1 : w1.cell? ⟨bx, 1, none⟩ = some (.string p.name) := by rw [hw1, hbx]; exact cs_new rfl
  have b2 : w1.cell? ⟨bx, 2, none⟩ = some (.int .i64 p.sort) := by rw [hw1, hbx]; exact cs_new rfl
  have b3 : w1.cell? ⟨bx, 3, none⟩ = some (.slice a' p.kids.length cap') := by rw [hw1, hbx]; exact cs_new rfl
  have HE1 : Hid (Ext w w1) := Lib.hid (by rw [hw1]; exact Ext.alloc w _)
  have s0 : w1.cell? ⟨sb, 0, none⟩ = some (.slice a L.length cap) := by rw [cellc (hs_ext HE1.out hb)]; rfl
  have hcon := fun (w' : World) (hE : Ext w1 w') => search_at (w := w') hL6 hp6 hll hs (hA.ext (HE1.out.trans hE)) (hT.ext (HE1.out.trans hE)) hi
  have HC := Lib.hid hcon
  clear hcon hA hT hb hL6 hp6 hs hi
  go_enter Try.func84, Try.ntmps84
  go_upto_region 1 with fail
  rw [← hw1, ← hbx]
  clear hw1 hbx
  refine wp_region_reg 11 false (by kernel_rfl) (by kernel_rfl) ?_
  refine reg_value (fun _ => rfl) ?_ (fun g w' vs hM hE hP => ?_) ?_
  rotate_left
  · (clear hP hM; have zz0 := cs_ext hE s0; have zz1 := cs_ext hE b0; have zz2 := cs_ext hE b1; have zz3 := cs_ext hE b2; have zz4 := cs_ext hE b3; go_simp; first | done | rfl)
  refine reg_value (fun _ => rfl) ?_ (fun g w' vs hM hE hP => ?_) ?_
  rotate_left
  · (clear hP hM; have zz0 := cs_ext hE s0; have zz1 := cs_ext hE b0; have zz2 := cs_ext hE b1; have zz3 := cs_ext hE b2; have zz4 := cs_ext hE b3; go_simp; first | done | rfl)
  refine reg_value (fun _ => rfl) ?_ (fun g w' vs hM hE hP => ?_) ?_
  rotate_left
  · (clear hP hM; have zz0 := cs_ext hE s0; have zz1 := cs_ext hE b0; have zz2 := cs_ext hE b1; have zz3 := cs_ext hE b2; have zz4 := cs_ext hE b3; go_simp; first | done | rfl)
  refine reg_value (fun _ => rfl) ?_ (fun g w' vs hM hE hP => ?_) ?_
  rotate_left
  · (clear hP hM; have zz0 := cs_ext hE s0; have zz1 := cs_ext hE b0; have zz2 := cs_ext hE b1; have zz3 := cs_ext hE b2; have zz4 := cs_ext hE b3; go_simp; first | done | rfl)
  refine reg_value (fun _ => rfl) ?_ (fun g w' vs hM hE hP => ?_) ?_
  rotate_left
  · (clear hP hM; have zz0 := cs_ext hE s0; have zz1 := cs_ext hE b0; have zz2 := cs_ext hE b1; have zz3 := cs_ext hE b2; have zz4 := cs_ext hE b3; go_simp; first | done | rfl)
  refine reg_const (fun _ => rfl) 47 ?_ (fun g w' vs hM hE hP => ?_) ?_
  rotate_left
  · (clear hP hM; have zz0 := cs_ext hE s0; have zz1 := cs_ext hE b0; have zz2 := cs_ext hE b1; have zz3 := cs_ext hE b2; have zz4 := cs_ext hE b3; go_simp; first | done | exact ⟨rfl, rfl⟩ | rfl)
  apply Exists.intro
  refine And.intro (fun g w' vs hM hE hP => ?_) ?_
  · exact HC.out _ hE
  refine reg_value (fun _ => rfl) ?_ (fun g w' vs hM hE hP => ?_) ?_
  rotate_left
  · (clear hP hM; have zz0 := cs_ext hE s0; have zz1 := cs_ext hE b0; have zz2 := cs_ext hE b1; have zz3 := cs_ext hE b2; have zz4 := cs_ext hE b3; go_simp; first | done | rfl)
  refine reg_value (fun _ => rfl) ?_ (fun g w' vs hM hE hP => ?_) ?_
  rotate_left
  · (clear hP hM; have zz0 := cs_ext hE s0; have zz1 := cs_ext hE b0; have zz2 := cs_ext hE b1; have zz3 := cs_ext hE b2; have zz4 := cs_ext hE b3; go_simp; first | done | rfl)
  refine reg_value (fun _ => rfl) ?_ (fun g w' vs hM hE hP => ?_) ?_
  rotate_left
  · (clear hP hM; have zz0 := cs_ext hE s0; have zz1 := cs_ext hE b0; have zz2 := cs_ext hE b1; have zz3 := cs_ext hE b2; have zz4 := cs_ext hE b3; go_simp; first | done | rfl)
  refine reg_value (fun _ => rfl) ?_ (fun g w' vs hM hE hP => ?_) ?_
  rotate_left
  · (clear hP hM; have zz0 := cs_ext hE s0; have zz1 := cs_ext hE b0; have zz2 := cs_ext hE b1; have zz3 := cs_ext hE b2; have zz4 := cs_ext hE b3; go_simp; first | done | rfl)
  refine reg_value (fun _ => rfl) ?_ (fun g w' vs hM hE hP => ?_) ?_
  rotate_left
  · (clear hP hM; have zz0 := cs_ext hE s0; have zz1 := cs_ext hE b0; have zz2 := cs_ext hE b1; have zz3 := cs_ext hE b2; have zz4 := cs_ext hE b3; go_simp; first | done | rfl)
  intro g wz hE2 hF hQ
  simp only [List.drop_succ_cons, List.drop_zero, Act.put, List.setIfInBounds_toArray, List.set_cons_succ, List.set_cons_zero]
  clear hF hQ s0 b0 b1 b2 b3
  have HE2 := Lib.hid (HE1.out.trans hE2)
  clear hE2
  go_wp2_with fail
  go_ret
  exact ⟨rfl, HE2.out⟩

end Go.Proofs.Ytckgjebcehbkfaa

namespace Go.Proofs.Ytckgjebcehbkfaa
open Go Go.RowKit
set_option linter.unusedVariables false
set_option linter.unusedSimpArgs false

/-- whether the column j of L is in Q -/
def rowB (L Q : List Tm) (j : Nat) : Bool := match L[j]? with
  | some x => decide (x ∈ Q)
  | none => false
theorem rowB_nil (L : List Tm) (j : Nat) : rowB L [] j = false := by
  unfold rowB; cases L[j]? <;> simp
theorem rowB_step {L Q : List Tm} {k i : Nat} {x : Tm} (hL : Asc L) (hQ : Asc Q) (hx : Q[k]? = some x) (hi : L[i]? = some x) (j : Nat) : rowB L (Q.take (k + 1)) j = (rowB L (Q.take k) j != decide (j = i)) := by
  have hn : x ∉ Q.take k := fun h => by
    obtain ⟨m, hm, he⟩ := List.mem_iff_getElem.1 h
    rw [List.length_take] at hm
    rw [List.getElem_take] at he
    have : Q[m]? = some x := by rw [List.getElem?_eq_getElem (by omega), he]
    have := asc_inj hQ this hx
    omega
  have ht : Q.take (k + 1) = Q.take k ++ [x] := by rw [List.take_add_one, hx]; rfl
  rw [ht]
  unfold rowB
  by_cases hji : j = i
  · subst hji
    rw [hi]
    simp [hn]
  · cases hj : L[j]? with
    | none => simp [hji]
    | some y =>
      have hyx : ¬ y = x := fun h => hji (asc_inj hL hj (by rw [h]; exact hi))
      simp [hji, hyx]
theorem infU : (Try.prog.info? 106).map (fun i => (i.zero, i.size, i.bytes)) = some (some (.int .u64 0), 1, 8) := by kernel_rfl
theorem made_zero (n : Nat) : madeCells (Value.int .u64 0).cells n = ((List.replicate n 0).map encW).toArray := by
  apply Array.ext
  · simp [size_madeCells]
  · intro i h1 h2
    simp [madeCells, Value.cells, encW, Nat.mod_one]
theorem run_makeBits (w : World) (n : Nat) (hn : n ≤ 1000000) : (Instr.makeSlice 80 (.int .i64 (n : Int)) (.int .i64 (n : Int))).run Try.prog w = .ok (.slice (some ⟨w.heap.size, 0, none⟩) n n) (w.alloc (.cells ((List.replicate n 0).map encW).toArray 106)) := by
  obtain ⟨i0, hi0, hi1, hi2, hi3⟩ := info_parts infU
  have hmk := run_makeSlice (P := Try.prog) w 80 106 i0 _ Try.underlying80 hi0 hi1 .i64 .i64 (n : Int) (n : Int) (by omega) (by omega) (by rw [hi2]; simp; omega) (by rw [hi3]; omega) (by omega)
  rw [hi2, Int.toNat_natCast, Nat.mul_one, made_zero] at hmk
  exact hmk
theorem BitW.zero (w : World) (n : Nat) : BitW (w.alloc (.cells ((List.replicate n 0).map encW).toArray 106)) w.heap.size (List.replicate n 0) :=
  ⟨hs_new, fun x hx => by rw [List.eq_of_mem_replicate hx]; omega⟩

/-- the row under way -/
structure RowI (w wr : World) (g base k n : Nat) (S : Nat → Prop) (u : Value) (L Q : List Tm) (ws : List Nat) : Prop where
  ext : Ext w wr
  bits : BitW wr g ws
  own : OwnT wr base S u Q
  len : ws.length = n
  val : ∀ j, bitL ws j = rowB L (Q.take k) j
theorem RowI.next {w wr w' : World} {g base k n : Nat} {S : Nat → Prop} {u : Value} {L Q : List Tm} {ws : List Nat} (h : RowI w wr g base k n S u L Q ws) (hE : Ext wr w') : RowI w w' g base k n S u L Q ws :=
  ⟨h.ext.trans hE, h.bits.ext hE, h.own.ext hE, h.len, h.val⟩

set_option maxRecDepth 100000 in
set_option maxHeartbeats 2000000 in
theorem row_any {w : World} {S S' : Nat → Prop} {sb : Nat} {a a' : Option Addr} {cap cap' : Nat} {n : Int} {m1 m2 : Value} {bs : Value} {L : List Tm} {t : Tm} (hb : w.heap[sb]? = some (.cells #[.slice a L.length cap, .int .i64 n, m1, m2, bs] 73)) (hL6 : ∀ x ∈ L, sizeT x ≤ 1000000) (ht6 : sizeT t ≤ 80000) (hll : L.length ≤ 1000000) (hs : Asc L) (hA : LsT w S (.slice a L.length cap) L) (hT : TmW w S' a' cap' t) (hin : ∀ x ∈ sumT t, x ∈ L) :
    Calls Try.prog 62 #[.pointer (some ⟨sb, 0, none⟩), .agg #[.int .i64 t.kind, .string t.name, .int .i64 t.sort, .slice a' t.kids.length cap']] w fun e w' => ∃ (g : Nat) (ws : List Nat), e = .returned (.slice (some ⟨g, 0, none⟩) ws.length ws.length) ∧ Ext w w' ∧ w.heap.size ≤ g ∧ BitW w' g ws ∧ ws.length = L.length / 64 + 1 ∧ ∀ j, bitL ws j = rowB L (sumT t) j := by
  obtain ⟨-, hl, hc⟩ := hA.len
  have hl' := hT.len
  have hc' := hT.cap
  unfold maxLen at hc hc'
  obtain ⟨d, hd⟩ : ∃ d : Nat, d = L.length / 64 := ⟨_, rfl⟩
  have hdq : ((L.length : Int)) / 64 = (d : Int) := by omega
  have hd6 : d ≤ 20000 := by omega
  obtain ⟨bx, hbx⟩ : ∃ bx, bx = w.heap.size := ⟨_, rfl⟩
  obtain ⟨w1, hw1⟩ : ∃ w1, w1 = w.alloc (.cells #[.int .i64 t.kind, .string t.name, .int .i64 t.sort, .slice a' t.kids.length cap'] 24) := ⟨_, rfl⟩
  have b0 : w1.cell? ⟨bx, 0, none⟩ = some (.int .i64 t.kind) := by rw [hw1, hbx]; exact cs_new rfl
  have b1 : w1.cell? ⟨bx, 1, none⟩ = some (.string t.name) := by rw [hw1, hbx]; exact cs_new rfl
  have b2 : w1.cell? ⟨bx, 2, none⟩ = some (.int .i64 t.sort) := by rw [hw1, hbx]; exact cs_new rfl
  have b3 : w1.cell? ⟨bx, 3, none⟩ = some (.slice a' t.kids.length cap') := by rw [hw1, hbx]; exact cs_new rfl
  have hE1 : Ext w w1 := by rw [hw1]; exact Ext.alloc w _
  have s0 : w1.cell? ⟨sb, 0, none⟩ = some (.slice a L.length cap) := by rw [cellc (hs_ext hE1 hb)]; rfl
  have HMK := Lib.hid (run_makeBits w1 (d + 1) (by omega))
  obtain ⟨g, hg⟩ : ∃ g, g = w1.heap.size := ⟨_, rfl⟩
  obtain ⟨w2, hw2⟩ : ∃ w2, w2 = w1.alloc (.cells ((List.replicate (d + 1) 0).map encW).toArray 106) := ⟨_, rfl⟩
  have hE2 : Ext w1 w2 := by rw [hw2]; exact Ext.alloc w1 _
  have hB2 : BitW w2 g (List.replicate (d + 1) 0) := by rw [hw2, hg]; exact BitW.zero w1 _
  have c0 := cs_ext hE2 b0
  have c1 := cs_ext hE2 b1
  have c2 := cs_ext hE2 b2
  have c3 := cs_ext hE2 b3
  have hEb := hE1.trans hE2
  have hgw : w.heap.size ≤ g := by rw [hg]; exact hE1.size
  have hcon := summands_any 90000 w2 (fun c => c < w.heap.size) a' cap' t (by omega) (Nat.le_refl _) (fun c hc => by have := hEb.size; omega) (hT.below.ext hEb)
  obtain ⟨Q, hQ⟩ : ∃ Q, Q = sumT t := ⟨_, rfl⟩
  have HQ6 : Hid (∀ y ∈ Q, sizeT y ≤ 1000000) := Lib.hid (fun y hy => by rw [hQ] at hy; have := sumT_size t y hy; omega)
  have HQA : Hid (Asc Q) := Lib.hid (by rw [hQ]; exact sumT_asc t)
  have hql : Q.length ≤ 80000 := by rw [hQ]; have := sumT_len t; omega
  rw [← hQ] at hcon hin
  rw [← hQ]
  have hmk := HMK.out
  rw [← hw2, ← hg, show ((d + 1 : Nat) : Int) = (d : Int) + 1 from rfl] at hmk
  have HMK2 := Lib.hid hmk
  have HGW := Lib.hid hgw
  have HB2 := Lib.hid hB2
  have HEb := Lib.hid hEb
  have HD := Lib.hid hd
  have HCON := Lib.hid hcon
  have HIN := Lib.hid hin
  have HA := Lib.hid hA
  have HS := Lib.hid hs
  have HL6 := Lib.hid hL6
  have HBB := Lib.hid hb
  have HG2 : Hid (g < w2.heap.size) := Lib.hid (lt_of_get' hB2.row)
  clear hA hT hin hL6 hs hb hcon hQ hmk HMK hd hB2 hEb hE2 hE1 hgw hw2 hg
  go_enter Try.func62, Try.ntmps62
  go_upto_region 1 with fail
  rw [← hw1, ← hbx]
  clear hw1 hbx b0 b1 b2 b3
  have hmk := HMK2.out
  go_upto_region 2 with fail
  clear hmk s0
  go_wp2_with fail
  refine HCON.out.mono ?_
  rintro e w3 ⟨u, rfl, hE3, hO3⟩
  obtain ⟨ua, uc, hu, hl1, hl2, -⟩ := id hO3.ls
  subst hu
  unfold maxLen at hl2
  have HI0 : Hid (RowI w w3 g w2.heap.size 0 (d + 1) (fun c => c < w.heap.size) (.slice ua Q.length uc) L Q (List.replicate (d + 1) 0)) := Lib.hid
    ⟨HEb.out.trans hE3, HB2.out.ext hE3, hO3, List.length_replicate .., fun j => by rw [bitL_zero]; exact (rowB_nil L j).symm⟩
  clear hE3 hO3 c0 c1 c2 c3
  go_wp2_with fail
  go_loopw [7, 19] (fun _ kv wr => Hid (∃ (k : Nat) (ws : List Nat), kv = .int .i64 k ∧ k ≤ Q.length ∧ RowI w wr g w2.heap.size k (d + 1) (fun c => c < w.heap.size) (.slice ua Q.length uc) L Q ws)) (fun _ kv _ => Q.length - (intOf kv).toNat)
  case atStart => exact Lib.hid ⟨0, _, rfl, by omega, HI0.out⟩
  case round =>
    obtain ⟨k, ws, rfl, hk, hI⟩ := hrel.out
    have HI := Lib.hid hI
    clear hI hrel
    by_cases hlt : k < Q.length
    · obtain ⟨x, hx⟩ : ∃ x, Q[k]? = some x := ⟨_, List.getElem?_eq_getElem hlt⟩
      obtain ⟨i, hi⟩ : ∃ i, L[i]? = some x := List.mem_iff_getElem?.1 (HIN.out x (List.mem_of_getElem? hx))
      have hil := (List.getElem?_eq_some_iff.1 hi).1
      obtain ⟨xb, xo, xa, xc, rfl, x0, x1, x2, x3, hTx⟩ := HI.out.own.ls.ts.at hx
      have hEw : Ext wr (wr.alloc (.cells #[.int .i64 x.kind, .string x.name, .int .i64 x.sort, .slice xa x.kids.length xc] 24)) := Ext.alloc wr _
      have hcon := column_any (hs_ext (HI.out.ext.trans hEw) HBB.out) HL6.out (HQ6.out x (List.mem_of_getElem? hx)) hll HS.out (HA.out.ext (HI.out.ext.trans hEw)) (hTx.ext hEw) hi
      have HI2 := Lib.hid (HI.out.next hEw)
      have hwl := HI.out.len
      have HST := Lib.hid (rowB_step HS.out HQA.out hx hi)
      have HCON2 := Lib.hid hcon
      have HIL : Hid (i < ws.length * 64) := Lib.hid (by have := HD.out; omega)
      clear hx hi hTx hEw hcon hil
      go_wp2_with fail
      refine HCON2.out.mono ?_
      rintro e w4 ⟨rfl, hE4⟩
      have HI4 := Lib.hid (HI2.out.next hE4)
      have hcon := flip_any HI4.out.bits HIL.out (by omega)
      rw [hwl] at hcon
      have HCON3 := Lib.hid hcon
      clear hE4 hcon
      go_wp2_with fail
      refine HCON3.out.mono ?_
      rintro e w5 ⟨rfl, hG5, ws5, hB5, hl5, hv5⟩
      have HI5 : Hid (RowI w w5 g w2.heap.size (k + 1) (d + 1) (fun c => c < w.heap.size) (.slice (some ⟨xb, xo, none⟩) Q.length uc) L Q ws5) := Lib.hid
        ⟨HI4.out.ext.grown hG5 (fun q hq => by cases hq; exact HGW.out), hB5, HI4.out.own.keep (fun q hq => hG5.block q (HI4.out.own.lt q hq).2 (fun e => by
          have h1 := (HI4.out.own.lt q hq).1
          have h2 := HG2.out
          have := Option.some.inj e; omega)) (fun c h h' => hG5.block c h' (fun e => by have := HGW.out; have h3 : c < w.heap.size := h; have := Option.some.inj e; omega)), hl5, fun j => by rw [hv5 j, HST.out j, HI4.out.val j]⟩
      clear hG5 hB5 hl5 hv5
      go_wp2_with fail
      go_roundw
      case rel => exact Lib.hid ⟨k + 1, ws5, by go_num, by omega, HI5.out⟩
      case measure => simp [intOf]; omega
    · have hend : Hid (k = Q.length) := Lib.hid (by omega)
      go_wp2_with fail
      go_ret
      have hI := HI.out
      have hwl := hI.len
      refine ⟨g, ws, by rw [hwl]; rfl, hI.ext, HGW.out, hI.bits, by rw [hwl, HD.out], fun j => ?_⟩
      rw [hI.val j, hend.out, List.take_length]

end Go.Proofs.Ytckgjebcehbkfaa

namespace Go.Proofs.Ytckgjebcehbkfaa
open Go Go.RowKit
open Go.Maps (Keyed)
set_option linter.unusedVariables false
set_option linter.unusedSimpArgs false

abbrev Col := Fin 1000000
def encI (c : Col) : Value := .int .i64 (c.1 : Nat)
theorem lawI : Keyed Try.prog 3 := Maps.int_keyed Try.underlying3
theorem keyI (x : Col) : ∃ l, keyOf Try.prog 3 (encI x) = some l := by
  obtain ⟨x, h1⟩ := x
  exact ⟨_, Maps.keyOf_int_mk Try.underlying3 (WalkArith.wf_i64 ⟨by simp only; omega, by simp only; omega⟩)⟩
theorem encI_inj (x y : Col) (h : encI x = encI y) : x = y := by
  obtain ⟨x, hx⟩ := x
  obtain ⟨y, hy⟩ := y
  simp [encI] at h
  have h' : x = y := by omega
  subst h'
  rfl
theorem zeroB (w : World) : (zeroValue 80).run Try.prog w = .ok (.slice none 0 0) w := by kernel_rfl

theorem wpList_lookB {ops : Array Oper} {rest : List Oper} {o : Oper} {a : Act} {w : World} {Q : Exit → Act → World → Prop} {b n : Nat} {F : Col → Option Value} (hg : o.guard = none) (m x : Operand) (c : Bool) (hop : o.op = Op.lookup 71 m x c) (h : MapK encI w b n F)
    (hm : a.eval m = .map (some b)) (y : Col) (hx : a.eval x = .int .i64 (y.1 : Nat)) {q : Option Value} (hq : F y = q)
    (hK : wpList Try.prog ops Q rest (a.put o.dst (if c then .tuple #[q.getD (.slice none 0 0), .bool q.isSome] else q.getD (.slice none 0 0))) w) :
    wpList Try.prog ops Q (o :: rest) a w := by
  subst hq
  exact wpList_mapK_look hg m x _ c hop h lawI keyI Try.underlying71 (zeroB w) hm y hx hK

/-- a block and its words -/
abbrev Wds := Nat × List Nat
def bitsV (p : Wds) : Value := .slice (some ⟨p.1, 0, none⟩) p.2.length p.2.length
/-- the system's rows and choices in memory: F's blocks satisfy T -/
structure RowsW (w : World) (m n l : Nat) (T : Nat → Prop) (F : Col → Option Wds) : Prop where
  map : MapK encI w m n (fun c => (F c).map bitsV)
  bits : ∀ c p, F c = some p → BitW w p.1 p.2 ∧ p.2.length = l ∧ T p.1
theorem RowsW.ext {w w' : World} {m n l : Nat} {T : Nat → Prop} {F : Col → Option Wds} (h : RowsW w m n l T F) (hE : Ext w w') : RowsW w' m n l T F :=
  ⟨h.map.ext hE, fun c p hp => ⟨(h.bits c p hp).1.ext hE, (h.bits c p hp).2⟩⟩
theorem RowsW.keep {w w' : World} {m n l : Nat} {T : Nat → Prop} {F : Col → Option Wds} (h : RowsW w m n l T F) (hm : w'.heap[m]? = w.heap[m]?) (hT : ∀ c, T c → c < w.heap.size → w'.heap[c]? = w.heap[c]?) : RowsW w' m n l T F :=
  ⟨h.map.same hm, fun c p hp => ⟨(h.bits c p hp).1.same (hT _ (h.bits c p hp).2.2 (lt_of_get' (h.bits c p hp).1.row)), (h.bits c p hp).2⟩⟩

/-- reduce: what it computes -/
def redS (F G : Col → Option Wds) (b : Nat → Bool) : Nat → (Nat → Bool) × (Nat → Bool)
  | 0 => (b, fun _ => false)
  | c + 1 => let s := redS F G b c
    if h : c < 1000000 then
      match F ⟨c, h⟩, G ⟨c, h⟩ with
      | some r, some q => if s.1 c then (fun j => s.1 j != bitL r.2 j, fun j => s.2 j != bitL q.2 j) else s
      | _, _ => s
    else s
theorem redS_none {F G : Col → Option Wds} {b : Nat → Bool} {c : Nat} {h : c < 1000000} (hF : F ⟨c, h⟩ = none) : redS F G b (c + 1) = redS F G b c := by
  simp only [redS, dif_pos h, hF]
theorem redS_skip {F G : Col → Option Wds} {b : Nat → Bool} {c : Nat} (hb : (redS F G b c).1 c = false) : redS F G b (c + 1) = redS F G b c := by
  simp only [redS]
  split
  · split
    · simp [hb]
    · rfl
  · rfl
theorem redS_add {F G : Col → Option Wds} {b : Nat → Bool} {c : Nat} {h : c < 1000000} {r q : Wds} (hF : F ⟨c, h⟩ = some r) (hG : G ⟨c, h⟩ = some q) (hb : (redS F G b c).1 c = true) :
    redS F G b (c + 1) = (fun j => (redS F G b c).1 j != bitL r.2 j, fun j => (redS F G b c).2 j != bitL q.2 j) := by
  simp only [redS, dif_pos h, hF, hG, hb, if_true]

/-- the reduction under way -/
structure RedI (w wr : World) (g gc k l lc : Nat) (F G : Col → Option Wds) (b : Nat → Bool) (ws cs : List Nat) : Prop where
  size : w.heap.size ≤ wr.heap.size
  grown : w.grownBy wr (some g)
  bits : BitW wr g ws
  ch : BitW wr gc cs
  len : ws.length = l
  lenc : cs.length = lc
  val : ∀ j, bitL ws j = (redS F G b k).1 j
  valc : ∀ j, bitL cs j = (redS F G b k).2 j

set_option maxRecDepth 100000 in
set_option maxHeartbeats 4000000 in
theorem reduce_any {w : World} {T : Nat → Prop} {sb g mr mc nr nc : Nat} {a : Option Addr} {cap n N : Nat} {bs : Value} {ws : List Nat} {F G : Col → Option Wds} (hb : w.heap[sb]? = some (.cells #[.slice a N cap, .int .i64 n, .map (some mr), .map (some mc), bs] 73))
    (hN : N ≤ 100000) (hn : n ≤ 100000) (hg : sb ≠ g ∧ mr ≠ g ∧ mc ≠ g) (hT : ∀ c, T c → c ≠ g) (hB : BitW w g ws) (hl : ws.length = N / 64 + 1) (hF : RowsW w mr nr (N / 64 + 1) T F) (hG : RowsW w mc nc (n / 64 + 1) T G) (hd : ∀ c, (F c).isSome = (G c).isSome) :
    Calls Try.prog 61 #[.pointer (some ⟨sb, 0, none⟩), .slice (some ⟨g, 0, none⟩) ws.length ws.length] w fun e w' => ∃ (gc : Nat) (ws' cs : List Nat), e = .returned (.tuple #[.slice (some ⟨g, 0, none⟩) ws.length ws.length, .slice (some ⟨gc, 0, none⟩) cs.length cs.length]) ∧ w.grownBy w' (some g) ∧ w.heap.size ≤ gc ∧ BitW w' g ws' ∧ ws'.length = ws.length ∧ BitW w' gc cs ∧ cs.length = n / 64 + 1 ∧
      (∀ j, bitL ws' j = (redS F G (bitL ws) N).1 j) ∧ ∀ j, bitL cs j = (redS F G (bitL ws) N).2 j := by
  have hgl := lt_of_get' hB.row
  obtain ⟨d, hdd⟩ : ∃ d : Nat, d = n / 64 := ⟨_, rfl⟩
  have hdq : ((n : Nat) : Int) / 64 = (d : Int) := by omega
  have hd6 : d ≤ 2000 := by omega
  have s0 : w.cell? ⟨sb, 0, none⟩ = some (.slice a N cap) := by rw [cellc hb]; rfl
  have s1 : w.cell? ⟨sb, 1, none⟩ = some (.int .i64 n) := by rw [cellc hb]; rfl
  have hmk := run_makeBits w (d + 1) (by omega)
  obtain ⟨gc, hgc⟩ : ∃ gc, gc = w.heap.size := ⟨_, rfl⟩
  obtain ⟨w2, hw2⟩ : ∃ w2, w2 = w.alloc (.cells ((List.replicate (d + 1) 0).map encW).toArray 106) := ⟨_, rfl⟩
  have hE2 : Ext w w2 := by rw [hw2]; exact Ext.alloc w _
  have hB2 : BitW w2 gc (List.replicate (d + 1) 0) := by rw [hw2, hgc]; exact BitW.zero w _
  rw [← hw2, ← hgc, show ((d + 1 : Nat) : Int) = (d : Int) + 1 from rfl] at hmk
  have c0 := cs_ext hE2 s0
  have HMK := Lib.hid hmk
  have HGC : Hid (g < gc ∧ w.heap.size ≤ gc) := Lib.hid (by omega)
  have HI0 : Hid (RedI w w2 g gc 0 ws.length (d + 1) F G (bitL ws) ws (List.replicate (d + 1) 0)) := Lib.hid
    ⟨hE2.size, grown_put' hE2 _, hB.ext hE2, hB2, rfl, List.length_replicate .., fun j => rfl, fun j => by rw [bitL_zero]; rfl⟩
  have HBB := Lib.hid hb
  have HG := Lib.hid hG
  have HF := Lib.hid hF
  have HT := Lib.hid hT
  have HDD := Lib.hid hdd
  have HD := Lib.hid hd
  have HGG := Lib.hid hg
  have HL := Lib.hid hl
  have hl6 : ws.length ≤ 10000 := by omega
  clear hb hg hT hB hl hF hG hd hdd hgc hw2 hE2 hB2 hmk hgl
  go_enter Try.func61, Try.ntmps61
  have hmk := HMK.out
  go_upto_region 2 with fail
  clear hmk s0 s1
  go_wp2_with fail
  clear c0
  go_loopw [7, 8, 9, 22] (fun _ _ _ kv wr => Hid (∃ (k : Nat) (ws1 cs : List Nat), kv = .int .i64 k ∧ k ≤ N ∧ RedI w wr g gc k ws.length (d + 1) F G (bitL ws) ws1 cs)) (fun _ _ _ kv _ => N - (intOf kv).toNat)
  case atStart => exact Lib.hid ⟨0, _, _, rfl, by omega, HI0.out⟩
  case round =>
    obtain ⟨k, ws1, cs, rfl, hk, hI⟩ := hrel.out
    have HI := Lib.hid hI
    clear hI hrel
    have hwl := HI.out.len
    have hcl := HI.out.lenc
    by_cases hlt : k < N
    · have hk6 : k < 1000000 := by omega
      have hgr := HI.out.grown
      have hsame : ∀ c, c < w.heap.size → c ≠ g → wr.heap[c]? = w.heap[c]? := fun c h h' => hgr.block c h (fun e => h' (Option.some.inj e))
      have HBR := Lib.hid ((hsame sb (lt_of_get' HBB.out) HGG.out.1).trans HBB.out)
      have z0 : wr.cell? ⟨sb, 2, none⟩ = some (.map (some mr)) := by rw [cellc HBR.out]; rfl
      have z1 : wr.cell? ⟨sb, 3, none⟩ = some (.map (some mc)) := by rw [cellc HBR.out]; rfl
      have HFR := Lib.hid (HF.out.keep (hsame mr HF.out.map.lt HGG.out.2.1) (fun c hc h => hsame c h (HT.out c hc)))
      have HGR := Lib.hid (HG.out.keep (hsame mc HG.out.map.lt HGG.out.2.2) (fun c hc h => hsame c h (HT.out c hc)))
      have hDk := HD.out ⟨k, hk6⟩
      clear hgr hsame
      cases hFk : F ⟨k, hk6⟩ with
      | none =>
        have HV : Hid (redS F G (bitL ws) (k + 1) = redS F G (bitL ws) k) := Lib.hid (redS_none hFk)
        have hq : Option.map bitsV (F ⟨k, hk6⟩) = none := by rw [hFk]; rfl
        have HQ := Lib.hid hq
        clear hFk hq hDk
        go_wp2_with (refine wpList_lookB rfl (.tmp 29) (.tmp 30) true rfl HFR.out.map rfl ⟨k, hk6⟩ rfl HQ.out ?_; rw [if_pos rfl]; simp only [Option.getD_none, Option.isSome_none])
        go_roundw
        case rel => exact Lib.hid ⟨k + 1, ws1, cs, by go_num, by omega, ⟨HI.out.size, HI.out.grown, HI.out.bits, HI.out.ch, hwl, hcl, by rw [HV.out]; exact HI.out.val, by rw [HV.out]; exact HI.out.valc⟩⟩
        case measure => simp [intOf]; omega
      | some r =>
        obtain ⟨rg, rws⟩ := r
        obtain ⟨⟨qg, qws⟩, hGk⟩ : ∃ q, G ⟨k, hk6⟩ = some q := Option.isSome_iff_exists.1 (by rw [← hDk, hFk]; rfl)
        have hq : Option.map bitsV (F ⟨k, hk6⟩) = some (.slice (some ⟨rg, 0, none⟩) rws.length rws.length) := by rw [hFk]; rfl
        have hq2 : Option.map bitsV (G ⟨k, hk6⟩) = some (.slice (some ⟨qg, 0, none⟩) qws.length qws.length) := by rw [hGk]; rfl
        obtain ⟨hr1, hr2, hr3⟩ := HFR.out.bits _ _ hFk
        obtain ⟨hq1, hq4, hq3⟩ := HGR.out.bits _ _ hGk
        have hqg := lt_of_get' (HG.out.bits _ _ hGk).1.row
        have HQ := Lib.hid hq
        have HQ2 := Lib.hid hq2
        have HFk := Lib.hid hFk
        have HGk := Lib.hid hGk
        have hcon := has_any (i := k) HI.out.bits (by have := HL.out; omega) (by omega)
        obtain ⟨o, ho⟩ : ∃ o, o = bitL ws1 k := ⟨_, rfl⟩
        rw [hwl, ← ho] at hcon
        have HO := Lib.hid (ho.trans (HI.out.val k))
        have HCON := Lib.hid hcon
        have hrl : rws.length = ws.length := by rw [HL.out]; exact hr2
        have hql : qws.length = d + 1 := by rw [HDD.out]; exact hq4
        have hcon2 := xorw_any HI.out.bits hr1 (HT.out _ hr3) (by rw [hwl]; exact hrl.symm) (by omega)
        rw [hwl] at hcon2
        have HCON2 := Lib.hid hcon2
        have HQB := Lib.hid hq1
        have HQN : Hid (qg < w.heap.size ∧ qg ≠ g) := Lib.hid ⟨hqg, HT.out _ hq3⟩
        have HQL := Lib.hid hql
        clear hq hq2 hFk hGk hcon ho hcon2 hr1 hr2 hr3 hq1 hq4 hq3 hqg hDk hrl hql
        go_wp2_with (refine wpList_lookB rfl (.tmp 29) (.tmp 30) true rfl HFR.out.map rfl ⟨k, hk6⟩ rfl HQ.out ?_; rw [if_pos rfl]; simp only [Option.getD_some, Option.isSome_some])
        refine HCON.out.mono ?_
        rintro e w3 ⟨rfl, hw⟩
        subst hw
        cases o with
        | false =>
          have HV : Hid (redS F G (bitL ws) (k + 1) = redS F G (bitL ws) k) := Lib.hid (redS_skip HO.out.symm)
          go_wp2_with fail
          go_roundw
          case rel => exact Lib.hid ⟨k + 1, ws1, cs, by go_num, by omega, ⟨HI.out.size, HI.out.grown, HI.out.bits, HI.out.ch, hwl, hcl, by rw [HV.out]; exact HI.out.val, by rw [HV.out]; exact HI.out.valc⟩⟩
          case measure => simp [intOf]; omega
        | true =>
          have HV : Hid (redS F G (bitL ws) (k + 1) = _) := Lib.hid (redS_add HFk.out HGk.out HO.out.symm)
          go_wp2_with fail
          refine HCON2.out.mono ?_
          rintro e w4 ⟨rfl, hG4, ws4, hB4, hl4, hv4⟩
          have hgs := HI.out.size
          have hggc := HGC.out
          have hsame : ∀ c, c < wr.heap.size → c ≠ g → w4.heap[c]? = wr.heap[c]? := fun c h h' => hG4.block c h (fun e => h' (Option.some.inj e))
          have hH4 := (hsame sb (lt_of_get' HBR.out) HGG.out.1).trans HBR.out
          have z1 : w4.cell? ⟨sb, 3, none⟩ = some (.map (some mc)) := by rw [cellc hH4]; rfl
          have HG4 := Lib.hid (HGR.out.keep (hsame mc HGR.out.map.lt HGG.out.2.2) (fun c hc h => hsame c h (HT.out c hc)))
          have hCH4 := HI.out.ch.same (hsame gc (lt_of_get' HI.out.ch.row) (by omega))
          have hQB4 := HQB.out.same (hsame qg (lt_of_get' HQB.out.row) HQN.out.2)
          have hcon5 := xorw_any hCH4 hQB4 (by have := HQN.out.1; omega) (by rw [hcl]; exact HQL.out.symm) (by omega)
          rw [hcl] at hcon5
          have HCON5 := Lib.hid hcon5
          have HGR4 := Lib.hid hG4
          have HB4 := Lib.hid hB4
          have HL4 := Lib.hid hl4
          have HV4 := Lib.hid hv4
          clear hcon5 hG4 hB4 hl4 hv4 hsame hH4 hCH4 hQB4 z0
          go_wp2_with (refine wpList_lookB rfl (.tmp 47) (.tmp 48) false rfl HG4.out.map rfl ⟨k, hk6⟩ rfl HQ2.out ?_; rw [if_neg (by simp)]; simp only [Option.getD_some])
          refine HCON5.out.mono ?_
          rintro e w5 ⟨rfl, hG5, cs5, hB5, hl5, hv5⟩
          have HI5 : Hid (RedI w w5 g gc (k + 1) ws.length (d + 1) F G (bitL ws) ws4 cs5) := Lib.hid (by
            have h4 := HGR4.out
            have hs4 := h4.size
            have hs5 := hG5.size
            refine ⟨by omega, ⟨hG5.os.trans (h4.os.trans HI.out.grown.os), hG5.tape.trans (h4.tape.trans HI.out.grown.tape), hG5.output.trans (h4.output.trans HI.out.grown.output), by omega, fun c hc hne => ?_⟩, HB4.out.same (hG5.block g (lt_of_get' HB4.out.row) (fun e => by have := Option.some.inj e; omega)), hB5, HL4.out, hl5, fun j => ?_, fun j => ?_⟩
            · rw [hG5.block c (by omega) (fun e => by have := Option.some.inj e; omega), h4.block c (by omega) hne]
              exact HI.out.grown.block c hc hne
            · rw [HV.out, HV4.out j, HI.out.val j]
            · rw [HV.out, hv5 j, HI.out.valc j])
          clear hG5 hB5 hl5 hv5
          go_wp2_with fail
          go_roundw
          case rel => exact Lib.hid ⟨k + 1, ws4, cs5, by go_num, by omega, HI5.out⟩
          case measure => simp [intOf]; omega
    · have hend : Hid (N = k) := Lib.hid (by omega)
      go_wp2_with fail
      go_ret2
      have hI := HI.out
      refine ⟨gc, ws1, cs, by rw [hcl]; rfl, hI.grown, HGC.out.2, hI.bits, hwl, hI.ch, by rw [hcl, HDD.out], ?_, ?_⟩
      · rw [hend.out]; exact hI.val
      · rw [hend.out]; exact hI.valc

end Go.Proofs.Ytckgjebcehbkfaa

namespace Go.Proofs.Ytckgjebcehbkfaa
set_option linter.unusedVariables false
set_option linter.unusedSimpArgs false

abbrev Vec (κ : Type) := κ → Bool
section
variable {κ : Type}
def xr (a b : Vec κ) : Vec κ := fun j => a j != b j
def zv : Vec κ := fun _ => false
theorem xr_zero (a : Vec κ) : xr a zv = a := by funext j; simp [xr, zv]
theorem zero_xr (a : Vec κ) : xr zv a = a := by funext j; simp [xr, zv]
theorem xr_self (a : Vec κ) : xr a a = zv := by funext j; simp [xr, zv]
theorem xr_comm (a b : Vec κ) : xr a b = xr b a := by funext j; simp [xr]; cases a j <;> cases b j <;> rfl
theorem xr_assoc (a b c : Vec κ) : xr (xr a b) c = xr a (xr b c) := by funext j; simp only [xr]; cases a j <;> cases b j <;> cases c j <;> rfl
theorem xr_swap (a b c d : Vec κ) : xr (xr a b) (xr c d) = xr (xr a c) (xr b d) := by funext j; simp only [xr]; cases a j <;> cases b j <;> cases c j <;> cases d j <;> rfl

/-- one column's step, and all of the first k -/
def stp (R : Nat → Option (Vec κ)) (pv : Nat → κ) (b : Vec κ) (c : Nat) : Vec κ := match R c with
  | some r => if b (pv c) then xr b r else b
  | none => b
def red (R : Nat → Option (Vec κ)) (pv : Nat → κ) (b : Vec κ) : Nat → Vec κ
  | 0 => b
  | c + 1 => stp R pv (red R pv b c) c
theorem stp_lin (R : Nat → Option (Vec κ)) (pv : Nat → κ) (a b : Vec κ) (c : Nat) : stp R pv (xr a b) c = xr (stp R pv a c) (stp R pv b c) := by
  unfold stp
  cases R c with
  | none => rfl
  | some r =>
    have h : xr a b (pv c) = (a (pv c) != b (pv c)) := rfl
    simp only [h]
    cases ha : a (pv c) <;> cases hb : b (pv c)
    · simp
    · simp; exact xr_assoc _ _ _
    · simp; rw [xr_assoc, xr_comm b r, ← xr_assoc]
    · simp; rw [xr_swap, xr_self, xr_zero]
theorem red_lin (R : Nat → Option (Vec κ)) (pv : Nat → κ) (a b : Vec κ) : ∀ k, red R pv (xr a b) k = xr (red R pv a k) (red R pv b k)
  | 0 => rfl
  | k + 1 => by show stp R pv (red R pv (xr a b) k) k = _; rw [red_lin R pv a b k, stp_lin]; rfl
theorem red_zero (R : Nat → Option (Vec κ)) (pv : Nat → κ) : ∀ k, red R pv zv k = zv
  | 0 => rfl
  | k + 1 => by
    show stp R pv (red R pv zv k) k = _
    rw [red_zero R pv k]
    unfold stp
    cases R k <;> simp [zv]

/-- each row has its pivot, and nothing ahead of it -/
def Ech (R : Nat → Option (Vec κ)) (pv : Nat → κ) : Prop := ∀ c r, R c = some r → r (pv c) = true ∧ ∀ j, j < c → (R j).isSome = true → r (pv j) = false
theorem red_row {R : Nat → Option (Vec κ)} {pv : Nat → κ} (hR : Ech R pv) {c : Nat} {r : Vec κ} (hc : R c = some r) : ∀ k, red R pv r k = if k ≤ c then r else zv
  | 0 => by simp [red]
  | k + 1 => by
    show stp R pv (red R pv r k) k = _
    rw [red_row hR hc k]
    rcases Nat.lt_trichotomy k c with h | h | h
    · rw [if_pos (by omega), if_pos (by omega)]
      unfold stp
      cases hk : R k with
      | none => rfl
      | some q => simp [(hR c r hc).2 k h (by rw [hk]; rfl)]
    · subst h
      rw [if_pos (by omega), if_neg (by omega)]
      unfold stp
      rw [hc]
      simp only [(hR k r hc).1, if_true]
      exact xr_self r
    · rw [if_neg (by omega), if_neg (by omega)]
      unfold stp
      cases R k <;> simp [zv]
/-- what is reduced is zero at each pivot -/
theorem red_pivot {R : Nat → Option (Vec κ)} {pv : Nat → κ} (hR : Ech R pv) (b : Vec κ) : ∀ (k c : Nat), c < k → (R c).isSome = true → red R pv b k (pv c) = false
  | 0, c, h, _ => by omega
  | k + 1, c, h, hc => by
    show stp R pv (red R pv b k) k (pv c) = _
    unfold stp
    cases hk : R k with
    | none =>
      rcases Nat.lt_or_ge c k with h' | h'
      · exact red_pivot hR b k c h' hc
      · have : c = k := by omega
        subst this
        rw [hk] at hc
        cases hc
    | some r =>
      have hr := hR k r hk
      simp only
      rcases Nat.lt_or_ge c k with h' | h'
      · have hi := red_pivot hR b k c h' hc
        split
        · show (red R pv b k (pv c) != r (pv c)) = false
          rw [hi, hr.2 c h' hc]; rfl
        · exact hi
      · have : c = k := by omega
        subst this
        cases hb : red R pv b c (pv c) with
        | true => simp only [if_true]; show (red R pv b c (pv c) != r (pv c)) = false; rw [hb, hr.1]; rfl
        | false => simp [hb]
/-- what a smaller system has reduced is reduced alike -/
theorem red_red {R R' : Nat → Option (Vec κ)} {pv : Nat → κ} (hR : Ech R' pv) (hs : ∀ c r, R c = some r → R' c = some r) (b : Vec κ) {N : Nat} : ∀ k, k ≤ N → red R' pv (red R pv b k) N = red R' pv b N
  | 0, _ => rfl
  | k + 1, hk => by
    show red R' pv (stp R pv (red R pv b k) k) N = _
    rw [← red_red hR hs b k (by omega)]
    unfold stp
    cases hc : R k with
    | none => rfl
    | some r =>
      simp only
      split
      · rw [red_lin, red_row hR (hs k r hc), if_neg (by omega), xr_zero]
      · rfl

/-- the sum of those among the first m that c chooses -/
def comb (v : Nat → Vec κ) (c : Vec Nat) : Nat → Vec κ
  | 0 => zv
  | m + 1 => xr (comb v c m) (if c m then v m else zv)
theorem comb_xr (v : Nat → Vec κ) (c d : Vec Nat) : ∀ m, comb v (xr c d) m = xr (comb v c m) (comb v d m)
  | 0 => (xr_zero zv).symm
  | m + 1 => by
    show xr (comb v (xr c d) m) _ = xr (xr _ _) (xr _ _)
    rw [comb_xr v c d m, xr_swap]
    congr 1
    have h : xr c d m = (c m != d m) := rfl
    rw [h]
    cases c m <;> cases d m <;> simp [xr_zero, zero_xr, xr_self]
theorem comb_zero (v : Nat → Vec κ) : ∀ m, comb v zv m = zv
  | 0 => rfl
  | m + 1 => by
    show xr (comb v zv m) (if false = true then v m else zv) = _
    rw [comb_zero v m, if_neg (by simp)]; exact xr_zero zv
theorem comb_one (v : Nat → Vec κ) (i : Nat) : ∀ m, comb v (fun j => decide (j = i)) m = if i < m then v i else zv
  | 0 => by simp [comb]
  | m + 1 => by
    show xr (comb v _ m) _ = _
    rw [comb_one v i m]
    rcases Nat.lt_trichotomy i m with h | h | h
    · rw [if_pos h, if_neg (by simp; omega), if_pos (by omega), xr_zero]
    · subst h; rw [if_neg (by omega), if_pos (by simp), if_pos (by omega), zero_xr]
    · rw [if_neg (by omega), if_neg (by simp; omega), if_neg (by omega), xr_zero]
theorem red_comb {R : Nat → Option (Vec κ)} {pv : Nat → κ} {v : Nat → Vec κ} {N : Nat} (c : Vec Nat) : ∀ m, (∀ i, i < m → red R pv (v i) N = zv) → red R pv (comb v c m) N = zv
  | 0, _ => red_zero R pv N
  | m + 1, h => by
    show red R pv (xr (comb v c m) _) N = _
    rw [red_lin, red_comb c m (fun i hi => h i (by omega))]
    split
    · rw [h m (by omega), xr_zero]
    · rw [red_zero, xr_zero]
/-- in the span of the first m -/
def Spn (v : Nat → Vec κ) (m : Nat) (x : Vec κ) : Prop := ∃ c, x = comb v c m
theorem not_spn {R : Nat → Option (Vec κ)} {pv : Nat → κ} {v : Nat → Vec κ} {N m : Nat} {x : Vec κ} (h : ∀ i, i < m → red R pv (v i) N = zv) (hx : red R pv x N ≠ zv) : ¬ Spn v m x := by
  rintro ⟨c, rfl⟩
  exact hx (red_comb c m h)

end
end Go.Proofs.Ytckgjebcehbkfaa

namespace Go.Proofs.Ytckgjebcehbkfaa
set_option linter.unusedVariables false
set_option linter.unusedSimpArgs false
section
variable {κ : Type}

/-- the choice that goes with a reduction -/
def chs (R : Nat → Option (Vec κ)) (C : Nat → Option (Vec Nat)) (pv : Nat → κ) (b : Vec κ) : Nat → Vec Nat
  | 0 => zv
  | c + 1 => match R c, C c with
    | some r, some q => if red R pv b c (pv c) then xr (chs R C pv b c) q else chs R C pv b c
    | _, _ => chs R C pv b c
theorem chs_none {R : Nat → Option (Vec κ)} {C : Nat → Option (Vec Nat)} {pv : Nat → κ} {b : Vec κ} {k : Nat} (hR : R k = none) : chs R C pv b (k + 1) = chs R C pv b k := by
  simp only [chs, hR]
theorem chs_some {R : Nat → Option (Vec κ)} {C : Nat → Option (Vec Nat)} {pv : Nat → κ} {b r : Vec κ} {q : Vec Nat} {k : Nat} (hR : R k = some r) (hC : C k = some q) : chs R C pv b (k + 1) = if red R pv b k (pv k) then xr (chs R C pv b k) q else chs R C pv b k := by
  simp only [chs, hR, hC]
theorem chs_comb {R : Nat → Option (Vec κ)} {C : Nat → Option (Vec Nat)} {pv : Nat → κ} {v : Nat → Vec κ} {m : Nat} (hd : ∀ c, (R c).isSome = (C c).isSome) (hr : ∀ c r q, R c = some r → C c = some q → r = comb v q m) (b : Vec κ) : ∀ k, b = xr (red R pv b k) (comb v (chs R C pv b k) m)
  | 0 => by show b = xr b (comb v zv m); rw [comb_zero, xr_zero]
  | k + 1 => by
    have ih := chs_comb (pv := pv) hd hr b k
    show b = xr (stp R pv (red R pv b k) k) (comb v (match R k, C k with | some r, some q => if red R pv b k (pv k) then xr (chs R C pv b k) q else chs R C pv b k | _, _ => chs R C pv b k) m)
    unfold stp
    cases hR : R k with
    | none => simpa using ih
    | some r =>
      obtain ⟨q, hC⟩ : ∃ q, C k = some q := Option.isSome_iff_exists.1 (by rw [← hd k, hR]; rfl)
      rw [hC]
      cases hb : red R pv b k (pv k) with
      | false => simpa using ih
      | true =>
        simp only [if_true]
        rw [comb_xr, ← hr k r q hR hC, xr_swap, xr_self, xr_zero]
        rw [← ih]
theorem chs_bits {R : Nat → Option (Vec κ)} {C : Nat → Option (Vec Nat)} {pv : Nat → κ} {B : List Nat} (hc : ∀ c q, C c = some q → ∀ i, q i = true → i ∈ B) (b : Vec κ) : ∀ k i, chs R C pv b k i = true → i ∈ B
  | 0, i, h => by cases h
  | k + 1, i, h => by
    have ih := chs_bits (R := R) (pv := pv) hc b k i
    have e : chs R C pv b (k + 1) = (match R k, C k with | some r, some q => if red R pv b k (pv k) then xr (chs R C pv b k) q else chs R C pv b k | _, _ => chs R C pv b k) := rfl
    rw [e] at h
    cases hR : R k with
    | none => rw [hR] at h; exact ih h
    | some r =>
      cases hC : C k with
      | none => rw [hR, hC] at h; exact ih h
      | some q =>
        rw [hR, hC] at h
        cases hb : red R pv b k (pv k) with
        | false => simp only [hb, Bool.false_eq_true, if_false] at h; exact ih h
        | true =>
          simp only [hb, if_true] at h
          have h2 : (chs R C pv b k i != q i) = true := h
          cases h3 : chs R C pv b k i with
          | true => exact ih h3
          | false =>
            rw [h3] at h2
            exact hc k q hC i (by simpa using h2)

/-- the system after m rows of v -/
structure Sys (v : Nat → Vec κ) (pv : Nat → κ) (N m : Nat) (R : Nat → Option (Vec κ)) (C : Nat → Option (Vec Nat)) (B : List Nat) : Prop where
  ech : Ech R pv
  dom : ∀ c, (R c).isSome = (C c).isSome
  top : ∀ c r, R c = some r → c < N
  row : ∀ c r q, R c = some r → C c = some q → r = comb v q m
  bits : ∀ c q, C c = some q → ∀ i, q i = true → i ∈ B
  ker : ∀ i, i < m → red R pv (v i) N = zv
  asc : B.Pairwise (· < ·)
  mem : ∀ i, i ∈ B ↔ i < m ∧ ¬ Spn v i (v i)
theorem Sys.zero (v : Nat → Vec κ) (pv : Nat → κ) (N : Nat) : Sys v pv N 0 (fun _ => none) (fun _ => none) [] :=
  ⟨fun c r h => (by cases h), fun c => rfl, fun c r h => (by cases h), fun c r q h => (by cases h), fun c q h => (by cases h), fun i h => absurd h (by omega), List.Pairwise.nil, fun i => (by simp)⟩
theorem comb_more {v : Nat → Vec κ} {c : Vec Nat} {m : Nat} (h : c m = false) : comb v c (m + 1) = comb v c m := by
  show xr (comb v c m) (if c m then v m else zv) = _
  rw [h, if_neg (by simp), xr_zero]
theorem Sys.lt {v : Nat → Vec κ} {N m : Nat} {R : Nat → Option (Vec κ)} {C : Nat → Option (Vec Nat)} {pv : Nat → κ} {B : List Nat} (h : Sys v pv N m R C B) {i : Nat} (hi : i ∈ B) : i < m := ((h.mem i).1 hi).1
theorem Sys.chm {v : Nat → Vec κ} {N m : Nat} {R : Nat → Option (Vec κ)} {C : Nat → Option (Vec Nat)} {pv : Nat → κ} {B : List Nat} (h : Sys v pv N m R C B) (b : Vec κ) {k i : Nat} (hi : m ≤ i) : chs R C pv b k i = false := by
  cases hc : chs R C pv b k i with
  | false => rfl
  | true => have := h.lt (chs_bits h.bits b k i hc); omega
/-- the m-th row is in the span of those ahead of it -/
theorem Sys.skip {v : Nat → Vec κ} {N m : Nat} {R : Nat → Option (Vec κ)} {C : Nat → Option (Vec Nat)} {pv : Nat → κ} {B : List Nat} (h : Sys v pv N m R C B) (hv : red R pv (v m) N = zv) : Sys v pv N (m + 1) R C B := by
  have hs : Spn v m (v m) := ⟨chs R C pv (v m) N, by
    have := chs_comb (pv := pv) h.dom h.row (v m) N
    rwa [hv, zero_xr] at this⟩
  refine ⟨h.ech, h.dom, h.top, fun c r q hR hC => ?_, h.bits, fun i hi => ?_, h.asc, fun i => ?_⟩
  · rw [comb_more]
    · exact h.row c r q hR hC
    · cases hq : q m with
      | false => rfl
      | true => have := h.lt (h.bits c q hC m hq); omega
  · rcases Nat.lt_or_ge i m with h' | h'
    · exact h.ker i h'
    · have : i = m := by omega
      subst this
      exact hv
  · rw [h.mem i]
    constructor
    · rintro ⟨h1, h2⟩; exact ⟨by omega, h2⟩
    · rintro ⟨h1, h2⟩
      refine ⟨?_, h2⟩
      rcases Nat.lt_or_ge i m with h' | h'
      · exact h'
      · have : i = m := by omega
        subst this
        exact absurd hs h2
/-- it is not: it gives a new row -/
theorem Sys.add {v : Nat → Vec κ} {N m c : Nat} {R R' : Nat → Option (Vec κ)} {C C' : Nat → Option (Vec Nat)} {pv : Nat → κ} {B : List Nat} {q : Vec Nat} (h : Sys v pv N m R C B) (hc : c < N) (h1 : red R pv (v m) N (pv c) = true) (hlate : ∀ d r, c < d → R d = some r → r (pv c) = false)
    (hq : ∀ j, q j = (chs R C pv (v m) N j != decide (j = m))) (hR : R' c = some (red R pv (v m) N)) (hR2 : ∀ d, d ≠ c → R' d = R d) (hC : C' c = some q) (hC2 : ∀ d, d ≠ c → C' d = C d) : Sys v pv N (m + 1) R' C' (B ++ [m]) := by
  have hnone : R c = none := by
    cases hk : R c with
    | none => rfl
    | some r => have := red_pivot h.ech (v m) N c hc (by rw [hk]; rfl); rw [h1] at this; cases this
  have hech : Ech R' pv := fun d r hd => by
    by_cases e : d = c
    · subst e
      rw [hR] at hd
      cases hd
      exact ⟨h1, fun j hj hs => red_pivot h.ech (v m) N j (by omega) (by rwa [hR2 j (by omega)] at hs)⟩
    · rw [hR2 d e] at hd
      refine ⟨(h.ech d r hd).1, fun j hj hs => ?_⟩
      by_cases e2 : j = c
      · rw [e2]; exact hlate d r (by omega) hd
      · exact (h.ech d r hd).2 j hj (by rwa [hR2 j e2] at hs)
  have hsub : ∀ d r, R d = some r → R' d = some r := fun d r hd => by
    rw [hR2 d (fun e => by subst e; rw [hnone] at hd; cases hd)]; exact hd
  have hnz : red R pv (v m) N ≠ zv := fun e => by rw [e] at h1; cases h1
  refine ⟨hech, fun d => ?_, fun d r hd => ?_, fun d r p hd hp => ?_, fun d p hp i hi => ?_, fun i hi => ?_, ?_, fun i => ?_⟩
  · by_cases e : d = c
    · subst e; rw [hR, hC]; rfl
    · rw [hR2 d e, hC2 d e]; exact h.dom d
  · by_cases e : d = c
    · subst e; rw [hR] at hd; exact hc
    · rw [hR2 d e] at hd; exact h.top d r hd
  · by_cases e : d = c
    · subst e
      rw [hR] at hd; rw [hC] at hp; cases hd; cases hp
      have hqe : q = xr (chs R C pv (v m) N) (fun j => decide (j = m)) := funext hq
      rw [hqe, comb_xr, comb_one, if_pos (by omega), comb_more (h.chm _ (Nat.le_refl _))]
      have := chs_comb (pv := pv) h.dom h.row (v m) N
      conv => rhs; rhs; rw [this]
      rw [xr_comm (red R pv (v m) N), ← xr_assoc, xr_self, zero_xr]
    · rw [hR2 d e] at hd; rw [hC2 d e] at hp
      rw [comb_more]
      · exact h.row d r p hd hp
      · cases hq' : p m with
        | false => rfl
        | true => have := h.lt (h.bits d p hp m hq'); omega
  · by_cases e : d = c
    · subst e
      rw [hC] at hp; cases hp
      rw [hq i] at hi
      by_cases e2 : i = m
      · subst e2; simp
      · simp [e2] at hi
        exact List.mem_append_left _ (chs_bits h.bits _ _ i hi)
    · rw [hC2 d e] at hp
      exact List.mem_append_left _ (h.bits d p hp i hi)
  · rcases Nat.lt_or_ge i m with h' | h'
    · rw [← red_red hech hsub (v i) N (Nat.le_refl _), h.ker i h', red_zero]
    · have : i = m := by omega
      subst this
      rw [← red_red hech hsub (v i) N (Nat.le_refl _), red_row hech hR, if_neg (by omega)]
  · refine List.pairwise_append.2 ⟨h.asc, by simp, fun a ha b hb => ?_⟩
    simp at hb
    subst hb
    exact h.lt ha
  · rw [List.mem_append, h.mem i, List.mem_singleton]
    constructor
    · rintro (⟨a, b⟩ | rfl)
      · exact ⟨by omega, b⟩
      · exact ⟨by omega, not_spn h.ker hnz⟩
    · rintro ⟨a, b⟩
      by_cases e : i = m
      · exact .inr e
      · exact .inl ⟨by omega, b⟩
/-- the answer for one more -/
theorem Sys.span {v : Nat → Vec κ} {N m : Nat} {R : Nat → Option (Vec κ)} {C : Nat → Option (Vec Nat)} {pv : Nat → κ} {B : List Nat} (h : Sys v pv N m R C B) (x : Vec κ) : Spn v m x ↔ red R pv x N = zv := by
  constructor
  · rintro ⟨c, rfl⟩; exact red_comb c m h.ker
  · intro hx
    refine ⟨chs R C pv x N, ?_⟩
    have := chs_comb (pv := pv) h.dom h.row x N
    rwa [hx, zero_xr] at this

end
end Go.Proofs.Ytckgjebcehbkfaa

namespace Go.Proofs.Ytckgjebcehbkfaa
open Go Go.RowKit
set_option linter.unusedVariables false
set_option linter.unusedSimpArgs false

def vecs (F : Col → Option Wds) (c : Nat) : Option (Vec Nat) := if h : c < 1000000 then (F ⟨c, h⟩).map (fun p => bitL p.2) else none
theorem vecs_dom {F G : Col → Option Wds} (hd : ∀ c, (F c).isSome = (G c).isSome) (c : Nat) : (vecs F c).isSome = (vecs G c).isSome := by
  unfold vecs
  split
  · simpa using hd _
  · rfl
theorem redS_eq (F G : Col → Option Wds) (hd : ∀ c, (F c).isSome = (G c).isSome) (b : Nat → Bool) : ∀ k, redS F G b k = (red (vecs F) id b k, chs (vecs F) (vecs G) id b k)
  | 0 => rfl
  | k + 1 => by
    have ih := redS_eq F G hd b k
    have e1 : red (vecs F) id b (k + 1) = stp (vecs F) id (red (vecs F) id b k) k := rfl
    rw [e1]
    by_cases h : k < 1000000
    · cases hF : F ⟨k, h⟩ with
      | none =>
        have hv : vecs F k = none := by unfold vecs; rw [dif_pos h, hF]; rfl
        rw [redS_none hF, ih, chs_none hv]
        unfold stp
        simp only [hv]
      | some r =>
        obtain ⟨q, hG⟩ : ∃ q, G ⟨k, h⟩ = some q := Option.isSome_iff_exists.1 (by rw [← hd, hF]; rfl)
        have hv : vecs F k = some (bitL r.2) := by unfold vecs; rw [dif_pos h, hF]; rfl
        have hw : vecs G k = some (bitL q.2) := by unfold vecs; rw [dif_pos h, hG]; rfl
        rw [chs_some hv hw]
        unfold stp
        simp only [hv, id_eq]
        have hk : redS F G b k = (red (vecs F) id b k, chs (vecs F) (vecs G) id b k) := ih
        by_cases hb : red (vecs F) id b k k = true
        · rw [redS_add hF hG (by rw [ih]; exact hb), ih, if_pos hb, if_pos hb]
          rfl
        · rw [redS_skip (by rw [ih]; simpa using hb), ih, if_neg hb, if_neg hb]
    · have hv : vecs F k = none := by unfold vecs; rw [dif_neg h]
      have hs : redS F G b (k + 1) = redS F G b k := by simp only [redS, dif_neg h]
      rw [hs, ih, chs_none hv]
      unfold stp
      simp only [hv]

end Go.Proofs.Ytckgjebcehbkfaa

namespace Go.Proofs.Ytckgjebcehbkfaa
set_option linter.unusedVariables false
set_option linter.unusedSimpArgs false

/-- a vector over terms, read at the columns L -/
def atL (L : List Tm) (a : Vec Tm) : Vec Nat := fun j => match L[j]? with
  | some x => a x
  | none => false
def chi (Q : List Tm) : Vec Tm := fun x => decide (x ∈ Q)
theorem rowB_atL (L Q : List Tm) : rowB L Q = atL L (chi Q) := by
  funext j; unfold rowB atL; cases L[j]? <;> rfl
theorem atL_zero (L : List Tm) : atL L zv = zv := by
  funext j; unfold atL; cases L[j]? <;> rfl
theorem atL_xr (L : List Tm) (a b : Vec Tm) : atL L (xr a b) = xr (atL L a) (atL L b) := by
  funext j; simp only [atL, xr]; cases L[j]? <;> rfl
theorem atL_comb (L : List Tm) (v : Nat → Vec Tm) (c : Vec Nat) : ∀ m, comb (fun i => atL L (v i)) c m = atL L (comb v c m)
  | 0 => (atL_zero L).symm
  | m + 1 => by
    show xr (comb _ c m) (if c m then atL L (v m) else zv) = atL L (xr (comb v c m) (if c m then v m else zv))
    rw [atL_xr, atL_comb L v c m]
    congr 1
    split
    · rfl
    · exact (atL_zero L).symm
/-- nothing outside of L -/
def Sup (L : List Tm) (a : Vec Tm) : Prop := ∀ x, a x = true → x ∈ L
theorem sup_zero (L : List Tm) : Sup L zv := fun x h => by cases h
theorem sup_xr {L : List Tm} {a b : Vec Tm} (ha : Sup L a) (hb : Sup L b) : Sup L (xr a b) := fun x h => by
  have h' : (a x != b x) = true := h
  cases hx : a x with
  | true => exact ha x hx
  | false => rw [hx] at h'; exact hb x (by simpa using h')
theorem sup_comb {L : List Tm} {v : Nat → Vec Tm} (c : Vec Nat) : ∀ m, (∀ i, i < m → Sup L (v i)) → Sup L (comb v c m)
  | 0, _ => sup_zero L
  | m + 1, h => by
    refine sup_xr (sup_comb c m (fun i hi => h i (by omega))) ?_
    split
    · exact h m (by omega)
    · exact sup_zero L
theorem atL_inj {L : List Tm} {a b : Vec Tm} (ha : Sup L a) (hb : Sup L b) (h : atL L a = atL L b) : a = b := by
  funext x
  by_cases hx : x ∈ L
  · obtain ⟨j, hj⟩ := List.mem_iff_getElem?.1 hx
    have := congrFun h j
    unfold atL at this
    rw [hj] at this
    exact this
  · have h1 : a x = false := by cases e : a x with | false => rfl | true => exact absurd (ha x e) hx
    have h2 : b x = false := by cases e : b x with | false => rfl | true => exact absurd (hb x e) hx
    rw [h1, h2]
theorem spn_atL {L : List Tm} {v : Nat → Vec Tm} {x : Vec Tm} {m : Nat} (hv : ∀ i, i < m → Sup L (v i)) (hx : Sup L x) : Spn (fun i => atL L (v i)) m (atL L x) ↔ Spn v m x := by
  constructor
  · rintro ⟨c, hc⟩
    rw [atL_comb] at hc
    exact ⟨c, atL_inj hx (sup_comb c m hv) hc⟩
  · rintro ⟨c, rfl⟩
    exact ⟨c, (atL_comb L v c m).symm⟩

end Go.Proofs.Ytckgjebcehbkfaa

namespace Go.Proofs.Ytckgjebcehbkfaa
set_option linter.unusedVariables false
set_option linter.unusedSimpArgs false

/-- whether the first k of two vectors meet oddly -/
def dot (a b : Vec Nat) : Nat → Bool
  | 0 => false
  | k + 1 => dot a b k != (a k && b k)
theorem dot_xr (a c b : Vec Nat) : ∀ k, dot (xr a c) b k = (dot a b k != dot c b k)
  | 0 => rfl
  | k + 1 => by
    show (dot (xr a c) b k != ((a k != c k) && b k)) = ((dot a b k != (a k && b k)) != (dot c b k != (c k && b k)))
    rw [dot_xr a c b k]
    cases dot a b k <;> cases dot c b k <;> cases a k <;> cases c k <;> cases b k <;> rfl
theorem dot_zero (b : Vec Nat) : ∀ k, dot zv b k = false
  | 0 => rfl
  | k + 1 => by show (dot zv b k != (false && b k)) = false; rw [dot_zero b k]; rfl
theorem dot_comb {v : Nat → Vec Nat} {b : Vec Nat} {N : Nat} (c : Vec Nat) : ∀ m, (∀ i, i < m → dot (v i) b N = false) → dot (comb v c m) b N = false
  | 0, _ => dot_zero b N
  | m + 1, h => by
    show dot (xr (comb v c m) _) b N = false
    rw [dot_xr, dot_comb c m (fun i hi => h i (by omega))]
    split
    · rw [h m (by omega)]; rfl
    · rw [dot_zero]; rfl
/-- vectors that are alike where a is not zero meet it alike -/
theorem dot_congr {a b b' : Vec Nat} : ∀ k, (∀ j, j < k → a j = true → b j = b' j) → dot a b k = dot a b' k
  | 0, _ => rfl
  | k + 1, h => by
    show (dot a b k != (a k && b k)) = (dot a b' k != (a k && b' k))
    rw [dot_congr k (fun j hj => h j (by omega))]
    cases ha : a k with
    | false => rfl
    | true => rw [h k (by omega) ha]
/-- a bit turned where a has one turns the meeting -/
theorem dot_flip {a b b' : Vec Nat} {c : Nat} (hb : ∀ j, b' j = (b j != decide (j = c))) : ∀ k, dot a b' k = (dot a b k != (decide (c < k) && a c))
  | 0 => by simp [dot]
  | k + 1 => by
    show (dot a b' k != (a k && b' k)) = ((dot a b k != (a k && b k)) != _)
    rw [dot_flip hb k, hb k]
    by_cases e : k = c
    · subst e
      have h1 : decide (k < k) = false := by simp
      have h2 : decide (k < k + 1) = true := by simp
      have h3 : decide (k = k) = true := by simp
      rw [h1, h2, h3]
      cases dot a b k <;> cases a k <;> cases b k <;> rfl
    · have h1 : decide (c < k + 1) = decide (c < k) := by simp; omega
      have h3 : decide (k = c) = false := by simp [e]
      rw [h1, h3]
      cases dot a b k <;> cases a k <;> cases b k <;> cases a c <;> cases decide (c < k) <;> rfl

end Go.Proofs.Ytckgjebcehbkfaa
