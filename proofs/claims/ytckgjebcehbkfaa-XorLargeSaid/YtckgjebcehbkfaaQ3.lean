/- Contracts: Go's Repeat of one term. -/
import Derived.Test.YtckgjebcehbkfaaG2
import Derived.Test.YtckgjebcehbkfaaYM
import Derived.Laws.CopyOwn
import Derived.Laws.MakeOwn
namespace Go.Proofs.Ytckgjebcehbkfaa
open Go Go.RowKit
set_option linter.unusedVariables false
set_option linter.unusedSimpArgs false

/-- copy between rows whose elements have m cells -/
theorem run_copy_row_n {P : Program} (w : World) (dT sT ty elem : TypeId) (m g o dLen dCap : Nat) (a : Addr) (sLen sCap : Nat) (cur : Array Value) (t : TypeId) (cs : List Value)
    (hu : P.underlying dT = some (.slice elem)) (hs : (P.info? elem).map (·.size) = some m)
    (hg : w.heap[g]? = some (.cells cur t (0, 0))) (hn : cs.length = Nat.min sLen dLen * m)
    (hsrc : ∀ j v, cs[j]? = some v → w.cell? (a.add j) = some v) (hfit : o + cs.length ≤ cur.size) (h1 : ∀ v ∈ cs, v.oneCell' = true) :
    (Builtin.copy_ #[dT, sT] ty #[.slice (some ⟨g, o, none⟩) dLen dCap, .slice (some a) sLen sCap]).run P w =
      .ok (goInt (Nat.min sLen dLen)) (w.setRow g (cur.toList.take o ++ cs ++ cur.toList.drop (o + cs.length)).toArray) := by
  have hl := run_loadCells_list (P := P) w a cs hsrc
  have hst := run_storeCells_at P g o t cs 0 cur w hg (by simpa using hfit) h1
  cases hq : P.info? elem with
  | none => simp [hq] at hs
  | some i =>
    have hi : i.size = m := by simpa [hq] using hs
    simp [Builtin.copy_, run_underlying hu, Builtin.lenOf, Builtin.firstCells, sizeOf, typeInfo, hq, hi, ← hn, hl, hst]
theorem wpList_copy_n {P : Program} {w : World} {ops : Array Oper} {rest : List Oper} {o : Oper} {a : Act} {Q : Exit → Act → World → Prop} (hgd : o.guard = none) (d s : Operand) (dT sT : TypeId)
    (ho : o.op = .call { callee := .builtin .copy, args := #[d, s], argTypes := #[dT, sT] }) (elem : TypeId) (m : Nat) (hu : P.underlying dT = some (.slice elem)) (hsz : (P.info? elem).map (·.size) = some m)
    (g off dLen dCap : Nat) (ad : Addr) (sLen sCap : Nat) (hd : a.eval d = .slice (some ⟨g, off, none⟩) dLen dCap) (hs : a.eval s = .slice (some ad) sLen sCap)
    (cur : Array Value) (t : TypeId) (hg : w.heap[g]? = some (.cells cur t (0, 0))) (cs : List Value) (hn : cs.length = Nat.min sLen dLen * m)
    (hsrc : ∀ j v, cs[j]? = some v → w.cell? (ad.add j) = some v) (hfit : off + cs.length ≤ cur.size) (h1 : ∀ v ∈ cs, v.oneCell' = true) (n : Nat) (hnn : Nat.min sLen dLen = n)
    (h : ∀ w', w' = w.setRow g (cur.toList.take off ++ (cs ++ cur.toList.drop (off + cs.length))).toArray → wpList P ops Q rest (a.put o.dst (goInt n)) w') : wpList P ops Q (o :: rest) a w := by
  refine wpList_plain hgd fun K hK => ?_
  have hrun := run_copy_row_n (P := P) w dT sT o.type elem m g off dLen dCap ad sLen sCap cur t cs hu hsz hg hn hsrc hfit h1
  unfold Oper.wp
  rw [hnn] at hrun
  simp [execOp, ho, resolve, invoke, builtin, hd, hs, hrun, Result.andThen]
  exact hK _ _ (h _ rfl)
theorem step_copy_n {P : Program} {ops : Array Oper} {o : Oper} {a : Act} {w : World} {K : Act → World → Prop} {Q : Exit → Act → World → Prop} {E : Prop} (hgd : o.guard = none) (d s : Operand) (dT sT : TypeId)
    (ho : o.op = .call { callee := .builtin .copy, args := #[d, s], argTypes := #[dT, sT] }) (elem : TypeId) (m : Nat) (hu : P.underlying dT = some (.slice elem)) (hsz : (P.info? elem).map (·.size) = some m)
    (g off dLen dCap : Nat) (ad : Addr) (sLen sCap : Nat) (hd : a.eval d = .slice (some ⟨g, off, none⟩) dLen dCap) (hs : a.eval s = .slice (some ad) sLen sCap)
    (cur : Array Value) (t : TypeId) (hg : w.heap[g]? = some (.cells cur t (0, 0))) (cs : List Value) (hn : cs.length = Nat.min sLen dLen * m)
    (hsrc : ∀ j v, cs[j]? = some v → w.cell? (ad.add j) = some v) (hfit : off + cs.length ≤ cur.size) (h1 : ∀ v ∈ cs, v.oneCell' = true) (n : Nat) (hnn : Nat.min sLen dLen = n)
    (h : ∀ w', w' = w.setRow g (cur.toList.take off ++ (cs ++ cur.toList.drop (off + cs.length))).toArray → K (a.put o.dst (goInt n)) w') :
    if Region.wanted o (yielded ops a.tmps) = true then Oper.wp P o a w K Q else E := by
  have hw : Region.wanted o (yielded ops a.tmps) = true := by simp [Region.wanted, hgd]
  rw [if_pos hw]
  have hrun := run_copy_row_n (P := P) w dT sT o.type elem m g off dLen dCap ad sLen sCap cur t cs hu hsz hg hn hsrc hfit h1
  unfold Oper.wp
  rw [hnn] at hrun
  simp [execOp, ho, resolve, invoke, builtin, hd, hs, hrun, Result.andThen]
  exact h _ rfl

theorem cells_ls2 {w : World} {S : Nat → Prop} {fb : Nat} {cs : Array Value} {E : List TE} (hb : w.heap[fb]? = some (.cells cs 24)) (he : cs = (E.flatMap encE).toArray) (hm : E.length ≤ 1000) (hT : ∀ e ∈ E, TmW w S e.a e.cap e.t) : LsT w S (.slice (some ⟨fb, 0, none⟩) E.length E.length) (E.map (·.t)) := by
  have hl := flatE_len encE_len E
  have h : OwnT w 0 S (.slice (some ⟨fb, 0, none⟩) E.length E.length) (E.map (·.t)) :=
    ⟨E, rfl, ⟨hl, .inr ⟨fb, E.length, cs, rfl, Nat.zero_le _, hb, Nat.le_refl _, by unfold maxLen; omega, by rw [he, List.size_toArray, hl], by rw [he, List.take_of_length_le (by simp only [hl]; omega)]⟩⟩, hT⟩
  exact h.ls
theorem cell_of {w : World} {b i : Nat} {cs : Array Value} {T : TypeId} (h : w.heap[b]? = some (.cells cs T)) : w.cell? ⟨b, i, none⟩ = cs[i]? := by simp [World.cell?, h]
/-- k copies of an element's cells -/
def copies (e : TE) (m : Nat) : List Value := (List.replicate m e).flatMap encE
theorem copies_len (e : TE) (m : Nat) : (copies e m).length = m * 4 := by
  unfold copies
  have := flatE_len encE_len (List.replicate m e)
  rw [this, List.length_replicate]
theorem copies_add (e : TE) (m n : Nat) : copies e m ++ copies e n = copies e (m + n) := by
  unfold copies
  rw [← List.flatMap_append, List.replicate_append_replicate]
theorem copies_one (e : TE) : copies e 1 = encE e := by simp [copies]
theorem copies_take (e : TE) {n m : Nat} (h : n ≤ m) : (copies e m).take (n * 4) = copies e n := by
  have : copies e m = copies e n ++ copies e (m - n) := by rw [copies_add]; congr 1; omega
  rw [this, List.take_append_of_le_length (by rw [copies_len]; exact Nat.le_refl _), List.take_of_length_le (by rw [copies_len]; exact Nat.le_refl _)]
theorem copies_oneCell (e : TE) (m : Nat) : ∀ v ∈ copies e m, v.oneCell' = true := encE_one _

/-- the copies so far -/
structure RepI (w wr : World) (g k m : Nat) (e : TE) : Prop where
  ext : Ext w wr
  row : ∃ rest : List Value, rest.length = (k - m) * 4 ∧ wr.heap[g]? = some (.cells (copies e m ++ rest).toArray 24)
  le : m ≤ k
theorem splice_copies {e : TE} {m n r : Nat} {rest : List Value} (hr : rest.length = r * 4) (hn : n ≤ r) :
    ((copies e m ++ rest).toArray.toList.take (m * 4) ++ (copies e n ++ (copies e m ++ rest).toArray.toList.drop (m * 4 + (copies e n).length))) = copies e (m + n) ++ rest.drop (n * 4) := by
  have e1 : (copies e m ++ rest).toArray.toList.take (m * 4) = copies e m := by
    rw [List.toList_toArray, List.take_append_of_le_length (by rw [copies_len]; exact Nat.le_refl _), List.take_of_length_le (by rw [copies_len]; exact Nat.le_refl _)]
  have e2 : (copies e m ++ rest).toArray.toList.drop (m * 4 + (copies e n).length) = rest.drop (n * 4) := by
    rw [List.toList_toArray, copies_len, List.drop_append, copies_len, List.drop_eq_nil_of_le (by rw [copies_len]; omega), List.nil_append]
    congr 1; omega
  rw [e1, e2, ← List.append_assoc, copies_add]
theorem RepI.next {w wr w1 w' : World} {g k m n off : Nat} {e : TE} {rest : List Value} (h : RepI w wr g k m e) (hg : w.heap.size ≤ g) (hn : n ≤ k - m) (hl : rest.length = (k - m) * 4) (hE : Ext wr w1) (hb : w1.heap[g]? = some (.cells (copies e m ++ rest).toArray 24)) (ho : off = m * 4)
    (hw : w' = w1.setRow g ((copies e m ++ rest).toArray.toList.take off ++ (copies e n ++ (copies e m ++ rest).toArray.toList.drop (off + (copies e n).length))).toArray) : RepI w w' g k (m + n) e := by
  subst ho
  rw [splice_copies hl hn] at hw
  subst hw
  exact ⟨(h.ext.trans hE).setRow hg _, ⟨_, by rw [List.length_drop, hl]; omega, setRow_heap w1 g _ _ _ _ hb⟩, by have := h.le; omega⟩

theorem rep_src {w : World} {g k m n : Nat} {e : TE} {rest : List Value} (hb : w.heap[g]? = some (.cells (copies e m ++ rest).toArray 24)) (hn : n ≤ m) : ∀ j v, (copies e n)[j]? = some v → w.cell? ((⟨g, 0, none⟩ : Addr).add j) = some v := by
  intro j v hv
  have hj := (List.getElem?_eq_some_iff.1 hv).1
  rw [copies_len] at hj
  rw [add_none, cell_of hb, Nat.zero_add, List.getElem?_toArray, List.getElem?_append_left (by rw [copies_len]; omega), ← hv, ← copies_take e hn, List.getElem?_take, if_pos hj]

set_option maxRecDepth 100000 in
set_option maxHeartbeats 2000000 in
theorem Repeat_any {w : World} {S : Nat → Prop} {g0 k : Nat} {cs : Array Value} {e : TE} (hk : k ≤ 1000) (hb : w.heap[g0]? = some (.cells cs 24)) (hcs : cs = (encE e).toArray) (hT : TmW w S e.a e.cap e.t) :
    Calls Try.prog 38 #[.slice (some ⟨g0, 0, none⟩) 1 1, .int .i64 k] w fun e' w' => ∃ u, e' = .returned u ∧ Ext w w' ∧ LsT w' S u (List.replicate k e.t) := by
  have hmul : ∀ w : World, Calls Try.prog 67 #[.int .u64 1, .int .u64 k] w fun e w' => e = .returned (.tuple #[.int .u64 0, .int .u64 k]) ∧ w' = w := fun w => by
    have h := Go.Proofs.Any.bits_Mul mulT 1 k (by omega) (by omega) w
    rw [show 1 * k / 18446744073709551616 = 0 by omega, show 1 * k % 18446744073709551616 = k by omega] at h
    exact h
  obtain ⟨i0, hi0, hi1, hi2, hi3⟩ := info_parts infT
  have hmk := run_makeSlice (P := Try.prog) w 22 24 i0 _ Try.underlying22 hi0 hi1 .i64 .i64 (k : Int) (k : Int) (by omega) (by omega) (by rw [hi2]; simp; omega) (by rw [hi3]; omega) (by omega)
  rw [hi2, Int.toNat_natCast] at hmk
  obtain ⟨zs, hzs⟩ : ∃ zs : List Value, madeCells (Value.agg #[.int .i64 0, .string ⟨#[]⟩, .int .i64 0, .slice none 0 0]).cells (k * 4) = zs.toArray := ⟨(madeCells (Value.agg #[.int .i64 0, .string ⟨#[]⟩, .int .i64 0, .slice none 0 0]).cells (k * 4)).toList, by simp⟩
  have hzl : zs.length = k * 4 := by
    have := congrArg Array.size hzs
    rw [size_madeCells] at this
    simpa using this.symm
  rw [hzs] at hmk
  obtain ⟨g, hg⟩ : ∃ g, g = w.heap.size := ⟨_, rfl⟩
  obtain ⟨w1, hw1⟩ : ∃ w1, w1 = w.alloc (.cells zs.toArray 24) := ⟨_, rfl⟩
  have hI0 : RepI w w1 g k 0 e := ⟨by rw [hw1]; exact Ext.alloc _ _, ⟨zs, by omega, by rw [hw1, hg]; simp only [copies, List.replicate_zero, List.flatMap_nil, List.nil_append]; exact hs_new⟩, Nat.zero_le _⟩
  rw [← hw1, ← hg] at hmk
  have HMUL := Lib.hid hmul
  have HI0 := Lib.hid hI0
  have HB := Lib.hid hb
  have HT := Lib.hid hT
  have HCS := Lib.hid hcs
  have HG := Lib.hid hg
  clear hmul hI0 hb hT hcs hg hw1 hzs hzl hi0 hi1 hi2 hi3
  go_enter Try.func38, Try.ntmps38
  go_wp2_with fail
  refine (HMUL.out _).mono ?_
  rintro e' w2 ⟨rfl, rfl⟩
  go_upto_region 7 with fail
  obtain ⟨n0, hn0⟩ : ∃ n0, n0 = Nat.min 1 k := ⟨_, rfl⟩
  have HN0 : Hid (n0 ≤ 1 ∧ n0 ≤ k ∧ (0 < k → 0 < n0)) := Lib.hid (by rw [hn0]; exact ⟨Nat.min_le_left _ _, Nat.min_le_right _ _, fun h => by have : Nat.min 1 k = 1 := Nat.min_eq_left h; omega⟩)
  obtain ⟨rest, hrl, hrow⟩ := HI0.out.row
  have hsrc : ∀ j v, (copies e n0)[j]? = some v → w1.cell? ((⟨g0, 0, none⟩ : Addr).add j) = some v := rep_src (k := k) (m := 1) (rest := []) (hs_ext HI0.out.ext (by have h := HB.out; rw [HCS.out] at h; rw [copies_one, List.append_nil]; exact h)) HN0.out.1
  have HRL := Lib.hid hrl
  have HROW := Lib.hid hrow
  have HSRC := Lib.hid hsrc
  have HNN := Lib.hid hn0
  clear hrl hrow hsrc hn0 hmk
  have hrun := run_copy_row_n (P := Try.prog) w1 22 22 3 24 4 g 0 k k ⟨g0, 0, none⟩ 1 1 _ _ (copies e n0) Try.underlying22 (by kernel_rfl) HROW.out (by rw [copies_len, ← HNN.out]) HSRC.out (by rw [copies_len, List.size_toArray, List.length_append, copies_len, HRL.out]; have := HN0.out; omega) (copies_oneCell e n0)
  obtain ⟨w3, hw3⟩ : ∃ w3, w3 = w1.setRow g ((copies e 0 ++ rest).toArray.toList.take 0 ++ (copies e n0 ++ (copies e 0 ++ rest).toArray.toList.drop (0 + (copies e n0).length))).toArray := ⟨_, rfl⟩
  rw [List.append_assoc, ← hw3, ← HNN.out, goInt] at hrun
  have HI3 : Hid (RepI w2 w3 g k (0 + n0) e) := Lib.hid (HI0.out.next (Nat.le_of_eq HG.out.symm) (by have := HN0.out; omega) HRL.out (Ext.refl _) HROW.out rfl hw3)
  clear hw3
  go_wp2_with fail
  clear hrun
  go_loopw [8] (fun kv wr => Hid (∃ m : Nat, kv = .int .i64 m ∧ RepI w2 wr g k m e ∧ (0 < k → 0 < m))) (fun kv _ => k - (intOf kv).toNat)
  case atStart => exact Lib.hid ⟨n0, rfl, by have h := HI3.out; rw [Nat.zero_add] at h; exact h, HN0.out.2.2⟩
  case round =>
    obtain ⟨m, rfl, hI, hm0⟩ := hrel.out
    have hmk : m ≤ k := hI.le
    have HI := Lib.hid hI
    have HM0 := Lib.hid hm0
    clear hI hrel hm0
    by_cases hlt : m < k
    · have hm1 : 0 < m := HM0.out (by omega)
      obtain ⟨n, hn⟩ : ∃ n, n = Nat.min m (k - m) := ⟨_, rfl⟩
      have HN : Hid (0 < n ∧ n ≤ m ∧ n ≤ k - m) := Lib.hid (by rw [hn]; refine ⟨?_, Nat.min_le_left _ _, Nat.min_le_right _ _⟩; exact Nat.lt_min.2 ⟨by omega, by omega⟩)
      obtain ⟨rest, hrl, hrow⟩ := HI.out.row
      have HRL := Lib.hid hrl
      have HROW := Lib.hid hrow
      have HNN := Lib.hid hn
      have hnk : ¬ k = m := by omega
      clear hrl hrow hn
      go_upto_region 9 with fail
      have hrun := run_copy_row_n (P := Try.prog) wr.drew 22 22 3 24 4 g (m * 4) (k - m) (k - m) ⟨g, 0, none⟩ m k _ _ (copies e n) Try.underlying22 (by kernel_rfl) (hs_ext (Ext.drew wr) HROW.out) (by rw [copies_len, HNN.out]) (rep_src (k := k) (hs_ext (Ext.drew wr) HROW.out) HN.out.2.1) (by rw [copies_len, List.size_toArray, List.length_append, copies_len, HRL.out]; have := HN.out; omega) (copies_oneCell e n)
      obtain ⟨w4, hw4⟩ : ∃ w4, w4 = wr.drew.setRow g ((copies e m ++ rest).toArray.toList.take (m * 4) ++ (copies e n ++ (copies e m ++ rest).toArray.toList.drop (m * 4 + (copies e n).length))).toArray := ⟨_, rfl⟩
      rw [List.append_assoc, ← hw4, ← HNN.out, goInt] at hrun
      have HI4 : Hid (RepI w2 w4 g k (m + n) e) := Lib.hid (HI.out.next (Nat.le_of_eq HG.out.symm) HN.out.2.2 HRL.out (Ext.drew wr) (hs_ext (Ext.drew wr) HROW.out) rfl hw4)
      clear hw4
      have hn9 : n ≤ 1000 := by have := HN.out; omega
      have HK2 := Lib.hid hk
      have HMK := Lib.hid hmk
      go_region
      go_wp2_with fail
      go_roundw
      case rel => exact Lib.hid ⟨m + n, rfl, HI4.out, fun _ => by omega⟩
      case measure =>
        have h1 := HN.out
        simp only [intOf]
        omega
    · have hm : m = k := by omega
      subst hm
      go_wp2_with fail
      go_ret
      obtain ⟨rest, hrl, hrow⟩ := HI.out.row
      have h0 : rest = [] := List.length_eq_zero_iff.1 (by rw [hrl]; omega)
      subst h0
      refine ⟨_, rfl, HI.out.ext, ?_⟩
      have h := cells_ls2 (S := S) (E := List.replicate m e) hrow (by unfold copies; rw [List.append_nil]) (by rw [List.length_replicate]; exact hk) (fun x hx => by rw [List.eq_of_mem_replicate hx]; exact HT.out.ext HI.out.ext)
      rw [List.length_replicate, List.map_replicate] at h
      exact h

end Go.Proofs.Ytckgjebcehbkfaa
