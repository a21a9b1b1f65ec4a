/- Contracts: the reference's first redex. -/
import Derived.Test.YtpfnlbaloaohgaaGreatN38
namespace Go.Proofs.YtpfnlbaloaohgaaGreat
open Go Go.RowKit
set_option linter.unusedVariables false
set_option linter.unusedSimpArgs false

/-- the best of redexes -/
def bestL : Rdx → List Rdx → Rdx
  | b, [] => b
  | b, r :: l => bestL (if befL r.2 b.2 then r else b) l
theorem bestL_drop {b r : Rdx} {l : List Rdx} {i : Nat} (h : l[i]? = some r) : bestL b (l.drop i) = bestL (if befL r.2 b.2 then r else b) (l.drop (i + 1)) := by
  obtain ⟨h1, rfl⟩ := List.getElem?_eq_some_iff.1 h
  rw [List.drop_eq_getElem_cons h1, bestL]
theorem ret_rdx {F : Func} {p g : Nat} {tmps : Array Value} {w : World} {cs : Array Value} {R : Ending → World → Prop} (hr : F.results = #[.cell p 35]) (hp : tmps.getD p undef = .pointer (some ⟨g, 0, none⟩)) (hg : w.heap[g]? = some (.cells cs 35)) (hs : cs.size = 2) (h : R (.returned (.agg cs)) w) :
    bodyPost Tryz.prog F R .ret ⟨tmps, []⟩ w :=
  bodyPost_ret (results_cell_row hr tmps w g _ cs _ _ hp hg Tryz.underlying35 rfl (by rw [hs]; exact sizRdx)) rfl h

set_option maxRecDepth 100000 in
set_option maxHeartbeats 8000000 in
theorem RFirst_any {w : World} {S : Nat → Prop} {la : Option Addr} {lc : Nat} {l : List Rdx} {r0 : Rdx} (h0 : l[0]? = some r0) (hL : LsG elX w S (.slice la l.length lc) l) :
    Calls Tryz.prog 55 #[.slice la l.length lc] w fun e w' => ∃ v, e = .returned v ∧ Ext w w' ∧ ∃ q a c, q = bestL r0 (l.drop 1) ∧ v = .agg #[.int .i64 q.1, .slice a q.2.length c] ∧ I64 q.1 ∧ LsG elI w' S (.slice a q.2.length c) q.2 := by
  obtain ⟨-, hll, hlc⟩ := hL.len
  unfold maxLen at hlc
  have hl0 := (List.getElem?_eq_some_iff.1 h0).1
  obtain ⟨lb, lo, ra, rc, rfl, r0c, r1c, hri, hrl, hrc, hR⟩ := hL.xAt h0
  rw [Nat.zero_mul, Nat.add_zero] at r0c r1c
  unfold maxLen at hrc
  obtain ⟨ox, hox⟩ : ∃ zz9, zz9 = w.heap.size := ⟨_, rfl⟩
  obtain ⟨w1, hw1⟩ : ∃ zz9, zz9 = w.alloc (.cells #[.int .i64 0, .slice none 0 0] 35) := ⟨_, rfl⟩
  have hE1 : Ext w w1 := by rw [hw1]; exact Ext.alloc _ _
  have hs1 : w1.heap.size = ox + 1 := by rw [hw1, hox, World.size_alloc]
  have hb1 : w1.heap[ox]? = some (.cells #[.int .i64 0, .slice none 0 0] 35) := by rw [hw1, hox]; exact hs_new
  obtain ⟨bx, hbx⟩ : ∃ zz9, zz9 = ox + 1 := ⟨_, rfl⟩
  obtain ⟨w2, hw2⟩ : ∃ zz9, zz9 = w1.alloc (.cells #[.int .i64 r0.1, .slice ra r0.2.length rc] 35) := ⟨_, rfl⟩
  have hE2 : Ext w1 w2 := by rw [hw2]; exact Ext.alloc _ _
  have HB2 : Hid (w2.heap[bx]? = some (.cells #[.int .i64 r0.1, .slice ra r0.2.length rc] 35)) := Lib.hid (by rw [hw2, hbx, ← hs1]; exact hs_new)
  have HO2 := Lib.hid (hs_ext hE2 hb1)
  have HE2 := Lib.hid (hE1.trans hE2)
  have HNB : Hid (w.heap.size = ox ∧ bx = ox + 1) := Lib.hid ⟨hox.symm, hbx⟩
  have HS1 := Lib.hid hs1
  have HL := Lib.hid hL
  have HR := Lib.hid (hR.wide (S' := fun c => S c) (fun _ h _ => h))
  have HRI := Lib.hid (And.intro hri hrl)
  obtain ⟨Z, hZ⟩ : ∃ Z, Z = bestL r0 (l.drop 1) := ⟨_, rfl⟩
  rw [← hZ]
  have HZ := Lib.hid hZ
  have r0z := cs_ext hE1 r0c
  have r1z := cs_ext hE1 r1c
  clear hL hE1 hE2 hs1 hb1 hR hri hZ h0
  go_enter Tryz.func55, Tryz.ntmps55
  go_upto_region 1 with fail
  rw [← hw1, ← hox]
  clear hw1 hox
  go_upto_region 2 with fail
  rw [← hw2]
  try rw [← hbx]
  clear hw2 hbx r0c r1c r0z r1z
  rw [HS1.out, show ox + 1 = bx from HNB.out.2.symm]
  go_wp2_with fail
  go_loopw [4] (fun iv wr => Hid (∃ (i : Nat) (b : Rdx) (a : Option Addr) (c : Nat), iv = .int .i64 i ∧ i ≤ l.length ∧ bestL b (l.drop i) = Z ∧ wr.heap[bx]? = some (.cells #[.int .i64 b.1, .slice a b.2.length c] 35) ∧ I64 b.1 ∧ LsG elI wr (fun c => S c ∧ c < w.heap.size) (.slice a b.2.length c) b.2 ∧ Ext w wr ∧ wr.heap[ox]? = some (.cells #[.int .i64 0, .slice none 0 0] 35))) (fun iv _ => l.length - (intOf iv).toNat)
  case atStart => exact Lib.hid ⟨1, r0, ra, rc, rfl, by omega, by rw [HZ.out], HB2.out, HRI.out.1, (HR.out.wide (S' := fun c => S c ∧ c < w.heap.size) (fun c h h2 => ⟨h, h2⟩)).ext HE2.out, HE2.out, HO2.out⟩
  case round =>
    obtain ⟨i, b, a, c, rfl, hi, hb, hbx, hbi, hbl, hE, hox⟩ := hrel.out
    have HB := Lib.hid hb
    have HBX := Lib.hid hbx
    have HBI := Lib.hid hbi
    have HKL := Lib.hid hbl
    have HE := Lib.hid hE
    have HOX := Lib.hid hox
    obtain ⟨-, hal, hac⟩ := hbl.len
    unfold maxLen at hac
    have y0 : wr.cell? ⟨bx, 0, none⟩ = some (.int .i64 b.1) := by rw [cellc hbx]; rfl
    have y1 : wr.cell? ⟨bx, 1, none⟩ = some (.slice a b.2.length c) := by rw [cellc hbx]; rfl
    clear hrel hb hbx hbi hbl hE hox
    by_cases hlt : i < l.length
    · obtain ⟨q, hq⟩ : ∃ q, l[i]? = some q := ⟨_, List.getElem?_eq_getElem hlt⟩
      obtain ⟨lb', lo', qa, qc, e', x0, x1, hqi, hql, hqc, hQ⟩ := HL.out.xAt hq
      cases e'
      unfold maxLen at hqc
      have x0 := cs_ext HE.out x0
      have x1 := cs_ext HE.out x1
      have HQL := Lib.hid ((hQ.wide (S' := fun c => S c ∧ c < w.heap.size) (fun c h h2 => ⟨h, h2⟩)).ext HE.out)
      have HQI := Lib.hid hqi
      have HD := Lib.hid (bestL_drop (b := b) hq)
      clear hq hQ hqi
      go_upto_region 5 with fail
      go_still_tail 7, (by kernel_rfl)
      change wpList _ _ _ _ _ wr.drew
      generalize hwm : World.drew wr = wm
      have hEm : Ext wr wm := by rw [← hwm]; exact Ext.drew wr
      have HE := Lib.hid (HE.out.trans hEm)
      have x0 := cs_ext hEm x0
      have x1 := cs_ext hEm x1
      have y0 := cs_ext hEm y0
      have y1 := cs_ext hEm y1
      have HQL := Lib.hid (HQL.out.ext hEm)
      have HKL := Lib.hid (HKL.out.ext hEm)
      have HBX := Lib.hid (hs_ext hEm HBX.out)
      have HOX := Lib.hid (hs_ext hEm HOX.out)
      clear hEm hwm
      have HC := Lib.hid (RBefore_any HQL.out HKL.out)
      go_wp2_with fail
      refine HC.out.mono ?_
      rintro e w7 ⟨rfl, hE7⟩
      have HE := Lib.hid (HE.out.trans hE7)
      have x0 := cs_ext hE7 x0
      have x1 := cs_ext hE7 x1
      have y0 := cs_ext hE7 y0
      have y1 := cs_ext hE7 y1
      have HQL := Lib.hid (HQL.out.ext hE7)
      have HKL := Lib.hid (HKL.out.ext hE7)
      have HBX := Lib.hid (hs_ext hE7 HBX.out)
      have HOX := Lib.hid (hs_ext hE7 HOX.out)
      clear hE7
      cases hbb : befL q.2 b.2 with
      | false =>
        have HN : Hid (bestL b (l.drop (i + 1)) = Z) := Lib.hid (by rw [← HB.out, HD.out, hbb]; rfl)
        clear hbb
        go_wp2_with fail
        go_roundw
        case rel => exact Lib.hid ⟨i + 1, b, a, c, by go_num, by omega, HN.out, HBX.out, HBI.out, HKL.out, HE.out, HOX.out⟩
        case measure => simp [intOf]; omega
      | true =>
        have HN : Hid (bestL q (l.drop (i + 1)) = Z) := Lib.hid (by rw [← HB.out, HD.out, hbb]; rfl)
        clear hbb
        go_wp2_with (
          refine wpList_storeX rfl (.tmp 3) (.tmp 25) rfl (g := bx) rfl (k := q.1) (ka := qa) (kl := q.2.length) (kc := qc) rfl HBX.out rfl ?_
          intro w8 c8 q8 e8 z8
          have HG8 := Lib.hid c8
          have HQ8 := Lib.hid q8
          have HZ8 := Lib.hid (Nat.le_of_eq z8.symm)
          have HE9 := Lib.hid (e8 w HE.out (by have := HNB.out; omega))
          clear c8 q8 e8 z8)
        go_roundw
        case rel => exact Lib.hid ⟨i + 1, q, qa, qc, by go_num, by omega, HN.out, HG8.out, HQI.out, HQL.out.keep (fun c h1 _ => HQ8.out c (by have := h1.2; have := HNB.out; omega)) (fun _ h _ => h) HZ8.out, HE9.out, by rw [HQ8.out ox (by have := HNB.out; omega)]; exact HOX.out⟩
        case measure => simp [intOf]; omega
    · have HF : Hid (Z = b) := Lib.hid (by rw [← HB.out, List.drop_of_length_le (by omega), bestL])
      have hiz : ¬ ((i : Int) < (l.length : Int)) := by omega
      go_wp2_with (
        refine wpList_storeX rfl (.tmp 2) (.tmp 26) rfl (g := ox) rfl (k := b.1) (ka := a) (kl := b.2.length) (kc := c) rfl HOX.out rfl ?_
        intro w8 c8 q8 e8 z8
        have HG8 := Lib.hid c8
        have HQ8 := Lib.hid q8
        have HZ8 := Lib.hid (Nat.le_of_eq z8.symm)
        have HE9 := Lib.hid (e8 w HE.out (by have := HNB.out; omega))
        clear c8 q8 e8 z8)
      have hkk := HKL.out.keep (w' := w8) (S' := S) (fun c h1 _ => HQ8.out c (by have := h1.2; have := HNB.out; omega)) (fun _ h _ => h.1) HZ8.out
      have hzb := HF.out
      subst hzb
      exact ret_rdx (g := ox) rfl rfl HG8.out rfl ⟨_, rfl, HE9.out, a, c, rfl, HBI.out, hkk⟩

end Go.Proofs.YtpfnlbaloaohgaaGreat
