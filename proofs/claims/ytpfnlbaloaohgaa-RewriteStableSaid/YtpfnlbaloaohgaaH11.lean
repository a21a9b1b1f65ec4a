/- Contracts: the reference's At. Contracts: the reference's positions. Contracts: equal redexes, equal traces. Contracts: equal joins. -/
import Derived.Test.YtpfnlbaloaohgaaH4
import Derived.StillTailTactics
import Derived.Deep.QuietTactic
import Derived.BigQuiet
import Derived.Test.YtpfnlbaloaohgaaH7
import Derived.Test.YtpfnlbaloaohgaaH10
namespace Go.Proofs.Ytpfnlbaloaohgaa
open Go Go.RowKit
set_option linter.unusedVariables false
set_option linter.unusedSimpArgs false

theorem Ext.then_drN {w w' : World} {n : Nat} (h : Ext w w') : Ext w (w'.drewN n) := h.trans ⟨rfl, rfl, rfl, Nat.le_refl _, fun _ _ => rfl⟩

theorem take_succ_eq {α : Type} {p q : List α} {i : Nat} {x y : α} (h : p.take i = q.take i) (hx : p[i]? = some x) (hy : q[i]? = some y) (he : x = y) : p.take (i + 1) = q.take (i + 1) := by
 rw [List.take_add_one, List.take_add_one, h, hx, hy, he]

set_option maxRecDepth 100000 in
set_option maxHeartbeats 8000000 in
theorem RSameRedex_any {w : World} {S S' : Nat → Prop} {pa qa : Option Addr} {pc qc : Nat} {r s : Rdx} (hP : LsG elI w S (.slice pa r.2.length pc) r.2) (hQ : LsG elI w S' (.slice qa s.2.length qc) s.2) :
 Calls Try.prog 19 #[.agg #[.int .i64 r.1, .slice pa r.2.length pc], .agg #[.int .i64 s.1, .slice qa s.2.length qc]] w fun e w' => e = .returned (.bool (decide (r = s))) ∧ Ext w w' := by
 obtain ⟨k, p⟩ := r
 obtain ⟨m, q⟩ := s
 simp only at hP hQ ⊢
 obtain ⟨-, hpl, hpc⟩ := hP.len
 unfold maxLen at hpc
 obtain ⟨-, hql, hqc⟩ := hQ.len
 unfold maxLen at hqc
 obtain ⟨bx, hbx⟩ : ∃ zz9, zz9 = w.heap.size := ⟨_, rfl⟩
 obtain ⟨w1, hw1⟩ : ∃ zz9, zz9 = w.alloc (.cells #[.int .i64 k, .slice pa p.length pc] 45) := ⟨_, rfl⟩
 have hE1 : Ext w w1 := by rw [hw1]; exact Ext.alloc _ _
 have hs1 : w1.heap.size = bx + 1 := by rw [hw1, hbx, World.size_alloc]
 have hb1 : w1.heap[bx]? = some (.cells #[.int .i64 k, .slice pa p.length pc] 45) := by rw [hw1, hbx]; exact hs_new
 obtain ⟨cx, hcx⟩ : ∃ zz9, zz9 = bx + 1 := ⟨_, rfl⟩
 obtain ⟨w2, hw2⟩ : ∃ zz9, zz9 = w1.alloc (.cells #[.int .i64 m, .slice qa q.length qc] 45) := ⟨_, rfl⟩
 have hE2 : Ext w1 w2 := by rw [hw2]; exact Ext.alloc _ _
 have hc2 : w2.heap[cx]? = some (.cells #[.int .i64 m, .slice qa q.length qc] 45) := by rw [hw2, hcx, ← hs1]; exact hs_new
 have hb2 := hs_ext hE2 hb1
 have b0 : w2.cell? ⟨bx, 0, none⟩ = some (.int .i64 k) := by rw [cellc hb2]; rfl
 have b1 : w2.cell? ⟨bx, 1, none⟩ = some (.slice pa p.length pc) := by rw [cellc hb2]; rfl
 have c0 : w2.cell? ⟨cx, 0, none⟩ = some (.int .i64 m) := by rw [cellc hc2]; rfl
 have c1 : w2.cell? ⟨cx, 1, none⟩ = some (.slice qa q.length qc) := by rw [cellc hc2]; rfl
 have HE := Lib.hid (hE1.trans hE2)
 have HP := Lib.hid (hP.ext HE.out)
 have HQ := Lib.hid (hQ.ext HE.out)
 clear hP hQ hE1 hE2 hs1 hb1 hb2 hc2
 go_enter Try.func19, Try.ntmps19
 go_upto_region 1 with fail
 rw [← hw1, ← hbx, ← hw2]
 try rw [← hcx]
 clear hw1 hbx hw2 hcx
 by_cases h1 : k = m
 · subst h1
   have e1 : (k != k) = false := by simp
   by_cases h2 : p.length = q.length
   · have e2 : (((p.length : Nat) : Int) != (q.length : Int)) = false := by simp [h2]
     go_wp2_with fail
     go_loopw [5] (fun iv wr => Hid (∃ i : Nat, iv = .int .i64 i ∧ i ≤ p.length ∧ p.take i = q.take i ∧ Ext w2 wr)) (fun iv _ => p.length - (intOf iv).toNat)
     case atStart => exact Lib.hid ⟨0, rfl, by omega, rfl, Ext.refl _⟩
     case round =>
      obtain ⟨i, rfl, hi, hp, hE⟩ := hrel.out
      have HPQ := Lib.hid hp
      have HE5 := Lib.hid hE
      obtain ⟨b0, b1, c0, c1⟩ := cs_e4 HE5.out ⟨b0, b1, c0, c1⟩
      clear hrel hp hE
      by_cases hlt : i < p.length
      · obtain ⟨x, hx⟩ : ∃ x, p[i]? = some x := ⟨_, List.getElem?_eq_getElem hlt⟩
        obtain ⟨y, hy⟩ : ∃ y, q[i]? = some y := ⟨_, List.getElem?_eq_getElem (by omega)⟩
        obtain ⟨pb, po, rfl, x0, -⟩ := (HP.out.ext HE5.out).iAt hx
        obtain ⟨qb, qo, rfl, y0, -⟩ := (HQ.out.ext HE5.out).iAt hy
        have hlq : i < q.length := by omega
        have HXY := Lib.hid (And.intro hx hy)
        clear hx hy
        go_upto_region 6 with fail
        go_quiet (fail)
        generalize hwn : World.drewN wr _ = wn
        have hEn : Ext wr wn := by rw [← hwn]; exact Ext.then_drN (Ext.refl _)
        have HE5 := Lib.hid (HE5.out.trans hEn)
        clear hEn hwn
        by_cases hxy : x = y
        · have ex : (x != y) = false := by simp [hxy]
          have HPN := Lib.hid (take_succ_eq HPQ.out HXY.out.1 HXY.out.2 hxy)
          clear hxy
          go_wp2_with fail
          go_roundw
          case rel => exact Lib.hid ⟨i + 1, by go_num, by omega, HPN.out, HE5.out⟩
          case measure => simp [intOf]; omega
        · have ex : (x != y) = true := by simpa using hxy
          have HF : Hid (¬ p = q) := Lib.hid (fun e => by
           subst e
           have := HXY.out.1.symm.trans HXY.out.2
           exact hxy (Option.some.inj this))
          clear hxy
          go_wp2_with fail
          go_ret
          exact ⟨rb (by rw [Bool.eq_iff_iff]; simp [HF.out]), HE.out.trans HE5.out⟩
      · have HT : Hid (p = q) := Lib.hid (by
         have h := HPQ.out
         rw [List.take_of_length_le (by omega), List.take_of_length_le (by omega)] at h
         exact h)
        go_wp2_with fail
        go_ret
        exact ⟨rb (by rw [Bool.eq_iff_iff]; simp [HT.out]), HE.out.trans HE5.out⟩
   · have e2 : (((p.length : Nat) : Int) != (q.length : Int)) = true := by simp; omega
     have HF : Hid (¬ (k, p) = (k, q)) := Lib.hid (fun e => h2 (by injection e with _ e; rw [e]))
     go_wp2_with fail
     go_ret
     exact ⟨rb (by rw [Bool.eq_iff_iff]; simp [HF.out]), HE.out⟩
 · have e1 : (k != m) = true := by simpa using h1
   have HF : Hid (¬ (k, p) = (m, q)) := Lib.hid (fun e => h1 (by injection e))
   clear h1
   go_wp2_with fail
   go_ret
   exact ⟨rb (by rw [Bool.eq_iff_iff]; simp [HF.out]), HE.out⟩

end Go.Proofs.Ytpfnlbaloaohgaa
