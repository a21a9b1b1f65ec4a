/- Contracts: the order of positions. -/
import Derived.Test.YtpfnlbaloaohgaaGreatN37
namespace Go.Proofs.YtpfnlbaloaohgaaGreat
open Go Go.RowKit
set_option linter.unusedVariables false
set_option linter.unusedSimpArgs false

/-- whether a position comes ahead of another one -/
def befL : List Int → List Int → Bool
  | x :: p, y :: q => if x = y then befL p q else decide (x < y)
  | [], q => decide (q.length < 0)
  | p, [] => decide (0 < p.length)
theorem befL_nil {p q : List Int} (h : p = [] ∨ q = []) : befL p q = decide (q.length < p.length) := by
  rcases h with rfl | rfl
  · cases q <;> simp [befL]
  · cases p <;> simp [befL]
theorem befL_drop {p q : List Int} {i : Nat} {x y : Int} (hx : p[i]? = some x) (hy : q[i]? = some y) : befL (p.drop i) (q.drop i) = if x = y then befL (p.drop (i + 1)) (q.drop (i + 1)) else decide (x < y) := by
  obtain ⟨h1, rfl⟩ := List.getElem?_eq_some_iff.1 hx
  obtain ⟨h2, rfl⟩ := List.getElem?_eq_some_iff.1 hy
  rw [List.drop_eq_getElem_cons h1, List.drop_eq_getElem_cons h2, befL]

set_option maxRecDepth 100000 in
set_option maxHeartbeats 8000000 in
theorem RBefore_any {w : World} {S S' : Nat → Prop} {pa qa : Option Addr} {pc qc : Nat} {p q : List Int} (hP : LsG elI w S (.slice pa p.length pc) p) (hQ : LsG elI w S' (.slice qa q.length qc) q) :
    Calls Tryz.prog 75 #[.slice pa p.length pc, .slice qa q.length qc] w fun e w' => e = .returned (.bool (befL p q)) ∧ Ext w w' := by
  obtain ⟨-, hpl, hpc⟩ := hP.len
  unfold maxLen at hpc
  obtain ⟨-, hql, hqc⟩ := hQ.len
  unfold maxLen at hqc
  have HP := Lib.hid hP
  have HQ := Lib.hid hQ
  obtain ⟨Z, hZ⟩ : ∃ Z, Z = befL p q := ⟨_, rfl⟩
  rw [← hZ]
  have HZ := Lib.hid hZ
  clear hP hQ hZ
  go_enter Tryz.func75, Tryz.ntmps75
  go_wp2_with fail
  go_loopw [5] (fun iv wr => Hid (∃ i : Nat, iv = .int .i64 i ∧ i ≤ p.length ∧ i ≤ q.length ∧ befL (p.drop i) (q.drop i) = Z ∧ Ext w wr)) (fun iv _ => p.length - (intOf iv).toNat)
  case atStart => exact Lib.hid ⟨0, rfl, by omega, by omega, by rw [HZ.out]; rfl, Ext.refl _⟩
  case round =>
    obtain ⟨i, rfl, hi, hj, hb, hE⟩ := hrel.out
    have HB := Lib.hid hb
    have HE := Lib.hid hE
    clear hrel hb hE
    by_cases hlp : i < p.length
    · have ep : decide ((i : Int) < (p.length : Int)) = true := by simp; omega
      by_cases hlq : i < q.length
      · have eq : decide ((i : Int) < (q.length : Int)) = true := by simp; omega
        obtain ⟨x, hx⟩ : ∃ x, p[i]? = some x := ⟨_, List.getElem?_eq_getElem hlp⟩
        obtain ⟨y, hy⟩ : ∃ y, q[i]? = some y := ⟨_, List.getElem?_eq_getElem hlq⟩
        obtain ⟨pb, po, rfl, x0, -⟩ := (HP.out.ext HE.out).iAt hx
        obtain ⟨qb, qo, rfl, y0, -⟩ := (HQ.out.ext HE.out).iAt hy
        have HD := Lib.hid (befL_drop hx hy)
        clear hx hy
        go_upto_region 4 with fail
        go_quiet (fail)
        generalize hwn : World.drewN wr _ = wn
        have hEn : Ext wr wn := by rw [← hwn]; exact Ext.then_drN (Ext.refl _)
        have HE := Lib.hid (HE.out.trans hEn)
        have x0 := cs_ext hEn x0
        have y0 := cs_ext hEn y0
        clear hEn hwn
        by_cases hxy : x = y
        · have ex : (x != y) = false := by simp [hxy]
          have HN : Hid (befL (p.drop (i + 1)) (q.drop (i + 1)) = Z) := Lib.hid (by rw [← HB.out, HD.out, if_pos hxy])
          clear hxy
          go_wp2_with fail
          go_roundw
          case rel => exact Lib.hid ⟨i + 1, by go_num, by omega, by omega, HN.out, HE.out⟩
          case measure => simp [intOf]; omega
        · have ex : (x != y) = true := by simpa using hxy
          have HF : Hid (Z = decide (x < y)) := Lib.hid (by rw [← HB.out, HD.out, if_neg hxy])
          clear hxy
          go_upto_region 5 with fail
          go_quiet (fail)
          generalize hwm : World.drewN wn _ = wm
          have hEm : Ext wn wm := by rw [← hwm]; exact Ext.then_drN (Ext.refl _)
          have HE := Lib.hid (HE.out.trans hEm)
          clear hEm hwm
          go_wp2_with fail
          go_ret
          exact ⟨rb (by rw [HF.out]), HE.out⟩
      · have eq : decide ((i : Int) < (q.length : Int)) = false := by simp; omega
        have HF : Hid (Z = decide ((q.length : Int) < (p.length : Int))) := Lib.hid (by
          rw [HZ.out]
          have h := HB.out
          rw [befL_nil (.inr (List.drop_of_length_le (by omega)))] at h
          rw [← HZ.out, ← h, List.length_drop, List.length_drop, Bool.eq_iff_iff]; simp; omega)
        go_wp2_with fail
        go_ret
        exact ⟨rb (by rw [HF.out, Bool.eq_iff_iff]; simp), HE.out⟩
    · have ep : decide ((i : Int) < (p.length : Int)) = false := by simp; omega
      have HF : Hid (Z = decide ((q.length : Int) < (p.length : Int))) := Lib.hid (by
        have h := HB.out
        rw [befL_nil (.inl (List.drop_of_length_le (by omega)))] at h
        rw [← h, List.length_drop, List.length_drop, Bool.eq_iff_iff]; simp; omega)
      go_wp2_with fail
      go_ret
      exact ⟨rb (by rw [HF.out, Bool.eq_iff_iff]; simp), HE.out⟩

end Go.Proofs.YtpfnlbaloaohgaaGreat
