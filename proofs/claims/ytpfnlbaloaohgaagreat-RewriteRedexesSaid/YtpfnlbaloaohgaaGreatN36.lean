/- Contracts: the reference's rules. -/
import Derived.Test.YtpfnlbaloaohgaaGreatN35
import Derived.Test.YtpfnlbaloaohgaaGreatH1
namespace Go.Proofs.YtpfnlbaloaohgaaGreat
open Go Go.RowKit
set_option linter.unusedVariables false
set_option linter.unusedSimpArgs false

set_option maxRecDepth 100000 in
set_option maxHeartbeats 8000000 in
theorem RRule_any {w : World} {S S' : Nat → Prop} {xa ya : Option Addr} {xc yc : Nat} {r : Rl} (h1 : sizeT r.1 ≤ 100000) (h2 : sizeT r.2 ≤ 100000) (hX : TmW w S xa xc r.1) (hY : TmW w S' ya yc r.2) :
    Calls Tryz.prog 85 #[.agg #[.int .i64 r.1.kind, .string r.1.name, .int .i64 r.1.sort, .slice xa r.1.kids.length xc, .int .i64 r.2.kind, .string r.2.name, .int .i64 r.2.sort, .slice ya r.2.kids.length yc]] w fun e w' => e = .returned (.int .i64 (ruleE r)) ∧ Ext w w' := by
  obtain ⟨s, u⟩ := r
  simp only at h1 h2 hX hY ⊢
  obtain ⟨rx, hbrx⟩ : ∃ zz9, zz9 = w.heap.size := ⟨_, rfl⟩
  obtain ⟨w1, hwrx⟩ : ∃ zz9, zz9 = w.alloc (.cells #[.int .i64 s.kind, .string s.name, .int .i64 s.sort, .slice xa s.kids.length xc, .int .i64 u.kind, .string u.name, .int .i64 u.sort, .slice ya u.kids.length yc] 61) := ⟨_, rfl⟩
  have HBrx : Hid (w1.heap[rx]? = some (.cells #[.int .i64 s.kind, .string s.name, .int .i64 s.sort, .slice xa s.kids.length xc, .int .i64 u.kind, .string u.name, .int .i64 u.sort, .slice ya u.kids.length yc] 61)) := Lib.hid (by rw [hwrx, hbrx]; exact hs_new)
  have hErx : Ext w w1 := by rw [hwrx]; exact Ext.alloc _ _
  have z0 : w1.cell? ⟨rx, 0, none⟩ = some (.int .i64 s.kind) := by rw [cellc (HBrx.out)]; rfl
  have z1 : w1.cell? ⟨rx, 1, none⟩ = some (.string s.name) := by rw [cellc (HBrx.out)]; rfl
  have z2 : w1.cell? ⟨rx, 2, none⟩ = some (.int .i64 s.sort) := by rw [cellc (HBrx.out)]; rfl
  have z3 : w1.cell? ⟨rx, 3, none⟩ = some (.slice xa s.kids.length xc) := by rw [cellc (HBrx.out)]; rfl
  have z4 : w1.cell? ⟨rx, 4, none⟩ = some (.int .i64 u.kind) := by rw [cellc (HBrx.out)]; rfl
  have z5 : w1.cell? ⟨rx, 5, none⟩ = some (.string u.name) := by rw [cellc (HBrx.out)]; rfl
  have z6 : w1.cell? ⟨rx, 6, none⟩ = some (.int .i64 u.sort) := by rw [cellc (HBrx.out)]; rfl
  have z7 : w1.cell? ⟨rx, 7, none⟩ = some (.slice ya u.kids.length yc) := by rw [cellc (HBrx.out)]; rfl
  have HE1 := Lib.hid hErx
  have HX := Lib.hid (hX.ext hErx).any
  have HY := Lib.hid (hY.ext hErx).any
  have HC1 := Lib.hid (RValid_any (w := w1) (t := s) (by omega) HX.out)
  have HZ := Lib.hid (And.intro h1 h2)
  obtain ⟨o1, ho1⟩ : ∃ o, o = validT s := ⟨_, rfl⟩
  obtain ⟨o2, ho2⟩ : ∃ o, o = validT u := ⟨_, rfl⟩
  rw [← ho1] at HC1
  have HR : Hid (ruleE (s, u) = orE o1 (orE o2 (if s.kind = 1 then 1 else if ∀ x ∈ varsT u, x ∈ varsT s then 0 else 13))) := Lib.hid (by rw [ho1, ho2]; rfl)
  obtain ⟨R, hR⟩ : ∃ R, R = ruleE (s, u) := ⟨_, rfl⟩
  rw [← hR] at HR ⊢
  have HO2 := Lib.hid ho2
  clear hX hY hErx h1 h2 ho1 ho2 hR
  go_enter Tryz.func85, Tryz.ntmps85
  go_upto_region 1 with fail
  rw [← hwrx, ← hbrx]
  clear hwrx hbrx
  go_wp2_with fail
  refine HC1.out.mono ?_
  rintro e w2 ⟨rfl, hE2⟩
  have z0 := cs_ext hE2 z0
  have z1 := cs_ext hE2 z1
  have z2 := cs_ext hE2 z2
  have z3 := cs_ext hE2 z3
  have z4 := cs_ext hE2 z4
  have z5 := cs_ext hE2 z5
  have z6 := cs_ext hE2 z6
  have z7 := cs_ext hE2 z7
  have HX := Lib.hid (HX.out.ext hE2)
  have HY := Lib.hid (HY.out.ext hE2)
  have HE1 := Lib.hid (HE1.out.trans hE2)
  have HC2 := Lib.hid (RValid_any (w := w2) (t := u) (by have := HZ.out; omega) HY.out)
  rw [← HO2.out] at HC2
  clear hE2
  by_cases h1 : o1 = 0
  · have e1 : (o1 != 0) = false := by simp [h1]
    have HR1 : Hid (R = orE o2 (if s.kind = 1 then 1 else if ∀ x ∈ varsT u, x ∈ varsT s then 0 else 13)) := Lib.hid (by rw [HR.out, h1]; simp [orE])
    clear h1
    go_wp2_with fail
    refine HC2.out.mono ?_
    rintro e w3 ⟨rfl, hE3⟩
    have z0 := cs_ext hE3 z0
    have z1 := cs_ext hE3 z1
    have z2 := cs_ext hE3 z2
    have z3 := cs_ext hE3 z3
    have z4 := cs_ext hE3 z4
    have z5 := cs_ext hE3 z5
    have z6 := cs_ext hE3 z6
    have z7 := cs_ext hE3 z7
    have HX := Lib.hid (HX.out.ext hE3)
    have HY := Lib.hid (HY.out.ext hE3)
    have HE1 := Lib.hid (HE1.out.trans hE3)
    clear hE3
    by_cases h2 : o2 = 0
    · have e2 : (o2 != 0) = false := by simp [h2]
      have HR2 : Hid (R = if s.kind = 1 then 1 else if ∀ x ∈ varsT u, x ∈ varsT s then 0 else 13) := Lib.hid (by rw [HR1.out, h2]; simp [orE])
      clear h2
      by_cases hk : s.kind = 1
      · have ek : (s.kind == 1) = true := by simp [hk]
        have HF : Hid (R = 1) := Lib.hid (by rw [HR2.out, if_pos hk])
        clear hk
        go_wp2_with fail
        go_ret
        exact ⟨by rw [HF.out]; rfl, HE1.out⟩
      · have ek : (s.kind == 1) = false := by simpa using hk
        have HR3 : Hid (R = if ∀ x ∈ varsT u, x ∈ varsT s then 0 else 13) := Lib.hid (by rw [HR2.out, if_neg hk])
        have HCS := Lib.hid (fun (w' : World) (h : Ext w3 w') => RVars_any (w := w') (t := s) HZ.out.1 (fun _ h => h) (HX.out.ext h).below)
        have HCU := Lib.hid (fun (w' : World) (h : Ext w3 w') => RVars_any (w := w') (t := u) HZ.out.2 (fun _ h => h) (HY.out.ext h).below)
        obtain ⟨A, hA⟩ : ∃ A, A = varsT s := ⟨_, rfl⟩
        obtain ⟨B, hB⟩ : ∃ B, B = varsT u := ⟨_, rfl⟩
        have HA6 : Hid (∀ x ∈ A, sizeT x ≤ 1000000) := Lib.hid (fun x hx => by rw [hA] at hx; have := varsT_size hx; have := HZ.out; omega)
        have HB6 : Hid (∀ x ∈ B, sizeT x ≤ 1000000) := Lib.hid (fun x hx => by rw [hB] at hx; have := varsT_size hx; have := HZ.out; omega)
        rw [← hA] at HR3 HCS
        rw [← hB] at HR3 HCU
        clear hk hA hB
        go_upto_region 9 with fail
        refine wp_region_reg 8 false (by kernel_rfl) (by kernel_rfl) ?_
        refine reg_value (fun _ => rfl) ?_ (fun g w' vs hM hE hP => ?_) ?_
        rotate_left
        · (clear hP hM; have zz0 := cs_ext hE z0; have zz1 := cs_ext hE z1; have zz2 := cs_ext hE z2; have zz3 := cs_ext hE z3; have zz4 := cs_ext hE z4; have zz5 := cs_ext hE z5; have zz6 := cs_ext hE z6; have zz7 := cs_ext hE z7; go_simp; first | done | rfl)
        refine reg_value (fun _ => rfl) ?_ (fun g w' vs hM hE hP => ?_) ?_
        rotate_left
        · (clear hP hM; have zz0 := cs_ext hE z0; have zz1 := cs_ext hE z1; have zz2 := cs_ext hE z2; have zz3 := cs_ext hE z3; have zz4 := cs_ext hE z4; have zz5 := cs_ext hE z5; have zz6 := cs_ext hE z6; have zz7 := cs_ext hE z7; go_simp; first | done | rfl)
        refine reg_call (fun _ => rfl) 66 ?_ (fun g w' m' hM hE hP => ?_) (fun v w'' => LsT w'' Any v A) ⟨fun u a b h hE => h.ext hE, (fun h => nomatch h), (fun h => absurd rfl h)⟩ (fun g w' m' hM hE hP => ?_) ?_
        rotate_left
        · (clear hP hM; have zz0 := cs_ext hE z0; have zz1 := cs_ext hE z1; have zz2 := cs_ext hE z2; have zz3 := cs_ext hE z3; go_simp; first | done | exact ⟨rfl, rfl⟩ | rfl)
        · exact (HCS.out w' hE).mono (fun e w'' ⟨v, h1, h2, h3⟩ => ⟨_, h1, h2, h3.ls.any⟩)
        refine reg_value (fun _ => rfl) ?_ (fun g w' vs hM hE hP => ?_) ?_
        rotate_left
        · (clear hP hM; have zz0 := cs_ext hE z0; have zz1 := cs_ext hE z1; have zz2 := cs_ext hE z2; have zz3 := cs_ext hE z3; have zz4 := cs_ext hE z4; have zz5 := cs_ext hE z5; have zz6 := cs_ext hE z6; have zz7 := cs_ext hE z7; go_simp; first | done | rfl)
        refine reg_value (fun _ => rfl) ?_ (fun g w' vs hM hE hP => ?_) ?_
        rotate_left
        · (clear hP hM; have zz0 := cs_ext hE z0; have zz1 := cs_ext hE z1; have zz2 := cs_ext hE z2; have zz3 := cs_ext hE z3; have zz4 := cs_ext hE z4; have zz5 := cs_ext hE z5; have zz6 := cs_ext hE z6; have zz7 := cs_ext hE z7; go_simp; first | done | rfl)
        refine reg_call (fun _ => rfl) 66 ?_ (fun g w' m' hM hE hP => ?_) (fun v w'' => LsT w'' Any v B) ⟨fun u a b h hE => h.ext hE, (fun h => nomatch h), (fun h => absurd rfl h)⟩ (fun g w' m' hM hE hP => ?_) ?_
        rotate_left
        · (clear hP hM; have zz4 := cs_ext hE z4; have zz5 := cs_ext hE z5; have zz6 := cs_ext hE z6; have zz7 := cs_ext hE z7; go_simp; first | done | exact ⟨rfl, rfl⟩ | rfl)
        · exact (HCU.out w' hE).mono (fun e w'' ⟨v, h1, h2, h3⟩ => ⟨_, h1, h2, h3.ls.any⟩)
        refine reg_value (fun _ => rfl) ?_ (fun g w' vs hM hE hP => ?_) ?_
        rotate_left
        · (clear hP hM; have zz0 := cs_ext hE z0; have zz1 := cs_ext hE z1; have zz2 := cs_ext hE z2; have zz3 := cs_ext hE z3; have zz4 := cs_ext hE z4; have zz5 := cs_ext hE z5; have zz6 := cs_ext hE z6; have zz7 := cs_ext hE z7; go_simp; first | done | rfl)
        refine reg_value (fun _ => rfl) ?_ (fun g w' vs hM hE hP => ?_) ?_
        rotate_left
        · (clear hP hM; have zz0 := cs_ext hE z0; have zz1 := cs_ext hE z1; have zz2 := cs_ext hE z2; have zz3 := cs_ext hE z3; have zz4 := cs_ext hE z4; have zz5 := cs_ext hE z5; have zz6 := cs_ext hE z6; have zz7 := cs_ext hE z7; go_simp; first | done | rfl)
        intro g w5 hE5 hF hQ
        simp only [List.drop_succ_cons, List.drop_zero, Act.put, List.setIfInBounds_toArray, List.set_cons_succ, List.set_cons_zero]
        have hB5 : LsT w5 Any (g 5).v B := hQ _ List.mem_cons_self
        have hA5 : LsT w5 Any (g 2).v A := hQ _ (List.mem_cons_of_mem _ List.mem_cons_self)
        obtain ⟨aa, ac, hva, hal, hac, -⟩ := id hA5
        obtain ⟨ba, bc, hvb, hbl, hbc, -⟩ := id hB5
        rw [hva] at hA5 ⊢
        rw [hvb] at hB5 ⊢
        unfold maxLen at hac hbc
        have HA5 := Lib.hid hA5
        have HB5 := Lib.hid hB5
        have HE1 := Lib.hid (HE1.out.trans hE5)
        clear hE5 hF hQ hva hvb hA5 hB5 z0 z1 z2 z3 z4 z5 z6 z7 HX HY
        go_wp2_with fail
        go_loopw [7] (fun iv wr => Hid (∃ i : Nat, iv = .int .i64 i ∧ i ≤ B.length ∧ (∀ x ∈ B.take i, x ∈ A) ∧ Ext w5 wr)) (fun iv _ => B.length - (intOf iv).toNat)
        case atStart => exact Lib.hid ⟨0, rfl, by omega, by simp, Ext.refl _⟩
        case round =>
          obtain ⟨i, rfl, hi, hall, hE⟩ := hrel.out
          have HALL := Lib.hid hall
          have HE6 := Lib.hid hE
          clear hrel hall hE
          by_cases hlt : i < B.length
          · obtain ⟨x, hx⟩ : ∃ x, B[i]? = some x := ⟨_, List.getElem?_eq_getElem hlt⟩
            obtain ⟨xb, xo, ka, kc, rfl, x0, x1, x2, x3, hTx⟩ := (HB5.out.ext HE6.out).ts.at hx
            have HCH := Lib.hid (RHas_any (w := wr) HA6.out (HB6.out x (List.mem_of_getElem? hx)) (HA5.out.ext HE6.out) hTx)
            have HXX := Lib.hid hx
            obtain ⟨b, hb⟩ : ∃ b, b = decide (x ∈ A) := ⟨_, rfl⟩
            rw [← hb] at HCH
            have HB := Lib.hid hb
            clear hx hTx hb
            go_wp2_with fail
            refine HCH.out.mono ?_
            rintro e w7 ⟨rfl, hE7⟩
            have HE7 := Lib.hid (HE6.out.trans hE7)
            clear hE7
            cases b with
            | false =>
              have HF : Hid (R = 13) := Lib.hid (by
                rw [HR3.out, if_neg]
                intro h
                have h1 := h x (List.mem_of_getElem? HXX.out)
                have h2 := HB.out
                simp [h1] at h2)
              go_wp2_with fail
              go_ret
              exact ⟨by rw [HF.out]; rfl, HE1.out.trans HE7.out⟩
            | true =>
              have HN : Hid (∀ y ∈ B.take (i + 1), y ∈ A) := Lib.hid (fun y hy => by
                rw [List.take_add_one, HXX.out] at hy
                rcases List.mem_append.1 hy with h | h
                · exact HALL.out y h
                · simp at h; subst h; exact of_decide_eq_true HB.out.symm)
              go_wp2_with fail
              go_roundw
              case rel => exact Lib.hid ⟨i + 1, by go_num, by omega, HN.out, HE7.out⟩
              case measure => simp [intOf]; omega
          · have HF : Hid (R = 0) := Lib.hid (by
              have h := HALL.out
              rw [List.take_of_length_le (by omega)] at h
              rw [HR3.out, if_pos h])
            have hiz : ¬ ((i : Int) < (B.length : Int)) := by omega
            go_wp2_with fail
            go_ret
            exact ⟨by rw [HF.out]; rfl, HE1.out.trans HE6.out⟩
    · have e2 : (o2 != 0) = true := by simp [h2]
      have HF : Hid (R = o2) := Lib.hid (by rw [HR1.out]; simp [orE, h2])
      clear h2
      go_wp2_with fail
      go_ret
      exact ⟨by rw [HF.out]; rfl, HE1.out⟩
  · have e1 : (o1 != 0) = true := by simp [h1]
    have HF : Hid (R = o1) := Lib.hid (by rw [HR.out]; simp [orE, h1])
    clear h1
    go_wp2_with fail
    go_ret
    exact ⟨by rw [HF.out]; rfl, HE1.out⟩

end Go.Proofs.YtpfnlbaloaohgaaGreat
