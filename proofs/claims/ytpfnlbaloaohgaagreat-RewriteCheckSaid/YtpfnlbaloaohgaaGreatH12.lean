/- Contracts: the reference's rules. Contracts: the reference's lists of rules. Contracts: the order of positions. Contracts: the reference's first redex. -/
import Derived.Test.YtpfnlbaloaohgaaGreatH11
import Derived.Test.YtpfnlbaloaohgaaGreatH1
import Derived.Test.YtpfnlbaloaohgaaGreatH5
namespace Go.Proofs.YtpfnlbaloaohgaaGreat
open Go Go.RowKit
set_option linter.unusedVariables false
set_option linter.unusedSimpArgs false

set_option maxRecDepth 100000 in
set_option maxHeartbeats 8000000 in
theorem RRule_any {w : World} {S S' : Nat → Prop} {xa ya : Option Addr} {xc yc : Nat} {r : Rl} (h1 : sizeT r.1 ≤ 100000) (h2 : sizeT r.2 ≤ 100000) (hX : TmW w S xa xc r.1) (hY : TmW w S' ya yc r.2) :
 Calls Tryz.prog 85 #[.agg #[.int .i64 r.1.kind, .string r.1.name, .int .i64 r.1.sort, .slice xa r.1.kids.length xc, .int .i64 r.2.kind, .string r.2.name, .int .i64 r.2.sort, .slice ya r.2.kids.length yc]] w fun e w' => e = .returned (.int .i64 (ruleE r)) ∧ Ext w w' := by
 obtain ⟨s, u⟩ := r
 simp only at h1 h2 hX hY ⊢
 obtain ⟨rx, w1, hbrx, hwrx, HBrx, hErx⟩ := box_new w (.cells #[.int .i64 s.kind, .string s.name, .int .i64 s.sort, .slice xa s.kids.length xc, .int .i64 u.kind, .string u.name, .int .i64 u.sort, .slice ya u.kids.length yc] 61)
 have z0 : w1.cell? ⟨rx, 0, none⟩ = some (.int .i64 s.kind) := by rw [cellc (HBrx.out)]; rfl
 have z1 : w1.cell? ⟨rx, 1, none⟩ = some (.string s.name) := by rw [cellc (HBrx.out)]; rfl
 have z2 : w1.cell? ⟨rx, 2, none⟩ = some (.int .i64 s.sort) := by rw [cellc (HBrx.out)]; rfl
 have z3 : w1.cell? ⟨rx, 3, none⟩ = some (.slice xa s.kids.length xc) := by rw [cellc (HBrx.out)]; rfl
 have z4 : w1.cell? ⟨rx, 4, none⟩ = some (.int .i64 u.kind) := by rw [cellc (HBrx.out)]; rfl
 have z5 : w1.cell? ⟨rx, 5, none⟩ = some (.string u.name) := by rw [cellc (HBrx.out)]; rfl
 have z6 : w1.cell? ⟨rx, 6, none⟩ = some (.int .i64 u.sort) := by rw [cellc (HBrx.out)]; rfl
 have z7 : w1.cell? ⟨rx, 7, none⟩ = some (.slice ya u.kids.length yc) := by rw [cellc (HBrx.out)]; rfl
 have HE1 := Lib.hid hErx
 have HX := Lib.hid (hX.ext hErx).any
 have HY := Lib.hid (hY.ext hErx).any
 have HC1 := Lib.hid (RValid_any (w := w1) (t := s) (by omega) HX.out)
 have HZ := Lib.hid (And.intro h1 h2)
 obtain ⟨o1, ho1⟩ : ∃ o, o = validT s := ⟨_, rfl⟩
 obtain ⟨o2, ho2⟩ : ∃ o, o = validT u := ⟨_, rfl⟩
 rw [← ho1] at HC1
 have HR : Hid (ruleE (s, u) = orE o1 (orE o2 (if s.kind = 1 then 1 else if ∀ x ∈ varsT u, x ∈ varsT s then 0 else 13))) := Lib.hid (by rw [ho1, ho2]; rfl)
 obtain ⟨R, hR⟩ : ∃ R, R = ruleE (s, u) := ⟨_, rfl⟩
 rw [← hR] at HR ⊢
 have HO2 := Lib.hid ho2
 clear hX hY hErx h1 h2 ho1 ho2 hR
 go_enter Tryz.func85, Tryz.ntmps85
 go_upto_region 1 with fail
 rw [← hwrx, ← hbrx]
 clear hwrx hbrx
 go_wp2_with fail
 refine HC1.out.mono ?_
 rintro e w2 ⟨rfl, hE2⟩
 obtain ⟨z0, z1, z2, z3, z4, z5, z6, z7⟩ := cs_e8 hE2 ⟨z0, z1, z2, z3, z4, z5, z6, z7⟩
 have HX := Lib.hid (HX.out.ext hE2)
 have HY := Lib.hid (HY.out.ext hE2)
 have HE1 := Lib.hid (HE1.out.trans hE2)
 have HC2 := Lib.hid (RValid_any (w := w2) (t := u) (by have := HZ.out; omega) HY.out)
 rw [← HO2.out] at HC2
 clear hE2
 by_cases h1 : o1 = 0
 · have e1 : (o1 != 0) = false := by simp [h1]
   have HR1 : Hid (R = orE o2 (if s.kind = 1 then 1 else if ∀ x ∈ varsT u, x ∈ varsT s then 0 else 13)) := Lib.hid (by rw [HR.out, h1]; simp [orE])
   clear h1
   go_wp2_with fail
   refine HC2.out.mono ?_
   rintro e w3 ⟨rfl, hE3⟩
   obtain ⟨z0, z1, z2, z3, z4, z5, z6, z7⟩ := cs_e8 hE3 ⟨z0, z1, z2, z3, z4, z5, z6, z7⟩
   have HX := Lib.hid (HX.out.ext hE3)
   have HY := Lib.hid (HY.out.ext hE3)
   have HE1 := Lib.hid (HE1.out.trans hE3)
   clear hE3
   by_cases h2 : o2 = 0
   · have e2 : (o2 != 0) = false := by simp [h2]
     have HR2 : Hid (R = if s.kind = 1 then 1 else if ∀ x ∈ varsT u, x ∈ varsT s then 0 else 13) := Lib.hid (by rw [HR1.out, h2]; simp [orE])
     clear h2
     by_cases hk : s.kind = 1
     · have ek : (s.kind == 1) = true := by simp [hk]
       have HF : Hid (R = 1) := Lib.hid (by rw [HR2.out, if_pos hk])
       clear hk
       go_wp2_with fail
       go_ret
       exact ⟨by rw [HF.out]; rfl, HE1.out⟩
     · have ek : (s.kind == 1) = false := by simpa using hk
       have HR3 : Hid (R = if ∀ x ∈ varsT u, x ∈ varsT s then 0 else 13) := Lib.hid (by rw [HR2.out, if_neg hk])
       have HCS := Lib.hid (fun (w' : World) (h : Ext w3 w') => RVars_any (w := w') (t := s) HZ.out.1 (fun _ h => h) (HX.out.ext h).below)
       have HCU := Lib.hid (fun (w' : World) (h : Ext w3 w') => RVars_any (w := w') (t := u) HZ.out.2 (fun _ h => h) (HY.out.ext h).below)
       obtain ⟨A, hA⟩ : ∃ A, A = varsT s := ⟨_, rfl⟩
       obtain ⟨B, hB⟩ : ∃ B, B = varsT u := ⟨_, rfl⟩
       have HA6 : Hid (∀ x ∈ A, sizeT x ≤ 1000000) := Lib.hid (fun x hx => by rw [hA] at hx; have := varsT_size hx; have := HZ.out; omega)
       have HB6 : Hid (∀ x ∈ B, sizeT x ≤ 1000000) := Lib.hid (fun x hx => by rw [hB] at hx; have := varsT_size hx; have := HZ.out; omega)
       rw [← hA] at HR3 HCS
       rw [← hB] at HR3 HCU
       clear hk hA hB
       go_upto_region 9 with fail
       have HFCT := Lib.hid (And.intro z0 (And.intro z1 (And.intro z2 (And.intro z3 (And.intro z4 (And.intro z5 (And.intro z6 z7)))))))
       refine wp_region_reg 8 false (by kernel_rfl) (by kernel_rfl) ?_
       refine reg_value (fun _ => rfl) ?_ (fun g w' vs hM hE hP => ?_) ?_
       rotate_left
       · (clear hP hM; have ⟨z0, z1, z2, z3, z4, z5, z6, z7⟩ := cs_e8 hE HFCT.out; go_simp; first | done | rfl)
       refine reg_value (fun _ => rfl) ?_ (fun g w' vs hM hE hP => ?_) ?_
       rotate_left
       · (clear hP hM; have ⟨z0, z1, z2, z3, z4, z5, z6, z7⟩ := cs_e8 hE HFCT.out; go_simp; first | done | rfl)
       refine reg_call (fun _ => rfl) 66 ?_ (fun g w' m' hM hE hP => ?_) (fun v w'' => LsT w'' Any v A) ⟨fun u a b h hE => h.ext hE, (fun h => nomatch h), (fun h => absurd rfl h)⟩ (fun g w' m' hM hE hP => ?_) ?_
       rotate_left
       · (clear hP hM; have zz0 := cs_ext hE z0; have zz1 := cs_ext hE z1; have zz2 := cs_ext hE z2; have zz3 := cs_ext hE z3; go_simp; first | done | exact ⟨rfl, rfl⟩ | rfl)
       · exact (HCS.out w' hE).mono (fun e w'' ⟨v, h1, h2, h3⟩ => ⟨_, h1, h2, h3.ls.any⟩)
       refine reg_value (fun _ => rfl) ?_ (fun g w' vs hM hE hP => ?_) ?_
       rotate_left
       · (clear hP hM; have ⟨z0, z1, z2, z3, z4, z5, z6, z7⟩ := cs_e8 hE HFCT.out; go_simp; first | done | rfl)
       refine reg_value (fun _ => rfl) ?_ (fun g w' vs hM hE hP => ?_) ?_
       rotate_left
       · (clear hP hM; have ⟨z0, z1, z2, z3, z4, z5, z6, z7⟩ := cs_e8 hE HFCT.out; go_simp; first | done | rfl)
       refine reg_call (fun _ => rfl) 66 ?_ (fun g w' m' hM hE hP => ?_) (fun v w'' => LsT w'' Any v B) ⟨fun u a b h hE => h.ext hE, (fun h => nomatch h), (fun h => absurd rfl h)⟩ (fun g w' m' hM hE hP => ?_) ?_
       rotate_left
       · (clear hP hM; have zz4 := cs_ext hE z4; have zz5 := cs_ext hE z5; have zz6 := cs_ext hE z6; have zz7 := cs_ext hE z7; go_simp; first | done | exact ⟨rfl, rfl⟩ | rfl)
       · exact (HCU.out w' hE).mono (fun e w'' ⟨v, h1, h2, h3⟩ => ⟨_, h1, h2, h3.ls.any⟩)
       refine reg_value (fun _ => rfl) ?_ (fun g w' vs hM hE hP => ?_) ?_
       rotate_left
       · (clear hP hM; have ⟨z0, z1, z2, z3, z4, z5, z6, z7⟩ := cs_e8 hE HFCT.out; go_simp; first | done | rfl)
       refine reg_value (fun _ => rfl) ?_ (fun g w' vs hM hE hP => ?_) ?_
       rotate_left
       · (clear hP hM; have ⟨z0, z1, z2, z3, z4, z5, z6, z7⟩ := cs_e8 hE HFCT.out; go_simp; first | done | rfl)
       intro g w5 hE5 hF hQ
       simp only [List.drop_succ_cons, List.drop_zero, Act.put, List.setIfInBounds_toArray, List.set_cons_succ, List.set_cons_zero]
       have hB5 : LsT w5 Any (g 5).v B := hQ _ List.mem_cons_self
       have hA5 : LsT w5 Any (g 2).v A := hQ _ (List.mem_cons_of_mem _ List.mem_cons_self)
       obtain ⟨aa, ac, hva, hal, hac, -⟩ := id hA5
       obtain ⟨ba, bc, hvb, hbl, hbc, -⟩ := id hB5
       rw [hva] at hA5 ⊢
       rw [hvb] at hB5 ⊢
       unfold maxLen at hac hbc
       have HA5 := Lib.hid hA5
       have HB5 := Lib.hid hB5
       have HE1 := Lib.hid (HE1.out.trans hE5)
       clear hE5 hF hQ hva hvb hA5 hB5 z0 z1 z2 z3 z4 z5 z6 z7 HX HY
       go_wp2_with fail
       go_loopw [7] (fun iv wr => Hid (∃ i : Nat, iv = .int .i64 i ∧ i ≤ B.length ∧ (∀ x ∈ B.take i, x ∈ A) ∧ Ext w5 wr)) (fun iv _ => B.length - (intOf iv).toNat)
       case atStart => exact Lib.hid ⟨0, rfl, by omega, by simp, Ext.refl _⟩
       case round =>
        obtain ⟨i, rfl, hi, hall, hE⟩ := hrel.out
        have HALL := Lib.hid hall
        have HE6 := Lib.hid hE
        clear hrel hall hE
        by_cases hlt : i < B.length
        · obtain ⟨x, hx⟩ : ∃ x, B[i]? = some x := ⟨_, List.getElem?_eq_getElem hlt⟩
          obtain ⟨xb, xo, ka, kc, rfl, x0, x1, x2, x3, hTx⟩ := (HB5.out.ext HE6.out).ts.at hx
          have HCH := Lib.hid (RHas_any (w := wr) HA6.out (HB6.out x (List.mem_of_getElem? hx)) (HA5.out.ext HE6.out) hTx)
          have HXX := Lib.hid hx
          obtain ⟨b, hb⟩ : ∃ b, b = decide (x ∈ A) := ⟨_, rfl⟩
          rw [← hb] at HCH
          have HB := Lib.hid hb
          clear hx hTx hb
          go_wp2_with fail
          refine HCH.out.mono ?_
          rintro e w7 ⟨rfl, hE7⟩
          have HE7 := Lib.hid (HE6.out.trans hE7)
          clear hE7
          cases b with
          | false =>
            have HF : Hid (R = 13) := Lib.hid (by
             rw [HR3.out, if_neg]
             intro h
             have h1 := h x (List.mem_of_getElem? HXX.out)
             have h2 := HB.out
             simp [h1] at h2)
            go_wp2_with fail
            go_ret
            exact ⟨by rw [HF.out]; rfl, HE1.out.trans HE7.out⟩
          | true =>
            have HN : Hid (∀ y ∈ B.take (i + 1), y ∈ A) := Lib.hid (fun y hy => by
             rw [List.take_add_one, HXX.out] at hy
             rcases List.mem_append.1 hy with h | h
             · exact HALL.out y h
             · simp at h; subst h; exact of_decide_eq_true HB.out.symm)
            go_wp2_with fail
            go_roundw
            case rel => exact Lib.hid ⟨i + 1, by go_num, by omega, HN.out, HE7.out⟩
            case measure => simp [intOf]; omega
        · have HF : Hid (R = 0) := Lib.hid (by
           have h := HALL.out
           rw [List.take_of_length_le (by omega)] at h
           rw [HR3.out, if_pos h])
          have hiz : ¬ ((i : Int) < (B.length : Int)) := by omega
          go_wp2_with fail
          go_ret
          exact ⟨by rw [HF.out]; rfl, HE1.out.trans HE6.out⟩
   · have e2 : (o2 != 0) = true := by simp [h2]
     have HF : Hid (R = o2) := Lib.hid (by rw [HR1.out]; simp [orE, h2])
     clear h2
     go_wp2_with fail
     go_ret
     exact ⟨by rw [HF.out]; rfl, HE1.out⟩
 · have e1 : (o1 != 0) = true := by simp [h1]
   have HF : Hid (R = o1) := Lib.hid (by rw [HR.out]; simp [orE, h1])
   clear h1
   go_wp2_with fail
   go_ret
   exact ⟨by rw [HF.out]; rfl, HE1.out⟩

set_option maxRecDepth 100000 in
set_option maxHeartbeats 8000000 in
theorem RRules_any {w : World} {S : Nat → Prop} {a : Option Addr} {cap : Nat} {R : List Rl} (hz : smallR R) (hL : LsG elP w S (.slice a R.length cap) R) :
 Calls Tryz.prog 63 #[.slice a R.length cap] w fun e w' => e = .returned (.int .i64 (rulesE R)) ∧ Ext w w' := by
 obtain ⟨-, hll, hlc⟩ := hL.len
 unfold maxLen at hlc
 have HL := Lib.hid hL.any
 have HZ := Lib.hid hz
 obtain ⟨E, hE⟩ : ∃ E, E = rulesE R := ⟨_, rfl⟩
 rw [← hE]
 unfold rulesE at hE
 have HEE := Lib.hid hE
 clear hL hz hE
 by_cases h40 : 40 < R.length
 · have HR : Hid (E = 3) := Lib.hid (by rw [HEE.out, if_pos h40])
   have e40 : decide ((40 : Int) < (R.length : Int)) = true := decide_eq_true (by omega)
   go_enter Tryz.func63, Tryz.ntmps63
   go_wp2_with fail
   go_ret
   exact ⟨ri HR.out.symm, Ext.refl _⟩
 · have HR : Hid (E = rulesL R) := Lib.hid (by rw [HEE.out, if_neg h40])
   have e40 : decide ((40 : Int) < (R.length : Int)) = false := decide_eq_false (by omega)
   go_enter Tryz.func63, Tryz.ntmps63
   go_wp2_with fail
   go_loopw [3] (fun kv wr => Hid (∃ k : Nat, kv = .int .i64 k ∧ k ≤ R.length ∧ rulesL (R.take k) = 0 ∧ Ext w wr)) (fun kv _ => R.length - (intOf kv).toNat)
   case atStart => exact Lib.hid ⟨0, rfl, by omega, by simp [rulesL], Ext.refl _⟩
   case round =>
    obtain ⟨k, rfl, hk, h0, hE⟩ := hrel.out
    have H0 := Lib.hid h0
    have HE := Lib.hid hE
    clear hrel h0 hE
    by_cases hlt : k < R.length
    · obtain ⟨r, hr⟩ : ∃ r, R[k]? = some r := ⟨_, List.getElem?_eq_getElem hlt⟩
      obtain ⟨rb, ro, xa, xc, ya, yc, rfl, ⟨x0, x1, x2, x3⟩, ⟨y0, y1, y2, y3⟩, hTx, hTy⟩ := (HL.out.ext HE.out).pAt hr
      have hsz := HZ.out r (List.mem_of_getElem? hr)
      have HST := Lib.hid (fun (h : ruleE r ≠ 0) => rulesL_stop hr H0.out h)
      have HTK := Lib.hid (rulesL_take hr)
      have hk1 : r.1.kids.length ≤ xc := hTx.len
      have hk3 : r.2.kids.length ≤ yc := hTy.len
      obtain ⟨o, ho⟩ : ∃ o, o = ruleE r := ⟨_, rfl⟩
      have hcr := RRule_any (w := wr) (r := r) hsz.1 hsz.2 hTx hTy
      rw [← ho] at hcr HST HTK
      have HCR := Lib.hid hcr
      clear hr hsz hTx hTy ho hcr
      go_wp2_with fail
      refine HCR.out.mono ?_
      rintro e w5 ⟨rfl, hE5⟩
      have HE5 := Lib.hid (HE.out.trans hE5)
      clear hE5
      by_cases h1 : o = 0
      · have e1 : (o != 0) = false := by simp [h1]
        have HN : Hid (rulesL (R.take (k + 1)) = 0) := Lib.hid (by rw [HTK.out, H0.out, h1]; simp [orE])
        clear h1
        go_wp2_with fail
        go_roundw
        case rel => exact Lib.hid ⟨k + 1, by go_num, by omega, HN.out, HE5.out⟩
        case measure => simp [intOf]; omega
      · have e1 : (o != 0) = true := by simp [h1]
        have HF : Hid (E = o) := Lib.hid (by rw [HR.out, HST.out h1])
        clear h1
        go_wp2_with fail
        go_ret
        exact ⟨ri HF.out.symm, HE5.out⟩
    · have HF : Hid (E = 0) := Lib.hid (by
       have h := H0.out
       rw [List.take_of_length_le (by omega)] at h
       rw [HR.out, h])
      have hkz : ¬ ((k : Int) < (R.length : Int)) := by omega
      go_wp2_with fail
      go_ret
      exact ⟨ri HF.out.symm, HE.out⟩

set_option maxRecDepth 100000 in
set_option maxHeartbeats 8000000 in
theorem RRight_any {w : World} {S S' : Nat → Prop} {a ta : Option Addr} {cap tc : Nat} {R : List Rl} {t : Tm} (hz : smallR R) (hL : LsG elP w S (.slice a R.length cap) R) (ht : sizeT t ≤ 1000000) (hT : TmW w S' ta tc t) :
 Calls Tryz.prog 42 #[.slice a R.length cap, .agg #[.int .i64 t.kind, .string t.name, .int .i64 t.sort, .slice ta t.kids.length tc]] w fun e w' => e = .returned (.int .i64 (orE (rulesE R) (validT t))) ∧ Ext w w' := by
 obtain ⟨bx, w1, hbbx, hwbx, HBbx, hEbx⟩ := box_new w (.cells #[.int .i64 t.kind, .string t.name, .int .i64 t.sort, .slice ta t.kids.length tc] 25)
 obtain ⟨b0, b1, b2, b3⟩ := box4r (HBbx.out)
 have HT := Lib.hid (hT.ext hEbx).any
 have HE1 := Lib.hid hEbx
 have HZ := Lib.hid ht
 have hc1 := RRules_any hz (hL.ext hEbx)
 obtain ⟨o1, ho1⟩ : ∃ o, o = rulesE R := ⟨_, rfl⟩
 rw [← ho1] at hc1 ⊢
 obtain ⟨o2, ho2⟩ : ∃ o, o = validT t := ⟨_, rfl⟩
 rw [← ho2]
 have HO2 := Lib.hid ho2
 have HC1 := Lib.hid hc1
 clear hT hL hEbx hc1 ho1 ho2 ht hz
 go_enter Tryz.func42, Tryz.ntmps42
 go_upto_region 1 with fail
 rw [← hwbx, ← hbbx]
 clear hwbx hbbx
 go_wp2_with fail
 refine HC1.out.mono ?_
 rintro e w2 ⟨rfl, hE2⟩
 obtain ⟨b0, b1, b2, b3⟩ := cs_e4 hE2 ⟨b0, b1, b2, b3⟩
 have HT := Lib.hid (HT.out.ext hE2)
 have HE1 := Lib.hid (HE1.out.trans hE2)
 clear hE2
 have HC2 := Lib.hid (RValid_any (w := w2) (t := t) (by have := HZ.out; omega) HT.out)
 rw [← HO2.out] at HC2
 by_cases h1 : o1 = 0
 · have e1 : (o1 != 0) = false := by simp [h1]
   have H1 := Lib.hid h1
   clear h1
   go_wp2_with fail
   refine HC2.out.mono ?_
   rintro e w3 ⟨rfl, hE3⟩
   have HE3 := Lib.hid (HE1.out.trans hE3)
   clear hE3
   go_wp2_with fail
   go_ret
   exact ⟨ri (by rw [H1.out]; simp [orE]), HE3.out⟩
 · have e1 : (o1 != 0) = true := by simp [h1]
   have H1 := Lib.hid h1
   clear h1
   go_wp2_with fail
   go_ret
   exact ⟨ri (by have := H1.out; simp [orE, this]), HE1.out⟩

/-- whether a position comes ahead of another one -/
def befL : List Int → List Int → Bool
 | x :: p, y :: q => if x = y then befL p q else decide (x < y)
 | [], q => decide (q.length < 0)
 | p, [] => decide (0 < p.length)
theorem befL_nil {p q : List Int} (h : p = [] ∨ q = []) : befL p q = decide (q.length < p.length) := by
 rcases h with rfl | rfl
 · cases q <;> simp [befL]
 · cases p <;> simp [befL]
theorem befL_drop {p q : List Int} {i : Nat} {x y : Int} (hx : p[i]? = some x) (hy : q[i]? = some y) : befL (p.drop i) (q.drop i) = if x = y then befL (p.drop (i + 1)) (q.drop (i + 1)) else decide (x < y) := by
 obtain ⟨h1, rfl⟩ := List.getElem?_eq_some_iff.1 hx
 obtain ⟨h2, rfl⟩ := List.getElem?_eq_some_iff.1 hy
 rw [List.drop_eq_getElem_cons h1, List.drop_eq_getElem_cons h2, befL]

set_option maxRecDepth 100000 in
set_option maxHeartbeats 8000000 in
theorem RBefore_any {w : World} {S S' : Nat → Prop} {pa qa : Option Addr} {pc qc : Nat} {p q : List Int} (hP : LsG elI w S (.slice pa p.length pc) p) (hQ : LsG elI w S' (.slice qa q.length qc) q) :
 Calls Tryz.prog 75 #[.slice pa p.length pc, .slice qa q.length qc] w fun e w' => e = .returned (.bool (befL p q)) ∧ Ext w w' := by
 obtain ⟨-, hpl, hpc⟩ := hP.len
 unfold maxLen at hpc
 obtain ⟨-, hql, hqc⟩ := hQ.len
 unfold maxLen at hqc
 have HP := Lib.hid hP
 have HQ := Lib.hid hQ
 obtain ⟨Z, hZ⟩ : ∃ Z, Z = befL p q := ⟨_, rfl⟩
 rw [← hZ]
 have HZ := Lib.hid hZ
 clear hP hQ hZ
 go_enter Tryz.func75, Tryz.ntmps75
 go_wp2_with fail
 go_loopw [5] (fun iv wr => Hid (∃ i : Nat, iv = .int .i64 i ∧ i ≤ p.length ∧ i ≤ q.length ∧ befL (p.drop i) (q.drop i) = Z ∧ Ext w wr)) (fun iv _ => p.length - (intOf iv).toNat)
 case atStart => exact Lib.hid ⟨0, rfl, by omega, by omega, by rw [HZ.out]; rfl, Ext.refl _⟩
 case round =>
  obtain ⟨i, rfl, hi, hj, hb, hE⟩ := hrel.out
  have HB := Lib.hid hb
  have HE := Lib.hid hE
  clear hrel hb hE
  by_cases hlp : i < p.length
  · have ep : decide ((i : Int) < (p.length : Int)) = true := by simp; omega
    by_cases hlq : i < q.length
    · have eq : decide ((i : Int) < (q.length : Int)) = true := by simp; omega
      obtain ⟨x, hx⟩ : ∃ x, p[i]? = some x := ⟨_, List.getElem?_eq_getElem hlp⟩
      obtain ⟨y, hy⟩ : ∃ y, q[i]? = some y := ⟨_, List.getElem?_eq_getElem hlq⟩
      obtain ⟨pb, po, rfl, x0, -⟩ := (HP.out.ext HE.out).iAt hx
      obtain ⟨qb, qo, rfl, y0, -⟩ := (HQ.out.ext HE.out).iAt hy
      have HD := Lib.hid (befL_drop hx hy)
      clear hx hy
      go_upto_region 4 with fail
      go_quiet (fail)
      generalize hwn : World.drewN wr _ = wn
      have hEn : Ext wr wn := by rw [← hwn]; exact Ext.then_drN (Ext.refl _)
      obtain ⟨x0, y0⟩ := cs_e2 hEn ⟨x0, y0⟩
      have HE := Lib.hid (HE.out.trans hEn)
      clear hEn hwn
      by_cases hxy : x = y
      · have ex : (x != y) = false := by simp [hxy]
        have HN : Hid (befL (p.drop (i + 1)) (q.drop (i + 1)) = Z) := Lib.hid (by rw [← HB.out, HD.out, if_pos hxy])
        clear hxy
        go_wp2_with fail
        go_roundw
        case rel => exact Lib.hid ⟨i + 1, by go_num, by omega, by omega, HN.out, HE.out⟩
        case measure => simp [intOf]; omega
      · have ex : (x != y) = true := by simpa using hxy
        have HF : Hid (Z = decide (x < y)) := Lib.hid (by rw [← HB.out, HD.out, if_neg hxy])
        clear hxy
        go_upto_region 5 with fail
        go_quiet (fail)
        generalize hwm : World.drewN wn _ = wm
        have hEm : Ext wn wm := by rw [← hwm]; exact Ext.then_drN (Ext.refl _)
        have HE := Lib.hid (HE.out.trans hEm)
        clear hEm hwm
        go_wp2_with fail
        go_ret
        exact ⟨rb (by rw [HF.out]), HE.out⟩
    · have eq : decide ((i : Int) < (q.length : Int)) = false := by simp; omega
      have HF : Hid (Z = decide ((q.length : Int) < (p.length : Int))) := Lib.hid (by
       rw [HZ.out]
       have h := HB.out
       rw [befL_nil (.inr (List.drop_of_length_le (by omega)))] at h
       rw [← HZ.out, ← h, List.length_drop, List.length_drop, Bool.eq_iff_iff]; simp; omega)
      go_wp2_with fail
      go_ret
      exact ⟨rb (by rw [HF.out, Bool.eq_iff_iff]; simp), HE.out⟩
  · have ep : decide ((i : Int) < (p.length : Int)) = false := by simp; omega
    have HF : Hid (Z = decide ((q.length : Int) < (p.length : Int))) := Lib.hid (by
     have h := HB.out
     rw [befL_nil (.inl (List.drop_of_length_le (by omega)))] at h
     rw [← h, List.length_drop, List.length_drop, Bool.eq_iff_iff]; simp; omega)
    go_wp2_with fail
    go_ret
    exact ⟨rb (by rw [HF.out, Bool.eq_iff_iff]; simp), HE.out⟩

/-- the best of redexes -/
def bestL : Rdx → List Rdx → Rdx
 | b, [] => b
 | b, r :: l => bestL (if befL r.2 b.2 then r else b) l
theorem bestL_drop {b r : Rdx} {l : List Rdx} {i : Nat} (h : l[i]? = some r) : bestL b (l.drop i) = bestL (if befL r.2 b.2 then r else b) (l.drop (i + 1)) := by
 obtain ⟨h1, rfl⟩ := List.getElem?_eq_some_iff.1 h
 rw [List.drop_eq_getElem_cons h1, bestL]
theorem ret_rdx {F : Func} {p g : Nat} {tmps : Array Value} {w : World} {cs : Array Value} {R : Ending → World → Prop} (hr : F.results = #[.cell p 35]) (hp : tmps.getD p undef = .pointer (some ⟨g, 0, none⟩)) (hg : w.heap[g]? = some (.cells cs 35)) (hs : cs.size = 2) (h : R (.returned (.agg cs)) w) :
 bodyPost Tryz.prog F R .ret ⟨tmps, []⟩ w :=
 bodyPost_ret (results_cell_row hr tmps w g _ cs _ _ hp hg Tryz.underlying35 rfl (by rw [hs]; exact sizRdx)) rfl h

set_option maxRecDepth 100000 in
set_option maxHeartbeats 8000000 in
theorem RFirst_any {w : World} {S : Nat → Prop} {la : Option Addr} {lc : Nat} {l : List Rdx} {r0 : Rdx} (h0 : l[0]? = some r0) (hL : LsG elX w S (.slice la l.length lc) l) :
 Calls Tryz.prog 55 #[.slice la l.length lc] w fun e w' => ∃ v, e = .returned v ∧ Ext w w' ∧ ∃ q a c, q = bestL r0 (l.drop 1) ∧ v = .agg #[.int .i64 q.1, .slice a q.2.length c] ∧ I64 q.1 ∧ LsG elI w' S (.slice a q.2.length c) q.2 := by
 obtain ⟨-, hll, hlc⟩ := hL.len
 unfold maxLen at hlc
 have hl0 := (List.getElem?_eq_some_iff.1 h0).1
 obtain ⟨lb, lo, ra, rc, rfl, r0c, r1c, hri, hrl, hrc, hR⟩ := hL.xAt h0
 rw [Nat.zero_mul, Nat.add_zero] at r0c r1c
 unfold maxLen at hrc
 obtain ⟨ox, hox⟩ : ∃ zz9, zz9 = w.heap.size := ⟨_, rfl⟩
 obtain ⟨w1, hw1⟩ : ∃ zz9, zz9 = w.alloc (.cells #[.int .i64 0, .slice none 0 0] 35) := ⟨_, rfl⟩
 have hE1 : Ext w w1 := by rw [hw1]; exact Ext.alloc _ _
 have hs1 : w1.heap.size = ox + 1 := by rw [hw1, hox, World.size_alloc]
 have hb1 : w1.heap[ox]? = some (.cells #[.int .i64 0, .slice none 0 0] 35) := by rw [hw1, hox]; exact hs_new
 obtain ⟨bx, hbx⟩ : ∃ zz9, zz9 = ox + 1 := ⟨_, rfl⟩
 obtain ⟨w2, hw2⟩ : ∃ zz9, zz9 = w1.alloc (.cells #[.int .i64 r0.1, .slice ra r0.2.length rc] 35) := ⟨_, rfl⟩
 have hE2 : Ext w1 w2 := by rw [hw2]; exact Ext.alloc _ _
 have HB2 : Hid (w2.heap[bx]? = some (.cells #[.int .i64 r0.1, .slice ra r0.2.length rc] 35)) := Lib.hid (by rw [hw2, hbx, ← hs1]; exact hs_new)
 have HO2 := Lib.hid (hs_ext hE2 hb1)
 have HE2 := Lib.hid (hE1.trans hE2)
 have HNB : Hid (w.heap.size = ox ∧ bx = ox + 1) := Lib.hid ⟨hox.symm, hbx⟩
 have HS1 := Lib.hid hs1
 have HL := Lib.hid hL
 have HR := Lib.hid (hR.wide (S' := fun c => S c) (fun _ h _ => h))
 have HRI := Lib.hid (And.intro hri hrl)
 obtain ⟨Z, hZ⟩ : ∃ Z, Z = bestL r0 (l.drop 1) := ⟨_, rfl⟩
 rw [← hZ]
 have HZ := Lib.hid hZ
 have r0z := cs_ext hE1 r0c
 have r1z := cs_ext hE1 r1c
 clear hL hE1 hE2 hs1 hb1 hR hri hZ h0
 go_enter Tryz.func55, Tryz.ntmps55
 go_upto_region 1 with fail
 rw [← hw1, ← hox]
 clear hw1 hox
 go_upto_region 2 with fail
 rw [← hw2]
 try rw [← hbx]
 clear hw2 hbx r0c r1c r0z r1z
 rw [HS1.out, show ox + 1 = bx from HNB.out.2.symm]
 go_wp2_with fail
 go_loopw [4] (fun iv wr => Hid (∃ (i : Nat) (b : Rdx) (a : Option Addr) (c : Nat), iv = .int .i64 i ∧ i ≤ l.length ∧ bestL b (l.drop i) = Z ∧ wr.heap[bx]? = some (.cells #[.int .i64 b.1, .slice a b.2.length c] 35) ∧ I64 b.1 ∧ LsG elI wr (fun c => S c ∧ c < w.heap.size) (.slice a b.2.length c) b.2 ∧ Ext w wr ∧ wr.heap[ox]? = some (.cells #[.int .i64 0, .slice none 0 0] 35))) (fun iv _ => l.length - (intOf iv).toNat)
 case atStart => exact Lib.hid ⟨1, r0, ra, rc, rfl, by omega, by rw [HZ.out], HB2.out, HRI.out.1, (HR.out.wide (S' := fun c => S c ∧ c < w.heap.size) (fun c h h2 => ⟨h, h2⟩)).ext HE2.out, HE2.out, HO2.out⟩
 case round =>
  obtain ⟨i, b, a, c, rfl, hi, hb, hbx, hbi, hbl, hE, hox⟩ := hrel.out
  have HB := Lib.hid hb
  have HBX := Lib.hid hbx
  have HBI := Lib.hid hbi
  have HKL := Lib.hid hbl
  have HE := Lib.hid hE
  have HOX := Lib.hid hox
  obtain ⟨-, hal, hac⟩ := hbl.len
  unfold maxLen at hac
  have y0 : wr.cell? ⟨bx, 0, none⟩ = some (.int .i64 b.1) := by rw [cellc hbx]; rfl
  have y1 : wr.cell? ⟨bx, 1, none⟩ = some (.slice a b.2.length c) := by rw [cellc hbx]; rfl
  clear hrel hb hbx hbi hbl hE hox
  by_cases hlt : i < l.length
  · obtain ⟨q, hq⟩ : ∃ q, l[i]? = some q := ⟨_, List.getElem?_eq_getElem hlt⟩
    obtain ⟨lb', lo', qa, qc, e', x0, x1, hqi, hql, hqc, hQ⟩ := HL.out.xAt hq
    cases e'
    unfold maxLen at hqc
    have x0 := cs_ext HE.out x0
    have x1 := cs_ext HE.out x1
    have HQL := Lib.hid ((hQ.wide (S' := fun c => S c ∧ c < w.heap.size) (fun c h h2 => ⟨h, h2⟩)).ext HE.out)
    have HQI := Lib.hid hqi
    have HD := Lib.hid (bestL_drop (b := b) hq)
    clear hq hQ hqi
    go_upto_region 5 with fail
    go_still_tail 7, (by kernel_rfl)
    change wpList _ _ _ _ _ wr.drew
    generalize hwm : World.drew wr = wm
    have hEm : Ext wr wm := by rw [← hwm]; exact Ext.drew wr
    obtain ⟨x0, x1, y0, y1⟩ := cs_e4 hEm ⟨x0, x1, y0, y1⟩
    have HE := Lib.hid (HE.out.trans hEm)
    have HQL := Lib.hid (HQL.out.ext hEm)
    have HKL := Lib.hid (HKL.out.ext hEm)
    have HBX := Lib.hid (hs_ext hEm HBX.out)
    have HOX := Lib.hid (hs_ext hEm HOX.out)
    clear hEm hwm
    have HC := Lib.hid (RBefore_any HQL.out HKL.out)
    go_wp2_with fail
    refine HC.out.mono ?_
    rintro e w7 ⟨rfl, hE7⟩
    obtain ⟨x0, x1, y0, y1⟩ := cs_e4 hE7 ⟨x0, x1, y0, y1⟩
    have HE := Lib.hid (HE.out.trans hE7)
    have HQL := Lib.hid (HQL.out.ext hE7)
    have HKL := Lib.hid (HKL.out.ext hE7)
    have HBX := Lib.hid (hs_ext hE7 HBX.out)
    have HOX := Lib.hid (hs_ext hE7 HOX.out)
    clear hE7
    cases hbb : befL q.2 b.2 with
    | false =>
      have HN : Hid (bestL b (l.drop (i + 1)) = Z) := Lib.hid (by rw [← HB.out, HD.out, hbb]; rfl)
      clear hbb
      go_wp2_with fail
      go_roundw
      case rel => exact Lib.hid ⟨i + 1, b, a, c, by go_num, by omega, HN.out, HBX.out, HBI.out, HKL.out, HE.out, HOX.out⟩
      case measure => simp [intOf]; omega
    | true =>
      have HN : Hid (bestL q (l.drop (i + 1)) = Z) := Lib.hid (by rw [← HB.out, HD.out, hbb]; rfl)
      clear hbb
      go_wp2_with (
       refine wpList_storeX rfl (.tmp 3) (.tmp 25) rfl (g := bx) rfl (k := q.1) (ka := qa) (kl := q.2.length) (kc := qc) rfl HBX.out rfl ?_
       intro w8 c8 q8 e8 z8
       have HG8 := Lib.hid c8
       have HQ8 := Lib.hid q8
       have HZ8 := Lib.hid (Nat.le_of_eq z8.symm)
       have HE9 := Lib.hid (e8 w HE.out (by have := HNB.out; omega))
       clear c8 q8 e8 z8)
      go_roundw
      case rel => exact Lib.hid ⟨i + 1, q, qa, qc, by go_num, by omega, HN.out, HG8.out, HQI.out, HQL.out.keep (fun c h1 _ => HQ8.out c (by have := h1.2; have := HNB.out; omega)) (fun _ h _ => h) HZ8.out, HE9.out, by rw [HQ8.out ox (by have := HNB.out; omega)]; exact HOX.out⟩
      case measure => simp [intOf]; omega
  · have HF : Hid (Z = b) := Lib.hid (by rw [← HB.out, List.drop_of_length_le (by omega), bestL])
    have hiz : ¬ ((i : Int) < (l.length : Int)) := by omega
    go_wp2_with (
     refine wpList_storeX rfl (.tmp 2) (.tmp 26) rfl (g := ox) rfl (k := b.1) (ka := a) (kl := b.2.length) (kc := c) rfl HOX.out rfl ?_
     intro w8 c8 q8 e8 z8
     have HG8 := Lib.hid c8
     have HQ8 := Lib.hid q8
     have HZ8 := Lib.hid (Nat.le_of_eq z8.symm)
     have HE9 := Lib.hid (e8 w HE.out (by have := HNB.out; omega))
     clear c8 q8 e8 z8)
    have hkk := HKL.out.keep (w' := w8) (S' := S) (fun c h1 _ => HQ8.out c (by have := h1.2; have := HNB.out; omega)) (fun _ h _ => h.1) HZ8.out
    have hzb := HF.out
    subst hzb
    exact ret_rdx (g := ox) rfl rfl HG8.out rfl ⟨_, rfl, HE9.out, a, c, rfl, HBI.out, hkk⟩

end Go.Proofs.YtpfnlbaloaohgaaGreat
