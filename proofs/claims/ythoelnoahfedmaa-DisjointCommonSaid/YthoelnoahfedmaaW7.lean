/- The contract of the reference's step. -/
import Derived.Test.YthoelnoahfedmaaW6
namespace Go.Proofs.Ythoelnoahfedmaa
open Go.RowKit
set_option linter.unusedVariables false
set_option linter.unusedSimpArgs false

structure VPlain (gm : Fmt) : Prop where
  ne : gm.fields ≠ []
  le : gm.fields.length ≤ 6
  fld : ∀ (k : Nat) (y : Fld), gm.fields[k]? = some y → y.kind = 1 ∧ 1 ≤ y.bytes.size ∧ y.bytes.size ≤ 8 ∨ y.kind = 2 ∧ 1 ≤ y.n ∧ y.n ≤ 15 ∨ y.kind = 3 ∧ 0 ≤ y.n ∧ y.n ≤ 15 ∨ y.kind = 4 ∧ 0 ≤ y.low ∧ y.low ≤ y.high ∧ y.high ≤ 255

structure VFmt (t : List Fmt) (fm : Fmt) : Prop where
  ne : fm.fields ≠ []
  le : fm.fields.length ≤ 6
  fld : ∀ (k : Nat) (x : Fld), fm.fields[k]? = some x → x.kind = 1 ∧ 1 ≤ x.bytes.size ∧ x.bytes.size ≤ 8 ∨ x.kind = 2 ∧ 1 ≤ x.n ∧ x.n ≤ 15 ∨ x.kind = 3 ∧ 0 ≤ x.n ∧ x.n ≤ 15 ∨ x.kind = 4 ∧ 0 ≤ x.low ∧ x.low ≤ x.high ∧ x.high ≤ 255 ∨
    x.kind = 6 ∧ k + 1 = fm.fields.length ∧ 0 ≤ x.low ∧ x.low ≤ x.high ∧ x.high ≤ 1000 ∨ x.kind = 5 ∧ ∃ j : Nat, x.n = j ∧ ∃ gm, t[j]? = some gm ∧ VPlain gm

theorem VPlain.kinds {gm : Fmt} (h : VPlain gm) : ∀ y ∈ gm.fields, y.kind = 1 ∨ y.kind = 2 ∨ y.kind = 3 ∨ y.kind = 4 ∨ y.kind = 6 := by
  intro y hy
  obtain ⟨k, hk⟩ := List.mem_iff_getElem?.1 hy
  rcases h.fld k y hk with h | h | h | h <;> simp [h.1]
theorem VFmt.kinds {t : List Fmt} {fm : Fmt} (h : VFmt t fm) : ∀ y ∈ fm.fields, y.kind = 1 ∨ y.kind = 2 ∨ y.kind = 3 ∨ y.kind = 4 ∨ y.kind = 6 ∨ y.kind = 5 := by
  intro y hy
  obtain ⟨k, hk⟩ := List.mem_iff_getElem?.1 hy
  rcases h.fld k y hk with h | h | h | h | h | h <;> simp [h.1]
theorem VFmt.nest {t : List Fmt} {fm : Fmt} (h : VFmt t fm) : ∀ x ∈ fm.fields, x.kind = 5 → ∃ j : Nat, x.n = j ∧ ∃ gm, t[j]? = some gm ∧ gm.fields ≠ [] ∧ gm.fields.length ≤ 100 ∧ ∀ y ∈ gm.fields, y.kind = 1 ∨ y.kind = 2 ∨ y.kind = 3 ∨ y.kind = 4 ∨ y.kind = 6 := by
  intro x hx h5
  obtain ⟨k, hk⟩ := List.mem_iff_getElem?.1 hx
  rcases h.fld k x hk with h | h | h | h | h | ⟨_, j, hj, gm, hg, hv⟩
  all_goals first
    | exact ⟨j, hj, gm, hg, hv.ne, by have := hv.le; omega, hv.kinds⟩
    | (have := h.1; omega)

def rNest (t : List Fmt) (x : Fld) (f r q b : Nat) : Int :=
  if r = 0 then (if q ≠ 0 ∨ b = 0 then -1 else stS f b) else
  if 255 < r ∨ plainS (t.getD x.n.toNat default).fields (q / 32) (q % 32) = false ∨ q / 32 = (t.getD x.n.toNat default).fields.length then -1 else
  match (t.getD x.n.toNat default).fields[q / 32]? with
  | none => -1
  | some y => if stepK y (q / 32) (q % 32) b < 0 then -1 else if r = 1 then (if stepK y (q / 32) (q % 32) b / 262144 ≠ (t.getD x.n.toNat default).fields.length then -1 else stS (f + 1) 0)
    else if stepK y (q / 32) (q % 32) b / 262144 = (t.getD x.n.toNat default).fields.length then -1 else stS f (r - 1) + (stepK y (q / 32) (q % 32) b / 262144 * 32 + stepK y (q / 32) (q % 32) b / 256 % 1024)

def rStep (t : List Fmt) (F : List Fld) (s : Int) (b : Nat) : Int :=
  if s < 0 then -1 else
  match F[(s / 262144).toNat]? with
  | none => -1
  | some x => if x.kind = 5 then rNest t x (s / 262144).toNat (s / 256 % 1024).toNat (s % 256).toNat b
    else if s % 256 ≠ 0 ∨ plainS F (s / 262144).toNat (s / 256 % 1024).toNat = false then -1 else stepK x (s / 262144).toNat (s / 256 % 1024).toNat b

set_option maxRecDepth 100000 in
theorem rstep_end {w : World} {fa : Option Addr} {n : Nat} {nm : ByteArray} {fcap : Nat} (f r b : Int) (h : f = n) :
   Calls Try.prog 58 #[.agg #[.string nm, .slice fa n fcap], .int .i64 f, .int .i64 r, .int .u8 b] w fun e w' => e = .returned (.int .i64 (-1)) ∧ Ext w w' := by
  subst h
  go_enter Try.func58, Try.ntmps58
  go_wp2_with fail
  go_ret
  exact ⟨rfl, (by repeat (first | exact Ext.refl _ | exact Ext.alloc _ _ | apply Ext.then_dr | apply Ext.then_drN | apply Ext.then_drN2 | (refine Ext.then_al ?_ _)))⟩

theorem TabA.at {w : World} {B : Nat} {a : Option Addr} {t : List Fmt} {i : Nat} {fm : Fmt} (hT : TabA w B a t) (hi : t[i]? = some fm) :
    ∃ tb toff fa fcap, a = some ⟨tb, toff, none⟩ ∧ tb < B ∧ w.cell? ⟨tb, toff + i * 2, none⟩ = some (.string fm.name) ∧ w.cell? ⟨tb, toff + i * 2 + 1, none⟩ = some (.slice fa fm.fields.length fcap) ∧ FldsA w B fa fm.fields ∧ fm.name.size ≤ maxLen := by
  obtain ⟨-, hT⟩ := hT
  obtain ⟨b, off, rfl, hb, hT⟩ := hT (ne_nil_of_get hi)
  obtain ⟨hn, ⟨fa, fcap, hc, hF⟩, hw⟩ := hT i fm hi
  exact ⟨b, off, fa, fcap, rfl, hb, hn, hc, hF, hw⟩

set_option maxRecDepth 100000 in
set_option maxHeartbeats 2000000 in
theorem Step_any {w : World} {B : Nat} {a : Option Addr} {t : List Fmt} {cap : Nat} {i : Nat} {fm : Fmt} (s : Int) (b : Nat) (hb255 : b ≤ 255) (h1 : s ≤ 9223372036854775807) (hT : TabA w B a t) (hB : B ≤ w.heap.size) (hi : t[i]? = some fm) (hV : VFmt t fm) :
   Calls Try.prog 35 #[.slice a t.length cap, .int .i64 i, .int .i64 s, .int .u8 b] w fun e w' => e = .returned (.int .i64 (rStep t fm.fields s b)) ∧ Ext w w' := by
  have hin := lt_of_get hi
  have hn63 := hT.1
  unfold maxLen at hn63
  obtain ⟨tb, toff, fa, fcap, rfl, htb, htn, htc, hF, -⟩ := hT.at hi
  have htb' : tb < w.heap.size := by omega
  have hne := hV.ne
  have hle := hV.le
  obtain ⟨res, hres⟩ : ∃ res, res = rStep t fm.fields s b := ⟨_, rfl⟩
  rw [← hres]
  by_cases hs : s < 0
  · have e2 : res = -1 := by rw [hres, rStep, if_pos hs]
    clear hres
    go_enter Try.func35, Try.ntmps35
    go_wp2_with fail
    go_ret
    exact ⟨ri e2.symm, (by repeat (first | exact Ext.refl _ | exact Ext.alloc _ _ | apply Ext.then_dr | apply Ext.then_drN | apply Ext.then_drN2 | (refine Ext.then_al ?_ _)))⟩
  · have hs0 : 0 ≤ s := by omega
    obtain ⟨f, hfs⟩ : ∃ f : Nat, s / 262144 = f := ⟨(s / 262144).toNat, by omega⟩
    obtain ⟨r, hrs⟩ : ∃ r : Nat, s / 256 % 1024 = r := ⟨(s / 256 % 1024).toNat, by omega⟩
    obtain ⟨q, hqs⟩ : ∃ q : Nat, s % 256 = q := ⟨(s % 256).toNat, by omega⟩
    have hr1024 : r < 1024 := by omega
    have hq256 : q < 256 := by omega
    have hfb : f ≤ 1000000000000000 := by omega
    have hfs' : s / 256 / 1024 = f := by omega
    have hres' := hres
    rw [rStep, if_neg hs, hfs, hrs, hqs, Int.toNat_natCast, Int.toNat_natCast, Int.toNat_natCast] at hres'
    clear hres
    cases hx : fm.fields[f]? with
    | none =>
      rw [hx] at hres'
      simp only at hres'
      have hlen : fm.fields.length ≤ f := List.getElem?_eq_none_iff.1 hx
      have HX := Lib.hid hx; clear hx
      by_cases hq0 : q = 0
      · subst hq0
        cases hpl : plainS fm.fields f r
        · go_enter Try.func35, Try.ntmps35
          go_wp2_with fail
          refine (plain_any f r hfb (by omega) ((hF.alloc hB _)) (by simp; omega) hne (by omega) hV.kinds).mono ?_
          rw [hpl]
          rintro e w1 ⟨rfl, hb1⟩
          go_wp2_with fail
          go_ret
          exact ⟨ri (by first | rfl | exact hres'.symm), hb1.al⟩
        · have hfl : f = fm.fields.length := by
            apply Classical.byContradiction
            intro hne'
            simp [plainS, hne', HX.out] at hpl
          have HFL := Lib.hid hfl; clear hfl
          go_enter Try.func35, Try.ntmps35
          go_wp2_with fail
          refine (plain_any f r hfb (by omega) ((hF.alloc hB _)) (by simp; omega) hne (by omega) hV.kinds).mono ?_
          rw [hpl]
          rintro e w1 ⟨rfl, hb1⟩
          have k0 := cs_ext hb1 (w := w.alloc (Obj.cells #[Value.string fm.name, Value.slice fa fm.fields.length fcap] 42)) (cs_new (i := 0) rfl)
          have k1 := cs_ext hb1 (w := w.alloc (Obj.cells #[Value.string fm.name, Value.slice fa fm.fields.length fcap] 42)) (cs_new (i := 1) rfl)
          go_wp2_with fail
          refine (rstep_end f r b (by rw [← HFL.out])).mono ?_
          rintro e w2 ⟨rfl, hb2⟩
          go_wp2_with fail
          go_ret
          exact ⟨ri (by first | rfl | exact hres'.symm), hb1.al.trans hb2⟩
      · have e1 : ((q : Int) != 0) = true := by simp; omega
        go_enter Try.func35, Try.ntmps35
        go_wp2_with fail
        go_ret
        exact ⟨ri (by first | rfl | exact hres'.symm), (by repeat (first | exact Ext.refl _ | exact Ext.alloc _ _ | apply Ext.then_dr | apply Ext.then_drN | apply Ext.then_drN2 | (refine Ext.then_al ?_ _)))⟩
    | some x =>
      rw [hx] at hres'
      simp only at hres'
      have hlt := lt_of_get hx
      have hmem := List.mem_of_getElem? hx
      have hVx := hV.fld f x hx
      have hF0 := hF
      obtain ⟨fb, foff, rfl, hfb', hc⟩ := hF.get hx
      obtain ⟨c0, c1, c2, c3, c4, cw⟩ := hc
      have hfb2 : fb < w.heap.size := by omega
      by_cases hk5 : x.kind = 5
      · have e0 : (x.kind != 5) = false := by simp [hk5]
        rw [if_pos hk5] at hres'
        have hVn : ∃ j : Nat, x.n = j ∧ ∃ gm, t[j]? = some gm ∧ VPlain gm := by
          rcases hVx with h | h | h | h | h | h
          all_goals first | exact h.2 | (have := h.1; omega)
        obtain ⟨j, hj, gm, hgm, hVg⟩ := hVn
        have hgne := hVg.ne
        have hgle := hVg.le
        have hnG : (t.getD x.n.toNat default).fields = gm.fields := by simp [hj, hgm]
        rw [rNest, hnG] at hres'
        have HX := Lib.hid hx; clear hx
        clear hnG
        by_cases hr0 : r = 0
        · subst hr0
          rw [if_pos rfl] at hres'
          by_cases hq0 : q = 0
          · subst hq0
            by_cases hb0 : b = 0
            · subst hb0
              have HRS := Lib.hid hres'; clear hres'
              go_enter Try.func35, Try.ntmps35
              go_wp2_with fail
              go_ret
              exact ⟨ri (by rw [HRS.out]; simp), (by repeat (first | exact Ext.refl _ | exact Ext.alloc _ _ | apply Ext.then_dr | apply Ext.then_drN | apply Ext.then_drN2 | (refine Ext.then_al ?_ _)))⟩
            · have e2 : ((b : Int) == 0) = false := by simp; omega
              have HRS := Lib.hid hres'; clear hres'
              go_enter Try.func35, Try.ntmps35
              go_wp2_with fail
              refine (code_any _ _ _ _ (by omega) (by omega) (by omega) (by omega) (by omega) (by omega)).mono ?_
              rintro e w' ⟨rfl, rfl⟩
              go_wp2_with fail
              go_ret
              exact ⟨ri (by rw [HRS.out]; simp [hb0, stS]; omega), (by repeat (first | exact Ext.refl _ | exact Ext.alloc _ _ | apply Ext.then_dr | apply Ext.then_drN | apply Ext.then_drN2 | (refine Ext.then_al ?_ _)))⟩
          · have e1 : ((q : Int) != 0) = true := by simp; omega
            have HRS := Lib.hid hres'; clear hres'
            go_enter Try.func35, Try.ntmps35
            go_wp2_with fail
            go_ret
            exact ⟨ri (by rw [HRS.out]; simp [hq0]), (by repeat (first | exact Ext.refl _ | exact Ext.alloc _ _ | apply Ext.then_dr | apply Ext.then_drN | apply Ext.then_drN2 | (refine Ext.then_al ?_ _)))⟩
        · have e2 : ((r : Int) == 0) = false := by simp; omega
          rw [if_neg hr0] at hres'
          obtain ⟨tb', toff', ga, gcap, he, -, hgn, hgc, hG, -⟩ := hT.at hgm
          simp only [Option.some.injEq, Addr.mk.injEq, and_true] at he
          obtain ⟨rfl, rfl⟩ := he
          have hjn := lt_of_get hgm
          have hE2 : Ext w ((w.alloc (Obj.cells #[Value.string fm.name, Value.slice (some ⟨fb, foff, none⟩) fm.fields.length fcap] 42)).alloc (Obj.cells #[Value.string gm.name, Value.slice ga gm.fields.length gcap] 42)) := (by repeat (first | exact Ext.refl _ | exact Ext.alloc _ _ | apply Ext.then_dr | apply Ext.then_drN | apply Ext.then_drN2 | (refine Ext.then_al ?_ _)))
          have hG2 := hG.ext hB hE2
          have hB2 := hE2.size
          obtain ⟨q1, hq1⟩ : ∃ q1 : Nat, (q : Int) / 32 = q1 := ⟨q / 32, by omega⟩
          obtain ⟨q2, hq2⟩ : ∃ q2 : Nat, (q : Int) % 32 = q2 := ⟨q % 32, by omega⟩
          have hq1' : q / 32 = q1 := by omega
          have hq2' : q % 32 = q2 := by omega
          have hq1b : q1 ≤ 8 := by omega
          have hq2b : q2 ≤ 31 := by omega
          have hdv : IntKind.i64.wrap ((q : Int).tdiv 32) = q1 := by rw [IntWalk.i64_quo _ _ (by omega)]; exact hq1
          have hmd : (q : Int).tmod 32 = q2 := by rw [IntWalk.rem_in _ _ (by omega)]; exact hq2
          rw [hq1', hq2'] at hres'
          clear hq1' hq2'
          by_cases h255 : 255 < r
          · have e3 : decide ((255 : Int) < (r : Int)) = true := by simp; omega
            have HRS := Lib.hid hres'; clear hres'
            go_enter Try.func35, Try.ntmps35
            go_wp2_with fail
            go_ret
            exact ⟨ri (by rw [HRS.out, if_pos (Or.inl h255)]), (by repeat (first | exact Ext.refl _ | exact Ext.alloc _ _ | apply Ext.then_dr | apply Ext.then_drN | apply Ext.then_drN2 | (refine Ext.then_al ?_ _)))⟩
          · have e3 : decide ((255 : Int) < (r : Int)) = false := by simp; omega
            cases hpl : plainS gm.fields q1 q2
            · rw [if_pos (by right; left; exact hpl)] at hres'
              have HRS := Lib.hid hres'; clear hres'
              go_enter Try.func35, Try.ntmps35
              go_wp2_with fail
              refine (plain_any q1 q2 (by omega) (by omega) hG2 (by omega) hgne (by omega) (fun y hy => by rcases hVg.kinds y hy with h | h | h | h | h <;> simp [h])).mono ?_
              rw [hpl]
              rintro e w1 ⟨rfl, hb1⟩
              go_wp2_with fail
              go_ret
              exact ⟨ri HRS.out.symm, hE2.trans hb1⟩
            · by_cases hql : q1 = gm.fields.length
              · have e4 : ((q1 : Int) == (gm.fields.length : Int)) = true := by simp; omega
                rw [if_pos (by right; right; exact hql)] at hres'
                have HRS := Lib.hid hres'; clear hres'
                have HQL := Lib.hid hql; clear hql
                go_enter Try.func35, Try.ntmps35
                go_wp2_with fail
                refine (plain_any q1 q2 (by omega) (by omega) hG2 (by omega) hgne (by omega) (fun y hy => by rcases hVg.kinds y hy with h | h | h | h | h <;> simp [h])).mono ?_
                rw [hpl]
                rintro e w1 ⟨rfl, hb1⟩
                obtain ⟨hc1, -⟩ := hb1.cells
                simp only [World.size_alloc] at hc1
                have hs1 := hb1.size
                simp only [World.size_alloc] at hs1
                go_wp2_with fail
                go_ret
                exact ⟨ri HRS.out.symm, hE2.trans hb1⟩
              · have e4 : ((q1 : Int) == (gm.fields.length : Int)) = false := by simp; omega
                rw [if_neg (by simp [h255, hpl, hql])] at hres'
                have hlt2 : q1 < gm.fields.length := by
                  rcases Nat.lt_or_ge q1 gm.fields.length with h | h
                  · exact h
                  · exfalso
                    simp [plainS, hql, List.getElem?_eq_none h] at hpl
                obtain ⟨y, hy⟩ : ∃ y, gm.fields[q1]? = some y := ⟨_, List.getElem?_eq_getElem hlt2⟩
                have hky : y.kind = 1 ∧ q2 < y.bytes.size ∨ y.kind = 2 ∨ y.kind = 3 ∧ 0 ≤ y.n ∨ y.kind = 4 ∨ y.kind = 6 := by
                  have hpk : plainK y q2 = true := by
                    rw [plainS, if_neg hql, hy] at hpl; exact hpl
                  rcases hVg.fld q1 y hy with h | h | h | h
                  · refine .inl ⟨h.1, ?_⟩
                    simpa [plainK, h.1] using hpk
                  · exact .inr (.inl h.1)
                  · exact .inr (.inr (.inl ⟨h.1, h.2.1⟩))
                  · exact .inr (.inr (.inr (.inl h.1)))
                rw [hy] at hres'
                simp only at hres'
                have hxle := stepK_le y (f := q1) (r := q2) (by omega) (by omega) hb255
                obtain ⟨xn, hxn⟩ : ∃ xn, xn = stepK y q1 q2 b := ⟨_, rfl⟩
                rw [← hxn] at hres' hxle
                have HXN := Lib.hid hxn; clear hxn
                have HY := Lib.hid hy; clear hy
                have HQL := Lib.hid hql; clear hql
                have HRS := Lib.hid hres'; clear hres'
                go_enter Try.func35, Try.ntmps35
                go_wp2_with fail
                refine (plain_any q1 q2 (by omega) (by omega) hG2 (by omega) hgne (by omega) (fun y hy => by rcases hVg.kinds y hy with h | h | h | h | h <;> simp [h])).mono ?_
                rw [hpl]
                rintro e w1 ⟨rfl, hb1⟩
                obtain ⟨hc1, -⟩ := hb1.cells
                simp only [World.size_alloc] at hc1
                have hs1 := hb1.size
                simp only [World.size_alloc] at hs1
                go_wp2_with fail
                refine (rstep_any q1 q2 b (by omega) (by omega) hb255 (hG2.ext (by omega) hb1) (by omega) (by omega) HY.out hky).mono ?_
                rw [← HXN.out]
                rintro e w2 ⟨rfl, hb2⟩
                have hE : Ext w w2 := hE2.trans (hb1.trans hb2)
                have k1 : w2.cell? ⟨w.heap.size + 1, 1, none⟩ = some (.slice ga gm.fields.length gcap) := cs_ext hb2 (cs_ext hb1 (by rw [← World.size_alloc w (Obj.cells #[Value.string fm.name, Value.slice (some ⟨fb, foff, none⟩) fm.fields.length fcap] 42)]; exact cs_new rfl))
                by_cases hneg : xn < 0
                · go_wp2_with fail
                  go_ret
                  exact ⟨ri (by rw [HRS.out, if_pos (by omega)]), hE⟩
                · obtain ⟨g, hg⟩ : ∃ g : Nat, xn / 262144 = g := ⟨(xn / 262144).toNat, by omega⟩
                  obtain ⟨h, hh⟩ : ∃ h : Nat, xn / 256 % 1024 = h := ⟨(xn / 256 % 1024).toNat, by omega⟩
                  have hg' : xn / 256 / 1024 = g := by omega
                  have hgb : g ≤ 1000 := by omega
                  have hhb : h ≤ 1023 := by omega
                  have hrs2 := HRS.out
                  rw [if_neg hneg, hg, hh] at hrs2
                  have HRS2 := Lib.hid hrs2; clear hrs2
                  by_cases hr1 : r = 1 <;> by_cases hgl : g = gm.fields.length
                  · have e5 : ((r : Int) == 1) = true := by simp; omega
                    have e6 : ((g : Int) != (gm.fields.length : Int)) = false := by simp; omega
                    have HR1 := Lib.hid hr1; clear hr1
                    have HGL := Lib.hid hgl; clear hgl
                    go_wp2_with fail
                    refine (behind_any _ _ (by omega) (by omega)).mono ?_
                    rintro e w' ⟨rfl, rfl⟩
                    go_wp2_with fail
                    go_ret
                    exact ⟨ri (by rw [HRS2.out, if_pos HR1.out, if_neg (by simp [HGL.out])]; simp [stS]; omega), hE⟩
                  · have e5 : ((r : Int) == 1) = true := by simp; omega
                    have e6 : ((g : Int) != (gm.fields.length : Int)) = true := by simp; omega
                    have HR1 := Lib.hid hr1; clear hr1
                    have HGL := Lib.hid hgl; clear hgl
                    go_wp2_with fail
                    go_ret
                    exact ⟨ri (by rw [HRS2.out, if_pos HR1.out, if_pos (by have := HGL.out; omega)]), hE⟩
                  · have e5 : ((r : Int) == 1) = false := by simp; omega
                    have e6 : ((g : Int) == (gm.fields.length : Int)) = true := by simp; omega
                    have HR1 := Lib.hid hr1; clear hr1
                    have HGL := Lib.hid hgl; clear hgl
                    go_wp2_with fail
                    go_ret
                    exact ⟨ri (by rw [HRS2.out, if_neg HR1.out, if_pos (by simp [HGL.out])]), hE⟩
                  · have e5 : ((r : Int) == 1) = false := by simp; omega
                    have e6 : ((g : Int) == (gm.fields.length : Int)) = false := by simp; omega
                    have HR1 := Lib.hid hr1; clear hr1
                    have HGL := Lib.hid hgl; clear hgl
                    go_wp2_with fail
                    refine (code_any _ _ _ _ (by omega) (by omega) (by omega) (by omega) (by omega) (by omega)).mono ?_
                    rintro e w' ⟨rfl, rfl⟩
                    go_wp2_with fail
                    go_ret
                    exact ⟨ri (by rw [HRS2.out, if_neg HR1.out, if_neg (by have := HGL.out; omega)]; simp [stS]; omega), hE⟩
      · have e0 : (x.kind != 5) = true := by simp [hk5]
        rw [if_neg hk5] at hres'
        by_cases hq0 : q = 0
        · subst hq0
          cases hpl : plainS fm.fields f r
          · rw [if_pos (Or.inr hpl)] at hres'
            have HRS := Lib.hid hres'; clear hres'
            go_enter Try.func35, Try.ntmps35
            go_wp2_with fail
            refine (plain_any f r hfb (by omega) ((hF0.alloc hB _)) (by simp; omega) hne (by omega) hV.kinds).mono ?_
            rw [hpl]
            rintro e w1 ⟨rfl, hb1⟩
            go_wp2_with fail
            go_ret
            exact ⟨ri HRS.out.symm, hb1.al⟩
          · rw [if_neg (by simp [hpl])] at hres'
            have hkr : x.kind = 1 ∧ r < x.bytes.size ∨ x.kind = 2 ∨ x.kind = 3 ∧ 0 ≤ x.n ∨ x.kind = 4 ∨ x.kind = 6 := by
              have hpk : plainK x r = true := by
                rw [plainS, if_neg (by omega), hx] at hpl; exact hpl
              rcases hVx with h | h | h | h | h | h
              · refine .inl ⟨h.1, ?_⟩
                simpa [plainK, h.1] using hpk
              · exact .inr (.inl h.1)
              · exact .inr (.inr (.inl ⟨h.1, h.2.1⟩))
              · exact .inr (.inr (.inr (.inl h.1)))
              · exact .inr (.inr (.inr (.inr h.1)))
              · exact absurd h.1 hk5
            have HRS := Lib.hid hres'; clear hres'
            have HX := Lib.hid hx; clear hx
            go_enter Try.func35, Try.ntmps35
            go_wp2_with fail
            refine (plain_any f r hfb (by omega) ((hF0.alloc hB _)) (by simp; omega) hne (by omega) hV.kinds).mono ?_
            rw [hpl]
            rintro e w1 ⟨rfl, hb1⟩
            have k0 := cs_ext hb1 (w := w.alloc (Obj.cells #[Value.string fm.name, Value.slice (some ⟨fb, foff, none⟩) fm.fields.length fcap] 42)) (cs_new (i := 0) rfl)
            have k1 := cs_ext hb1 (w := w.alloc (Obj.cells #[Value.string fm.name, Value.slice (some ⟨fb, foff, none⟩) fm.fields.length fcap] 42)) (cs_new (i := 1) rfl)
            have hs1 := hb1.al.size
            go_wp2_with fail
            refine (rstep_any f r b (by omega) (by omega) hb255 (hF0.ext hB hb1.al) (by omega) (by omega) HX.out hkr).mono ?_
            rintro e w2 ⟨rfl, hb2⟩
            go_wp2_with fail
            go_ret
            exact ⟨ri HRS.out.symm, hb1.al.trans hb2⟩
        · have e1 : ((q : Int) != 0) = true := by simp; omega
          rw [if_pos (by left; omega)] at hres'
          have HRS := Lib.hid hres'; clear hres'
          go_enter Try.func35, Try.ntmps35
          go_wp2_with fail
          go_ret
          exact ⟨ri HRS.out.symm, (by repeat (first | exact Ext.refl _ | exact Ext.alloc _ _ | apply Ext.then_dr | apply Ext.then_drN | apply Ext.then_drN2 | (refine Ext.then_al ?_ _)))⟩

end Go.Proofs.Ythoelnoahfedmaa
