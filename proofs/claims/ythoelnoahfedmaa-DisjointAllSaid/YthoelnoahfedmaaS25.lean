/- Tagged, and the walk of the law All. -/
import Derived.Test.YthoelnoahfedmaaS24
namespace Go.Proofs.Ythoelnoahfedmaa
open Go Go.RowKit
set_option linter.unusedVariables false
set_option linter.unusedSimpArgs false

/-- the first field of a format, in memory -/
theorem TabA.head {w : World} {B : Nat} {a : Option Addr} {t : List Fmt} {i : Nat} {fm : Fmt} {x : Fld} (hT : TabA w B a t) (hi : t[i]? = some fm) (hx : fm.fields[0]? = some x) :
    ∃ tb toff fb foff fcap, a = some ⟨tb, toff, none⟩ ∧ w.cell? ⟨tb, toff + i * 2 + 1, none⟩ = some (.slice (some ⟨fb, foff, none⟩) fm.fields.length fcap) ∧ FldAt w fb foff x := by
  obtain ⟨tb, toff, fa, fcap, rfl, -, -, hc, hF, -⟩ := hT.at hi
  obtain ⟨fb, foff, rfl, -, hf⟩ := hF.get hx
  exact ⟨tb, toff, fb, foff, fcap, rfl, hc, by simpa using hf⟩

set_option maxRecDepth 100000 in
set_option maxHeartbeats 1600000 in
theorem Tagged_any {w : World} {B : Nat} {a : Option Addr} {t : List Fmt} {cap : Nat} (hT : TabA w B a t) (hB : B ≤ w.heap.size) (hcap : t.length ≤ cap) (hcap2 : cap ≤ 9223372036854775807) :
    Calls Try.prog 25 #[.slice a t.length cap] w fun e w' => ∃ b, e = .returned (.bool b) ∧ Ext w w' ∧ (b = true → TagP t) := by
  have hn63 := hT.1
  unfold maxLen at hn63
  obtain ⟨v0, hv0⟩ : ∃ v0, v0 = validT t := ⟨_, rfl⟩
  have HV0 := Lib.hid hv0
  have hcon := Valid17_any hT hB hcap hcap2
  rw [← hv0] at hcon
  have HT := Lib.hid hT
  clear hv0 hT
  go_enter Try.func25, Try.ntmps25
  go_wp2_with fail
  refine hcon.mono ?_
  rintro e w1 ⟨rfl, hE1⟩
  have HE1 := Lib.hid hE1
  clear hE1 hcon
  by_cases hz : v0 = 0
  · subst hz
    have HHD : Hid (∀ (i : Nat) fm, t[i]? = some fm → ∃ x, fm.fields[0]? = some x ∧ 0 < fm.fields.length) := Lib.hid (fun i fm hi => by
      have hne := (valid_VFmt HV0.out.symm hi).ne
      have hpos : 0 < fm.fields.length := List.length_pos_iff.2 hne
      exact ⟨_, List.getElem?_eq_getElem hpos, hpos⟩)
    go_wp2_with fail
    go_loopw [3] (fun kv wr => ∃ i : Nat, kv = .int .i64 i ∧ i ≤ t.length ∧ Ext w wr ∧ (∀ (q : Nat) fm, q < i → t[q]? = some fm → ∃ x, fm.fields[0]? = some x ∧ x.kind = 1) ∧
      (∀ (k q : Nat) fk fi xk xi, k < q → q < i → t[k]? = some fk → t[q]? = some fi → fk.fields[0]? = some xk → fi.fields[0]? = some xi → xi.bytes.size = xk.bytes.size ∧ xi.bytes ≠ xk.bytes)) (fun kv _ => t.length - (intOf kv).toNat)
    case atStart => exact ⟨0, rfl, by omega, HE1.out, fun q fm h => by omega, fun k q fk fi xk xi h1 h2 => by omega⟩
    case round =>
      obtain ⟨i, rfl, hi, hE, hk1, hp1⟩ := hrel
      have HE := Lib.hid hE
      have HK1 := Lib.hid hk1
      have HP1 := Lib.hid hp1
      clear hE hk1 hp1
      by_cases hlt : i < t.length
      · have e1 : decide ((i : Int) < (t.length : Int)) = true := decide_eq_true (by omega)
        obtain ⟨fm, hfm⟩ : ∃ fm, t[i]? = some fm := ⟨_, List.getElem?_eq_getElem hlt⟩
        obtain ⟨x, hx, hpos⟩ := HHD.out i fm hfm
        obtain ⟨tb, toff, fb, foff, fcap, rfl, hc, hf⟩ := HT.out.head hfm hx
        have hc := cs_ext HE.out hc
        obtain ⟨c0, c1, c2, c3, c4, cw⟩ := hf
        have c0 := cs_ext HE.out c0
        have c1 := cs_ext HE.out c1
        have c2 := cs_ext HE.out c2
        have c3 := cs_ext HE.out c3
        have c4 := cs_ext HE.out c4
        have hbs : x.bytes.size ≤ maxLen := cw.bytes
        unfold maxLen at hbs
        have HFM := Lib.hid hfm
        have HX := Lib.hid hx
        clear hfm hx cw
        go_upto_region 7 with fail
        obtain ⟨pb, hpb⟩ : ∃ pb, pb = wr.heap.size := ⟨_, rfl⟩
        obtain ⟨w2, hw2⟩ : ∃ w2, w2 = wr.alloc (.cells #[.int .i64 x.kind, .string x.bytes, .int .i64 x.n, .int .i64 x.low, .int .i64 x.high] 39) := ⟨_, rfl⟩
        rw [← hw2, ← hpb]
        have HE2 : Hid (Ext w w2) := Lib.hid (by rw [hw2]; exact HE.out.then_al _)
        have p0 : w2.cell? ⟨pb, 0, none⟩ = some (.int .i64 x.kind) := by rw [hw2, hpb]; exact cs_new rfl
        have P1 : Hid (w2.cell? ⟨pb, 1, none⟩ = some (.string x.bytes)) := Lib.hid (by rw [hw2, hpb]; exact cs_new rfl)
        clear hw2 hpb hc c0 c1 c2 c3 c4
        by_cases hk : x.kind = 1
        · have e2 : (x.kind != 1) = false := by simp [hk]
          have HK := Lib.hid hk
          clear hk
          go_wp2_with fail
          clear p0
          obtain ⟨wo, hwo⟩ : ∃ wo : World, wo = wr := ⟨_, rfl⟩
          subst hwo
          go_loopw [5] (fun kv wr => ∃ k : Nat, kv = .int .i64 k ∧ k ≤ i ∧ Ext w2 wr ∧ (∀ (q : Nat) fk xk, q < k → t[q]? = some fk → fk.fields[0]? = some xk → x.bytes.size = xk.bytes.size ∧ x.bytes ≠ xk.bytes)) (fun kv _ => i - (intOf kv).toNat)
          case atStart => exact ⟨0, rfl, by omega, Ext.refl _, fun q fk xk h => by omega⟩
          case round =>
            obtain ⟨k, rfl, hki, hE3, hq⟩ := hrel
            have HE3 := Lib.hid hE3
            have HQ := Lib.hid hq
            clear hE3 hq
            by_cases hlt2 : k < i
            · have e3 : decide ((k : Int) < (i : Int)) = true := decide_eq_true (by omega)
              have hkt : k < t.length := by omega
              obtain ⟨gm, hgm⟩ : ∃ gm, t[k]? = some gm := ⟨_, List.getElem?_eq_getElem hkt⟩
              obtain ⟨y, hy, hpos2⟩ := HHD.out k gm hgm
              obtain ⟨tb', toff', gb, goff, gcap, e', hc, hf⟩ := HT.out.head hgm hy
              cases e'
              have hEw := HE2.out.trans HE3.out
              have hc := cs_ext hEw hc
              obtain ⟨c0, c1, c2, c3, c4, cw⟩ := hf
              have c0 := cs_ext hEw c0
              have c1 := cs_ext hEw c1
              have c2 := cs_ext hEw c2
              have c3 := cs_ext hEw c3
              have c4 := cs_ext hEw c4
              have hbs2 : y.bytes.size ≤ maxLen := cw.bytes
              unfold maxLen at hbs2
              have HEW := Lib.hid hEw
              have HGM := Lib.hid hgm
              have HY := Lib.hid hy
              clear hgm hy cw hEw
              go_upto_region 13 with fail
              obtain ⟨qb, hqb⟩ : ∃ qb, qb = wr.heap.size := ⟨_, rfl⟩
              obtain ⟨w4, hw4⟩ : ∃ w4, w4 = wr.alloc (.cells #[.int .i64 y.kind, .string y.bytes, .int .i64 y.n, .int .i64 y.low, .int .i64 y.high] 39) := ⟨_, rfl⟩
              rw [← hw4, ← hqb]
              have HE4 : Hid (Ext w2 w4) := Lib.hid (by rw [hw4]; exact HE3.out.then_al _)
              have q1 : w4.cell? ⟨qb, 1, none⟩ = some (.string y.bytes) := by rw [hw4, hqb]; exact cs_new rfl
              have p1 := cs_ext HE4.out P1.out
              clear hw4 hqb hc c0 c1 c2 c3 c4
              by_cases hs : x.bytes.size = y.bytes.size
              · have e4 : ((x.bytes.size : Int) != (y.bytes.size : Int)) = false := by simp [hs]
                have HS := Lib.hid hs
                by_cases he : x.bytes = y.bytes
                · have e5 : (x.bytes == y.bytes) = true := ba_eq he
                  have e5' : (x.bytes.toList == y.bytes.toList) = true := by rw [← beq_toListBytes]; exact e5
                  clear he
                  go_wp2_with fail
                  go_ret
                  exact ⟨false, rfl, HE2.out.trans HE4.out, fun h => by cases h⟩
                · have e5 : (x.bytes == y.bytes) = false := ba_ne he
                  have e5' : (x.bytes.toList == y.bytes.toList) = false := by rw [← beq_toListBytes]; exact e5
                  have HNE := Lib.hid he
                  clear he
                  go_wp2_with fail
                  go_roundw
                  case rel => exact ⟨k + 1, by go_num, by omega, HE4.out, fun q fk xk h h1 h2 => by
                    rcases Nat.lt_or_ge q k with h' | h'
                    · exact HQ.out q fk xk h' h1 h2
                    · have : q = k := by omega
                      subst this
                      rw [HGM.out] at h1; cases h1
                      rw [HY.out] at h2; cases h2
                      exact ⟨HS.out, HNE.out⟩⟩
                  case measure => simp [intOf]; omega
              · have e4 : ((x.bytes.size : Int) != (y.bytes.size : Int)) = true := by simp; omega
                go_wp2_with fail
                go_ret
                exact ⟨false, rfl, HE2.out.trans HE4.out, fun h => by cases h⟩
            · have e3 : decide ((k : Int) < (i : Int)) = false := decide_eq_false (by omega)
              go_wp2_with fail
              go_roundw
              case rel => exact ⟨i + 1, by go_num, by omega, HE2.out.trans HE3.out, fun q fm' h h1 => by
                rcases Nat.lt_or_ge q i with h' | h'
                · exact HK1.out q fm' h' h1
                · have : q = i := by omega
                  subst this
                  rw [HFM.out] at h1; cases h1
                  exact ⟨x, HX.out, HK.out⟩, fun k' q fk fi xk xi h h2 h3 h4 h5 h6 => by
                rcases Nat.lt_or_ge q i with h' | h'
                · exact HP1.out k' q fk fi xk xi h h' h3 h4 h5 h6
                · have : q = i := by omega
                  subst this
                  rw [HFM.out] at h4; cases h4
                  rw [HX.out] at h6; cases h6
                  exact HQ.out k' fk xk (by omega) h3 h5⟩
              case measure => simp [intOf]; omega
        · have e2 : (x.kind != 1) = true := by simp [hk]
          go_wp2_with fail
          go_ret
          exact ⟨false, rfl, HE2.out, fun h => by cases h⟩
      · have e1 : decide ((i : Int) < (t.length : Int)) = false := decide_eq_false (by omega)
        have HTAG : Hid (TagP t) := Lib.hid ⟨fun q fm h => HK1.out q fm (by have := (List.getElem?_eq_some_iff.1 h).1; omega) h, fun k q fk fi xk xi h1 h2 h3 h4 h5 => HP1.out k q fk fi xk xi h1 (by have := (List.getElem?_eq_some_iff.1 h3).1; omega) h2 h3 h4 h5⟩
        go_wp2_with fail
        go_ret
        exact ⟨true, rfl, HE.out, fun _ => HTAG.out⟩
  · have e1 : (v0 == 0) = false := beq_eq_false_iff_ne.2 hz
    go_wp2_with fail
    go_ret
    exact ⟨false, rfl, HE1.out, fun h => by cases h⟩

set_option maxRecDepth 100000 in
set_option maxHeartbeats 1600000 in
theorem law_all {w : World} {a : Option Addr} {t : List Fmt} {cap : Nat} (hT : TabA w w.heap.size a t) (hcap : t.length ≤ cap) (hcap2 : cap ≤ 9223372036854775807) :
    Calls Try.prog 7 #[.slice a t.length cap] w fun e w' => e = .returned (.bool true) ∧ Ext w w' := by
  have HF := Lib.hid (fun (w' : World) (hE : Ext w w') => Few_any (cap := cap) (hT.ext (Nat.le_refl _) hE) hE.size)
  have HS := Lib.hid (fun (w' : World) (hE : Ext w w') => All_any (hT.ext (Nat.le_refl _) hE) hE.size hcap hcap2)
  have HR := Lib.hid (fun (w' : World) (hE : Ext w w') => rAll_any (hT.ext (Nat.le_refl _) hE) hE.size hcap hcap2)
  obtain ⟨v0, hv0⟩ : ∃ v0, v0 = validT t := ⟨_, rfl⟩
  have hval := fun (w' : World) (hE : Ext w w') => Valid17_any (hT.ext (Nat.le_refl _) hE) hE.size hcap hcap2
  rw [← hv0] at hval
  have HV := Lib.hid hval
  have HV0 := Lib.hid hv0
  have HG := Lib.hid (fun (w' : World) (hE : Ext w w') => Tagged_any (hT.ext (Nat.le_refl _) hE) hE.size hcap hcap2)
  clear hT hv0 hval
  go_enter Try.func7, Try.ntmps7
  go_wp2_with fail
  refine awake_any.mono ?_
  rintro e w1 ⟨rfl, hE1⟩
  obtain ⟨few, hfew⟩ : ∃ b, b = fewS t := ⟨_, rfl⟩
  have HFW := Lib.hid hfew
  have H1 := Lib.hid hE1
  clear hfew hE1
  go_wp2_with fail
  refine (HF.out _ H1.out).mono ?_
  rintro e w2 ⟨rfl, hE2⟩
  rw [← HFW.out]
  have H2 := Lib.hid (H1.out.trans hE2)
  clear hE2
  cases few
  · go_wp2_with fail
    refine awake_any.mono ?_
    rintro e w3 ⟨rfl, hE3⟩
    have H3 := Lib.hid (H2.out.trans hE3)
    clear hE3
    go_wp2_with fail
    go_ret
    exact ⟨rfl, H3.out⟩
  · go_wp2_with fail
    refine (HS.out _ H2.out).mono ?_
    rintro e w3 ⟨k, l, er, rfl, hE3, hR3⟩
    have H3 := Lib.hid (H2.out.trans hE3)
    have HR3 := Lib.hid hR3
    clear hE3 hR3
    go_wp2_with fail
    refine (HR.out _ H3.out).mono ?_
    rintro e w4 ⟨k', l', er', rfl, hE4, hR4⟩
    have H4 := Lib.hid (H3.out.trans hE4)
    obtain ⟨rfl, rfl, rfl⟩ := HR3.out.unique hR4
    clear hE4 hR4
    go_wp2_with fail
    refine (HV.out _ H4.out).mono ?_
    rintro e w5 ⟨rfl, hE5⟩
    have H5 := Lib.hid (H4.out.trans hE5)
    clear hE5
    by_cases hz : v0 = 0
    · subst hz
      go_wp2_with fail
      refine (HG.out _ H5.out).mono ?_
      rintro e w6 ⟨b, rfl, hE6, ht⟩
      have H6 := Lib.hid (H5.out.trans hE6)
      have HTT := Lib.hid ht
      clear hE6 ht
      cases b
      · go_wp2_with fail
        go_ret
        exact ⟨rfl, H6.out⟩
      · have hcs := all_tagged HR3.out HV0.out.symm (HTT.out rfl)
        clear HR3
        rcases hcs with rfl | rfl
        · go_wp2_with fail
          go_ret
          exact ⟨rfl, H6.out⟩
        · go_wp2_with fail
          go_ret
          exact ⟨rfl, H6.out⟩
    · have e1 : (v0 == 0) = false := beq_eq_false_iff_ne.2 hz
      have e2 : (v0 != 0) = true := by simp [hz]
      go_wp2_with fail
      go_ret
      exact ⟨rfl, H5.out⟩

end Go.Proofs.Ythoelnoahfedmaa
