/- Begin. -/
import Derived.Test.YthoelnoahfedmaaS30
namespace Go.Proofs.Ythoelnoahfedmaa
open Go Go.RowKit
set_option linter.unusedVariables false
set_option linter.unusedSimpArgs false

/-- what Begin looks for: the pair's first state accepts, and its second one leads on to one that accepts -/
def BegP (t : List Fmt) (F G : List Fld) (more : Bool) (p : Int × Int) : Prop := rAcc F p.1 = true ∧ LiveS (stF t G) (rAcc G) more p.2
/-- what Begin answers -/
def BeginR (t : List Fmt) (i j : Int) (more : Bool) (b : Bool) (er : Int) : Prop :=
  (errS t [i, j] ≠ 0 ∧ b = false ∧ er = errS t [i, j]) ∨ (errS t [i, j] = 0 ∧ ∃ (i' j' : Nat) (fm gm : Fmt), i = i' ∧ j = j' ∧ t[i']? = some fm ∧ t[j']? = some gm ∧ VFmt t fm ∧ VFmt t gm ∧
    ((Over (stP t fm.fields gm.fields) (0, 0) ∧ b = false ∧ er = 3) ∨ ∃ L, Full (stP t fm.fields gm.fields) (0, 0) L ∧ L.length ≤ 20000 ∧ er = 0 ∧ ((b = true ∧ ∃ p ∈ L, BegP t fm.fields gm.fields more p) ∨ (b = false ∧ ∀ p ∈ L, ¬ BegP t fm.fields gm.fields more p))))

theorem second_in {t : List Fmt} {F G : List Fld} {L : List (Int × Int)} {M : List Int} (hL : Full (stP t F G) (0, 0) L) (hM : Full (stF t G) 0 M) {p : Int × Int} (hp : p ∈ L) : p.2 ∈ M := by
  obtain ⟨r, h1, h2⟩ := hL.reach hp
  exact hM.run r 0 p.2 hM.start h2 (run_pair r (0, 0) p h1).2

set_option maxRecDepth 100000 in
set_option maxHeartbeats 1600000 in
theorem Begin_any {w : World} {B : Nat} {a : Option Addr} {t : List Fmt} {cap : Nat} {i j : Int} {more : Bool} (hT : TabA w B a t) (hB : B ≤ w.heap.size) (hcap : t.length ≤ cap) (hcap2 : cap ≤ 9223372036854775807) :
    Calls Try.prog 19 #[.slice a t.length cap, .int .i64 i, .int .i64 j, .bool more] w fun e w' => ∃ b er, e = .returned (.tuple #[.bool b, .int .i64 er]) ∧ Ext w w' ∧ BeginR t i j more b er := by
  obtain ⟨v0, hv0⟩ : ∃ v0, v0 = errS t [i, j] := ⟨_, rfl⟩
  have HV0 := Lib.hid hv0
  obtain ⟨md, hmd⟩ : ∃ md : Bool, md = more := ⟨_, rfl⟩
  have HMD := Lib.hid hmd
  have hcon := Error_any (la := some ⟨w.heap.size, 0, none⟩) (lcap := 2) (l := [i, j]) (hT.alloc hB (.cells #[.int .i64 i, .int .i64 j] 3)) (by simp; omega) hcap hcap2 ints_two (by simp)
  rw [← hv0] at hcon
  clear hv0
  go_enter Try.func19, Try.ntmps19
  go_wp2_with fail
  refine hcon.mono ?_
  rintro e w1 ⟨rfl, hb0⟩
  have hb1 : Ext w w1 := hb0.al
  clear hb0
  by_cases hz : v0 = 0
  · subst hz
    obtain ⟨hv, hix⟩ := errS_zero HV0.out.symm
    obtain ⟨h0i, hit⟩ := hix i (by simp)
    obtain ⟨h0j, hjt⟩ := hix j (by simp)
    obtain ⟨i', rfl⟩ : ∃ i' : Nat, i = i' := ⟨i.toNat, by omega⟩
    obtain ⟨j', rfl⟩ : ∃ j' : Nat, j = j' := ⟨j.toNat, by omega⟩
    obtain ⟨fm, hfm⟩ : ∃ fm, t[i']? = some fm := ⟨_, List.getElem?_eq_getElem (by omega)⟩
    obtain ⟨gm, hgm⟩ : ∃ gm, t[j']? = some gm := ⟨_, List.getElem?_eq_getElem (by omega)⟩
    have hVf := valid_VFmt hv hfm
    have hVg := valid_VFmt hv hgm
    obtain ⟨tb, toff, rfl, -⟩ := hT.2 (ne_nil_of_get hfm)
    have hcon2 := pairs_any (w := w1) (cap := cap) (hT.ext hB hb1) (by have := hb1.size; omega) hfm hgm hVf hVg
    have hfin : ∀ b er, ((Over (stP t fm.fields gm.fields) (0, 0) ∧ b = false ∧ er = 3) ∨ ∃ L, Full (stP t fm.fields gm.fields) (0, 0) L ∧ L.length ≤ 20000 ∧ er = 0 ∧ ((b = true ∧ ∃ p ∈ L, BegP t fm.fields gm.fields md p) ∨ (b = false ∧ ∀ p ∈ L, ¬ BegP t fm.fields gm.fields md p))) → BeginR t i' j' more b er :=
      fun b er h => by
        rw [hmd] at h
        exact .inr ⟨HV0.out.symm, i', j', fm, gm, rfl, rfl, hfm, hgm, hVf, hVg, h⟩
    have hcA := fun (w' : World) (hE : Ext w w') (s : Int) (h1 : s ≤ 9223372036854775807) (h2 : -9223372036854775808 ≤ s) => Accepts_any (cap := cap) s h1 h2 (hT.ext hB hE) (by have := hE.size; omega) hfm hVf.ne (by have := hVf.le; omega)
    have hcL := fun (w' : World) (hE : Ext w w') (s : Int) (hs : (s == 0) = !md) => live_any (more := md) (cap := cap) hs (hT.ext hB hE) (by have := hE.size; omega) hgm hVg
    have hsm : ∀ L, Full (stP t fm.fields gm.fields) (0, 0) L → ∀ x ∈ L, 0 ≤ x.1 ∧ x.1 ≤ 40000000 ∧ 0 ≤ x.2 ∧ x.2 ≤ 40000000 := fun L hL x hx => by
      obtain ⟨k, rfl, -⟩ := hL
      exact levP_small (by have := hVf.le; omega) (by have := hVg.le; omega) x hx
    have HFIN := Lib.hid hfin
    have HCA := Lib.hid hcA
    have HCL := Lib.hid hcL
    have HC2 := Lib.hid hcon2
    have HB1 := Lib.hid hb1
    clear hfin hcA hcL hcon2 hb1 hcon hv hix hfm hgm hT hVf hVg hmd
    go_wp2_with fail
    refine HC2.out.mono ?_
    rintro e w2 ⟨v, er, rfl, hE2, hP⟩
    have HB2 := Lib.hid (HB1.out.trans hE2)
    clear hE2
    rcases hP with ⟨hO, rfl, rfl⟩ | ⟨R, hF, hL, rfl, hO⟩
    · have HO := Lib.hid hO
      clear hO hsm
      go_wp2_with fail
      go_ret2
      exact ⟨_, _, rfl, HB2.out, HFIN.out _ _ (.inl ⟨HO.out, rfl, rfl⟩)⟩
    · have hRs := hsm _ hF
      have hpos : 0 < R.length := by have := List.length_pos_of_mem hF.start; simpa using this
      obtain ⟨gR, capR, rfl, hcR, -⟩ := row2_slice hO hpos
      have hcells : ∀ (k : Nat) (x : Rch), R[k]? = some x → w2.cell? ⟨gR, k * 4, none⟩ = some (.int .i64 x.p.1) ∧ w2.cell? ⟨gR, k * 4 + 1, none⟩ = some (.int .i64 x.p.2) := fun k x hk => by
        obtain ⟨g', c', e, -, -, -, hc⟩ := rowN_at (n := 4) (f := encR) (fun _ => rfl) hO hk
        cases e
        exact ⟨hc 0 _ rfl, hc 1 _ rfl⟩
      have HF := Lib.hid hF
      have HC := Lib.hid hcells
      have HRS := Lib.hid hRs
      clear hF hcells hRs hO hsm hpos
      cases more
      · go_wp2_with fail
        refine (HCL.out _ HB2.out _ (by rw [HMD.out]; rfl)).mono ?_
        rintro e w3 ⟨ob, O, LL, rfl, hE3, ⟨n3, hM3⟩, hFL, hOL⟩
        have HB3 := Lib.hid (HB2.out.trans hE3)
        have HBW := Lib.hid hE3
        have HMAP := Lib.hid hM3
        have HON : Hid (∀ (k : Nat) (x : Rch), R[k]? = some x → (x.p.2 ∈ O ↔ LiveS (stF t gm.fields) (rAcc gm.fields) md x.p.2)) := Lib.hid (fun k x hk => hOL _ (second_in HF.out hFL (List.mem_map.2 ⟨x, List.mem_of_getElem? hk, rfl⟩)))
        clear hE3 hM3 hFL hOL
        go_wp2_with fail
        go_loopw [15] (fun kv wr => ∃ k : Nat, kv = .int .i64 k ∧ k ≤ R.length ∧ (∀ (k' : Nat) (x : Rch), k' < k → R[k']? = some x → ¬ BegP t fm.fields gm.fields md x.p) ∧ Ext w3 wr) (fun kv _ => R.length - (intOf kv).toNat)
        case atStart => exact ⟨0, rfl, by omega, fun k' x h => by omega, Ext.refl _⟩
        case round =>
          obtain ⟨k, rfl, hk, hall, hE⟩ := hrel
          have HALL := Lib.hid hall
          clear hall
          by_cases hlt : k < R.length
          · obtain ⟨x, hx⟩ : ∃ x, R[k]? = some x := ⟨_, List.getElem?_eq_getElem hlt⟩
            obtain ⟨y0, y1⟩ := HC.out k x hx
            have y0 := cs_ext (HBW.out.trans hE) y0
            have hxs := HRS.out x.p (List.mem_map.2 ⟨x, List.mem_of_getElem? hx, rfl⟩)
            obtain ⟨b1, hb1⟩ : ∃ b1, b1 = rAcc fm.fields x.p.1 := ⟨_, rfl⟩
            have hc1 := HCA.out wr (HB3.out.trans hE) x.p.1 (by omega) (by omega)
            rw [← hb1] at hc1
            have hI : I64 x.p.2 := ⟨by omega, by omega⟩
            have hon := HON.out k x hx
            have HON1 := Lib.hid hon
            have HBO := Lib.hid hb1
            have HX := Lib.hid hx
            have HE := Lib.hid hE
            have HC1 := Lib.hid hc1
            have Y1 := Lib.hid y1
            clear hx hE hc1 hb1 y1 hon
            have NEXT : ∀ wz : World, Ext w3 wz → ¬ BegP t fm.fields gm.fields md x.p → ∃ k1 : Nat, Value.int .i64 ((k : Int) + 1) = .int .i64 k1 ∧ k1 ≤ R.length ∧ (∀ (k' : Nat) (x : Rch), k' < k1 → R[k']? = some x → ¬ BegP t fm.fields gm.fields md x.p) ∧ Ext w3 wz :=
              fun wz h1 h2 => ⟨k + 1, by go_num, by omega, fun k' y h hy => by
                rcases Nat.lt_or_ge k' k with h' | h'
                · exact HALL.out k' y h' hy
                · have : k' = k := by omega
                  subst this
                  rw [HX.out] at hy; cases hy; exact h2, h1⟩
            have HNEXT := Lib.hid NEXT
            clear NEXT
            go_wp2_with fail
            refine HC1.out.mono ?_
            rintro e w4 ⟨rfl, hE4⟩
            have HE4 := Lib.hid (HE.out.trans hE4)
            clear y0 hE4
            have y1 := cs_ext (HBW.out.trans HE4.out) Y1.out
            cases b1
            · have HR := Lib.hid (HNEXT.out w4 HE4.out (fun h => by have := h.1; rw [← HBO.out] at this; cases this))
              clear y1
              go_wp2_with fail
              go_roundw
              case rel => exact HR.out
              case measure => simp [intOf]; omega
            · have hlk : (Instr.lookup 72 (.map (some ob)) (.int .i64 x.p.2) false).run Try.prog w4 = .ok (.bool (decide (x.p.2 ∈ O))) w4 := by
                have h0 := (HMAP.out.ext HE4.out).look law3 key3 Try.underlying72 (zero4 w4) ⟨x.p.2, hI⟩ false
                simp only [inB_val] at h0
                exact h0
              by_cases hmem : x.p.2 ∈ O
              · rw [decide_eq_true hmem] at hlk
                have HLV := Lib.hid (HON1.out.1 hmem)
                clear hmem
                go_wp2_with fail
                go_ret2
                exact ⟨_, _, rfl, HB3.out.trans HE4.out, HFIN.out _ _ (.inr ⟨_, HF.out, by simpa using hL, rfl, .inl ⟨rfl, x.p, List.mem_map.2 ⟨x, List.mem_of_getElem? HX.out, rfl⟩, HBO.out.symm, HLV.out⟩⟩)⟩
              · rw [decide_eq_false hmem] at hlk
                have HR := Lib.hid (HNEXT.out w4 HE4.out (fun h => hmem (HON1.out.2 h.2)))
                clear hmem
                go_wp2_with fail
                go_roundw
                case rel => exact HR.out
                case measure => simp [intOf]; omega
          · have HNO : Hid (∀ p ∈ R.map (·.p), ¬ BegP t fm.fields gm.fields md p) := Lib.hid (fun p hp => by
              obtain ⟨y, hy, rfl⟩ := List.mem_map.1 hp
              obtain ⟨k', hk'⟩ := List.mem_iff_getElem?.1 hy
              exact HALL.out k' y (by have := (List.getElem?_eq_some_iff.1 hk').1; omega) hk')
            have HE := Lib.hid hE
            clear hE
            go_wp2_with fail
            go_ret2
            exact ⟨_, _, rfl, HB3.out.trans HE.out, HFIN.out _ _ (.inr ⟨_, HF.out, by simpa using hL, rfl, .inr ⟨rfl, HNO.out⟩⟩)⟩
      · go_wp2_with fail
        refine (HCL.out _ HB2.out _ (by rw [HMD.out]; rfl)).mono ?_
        rintro e w3 ⟨ob, O, LL, rfl, hE3, ⟨n3, hM3⟩, hFL, hOL⟩
        have HB3 := Lib.hid (HB2.out.trans hE3)
        have HBW := Lib.hid hE3
        have HMAP := Lib.hid hM3
        have HON : Hid (∀ (k : Nat) (x : Rch), R[k]? = some x → (x.p.2 ∈ O ↔ LiveS (stF t gm.fields) (rAcc gm.fields) md x.p.2)) := Lib.hid (fun k x hk => hOL _ (second_in HF.out hFL (List.mem_map.2 ⟨x, List.mem_of_getElem? hk, rfl⟩)))
        clear hE3 hM3 hFL hOL
        go_wp2_with fail
        go_loopw [15] (fun kv wr => ∃ k : Nat, kv = .int .i64 k ∧ k ≤ R.length ∧ (∀ (k' : Nat) (x : Rch), k' < k → R[k']? = some x → ¬ BegP t fm.fields gm.fields md x.p) ∧ Ext w3 wr) (fun kv _ => R.length - (intOf kv).toNat)
        case atStart => exact ⟨0, rfl, by omega, fun k' x h => by omega, Ext.refl _⟩
        case round =>
          obtain ⟨k, rfl, hk, hall, hE⟩ := hrel
          have HALL := Lib.hid hall
          clear hall
          by_cases hlt : k < R.length
          · obtain ⟨x, hx⟩ : ∃ x, R[k]? = some x := ⟨_, List.getElem?_eq_getElem hlt⟩
            obtain ⟨y0, y1⟩ := HC.out k x hx
            have y0 := cs_ext (HBW.out.trans hE) y0
            have hxs := HRS.out x.p (List.mem_map.2 ⟨x, List.mem_of_getElem? hx, rfl⟩)
            obtain ⟨b1, hb1⟩ : ∃ b1, b1 = rAcc fm.fields x.p.1 := ⟨_, rfl⟩
            have hc1 := HCA.out wr (HB3.out.trans hE) x.p.1 (by omega) (by omega)
            rw [← hb1] at hc1
            have hI : I64 x.p.2 := ⟨by omega, by omega⟩
            have hon := HON.out k x hx
            have HON1 := Lib.hid hon
            have HBO := Lib.hid hb1
            have HX := Lib.hid hx
            have HE := Lib.hid hE
            have HC1 := Lib.hid hc1
            have Y1 := Lib.hid y1
            clear hx hE hc1 hb1 y1 hon
            have NEXT : ∀ wz : World, Ext w3 wz → ¬ BegP t fm.fields gm.fields md x.p → ∃ k1 : Nat, Value.int .i64 ((k : Int) + 1) = .int .i64 k1 ∧ k1 ≤ R.length ∧ (∀ (k' : Nat) (x : Rch), k' < k1 → R[k']? = some x → ¬ BegP t fm.fields gm.fields md x.p) ∧ Ext w3 wz :=
              fun wz h1 h2 => ⟨k + 1, by go_num, by omega, fun k' y h hy => by
                rcases Nat.lt_or_ge k' k with h' | h'
                · exact HALL.out k' y h' hy
                · have : k' = k := by omega
                  subst this
                  rw [HX.out] at hy; cases hy; exact h2, h1⟩
            have HNEXT := Lib.hid NEXT
            clear NEXT
            go_wp2_with fail
            refine HC1.out.mono ?_
            rintro e w4 ⟨rfl, hE4⟩
            have HE4 := Lib.hid (HE.out.trans hE4)
            clear y0 hE4
            have y1 := cs_ext (HBW.out.trans HE4.out) Y1.out
            cases b1
            · have HR := Lib.hid (HNEXT.out w4 HE4.out (fun h => by have := h.1; rw [← HBO.out] at this; cases this))
              clear y1
              go_wp2_with fail
              go_roundw
              case rel => exact HR.out
              case measure => simp [intOf]; omega
            · have hlk : (Instr.lookup 72 (.map (some ob)) (.int .i64 x.p.2) false).run Try.prog w4 = .ok (.bool (decide (x.p.2 ∈ O))) w4 := by
                have h0 := (HMAP.out.ext HE4.out).look law3 key3 Try.underlying72 (zero4 w4) ⟨x.p.2, hI⟩ false
                simp only [inB_val] at h0
                exact h0
              by_cases hmem : x.p.2 ∈ O
              · rw [decide_eq_true hmem] at hlk
                have HLV := Lib.hid (HON1.out.1 hmem)
                clear hmem
                go_wp2_with fail
                go_ret2
                exact ⟨_, _, rfl, HB3.out.trans HE4.out, HFIN.out _ _ (.inr ⟨_, HF.out, by simpa using hL, rfl, .inl ⟨rfl, x.p, List.mem_map.2 ⟨x, List.mem_of_getElem? HX.out, rfl⟩, HBO.out.symm, HLV.out⟩⟩)⟩
              · rw [decide_eq_false hmem] at hlk
                have HR := Lib.hid (HNEXT.out w4 HE4.out (fun h => hmem (HON1.out.2 h.2)))
                clear hmem
                go_wp2_with fail
                go_roundw
                case rel => exact HR.out
                case measure => simp [intOf]; omega
          · have HNO : Hid (∀ p ∈ R.map (·.p), ¬ BegP t fm.fields gm.fields md p) := Lib.hid (fun p hp => by
              obtain ⟨y, hy, rfl⟩ := List.mem_map.1 hp
              obtain ⟨k', hk'⟩ := List.mem_iff_getElem?.1 hy
              exact HALL.out k' y (by have := (List.getElem?_eq_some_iff.1 hk').1; omega) hk')
            have HE := Lib.hid hE
            clear hE
            go_wp2_with fail
            go_ret2
            exact ⟨_, _, rfl, HB3.out.trans HE.out, HFIN.out _ _ (.inr ⟨_, HF.out, by simpa using hL, rfl, .inr ⟨rfl, HNO.out⟩⟩)⟩
  · have e1 : (v0 == 0) = false := beq_eq_false_iff_ne.2 hz
    have HB1 := Lib.hid hb1
    clear hb1 hcon hmd
    go_wp2_with fail
    go_ret2
    exact ⟨_, _, rfl, HB1.out, .inl ⟨by rw [← HV0.out]; exact hz, rfl, HV0.out⟩⟩

end Go.Proofs.Ythoelnoahfedmaa
