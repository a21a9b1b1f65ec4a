/- product and States. -/
import Derived.Test.YthoelnoahfedmaaS5
namespace Go.Proofs.Ythoelnoahfedmaa
open Go Go.RowKit
set_option linter.unusedVariables false
set_option linter.unusedSimpArgs false

/-- what the search through the pairs of two formats answers -/
def ProductR (w w' : World) (t : List Fmt) (a : Option Addr) (cap : Nat) (i j : Int) (p : Value) (er : Int) : Prop :=
  (errS t [i, j] ≠ 0 ∧ p = .pointer none ∧ er = errS t [i, j]) ∨ (errS t [i, j] = 0 ∧ ∃ (i' j' : Nat) (fm gm : Fmt), i = i' ∧ j = j' ∧ t[i']? = some fm ∧ t[j']? = some gm ∧ VFmt t fm ∧ VFmt t gm ∧ ExploreR w w' (.slice a t.length cap) i' j' (stP t fm.fields gm.fields) p er)

theorem ExploreR.lower {w0 w w' : World} {tv : Value} {i j : Nat} {f : Int × Int → Nat → Option (Int × Int)} {p : Value} {er : Int} (h : ExploreR w w' tv i j f p er) (hE : Ext w0 w) : ExploreR w0 w' tv i j f p er := by
  rcases h with h | ⟨gs, mb, pv, wv, L, Ws, h1, h2, h3, h4, h5, h6⟩
  · exact .inl h
  · exact .inr ⟨gs, mb, pv, wv, L, Ws, h1, h2, h3, h4, h5, h6.lower hE⟩

set_option maxRecDepth 100000 in
set_option maxHeartbeats 1000000 in
theorem product_any {w : World} {B : Nat} {a : Option Addr} {t : List Fmt} {cap : Nat} {i j : Int} (hT : TabA w B a t) (hB : B ≤ w.heap.size) (hcap : t.length ≤ cap) (hcap2 : cap ≤ 9223372036854775807) :
    Calls Try.prog 34 #[.slice a t.length cap, .int .i64 i, .int .i64 j] w fun e w' => ∃ p er, e = .returned (.tuple #[p, .int .i64 er]) ∧ Ext w w' ∧ ProductR w w' t a cap i j p er := by
  obtain ⟨v0, hv0⟩ : ∃ v0, v0 = errS t [i, j] := ⟨_, rfl⟩
  have HV0 := Lib.hid hv0
  have hcon := two_any (i := i) (j := j) hT hB hcap hcap2
  rw [← hv0] at hcon
  clear hv0
  go_enter Try.func34, Try.ntmps34
  go_wp2_with fail
  refine hcon.mono ?_
  rintro e w1 ⟨u, v, rfl, hb1, huv, huv'⟩
  by_cases hz : v0 = 0
  · obtain ⟨rfl, rfl⟩ := huv hz
    subst hz
    obtain ⟨hv, hix⟩ := errS_zero HV0.out.symm
    obtain ⟨h0i, hit⟩ := hix i (by simp)
    obtain ⟨h0j, hjt⟩ := hix j (by simp)
    obtain ⟨i', rfl⟩ : ∃ i' : Nat, i = i' := ⟨i.toNat, by omega⟩
    obtain ⟨j', rfl⟩ : ∃ j' : Nat, j = j' := ⟨j.toNat, by omega⟩
    obtain ⟨fm, hfm⟩ : ∃ fm, t[i']? = some fm := ⟨_, List.getElem?_eq_getElem (by omega)⟩
    obtain ⟨gm, hgm⟩ : ∃ gm, t[j']? = some gm := ⟨_, List.getElem?_eq_getElem (by omega)⟩
    have hVf := valid_VFmt hv hfm
    have hVg := valid_VFmt hv hgm
    obtain ⟨tb, toff, rfl, -⟩ := hT.2 (ne_nil_of_get hfm)
    have hcon2 := fun (w' : World) (hE : Ext w w') => explore_any (w := w') (cap := cap) (hT.ext hB hE) (by have := hE.size; omega) hfm hgm hVf hVg
    have HC := Lib.hid hcon2
    have HV := Lib.hid hv
    have HFM := Lib.hid hfm
    have HGM := Lib.hid hgm
    clear hcon2 hv hfm hgm hT huv huv' hix
    have hE1 := Lib.hid hb1
    go_wp2_with fail
    refine (HC.out _ (by repeat (first | exact hb1 | apply Ext.then_dr | apply Ext.then_drN | (refine Ext.then_al ?_ _)))).mono ?_
    rintro e w2 ⟨p, er, rfl, hb2, hR⟩
    have hEx := hR.lower (show Ext w _ from (by repeat (first | exact hb1 | apply Ext.then_dr | apply Ext.then_drN | (refine Ext.then_al ?_ _))))
    have HR := Lib.hid hEx
    have HB := Lib.hid ((show Ext w _ from (by repeat (first | exact hb1 | apply Ext.then_dr | apply Ext.then_drN | (refine Ext.then_al ?_ _)))).trans hb2)
    clear hR hEx hb2
    go_wp2_with fail
    go_ret2
    exact ⟨p, er, rfl, HB.out, .inr ⟨HV0.out.symm, i', j', fm, gm, rfl, rfl, HFM.out, HGM.out, hVf, hVg, HR.out⟩⟩
  · obtain ⟨rfl, rfl⟩ := huv' hz
    have e1 : (v0 == 0) = false := beq_eq_false_iff_ne.2 hz
    clear huv huv'
    go_wp2_with fail
    go_ret2
    exact ⟨_, _, rfl, (by repeat (first | exact hb1 | apply Ext.then_dr | apply Ext.then_drN | (refine Ext.then_al ?_ _))), .inl ⟨by rw [← HV0.out]; exact hz, rfl, HV0.out⟩⟩

theorem stP_diag (t : List Fmt) (F : List Fld) (x : Int) (b : Nat) : stP t F F (x, x) b = (stF t F x b).map (fun x => (x, x)) := by
  unfold stP stF
  by_cases h : rStep t F x b < 0 <;> simp [h]
theorem diag_inj (x y : Int) (h : ((x, x) : Int × Int) = (y, y)) : x = y := by simpa using h
theorem full_diag {t : List Fmt} {F : List Fld} {L : List (Int × Int)} (h : Full (stP t F F) (0, 0) L) : ∃ L0, Full (stF t F) 0 L0 ∧ L = L0.map (fun x => (x, x)) := by
  obtain ⟨k, rfl, hk⟩ := h
  have e := lev_map (g := fun x : Int => (x, x)) diag_inj (stP_diag t F) 0 k
  rw [e] at hk ⊢
  exact ⟨_, ⟨k, rfl, by simpa using hk⟩, rfl⟩
theorem over_diag {t : List Fmt} {F : List Fld} : Over (stP t F F) (0, 0) ↔ Over (stF t F) 0 := over_map (g := fun x : Int => (x, x)) diag_inj (stP_diag t F) 0

theorem errS_two {t : List Fmt} {i : Int} : errS t [i, i] = errS t [i] := by simp [errS]

set_option maxRecDepth 100000 in
set_option maxHeartbeats 1000000 in
theorem States_any {w : World} {B : Nat} {a : Option Addr} {t : List Fmt} {cap : Nat} {i : Int} (hT : TabA w B a t) (hB : B ≤ w.heap.size) (hcap : t.length ≤ cap) (hcap2 : cap ≤ 9223372036854775807) :
    Calls Try.prog 13 #[.slice a t.length cap, .int .i64 i] w fun e w' => ∃ n er, e = .returned (.tuple #[.int .i64 n, .int .i64 er]) ∧ Ext w w' ∧ StatesR t i n er := by
  have hcon := product_any (i := i) (j := i) hT hB hcap hcap2
  go_enter Try.func13, Try.ntmps13
  go_wp2_with fail
  refine hcon.mono ?_
  rintro e w1 ⟨p, er, rfl, hb1, hP⟩
  have HB := Lib.hid hb1
  rcases hP with ⟨he, rfl, her⟩ | ⟨he, i', j', fm, gm, hi, hj, hfm, hgm, hVf, hVg, hR⟩
  · have e1 : (er == 0) = false := beq_eq_false_iff_ne.2 (by rw [her]; exact he)
    have HE := Lib.hid he
    have HER := Lib.hid her
    clear he her
    go_wp2_with fail
    go_ret2
    exact ⟨_, _, rfl, HB.out, .inl ⟨by rw [← errS_two]; exact HE.out, rfl, by rw [← errS_two]; exact HER.out⟩⟩
  · have hji : j' = i' := by omega
    subst hji
    have hgf : gm = fm := by rw [hfm] at hgm; exact (Option.some.inj hgm).symm
    subst hgf
    rcases hR with ⟨hO, rfl, rfl⟩ | ⟨gs, mb, pv, wv, L, Ws, hF, hL, hW, rfl, rfl, hS⟩
    · have HFIN : Hid (StatesR t i 0 3) := .inr ⟨by rw [← errS_two]; exact he, j', gm, hi, hgm, hVg, .inl ⟨over_diag.1 hO, rfl, rfl⟩⟩
      clear he hi hj hfm hgm hVf hVg hO
      go_wp2_with fail
      go_ret2
      exact ⟨_, _, rfl, HB.out, HFIN.out⟩
    · obtain ⟨L0, hF0, rfl⟩ := full_diag hF
      have HFIN : Hid (StatesR t i (L0.length : Nat) 0) := .inr ⟨by rw [← errS_two]; exact he, j', gm, hi, hgm, hVg, .inr ⟨L0, hF0, by simpa using hL, rfl, rfl⟩⟩
      obtain ⟨-, -, -, -, c4, -, -⟩ := hS.cells
      obtain ⟨gp, pcap, rfl, hpc, -⟩ := row2_slice hS.pairs (by have := List.length_pos_of_mem hF.start; exact this)
      simp only [List.length_map] at c4 hpc
      clear he hi hj hfm hgm hVf hVg hF hF0 hS hW
      go_wp2_with fail
      go_ret2
      exact ⟨_, _, rfl, HB.out, HFIN.out⟩

end Go.Proofs.Ythoelnoahfedmaa
