/- The walk of the law Proves. -/
import Derived.Test.YthoelnoahfedmaaK5
namespace Go.Proofs.Ythoelnoahfedmaa
open Go Go.RowKit
set_option linter.unusedVariables false
set_option linter.unusedSimpArgs false

theorem pairs_len {L : List (Int × Int)} (hnd : L.Nodup) (h : ∀ x ∈ L, 0 ≤ x.1 ∧ x.1 ≤ 40000000 ∧ 0 ≤ x.2 ∧ x.2 ≤ 40000000) : L.length ≤ 1600000080000001 := by
  have h1 : (L.map fun x => x.1 * 40000001 + x.2).Nodup := by
    refine List.pairwise_map.2 (hnd.imp_of_mem ?_)
    intro x y hx hy hne e
    have := h x hx
    have := h y hy
    apply hne
    obtain ⟨a, b⟩ := x
    obtain ⟨c, d⟩ := y
    simp only at *
    have : a = c := by omega
    have : b = d := by omega
    subst_vars
    rfl
  have h2 := nodup_lt 1600000080000001 _ h1 (fun z hz => by
    obtain ⟨x, hx, rfl⟩ := List.mem_map.1 hz
    have := h x hx
    omega)
  simpa using h2

theorem sort_few {t : List Fmt} (hF : fewS t = true) (i j : Int) : ∀ (fm gm : Fmt) L, t[i.toNat]? = some fm → t[j.toNat]? = some gm → Full (stP t fm.fields gm.fields) (0, 0) L → (∀ p ∈ L, bothS fm.fields gm.fields p = false) → SortOk L.length := by
  intro fm gm L hi hj hL _
  unfold fewS at hF
  simp only [Bool.and_eq_true, decide_eq_true_eq, List.all_eq_true] at hF
  have h1 := (hF.2 fm (List.mem_of_getElem? hi)).1.2
  have h2 := (hF.2 gm (List.mem_of_getElem? hj)).1.2
  have hpos := List.length_pos_of_mem hL.start
  obtain ⟨k, rfl, -⟩ := hL
  have := pairs_len lev_nodup (levP_small (t := t) (F := fm.fields) (G := gm.fields) (k := k) (by omega) (by omega))
  exact sortOk_all hpos (by omega)

/-- how the two answers fit -/
def PrvFit (t : List Fmt) (i j : Int) (w' w'' : World) (v : Value) (er : Int) (v2 : Value) (er2 : Int) : Prop :=
  er2 = er ∧ ∃ (L : List (Int × Int)) (a : Option Addr) (cap : Nat) (a2 : Option Addr) (cap2 : Nat), v = .slice a L.length cap ∧ v2 = .slice a2 L.length cap2 ∧ PairsA w' a L ∧ PairsA w'' a2 L ∧ (∀ x ∈ L, I64 x.1 ∧ I64 x.2) ∧ L.length ≤ 20000 ∧ ((er == 0) = true ↔ CheckP t i j L)
theorem prv_nil {t : List Fmt} {i j : Int} {w' w'' : World} {er : Int} (h : er ≠ 0) : PrvFit t i j w' w'' (.slice none 0 0) er (.slice none 0 0) er :=
  ⟨rfl, [], none, 0, none, 0, rfl, rfl, fun k x hk => by simp at hk, fun k x hk => by simp at hk, by simp, by simp, by
    constructor
    · intro h'
      exact absurd (by simpa using h') h
    · intro h'
      exact absurd h'.2.2.2.1 (by simp)⟩

theorem sorted_unique {L M : List (Int × Int)} (h : L.Perm M) (h1 : L.Pairwise ltP) (h2 : M.Pairwise ltP) : L = M :=
  h.eq_of_pairwise (fun a b _ _ h k => absurd (ltP_trans h k) ltP_irrefl) h1 h2

theorem prv_fit {t : List Fmt} {i j : Int} {w' w'' : World} {v : Value} {er : Int} {v2 : Value} {er2 : Int} (h : ProveR w' t i j v er) (k : ProveR w'' t i j v2 er2) : PrvFit t i j w' w'' v er v2 er2 := by
  rcases h with ⟨h1, h2, h3⟩ | ⟨h1, i', j', fm, gm, hi, hj, hfm, hgm, hVf, hVg, h⟩ <;> rcases k with ⟨k1, k2, k3⟩ | ⟨k1, i2, j2, fm2, gm2, hi2, hj2, hfm2, hgm2, -, -, k⟩
  · subst h2 k2
    rw [show er2 = er by rw [h3, k3]]
    exact prv_nil (by rw [h3]; exact h1)
  · exact absurd k1 h1
  · exact absurd h1 k1
  · have e1 : i2 = i' := by omega
    have e2 : j2 = j' := by omega
    subst e1 e2
    rw [hfm] at hfm2
    rw [hgm] at hgm2
    cases hfm2
    cases hgm2
    rcases h with ⟨h2, h3, h4⟩ | ⟨L, hF, hL, h⟩ <;> rcases k with ⟨k2, k3, k4⟩ | ⟨L', kF, kL, k⟩
    · subst h3 k3 h4 k4
      exact prv_nil (by omega)
    · exact absurd h2 (kF.not_over kL)
    · exact absurd k2 (hF.not_over hL)
    · have e := kF.unique hF
      subst e
      rcases h with ⟨⟨p, hp, hb⟩, h5, h6⟩ | ⟨h5, h6, M, a, cap, h7, h8, h9, h10, h11⟩ <;> rcases k with ⟨⟨p', hp', hb'⟩, k5, k6⟩ | ⟨k5, k6, M', a', cap', k7, k8, k9, k10, k11⟩
      · subst h5 k5 h6 k6
        exact prv_nil (by omega)
      · exact absurd hb (by rw [k5 p hp]; simp)
      · exact absurd hb' (by rw [h5 p' hp']; simp)
      · have e := sorted_unique (k7.trans h7.symm) k8 h8
        subst e
        subst h10 k10 h6 k6
        have hsm : ∀ x ∈ L', 0 ≤ x.1 ∧ x.1 ≤ 40000000 ∧ 0 ≤ x.2 ∧ x.2 ≤ 40000000 := fun x hx => by
          obtain ⟨k, e, -⟩ := hF
          rw [e] at hx
          exact levP_small (by have := hVf.le; omega) (by have := hVg.le; omega) x hx
        refine ⟨rfl, M', _, _, _, _, rfl, rfl, h11, k11, fun x hx => ?_, by rw [h7.length_eq]; exact hL, ?_⟩
        · have := hsm x (h7.mem_iff.1 hx)
          unfold I64
          omega
        · simp only [beq_self_eq_true, true_iff]
          refine ⟨h1, by rw [h7.length_eq]; exact hL, h8, h7.mem_iff.2 hF.start, i2, j2, fm, gm, hi, hj, hfm, hgm, hVf, hVg, fun p hp => ⟨h5 p (h7.mem_iff.1 hp), fun c hc n hn => ?_⟩⟩
          exact h7.mem_iff.2 (hF.closed (h7.mem_iff.1 hp) hc hn)

set_option maxRecDepth 100000 in
set_option maxHeartbeats 1600000 in
theorem law_proves {w : World} {a : Option Addr} {t : List Fmt} {cap : Nat} {i j : Int} (hT : TabA w w.heap.size a t) (hcap : t.length ≤ cap) (hcap2 : cap ≤ 9223372036854775807) :
    Calls Try.prog 8 #[.slice a t.length cap, .int .i64 i, .int .i64 j] w fun e w' => e = .returned (.bool true) ∧ Ext w w' := by
  have HF := Lib.hid (fun (w' : World) (hE : Ext w w') => Few_any (cap := cap) (hT.ext (Nat.le_refl _) hE) hE.size)
  have HS := Lib.hid (fun (hf : fewS t = true) (w' : World) (hE : Ext w w') => Prove_any (i := i) (j := j) (hT.ext (Nat.le_refl _) hE) hE.size hcap hcap2 (sort_few hf i j))
  have HR := Lib.hid (fun (w' : World) (hE : Ext w w') => rProve_any (i := i) (j := j) (hT.ext (Nat.le_refl _) hE) hE.size hcap hcap2)
  have HC := Lib.hid (fun (L : List (Int × Int)) (la : Option Addr) (lcap : Nat) (hl : L.length ≤ 20000) (hI : ∀ x ∈ L, I64 x.1 ∧ I64 x.2) (w' : World) (hE : Ext w w') (hA' : PairsA w' la L) (bb : Bool) (hbb : bb = true ↔ CheckP t i j L) =>
    (Check_any (lcap := lcap) (i := i) (j := j) (hT.ext (Nat.le_refl _) hE) hE.size hcap hcap2 hA' (by omega) hI).mono (fun e w'' ⟨b, he, hx, hb⟩ => (⟨by rw [he, Bool.eq_iff_iff.2 (hb.trans hbb.symm)], hx⟩ : e = Ending.returned (.bool bb) ∧ Ext w' w'')))
  clear hT
  go_enter Try.func8, Try.ntmps8
  go_wp2_with fail
  refine awake_any.mono ?_
  rintro e w1 ⟨rfl, hE1⟩
  obtain ⟨few, hfew⟩ : ∃ b, b = fewS t := ⟨_, rfl⟩
  have HFW := Lib.hid hfew
  have H1 := Lib.hid hE1
  clear hfew hE1
  go_wp2_with fail
  refine (HF.out _ H1.out).mono ?_
  rintro e w2 ⟨rfl, hE2⟩
  rw [← HFW.out]
  have H2 := Lib.hid (H1.out.trans hE2)
  clear hE2
  cases few
  · go_wp2_with fail
    refine awake_any.mono ?_
    rintro e w3 ⟨rfl, hE3⟩
    have H3 := Lib.hid (H2.out.trans hE3)
    clear hE3
    go_wp2_with fail
    go_ret
    exact ⟨rfl, H3.out⟩
  · go_wp2_with fail
    refine (HS.out HFW.out.symm _ H2.out).mono ?_
    rintro e w3 ⟨v, er, rfl, hE3, hR3⟩
    have H3 := Lib.hid (H2.out.trans hE3)
    have HR3 := Lib.hid hR3
    clear hE3 hR3
    go_wp2_with fail
    refine (HR.out _ H3.out).mono ?_
    rintro e w4 ⟨v2, er2, rfl, hE4, hR4⟩
    have H4 := Lib.hid (H3.out.trans hE4)
    obtain ⟨rfl, L, la, lcap, la2, lcap2, rfl, rfl, hA1, hA2, hI, hl, hck⟩ := prv_fit HR3.out hR4
    have hq := equal_any (c := lcap) (d := lcap2) (hA1.ext hE4) hA2 (by omega) (by omega)
    have e0 : decide (L = L) = true := decide_eq_true rfl
    rw [e0] at hq
    have HQ := Lib.hid hq
    have HCK := Lib.hid (fun (w' : World) (hE : Ext w4 w') => HC.out L la lcap hl hI w' (H4.out.trans hE) ((hA1.ext hE4).ext hE) (er2 == 0) hck)
    obtain ⟨bo, hbo⟩ : ∃ bo : Bool, bo = (er2 == 0) := ⟨_, rfl⟩
    rw [← hbo] at HCK
    have HBO := Lib.hid hbo
    clear hE4 hR4 hA1 hA2 hI hl hck hq e0 hbo
    go_wp2_with fail
    refine HQ.out.mono ?_
    rintro e w5 ⟨rfl, hE5⟩
    have H5 := Lib.hid hE5
    clear hE5
    go_wp2_with fail
    refine (HCK.out _ H5.out).mono ?_
    rintro e w6 ⟨rfl, hE6⟩
    have H6 := Lib.hid (H4.out.trans (H5.out.trans hE6))
    clear hE6
    have hb2 : (er2 == 0) = bo := HBO.out.symm
    go_wp2_with fail
    go_ret
    exact ⟨by simp, H6.out⟩

end Go.Proofs.Ythoelnoahfedmaa
