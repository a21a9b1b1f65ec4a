/- DisjointCommon: the walk of the law. -/
import Derived.Test.YthoelnoahfedmaaS19
namespace Go.Proofs.Ythoelnoahfedmaa
open Go Go.RowKit
set_option linter.unusedVariables false
set_option linter.unusedSimpArgs false

theorem run_pair {t : List Fmt} {F G : List Fld} : ∀ (l : List Nat) (x y : Int × Int), runF (stP t F G) x l = some y → runF (stF t F) x.1 l = some y.1 ∧ runF (stF t G) x.2 l = some y.2
  | [], x, y, h => by simp [runF] at h; subst h; exact ⟨rfl, rfl⟩
  | b :: l, x, y, h => by
    obtain ⟨z, h1, h2⟩ := run_head h
    unfold stP at h1
    split at h1
    · cases h1
    · rename_i hn
      simp only [not_or] at hn
      cases h1
      obtain ⟨h3, h4⟩ := run_pair l _ y h2
      simp only [runF, stF, if_neg hn.1, if_neg hn.2, Option.bind_some]
      exact ⟨h3, h4⟩
theorem bel_path {t : List Fmt} {F G : List Fld} {l : List Nat} {p : Int × Int} (hl : ∀ b ∈ l, b < 256) (h : runF (stP t F G) (0, 0) l = some p) (hp : bothS F G p = true) : belS t F (bytesN l) = true ∧ belS t G (bytesN l) = true := by
  obtain ⟨h1, h2⟩ := run_pair l _ _ h
  unfold bothS at hp
  rw [Bool.and_eq_true] at hp
  unfold belS
  rw [bytesN_L hl, h1, h2]
  exact hp

/-- how the two answers fit -/
inductive ComFit (t : List Fmt) (i j : Int) (s : ByteArray) (er : Int) (b : Bool) (fr : Int) : Prop
  | bad (hf : fr ≠ 0) (he : er = fr) (hs : s = { data := #[] }) (hb : b = false)
  | no (hf : fr = 0) (he : er = 15) (hs : s = { data := #[] }) (hb : b = false)
  | yes (hf : fr = 0) (he : er = 0) (hb : b = true) (i' j' : Nat) (fm gm : Fmt) (hi : i = i') (hj : j = j') (hfm : t[i']? = some fm) (hgm : t[j']? = some gm) (hVf : VFmt t fm) (hVg : VFmt t gm) (hs : s.size ≤ 20000) (h1 : belS t fm.fields s = true) (h2 : belS t gm.fields s = true)

theorem com_fit {t : List Fmt} {i j : Int} {s : ByteArray} {er : Int} {b : Bool} {fr : Int} (h : CommonR t i j s er) (k : ExistsR t i j b fr) : ComFit t i j s er b fr := by
  rcases h with ⟨h1, h2, h3⟩ | ⟨h1, i', j', fm, gm, hi, hj, hfm, hgm, hVf, hVg, h⟩ <;> rcases k with ⟨k1, k2, k3⟩ | ⟨k1, i2, j2, fm2, gm2, hi2, hj2, hfm2, hgm2, -, -, k⟩
  · exact .bad (by rw [k3]; exact k1) (by rw [h3, k3]) (by rw [h2]; rfl) k2
  · exact absurd k1 h1
  · exact absurd h1 k1
  · have e1 : i2 = i' := by omega
    have e2 : j2 = j' := by omega
    subst e1 e2
    rw [hfm] at hfm2
    rw [hgm] at hgm2
    cases hfm2
    cases hgm2
    rcases h with ⟨h2, h3, h4⟩ | ⟨L, Ws, hF, hL, hW, h⟩ <;> rcases k with ⟨k2, k3, k4⟩ | ⟨L', kF, kL, k4, k⟩
    · exact .bad (by rw [k4]; omega) (by rw [h4, k4]) (by rw [h3]; rfl) k3
    · exact absurd h2 (kF.not_over kL)
    · exact absurd k2 (hF.not_over hL)
    · have e := kF.unique hF
      subst e
      rcases h with ⟨kk, p, hk, hp, h5, h6⟩ | ⟨h5, h6, h7⟩ <;> rcases k with ⟨k5, p', hp', hp2⟩ | ⟨k5, k6⟩
      · have h0 : L'[0]? = some (0, 0) := by obtain ⟨k, rfl, -⟩ := hF; exact lev_start
        have hlt := (List.getElem?_eq_some_iff.1 hk).1
        obtain ⟨r1, r2, r3⟩ := hW.path h0 Ws.length kk p (by rw [hW.1]; omega) hk
        obtain ⟨b1, b2⟩ := bel_path (fun b hb => r2 b (by simpa using hb)) r1 hp
        exact .yes k4 h5 k5 i2 j2 fm gm hi hj hfm hgm hVf hVg (by rw [h6, bytesN_size, List.length_reverse]; omega) (by rw [h6]; exact b1) (by rw [h6]; exact b2)
      · exact absurd hp (by rw [k6 p (List.mem_of_getElem? hk)]; simp)
      · exact absurd hp2 (by rw [h5 p' hp']; simp)
      · exact .no k4 h7 (by rw [h6]; rfl) k5

set_option maxRecDepth 100000 in
set_option maxHeartbeats 1600000 in
theorem law_common {w : World} {a : Option Addr} {t : List Fmt} {cap : Nat} {i j : Int} (hT : TabA w w.heap.size a t) (hcap : t.length ≤ cap) (hcap2 : cap ≤ 9223372036854775807) :
    Calls Try.prog 4 #[.slice a t.length cap, .int .i64 i, .int .i64 j] w fun e w' => e = .returned (.bool true) ∧ Ext w w' := by
  have hconF := fun (w' : World) (hE : Ext w w') => Few_any (cap := cap) (hT.ext (Nat.le_refl _) hE) hE.size
  have hconS := fun (w' : World) (hE : Ext w w') => Common_any (i := i) (j := j) (hT.ext (Nat.le_refl _) hE) hE.size hcap hcap2
  have hconR := fun (w' : World) (hE : Ext w w') => Exists_any (i := i) (j := j) (hT.ext (Nat.le_refl _) hE) hE.size hcap hcap2
  have HF := Lib.hid hconF
  have HS := Lib.hid hconS
  have HR := Lib.hid hconR
  have HT := Lib.hid hT
  clear hconF hconS hconR hT
  go_enter Try.func4, Try.ntmps4
  go_wp2_with fail
  refine awake_any.mono ?_
  rintro e w1 ⟨rfl, hE1⟩
  obtain ⟨few, hfew⟩ : ∃ b, b = fewS t := ⟨_, rfl⟩
  have HFW := Lib.hid hfew
  have H1 := Lib.hid hE1
  clear hfew hE1
  go_wp2_with fail
  refine (HF.out _ H1.out).mono ?_
  rintro e w2 ⟨rfl, hE2⟩
  rw [← HFW.out]
  have H2 := Lib.hid (H1.out.trans hE2)
  clear hE2
  cases few
  · go_wp2_with fail
    refine awake_any.mono ?_
    rintro e w3 ⟨rfl, hE3⟩
    have H3 := Lib.hid (H2.out.trans hE3)
    clear hE3
    go_wp2_with fail
    go_ret
    exact ⟨rfl, H3.out⟩
  · go_wp2_with fail
    refine (HS.out _ H2.out).mono ?_
    rintro e w3 ⟨s, er, rfl, hE3, hR3⟩
    have H3 := Lib.hid (H2.out.trans hE3)
    have HR3 := Lib.hid hR3
    clear hE3 hR3
    go_wp2_with fail
    refine (HR.out _ H3.out).mono ?_
    rintro e w4 ⟨b, fr, rfl, hE4, hR4⟩
    have H4 := Lib.hid (H3.out.trans hE4)
    have hfit := com_fit HR3.out hR4
    clear hE4 hR4
    rcases hfit with ⟨hf, rfl, rfl, rfl⟩ | ⟨rfl, rfl, rfl, rfl⟩ | ⟨rfl, rfl, rfl, i', j', fm, gm, rfl, rfl, hfm, hgm, hVf, hVg, hs, b1, b2⟩
    · have e1 : (er == 0) = false := beq_eq_false_iff_ne.2 hf
      have e2 : ¬ er = 0 := hf
      clear hf
      go_wp2_with fail
      go_ret
      exact ⟨rfl, H4.out⟩
    · go_wp2_with fail
      go_ret
      exact ⟨rfl, H4.out⟩
    · have hc1 := Belongs_any (cap := cap) (s := s) (by unfold maxLen; omega) (HT.out.ext (Nat.le_refl _) H4.out) H4.out.size hfm hVf
      have hc2 := fun (w' : World) (hE : Ext w w') => Belongs_any (cap := cap) (s := s) (by unfold maxLen; omega) (HT.out.ext (Nat.le_refl _) hE) hE.size hgm hVg
      rw [b1] at hc1
      rw [b2] at hc2
      have HC1 := Lib.hid hc1
      have HC2 := Lib.hid hc2
      clear hc1 hc2 hfm hgm b1 b2
      go_wp2_with fail
      refine HC1.out.mono ?_
      rintro e w5 ⟨rfl, hE5⟩
      have H5 := Lib.hid (H4.out.trans hE5)
      clear hE5
      go_wp2_with fail
      refine (HC2.out _ H5.out).mono ?_
      rintro e w6 ⟨rfl, hE6⟩
      have H6 := Lib.hid (H5.out.trans hE6)
      clear hE6
      go_wp2_with fail
      go_ret
      exact ⟨rfl, H6.out⟩

end Go.Proofs.Ythoelnoahfedmaa
