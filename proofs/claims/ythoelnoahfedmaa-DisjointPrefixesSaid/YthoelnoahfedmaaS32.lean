/- The walks of the laws Prefixes and Begins. -/
import Derived.Test.YthoelnoahfedmaaS31
import Derived.Test.YthoelnoahfedmaaH1
namespace Go.Proofs.Ythoelnoahfedmaa
open Go Go.RowKit
set_option linter.unusedVariables false
set_option linter.unusedSimpArgs false

/-- how the two answers fit -/
inductive BegFit (t : List Fmt) (i j : Int) (more : Bool) (s1 s2 : ByteArray) (er : Int) (b : Bool) (fr : Int) : Prop
  | bad (hf : fr ≠ 0) (he : er = fr) (h1 : s1 = { data := #[] }) (h2 : s2 = { data := #[] }) (hb : b = false)
  | no (hf : fr = 0) (he : er = 15) (h1 : s1 = { data := #[] }) (h2 : s2 = { data := #[] }) (hb : b = false)
  | yes (hf : fr = 0) (he : er = 0) (hb : b = true) (i' j' : Nat) (fm gm : Fmt) (hi : i = i') (hj : j = j') (hfm : t[i']? = some fm) (hgm : t[j']? = some gm) (hVf : VFmt t fm) (hVg : VFmt t gm) (hs : s2.size ≤ 60000000) (hle : s1.size ≤ s2.size)
      (hlt : more = true → s1.size < s2.size) (hp : s2.extract 0 s1.size = s1) (h1 : belS t fm.fields s1 = true) (h2 : belS t gm.fields s2 = true) (hr : i = j → more = true → ∃ x, fm.fields[fm.fields.length - 1]? = some x ∧ x.kind = 6)

theorem last_rest {t : List Fmt} {fm : Fmt} {y z : Int} {b : Nat} (hV : VFmt t fm) (ha : rAcc fm.fields y = true) (hs : stF t fm.fields y b = some z) : ∃ x, fm.fields[fm.fields.length - 1]? = some x ∧ x.kind = 6 := by
  have hs2 := (stF_inv hs).2
  unfold rAcc at ha
  unfold rStep at hs2
  split at ha
  · cases ha
  · rename_i h0
    rw [if_neg (fun h => h0 (.inl h))] at hs2
    split at ha
    · rename_i h1
      rw [h1] at hs2
      simp at hs2
    · split at ha
      · cases ha
      · rename_i x hx
        simp only [Bool.and_eq_true] at ha
        have hk : x.kind = 6 := by simpa using ha.1.1
        have := hV.fld _ x hx
        have hl : (y / 262144).toNat + 1 = fm.fields.length := by
          rcases this with h | h | h | h | h | h
          · have := h.1; omega
          · have := h.1; omega
          · have := h.1; omega
          · have := h.1; omega
          · exact h.2.1
          · have := h.1; omega
        exact ⟨x, by rw [show fm.fields.length - 1 = (y / 262144).toNat by omega]; exact hx, hk⟩

theorem bytesN_head {l1 l2 : List Nat} : (bytesN (l1 ++ l2)).extract 0 (bytesN l1).size = bytesN l1 := by
  apply ByteArray.ext
  rw [ByteArray.data_extract, bytesN_size]
  unfold bytesN
  rw [List.map_append]
  apply Array.ext'
  rw [List.extract_toArray, List.extract_eq_take_drop]
  have e : l1.length = (l1.map UInt8.ofNat).length := by simp
  rw [e, Nat.sub_zero, List.drop_zero, List.take_left]

theorem beg_fit {t : List Fmt} {i j : Int} {more : Bool} {s1 s2 : ByteArray} {er : Int} {b : Bool} {fr : Int} (h : BegR t i j more s1 s2 er) (k : BeginR t i j more b fr) : BegFit t i j more s1 s2 er b fr := by
  rcases h with ⟨h1, h2, h2', h3⟩ | ⟨h1, i', j', fm, gm, hi, hj, hfm, hgm, hVf, hVg, h⟩ <;> rcases k with ⟨k1, k2, k3⟩ | ⟨k1, i2, j2, fm2, gm2, hi2, hj2, hfm2, hgm2, -, -, k⟩
  · exact .bad (by rw [k3]; exact k1) (by rw [h3, k3]) (by rw [h2]; rfl) (by rw [h2']; rfl) k2
  · exact absurd k1 h1
  · exact absurd h1 k1
  · have e1 : i2 = i' := by omega
    have e2 : j2 = j' := by omega
    subst e1 e2
    rw [hfm] at hfm2
    rw [hgm] at hgm2
    cases hfm2
    cases hgm2
    rcases h with ⟨h2, h3, h3', h4⟩ | ⟨L, Ws, hF, hL, hW, h⟩ <;> rcases k with ⟨k2, k3, k4⟩ | ⟨L', kF, kL, k4, k⟩
    · exact .bad (by rw [k4]; omega) (by rw [h4, k4]) (by rw [h3]; rfl) (by rw [h3']; rfl) k3
    · exact absurd h2 (kF.not_over kL)
    · exact absurd k2 (hF.not_over hL)
    · have e := kF.unique hF
      subst e
      rcases h with ⟨h5, kk, p, l, hk, hp, h6, h7, h8, h9, h10, y, h11, h12⟩ | ⟨h5, h6, h7, h8⟩ <;> rcases k with ⟨k5, p', hp', hp2⟩ | ⟨k5, k6⟩
      · have h0 : L'[0]? = some (0, 0) := by obtain ⟨k, rfl, -⟩ := hF; exact lev_start
        have hlt := (List.getElem?_eq_some_iff.1 hk).1
        obtain ⟨r1, r2, r3⟩ := hW.path h0 Ws.length kk p (by rw [hW.1]; omega) hk
        have r2' : ∀ b ∈ (pathR Ws Ws.length kk).reverse, b < 256 := fun b hb => r2 b (by simpa using hb)
        have r4 : (pathR Ws Ws.length kk).reverse.length ≤ 20000 := by rw [List.length_reverse]; omega
        obtain ⟨q1, q2⟩ := run_pair _ _ _ r1
        generalize (pathR Ws Ws.length kk).reverse = P at *
        have hall : ∀ b ∈ P ++ l, b < 256 := fun b hb => by
          rcases List.mem_append.1 hb with hb | hb
          · exact r2' b hb
          · exact h9 b hb
        refine .yes k4 h5 k5 i2 j2 fm gm hi hj hfm hgm hVf hVg (by rw [h7, bytesN_size, List.length_append]; omega) (by rw [h6, h7, bytesN_size, bytesN_size, List.length_append]; omega) (fun hm => ?_) (by rw [h6, h7]; exact bytesN_head) ?_ ?_ (fun hij hm => ?_)
        · have := List.length_pos_iff.2 (h8 hm)
          rw [h6, h7, bytesN_size, bytesN_size, List.length_append]; omega
        · unfold belS
          rw [h6, bytesN_L r2', q1]
          exact hp
        · unfold belS
          rw [h7, bytesN_L hall, runF_append, q2]
          simp only [Option.bind_some, h11]
          exact h12
        · have e : i2 = j2 := by omega
          subst e
          rw [hfm] at hgm
          cases hgm
          have e2 : p.1 = p.2 := by rw [q1] at q2; simpa using q2
          cases l with
          | nil => exact absurd rfl (h8 hm)
          | cons b l =>
            obtain ⟨z, z1, -⟩ := run_head h11
            exact last_rest hVf hp (by rw [e2]; exact z1)
      · exact absurd (⟨hp, l, h8, h9, y, h11, h12⟩ : BegP t fm.fields gm.fields more p) (k6 p (List.mem_of_getElem? hk))
      · obtain ⟨a1, r, a2, a3, y, a4, a5⟩ := hp2
        have := h8 p' hp' a1 r a3 a2 y a4
        rw [a5] at this
        cases this
      · exact .no k4 h5 (by rw [h6]; rfl) (by rw [h7]; rfl) k5





set_option maxRecDepth 100000 in
set_option maxHeartbeats 1600000 in
theorem law_begins {w : World} {a : Option Addr} {t : List Fmt} {cap : Nat} {i j : Int} (hT : TabA w w.heap.size a t) (hcap : t.length ≤ cap) (hcap2 : cap ≤ 9223372036854775807) :
    Calls Try.prog 6 #[.slice a t.length cap, .int .i64 i, .int .i64 j] w fun e w' => e = .returned (.bool true) ∧ Ext w w' := by
  have HF := Lib.hid (fun (w' : World) (hE : Ext w w') => Few_any (cap := cap) (hT.ext (Nat.le_refl _) hE) hE.size)
  have HS := Lib.hid (fun (w' : World) (hE : Ext w w') => Begins_any (i := i) (j := j) (hT.ext (Nat.le_refl _) hE) hE.size hcap hcap2)
  have HR := Lib.hid (fun (w' : World) (hE : Ext w w') => Begin_any (i := i) (j := j) (more := false) (hT.ext (Nat.le_refl _) hE) hE.size hcap hcap2)
  have HT := Lib.hid hT
  clear hT
  go_enter Try.func6, Try.ntmps6
  go_wp2_with fail
  refine awake_any.mono ?_
  rintro e w1 ⟨rfl, hE1⟩
  obtain ⟨few, hfew⟩ : ∃ b, b = fewS t := ⟨_, rfl⟩
  have HFW := Lib.hid hfew
  have H1 := Lib.hid hE1
  clear hfew hE1
  go_wp2_with fail
  refine (HF.out _ H1.out).mono ?_
  rintro e w2 ⟨rfl, hE2⟩
  rw [← HFW.out]
  have H2 := Lib.hid (H1.out.trans hE2)
  clear hE2
  cases few
  · skip
    go_wp2_with fail
    refine awake_any.mono ?_
    rintro e w3 ⟨rfl, hE3⟩
    have H3 := Lib.hid (H2.out.trans hE3)
    clear hE3
    go_wp2_with fail
    go_ret
    exact ⟨rfl, H3.out⟩
  · skip
    go_wp2_with fail
    refine (HS.out _ H2.out).mono ?_
    rintro e w3 ⟨s1, s2, er, rfl, hE3, hR3⟩
    have H3 := Lib.hid (H2.out.trans hE3)
    have HR3 := Lib.hid hR3
    clear hE3 hR3
    go_wp2_with fail
    refine (HR.out _ H3.out).mono ?_
    rintro e w4 ⟨b, fr, rfl, hE4, hR4⟩
    have H4 := Lib.hid (H3.out.trans hE4)
    have hfit := beg_fit HR3.out hR4
    clear hE4 hR4
    rcases hfit with ⟨hf, rfl, rfl, rfl, rfl⟩ | ⟨rfl, rfl, rfl, rfl, rfl⟩ | ⟨rfl, rfl, rfl, i', j', fm, gm, rfl, rfl, hfm, hgm, hVf, hVg, hs, hle, hlt, hp, b1, b2, hr⟩
    · have e1 : (er == 0) = false := beq_eq_false_iff_ne.2 hf
      have e2 : ¬ er = 0 := hf
      clear hf
      go_wp2_with fail
      go_ret
      exact ⟨rfl, H4.out⟩
    · go_wp2_with fail
      go_ret
      exact ⟨rfl, H4.out⟩
    · have HP := Lib.hid (prefix_any (w := w4) hle (by omega) hp)
      have hc1 := fun (w' : World) (hE : Ext w w') => Belongs_any (cap := cap) (s := s1) (by unfold maxLen; omega) (HT.out.ext (Nat.le_refl _) hE) hE.size hfm hVf
      have hc2 := fun (w' : World) (hE : Ext w w') => Belongs_any (cap := cap) (s := s2) (by unfold maxLen; omega) (HT.out.ext (Nat.le_refl _) hE) hE.size hgm hVg
      rw [b1] at hc1
      rw [b2] at hc2
      have HC1 := Lib.hid hc1
      have HC2 := Lib.hid hc2
      clear hc1 hc2 hfm hgm b1 b2 hVf hVg hs hle hlt hp hr
      go_wp2_with fail
      refine HP.out.mono ?_
      rintro e w5 ⟨rfl, hE5⟩
      have H5 := Lib.hid (H4.out.trans hE5)
      clear hE5
      go_wp2_with fail
      refine (HC1.out _ H5.out).mono ?_
      rintro e w6 ⟨rfl, hE6⟩
      have H6 := Lib.hid (H5.out.trans hE6)
      clear hE6
      go_wp2_with fail
      refine (HC2.out _ H6.out).mono ?_
      rintro e w7 ⟨rfl, hE7⟩
      have H7 := Lib.hid (H6.out.trans hE7)
      clear hE7
      go_wp2_with fail
      go_ret
      exact ⟨rfl, H7.out⟩

set_option maxRecDepth 100000 in
set_option maxHeartbeats 1600000 in
theorem law_prefixes {w : World} {a : Option Addr} {t : List Fmt} {cap : Nat} {i : Int} (hT : TabA w w.heap.size a t) (hcap : t.length ≤ cap) (hcap2 : cap ≤ 9223372036854775807) :
    Calls Try.prog 5 #[.slice a t.length cap, .int .i64 i] w fun e w' => e = .returned (.bool true) ∧ Ext w w' := by
  have HF := Lib.hid (fun (w' : World) (hE : Ext w w') => Few_any (cap := cap) (hT.ext (Nat.le_refl _) hE) hE.size)
  have HS := Lib.hid (fun (w' : World) (hE : Ext w w') => PrefixFree_any (i := i) (hT.ext (Nat.le_refl _) hE) hE.size hcap hcap2)
  have HR := Lib.hid (fun (w' : World) (hE : Ext w w') => Begin_any (i := i) (j := i) (more := true) (hT.ext (Nat.le_refl _) hE) hE.size hcap hcap2)
  have HT := Lib.hid hT
  clear hT
  go_enter Try.func5, Try.ntmps5
  go_wp2_with fail
  refine awake_any.mono ?_
  rintro e w1 ⟨rfl, hE1⟩
  obtain ⟨few, hfew⟩ : ∃ b, b = fewS t := ⟨_, rfl⟩
  have HFW := Lib.hid hfew
  have H1 := Lib.hid hE1
  clear hfew hE1
  go_wp2_with fail
  refine (HF.out _ H1.out).mono ?_
  rintro e w2 ⟨rfl, hE2⟩
  rw [← HFW.out]
  have H2 := Lib.hid (H1.out.trans hE2)
  clear hE2
  cases few
  · skip
    go_wp2_with fail
    refine awake_any.mono ?_
    rintro e w3 ⟨rfl, hE3⟩
    have H3 := Lib.hid (H2.out.trans hE3)
    clear hE3
    go_wp2_with fail
    go_ret
    exact ⟨rfl, H3.out⟩
  · skip
    go_wp2_with fail
    refine (HS.out _ H2.out).mono ?_
    rintro e w3 ⟨s1, s2, er, rfl, hE3, hR3⟩
    have H3 := Lib.hid (H2.out.trans hE3)
    have HR3 := Lib.hid hR3
    clear hE3 hR3
    go_wp2_with fail
    refine (HR.out _ H3.out).mono ?_
    rintro e w4 ⟨b, fr, rfl, hE4, hR4⟩
    have H4 := Lib.hid (H3.out.trans hE4)
    have hfit := beg_fit HR3.out hR4
    clear hE4 hR4
    rcases hfit with ⟨hf, rfl, rfl, rfl, rfl⟩ | ⟨rfl, rfl, rfl, rfl, rfl⟩ | ⟨rfl, rfl, rfl, i', j', fm, gm, hi, hj, hfm, hgm, hVf, hVg, hs, hle, hlt, hp, b1, b2, hr⟩
    · have e1 : (er == 0) = false := beq_eq_false_iff_ne.2 hf
      have e2 : ¬ er = 0 := hf
      clear hf
      go_wp2_with fail
      go_ret
      exact ⟨rfl, H4.out⟩
    · go_wp2_with fail
      go_ret
      exact ⟨rfl, H4.out⟩
    · subst hi
      have e := (show j' = i' by omega)
      subst e
      obtain ⟨x, hx, hx6⟩ := hr rfl rfl
      obtain ⟨n0, hn0⟩ : ∃ n0, fm.fields.length = n0 + 1 := ⟨fm.fields.length - 1, by have := List.length_pos_iff.2 hVf.ne; omega⟩
      rw [hn0, Nat.add_sub_cancel] at hx
      obtain ⟨tb, toff, fa, fcap, rfl, htb, -, htc, hFl, -⟩ := (HT.out.ext (Nat.le_refl _) H4.out).at hfm
      obtain ⟨hfl, hFl⟩ := hFl
      obtain ⟨fb, foff, rfl, hfb, hFl⟩ := hFl hVf.ne
      obtain ⟨f0, f1, f2, f3, f4, -⟩ := hFl n0 x hx
      rw [hx6] at f0
      rw [hn0] at htc hfl
      unfold maxLen at hfl
      have hin := lt_of_get hfm
      have hn63 := HT.out.1
      unfold maxLen at hn63
      have elt : decide ((s1.size : Int) < (s2.size : Int)) = true := decide_eq_true (by have := hlt rfl; omega)
      have hltN : s1.size < s2.size := hlt rfl
      have hle63 : s2.size ≤ 9223372036854775807 := by omega
      have e5 : (n0 : Int) < (n0 : Int) + 1 := by omega
      have e6 : IntKind.i64.wrap (n0 : Int) = (n0 : Int) := IntWalk.i64_in _ (by omega)
      have HP := Lib.hid (fun w' : World => prefix_any (w := w') hle (by omega) hp)
      have hc1 := fun (w' : World) (hE : Ext w w') => Belongs_any (cap := cap) (s := s1) (by unfold maxLen; omega) (HT.out.ext (Nat.le_refl _) hE) hE.size hfm hVf
      have hc2 := fun (w' : World) (hE : Ext w w') => Belongs_any (cap := cap) (s := s2) (by unfold maxLen; omega) (HT.out.ext (Nat.le_refl _) hE) hE.size hfm hVf
      rw [b1] at hc1
      rw [show belS t fm.fields s2 = true by rw [hfm] at hgm; cases hgm; exact b2] at hc2
      have HC1 := Lib.hid hc1
      have HC2 := Lib.hid hc2
      clear hc1 hc2 hfm hgm b1 b2 hVf hVg hs hlt hp hr hx hx6 hn0 hj hFl htb hfb hle
      go_wp2_with fail
      refine wp_region_reg 15 false (by kernel_rfl) (by kernel_rfl) ?_
      refine reg_value (fun _ => rfl) ?_ (fun g w' vs hM hE hP => ?_) ?_
      rotate_left
      · (clear hP hM; have zz0 := cs_ext hE htc; have zz1 := cs_ext hE f0; have zz2 := cs_ext hE f1; have zz3 := cs_ext hE f2; have zz4 := cs_ext hE f3; have zz5 := cs_ext hE f4; go_simp; first | done | rfl)
      refine reg_value (fun _ => rfl) ?_ (fun g w' vs hM hE hP => ?_) ?_
      rotate_left
      · (clear hP hM; have zz0 := cs_ext hE htc; have zz1 := cs_ext hE f0; have zz2 := cs_ext hE f1; have zz3 := cs_ext hE f2; have zz4 := cs_ext hE f3; have zz5 := cs_ext hE f4; go_simp; first | done | rfl)
      refine reg_value (fun _ => rfl) ?_ (fun g w' vs hM hE hP => ?_) ?_
      rotate_left
      · (clear hP hM; have zz0 := cs_ext hE htc; have zz1 := cs_ext hE f0; have zz2 := cs_ext hE f1; have zz3 := cs_ext hE f2; have zz4 := cs_ext hE f3; have zz5 := cs_ext hE f4; go_simp; first | done | rfl)
      refine reg_value (fun _ => rfl) ?_ (fun g w' vs hM hE hP => ?_) ?_
      rotate_left
      · (clear hP hM; have zz0 := cs_ext hE htc; have zz1 := cs_ext hE f0; have zz2 := cs_ext hE f1; have zz3 := cs_ext hE f2; have zz4 := cs_ext hE f3; have zz5 := cs_ext hE f4; go_simp; first | done | rfl)
      refine reg_value (fun _ => rfl) ?_ (fun g w' vs hM hE hP => ?_) ?_
      rotate_left
      · (clear hP hM; have zz0 := cs_ext hE htc; have zz1 := cs_ext hE f0; have zz2 := cs_ext hE f1; have zz3 := cs_ext hE f2; have zz4 := cs_ext hE f3; have zz5 := cs_ext hE f4; go_simp; first | done | rfl)
      refine reg_value (fun _ => rfl) ?_ (fun g w' vs hM hE hP => ?_) ?_
      rotate_left
      · (clear hP hM; have zz0 := cs_ext hE htc; have zz1 := cs_ext hE f0; have zz2 := cs_ext hE f1; have zz3 := cs_ext hE f2; have zz4 := cs_ext hE f3; have zz5 := cs_ext hE f4; go_simp; first | done | rfl)
      refine reg_value (fun _ => rfl) ?_ (fun g w' vs hM hE hP => ?_) ?_
      rotate_left
      · (clear hP hM; have zz0 := cs_ext hE htc; have zz1 := cs_ext hE f0; have zz2 := cs_ext hE f1; have zz3 := cs_ext hE f2; have zz4 := cs_ext hE f3; have zz5 := cs_ext hE f4; go_simp; first | done | rfl)
      refine reg_value (fun _ => rfl) ?_ (fun g w' vs hM hE hP => ?_) ?_
      rotate_left
      · (clear hP hM; have zz0 := cs_ext hE htc; have zz1 := cs_ext hE f0; have zz2 := cs_ext hE f1; have zz3 := cs_ext hE f2; have zz4 := cs_ext hE f3; have zz5 := cs_ext hE f4; go_simp; first | done | rfl)
      refine reg_value (fun _ => rfl) ?_ (fun g w' vs hM hE hP => ?_) ?_
      rotate_left
      · (clear hP hM; have zz0 := cs_ext hE htc; have zz1 := cs_ext hE f0; have zz2 := cs_ext hE f1; have zz3 := cs_ext hE f2; have zz4 := cs_ext hE f3; have zz5 := cs_ext hE f4; go_simp; first | done | rfl)
      refine reg_value (fun _ => rfl) ?_ (fun g w' vs hM hE hP => ?_) ?_
      rotate_left
      · (clear hP hM; have zz0 := cs_ext hE htc; have zz1 := cs_ext hE f0; have zz2 := cs_ext hE f1; have zz3 := cs_ext hE f2; have zz4 := cs_ext hE f3; have zz5 := cs_ext hE f4; go_simp; first | done | rfl)
      refine reg_value (fun _ => rfl) ?_ (fun g w' vs hM hE hP => ?_) ?_
      rotate_left
      · (clear hP hM; have zz0 := cs_ext hE htc; have zz1 := cs_ext hE f0; have zz2 := cs_ext hE f1; have zz3 := cs_ext hE f2; have zz4 := cs_ext hE f3; have zz5 := cs_ext hE f4; go_simp; first | done | rfl)
      refine reg_value (fun _ => rfl) ?_ (fun g w' vs hM hE hP => ?_) ?_
      rotate_left
      · (clear hP hM; have zz0 := cs_ext hE htc; have zz1 := cs_ext hE f0; have zz2 := cs_ext hE f1; have zz3 := cs_ext hE f2; have zz4 := cs_ext hE f3; have zz5 := cs_ext hE f4; go_simp; first | done | rfl)
      refine reg_value (fun _ => rfl) ?_ (fun g w' vs hM hE hP => ?_) ?_
      rotate_left
      · (clear hP hM; have zz0 := cs_ext hE htc; have zz1 := cs_ext hE f0; have zz2 := cs_ext hE f1; have zz3 := cs_ext hE f2; have zz4 := cs_ext hE f3; have zz5 := cs_ext hE f4; go_simp; first | done | rfl)
      refine reg_value (fun _ => rfl) ?_ (fun g w' vs hM hE hP => ?_) ?_
      rotate_left
      · (clear hP hM; have zz0 := cs_ext hE htc; have zz1 := cs_ext hE f0; have zz2 := cs_ext hE f1; have zz3 := cs_ext hE f2; have zz4 := cs_ext hE f3; have zz5 := cs_ext hE f4; go_simp; first | done | rfl)
      refine reg_fresh (fun _ => rfl) (fun n => .pointer (some ⟨n, 0, none⟩)) ?_ (fun g w' vs hM hE hP => ?_) ?_
      rotate_left
      · (clear hP hM; have zz0 := cs_ext hE htc; have zz1 := cs_ext hE f0; have zz2 := cs_ext hE f1; have zz3 := cs_ext hE f2; have zz4 := cs_ext hE f3; have zz5 := cs_ext hE f4; go_simp; first | done | rfl | exact ⟨rfl, rfl⟩)
      intro g wz hE2 hF hQ
      simp only [List.drop_succ_cons, List.drop_zero, Act.put, List.setIfInBounds_toArray, List.set_cons_succ, List.set_cons_zero]
      obtain ⟨-, hF, -⟩ := hF
      obtain ⟨hg, hge⟩ := hF _ List.mem_cons_self
      simp at hg hge
      clear hF hQ f0 f1 f2 f3 f4 htc
      refine wpList_store_all rfl 39 (.tmp 10) (.tmp 75) rfl (g 14).n _ rfl rfl 39 _ hg (by kernel_rfl) rfl (by simp [Value.oneCell']) ?_
      obtain ⟨lb, hlb⟩ : ∃ lb, lb = (g 14).n := ⟨_, rfl⟩
      obtain ⟨w5, hw5⟩ : ∃ w5, w5 = wz.setRow lb #[.int .i64 6, .string x.bytes, .int .i64 x.n, .int .i64 x.low, .int .i64 x.high] := ⟨_, rfl⟩
      rw [← hlb] at hg hge ⊢
      rw [← hw5]
      have hE5 : Ext w4 w5 := by rw [hw5]; exact hE2.setRow hge _
      have hlc : w5.heap[lb]? = some (.cells #[.int .i64 6, .string x.bytes, .int .i64 x.n, .int .i64 x.low, .int .i64 x.high] 39) := by rw [hw5]; exact setRow_heap _ _ _ _ _ _ hg
      have L0 : Hid (w5.cell? ⟨lb, 0, none⟩ = some (.int .i64 6)) := Lib.hid (by simp [World.cell?, hlc])
      have H5 := Lib.hid (H4.out.trans hE5)
      clear hw5 hg hge hE2 hlb hE5 hlc
      go_wp2_with fail
      refine (HP.out _).mono ?_
      rintro e w6 ⟨rfl, hE6⟩
      have H6 := Lib.hid (H5.out.trans hE6)
      have L1 := Lib.hid (cs_ext hE6 L0.out)
      clear hE6
      go_wp2_with fail
      refine (HC1.out _ H6.out).mono ?_
      rintro e w7 ⟨rfl, hE7⟩
      have H7 := Lib.hid (H6.out.trans hE7)
      have L2 := Lib.hid (cs_ext hE7 L1.out)
      clear hE7
      go_wp2_with fail
      refine (HC2.out _ H7.out).mono ?_
      rintro e w8 ⟨rfl, hE8⟩
      have H8 := Lib.hid (H7.out.trans hE8)
      have l3 := cs_ext hE8 L2.out
      clear hE8
      go_wp2_with fail
      go_ret
      exact ⟨rfl, H8.out⟩

end Go.Proofs.Ythoelnoahfedmaa
