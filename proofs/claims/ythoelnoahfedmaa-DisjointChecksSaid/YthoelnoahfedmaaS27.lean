/- The walks of the laws Checks and String. -/
import Derived.Test.YthoelnoahfedmaaS22
import Derived.Test.YthoelnoahfedmaaS23
import Derived.Test.YthoelnoahfedmaaS26
namespace Go.Proofs.Ythoelnoahfedmaa
open Go Go.RowKit
set_option linter.unusedVariables false
set_option linter.unusedSimpArgs false

set_option maxRecDepth 100000 in
set_option maxHeartbeats 1600000 in
theorem law_checks {w : World} {a la : Option Addr} {t : List Fmt} {cap lcap : Nat} {i j : Int} {L : List (Int × Int)} (hT : TabA w w.heap.size a t) (hcap : t.length ≤ cap) (hcap2 : cap ≤ 9223372036854775807) (hA : PairsA w la L) (hl63 : L.length ≤ 9223372036854775807) (hI : ∀ x ∈ L, I64 x.1 ∧ I64 x.2) :
    Calls Try.prog 10 #[.slice a t.length cap, .agg #[.int .i64 i, .int .i64 j, .slice la L.length lcap]] w fun e w' => e = .returned (.bool true) ∧ Ext w w' := by
  have HF := Lib.hid (fun (w' : World) (hE : Ext w w') => Few_any (cap := cap) (hT.ext (Nat.le_refl _) hE) hE.size)
  obtain ⟨bb, hbb⟩ : ∃ bb : Bool, bb = true ↔ CheckP t i j L := by classical exact ⟨decide (CheckP t i j L), by simp⟩
  have HC := Lib.hid (fun (hl : L.length ≤ 4000) (w' : World) (hE : Ext w w') (a' : Option Addr) (cap' : Nat) (hA' : PairsA w' a' L) => (Check_any (lcap := cap') (i := i) (j := j) (hT.ext (Nat.le_refl _) hE) hE.size hcap hcap2 hA' (by omega) hI).mono (fun e w'' ⟨b, he, hx, hb⟩ => (⟨by rw [he, Bool.eq_iff_iff.2 (hb.trans hbb.symm)], hx⟩ : e = Ending.returned (.bool bb) ∧ Ext w' w'')))
  have HR := Lib.hid (fun (hl : L.length ≤ 4000) (w' : World) (hE : Ext w w') => (rCheck_any (lcap := lcap) (i := i) (j := j) (hT.ext (Nat.le_refl _) hE) hE.size hcap hcap2 (hA.ext hE) (by omega) hI).mono (fun e w'' ⟨b, he, hx, hb⟩ => (⟨by rw [he, Bool.eq_iff_iff.2 (hb.trans hbb.symm)], hx⟩ : e = Ending.returned (.bool bb) ∧ Ext w' w'')))
  have HCL := Lib.hid (fun (hl : L.length ≤ 4000) (w' : World) (hE : Ext w w') => clone_any (cap := lcap) (hA.ext hE) (by omega))
  have HT := Lib.hid hT
  clear hT hA hI hbb
  obtain ⟨cb, hcb⟩ : ∃ cb, cb = w.heap.size := ⟨_, rfl⟩
  obtain ⟨w0, hw0⟩ : ∃ w0, w0 = w.alloc (.cells #[.int .i64 i, .int .i64 j, .slice la L.length lcap] 56) := ⟨_, rfl⟩
  have H0 : Hid (Ext w w0) := Lib.hid (by rw [hw0]; exact Ext.alloc w _)
  have C0 : Hid (w0.cell? ⟨cb, 0, none⟩ = some (.int .i64 i)) := Lib.hid (by rw [hw0, hcb]; exact cs_new rfl)
  have C1 : Hid (w0.cell? ⟨cb, 1, none⟩ = some (.int .i64 j)) := Lib.hid (by rw [hw0, hcb]; exact cs_new rfl)
  have C2 : Hid (w0.cell? ⟨cb, 2, none⟩ = some (.slice la L.length lcap)) := Lib.hid (by rw [hw0, hcb]; exact cs_new rfl)
  go_enter Try.func10, Try.ntmps10
  go_upto_region 1 with fail
  rw [← hw0, ← hcb]
  clear hw0 hcb
  go_wp2_with fail
  refine awake_any.mono ?_
  rintro e w1 ⟨rfl, hE1⟩
  obtain ⟨few, hfew⟩ : ∃ b, b = fewS t := ⟨_, rfl⟩
  have HFW := Lib.hid hfew
  have H1 := Lib.hid hE1
  clear hfew hE1
  go_wp2_with fail
  refine (HF.out _ (H0.out.trans H1.out)).mono ?_
  rintro e w2 ⟨rfl, hE2⟩
  rw [← HFW.out]
  have H2 := Lib.hid (H1.out.trans hE2)
  clear hE2
  cases few
  · go_wp2_with fail
    refine awake_any.mono ?_
    rintro e w9 ⟨rfl, hE9⟩
    have H9 := Lib.hid (H2.out.trans hE9)
    clear hE9
    go_wp2_with fail
    go_ret
    exact ⟨rfl, H0.out.trans H9.out⟩
  have c2 := cs_ext H2.out C2.out
  by_cases hbig : 3000 < L.length
  · have e1 : decide ((3000 : Int) < (L.length : Int)) = true := decide_eq_true (by omega)
    go_wp2_with fail
    refine awake_any.mono ?_
    rintro e w9 ⟨rfl, hE9⟩
    have H9 := Lib.hid (H2.out.trans hE9)
    clear hE9
    go_wp2_with fail
    go_ret
    exact ⟨rfl, H0.out.trans H9.out⟩
  · have e1 : decide ((3000 : Int) < (L.length : Int)) = false := decide_eq_false (by omega)
    have hl4 : L.length ≤ 4000 := by omega
    have HCL' := Lib.hid (HCL.out hl4)
    have HC' := Lib.hid (HC.out hl4)
    have HR' := Lib.hid (HR.out hl4)
    clear HCL HC HR hbig
    go_wp2_with fail
    have c0 := cs_ext H2.out C0.out
    have c1 := cs_ext H2.out C1.out
    refine wp_region_reg 18 false (by kernel_rfl) (by kernel_rfl) ?_
    refine reg_value (fun _ => rfl) ?_ (fun g w' vs hM hE hP => ?_) ?_
    rotate_left
    · (clear hP hM; have zz0 := cs_ext hE c0; have zz1 := cs_ext hE c1; have zz2 := cs_ext hE c2; go_simp; first | done | rfl)
    refine reg_value (fun _ => rfl) ?_ (fun g w' vs hM hE hP => ?_) ?_
    rotate_left
    · (clear hP hM; have zz0 := cs_ext hE c0; have zz1 := cs_ext hE c1; have zz2 := cs_ext hE c2; go_simp; first | done | rfl)
    refine reg_value (fun _ => rfl) ?_ (fun g w' vs hM hE hP => ?_) ?_
    rotate_left
    · (clear hP hM; have zz0 := cs_ext hE c0; have zz1 := cs_ext hE c1; have zz2 := cs_ext hE c2; go_simp; first | done | rfl)
    refine reg_value (fun _ => rfl) ?_ (fun g w' vs hM hE hP => ?_) ?_
    rotate_left
    · (clear hP hM; have zz0 := cs_ext hE c0; have zz1 := cs_ext hE c1; have zz2 := cs_ext hE c2; go_simp; first | done | rfl)
    refine reg_value (fun _ => rfl) ?_ (fun g w' vs hM hE hP => ?_) ?_
    rotate_left
    · (clear hP hM; have zz0 := cs_ext hE c0; have zz1 := cs_ext hE c1; have zz2 := cs_ext hE c2; go_simp; first | done | rfl)
    refine reg_value (fun _ => rfl) ?_ (fun g w' vs hM hE hP => ?_) ?_
    rotate_left
    · (clear hP hM; have zz0 := cs_ext hE c0; have zz1 := cs_ext hE c1; have zz2 := cs_ext hE c2; go_simp; first | done | rfl)
    refine reg_value (fun _ => rfl) ?_ (fun g w' vs hM hE hP => ?_) ?_
    rotate_left
    · (clear hP hM; have zz0 := cs_ext hE c0; have zz1 := cs_ext hE c1; have zz2 := cs_ext hE c2; go_simp; first | done | rfl)
    refine reg_call (fun _ => rfl) 31 ?_ (fun g w' m hM hE hP => ?_) (fun u w => ∃ a' cap', u = .slice a' L.length cap' ∧ PairsA w a' L) ⟨fun u a b h hE => (let ⟨a', c', h1, h2⟩ := h; ⟨a', c', h1, h2.ext hE⟩), (fun h => nomatch h), (fun h => absurd rfl h)⟩ (fun g w' m hM hE hP => ?_) ?_
    rotate_left
    · (clear hP hM; have zz2 := cs_ext hE c2; go_simp; first | done | exact ⟨rfl, rfl⟩ | rfl)
    · refine (HCL'.out w' (H0.out.trans (H2.out.trans hE))).mono ?_
      rintro e w'' ⟨v, rfl, h1, h2⟩
      exact ⟨_, rfl, h1, h2⟩
    refine reg_const (fun _ => rfl) 29 ?_ (fun g w' vs hM hE hP => ?_) ?_
    rotate_left
    · (clear hP hM; go_simp; first | done | exact ⟨rfl, rfl⟩ | rfl)
    apply Exists.intro
    refine And.intro (fun g w' vs hM hE hP => ?_) ?_
    · obtain ⟨a', cap', hv, hA'⟩ := hP _ List.mem_cons_self (anc_of 3 (by kernel_rfl))
      simp only at hv
      rw [hv]
      exact HC'.out w' (H0.out.trans (H2.out.trans hE)) a' cap' hA'
    refine reg_value (fun _ => rfl) ?_ (fun g w' vs hM hE hP => ?_) ?_
    rotate_left
    · (clear hP hM; have zz0 := cs_ext hE c0; have zz1 := cs_ext hE c1; have zz2 := cs_ext hE c2; go_simp; first | done | rfl)
    refine reg_value (fun _ => rfl) ?_ (fun g w' vs hM hE hP => ?_) ?_
    rotate_left
    · (clear hP hM; have zz0 := cs_ext hE c0; have zz1 := cs_ext hE c1; have zz2 := cs_ext hE c2; go_simp; first | done | rfl)
    refine reg_value (fun _ => rfl) ?_ (fun g w' vs hM hE hP => ?_) ?_
    rotate_left
    · (clear hP hM; have zz0 := cs_ext hE c0; have zz1 := cs_ext hE c1; have zz2 := cs_ext hE c2; go_simp; first | done | rfl)
    refine reg_value (fun _ => rfl) ?_ (fun g w' vs hM hE hP => ?_) ?_
    rotate_left
    · (clear hP hM; have zz0 := cs_ext hE c0; have zz1 := cs_ext hE c1; have zz2 := cs_ext hE c2; go_simp; first | done | rfl)
    refine reg_value (fun _ => rfl) ?_ (fun g w' vs hM hE hP => ?_) ?_
    rotate_left
    · (clear hP hM; have zz0 := cs_ext hE c0; have zz1 := cs_ext hE c1; have zz2 := cs_ext hE c2; go_simp; first | done | rfl)
    refine reg_value (fun _ => rfl) ?_ (fun g w' vs hM hE hP => ?_) ?_
    rotate_left
    · (clear hP hM; have zz0 := cs_ext hE c0; have zz1 := cs_ext hE c1; have zz2 := cs_ext hE c2; go_simp; first | done | rfl)
    refine reg_value (fun _ => rfl) ?_ (fun g w' vs hM hE hP => ?_) ?_
    rotate_left
    · (clear hP hM; have zz0 := cs_ext hE c0; have zz1 := cs_ext hE c1; have zz2 := cs_ext hE c2; go_simp; first | done | rfl)
    refine reg_const (fun _ => rfl) 32 ?_ (fun g w' vs hM hE hP => ?_) ?_
    rotate_left
    · (clear hP hM; have zz0 := cs_ext hE c0; have zz1 := cs_ext hE c1; have zz2 := cs_ext hE c2; go_simp; first | done | exact ⟨rfl, rfl⟩ | rfl)
    apply Exists.intro
    refine And.intro (fun g w' vs hM hE hP => ?_) ?_
    · exact HR'.out _ (H0.out.trans (H2.out.trans hE))
    refine reg_value (fun _ => rfl) ?_ (fun g w' vs hM hE hP => ?_) ?_
    rotate_left
    · (clear hP hM; have zz0 := cs_ext hE c0; have zz1 := cs_ext hE c1; have zz2 := cs_ext hE c2; go_simp; first | done | rfl)
    intro g wz hE hF hQ
    simp only [List.drop_succ_cons, List.drop_zero, Act.put, List.setIfInBounds_toArray, List.set_cons_succ, List.set_cons_zero]
    have H3 := Lib.hid (H0.out.trans (H2.out.trans hE))
    clear hF hQ hE c0 c1 c2
    go_wp2_with fail
    go_ret
    exact ⟨rfl, H3.out⟩

set_option maxRecDepth 100000 in
set_option maxHeartbeats 1600000 in
theorem law_string {w : World} {a la : Option Addr} {t : List Fmt} {cap lcap : Nat} {i j : Int} {L : List (Int × Int)} {s : ByteArray} (hT : TabA w w.heap.size a t) (hcap : t.length ≤ cap) (hcap2 : cap ≤ 9223372036854775807) (hA : PairsA w la L) (hl63 : L.length ≤ 9223372036854775807) (hI : ∀ x ∈ L, I64 x.1 ∧ I64 x.2) (hs : s.size ≤ maxLen) :
    Calls Try.prog 9 #[.slice a t.length cap, .agg #[.int .i64 i, .int .i64 j, .slice la L.length lcap], .string s] w fun e w' => e = .returned (.bool true) ∧ Ext w w' := by
  have hs63 := hs
  unfold maxLen at hs63
  have HF := Lib.hid (fun (w' : World) (hE : Ext w w') => Few_any (cap := cap) (hT.ext (Nat.le_refl _) hE) hE.size)
  have HC := Lib.hid (fun (hl : L.length ≤ 4000) (w' : World) (hE : Ext w w') => Check_any (lcap := lcap) (i := i) (j := j) (hT.ext (Nat.le_refl _) hE) hE.size hcap hcap2 (hA.ext hE) (by omega) hI)
  have HCO := Lib.hid (fun (w' : World) (hE : Ext w w') => Common_any (i := i) (j := j) (hT.ext (Nat.le_refl _) hE) hE.size hcap hcap2)
  obtain ⟨v0, hv0⟩ : ∃ v0, v0 = errS t [i, j] := ⟨_, rfl⟩
  have hcE := fun (w' : World) (hE : Ext w w') => Error_any (la := some ⟨w'.heap.size, 0, none⟩) (lcap := 2) (l := [i, j]) (hT.ext (Nat.le_refl _) (hE.then_al (.cells #[.int .i64 i, .int .i64 j] 3))) (hE.then_al _).size hcap hcap2 ints_two (by simp)
  rw [← hv0] at hcE
  have HCE := Lib.hid hcE
  have HV0 := Lib.hid hv0
  have HT := Lib.hid hT
  clear hT hA hI hv0 hcE
  obtain ⟨cb, hcb⟩ : ∃ cb, cb = w.heap.size := ⟨_, rfl⟩
  obtain ⟨w0, hw0⟩ : ∃ w0, w0 = w.alloc (.cells #[.int .i64 i, .int .i64 j, .slice la L.length lcap] 56) := ⟨_, rfl⟩
  have H0 : Hid (Ext w w0) := Lib.hid (by rw [hw0]; exact Ext.alloc w _)
  have C0 : Hid (w0.cell? ⟨cb, 0, none⟩ = some (.int .i64 i)) := Lib.hid (by rw [hw0, hcb]; exact cs_new rfl)
  have C1 : Hid (w0.cell? ⟨cb, 1, none⟩ = some (.int .i64 j)) := Lib.hid (by rw [hw0, hcb]; exact cs_new rfl)
  have C2 : Hid (w0.cell? ⟨cb, 2, none⟩ = some (.slice la L.length lcap)) := Lib.hid (by rw [hw0, hcb]; exact cs_new rfl)
  go_enter Try.func9, Try.ntmps9
  go_upto_region 1 with fail
  rw [← hw0, ← hcb]
  clear hw0 hcb
  go_wp2_with fail
  refine awake_any.mono ?_
  rintro e w1 ⟨rfl, hE1⟩
  obtain ⟨few, hfew⟩ : ∃ b, b = fewS t := ⟨_, rfl⟩
  have HFW := Lib.hid hfew
  have H1 := Lib.hid hE1
  clear hfew hE1
  go_wp2_with fail
  refine (HF.out _ (H0.out.trans H1.out)).mono ?_
  rintro e w2 ⟨rfl, hE2⟩
  rw [← HFW.out]
  have H2 := Lib.hid (H1.out.trans hE2)
  clear hE2
  cases few
  · go_wp2_with fail
    refine awake_any.mono ?_
    rintro e w9 ⟨rfl, hE9⟩
    have H9 := Lib.hid (H2.out.trans hE9)
    clear hE9
    go_wp2_with fail
    go_ret
    exact ⟨rfl, H0.out.trans H9.out⟩
  have c2 := cs_ext H2.out C2.out
  by_cases hbig : 3000 < L.length
  · have e1 : decide ((3000 : Int) < (L.length : Int)) = true := decide_eq_true (by omega)
    go_wp2_with fail
    refine awake_any.mono ?_
    rintro e w9 ⟨rfl, hE9⟩
    have H9 := Lib.hid (H2.out.trans hE9)
    clear hE9
    go_wp2_with fail
    go_ret
    exact ⟨rfl, H0.out.trans H9.out⟩
  have e1 : decide ((3000 : Int) < (L.length : Int)) = false := decide_eq_false (by omega)
  have hl4 : L.length ≤ 4000 := by omega
  have HC' := Lib.hid (HC.out hl4)
  clear HC
  by_cases hsz : 100 < s.size
  · have e2 : decide ((100 : Int) < (s.size : Int)) = true := decide_eq_true (by omega)
    go_wp2_with fail
    refine awake_any.mono ?_
    rintro e w9 ⟨rfl, hE9⟩
    have H9 := Lib.hid (H2.out.trans hE9)
    clear hE9
    go_wp2_with fail
    go_ret
    exact ⟨rfl, H0.out.trans H9.out⟩
  have e2 : decide ((100 : Int) < (s.size : Int)) = false := decide_eq_false (by omega)
  have c0 := cs_ext H2.out C0.out
  have c1 := cs_ext H2.out C1.out
  go_wp2_with fail
  refine (HCE.out _ (H0.out.trans H2.out)).mono ?_
  rintro e w3 ⟨rfl, hE3⟩
  have H3 := Lib.hid ((H2.out.then_al _).trans hE3)
  clear hE3 c0 c1 c2 e1 e2 hbig
  by_cases hz : v0 = 0
  · subst hz
    obtain ⟨hv, hix⟩ := errS_zero HV0.out.symm
    obtain ⟨h0i, hit⟩ := hix i (by simp)
    obtain ⟨h0j, hjt⟩ := hix j (by simp)
    obtain ⟨i', rfl⟩ : ∃ i' : Nat, i = i' := ⟨i.toNat, by omega⟩
    obtain ⟨j', rfl⟩ : ∃ j' : Nat, j = j' := ⟨j.toNat, by omega⟩
    obtain ⟨fm, hfm⟩ : ∃ fm, t[i']? = some fm := ⟨_, List.getElem?_eq_getElem (by omega)⟩
    obtain ⟨gm, hgm⟩ : ∃ gm, t[j']? = some gm := ⟨_, List.getElem?_eq_getElem (by omega)⟩
    have hVf := valid_VFmt hv hfm
    have hVg := valid_VFmt hv hgm
    have HB1 := Lib.hid (fun (w' : World) (hE : Ext w w') (x : ByteArray) (hx : x.size ≤ maxLen) => Belongs_any (cap := cap) (s := x) hx (HT.out.ext (Nat.le_refl _) hE) hE.size hfm hVf)
    have HB2 := Lib.hid (fun (w' : World) (hE : Ext w w') (x : ByteArray) (hx : x.size ≤ maxLen) => Belongs_any (cap := cap) (s := x) hx (HT.out.ext (Nat.le_refl _) hE) hE.size hgm hVg)
    obtain ⟨b1, hb1⟩ : ∃ b, b = belS t fm.fields s := ⟨_, rfl⟩
    obtain ⟨b2, hb2⟩ : ∃ b, b = belS t gm.fields s := ⟨_, rfl⟩
    have hc1 := fun (w' : World) (hE : Ext w w') => HB1.out w' hE s hs
    have hc2 := fun (w' : World) (hE : Ext w w') => HB2.out w' hE s hs
    rw [← hb1] at hc1
    rw [← hb2] at hc2
    have HC1 := Lib.hid hc1
    have HC2 := Lib.hid hc2
    have HNO : Hid (b1 = true → b2 = true → ¬ CheckP t i' j' L) := Lib.hid (fun h1 h2 h => check_no h hfm hgm (by rw [← hb1]; exact h1) (by rw [← hb2]; exact h2))
    have HHAS : Hid (b1 = true → b2 = true → ∀ s' er, CommonR t i' j' s' er → er = 3 ∨ er = 0 ∧ s'.size ≤ 20000 ∧ belS t fm.fields s' = true ∧ belS t gm.fields s' = true) :=
      Lib.hid (fun h1 h2 s' er h => com_has h HV0.out.symm hfm hgm (by rw [← hb1]; exact h1) (by rw [← hb2]; exact h2))
    clear hc1 hc2 hb1 hb2 hfm hgm hVf hVg hv hix
    have H2 := H3
    have c0 := cs_ext H3.out C0.out
    go_wp2_with fail
    refine (HC1.out _ (H0.out.trans H3.out)).mono ?_
    rintro e w4 ⟨rfl, hE4⟩
    have H4 := Lib.hid (H3.out.trans hE4)
    clear hE4 c0
    have H2 := H4
    cases b1
    · go_wp2_with fail
      refine awake_any.mono ?_
      rintro e w9 ⟨rfl, hE9⟩
      have H9 := Lib.hid (H2.out.trans hE9)
      clear hE9
      go_wp2_with fail
      go_ret
      exact ⟨rfl, H0.out.trans H9.out⟩
    have c1 := cs_ext H4.out C1.out
    go_wp2_with fail
    refine (HC2.out _ (H0.out.trans H4.out)).mono ?_
    rintro e w5 ⟨rfl, hE5⟩
    have H5 := Lib.hid (H4.out.trans hE5)
    clear hE5 c1
    have H2 := H5
    cases b2
    · go_wp2_with fail
      refine awake_any.mono ?_
      rintro e w9 ⟨rfl, hE9⟩
      have H9 := Lib.hid (H2.out.trans hE9)
      clear hE9
      go_wp2_with fail
      go_ret
      exact ⟨rfl, H0.out.trans H9.out⟩
    have c0 := cs_ext H5.out C0.out
    have c1 := cs_ext H5.out C1.out
    go_wp2_with fail
    refine (HCO.out _ (H0.out.trans H5.out)).mono ?_
    rintro e w6 ⟨s', er, rfl, hE6, hR⟩
    have H6 := Lib.hid (H5.out.trans hE6)
    have hcs := HHAS.out (by first | rfl | trivial) (by first | rfl | trivial) s' er hR
    clear hE6 c0 c1 hR
    have c0 := cs_ext H6.out C0.out
    have c1 := cs_ext H6.out C1.out
    have c2 := cs_ext H6.out C2.out
    rcases hcs with rfl | ⟨rfl, hs', hb1, hb2⟩
    · go_wp2_with fail
      refine (HC'.out _ (H0.out.trans H6.out)).mono ?_
      rintro e w7 ⟨b, rfl, hE7, hb⟩
      have hbf : b = false := by cases b; rfl; exact absurd (hb.1 rfl) (HNO.out (by first | rfl | trivial) (by first | rfl | trivial))
      subst hbf
      have H7 := Lib.hid (H6.out.trans hE7)
      clear hE7 hb c0 c1 c2
      go_wp2_with fail
      go_ret
      exact ⟨rfl, H0.out.trans H7.out⟩
    · have hc1 := fun (w' : World) (hE : Ext w w') => HB1.out w' hE s' (by unfold maxLen; omega)
      have hc2 := fun (w' : World) (hE : Ext w w') => HB2.out w' hE s' (by unfold maxLen; omega)
      rw [hb1] at hc1
      rw [hb2] at hc2
      have HD1 := Lib.hid hc1
      have HD2 := Lib.hid hc2
      clear hc1 hc2 hb1 hb2
      go_wp2_with fail
      refine (HC'.out _ (H0.out.trans H6.out)).mono ?_
      rintro e w7 ⟨b, rfl, hE7, hb⟩
      have hbf : b = false := by cases b; rfl; exact absurd (hb.1 rfl) (HNO.out (by first | rfl | trivial) (by first | rfl | trivial))
      subst hbf
      have H7 := Lib.hid (H6.out.trans hE7)
      clear hE7 hb c0 c1 c2
      have c0 := cs_ext H7.out C0.out
      go_wp2_with fail
      refine (HD1.out _ (H0.out.trans H7.out)).mono ?_
      rintro e w8 ⟨rfl, hE8⟩
      have H8 := Lib.hid (H7.out.trans hE8)
      clear hE8 c0
      have c1 := cs_ext H8.out C1.out
      go_wp2_with fail
      refine (HD2.out _ (H0.out.trans H8.out)).mono ?_
      rintro e w9 ⟨rfl, hE9⟩
      have H9 := Lib.hid (H8.out.trans hE9)
      clear hE9 c1
      go_wp2_with fail
      go_ret
      exact ⟨rfl, H0.out.trans H9.out⟩
  · have e1 : (v0 == 0) = false := beq_eq_false_iff_ne.2 hz
    have e2 : (v0 != 0) = true := by simp [hz]
    have H2 := H3
    go_wp2_with fail
    refine awake_any.mono ?_
    rintro e w9 ⟨rfl, hE9⟩
    have H9 := Lib.hid (H2.out.trans hE9)
    clear hE9
    go_wp2_with fail
    go_ret
    exact ⟨rfl, H0.out.trans H9.out⟩

end Go.Proofs.Ythoelnoahfedmaa
