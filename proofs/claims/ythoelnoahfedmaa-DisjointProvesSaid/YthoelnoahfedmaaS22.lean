/- Check: the walk. -/
import Derived.Test.YthoelnoahfedmaaS21
import Derived.Test.YthoelnoahfedmaaP1
namespace Go.Proofs.Ythoelnoahfedmaa
open Go Go.RowKit
set_option linter.unusedVariables false
set_option linter.unusedSimpArgs false

theorem sorted_adj {L : List (Int × Int)} (h : ∀ (k : Nat) x y, L[k]? = some x → L[k + 1]? = some y → ltP x y) : L.Pairwise ltP := by
  rw [List.pairwise_iff_getElem]
  intro i j hi hj hij
  obtain ⟨d, rfl⟩ : ∃ d, j = i + 1 + d := ⟨j - i - 1, by omega⟩
  induction d with
  | zero => exact h i _ _ (List.getElem?_eq_getElem hi) (List.getElem?_eq_getElem hj)
  | succ d ih => exact ltP_trans (ih (by omega) (by omega)) (h (i + 1 + d) _ _ (List.getElem?_eq_getElem (by omega)) (List.getElem?_eq_getElem hj))

theorem no_step {t : List Fmt} {fm : Fmt} (hV : VFmt t fm) {s : Int} {c : Nat} (hc : c ≤ 255) (h : exists1 t fm.fields s = false) : rStep t fm.fields s c < 0 := by
  rw [step_eq hV s c hc]
  unfold pstep1
  rw [if_pos (.inl h)]
  omega

theorem existsV {w : World} {B : Nat} {a : Option Addr} {t : List Fmt} {cap : Nat} {i : Nat} {fm : Fmt} (s : Int) (h1 : s ≤ 9223372036854775807) (hT : TabA w B a t) (hB : B ≤ w.heap.size) (hi : t[i]? = some fm) (hV : VFmt t fm) :
    Calls Try.prog 53 #[.agg #[.slice a t.length cap, .int .i64 i], .int .i64 s] w fun e w' => e = .returned (.bool (exists1 t fm.fields s)) ∧ Ext w w' :=
  exists1_any s h1 hT hB hi hV.ne (by have := hV.le; omega) hV.kinds hV.nested

set_option maxRecDepth 100000 in
set_option maxHeartbeats 2400000 in
theorem Check_any {w : World} {B : Nat} {a la : Option Addr} {t : List Fmt} {cap lcap : Nat} {i j : Int} {L : List (Int × Int)} (hT : TabA w B a t) (hB : B ≤ w.heap.size) (hcap : t.length ≤ cap) (hcap2 : cap ≤ 9223372036854775807)
    (hA : PairsA w la L) (hl63 : L.length ≤ 4000000000000000000) (hI : ∀ x ∈ L, I64 x.1 ∧ I64 x.2) :
    Calls Try.prog 29 #[.slice a t.length cap, .int .i64 i, .int .i64 j, .slice la L.length lcap] w fun e w' => ∃ b, e = .returned (.bool b) ∧ Ext w w' ∧ (b = true ↔ CheckP t i j L) := by
  obtain ⟨v0, hv0⟩ : ∃ v0, v0 = errS t [i, j] := ⟨_, rfl⟩
  have HV0 := Lib.hid hv0
  have hcon := fun (w' : World) (hE : Ext w w') => two_any (i := i) (j := j) (hT.ext hB hE) (by have := hE.size; omega) hcap hcap2
  rw [← hv0] at hcon
  have HCON := Lib.hid hcon
  clear hv0 hcon
  go_enter Try.func29, Try.ntmps29
  go_upto_region 1 with fail
  obtain ⟨w1, hw1⟩ : ∃ w1, w1 = w.alloc (Obj.cells #[Value.slice la L.length lcap] 48) := ⟨_, rfl⟩
  obtain ⟨lb, hlb⟩ : ∃ lb, lb = w.heap.size := ⟨_, rfl⟩
  have hE1 : Ext w w1 := by rw [hw1]; exact Ext.alloc w _
  have hbl : w1.heap[lb]? = some (.cells #[.slice la L.length lcap] 48) := by rw [hw1, hlb]; exact hs_new
  rw [← hw1, ← hlb]
  have HE1 := Lib.hid hE1
  have HBL := Lib.hid hbl
  clear hw1 hlb hE1 hbl
  go_wp2_with fail
  refine (HCON.out _ HE1.out).mono ?_
  rintro e w2 ⟨u, v, rfl, hE2, huv, huv'⟩
  have HE2 := Lib.hid (HE1.out.trans hE2)
  have HBL2 := Lib.hid (hs_ext hE2 HBL.out)
  clear hE2
  by_cases hz : v0 = 0
  · obtain ⟨rfl, rfl⟩ := huv hz
    subst hz
    obtain ⟨hv, hix⟩ := errS_zero HV0.out.symm
    obtain ⟨h0i, hit⟩ := hix i (by simp)
    obtain ⟨h0j, hjt⟩ := hix j (by simp)
    obtain ⟨i', rfl⟩ : ∃ i' : Nat, i = i' := ⟨i.toNat, by omega⟩
    obtain ⟨j', rfl⟩ : ∃ j' : Nat, j = j' := ⟨j.toNat, by omega⟩
    obtain ⟨fm, hfm⟩ : ∃ fm, t[i']? = some fm := ⟨_, List.getElem?_eq_getElem (by omega)⟩
    obtain ⟨gm, hgm⟩ : ∃ gm, t[j']? = some gm := ⟨_, List.getElem?_eq_getElem (by omega)⟩
    have hVf := valid_VFmt hv hfm
    have hVg := valid_VFmt hv hgm
    obtain ⟨tb, toff, rfl, -⟩ := hT.2 (ne_nil_of_get hfm)
    have HS1 := Lib.hid (fun (w' : World) (hE : Ext w w') (s : Int) (c : Nat) (hs : s ≤ 9223372036854775807) (hc : c ≤ 255) => stepV (cap := cap) s c hc hs (hT.ext hB hE) (by have := hE.size; omega) hfm hVf)
    have HS2 := Lib.hid (fun (w' : World) (hE : Ext w w') (s : Int) (c : Nat) (hs : s ≤ 9223372036854775807) (hc : c ≤ 255) => stepV (cap := cap) s c hc hs (hT.ext hB hE) (by have := hE.size; omega) hgm hVg)
    have HA1 := Lib.hid (fun (w' : World) (hE : Ext w w') (s : Int) (hs : s ≤ 9223372036854775807) => acceptsV (cap := cap) s hs (hT.ext hB hE) (by have := hE.size; omega) hfm hVf)
    have HA2 := Lib.hid (fun (w' : World) (hE : Ext w w') (s : Int) (hs : s ≤ 9223372036854775807) => acceptsV (cap := cap) s hs (hT.ext hB hE) (by have := hE.size; omega) hgm hVg)
    have HX1 := Lib.hid (fun (w' : World) (hE : Ext w w') (s : Int) (hs : s ≤ 9223372036854775807) => existsV (cap := cap) s hs (hT.ext hB hE) (by have := hE.size; omega) hfm hVf)
    have HX2 := Lib.hid (fun (w' : World) (hE : Ext w w') (s : Int) (hs : s ≤ 9223372036854775807) => existsV (cap := cap) s hs (hT.ext hB hE) (by have := hE.size; omega) hgm hVg)
    have HNO1 := Lib.hid (fun (s : Int) (c : Nat) (hc : c ≤ 255) (h : exists1 t fm.fields s = false) => no_step hVf hc h)
    have HNO2 := Lib.hid (fun (s : Int) (c : Nat) (hc : c ≤ 255) (h : exists1 t gm.fields s = false) => no_step hVg hc h)
    have HBODY : Hid (CheckP t i' j' L → ∀ p ∈ L, bothS fm.fields gm.fields p = false ∧ ∀ c < 256, ∀ n, stP t fm.fields gm.fields p c = some n → n ∈ L) := Lib.hid (fun h => h.body hfm hgm)
    have HMK : Hid (L.length ≤ 20000 → L.Pairwise ltP → (0, 0) ∈ L → (∀ p ∈ L, bothS fm.fields gm.fields p = false ∧ ∀ c < 256, ∀ n, stP t fm.fields gm.fields p c = some n → n ∈ L) → CheckP t i' j' L) :=
      Lib.hid (fun h1 h2 h3 h4 => ⟨HV0.out.symm, h1, h2, h3, i', j', fm, gm, rfl, rfl, hfm, hgm, hVf, hVg, h4⟩)
    have HAL := Lib.hid hA
    have HII := Lib.hid hI
    clear hv hix hfm hgm hVf hVg hT huv huv' hA hI
    go_upto_region 2 with fail
    obtain ⟨w3, hw3⟩ : ∃ w3, w3 = (w2.alloc (Obj.cells #[Value.slice (some ⟨tb, toff, none⟩) t.length cap, Value.int .i64 i'] 67)).alloc (Obj.cells #[Value.slice (some ⟨tb, toff, none⟩) t.length cap, Value.int .i64 j'] 67) := ⟨_, rfl⟩
    have hE3 : Ext w2 w3 := by rw [hw3]; exact (Ext.alloc w2 _).then_al _
    have b0 : w3.heap[w2.heap.size]? = some (.cells #[.slice (some ⟨tb, toff, none⟩) t.length cap, .int .i64 i'] 67) := by rw [hw3]; exact hs_al hs_new
    have b1 : w3.heap[w2.heap.size + 1]? = some (.cells #[.slice (some ⟨tb, toff, none⟩) t.length cap, .int .i64 j'] 67) := by
      rw [hw3]; have h := hs_new (w := w2.alloc (.cells #[.slice (some ⟨tb, toff, none⟩) t.length cap, .int .i64 i'] 67)) (o := .cells #[.slice (some ⟨tb, toff, none⟩) t.length cap, .int .i64 j'] 67); rwa [World.size_alloc] at h
    rw [← hw3]
    obtain ⟨ab, hab⟩ : ∃ ab, ab = w2.heap.size := ⟨_, rfl⟩
    rw [← hab] at b0 b1 ⊢
    have HE3 := Lib.hid (HE2.out.trans hE3)
    have K0 : Hid (w3.cell? ⟨ab, 0, none⟩ = some (.slice (some ⟨tb, toff, none⟩) t.length cap)) := Lib.hid (by rw [cellc b0]; rfl)
    have K1 : Hid (w3.cell? ⟨ab, 1, none⟩ = some (.int .i64 i')) := Lib.hid (by rw [cellc b0]; rfl)
    have K2 : Hid (w3.cell? ⟨ab + 1, 0, none⟩ = some (.slice (some ⟨tb, toff, none⟩) t.length cap)) := Lib.hid (by rw [cellc b1]; rfl)
    have K3 : Hid (w3.cell? ⟨ab + 1, 1, none⟩ = some (.int .i64 j')) := Lib.hid (by rw [cellc b1]; rfl)
    have HBL3 := Lib.hid (hs_ext hE3 HBL2.out)
    have zl : w3.cell? ⟨lb, 0, none⟩ = some (.slice la L.length lcap) := by rw [cellc HBL3.out]; rfl
    have HAL3 := Lib.hid (HAL.out.ext HE3.out)
    have ZL := Lib.hid zl
    clear b0 b1 hw3 hab hE3
    by_cases hbig : 20000 < L.length
    · have e1 : decide ((20000 : Int) < (L.length : Int)) = true := decide_eq_true (by omega)
      have HNOT : Hid (¬ CheckP t i' j' L) := Lib.hid (fun h => by have := h.2.1; omega)
      go_wp2_with fail
      go_ret
      exact ⟨false, rfl, HE3.out, by simp; exact HNOT.out⟩
    · have e1 : decide ((20000 : Int) < (L.length : Int)) = false := decide_eq_false (by omega)
      have hLs : L.length ≤ 20000 := by omega
      clear hbig
      go_wp2_with fail
      clear zl
      go_loopw [13] (fun kv wr => ∃ m : Nat, kv = .int .i64 ((m : Int) + 1) ∧ (∀ (q : Nat) x y, q < m → L[q]? = some x → L[q + 1]? = some y → ltP x y) ∧ m ≤ L.length ∧ Ext w3 wr) (fun kv _ => L.length + 2 - (intOf kv).toNat)
      case atStart => exact ⟨0, rfl, fun q x y h => by omega, by omega, Ext.refl _⟩
      case round =>
        obtain ⟨m, rfl, hadj, hml, hE⟩ := hrel
        have HADJ := Lib.hid hadj
        have zl := cs_ext hE ZL.out
        clear hadj
        by_cases hlt : m + 1 < L.length
        · obtain ⟨x, hx⟩ : ∃ x, L[m]? = some x := ⟨_, List.getElem?_eq_getElem (by omega)⟩
          obtain ⟨y, hy⟩ : ∃ y, L[m + 1]? = some y := ⟨_, List.getElem?_eq_getElem hlt⟩
          obtain ⟨lbk, off, rfl, x0, x1⟩ := HAL3.out m x hx
          obtain ⟨lbk', off', e', y0, y1⟩ := HAL3.out (m + 1) y hy
          cases e'
          have x0 := cs_ext hE x0
          have x1 := cs_ext hE x1
          have y0 := cs_ext hE y0
          have y1 := cs_ext hE y1
          have hmlt : m < L.length := by omega
          obtain ⟨o, ho⟩ : ∃ o, o = ordS x.1 x.2 y.1 y.2 := ⟨_, rfl⟩
          have hcon := fun (w' : World) => order_any x.1 x.2 y.1 y.2 w'
          rw [← ho] at hcon
          have HO := Lib.hid ho
          have HCON := Lib.hid hcon
          have HX := Lib.hid hx
          have HY := Lib.hid hy
          have HE := Lib.hid hE
          have e2 : decide (((m : Int) + 1) < (L.length : Int)) = true := decide_eq_true (by omega)
          have e3 : IntKind.i64.wrap (m : Int) = (m : Int) := IntWalk.i64_in _ (by omega)
          have e5 : (m : Int) + 1 < (L.length : Int) := by omega
          have e7 : 0 ≤ (m : Int) + 1 := by omega
          clear ho hcon hx hy hE
          go_wp2_with fail
          refine wp_region_reg 11 false (by kernel_rfl) (by kernel_rfl) ?_
          refine reg_value (fun _ => rfl) ?_ (fun g w' vs hM hE hP => ?_) ?_
          rotate_left
          · (clear hP hM; have zz0 := cs_ext hE zl; have zz1 := cs_ext hE x0; have zz2 := cs_ext hE x1; have zz3 := cs_ext hE y0; have zz4 := cs_ext hE y1; go_simp; first | done | rfl)
          refine reg_value (fun _ => rfl) ?_ (fun g w' vs hM hE hP => ?_) ?_
          rotate_left
          · (clear hP hM; have zz0 := cs_ext hE zl; have zz1 := cs_ext hE x0; have zz2 := cs_ext hE x1; have zz3 := cs_ext hE y0; have zz4 := cs_ext hE y1; go_simp; first | done | rfl)
          refine reg_value (fun _ => rfl) ?_ (fun g w' vs hM hE hP => ?_) ?_
          rotate_left
          · (clear hP hM; have zz0 := cs_ext hE zl; have zz1 := cs_ext hE x0; have zz2 := cs_ext hE x1; have zz3 := cs_ext hE y0; have zz4 := cs_ext hE y1; go_simp; first | done | rfl)
          refine reg_value (fun _ => rfl) ?_ (fun g w' vs hM hE hP => ?_) ?_
          rotate_left
          · (clear hP hM; have zz0 := cs_ext hE zl; have zz1 := cs_ext hE x0; have zz2 := cs_ext hE x1; have zz3 := cs_ext hE y0; have zz4 := cs_ext hE y1; go_simp; first | done | rfl)
          refine reg_value (fun _ => rfl) ?_ (fun g w' vs hM hE hP => ?_) ?_
          rotate_left
          · (clear hP hM; have zz0 := cs_ext hE zl; have zz1 := cs_ext hE x0; have zz2 := cs_ext hE x1; have zz3 := cs_ext hE y0; have zz4 := cs_ext hE y1; go_simp; first | done | rfl)
          refine reg_value (fun _ => rfl) ?_ (fun g w' vs hM hE hP => ?_) ?_
          rotate_left
          · (clear hP hM; have zz0 := cs_ext hE zl; have zz1 := cs_ext hE x0; have zz2 := cs_ext hE x1; have zz3 := cs_ext hE y0; have zz4 := cs_ext hE y1; go_simp; first | done | rfl)
          refine reg_value (fun _ => rfl) ?_ (fun g w' vs hM hE hP => ?_) ?_
          rotate_left
          · (clear hP hM; have zz0 := cs_ext hE zl; have zz1 := cs_ext hE x0; have zz2 := cs_ext hE x1; have zz3 := cs_ext hE y0; have zz4 := cs_ext hE y1; go_simp; first | done | rfl)
          refine reg_value (fun _ => rfl) ?_ (fun g w' vs hM hE hP => ?_) ?_
          rotate_left
          · (clear hP hM; have zz0 := cs_ext hE zl; have zz1 := cs_ext hE x0; have zz2 := cs_ext hE x1; have zz3 := cs_ext hE y0; have zz4 := cs_ext hE y1; go_simp; first | done | rfl)
          refine reg_value (fun _ => rfl) ?_ (fun g w' vs hM hE hP => ?_) ?_
          rotate_left
          · (clear hP hM; have zz0 := cs_ext hE zl; have zz1 := cs_ext hE x0; have zz2 := cs_ext hE x1; have zz3 := cs_ext hE y0; have zz4 := cs_ext hE y1; go_simp; first | done | rfl)
          refine reg_const (fun _ => rfl) 48 ?_ (fun g w' vs hM hE hP => ?_) ?_
          rotate_left
          · (clear hP hM; have zz0 := cs_ext hE zl; have zz1 := cs_ext hE x0; have zz2 := cs_ext hE x1; have zz3 := cs_ext hE y0; have zz4 := cs_ext hE y1; go_simp; first | done | exact ⟨rfl, rfl⟩ | rfl)
          apply Exists.intro
          refine And.intro (fun g w' vs hM hE hP => ?_) ?_
          · exact HCON.out _
          refine reg_value (fun _ => rfl) ?_ (fun g w' vs hM hE hP => ?_) ?_
          rotate_left
          · (clear hP hM; have zz0 := cs_ext hE zl; have zz1 := cs_ext hE x0; have zz2 := cs_ext hE x1; have zz3 := cs_ext hE y0; have zz4 := cs_ext hE y1; go_simp; first | done | rfl)
          intro g wz hE2 hF hQ
          simp only [List.drop_succ_cons, List.drop_zero, Act.put, List.setIfInBounds_toArray, List.set_cons_succ, List.set_cons_zero]
          clear hF hQ x0 x1 y0 y1 zl e3 e5 e7
          have HE2' := Lib.hid (HE.out.trans hE2)
          clear hE2
          by_cases hneg : 0 ≤ o
          · have e4 : decide ((0 : Int) ≤ o) = true := decide_eq_true hneg
            have HNOT : Hid (¬ CheckP t i' j' L) := Lib.hid (fun h => by
              have h1 := sorted_get h.2.2.1 HX.out HY.out (by omega)
              rw [← ord_lt, ← HO.out] at h1
              omega)
            go_wp2_with fail
            go_ret
            exact ⟨false, rfl, HE3.out.trans HE2'.out, by simp; exact HNOT.out⟩
          · have e4 : decide ((0 : Int) ≤ o) = false := decide_eq_false hneg
            have HLT : Hid (ltP x y) := Lib.hid (by rw [← ord_lt, ← HO.out]; omega)
            go_wp2_with fail
            go_roundw
            case rel => exact ⟨m + 1, by go_num, fun q x' y' hq h1 h2 => by
              rcases Nat.lt_or_ge q m with h' | h'
              · exact HADJ.out q x' y' h' h1 h2
              · have : q = m := by omega
                subst this
                rw [HX.out] at h1; rw [HY.out] at h2; cases h1; cases h2; exact HLT.out, by omega, HE2'.out⟩
            case measure => simp [intOf]; omega
        · have e2 : decide (((m : Int) + 1) < (L.length : Int)) = false := decide_eq_false (by omega)
          have HSO : Hid (L.Pairwise ltP) := Lib.hid (sorted_adj fun k x y h1 h2 => HADJ.out k x y (by have := (List.getElem?_eq_some_iff.1 h2).1; omega) h1 h2)
          have HE := Lib.hid hE
          clear hE
          have HBLr := Lib.hid (hs_ext HE.out HBL3.out)
          have HALr := Lib.hid (HAL3.out.ext HE.out)
          obtain ⟨z0, hz0⟩ : ∃ z0, z0 = decide (((0 : Int), (0 : Int)) ∈ L) := ⟨_, rfl⟩
          have hcl0 := closure_any (p := (0, 0)) HBLr.out HALr.out HSO.out hl63
          rw [← hz0] at hcl0
          have HZ0 := Lib.hid hz0
          clear hz0
          go_wp2_with fail
          refine hcl0.mono ?_
          rintro e w4 ⟨rfl, hE4⟩
          have HE4 := Lib.hid (HE.out.trans hE4)
          clear hE4 hcl0 zl
          cases z0
          · have HNOT : Hid (¬ CheckP t i' j' L) := Lib.hid (fun h => by have := HZ0.out; simp at this; exact this h.2.2.2.1)
            go_wp2_with fail
            go_ret
            exact ⟨false, rfl, HE3.out.trans HE4.out, by simp; exact HNOT.out⟩
          have HIN : Hid (((0 : Int), (0 : Int)) ∈ L) := Lib.hid (by have := HZ0.out; simpa using this)
          have zl := cs_ext HE4.out ZL.out
          go_wp2_with fail
          clear zl
          obtain ⟨wo, hwo⟩ : ∃ wo : World, wo = w4 := ⟨_, rfl⟩
          subst hwo
          go_loopw [57] (fun kv wr => ∃ k : Nat, kv = .int .i64 k ∧ k ≤ L.length ∧ Ext w3 wr ∧ (∀ (q : Nat) x, q < k → L[q]? = some x → bothS fm.fields gm.fields x = false ∧ ∀ c < 256, ∀ n, stP t fm.fields gm.fields x c = some n → n ∈ L)) (fun kv _ => L.length - (intOf kv).toNat)
          case atStart => exact ⟨0, rfl, by omega, HE4.out, fun q x h => by omega⟩
          case round =>
            obtain ⟨k, rfl, hk, hE, hcl⟩ := hrel
            have HE := Lib.hid hE
            have HCL := Lib.hid hcl
            clear hE hcl
            by_cases hlt : k < L.length
            · have e3 : decide ((k : Int) < (L.length : Int)) = true := decide_eq_true (by omega)
              obtain ⟨x, hx⟩ : ∃ x, L[k]? = some x := ⟨_, List.getElem?_eq_getElem hlt⟩
              obtain ⟨hx1, hx2⟩ := HII.out x (List.mem_of_getElem? hx)
              unfold I64 at hx1 hx2
              obtain ⟨lbk, off, rfl, x0, x1⟩ := HAL3.out k x hx
              have x0 := cs_ext HE.out x0
              have x1 := cs_ext HE.out x1
              obtain ⟨b1, hb1⟩ : ∃ b1, b1 = rAcc fm.fields x.1 := ⟨_, rfl⟩
              obtain ⟨b2, hb2⟩ : ∃ b2, b2 = rAcc gm.fields x.2 := ⟨_, rfl⟩
              obtain ⟨q1, hq1⟩ : ∃ q1, q1 = exists1 t fm.fields x.1 := ⟨_, rfl⟩
              obtain ⟨q2, hq2⟩ : ∃ q2, q2 = exists1 t gm.fields x.2 := ⟨_, rfl⟩
              have hc1 := fun (w' : World) (h : Ext w3 w') => HA1.out w' (HE3.out.trans h) x.1 hx1.2
              have hc2 := fun (w' : World) (h : Ext w3 w') => HA2.out w' (HE3.out.trans h) x.2 hx2.2
              have hd1 := fun (w' : World) (h : Ext w3 w') => HX1.out w' (HE3.out.trans h) x.1 hx1.2
              have hd2 := fun (w' : World) (h : Ext w3 w') => HX2.out w' (HE3.out.trans h) x.2 hx2.2
              rw [← hb1] at hc1
              rw [← hb2] at hc2
              rw [← hq1] at hd1
              rw [← hq2] at hd2
              have HBO : Hid (bothS fm.fields gm.fields x = (b1 && b2)) := Lib.hid (by rw [bothS, ← hb1, ← hb2])
              have HNX1 : Hid (q1 = false → ∀ c < 256, ∀ n, stP t fm.fields gm.fields x c = some n → n ∈ L) := Lib.hid (fun h c hc n hn => by
                rw [stP, if_pos (.inl (HNO1.out x.1 c (by omega) (by rw [← hq1]; exact h)))] at hn; cases hn)
              have HNX2 : Hid (q2 = false → ∀ c < 256, ∀ n, stP t fm.fields gm.fields x c = some n → n ∈ L) := Lib.hid (fun h c hc n hn => by
                rw [stP, if_pos (.inr (HNO2.out x.2 c (by omega) (by rw [← hq2]; exact h)))] at hn; cases hn)
              have HC1 := Lib.hid hc1
              have HC2 := Lib.hid hc2
              have HD1 := Lib.hid hd1
              have HD2 := Lib.hid hd2
              have HX := Lib.hid hx
              clear hc1 hc2 hd1 hd2 hb1 hb2 hq1 hq2 hx
              go_upto_region 15 with fail
              obtain ⟨pb, hpb⟩ : ∃ pb, pb = wr.heap.size := ⟨_, rfl⟩
              obtain ⟨w5, hw5⟩ : ∃ w5, w5 = wr.alloc (.cells #[.int .i64 x.1, .int .i64 x.2] 53) := ⟨_, rfl⟩
              rw [← hw5, ← hpb]
              have HE5 : Hid (Ext w3 w5) := Lib.hid (by rw [hw5]; exact HE.out.then_al _)
              have P0 : Hid (w5.cell? ⟨pb, 0, none⟩ = some (.int .i64 x.1)) := Lib.hid (by rw [hw5, hpb]; exact cs_new rfl)
              have P1 : Hid (w5.cell? ⟨pb, 1, none⟩ = some (.int .i64 x.2)) := Lib.hid (by rw [hw5, hpb]; exact cs_new rfl)
              clear hw5 hpb x0 x1
              have k0 := cs_ext HE5.out K0.out
              have k1 := cs_ext HE5.out K1.out
              have p0 := P0.out
              go_wp2_with fail
              refine (HC1.out _ HE5.out).mono ?_
              rintro e w6 ⟨rfl, hE6⟩
              have HEQ := Lib.hid (HE5.out.trans hE6)
              have HEP := Lib.hid hE6
              clear hE6 k0 k1 p0
              cases b1
              · have HNB : Hid (bothS fm.fields gm.fields x = false) := Lib.hid (by rw [HBO.out]; rfl)
                have k0 := cs_ext HEQ.out K0.out
                have k1 := cs_ext HEQ.out K1.out
                have p0 := cs_ext HEP.out P0.out
                go_wp2_with fail
                refine (HD1.out _ HEQ.out).mono ?_
                rintro e w8 ⟨rfl, hE8⟩
                have HEQ := Lib.hid (HEQ.out.trans hE8)
                have HEP := Lib.hid (HEP.out.trans hE8)
                clear hE8 k0 k1 p0
                cases q1
                · have HALL := Lib.hid (HNX1.out rfl)
                  go_wp2_with fail
                  go_roundw
                  case rel => exact ⟨k + 1, by go_num, by omega, HEQ.out, fun q y h hy => by
                    rcases Nat.lt_or_ge q k with h' | h'
                    · exact HCL.out q y h' hy
                    · have : q = k := by omega
                      subst this
                      rw [HX.out] at hy; cases hy; exact ⟨HNB.out, HALL.out⟩⟩
                  case measure => simp [intOf]; omega
                have k2 := cs_ext HEQ.out K2.out
                have k3 := cs_ext HEQ.out K3.out
                have p1 := cs_ext HEP.out P1.out
                go_wp2_with fail
                refine (HD2.out _ HEQ.out).mono ?_
                rintro e w9 ⟨rfl, hE9⟩
                have HEQ := Lib.hid (HEQ.out.trans hE9)
                have HEP := Lib.hid (HEP.out.trans hE9)
                clear hE9 k2 k3 p1
                cases q2
                · have HALL := Lib.hid (HNX2.out rfl)
                  go_wp2_with fail
                  go_roundw
                  case rel => exact ⟨k + 1, by go_num, by omega, HEQ.out, fun q y h hy => by
                    rcases Nat.lt_or_ge q k with h' | h'
                    · exact HCL.out q y h' hy
                    · have : q = k := by omega
                      subst this
                      rw [HX.out] at hy; cases hy; exact ⟨HNB.out, HALL.out⟩⟩
                  case measure => simp [intOf]; omega
                go_wp2_with fail
                obtain ⟨wi, hwi⟩ : ∃ wi : World, wi = wr := ⟨_, rfl⟩
                subst hwi
                go_loopw [83] (fun cv wr => ∃ c : Nat, cv = .int .i64 c ∧ c ≤ 256 ∧ Ext w9 wr ∧ (∀ c' < c, ∀ n, stP t fm.fields gm.fields x c' = some n → n ∈ L)) (fun cv _ => 256 - (intOf cv).toNat)
                case atStart => exact ⟨0, rfl, by omega, Ext.refl _, fun c' h => by omega⟩
                case round =>
                  obtain ⟨c, rfl, hc, hE3, hcc⟩ := hrel
                  have HE9 := Lib.hid hE3
                  have HEQ3 := Lib.hid (HEQ.out.trans hE3)
                  have HEP3 := Lib.hid (HEP.out.trans hE3)
                  have HCC := Lib.hid hcc
                  clear hE3 hcc
                  by_cases hc2 : c < 256
                  · have e4 : decide ((c : Int) < 256) = true := decide_eq_true (by omega)
                    obtain ⟨n1, hn1⟩ : ∃ n1, n1 = rStep t fm.fields x.1 c := ⟨_, rfl⟩
                    obtain ⟨n2, hn2⟩ : ∃ n2, n2 = rStep t gm.fields x.2 c := ⟨_, rfl⟩
                    have hcon1 := fun (w' : World) (h : Ext wr w') => HS1.out w' (HE3.out.trans (HEQ3.out.trans h)) x.1 c hx1.2 (by omega)
                    have hcon2 := fun (w' : World) (h : Ext wr w') => HS2.out w' (HE3.out.trans (HEQ3.out.trans h)) x.2 c hx2.2 (by omega)
                    rw [← hn1] at hcon1
                    rw [← hn2] at hcon2
                    have HN1 := Lib.hid hn1
                    have HN2 := Lib.hid hn2
                    have HCON1 := Lib.hid hcon1
                    have HCON2 := Lib.hid hcon2
                    have hwc : IntKind.u8.wrap (c : Int) = (c : Int) := IntWalk.u8_in _ (by omega)
                    have k0 := cs_ext HEQ3.out K0.out
                    have k1 := cs_ext HEQ3.out K1.out
                    have k2 := cs_ext HEQ3.out K2.out
                    have k3 := cs_ext HEQ3.out K3.out
                    have p0 := cs_ext HEP3.out P0.out
                    have p1 := cs_ext HEP3.out P1.out
                    clear hn1 hn2 hcon1 hcon2
                    go_wp2_with fail
                    refine wp_region_reg 14 false (by kernel_rfl) (by kernel_rfl) ?_
                    refine reg_value (fun _ => rfl) ?_ (fun g w' vs hM hE hP => ?_) ?_
                    rotate_left
                    · (clear hP hM; have zz0 := cs_ext hE k0; have zz1 := cs_ext hE k1; have zz2 := cs_ext hE k2; have zz3 := cs_ext hE k3; have zz4 := cs_ext hE p0; have zz5 := cs_ext hE p1; go_simp; first | done | rfl)
                    refine reg_value (fun _ => rfl) ?_ (fun g w' vs hM hE hP => ?_) ?_
                    rotate_left
                    · (clear hP hM; have zz0 := cs_ext hE k0; have zz1 := cs_ext hE k1; have zz2 := cs_ext hE k2; have zz3 := cs_ext hE k3; have zz4 := cs_ext hE p0; have zz5 := cs_ext hE p1; go_simp; first | done | rfl)
                    refine reg_value (fun _ => rfl) ?_ (fun g w' vs hM hE hP => ?_) ?_
                    rotate_left
                    · (clear hP hM; have zz0 := cs_ext hE k0; have zz1 := cs_ext hE k1; have zz2 := cs_ext hE k2; have zz3 := cs_ext hE k3; have zz4 := cs_ext hE p0; have zz5 := cs_ext hE p1; go_simp; first | done | rfl)
                    refine reg_value (fun _ => rfl) ?_ (fun g w' vs hM hE hP => ?_) ?_
                    rotate_left
                    · (clear hP hM; have zz0 := cs_ext hE k0; have zz1 := cs_ext hE k1; have zz2 := cs_ext hE k2; have zz3 := cs_ext hE k3; have zz4 := cs_ext hE p0; have zz5 := cs_ext hE p1; go_simp; first | done | rfl)
                    refine reg_value (fun _ => rfl) ?_ (fun g w' vs hM hE hP => ?_) ?_
                    rotate_left
                    · (clear hP hM; have zz0 := cs_ext hE k0; have zz1 := cs_ext hE k1; have zz2 := cs_ext hE k2; have zz3 := cs_ext hE k3; have zz4 := cs_ext hE p0; have zz5 := cs_ext hE p1; go_simp; first | done | rfl)
                    refine reg_const (fun _ => rfl) 54 ?_ (fun g w' vs hM hE hP => ?_) ?_
                    rotate_left
                    · (clear hP hM; have zz0 := cs_ext hE k0; have zz1 := cs_ext hE k1; have zz2 := cs_ext hE k2; have zz3 := cs_ext hE k3; have zz4 := cs_ext hE p0; have zz5 := cs_ext hE p1; go_simp; first | done | exact ⟨rfl, rfl⟩ | rfl)
                    apply Exists.intro
                    refine And.intro (fun g w' vs hM hE hP => ?_) ?_
                    · exact HCON1.out _ hE
                    refine reg_value (fun _ => rfl) ?_ (fun g w' vs hM hE hP => ?_) ?_
                    rotate_left
                    · (clear hP hM; have zz0 := cs_ext hE k0; have zz1 := cs_ext hE k1; have zz2 := cs_ext hE k2; have zz3 := cs_ext hE k3; have zz4 := cs_ext hE p0; have zz5 := cs_ext hE p1; go_simp; first | done | rfl)
                    refine reg_value (fun _ => rfl) ?_ (fun g w' vs hM hE hP => ?_) ?_
                    rotate_left
                    · (clear hP hM; have zz0 := cs_ext hE k0; have zz1 := cs_ext hE k1; have zz2 := cs_ext hE k2; have zz3 := cs_ext hE k3; have zz4 := cs_ext hE p0; have zz5 := cs_ext hE p1; go_simp; first | done | rfl)
                    refine reg_value (fun _ => rfl) ?_ (fun g w' vs hM hE hP => ?_) ?_
                    rotate_left
                    · (clear hP hM; have zz0 := cs_ext hE k0; have zz1 := cs_ext hE k1; have zz2 := cs_ext hE k2; have zz3 := cs_ext hE k3; have zz4 := cs_ext hE p0; have zz5 := cs_ext hE p1; go_simp; first | done | rfl)
                    refine reg_value (fun _ => rfl) ?_ (fun g w' vs hM hE hP => ?_) ?_
                    rotate_left
                    · (clear hP hM; have zz0 := cs_ext hE k0; have zz1 := cs_ext hE k1; have zz2 := cs_ext hE k2; have zz3 := cs_ext hE k3; have zz4 := cs_ext hE p0; have zz5 := cs_ext hE p1; go_simp; first | done | rfl)
                    refine reg_value (fun _ => rfl) ?_ (fun g w' vs hM hE hP => ?_) ?_
                    rotate_left
                    · (clear hP hM; have zz0 := cs_ext hE k0; have zz1 := cs_ext hE k1; have zz2 := cs_ext hE k2; have zz3 := cs_ext hE k3; have zz4 := cs_ext hE p0; have zz5 := cs_ext hE p1; go_simp; first | done | rfl)
                    refine reg_const (fun _ => rfl) 54 ?_ (fun g w' vs hM hE hP => ?_) ?_
                    rotate_left
                    · (clear hP hM; have zz0 := cs_ext hE k0; have zz1 := cs_ext hE k1; have zz2 := cs_ext hE k2; have zz3 := cs_ext hE k3; have zz4 := cs_ext hE p0; have zz5 := cs_ext hE p1; go_simp; first | done | exact ⟨rfl, rfl⟩ | rfl)
                    apply Exists.intro
                    refine And.intro (fun g w' vs hM hE hP => ?_) ?_
                    · exact HCON2.out _ hE
                    refine reg_value (fun _ => rfl) ?_ (fun g w' vs hM hE hP => ?_) ?_
                    rotate_left
                    · (clear hP hM; have zz0 := cs_ext hE k0; have zz1 := cs_ext hE k1; have zz2 := cs_ext hE k2; have zz3 := cs_ext hE k3; have zz4 := cs_ext hE p0; have zz5 := cs_ext hE p1; go_simp; first | done | rfl)
                    refine reg_fresh (fun _ => rfl) (fun n => .pointer (some ⟨n, 0, none⟩)) ?_ (fun g w' vs hM hE hP => ?_) ?_
                    rotate_left
                    · (clear hP hM; have zz0 := cs_ext hE k0; have zz1 := cs_ext hE k1; have zz2 := cs_ext hE k2; have zz3 := cs_ext hE k3; have zz4 := cs_ext hE p0; have zz5 := cs_ext hE p1; go_simp; first | done | rfl | exact ⟨rfl, rfl⟩)
                    intro g wz hE hF hQ
                    simp only [List.drop_succ_cons, List.drop_zero, Act.put, List.setIfInBounds_toArray, List.set_cons_succ, List.set_cons_zero]
                    obtain ⟨-, hF, -⟩ := hF
                    obtain ⟨hg, hge⟩ := hF _ List.mem_cons_self
                    simp at hg hge
                    clear hF hQ k0 k1 k2 k3 p0 p1
                    refine wpList_store_all rfl 53 (.tmp 17) (.tmp 98) rfl (g 13).n _ rfl rfl 53 _ hg (by kernel_rfl) rfl (by simp [Value.oneCell']) ?_
                    obtain ⟨nb, hnb⟩ : ∃ nb, nb = (g 13).n := ⟨_, rfl⟩
                    obtain ⟨w10, hw10⟩ : ∃ w10, w10 = wz.setRow nb #[.int .i64 n1, .int .i64 n2] := ⟨_, rfl⟩
                    rw [← hnb] at hg hge ⊢
                    rw [← hw10]
                    have hE10 : Ext wr w10 := by rw [hw10]; exact hE.setRow hge _
                    have hnbc : w10.heap[nb]? = some (.cells #[.int .i64 n1, .int .i64 n2] 53) := by rw [hw10]; exact setRow_heap _ _ _ _ _ _ hg
                    clear hw10 hg hE hnb
                    have m0 : w10.cell? ⟨nb, 0, none⟩ = some (.int .i64 n1) := by rw [cellc hnbc]; rfl
                    have m1 : w10.cell? ⟨nb, 1, none⟩ = some (.int .i64 n2) := by rw [cellc hnbc]; rfl
                    have HE11 := Lib.hid (HE9.out.trans hE10)
                    have HEQ4 := Lib.hid (HEQ3.out.trans hE10)
                    clear hnbc hE10
                    by_cases h1 : n1 < 0
                    · have HOK : Hid (∀ n, stP t fm.fields gm.fields x c = some n → n ∈ L) := Lib.hid (fun n hn => by rw [stP, ← HN1.out, ← HN2.out, if_pos (.inl h1)] at hn; cases hn)
                      have e3 : decide (0 ≤ n1) = false := decide_eq_false (by omega)
                      go_wp2_with fail
                      go_roundw
                      case rel => exact ⟨c + 1, by go_num, by omega, HE11.out, fun c' h n hn => by
                        rcases Nat.lt_or_ge c' c with h' | h'
                        · exact HCC.out c' h' n hn
                        · have : c' = c := by omega
                          subst this
                          exact HOK.out n hn⟩
                      case measure => simp [intOf]; omega
                    have e3 : decide (0 ≤ n1) = true := decide_eq_true (by omega)
                    by_cases h2 : n2 < 0
                    · have HOK : Hid (∀ n, stP t fm.fields gm.fields x c = some n → n ∈ L) := Lib.hid (fun n hn => by rw [stP, ← HN1.out, ← HN2.out, if_pos (.inr h2)] at hn; cases hn)
                      have e4 : decide (0 ≤ n2) = false := decide_eq_false (by omega)
                      go_wp2_with fail
                      go_roundw
                      case rel => exact ⟨c + 1, by go_num, by omega, HE11.out, fun c' h n hn => by
                        rcases Nat.lt_or_ge c' c with h' | h'
                        · exact HCC.out c' h' n hn
                        · have : c' = c := by omega
                          subst this
                          exact HOK.out n hn⟩
                      case measure => simp [intOf]; omega
                    have e4 : decide (0 ≤ n2) = true := decide_eq_true (by omega)
                    have HSTEP : Hid (stP t fm.fields gm.fields x c = some (n1, n2)) := Lib.hid (by rw [stP, ← HN1.out, ← HN2.out, if_neg (by omega)])
                    obtain ⟨z1, hz1⟩ : ∃ z1, z1 = decide ((n1, n2) ∈ L) := ⟨_, rfl⟩
                    have hclo := closure_any (p := (n1, n2)) (hs_ext HEQ4.out HBL3.out) (HAL3.out.ext HEQ4.out) HSO.out hl63
                    rw [← hz1] at hclo
                    have HZ1 := Lib.hid hz1
                    clear hz1
                    go_wp2_with fail
                    refine hclo.mono ?_
                    rintro e w12 ⟨rfl, hE12⟩
                    have HE11 := Lib.hid (HE11.out.trans hE12)
                    have HEQ4 := Lib.hid (HEQ4.out.trans hE12)
                    clear hclo hE12 m0 m1
                    cases z1
                    · have HNOT : Hid (¬ CheckP t i' j' L) := Lib.hid (fun h => by
                        have := HZ1.out
                        simp at this
                        exact this ((HBODY.out h x (List.mem_of_getElem? HX.out)).2 c hc2 _ HSTEP.out))
                      go_wp2_with fail
                      go_ret
                      exact ⟨false, rfl, HE3.out.trans HEQ4.out, by simp; exact HNOT.out⟩
                    · have HOK : Hid (∀ n, stP t fm.fields gm.fields x c = some n → n ∈ L) := Lib.hid (fun n hn => by
                        rw [HSTEP.out] at hn
                        cases hn
                        have := HZ1.out
                        simpa using this)
                      go_wp2_with fail
                      go_roundw
                      case rel => exact ⟨c + 1, by go_num, by omega, HE11.out, fun c' h n hn => by
                        rcases Nat.lt_or_ge c' c with h' | h'
                        · exact HCC.out c' h' n hn
                        · have : c' = c := by omega
                          subst this
                          exact HOK.out n hn⟩
                      case measure => simp [intOf]; omega
                  · have hc3 : c = 256 := by omega
                    have e4 : decide ((c : Int) < 256) = false := decide_eq_false (by omega)
                    have HALL : Hid (∀ c < 256, ∀ n, stP t fm.fields gm.fields x c = some n → n ∈ L) := Lib.hid (fun c' h => HCC.out c' (by omega))
                    have HEQ := HEQ3
                    clear hc3
                    go_wp2_with fail
                    go_roundw
                    case rel => exact ⟨k + 1, by go_num, by omega, HEQ.out, fun q y h hy => by
                      rcases Nat.lt_or_ge q k with h' | h'
                      · exact HCL.out q y h' hy
                      · have : q = k := by omega
                        subst this
                        rw [HX.out] at hy; cases hy; exact ⟨HNB.out, HALL.out⟩⟩
                    case measure => simp [intOf]; omega
              · have k2 := cs_ext HEQ.out K2.out
                have k3 := cs_ext HEQ.out K3.out
                have p1 := cs_ext HEP.out P1.out
                go_wp2_with fail
                refine (HC2.out _ HEQ.out).mono ?_
                rintro e w7 ⟨rfl, hE7⟩
                have HEQ := Lib.hid (HEQ.out.trans hE7)
                have HEP := Lib.hid (HEP.out.trans hE7)
                clear hE7 k2 k3 p1
                cases b2
                · have HNB : Hid (bothS fm.fields gm.fields x = false) := Lib.hid (by rw [HBO.out]; rfl)
                  have k0 := cs_ext HEQ.out K0.out
                  have k1 := cs_ext HEQ.out K1.out
                  have p0 := cs_ext HEP.out P0.out
                  go_wp2_with fail
                  refine (HD1.out _ HEQ.out).mono ?_
                  rintro e w8 ⟨rfl, hE8⟩
                  have HEQ := Lib.hid (HEQ.out.trans hE8)
                  have HEP := Lib.hid (HEP.out.trans hE8)
                  clear hE8 k0 k1 p0
                  cases q1
                  · have HALL := Lib.hid (HNX1.out rfl)
                    go_wp2_with fail
                    go_roundw
                    case rel => exact ⟨k + 1, by go_num, by omega, HEQ.out, fun q y h hy => by
                      rcases Nat.lt_or_ge q k with h' | h'
                      · exact HCL.out q y h' hy
                      · have : q = k := by omega
                        subst this
                        rw [HX.out] at hy; cases hy; exact ⟨HNB.out, HALL.out⟩⟩
                    case measure => simp [intOf]; omega
                  have k2 := cs_ext HEQ.out K2.out
                  have k3 := cs_ext HEQ.out K3.out
                  have p1 := cs_ext HEP.out P1.out
                  go_wp2_with fail
                  refine (HD2.out _ HEQ.out).mono ?_
                  rintro e w9 ⟨rfl, hE9⟩
                  have HEQ := Lib.hid (HEQ.out.trans hE9)
                  have HEP := Lib.hid (HEP.out.trans hE9)
                  clear hE9 k2 k3 p1
                  cases q2
                  · have HALL := Lib.hid (HNX2.out rfl)
                    go_wp2_with fail
                    go_roundw
                    case rel => exact ⟨k + 1, by go_num, by omega, HEQ.out, fun q y h hy => by
                      rcases Nat.lt_or_ge q k with h' | h'
                      · exact HCL.out q y h' hy
                      · have : q = k := by omega
                        subst this
                        rw [HX.out] at hy; cases hy; exact ⟨HNB.out, HALL.out⟩⟩
                    case measure => simp [intOf]; omega
                  go_wp2_with fail
                  obtain ⟨wi, hwi⟩ : ∃ wi : World, wi = wr := ⟨_, rfl⟩
                  subst hwi
                  go_loopw [83] (fun cv wr => ∃ c : Nat, cv = .int .i64 c ∧ c ≤ 256 ∧ Ext w9 wr ∧ (∀ c' < c, ∀ n, stP t fm.fields gm.fields x c' = some n → n ∈ L)) (fun cv _ => 256 - (intOf cv).toNat)
                  case atStart => exact ⟨0, rfl, by omega, Ext.refl _, fun c' h => by omega⟩
                  case round =>
                    obtain ⟨c, rfl, hc, hE3, hcc⟩ := hrel
                    have HE9 := Lib.hid hE3
                    have HEQ3 := Lib.hid (HEQ.out.trans hE3)
                    have HEP3 := Lib.hid (HEP.out.trans hE3)
                    have HCC := Lib.hid hcc
                    clear hE3 hcc
                    by_cases hc2 : c < 256
                    · have e4 : decide ((c : Int) < 256) = true := decide_eq_true (by omega)
                      obtain ⟨n1, hn1⟩ : ∃ n1, n1 = rStep t fm.fields x.1 c := ⟨_, rfl⟩
                      obtain ⟨n2, hn2⟩ : ∃ n2, n2 = rStep t gm.fields x.2 c := ⟨_, rfl⟩
                      have hcon1 := fun (w' : World) (h : Ext wr w') => HS1.out w' (HE3.out.trans (HEQ3.out.trans h)) x.1 c hx1.2 (by omega)
                      have hcon2 := fun (w' : World) (h : Ext wr w') => HS2.out w' (HE3.out.trans (HEQ3.out.trans h)) x.2 c hx2.2 (by omega)
                      rw [← hn1] at hcon1
                      rw [← hn2] at hcon2
                      have HN1 := Lib.hid hn1
                      have HN2 := Lib.hid hn2
                      have HCON1 := Lib.hid hcon1
                      have HCON2 := Lib.hid hcon2
                      have hwc : IntKind.u8.wrap (c : Int) = (c : Int) := IntWalk.u8_in _ (by omega)
                      have k0 := cs_ext HEQ3.out K0.out
                      have k1 := cs_ext HEQ3.out K1.out
                      have k2 := cs_ext HEQ3.out K2.out
                      have k3 := cs_ext HEQ3.out K3.out
                      have p0 := cs_ext HEP3.out P0.out
                      have p1 := cs_ext HEP3.out P1.out
                      clear hn1 hn2 hcon1 hcon2
                      go_wp2_with fail
                      refine wp_region_reg 14 false (by kernel_rfl) (by kernel_rfl) ?_
                      refine reg_value (fun _ => rfl) ?_ (fun g w' vs hM hE hP => ?_) ?_
                      rotate_left
                      · (clear hP hM; have zz0 := cs_ext hE k0; have zz1 := cs_ext hE k1; have zz2 := cs_ext hE k2; have zz3 := cs_ext hE k3; have zz4 := cs_ext hE p0; have zz5 := cs_ext hE p1; go_simp; first | done | rfl)
                      refine reg_value (fun _ => rfl) ?_ (fun g w' vs hM hE hP => ?_) ?_
                      rotate_left
                      · (clear hP hM; have zz0 := cs_ext hE k0; have zz1 := cs_ext hE k1; have zz2 := cs_ext hE k2; have zz3 := cs_ext hE k3; have zz4 := cs_ext hE p0; have zz5 := cs_ext hE p1; go_simp; first | done | rfl)
                      refine reg_value (fun _ => rfl) ?_ (fun g w' vs hM hE hP => ?_) ?_
                      rotate_left
                      · (clear hP hM; have zz0 := cs_ext hE k0; have zz1 := cs_ext hE k1; have zz2 := cs_ext hE k2; have zz3 := cs_ext hE k3; have zz4 := cs_ext hE p0; have zz5 := cs_ext hE p1; go_simp; first | done | rfl)
                      refine reg_value (fun _ => rfl) ?_ (fun g w' vs hM hE hP => ?_) ?_
                      rotate_left
                      · (clear hP hM; have zz0 := cs_ext hE k0; have zz1 := cs_ext hE k1; have zz2 := cs_ext hE k2; have zz3 := cs_ext hE k3; have zz4 := cs_ext hE p0; have zz5 := cs_ext hE p1; go_simp; first | done | rfl)
                      refine reg_value (fun _ => rfl) ?_ (fun g w' vs hM hE hP => ?_) ?_
                      rotate_left
                      · (clear hP hM; have zz0 := cs_ext hE k0; have zz1 := cs_ext hE k1; have zz2 := cs_ext hE k2; have zz3 := cs_ext hE k3; have zz4 := cs_ext hE p0; have zz5 := cs_ext hE p1; go_simp; first | done | rfl)
                      refine reg_const (fun _ => rfl) 54 ?_ (fun g w' vs hM hE hP => ?_) ?_
                      rotate_left
                      · (clear hP hM; have zz0 := cs_ext hE k0; have zz1 := cs_ext hE k1; have zz2 := cs_ext hE k2; have zz3 := cs_ext hE k3; have zz4 := cs_ext hE p0; have zz5 := cs_ext hE p1; go_simp; first | done | exact ⟨rfl, rfl⟩ | rfl)
                      apply Exists.intro
                      refine And.intro (fun g w' vs hM hE hP => ?_) ?_
                      · exact HCON1.out _ hE
                      refine reg_value (fun _ => rfl) ?_ (fun g w' vs hM hE hP => ?_) ?_
                      rotate_left
                      · (clear hP hM; have zz0 := cs_ext hE k0; have zz1 := cs_ext hE k1; have zz2 := cs_ext hE k2; have zz3 := cs_ext hE k3; have zz4 := cs_ext hE p0; have zz5 := cs_ext hE p1; go_simp; first | done | rfl)
                      refine reg_value (fun _ => rfl) ?_ (fun g w' vs hM hE hP => ?_) ?_
                      rotate_left
                      · (clear hP hM; have zz0 := cs_ext hE k0; have zz1 := cs_ext hE k1; have zz2 := cs_ext hE k2; have zz3 := cs_ext hE k3; have zz4 := cs_ext hE p0; have zz5 := cs_ext hE p1; go_simp; first | done | rfl)
                      refine reg_value (fun _ => rfl) ?_ (fun g w' vs hM hE hP => ?_) ?_
                      rotate_left
                      · (clear hP hM; have zz0 := cs_ext hE k0; have zz1 := cs_ext hE k1; have zz2 := cs_ext hE k2; have zz3 := cs_ext hE k3; have zz4 := cs_ext hE p0; have zz5 := cs_ext hE p1; go_simp; first | done | rfl)
                      refine reg_value (fun _ => rfl) ?_ (fun g w' vs hM hE hP => ?_) ?_
                      rotate_left
                      · (clear hP hM; have zz0 := cs_ext hE k0; have zz1 := cs_ext hE k1; have zz2 := cs_ext hE k2; have zz3 := cs_ext hE k3; have zz4 := cs_ext hE p0; have zz5 := cs_ext hE p1; go_simp; first | done | rfl)
                      refine reg_value (fun _ => rfl) ?_ (fun g w' vs hM hE hP => ?_) ?_
                      rotate_left
                      · (clear hP hM; have zz0 := cs_ext hE k0; have zz1 := cs_ext hE k1; have zz2 := cs_ext hE k2; have zz3 := cs_ext hE k3; have zz4 := cs_ext hE p0; have zz5 := cs_ext hE p1; go_simp; first | done | rfl)
                      refine reg_const (fun _ => rfl) 54 ?_ (fun g w' vs hM hE hP => ?_) ?_
                      rotate_left
                      · (clear hP hM; have zz0 := cs_ext hE k0; have zz1 := cs_ext hE k1; have zz2 := cs_ext hE k2; have zz3 := cs_ext hE k3; have zz4 := cs_ext hE p0; have zz5 := cs_ext hE p1; go_simp; first | done | exact ⟨rfl, rfl⟩ | rfl)
                      apply Exists.intro
                      refine And.intro (fun g w' vs hM hE hP => ?_) ?_
                      · exact HCON2.out _ hE
                      refine reg_value (fun _ => rfl) ?_ (fun g w' vs hM hE hP => ?_) ?_
                      rotate_left
                      · (clear hP hM; have zz0 := cs_ext hE k0; have zz1 := cs_ext hE k1; have zz2 := cs_ext hE k2; have zz3 := cs_ext hE k3; have zz4 := cs_ext hE p0; have zz5 := cs_ext hE p1; go_simp; first | done | rfl)
                      refine reg_fresh (fun _ => rfl) (fun n => .pointer (some ⟨n, 0, none⟩)) ?_ (fun g w' vs hM hE hP => ?_) ?_
                      rotate_left
                      · (clear hP hM; have zz0 := cs_ext hE k0; have zz1 := cs_ext hE k1; have zz2 := cs_ext hE k2; have zz3 := cs_ext hE k3; have zz4 := cs_ext hE p0; have zz5 := cs_ext hE p1; go_simp; first | done | rfl | exact ⟨rfl, rfl⟩)
                      intro g wz hE hF hQ
                      simp only [List.drop_succ_cons, List.drop_zero, Act.put, List.setIfInBounds_toArray, List.set_cons_succ, List.set_cons_zero]
                      obtain ⟨-, hF, -⟩ := hF
                      obtain ⟨hg, hge⟩ := hF _ List.mem_cons_self
                      simp at hg hge
                      clear hF hQ k0 k1 k2 k3 p0 p1
                      refine wpList_store_all rfl 53 (.tmp 17) (.tmp 98) rfl (g 13).n _ rfl rfl 53 _ hg (by kernel_rfl) rfl (by simp [Value.oneCell']) ?_
                      obtain ⟨nb, hnb⟩ : ∃ nb, nb = (g 13).n := ⟨_, rfl⟩
                      obtain ⟨w10, hw10⟩ : ∃ w10, w10 = wz.setRow nb #[.int .i64 n1, .int .i64 n2] := ⟨_, rfl⟩
                      rw [← hnb] at hg hge ⊢
                      rw [← hw10]
                      have hE10 : Ext wr w10 := by rw [hw10]; exact hE.setRow hge _
                      have hnbc : w10.heap[nb]? = some (.cells #[.int .i64 n1, .int .i64 n2] 53) := by rw [hw10]; exact setRow_heap _ _ _ _ _ _ hg
                      clear hw10 hg hE hnb
                      have m0 : w10.cell? ⟨nb, 0, none⟩ = some (.int .i64 n1) := by rw [cellc hnbc]; rfl
                      have m1 : w10.cell? ⟨nb, 1, none⟩ = some (.int .i64 n2) := by rw [cellc hnbc]; rfl
                      have HE11 := Lib.hid (HE9.out.trans hE10)
                      have HEQ4 := Lib.hid (HEQ3.out.trans hE10)
                      clear hnbc hE10
                      by_cases h1 : n1 < 0
                      · have HOK : Hid (∀ n, stP t fm.fields gm.fields x c = some n → n ∈ L) := Lib.hid (fun n hn => by rw [stP, ← HN1.out, ← HN2.out, if_pos (.inl h1)] at hn; cases hn)
                        have e3 : decide (0 ≤ n1) = false := decide_eq_false (by omega)
                        go_wp2_with fail
                        go_roundw
                        case rel => exact ⟨c + 1, by go_num, by omega, HE11.out, fun c' h n hn => by
                          rcases Nat.lt_or_ge c' c with h' | h'
                          · exact HCC.out c' h' n hn
                          · have : c' = c := by omega
                            subst this
                            exact HOK.out n hn⟩
                        case measure => simp [intOf]; omega
                      have e3 : decide (0 ≤ n1) = true := decide_eq_true (by omega)
                      by_cases h2 : n2 < 0
                      · have HOK : Hid (∀ n, stP t fm.fields gm.fields x c = some n → n ∈ L) := Lib.hid (fun n hn => by rw [stP, ← HN1.out, ← HN2.out, if_pos (.inr h2)] at hn; cases hn)
                        have e4 : decide (0 ≤ n2) = false := decide_eq_false (by omega)
                        go_wp2_with fail
                        go_roundw
                        case rel => exact ⟨c + 1, by go_num, by omega, HE11.out, fun c' h n hn => by
                          rcases Nat.lt_or_ge c' c with h' | h'
                          · exact HCC.out c' h' n hn
                          · have : c' = c := by omega
                            subst this
                            exact HOK.out n hn⟩
                        case measure => simp [intOf]; omega
                      have e4 : decide (0 ≤ n2) = true := decide_eq_true (by omega)
                      have HSTEP : Hid (stP t fm.fields gm.fields x c = some (n1, n2)) := Lib.hid (by rw [stP, ← HN1.out, ← HN2.out, if_neg (by omega)])
                      obtain ⟨z1, hz1⟩ : ∃ z1, z1 = decide ((n1, n2) ∈ L) := ⟨_, rfl⟩
                      have hclo := closure_any (p := (n1, n2)) (hs_ext HEQ4.out HBL3.out) (HAL3.out.ext HEQ4.out) HSO.out hl63
                      rw [← hz1] at hclo
                      have HZ1 := Lib.hid hz1
                      clear hz1
                      go_wp2_with fail
                      refine hclo.mono ?_
                      rintro e w12 ⟨rfl, hE12⟩
                      have HE11 := Lib.hid (HE11.out.trans hE12)
                      have HEQ4 := Lib.hid (HEQ4.out.trans hE12)
                      clear hclo hE12 m0 m1
                      cases z1
                      · have HNOT : Hid (¬ CheckP t i' j' L) := Lib.hid (fun h => by
                          have := HZ1.out
                          simp at this
                          exact this ((HBODY.out h x (List.mem_of_getElem? HX.out)).2 c hc2 _ HSTEP.out))
                        go_wp2_with fail
                        go_ret
                        exact ⟨false, rfl, HE3.out.trans HEQ4.out, by simp; exact HNOT.out⟩
                      · have HOK : Hid (∀ n, stP t fm.fields gm.fields x c = some n → n ∈ L) := Lib.hid (fun n hn => by
                          rw [HSTEP.out] at hn
                          cases hn
                          have := HZ1.out
                          simpa using this)
                        go_wp2_with fail
                        go_roundw
                        case rel => exact ⟨c + 1, by go_num, by omega, HE11.out, fun c' h n hn => by
                          rcases Nat.lt_or_ge c' c with h' | h'
                          · exact HCC.out c' h' n hn
                          · have : c' = c := by omega
                            subst this
                            exact HOK.out n hn⟩
                        case measure => simp [intOf]; omega
                    · have hc3 : c = 256 := by omega
                      have e4 : decide ((c : Int) < 256) = false := decide_eq_false (by omega)
                      have HALL : Hid (∀ c < 256, ∀ n, stP t fm.fields gm.fields x c = some n → n ∈ L) := Lib.hid (fun c' h => HCC.out c' (by omega))
                      have HEQ := HEQ3
                      clear hc3
                      go_wp2_with fail
                      go_roundw
                      case rel => exact ⟨k + 1, by go_num, by omega, HEQ.out, fun q y h hy => by
                        rcases Nat.lt_or_ge q k with h' | h'
                        · exact HCL.out q y h' hy
                        · have : q = k := by omega
                          subst this
                          rw [HX.out] at hy; cases hy; exact ⟨HNB.out, HALL.out⟩⟩
                      case measure => simp [intOf]; omega
                · have HNOT : Hid (¬ CheckP t i' j' L) := Lib.hid (fun h => by
                    have := (HBODY.out h x (List.mem_of_getElem? HX.out)).1
                    rw [HBO.out] at this
                    cases this)
                  go_wp2_with fail
                  go_ret
                  exact ⟨false, rfl, HE3.out.trans HEQ.out, by simp; exact HNOT.out⟩
            · have e3 : decide ((k : Int) < (L.length : Int)) = false := decide_eq_false (by omega)
              have HYES : Hid (CheckP t i' j' L) := Lib.hid (HMK.out hLs HSO.out HIN.out fun p hp => by
                obtain ⟨q, hq⟩ := List.mem_iff_getElem?.1 hp
                exact HCL.out q p (by have := (List.getElem?_eq_some_iff.1 hq).1; omega) hq)
              go_wp2_with fail
              go_ret
              exact ⟨true, rfl, HE3.out.trans HE.out, by simp; exact HYES.out⟩
  · obtain ⟨rfl, rfl⟩ := huv' hz
    have e1 : (v0 == 0) = false := beq_eq_false_iff_ne.2 hz
    have HNOT : Hid (¬ CheckP t i j L) := Lib.hid (fun h => hz (by rw [HV0.out]; exact h.1))
    have hE2 := HE2.out
    clear huv huv'
    go_wp2_with fail
    go_ret
    exact ⟨false, rfl, (by repeat (first | exact hE2 | apply Ext.then_dr | apply Ext.then_drN | (refine Ext.then_al ?_ _))), by simp; exact HNOT.out⟩

end Go.Proofs.Ythoelnoahfedmaa
