/- The reference's Check. -/
import Derived.Test.YthoelnoahfedmaaP1
import Derived.WalkSpells
namespace Go.Proofs.Ythoelnoahfedmaa
open Go Go.RowKit
open Go.Maps (Keyed)
set_option linter.unusedVariables false
set_option linter.unusedSimpArgs false

/-- the map of the pairs that have been put in -/
structure MGen (w wr : World) (mb : Nat) (Lm : List (Int × Int)) : Prop where
  map : ∃ n, MapK encP wr mb n (fun x => inB Lm x.1)
  mb : w.heap.size ≤ mb
  ext : Ext w wr
theorem MGen.next {w wr w' : World} {mb : Nat} {Lm : List (Int × Int)} (h : MGen w wr mb Lm) (hE : Ext wr w') : MGen w w' mb Lm :=
  ⟨let ⟨n, h'⟩ := h.map; ⟨n, h'.ext hE⟩, h.mb, h.ext.trans hE⟩
theorem MGen.put {w wr : World} {mb : Nat} {Lm : List (Int × Int)} (h : MGen w wr mb Lm) (nk : P64) : ∃ w4, (Instr.mapUpdate 94 (.map (some mb)) (encP nk) (.bool true)).run Try.prog wr = .ok () w4 ∧ MGen w w4 mb (Lm ++ [nk.1]) := by
  obtain ⟨n, hM⟩ := h.map
  obtain ⟨ob, hup, hF⟩ := hM.update law53 key53 encP_inj Try.underlying94 nk (.bool true)
  exact ⟨_, hup, ⟨n + 1, hF _ inB_new (fun y hy => inB_other (fun e => hy (Subtype.ext e)))⟩, h.mb, h.ext.turned h.mb⟩
theorem MGen.look {w wr : World} {mb : Nat} {Lm : List (Int × Int)} (h : MGen w wr mb Lm) (nk : P64) : (Instr.lookup 94 (.map (some mb)) (encP nk) false).run Try.prog wr = .ok (.bool (decide (nk.1 ∈ Lm))) wr := by
  obtain ⟨n, hM⟩ := h.map
  have := hM.look law53 key53 Try.underlying94 (zero4 wr) nk false
  simp only [inB_val, Bool.false_eq_true, if_false] at this
  rw [this]
  congr
theorem MGen.made (w : World) : MGen w (w.alloc (.map #[] 0)) w.heap.size [] :=
  ⟨⟨0, by have h := MapK.made (enc := encP) w; have e : (fun x : P64 => inB ([] : List (Int × Int)) x.1) = fun _ => none := by funext x; simp [inB]
          rw [e]; exact h⟩, Nat.le_refl _, Ext.alloc w _⟩

theorem take_snoc' {L : List (Int × Int)} {k : Nat} {x : Int × Int} (h : L[k]? = some x) : L.take (k + 1) = L.take k ++ [x] := by
  rw [List.take_add_one, h]; rfl

theorem sorted_adj' {L : List (Int × Int)} (h : ∀ (k : Nat) x y, L[k]? = some x → L[k + 1]? = some y → ltP x y) : L.Pairwise ltP := by
  rw [List.pairwise_iff_getElem]
  intro i j hi hj hij
  obtain ⟨d, rfl⟩ : ∃ d, j = i + 1 + d := ⟨j - i - 1, by omega⟩
  induction d with
  | zero => exact h i _ _ (List.getElem?_eq_getElem hi) (List.getElem?_eq_getElem hj)
  | succ d ih =>
    have h1 := ih (by omega) (by omega)
    have h2 := h (i + 1 + d) _ _ (List.getElem?_eq_getElem (by omega)) (List.getElem?_eq_getElem hj)
    unfold ltP at *
    omega
theorem pairwise_adj {L : List (Int × Int)} (h : L.Pairwise ltP) {m k : Nat} {x y : Int × Int} (hm : L[m]? = some x) (hk : L[k]? = some y) (hmk : m < k) : ltP x y := by
  obtain ⟨h1, rfl⟩ := List.getElem?_eq_some_iff.1 hm
  obtain ⟨h2, rfl⟩ := List.getElem?_eq_some_iff.1 hk
  exact List.pairwise_iff_getElem.1 h m k h1 h2 hmk
theorem ord_lt' {x y : Int × Int} : ordS x.1 x.2 y.1 y.2 < 0 ↔ ltP x y := by
  unfold ordS ltP
  (repeat' split) <;> omega

def RetB (w : World) (P : Prop) (e : Ending) (w' : World) : Prop := ∃ b, e = .returned (.bool b) ∧ Ext w w' ∧ (b = true ↔ P)
theorem RetB.no {w w' : World} {P : Prop} (h : Ext w w') (hp : ¬ P) : RetB w P (.returned (.bool false)) w' := ⟨false, rfl, h, by simpa using hp⟩
theorem RetB.yes {w w' : World} {P : Prop} (h : Ext w w') (hp : P) : RetB w P (.returned (.bool true)) w' := ⟨true, rfl, h, by simpa using hp⟩

set_option maxRecDepth 100000 in
set_option maxHeartbeats 4000000 in
theorem rCheck_any {w : World} {B : Nat} {a la : Option Addr} {t : List Fmt} {cap lcap : Nat} {i j : Int} {L : List (Int × Int)} (hT : TabA w B a t) (hB : B ≤ w.heap.size) (hcap : t.length ≤ cap) (hcap2 : cap ≤ 9223372036854775807)
    (hA : PairsA w la L) (hl63 : L.length ≤ 4000000000000000000) (hI : ∀ x ∈ L, I64 x.1 ∧ I64 x.2) :
    Calls Try.prog 32 #[.slice a t.length cap, .int .i64 i, .int .i64 j, .slice la L.length lcap] w (RetB w (CheckP t i j L)) := by
  obtain ⟨v0, hv0⟩ : ∃ v0, v0 = errS t [i, j] := ⟨_, rfl⟩
  have HV0 := Lib.hid hv0
  have hcon := Error_any (la := some ⟨w.heap.size, 0, none⟩) (lcap := 2) (l := [i, j]) (hT.alloc hB (.cells #[.int .i64 i, .int .i64 j] 3)) (by simp; omega) hcap hcap2 ints_two (by simp)
  rw [← hv0] at hcon
  clear hv0
  go_enter Try.func32, Try.ntmps32
  go_wp2_with fail
  refine hcon.mono ?_
  rintro e w1 ⟨rfl, hb0⟩
  have hb1 : Ext w w1 := hb0.al
  clear hb0
  by_cases hz : v0 = 0
  · subst hz
    obtain ⟨hv, hix⟩ := errS_zero HV0.out.symm
    obtain ⟨h0i, hit⟩ := hix i (by simp)
    obtain ⟨h0j, hjt⟩ := hix j (by simp)
    obtain ⟨i', rfl⟩ : ∃ i' : Nat, i = i' := ⟨i.toNat, by omega⟩
    obtain ⟨j', rfl⟩ : ∃ j' : Nat, j = j' := ⟨j.toNat, by omega⟩
    obtain ⟨fm, hfm⟩ : ∃ fm, t[i']? = some fm := ⟨_, List.getElem?_eq_getElem (by omega)⟩
    obtain ⟨gm, hgm⟩ : ∃ gm, t[j']? = some gm := ⟨_, List.getElem?_eq_getElem (by omega)⟩
    have hVf := valid_VFmt hv hfm
    have hVg := valid_VFmt hv hgm
    obtain ⟨tb, toff, rfl, -⟩ := hT.2 (ne_nil_of_get hfm)
    have hlf : fm.fields.length ≤ 100 := by have := hVf.le; omega
    have hlg : gm.fields.length ≤ 100 := by have := hVg.le; omega
    have HCA := Lib.hid (fun (w' : World) (hE : Ext w w') (s : Int) (h1 : s ≤ 9223372036854775807) (h2 : -9223372036854775808 ≤ s) => Accepts_any (cap := cap) s h1 h2 (hT.ext hB hE) (by have := hE.size; omega) hfm hVf.ne (by have := hVf.le; omega))
    have HCB := Lib.hid (fun (w' : World) (hE : Ext w w') (s : Int) (h1 : s ≤ 9223372036854775807) (h2 : -9223372036854775808 ≤ s) => Accepts_any (cap := cap) s h1 h2 (hT.ext hB hE) (by have := hE.size; omega) hgm hVg.ne (by have := hVg.le; omega))
    have HS1 := Lib.hid (fun (w' : World) (hE : Ext w w') (s : Int) (c : Nat) (hs : s ≤ 9223372036854775807) (hc : c ≤ 255) => Step_any (cap := cap) s c hc hs (hT.ext hB hE) (by have := hE.size; omega) hfm hVf)
    have HS2 := Lib.hid (fun (w' : World) (hE : Ext w w') (s : Int) (c : Nat) (hs : s ≤ 9223372036854775807) (hc : c ≤ 255) => Step_any (cap := cap) s c hc hs (hT.ext hB hE) (by have := hE.size; omega) hgm hVg)
    have HBODY : Hid (CheckP t i' j' L → ∀ p ∈ L, bothS fm.fields gm.fields p = false ∧ ∀ c < 256, ∀ n, stP t fm.fields gm.fields p c = some n → n ∈ L) := Lib.hid (fun h => h.body hfm hgm)
    have HMK : Hid (L.length ≤ 20000 → L.Pairwise ltP → (0, 0) ∈ L → (∀ p ∈ L, bothS fm.fields gm.fields p = false ∧ ∀ c < 256, ∀ n, stP t fm.fields gm.fields p c = some n → n ∈ L) → CheckP t i' j' L) :=
      Lib.hid (fun h1 h2 h3 h4 => ⟨HV0.out.symm, h1, h2, h3, i', j', fm, gm, rfl, rfl, hfm, hgm, hVf, hVg, h4⟩)
    have HAL1 := Lib.hid (hA.ext hb1)
    have HII := Lib.hid hI
    have HB1 := Lib.hid hb1
    clear hcon hv hix hfm hgm hVf hVg hT hA hI hb1
    by_cases hbig : 20000 < L.length
    · have e1 : decide ((20000 : Int) < (L.length : Int)) = true := decide_eq_true (by omega)
      have HNOT : Hid (¬ CheckP t i' j' L) := Lib.hid (fun h => by have := h.2.1; omega)
      go_wp2_with fail
      go_ret
      exact RetB.no (HB1.out) HNOT.out
    · have e1 : decide ((20000 : Int) < (L.length : Int)) = false := decide_eq_false (by omega)
      have hLs : L.length ≤ 20000 := by omega
      clear hbig
      go_upto_region 3 with fail
      obtain ⟨w2, hw2⟩ : ∃ w2, w2 = w1.alloc (.map #[] 0) := ⟨_, rfl⟩
      obtain ⟨mb, hmb⟩ : ∃ mb, mb = w1.heap.size := ⟨_, rfl⟩
      have hmk : (Instr.makeMap 94 none).run Try.prog w1 = .ok (.map (some mb)) w2 := by rw [hw2, hmb]; rfl
      have HM0 : Hid (MGen w1 w2 mb []) := Lib.hid (by rw [hw2, hmb]; exact MGen.made w1)
      have HAL2 := Lib.hid (HAL1.out.ext HM0.out.ext)
      have HB2 := Lib.hid (HB1.out.trans HM0.out.ext)
      clear hw2 hmb
      go_wp2_with fail
      clear hmk
      go_loopw [10] (fun kv wr => ∃ k : Nat, kv = .int .i64 k ∧ k ≤ L.length ∧ MGen w1 wr mb (L.take k) ∧ Ext w wr ∧ PairsA wr la L ∧ (∀ (q : Nat) x, q < k → L[q]? = some x → bothS fm.fields gm.fields x = false) ∧ (∀ (q : Nat) x y, q + 1 < k → L[q]? = some x → L[q + 1]? = some y → ltP x y)) (fun kv _ => L.length - (intOf kv).toNat)
      case atStart => exact ⟨0, rfl, by omega, by simpa using HM0.out, HB2.out, HAL2.out, fun q x h => by omega, fun q x y h => by omega⟩
      case round =>
        obtain ⟨k, rfl, hk, hM, hE, hP, hacc, hadj⟩ := hrel
        have HM := Lib.hid hM
        have HE := Lib.hid hE
        have HP := Lib.hid hP
        have HACC := Lib.hid hacc
        have HADJ := Lib.hid hadj
        clear hM hE hP hacc hadj
        by_cases hlt : k < L.length
        · have e2 : decide ((k : Int) < (L.length : Int)) = true := decide_eq_true (by omega)
          obtain ⟨x, hx⟩ : ∃ x, L[k]? = some x := ⟨_, List.getElem?_eq_getElem hlt⟩
          obtain ⟨lbk, off, rfl, x0, x1⟩ := HP.out k x hx
          obtain ⟨hx1, hx2⟩ := HII.out x (List.mem_of_getElem? hx)
          unfold I64 at hx1 hx2
          obtain ⟨b1, hb1⟩ : ∃ b1, b1 = rAcc fm.fields x.1 := ⟨_, rfl⟩
          obtain ⟨b2, hb2⟩ : ∃ b2, b2 = rAcc gm.fields x.2 := ⟨_, rfl⟩
          have hc1 := fun (w' : World) (h : Ext wr w') => HCA.out w' (HE.out.trans h) x.1 (by omega) (by omega)
          have hc2 := fun (w' : World) (h : Ext wr w') => HCB.out w' (HE.out.trans h) x.2 (by omega) (by omega)
          rw [← hb1] at hc1
          rw [← hb2] at hc2
          have HBO : Hid (bothS fm.fields gm.fields x = (b1 && b2)) := Lib.hid (by rw [bothS, ← hb1, ← hb2])
          have HX := Lib.hid hx
          have HC1 := Lib.hid hc1
          have HC2 := Lib.hid hc2
          obtain ⟨nk, hnk⟩ : ∃ nk : P64, nk.1 = x := ⟨⟨x, ⟨by omega, by omega⟩, by omega, by omega⟩, rfl⟩
          have HNK := Lib.hid hnk
          have HNOTB : Hid (b1 = true → b2 = true → ¬ CheckP t i' j' L) := Lib.hid (fun h1 h2 h => by
            have := (HBODY.out h x (List.mem_of_getElem? HX.out)).1
            rw [HBO.out, h1, h2] at this
            cases this)
          clear hx hc1 hc2 hb1 hb2 hnk
          by_cases hk0 : k = 0
          · have e3 : decide ((0 : Int) < (k : Int)) = false := decide_eq_false (by omega)
            have HLT : Hid (∀ (q : Nat) y z, q + 1 = k → L[q]? = some y → L[q + 1]? = some z → ltP y z) := Lib.hid (fun q y z h => by omega)
            have hk1 : ¬ 0 < k := by omega
            clear hk0
            cases b1
            · go_wp2_with fail
              refine wp_region_reg 35 false (by kernel_rfl) (by kernel_rfl) ?_
              refine reg_value (fun _ => rfl) ?_ (fun g w' vs hM hE hP => ?_) ?_
              rotate_left
              · (clear hP hM; have zz0 := cs_ext hE x0; have zz1 := cs_ext hE x1; go_simp; first | done | rfl)
              refine reg_value (fun _ => rfl) ?_ (fun g w' vs hM hE hP => ?_) ?_
              rotate_left
              · (clear hP hM; have zz0 := cs_ext hE x0; have zz1 := cs_ext hE x1; go_simp; first | done | rfl)
              refine reg_value (fun _ => rfl) ?_ (fun g w' vs hM hE hP => ?_) ?_
              rotate_left
              · (clear hP hM; have zz0 := cs_ext hE x0; have zz1 := cs_ext hE x1; go_simp; first | done | rfl)
              refine reg_skip (fun g => by go_simp; first | done | (intro h; cases h) | simp [undef]) ?_
              refine reg_skip (fun g => by go_simp; first | done | (intro h; cases h) | simp [undef]) ?_
              refine reg_skip (fun g => by go_simp; first | done | (intro h; cases h) | simp [undef]) ?_
              refine reg_skip (fun g => by go_simp; first | done | (intro h; cases h) | simp [undef]) ?_
              refine reg_skip (fun g => by go_simp; first | done | (intro h; cases h) | simp [undef]) ?_
              refine reg_skip (fun g => by go_simp; first | done | (intro h; cases h) | simp [undef]) ?_
              refine reg_skip (fun g => by go_simp; first | done | (intro h; cases h) | simp [undef]) ?_
              refine reg_skip (fun g => by go_simp; first | done | (intro h; cases h) | simp [undef]) ?_
              refine reg_skip (fun g => by go_simp; first | done | (intro h; cases h) | simp [undef]) ?_
              refine reg_skip (fun g => by go_simp; first | done | (intro h; cases h) | simp [undef]) ?_
              refine reg_skip (fun g => by go_simp; first | done | (intro h; cases h) | simp [undef]) ?_
              refine reg_value (fun _ => rfl) ?_ (fun g w' vs hM hE hP => ?_) ?_
              rotate_left
              · (clear hP hM; have zz0 := cs_ext hE x0; have zz1 := cs_ext hE x1; go_simp; first | done | rfl)
              refine reg_value (fun _ => rfl) ?_ (fun g w' vs hM hE hP => ?_) ?_
              rotate_left
              · (clear hP hM; have zz0 := cs_ext hE x0; have zz1 := cs_ext hE x1; go_simp; first | done | rfl)
              refine reg_value (fun g => by go_simp) ?_ (fun g w' vs hM hE hP => ?_) ?_
              rotate_left
              · (clear hP hM; have zz0 := cs_ext hE x0; have zz1 := cs_ext hE x1; go_simp; first | done | rfl)
              refine reg_value (fun g => by go_simp) ?_ (fun g w' vs hM hE hP => ?_) ?_
              rotate_left
              · (clear hP hM; have zz0 := cs_ext hE x0; have zz1 := cs_ext hE x1; go_simp; first | done | rfl)
              refine reg_value (fun g => by go_simp) ?_ (fun g w' vs hM hE hP => ?_) ?_
              rotate_left
              · (clear hP hM; have zz0 := cs_ext hE x0; have zz1 := cs_ext hE x1; go_simp; first | done | rfl)
              refine reg_value (fun g => by go_simp) ?_ (fun g w' vs hM hE hP => ?_) ?_
              rotate_left
              · (clear hP hM; have zz0 := cs_ext hE x0; have zz1 := cs_ext hE x1; go_simp; first | done | rfl)
              refine reg_value (fun g => by go_simp) ?_ (fun g w' vs hM hE hP => ?_) ?_
              rotate_left
              · (clear hP hM; have zz0 := cs_ext hE x0; have zz1 := cs_ext hE x1; go_simp; first | done | rfl)
              refine reg_value (fun g => by go_simp) ?_ (fun g w' vs hM hE hP => ?_) ?_
              rotate_left
              · (clear hP hM; have zz0 := cs_ext hE x0; have zz1 := cs_ext hE x1; go_simp; first | done | rfl)
              refine reg_value (fun g => by go_simp) ?_ (fun g w' vs hM hE hP => ?_) ?_
              rotate_left
              · (clear hP hM; have zz0 := cs_ext hE x0; have zz1 := cs_ext hE x1; go_simp; first | done | rfl)
              refine reg_const (fun g => by go_simp) 39 ?_ (fun g w' vs hM hE hP => ?_) ?_
              rotate_left
              · (clear hP hM; have zz0 := cs_ext hE x0; have zz1 := cs_ext hE x1; go_simp; first | done | exact ⟨rfl, rfl⟩ | rfl)
              apply Exists.intro
              refine And.intro (fun g w' vs hM hE hP => ?_) ?_
              · exact HC1.out _ hE
              refine reg_value (fun g => by go_simp) ?_ (fun g w' vs hM hE hP => ?_) ?_
              rotate_left
              · (clear hP hM; have zz0 := cs_ext hE x0; have zz1 := cs_ext hE x1; go_simp; first | done | rfl)
              refine reg_skip (fun g => by go_simp; first | done | (intro h; cases h) | simp [undef]) ?_
              refine reg_skip (fun g => by go_simp; first | done | (intro h; cases h) | simp [undef]) ?_
              refine reg_skip (fun g => by go_simp; first | done | (intro h; cases h) | simp [undef]) ?_
              refine reg_skip (fun g => by go_simp; first | done | (intro h; cases h) | simp [undef]) ?_
              refine reg_skip (fun g => by go_simp; first | done | (intro h; cases h) | simp [undef]) ?_
              refine reg_skip (fun g => by go_simp; first | done | (intro h; cases h) | simp [undef]) ?_
              refine reg_skip (fun g => by go_simp; first | done | (intro h; cases h) | simp [undef]) ?_
              refine reg_skip (fun g => by go_simp; first | done | (intro h; cases h) | simp [undef]) ?_
              refine reg_value (fun g => by go_simp) ?_ (fun g w' vs hM hE hP => ?_) ?_
              rotate_left
              · (clear hP hM; have zz0 := cs_ext hE x0; have zz1 := cs_ext hE x1; go_simp; first | done | rfl)
              refine reg_value (fun _ => rfl) ?_ (fun g w' vs hM hE hP => ?_) ?_
              rotate_left
              · (clear hP hM; have zz0 := cs_ext hE x0; have zz1 := cs_ext hE x1; go_simp; first | done | rfl)
              intro g wz hE2 hF hQ
              simp only [List.drop_succ_cons, List.drop_zero, Act.put, List.setIfInBounds_toArray, List.set_cons_succ, List.set_cons_zero]
              have HE2 := Lib.hid hE2
              obtain ⟨w4, hup, hM4⟩ := (HM.out.next HE2.out).put nk
              rw [show encP nk = .agg #[.int .i64 x.1, .int .i64 x.2] by simp [encP, HNK.out]] at hup
              have x0 := cs_ext HE2.out x0
              have x1 := cs_ext HE2.out x1
              have HM4 : Hid (MGen w1 w4 mb (L.take (k + 1))) := Lib.hid (by rw [take_snoc' HX.out, ← HNK.out]; exact hM4)
              have HN : Hid (bothS fm.fields gm.fields x = false) := Lib.hid (by rw [HBO.out]; rfl)
              clear hM4 hF hQ hE2
              go_wp2_with fail
              go_roundw
              case rel => exact ⟨k + 1, by go_num, by omega, HM4.out, HB1.out.trans HM4.out.ext, HAL1.out.ext HM4.out.ext, fun q y h hy => by
                rcases Nat.lt_or_ge q k with h' | h'
                · exact HACC.out q y h' hy
                · have : q = k := by omega
                  subst this
                  rw [HX.out] at hy; cases hy; exact HN.out, fun q y z h hy hz => by
                rcases Nat.lt_or_ge (q + 1) k with h' | h'
                · exact HADJ.out q y z h' hy hz
                · exact HLT.out q y z (by omega) hy hz⟩
              case measure => simp [intOf]; omega
            · cases b2
              · go_wp2_with fail
                refine wp_region_reg 35 false (by kernel_rfl) (by kernel_rfl) ?_
                refine reg_value (fun _ => rfl) ?_ (fun g w' vs hM hE hP => ?_) ?_
                rotate_left
                · (clear hP hM; have zz0 := cs_ext hE x0; have zz1 := cs_ext hE x1; go_simp; first | done | rfl)
                refine reg_value (fun _ => rfl) ?_ (fun g w' vs hM hE hP => ?_) ?_
                rotate_left
                · (clear hP hM; have zz0 := cs_ext hE x0; have zz1 := cs_ext hE x1; go_simp; first | done | rfl)
                refine reg_value (fun _ => rfl) ?_ (fun g w' vs hM hE hP => ?_) ?_
                rotate_left
                · (clear hP hM; have zz0 := cs_ext hE x0; have zz1 := cs_ext hE x1; go_simp; first | done | rfl)
                refine reg_skip (fun g => by go_simp; first | done | (intro h; cases h) | simp [undef]) ?_
                refine reg_skip (fun g => by go_simp; first | done | (intro h; cases h) | simp [undef]) ?_
                refine reg_skip (fun g => by go_simp; first | done | (intro h; cases h) | simp [undef]) ?_
                refine reg_skip (fun g => by go_simp; first | done | (intro h; cases h) | simp [undef]) ?_
                refine reg_skip (fun g => by go_simp; first | done | (intro h; cases h) | simp [undef]) ?_
                refine reg_skip (fun g => by go_simp; first | done | (intro h; cases h) | simp [undef]) ?_
                refine reg_skip (fun g => by go_simp; first | done | (intro h; cases h) | simp [undef]) ?_
                refine reg_skip (fun g => by go_simp; first | done | (intro h; cases h) | simp [undef]) ?_
                refine reg_skip (fun g => by go_simp; first | done | (intro h; cases h) | simp [undef]) ?_
                refine reg_skip (fun g => by go_simp; first | done | (intro h; cases h) | simp [undef]) ?_
                refine reg_skip (fun g => by go_simp; first | done | (intro h; cases h) | simp [undef]) ?_
                refine reg_value (fun _ => rfl) ?_ (fun g w' vs hM hE hP => ?_) ?_
                rotate_left
                · (clear hP hM; have zz0 := cs_ext hE x0; have zz1 := cs_ext hE x1; go_simp; first | done | rfl)
                refine reg_value (fun _ => rfl) ?_ (fun g w' vs hM hE hP => ?_) ?_
                rotate_left
                · (clear hP hM; have zz0 := cs_ext hE x0; have zz1 := cs_ext hE x1; go_simp; first | done | rfl)
                refine reg_value (fun g => by go_simp) ?_ (fun g w' vs hM hE hP => ?_) ?_
                rotate_left
                · (clear hP hM; have zz0 := cs_ext hE x0; have zz1 := cs_ext hE x1; go_simp; first | done | rfl)
                refine reg_value (fun g => by go_simp) ?_ (fun g w' vs hM hE hP => ?_) ?_
                rotate_left
                · (clear hP hM; have zz0 := cs_ext hE x0; have zz1 := cs_ext hE x1; go_simp; first | done | rfl)
                refine reg_value (fun g => by go_simp) ?_ (fun g w' vs hM hE hP => ?_) ?_
                rotate_left
                · (clear hP hM; have zz0 := cs_ext hE x0; have zz1 := cs_ext hE x1; go_simp; first | done | rfl)
                refine reg_value (fun g => by go_simp) ?_ (fun g w' vs hM hE hP => ?_) ?_
                rotate_left
                · (clear hP hM; have zz0 := cs_ext hE x0; have zz1 := cs_ext hE x1; go_simp; first | done | rfl)
                refine reg_value (fun g => by go_simp) ?_ (fun g w' vs hM hE hP => ?_) ?_
                rotate_left
                · (clear hP hM; have zz0 := cs_ext hE x0; have zz1 := cs_ext hE x1; go_simp; first | done | rfl)
                refine reg_value (fun g => by go_simp) ?_ (fun g w' vs hM hE hP => ?_) ?_
                rotate_left
                · (clear hP hM; have zz0 := cs_ext hE x0; have zz1 := cs_ext hE x1; go_simp; first | done | rfl)
                refine reg_value (fun g => by go_simp) ?_ (fun g w' vs hM hE hP => ?_) ?_
                rotate_left
                · (clear hP hM; have zz0 := cs_ext hE x0; have zz1 := cs_ext hE x1; go_simp; first | done | rfl)
                refine reg_const (fun g => by go_simp) 39 ?_ (fun g w' vs hM hE hP => ?_) ?_
                rotate_left
                · (clear hP hM; have zz0 := cs_ext hE x0; have zz1 := cs_ext hE x1; go_simp; first | done | exact ⟨rfl, rfl⟩ | rfl)
                apply Exists.intro
                refine And.intro (fun g w' vs hM hE hP => ?_) ?_
                · exact HC1.out _ hE
                refine reg_value (fun g => by go_simp) ?_ (fun g w' vs hM hE hP => ?_) ?_
                rotate_left
                · (clear hP hM; have zz0 := cs_ext hE x0; have zz1 := cs_ext hE x1; go_simp; first | done | rfl)
                refine reg_value (fun g => by go_simp) ?_ (fun g w' vs hM hE hP => ?_) ?_
                rotate_left
                · (clear hP hM; have zz0 := cs_ext hE x0; have zz1 := cs_ext hE x1; go_simp; first | done | rfl)
                refine reg_value (fun g => by go_simp) ?_ (fun g w' vs hM hE hP => ?_) ?_
                rotate_left
                · (clear hP hM; have zz0 := cs_ext hE x0; have zz1 := cs_ext hE x1; go_simp; first | done | rfl)
                refine reg_value (fun g => by go_simp) ?_ (fun g w' vs hM hE hP => ?_) ?_
                rotate_left
                · (clear hP hM; have zz0 := cs_ext hE x0; have zz1 := cs_ext hE x1; go_simp; first | done | rfl)
                refine reg_value (fun g => by go_simp) ?_ (fun g w' vs hM hE hP => ?_) ?_
                rotate_left
                · (clear hP hM; have zz0 := cs_ext hE x0; have zz1 := cs_ext hE x1; go_simp; first | done | rfl)
                refine reg_value (fun g => by go_simp) ?_ (fun g w' vs hM hE hP => ?_) ?_
                rotate_left
                · (clear hP hM; have zz0 := cs_ext hE x0; have zz1 := cs_ext hE x1; go_simp; first | done | rfl)
                refine reg_value (fun g => by go_simp) ?_ (fun g w' vs hM hE hP => ?_) ?_
                rotate_left
                · (clear hP hM; have zz0 := cs_ext hE x0; have zz1 := cs_ext hE x1; go_simp; first | done | rfl)
                refine reg_value (fun g => by go_simp) ?_ (fun g w' vs hM hE hP => ?_) ?_
                rotate_left
                · (clear hP hM; have zz0 := cs_ext hE x0; have zz1 := cs_ext hE x1; go_simp; first | done | rfl)
                refine reg_const (fun g => by go_simp) 39 ?_ (fun g w' vs hM hE hP => ?_) ?_
                rotate_left
                · (clear hP hM; have zz0 := cs_ext hE x0; have zz1 := cs_ext hE x1; go_simp; first | done | exact ⟨rfl, rfl⟩ | rfl)
                apply Exists.intro
                refine And.intro (fun g w' vs hM hE hP => ?_) ?_
                · exact HC2.out _ hE
                refine reg_value (fun g => by go_simp) ?_ (fun g w' vs hM hE hP => ?_) ?_
                rotate_left
                · (clear hP hM; have zz0 := cs_ext hE x0; have zz1 := cs_ext hE x1; go_simp; first | done | rfl)
                refine reg_value (fun _ => rfl) ?_ (fun g w' vs hM hE hP => ?_) ?_
                rotate_left
                · (clear hP hM; have zz0 := cs_ext hE x0; have zz1 := cs_ext hE x1; go_simp; first | done | rfl)
                intro g wz hE2 hF hQ
                simp only [List.drop_succ_cons, List.drop_zero, Act.put, List.setIfInBounds_toArray, List.set_cons_succ, List.set_cons_zero]
                have HE2 := Lib.hid hE2
                obtain ⟨w4, hup, hM4⟩ := (HM.out.next HE2.out).put nk
                rw [show encP nk = .agg #[.int .i64 x.1, .int .i64 x.2] by simp [encP, HNK.out]] at hup
                have x0 := cs_ext HE2.out x0
                have x1 := cs_ext HE2.out x1
                have HM4 : Hid (MGen w1 w4 mb (L.take (k + 1))) := Lib.hid (by rw [take_snoc' HX.out, ← HNK.out]; exact hM4)
                have HN : Hid (bothS fm.fields gm.fields x = false) := Lib.hid (by rw [HBO.out]; rfl)
                clear hM4 hF hQ hE2
                go_wp2_with fail
                go_roundw
                case rel => exact ⟨k + 1, by go_num, by omega, HM4.out, HB1.out.trans HM4.out.ext, HAL1.out.ext HM4.out.ext, fun q y h hy => by
                  rcases Nat.lt_or_ge q k with h' | h'
                  · exact HACC.out q y h' hy
                  · have : q = k := by omega
                    subst this
                    rw [HX.out] at hy; cases hy; exact HN.out, fun q y z h hy hz => by
                  rcases Nat.lt_or_ge (q + 1) k with h' | h'
                  · exact HADJ.out q y z h' hy hz
                  · exact HLT.out q y z (by omega) hy hz⟩
                case measure => simp [intOf]; omega
              · have HNOT := Lib.hid (HNOTB.out rfl rfl)
                go_wp2_with fail
                refine wp_region_reg 35 false (by kernel_rfl) (by kernel_rfl) ?_
                refine reg_value (fun _ => rfl) ?_ (fun g w' vs hM hE hP => ?_) ?_
                rotate_left
                · (clear hP hM; have zz0 := cs_ext hE x0; have zz1 := cs_ext hE x1; go_simp; first | done | rfl)
                refine reg_value (fun _ => rfl) ?_ (fun g w' vs hM hE hP => ?_) ?_
                rotate_left
                · (clear hP hM; have zz0 := cs_ext hE x0; have zz1 := cs_ext hE x1; go_simp; first | done | rfl)
                refine reg_value (fun _ => rfl) ?_ (fun g w' vs hM hE hP => ?_) ?_
                rotate_left
                · (clear hP hM; have zz0 := cs_ext hE x0; have zz1 := cs_ext hE x1; go_simp; first | done | rfl)
                refine reg_skip (fun g => by go_simp; first | done | (intro h; cases h) | simp [undef]) ?_
                refine reg_skip (fun g => by go_simp; first | done | (intro h; cases h) | simp [undef]) ?_
                refine reg_skip (fun g => by go_simp; first | done | (intro h; cases h) | simp [undef]) ?_
                refine reg_skip (fun g => by go_simp; first | done | (intro h; cases h) | simp [undef]) ?_
                refine reg_skip (fun g => by go_simp; first | done | (intro h; cases h) | simp [undef]) ?_
                refine reg_skip (fun g => by go_simp; first | done | (intro h; cases h) | simp [undef]) ?_
                refine reg_skip (fun g => by go_simp; first | done | (intro h; cases h) | simp [undef]) ?_
                refine reg_skip (fun g => by go_simp; first | done | (intro h; cases h) | simp [undef]) ?_
                refine reg_skip (fun g => by go_simp; first | done | (intro h; cases h) | simp [undef]) ?_
                refine reg_skip (fun g => by go_simp; first | done | (intro h; cases h) | simp [undef]) ?_
                refine reg_skip (fun g => by go_simp; first | done | (intro h; cases h) | simp [undef]) ?_
                refine reg_value (fun _ => rfl) ?_ (fun g w' vs hM hE hP => ?_) ?_
                rotate_left
                · (clear hP hM; have zz0 := cs_ext hE x0; have zz1 := cs_ext hE x1; go_simp; first | done | rfl)
                refine reg_value (fun _ => rfl) ?_ (fun g w' vs hM hE hP => ?_) ?_
                rotate_left
                · (clear hP hM; have zz0 := cs_ext hE x0; have zz1 := cs_ext hE x1; go_simp; first | done | rfl)
                refine reg_value (fun g => by go_simp) ?_ (fun g w' vs hM hE hP => ?_) ?_
                rotate_left
                · (clear hP hM; have zz0 := cs_ext hE x0; have zz1 := cs_ext hE x1; go_simp; first | done | rfl)
                refine reg_value (fun g => by go_simp) ?_ (fun g w' vs hM hE hP => ?_) ?_
                rotate_left
                · (clear hP hM; have zz0 := cs_ext hE x0; have zz1 := cs_ext hE x1; go_simp; first | done | rfl)
                refine reg_value (fun g => by go_simp) ?_ (fun g w' vs hM hE hP => ?_) ?_
                rotate_left
                · (clear hP hM; have zz0 := cs_ext hE x0; have zz1 := cs_ext hE x1; go_simp; first | done | rfl)
                refine reg_value (fun g => by go_simp) ?_ (fun g w' vs hM hE hP => ?_) ?_
                rotate_left
                · (clear hP hM; have zz0 := cs_ext hE x0; have zz1 := cs_ext hE x1; go_simp; first | done | rfl)
                refine reg_value (fun g => by go_simp) ?_ (fun g w' vs hM hE hP => ?_) ?_
                rotate_left
                · (clear hP hM; have zz0 := cs_ext hE x0; have zz1 := cs_ext hE x1; go_simp; first | done | rfl)
                refine reg_value (fun g => by go_simp) ?_ (fun g w' vs hM hE hP => ?_) ?_
                rotate_left
                · (clear hP hM; have zz0 := cs_ext hE x0; have zz1 := cs_ext hE x1; go_simp; first | done | rfl)
                refine reg_value (fun g => by go_simp) ?_ (fun g w' vs hM hE hP => ?_) ?_
                rotate_left
                · (clear hP hM; have zz0 := cs_ext hE x0; have zz1 := cs_ext hE x1; go_simp; first | done | rfl)
                refine reg_const (fun g => by go_simp) 39 ?_ (fun g w' vs hM hE hP => ?_) ?_
                rotate_left
                · (clear hP hM; have zz0 := cs_ext hE x0; have zz1 := cs_ext hE x1; go_simp; first | done | exact ⟨rfl, rfl⟩ | rfl)
                apply Exists.intro
                refine And.intro (fun g w' vs hM hE hP => ?_) ?_
                · exact HC1.out _ hE
                refine reg_value (fun g => by go_simp) ?_ (fun g w' vs hM hE hP => ?_) ?_
                rotate_left
                · (clear hP hM; have zz0 := cs_ext hE x0; have zz1 := cs_ext hE x1; go_simp; first | done | rfl)
                refine reg_value (fun g => by go_simp) ?_ (fun g w' vs hM hE hP => ?_) ?_
                rotate_left
                · (clear hP hM; have zz0 := cs_ext hE x0; have zz1 := cs_ext hE x1; go_simp; first | done | rfl)
                refine reg_value (fun g => by go_simp) ?_ (fun g w' vs hM hE hP => ?_) ?_
                rotate_left
                · (clear hP hM; have zz0 := cs_ext hE x0; have zz1 := cs_ext hE x1; go_simp; first | done | rfl)
                refine reg_value (fun g => by go_simp) ?_ (fun g w' vs hM hE hP => ?_) ?_
                rotate_left
                · (clear hP hM; have zz0 := cs_ext hE x0; have zz1 := cs_ext hE x1; go_simp; first | done | rfl)
                refine reg_value (fun g => by go_simp) ?_ (fun g w' vs hM hE hP => ?_) ?_
                rotate_left
                · (clear hP hM; have zz0 := cs_ext hE x0; have zz1 := cs_ext hE x1; go_simp; first | done | rfl)
                refine reg_value (fun g => by go_simp) ?_ (fun g w' vs hM hE hP => ?_) ?_
                rotate_left
                · (clear hP hM; have zz0 := cs_ext hE x0; have zz1 := cs_ext hE x1; go_simp; first | done | rfl)
                refine reg_value (fun g => by go_simp) ?_ (fun g w' vs hM hE hP => ?_) ?_
                rotate_left
                · (clear hP hM; have zz0 := cs_ext hE x0; have zz1 := cs_ext hE x1; go_simp; first | done | rfl)
                refine reg_value (fun g => by go_simp) ?_ (fun g w' vs hM hE hP => ?_) ?_
                rotate_left
                · (clear hP hM; have zz0 := cs_ext hE x0; have zz1 := cs_ext hE x1; go_simp; first | done | rfl)
                refine reg_const (fun g => by go_simp) 39 ?_ (fun g w' vs hM hE hP => ?_) ?_
                rotate_left
                · (clear hP hM; have zz0 := cs_ext hE x0; have zz1 := cs_ext hE x1; go_simp; first | done | exact ⟨rfl, rfl⟩ | rfl)
                apply Exists.intro
                refine And.intro (fun g w' vs hM hE hP => ?_) ?_
                · exact HC2.out _ hE
                refine reg_value (fun g => by go_simp) ?_ (fun g w' vs hM hE hP => ?_) ?_
                rotate_left
                · (clear hP hM; have zz0 := cs_ext hE x0; have zz1 := cs_ext hE x1; go_simp; first | done | rfl)
                refine reg_value (fun _ => rfl) ?_ (fun g w' vs hM hE hP => ?_) ?_
                rotate_left
                · (clear hP hM; have zz0 := cs_ext hE x0; have zz1 := cs_ext hE x1; go_simp; first | done | rfl)
                intro g wz hE2 hF hQ
                simp only [List.drop_succ_cons, List.drop_zero, Act.put, List.setIfInBounds_toArray, List.set_cons_succ, List.set_cons_zero]
                have HE2 := Lib.hid (HE.out.trans hE2)
                clear hF hQ hE2 x0 x1
                go_wp2_with fail
                go_ret
                exact RetB.no (HE2.out) HNOT.out
          · have e3 : decide ((0 : Int) < (k : Int)) = true := decide_eq_true (by omega)
            obtain ⟨m, hm⟩ : ∃ m, m + 1 = k := ⟨k - 1, by omega⟩
            obtain ⟨y, hy⟩ : ∃ y, L[m]? = some y := ⟨_, List.getElem?_eq_getElem (by omega)⟩
            obtain ⟨lbk', off', e', y0, y1⟩ := HP.out m y hy
            cases e'
            have hml : m < L.length := by omega
            have e5 : (k : Int) - 1 = (m : Int) := by omega
            have HE5 := Lib.hid e5
            obtain ⟨o, ho⟩ : ∃ o, o = decide (ordS y.1 y.2 x.1 x.2 < 0) := ⟨_, rfl⟩
            have hcl := fun (w' : World) => less_any y.1 y.2 x.1 x.2 w'
            rw [← ho] at hcl
            have HO := Lib.hid ho
            have HCL := Lib.hid hcl
            have HY := Lib.hid hy
            have HMK2 := Lib.hid hm
            have e6 : IntKind.i64.wrap ((k : Int) - 1) = (m : Int) := by rw [e5]; exact IntWalk.i64_in _ (by omega)
            have hk1 : 0 < k := by omega
            have e7 : IntKind.i64.wrap (m : Int) = (m : Int) := IntWalk.i64_in _ (by omega)
            clear ho hcl hy hm hk0
            cases o
            · have HNOT : Hid (¬ CheckP t i' j' L) := Lib.hid (fun h => by
                have h1 := pairwise_adj h.2.2.1 HY.out HX.out (by have := HMK2.out; omega)
                rw [← ord_lt'] at h1
                have := HO.out
                simp at this
                omega)
              go_wp2_with fail
              refine wp_region_reg 35 false (by kernel_rfl) (by kernel_rfl) ?_
              refine reg_value (fun _ => rfl) ?_ (fun g w' vs hM hE hP => ?_) ?_
              rotate_left
              · (clear hP hM; have zz0 := cs_ext hE x0; have zz1 := cs_ext hE x1; have zz2 := cs_ext hE y0; have zz3 := cs_ext hE y1; go_simp; first | done | rfl)
              refine reg_value (fun _ => rfl) ?_ (fun g w' vs hM hE hP => ?_) ?_
              rotate_left
              · (clear hP hM; have zz0 := cs_ext hE x0; have zz1 := cs_ext hE x1; have zz2 := cs_ext hE y0; have zz3 := cs_ext hE y1; go_simp; first | done | rfl)
              refine reg_value (fun _ => rfl) ?_ (fun g w' vs hM hE hP => ?_) ?_
              rotate_left
              · (clear hP hM; have zz0 := cs_ext hE x0; have zz1 := cs_ext hE x1; have zz2 := cs_ext hE y0; have zz3 := cs_ext hE y1; go_simp; first | done | rfl)
              refine reg_value (fun g => by go_simp) ?_ (fun g w' vs hM hE hP => ?_) ?_
              rotate_left
              · (clear hP hM; have zz0 := cs_ext hE x0; have zz1 := cs_ext hE x1; have zz2 := cs_ext hE y0; have zz3 := cs_ext hE y1; go_simp; first | done | rfl)
              refine reg_value (fun g => by go_simp) ?_ (fun g w' vs hM hE hP => ?_) ?_
              rotate_left
              · (clear hP hM; have zz0 := cs_ext hE x0; have zz1 := cs_ext hE x1; have zz2 := cs_ext hE y0; have zz3 := cs_ext hE y1; go_simp; first | done | rfl)
              refine reg_value (fun g => by go_simp) ?_ (fun g w' vs hM hE hP => ?_) ?_
              rotate_left
              · (clear hP hM; have zz0 := cs_ext hE x0; have zz1 := cs_ext hE x1; have zz2 := cs_ext hE y0; have zz3 := cs_ext hE y1; go_simp; first | done | rfl)
              refine reg_value (fun g => by go_simp) ?_ (fun g w' vs hM hE hP => ?_) ?_
              rotate_left
              · (clear hP hM; have zz0 := cs_ext hE x0; have zz1 := cs_ext hE x1; have zz2 := cs_ext hE y0; have zz3 := cs_ext hE y1; go_simp; first | done | rfl)
              refine reg_value (fun g => by go_simp) ?_ (fun g w' vs hM hE hP => ?_) ?_
              rotate_left
              · (clear hP hM; have zz0 := cs_ext hE x0; have zz1 := cs_ext hE x1; have zz2 := cs_ext hE y0; have zz3 := cs_ext hE y1; go_simp; first | done | rfl)
              refine reg_value (fun g => by go_simp) ?_ (fun g w' vs hM hE hP => ?_) ?_
              rotate_left
              · (clear hP hM; have zz0 := cs_ext hE x0; have zz1 := cs_ext hE x1; have zz2 := cs_ext hE y0; have zz3 := cs_ext hE y1; go_simp; first | done | rfl)
              refine reg_value (fun g => by go_simp) ?_ (fun g w' vs hM hE hP => ?_) ?_
              rotate_left
              · (clear hP hM; have zz0 := cs_ext hE x0; have zz1 := cs_ext hE x1; have zz2 := cs_ext hE y0; have zz3 := cs_ext hE y1; go_simp; first | done | rfl)
              refine reg_value (fun g => by go_simp) ?_ (fun g w' vs hM hE hP => ?_) ?_
              rotate_left
              · (clear hP hM; have zz0 := cs_ext hE x0; have zz1 := cs_ext hE x1; have zz2 := cs_ext hE y0; have zz3 := cs_ext hE y1; go_simp; first | done | rfl)
              refine reg_value (fun g => by go_simp) ?_ (fun g w' vs hM hE hP => ?_) ?_
              rotate_left
              · (clear hP hM; have zz0 := cs_ext hE x0; have zz1 := cs_ext hE x1; have zz2 := cs_ext hE y0; have zz3 := cs_ext hE y1; go_simp; first | done | rfl)
              refine reg_const (fun g => by go_simp) 55 ?_ (fun g w' vs hM hE hP => ?_) ?_
              rotate_left
              · (clear hP hM; have zz0 := cs_ext hE x0; have zz1 := cs_ext hE x1; have zz2 := cs_ext hE y0; have zz3 := cs_ext hE y1; go_simp; first | done | exact ⟨rfl, rfl⟩ | rfl)
              apply Exists.intro
              refine And.intro (fun g w' vs hM hE hP => ?_) ?_
              · exact HCL.out _
              refine reg_value (fun g => by go_simp) ?_ (fun g w' vs hM hE hP => ?_) ?_
              rotate_left
              · (clear hP hM; have zz0 := cs_ext hE x0; have zz1 := cs_ext hE x1; have zz2 := cs_ext hE y0; have zz3 := cs_ext hE y1; go_simp; first | done | rfl)
              refine reg_value (fun _ => rfl) ?_ (fun g w' vs hM hE hP => ?_) ?_
              rotate_left
              · (clear hP hM; have zz0 := cs_ext hE x0; have zz1 := cs_ext hE x1; have zz2 := cs_ext hE y0; have zz3 := cs_ext hE y1; go_simp; first | done | rfl)
              refine reg_value (fun _ => rfl) ?_ (fun g w' vs hM hE hP => ?_) ?_
              rotate_left
              · (clear hP hM; have zz0 := cs_ext hE x0; have zz1 := cs_ext hE x1; have zz2 := cs_ext hE y0; have zz3 := cs_ext hE y1; go_simp; first | done | rfl)
              refine reg_skip (fun g => by go_simp; first | done | (intro h; cases h) | simp [undef]) ?_
              refine reg_skip (fun g => by go_simp; first | done | (intro h; cases h) | simp [undef]) ?_
              refine reg_skip (fun g => by go_simp; first | done | (intro h; cases h) | simp [undef]) ?_
              refine reg_skip (fun g => by go_simp; first | done | (intro h; cases h) | simp [undef]) ?_
              refine reg_skip (fun g => by go_simp; first | done | (intro h; cases h) | simp [undef]) ?_
              refine reg_skip (fun g => by go_simp; first | done | (intro h; cases h) | simp [undef]) ?_
              refine reg_skip (fun g => by go_simp; first | done | (intro h; cases h) | simp [undef]) ?_
              refine reg_skip (fun g => by go_simp; first | done | (intro h; cases h) | simp [undef]) ?_
              refine reg_skip (fun g => by go_simp; first | done | (intro h; cases h) | simp [undef]) ?_
              refine reg_skip (fun g => by go_simp; first | done | (intro h; cases h) | simp [undef]) ?_
              refine reg_skip (fun g => by go_simp; first | done | (intro h; cases h) | simp [undef]) ?_
              refine reg_skip (fun g => by go_simp; first | done | (intro h; cases h) | simp [undef]) ?_
              refine reg_skip (fun g => by go_simp; first | done | (intro h; cases h) | simp [undef]) ?_
              refine reg_skip (fun g => by go_simp; first | done | (intro h; cases h) | simp [undef]) ?_
              refine reg_skip (fun g => by go_simp; first | done | (intro h; cases h) | simp [undef]) ?_
              refine reg_skip (fun g => by go_simp; first | done | (intro h; cases h) | simp [undef]) ?_
              refine reg_skip (fun g => by go_simp; first | done | (intro h; cases h) | simp [undef]) ?_
              refine reg_skip (fun g => by go_simp; first | done | (intro h; cases h) | simp [undef]) ?_
              refine reg_value (fun _ => rfl) ?_ (fun g w' vs hM hE hP => ?_) ?_
              rotate_left
              · (clear hP hM; have zz0 := cs_ext hE x0; have zz1 := cs_ext hE x1; have zz2 := cs_ext hE y0; have zz3 := cs_ext hE y1; go_simp; first | done | rfl)
              intro g wz hE2 hF hQ
              simp only [List.drop_succ_cons, List.drop_zero, Act.put, List.setIfInBounds_toArray, List.set_cons_succ, List.set_cons_zero]
              clear y0 y1
              have HE2 := Lib.hid (HE.out.trans hE2)
              clear hF hQ hE2 x0 x1
              go_wp2_with fail
              go_ret
              exact RetB.no (HE2.out) HNOT.out
            · have HLT : Hid (∀ (q : Nat) y z, q + 1 = k → L[q]? = some y → L[q + 1]? = some z → ltP y z) := Lib.hid (fun q y' z h h1 h2 => by
                have hq : q = m := by have := HMK2.out; omega
                subst hq
                rw [h] at h2
                rw [HY.out] at h1
                rw [HX.out] at h2
                cases h1; cases h2
                rw [← ord_lt']
                have := HO.out
                simp at this
                omega)
              cases b1
              · go_wp2_with fail
                refine wp_region_reg 35 false (by kernel_rfl) (by kernel_rfl) ?_
                refine reg_value (fun _ => rfl) ?_ (fun g w' vs hM hE hP => ?_) ?_
                rotate_left
                · (clear hP hM; have zz0 := cs_ext hE x0; have zz1 := cs_ext hE x1; have zz2 := cs_ext hE y0; have zz3 := cs_ext hE y1; go_simp; first | done | rfl)
                refine reg_value (fun _ => rfl) ?_ (fun g w' vs hM hE hP => ?_) ?_
                rotate_left
                · (clear hP hM; have zz0 := cs_ext hE x0; have zz1 := cs_ext hE x1; have zz2 := cs_ext hE y0; have zz3 := cs_ext hE y1; go_simp; first | done | rfl)
                refine reg_value (fun _ => rfl) ?_ (fun g w' vs hM hE hP => ?_) ?_
                rotate_left
                · (clear hP hM; have zz0 := cs_ext hE x0; have zz1 := cs_ext hE x1; have zz2 := cs_ext hE y0; have zz3 := cs_ext hE y1; go_simp; first | done | rfl)
                refine reg_value (fun g => by go_simp) ?_ (fun g w' vs hM hE hP => ?_) ?_
                rotate_left
                · (clear hP hM; have zz0 := cs_ext hE x0; have zz1 := cs_ext hE x1; have zz2 := cs_ext hE y0; have zz3 := cs_ext hE y1; go_simp; first | done | rfl)
                refine reg_value (fun g => by go_simp) ?_ (fun g w' vs hM hE hP => ?_) ?_
                rotate_left
                · (clear hP hM; have zz0 := cs_ext hE x0; have zz1 := cs_ext hE x1; have zz2 := cs_ext hE y0; have zz3 := cs_ext hE y1; go_simp; first | done | rfl)
                refine reg_value (fun g => by go_simp) ?_ (fun g w' vs hM hE hP => ?_) ?_
                rotate_left
                · (clear hP hM; have zz0 := cs_ext hE x0; have zz1 := cs_ext hE x1; have zz2 := cs_ext hE y0; have zz3 := cs_ext hE y1; go_simp; first | done | rfl)
                refine reg_value (fun g => by go_simp) ?_ (fun g w' vs hM hE hP => ?_) ?_
                rotate_left
                · (clear hP hM; have zz0 := cs_ext hE x0; have zz1 := cs_ext hE x1; have zz2 := cs_ext hE y0; have zz3 := cs_ext hE y1; go_simp; first | done | rfl)
                refine reg_value (fun g => by go_simp) ?_ (fun g w' vs hM hE hP => ?_) ?_
                rotate_left
                · (clear hP hM; have zz0 := cs_ext hE x0; have zz1 := cs_ext hE x1; have zz2 := cs_ext hE y0; have zz3 := cs_ext hE y1; go_simp; first | done | rfl)
                refine reg_value (fun g => by go_simp) ?_ (fun g w' vs hM hE hP => ?_) ?_
                rotate_left
                · (clear hP hM; have zz0 := cs_ext hE x0; have zz1 := cs_ext hE x1; have zz2 := cs_ext hE y0; have zz3 := cs_ext hE y1; go_simp; first | done | rfl)
                refine reg_value (fun g => by go_simp) ?_ (fun g w' vs hM hE hP => ?_) ?_
                rotate_left
                · (clear hP hM; have zz0 := cs_ext hE x0; have zz1 := cs_ext hE x1; have zz2 := cs_ext hE y0; have zz3 := cs_ext hE y1; go_simp; first | done | rfl)
                refine reg_value (fun g => by go_simp) ?_ (fun g w' vs hM hE hP => ?_) ?_
                rotate_left
                · (clear hP hM; have zz0 := cs_ext hE x0; have zz1 := cs_ext hE x1; have zz2 := cs_ext hE y0; have zz3 := cs_ext hE y1; go_simp; first | done | rfl)
                refine reg_value (fun g => by go_simp) ?_ (fun g w' vs hM hE hP => ?_) ?_
                rotate_left
                · (clear hP hM; have zz0 := cs_ext hE x0; have zz1 := cs_ext hE x1; have zz2 := cs_ext hE y0; have zz3 := cs_ext hE y1; go_simp; first | done | rfl)
                refine reg_const (fun g => by go_simp) 55 ?_ (fun g w' vs hM hE hP => ?_) ?_
                rotate_left
                · (clear hP hM; have zz0 := cs_ext hE x0; have zz1 := cs_ext hE x1; have zz2 := cs_ext hE y0; have zz3 := cs_ext hE y1; go_simp; first | done | exact ⟨rfl, rfl⟩ | rfl)
                apply Exists.intro
                refine And.intro (fun g w' vs hM hE hP => ?_) ?_
                · exact HCL.out _
                refine reg_value (fun g => by go_simp) ?_ (fun g w' vs hM hE hP => ?_) ?_
                rotate_left
                · (clear hP hM; have zz0 := cs_ext hE x0; have zz1 := cs_ext hE x1; have zz2 := cs_ext hE y0; have zz3 := cs_ext hE y1; go_simp; first | done | rfl)
                refine reg_value (fun _ => rfl) ?_ (fun g w' vs hM hE hP => ?_) ?_
                rotate_left
                · (clear hP hM; have zz0 := cs_ext hE x0; have zz1 := cs_ext hE x1; have zz2 := cs_ext hE y0; have zz3 := cs_ext hE y1; go_simp; first | done | rfl)
                refine reg_value (fun _ => rfl) ?_ (fun g w' vs hM hE hP => ?_) ?_
                rotate_left
                · (clear hP hM; have zz0 := cs_ext hE x0; have zz1 := cs_ext hE x1; have zz2 := cs_ext hE y0; have zz3 := cs_ext hE y1; go_simp; first | done | rfl)
                refine reg_value (fun g => by go_simp) ?_ (fun g w' vs hM hE hP => ?_) ?_
                rotate_left
                · (clear hP hM; have zz0 := cs_ext hE x0; have zz1 := cs_ext hE x1; have zz2 := cs_ext hE y0; have zz3 := cs_ext hE y1; go_simp; first | done | rfl)
                refine reg_value (fun g => by go_simp) ?_ (fun g w' vs hM hE hP => ?_) ?_
                rotate_left
                · (clear hP hM; have zz0 := cs_ext hE x0; have zz1 := cs_ext hE x1; have zz2 := cs_ext hE y0; have zz3 := cs_ext hE y1; go_simp; first | done | rfl)
                refine reg_value (fun g => by go_simp) ?_ (fun g w' vs hM hE hP => ?_) ?_
                rotate_left
                · (clear hP hM; have zz0 := cs_ext hE x0; have zz1 := cs_ext hE x1; have zz2 := cs_ext hE y0; have zz3 := cs_ext hE y1; go_simp; first | done | rfl)
                refine reg_value (fun g => by go_simp) ?_ (fun g w' vs hM hE hP => ?_) ?_
                rotate_left
                · (clear hP hM; have zz0 := cs_ext hE x0; have zz1 := cs_ext hE x1; have zz2 := cs_ext hE y0; have zz3 := cs_ext hE y1; go_simp; first | done | rfl)
                refine reg_value (fun g => by go_simp) ?_ (fun g w' vs hM hE hP => ?_) ?_
                rotate_left
                · (clear hP hM; have zz0 := cs_ext hE x0; have zz1 := cs_ext hE x1; have zz2 := cs_ext hE y0; have zz3 := cs_ext hE y1; go_simp; first | done | rfl)
                refine reg_value (fun g => by go_simp) ?_ (fun g w' vs hM hE hP => ?_) ?_
                rotate_left
                · (clear hP hM; have zz0 := cs_ext hE x0; have zz1 := cs_ext hE x1; have zz2 := cs_ext hE y0; have zz3 := cs_ext hE y1; go_simp; first | done | rfl)
                refine reg_value (fun g => by go_simp) ?_ (fun g w' vs hM hE hP => ?_) ?_
                rotate_left
                · (clear hP hM; have zz0 := cs_ext hE x0; have zz1 := cs_ext hE x1; have zz2 := cs_ext hE y0; have zz3 := cs_ext hE y1; go_simp; first | done | rfl)
                refine reg_const (fun g => by go_simp) 39 ?_ (fun g w' vs hM hE hP => ?_) ?_
                rotate_left
                · (clear hP hM; have zz0 := cs_ext hE x0; have zz1 := cs_ext hE x1; have zz2 := cs_ext hE y0; have zz3 := cs_ext hE y1; go_simp; first | done | exact ⟨rfl, rfl⟩ | rfl)
                apply Exists.intro
                refine And.intro (fun g w' vs hM hE hP => ?_) ?_
                · exact HC1.out _ hE
                refine reg_value (fun g => by go_simp) ?_ (fun g w' vs hM hE hP => ?_) ?_
                rotate_left
                · (clear hP hM; have zz0 := cs_ext hE x0; have zz1 := cs_ext hE x1; have zz2 := cs_ext hE y0; have zz3 := cs_ext hE y1; go_simp; first | done | rfl)
                refine reg_skip (fun g => by go_simp; first | done | (intro h; cases h) | simp [undef]) ?_
                refine reg_skip (fun g => by go_simp; first | done | (intro h; cases h) | simp [undef]) ?_
                refine reg_skip (fun g => by go_simp; first | done | (intro h; cases h) | simp [undef]) ?_
                refine reg_skip (fun g => by go_simp; first | done | (intro h; cases h) | simp [undef]) ?_
                refine reg_skip (fun g => by go_simp; first | done | (intro h; cases h) | simp [undef]) ?_
                refine reg_skip (fun g => by go_simp; first | done | (intro h; cases h) | simp [undef]) ?_
                refine reg_skip (fun g => by go_simp; first | done | (intro h; cases h) | simp [undef]) ?_
                refine reg_skip (fun g => by go_simp; first | done | (intro h; cases h) | simp [undef]) ?_
                refine reg_value (fun g => by go_simp) ?_ (fun g w' vs hM hE hP => ?_) ?_
                rotate_left
                · (clear hP hM; have zz0 := cs_ext hE x0; have zz1 := cs_ext hE x1; have zz2 := cs_ext hE y0; have zz3 := cs_ext hE y1; go_simp; first | done | rfl)
                refine reg_value (fun _ => rfl) ?_ (fun g w' vs hM hE hP => ?_) ?_
                rotate_left
                · (clear hP hM; have zz0 := cs_ext hE x0; have zz1 := cs_ext hE x1; have zz2 := cs_ext hE y0; have zz3 := cs_ext hE y1; go_simp; first | done | rfl)
                intro g wz hE2 hF hQ
                simp only [List.drop_succ_cons, List.drop_zero, Act.put, List.setIfInBounds_toArray, List.set_cons_succ, List.set_cons_zero]
                clear y0 y1
                have HE2 := Lib.hid hE2
                obtain ⟨w4, hup, hM4⟩ := (HM.out.next HE2.out).put nk
                rw [show encP nk = .agg #[.int .i64 x.1, .int .i64 x.2] by simp [encP, HNK.out]] at hup
                have x0 := cs_ext HE2.out x0
                have x1 := cs_ext HE2.out x1
                have HM4 : Hid (MGen w1 w4 mb (L.take (k + 1))) := Lib.hid (by rw [take_snoc' HX.out, ← HNK.out]; exact hM4)
                have HN : Hid (bothS fm.fields gm.fields x = false) := Lib.hid (by rw [HBO.out]; rfl)
                clear hM4 hF hQ hE2
                go_wp2_with fail
                go_roundw
                case rel => exact ⟨k + 1, by go_num, by omega, HM4.out, HB1.out.trans HM4.out.ext, HAL1.out.ext HM4.out.ext, fun q y h hy => by
                  rcases Nat.lt_or_ge q k with h' | h'
                  · exact HACC.out q y h' hy
                  · have : q = k := by omega
                    subst this
                    rw [HX.out] at hy; cases hy; exact HN.out, fun q y z h hy hz => by
                  rcases Nat.lt_or_ge (q + 1) k with h' | h'
                  · exact HADJ.out q y z h' hy hz
                  · exact HLT.out q y z (by omega) hy hz⟩
                case measure => simp [intOf]; omega
              · cases b2
                · go_wp2_with fail
                  refine wp_region_reg 35 false (by kernel_rfl) (by kernel_rfl) ?_
                  refine reg_value (fun _ => rfl) ?_ (fun g w' vs hM hE hP => ?_) ?_
                  rotate_left
                  · (clear hP hM; have zz0 := cs_ext hE x0; have zz1 := cs_ext hE x1; have zz2 := cs_ext hE y0; have zz3 := cs_ext hE y1; go_simp; first | done | rfl)
                  refine reg_value (fun _ => rfl) ?_ (fun g w' vs hM hE hP => ?_) ?_
                  rotate_left
                  · (clear hP hM; have zz0 := cs_ext hE x0; have zz1 := cs_ext hE x1; have zz2 := cs_ext hE y0; have zz3 := cs_ext hE y1; go_simp; first | done | rfl)
                  refine reg_value (fun _ => rfl) ?_ (fun g w' vs hM hE hP => ?_) ?_
                  rotate_left
                  · (clear hP hM; have zz0 := cs_ext hE x0; have zz1 := cs_ext hE x1; have zz2 := cs_ext hE y0; have zz3 := cs_ext hE y1; go_simp; first | done | rfl)
                  refine reg_value (fun g => by go_simp) ?_ (fun g w' vs hM hE hP => ?_) ?_
                  rotate_left
                  · (clear hP hM; have zz0 := cs_ext hE x0; have zz1 := cs_ext hE x1; have zz2 := cs_ext hE y0; have zz3 := cs_ext hE y1; go_simp; first | done | rfl)
                  refine reg_value (fun g => by go_simp) ?_ (fun g w' vs hM hE hP => ?_) ?_
                  rotate_left
                  · (clear hP hM; have zz0 := cs_ext hE x0; have zz1 := cs_ext hE x1; have zz2 := cs_ext hE y0; have zz3 := cs_ext hE y1; go_simp; first | done | rfl)
                  refine reg_value (fun g => by go_simp) ?_ (fun g w' vs hM hE hP => ?_) ?_
                  rotate_left
                  · (clear hP hM; have zz0 := cs_ext hE x0; have zz1 := cs_ext hE x1; have zz2 := cs_ext hE y0; have zz3 := cs_ext hE y1; go_simp; first | done | rfl)
                  refine reg_value (fun g => by go_simp) ?_ (fun g w' vs hM hE hP => ?_) ?_
                  rotate_left
                  · (clear hP hM; have zz0 := cs_ext hE x0; have zz1 := cs_ext hE x1; have zz2 := cs_ext hE y0; have zz3 := cs_ext hE y1; go_simp; first | done | rfl)
                  refine reg_value (fun g => by go_simp) ?_ (fun g w' vs hM hE hP => ?_) ?_
                  rotate_left
                  · (clear hP hM; have zz0 := cs_ext hE x0; have zz1 := cs_ext hE x1; have zz2 := cs_ext hE y0; have zz3 := cs_ext hE y1; go_simp; first | done | rfl)
                  refine reg_value (fun g => by go_simp) ?_ (fun g w' vs hM hE hP => ?_) ?_
                  rotate_left
                  · (clear hP hM; have zz0 := cs_ext hE x0; have zz1 := cs_ext hE x1; have zz2 := cs_ext hE y0; have zz3 := cs_ext hE y1; go_simp; first | done | rfl)
                  refine reg_value (fun g => by go_simp) ?_ (fun g w' vs hM hE hP => ?_) ?_
                  rotate_left
                  · (clear hP hM; have zz0 := cs_ext hE x0; have zz1 := cs_ext hE x1; have zz2 := cs_ext hE y0; have zz3 := cs_ext hE y1; go_simp; first | done | rfl)
                  refine reg_value (fun g => by go_simp) ?_ (fun g w' vs hM hE hP => ?_) ?_
                  rotate_left
                  · (clear hP hM; have zz0 := cs_ext hE x0; have zz1 := cs_ext hE x1; have zz2 := cs_ext hE y0; have zz3 := cs_ext hE y1; go_simp; first | done | rfl)
                  refine reg_value (fun g => by go_simp) ?_ (fun g w' vs hM hE hP => ?_) ?_
                  rotate_left
                  · (clear hP hM; have zz0 := cs_ext hE x0; have zz1 := cs_ext hE x1; have zz2 := cs_ext hE y0; have zz3 := cs_ext hE y1; go_simp; first | done | rfl)
                  refine reg_const (fun g => by go_simp) 55 ?_ (fun g w' vs hM hE hP => ?_) ?_
                  rotate_left
                  · (clear hP hM; have zz0 := cs_ext hE x0; have zz1 := cs_ext hE x1; have zz2 := cs_ext hE y0; have zz3 := cs_ext hE y1; go_simp; first | done | exact ⟨rfl, rfl⟩ | rfl)
                  apply Exists.intro
                  refine And.intro (fun g w' vs hM hE hP => ?_) ?_
                  · exact HCL.out _
                  refine reg_value (fun g => by go_simp) ?_ (fun g w' vs hM hE hP => ?_) ?_
                  rotate_left
                  · (clear hP hM; have zz0 := cs_ext hE x0; have zz1 := cs_ext hE x1; have zz2 := cs_ext hE y0; have zz3 := cs_ext hE y1; go_simp; first | done | rfl)
                  refine reg_value (fun _ => rfl) ?_ (fun g w' vs hM hE hP => ?_) ?_
                  rotate_left
                  · (clear hP hM; have zz0 := cs_ext hE x0; have zz1 := cs_ext hE x1; have zz2 := cs_ext hE y0; have zz3 := cs_ext hE y1; go_simp; first | done | rfl)
                  refine reg_value (fun _ => rfl) ?_ (fun g w' vs hM hE hP => ?_) ?_
                  rotate_left
                  · (clear hP hM; have zz0 := cs_ext hE x0; have zz1 := cs_ext hE x1; have zz2 := cs_ext hE y0; have zz3 := cs_ext hE y1; go_simp; first | done | rfl)
                  refine reg_value (fun g => by go_simp) ?_ (fun g w' vs hM hE hP => ?_) ?_
                  rotate_left
                  · (clear hP hM; have zz0 := cs_ext hE x0; have zz1 := cs_ext hE x1; have zz2 := cs_ext hE y0; have zz3 := cs_ext hE y1; go_simp; first | done | rfl)
                  refine reg_value (fun g => by go_simp) ?_ (fun g w' vs hM hE hP => ?_) ?_
                  rotate_left
                  · (clear hP hM; have zz0 := cs_ext hE x0; have zz1 := cs_ext hE x1; have zz2 := cs_ext hE y0; have zz3 := cs_ext hE y1; go_simp; first | done | rfl)
                  refine reg_value (fun g => by go_simp) ?_ (fun g w' vs hM hE hP => ?_) ?_
                  rotate_left
                  · (clear hP hM; have zz0 := cs_ext hE x0; have zz1 := cs_ext hE x1; have zz2 := cs_ext hE y0; have zz3 := cs_ext hE y1; go_simp; first | done | rfl)
                  refine reg_value (fun g => by go_simp) ?_ (fun g w' vs hM hE hP => ?_) ?_
                  rotate_left
                  · (clear hP hM; have zz0 := cs_ext hE x0; have zz1 := cs_ext hE x1; have zz2 := cs_ext hE y0; have zz3 := cs_ext hE y1; go_simp; first | done | rfl)
                  refine reg_value (fun g => by go_simp) ?_ (fun g w' vs hM hE hP => ?_) ?_
                  rotate_left
                  · (clear hP hM; have zz0 := cs_ext hE x0; have zz1 := cs_ext hE x1; have zz2 := cs_ext hE y0; have zz3 := cs_ext hE y1; go_simp; first | done | rfl)
                  refine reg_value (fun g => by go_simp) ?_ (fun g w' vs hM hE hP => ?_) ?_
                  rotate_left
                  · (clear hP hM; have zz0 := cs_ext hE x0; have zz1 := cs_ext hE x1; have zz2 := cs_ext hE y0; have zz3 := cs_ext hE y1; go_simp; first | done | rfl)
                  refine reg_value (fun g => by go_simp) ?_ (fun g w' vs hM hE hP => ?_) ?_
                  rotate_left
                  · (clear hP hM; have zz0 := cs_ext hE x0; have zz1 := cs_ext hE x1; have zz2 := cs_ext hE y0; have zz3 := cs_ext hE y1; go_simp; first | done | rfl)
                  refine reg_const (fun g => by go_simp) 39 ?_ (fun g w' vs hM hE hP => ?_) ?_
                  rotate_left
                  · (clear hP hM; have zz0 := cs_ext hE x0; have zz1 := cs_ext hE x1; have zz2 := cs_ext hE y0; have zz3 := cs_ext hE y1; go_simp; first | done | exact ⟨rfl, rfl⟩ | rfl)
                  apply Exists.intro
                  refine And.intro (fun g w' vs hM hE hP => ?_) ?_
                  · exact HC1.out _ hE
                  refine reg_value (fun g => by go_simp) ?_ (fun g w' vs hM hE hP => ?_) ?_
                  rotate_left
                  · (clear hP hM; have zz0 := cs_ext hE x0; have zz1 := cs_ext hE x1; have zz2 := cs_ext hE y0; have zz3 := cs_ext hE y1; go_simp; first | done | rfl)
                  refine reg_value (fun g => by go_simp) ?_ (fun g w' vs hM hE hP => ?_) ?_
                  rotate_left
                  · (clear hP hM; have zz0 := cs_ext hE x0; have zz1 := cs_ext hE x1; have zz2 := cs_ext hE y0; have zz3 := cs_ext hE y1; go_simp; first | done | rfl)
                  refine reg_value (fun g => by go_simp) ?_ (fun g w' vs hM hE hP => ?_) ?_
                  rotate_left
                  · (clear hP hM; have zz0 := cs_ext hE x0; have zz1 := cs_ext hE x1; have zz2 := cs_ext hE y0; have zz3 := cs_ext hE y1; go_simp; first | done | rfl)
                  refine reg_value (fun g => by go_simp) ?_ (fun g w' vs hM hE hP => ?_) ?_
                  rotate_left
                  · (clear hP hM; have zz0 := cs_ext hE x0; have zz1 := cs_ext hE x1; have zz2 := cs_ext hE y0; have zz3 := cs_ext hE y1; go_simp; first | done | rfl)
                  refine reg_value (fun g => by go_simp) ?_ (fun g w' vs hM hE hP => ?_) ?_
                  rotate_left
                  · (clear hP hM; have zz0 := cs_ext hE x0; have zz1 := cs_ext hE x1; have zz2 := cs_ext hE y0; have zz3 := cs_ext hE y1; go_simp; first | done | rfl)
                  refine reg_value (fun g => by go_simp) ?_ (fun g w' vs hM hE hP => ?_) ?_
                  rotate_left
                  · (clear hP hM; have zz0 := cs_ext hE x0; have zz1 := cs_ext hE x1; have zz2 := cs_ext hE y0; have zz3 := cs_ext hE y1; go_simp; first | done | rfl)
                  refine reg_value (fun g => by go_simp) ?_ (fun g w' vs hM hE hP => ?_) ?_
                  rotate_left
                  · (clear hP hM; have zz0 := cs_ext hE x0; have zz1 := cs_ext hE x1; have zz2 := cs_ext hE y0; have zz3 := cs_ext hE y1; go_simp; first | done | rfl)
                  refine reg_value (fun g => by go_simp) ?_ (fun g w' vs hM hE hP => ?_) ?_
                  rotate_left
                  · (clear hP hM; have zz0 := cs_ext hE x0; have zz1 := cs_ext hE x1; have zz2 := cs_ext hE y0; have zz3 := cs_ext hE y1; go_simp; first | done | rfl)
                  refine reg_const (fun g => by go_simp) 39 ?_ (fun g w' vs hM hE hP => ?_) ?_
                  rotate_left
                  · (clear hP hM; have zz0 := cs_ext hE x0; have zz1 := cs_ext hE x1; have zz2 := cs_ext hE y0; have zz3 := cs_ext hE y1; go_simp; first | done | exact ⟨rfl, rfl⟩ | rfl)
                  apply Exists.intro
                  refine And.intro (fun g w' vs hM hE hP => ?_) ?_
                  · exact HC2.out _ hE
                  refine reg_value (fun g => by go_simp) ?_ (fun g w' vs hM hE hP => ?_) ?_
                  rotate_left
                  · (clear hP hM; have zz0 := cs_ext hE x0; have zz1 := cs_ext hE x1; have zz2 := cs_ext hE y0; have zz3 := cs_ext hE y1; go_simp; first | done | rfl)
                  refine reg_value (fun _ => rfl) ?_ (fun g w' vs hM hE hP => ?_) ?_
                  rotate_left
                  · (clear hP hM; have zz0 := cs_ext hE x0; have zz1 := cs_ext hE x1; have zz2 := cs_ext hE y0; have zz3 := cs_ext hE y1; go_simp; first | done | rfl)
                  intro g wz hE2 hF hQ
                  simp only [List.drop_succ_cons, List.drop_zero, Act.put, List.setIfInBounds_toArray, List.set_cons_succ, List.set_cons_zero]
                  clear y0 y1
                  have HE2 := Lib.hid hE2
                  obtain ⟨w4, hup, hM4⟩ := (HM.out.next HE2.out).put nk
                  rw [show encP nk = .agg #[.int .i64 x.1, .int .i64 x.2] by simp [encP, HNK.out]] at hup
                  have x0 := cs_ext HE2.out x0
                  have x1 := cs_ext HE2.out x1
                  have HM4 : Hid (MGen w1 w4 mb (L.take (k + 1))) := Lib.hid (by rw [take_snoc' HX.out, ← HNK.out]; exact hM4)
                  have HN : Hid (bothS fm.fields gm.fields x = false) := Lib.hid (by rw [HBO.out]; rfl)
                  clear hM4 hF hQ hE2
                  go_wp2_with fail
                  go_roundw
                  case rel => exact ⟨k + 1, by go_num, by omega, HM4.out, HB1.out.trans HM4.out.ext, HAL1.out.ext HM4.out.ext, fun q y h hy => by
                    rcases Nat.lt_or_ge q k with h' | h'
                    · exact HACC.out q y h' hy
                    · have : q = k := by omega
                      subst this
                      rw [HX.out] at hy; cases hy; exact HN.out, fun q y z h hy hz => by
                    rcases Nat.lt_or_ge (q + 1) k with h' | h'
                    · exact HADJ.out q y z h' hy hz
                    · exact HLT.out q y z (by omega) hy hz⟩
                  case measure => simp [intOf]; omega
                · have HNOT := Lib.hid (HNOTB.out rfl rfl)
                  go_wp2_with fail
                  refine wp_region_reg 35 false (by kernel_rfl) (by kernel_rfl) ?_
                  refine reg_value (fun _ => rfl) ?_ (fun g w' vs hM hE hP => ?_) ?_
                  rotate_left
                  · (clear hP hM; have zz0 := cs_ext hE x0; have zz1 := cs_ext hE x1; have zz2 := cs_ext hE y0; have zz3 := cs_ext hE y1; go_simp; first | done | rfl)
                  refine reg_value (fun _ => rfl) ?_ (fun g w' vs hM hE hP => ?_) ?_
                  rotate_left
                  · (clear hP hM; have zz0 := cs_ext hE x0; have zz1 := cs_ext hE x1; have zz2 := cs_ext hE y0; have zz3 := cs_ext hE y1; go_simp; first | done | rfl)
                  refine reg_value (fun _ => rfl) ?_ (fun g w' vs hM hE hP => ?_) ?_
                  rotate_left
                  · (clear hP hM; have zz0 := cs_ext hE x0; have zz1 := cs_ext hE x1; have zz2 := cs_ext hE y0; have zz3 := cs_ext hE y1; go_simp; first | done | rfl)
                  refine reg_value (fun g => by go_simp) ?_ (fun g w' vs hM hE hP => ?_) ?_
                  rotate_left
                  · (clear hP hM; have zz0 := cs_ext hE x0; have zz1 := cs_ext hE x1; have zz2 := cs_ext hE y0; have zz3 := cs_ext hE y1; go_simp; first | done | rfl)
                  refine reg_value (fun g => by go_simp) ?_ (fun g w' vs hM hE hP => ?_) ?_
                  rotate_left
                  · (clear hP hM; have zz0 := cs_ext hE x0; have zz1 := cs_ext hE x1; have zz2 := cs_ext hE y0; have zz3 := cs_ext hE y1; go_simp; first | done | rfl)
                  refine reg_value (fun g => by go_simp) ?_ (fun g w' vs hM hE hP => ?_) ?_
                  rotate_left
                  · (clear hP hM; have zz0 := cs_ext hE x0; have zz1 := cs_ext hE x1; have zz2 := cs_ext hE y0; have zz3 := cs_ext hE y1; go_simp; first | done | rfl)
                  refine reg_value (fun g => by go_simp) ?_ (fun g w' vs hM hE hP => ?_) ?_
                  rotate_left
                  · (clear hP hM; have zz0 := cs_ext hE x0; have zz1 := cs_ext hE x1; have zz2 := cs_ext hE y0; have zz3 := cs_ext hE y1; go_simp; first | done | rfl)
                  refine reg_value (fun g => by go_simp) ?_ (fun g w' vs hM hE hP => ?_) ?_
                  rotate_left
                  · (clear hP hM; have zz0 := cs_ext hE x0; have zz1 := cs_ext hE x1; have zz2 := cs_ext hE y0; have zz3 := cs_ext hE y1; go_simp; first | done | rfl)
                  refine reg_value (fun g => by go_simp) ?_ (fun g w' vs hM hE hP => ?_) ?_
                  rotate_left
                  · (clear hP hM; have zz0 := cs_ext hE x0; have zz1 := cs_ext hE x1; have zz2 := cs_ext hE y0; have zz3 := cs_ext hE y1; go_simp; first | done | rfl)
                  refine reg_value (fun g => by go_simp) ?_ (fun g w' vs hM hE hP => ?_) ?_
                  rotate_left
                  · (clear hP hM; have zz0 := cs_ext hE x0; have zz1 := cs_ext hE x1; have zz2 := cs_ext hE y0; have zz3 := cs_ext hE y1; go_simp; first | done | rfl)
                  refine reg_value (fun g => by go_simp) ?_ (fun g w' vs hM hE hP => ?_) ?_
                  rotate_left
                  · (clear hP hM; have zz0 := cs_ext hE x0; have zz1 := cs_ext hE x1; have zz2 := cs_ext hE y0; have zz3 := cs_ext hE y1; go_simp; first | done | rfl)
                  refine reg_value (fun g => by go_simp) ?_ (fun g w' vs hM hE hP => ?_) ?_
                  rotate_left
                  · (clear hP hM; have zz0 := cs_ext hE x0; have zz1 := cs_ext hE x1; have zz2 := cs_ext hE y0; have zz3 := cs_ext hE y1; go_simp; first | done | rfl)
                  refine reg_const (fun g => by go_simp) 55 ?_ (fun g w' vs hM hE hP => ?_) ?_
                  rotate_left
                  · (clear hP hM; have zz0 := cs_ext hE x0; have zz1 := cs_ext hE x1; have zz2 := cs_ext hE y0; have zz3 := cs_ext hE y1; go_simp; first | done | exact ⟨rfl, rfl⟩ | rfl)
                  apply Exists.intro
                  refine And.intro (fun g w' vs hM hE hP => ?_) ?_
                  · exact HCL.out _
                  refine reg_value (fun g => by go_simp) ?_ (fun g w' vs hM hE hP => ?_) ?_
                  rotate_left
                  · (clear hP hM; have zz0 := cs_ext hE x0; have zz1 := cs_ext hE x1; have zz2 := cs_ext hE y0; have zz3 := cs_ext hE y1; go_simp; first | done | rfl)
                  refine reg_value (fun _ => rfl) ?_ (fun g w' vs hM hE hP => ?_) ?_
                  rotate_left
                  · (clear hP hM; have zz0 := cs_ext hE x0; have zz1 := cs_ext hE x1; have zz2 := cs_ext hE y0; have zz3 := cs_ext hE y1; go_simp; first | done | rfl)
                  refine reg_value (fun _ => rfl) ?_ (fun g w' vs hM hE hP => ?_) ?_
                  rotate_left
                  · (clear hP hM; have zz0 := cs_ext hE x0; have zz1 := cs_ext hE x1; have zz2 := cs_ext hE y0; have zz3 := cs_ext hE y1; go_simp; first | done | rfl)
                  refine reg_value (fun g => by go_simp) ?_ (fun g w' vs hM hE hP => ?_) ?_
                  rotate_left
                  · (clear hP hM; have zz0 := cs_ext hE x0; have zz1 := cs_ext hE x1; have zz2 := cs_ext hE y0; have zz3 := cs_ext hE y1; go_simp; first | done | rfl)
                  refine reg_value (fun g => by go_simp) ?_ (fun g w' vs hM hE hP => ?_) ?_
                  rotate_left
                  · (clear hP hM; have zz0 := cs_ext hE x0; have zz1 := cs_ext hE x1; have zz2 := cs_ext hE y0; have zz3 := cs_ext hE y1; go_simp; first | done | rfl)
                  refine reg_value (fun g => by go_simp) ?_ (fun g w' vs hM hE hP => ?_) ?_
                  rotate_left
                  · (clear hP hM; have zz0 := cs_ext hE x0; have zz1 := cs_ext hE x1; have zz2 := cs_ext hE y0; have zz3 := cs_ext hE y1; go_simp; first | done | rfl)
                  refine reg_value (fun g => by go_simp) ?_ (fun g w' vs hM hE hP => ?_) ?_
                  rotate_left
                  · (clear hP hM; have zz0 := cs_ext hE x0; have zz1 := cs_ext hE x1; have zz2 := cs_ext hE y0; have zz3 := cs_ext hE y1; go_simp; first | done | rfl)
                  refine reg_value (fun g => by go_simp) ?_ (fun g w' vs hM hE hP => ?_) ?_
                  rotate_left
                  · (clear hP hM; have zz0 := cs_ext hE x0; have zz1 := cs_ext hE x1; have zz2 := cs_ext hE y0; have zz3 := cs_ext hE y1; go_simp; first | done | rfl)
                  refine reg_value (fun g => by go_simp) ?_ (fun g w' vs hM hE hP => ?_) ?_
                  rotate_left
                  · (clear hP hM; have zz0 := cs_ext hE x0; have zz1 := cs_ext hE x1; have zz2 := cs_ext hE y0; have zz3 := cs_ext hE y1; go_simp; first | done | rfl)
                  refine reg_value (fun g => by go_simp) ?_ (fun g w' vs hM hE hP => ?_) ?_
                  rotate_left
                  · (clear hP hM; have zz0 := cs_ext hE x0; have zz1 := cs_ext hE x1; have zz2 := cs_ext hE y0; have zz3 := cs_ext hE y1; go_simp; first | done | rfl)
                  refine reg_const (fun g => by go_simp) 39 ?_ (fun g w' vs hM hE hP => ?_) ?_
                  rotate_left
                  · (clear hP hM; have zz0 := cs_ext hE x0; have zz1 := cs_ext hE x1; have zz2 := cs_ext hE y0; have zz3 := cs_ext hE y1; go_simp; first | done | exact ⟨rfl, rfl⟩ | rfl)
                  apply Exists.intro
                  refine And.intro (fun g w' vs hM hE hP => ?_) ?_
                  · exact HC1.out _ hE
                  refine reg_value (fun g => by go_simp) ?_ (fun g w' vs hM hE hP => ?_) ?_
                  rotate_left
                  · (clear hP hM; have zz0 := cs_ext hE x0; have zz1 := cs_ext hE x1; have zz2 := cs_ext hE y0; have zz3 := cs_ext hE y1; go_simp; first | done | rfl)
                  refine reg_value (fun g => by go_simp) ?_ (fun g w' vs hM hE hP => ?_) ?_
                  rotate_left
                  · (clear hP hM; have zz0 := cs_ext hE x0; have zz1 := cs_ext hE x1; have zz2 := cs_ext hE y0; have zz3 := cs_ext hE y1; go_simp; first | done | rfl)
                  refine reg_value (fun g => by go_simp) ?_ (fun g w' vs hM hE hP => ?_) ?_
                  rotate_left
                  · (clear hP hM; have zz0 := cs_ext hE x0; have zz1 := cs_ext hE x1; have zz2 := cs_ext hE y0; have zz3 := cs_ext hE y1; go_simp; first | done | rfl)
                  refine reg_value (fun g => by go_simp) ?_ (fun g w' vs hM hE hP => ?_) ?_
                  rotate_left
                  · (clear hP hM; have zz0 := cs_ext hE x0; have zz1 := cs_ext hE x1; have zz2 := cs_ext hE y0; have zz3 := cs_ext hE y1; go_simp; first | done | rfl)
                  refine reg_value (fun g => by go_simp) ?_ (fun g w' vs hM hE hP => ?_) ?_
                  rotate_left
                  · (clear hP hM; have zz0 := cs_ext hE x0; have zz1 := cs_ext hE x1; have zz2 := cs_ext hE y0; have zz3 := cs_ext hE y1; go_simp; first | done | rfl)
                  refine reg_value (fun g => by go_simp) ?_ (fun g w' vs hM hE hP => ?_) ?_
                  rotate_left
                  · (clear hP hM; have zz0 := cs_ext hE x0; have zz1 := cs_ext hE x1; have zz2 := cs_ext hE y0; have zz3 := cs_ext hE y1; go_simp; first | done | rfl)
                  refine reg_value (fun g => by go_simp) ?_ (fun g w' vs hM hE hP => ?_) ?_
                  rotate_left
                  · (clear hP hM; have zz0 := cs_ext hE x0; have zz1 := cs_ext hE x1; have zz2 := cs_ext hE y0; have zz3 := cs_ext hE y1; go_simp; first | done | rfl)
                  refine reg_value (fun g => by go_simp) ?_ (fun g w' vs hM hE hP => ?_) ?_
                  rotate_left
                  · (clear hP hM; have zz0 := cs_ext hE x0; have zz1 := cs_ext hE x1; have zz2 := cs_ext hE y0; have zz3 := cs_ext hE y1; go_simp; first | done | rfl)
                  refine reg_const (fun g => by go_simp) 39 ?_ (fun g w' vs hM hE hP => ?_) ?_
                  rotate_left
                  · (clear hP hM; have zz0 := cs_ext hE x0; have zz1 := cs_ext hE x1; have zz2 := cs_ext hE y0; have zz3 := cs_ext hE y1; go_simp; first | done | exact ⟨rfl, rfl⟩ | rfl)
                  apply Exists.intro
                  refine And.intro (fun g w' vs hM hE hP => ?_) ?_
                  · exact HC2.out _ hE
                  refine reg_value (fun g => by go_simp) ?_ (fun g w' vs hM hE hP => ?_) ?_
                  rotate_left
                  · (clear hP hM; have zz0 := cs_ext hE x0; have zz1 := cs_ext hE x1; have zz2 := cs_ext hE y0; have zz3 := cs_ext hE y1; go_simp; first | done | rfl)
                  refine reg_value (fun _ => rfl) ?_ (fun g w' vs hM hE hP => ?_) ?_
                  rotate_left
                  · (clear hP hM; have zz0 := cs_ext hE x0; have zz1 := cs_ext hE x1; have zz2 := cs_ext hE y0; have zz3 := cs_ext hE y1; go_simp; first | done | rfl)
                  intro g wz hE2 hF hQ
                  simp only [List.drop_succ_cons, List.drop_zero, Act.put, List.setIfInBounds_toArray, List.set_cons_succ, List.set_cons_zero]
                  clear y0 y1
                  have HE2 := Lib.hid (HE.out.trans hE2)
                  clear hF hQ hE2 x0 x1
                  go_wp2_with fail
                  go_ret
                  exact RetB.no (HE2.out) HNOT.out
        · have e2 : decide ((k : Int) < (L.length : Int)) = false := decide_eq_false (by omega)
          have hkl : k = L.length := by omega
          have HM2 : Hid (MGen w1 wr mb L) := Lib.hid (by have := HM.out; rwa [hkl, List.take_length] at this)
          have HSO : Hid (L.Pairwise ltP) := Lib.hid (sorted_adj' fun q x y h1 h2 => HADJ.out q x y (by have := (List.getElem?_eq_some_iff.1 h2).1; omega) h1 h2)
          have HNB : Hid (∀ x ∈ L, bothS fm.fields gm.fields x = false) := Lib.hid (fun x hx => by
            obtain ⟨q, hq⟩ := List.mem_iff_getElem?.1 hx
            exact HACC.out q x (by have := (List.getElem?_eq_some_iff.1 hq).1; omega) hq)
          have hlk := HM2.out.look ⟨(0, 0), by unfold I64; omega, by unfold I64; omega⟩
          simp only [encP] at hlk
          obtain ⟨z0, hz0⟩ : ∃ z0, z0 = decide (((0 : Int), (0 : Int)) ∈ L) := ⟨_, rfl⟩
          rw [← hz0] at hlk
          have HZ0 := Lib.hid hz0
          clear hz0 hkl
          cases z0
          · have HNOT : Hid (¬ CheckP t i' j' L) := Lib.hid (fun h => by have := HZ0.out; simp at this; exact this h.2.2.2.1)
            go_wp2_with fail
            go_ret
            exact RetB.no (HE.out) HNOT.out
          · have HIN : Hid (((0 : Int), (0 : Int)) ∈ L) := Lib.hid (by have := HZ0.out; simpa using this)
            go_wp2_with fail
            clear hlk
            obtain ⟨wo, hwo⟩ : ∃ wo : World, wo = wr := ⟨_, rfl⟩
            subst hwo
            go_loopw [11] (fun kv wr => ∃ k2 : Nat, kv = .int .i64 k2 ∧ k2 ≤ L.length ∧ Ext wo wr ∧ (∀ (q : Nat) x, q < k2 → L[q]? = some x → ∀ c < 256, ∀ n, stP t fm.fields gm.fields x c = some n → n ∈ L)) (fun kv _ => L.length - (intOf kv).toNat)
            case atStart => exact ⟨0, rfl, by omega, Ext.refl _, fun q x h => by omega⟩
            case round =>
              obtain ⟨k2, rfl, hk2, hE2, hcl⟩ := hrel
              have HE2 := Lib.hid hE2
              have HCL := Lib.hid hcl
              clear hE2 hcl
              by_cases hlt2 : k2 < L.length
              · have e3 : decide ((k2 : Int) < (L.length : Int)) = true := decide_eq_true (by omega)
                obtain ⟨x, hx⟩ : ∃ x, L[k2]? = some x := ⟨_, List.getElem?_eq_getElem hlt2⟩
                obtain ⟨hx1, hx2⟩ := HII.out x (List.mem_of_getElem? hx)
                unfold I64 at hx1 hx2
                obtain ⟨lbk, off, rfl, x0, x1⟩ := HP.out k2 x hx
                have X0 := Lib.hid x0
                have X1 := Lib.hid x1
                have HX := Lib.hid hx
                clear hx x0 x1
                obtain ⟨wi, hwi⟩ : ∃ wi : World, wi = wr := ⟨_, rfl⟩
                subst hwi
                go_wp2_with fail
                go_loopw [12] (fun cv wr => ∃ c : Nat, cv = .int .i64 c ∧ c ≤ 256 ∧ Ext wo wr ∧ (∀ c' < c, ∀ n, stP t fm.fields gm.fields x c' = some n → n ∈ L)) (fun cv _ => 256 - (intOf cv).toNat)
                case atStart => exact ⟨0, rfl, by omega, HE2.out, fun c' h => by omega⟩
                case round =>
                  obtain ⟨c, rfl, hc, hE3, hcc⟩ := hrel
                  have HE3 := Lib.hid hE3
                  have HCC := Lib.hid hcc
                  clear hE3 hcc
                  by_cases hc2 : c < 256
                  · have e4 : decide ((c : Int) < 256) = true := decide_eq_true (by omega)
                    obtain ⟨n1, hn1⟩ : ∃ n1, n1 = rStep t fm.fields x.1 c := ⟨_, rfl⟩
                    obtain ⟨n2, hn2⟩ : ∃ n2, n2 = rStep t gm.fields x.2 c := ⟨_, rfl⟩
                    have hcon1 := fun (w' : World) (h : Ext wr w') => HS1.out w' (HE.out.trans (HE3.out.trans h)) x.1 c hx1.2 (by omega)
                    have hcon2 := fun (w' : World) (h : Ext wr w') => HS2.out w' (HE.out.trans (HE3.out.trans h)) x.2 c hx2.2 (by omega)
                    rw [← hn1] at hcon1
                    rw [← hn2] at hcon2
                    have HN1 := Lib.hid hn1
                    have HN2 := Lib.hid hn2
                    have HCON1 := Lib.hid hcon1
                    have HCON2 := Lib.hid hcon2
                    have hwc : IntKind.u8.wrap (c : Int) = (c : Int) := IntWalk.u8_in _ (by omega)
                    have x0 := cs_ext HE3.out X0.out
                    have x1 := cs_ext HE3.out X1.out
                    clear hn1 hn2 hcon1 hcon2
                    go_wp2_with fail
                    refine wp_region_reg 22 false (by kernel_rfl) (by kernel_rfl) ?_
                    refine reg_value (fun _ => rfl) ?_ (fun g w' vs hM hE hP => ?_) ?_
                    rotate_left
                    · (clear hP hM; have zz0 := cs_ext hE x0; have zz1 := cs_ext hE x1; go_simp; first | done | rfl)
                    refine reg_value (fun _ => rfl) ?_ (fun g w' vs hM hE hP => ?_) ?_
                    rotate_left
                    · (clear hP hM; have zz0 := cs_ext hE x0; have zz1 := cs_ext hE x1; go_simp; first | done | rfl)
                    refine reg_value (fun _ => rfl) ?_ (fun g w' vs hM hE hP => ?_) ?_
                    rotate_left
                    · (clear hP hM; have zz0 := cs_ext hE x0; have zz1 := cs_ext hE x1; go_simp; first | done | rfl)
                    refine reg_value (fun _ => rfl) ?_ (fun g w' vs hM hE hP => ?_) ?_
                    rotate_left
                    · (clear hP hM; have zz0 := cs_ext hE x0; have zz1 := cs_ext hE x1; go_simp; first | done | rfl)
                    refine reg_value (fun _ => rfl) ?_ (fun g w' vs hM hE hP => ?_) ?_
                    rotate_left
                    · (clear hP hM; have zz0 := cs_ext hE x0; have zz1 := cs_ext hE x1; go_simp; first | done | rfl)
                    refine reg_value (fun _ => rfl) ?_ (fun g w' vs hM hE hP => ?_) ?_
                    rotate_left
                    · (clear hP hM; have zz0 := cs_ext hE x0; have zz1 := cs_ext hE x1; go_simp; first | done | rfl)
                    refine reg_value (fun _ => rfl) ?_ (fun g w' vs hM hE hP => ?_) ?_
                    rotate_left
                    · (clear hP hM; have zz0 := cs_ext hE x0; have zz1 := cs_ext hE x1; go_simp; first | done | rfl)
                    refine reg_value (fun _ => rfl) ?_ (fun g w' vs hM hE hP => ?_) ?_
                    rotate_left
                    · (clear hP hM; have zz0 := cs_ext hE x0; have zz1 := cs_ext hE x1; go_simp; first | done | rfl)
                    refine reg_value (fun _ => rfl) ?_ (fun g w' vs hM hE hP => ?_) ?_
                    rotate_left
                    · (clear hP hM; have zz0 := cs_ext hE x0; have zz1 := cs_ext hE x1; go_simp; first | done | rfl)
                    refine reg_const (fun _ => rfl) 35 ?_ (fun g w' vs hM hE hP => ?_) ?_
                    rotate_left
                    · (clear hP hM; have zz0 := cs_ext hE x0; have zz1 := cs_ext hE x1; go_simp; first | done | exact ⟨rfl, rfl⟩ | rfl)
                    apply Exists.intro
                    refine And.intro (fun g w' vs hM hE hP => ?_) ?_
                    · exact HCON1.out _ hE
                    refine reg_value (fun _ => rfl) ?_ (fun g w' vs hM hE hP => ?_) ?_
                    rotate_left
                    · (clear hP hM; have zz0 := cs_ext hE x0; have zz1 := cs_ext hE x1; go_simp; first | done | rfl)
                    refine reg_value (fun _ => rfl) ?_ (fun g w' vs hM hE hP => ?_) ?_
                    rotate_left
                    · (clear hP hM; have zz0 := cs_ext hE x0; have zz1 := cs_ext hE x1; go_simp; first | done | rfl)
                    refine reg_value (fun _ => rfl) ?_ (fun g w' vs hM hE hP => ?_) ?_
                    rotate_left
                    · (clear hP hM; have zz0 := cs_ext hE x0; have zz1 := cs_ext hE x1; go_simp; first | done | rfl)
                    refine reg_value (fun _ => rfl) ?_ (fun g w' vs hM hE hP => ?_) ?_
                    rotate_left
                    · (clear hP hM; have zz0 := cs_ext hE x0; have zz1 := cs_ext hE x1; go_simp; first | done | rfl)
                    refine reg_value (fun _ => rfl) ?_ (fun g w' vs hM hE hP => ?_) ?_
                    rotate_left
                    · (clear hP hM; have zz0 := cs_ext hE x0; have zz1 := cs_ext hE x1; go_simp; first | done | rfl)
                    refine reg_value (fun _ => rfl) ?_ (fun g w' vs hM hE hP => ?_) ?_
                    rotate_left
                    · (clear hP hM; have zz0 := cs_ext hE x0; have zz1 := cs_ext hE x1; go_simp; first | done | rfl)
                    refine reg_value (fun _ => rfl) ?_ (fun g w' vs hM hE hP => ?_) ?_
                    rotate_left
                    · (clear hP hM; have zz0 := cs_ext hE x0; have zz1 := cs_ext hE x1; go_simp; first | done | rfl)
                    refine reg_value (fun _ => rfl) ?_ (fun g w' vs hM hE hP => ?_) ?_
                    rotate_left
                    · (clear hP hM; have zz0 := cs_ext hE x0; have zz1 := cs_ext hE x1; go_simp; first | done | rfl)
                    refine reg_value (fun _ => rfl) ?_ (fun g w' vs hM hE hP => ?_) ?_
                    rotate_left
                    · (clear hP hM; have zz0 := cs_ext hE x0; have zz1 := cs_ext hE x1; go_simp; first | done | rfl)
                    refine reg_const (fun _ => rfl) 35 ?_ (fun g w' vs hM hE hP => ?_) ?_
                    rotate_left
                    · (clear hP hM; have zz0 := cs_ext hE x0; have zz1 := cs_ext hE x1; go_simp; first | done | exact ⟨rfl, rfl⟩ | rfl)
                    apply Exists.intro
                    refine And.intro (fun g w' vs hM hE hP => ?_) ?_
                    · exact HCON2.out _ hE
                    refine reg_value (fun _ => rfl) ?_ (fun g w' vs hM hE hP => ?_) ?_
                    rotate_left
                    · (clear hP hM; have zz0 := cs_ext hE x0; have zz1 := cs_ext hE x1; go_simp; first | done | rfl)
                    refine reg_fresh (fun _ => rfl) (fun n => .pointer (some ⟨n, 0, none⟩)) ?_ (fun g w' vs hM hE hP => ?_) ?_
                    rotate_left
                    · (clear hP hM; have zz0 := cs_ext hE x0; have zz1 := cs_ext hE x1; go_simp; first | done | rfl | exact ⟨rfl, rfl⟩)
                    intro g wz hE hF hQ
                    simp only [List.drop_succ_cons, List.drop_zero, Act.put, List.setIfInBounds_toArray, List.set_cons_succ, List.set_cons_zero]
                    obtain ⟨-, hF, -⟩ := hF
                    obtain ⟨hg, hge⟩ := hF _ List.mem_cons_self
                    simp at hg hge
                    clear hF hQ x0 x1
                    refine wpList_store_all rfl 53 (.tmp 13) (.tmp 106) rfl (g 21).n _ rfl rfl 53 _ hg (by kernel_rfl) rfl (by simp [Value.oneCell']) ?_
                    obtain ⟨nb, hnb⟩ : ∃ nb, nb = (g 21).n := ⟨_, rfl⟩
                    obtain ⟨w3, hw3⟩ : ∃ w3, w3 = wz.setRow nb #[.int .i64 n1, .int .i64 n2] := ⟨_, rfl⟩
                    rw [← hnb] at hg hge ⊢
                    rw [← hw3]
                    have hE3 : Ext wr w3 := by rw [hw3]; exact hE.setRow hge _
                    have hnbc : w3.heap[nb]? = some (.cells #[.int .i64 n1, .int .i64 n2] 53) := by rw [hw3]; exact setRow_heap _ _ _ _ _ _ hg
                    clear hw3 hg hE hnb
                    have m0 : w3.cell? ⟨nb, 0, none⟩ = some (.int .i64 n1) := by rw [cellc hnbc]; rfl
                    have m1 : w3.cell? ⟨nb, 1, none⟩ = some (.int .i64 n2) := by rw [cellc hnbc]; rfl
                    have HE4 := Lib.hid (HE3.out.trans hE3)
                    clear hnbc hE3
                    by_cases h1 : n1 < 0
                    · have HOK : Hid (∀ n, stP t fm.fields gm.fields x c = some n → n ∈ L) := Lib.hid (fun n hn => by rw [stP, ← HN1.out, ← HN2.out, if_pos (.inl h1)] at hn; cases hn)
                      have e3 : decide (0 ≤ n1) = false := decide_eq_false (by omega)
                      go_wp2_with fail
                      go_roundw
                      case rel => exact ⟨c + 1, by go_num, by omega, HE4.out, fun c' h n hn => by
                        rcases Nat.lt_or_ge c' c with h' | h'
                        · exact HCC.out c' h' n hn
                        · have : c' = c := by omega
                          subst this
                          exact HOK.out n hn⟩
                      case measure => simp [intOf]; omega
                    have e3 : decide (0 ≤ n1) = true := decide_eq_true (by omega)
                    by_cases h2 : n2 < 0
                    · have HOK : Hid (∀ n, stP t fm.fields gm.fields x c = some n → n ∈ L) := Lib.hid (fun n hn => by rw [stP, ← HN1.out, ← HN2.out, if_pos (.inr h2)] at hn; cases hn)
                      have e4 : decide (0 ≤ n2) = false := decide_eq_false (by omega)
                      go_wp2_with fail
                      go_roundw
                      case rel => exact ⟨c + 1, by go_num, by omega, HE4.out, fun c' h n hn => by
                        rcases Nat.lt_or_ge c' c with h' | h'
                        · exact HCC.out c' h' n hn
                        · have : c' = c := by omega
                          subst this
                          exact HOK.out n hn⟩
                      case measure => simp [intOf]; omega
                    have e4 : decide (0 ≤ n2) = true := decide_eq_true (by omega)
                    have HSTEP : Hid (stP t fm.fields gm.fields x c = some (n1, n2)) := Lib.hid (by rw [stP, ← HN1.out, ← HN2.out, if_neg (by omega)])
                    have hn1l : n1 ≤ 40000000 := by rw [HN1.out]; exact rStep_le hlf (by omega)
                    have hn2l : n2 ≤ 40000000 := by rw [HN2.out]; exact rStep_le hlg (by omega)
                    have hlk := (HM2.out.next HE4.out).look ⟨(n1, n2), ⟨by omega, by omega⟩, by omega, by omega⟩
                    simp only [encP] at hlk
                    obtain ⟨z1, hz1⟩ : ∃ z1, z1 = decide ((n1, n2) ∈ L) := ⟨_, rfl⟩
                    rw [← hz1] at hlk
                    have HZ1 := Lib.hid hz1
                    clear hz1
                    cases z1
                    · have HNOT : Hid (¬ CheckP t i' j' L) := Lib.hid (fun h => by
                        have := HZ1.out
                        simp at this
                        exact this ((HBODY.out h x (List.mem_of_getElem? HX.out)).2 c hc2 _ HSTEP.out))
                      go_wp2_with fail
                      go_ret
                      exact RetB.no (HE.out.trans HE4.out) HNOT.out
                    · have HOK : Hid (∀ n, stP t fm.fields gm.fields x c = some n → n ∈ L) := Lib.hid (fun n hn => by
                        rw [HSTEP.out] at hn
                        cases hn
                        have := HZ1.out
                        simpa using this)
                      go_wp2_with fail
                      go_roundw
                      case rel => exact ⟨c + 1, by go_num, by omega, HE4.out, fun c' h n hn => by
                        rcases Nat.lt_or_ge c' c with h' | h'
                        · exact HCC.out c' h' n hn
                        · have : c' = c := by omega
                          subst this
                          exact HOK.out n hn⟩
                      case measure => simp [intOf]; omega
                  · have hc3 : c = 256 := by omega
                    have e4 : decide ((c : Int) < 256) = false := decide_eq_false (by omega)
                    have HALL : Hid (∀ c < 256, ∀ n, stP t fm.fields gm.fields x c = some n → n ∈ L) := Lib.hid (fun c' h => HCC.out c' (by omega))
                    clear hc3
                    go_wp2_with fail
                    go_roundw
                    case rel => exact ⟨k2 + 1, by go_num, by omega, HE3.out, fun q y h hy => by
                      rcases Nat.lt_or_ge q k2 with h' | h'
                      · exact HCL.out q y h' hy
                      · have : q = k2 := by omega
                        subst this
                        rw [HX.out] at hy; cases hy; exact HALL.out⟩
                    case measure => simp [intOf]; omega
              · have e3 : decide ((k2 : Int) < (L.length : Int)) = false := decide_eq_false (by omega)
                have HYES : Hid (CheckP t i' j' L) := Lib.hid (HMK.out hLs HSO.out HIN.out fun p hp => by
                  obtain ⟨q, hq⟩ := List.mem_iff_getElem?.1 hp
                  exact ⟨HNB.out p hp, HCL.out q p (by have := (List.getElem?_eq_some_iff.1 hq).1; omega) hq⟩)
                go_wp2_with fail
                go_ret
                exact RetB.yes (HE.out.trans HE2.out) HYES.out
  · have e1 : (v0 == 0) = false := beq_eq_false_iff_ne.2 hz
    have HB1 := Lib.hid hb1
    have HNOT : Hid (¬ CheckP t i j L) := Lib.hid (fun h => hz (by rw [HV0.out]; exact h.1))
    clear hb1 hcon
    go_wp2_with fail
    go_ret
    exact RetB.no (HB1.out) HNOT.out

end Go.Proofs.Ythoelnoahfedmaa
