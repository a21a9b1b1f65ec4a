/- All and the reference's All. -/
import Derived.Test.YthoelnoahfedmaaP1
namespace Go.Proofs.Ythoelnoahfedmaa
open Go Go.RowKit
set_option linter.unusedVariables false
set_option linter.unusedSimpArgs false

/-- what is said of a pair of formats: 0 a common string, 15 none, 3 too large -/
def Oc (t : List Fmt) (i j : Nat) (v : Int) : Prop := ∃ fm gm, t[i]? = some fm ∧ t[j]? = some gm ∧ VFmt t fm ∧ VFmt t gm ∧
  ((Over (stP t fm.fields gm.fields) (0, 0) ∧ v = 3) ∨ ∃ L, Full (stP t fm.fields gm.fields) (0, 0) L ∧ L.length ≤ 20000 ∧ (((∃ p ∈ L, bothS fm.fields gm.fields p = true) ∧ v = 0) ∨ ((∀ p ∈ L, bothS fm.fields gm.fields p = false) ∧ v = 15)))

theorem Oc.unique {t : List Fmt} {i j : Nat} {v v' : Int} (h : Oc t i j v) (h' : Oc t i j v') : v = v' := by
  obtain ⟨fm, gm, h1, h2, -, -, h⟩ := h
  obtain ⟨fm', gm', h1', h2', -, -, h'⟩ := h'
  rw [h1] at h1'
  rw [h2] at h2'
  cases h1'
  cases h2'
  rcases h with ⟨hO, rfl⟩ | ⟨L, hF, hL, h⟩ <;> rcases h' with ⟨hO', rfl⟩ | ⟨L', hF', hL', h'⟩
  · rfl
  · exact absurd hO (hF'.not_over hL')
  · exact absurd hO' (hF.not_over hL)
  · have e := hF.unique hF'
    subst e
    rcases h with ⟨⟨p, hp, hb⟩, rfl⟩ | ⟨ha, rfl⟩ <;> rcases h' with ⟨⟨p', hp', hb'⟩, rfl⟩ | ⟨ha', rfl⟩
    · rfl
    · rw [ha' p hp] at hb; cases hb
    · rw [ha p' hp'] at hb'; cases hb'
    · rfl

theorem errS_in {t : List Fmt} (hv : validT t = 0) {i j : Nat} (hi : i < t.length) (hj : j < t.length) : errS t [(i : Int), (j : Int)] = 0 := by
  unfold errS
  rw [if_neg (by rw [hv]; simp), if_neg]
  simp [badIx]
  omega

theorem oc_common {t : List Fmt} {i j : Nat} {s : ByteArray} {er : Int} (hz : errS t [(i : Int), (j : Int)] = 0) (h : CommonR t i j s er) : Oc t i j er := by
  rcases h with ⟨h1, -, -⟩ | ⟨-, i', j', fm', gm', hi', hj', hfm, hgm, hVf, hVg, h⟩
  · exact absurd hz h1
  · have e1 : i' = i := by omega
    have e2 : j' = j := by omega
    subst e1 e2
    refine ⟨fm', gm', hfm, hgm, hVf, hVg, ?_⟩
    rcases h with ⟨h1, -, h4⟩ | ⟨L, Ws, hF, hL, hW, h⟩
    · exact .inl ⟨h1, h4⟩
    · refine .inr ⟨L, hF, hL, ?_⟩
      rcases h with ⟨kk, p, hk, hp, h5, h6⟩ | ⟨h5, h6, h7⟩
      · exact .inl ⟨⟨p, List.mem_of_getElem? hk, hp⟩, h5⟩
      · exact .inr ⟨h5, h7⟩
theorem oc_exists {t : List Fmt} {i j : Nat} {b : Bool} {fr : Int} (hz : errS t [(i : Int), (j : Int)] = 0) (h : ExistsR t i j b fr) : (fr = 3 ∧ b = false ∧ Oc t i j 3) ∨ (fr = 0 ∧ b = true ∧ Oc t i j 0) ∨ (fr = 0 ∧ b = false ∧ Oc t i j 15) := by
  rcases h with ⟨h1, -, -⟩ | ⟨-, i', j', fm', gm', hi', hj', hfm, hgm, hVf, hVg, h⟩
  · exact absurd hz h1
  · have e1 : i' = i := by omega
    have e2 : j' = j := by omega
    subst e1 e2
    rcases h with ⟨h1, h3, h4⟩ | ⟨L, hF, hL, h4, h⟩
    · exact .inl ⟨h4, h3, fm', gm', hfm, hgm, hVf, hVg, .inl ⟨h1, rfl⟩⟩
    · rcases h with ⟨h5, h6⟩ | ⟨h5, h6⟩
      · exact .inr (.inl ⟨h4, h5, fm', gm', hfm, hgm, hVf, hVg, .inr ⟨L, hF, hL, .inl ⟨h6, rfl⟩⟩⟩)
      · exact .inr (.inr ⟨h4, h5, fm', gm', hfm, hgm, hVf, hVg, .inr ⟨L, hF, hL, .inr ⟨h6, rfl⟩⟩⟩)

/-- all pairs ahead of i, j are disjoint -/
def BeforeS (t : List Fmt) (i j : Nat) : Prop := ∀ i' j' : Nat, i' < j' → j' < t.length → (i' < i ∨ i' = i ∧ j' < j) → Oc t i' j' 15
theorem BeforeS.in_ {t : List Fmt} {i : Nat} (h : BeforeS t i 0) : BeforeS t i (i + 1) := fun i' j' h1 h2 h3 => h i' j' h1 h2 (by omega)
theorem BeforeS.next {t : List Fmt} {i j : Nat} (h : BeforeS t i j) (ho : Oc t i j 15) : BeforeS t i (j + 1) := fun i' j' h1 h2 h3 => by
  by_cases e : i' = i ∧ j' = j
  · obtain ⟨rfl, rfl⟩ := e; exact ho
  · exact h i' j' h1 h2 (by omega)
theorem BeforeS.out_ {t : List Fmt} {i j : Nat} (h : BeforeS t i j) (hj : t.length ≤ j) : BeforeS t (i + 1) 0 := fun i' j' h1 h2 h3 => h i' j' h1 h2 (by omega)
theorem BeforeS.start {t : List Fmt} : BeforeS t 0 0 := fun i' j' h1 h2 h3 => by omega

/-- what All answers -/
def AllR (t : List Fmt) (k l e : Int) : Prop :=
  (validT t ≠ 0 ∧ k = 0 ∧ l = 0 ∧ e = validT t) ∨ (validT t = 0 ∧ ((∃ (i j : Nat) (v : Int), i < j ∧ j < t.length ∧ BeforeS t i j ∧ Oc t i j v ∧ ((v = 0 ∧ k = i ∧ l = j ∧ e = 0) ∨ (v = 3 ∧ k = 0 ∧ l = 0 ∧ e = 3))) ∨ (BeforeS t t.length 0 ∧ k = 0 ∧ l = 0 ∧ e = 15)))

theorem AllR.unique {t : List Fmt} {k l e k' l' e' : Int} (h : AllR t k l e) (h' : AllR t k' l' e') : k = k' ∧ l = l' ∧ e = e' := by
  rcases h with ⟨hv, rfl, rfl, rfl⟩ | ⟨hv, h⟩ <;> rcases h' with ⟨hv', rfl, rfl, rfl⟩ | ⟨hv', h'⟩
  · exact ⟨rfl, rfl, rfl⟩
  · exact absurd hv' hv
  · exact absurd hv hv'
  · rcases h with ⟨i, j, v, hij, hj, hB, hO, h⟩ | ⟨hB, rfl, rfl, rfl⟩ <;> rcases h' with ⟨i', j', v', hij', hj', hB', hO', h'⟩ | ⟨hB', rfl, rfl, rfl⟩
    · by_cases e : i' = i ∧ j' = j
      · obtain ⟨rfl, rfl⟩ := e
        have e := hO.unique hO'
        subst e
        rcases h with ⟨e1, rfl, rfl, rfl⟩ | ⟨e1, rfl, rfl, rfl⟩ <;> rcases h' with ⟨e2, rfl, rfl, rfl⟩ | ⟨e2, rfl, rfl, rfl⟩ <;> first | exact ⟨rfl, rfl, rfl⟩ | omega
      · by_cases hlt : i' < i ∨ i' = i ∧ j' < j
        · have := (hB i' j' hij' hj' hlt).unique hO'
          rcases h' with ⟨e2, -⟩ | ⟨e2, -⟩ <;> omega
        · have := (hB' i j hij hj (by omega)).unique hO
          rcases h with ⟨e2, -⟩ | ⟨e2, -⟩ <;> omega
    · have := (hB' i j hij hj (by omega)).unique hO
      rcases h with ⟨e2, -⟩ | ⟨e2, -⟩ <;> omega
    · have := (hB i' j' hij' hj' (by omega)).unique hO'
      rcases h' with ⟨e2, -⟩ | ⟨e2, -⟩ <;> omega
    · exact ⟨rfl, rfl, rfl⟩

theorem all_tagged {t : List Fmt} {k l e : Int} (h : AllR t k l e) (hv : validT t = 0) (ht : TagP t) : e = 15 ∨ e = 3 := by
  rcases h with ⟨h, -⟩ | ⟨-, h⟩
  · exact absurd hv h
  · rcases h with ⟨i, j, v, hij, hj, hB, hO, h⟩ | ⟨hB, rfl, rfl, rfl⟩
    · rcases h with ⟨rfl, -, -, rfl⟩ | ⟨-, -, -, rfl⟩
      · exfalso
        obtain ⟨fm, gm, h1, h2, h3, h4, h5⟩ := hO
        rcases h5 with ⟨-, h5⟩ | ⟨L, hF, hL, h5⟩
        · omega
        · rcases h5 with ⟨⟨p, hp, hb⟩, -⟩ | ⟨-, h5⟩
          · obtain ⟨r, hr1, hr2⟩ := hF.reach hp
            obtain ⟨b1, b2⟩ := bel_path hr2 hr1 hb
            exact tag_no ht hij h1 h2 h3 h4 b1 b2
          · omega
      · exact .inr rfl
    · exact .inl rfl

set_option maxRecDepth 100000 in
set_option maxHeartbeats 1600000 in
theorem All_any {w : World} {B : Nat} {a : Option Addr} {t : List Fmt} {cap : Nat} (hT : TabA w B a t) (hB : B ≤ w.heap.size) (hcap : t.length ≤ cap) (hcap2 : cap ≤ 9223372036854775807) :
    Calls Try.prog 22 #[.slice a t.length cap] w fun e w' => ∃ k l er, e = .returned (.tuple #[.int .i64 k, .int .i64 l, .int .i64 er]) ∧ Ext w w' ∧ AllR t k l er := by
  have hn63 := hT.1
  unfold maxLen at hn63
  obtain ⟨v0, hv0⟩ : ∃ v0, v0 = validT t := ⟨_, rfl⟩
  have HV0 := Lib.hid hv0
  have hcon := Valid_any hT hB hcap hcap2
  rw [← hv0] at hcon
  have HC := Lib.hid (fun (w' : World) (hE : Ext w w') (i j : Int) => Common_any (i := i) (j := j) (hT.ext hB hE) (by have := hE.size; omega) hcap hcap2)
  have HT := Lib.hid hT
  clear hv0 hT
  go_enter Try.func22, Try.ntmps22
  go_wp2_with fail
  refine hcon.mono ?_
  rintro e w1 ⟨rfl, hE1⟩
  have HE1 := Lib.hid hE1
  clear hE1 hcon
  by_cases hz : v0 = 0
  · subst hz
    have hvz := HV0.out.symm
    have HOK := Lib.hid (fun (i j : Nat) (hi : i < t.length) (hj : j < t.length) => errS_in hvz hi hj)
    clear hvz
    go_wp2_with fail
    go_loopw [17] (fun iv wr => ∃ i : Nat, iv = .int .i64 i ∧ i ≤ t.length ∧ BeforeS t i 0 ∧ Ext w wr) (fun iv _ => t.length - (intOf iv).toNat)
    case atStart => exact ⟨0, rfl, by omega, BeforeS.start, HE1.out⟩
    case round =>
      obtain ⟨i, rfl, hi, hbef, hE⟩ := hrel
      have HBF := Lib.hid hbef
      have HE := Lib.hid hE
      clear hbef hE
      by_cases hlt : i < t.length
      · have e1 : decide ((i : Int) < (t.length : Int)) = true := decide_eq_true (by omega)
        obtain ⟨wo, hwo⟩ : ∃ wo : World, wo = wr := ⟨_, rfl⟩
        subst hwo
        go_wp2_with fail
        go_loopw [7] (fun jv wq => ∃ j : Nat, jv = .int .i64 j ∧ i + 1 ≤ j ∧ j ≤ t.length ∧ BeforeS t i j ∧ Ext w wq) (fun jv _ => t.length - (intOf jv).toNat)
        case atStart => exact ⟨i + 1, by go_num, by omega, by omega, HBF.out.in_, HE.out⟩
        case round =>
          obtain ⟨j, rfl, hij, hj, hbef, hE⟩ := hrel
          have HBF2 := Lib.hid hbef
          have HE2 := Lib.hid hE
          clear hbef hE
          by_cases hlt2 : j < t.length
          · have e2 : decide ((j : Int) < (t.length : Int)) = true := decide_eq_true (by omega)
            go_wp2_with fail
            refine (HC.out _ HE2.out _ _).mono ?_
            rintro e w2 ⟨s, er, rfl, hE3, hR⟩
            have HO := Lib.hid (oc_common (HOK.out i j hlt hlt2) hR)
            have HE3 := Lib.hid (HE2.out.trans hE3)
            clear hR hE3
            have hcs : er = 0 ∨ er = 3 ∨ er = 15 := by
              obtain ⟨fm, gm, -, -, -, -, h⟩ := HO.out
              rcases h with ⟨-, h⟩ | ⟨L, -, -, ⟨-, h⟩ | ⟨-, h⟩⟩ <;> omega
            rcases hcs with rfl | rfl | rfl
            · go_wp2_with fail
              go_ret3
              exact ⟨_, _, _, rfl, HE3.out, .inr ⟨HV0.out.symm, .inl ⟨i, j, 0, by omega, hlt2, HBF2.out, HO.out, .inl ⟨rfl, rfl, rfl, rfl⟩⟩⟩⟩
            · go_wp2_with fail
              go_ret3
              exact ⟨_, _, _, rfl, HE3.out, .inr ⟨HV0.out.symm, .inl ⟨i, j, 3, by omega, hlt2, HBF2.out, HO.out, .inr ⟨rfl, rfl, rfl, rfl⟩⟩⟩⟩
            · go_wp2_with fail
              go_roundw
              case rel => exact ⟨j + 1, by go_num, by omega, by omega, HBF2.out.next HO.out, HE3.out⟩
              case measure => simp [intOf]; omega
          · have e2 : decide ((j : Int) < (t.length : Int)) = false := decide_eq_false (by omega)
            go_wp2_with fail
            go_roundw
            case rel => exact ⟨i + 1, by go_num, by omega, HBF2.out.out_ (by omega), HE2.out⟩
            case measure => simp [intOf]; omega
      · have e1 : decide ((i : Int) < (t.length : Int)) = false := decide_eq_false (by omega)
        have HFIN : Hid (BeforeS t t.length 0) := Lib.hid (by rw [show t.length = i by omega]; exact HBF.out)
        go_wp2_with fail
        go_ret3
        exact ⟨_, _, _, rfl, HE.out, .inr ⟨HV0.out.symm, .inr ⟨HFIN.out, rfl, rfl, rfl⟩⟩⟩
  · have e1 : (v0 == 0) = false := beq_eq_false_iff_ne.2 hz
    go_wp2_with fail
    go_ret3
    exact ⟨_, _, _, rfl, HE1.out, .inl ⟨by rw [← HV0.out]; exact hz, rfl, rfl, HV0.out⟩⟩

theorem ints_nil {w : World} : IntsA w none [] := fun k x hk => by simp at hk
theorem errS_nil {t : List Fmt} : errS t [] = validT t := by
  unfold errS
  by_cases h : validT t = 0 <;> simp [h]

set_option maxRecDepth 100000 in
set_option maxHeartbeats 1600000 in
theorem rAll_any {w : World} {B : Nat} {a : Option Addr} {t : List Fmt} {cap : Nat} (hT : TabA w B a t) (hB : B ≤ w.heap.size) (hcap : t.length ≤ cap) (hcap2 : cap ≤ 9223372036854775807) :
    Calls Try.prog 23 #[.slice a t.length cap] w fun e w' => ∃ k l er, e = .returned (.tuple #[.int .i64 k, .int .i64 l, .int .i64 er]) ∧ Ext w w' ∧ AllR t k l er := by
  have hn63 := hT.1
  unfold maxLen at hn63
  obtain ⟨v0, hv0⟩ : ∃ v0, v0 = validT t := ⟨_, rfl⟩
  have HV0 := Lib.hid hv0
  have hcon := Error_any (la := none) (lcap := 0) (l := []) hT hB hcap hcap2 ints_nil (by simp)
  rw [errS_nil, ← hv0] at hcon
  have HC := Lib.hid (fun (w' : World) (hE : Ext w w') (i j : Int) => Exists_any (i := i) (j := j) (hT.ext hB hE) (by have := hE.size; omega) hcap hcap2)
  have HT := Lib.hid hT
  clear hv0 hT
  go_enter Try.func23, Try.ntmps23
  go_wp2_with fail
  refine hcon.mono ?_
  rintro e w1 ⟨rfl, hE1⟩
  have HE1 := Lib.hid hE1
  clear hE1 hcon
  by_cases hz : v0 = 0
  · subst hz
    have hvz := HV0.out.symm
    have HOK := Lib.hid (fun (i j : Nat) (hi : i < t.length) (hj : j < t.length) => errS_in hvz hi hj)
    clear hvz
    go_wp2_with fail
    go_loopw [6] (fun iv wr => ∃ i : Nat, iv = .int .i64 i ∧ i ≤ t.length ∧ BeforeS t i 0 ∧ Ext w wr) (fun iv _ => t.length - (intOf iv).toNat)
    case atStart => exact ⟨0, rfl, by omega, BeforeS.start, HE1.out⟩
    case round =>
      obtain ⟨i, rfl, hi, hbef, hE⟩ := hrel
      have HBF := Lib.hid hbef
      have HE := Lib.hid hE
      clear hbef hE
      by_cases hlt : i < t.length
      · have e1 : decide ((i : Int) < (t.length : Int)) = true := decide_eq_true (by omega)
        obtain ⟨wo, hwo⟩ : ∃ wo : World, wo = wr := ⟨_, rfl⟩
        subst hwo
        go_wp2_with fail
        go_loopw [7] (fun jv wq => ∃ j : Nat, jv = .int .i64 j ∧ i + 1 ≤ j ∧ j ≤ t.length ∧ BeforeS t i j ∧ Ext w wq) (fun jv _ => t.length - (intOf jv).toNat)
        case atStart => exact ⟨i + 1, by go_num, by omega, by omega, HBF.out.in_, HE.out⟩
        case round =>
          obtain ⟨j, rfl, hij, hj, hbef, hE⟩ := hrel
          have HBF2 := Lib.hid hbef
          have HE2 := Lib.hid hE
          clear hbef hE
          by_cases hlt2 : j < t.length
          · have e2 : decide ((j : Int) < (t.length : Int)) = true := decide_eq_true (by omega)
            go_wp2_with fail
            refine (HC.out _ HE2.out _ _).mono ?_
            rintro e w2 ⟨b, er, rfl, hE3, hR⟩
            have hcs := oc_exists (HOK.out i j hlt hlt2) hR
            have HE3 := Lib.hid (HE2.out.trans hE3)
            clear hR hE3
            rcases hcs with ⟨rfl, rfl, hO⟩ | ⟨rfl, rfl, hO⟩ | ⟨rfl, rfl, hO⟩
            · have HO := Lib.hid hO
              clear hO
              go_wp2_with fail
              go_ret3
              exact ⟨_, _, _, rfl, HE3.out, .inr ⟨HV0.out.symm, .inl ⟨i, j, 3, by omega, hlt2, HBF2.out, HO.out, .inr ⟨rfl, rfl, rfl, rfl⟩⟩⟩⟩
            · have HO := Lib.hid hO
              clear hO
              go_wp2_with fail
              go_ret3
              exact ⟨_, _, _, rfl, HE3.out, .inr ⟨HV0.out.symm, .inl ⟨i, j, 0, by omega, hlt2, HBF2.out, HO.out, .inl ⟨rfl, rfl, rfl, rfl⟩⟩⟩⟩
            · have HO := Lib.hid hO
              clear hO
              go_wp2_with fail
              go_roundw
              case rel => exact ⟨j + 1, by go_num, by omega, by omega, HBF2.out.next HO.out, HE3.out⟩
              case measure => simp [intOf]; omega
          · have e2 : decide ((j : Int) < (t.length : Int)) = false := decide_eq_false (by omega)
            go_wp2_with fail
            go_roundw
            case rel => exact ⟨i + 1, by go_num, by omega, HBF2.out.out_ (by omega), HE2.out⟩
            case measure => simp [intOf]; omega
      · have e1 : decide ((i : Int) < (t.length : Int)) = false := decide_eq_false (by omega)
        have HFIN : Hid (BeforeS t t.length 0) := Lib.hid (by rw [show t.length = i by omega]; exact HBF.out)
        go_wp2_with fail
        go_ret3
        exact ⟨_, _, _, rfl, HE.out, .inr ⟨HV0.out.symm, .inr ⟨HFIN.out, rfl, rfl, rfl⟩⟩⟩
  · have e1 : (v0 == 0) = false := beq_eq_false_iff_ne.2 hz
    go_wp2_with fail
    go_ret3
    exact ⟨_, _, _, rfl, HE1.out, .inl ⟨by rw [← HV0.out]; exact hz, rfl, rfl, HV0.out⟩⟩

end Go.Proofs.Ythoelnoahfedmaa
