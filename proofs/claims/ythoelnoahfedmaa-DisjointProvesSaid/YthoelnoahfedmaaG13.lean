/- The examples: plain facts, and the walk. DisjointStates: the walk of the law. -/
import Derived.Test.YthoelnoahfedmaaG12
import Derived.Lib.SlicesS
import Derived.Test.YthoelnoahfedmaaG8
namespace Go.Proofs.Ythoelnoahfedmaa
open Go Go.RowKit
set_option linter.unusedVariables false
set_option linter.unusedSimpArgs false

def fA : List Fld := [⟨1, bytes1 1, 0, 0, 0⟩, ⟨3, ByteArray.empty, 1, 0, 0⟩]
def fB (low : Int) : List Fld := [⟨4, ByteArray.empty, 0, low, low + 1⟩, ⟨6, ByteArray.empty, 0, 0, 9⟩]
theorem tab_0 {low : Int} {f : Fmt} (h : (tabS low)[0]? = some f) : f.fields = fA := by simp [tabS] at h; subst h; rfl
theorem tab_1 {low : Int} {f : Fmt} (h : (tabS low)[1]? = some f) : f.fields = fB low := by simp [tabS] at h; subst h; rfl

theorem err00 : errS (tabS 0) [0] = 0 := by decide +kernel
theorem err01 : errS (tabS 0) [0, 1] = 0 := by decide +kernel
theorem err11 : errS (tabS 0) [1, 1] = 0 := by decide +kernel
theorem err201 : errS (tabS 2) [0, 1] = 0 := by decide +kernel

theorem fullA : Full (stF (tabS 0) fA) 0 (lev (stF (tabS 0) fA) 0 4) := ⟨4, rfl, by decide +kernel⟩
theorem lenA : (lev (stF (tabS 0) fA) 0 4).length = 4 := by decide +kernel
def fAB (low : Int) : Int × Int → Nat → Option (Int × Int) := stP (tabS low) fA (fB low)
theorem fullAB : Full (fAB 0) (0, 0) (lev (fAB 0) (0, 0) 5) := ⟨5, rfl, by decide +kernel⟩
theorem lenAB : (lev (fAB 0) (0, 0) 5).length = 5 := by decide +kernel
theorem fullAB2 : Full (fAB 2) (0, 0) (lev (fAB 2) (0, 0) 1) := ⟨1, rfl, by decide +kernel⟩
theorem listAB2 : lev (fAB 2) (0, 0) 1 = [(0, 0)] := by decide +kernel
def fBB : Int × Int → Nat → Option (Int × Int) := stP (tabS 0) (fB 0) (fB 0)
theorem fullBB : Full fBB (0, 0) (lev fBB (0, 0) 11) := ⟨11, rfl, by decide +kernel⟩
theorem lenBB : (lev fBB (0, 0) 11).length = 11 := by decide +kernel

theorem stab0 : ∀ b < 256, fAB 0 (0, 0) b = if b = 1 then some (262144, 262144) else none := by decide +kernel
theorem stab1 : ∀ b < 256, fAB 0 (262144, 262144) b = if b = 0 then some (524288, 262400) else if b = 1 then some (262400, 262400) else none := by decide +kernel
theorem stab2 : ∀ b < 256, fAB 0 (262400, 262400) b = some (524288, 262656) := by decide +kernel
theorem stab3 : ∀ b < 256, fAB 0 (524288, 262400) b = none := by decide +kernel
theorem stab4 : ∀ b < 256, fAB 0 (524288, 262656) b = none := by decide +kernel

theorem bytes_list (x y : ByteArray) : x.toList = y.toList ↔ x = y := by
  rw [← Lib.bytes_beq_iff, beq_iff_eq]

theorem run_head {K : Type} {f : K → Nat → Option K} {x y : K} {b : Nat} {l : List Nat} (h : runF f x (b :: l) = some y) : ∃ z, f x b = some z ∧ runF f z l = some y := by
  simp only [runF] at h
  cases hz : f x b with
  | none => rw [hz] at h; cases h
  | some z => rw [hz] at h; exact ⟨z, rfl, by simpa using h⟩

/-- the strings of both formats of the examples -/
theorem run_both {l : List Nat} {y : Int × Int} (hl : ∀ b ∈ l, b < 256) (h : runF (fAB 0) (0, 0) l = some y) (hy : bothS fA (fB 0) y = true) : l = [1, 0] ∨ l.length = 3 := by
  match l, h, hl with
  | [], h, hl =>
    simp [runF] at h
    subst h
    exact absurd hy (by decide +kernel)
  | b0 :: l, h, hl =>
    obtain ⟨z, h1, h2⟩ := run_head h
    rw [stab0 b0 (hl b0 (by simp))] at h1
    by_cases e0 : b0 = 1
    · rw [if_pos e0] at h1
      cases h1
      subst e0
      match l, h2, hl with
      | [], h2, hl =>
        simp [runF] at h2
        subst h2
        exact absurd hy (by decide +kernel)
      | b1 :: l, h2, hl =>
        obtain ⟨z, h3, h4⟩ := run_head h2
        rw [stab1 b1 (hl b1 (by simp))] at h3
        by_cases e1 : b1 = 0
        · rw [if_pos e1] at h3
          cases h3
          subst e1
          match l, h4, hl with
          | [], h4, hl => exact .inl rfl
          | b2 :: l, h4, hl =>
            obtain ⟨z, h5, h6⟩ := run_head h4
            rw [stab3 b2 (hl b2 (by simp))] at h5
            cases h5
        · rw [if_neg e1] at h3
          by_cases e2 : b1 = 1
          · rw [if_pos e2] at h3
            cases h3
            match l, h4, hl with
            | [], h4, hl =>
              simp [runF] at h4
              subst h4
              exact absurd hy (by decide +kernel)
            | b2 :: l, h4, hl =>
              obtain ⟨z, h5, h6⟩ := run_head h4
              rw [stab2 b2 (hl b2 (by simp))] at h5
              cases h5
              match l, h6, hl with
              | [], h6, hl => exact .inr rfl
              | b3 :: l, h6, hl =>
                obtain ⟨z, h7, h8⟩ := run_head h6
                rw [stab4 b3 (hl b3 (by simp))] at h7
                cases h7
          · rw [if_neg e2] at h3
            cases h3
    · rw [if_neg e0] at h1
      cases h1

set_option maxRecDepth 100000 in
theorem aw_states {n er : Int} (h : StatesR (tabS 0) 0 n er) : n = 4 ∧ er = 0 := by
  rcases h with ⟨h, -⟩ | ⟨-, j, fm, hj, hfm, -, h⟩
  · exact absurd err00 h
  · have : j = 0 := by omega
    subst this
    rw [tab_0 hfm] at h
    rcases h with ⟨h, -⟩ | ⟨L, hF, -, h1, h2⟩
    · exact absurd h (fullA.not_over (by rw [lenA]; omega))
    · have e := hF.unique fullA
      subst e
      rw [lenA] at h1
      exact ⟨h1, h2⟩

set_option maxRecDepth 100000 in
theorem aw_common {s : ByteArray} {er : Int} (h : CommonR (tabS 0) 0 1 s er) : er = 0 ∧ (s = bytesN [1, 0] ∨ s.size = 3) := by
  rcases h with ⟨h, -⟩ | ⟨-, i', j', fm, gm, hi, hj, hfm, hgm, -, -, h⟩
  · exact absurd err01 h
  · have e1 : i' = 0 := by omega
    have e2 : j' = 1 := by omega
    subst e1 e2
    rw [tab_0 hfm, tab_1 hgm] at h
    change (Over (fAB 0) (0, 0) ∧ _) ∨ ∃ L Ws, Full (fAB 0) (0, 0) L ∧ _ ∧ Ways (fAB 0) L Ws ∧ _ at h
    rcases h with ⟨h, -⟩ | ⟨L, Ws, hF, -, hW, h⟩
    · exact absurd h (fullAB.not_over (by rw [lenAB]; omega))
    · rcases h with ⟨k, p, hk, hp, rfl, rfl⟩ | ⟨h, -⟩
      · have h0 : L[0]? = some (0, 0) := by obtain ⟨k, rfl, -⟩ := hF; exact lev_start
        have hlt := (List.getElem?_eq_some_iff.1 hk).1
        obtain ⟨r1, r2, -⟩ := hW.path h0 Ws.length k p (by rw [hW.1]; omega) hk
        rcases run_both (fun b hb => r2 b (by simpa using hb)) r1 hp with e | e
        · exact ⟨rfl, .inl (by rw [e])⟩
        · exact ⟨rfl, .inr (by rw [bytesN_size, e])⟩
      · have e := hF.unique fullAB
        subst e
        exact absurd (h (524288, 262400) (by decide +kernel)) (by decide +kernel)

set_option maxRecDepth 100000 in
theorem aw_prefix {s1 s2 : ByteArray} {er : Int} (h : BegR (tabS 0) 1 1 true s1 s2 er) : er = 0 ∧ s1.size < s2.size := by
  rcases h with ⟨h, -⟩ | ⟨-, i', j', fm, gm, hi, hj, hfm, hgm, -, -, h⟩
  · exact absurd err11 h
  · have e1 : i' = 1 := by omega
    have e2 : j' = 1 := by omega
    subst e1 e2
    rw [tab_1 hfm, tab_1 hgm] at h
    change (Over fBB (0, 0) ∧ _) ∨ ∃ L Ws, Full fBB (0, 0) L ∧ _ ∧ Ways fBB L Ws ∧ _ at h
    rcases h with ⟨h, -⟩ | ⟨L, Ws, hF, -, hW, h⟩
    · exact absurd h (fullBB.not_over (by rw [lenBB]; omega))
    · rcases h with ⟨rfl, k, p, l, -, -, rfl, rfl, hl, -⟩ | ⟨-, -, -, h⟩
      · refine ⟨rfl, ?_⟩
        have : 0 < l.length := List.length_pos_iff.2 (hl rfl)
        rw [bytesN_size, bytesN_size, List.length_append]
        omega
      · have e := hF.unique fullBB
        subst e
        have := h (262144, 262144) (by decide +kernel) (by decide +kernel) [0] (by simp) (by simp) 262400 (by decide +kernel)
        exact absurd this (by decide +kernel)

set_option maxRecDepth 100000 in
theorem aw_prove {w' : World} {v : Value} {er : Int} (h : ProveR w' (tabS 2) 0 1 v er) : er = 0 ∧ ∃ a cap, v = .slice a 1 cap ∧ PairsA w' a [(0, 0)] := by
  rcases h with ⟨h, -⟩ | ⟨-, i', j', fm, gm, hi, hj, hfm, hgm, -, -, h⟩
  · exact absurd err201 h
  · have e1 : i' = 0 := by omega
    have e2 : j' = 1 := by omega
    subst e1 e2
    rw [tab_0 hfm, tab_1 hgm] at h
    change (Over (fAB 2) (0, 0) ∧ _) ∨ ∃ L, Full (fAB 2) (0, 0) L ∧ _ at h
    rcases h with ⟨h, -⟩ | ⟨L, hF, -, h⟩
    · exact absurd h (fullAB2.not_over (by rw [listAB2]; simp))
    · have e := hF.unique fullAB2
      rw [listAB2] at e
      subst e
      rcases h with ⟨⟨p, hp, hb⟩, -⟩ | ⟨-, rfl, L', a, cap, hp, -, -, rfl, hA⟩
      · simp at hp
        subst hp
        exact absurd hb (by decide +kernel)
      · have := List.perm_singleton.1 hp
        subst this
        exact ⟨rfl, a, cap, rfl, hA⟩

set_option maxRecDepth 100000 in
theorem aw_sort : ∀ (fm gm : Fmt) (L : List (Int × Int)), (tabS 2)[(0 : Int).toNat]? = some fm → (tabS 2)[(1 : Int).toNat]? = some gm → Full (stP (tabS 2) fm.fields gm.fields) (0, 0) L → (∀ p ∈ L, bothS fm.fields gm.fields p = false) → SortOk L.length := by
  intro fm gm L h1 h2 hF _
  rw [tab_0 h1, tab_1 h2] at hF
  have e := hF.unique fullAB2
  rw [listAB2] at e
  subst e
  exact sortOk_one

set_option maxRecDepth 100000 in
set_option maxHeartbeats 2000000 in
theorem awake_any {w : World} : Calls Try.prog 11 #[] w fun e w' => e = .returned (.bool true) ∧ Ext w w' := by
  go_enter Try.func11, Try.ntmps11
  go_wp2_with fail
  refine (table_any (by omega) (by omega)).mono ?_
  rintro e w1 ⟨a1, rfl, hE1, hT1⟩
  have H1 := Lib.hid hE1
  go_wp2_with fail
  refine (States_any (t := tabS 0) (i := 0) hT1 (Nat.le_refl _) (by simp [tabS]) (by omega)).mono ?_
  rintro e w2 ⟨n, er, rfl, hE2, hR⟩
  obtain ⟨rfl, rfl⟩ := aw_states hR
  have H2 := Lib.hid (hE1.trans hE2)
  clear hE1 hE2 hT1 hR
  go_wp2_with fail
  refine (table_any (by omega) (by omega)).mono ?_
  rintro e w3 ⟨a3, rfl, hE3, hT3⟩
  go_wp2_with fail
  refine (Common_any (t := tabS 0) (i := 0) (j := 1) hT3 (Nat.le_refl _) (by simp [tabS]) (by omega)).mono ?_
  rintro e w4 ⟨s4, er4, rfl, hE4, hR4⟩
  obtain ⟨rfl, hs4⟩ := aw_common hR4
  have H4 := Lib.hid (H2.out.trans (hE3.trans hE4))
  have HS4 := Lib.hid hs4
  clear hE3 hE4 hT3 hR4 hs4
  go_wp2_with fail
  refine (table_any (by omega) (by omega)).mono ?_
  rintro e w5 ⟨a5, rfl, hE5, hT5⟩
  go_wp2_with fail
  refine (PrefixFree_any (t := tabS 0) (i := 1) hT5 (Nat.le_refl _) (by simp [tabS]) (by omega)).mono ?_
  rintro e w6 ⟨s6, s6', er6, rfl, hE6, hR6⟩
  obtain ⟨rfl, hs6⟩ := aw_prefix hR6
  have H6 := Lib.hid (H4.out.trans (hE5.trans hE6))
  have HS6 := Lib.hid hs6
  clear hE5 hE6 hT5 hR6 hs6
  go_wp2_with fail
  refine (table_any (by omega) (by omega)).mono ?_
  rintro e w7 ⟨a7, rfl, hE7, hT7⟩
  go_wp2_with fail
  refine (Prove_any (t := tabS 2) (i := 0) (j := 1) hT7 (Nat.le_refl _) (by simp [tabS]) (by omega) aw_sort).mono ?_
  rintro e w8 ⟨v8, er8, rfl, hE8, hR8⟩
  obtain ⟨rfl, a8, cap8, rfl, hA8⟩ := aw_prove hR8
  have H8 := Lib.hid (H6.out.trans (hE7.trans hE8))
  have HA8 := Lib.hid hA8
  clear hE7 hE8 hT7 hR8 hA8
  have e3 : decide (s6.size < s6'.size) = true := decide_eq_true HS6.out
  have FIN : ∀ (wz : World) (ad : Option Addr), Ext w8 wz → Calls Try.prog 28 #[.slice a8 1 cap8, .slice (some ⟨w8.heap.size, 0, none⟩) 1 1] (w8.alloc (.cells #[.int .i64 0, .int .i64 0] 53)) fun e w' => e = .returned (.bool true) ∧ Ext w w' := by
    intro wz ad hE
    have h := equal_any (w := w8.alloc (.cells #[.int .i64 0, .int .i64 0] 53)) (a := a8) (b := some ⟨w8.heap.size, 0, none⟩) (L := [(0, 0)]) (M := [(0, 0)]) (c := cap8) (d := 1) (HA8.out.ext (Ext.alloc _ _)) (fun k x hk => by
      match k, hk with
      | 0, hk => cases hk; exact ⟨_, _, rfl, cs_new rfl, cs_new rfl⟩) (by simp) (by simp)
    refine h.mono ?_
    rintro e w' ⟨rfl, hE'⟩
    exact ⟨by simp, H8.out.trans hE'.al⟩
  have HFIN := Lib.hid (FIN w8 none (Ext.refl _))
  clear FIN
  by_cases hs : s4 = { data := #[1, 0] }
  · subst hs
    go_wp2_with fail
    refine HFIN.out.mono ?_
    rintro e w9 ⟨rfl, hE9⟩
    have HE9 := Lib.hid hE9
    clear hE9
    go_wp2_with fail
    go_ret
    exact ⟨rfl, HE9.out⟩
  · have h3 := HS4.out.resolve_left hs
    have e1 : ¬ s4.toList = [1, 0] := fun h => hs ((bytes_list s4 _).1 (by rw [h]; decide +kernel))
    have e2 : ((s4.size : Int) == 3) = true := by rw [h3]; rfl
    clear h3
    go_wp2_with fail
    refine HFIN.out.mono ?_
    rintro e w9 ⟨rfl, hE9⟩
    have HE9 := Lib.hid hE9
    clear hE9
    go_wp2_with fail
    go_ret
    exact ⟨rfl, HE9.out⟩

end Go.Proofs.Ythoelnoahfedmaa

namespace Go.Proofs.Ythoelnoahfedmaa
open Go Go.RowKit
set_option linter.unusedVariables false
set_option linter.unusedSimpArgs false

theorem StatesR.unique {t : List Fmt} {i n er m fr : Int} (h : StatesR t i n er) (k : StatesR t i m fr) : n = m ∧ er = fr := by
  rcases h with ⟨h1, h2, h3⟩ | ⟨h1, j, fm, h2, h3, -, h4⟩ <;> rcases k with ⟨k1, k2, k3⟩ | ⟨k1, j', fm', k2, k3, -, k4⟩
  · exact ⟨by rw [h2, k2], by rw [h3, k3]⟩
  · exact absurd k1 h1
  · exact absurd h1 k1
  · have : j' = j := by omega
    subst this
    rw [h3] at k3
    cases k3
    rcases h4 with ⟨h5, h6, h7⟩ | ⟨L, h5, h6, h7, h8⟩ <;> rcases k4 with ⟨k5, k6, k7⟩ | ⟨L', k5, k6, k7, k8⟩
    · exact ⟨by rw [h6, k6], by rw [h7, k7]⟩
    · exact absurd h5 (k5.not_over k6)
    · exact absurd k5 (h5.not_over h6)
    · have := h5.unique k5
      subst this
      exact ⟨by rw [h7, k7], by rw [h8, k8]⟩

set_option maxRecDepth 100000 in
set_option maxHeartbeats 1000000 in
theorem law_states {w : World} {a : Option Addr} {t : List Fmt} {cap : Nat} {i : Int} (hT : TabA w w.heap.size a t) (hcap : t.length ≤ cap) (hcap2 : cap ≤ 9223372036854775807) (hi : I64 i) :
    Calls Try.prog 3 #[.slice a t.length cap, .int .i64 i] w fun e w' => e = .returned (.bool true) ∧ Ext w w' := by
  have hconF := fun (w' : World) (hE : Ext w w') => Few_any (cap := cap) (hT.ext (Nat.le_refl _) hE) hE.size
  have hconS := fun (w' : World) (hE : Ext w w') => States_any (i := i) (hT.ext (Nat.le_refl _) hE) hE.size hcap hcap2
  have hconR := fun (w' : World) (hE : Ext w w') => rStates_any (i := i) hi (hT.ext (Nat.le_refl _) hE) hE.size hcap hcap2
  have HF := Lib.hid hconF
  have HS := Lib.hid hconS
  have HR := Lib.hid hconR
  clear hconF hconS hconR hT
  go_enter Try.func3, Try.ntmps3
  go_wp2_with fail
  refine awake_any.mono ?_
  rintro e w1 ⟨rfl, hE1⟩
  obtain ⟨few, hfew⟩ : ∃ b, b = fewS t := ⟨_, rfl⟩
  have HFW := Lib.hid hfew
  have H1 := Lib.hid hE1
  clear hfew hE1
  go_wp2_with fail
  refine (HF.out _ H1.out).mono ?_
  rintro e w2 ⟨rfl, hE2⟩
  rw [← HFW.out]
  have H2 := Lib.hid (H1.out.trans hE2)
  clear hE2
  cases few
  · go_wp2_with fail
    refine awake_any.mono ?_
    rintro e w3 ⟨rfl, hE3⟩
    have H3 := Lib.hid (H2.out.trans hE3)
    clear hE3
    go_wp2_with fail
    go_ret
    exact ⟨rfl, H3.out⟩
  · go_wp2_with fail
    refine (HS.out _ H2.out).mono ?_
    rintro e w3 ⟨n, er, rfl, hE3, hR3⟩
    have H3 := Lib.hid (H2.out.trans hE3)
    have HR3 := Lib.hid hR3
    clear hE3 hR3
    go_wp2_with fail
    refine (HR.out _ H3.out).mono ?_
    rintro e w4 ⟨m, fr, rfl, hE4, hR4⟩
    have H4 := Lib.hid (H3.out.trans hE4)
    obtain ⟨rfl, rfl⟩ := HR3.out.unique hR4
    clear hE4 hR4
    go_wp2_with fail
    go_ret
    exact ⟨rfl, H4.out⟩

end Go.Proofs.Ythoelnoahfedmaa
