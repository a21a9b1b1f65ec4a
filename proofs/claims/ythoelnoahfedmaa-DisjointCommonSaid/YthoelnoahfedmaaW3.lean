/- Contracts of the automaton: steps. -/
import Derived.Test.YthoelnoahfedmaaW2
import Derived.Deep.RegionHeld3
import Derived.Deep.DeepCutAuto
import Derived.Deep.QuietTactic
import Derived.BigQuiet
namespace Go.Proofs.Ythoelnoahfedmaa
open Go.RowKit
set_option linter.unusedVariables false

/-- a state within a field -/
def stS (f r : Int) : Int := f * 262144 + r * 256

def cntS (f r n : Int) : Int := if r + 1 = n then stS (f + 1) 0 else stS f (r + 1)
def lftS (f r : Int) : Int := if r = 1 then stS (f + 1) 0 else stS f (r - 1)

theorem counted_any {w : World} (n r x f : Int) (br bx bf : Nat) (hr : w.cell? ⟨br, 0, none⟩ = some (.int .i64 r)) (hx : w.cell? ⟨bx, 0, none⟩ = some (.int .i64 (stS (f + 1) 0))) (hf : w.cell? ⟨bf, 0, none⟩ = some (.int .i64 f))
   (hf0 : 0 ≤ f) (hf1 : f ≤ 1000) (hr0 : 0 ≤ r) (hr1 : r ≤ 2000) :
   Calls Try.prog 79 #[.int .i64 n, .pointer (some ⟨br, 0, none⟩), .pointer (some ⟨bx, 0, none⟩), .pointer (some ⟨bf, 0, none⟩)] w fun e w' => e = .returned (.int .i64 (cntS f r n)) ∧ w = w' := by
  by_cases h : r + 1 = n
  · have e1 : (r + 1 == n) = true := by simp [h]
    have e2 : cntS f r n = stS (f + 1) 0 := by simp [cntS, h]
    rw [e2]
    have E2 := Lib.hid e2; clear e2
    have E3 := Lib.hid h; clear h
    go_enter Try.func79, Try.ntmps79
    go_wp2_with fail
    go_ret
    exact ⟨rfl, rfl⟩
  · have e1 : (r + 1 == n) = false := by simp [h]
    have e2 : cntS f r n = f * 262144 + (r + 1) * 256 + 0 := by simp [cntS, h, stS]
    rw [e2]
    have E2 := Lib.hid e2; clear e2
    have E3 := Lib.hid h; clear h
    go_enter Try.func79, Try.ntmps79
    go_wp2_with (go_at_call 78; refine (join_any _ _ _ _ (by omega) (by omega) (by omega) (by omega) (by omega) (by omega)).mono ?_; rintro e w' ⟨rfl, rfl⟩)
    go_ret
    exact ⟨by simp, rfl⟩

theorem left_any {w : World} (r x f : Int) (br bx bf : Nat) (hr : w.cell? ⟨br, 0, none⟩ = some (.int .i64 r)) (hx : w.cell? ⟨bx, 0, none⟩ = some (.int .i64 (stS (f + 1) 0))) (hf : w.cell? ⟨bf, 0, none⟩ = some (.int .i64 f))
   (hf0 : 0 ≤ f) (hf1 : f ≤ 1000) (hr0 : 0 ≤ r) (hr1 : r ≤ 2000) :
   Calls Try.prog 80 #[.pointer (some ⟨br, 0, none⟩), .pointer (some ⟨bx, 0, none⟩), .pointer (some ⟨bf, 0, none⟩)] w fun e w' => e = .returned (.int .i64 (lftS f r)) ∧ w = w' := by
  by_cases h : r = 1
  · have e1 : (r == 1) = true := by simp [h]
    have e2 : lftS f r = stS (f + 1) 0 := by simp [lftS, h]
    rw [e2]
    have E2 := Lib.hid e2; clear e2
    have E3 := Lib.hid h; clear h
    go_enter Try.func80, Try.ntmps80
    go_wp2_with fail
    go_ret
    exact ⟨rfl, rfl⟩
  · have e1 : (r == 1) = false := by simp [h]
    have e2 : lftS f r = f * 262144 + (r - 1) * 256 + 0 := by simp [lftS, h, stS]
    rw [e2]
    have E2 := Lib.hid e2; clear e2
    have E3 := Lib.hid h; clear h
    go_enter Try.func80, Try.ntmps80
    go_wp2_with (go_at_call 78; refine (join_any _ _ _ _ (by omega) (by omega) (by omega) (by omega) (by omega) (by omega)).mono ?_; rintro e w' ⟨rfl, rfl⟩)
    go_ret
    exact ⟨by simp, rfl⟩

/-- whether a state accepts -/
def accS (t : List Fmt) (F : List Fld) (s : Int) : Bool :=
  exists1 t F s && (s / 262144 == F.length || match F[(s / 262144).toNat]? with | some x => x.kind == 6 && decide (x.low ≤ s / 256 % 1024) | none => false)

theorem xsS_len {F : List Fld} {inn : Fld → Int → Bool} {s : Int} (h : xsS F inn s = true) : 0 ≤ s ∧ s / 262144 ≤ F.length := by
  unfold xsS at h
  split at h
  · simp at h
  · refine ⟨by omega, ?_⟩
    split at h
    · simp [endS] at h; omega
    · rename_i x hx
      have := lt_of_get hx
      omega

set_option maxRecDepth 100000 in
set_option maxHeartbeats 1000000 in
theorem accepts_any {w : World} {B : Nat} {a : Option Addr} {t : List Fmt} {cap : Nat} {i : Nat} {fm : Fmt} (s : Int) (h1 : s ≤ 9223372036854775807) (hT : TabA w B a t) (hB : B ≤ w.heap.size) (hi : t[i]? = some fm) (hne : fm.fields ≠ []) (hle : fm.fields.length ≤ 100)
    (hp : ∀ x ∈ fm.fields, x.kind = 1 ∨ x.kind = 2 ∨ x.kind = 3 ∨ x.kind = 4 ∨ x.kind = 6 ∨ x.kind = 5)
    (hnest : ∀ x ∈ fm.fields, x.kind = 5 → ∃ j : Nat, x.n = j ∧ ∃ gm, t[j]? = some gm ∧ gm.fields ≠ [] ∧ gm.fields.length ≤ 100 ∧ ∀ y ∈ gm.fields, y.kind = 1 ∨ y.kind = 2 ∨ y.kind = 3 ∨ y.kind = 4 ∨ y.kind = 6) :
   Calls Try.prog 36 #[.agg #[.slice a t.length cap, .int .i64 i], .int .i64 s] w fun e w' => e = .returned (.bool (accS t fm.fields s)) ∧ Ext w w' := by
  generalize hx0 : exists1 t fm.fields s = x0
  have HX0 := Lib.hid hx0
  cases x0
  · have e2 : accS t fm.fields s = false := by simp [accS, hx0]
    rw [e2]
    have E2 := Lib.hid e2; clear e2 hx0
    go_enter Try.func36, Try.ntmps36
    go_wp2_with fail
    refine (exists1_any _ h1 (hT.alloc hB _) (by simp; omega) hi hne hle hp hnest).mono ?_
    rw [HX0.out]
    rintro e w1 ⟨rfl, hb1⟩
    go_wp2_with fail
    go_ret
    exact ⟨rfl, hb1.al⟩
  · obtain ⟨h0, hlen⟩ := xsS_len hx0
    clear hx0
    obtain ⟨f, hfs⟩ : ∃ f : Nat, s / 262144 = f := ⟨(s / 262144).toNat, by omega⟩
    have hlen' : f ≤ fm.fields.length := by omega
    have HF := Lib.hid hfs; clear hfs
    go_enter Try.func36, Try.ntmps36
    go_wp2_with fail
    refine (exists1_any _ h1 (hT.alloc hB _) (by simp; omega) hi hne hle hp hnest).mono ?_
    rw [HX0.out]
    rintro e w1 ⟨rfl, hb1⟩
    obtain ⟨hc1, -, hs1⟩ := hb1.cells1
    go_wp2_with fail
    refine (split_any _ _ h0 h1).mono ?_
    rw [HF.out]
    rintro e w' ⟨rfl, rfl⟩
    go_wp2_with fail
    refine (fields_any (hT.ext hB hb1.al) (by omega) hi).mono ?_
    rintro e w2 ⟨fa, fcap, rfl, hF, hb2⟩
    by_cases hlt : f = fm.fields.length
    · have e1 : ((f : Int) == (fm.fields.length : Int)) = true := by simp [hlt]
      have HL := Lib.hid hlt; clear hlt
      go_wp2_with fail
      go_ret
      exact ⟨rb (by simp [accS, HX0.out, HF.out, HL.out]), hb1.al.trans hb2⟩
    · have e1 : ((f : Int) == (fm.fields.length : Int)) = false := by simp; omega
      have hlt' : f < fm.fields.length := by omega
      obtain ⟨x, hx⟩ : ∃ x, fm.fields[f]? = some x := ⟨_, List.getElem?_eq_getElem hlt'⟩
      obtain ⟨-, hF⟩ := hF.ext (by omega) hb2
      obtain ⟨fb, foff, rfl, hfb, hF⟩ := hF hne
      obtain ⟨c0, c1, c2, c3, c4, cw⟩ := hF _ _ hx
      clear hF
      have hs2 := hb2.size
      have hsz : fb < w2.heap.size := by omega
      have HX := Lib.hid hx; clear hx
      go_wp2_with fail
      all_goals go_ret
      all_goals exact ⟨rb (by simp only [accS, HX0.out, HF.out, HX.out, Int.toNat_natCast]; simp [*]), hb1.al.trans hb2⟩

end Go.Proofs.Ythoelnoahfedmaa
