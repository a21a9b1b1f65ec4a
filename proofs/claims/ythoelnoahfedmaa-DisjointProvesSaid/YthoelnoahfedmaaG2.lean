/- Contracts of the automaton. Contracts of the automaton: steps. The contract of the automaton's step. -/
import Derived.Test.YthoelnoahfedmaaG1
import Derived.Deep.RegionHeld3
import Derived.Deep.DeepCutAuto
import Derived.Deep.QuietTactic
import Derived.BigQuiet
namespace Go.Proofs.Ythoelnoahfedmaa
open Go.RowKit
set_option linter.unusedVariables false

theorem fields_any {w : World} {B : Nat} {a : Option Addr} {t : List Fmt} {cap : Nat} {i : Nat} {fm : Fmt} (hT : TabA w B a t) (hB : B ≤ w.heap.size) (hi : t[i]? = some fm) :
   Calls Try.prog 62 #[.agg #[.slice a t.length cap, .int .i64 i]] w fun e w' => ∃ fa fcap, e = .returned (.slice fa fm.fields.length fcap) ∧ FldsA w B fa fm.fields ∧ Ext w w' := by
  obtain ⟨hlen, hT⟩ := hT
  unfold maxLen at hlen
  obtain ⟨b, off, rfl, hb, hT⟩ := hT (ne_nil_of_get hi)
  have hlt := lt_of_get hi
  obtain ⟨-, ⟨fa, fcap, hc, hF⟩, -⟩ := hT i fm hi
  clear hT
  have hb' : b < w.heap.size := by omega
  go_enter Try.func62, Try.ntmps62
  go_wp2
  go_ret
  exact ⟨fa, fcap, rfl, hF, by repeat (first | exact Ext.refl _ | exact Ext.alloc _ _ | apply Ext.then_dr | (refine Ext.then_al ?_ _))⟩

theorem inner_any {w : World} (a : Option Addr) (n cap : Nat) (i : Int) (k x l h : Int) (b : ByteArray) :
   Calls Try.prog 77 #[.agg #[.slice a n cap, .int .i64 i], .agg #[.int .i64 k, .string b, .int .i64 x, .int .i64 l, .int .i64 h]] w fun e w' => e = .returned (.agg #[.slice a n cap, .int .i64 x]) ∧ Ext w w' := by
  go_enter Try.func77, Try.ntmps77
  go_wp2
  exact bodyPost_ret (v := .agg #[.slice a n cap, .int .i64 x]) (by simp [results, Try.results77, go_sem]) rfl ⟨rfl, by repeat (first | exact Ext.refl _ | exact Ext.alloc _ _ | apply Ext.then_dr | (refine Ext.then_al ?_ _))⟩

/-- whether the last field is no rest -/
def noRest (F : List Fld) : Bool := match F.getLast? with | some x => x.kind != 6 | none => false
/-- the end -/
def endS (F : List Fld) (s : Int) : Bool := s == F.length * 262144 && noRest F

theorem end_any {w : World} {B : Nat} {a : Option Addr} {t : List Fmt} {cap : Nat} {i : Nat} {fm : Fmt} (s : Int) (hT : TabA w B a t) (hB : B ≤ w.heap.size) (hi : t[i]? = some fm) (hne : fm.fields ≠ []) (hle : fm.fields.length ≤ 100) :
   Calls Try.prog 76 #[.agg #[.slice a t.length cap, .int .i64 i], .int .i64 s] w fun e w' => e = .returned (.bool (endS fm.fields s)) ∧ Ext w w' := by
  have hpos : 0 < fm.fields.length := List.length_pos_iff.2 hne
  obtain ⟨x, hx⟩ : ∃ x, fm.fields[fm.fields.length - 1]? = some x := ⟨_, List.getElem?_eq_getElem (by omega)⟩
  have hres : noRest fm.fields = (x.kind != 6) := by simp [noRest, List.getLast?_eq_getElem?, hx]
  go_enter Try.func76, Try.ntmps76
  go_wp2_with fail
  refine (fields_any (hT.alloc hB _) (by simp; omega) hi).mono ?_
  rintro e w1 ⟨fa, fcap, rfl, hF, hb1⟩
  obtain ⟨-, hF⟩ := hF.ext (by simp; omega) hb1
  obtain ⟨fb, foff, rfl, hfb, hF⟩ := hF hne
  have hk := (hF _ _ hx).kind
  clear hF
  have hb1s := hb1.size
  simp at hb1s
  have hsz : fb < w1.heap.size := by omega
  have hcast : ((fm.fields.length - 1 : Nat) : Int) = (fm.fields.length : Int) - 1 := by omega
  go_wp2_with (go_at_call 78; refine (join_any _ _ _ _ (by omega) (by omega) (by omega) (by omega) (by omega) (by omega)).mono ?_; rintro e w' ⟨rfl, rfl⟩)
  all_goals go_ret
  · exact ⟨rb (by simp [endS, *]), hb1.al⟩
  · exact ⟨rb (by simp [endS, *]), hb1.al⟩

/-- what 'exists' computes within a field; inn: for the state of the nested format -/
def kindS (x : Fld) (inn : Fld → Int → Bool) (s : Int) : Bool :=
  if x.kind = 1 then s % 256 == 0 && decide (s / 256 % 1024 < x.bytes.size)
  else if x.kind = 2 then s % 256 == 0 && decide (s / 256 % 1024 < x.n)
  else if x.kind = 4 then s % 256 == 0 && s / 256 % 1024 == 0
  else if x.kind = 3 then s % 256 == 0 && decide (s / 256 % 1024 ≤ x.n)
  else if x.kind = 6 then s % 256 == 0 && decide (s / 256 % 1024 ≤ x.high)
  else if s / 256 % 1024 = 0 then s % 256 == 0
  else decide (s / 256 % 1024 ≤ 255) && inn x (s % 256 / 32 * 262144 + s % 32 * 256)
def xsS (F : List Fld) (inn : Fld → Int → Bool) (s : Int) : Bool :=
  if s < 0 then false else
  match F[(s / 262144).toNat]? with
  | none => endS F s
  | some x => kindS x inn s
theorem xsS_some {F : List Fld} {inn : Fld → Int → Bool} {s : Int} {f : Nat} {x : Fld} (h : 0 ≤ s) (hf : s / 262144 = f) (hx : F[f]? = some x) : xsS F inn s = kindS x inn s := by
  simp only [xsS, hf, Int.toNat_natCast, hx]; rw [if_neg (by omega)]

def exists0 (F : List Fld) (s : Int) : Bool := xsS F (fun _ _ => false) s
def innS (t : List Fmt) (x : Fld) (n : Int) : Bool := exists0 (t.getD x.n.toNat default).fields n && !endS (t.getD x.n.toNat default).fields n
def exists1 (t : List Fmt) (F : List Fld) (s : Int) : Bool := xsS F (innS t) s

set_option maxRecDepth 100000 in
set_option maxHeartbeats 1000000 in
theorem exists0_any {w : World} {B : Nat} {a : Option Addr} {t : List Fmt} {cap : Nat} {i : Nat} {fm : Fmt} (s : Int) (h1 : s ≤ 9223372036854775807) (hT : TabA w B a t) (hB : B ≤ w.heap.size) (hi : t[i]? = some fm) (hne : fm.fields ≠ []) (hle : fm.fields.length ≤ 100)
    (hp : ∀ x ∈ fm.fields, x.kind = 1 ∨ x.kind = 2 ∨ x.kind = 3 ∨ x.kind = 4 ∨ x.kind = 6) :
   Calls Try.prog 53 #[.agg #[.slice a t.length cap, .int .i64 i], .int .i64 s] w fun e w' => e = .returned (.bool (exists0 fm.fields s)) ∧ Ext w w' := by
  by_cases hs : s < 0
  · go_enter Try.func53, Try.ntmps53
    go_wp2_with fail
    go_ret
    exact ⟨rb (by simp [exists0, xsS, hs]), by repeat (first | exact Ext.refl _ | exact Ext.alloc _ _ | apply Ext.then_dr | (refine Ext.then_al ?_ _))⟩
  · have hs0 : 0 ≤ s := by omega
    obtain ⟨f, hfs⟩ : ∃ f : Nat, s / 262144 = f := ⟨(s / 262144).toNat, by omega⟩
    cases hx : fm.fields[f]? with
    | none =>
      have hres : exists0 fm.fields s = endS fm.fields s := by simp [exists0, xsS, hs, hfs, hx]
      have hlen : fm.fields.length ≤ f := List.getElem?_eq_none_iff.1 hx
      rw [hres]
      have HX := Lib.hid hx; clear hx
      have HR := Lib.hid hres; clear hres
      go_enter Try.func53, Try.ntmps53
      go_wp2_with fail
      refine (split_any _ _ hs0 h1).mono ?_
      rintro e w' ⟨rfl, rfl⟩
      go_wp2_with fail
      refine (fields_any (hT.alloc hB _) (by simp; omega) hi).mono ?_
      rintro e w1 ⟨fa, fcap, rfl, hF, hb1⟩
      obtain ⟨hc1, -, hs1⟩ := hb1.cells1
      go_wp2_with fail
      refine (end_any s (hT.ext hB hb1.al) (by have := hb1.al.size; omega) hi hne hle).mono ?_
      rintro e w2 ⟨rfl, hb2⟩
      go_wp2_with fail
      go_ret
      exact ⟨rfl, hb1.al.trans hb2⟩
    | some x =>
      have hmem := List.mem_of_getElem? hx
      have hlen := lt_of_get hx
      have hx' := hx
      have hs' := hs
      rcases hp x hmem with hk | hk | hk | hk | hk
      all_goals
        have HX := Lib.hid hx; clear hx
        go_enter Try.func53, Try.ntmps53
        go_wp2_with fail
        refine (split_any _ _ hs0 h1).mono ?_
        rintro e w' ⟨rfl, rfl⟩
        go_wp2_with fail
        refine (fields_any (hT.alloc hB _) (by simp; omega) hi).mono ?_
        rintro e w1 ⟨fa, fcap, rfl, hF, hb1⟩
        obtain ⟨-, hF⟩ := hF.ext (by simp; omega) hb1
        obtain ⟨fb, foff, rfl, hfb, hF⟩ := hF hne
        obtain ⟨c0, c1, c2, c3, c4, cw⟩ := hF _ _ hx'
        clear hF hx'
        have hb1s := hb1.size
        simp at hb1s
        have hsz : fb < w1.heap.size := by omega
        go_wp2_with fail
        all_goals go_ret
        all_goals exact ⟨rb (by rw [exists0, xsS_some hs0 hfs HX.out]; simp [kindS, *]), hb1.al.trans (by repeat (first | exact Ext.refl _ | exact Ext.alloc _ _ | apply Ext.then_dr | (refine Ext.then_al ?_ _)))⟩

set_option maxRecDepth 100000 in
set_option maxHeartbeats 1000000 in
theorem exists1_any {w : World} {B : Nat} {a : Option Addr} {t : List Fmt} {cap : Nat} {i : Nat} {fm : Fmt} (s : Int) (h1 : s ≤ 9223372036854775807) (hT : TabA w B a t) (hB : B ≤ w.heap.size) (hi : t[i]? = some fm) (hne : fm.fields ≠ []) (hle : fm.fields.length ≤ 100)
    (hp : ∀ x ∈ fm.fields, x.kind = 1 ∨ x.kind = 2 ∨ x.kind = 3 ∨ x.kind = 4 ∨ x.kind = 6 ∨ x.kind = 5)
    (hnest : ∀ x ∈ fm.fields, x.kind = 5 → ∃ j : Nat, x.n = j ∧ ∃ gm, t[j]? = some gm ∧ gm.fields ≠ [] ∧ gm.fields.length ≤ 100 ∧ ∀ y ∈ gm.fields, y.kind = 1 ∨ y.kind = 2 ∨ y.kind = 3 ∨ y.kind = 4 ∨ y.kind = 6) :
   Calls Try.prog 53 #[.agg #[.slice a t.length cap, .int .i64 i], .int .i64 s] w fun e w' => e = .returned (.bool (exists1 t fm.fields s)) ∧ Ext w w' := by
  by_cases hs : s < 0
  · go_enter Try.func53, Try.ntmps53
    go_wp2_with fail
    go_ret
    exact ⟨rb (by simp [exists1, xsS, hs]), by repeat (first | exact Ext.refl _ | exact Ext.alloc _ _ | apply Ext.then_dr | (refine Ext.then_al ?_ _))⟩
  · have hs0 : 0 ≤ s := by omega
    obtain ⟨f, hfs⟩ : ∃ f : Nat, s / 262144 = f := ⟨(s / 262144).toNat, by omega⟩
    cases hx : fm.fields[f]? with
    | none =>
      have hres : exists1 t fm.fields s = endS fm.fields s := by simp [exists1, xsS, hs, hfs, hx]
      have hlen : fm.fields.length ≤ f := List.getElem?_eq_none_iff.1 hx
      rw [hres]
      have HX := Lib.hid hx; clear hx
      have HR := Lib.hid hres; clear hres
      go_enter Try.func53, Try.ntmps53
      go_wp2_with fail
      refine (split_any _ _ hs0 h1).mono ?_
      rintro e w' ⟨rfl, rfl⟩
      go_wp2_with fail
      refine (fields_any (hT.alloc hB _) (by simp; omega) hi).mono ?_
      rintro e w1 ⟨fa, fcap, rfl, hF, hb1⟩
      obtain ⟨hc1, -, hs1⟩ := hb1.cells1
      go_wp2_with fail
      refine (end_any s (hT.ext hB hb1.al) (by have := hb1.al.size; omega) hi hne hle).mono ?_
      rintro e w2 ⟨rfl, hb2⟩
      go_wp2_with fail
      go_ret
      exact ⟨rfl, hb1.al.trans hb2⟩
    | some x =>
      have hmem := List.mem_of_getElem? hx
      have hlen := lt_of_get hx
      have hx' := hx
      rcases hp x hmem with hk | hk | hk | hk | hk | hk
      case inr.inr.inr.inr.inr =>
        obtain ⟨j, hj, gm, hgm, hgne, hgle, hgp⟩ := hnest x hmem hk
        have HX := Lib.hid hx; clear hx
        go_enter Try.func53, Try.ntmps53
        go_wp2_with fail
        refine (split_any _ _ hs0 h1).mono ?_
        rintro e w' ⟨rfl, rfl⟩
        go_wp2_with fail
        refine (fields_any (hT.alloc hB _) (by simp; omega) hi).mono ?_
        rintro e w1 ⟨fa, fcap, rfl, hF, hb1⟩
        obtain ⟨hc1, -, hs1⟩ := hb1.cells1
        obtain ⟨-, hF⟩ := hF.ext (by simp; omega) hb1
        obtain ⟨fb, foff, rfl, hfb, hF⟩ := hF hne
        obtain ⟨c0, c1, c2, c3, c4, cw⟩ := hF _ _ hx'
        clear hF hx'
        have hsz : fb < w1.heap.size := by omega
        have hT1 := hT.ext hB hb1.al
        have hl1 : w.heap.size < w1.heap.size := by omega
        by_cases hr : s / 256 % 1024 = 0
        · have e1 : (s / 256 % 1024 == 0) = true := by simp [hr]
          have HR := Lib.hid hr; clear hr
          go_wp2_with fail
          go_ret
          exact ⟨rb (by rw [exists1, xsS_some hs0 hfs HX.out]; simp [kindS, hk, HR.out]), hb1.al.trans (by repeat (first | exact Ext.refl _ | exact Ext.alloc _ _ | apply Ext.then_dr | (refine Ext.then_al ?_ _)))⟩
        · have e1 : (s / 256 % 1024 == 0) = false := by simp [hr]
          have HR := Lib.hid hr; clear hr
          go_wp2_with fail
          refine (inner_any _ _ _ _ _ _ _ _ _).mono ?_
          rintro e w2 ⟨rfl, hb2⟩
          obtain ⟨hc2, -, hs2⟩ := hb2.cells1
          have hb3 := hb1.al.trans hb2.al
          have hT3 := hT.ext hB hb3
          go_wp2_with fail
          refine (join_any _ _ _ _ (by omega) (by omega) (by omega) (by omega) (by omega) (by omega)).mono ?_
          rintro e w' ⟨rfl, rfl⟩
          by_cases h255 : s / 256 % 1024 ≤ 255
          · go_wp2_with fail
            refine (exists0_any _ (by omega) (hT3.alloc (by omega) _) (by simp; omega) hgm hgne hgle hgp).mono ?_
            rintro e w4 ⟨rfl, hb4⟩
            obtain ⟨hc4, -, hs4⟩ := hb4.cells1
            generalize hx0 : exists0 gm.fields (s % 256 / 32 * 262144 + s % 32 * 256) = x0
            have HX0 := Lib.hid hx0; clear hx0
            cases x0
            · go_wp2_with fail
              go_ret
              exact ⟨rb (by rw [exists1, xsS_some hs0 hfs HX.out]; simp [kindS, hk, HR.out, innS, hj, hgm, HX0.out]), hb3.trans hb4.al⟩
            · go_wp2_with fail
              refine (end_any _ ((hT3.alloc (by omega) _).ext (by simp; omega) hb4) (by omega) hgm hgne hgle).mono ?_
              rintro e w5 ⟨rfl, hb5⟩
              go_wp2_with fail
              go_ret
              exact ⟨rb (by rw [exists1, xsS_some hs0 hfs HX.out]; simp [kindS, hk, HR.out, innS, hj, hgm, HX0.out, h255]), hb3.trans (hb4.al.trans hb5)⟩
          · go_wp2_with fail
            go_ret
            exact ⟨rb (by rw [exists1, xsS_some hs0 hfs HX.out]; simp [kindS, hk, HR.out]; omega), hb3.trans (by repeat (first | exact Ext.refl _ | exact Ext.alloc _ _ | apply Ext.then_dr | (refine Ext.then_al ?_ _)))⟩
      all_goals
        have HX := Lib.hid hx; clear hx
        go_enter Try.func53, Try.ntmps53
        go_wp2_with fail
        refine (split_any _ _ hs0 h1).mono ?_
        rintro e w' ⟨rfl, rfl⟩
        go_wp2_with fail
        refine (fields_any (hT.alloc hB _) (by simp; omega) hi).mono ?_
        rintro e w1 ⟨fa, fcap, rfl, hF, hb1⟩
        obtain ⟨-, hF⟩ := hF.ext (by simp; omega) hb1
        obtain ⟨fb, foff, rfl, hfb, hF⟩ := hF hne
        obtain ⟨c0, c1, c2, c3, c4, cw⟩ := hF _ _ hx'
        clear hF hx'
        have hb1s := hb1.size
        simp at hb1s
        have hsz : fb < w1.heap.size := by omega
        go_wp2_with fail
        all_goals go_ret
        all_goals exact ⟨rb (by rw [exists1, xsS_some hs0 hfs HX.out]; simp [kindS, *]), hb1.al.trans (by repeat (first | exact Ext.refl _ | exact Ext.alloc _ _ | apply Ext.then_dr | (refine Ext.then_al ?_ _)))⟩


end Go.Proofs.Ythoelnoahfedmaa

namespace Go.Proofs.Ythoelnoahfedmaa
open Go.RowKit
set_option linter.unusedVariables false

/-- a state within a field -/
def stS (f r : Int) : Int := f * 262144 + r * 256

def cntS (f r n : Int) : Int := if r + 1 = n then stS (f + 1) 0 else stS f (r + 1)
def lftS (f r : Int) : Int := if r = 1 then stS (f + 1) 0 else stS f (r - 1)

theorem counted_any {w : World} (n r x f : Int) (br bx bf : Nat) (hr : w.cell? ⟨br, 0, none⟩ = some (.int .i64 r)) (hx : w.cell? ⟨bx, 0, none⟩ = some (.int .i64 (stS (f + 1) 0))) (hf : w.cell? ⟨bf, 0, none⟩ = some (.int .i64 f))
   (hf0 : 0 ≤ f) (hf1 : f ≤ 1000) (hr0 : 0 ≤ r) (hr1 : r ≤ 2000) :
   Calls Try.prog 79 #[.int .i64 n, .pointer (some ⟨br, 0, none⟩), .pointer (some ⟨bx, 0, none⟩), .pointer (some ⟨bf, 0, none⟩)] w fun e w' => e = .returned (.int .i64 (cntS f r n)) ∧ w = w' := by
  by_cases h : r + 1 = n
  · have e1 : (r + 1 == n) = true := by simp [h]
    have e2 : cntS f r n = stS (f + 1) 0 := by simp [cntS, h]
    rw [e2]
    have E2 := Lib.hid e2; clear e2
    have E3 := Lib.hid h; clear h
    go_enter Try.func79, Try.ntmps79
    go_wp2_with fail
    go_ret
    exact ⟨rfl, rfl⟩
  · have e1 : (r + 1 == n) = false := by simp [h]
    have e2 : cntS f r n = f * 262144 + (r + 1) * 256 + 0 := by simp [cntS, h, stS]
    rw [e2]
    have E2 := Lib.hid e2; clear e2
    have E3 := Lib.hid h; clear h
    go_enter Try.func79, Try.ntmps79
    go_wp2_with (go_at_call 78; refine (join_any _ _ _ _ (by omega) (by omega) (by omega) (by omega) (by omega) (by omega)).mono ?_; rintro e w' ⟨rfl, rfl⟩)
    go_ret
    exact ⟨by simp, rfl⟩

theorem left_any {w : World} (r x f : Int) (br bx bf : Nat) (hr : w.cell? ⟨br, 0, none⟩ = some (.int .i64 r)) (hx : w.cell? ⟨bx, 0, none⟩ = some (.int .i64 (stS (f + 1) 0))) (hf : w.cell? ⟨bf, 0, none⟩ = some (.int .i64 f))
   (hf0 : 0 ≤ f) (hf1 : f ≤ 1000) (hr0 : 0 ≤ r) (hr1 : r ≤ 2000) :
   Calls Try.prog 80 #[.pointer (some ⟨br, 0, none⟩), .pointer (some ⟨bx, 0, none⟩), .pointer (some ⟨bf, 0, none⟩)] w fun e w' => e = .returned (.int .i64 (lftS f r)) ∧ w = w' := by
  by_cases h : r = 1
  · have e1 : (r == 1) = true := by simp [h]
    have e2 : lftS f r = stS (f + 1) 0 := by simp [lftS, h]
    rw [e2]
    have E2 := Lib.hid e2; clear e2
    have E3 := Lib.hid h; clear h
    go_enter Try.func80, Try.ntmps80
    go_wp2_with fail
    go_ret
    exact ⟨rfl, rfl⟩
  · have e1 : (r == 1) = false := by simp [h]
    have e2 : lftS f r = f * 262144 + (r - 1) * 256 + 0 := by simp [lftS, h, stS]
    rw [e2]
    have E2 := Lib.hid e2; clear e2
    have E3 := Lib.hid h; clear h
    go_enter Try.func80, Try.ntmps80
    go_wp2_with (go_at_call 78; refine (join_any _ _ _ _ (by omega) (by omega) (by omega) (by omega) (by omega) (by omega)).mono ?_; rintro e w' ⟨rfl, rfl⟩)
    go_ret
    exact ⟨by simp, rfl⟩

/-- whether a state accepts -/
def accS (t : List Fmt) (F : List Fld) (s : Int) : Bool :=
  exists1 t F s && (s / 262144 == F.length || match F[(s / 262144).toNat]? with | some x => x.kind == 6 && decide (x.low ≤ s / 256 % 1024) | none => false)

theorem xsS_len {F : List Fld} {inn : Fld → Int → Bool} {s : Int} (h : xsS F inn s = true) : 0 ≤ s ∧ s / 262144 ≤ F.length := by
  unfold xsS at h
  split at h
  · simp at h
  · refine ⟨by omega, ?_⟩
    split at h
    · simp [endS] at h; omega
    · rename_i x hx
      have := lt_of_get hx
      omega

set_option maxRecDepth 100000 in
set_option maxHeartbeats 1000000 in
theorem accepts_any {w : World} {B : Nat} {a : Option Addr} {t : List Fmt} {cap : Nat} {i : Nat} {fm : Fmt} (s : Int) (h1 : s ≤ 9223372036854775807) (hT : TabA w B a t) (hB : B ≤ w.heap.size) (hi : t[i]? = some fm) (hne : fm.fields ≠ []) (hle : fm.fields.length ≤ 100)
    (hp : ∀ x ∈ fm.fields, x.kind = 1 ∨ x.kind = 2 ∨ x.kind = 3 ∨ x.kind = 4 ∨ x.kind = 6 ∨ x.kind = 5)
    (hnest : ∀ x ∈ fm.fields, x.kind = 5 → ∃ j : Nat, x.n = j ∧ ∃ gm, t[j]? = some gm ∧ gm.fields ≠ [] ∧ gm.fields.length ≤ 100 ∧ ∀ y ∈ gm.fields, y.kind = 1 ∨ y.kind = 2 ∨ y.kind = 3 ∨ y.kind = 4 ∨ y.kind = 6) :
   Calls Try.prog 36 #[.agg #[.slice a t.length cap, .int .i64 i], .int .i64 s] w fun e w' => e = .returned (.bool (accS t fm.fields s)) ∧ Ext w w' := by
  generalize hx0 : exists1 t fm.fields s = x0
  have HX0 := Lib.hid hx0
  cases x0
  · have e2 : accS t fm.fields s = false := by simp [accS, hx0]
    rw [e2]
    have E2 := Lib.hid e2; clear e2 hx0
    go_enter Try.func36, Try.ntmps36
    go_wp2_with fail
    refine (exists1_any _ h1 (hT.alloc hB _) (by simp; omega) hi hne hle hp hnest).mono ?_
    rw [HX0.out]
    rintro e w1 ⟨rfl, hb1⟩
    go_wp2_with fail
    go_ret
    exact ⟨rfl, hb1.al⟩
  · obtain ⟨h0, hlen⟩ := xsS_len hx0
    clear hx0
    obtain ⟨f, hfs⟩ : ∃ f : Nat, s / 262144 = f := ⟨(s / 262144).toNat, by omega⟩
    have hlen' : f ≤ fm.fields.length := by omega
    have HF := Lib.hid hfs; clear hfs
    go_enter Try.func36, Try.ntmps36
    go_wp2_with fail
    refine (exists1_any _ h1 (hT.alloc hB _) (by simp; omega) hi hne hle hp hnest).mono ?_
    rw [HX0.out]
    rintro e w1 ⟨rfl, hb1⟩
    obtain ⟨hc1, -, hs1⟩ := hb1.cells1
    go_wp2_with fail
    refine (split_any _ _ h0 h1).mono ?_
    rw [HF.out]
    rintro e w' ⟨rfl, rfl⟩
    go_wp2_with fail
    refine (fields_any (hT.ext hB hb1.al) (by omega) hi).mono ?_
    rintro e w2 ⟨fa, fcap, rfl, hF, hb2⟩
    by_cases hlt : f = fm.fields.length
    · have e1 : ((f : Int) == (fm.fields.length : Int)) = true := by simp [hlt]
      have HL := Lib.hid hlt; clear hlt
      go_wp2_with fail
      go_ret
      exact ⟨rb (by simp [accS, HX0.out, HF.out, HL.out]), hb1.al.trans hb2⟩
    · have e1 : ((f : Int) == (fm.fields.length : Int)) = false := by simp; omega
      have hlt' : f < fm.fields.length := by omega
      obtain ⟨x, hx⟩ : ∃ x, fm.fields[f]? = some x := ⟨_, List.getElem?_eq_getElem hlt'⟩
      obtain ⟨-, hF⟩ := hF.ext (by omega) hb2
      obtain ⟨fb, foff, rfl, hfb, hF⟩ := hF hne
      obtain ⟨c0, c1, c2, c3, c4, cw⟩ := hF _ _ hx
      clear hF
      have hs2 := hb2.size
      have hsz : fb < w2.heap.size := by omega
      have HX := Lib.hid hx; clear hx
      go_wp2_with fail
      all_goals go_ret
      all_goals exact ⟨rb (by simp only [accS, HX0.out, HF.out, HX.out, Int.toNat_natCast]; simp [*]), hb1.al.trans hb2⟩

end Go.Proofs.Ythoelnoahfedmaa

namespace Go.Proofs.Ythoelnoahfedmaa
open Go.RowKit
set_option linter.unusedVariables false
set_option linter.unusedSimpArgs false

theorem TabA.get {w : World} {B : Nat} {a : Option Addr} {t : List Fmt} {i : Nat} {fm : Fmt} (hT : TabA w B a t) (hi : t[i]? = some fm) (hne : fm.fields ≠ []) :
    ∃ tb toff fb foff fcap, a = some ⟨tb, toff, none⟩ ∧ tb < B ∧ w.cell? ⟨tb, toff + i * 2 + 1, none⟩ = some (.slice (some ⟨fb, foff, none⟩) fm.fields.length fcap) ∧ fb < B ∧ ∀ k x, fm.fields[k]? = some x → FldAt w fb (foff + k * 5) x := by
  obtain ⟨-, hT⟩ := hT
  obtain ⟨b, off, rfl, hb, hT⟩ := hT (ne_nil_of_get hi)
  obtain ⟨-, ⟨fa, fcap, hc, -, hF⟩, -⟩ := hT i fm hi
  obtain ⟨fb, foff, rfl, hfb, hF⟩ := hF hne
  exact ⟨b, off, fb, foff, fcap, rfl, hb, hc, hfb, hF⟩

theorem fields_at {w : World} {b off n cap : Nat} {i : Nat} {v : Value} (hi : i < n) (hn : n ≤ 9223372036854775807) (hc : w.cell? ⟨b, off + i * 2 + 1, none⟩ = some v) (hb : b < w.heap.size) :
   Calls Try.prog 62 #[.agg #[.slice (some ⟨b, off, none⟩) n cap, .int .i64 i]] w fun e w' => e = .returned v ∧ Ext w w' := by
  go_enter Try.func62, Try.ntmps62
  go_wp2
  go_ret
  exact ⟨rfl, by repeat (first | exact Ext.refl _ | exact Ext.alloc _ _ | apply Ext.then_dr | (refine Ext.then_al ?_ _))⟩

/-- the step within a field that is not nested -/
def stepK (x : Fld) (f r : Nat) (b : Nat) : Int :=
  if x.kind = 1 then (if (x.bytes.data.toList.getD r 0).toNat = b then cntS f r x.bytes.size else -1)
  else if x.kind = 2 then cntS f r x.n
  else if x.kind = 4 then (if x.low ≤ b ∧ b ≤ x.high then stS (f + 1) 0 else -1)
  else if x.kind = 3 then (if 0 < r then lftS f r else if b = 0 then stS (f + 1) 0 else if b ≤ x.n then stS f b else -1)
  else if r < x.high then stS f (r + 1) else -1

def pstep0 (F : List Fld) (s : Int) (b : Nat) : Int :=
  if exists0 F s = false ∨ endS F s = true then -1 else
  match F[(s / 262144).toNat]? with
  | none => -1
  | some x => stepK x (s / 262144).toNat (s / 256 % 1024).toNat b

set_option maxRecDepth 100000 in
set_option maxHeartbeats 2000000 in
theorem step0_any {w : World} {B : Nat} {a : Option Addr} {t : List Fmt} {cap : Nat} {i : Nat} {fm : Fmt} (s : Int) (b : Nat) (hb255 : b ≤ 255) (h1 : s ≤ 9223372036854775807) (hT : TabA w B a t) (hB : B ≤ w.heap.size) (hi : t[i]? = some fm) (hne : fm.fields ≠ []) (hle : fm.fields.length ≤ 100)
    (hp : ∀ x ∈ fm.fields, x.kind = 1 ∨ x.kind = 2 ∨ x.kind = 3 ∨ x.kind = 4 ∨ x.kind = 6) :
   Calls Try.prog 54 #[.agg #[.slice a t.length cap, .int .i64 i], .int .i64 s, .int .u8 b] w fun e w' => e = .returned (.int .i64 (pstep0 fm.fields s b)) ∧ Ext w w' := by
  generalize hx0 : exists0 fm.fields s = x0
  have HX0 := Lib.hid hx0
  generalize hx1 : endS fm.fields s = x1
  have HX1 := Lib.hid hx1
  by_cases hgo : x0 = false ∨ x1 = true
  · have e2 : pstep0 fm.fields s b = -1 := by simp [pstep0, hx0, hx1, hgo]
    rw [e2]
    have E2 := Lib.hid e2; clear e2 hx0 hx1
    go_enter Try.func54, Try.ntmps54
    go_wp2_with fail
    refine (exists0_any _ h1 (hT.alloc hB _) (by simp; omega) hi hne hle hp).mono ?_
    rw [HX0.out]
    rintro e w1 ⟨rfl, hb1⟩
    obtain ⟨hc1, -, hs1⟩ := hb1.cells1
    cases x0
    · go_wp2_with fail
      go_ret
      exact ⟨rfl, hb1.al⟩
    · go_wp2_with fail
      refine (end_any _ (hT.ext hB hb1.al) (by omega) hi hne hle).mono ?_
      rw [HX1.out]
      have hx1t : x1 = true := by simpa using hgo
      subst hx1t
      rintro e w2 ⟨rfl, hb2⟩
      go_wp2_with fail
      go_ret
      exact ⟨rfl, hb1.al.trans hb2⟩
  · obtain ⟨rfl, rfl⟩ : x0 = true ∧ x1 = false := by simpa using hgo
    obtain ⟨h0, hlen⟩ := xsS_len hx0
    obtain ⟨f, hfs⟩ : ∃ f : Nat, s / 262144 = f := ⟨(s / 262144).toNat, by omega⟩
    obtain ⟨r, hrs⟩ : ∃ r : Nat, s / 256 % 1024 = r := ⟨(s / 256 % 1024).toNat, by omega⟩
    have hr1024 : r < 1024 := by omega
    have hlt : f < fm.fields.length := by
      rcases Nat.lt_or_ge f fm.fields.length with h | h
      · exact h
      · exfalso
        have : fm.fields[f]? = none := List.getElem?_eq_none_iff.2 h
        unfold exists0 xsS at hx0
        rw [if_neg (by omega), hfs, Int.toNat_natCast, this] at hx0
        rw [hx1] at hx0
        cases hx0
    obtain ⟨x, hx⟩ : ∃ x, fm.fields[f]? = some x := ⟨_, List.getElem?_eq_getElem hlt⟩
    have hmem := List.mem_of_getElem? hx
    have hk0 : kindS x (fun _ _ => false) s = true := by rw [exists0, xsS_some h0 hfs hx] at hx0; exact hx0
    have e2 : pstep0 fm.fields s b = stepK x f r b := by simp only [pstep0, hx0, hx1, hfs, hrs, Int.toNat_natCast, hx]; simp
    rw [e2]
    have E2 := Lib.hid e2
    have HF := Lib.hid hfs
    have HR := Lib.hid hrs
    have HX := Lib.hid hx
    have HK := Lib.hid hk0
    clear e2 hx0 hx1 hfs hrs hx hk0 hgo
    go_enter Try.func54, Try.ntmps54
    go_wp2_with fail
    refine (exists0_any _ h1 (hT.alloc hB _) (by simp; omega) hi hne hle hp).mono ?_
    rw [HX0.out]
    rintro e w1 ⟨rfl, hb1⟩
    obtain ⟨hc1, -, hs1⟩ := hb1.cells1
    go_wp2_with fail
    refine (end_any _ (hT.ext hB hb1.al) (by omega) hi hne hle).mono ?_
    rw [HX1.out]
    rintro e w2 ⟨rfl, hb2⟩
    obtain ⟨hc2, -⟩ := hb2.cells
    have hs2 := hb2.size
    have hla : w.heap.size < w1.heap.size := by omega
    go_wp2_with fail
    refine (split_any _ _ h0 h1).mono ?_
    rw [HF.out, HR.out]
    rintro e w' ⟨rfl, rfl⟩
    go_wp2_with fail
    obtain ⟨tb, toff, fb, foff, fcap, rfl, htb, htc, hfb, hF⟩ := hT.get hi hne
    obtain ⟨c0, c1, c2, c3, c4, cw⟩ := hF _ _ HX.out
    have hin := lt_of_get hi
    have hn63 := hT.1
    unfold maxLen at hn63
    have hw2 : w.heap.size < w2.heap.size := by omega
    have k0 : w2.cell? ⟨w.heap.size, 0, none⟩ = some (.slice (some ⟨tb, toff, none⟩) t.length cap) := by rw [hc2 _ _ (by omega), hc1 _ _ (by omega)]; simp
    have k1 : w2.cell? ⟨w.heap.size, 1, none⟩ = some (.int .i64 i) := by rw [hc2 _ _ (by omega), hc1 _ _ (by omega)]; simp
    have d := fun o => (hb1.al.trans hb2).cell (b := fb) (o := o) (by omega)
    have d' := (hb1.al.trans hb2).cell (b := tb) (o := toff + i * 2 + 1) (by omega)
    rw [← d'] at htc
    rw [← d] at c0 c1 c2 c3 c4
    clear d d' hF hc1 hc2
    obtain ⟨W, hW⟩ : ∃ W, W = (w2.alloc (Obj.cells #[Value.int IntKind.i64 ↑f] 3)).alloc (Obj.cells #[Value.int IntKind.i64 ↑r] 3) := ⟨_, rfl⟩
    go_cut [10] (fun s10 wx => ∃ g : Nat, s10 = .pointer (some ⟨g, 0, none⟩) ∧ w2.heap.size + 2 ≤ g ∧ Ext ((w2.alloc (Obj.cells #[Value.int IntKind.i64 ↑f] 3)).alloc (Obj.cells #[Value.int IntKind.i64 ↑r] 3)) wx ∧
      wx.heap[g]? = some (.cells #[.int .i64 x.kind, .string x.bytes, .int .i64 x.n, .int .i64 x.low, .int .i64 x.high] 39))
    case first =>
      have k0 := cs_al (o := Obj.cells #[Value.int IntKind.i64 ↑r] 3) (cs_al (o := Obj.cells #[Value.int IntKind.i64 ↑f] 3) k0)
      have k1 := cs_al (o := Obj.cells #[Value.int IntKind.i64 ↑r] 3) (cs_al (o := Obj.cells #[Value.int IntKind.i64 ↑f] 3) k1)
      have k2 : ((w2.alloc (Obj.cells #[Value.int IntKind.i64 ↑f] 3)).alloc (Obj.cells #[Value.int IntKind.i64 ↑r] 3)).cell? ⟨w2.heap.size, 0, none⟩ = some (.int .i64 f) := cs_al (cs_new rfl)
      have htc := cs_al (o := Obj.cells #[Value.int IntKind.i64 ↑r] 3) (cs_al (o := Obj.cells #[Value.int IntKind.i64 ↑f] 3) htc)
      have c0 := cs_al (o := Obj.cells #[Value.int IntKind.i64 ↑r] 3) (cs_al (o := Obj.cells #[Value.int IntKind.i64 ↑f] 3) c0)
      have c1 := cs_al (o := Obj.cells #[Value.int IntKind.i64 ↑r] 3) (cs_al (o := Obj.cells #[Value.int IntKind.i64 ↑f] 3) c1)
      have c2 := cs_al (o := Obj.cells #[Value.int IntKind.i64 ↑r] 3) (cs_al (o := Obj.cells #[Value.int IntKind.i64 ↑f] 3) c2)
      have c3 := cs_al (o := Obj.cells #[Value.int IntKind.i64 ↑r] 3) (cs_al (o := Obj.cells #[Value.int IntKind.i64 ↑f] 3) c3)
      have c4 := cs_al (o := Obj.cells #[Value.int IntKind.i64 ↑r] 3) (cs_al (o := Obj.cells #[Value.int IntKind.i64 ↑f] 3) c4)
      refine wp_region_calm 6 (fun w' => Ext ((w2.alloc (Obj.cells #[Value.int IntKind.i64 ↑f] 3)).alloc (Obj.cells #[Value.int IntKind.i64 ↑r] 3)) w') (by kernel_rfl) (by kernel_rfl) (fun _ _ h hE => h.trans hE) (Ext.drew _) ?_
      refine calm_value (fun _ => rfl) ?_ (fun g w' hE => ?_) ?_
      rotate_left
      · (have zz0 := cs_ext hE k0; have zz1 := cs_ext hE k1; have zz2 := cs_ext hE k2; have zz3 := cs_ext hE c0; have zz4 := cs_ext hE c1; have zz5 := cs_ext hE c2; have zz6 := cs_ext hE c3; have zz7 := cs_ext hE c4; go_simp; first | done | rfl)
      refine calm_call' (fun _ => rfl) 62 ?_ (fun g w' hE => ?_) ?_
      rotate_left
      · (have zz0 := cs_ext hE k0; have zz1 := cs_ext hE k1; have zz2 := cs_ext hE k2; have zz3 := cs_ext hE c0; have zz4 := cs_ext hE c1; have zz5 := cs_ext hE c2; have zz6 := cs_ext hE c3; have zz7 := cs_ext hE c4; go_simp; first | done | exact ⟨rfl, rfl⟩ | rfl)
      apply Exists.intro
      refine And.intro (fun w' hE => ?_) ?_
      · exact fields_at hin hn63 (cs_ext hE htc) (by have := hE.size; simp at this; omega)
      refine calm_value (fun _ => rfl) ?_ (fun g w' hE => ?_) ?_
      rotate_left
      · (have zz0 := cs_ext hE k0; have zz1 := cs_ext hE k1; have zz2 := cs_ext hE k2; have zz3 := cs_ext hE c0; have zz4 := cs_ext hE c1; have zz5 := cs_ext hE c2; have zz6 := cs_ext hE c3; have zz7 := cs_ext hE c4; go_simp; first | done | rfl)
      refine calm_value (fun _ => rfl) ?_ (fun g w' hE => ?_) ?_
      rotate_left
      · (have zz0 := cs_ext hE k0; have zz1 := cs_ext hE k1; have zz2 := cs_ext hE k2; have zz3 := cs_ext hE c0; have zz4 := cs_ext hE c1; have zz5 := cs_ext hE c2; have zz6 := cs_ext hE c3; have zz7 := cs_ext hE c4; go_simp; first | done | rfl)
      refine calm_value (fun _ => rfl) ?_ (fun g w' hE => ?_) ?_
      rotate_left
      · (have zz0 := cs_ext hE k0; have zz1 := cs_ext hE k1; have zz2 := cs_ext hE k2; have zz3 := cs_ext hE c0; have zz4 := cs_ext hE c1; have zz5 := cs_ext hE c2; have zz6 := cs_ext hE c3; have zz7 := cs_ext hE c4; go_simp; first | done | rfl)
      refine calm_fresh (fun _ => rfl) (fun n => .pointer (some ⟨n, 0, none⟩)) ?_ (fun g w' hE => ?_) ?_
      rotate_left
      · (have zz0 := cs_ext hE k0; have zz1 := cs_ext hE k1; have zz2 := cs_ext hE k2; have zz3 := cs_ext hE c0; have zz4 := cs_ext hE c1; have zz5 := cs_ext hE c2; have zz6 := cs_ext hE c3; have zz7 := cs_ext hE c4; go_simp; first | done | rfl | exact ⟨rfl, rfl⟩)
      intro g wz hE hF
      simp only [List.drop_succ_cons, List.drop_zero, Act.put, List.setIfInBounds_toArray, List.set_cons_succ, List.set_cons_zero]
      obtain ⟨-, hF, -⟩ := hF
      obtain ⟨hg, hge⟩ := hF _ List.mem_cons_self
      simp at hg hge
      refine wpList_store_all rfl 39 (.tmp 10) (.tmp 38) rfl (g 5) _ rfl rfl 39 _ hg (by kernel_rfl) rfl (by simp [Value.oneCell']) ?_
      go_wp2_with fail

      go_meet
      exact ⟨g 5, rfl, by omega, hE.setRow (by simp; omega) _, setRow_heap _ _ _ _ _ _ hg⟩
    case rest =>
      obtain ⟨g, rfl, hg2, hEc, hgc⟩ := hcut
      have r0 := cs_ext hEc (cs_al (o := Obj.cells #[Value.int IntKind.i64 ↑r] 3) (cs_al (o := Obj.cells #[Value.int IntKind.i64 ↑f] 3) k0))
      have r1 := cs_ext hEc (cs_al (o := Obj.cells #[Value.int IntKind.i64 ↑r] 3) (cs_al (o := Obj.cells #[Value.int IntKind.i64 ↑f] 3) k1))
      have rf : wc.cell? ⟨w2.heap.size, 0, none⟩ = some (.int .i64 f) := cs_ext hEc (cs_al (cs_new rfl))
      have rr : wc.cell? ⟨w2.heap.size + 1, 0, none⟩ = some (.int .i64 r) := cs_ext hEc (by rw [← World.size_alloc w2 (Obj.cells #[Value.int IntKind.i64 ↑f] 3)]; exact cs_new rfl)
      have g0 : wc.cell? ⟨g, 0, none⟩ = some (.int .i64 x.kind) := by rw [cell_of_row _ _ _ _ _ _ hgc]; rfl
      have g1 : wc.cell? ⟨g, 1, none⟩ = some (.string x.bytes) := by rw [cell_of_row _ _ _ _ _ _ hgc]; rfl
      have g2 : wc.cell? ⟨g, 2, none⟩ = some (.int .i64 x.n) := by rw [cell_of_row _ _ _ _ _ _ hgc]; rfl
      have g3 : wc.cell? ⟨g, 3, none⟩ = some (.int .i64 x.low) := by rw [cell_of_row _ _ _ _ _ _ hgc]; rfl
      have g4 : wc.cell? ⟨g, 4, none⟩ = some (.int .i64 x.high) := by rw [cell_of_row _ _ _ _ _ _ hgc]; rfl
      have hsc := hEc.size
      simp only [World.size_alloc] at hsc
      have hglt : g < wc.heap.size := World.block_lt_of_cell? wc _ g0
      have hEw : Ext w wc := (hb1.al.trans hb2).trans (((Ext.alloc _ _).trans (Ext.alloc _ _)).trans hEc)
      have l1 : w2.heap.size < wc.heap.size := by omega
      have l2 : w2.heap.size + 1 < wc.heap.size := by omega
      clear k0 k1 htc c0 c1 c2 c3 c4 hEc hgc hb1 hb2 hs1 hs2
      have hnx : (wc.alloc (Obj.cells #[Value.int IntKind.i64 ((↑f + 1) * 262144)] 3)).cell? ⟨wc.heap.size, 0, none⟩ = some (.int .i64 (stS (f + 1) 0)) := by rw [cs_new rfl]; simp [stS]
      have hf1000 : f ≤ 1000 := by omega
      rcases hp x hmem with hk | hk | hk | hk | hk
      · have hK1 := HK.out
        simp only [kindS, hk, if_true, HR.out] at hK1
        have HBR : Hid (x.bytes.data.toList.getD r 0 = x.bytes[r]'(by simpa using (Bool.and_eq_true_iff.1 hK1).2)) := by
          have : r < x.bytes.size := by simpa using (Bool.and_eq_true_iff.1 hK1).2
          show _ = _
          rw [List.getD_eq_getElem?_getD, List.getElem?_eq_getElem (by simpa using this)]
          rfl
        have hrb : r < x.bytes.size := by simpa using (Bool.and_eq_true_iff.1 hK1).2
        by_cases hbb : x.bytes[r].toNat = b
        · have e1 : (((x.bytes[r].toNat : Nat) : Int) == (b : Int)) = true := by simp; omega
          have HBB := Lib.hid hbb; clear hbb
          go_wp2_with fail
          refine (join_any _ _ _ _ (by omega) (by omega) (by omega) (by omega) (by omega) (by omega)).mono ?_
          rintro e w' ⟨rfl, rfl⟩
          go_wp2_with fail
          refine (counted_any _ _ 0 f _ _ _ (cs_al rr) hnx (cs_al rf) (by omega) (by omega) (by omega) (by omega)).mono ?_
          rintro e w' ⟨rfl, rfl⟩
          go_wp2_with fail
          go_ret
          exact ⟨ri (by simp only [stepK, hk, if_true]; rw [HBR.out, if_pos HBB.out]), hEw.then_al _⟩
        · have e1 : (((x.bytes[r].toNat : Nat) : Int) == (b : Int)) = false := by simp; omega
          have HBB := Lib.hid hbb; clear hbb
          go_wp2_with fail
          refine (join_any _ _ _ _ (by omega) (by omega) (by omega) (by omega) (by omega) (by omega)).mono ?_
          rintro e w' ⟨rfl, rfl⟩
          go_wp2_with fail
          go_ret
          exact ⟨ri (by simp only [stepK, hk, if_true]; rw [HBR.out, if_neg HBB.out]), hEw.then_al _⟩
      · have hK1 := HK.out
        clear HK
        go_wp2_with fail
        refine (join_any _ _ _ _ (by omega) (by omega) (by omega) (by omega) (by omega) (by omega)).mono ?_
        rintro e w' ⟨rfl, rfl⟩
        go_wp2_with fail
        refine (counted_any _ _ 0 f _ _ _ (cs_al rr) hnx (cs_al rf) (by omega) (by omega) (by omega) (by omega)).mono ?_
        rintro e w' ⟨rfl, rfl⟩
        go_wp2_with fail
        go_ret
        exact ⟨ri (by simp [stepK, hk]), hEw.then_al _⟩
      · have hK1 := HK.out
        have hxn : I64 x.n := cw.n
        unfold I64 at hxn
        clear HK
        by_cases hr0 : 0 < r
        · have e1 : decide ((0 : Int) < (r : Int)) = true := by simp; omega
          go_wp2_with fail
          refine (join_any _ _ _ _ (by omega) (by omega) (by omega) (by omega) (by omega) (by omega)).mono ?_
          rintro e w' ⟨rfl, rfl⟩
          go_wp2_with fail
          refine (left_any _ 0 f _ _ _ (cs_al rr) hnx (cs_al rf) (by omega) (by omega) (by omega) (by omega)).mono ?_
          rintro e w' ⟨rfl, rfl⟩
          go_wp2_with fail
          go_ret
          exact ⟨ri (by simp [stepK, hk, hr0]), hEw.then_al _⟩
        · have e1 : decide ((0 : Int) < (r : Int)) = false := by simp; omega
          by_cases hb0 : b = 0
          · have e2 : ((b : Int) == 0) = true := by simp; omega
            go_wp2_with fail
            refine (join_any _ _ _ _ (by omega) (by omega) (by omega) (by omega) (by omega) (by omega)).mono ?_
            rintro e w' ⟨rfl, rfl⟩
            go_wp2_with fail
            go_ret
            exact ⟨ri (by simp [stepK, hk, hr0, hb0, stS]), hEw.then_al _⟩
          · have e2 : ((b : Int) == 0) = false := by simp; omega
            by_cases hbn : (b : Int) ≤ x.n
            · go_wp2_with fail
              refine (join_any _ _ _ _ (by omega) (by omega) (by omega) (by omega) (by omega) (by omega)).mono ?_
              rintro e w' ⟨rfl, rfl⟩
              go_wp2_with fail
              refine (join_any _ _ _ _ (by omega) (by omega) (by omega) (by omega) (by omega) (by omega)).mono ?_
              rintro e w' ⟨rfl, rfl⟩
              go_wp2_with fail
              go_ret
              exact ⟨ri (by simp [stepK, hk, hr0, hb0, stS]; omega), hEw.then_al _⟩
            · go_wp2_with fail
              refine (join_any _ _ _ _ (by omega) (by omega) (by omega) (by omega) (by omega) (by omega)).mono ?_
              rintro e w' ⟨rfl, rfl⟩
              go_wp2_with fail
              go_ret
              exact ⟨ri (by simp [stepK, hk, hr0, hb0, stS]; omega), hEw.then_al _⟩
      · have hK1 := HK.out
        clear HK
        go_wp2_with fail
        refine (join_any _ _ _ _ (by omega) (by omega) (by omega) (by omega) (by omega) (by omega)).mono ?_
        rintro e w' ⟨rfl, rfl⟩
        go_wp2_with fail
        all_goals go_ret
        all_goals exact ⟨ri (by simp [stepK, hk, stS]; omega), hEw.then_al _⟩
      · have hK1 := HK.out
        clear HK
        go_wp2_with fail
        refine (join_any _ _ _ _ (by omega) (by omega) (by omega) (by omega) (by omega) (by omega)).mono ?_
        rintro e w' ⟨rfl, rfl⟩
        go_wp2_with fail
        · refine (join_any _ _ _ _ (by omega) (by omega) (by omega) (by omega) (by omega) (by omega)).mono ?_
          rintro e w' ⟨rfl, rfl⟩
          go_wp2_with fail
          go_ret
          exact ⟨ri (by simp [stepK, hk, stS]; omega), hEw.then_al _⟩
        · go_ret
          exact ⟨ri (by simp [stepK, hk, stS]; omega), hEw.then_al _⟩

end Go.Proofs.Ythoelnoahfedmaa
