/- Contracts of the automaton. -/
import Derived.Test.YthoelnoahfedmaaW1
namespace Go.Proofs.Ythoelnoahfedmaa
open Go.RowKit
set_option linter.unusedVariables false

theorem fields_any {w : World} {B : Nat} {a : Option Addr} {t : List Fmt} {cap : Nat} {i : Nat} {fm : Fmt} (hT : TabA w B a t) (hB : B ≤ w.heap.size) (hi : t[i]? = some fm) :
   Calls Try.prog 62 #[.agg #[.slice a t.length cap, .int .i64 i]] w fun e w' => ∃ fa fcap, e = .returned (.slice fa fm.fields.length fcap) ∧ FldsA w B fa fm.fields ∧ Ext w w' := by
  obtain ⟨hlen, hT⟩ := hT
  unfold maxLen at hlen
  obtain ⟨b, off, rfl, hb, hT⟩ := hT (ne_nil_of_get hi)
  have hlt := lt_of_get hi
  obtain ⟨-, ⟨fa, fcap, hc, hF⟩, -⟩ := hT i fm hi
  clear hT
  have hb' : b < w.heap.size := by omega
  go_enter Try.func62, Try.ntmps62
  go_wp2
  go_ret
  exact ⟨fa, fcap, rfl, hF, by repeat (first | exact Ext.refl _ | exact Ext.alloc _ _ | apply Ext.then_dr | (refine Ext.then_al ?_ _))⟩

theorem inner_any {w : World} (a : Option Addr) (n cap : Nat) (i : Int) (k x l h : Int) (b : ByteArray) :
   Calls Try.prog 77 #[.agg #[.slice a n cap, .int .i64 i], .agg #[.int .i64 k, .string b, .int .i64 x, .int .i64 l, .int .i64 h]] w fun e w' => e = .returned (.agg #[.slice a n cap, .int .i64 x]) ∧ Ext w w' := by
  go_enter Try.func77, Try.ntmps77
  go_wp2
  exact bodyPost_ret (v := .agg #[.slice a n cap, .int .i64 x]) (by simp [results, Try.results77, go_sem]) rfl ⟨rfl, by repeat (first | exact Ext.refl _ | exact Ext.alloc _ _ | apply Ext.then_dr | (refine Ext.then_al ?_ _))⟩

/-- whether the last field is no rest -/
def noRest (F : List Fld) : Bool := match F.getLast? with | some x => x.kind != 6 | none => false
/-- the end -/
def endS (F : List Fld) (s : Int) : Bool := s == F.length * 262144 && noRest F

theorem end_any {w : World} {B : Nat} {a : Option Addr} {t : List Fmt} {cap : Nat} {i : Nat} {fm : Fmt} (s : Int) (hT : TabA w B a t) (hB : B ≤ w.heap.size) (hi : t[i]? = some fm) (hne : fm.fields ≠ []) (hle : fm.fields.length ≤ 100) :
   Calls Try.prog 76 #[.agg #[.slice a t.length cap, .int .i64 i], .int .i64 s] w fun e w' => e = .returned (.bool (endS fm.fields s)) ∧ Ext w w' := by
  have hpos : 0 < fm.fields.length := List.length_pos_iff.2 hne
  obtain ⟨x, hx⟩ : ∃ x, fm.fields[fm.fields.length - 1]? = some x := ⟨_, List.getElem?_eq_getElem (by omega)⟩
  have hres : noRest fm.fields = (x.kind != 6) := by simp [noRest, List.getLast?_eq_getElem?, hx]
  go_enter Try.func76, Try.ntmps76
  go_wp2_with fail
  refine (fields_any (hT.alloc hB _) (by simp; omega) hi).mono ?_
  rintro e w1 ⟨fa, fcap, rfl, hF, hb1⟩
  obtain ⟨-, hF⟩ := hF.ext (by simp; omega) hb1
  obtain ⟨fb, foff, rfl, hfb, hF⟩ := hF hne
  have hk := (hF _ _ hx).kind
  clear hF
  have hb1s := hb1.size
  simp at hb1s
  have hsz : fb < w1.heap.size := by omega
  have hcast : ((fm.fields.length - 1 : Nat) : Int) = (fm.fields.length : Int) - 1 := by omega
  go_wp2_with (go_at_call 78; refine (join_any _ _ _ _ (by omega) (by omega) (by omega) (by omega) (by omega) (by omega)).mono ?_; rintro e w' ⟨rfl, rfl⟩)
  all_goals go_ret
  · exact ⟨rb (by simp [endS, *]), hb1.al⟩
  · exact ⟨rb (by simp [endS, *]), hb1.al⟩

/-- what 'exists' computes within a field; inn: for the state of the nested format -/
def kindS (x : Fld) (inn : Fld → Int → Bool) (s : Int) : Bool :=
  if x.kind = 1 then s % 256 == 0 && decide (s / 256 % 1024 < x.bytes.size)
  else if x.kind = 2 then s % 256 == 0 && decide (s / 256 % 1024 < x.n)
  else if x.kind = 4 then s % 256 == 0 && s / 256 % 1024 == 0
  else if x.kind = 3 then s % 256 == 0 && decide (s / 256 % 1024 ≤ x.n)
  else if x.kind = 6 then s % 256 == 0 && decide (s / 256 % 1024 ≤ x.high)
  else if s / 256 % 1024 = 0 then s % 256 == 0
  else decide (s / 256 % 1024 ≤ 255) && inn x (s % 256 / 32 * 262144 + s % 32 * 256)
def xsS (F : List Fld) (inn : Fld → Int → Bool) (s : Int) : Bool :=
  if s < 0 then false else
  match F[(s / 262144).toNat]? with
  | none => endS F s
  | some x => kindS x inn s
theorem xsS_some {F : List Fld} {inn : Fld → Int → Bool} {s : Int} {f : Nat} {x : Fld} (h : 0 ≤ s) (hf : s / 262144 = f) (hx : F[f]? = some x) : xsS F inn s = kindS x inn s := by
  simp only [xsS, hf, Int.toNat_natCast, hx]; rw [if_neg (by omega)]

def exists0 (F : List Fld) (s : Int) : Bool := xsS F (fun _ _ => false) s
def innS (t : List Fmt) (x : Fld) (n : Int) : Bool := exists0 (t.getD x.n.toNat default).fields n && !endS (t.getD x.n.toNat default).fields n
def exists1 (t : List Fmt) (F : List Fld) (s : Int) : Bool := xsS F (innS t) s

set_option maxRecDepth 100000 in
set_option maxHeartbeats 1000000 in
theorem exists0_any {w : World} {B : Nat} {a : Option Addr} {t : List Fmt} {cap : Nat} {i : Nat} {fm : Fmt} (s : Int) (h1 : s ≤ 9223372036854775807) (hT : TabA w B a t) (hB : B ≤ w.heap.size) (hi : t[i]? = some fm) (hne : fm.fields ≠ []) (hle : fm.fields.length ≤ 100)
    (hp : ∀ x ∈ fm.fields, x.kind = 1 ∨ x.kind = 2 ∨ x.kind = 3 ∨ x.kind = 4 ∨ x.kind = 6) :
   Calls Try.prog 53 #[.agg #[.slice a t.length cap, .int .i64 i], .int .i64 s] w fun e w' => e = .returned (.bool (exists0 fm.fields s)) ∧ Ext w w' := by
  by_cases hs : s < 0
  · go_enter Try.func53, Try.ntmps53
    go_wp2_with fail
    go_ret
    exact ⟨rb (by simp [exists0, xsS, hs]), by repeat (first | exact Ext.refl _ | exact Ext.alloc _ _ | apply Ext.then_dr | (refine Ext.then_al ?_ _))⟩
  · have hs0 : 0 ≤ s := by omega
    obtain ⟨f, hfs⟩ : ∃ f : Nat, s / 262144 = f := ⟨(s / 262144).toNat, by omega⟩
    cases hx : fm.fields[f]? with
    | none =>
      have hres : exists0 fm.fields s = endS fm.fields s := by simp [exists0, xsS, hs, hfs, hx]
      have hlen : fm.fields.length ≤ f := List.getElem?_eq_none_iff.1 hx
      rw [hres]
      have HX := Lib.hid hx; clear hx
      have HR := Lib.hid hres; clear hres
      go_enter Try.func53, Try.ntmps53
      go_wp2_with fail
      refine (split_any _ _ hs0 h1).mono ?_
      rintro e w' ⟨rfl, rfl⟩
      go_wp2_with fail
      refine (fields_any (hT.alloc hB _) (by simp; omega) hi).mono ?_
      rintro e w1 ⟨fa, fcap, rfl, hF, hb1⟩
      obtain ⟨hc1, -, hs1⟩ := hb1.cells1
      go_wp2_with fail
      refine (end_any s (hT.ext hB hb1.al) (by have := hb1.al.size; omega) hi hne hle).mono ?_
      rintro e w2 ⟨rfl, hb2⟩
      go_wp2_with fail
      go_ret
      exact ⟨rfl, hb1.al.trans hb2⟩
    | some x =>
      have hmem := List.mem_of_getElem? hx
      have hlen := lt_of_get hx
      have hx' := hx
      have hs' := hs
      rcases hp x hmem with hk | hk | hk | hk | hk
      all_goals
        have HX := Lib.hid hx; clear hx
        go_enter Try.func53, Try.ntmps53
        go_wp2_with fail
        refine (split_any _ _ hs0 h1).mono ?_
        rintro e w' ⟨rfl, rfl⟩
        go_wp2_with fail
        refine (fields_any (hT.alloc hB _) (by simp; omega) hi).mono ?_
        rintro e w1 ⟨fa, fcap, rfl, hF, hb1⟩
        obtain ⟨-, hF⟩ := hF.ext (by simp; omega) hb1
        obtain ⟨fb, foff, rfl, hfb, hF⟩ := hF hne
        obtain ⟨c0, c1, c2, c3, c4, cw⟩ := hF _ _ hx'
        clear hF hx'
        have hb1s := hb1.size
        simp at hb1s
        have hsz : fb < w1.heap.size := by omega
        go_wp2_with fail
        all_goals go_ret
        all_goals exact ⟨rb (by rw [exists0, xsS_some hs0 hfs HX.out]; simp [kindS, *]), hb1.al.trans (by repeat (first | exact Ext.refl _ | exact Ext.alloc _ _ | apply Ext.then_dr | (refine Ext.then_al ?_ _)))⟩

set_option maxRecDepth 100000 in
set_option maxHeartbeats 1000000 in
theorem exists1_any {w : World} {B : Nat} {a : Option Addr} {t : List Fmt} {cap : Nat} {i : Nat} {fm : Fmt} (s : Int) (h1 : s ≤ 9223372036854775807) (hT : TabA w B a t) (hB : B ≤ w.heap.size) (hi : t[i]? = some fm) (hne : fm.fields ≠ []) (hle : fm.fields.length ≤ 100)
    (hp : ∀ x ∈ fm.fields, x.kind = 1 ∨ x.kind = 2 ∨ x.kind = 3 ∨ x.kind = 4 ∨ x.kind = 6 ∨ x.kind = 5)
    (hnest : ∀ x ∈ fm.fields, x.kind = 5 → ∃ j : Nat, x.n = j ∧ ∃ gm, t[j]? = some gm ∧ gm.fields ≠ [] ∧ gm.fields.length ≤ 100 ∧ ∀ y ∈ gm.fields, y.kind = 1 ∨ y.kind = 2 ∨ y.kind = 3 ∨ y.kind = 4 ∨ y.kind = 6) :
   Calls Try.prog 53 #[.agg #[.slice a t.length cap, .int .i64 i], .int .i64 s] w fun e w' => e = .returned (.bool (exists1 t fm.fields s)) ∧ Ext w w' := by
  by_cases hs : s < 0
  · go_enter Try.func53, Try.ntmps53
    go_wp2_with fail
    go_ret
    exact ⟨rb (by simp [exists1, xsS, hs]), by repeat (first | exact Ext.refl _ | exact Ext.alloc _ _ | apply Ext.then_dr | (refine Ext.then_al ?_ _))⟩
  · have hs0 : 0 ≤ s := by omega
    obtain ⟨f, hfs⟩ : ∃ f : Nat, s / 262144 = f := ⟨(s / 262144).toNat, by omega⟩
    cases hx : fm.fields[f]? with
    | none =>
      have hres : exists1 t fm.fields s = endS fm.fields s := by simp [exists1, xsS, hs, hfs, hx]
      have hlen : fm.fields.length ≤ f := List.getElem?_eq_none_iff.1 hx
      rw [hres]
      have HX := Lib.hid hx; clear hx
      have HR := Lib.hid hres; clear hres
      go_enter Try.func53, Try.ntmps53
      go_wp2_with fail
      refine (split_any _ _ hs0 h1).mono ?_
      rintro e w' ⟨rfl, rfl⟩
      go_wp2_with fail
      refine (fields_any (hT.alloc hB _) (by simp; omega) hi).mono ?_
      rintro e w1 ⟨fa, fcap, rfl, hF, hb1⟩
      obtain ⟨hc1, -, hs1⟩ := hb1.cells1
      go_wp2_with fail
      refine (end_any s (hT.ext hB hb1.al) (by have := hb1.al.size; omega) hi hne hle).mono ?_
      rintro e w2 ⟨rfl, hb2⟩
      go_wp2_with fail
      go_ret
      exact ⟨rfl, hb1.al.trans hb2⟩
    | some x =>
      have hmem := List.mem_of_getElem? hx
      have hlen := lt_of_get hx
      have hx' := hx
      rcases hp x hmem with hk | hk | hk | hk | hk | hk
      case inr.inr.inr.inr.inr =>
        obtain ⟨j, hj, gm, hgm, hgne, hgle, hgp⟩ := hnest x hmem hk
        have HX := Lib.hid hx; clear hx
        go_enter Try.func53, Try.ntmps53
        go_wp2_with fail
        refine (split_any _ _ hs0 h1).mono ?_
        rintro e w' ⟨rfl, rfl⟩
        go_wp2_with fail
        refine (fields_any (hT.alloc hB _) (by simp; omega) hi).mono ?_
        rintro e w1 ⟨fa, fcap, rfl, hF, hb1⟩
        obtain ⟨hc1, -, hs1⟩ := hb1.cells1
        obtain ⟨-, hF⟩ := hF.ext (by simp; omega) hb1
        obtain ⟨fb, foff, rfl, hfb, hF⟩ := hF hne
        obtain ⟨c0, c1, c2, c3, c4, cw⟩ := hF _ _ hx'
        clear hF hx'
        have hsz : fb < w1.heap.size := by omega
        have hT1 := hT.ext hB hb1.al
        have hl1 : w.heap.size < w1.heap.size := by omega
        by_cases hr : s / 256 % 1024 = 0
        · have e1 : (s / 256 % 1024 == 0) = true := by simp [hr]
          have HR := Lib.hid hr; clear hr
          go_wp2_with fail
          go_ret
          exact ⟨rb (by rw [exists1, xsS_some hs0 hfs HX.out]; simp [kindS, hk, HR.out]), hb1.al.trans (by repeat (first | exact Ext.refl _ | exact Ext.alloc _ _ | apply Ext.then_dr | (refine Ext.then_al ?_ _)))⟩
        · have e1 : (s / 256 % 1024 == 0) = false := by simp [hr]
          have HR := Lib.hid hr; clear hr
          go_wp2_with fail
          refine (inner_any _ _ _ _ _ _ _ _ _).mono ?_
          rintro e w2 ⟨rfl, hb2⟩
          obtain ⟨hc2, -, hs2⟩ := hb2.cells1
          have hb3 := hb1.al.trans hb2.al
          have hT3 := hT.ext hB hb3
          go_wp2_with fail
          refine (join_any _ _ _ _ (by omega) (by omega) (by omega) (by omega) (by omega) (by omega)).mono ?_
          rintro e w' ⟨rfl, rfl⟩
          by_cases h255 : s / 256 % 1024 ≤ 255
          · go_wp2_with fail
            refine (exists0_any _ (by omega) (hT3.alloc (by omega) _) (by simp; omega) hgm hgne hgle hgp).mono ?_
            rintro e w4 ⟨rfl, hb4⟩
            obtain ⟨hc4, -, hs4⟩ := hb4.cells1
            generalize hx0 : exists0 gm.fields (s % 256 / 32 * 262144 + s % 32 * 256) = x0
            have HX0 := Lib.hid hx0; clear hx0
            cases x0
            · go_wp2_with fail
              go_ret
              exact ⟨rb (by rw [exists1, xsS_some hs0 hfs HX.out]; simp [kindS, hk, HR.out, innS, hj, hgm, HX0.out]), hb3.trans hb4.al⟩
            · go_wp2_with fail
              refine (end_any _ ((hT3.alloc (by omega) _).ext (by simp; omega) hb4) (by omega) hgm hgne hgle).mono ?_
              rintro e w5 ⟨rfl, hb5⟩
              go_wp2_with fail
              go_ret
              exact ⟨rb (by rw [exists1, xsS_some hs0 hfs HX.out]; simp [kindS, hk, HR.out, innS, hj, hgm, HX0.out, h255]), hb3.trans (hb4.al.trans hb5)⟩
          · go_wp2_with fail
            go_ret
            exact ⟨rb (by rw [exists1, xsS_some hs0 hfs HX.out]; simp [kindS, hk, HR.out]; omega), hb3.trans (by repeat (first | exact Ext.refl _ | exact Ext.alloc _ _ | apply Ext.then_dr | (refine Ext.then_al ?_ _)))⟩
      all_goals
        have HX := Lib.hid hx; clear hx
        go_enter Try.func53, Try.ntmps53
        go_wp2_with fail
        refine (split_any _ _ hs0 h1).mono ?_
        rintro e w' ⟨rfl, rfl⟩
        go_wp2_with fail
        refine (fields_any (hT.alloc hB _) (by simp; omega) hi).mono ?_
        rintro e w1 ⟨fa, fcap, rfl, hF, hb1⟩
        obtain ⟨-, hF⟩ := hF.ext (by simp; omega) hb1
        obtain ⟨fb, foff, rfl, hfb, hF⟩ := hF hne
        obtain ⟨c0, c1, c2, c3, c4, cw⟩ := hF _ _ hx'
        clear hF hx'
        have hb1s := hb1.size
        simp at hb1s
        have hsz : fb < w1.heap.size := by omega
        go_wp2_with fail
        all_goals go_ret
        all_goals exact ⟨rb (by rw [exists1, xsS_some hs0 hfs HX.out]; simp [kindS, *]), hb1.al.trans (by repeat (first | exact Ext.refl _ | exact Ext.alloc _ _ | apply Ext.then_dr | (refine Ext.then_al ?_ _)))⟩


end Go.Proofs.Ythoelnoahfedmaa
