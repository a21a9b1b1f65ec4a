/- PrefixFree, Begins, Few, the tables of the examples, Equal. -/
import Derived.Test.YthoelnoahfedmaaS11
namespace Go.Proofs.Ythoelnoahfedmaa
open Go Go.RowKit
set_option linter.unusedVariables false
set_option linter.unusedSimpArgs false

/-- what PrefixFree and Begins answer -/
def BegR (t : List Fmt) (i j : Int) (more : Bool) (s1 s2 : ByteArray) (er : Int) : Prop :=
  (errS t [i, j] ≠ 0 ∧ s1 = ByteArray.empty ∧ s2 = ByteArray.empty ∧ er = errS t [i, j]) ∨ (errS t [i, j] = 0 ∧ ∃ (i' j' : Nat) (fm gm : Fmt), i = i' ∧ j = j' ∧ t[i']? = some fm ∧ t[j']? = some gm ∧ VFmt t fm ∧ VFmt t gm ∧
    ((Over (stP t fm.fields gm.fields) (0, 0) ∧ s1 = ByteArray.empty ∧ s2 = ByteArray.empty ∧ er = 3) ∨ ∃ L Ws, Full (stP t fm.fields gm.fields) (0, 0) L ∧ L.length ≤ 20000 ∧ Ways (stP t fm.fields gm.fields) L Ws ∧
      ContR (stF t fm.fields) (stF t gm.fields) (rAcc fm.fields) (rAcc gm.fields) L Ws more s1 s2 er))



set_option maxRecDepth 100000 in
set_option maxHeartbeats 1000000 in
theorem PrefixFree_any {w : World} {B : Nat} {a : Option Addr} {t : List Fmt} {cap : Nat} {i : Int} (hT : TabA w B a t) (hB : B ≤ w.heap.size) (hcap : t.length ≤ cap) (hcap2 : cap ≤ 9223372036854775807) :
    Calls Try.prog 18 #[.slice a t.length cap, .int .i64 i] w fun e w' => ∃ s1 s2 er, e = .returned (.tuple #[.string s1, .string s2, .int .i64 er]) ∧ Ext w w' ∧ BegR t i i true s1 s2 er := by
  have hcon := product_any (i := i) (j := i) hT hB hcap hcap2
  go_enter Try.func18, Try.ntmps18
  go_wp2_with fail
  refine hcon.mono ?_
  rintro e w1 ⟨p, er, rfl, hb1, hP⟩
  have HB := Lib.hid hb1
  rcases hP with ⟨he, rfl, her⟩ | ⟨he, i', j', fm, gm, hi, hj, hfm, hgm, hVf, hVg, hR⟩
  · have e1 : (er == 0) = false := beq_eq_false_iff_ne.2 (by rw [her]; exact he)
    have HE := Lib.hid he
    have HER := Lib.hid her
    clear he her
    go_wp2_with fail
    go_ret3
    exact ⟨_, _, _, rfl, HB.out, .inl ⟨HE.out, rfl, rfl, HER.out⟩⟩
  · have HHE := Lib.hid he
    have HHI := Lib.hid hi
    have HHJ := Lib.hid hj
    have HFM := Lib.hid hfm
    have HGM := Lib.hid hgm
    rcases hR with ⟨hO, rfl, rfl⟩ | ⟨gs, mb, pv, wv, L, Ws, hF, hL, hW, rfl, rfl, hS⟩
    · have HO := Lib.hid hO
      clear he hi hj hfm hgm hO
      go_wp2_with fail
      go_ret3
      exact ⟨_, _, _, rfl, HB.out, .inr ⟨HHE.out, i', j', fm, gm, HHI.out, HHJ.out, HFM.out, HGM.out, hVf, hVg, .inl ⟨HO.out, rfl, rfl, rfl⟩⟩⟩
    · obtain ⟨tb, toff, rfl, -⟩ := hT.2 (ne_nil_of_get hfm)
      have hcon2 := continued_any (cap := cap) (more := true) (hT.ext hB hb1) (by have := hb1.size; omega) hfm hgm hVf hVg hS hF hL hW
      have HC := Lib.hid hcon2
      have HF := Lib.hid hF
      have HL := Lib.hid hL
      have HW := Lib.hid hW
      clear he hi hj hfm hgm hF hL hW hS hcon2 hb1 hcon
      go_wp2_with fail
      refine HC.out.mono ?_
      rintro e w2 ⟨s1, s2, er, rfl, hb2, hR⟩
      have HR := Lib.hid hR
      have HB2 := Lib.hid hb2
      clear hR hb2
      go_wp2_with fail
      go_ret3
      exact ⟨_, _, _, rfl, HB.out.trans HB2.out, .inr ⟨HHE.out, i', j', fm, gm, HHI.out, HHJ.out, HFM.out, HGM.out, hVf, hVg, .inr ⟨L, Ws, HF.out, HL.out, HW.out, HR.out⟩⟩⟩

set_option maxRecDepth 100000 in
set_option maxHeartbeats 1000000 in
theorem Begins_any {w : World} {B : Nat} {a : Option Addr} {t : List Fmt} {cap : Nat} {i j : Int} (hT : TabA w B a t) (hB : B ≤ w.heap.size) (hcap : t.length ≤ cap) (hcap2 : cap ≤ 9223372036854775807) :
    Calls Try.prog 21 #[.slice a t.length cap, .int .i64 i, .int .i64 j] w fun e w' => ∃ s1 s2 er, e = .returned (.tuple #[.string s1, .string s2, .int .i64 er]) ∧ Ext w w' ∧ BegR t i j false s1 s2 er := by
  have hcon := product_any (i := i) (j := j) hT hB hcap hcap2
  go_enter Try.func21, Try.ntmps21
  go_wp2_with fail
  refine hcon.mono ?_
  rintro e w1 ⟨p, er, rfl, hb1, hP⟩
  have HB := Lib.hid hb1
  rcases hP with ⟨he, rfl, her⟩ | ⟨he, i', j', fm, gm, hi, hj, hfm, hgm, hVf, hVg, hR⟩
  · have e1 : (er == 0) = false := beq_eq_false_iff_ne.2 (by rw [her]; exact he)
    have HE := Lib.hid he
    have HER := Lib.hid her
    clear he her
    go_wp2_with fail
    go_ret3
    exact ⟨_, _, _, rfl, HB.out, .inl ⟨HE.out, rfl, rfl, HER.out⟩⟩
  · have HHE := Lib.hid he
    have HHI := Lib.hid hi
    have HHJ := Lib.hid hj
    have HFM := Lib.hid hfm
    have HGM := Lib.hid hgm
    rcases hR with ⟨hO, rfl, rfl⟩ | ⟨gs, mb, pv, wv, L, Ws, hF, hL, hW, rfl, rfl, hS⟩
    · have HO := Lib.hid hO
      clear he hi hj hfm hgm hO
      go_wp2_with fail
      go_ret3
      exact ⟨_, _, _, rfl, HB.out, .inr ⟨HHE.out, i', j', fm, gm, HHI.out, HHJ.out, HFM.out, HGM.out, hVf, hVg, .inl ⟨HO.out, rfl, rfl, rfl⟩⟩⟩
    · obtain ⟨tb, toff, rfl, -⟩ := hT.2 (ne_nil_of_get hfm)
      have hcon2 := continued_any (cap := cap) (more := false) (hT.ext hB hb1) (by have := hb1.size; omega) hfm hgm hVf hVg hS hF hL hW
      have HC := Lib.hid hcon2
      have HF := Lib.hid hF
      have HL := Lib.hid hL
      have HW := Lib.hid hW
      clear he hi hj hfm hgm hF hL hW hS hcon2 hb1 hcon
      go_wp2_with fail
      refine HC.out.mono ?_
      rintro e w2 ⟨s1, s2, er, rfl, hb2, hR⟩
      have HR := Lib.hid hR
      have HB2 := Lib.hid hb2
      clear hR hb2
      go_wp2_with fail
      go_ret3
      exact ⟨_, _, _, rfl, HB.out.trans HB2.out, .inr ⟨HHE.out, i', j', fm, gm, HHI.out, HHJ.out, HFM.out, HGM.out, hVf, hVg, .inr ⟨L, Ws, HF.out, HL.out, HW.out, HR.out⟩⟩⟩

/-- few formats and fields -/
def fewS (t : List Fmt) : Bool := decide (t.length ≤ 12) && t.all fun f => decide (f.name.size ≤ 100) && decide (f.fields.length ≤ 12) && f.fields.all fun x => decide (x.bytes.size ≤ 40)

def bytes1 (b : UInt8) : ByteArray := ⟨#[b]⟩
/-- the table of the examples -/
def tabS (low : Int) : List Fmt := [⟨bytes1 97, [⟨1, bytes1 1, 0, 0, 0⟩, ⟨3, ByteArray.empty, 1, 0, 0⟩]⟩, ⟨bytes1 98, [⟨4, ByteArray.empty, 0, low, low + 1⟩, ⟨6, ByteArray.empty, 0, 0, 9⟩]⟩]

theorem two_get {α : Type} {x y z : α} {i : Nat} (h : [x, y][i]? = some z) : i = 0 ∧ z = x ∨ i = 1 ∧ z = y := by
  match i, h with
  | 0, h => exact .inl ⟨rfl, by simpa using h.symm⟩
  | 1, h => exact .inr ⟨rfl, by simpa using h.symm⟩
  | i + 2, h => simp at h
theorem three_blocks (w : World) (o1 o2 o3 : Obj) : (((w.alloc o1).alloc o2).alloc o3).heap[w.heap.size]? = some o1 ∧ (((w.alloc o1).alloc o2).alloc o3).heap[w.heap.size + 1]? = some o2 ∧ (((w.alloc o1).alloc o2).alloc o3).heap[w.heap.size + 2]? = some o3 ∧ (((w.alloc o1).alloc o2).alloc o3).heap.size = w.heap.size + 3 := by
  refine ⟨hs_al (hs_al hs_new), hs_al ?_, ?_, by simp⟩
  · have h := hs_new (w := w.alloc o1) (o := o2); rwa [World.size_alloc] at h
  · have h := hs_new (w := (w.alloc o1).alloc o2) (o := o3); rwa [World.size_alloc, World.size_alloc] at h

theorem tab_at {W : World} {b1 b2 b3 : Nat} {low : Int} (h0 : 0 ≤ low) (h1 : low ≤ 10) (h2 : W.heap[b1]? = some (.cells #[.int .i64 1, .string (bytes1 1), .int .i64 0, .int .i64 0, .int .i64 0, .int .i64 3, .string ByteArray.empty, .int .i64 1, .int .i64 0, .int .i64 0] 39))
    (h3 : W.heap[b2]? = some (.cells #[.int .i64 4, .string ByteArray.empty, .int .i64 0, .int .i64 low, .int .i64 (low + 1), .int .i64 6, .string ByteArray.empty, .int .i64 0, .int .i64 0, .int .i64 9] 39))
    (h4 : W.heap[b3]? = some (.cells #[.string (bytes1 97), .slice (some ⟨b1, 0, none⟩) 2 2, .string (bytes1 98), .slice (some ⟨b2, 0, none⟩) 2 2] 42)) : TabA W W.heap.size (some ⟨b3, 0, none⟩) (tabS low) := by
  have l1 := (Array.getElem?_eq_some_iff.1 h2).1
  have l2 := (Array.getElem?_eq_some_iff.1 h3).1
  have l3 := (Array.getElem?_eq_some_iff.1 h4).1
  refine ⟨by simp [tabS, maxLen], fun _ => ⟨b3, 0, rfl, l3, fun i f hf => ?_⟩⟩
  rcases two_get hf with ⟨rfl, rfl⟩ | ⟨rfl, rfl⟩
  · refine ⟨by rw [cellc h4]; rfl, ⟨some ⟨b1, 0, none⟩, 2, by rw [cellc h4]; rfl, by simp [maxLen], fun _ => ⟨b1, 0, rfl, l1, fun k x hx => ?_⟩⟩, by simp [maxLen, bytes1, ByteArray.size]⟩
    rcases two_get hx with ⟨rfl, rfl⟩ | ⟨rfl, rfl⟩
    all_goals exact ⟨by rw [cellc h2]; rfl, by rw [cellc h2]; rfl, by rw [cellc h2]; rfl, by rw [cellc h2]; rfl, by rw [cellc h2]; rfl, ⟨by simp [I64], by simp [I64], by simp [I64], by simp [I64], by simp [maxLen, bytes1, ByteArray.size]⟩⟩
  · refine ⟨by rw [cellc h4]; rfl, ⟨some ⟨b2, 0, none⟩, 2, by rw [cellc h4]; rfl, by simp [maxLen], fun _ => ⟨b2, 0, rfl, l2, fun k x hx => ?_⟩⟩, by simp [maxLen, bytes1, ByteArray.size]⟩
    rcases two_get hx with ⟨rfl, rfl⟩ | ⟨rfl, rfl⟩
    all_goals exact ⟨by rw [cellc h3]; rfl, by rw [cellc h3]; rfl, by rw [cellc h3]; rfl, by rw [cellc h3]; rfl, by rw [cellc h3]; rfl, ⟨by simp [I64], by simp [I64], by simp [I64]; try omega, by simp [I64]; try omega, by simp [maxLen, bytes1, ByteArray.size]⟩⟩

set_option maxRecDepth 100000 in
set_option maxHeartbeats 1000000 in
theorem table_any {w : World} {low : Int} (h0 : 0 ≤ low) (h1 : low ≤ 10) :
    Calls Try.prog 33 #[.int .i64 low] w fun e w' => ∃ a, e = .returned (.slice a 2 2) ∧ Ext w w' ∧ TabA w' w'.heap.size a (tabS low) := by
  go_enter Try.func33, Try.ntmps33
  go_wp2_with fail
  go_ret
  refine ⟨_, rfl, (by repeat (first | exact Ext.refl _ | exact Ext.alloc _ _ | apply Ext.then_dr | apply Ext.then_drN | apply Ext.then_drN2 | (refine Ext.then_al ?_ _))), ?_⟩
  obtain ⟨q1, q2, q3, q4⟩ := three_blocks w _ _ _
  exact tab_at h0 h1 q1 q2 q3

set_option maxRecDepth 100000 in
set_option maxHeartbeats 1000000 in
theorem Few_any {w : World} {B : Nat} {a : Option Addr} {t : List Fmt} {cap : Nat} (hT : TabA w B a t) (hB : B ≤ w.heap.size) :
    Calls Try.prog 12 #[.slice a t.length cap] w fun e w' => e = .returned (.bool (fewS t)) ∧ Ext w w' := by
  have hn63 := hT.1
  unfold maxLen at hn63
  by_cases hbig : 12 < t.length
  · have HR : Hid (fewS t = false) := Lib.hid (by simp [fewS]; omega)
    have e1 : decide (12 < t.length) = true := decide_eq_true hbig
    go_enter Try.func12, Try.ntmps12
    go_wp2_with fail
    go_ret
    exact ⟨rb HR.out.symm, (by repeat (first | exact Ext.refl _ | exact Ext.alloc _ _ | apply Ext.then_dr | apply Ext.then_drN | apply Ext.then_drN2 | (refine Ext.then_al ?_ _)))⟩
  · have e1 : decide (12 < t.length) = false := decide_eq_false hbig
    obtain ⟨fw, hfw⟩ : ∃ fw : Fmt → Bool, fw = fun f => decide (f.name.size ≤ 100) && decide (f.fields.length ≤ 12) && f.fields.all fun x => decide (x.bytes.size ≤ 40) := ⟨_, rfl⟩
    have HTT : Hid (t.all fw = true → fewS t = true) := Lib.hid (fun h => by rw [fewS, ← hfw, h]; simp; omega)
    have HT0 : Hid (∀ (k : Nat) (f : Fmt), t[k]? = some f → fw f = false → fewS t = false) := Lib.hid (fun k f hk h => by
      have : t.all fw = false := by rw [List.all_eq_false]; exact ⟨f, List.mem_of_getElem? hk, by simp [h]⟩
      rw [fewS, ← hfw, this]; simp)
    have HFW : Hid (∀ f, fw f = (decide (f.name.size ≤ 100) && decide (f.fields.length ≤ 12) && f.fields.all fun x => decide (x.bytes.size ≤ 40))) := Lib.hid (fun f => by rw [hfw])
    clear hfw
    go_enter Try.func12, Try.ntmps12
    go_wp2_with fail
    go_loop [3, 4] (fun i _ => ∃ k : Nat, i = .int .i64 k ∧ k ≤ t.length ∧ ∀ (k' : Nat) (f : Fmt), k' < k → t[k']? = some f → fw f = true) (fun i _ => t.length - (intOf i).toNat)
    case atStart => exact ⟨0, rfl, by omega, fun k' f h => by omega⟩
    case round =>
      obtain ⟨k, rfl, hk, hall⟩ := hrel
      have HALL := Lib.hid hall; clear hall
      by_cases hlt : k < t.length
      · obtain ⟨f, hf⟩ : ∃ f, t[k]? = some f := ⟨_, List.getElem?_eq_getElem hlt⟩
        have hT' := hT
        obtain ⟨-, hT'⟩ := hT'
        obtain ⟨tb, toff, rfl, htb, hT'⟩ := hT' (ne_nil_of_get hf)
        obtain ⟨c0, ⟨fa, fcap, c1, hF⟩, hnm⟩ := hT' k f hf
        have hF1 := hF.1
        unfold maxLen at hnm hF1
        have HF := Lib.hid hf
        have HFA := Lib.hid hF
        clear hf hT' hF
        by_cases h1 : 100 < f.name.size
        · have e2 : decide (100 < f.name.size) = true := decide_eq_true h1
          have HR : Hid (fewS t = false) := Lib.hid (HT0.out k f HF.out (by rw [HFW.out]; simp; omega))
          go_wp2_with fail
          go_ret
          exact ⟨rb HR.out.symm, (by repeat (first | exact Ext.refl _ | exact Ext.alloc _ _ | apply Ext.then_dr | apply Ext.then_drN | apply Ext.then_drN2 | (refine Ext.then_al ?_ _)))⟩
        have e2 : decide (100 < f.name.size) = false := decide_eq_false h1
        by_cases h2 : 12 < f.fields.length
        · have e3 : decide (12 < f.fields.length) = true := decide_eq_true h2
          have HR : Hid (fewS t = false) := Lib.hid (HT0.out k f HF.out (by rw [HFW.out]; simp; omega))
          go_wp2_with fail
          go_ret
          exact ⟨rb HR.out.symm, (by repeat (first | exact Ext.refl _ | exact Ext.alloc _ _ | apply Ext.then_dr | apply Ext.then_drN | apply Ext.then_drN2 | (refine Ext.then_al ?_ _)))⟩
        have e3 : decide (12 < f.fields.length) = false := decide_eq_false h2
        go_wp2_with fail
        go_loop [4] (fun j => ∃ m : Nat, j = .int .i64 m ∧ m ≤ f.fields.length ∧ ∀ (m' : Nat) (x : Fld), m' < m → f.fields[m']? = some x → x.bytes.size ≤ 40) (fun j => f.fields.length - (intOf j).toNat)
        case atStart => exact ⟨0, rfl, by omega, fun k' f h => by omega⟩
        case round =>
          obtain ⟨m, rfl, hm, hall2⟩ := hrel
          have HALL2 := Lib.hid hall2; clear hall2
          by_cases hlt2 : m < f.fields.length
          · obtain ⟨x, hx⟩ : ∃ x, f.fields[m]? = some x := ⟨_, List.getElem?_eq_getElem hlt2⟩
            obtain ⟨fb, foff, rfl, hfb, hc⟩ := HFA.out.get hx
            have c2 := hc.bytes
            have hxm := hc.wf.bytes
            unfold maxLen at hxm
            have HX := Lib.hid hx
            clear hx hc
            by_cases h3 : 40 < x.bytes.size
            · have e4 : decide (40 < x.bytes.size) = true := decide_eq_true h3
              have HR : Hid (fewS t = false) := Lib.hid (HT0.out k f HF.out (by
                rw [HFW.out]
                have : (f.fields.all fun x => decide (x.bytes.size ≤ 40)) = false := by rw [List.all_eq_false]; exact ⟨x, List.mem_of_getElem? HX.out, by simp; omega⟩
                rw [this]; simp))
              go_wp2_with fail
              go_ret
              exact ⟨rb HR.out.symm, (by repeat (first | exact Ext.refl _ | exact Ext.alloc _ _ | apply Ext.then_dr | apply Ext.then_drN | apply Ext.then_drN2 | (refine Ext.then_al ?_ _)))⟩
            · have e4 : decide (40 < x.bytes.size) = false := decide_eq_false h3
              go_wp2_with fail
              go_round
              case rel => exact ⟨m + 1, by go_num, by omega, fun m' y h hy => by
                rcases Nat.lt_or_ge m' m with h' | h'
                · exact HALL2.out m' y h' hy
                · have : m' = m := by omega
                  subst this
                  rw [HX.out] at hy; cases hy; omega⟩
              case measure => simp [intOf]; omega
          · go_wp2_with fail
            go_round
            case rel => exact ⟨k + 1, by go_num, by omega, fun k' y h hy => by
              rcases Nat.lt_or_ge k' k with h' | h'
              · exact HALL.out k' y h' hy
              · have : k' = k := by omega
                subst this
                rw [HF.out] at hy; cases hy
                rw [HFW.out]
                have h5 : (f.fields.all fun x => decide (x.bytes.size ≤ 40)) = true := by
                  rw [List.all_eq_true]
                  intro x hx
                  obtain ⟨m', hm'⟩ := List.mem_iff_getElem?.1 hx
                  simpa using HALL2.out m' x (by have := (List.getElem?_eq_some_iff.1 hm').1; omega) hm'
                rw [h5]; simp; omega⟩
            case measure => simp [intOf]; omega
      · have HR : Hid (fewS t = true) := Lib.hid (HTT.out (by
          rw [List.all_eq_true]
          intro f hf
          obtain ⟨k', hk'⟩ := List.mem_iff_getElem?.1 hf
          exact HALL.out k' f (by have := (List.getElem?_eq_some_iff.1 hk').1; omega) hk'))
        go_wp2_with fail
        go_ret
        exact ⟨rb HR.out.symm, (by repeat (first | exact Ext.refl _ | exact Ext.alloc _ _ | apply Ext.then_dr | apply Ext.then_drN | apply Ext.then_drN2 | (refine Ext.then_al ?_ _)))⟩

end Go.Proofs.Ythoelnoahfedmaa
