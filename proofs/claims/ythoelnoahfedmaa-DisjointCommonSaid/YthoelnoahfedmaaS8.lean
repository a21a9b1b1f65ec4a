/- The string that leads to a pair. -/
import Derived.Test.YthoelnoahfedmaaS7
namespace Go.Proofs.Ythoelnoahfedmaa
open Go Go.RowKit
set_option linter.unusedVariables false
set_option linter.unusedSimpArgs false

def WayOk (W : List (Nat × Nat)) : Prop := ∀ i p b, 0 < i → W[i]? = some (p, b) → p < i ∧ b < 256
theorem Ways.ok {K : Type} {f : K → Nat → Option K} {L : List K} {W : List (Nat × Nat)} (h : Ways f L W) : WayOk W := fun i p b hi hw => by
  have hlt := (List.getElem?_eq_some_iff.1 hw).1
  rw [h.1] at hlt
  obtain ⟨h1, h2, -⟩ := h.2 i L[i] p b hi (List.getElem?_eq_getElem hlt) hw
  exact ⟨h1, h2⟩
theorem pathR_fuel {W : List (Nat × Nat)} (h : WayOk W) : ∀ f f' i, i ≤ f → i ≤ f' → pathR W f i = pathR W f' i
  | 0, f', i, h1, h2 => by
    have : i = 0 := by omega
    subst this
    cases f' <;> simp [pathR]
  | f + 1, 0, i, h1, h2 => by
    have : i = 0 := by omega
    subst this
    simp [pathR]
  | f + 1, f' + 1, i, h1, h2 => by
    simp only [pathR]
    by_cases hi : i = 0
    · simp [hi]
    · simp only [hi, if_false]
      cases hw : W[i]? with
      | none => rfl
      | some pb =>
        obtain ⟨p, b⟩ := pb
        have := (h i p b (by omega) hw).1
        simp only
        rw [pathR_fuel h f f' p (by omega) (by omega)]
theorem pathR_step {W : List (Nat × Nat)} (h : WayOk W) {i p b : Nat} (hi : 0 < i) (hw : W[i]? = some (p, b)) : pathR W W.length i = b :: pathR W W.length p := by
  have hlt := (List.getElem?_eq_some_iff.1 hw).1
  have hp := (h i p b hi hw).1
  obtain ⟨m, hm⟩ : ∃ m, W.length = m + 1 := ⟨W.length - 1, by omega⟩
  rw [hm]
  conv => lhs; rw [pathR]
  rw [if_neg (by omega), hw]
  simp only
  rw [pathR_fuel h m (m + 1) p (by omega) (by omega)]
theorem pathR_zero {W : List (Nat × Nat)} {f : Nat} : pathR W f 0 = [] := by cases f <;> simp [pathR]
theorem pathR_lt {W : List (Nat × Nat)} (h : WayOk W) : ∀ f i, ∀ b ∈ pathR W f i, b < 256
  | 0, i, b, hb => by simp [pathR] at hb
  | f + 1, i, b, hb => by
    rw [pathR] at hb
    by_cases hi : i = 0
    · simp [hi] at hb
    · rw [if_neg hi] at hb
      cases hw : W[i]? with
      | none => rw [hw] at hb; simp at hb
      | some pb =>
        obtain ⟨p, c⟩ := pb
        rw [hw] at hb
        rcases List.mem_cons.1 hb with rfl | hb
        · exact (h i p b (by omega) hw).2
        · exact pathR_lt h f p b hb

set_option maxRecDepth 100000 in
set_option maxHeartbeats 1600000 in
theorem text_any {w : World} {tv : Value} {i j gs mb base k : Nat} {pv wv : Value} {W : List (Nat × Nat)} (hst : w.heap[gs]? = some (.cells (srchCells tv i j pv wv mb) 71)) (hw : w.ownsRow base 106 2 wv W.length (flatW W)) (hok : WayOk W) (hk : k < W.length) (hk3 : k ≤ 30000) :
    Calls Try.prog 37 #[.pointer (some ⟨gs, 0, none⟩), .int .i64 k] w fun e w' => e = .returned (.string (bytesN (pathR W W.length k).reverse)) ∧ Ext w w' := by
  have c5 : w.cell? ⟨gs, 5, none⟩ = some wv := by rw [cellc hst]; rfl
  obtain ⟨x, hx⟩ : ∃ x, W[k]? = some x := ⟨_, List.getElem?_eq_getElem hk⟩
  obtain ⟨gw, wcap, rfl, hwc, hwb, hwl, -⟩ := row2_at (f := encW2) (fun _ => rfl) hw hx
  have hcells : ∀ (i p b : Nat), W[i]? = some (p, b) → w.cell? ⟨gw, i * 2, none⟩ = some (.int .i64 p) ∧ w.cell? ⟨gw, i * 2 + 1, none⟩ = some (.int .u8 b) := fun i p b hi => by
    obtain ⟨g', c', e, -, -, -, hc⟩ := row2_at (f := encW2) (fun _ => rfl) hw hi
    cases e
    exact ⟨hc 0 _ rfl, hc 1 _ rfl⟩
  have hWm : W.length ≤ 9223372036854775807 := by
    obtain ⟨g, c, e, h1, h2, -⟩ := row2_slice hw (by omega)
    unfold maxLen at h2
    omega
  have HC := Lib.hid hcells
  have HOK := Lib.hid hok
  have HX := Lib.hid hx
  have C5 := Lib.hid c5
  clear hcells hok hst hw hx c5
  go_enter Try.func37, Try.ntmps37
  go_wp2_with fail
  go_loopw [1, 5] (fun iv ov wr => ∃ (i : Nat) (acc : List Nat), iv = .int .i64 i ∧ i < W.length ∧ wr.ownsRow w.heap.size 5 1 ov acc.length (acc.map encN8) ∧ acc ++ pathR W W.length i = pathR W W.length k ∧ acc.length + i ≤ k ∧ (∀ b ∈ acc, b < 256) ∧ Ext w wr) (fun iv _ _ => (intOf iv).toNat)
  case atStart => exact ⟨k, [], rfl, hk, ⟨rfl, .inl ⟨rfl, rfl⟩⟩, rfl, by simp, by simp, (by repeat (first | exact Ext.refl _ | exact Ext.alloc _ _ | apply Ext.then_dr | apply Ext.then_drN | apply Ext.then_drN2 | (refine Ext.then_al ?_ _)))⟩
  case round =>
    obtain ⟨i, acc, rfl, hi, hO, hP, hL, hA, hE⟩ := hrel
    by_cases hpos : 0 < i
    · have e1 : decide (0 < (i : Int)) = true := decide_eq_true (by omega)
      obtain ⟨⟨p, b⟩, hpb⟩ : ∃ x, W[i]? = some x := ⟨_, List.getElem?_eq_getElem hi⟩
      obtain ⟨z0, z1⟩ := HC.out i p b hpb
      obtain ⟨hp1, hb1⟩ := HOK.out i p b hpos hpb
      have hstep := pathR_step HOK.out hpos hpb
      have k5 := cs_ext hE C5.out
      have k1 := cs_ext hE z1
      have hO4' := ownsRow_ext hO (Ext.alloc wr (.cells #[.int .u8 b] 5))
      have hlb := fun k hk => (hO.lt k hk).1
      have hsz4 := hE.size
      have HE := Lib.hid hE
      have HP := Lib.hid hP
      have HS := Lib.hid hstep
      have HA := Lib.hid hA
      have Z0 := Lib.hid z0
      have HPB := Lib.hid hpb
      have HLB := Lib.hid hlb
      clear hE hP hstep hA z0 z1 hpb hO hlb
      obtain ⟨i0, hi0, hz0, hz1, hz2⟩ := info_parts inf5
      go_wp2_with (first
        | (at_builtin; refine wpList_append_own_at _ rfl _ _ 104 rfl w.heap.size 5 i0 (.int .u8 0) 1 1 Try.underlying104 hi0 hz0 hz1 hz2 rfl (by decide) _ _ _ rfl hO4' ⟨wr.heap.size, 0, none⟩ 1 1 [.int .u8 b] rfl rfl (cell_one_new _ _ _) (fun x hx => by simp at hx; subst hx; rfl) (by unfold maxLen; omega) (by omega) (by simp; omega) ?_; intro v' w5 hown' hgrow5 hnil5 hat5
           have hE5 : Ext w w5 := (HE.out.then_al _).grown hgrow5 HLB.out
           have y5 := cs_ext hE5 C5.out
           have y0 := cs_ext hE5 Z0.out
           have HE5 := Lib.hid hE5
           have HO5 := Lib.hid hown'
           clear hown' hgrow5 hnil5 hat5 hE5 hO4'))
      go_roundw
      case rel => exact ⟨p, acc ++ [b], rfl, by omega, by simpa [encN8] using HO5.out, by rw [← HP.out, HS.out]; simp, by simp; omega, fun c hc => by
        rcases List.mem_append.1 hc with h | h
        · exact HA.out c h
        · simp at h; omega, HE5.out⟩
      case measure => simp [intOf]; omega
    · have hi0 : i = 0 := by omega
      subst hi0
      have hacc : acc = pathR W W.length k := by rw [← hP, pathR_zero, List.append_nil]
      have e1 : decide (0 < ((0 : Nat) : Int)) = false := by simp
      have HO := Lib.hid hO
      have HE := Lib.hid hE
      have HACC := Lib.hid hacc
      have HA := Lib.hid hA
      have HLB := Lib.hid (fun k hk => (hO.lt k hk).1)
      clear hO hP hacc hA hE
      go_wp2_with fail
      refine (reverse_any HO.out).mono ?_
      rintro e w2 ⟨rfl, hO2, hG⟩
      have hcv := bytes_back hO2 (fun b hb => HA.out b (by simpa using hb))
      have HE2 : Hid (Ext w w2) := HE.out.grown hG HLB.out
      clear hO2 hG
      go_wp2_with fail
      go_ret
      exact ⟨by rw [HACC.out]; rfl, HE2.out⟩

end Go.Proofs.Ythoelnoahfedmaa
