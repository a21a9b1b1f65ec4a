/- Contracts: names in tables. -/
import Derived.Test.YthoelnoahfedmaaV1
import Derived.Test.YthoelnoahfedmaaCalm
namespace Go.Proofs.Ythoelnoahfedmaa
open Go.RowKit
set_option linter.unusedVariables false
set_option linter.unusedSimpArgs false

theorem ba_eq {a b : ByteArray} (h : a = b) : (a == b) = true := (MapKept.bytes_beq a b).2 h
theorem ba_ne {a b : ByteArray} (h : a ≠ b) : (a == b) = false := by
  cases e : a == b
  · rfl
  · exact absurd ((MapKept.bytes_beq a b).1 e) h

theorem FldsA.get' {w : World} {B : Nat} {fa : Option Addr} {F : List Fld} (hF : FldsA w B fa F) {k : Nat} {x : Fld} (hx : F[k]? = some x) : ∃ fb foff, fa = some ⟨fb, foff, none⟩ ∧ fb < B ∧ FldAt w fb (foff + k * 5) x := by
  obtain ⟨fb, foff, h1, h2, h3⟩ := hF.2 (ne_nil_of_get hx)
  exact ⟨fb, foff, h1, h2, h3 k x hx⟩
theorem TabA.at' {w : World} {B : Nat} {a : Option Addr} {t : List Fmt} {i : Nat} {fm : Fmt} (hT : TabA w B a t) (hi : t[i]? = some fm) :
    ∃ tb toff fa fcap, a = some ⟨tb, toff, none⟩ ∧ tb < B ∧ w.cell? ⟨tb, toff + i * 2, none⟩ = some (.string fm.name) ∧ w.cell? ⟨tb, toff + i * 2 + 1, none⟩ = some (.slice fa fm.fields.length fcap) ∧ FldsA w B fa fm.fields ∧ fm.name.size ≤ maxLen := by
  obtain ⟨-, hT⟩ := hT
  obtain ⟨b, off, rfl, hb, hT⟩ := hT (ne_nil_of_get hi)
  obtain ⟨hn, ⟨fa, fcap, hc, hF⟩, hw⟩ := hT i fm hi
  exact ⟨b, off, fa, fcap, rfl, hb, hn, hc, hF, hw⟩

theorem TabA.take {w : World} {B : Nat} {a : Option Addr} {t : List Fmt} (hT : TabA w B a t) (i : Nat) : TabA w B a (t.take i) := by
  refine ⟨Nat.le_trans (List.length_take_le' i t) hT.1, fun hne => ?_⟩
  obtain ⟨b, off, h1, h2, h3⟩ := hT.2 (by intro e; subst e; simp at hne)
  refine ⟨b, off, h1, h2, fun k f hk => h3 k f ?_⟩
  rw [List.getElem?_take] at hk
  split at hk
  · exact hk
  · cases hk

/-- the index of the format with a name, or -1 -/
def findS (t : List Fmt) (nm : ByteArray) : Int := match t.findIdx? (fun f => f.name == nm) with | some i => i | none => -1

theorem findS_at {t : List Fmt} {nm : ByteArray} {k : Nat} {f : Fmt} (hk : t[k]? = some f) (he : f.name = nm) (hall : ∀ (j : Nat) (f : Fmt), j < k → t[j]? = some f → f.name ≠ nm) : findS t nm = k := by
  have : t.findIdx? (fun f => f.name == nm) = some k := by
    rw [List.findIdx?_eq_some_iff_getElem]
    have hlt := lt_of_get hk
    refine ⟨hlt, ?_, fun j hj => ?_⟩
    · rw [List.getElem?_eq_getElem hlt] at hk
      cases hk
      exact ba_eq he
    · have := hall j t[j] hj (List.getElem?_eq_getElem (by omega))
      simp [ba_ne this]
  simp [findS, this]
theorem findS_none {t : List Fmt} {nm : ByteArray} (hall : ∀ (j : Nat) (f : Fmt), t[j]? = some f → f.name ≠ nm) : findS t nm = -1 := by
  have : t.findIdx? (fun f => f.name == nm) = none := by
    rw [List.findIdx?_eq_none_iff]
    intro x hx
    obtain ⟨j, hj⟩ := List.mem_iff_getElem?.1 hx
    simp [ba_ne (hall j x hj)]
  simp [findS, this]

set_option maxHeartbeats 1000000 in
theorem find_any {w : World} {B : Nat} {a : Option Addr} {t : List Fmt} {cap : Nat} (nm : ByteArray) (hT : TabA w B a t) (hB : B ≤ w.heap.size) :
    Calls Try.prog 45 #[.slice a t.length cap, .string nm] w fun e w' => e = .returned (.int .i64 (findS t nm)) ∧ w = w' := by
  have hn63 := hT.1
  unfold maxLen at hn63
  go_enter Try.func45, Try.ntmps45
  go_wp2_with fail
  go_loop [5] (fun i => ∃ k : Nat, k ≤ t.length ∧ i = .int .i64 k ∧ ∀ j f, j < k → t[j]? = some f → f.name ≠ nm) (fun i => t.length - (intOf i).toNat)
  case atStart => exact ⟨0, Nat.zero_le _, rfl, fun j f h hj => by omega⟩
  case round =>
    obtain ⟨k, hk, rfl, hall⟩ := hrel
    have HALL := Lib.hid hall; clear hall
    by_cases hlt : k < t.length
    · obtain ⟨f, hf⟩ : ∃ f, t[k]? = some f := ⟨_, List.getElem?_eq_getElem hlt⟩
      obtain ⟨tb, toff, fa, fcap, rfl, htb, htn, htc, -, -⟩ := hT.at' hf
      have HF := Lib.hid hf; clear hf
      by_cases he : f.name = nm
      · have e1 : (f.name == nm) = true := ba_eq he
        have e1' : (f.name.toList == nm.toList) = true := by rw [← beq_toListBytes]; exact e1
        have HE := Lib.hid he; clear he
        go_wp2_with fail
        go_ret
        exact ⟨ri (findS_at HF.out HE.out HALL.out).symm, rfl⟩
      · have e1 : (f.name == nm) = false := ba_ne he
        have e1' : (f.name.toList == nm.toList) = false := by rw [← beq_toListBytes]; exact e1
        have HE := Lib.hid he; clear he
        go_wp2_with fail
        go_round
        case rel => exact ⟨k + 1, by omega, by go_num, fun j f' hj hf' => by
          rcases Nat.lt_or_ge j k with h' | h'
          · exact HALL.out j f' h' hf'
          · have : j = k := by omega
            subst this
            have := HF.out
            rw [this] at hf'
            cases hf'
            exact HE.out⟩
        case measure => simp [intOf]; omega
    · go_wp2_with fail
      go_ret
      exact ⟨ri (findS_none (fun j f hf => HALL.out j f (by have := lt_of_get hf; omega) hf)).symm, rfl⟩

set_option maxHeartbeats 1000000 in
theorem index_any {w : World} {B : Nat} {a : Option Addr} {t : List Fmt} {cap : Nat} (nm : ByteArray) (hT : TabA w B a t) (hB : B ≤ w.heap.size) :
    Calls Try.prog 67 #[.slice a t.length cap, .string nm] w fun e w' => e = .returned (.int .i64 (findS t nm)) ∧ Ext w w' := by
  have hn63 := hT.1
  unfold maxLen at hn63
  go_enter Try.func67, Try.ntmps67
  go_wp2_with fail
  go_loopw [5, 6, 9] (fun _ _ i wr => ∃ k : Nat, k ≤ t.length ∧ i = .int .i64 k ∧ Ext w wr ∧ ∀ j f, j < k → t[j]? = some f → f.name ≠ nm) (fun _ _ i _ => t.length - (intOf i).toNat)
  case atStart => exact ⟨0, Nat.zero_le _, rfl, Ext.refl _, fun j f h hj => by omega⟩
  case round =>
    obtain ⟨k, hk, rfl, hE, hall⟩ := hrel
    have HALL := Lib.hid hall; clear hall
    by_cases hlt : k < t.length
    · obtain ⟨f, hf⟩ : ∃ f, t[k]? = some f := ⟨_, List.getElem?_eq_getElem hlt⟩
      obtain ⟨tb, toff, fa, fcap, rfl, htb, htn, htc, -, -⟩ := (hT.ext hB hE).at' hf
      have HF := Lib.hid hf; clear hf
      have htb' : tb < wr.heap.size := by have := hE.size; omega
      by_cases he : f.name = nm
      · have e1 : (f.name == nm) = true := ba_eq he
        have e1' : (f.name.toList == nm.toList) = true := by rw [← beq_toListBytes]; exact e1
        have HE := Lib.hid he; clear he
        go_wp2_with fail
        go_ret
        exact ⟨ri (findS_at HF.out HE.out HALL.out).symm, hE.then_al _⟩
      · have e1 : (f.name == nm) = false := ba_ne he
        have e1' : (f.name.toList == nm.toList) = false := by rw [← beq_toListBytes]; exact e1
        have HE := Lib.hid he; clear he
        go_wp2_with fail
        go_roundw
        case rel => exact ⟨k + 1, by omega, by go_num, hE.then_al _, fun j f' hj hf' => by
          rcases Nat.lt_or_ge j k with h' | h'
          · exact HALL.out j f' h' hf'
          · have : j = k := by omega
            subst this
            have := HF.out
            rw [this] at hf'
            cases hf'
            exact HE.out⟩
        case measure => simp [intOf]; omega
    · go_wp2_with fail
      go_ret
      exact ⟨ri (findS_none (fun j f hf => HALL.out j f (by have := lt_of_get hf; omega) hf)).symm, hE⟩

end Go.Proofs.Ythoelnoahfedmaa
