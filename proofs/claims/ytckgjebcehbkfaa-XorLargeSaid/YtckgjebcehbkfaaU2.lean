/- Contracts: the reference's flip. -/
import Derived.Test.YtckgjebcehbkfaaU1
namespace Go.Proofs.Ytckgjebcehbkfaa
open Go Go.RowKit
set_option linter.unusedVariables false
set_option linter.unusedSimpArgs false

theorem flipL_lt {a n : Nat} {l : List Nat} (h : a < n) : flipL (a :: l) n = a :: flipL l n := by rw [flipL, if_pos h]
theorem flipL_eq {n : Nat} {l : List Nat} : flipL (n :: l) n = l := by rw [flipL, if_neg (by omega), if_pos rfl]
theorem flipL_gt {a n : Nat} {l : List Nat} (h : n < a) : flipL (a :: l) n = n :: a :: l := by rw [flipL, if_neg (by omega), if_neg (by omega)]
/-- what flip has written, and what is still to come -/
def FlipI (F : List Nat) (n i : Nat) (o : List Nat) (d : Bool) : Prop := o.length ≤ i + (if d then 1 else 0) ∧ o ++ (if d then F.drop i else flipL (F.drop i) n) = flipL F n
theorem drop_at {α : Type} {F : List α} {i : Nat} {x : α} (h : F[i]? = some x) : F.drop i = x :: F.drop (i + 1) := by
  obtain ⟨hi, rfl⟩ := List.getElem?_eq_some_iff.1 h
  exact List.drop_eq_getElem_cons hi

set_option maxRecDepth 100000 in
set_option maxHeartbeats 4000000 in
theorem rflip_any {w : World} {a : Option Addr} {cap n : Nat} {F : List Nat} (hF : LsI w (.slice a F.length cap) (F.map (fun k : Nat => (k : Int)))) (h6 : F.length ≤ 100000) (hn : n ≤ 1000000) :
    Calls Try.prog 85 #[.slice a F.length cap, .int .i64 n] w fun e w' => ∃ v, e = .returned v ∧ Ext w w' ∧ OwnN w' w.heap.size v (flipL F n) := by
  obtain ⟨-, hc1, hc2⟩ := hF.len
  rw [List.length_map] at hc1
  unfold maxLen at hc2
  have HFW := Lib.hid hF.ints
  have HF6 : Hid (∀ x ∈ F, (x : Int) ≤ 2 ^ 63 - 1) := Lib.hid (fun x hx => by
    have := hF.i64 (x : Int) (List.mem_map.2 ⟨x, hx, rfl⟩)
    unfold I64 at this; omega)
  clear hF
  go_enter Try.func85, Try.ntmps85
  go_wp2_with fail
  go_loopw [5, 6, 7] (fun ov dv iv wr => Hid (∃ (i : Nat) (o : List Nat) (d : Bool), iv = .int .i64 i ∧ dv = .bool d ∧ i ≤ F.length ∧ OwnN wr w.heap.size ov o ∧ Ext w wr ∧ FlipI F n i o d)) (fun _ _ iv _ => F.length - (intOf iv).toNat)
  case atStart => exact Lib.hid ⟨0, [], false, rfl, rfl, by omega, OwnN.nil, Ext.refl _, by simp, by simp⟩
  case round =>
    obtain ⟨i, o, d, rfl, rfl, hi, hO, hE, hI⟩ := hrel.out
    have HO := Lib.hid hO
    have HE := Lib.hid hE
    have HI := Lib.hid hI
    have HOL : Hid (o.length ≤ 1000000) := Lib.hid (by have h := hI.1; cases d <;> simp at h <;> omega)
    obtain ⟨pa, pc, hp, hpl, hpc⟩ := hO.slice
    unfold maxLen at hpc
    subst hp
    clear hO hE hrel hI
    by_cases hlt : i < F.length
    · obtain ⟨x, hx⟩ : ∃ x, F[i]? = some x := ⟨_, List.getElem?_eq_getElem hlt⟩
      obtain ⟨b, off, hfa, hcw⟩ := HFW.out i (x : Int) (by rw [List.getElem?_map, hx]; rfl)
      have HCW := Lib.hid hcw
      have hcx := cs_ext HE.out hcw
      clear hcw
      subst hfa
      have hx6 := HF6.out x (List.mem_of_getElem? hx)
      have hdr := drop_at hx
      have HDR := Lib.hid hdr
      clear hx hdr
      cases d with
      | true =>
        obtain ⟨wq, hwq⟩ : ∃ wq, wq = wr := ⟨_, rfl⟩
        subst hwq
        have HOQ := HO
        have HEQ := HE
        have HQL := HOL
        have HIQ : Hid (FlipI F n (i + 1) (o ++ [x]) true) := Lib.hid (by
          obtain ⟨h1, h2⟩ := HI.out
          refine ⟨by simp at h1 ⊢; omega, ?_⟩
          rw [if_pos rfl, HDR.out] at h2
          rw [if_pos rfl, ← h2]; simp)
        have hOA := HOQ.out.ext (Ext.alloc wq (.cells #[.int .i64 (x : Nat)] 3))
        have hszA : w.heap.size ≤ (wq.alloc (.cells #[.int .i64 (x : Nat)] 3)).heap.size := (HEQ.out.then_al _).size
        have hBL := HQL.out
        go_wp2_with (at_builtin; (refine wpList_appN rfl (.tmp 34) (.tmp 39) rfl rfl rfl hOA hszA hBL (x := x) (cs_new rfl) ?_); intro v' w9 o9 g9 k9
                     have HO9 := Lib.hid o9
                     have HE9 : Hid (Ext w w9) := Lib.hid ((HEQ.out.then_al _).grown g9 (fun q hq => (hOA.lt q hq).1))
                     clear o9 g9 k9 hOA)
        go_roundw
        case rel => exact Lib.hid ⟨i + 1, _, _, by go_num, rfl, by omega, HO9.out, HE9.out, HIQ.out⟩
        case measure => first | (simp [intOf]; done) | (simp [intOf]; omega)
      | false =>
        by_cases hxn : x < n
        · have e1 : decide ((n : Int) ≤ (x : Int)) = false := by simp; omega
          obtain ⟨wq, hwq⟩ : ∃ wq, wq = wr := ⟨_, rfl⟩
          subst hwq
          have HOQ := HO
          have HEQ := HE
          have HQL := HOL
          have HIQ : Hid (FlipI F n (i + 1) (o ++ [x]) false) := Lib.hid (by
            obtain ⟨h1, h2⟩ := HI.out
            refine ⟨by simp at h1 ⊢; omega, ?_⟩
            rw [if_neg (by simp), HDR.out, flipL_lt hxn] at h2
            rw [if_neg (by simp), ← h2]; simp)
          have hOA := HOQ.out.ext (Ext.alloc wq (.cells #[.int .i64 (x : Nat)] 3))
          have hszA : w.heap.size ≤ (wq.alloc (.cells #[.int .i64 (x : Nat)] 3)).heap.size := (HEQ.out.then_al _).size
          have hBL := HQL.out
          go_wp2_with (at_builtin; (refine wpList_appN rfl (.tmp 34) (.tmp 39) rfl rfl rfl hOA hszA hBL (x := x) (cs_new rfl) ?_); intro v' w9 o9 g9 k9
                       have HO9 := Lib.hid o9
                       have HE9 : Hid (Ext w w9) := Lib.hid ((HEQ.out.then_al _).grown g9 (fun q hq => (hOA.lt q hq).1))
                       clear o9 g9 k9 hOA)
          go_roundw
          case rel => exact Lib.hid ⟨i + 1, _, _, by go_num, rfl, by omega, HO9.out, HE9.out, HIQ.out⟩
          case measure => first | (simp [intOf]; done) | (simp [intOf]; omega)
        · have e1 : decide ((n : Int) ≤ (x : Int)) = true := by simp; omega
          by_cases hxe : x = n
          · subst hxe
            have HIQ : Hid (FlipI F x (i + 1) o true) := Lib.hid (by
              obtain ⟨h1, h2⟩ := HI.out
              refine ⟨by simp at h1 ⊢; omega, ?_⟩
              rw [if_neg (by simp), HDR.out, flipL_eq] at h2
              rw [if_pos rfl, ← h2])
            go_wp2_with fail
            go_roundw
            case rel => exact Lib.hid ⟨i + 1, _, _, by go_num, rfl, by omega, HO.out, HE.out, HIQ.out⟩
            case measure => first | (simp [intOf]; done) | (simp [intOf]; omega)
          · have e2 : ((x : Int) == (n : Int)) = false := by simp; omega
            have hgt : n < x := by omega
            have hOB := HO.out.ext (Ext.alloc wr (.cells #[.int .i64 (n : Nat)] 3))
            have hszB : w.heap.size ≤ (wr.alloc (.cells #[.int .i64 (n : Nat)] 3)).heap.size := (HE.out.then_al _).size
            have hBL := HOL.out
            go_upto_region 10 with (at_builtin; (refine wpList_appN rfl (.tmp 30) (.tmp 32) rfl rfl rfl hOB hszB hBL (x := n) (cs_new rfl) ?_); intro v8 wq o8 g8 k8
                                    have HOQ := Lib.hid o8
                                    have HEQ : Hid (Ext w wq) := Lib.hid ((HE.out.then_al _).grown g8 (fun q hq => (hOB.lt q hq).1))
                                    clear o8 g8 k8 hOB)
            have HQL : Hid ((o ++ [n]).length ≤ 1000000) := Lib.hid (by have h1 := HI.out.1; simp at h1 ⊢; omega)
            have HIQ : Hid (FlipI F n (i + 1) (o ++ [n] ++ [x]) true) := Lib.hid (by
              obtain ⟨h1, h2⟩ := HI.out
              refine ⟨by simp at h1 ⊢; omega, ?_⟩
              rw [if_neg (by simp), HDR.out, flipL_gt hgt] at h2
              rw [if_pos rfl, ← h2]; simp)
            have hcx := cs_ext HEQ.out HCW.out
            clear hBL hszB
            have hOA := HOQ.out.ext (Ext.alloc wq (.cells #[.int .i64 (x : Nat)] 3))
            have hszA : w.heap.size ≤ (wq.alloc (.cells #[.int .i64 (x : Nat)] 3)).heap.size := (HEQ.out.then_al _).size
            have hBL := HQL.out
            go_wp2_with (at_builtin; (refine wpList_appN rfl (.tmp 34) (.tmp 39) rfl rfl rfl hOA hszA hBL (x := x) (cs_new rfl) ?_); intro v' w9 o9 g9 k9
                         have HO9 := Lib.hid o9
                         have HE9 : Hid (Ext w w9) := Lib.hid ((HEQ.out.then_al _).grown g9 (fun q hq => (hOA.lt q hq).1))
                         clear o9 g9 k9 hOA)
            go_roundw
            case rel => exact Lib.hid ⟨i + 1, _, _, by go_num, rfl, by omega, HO9.out, HE9.out, HIQ.out⟩
            case measure => first | (simp [intOf]; done) | (simp [intOf]; omega)
    · have hend : Hid (F.drop i = []) := Lib.hid (List.drop_eq_nil_of_le (by omega))
      cases d with
      | true =>
        have HRS : Hid (o = flipL F n) := Lib.hid (by have h2 := HI.out.2; rw [if_pos rfl, hend.out] at h2; simpa using h2)
        go_wp2_with fail
        go_ret
        exact ⟨_, rfl, HE.out, by rw [← HRS.out]; exact HO.out⟩
      | false =>
        have HRS : Hid (o ++ [n] = flipL F n) := Lib.hid (by have h2 := HI.out.2; rw [if_neg (by simp), hend.out] at h2; simpa [flipL] using h2)
        have hOB := HO.out.ext (Ext.alloc wr (.cells #[.int .i64 (n : Nat)] 3))
        have hszB : w.heap.size ≤ (wr.alloc (.cells #[.int .i64 (n : Nat)] 3)).heap.size := (HE.out.then_al _).size
        have hBL := HOL.out
        go_wp2_with (at_builtin; (refine wpList_appN rfl (.tmp 43) (.tmp 45) rfl rfl rfl hOB hszB hBL (x := n) (cs_new rfl) ?_); intro v8 wq o8 g8 k8
                     have HOQ := Lib.hid o8
                     have HEQ : Hid (Ext w wq) := Lib.hid ((HE.out.then_al _).grown g8 (fun q hq => (hOB.lt q hq).1))
                     clear o8 g8 k8 hOB)
        go_ret
        exact ⟨_, rfl, HEQ.out, by rw [← HRS.out]; exact HOQ.out⟩

end Go.Proofs.Ytckgjebcehbkfaa
