/- Contracts: the reference's weights and names (seat 04). -/
import Derived.Test.YtkobikdkbpdjeaaGreatDoorCA
namespace Go.Proofs.YtkobikdkbpdjeaaGreatDoor
open Go Go.RowKit
set_option linter.unusedVariables false
set_option linter.unusedSimpArgs false

set_option maxRecDepth 100000 in
set_option maxHeartbeats 1000000 in
theorem RLight4 {w : World} {n : Int} (h0 : 0 ≤ n) (h1 : n < 256) :
 Calls Tryz.prog 9 #[.int .u8 n] w fun e w' => ∃ v W, e = .returned v ∧ Ext w w' ∧ OwnG elI w' w.heap.size 3 (fun _ => False) v W ∧ W.length ≤ 9 ∧ ∀ z ∈ W, 1 ≤ z ∧ z ≤ 3 := by
 go_enter Tryz.func9, Tryz.ntmps9
 go_wp2_with fail
 go_loopw [3, 4] (fun ov kv wr => ∃ (k : Nat) (W : List Int), kv = .int .i64 k ∧ k ≤ 9 ∧ Hid (W.length = k) ∧ Hid (OwnG elI wr w.heap.size 3 (fun _ => False) ov W) ∧ Hid (∀ z ∈ W, 1 ≤ z ∧ z ≤ 3) ∧ Hid (Ext w wr)) (fun ov kv _ => 9 - (intOf kv).toNat)
 case atStart => exact ⟨0, [], rfl, by omega, Lib.hid rfl, Lib.hid OwnG.nil, Lib.hid (by simp), Lib.hid (Ext.refl _)⟩
 case round =>
  obtain ⟨k, W, rfl, hk, HLN, HO, HW, HE⟩ := hrel
  by_cases hlt : k < 9
  · have hkm : Int.tmod (k : Int) 7 = ((k % 7 : Nat) : Int) := by rw [Int.tmod_eq_emod_of_nonneg (by omega)]; omega
    obtain ⟨c, hc⟩ : ∃ c, c = k % 7 := ⟨_, rfl⟩
    have hc7 : c < 7 := by omega
    rw [← hc] at hkm
    clear hc
    have hq0 : 0 ≤ n / 2 ^ c := Int.ediv_nonneg h0 (by exact Int.pow_nonneg (by omega))
    have hq1 : n / 2 ^ c < 256 := Int.lt_of_le_of_lt (Int.ediv_le_self _ h0) h1
    obtain ⟨oa, oc, rfl, hol, hoc⟩ := HO.out.slice
    unfold maxLen at hoc
    have HOI := Lib.hid HO.out
    have hwl : W.length = k := HLN.out
    rw [hwl] at hol HO
    clear hwl
    obtain ⟨ob, wa, hob, hwa, HBO, hEa⟩ := box_new wr (.cells #[.int .i64 (1 + n / 2 ^ c % 3)] 3)
    have HEA := Lib.hid hEa
    have HLSE := Lib.hid (one_intF (S := fun _ => False) HBO.out (k := 1 + n / 2 ^ c % 3) (by unfold I64; omega))
    clear hEa
    rw [show W.length = k from HLN.out]
    go_upto_region 5 with fail
    go_wp2_with (
     at_builtin
     rw [← hob, ← hwa]
     refine wpList_appG (E := elI) (T := 3) rfl 30 (.tmp 9) (.tmp 17) rfl rfl rfl Tryz.underlying30 infInt rfl (by decide) (by decide) (HO.out.ext HEA.out) (Nat.le_trans HE.out.size HEA.out.size) (fun c h => absurd h id) (by have := HLN.out; omega) (M := [1 + n / 2 ^ c % 3]) (by simp) HLSE.out ?_
     intro v6 w6 o6 g6 k6
     have HO6 := Lib.hid o6
     have HE6 := Lib.hid ((HE.out.trans HEA.out).grownG (HO.out.ext HEA.out) (Nat.le_refl _) g6)
     clear o6 g6 k6)
    go_roundw
    case rel => exact ⟨k + 1, W ++ [1 + n / 2 ^ c % 3], by go_num, by omega, Lib.hid (by rw [List.length_append, HLN.out]; rfl), HO6, Lib.hid (fun z hz => by
      rcases List.mem_append.1 hz with h | h
      · exact HW.out z h
      · simp at h; omega), HE6⟩
    case measure => simp [intOf]; omega
  · go_wp2_with fail
    go_ret
    exact ⟨_, W, rfl, HE.out, HO.out, by have := HLN.out; omega, HW.out⟩
end Go.Proofs.YtkobikdkbpdjeaaGreatDoor
