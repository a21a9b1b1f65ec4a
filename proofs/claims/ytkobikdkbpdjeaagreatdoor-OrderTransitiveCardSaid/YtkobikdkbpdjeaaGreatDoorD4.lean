/- The law of the comparisons of three terms; a pair of numbers in a box. -/
import Derived.Test.YtkobikdkbpdjeaaGreatDoorD3
namespace Go.Proofs.YtkobikdkbpdjeaaGreatDoor
open Go Go.RowKit
set_option linter.unusedVariables false
set_option linter.unusedSimpArgs false

set_option maxRecDepth 100000 in
set_option maxHeartbeats 2000000 in
theorem laws_any {w : World} {ab bc ac ba : Int} (hba : -100 ≤ ba ∧ ba ≤ 100) :
 Calls Tryz.prog 13 #[.int .i64 ab, .int .i64 bc, .int .i64 ac, .int .i64 ba] w fun e w' => e = .returned (.bool (lawsB ab bc ac ba)) ∧ Ext w w' := by
 obtain ⟨z, hz⟩ : ∃ z, z = lawsB ab bc ac ba := ⟨_, rfl⟩
 rw [← hz]
 unfold lawsB at hz
 have hwn : IntKind.i64.wrap (-ba) = -ba := by rw [IntKind.wrap_i64]; omega
 obtain ⟨m, hm⟩ : ∃ m, m = -ba := ⟨_, rfl⟩
 have HM := Lib.hid hm
 rw [← hm] at hwn
 have hwm : IntKind.i64.wrap (-ba) = m := by rw [hm]; rw [IntKind.wrap_i64]; omega
 clear hwn hm hba
 have HZ := Lib.hid hz
 clear hz
 by_cases tA2 : ab = 2
 · have HtA2 := Lib.hid tA2
   have hbtA2 : (ab == 2) = true := by simp [tA2]
   clear tA2
   by_cases tE : ab = ba
   · have HtE := Lib.hid tE
     have hbtE : (ab == ba) = true := by simp [tE]
     clear tE
     have HV : Hid (z = true) := Lib.hid (by have := HM.out; have := HtA2.out; have := HtE.out; rw [HZ.out, if_pos (by omega)]; simp; try omega)
     go_enter Tryz.func13, Tryz.ntmps13
     go_wp2_with fail
     go_ret
     exact ⟨by rw [HV.out]; rfl, Ext.refl _⟩
   · have HtE := Lib.hid tE
     have hbtE : (ab == ba) = false := by simp [tE]
     clear tE
     have HV : Hid (z = false) := Lib.hid (by have := HM.out; have := HtA2.out; have := HtE.out; rw [HZ.out, if_pos (by omega)]; simp; try omega)
     go_enter Tryz.func13, Tryz.ntmps13
     go_wp2_with fail
     go_ret
     exact ⟨by rw [HV.out]; rfl, Ext.refl _⟩
 · have HtA2 := Lib.hid tA2
   have hbtA2 : (ab == 2) = false := by simp [tA2]
   clear tA2
   by_cases tB2 : ba = 2
   · have HtB2 := Lib.hid tB2
     have hbtB2 : (ba == 2) = true := by simp [tB2]
     clear tB2
     by_cases tE : ab = ba
     · have HtE := Lib.hid tE
       have hbtE : (ab == ba) = true := by simp [tE]
       clear tE
       have HV : Hid (z = true) := Lib.hid (by have := HM.out; have := HtA2.out; have := HtB2.out; have := HtE.out; rw [HZ.out, if_pos (by omega)]; simp; try omega)
       go_enter Tryz.func13, Tryz.ntmps13
       go_wp2_with fail
       go_ret
       exact ⟨by rw [HV.out]; rfl, Ext.refl _⟩
     · have HtE := Lib.hid tE
       have hbtE : (ab == ba) = false := by simp [tE]
       clear tE
       have HV : Hid (z = false) := Lib.hid (by have := HM.out; have := HtA2.out; have := HtB2.out; have := HtE.out; rw [HZ.out, if_pos (by omega)]; simp; try omega)
       go_enter Tryz.func13, Tryz.ntmps13
       go_wp2_with fail
       go_ret
       exact ⟨by rw [HV.out]; rfl, Ext.refl _⟩
   · have HtB2 := Lib.hid tB2
     have hbtB2 : (ba == 2) = false := by simp [tB2]
     clear tB2
     by_cases tM : ab = m
     · have HtM := Lib.hid tM
       have hbtM : (ab != m) = false := by simp [tM]
       clear tM
       by_cases tA1 : ab = 1
       · have HtA1 := Lib.hid tA1
         have hbtA1 : (ab == 1) = true := by simp [tA1]
         clear tA1
         have hb0 : (ab == 0) = false := by have := HtA1.out; simp; omega
         by_cases tC1 : bc = 1
         · have HtC1 := Lib.hid tC1
           have hbtC1 : (bc == 1) = true := by simp [tC1]
           clear tC1
           by_cases tD1 : ac = 1
           · have HtD1 := Lib.hid tD1
             have hbtD1 : (ac != 1) = false := by simp [tD1]
             clear tD1
             have HV : Hid (z = true) := Lib.hid (by have := HM.out; have := HtA2.out; have := HtB2.out; have := HtM.out; have := HtA1.out; have := HtC1.out; have := HtD1.out; rw [HZ.out, if_neg (by omega), if_neg (by omega)]; simp; try omega)
             go_enter Tryz.func13, Tryz.ntmps13
             go_wp2_with fail
             go_ret
             exact ⟨by rw [HV.out]; rfl, Ext.refl _⟩
           · have HtD1 := Lib.hid tD1
             have hbtD1 : (ac != 1) = true := by simp [tD1]
             clear tD1
             have HV : Hid (z = false) := Lib.hid (by have := HM.out; have := HtA2.out; have := HtB2.out; have := HtM.out; have := HtA1.out; have := HtC1.out; have := HtD1.out; rw [HZ.out, if_neg (by omega), if_neg (by omega)]; simp; try omega)
             go_enter Tryz.func13, Tryz.ntmps13
             go_wp2_with fail
             go_ret
             exact ⟨by rw [HV.out]; rfl, Ext.refl _⟩
         · have HtC1 := Lib.hid tC1
           have hbtC1 : (bc == 1) = false := by simp [tC1]
           clear tC1
           have HV : Hid (z = true) := Lib.hid (by have := HM.out; have := HtA2.out; have := HtB2.out; have := HtM.out; have := HtA1.out; have := HtC1.out; rw [HZ.out, if_neg (by omega), if_neg (by omega)]; simp; try omega)
           go_enter Tryz.func13, Tryz.ntmps13
           go_wp2_with fail
           go_ret
           exact ⟨by rw [HV.out]; rfl, Ext.refl _⟩
       · have HtA1 := Lib.hid tA1
         have hbtA1 : (ab == 1) = false := by simp [tA1]
         clear tA1
         by_cases tA0 : ab = 0
         · have HtA0 := Lib.hid tA0
           have hbtA0 : (ab == 0) = true := by simp [tA0]
           clear tA0
           by_cases tN : bc = ac
           · have HtN := Lib.hid tN
             have hbtN : (bc != ac) = false := by simp [tN]
             clear tN
             have HV : Hid (z = true) := Lib.hid (by have := HM.out; have := HtA2.out; have := HtB2.out; have := HtM.out; have := HtA1.out; have := HtA0.out; have := HtN.out; rw [HZ.out, if_neg (by omega), if_neg (by omega)]; simp; try omega)
             go_enter Tryz.func13, Tryz.ntmps13
             go_wp2_with fail
             go_ret
             exact ⟨by rw [HV.out]; rfl, Ext.refl _⟩
           · have HtN := Lib.hid tN
             have hbtN : (bc != ac) = true := by simp [tN]
             clear tN
             have HV : Hid (z = false) := Lib.hid (by have := HM.out; have := HtA2.out; have := HtB2.out; have := HtM.out; have := HtA1.out; have := HtA0.out; have := HtN.out; rw [HZ.out, if_neg (by omega), if_neg (by omega)]; simp; try omega)
             go_enter Tryz.func13, Tryz.ntmps13
             go_wp2_with fail
             go_ret
             exact ⟨by rw [HV.out]; rfl, Ext.refl _⟩
         · have HtA0 := Lib.hid tA0
           have hbtA0 : (ab == 0) = false := by simp [tA0]
           clear tA0
           have HV : Hid (z = true) := Lib.hid (by have := HM.out; have := HtA2.out; have := HtB2.out; have := HtM.out; have := HtA1.out; have := HtA0.out; rw [HZ.out, if_neg (by omega), if_neg (by omega)]; simp; try omega)
           go_enter Tryz.func13, Tryz.ntmps13
           go_wp2_with fail
           go_ret
           exact ⟨by rw [HV.out]; rfl, Ext.refl _⟩
     · have HtM := Lib.hid tM
       have hbtM : (ab != m) = true := by simp [tM]
       clear tM
       have HV : Hid (z = false) := Lib.hid (by have := HM.out; have := HtA2.out; have := HtB2.out; have := HtM.out; rw [HZ.out, if_neg (by omega), if_pos (by omega)])
       go_enter Tryz.func13, Tryz.ntmps13
       go_wp2_with fail
       go_ret
       exact ⟨by rw [HV.out]; rfl, Ext.refl _⟩
end Go.Proofs.YtkobikdkbpdjeaaGreatDoor
