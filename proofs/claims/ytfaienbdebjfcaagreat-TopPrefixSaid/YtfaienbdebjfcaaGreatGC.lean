/- Contracts: a field of a draft (sealringref17.made, digits). Contracts: tables of drafts (sealringref17.Made). Contracts: tables of drafts (sealringref17.Made). Contracts: sealringtop.table20. -/
import Derived.Test.YtfaienbdebjfcaaGreatGB
import Derived.Laws.BytesArg
import Derived.Deep.QuietTactic
import Derived.BigQuiet
import Derived.Laws.EntriesVeiled
namespace Go.Proofs.YtfaienbdebjfcaaGreat
open Go Go.RowKit
set_option linter.unusedVariables false
set_option linter.unusedSimpArgs false

theorem sizFld : (Tryz.prog.info? 59).map (·.size) = some 5 := by kernel_rfl
theorem ret_fld {F : Func} {p g : Nat} {tmps : Array Value} {w : World} {cs : Array Value} {R : Ending → World → Prop} (hr : F.results = #[.cell p 59]) (hp : tmps.getD p undef = .pointer (some ⟨g, 0, none⟩)) (hg : w.heap[g]? = some (.cells cs 59)) (hs : cs.size = 5) (h : R (.returned (.agg cs)) w) :
 bodyPost Tryz.prog F R .ret ⟨tmps, []⟩ w :=
 bodyPost_ret (results_cell_row hr tmps w g _ cs _ _ hp hg Tryz.underlying59 rfl (by rw [hs]; exact sizFld)) rfl h
theorem set5_box {w : World} {g T : Nat} {a b c d e : Value} (a' b' c' d' e' : Value) (h : w.heap[g]? = some (.cells #[a, b, c, d, e] T)) :
 (((((w.setCell ⟨g, 0, none⟩ a').setCell ⟨g, 1, none⟩ b').setCell ⟨g, 2, none⟩ c').setCell ⟨g, 3, none⟩ d').setCell ⟨g, 4, none⟩ e').heap[g]? = some (.cells #[a', b', c', d', e'] T) ∧
   ∀ W, Ext W w → W.heap.size ≤ g → Ext W (((((w.setCell ⟨g, 0, none⟩ a').setCell ⟨g, 1, none⟩ b').setCell ⟨g, 2, none⟩ c').setCell ⟨g, 3, none⟩ d').setCell ⟨g, 4, none⟩ e') := by
 refine ⟨?_, fun W hE hW => ((((hE.setCell hW _).setCell hW _).setCell hW _).setCell hW _).setCell hW _⟩
 have h1 := heap_setCell_same w g 0 _ _ a' h
 have h5 := heap_setCell_same _ g 1 _ _ b' h1
 have h6 := heap_setCell_same _ g 2 _ _ c' h5
 have h7 := heap_setCell_same _ g 3 _ _ d' h6
 have h8 := heap_setCell_same _ g 4 _ _ e' h7
 rw [h8]; simp

def mkFld (k : Int) (s : ByteArray) (n l h : Int) : Fld := ⟨k, s, n, l, h⟩
set_option maxRecDepth 100000 in
set_option maxHeartbeats 8000000 in
theorem made_any {w : World} {B : Nat} {a : Option Addr} {cap : Nat} {t : List Fmt} {k x y : Nat} (last : Bool) (hk : k < 256) (hx : x < 256) (hy : y < 256) (hT : TabA w B a t) (hB : B ≤ w.heap.size) (h8 : t.length ≤ 8) :
 Calls Tryz.prog 51 #[.slice a t.length cap, .agg #[.int .u8 k, .int .u8 x, .int .u8 y], .bool last] w fun e w' =>
  ∃ f : Fld, e = .returned (.agg #[.int .i64 f.kind, .string f.bytes, .int .i64 f.n, .int .i64 f.low, .int .i64 f.high]) ∧ Ext w w' ∧ fieldErr t f last = 0 ∧ f.Wf := by
 obtain ⟨db, w1, hdb, hw1, HDB, hE1⟩ := box_new w (.cells #[.int .u8 k, .int .u8 x, .int .u8 y] 112)
 obtain ⟨rb, w2, hrb, hw2, HRB, hE2⟩ := box_new w1 (.cells #[.int .i64 0, .string ⟨#[]⟩, .int .i64 0, .int .i64 0, .int .i64 0] 59)
 have hrb1 : rb = db + 1 := by rw [hrb, hw1, World.size_alloc, hdb]
 have hdb2 := hs_ext hE2 HDB.out
 have d0 : w2.cell? ⟨db, 0, none⟩ = some (.int .u8 k) := by rw [cellc hdb2]; rfl
 have d1 : w2.cell? ⟨db, 1, none⟩ = some (.int .u8 x) := by rw [cellc hdb2]; rfl
 have d2 : w2.cell? ⟨db, 2, none⟩ = some (.int .u8 y) := by rw [cellc hdb2]; rfl
 have HE2 := Lib.hid (hE1.trans hE2)
 have HRS : Hid (w.heap.size ≤ rb) := Lib.hid (by rw [hrb, hw1, World.size_alloc]; omega)
 obtain ⟨r, hr⟩ : ∃ r : Nat, r = k % 6 := ⟨_, rfl⟩
 have hkr : Int.tmod (k : Int) 6 = (r : Int) := by rw [Int.tmod_eq_emod_of_nonneg (by omega)]; omega
 have HR6 : Hid (r < 6) := Lib.hid (by omega)
 clear hE1 hE2 hdb2 hr
 go_enter Tryz.func51, Tryz.ntmps51
 go_upto_region 1 with fail
 rw [← hw1, ← hdb, ← hw2, ← hrb1]
 clear hw1 hdb hw2 hrb1 hrb
 go_quiet (fail)
 generalize hwn : World.drewN w2 _ = wn
 have HEn : Hid (Ext w2 wn) := Lib.hid (by rw [← hwn]; exact Ext.then_drN2 (Ext.refl _))
 clear hwn
 obtain ⟨d0, d1, d2⟩ := cs_e3 HEn.out ⟨d0, d1, d2⟩
 go_upto_region 3 with fail
 have HRp := Lib.hid (hs_ext HEn.out HRB.out)
 have HEp := Lib.hid (HE2.out.trans HEn.out)
 clear HRB
 have hr6 := HR6.out
 rcases (by omega : r = 0 ∨ r = 1 ∨ r = 2 ∨ r = 3 ∨ r = 4 ∨ r = 5) with rfl | rfl | rfl | rfl | rfl | rfl
 · skip
   obtain ⟨z, hz⟩ : ∃ z : Nat, z = x % 4 := ⟨_, rfl⟩
   have hxz : Int.tmod (x : Int) 4 = (z : Int) := by rw [Int.tmod_eq_emod_of_nonneg (by omega)]; omega
   have hz4 : z < 4 := by omega
   obtain ⟨q, hq⟩ : ∃ q : Nat, q = y % 4 := ⟨_, rfl⟩
   have hyq : Int.tmod (y : Int) 4 = (q : Int) := by rw [Int.tmod_eq_emod_of_nonneg (by omega)]; omega
   have hq4 : q < 4 := by omega
   obtain ⟨m, hm⟩ : ∃ m : Nat, m = y % 3 := ⟨_, rfl⟩
   have hym : Int.tmod (y : Int) 3 = (m : Int) := by rw [Int.tmod_eq_emod_of_nonneg (by omega)]; omega
   clear d0 d1 d2 hz hq hm
   obtain ⟨s1, hs1⟩ : ∃ s1, s1 = strOfNums [(z : Int)] := ⟨_, rfl⟩
   have hz1 : s1.size = 1 := by rw [hs1]; rfl
   obtain ⟨s2, hs2⟩ : ∃ s2, s2 = strOfNums [(q : Int)] := ⟨_, rfl⟩
   have hz2 : s2.size = 1 := by rw [hs2]; rfl
   have hcv : ∀ w' : World, (convert 23 9 (.slice (some ⟨w'.heap.size, 0, none⟩) 1 1)).run Tryz.prog (w'.alloc (.cells #[.int .u8 z] 5)) = .ok (.string s1) (w'.alloc (.cells #[.int .u8 z] 5)) := by
    intro w'
    rw [hs1]
    exact run_convert_bytes_arg (w'.alloc _) _ _ Tryz.underlying23 Tryz.underlying5 _ 0 1 1 [(z : Int)] rfl (fun i hi => by
     obtain rfl : i = 0 := by omega
     rw [cellc hs_new]; rfl) _ Tryz.underlying9
   have hcv2 : ∀ w' : World, (convert 23 9 (.slice (some ⟨w'.heap.size, 0, none⟩) 1 1)).run Tryz.prog (w'.alloc (.cells #[.int .u8 q] 5)) = .ok (.string s2) (w'.alloc (.cells #[.int .u8 q] 5)) := by
    intro w'
    rw [hs2]
    exact run_convert_bytes_arg (w'.alloc _) _ _ Tryz.underlying23 Tryz.underlying5 _ 0 1 1 [(q : Int)] rfl (fun i hi => by
     obtain rfl : i = 0 := by omega
     rw [cellc hs_new]; rfl) _ Tryz.underlying9
   clear hs1 hs2
   obtain ⟨wq, hwq⟩ : ∃ wq, wq = wn.alloc (.cells #[.int .u8 z] 5) := ⟨_, rfl⟩
   have hEq : Ext wn wq := by rw [hwq]; exact Ext.alloc _ _
   have HRq := Lib.hid (hs_ext hEq HRp.out)
   have HEq := Lib.hid (HEp.out.trans hEq)
   clear hEq
   go_upto_region 16 with fail
   rw [← hwq]
   clear hwq hcv
   by_cases hm0 : m = 0
   · subst hm0
     obtain ⟨wo, hwo⟩ : ∃ wo, wo = wq.alloc (.cells #[.int .u8 q] 5) := ⟨_, rfl⟩
     have hEo : Ext wq wo := by rw [hwo]; exact Ext.alloc _ _
     have HRo := Lib.hid (hs_ext hEo HRq.out)
     have HEo := Lib.hid (HEq.out.trans hEo)
     clear hEo
     go_upto_region 18 with fail
     rw [← hwo]
     clear hwo hcv2
     have c0 : wo.cell? ⟨rb, 0, none⟩ = some (.int .i64 0) := by rw [cellc HRo.out]; rfl
     have c1 : wo.cell? ⟨rb, 1, none⟩ = some (.string ⟨#[]⟩) := by rw [cellc HRo.out]; rfl
     have c2 : wo.cell? ⟨rb, 2, none⟩ = some (.int .i64 0) := by rw [cellc HRo.out]; rfl
     have c3 : wo.cell? ⟨rb, 3, none⟩ = some (.int .i64 0) := by rw [cellc HRo.out]; rfl
     have c4 : wo.cell? ⟨rb, 4, none⟩ = some (.int .i64 0) := by rw [cellc HRo.out]; rfl
     have f0 : wo.frozen? ⟨rb, 0, none⟩ = false := frozenc HRo.out
     have f1 : wo.frozen? ⟨rb, 1, none⟩ = false := frozenc HRo.out
     have f2 : wo.frozen? ⟨rb, 2, none⟩ = false := frozenc HRo.out
     have f3 : wo.frozen? ⟨rb, 3, none⟩ = false := frozenc HRo.out
     have f4 : wo.frozen? ⟨rb, 4, none⟩ = false := frozenc HRo.out
     go_wp2_with fail
     refine ret_fld (g := rb) rfl rfl (set5_box _ _ _ _ _ HRo.out).1 rfl ⟨⟨1,s1++s2,0,0,0⟩, rfl, (set5_box _ _ _ _ _ HRo.out).2 _ HEo.out HRS.out, ?_, ?_⟩
     · have h12 : (s1 ++ s2).size = 2 := by rw [ByteArray.size_append]; omega
       simp [fieldErr, shapeS, rangesS, h12]
     · exact ⟨by simp [I64], by simp [I64], by simp [I64], by simp [I64], by show (s1 ++ s2).size ≤ maxLen; rw [ByteArray.size_append]; unfold maxLen; omega⟩
   · have hmb : ((m : Int) == 0) = false := by simpa using hm0
     have c0 : wq.cell? ⟨rb, 0, none⟩ = some (.int .i64 0) := by rw [cellc HRq.out]; rfl
     have c1 : wq.cell? ⟨rb, 1, none⟩ = some (.string ⟨#[]⟩) := by rw [cellc HRq.out]; rfl
     have c2 : wq.cell? ⟨rb, 2, none⟩ = some (.int .i64 0) := by rw [cellc HRq.out]; rfl
     have c3 : wq.cell? ⟨rb, 3, none⟩ = some (.int .i64 0) := by rw [cellc HRq.out]; rfl
     have c4 : wq.cell? ⟨rb, 4, none⟩ = some (.int .i64 0) := by rw [cellc HRq.out]; rfl
     have f0 : wq.frozen? ⟨rb, 0, none⟩ = false := frozenc HRq.out
     have f1 : wq.frozen? ⟨rb, 1, none⟩ = false := frozenc HRq.out
     have f2 : wq.frozen? ⟨rb, 2, none⟩ = false := frozenc HRq.out
     have f3 : wq.frozen? ⟨rb, 3, none⟩ = false := frozenc HRq.out
     have f4 : wq.frozen? ⟨rb, 4, none⟩ = false := frozenc HRq.out
     clear hcv2
     go_wp2_with fail
     refine ret_fld (g := rb) rfl rfl (set5_box _ _ _ _ _ HRq.out).1 rfl ⟨⟨1,s1,0,0,0⟩, rfl, (set5_box _ _ _ _ _ HRq.out).2 _ HEq.out HRS.out, ?_, ?_⟩
     · simp [fieldErr, shapeS, rangesS, hz1]
     · exact ⟨by simp [I64], by simp [I64], by simp [I64], by simp [I64], by show s1.size ≤ maxLen; unfold maxLen; omega⟩
 · obtain ⟨z, hz⟩ : ∃ z : Nat, z = x % 3 := ⟨_, rfl⟩
   have hxz : Int.tmod (x : Int) 3 = (z : Int) := by rw [Int.tmod_eq_emod_of_nonneg (by omega)]; omega
   have hz3 : z < 3 := by omega
   have hw : IntKind.i64.wrap (1 + (z : Int)) = 1 + (z : Int) := by rw [IntKind.wrap_i64]; omega
   clear d0 d1 d2 hz
   have c0 : wn.cell? ⟨rb, 0, none⟩ = some (.int .i64 0) := by rw [cellc HRp.out]; rfl
   have c1 : wn.cell? ⟨rb, 1, none⟩ = some (.string ⟨#[]⟩) := by rw [cellc HRp.out]; rfl
   have c2 : wn.cell? ⟨rb, 2, none⟩ = some (.int .i64 0) := by rw [cellc HRp.out]; rfl
   have c3 : wn.cell? ⟨rb, 3, none⟩ = some (.int .i64 0) := by rw [cellc HRp.out]; rfl
   have c4 : wn.cell? ⟨rb, 4, none⟩ = some (.int .i64 0) := by rw [cellc HRp.out]; rfl
   have f0 : wn.frozen? ⟨rb, 0, none⟩ = false := frozenc HRp.out
   have f1 : wn.frozen? ⟨rb, 1, none⟩ = false := frozenc HRp.out
   have f2 : wn.frozen? ⟨rb, 2, none⟩ = false := frozenc HRp.out
   have f3 : wn.frozen? ⟨rb, 3, none⟩ = false := frozenc HRp.out
   have f4 : wn.frozen? ⟨rb, 4, none⟩ = false := frozenc HRp.out
   go_wp2_with fail
   refine ret_fld (g := rb) rfl rfl (set5_box _ _ _ _ _ HRp.out).1 rfl ⟨⟨2,⟨#[]⟩,1+(z:Int),0,0⟩, rfl, (set5_box _ _ _ _ _ HRp.out).2 _ HEp.out HRS.out, ?_, ?_⟩
   · simp [fieldErr, shapeS, rangesS]; omega
   · exact ⟨by simp [I64], by unfold I64; simp only; omega, by simp [I64], by simp [I64], Nat.zero_le _⟩
 · obtain ⟨z, hz⟩ : ∃ z : Nat, z = x % 4 := ⟨_, rfl⟩
   have hxz : Int.tmod (x : Int) 4 = (z : Int) := by rw [Int.tmod_eq_emod_of_nonneg (by omega)]; omega
   have hz3 : z < 4 := by omega
   clear d0 d1 d2 hz
   have c0 : wn.cell? ⟨rb, 0, none⟩ = some (.int .i64 0) := by rw [cellc HRp.out]; rfl
   have c1 : wn.cell? ⟨rb, 1, none⟩ = some (.string ⟨#[]⟩) := by rw [cellc HRp.out]; rfl
   have c2 : wn.cell? ⟨rb, 2, none⟩ = some (.int .i64 0) := by rw [cellc HRp.out]; rfl
   have c3 : wn.cell? ⟨rb, 3, none⟩ = some (.int .i64 0) := by rw [cellc HRp.out]; rfl
   have c4 : wn.cell? ⟨rb, 4, none⟩ = some (.int .i64 0) := by rw [cellc HRp.out]; rfl
   have f0 : wn.frozen? ⟨rb, 0, none⟩ = false := frozenc HRp.out
   have f1 : wn.frozen? ⟨rb, 1, none⟩ = false := frozenc HRp.out
   have f2 : wn.frozen? ⟨rb, 2, none⟩ = false := frozenc HRp.out
   have f3 : wn.frozen? ⟨rb, 3, none⟩ = false := frozenc HRp.out
   have f4 : wn.frozen? ⟨rb, 4, none⟩ = false := frozenc HRp.out
   go_wp2_with fail
   refine ret_fld (g := rb) rfl rfl (set5_box _ _ _ _ _ HRp.out).1 rfl ⟨⟨3,⟨#[]⟩,(z:Int),0,0⟩, rfl, (set5_box _ _ _ _ _ HRp.out).2 _ HEp.out HRS.out, ?_, ?_⟩
   · simp [fieldErr, shapeS, rangesS]; omega
   · exact ⟨by simp [I64], by unfold I64; simp only; omega, by simp [I64], by simp [I64], Nat.zero_le _⟩
 · obtain ⟨z, hz⟩ : ∃ z : Nat, z = x % 8 := ⟨_, rfl⟩
   have hxz : Int.tmod (x : Int) 8 = (z : Int) := by rw [Int.tmod_eq_emod_of_nonneg (by omega)]; omega
   have hz3 : z < 8 := by omega
   obtain ⟨q, hq⟩ : ∃ q : Nat, q = y % 8 := ⟨_, rfl⟩
   have hyq : Int.tmod (y : Int) 8 = (q : Int) := by rw [Int.tmod_eq_emod_of_nonneg (by omega)]; omega
   have hq3 : q < 8 := by omega
   have hw : IntKind.i64.wrap ((z : Int) + (q : Int)) = (z : Int) + (q : Int) := by rw [IntKind.wrap_i64]; omega
   clear d0 d1 d2 hz hq
   have c0 : wn.cell? ⟨rb, 0, none⟩ = some (.int .i64 0) := by rw [cellc HRp.out]; rfl
   have c1 : wn.cell? ⟨rb, 1, none⟩ = some (.string ⟨#[]⟩) := by rw [cellc HRp.out]; rfl
   have c2 : wn.cell? ⟨rb, 2, none⟩ = some (.int .i64 0) := by rw [cellc HRp.out]; rfl
   have c3 : wn.cell? ⟨rb, 3, none⟩ = some (.int .i64 0) := by rw [cellc HRp.out]; rfl
   have c4 : wn.cell? ⟨rb, 4, none⟩ = some (.int .i64 0) := by rw [cellc HRp.out]; rfl
   have f0 : wn.frozen? ⟨rb, 0, none⟩ = false := frozenc HRp.out
   have f1 : wn.frozen? ⟨rb, 1, none⟩ = false := frozenc HRp.out
   have f2 : wn.frozen? ⟨rb, 2, none⟩ = false := frozenc HRp.out
   have f3 : wn.frozen? ⟨rb, 3, none⟩ = false := frozenc HRp.out
   have f4 : wn.frozen? ⟨rb, 4, none⟩ = false := frozenc HRp.out
   go_wp2_with fail
   refine ret_fld (g := rb) rfl rfl (set5_box _ _ _ _ _ HRp.out).1 rfl ⟨⟨4,⟨#[]⟩,0,(z:Int),(z:Int)+(q:Int)⟩, rfl, (set5_box _ _ _ _ _ HRp.out).2 _ HEp.out HRS.out, ?_, ?_⟩
   · simp [fieldErr, shapeS, rangesS]; omega
   · exact ⟨by simp [I64], by simp [I64], by unfold I64; simp only; omega, by unfold I64; simp only; omega, Nat.zero_le _⟩
 · by_cases ht : t.length = 0
   · have hl0 : ¬ (0 : Int) < (t.length : Int) := by omega
     clear ht
     obtain ⟨z, hz⟩ : ∃ z : Nat, z = x % 4 := ⟨_, rfl⟩
     have hxz : Int.tmod (x : Int) 4 = (z : Int) := by rw [Int.tmod_eq_emod_of_nonneg (by omega)]; omega
     have hz4 : z < 4 := by omega
     obtain ⟨q, hq⟩ : ∃ q : Nat, q = y % 4 := ⟨_, rfl⟩
     have hyq : Int.tmod (y : Int) 4 = (q : Int) := by rw [Int.tmod_eq_emod_of_nonneg (by omega)]; omega
     have hq4 : q < 4 := by omega
     obtain ⟨m, hm⟩ : ∃ m : Nat, m = y % 3 := ⟨_, rfl⟩
     have hym : Int.tmod (y : Int) 3 = (m : Int) := by rw [Int.tmod_eq_emod_of_nonneg (by omega)]; omega
     clear d0 d1 d2 hz hq hm
     obtain ⟨s1, hs1⟩ : ∃ s1, s1 = strOfNums [(z : Int)] := ⟨_, rfl⟩
     have hz1 : s1.size = 1 := by rw [hs1]; rfl
     obtain ⟨s2, hs2⟩ : ∃ s2, s2 = strOfNums [(q : Int)] := ⟨_, rfl⟩
     have hz2 : s2.size = 1 := by rw [hs2]; rfl
     have hcv : ∀ w' : World, (convert 23 9 (.slice (some ⟨w'.heap.size, 0, none⟩) 1 1)).run Tryz.prog (w'.alloc (.cells #[.int .u8 z] 5)) = .ok (.string s1) (w'.alloc (.cells #[.int .u8 z] 5)) := by
      intro w'
      rw [hs1]
      exact run_convert_bytes_arg (w'.alloc _) _ _ Tryz.underlying23 Tryz.underlying5 _ 0 1 1 [(z : Int)] rfl (fun i hi => by
       obtain rfl : i = 0 := by omega
       rw [cellc hs_new]; rfl) _ Tryz.underlying9
     have hcv2 : ∀ w' : World, (convert 23 9 (.slice (some ⟨w'.heap.size, 0, none⟩) 1 1)).run Tryz.prog (w'.alloc (.cells #[.int .u8 q] 5)) = .ok (.string s2) (w'.alloc (.cells #[.int .u8 q] 5)) := by
      intro w'
      rw [hs2]
      exact run_convert_bytes_arg (w'.alloc _) _ _ Tryz.underlying23 Tryz.underlying5 _ 0 1 1 [(q : Int)] rfl (fun i hi => by
       obtain rfl : i = 0 := by omega
       rw [cellc hs_new]; rfl) _ Tryz.underlying9
     clear hs1 hs2
     obtain ⟨wq, hwq⟩ : ∃ wq, wq = wn.alloc (.cells #[.int .u8 z] 5) := ⟨_, rfl⟩
     have hEq : Ext wn wq := by rw [hwq]; exact Ext.alloc _ _
     have HRq := Lib.hid (hs_ext hEq HRp.out)
     have HEq := Lib.hid (HEp.out.trans hEq)
     clear hEq
     go_upto_region 16 with fail
     rw [← hwq]
     clear hwq hcv
     by_cases hm0 : m = 0
     · subst hm0
       obtain ⟨wo, hwo⟩ : ∃ wo, wo = wq.alloc (.cells #[.int .u8 q] 5) := ⟨_, rfl⟩
       have hEo : Ext wq wo := by rw [hwo]; exact Ext.alloc _ _
       have HRo := Lib.hid (hs_ext hEo HRq.out)
       have HEo := Lib.hid (HEq.out.trans hEo)
       clear hEo
       go_upto_region 18 with fail
       rw [← hwo]
       clear hwo hcv2
       have c0 : wo.cell? ⟨rb, 0, none⟩ = some (.int .i64 0) := by rw [cellc HRo.out]; rfl
       have c1 : wo.cell? ⟨rb, 1, none⟩ = some (.string ⟨#[]⟩) := by rw [cellc HRo.out]; rfl
       have c2 : wo.cell? ⟨rb, 2, none⟩ = some (.int .i64 0) := by rw [cellc HRo.out]; rfl
       have c3 : wo.cell? ⟨rb, 3, none⟩ = some (.int .i64 0) := by rw [cellc HRo.out]; rfl
       have c4 : wo.cell? ⟨rb, 4, none⟩ = some (.int .i64 0) := by rw [cellc HRo.out]; rfl
       have f0 : wo.frozen? ⟨rb, 0, none⟩ = false := frozenc HRo.out
       have f1 : wo.frozen? ⟨rb, 1, none⟩ = false := frozenc HRo.out
       have f2 : wo.frozen? ⟨rb, 2, none⟩ = false := frozenc HRo.out
       have f3 : wo.frozen? ⟨rb, 3, none⟩ = false := frozenc HRo.out
       have f4 : wo.frozen? ⟨rb, 4, none⟩ = false := frozenc HRo.out
       go_wp2_with fail
       refine ret_fld (g := rb) rfl rfl (set5_box _ _ _ _ _ HRo.out).1 rfl ⟨⟨1,s1++s2,0,0,0⟩, rfl, (set5_box _ _ _ _ _ HRo.out).2 _ HEo.out HRS.out, ?_, ?_⟩
       · have h12 : (s1 ++ s2).size = 2 := by rw [ByteArray.size_append]; omega
         simp [fieldErr, shapeS, rangesS, h12]
       · exact ⟨by simp [I64], by simp [I64], by simp [I64], by simp [I64], by show (s1 ++ s2).size ≤ maxLen; rw [ByteArray.size_append]; unfold maxLen; omega⟩
     · have hmb : ((m : Int) == 0) = false := by simpa using hm0
       have c0 : wq.cell? ⟨rb, 0, none⟩ = some (.int .i64 0) := by rw [cellc HRq.out]; rfl
       have c1 : wq.cell? ⟨rb, 1, none⟩ = some (.string ⟨#[]⟩) := by rw [cellc HRq.out]; rfl
       have c2 : wq.cell? ⟨rb, 2, none⟩ = some (.int .i64 0) := by rw [cellc HRq.out]; rfl
       have c3 : wq.cell? ⟨rb, 3, none⟩ = some (.int .i64 0) := by rw [cellc HRq.out]; rfl
       have c4 : wq.cell? ⟨rb, 4, none⟩ = some (.int .i64 0) := by rw [cellc HRq.out]; rfl
       have f0 : wq.frozen? ⟨rb, 0, none⟩ = false := frozenc HRq.out
       have f1 : wq.frozen? ⟨rb, 1, none⟩ = false := frozenc HRq.out
       have f2 : wq.frozen? ⟨rb, 2, none⟩ = false := frozenc HRq.out
       have f3 : wq.frozen? ⟨rb, 3, none⟩ = false := frozenc HRq.out
       have f4 : wq.frozen? ⟨rb, 4, none⟩ = false := frozenc HRq.out
       clear hcv2
       go_wp2_with fail
       refine ret_fld (g := rb) rfl rfl (set5_box _ _ _ _ _ HRq.out).1 rfl ⟨⟨1,s1,0,0,0⟩, rfl, (set5_box _ _ _ _ _ HRq.out).2 _ HEq.out HRS.out, ?_, ?_⟩
       · simp [fieldErr, shapeS, rangesS, hz1]
       · exact ⟨by simp [I64], by simp [I64], by simp [I64], by simp [I64], by show s1.size ≤ maxLen; unfold maxLen; omega⟩
   · have hl0 : (0 : Int) < (t.length : Int) := by omega
     obtain ⟨j, hj⟩ : ∃ j : Nat, j = x % t.length := ⟨_, rfl⟩
     have hjl : j < t.length := by rw [hj]; exact Nat.mod_lt _ (by omega)
     have hxj : Int.tmod (x : Int) (t.length : Int) = (j : Int) := by rw [Int.tmod_eq_emod_of_nonneg (by omega), hj]; exact (Int.natCast_emod _ _).symm
     obtain ⟨g, hg⟩ : ∃ g, t[j]? = some g := ⟨_, List.getElem?_eq_getElem hjl⟩
     have hTn := hT.ext hB HEp.out
     have hBn := Nat.le_trans hB HEp.out.size
     obtain ⟨tb, toff, fa, fcap, rfl, htb, t0, t1, hFA, -⟩ := hTn.at' hg
     have HP := Lib.hid (plain17_any (nm := g.name) (fcap := fcap) hFA hBn)
     have HTG : Hid (t.getD j default = g) := Lib.hid (by rw [List.getD_eq_getElem?_getD, hg]; rfl)
     have hj0 : (0 : Int) ≤ (j : Int) := by omega
     have hji : (j : Int) < (t.length : Int) := by omega
     have hlz : ¬ (t.length : Int) = 0 := by omega
     have hlb : ((t.length : Int) == 0) = false := by simpa using ht
     clear hTn hBn hFA hg hj htb ht
     obtain ⟨pb, hpb⟩ : ∃ pb, pb = plain17 g.fields := ⟨_, rfl⟩
     rw [← hpb] at HP
     have HPB := Lib.hid hpb
     clear hpb
     go_wp2_with fail
     refine HP.out.mono ?_
     rintro e w4 ⟨rfl, hE4⟩
     have HR4 := Lib.hid (hs_ext hE4 HRp.out)
     have HE4 := Lib.hid (HEp.out.trans hE4)
     clear hE4 t0 t1
     cases pb with
     | true =>
       have c0 : w4.cell? ⟨rb, 0, none⟩ = some (.int .i64 0) := by rw [cellc HR4.out]; rfl
       have c1 : w4.cell? ⟨rb, 1, none⟩ = some (.string ⟨#[]⟩) := by rw [cellc HR4.out]; rfl
       have c2 : w4.cell? ⟨rb, 2, none⟩ = some (.int .i64 0) := by rw [cellc HR4.out]; rfl
       have c3 : w4.cell? ⟨rb, 3, none⟩ = some (.int .i64 0) := by rw [cellc HR4.out]; rfl
       have c4 : w4.cell? ⟨rb, 4, none⟩ = some (.int .i64 0) := by rw [cellc HR4.out]; rfl
       have f0 : w4.frozen? ⟨rb, 0, none⟩ = false := frozenc HR4.out
       have f1 : w4.frozen? ⟨rb, 1, none⟩ = false := frozenc HR4.out
       have f2 : w4.frozen? ⟨rb, 2, none⟩ = false := frozenc HR4.out
       have f3 : w4.frozen? ⟨rb, 3, none⟩ = false := frozenc HR4.out
       have f4 : w4.frozen? ⟨rb, 4, none⟩ = false := frozenc HR4.out
       clear d0 d1 d2
       go_wp2_with fail
       refine ret_fld (g := rb) rfl rfl (set5_box _ _ _ _ _ HR4.out).1 rfl ⟨⟨5,⟨#[]⟩,(j:Int),0,0⟩, rfl, (set5_box _ _ _ _ _ HR4.out).2 _ HE4.out HRS.out, ?_, ?_⟩
       · have h1 : ¬ ((j : Int) < 0 ∨ (t.length : Int) ≤ (j : Int)) := by omega
         have h2 : plain17 (t.getD j default).fields = true := by rw [HTG.out]; exact HPB.out.symm
         unfold fieldErr
         rw [if_neg (by simp [shapeS]), if_neg (by simp [rangesS]), if_neg (by simp), if_neg h1, if_neg (by rw [Int.toNat_natCast, h2]; simp)]
       · exact ⟨by simp [I64], by unfold I64; simp only; omega, by simp [I64], by simp [I64], Nat.zero_le _⟩
     | false =>
       skip
       obtain ⟨z, hz⟩ : ∃ z : Nat, z = x % 4 := ⟨_, rfl⟩
       have hxz : Int.tmod (x : Int) 4 = (z : Int) := by rw [Int.tmod_eq_emod_of_nonneg (by omega)]; omega
       have hz4 : z < 4 := by omega
       obtain ⟨q, hq⟩ : ∃ q : Nat, q = y % 4 := ⟨_, rfl⟩
       have hyq : Int.tmod (y : Int) 4 = (q : Int) := by rw [Int.tmod_eq_emod_of_nonneg (by omega)]; omega
       have hq4 : q < 4 := by omega
       obtain ⟨m, hm⟩ : ∃ m : Nat, m = y % 3 := ⟨_, rfl⟩
       have hym : Int.tmod (y : Int) 3 = (m : Int) := by rw [Int.tmod_eq_emod_of_nonneg (by omega)]; omega
       clear d0 d1 d2 hz hq hm
       obtain ⟨s1, hs1⟩ : ∃ s1, s1 = strOfNums [(z : Int)] := ⟨_, rfl⟩
       have hz1 : s1.size = 1 := by rw [hs1]; rfl
       obtain ⟨s2, hs2⟩ : ∃ s2, s2 = strOfNums [(q : Int)] := ⟨_, rfl⟩
       have hz2 : s2.size = 1 := by rw [hs2]; rfl
       have hcv : ∀ w' : World, (convert 23 9 (.slice (some ⟨w'.heap.size, 0, none⟩) 1 1)).run Tryz.prog (w'.alloc (.cells #[.int .u8 z] 5)) = .ok (.string s1) (w'.alloc (.cells #[.int .u8 z] 5)) := by
        intro w'
        rw [hs1]
        exact run_convert_bytes_arg (w'.alloc _) _ _ Tryz.underlying23 Tryz.underlying5 _ 0 1 1 [(z : Int)] rfl (fun i hi => by
         obtain rfl : i = 0 := by omega
         rw [cellc hs_new]; rfl) _ Tryz.underlying9
       have hcv2 : ∀ w' : World, (convert 23 9 (.slice (some ⟨w'.heap.size, 0, none⟩) 1 1)).run Tryz.prog (w'.alloc (.cells #[.int .u8 q] 5)) = .ok (.string s2) (w'.alloc (.cells #[.int .u8 q] 5)) := by
        intro w'
        rw [hs2]
        exact run_convert_bytes_arg (w'.alloc _) _ _ Tryz.underlying23 Tryz.underlying5 _ 0 1 1 [(q : Int)] rfl (fun i hi => by
         obtain rfl : i = 0 := by omega
         rw [cellc hs_new]; rfl) _ Tryz.underlying9
       clear hs1 hs2
       obtain ⟨wq, hwq⟩ : ∃ wq, wq = w4.alloc (.cells #[.int .u8 z] 5) := ⟨_, rfl⟩
       have hEq : Ext w4 wq := by rw [hwq]; exact Ext.alloc _ _
       have HRq := Lib.hid (hs_ext hEq HR4.out)
       have HEq := Lib.hid (HE4.out.trans hEq)
       clear hEq
       go_upto_region 16 with fail
       rw [← hwq]
       clear hwq hcv
       by_cases hm0 : m = 0
       · subst hm0
         obtain ⟨wo, hwo⟩ : ∃ wo, wo = wq.alloc (.cells #[.int .u8 q] 5) := ⟨_, rfl⟩
         have hEo : Ext wq wo := by rw [hwo]; exact Ext.alloc _ _
         have HRo := Lib.hid (hs_ext hEo HRq.out)
         have HEo := Lib.hid (HEq.out.trans hEo)
         clear hEo
         go_upto_region 18 with fail
         rw [← hwo]
         clear hwo hcv2
         have c0 : wo.cell? ⟨rb, 0, none⟩ = some (.int .i64 0) := by rw [cellc HRo.out]; rfl
         have c1 : wo.cell? ⟨rb, 1, none⟩ = some (.string ⟨#[]⟩) := by rw [cellc HRo.out]; rfl
         have c2 : wo.cell? ⟨rb, 2, none⟩ = some (.int .i64 0) := by rw [cellc HRo.out]; rfl
         have c3 : wo.cell? ⟨rb, 3, none⟩ = some (.int .i64 0) := by rw [cellc HRo.out]; rfl
         have c4 : wo.cell? ⟨rb, 4, none⟩ = some (.int .i64 0) := by rw [cellc HRo.out]; rfl
         have f0 : wo.frozen? ⟨rb, 0, none⟩ = false := frozenc HRo.out
         have f1 : wo.frozen? ⟨rb, 1, none⟩ = false := frozenc HRo.out
         have f2 : wo.frozen? ⟨rb, 2, none⟩ = false := frozenc HRo.out
         have f3 : wo.frozen? ⟨rb, 3, none⟩ = false := frozenc HRo.out
         have f4 : wo.frozen? ⟨rb, 4, none⟩ = false := frozenc HRo.out
         go_wp2_with fail
         refine ret_fld (g := rb) rfl rfl (set5_box _ _ _ _ _ HRo.out).1 rfl ⟨⟨1,s1++s2,0,0,0⟩, rfl, (set5_box _ _ _ _ _ HRo.out).2 _ HEo.out HRS.out, ?_, ?_⟩
         · have h12 : (s1 ++ s2).size = 2 := by rw [ByteArray.size_append]; omega
           simp [fieldErr, shapeS, rangesS, h12]
         · exact ⟨by simp [I64], by simp [I64], by simp [I64], by simp [I64], by show (s1 ++ s2).size ≤ maxLen; rw [ByteArray.size_append]; unfold maxLen; omega⟩
       · have hmb : ((m : Int) == 0) = false := by simpa using hm0
         have c0 : wq.cell? ⟨rb, 0, none⟩ = some (.int .i64 0) := by rw [cellc HRq.out]; rfl
         have c1 : wq.cell? ⟨rb, 1, none⟩ = some (.string ⟨#[]⟩) := by rw [cellc HRq.out]; rfl
         have c2 : wq.cell? ⟨rb, 2, none⟩ = some (.int .i64 0) := by rw [cellc HRq.out]; rfl
         have c3 : wq.cell? ⟨rb, 3, none⟩ = some (.int .i64 0) := by rw [cellc HRq.out]; rfl
         have c4 : wq.cell? ⟨rb, 4, none⟩ = some (.int .i64 0) := by rw [cellc HRq.out]; rfl
         have f0 : wq.frozen? ⟨rb, 0, none⟩ = false := frozenc HRq.out
         have f1 : wq.frozen? ⟨rb, 1, none⟩ = false := frozenc HRq.out
         have f2 : wq.frozen? ⟨rb, 2, none⟩ = false := frozenc HRq.out
         have f3 : wq.frozen? ⟨rb, 3, none⟩ = false := frozenc HRq.out
         have f4 : wq.frozen? ⟨rb, 4, none⟩ = false := frozenc HRq.out
         clear hcv2
         go_wp2_with fail
         refine ret_fld (g := rb) rfl rfl (set5_box _ _ _ _ _ HRq.out).1 rfl ⟨⟨1,s1,0,0,0⟩, rfl, (set5_box _ _ _ _ _ HRq.out).2 _ HEq.out HRS.out, ?_, ?_⟩
         · simp [fieldErr, shapeS, rangesS, hz1]
         · exact ⟨by simp [I64], by simp [I64], by simp [I64], by simp [I64], by show s1.size ≤ maxLen; unfold maxLen; omega⟩
 · cases last with
   | false =>
     skip
     obtain ⟨z, hz⟩ : ∃ z : Nat, z = x % 4 := ⟨_, rfl⟩
     have hxz : Int.tmod (x : Int) 4 = (z : Int) := by rw [Int.tmod_eq_emod_of_nonneg (by omega)]; omega
     have hz4 : z < 4 := by omega
     obtain ⟨q, hq⟩ : ∃ q : Nat, q = y % 4 := ⟨_, rfl⟩
     have hyq : Int.tmod (y : Int) 4 = (q : Int) := by rw [Int.tmod_eq_emod_of_nonneg (by omega)]; omega
     have hq4 : q < 4 := by omega
     obtain ⟨m, hm⟩ : ∃ m : Nat, m = y % 3 := ⟨_, rfl⟩
     have hym : Int.tmod (y : Int) 3 = (m : Int) := by rw [Int.tmod_eq_emod_of_nonneg (by omega)]; omega
     clear d0 d1 d2 hz hq hm
     obtain ⟨s1, hs1⟩ : ∃ s1, s1 = strOfNums [(z : Int)] := ⟨_, rfl⟩
     have hz1 : s1.size = 1 := by rw [hs1]; rfl
     obtain ⟨s2, hs2⟩ : ∃ s2, s2 = strOfNums [(q : Int)] := ⟨_, rfl⟩
     have hz2 : s2.size = 1 := by rw [hs2]; rfl
     have hcv : ∀ w' : World, (convert 23 9 (.slice (some ⟨w'.heap.size, 0, none⟩) 1 1)).run Tryz.prog (w'.alloc (.cells #[.int .u8 z] 5)) = .ok (.string s1) (w'.alloc (.cells #[.int .u8 z] 5)) := by
      intro w'
      rw [hs1]
      exact run_convert_bytes_arg (w'.alloc _) _ _ Tryz.underlying23 Tryz.underlying5 _ 0 1 1 [(z : Int)] rfl (fun i hi => by
       obtain rfl : i = 0 := by omega
       rw [cellc hs_new]; rfl) _ Tryz.underlying9
     have hcv2 : ∀ w' : World, (convert 23 9 (.slice (some ⟨w'.heap.size, 0, none⟩) 1 1)).run Tryz.prog (w'.alloc (.cells #[.int .u8 q] 5)) = .ok (.string s2) (w'.alloc (.cells #[.int .u8 q] 5)) := by
      intro w'
      rw [hs2]
      exact run_convert_bytes_arg (w'.alloc _) _ _ Tryz.underlying23 Tryz.underlying5 _ 0 1 1 [(q : Int)] rfl (fun i hi => by
       obtain rfl : i = 0 := by omega
       rw [cellc hs_new]; rfl) _ Tryz.underlying9
     clear hs1 hs2
     obtain ⟨wq, hwq⟩ : ∃ wq, wq = wn.alloc (.cells #[.int .u8 z] 5) := ⟨_, rfl⟩
     have hEq : Ext wn wq := by rw [hwq]; exact Ext.alloc _ _
     have HRq := Lib.hid (hs_ext hEq HRp.out)
     have HEq := Lib.hid (HEp.out.trans hEq)
     clear hEq
     go_upto_region 16 with fail
     rw [← hwq]
     clear hwq hcv
     by_cases hm0 : m = 0
     · subst hm0
       obtain ⟨wo, hwo⟩ : ∃ wo, wo = wq.alloc (.cells #[.int .u8 q] 5) := ⟨_, rfl⟩
       have hEo : Ext wq wo := by rw [hwo]; exact Ext.alloc _ _
       have HRo := Lib.hid (hs_ext hEo HRq.out)
       have HEo := Lib.hid (HEq.out.trans hEo)
       clear hEo
       go_upto_region 18 with fail
       rw [← hwo]
       clear hwo hcv2
       have c0 : wo.cell? ⟨rb, 0, none⟩ = some (.int .i64 0) := by rw [cellc HRo.out]; rfl
       have c1 : wo.cell? ⟨rb, 1, none⟩ = some (.string ⟨#[]⟩) := by rw [cellc HRo.out]; rfl
       have c2 : wo.cell? ⟨rb, 2, none⟩ = some (.int .i64 0) := by rw [cellc HRo.out]; rfl
       have c3 : wo.cell? ⟨rb, 3, none⟩ = some (.int .i64 0) := by rw [cellc HRo.out]; rfl
       have c4 : wo.cell? ⟨rb, 4, none⟩ = some (.int .i64 0) := by rw [cellc HRo.out]; rfl
       have f0 : wo.frozen? ⟨rb, 0, none⟩ = false := frozenc HRo.out
       have f1 : wo.frozen? ⟨rb, 1, none⟩ = false := frozenc HRo.out
       have f2 : wo.frozen? ⟨rb, 2, none⟩ = false := frozenc HRo.out
       have f3 : wo.frozen? ⟨rb, 3, none⟩ = false := frozenc HRo.out
       have f4 : wo.frozen? ⟨rb, 4, none⟩ = false := frozenc HRo.out
       go_wp2_with fail
       refine ret_fld (g := rb) rfl rfl (set5_box _ _ _ _ _ HRo.out).1 rfl ⟨⟨1,s1++s2,0,0,0⟩, rfl, (set5_box _ _ _ _ _ HRo.out).2 _ HEo.out HRS.out, ?_, ?_⟩
       · have h12 : (s1 ++ s2).size = 2 := by rw [ByteArray.size_append]; omega
         simp [fieldErr, shapeS, rangesS, h12]
       · exact ⟨by simp [I64], by simp [I64], by simp [I64], by simp [I64], by show (s1 ++ s2).size ≤ maxLen; rw [ByteArray.size_append]; unfold maxLen; omega⟩
     · have hmb : ((m : Int) == 0) = false := by simpa using hm0
       have c0 : wq.cell? ⟨rb, 0, none⟩ = some (.int .i64 0) := by rw [cellc HRq.out]; rfl
       have c1 : wq.cell? ⟨rb, 1, none⟩ = some (.string ⟨#[]⟩) := by rw [cellc HRq.out]; rfl
       have c2 : wq.cell? ⟨rb, 2, none⟩ = some (.int .i64 0) := by rw [cellc HRq.out]; rfl
       have c3 : wq.cell? ⟨rb, 3, none⟩ = some (.int .i64 0) := by rw [cellc HRq.out]; rfl
       have c4 : wq.cell? ⟨rb, 4, none⟩ = some (.int .i64 0) := by rw [cellc HRq.out]; rfl
       have f0 : wq.frozen? ⟨rb, 0, none⟩ = false := frozenc HRq.out
       have f1 : wq.frozen? ⟨rb, 1, none⟩ = false := frozenc HRq.out
       have f2 : wq.frozen? ⟨rb, 2, none⟩ = false := frozenc HRq.out
       have f3 : wq.frozen? ⟨rb, 3, none⟩ = false := frozenc HRq.out
       have f4 : wq.frozen? ⟨rb, 4, none⟩ = false := frozenc HRq.out
       clear hcv2
       go_wp2_with fail
       refine ret_fld (g := rb) rfl rfl (set5_box _ _ _ _ _ HRq.out).1 rfl ⟨⟨1,s1,0,0,0⟩, rfl, (set5_box _ _ _ _ _ HRq.out).2 _ HEq.out HRS.out, ?_, ?_⟩
       · simp [fieldErr, shapeS, rangesS, hz1]
       · exact ⟨by simp [I64], by simp [I64], by simp [I64], by simp [I64], by show s1.size ≤ maxLen; unfold maxLen; omega⟩
   | true =>
     obtain ⟨z, hz⟩ : ∃ z : Nat, z = x % 3 := ⟨_, rfl⟩
     have hxz : Int.tmod (x : Int) 3 = (z : Int) := by rw [Int.tmod_eq_emod_of_nonneg (by omega)]; omega
     have hz3 : z < 3 := by omega
     obtain ⟨q, hq⟩ : ∃ q : Nat, q = y % 4 := ⟨_, rfl⟩
     have hyq : Int.tmod (y : Int) 4 = (q : Int) := by rw [Int.tmod_eq_emod_of_nonneg (by omega)]; omega
     have hq3 : q < 4 := by omega
     have hw : IntKind.i64.wrap ((z : Int) + (q : Int)) = (z : Int) + (q : Int) := by rw [IntKind.wrap_i64]; omega
     clear d0 d1 d2 hz hq
     have c0 : wn.cell? ⟨rb, 0, none⟩ = some (.int .i64 0) := by rw [cellc HRp.out]; rfl
     have c1 : wn.cell? ⟨rb, 1, none⟩ = some (.string ⟨#[]⟩) := by rw [cellc HRp.out]; rfl
     have c2 : wn.cell? ⟨rb, 2, none⟩ = some (.int .i64 0) := by rw [cellc HRp.out]; rfl
     have c3 : wn.cell? ⟨rb, 3, none⟩ = some (.int .i64 0) := by rw [cellc HRp.out]; rfl
     have c4 : wn.cell? ⟨rb, 4, none⟩ = some (.int .i64 0) := by rw [cellc HRp.out]; rfl
     have f0 : wn.frozen? ⟨rb, 0, none⟩ = false := frozenc HRp.out
     have f1 : wn.frozen? ⟨rb, 1, none⟩ = false := frozenc HRp.out
     have f2 : wn.frozen? ⟨rb, 2, none⟩ = false := frozenc HRp.out
     have f3 : wn.frozen? ⟨rb, 3, none⟩ = false := frozenc HRp.out
     have f4 : wn.frozen? ⟨rb, 4, none⟩ = false := frozenc HRp.out
     go_wp2_with fail
     refine ret_fld (g := rb) rfl rfl (set5_box _ _ _ _ _ HRp.out).1 rfl ⟨⟨6,⟨#[]⟩,0,(z:Int),(z:Int)+(q:Int)⟩, rfl, (set5_box _ _ _ _ _ HRp.out).2 _ HEp.out HRS.out, ?_, ?_⟩
     · simp [fieldErr, shapeS, rangesS]; omega
     · exact ⟨by simp [I64], by simp [I64], by unfold I64; simp only; omega, by unfold I64; simp only; omega, Nat.zero_le _⟩

abbrev Dr := Nat × Nat × Nat
/-- drafts of fields -/
def elDr : Elm Dr where
 n := 3
 R w S x cs := cs = [.int .u8 x.1, .int .u8 x.2.1, .int .u8 x.2.2] ∧ x.1 < 256 ∧ x.2.1 < 256 ∧ x.2.2 < 256
 len := by rintro w S t cs ⟨rfl, -⟩; rfl
 one := by rintro w S t cs ⟨rfl, -⟩ u hu; simp at hu; rcases hu with rfl | rfl | rfl <;> rfl
 keep := by rintro w w' S S' t cs ⟨rfl, h⟩ h1 h2; exact ⟨rfl, h⟩
/-- lists of drafts -/
def elDL : Elm (List Dr) where
 n := 1
 R w S x cs := ∃ v, cs = [v] ∧ LsG elDr w S v x
 len := by rintro w S t cs ⟨v, rfl, -⟩; rfl
 one := by
  rintro w S t cs ⟨v, rfl, h⟩ u hu
  obtain ⟨a, cap, rfl, -⟩ := h
  simp at hu
  rcases hu with rfl
  rfl
 keep := by
  rintro w w' S S' t cs ⟨v, rfl, h⟩ h1 h2
  exact ⟨v, rfl, h.hold h1 h2⟩
theorem dl_at {w : World} {S : Nat → Prop} {a : Option Addr} {n cap : Nat} {X : List (List Dr)} (h : LsG elDL w S (.slice a n cap) X) {i : Nat} {D : List Dr} (hi : X[i]? = some D) :
 ∃ b off da dc, a = some ⟨b, off, none⟩ ∧ w.cell? ⟨b, off + i, none⟩ = some (.slice da D.length dc) ∧ LsG elDr w S (.slice da D.length dc) D := by
 obtain ⟨b, off, cs, rfl, -, -, ⟨v, rfl, hv⟩, hc⟩ := h.at hi
 obtain ⟨da, dc, rfl, -, -⟩ := hv.slice
 refine ⟨b, off, da, dc, rfl, ?_, hv⟩
 have := hc 0 _ rfl
 simpa [elDL] using this
theorem dr_at {w : World} {S : Nat → Prop} {a : Option Addr} {n cap : Nat} {D : List Dr} (h : LsG elDr w S (.slice a n cap) D) {k : Nat} {d : Dr} (hk : D[k]? = some d) :
 ∃ b off, a = some ⟨b, off, none⟩ ∧ w.cell? ⟨b, off + k * 3, none⟩ = some (.int .u8 d.1) ∧ w.cell? ⟨b, off + k * 3 + 1, none⟩ = some (.int .u8 d.2.1) ∧ w.cell? ⟨b, off + k * 3 + 2, none⟩ = some (.int .u8 d.2.2) ∧ d.1 < 256 ∧ d.2.1 < 256 ∧ d.2.2 < 256 := by
 obtain ⟨b, off, cs, rfl, -, -, ⟨rfl, hd⟩, hc⟩ := h.at hk
 exact ⟨b, off, rfl, by simpa [elDr] using hc 0 _ rfl, by simpa [elDr] using hc 1 _ rfl, by simpa [elDr] using hc 2 _ rfl, hd⟩

def dg (i : Nat) : ByteArray := ⟨#[48 + i.toUInt8]⟩
def nmF (i : Nat) : ByteArray := ⟨#[102]⟩ ++ dg i
theorem nmF_ok {i : Nat} (h : i < 4) : fnameOk (nmF i) = true := by
 rcases (by omega : i = 0 ∨ i = 1 ∨ i = 2 ∨ i = 3) with rfl | rfl | rfl | rfl <;> decide +kernel
theorem nmF_size {i : Nat} : (nmF i).size = 2 := by unfold nmF dg; rw [ByteArray.size_append]; rfl
theorem nmF_inj {i j : Nat} (hi : i < 4) (hj : j < 4) (h : nmF i = nmF j) : i = j := by
 revert h
 rcases (by omega : i = 0 ∨ i = 1 ∨ i = 2 ∨ i = 3) with rfl | rfl | rfl | rfl <;> rcases (by omega : j = 0 ∨ j = 1 ∨ j = 2 ∨ j = 3) with rfl | rfl | rfl | rfl <;> decide +kernel
set_option maxRecDepth 100000 in
set_option maxHeartbeats 1000000 in
theorem digits_any {w : World} {i : Nat} (h : i < 4) : Calls Tryz.prog 50 #[.int .i64 i] w fun e w' => e = .returned (.string (dg i)) ∧ Ext w w' := by
 rcases (by omega : i = 0 ∨ i = 1 ∨ i = 2 ∨ i = 3) with rfl | rfl | rfl | rfl
 all_goals
  go_enter Tryz.func50, Tryz.ntmps50
  go_wp2_with fail
  go_ret
  exact ⟨by rfl, Ext.refl _⟩

def aggF (v : Value) : Array Value := match v with | .agg cs => cs | _ => #[]
/-- a field that has no error -/
def resF (t : List Fmt) (last : Bool) (u : Value) (w : World) : Prop := ∃ f : Fld, u = .agg #[.int .i64 f.kind, .string f.bytes, .int .i64 f.n, .int .i64 f.low, .int .i64 f.high] ∧ fieldErr t f last = 0 ∧ f.Wf
theorem resF.persist {t : List Fmt} {l : Bool} {B : Nat} : Persist false B [] (resF t l) := ⟨fun u a b h hE => h, (fun h => nomatch h), (fun h => absurd rfl h)⟩
theorem sizFld2 : (Tryz.prog.info? 59).map (fun i => (i.zero, i.size, i.bytes)) = some (some (.agg #[.int .i64 0, .string ⟨#[]⟩, .int .i64 0, .int .i64 0, .int .i64 0]), 5, 48) := by kernel_rfl
theorem sizFmt2 : (Tryz.prog.info? 56).map (fun i => (i.zero, i.size, i.bytes)) = some (some (.agg #[.string ⟨#[]⟩, .slice none 0 0]), 2, 40) := by kernel_rfl

abbrev tagF : List Fld := [mkFld 1 ⟨#[116]⟩ 0 0 0]
set_option maxRecDepth 100000 in
set_option maxHeartbeats 8000000 in
theorem Made_any {w : World} {S : Nat → Prop} {a : Option Addr} {cap : Nat} {X : List (List Dr)} (hX : LsG elDL w S (.slice a X.length cap) X) :
 Calls Tryz.prog 28 #[.slice a X.length cap] w fun e w' => ∃ ta tc t, e = .returned (.slice ta t.length tc) ∧ Ext w w' ∧ LsG elFmt w' (fun _ => True) (.slice ta t.length tc) t ∧ validF t = 0 ∧ t.length = min X.length 4 := by
 have HX := Lib.hid hX
 have hxl := hX.len.2
 unfold maxLen at hxl
 clear hX
 go_enter Tryz.func28, Tryz.ntmps28
 go_wp2_with fail
 go_loopw [3, 4, 5, 6] (fun ov iv x5 x6 wr => ∃ t : List Fmt, iv = .int .i64 t.length ∧ t.length ≤ 4 ∧ t.length ≤ X.length ∧ Hid (OwnG elFmt wr w.heap.size 56 (fun c => ov.ownBlock ≠ some c) ov t) ∧ Hid (validF t = 0 ∧ ∀ (j : Nat) f, t[j]? = some f → f.name = nmF j) ∧ Hid (Ext w wr)) (fun ov iv x5 x6 _ => 4 - (intOf iv).toNat)
 case atStart => exact ⟨[], rfl, by simp, by simp, Lib.hid OwnG.nil, Lib.hid ⟨rfl, fun j f h => by simp at h⟩, Lib.hid (Ext.refl _)⟩
 case round =>
  obtain ⟨t, rfl, ht4, htX, HO, HV, HE⟩ := hrel
  by_cases hlt : t.length < X.length ∧ t.length < 4
  · obtain ⟨D, hD⟩ : ∃ D, X[t.length]? = some D := ⟨_, List.getElem?_eq_getElem hlt.1⟩
    have HDG := Lib.hid (digits_any (w := wr) hlt.2)
    have hl1 : (t.length : Int) < (X.length : Int) := by omega
    have hl4 : (t.length : Int) < 4 := by omega
    obtain ⟨oa, oc, hov, -, -⟩ := id HO.out.slice
    subst hov
    go_upto_region 5 with fail
    go_wp2_with fail
    refine HDG.out.mono ?_
    rintro e w5 ⟨rfl, hE5⟩
    obtain ⟨fb, w6, hfb, hw6, HFB, hE6⟩ := box_new w5 (.cells #[.string (⟨#[102]⟩ ++ dg t.length), .slice none 0 0] 56)
    have HO5 := Lib.hid (HO.out.ext hE5)
    have HE5 := Lib.hid (HE.out.trans hE5)
    have HFS : Hid (fb = w5.heap.size) := Lib.hid hfb
    have HT5 : Hid (TabA w5 w5.heap.size oa t) := Lib.hid (tab_of HO5.out.any)
    have HE6 := Lib.hid hE6
    obtain ⟨nm, hnm⟩ : ∃ nm, nm = (⟨#[102]⟩ : ByteArray) ++ dg t.length := ⟨_, rfl⟩
    have HNM : Hid (nm = nmF t.length) := Lib.hid hnm
    rw [← hnm] at HFB hw6
    clear hE5 hE6
    go_upto_region 6 with fail
    rw [← hnm, ← hw6, ← hfb]
    clear hw6 hfb hnm
    go_wp2_with fail
    go_loopw [6] (fun kv wr => ∃ (k : Nat) (V : Value) (F : List Fld), kv = .int .i64 k ∧ k ≤ 4 ∧ k ≤ D.length ∧ Hid (Ext w5 wr) ∧ Hid (wr.heap[fb]? = some (.cells #[.string nm, V] 56)) ∧ Hid (OwnG elFld wr (fb + 1) 59 (fun _ => False) V F) ∧ Hid (F.length = k ∧ ∀ (j : Nat) f, F[j]? = some f → fieldErr t f (decide (j + 1 = min D.length 4)) = 0 ∧ f.Wf)) (fun kv _ => 4 - (intOf kv).toNat)
    case atStart => exact ⟨0, _, [], rfl, by omega, by omega, HE6, HFB, Lib.hid OwnG.nil, Lib.hid ⟨rfl, fun j f h => by simp at h⟩⟩
    case round =>
     obtain ⟨k, V, F, rfl, hk4, hkD, HEi, HFB, HF, HFV⟩ := hrel
     obtain ⟨xb, xo, da, dc, rfl, d0, hDL⟩ := dl_at (HX.out.ext (HE5.out.trans HEi.out)) hD
     have hx0 : (0 : Int) ≤ (t.length : Int) := by omega
     have hdl := hDL.len.2
     unfold maxLen at hdl
     by_cases hlk : k < D.length ∧ k < 4
     · obtain ⟨d, hd⟩ : ∃ d, D[k]? = some d := ⟨_, List.getElem?_eq_getElem hlk.1⟩
       obtain ⟨yb, yo, rfl, e0, e1, e2, hd0, hd1, hd2⟩ := dr_at hDL hd
       obtain ⟨va, vc, hva, -, -⟩ := id HF.out.slice
       subst hva
       have v0 : wr.cell? ⟨fb, 1, none⟩ = some (.slice va F.length vc) := by rw [cellc HFB.out]; rfl
       have hkl : (k : Int) < (D.length : Int) := by omega
       have hk4i : (k : Int) < 4 := by omega
       have hwl : IntKind.i64.wrap ((D.length : Int) - 1) = (D.length : Int) - 1 := by rw [IntKind.wrap_i64]; omega
       have HDL := Lib.hid hDL
       clear hDL hd
       by_cases hkm : k + 1 = D.length
       · have hkl1 : ((k : Int) == (D.length : Int) - 1) = true := by simp; omega
         have HLQ : Hid (true = decide (k + 1 = min D.length 4)) := Lib.hid (by symm; first | (rw [decide_eq_true_eq]; omega) | exact decide_eq_false (by omega))
         have HMD := Lib.hid (fun (w' : World) (hE : Ext wr w') => made_any (cap := oc) (t := t) true hd0 hd1 hd2 (HT5.out.ext (Nat.le_refl _) (HEi.out.trans hE)) (HEi.out.trans hE).size (by omega))
         go_upto_region 9 with fail
         have HFCT := Lib.hid (And.intro d0 (And.intro e0 (And.intro e1 (And.intro e2 v0))))
         refine wp_region_reg 24 false (by kernel_rfl) (by kernel_rfl) ?_
         refine reg_value (fun _ => rfl) ?_ (fun g w' vs hM hE hP => ?_) ?_
         rotate_left
         · (clear hP hM; have ⟨z0, z1, z2, z3, z4⟩ := cs_e5 hE HFCT.out; go_simp; first | done | rfl)
         refine reg_value (fun _ => rfl) ?_ (fun g w' vs hM hE hP => ?_) ?_
         rotate_left
         · (clear hP hM; have ⟨z0, z1, z2, z3, z4⟩ := cs_e5 hE HFCT.out; go_simp; first | done | rfl)
         refine reg_value (fun _ => rfl) ?_ (fun g w' vs hM hE hP => ?_) ?_
         rotate_left
         · (clear hP hM; have ⟨z0, z1, z2, z3, z4⟩ := cs_e5 hE HFCT.out; go_simp; first | done | rfl)
         refine reg_value (fun _ => rfl) ?_ (fun g w' vs hM hE hP => ?_) ?_
         rotate_left
         · (clear hP hM; have ⟨z0, z1, z2, z3, z4⟩ := cs_e5 hE HFCT.out; go_simp; first | done | rfl)
         refine reg_value (fun _ => rfl) ?_ (fun g w' vs hM hE hP => ?_) ?_
         rotate_left
         · (clear hP hM; have ⟨z0, z1, z2, z3, z4⟩ := cs_e5 hE HFCT.out; go_simp; first | done | rfl)
         refine reg_value (fun _ => rfl) ?_ (fun g w' vs hM hE hP => ?_) ?_
         rotate_left
         · (clear hP hM; have ⟨z0, z1, z2, z3, z4⟩ := cs_e5 hE HFCT.out; go_simp; first | done | rfl)
         refine reg_value (fun _ => rfl) ?_ (fun g w' vs hM hE hP => ?_) ?_
         rotate_left
         · (clear hP hM; have ⟨z0, z1, z2, z3, z4⟩ := cs_e5 hE HFCT.out; go_simp; first | done | rfl)
         refine reg_value (fun _ => rfl) ?_ (fun g w' vs hM hE hP => ?_) ?_
         rotate_left
         · (clear hP hM; have ⟨z0, z1, z2, z3, z4⟩ := cs_e5 hE HFCT.out; go_simp; first | done | rfl)
         refine reg_value (fun _ => rfl) ?_ (fun g w' vs hM hE hP => ?_) ?_
         rotate_left
         · (clear hP hM; have ⟨z0, z1, z2, z3, z4⟩ := cs_e5 hE HFCT.out; go_simp; first | done | rfl)
         refine reg_value (fun _ => rfl) ?_ (fun g w' vs hM hE hP => ?_) ?_
         rotate_left
         · (clear hP hM; have ⟨z0, z1, z2, z3, z4⟩ := cs_e5 hE HFCT.out; go_simp; first | done | rfl)
         refine reg_value (fun _ => rfl) ?_ (fun g w' vs hM hE hP => ?_) ?_
         rotate_left
         · (clear hP hM; have ⟨z0, z1, z2, z3, z4⟩ := cs_e5 hE HFCT.out; go_simp; first | done | rfl)
         refine reg_value (fun _ => rfl) ?_ (fun g w' vs hM hE hP => ?_) ?_
         rotate_left
         · (clear hP hM; have ⟨z0, z1, z2, z3, z4⟩ := cs_e5 hE HFCT.out; go_simp; first | done | rfl)
         refine reg_value (fun _ => rfl) ?_ (fun g w' vs hM hE hP => ?_) ?_
         rotate_left
         · (clear hP hM; have ⟨z0, z1, z2, z3, z4⟩ := cs_e5 hE HFCT.out; go_simp; first | done | rfl)
         refine reg_value (fun _ => rfl) ?_ (fun g w' vs hM hE hP => ?_) ?_
         rotate_left
         · (clear hP hM; have ⟨z0, z1, z2, z3, z4⟩ := cs_e5 hE HFCT.out; go_simp; first | done | rfl)
         refine reg_value (fun _ => rfl) ?_ (fun g w' vs hM hE hP => ?_) ?_
         rotate_left
         · (clear hP hM; have ⟨z0, z1, z2, z3, z4⟩ := cs_e5 hE HFCT.out; go_simp; first | done | rfl)
         refine reg_value (fun _ => rfl) ?_ (fun g w' vs hM hE hP => ?_) ?_
         rotate_left
         · (clear hP hM; have ⟨z0, z1, z2, z3, z4⟩ := cs_e5 hE HFCT.out; go_simp; first | done | rfl)
         refine reg_value (fun _ => rfl) ?_ (fun g w' vs hM hE hP => ?_) ?_
         rotate_left
         · (clear hP hM; have ⟨z0, z1, z2, z3, z4⟩ := cs_e5 hE HFCT.out; go_simp; first | done | rfl)
         refine reg_value (fun _ => rfl) ?_ (fun g w' vs hM hE hP => ?_) ?_
         rotate_left
         · (clear hP hM; have ⟨z0, z1, z2, z3, z4⟩ := cs_e5 hE HFCT.out; go_simp; first | done | rfl)
         refine reg_value (fun _ => rfl) ?_ (fun g w' vs hM hE hP => ?_) ?_
         rotate_left
         · (clear hP hM; have ⟨z0, z1, z2, z3, z4⟩ := cs_e5 hE HFCT.out; go_simp; first | done | rfl)
         refine reg_skip (fun g => by go_simp; first | done | (intro h; cases h) | simp [undef]) ?_
         refine reg_skip (fun g => by go_simp; first | done | (intro h; cases h) | simp [undef]) ?_
         refine reg_value (fun _ => rfl) ?_ (fun g w' vs hM hE hP => ?_) ?_
         rotate_left
         · (clear hP hM; have ⟨z0, z1, z2, z3, z4⟩ := cs_e5 hE HFCT.out; go_simp; first | done | rfl)
         refine reg_call (fun _ => rfl) 51 (fun _ => #[.slice oa t.length oc, .agg #[.int .u8 d.1, .int .u8 d.2.1, .int .u8 d.2.2], .bool true]) (fun g w' m hM hE hP => ?_) (resF t true) resF.persist (fun g w' m hM hE hP => ?_) ?_
         · clear hM hP
           go_simp
         · exact (HMD.out w' hE).mono fun e w'' ⟨f, h1, h2, h3, h4⟩ => ⟨_, h1, h2, f, rfl, h3, h4⟩
         refine reg_fresh (fun _ => rfl) (fun n => .slice (some ⟨n, 0, none⟩) 1 1) (fun g => .cells (aggF (g 22).v) 59) (fun g w' vs hM hE hP => ?_) ?_
         · obtain ⟨f, hu, -, -⟩ := hP _ List.mem_cons_self (anc_of 3 (by kernel_rfl))
           have hu : (g 22).v = _ := hu
           clear hP hM
           go_simp
           first | done | simp [aggF, hu]
         intro g w7 hE7 hF hQ
         simp only [List.drop_succ_cons, List.drop_zero, Act.put, List.setIfInBounds_toArray, List.set_cons_succ, List.set_cons_zero]
         obtain ⟨f, hu, hfe, hfw⟩ := hQ _ List.mem_cons_self
         have hu : (g 22).v = _ := hu
         obtain ⟨hf, -⟩ := hF.2.1 ((23, fun g => Obj.cells (aggF (g 22).v) 59) : Nat × (Ghs → Obj)) (by simp)
         simp only [hu, aggF] at hf
         obtain ⟨x, hx⟩ : ∃ x, x = (g 23).n := ⟨_, rfl⟩
         rw [← hx] at hf
         rw [← hx]
         have HLS : Hid (LsE elFld w7 (fun _ => False) (.slice (some ⟨x, 0, none⟩) 1 1) [f]) := Lib.hid (cells_lsE (P := [(f, [.int .i64 f.kind, .string f.bytes, .int .i64 f.n, .int .i64 f.low, .int .i64 f.high])]) hf rfl rfl rfl (by simp [maxLen]) (by intro p hp; simp at hp; subst hp; exact ⟨rfl, hfw⟩))
         have HF7 := Lib.hid (HF.out.ext hE7)
         have HFB7 := Lib.hid (hs_ext hE7 HFB.out)
         have HE7 := Lib.hid (HEi.out.trans hE7)
         have HFL : Hid (fb < w7.heap.size) := Lib.hid (Array.getElem?_eq_some_iff.1 HFB7.out).1
         have HFV2 : Hid ((F ++ [f]).length = k + 1 ∧ ∀ (j : Nat) f', (F ++ [f])[j]? = some f' → fieldErr t f' (decide (j + 1 = min D.length 4)) = 0 ∧ f'.Wf) := Lib.hid ⟨by rw [List.length_append, HFV.out.1]; rfl, fun j f' hj => by
          rcases Nat.lt_or_ge j F.length with h | h
          · rw [List.getElem?_append_left h] at hj
            exact HFV.out.2 j f' hj
          · rw [List.getElem?_append_right h] at hj
            have hj0 : j - F.length = 0 := by
             have := (List.getElem?_eq_some_iff.1 hj).1
             simpa using this
            rw [hj0] at hj
            cases hj
            have hjk : j = k := by have := HFV.out.1; omega
            rw [hjk, ← HLQ.out]
            exact ⟨hfe, hfw⟩⟩
         clear hF hQ hu hf hfe hfw hx hE7 d0 e0 e1 e2 v0
         refine wpList_appG (E := elFld) (T := 59) rfl 54 (.tmp 35) (.tmp 57) rfl rfl rfl Tryz.underlying54 sizFld2 rfl (by decide) (by decide) HF7.out HFL.out (fun c h => absurd h id) (by have := HFV.out.1; omega) (M := [f]) (by simp) HLS.out ?_
         intro v8 w8 o8 g8 k8
         have hfb8 := (g8.block fb HFL.out (fun e => by have := (HF7.out.lt fb e.symm).1; omega)).trans HFB7.out
         have HE8 := Lib.hid (Ext.grown HE7.out g8 (fun c hc => by have := (HF7.out.lt c hc).1; have := HFS.out; omega))
         obtain ⟨va8, vc8, rfl, -, -⟩ := id o8.slice
         have v1 : w8.cell? ⟨fb, 1, none⟩ = some (.slice va F.length vc) := by rw [cellc hfb8]; rfl
         have vf : w8.frozen? ⟨fb, 1, none⟩ = false := frozenc hfb8
         have HB9 : Hid ((w8.setCell ⟨fb, 1, none⟩ (.slice va8 (F ++ [f]).length vc8)).heap[fb]? = some (.cells #[.string nm, .slice va8 (F ++ [f]).length vc8] 56)) := Lib.hid (by rw [heap_setCell_same w8 fb 1 _ _ _ hfb8]; rfl)
         have HE9 : Hid (Ext w5 (w8.setCell ⟨fb, 1, none⟩ (.slice va8 (F ++ [f]).length vc8))) := Lib.hid (HE8.out.setCell (by have := HFS.out; omega) _)
         have HF9 : Hid (OwnG elFld (w8.setCell ⟨fb, 1, none⟩ (.slice va8 (F ++ [f]).length vc8)) (fb + 1) 59 (fun _ => False) (.slice va8 (F ++ [f]).length vc8) (F ++ [f])) := Lib.hid (o8.keep (fun c hc => heap_setCell_other _ _ _ _ (by have := (o8.lt c hc).1; show c ≠ fb; omega)) (fun c h => absurd h id) (fun c h => absurd h id))
         obtain ⟨n9, hn9⟩ : ∃ n9, n9 = (F ++ [f]).length := ⟨_, rfl⟩
         rw [← hn9] at HB9 HE9 HF9
         rw [← hn9]
         clear o8 g8 k8 hfb8 hn9
         go_wp2_with fail
         go_roundw
         case rel => exact ⟨k + 1, _, F ++ [f], by go_num, by omega, by omega, HE9, HB9, HF9, HFV2⟩
         case measure => simp [intOf]; omega
       · have hkl1 : ((k : Int) == (D.length : Int) - 1) = false := by simp; omega
         by_cases hk3 : k = 3
         · have hk3b : ((k : Int) == 3) = true := by simp; omega
           have HK3 := Lib.hid hk3
           clear hk3
           have HLQ : Hid (true = decide (k + 1 = min D.length 4)) := Lib.hid (by have hq3 := HK3.out; symm; first | (rw [decide_eq_true_eq]; omega) | exact decide_eq_false (by omega))
           have HMD := Lib.hid (fun (w' : World) (hE : Ext wr w') => made_any (cap := oc) (t := t) true hd0 hd1 hd2 (HT5.out.ext (Nat.le_refl _) (HEi.out.trans hE)) (HEi.out.trans hE).size (by omega))
           go_upto_region 9 with fail
           have HFCT := Lib.hid (And.intro d0 (And.intro e0 (And.intro e1 (And.intro e2 v0))))
           refine wp_region_reg 24 false (by kernel_rfl) (by kernel_rfl) ?_
           refine reg_value (fun _ => rfl) ?_ (fun g w' vs hM hE hP => ?_) ?_
           rotate_left
           · (clear hP hM; have ⟨z0, z1, z2, z3, z4⟩ := cs_e5 hE HFCT.out; go_simp; first | done | rfl)
           refine reg_value (fun _ => rfl) ?_ (fun g w' vs hM hE hP => ?_) ?_
           rotate_left
           · (clear hP hM; have ⟨z0, z1, z2, z3, z4⟩ := cs_e5 hE HFCT.out; go_simp; first | done | rfl)
           refine reg_value (fun _ => rfl) ?_ (fun g w' vs hM hE hP => ?_) ?_
           rotate_left
           · (clear hP hM; have ⟨z0, z1, z2, z3, z4⟩ := cs_e5 hE HFCT.out; go_simp; first | done | rfl)
           refine reg_value (fun _ => rfl) ?_ (fun g w' vs hM hE hP => ?_) ?_
           rotate_left
           · (clear hP hM; have ⟨z0, z1, z2, z3, z4⟩ := cs_e5 hE HFCT.out; go_simp; first | done | rfl)
           refine reg_value (fun _ => rfl) ?_ (fun g w' vs hM hE hP => ?_) ?_
           rotate_left
           · (clear hP hM; have ⟨z0, z1, z2, z3, z4⟩ := cs_e5 hE HFCT.out; go_simp; first | done | rfl)
           refine reg_value (fun _ => rfl) ?_ (fun g w' vs hM hE hP => ?_) ?_
           rotate_left
           · (clear hP hM; have ⟨z0, z1, z2, z3, z4⟩ := cs_e5 hE HFCT.out; go_simp; first | done | rfl)
           refine reg_value (fun _ => rfl) ?_ (fun g w' vs hM hE hP => ?_) ?_
           rotate_left
           · (clear hP hM; have ⟨z0, z1, z2, z3, z4⟩ := cs_e5 hE HFCT.out; go_simp; first | done | rfl)
           refine reg_value (fun _ => rfl) ?_ (fun g w' vs hM hE hP => ?_) ?_
           rotate_left
           · (clear hP hM; have ⟨z0, z1, z2, z3, z4⟩ := cs_e5 hE HFCT.out; go_simp; first | done | rfl)
           refine reg_value (fun _ => rfl) ?_ (fun g w' vs hM hE hP => ?_) ?_
           rotate_left
           · (clear hP hM; have ⟨z0, z1, z2, z3, z4⟩ := cs_e5 hE HFCT.out; go_simp; first | done | rfl)
           refine reg_value (fun _ => rfl) ?_ (fun g w' vs hM hE hP => ?_) ?_
           rotate_left
           · (clear hP hM; have ⟨z0, z1, z2, z3, z4⟩ := cs_e5 hE HFCT.out; go_simp; first | done | rfl)
           refine reg_value (fun _ => rfl) ?_ (fun g w' vs hM hE hP => ?_) ?_
           rotate_left
           · (clear hP hM; have ⟨z0, z1, z2, z3, z4⟩ := cs_e5 hE HFCT.out; go_simp; first | done | rfl)
           refine reg_value (fun _ => rfl) ?_ (fun g w' vs hM hE hP => ?_) ?_
           rotate_left
           · (clear hP hM; have ⟨z0, z1, z2, z3, z4⟩ := cs_e5 hE HFCT.out; go_simp; first | done | rfl)
           refine reg_value (fun _ => rfl) ?_ (fun g w' vs hM hE hP => ?_) ?_
           rotate_left
           · (clear hP hM; have ⟨z0, z1, z2, z3, z4⟩ := cs_e5 hE HFCT.out; go_simp; first | done | rfl)
           refine reg_value (fun _ => rfl) ?_ (fun g w' vs hM hE hP => ?_) ?_
           rotate_left
           · (clear hP hM; have ⟨z0, z1, z2, z3, z4⟩ := cs_e5 hE HFCT.out; go_simp; first | done | rfl)
           refine reg_value (fun _ => rfl) ?_ (fun g w' vs hM hE hP => ?_) ?_
           rotate_left
           · (clear hP hM; have ⟨z0, z1, z2, z3, z4⟩ := cs_e5 hE HFCT.out; go_simp; first | done | rfl)
           refine reg_value (fun _ => rfl) ?_ (fun g w' vs hM hE hP => ?_) ?_
           rotate_left
           · (clear hP hM; have ⟨z0, z1, z2, z3, z4⟩ := cs_e5 hE HFCT.out; go_simp; first | done | rfl)
           refine reg_value (fun _ => rfl) ?_ (fun g w' vs hM hE hP => ?_) ?_
           rotate_left
           · (clear hP hM; have ⟨z0, z1, z2, z3, z4⟩ := cs_e5 hE HFCT.out; go_simp; first | done | rfl)
           refine reg_value (fun _ => rfl) ?_ (fun g w' vs hM hE hP => ?_) ?_
           rotate_left
           · (clear hP hM; have ⟨z0, z1, z2, z3, z4⟩ := cs_e5 hE HFCT.out; go_simp; first | done | rfl)
           refine reg_value (fun _ => rfl) ?_ (fun g w' vs hM hE hP => ?_) ?_
           rotate_left
           · (clear hP hM; have ⟨z0, z1, z2, z3, z4⟩ := cs_e5 hE HFCT.out; go_simp; first | done | rfl)
           refine reg_value (fun g => by go_simp) ?_ (fun g w' vs hM hE hP => ?_) ?_
           rotate_left
           · (clear hP hM; have ⟨z0, z1, z2, z3, z4⟩ := cs_e5 hE HFCT.out; go_simp; first | done | rfl)
           refine reg_value (fun g => by go_simp) ?_ (fun g w' vs hM hE hP => ?_) ?_
           rotate_left
           · (clear hP hM; have ⟨z0, z1, z2, z3, z4⟩ := cs_e5 hE HFCT.out; go_simp; first | done | rfl)
           refine reg_value (fun _ => rfl) ?_ (fun g w' vs hM hE hP => ?_) ?_
           rotate_left
           · (clear hP hM; have ⟨z0, z1, z2, z3, z4⟩ := cs_e5 hE HFCT.out; go_simp; first | done | rfl)
           refine reg_call (fun _ => rfl) 51 (fun _ => #[.slice oa t.length oc, .agg #[.int .u8 d.1, .int .u8 d.2.1, .int .u8 d.2.2], .bool true]) (fun g w' m hM hE hP => ?_) (resF t true) resF.persist (fun g w' m hM hE hP => ?_) ?_
           · clear hM hP
             go_simp
           · exact (HMD.out w' hE).mono fun e w'' ⟨f, h1, h2, h3, h4⟩ => ⟨_, h1, h2, f, rfl, h3, h4⟩
           refine reg_fresh (fun _ => rfl) (fun n => .slice (some ⟨n, 0, none⟩) 1 1) (fun g => .cells (aggF (g 22).v) 59) (fun g w' vs hM hE hP => ?_) ?_
           · obtain ⟨f, hu, -, -⟩ := hP _ List.mem_cons_self (anc_of 3 (by kernel_rfl))
             have hu : (g 22).v = _ := hu
             clear hP hM
             go_simp
             first | done | simp [aggF, hu]
           intro g w7 hE7 hF hQ
           simp only [List.drop_succ_cons, List.drop_zero, Act.put, List.setIfInBounds_toArray, List.set_cons_succ, List.set_cons_zero]
           obtain ⟨f, hu, hfe, hfw⟩ := hQ _ List.mem_cons_self
           have hu : (g 22).v = _ := hu
           obtain ⟨hf, -⟩ := hF.2.1 ((23, fun g => Obj.cells (aggF (g 22).v) 59) : Nat × (Ghs → Obj)) (by simp)
           simp only [hu, aggF] at hf
           obtain ⟨x, hx⟩ : ∃ x, x = (g 23).n := ⟨_, rfl⟩
           rw [← hx] at hf
           rw [← hx]
           have HLS : Hid (LsE elFld w7 (fun _ => False) (.slice (some ⟨x, 0, none⟩) 1 1) [f]) := Lib.hid (cells_lsE (P := [(f, [.int .i64 f.kind, .string f.bytes, .int .i64 f.n, .int .i64 f.low, .int .i64 f.high])]) hf rfl rfl rfl (by simp [maxLen]) (by intro p hp; simp at hp; subst hp; exact ⟨rfl, hfw⟩))
           have HF7 := Lib.hid (HF.out.ext hE7)
           have HFB7 := Lib.hid (hs_ext hE7 HFB.out)
           have HE7 := Lib.hid (HEi.out.trans hE7)
           have HFL : Hid (fb < w7.heap.size) := Lib.hid (Array.getElem?_eq_some_iff.1 HFB7.out).1
           have HFV2 : Hid ((F ++ [f]).length = k + 1 ∧ ∀ (j : Nat) f', (F ++ [f])[j]? = some f' → fieldErr t f' (decide (j + 1 = min D.length 4)) = 0 ∧ f'.Wf) := Lib.hid ⟨by rw [List.length_append, HFV.out.1]; rfl, fun j f' hj => by
            rcases Nat.lt_or_ge j F.length with h | h
            · rw [List.getElem?_append_left h] at hj
              exact HFV.out.2 j f' hj
            · rw [List.getElem?_append_right h] at hj
              have hj0 : j - F.length = 0 := by
               have := (List.getElem?_eq_some_iff.1 hj).1
               simpa using this
              rw [hj0] at hj
              cases hj
              have hjk : j = k := by have := HFV.out.1; omega
              rw [hjk, ← HLQ.out]
              exact ⟨hfe, hfw⟩⟩
           clear hF hQ hu hf hfe hfw hx hE7 d0 e0 e1 e2 v0
           refine wpList_appG (E := elFld) (T := 59) rfl 54 (.tmp 35) (.tmp 57) rfl rfl rfl Tryz.underlying54 sizFld2 rfl (by decide) (by decide) HF7.out HFL.out (fun c h => absurd h id) (by have := HFV.out.1; omega) (M := [f]) (by simp) HLS.out ?_
           intro v8 w8 o8 g8 k8
           have hfb8 := (g8.block fb HFL.out (fun e => by have := (HF7.out.lt fb e.symm).1; omega)).trans HFB7.out
           have HE8 := Lib.hid (Ext.grown HE7.out g8 (fun c hc => by have := (HF7.out.lt c hc).1; have := HFS.out; omega))
           obtain ⟨va8, vc8, rfl, -, -⟩ := id o8.slice
           have v1 : w8.cell? ⟨fb, 1, none⟩ = some (.slice va F.length vc) := by rw [cellc hfb8]; rfl
           have vf : w8.frozen? ⟨fb, 1, none⟩ = false := frozenc hfb8
           have HB9 : Hid ((w8.setCell ⟨fb, 1, none⟩ (.slice va8 (F ++ [f]).length vc8)).heap[fb]? = some (.cells #[.string nm, .slice va8 (F ++ [f]).length vc8] 56)) := Lib.hid (by rw [heap_setCell_same w8 fb 1 _ _ _ hfb8]; rfl)
           have HE9 : Hid (Ext w5 (w8.setCell ⟨fb, 1, none⟩ (.slice va8 (F ++ [f]).length vc8))) := Lib.hid (HE8.out.setCell (by have := HFS.out; omega) _)
           have HF9 : Hid (OwnG elFld (w8.setCell ⟨fb, 1, none⟩ (.slice va8 (F ++ [f]).length vc8)) (fb + 1) 59 (fun _ => False) (.slice va8 (F ++ [f]).length vc8) (F ++ [f])) := Lib.hid (o8.keep (fun c hc => heap_setCell_other _ _ _ _ (by have := (o8.lt c hc).1; show c ≠ fb; omega)) (fun c h => absurd h id) (fun c h => absurd h id))
           obtain ⟨n9, hn9⟩ : ∃ n9, n9 = (F ++ [f]).length := ⟨_, rfl⟩
           rw [← hn9] at HB9 HE9 HF9
           rw [← hn9]
           clear o8 g8 k8 hfb8 hn9
           go_wp2_with fail
           go_roundw
           case rel => exact ⟨k + 1, _, F ++ [f], by go_num, by omega, by omega, HE9, HB9, HF9, HFV2⟩
           case measure => simp [intOf]; omega
         · have hk3b : ((k : Int) == 3) = false := by simp; omega
           have HK3 := Lib.hid hk3
           clear hk3
           have HLQ : Hid (false = decide (k + 1 = min D.length 4)) := Lib.hid (by have hq3 := HK3.out; symm; first | (rw [decide_eq_true_eq]; omega) | exact decide_eq_false (by omega))
           have HMD := Lib.hid (fun (w' : World) (hE : Ext wr w') => made_any (cap := oc) (t := t) false hd0 hd1 hd2 (HT5.out.ext (Nat.le_refl _) (HEi.out.trans hE)) (HEi.out.trans hE).size (by omega))
           go_upto_region 9 with fail
           have HFCT := Lib.hid (And.intro d0 (And.intro e0 (And.intro e1 (And.intro e2 v0))))
           refine wp_region_reg 24 false (by kernel_rfl) (by kernel_rfl) ?_
           refine reg_value (fun _ => rfl) ?_ (fun g w' vs hM hE hP => ?_) ?_
           rotate_left
           · (clear hP hM; have ⟨z0, z1, z2, z3, z4⟩ := cs_e5 hE HFCT.out; go_simp; first | done | rfl)
           refine reg_value (fun _ => rfl) ?_ (fun g w' vs hM hE hP => ?_) ?_
           rotate_left
           · (clear hP hM; have ⟨z0, z1, z2, z3, z4⟩ := cs_e5 hE HFCT.out; go_simp; first | done | rfl)
           refine reg_value (fun _ => rfl) ?_ (fun g w' vs hM hE hP => ?_) ?_
           rotate_left
           · (clear hP hM; have ⟨z0, z1, z2, z3, z4⟩ := cs_e5 hE HFCT.out; go_simp; first | done | rfl)
           refine reg_value (fun _ => rfl) ?_ (fun g w' vs hM hE hP => ?_) ?_
           rotate_left
           · (clear hP hM; have ⟨z0, z1, z2, z3, z4⟩ := cs_e5 hE HFCT.out; go_simp; first | done | rfl)
           refine reg_value (fun _ => rfl) ?_ (fun g w' vs hM hE hP => ?_) ?_
           rotate_left
           · (clear hP hM; have ⟨z0, z1, z2, z3, z4⟩ := cs_e5 hE HFCT.out; go_simp; first | done | rfl)
           refine reg_value (fun _ => rfl) ?_ (fun g w' vs hM hE hP => ?_) ?_
           rotate_left
           · (clear hP hM; have ⟨z0, z1, z2, z3, z4⟩ := cs_e5 hE HFCT.out; go_simp; first | done | rfl)
           refine reg_value (fun _ => rfl) ?_ (fun g w' vs hM hE hP => ?_) ?_
           rotate_left
           · (clear hP hM; have ⟨z0, z1, z2, z3, z4⟩ := cs_e5 hE HFCT.out; go_simp; first | done | rfl)
           refine reg_value (fun _ => rfl) ?_ (fun g w' vs hM hE hP => ?_) ?_
           rotate_left
           · (clear hP hM; have ⟨z0, z1, z2, z3, z4⟩ := cs_e5 hE HFCT.out; go_simp; first | done | rfl)
           refine reg_value (fun _ => rfl) ?_ (fun g w' vs hM hE hP => ?_) ?_
           rotate_left
           · (clear hP hM; have ⟨z0, z1, z2, z3, z4⟩ := cs_e5 hE HFCT.out; go_simp; first | done | rfl)
           refine reg_value (fun _ => rfl) ?_ (fun g w' vs hM hE hP => ?_) ?_
           rotate_left
           · (clear hP hM; have ⟨z0, z1, z2, z3, z4⟩ := cs_e5 hE HFCT.out; go_simp; first | done | rfl)
           refine reg_value (fun _ => rfl) ?_ (fun g w' vs hM hE hP => ?_) ?_
           rotate_left
           · (clear hP hM; have ⟨z0, z1, z2, z3, z4⟩ := cs_e5 hE HFCT.out; go_simp; first | done | rfl)
           refine reg_value (fun _ => rfl) ?_ (fun g w' vs hM hE hP => ?_) ?_
           rotate_left
           · (clear hP hM; have ⟨z0, z1, z2, z3, z4⟩ := cs_e5 hE HFCT.out; go_simp; first | done | rfl)
           refine reg_value (fun _ => rfl) ?_ (fun g w' vs hM hE hP => ?_) ?_
           rotate_left
           · (clear hP hM; have ⟨z0, z1, z2, z3, z4⟩ := cs_e5 hE HFCT.out; go_simp; first | done | rfl)
           refine reg_value (fun _ => rfl) ?_ (fun g w' vs hM hE hP => ?_) ?_
           rotate_left
           · (clear hP hM; have ⟨z0, z1, z2, z3, z4⟩ := cs_e5 hE HFCT.out; go_simp; first | done | rfl)
           refine reg_value (fun _ => rfl) ?_ (fun g w' vs hM hE hP => ?_) ?_
           rotate_left
           · (clear hP hM; have ⟨z0, z1, z2, z3, z4⟩ := cs_e5 hE HFCT.out; go_simp; first | done | rfl)
           refine reg_value (fun _ => rfl) ?_ (fun g w' vs hM hE hP => ?_) ?_
           rotate_left
           · (clear hP hM; have ⟨z0, z1, z2, z3, z4⟩ := cs_e5 hE HFCT.out; go_simp; first | done | rfl)
           refine reg_value (fun _ => rfl) ?_ (fun g w' vs hM hE hP => ?_) ?_
           rotate_left
           · (clear hP hM; have ⟨z0, z1, z2, z3, z4⟩ := cs_e5 hE HFCT.out; go_simp; first | done | rfl)
           refine reg_value (fun _ => rfl) ?_ (fun g w' vs hM hE hP => ?_) ?_
           rotate_left
           · (clear hP hM; have ⟨z0, z1, z2, z3, z4⟩ := cs_e5 hE HFCT.out; go_simp; first | done | rfl)
           refine reg_value (fun _ => rfl) ?_ (fun g w' vs hM hE hP => ?_) ?_
           rotate_left
           · (clear hP hM; have ⟨z0, z1, z2, z3, z4⟩ := cs_e5 hE HFCT.out; go_simp; first | done | rfl)
           refine reg_value (fun g => by go_simp) ?_ (fun g w' vs hM hE hP => ?_) ?_
           rotate_left
           · (clear hP hM; have ⟨z0, z1, z2, z3, z4⟩ := cs_e5 hE HFCT.out; go_simp; first | done | rfl)
           refine reg_value (fun g => by go_simp) ?_ (fun g w' vs hM hE hP => ?_) ?_
           rotate_left
           · (clear hP hM; have ⟨z0, z1, z2, z3, z4⟩ := cs_e5 hE HFCT.out; go_simp; first | done | rfl)
           refine reg_value (fun _ => rfl) ?_ (fun g w' vs hM hE hP => ?_) ?_
           rotate_left
           · (clear hP hM; have ⟨z0, z1, z2, z3, z4⟩ := cs_e5 hE HFCT.out; go_simp; first | done | rfl)
           refine reg_call (fun _ => rfl) 51 (fun _ => #[.slice oa t.length oc, .agg #[.int .u8 d.1, .int .u8 d.2.1, .int .u8 d.2.2], .bool false]) (fun g w' m hM hE hP => ?_) (resF t false) resF.persist (fun g w' m hM hE hP => ?_) ?_
           · clear hM hP
             go_simp
           · exact (HMD.out w' hE).mono fun e w'' ⟨f, h1, h2, h3, h4⟩ => ⟨_, h1, h2, f, rfl, h3, h4⟩
           refine reg_fresh (fun _ => rfl) (fun n => .slice (some ⟨n, 0, none⟩) 1 1) (fun g => .cells (aggF (g 22).v) 59) (fun g w' vs hM hE hP => ?_) ?_
           · obtain ⟨f, hu, -, -⟩ := hP _ List.mem_cons_self (anc_of 3 (by kernel_rfl))
             have hu : (g 22).v = _ := hu
             clear hP hM
             go_simp
             first | done | simp [aggF, hu]
           intro g w7 hE7 hF hQ
           simp only [List.drop_succ_cons, List.drop_zero, Act.put, List.setIfInBounds_toArray, List.set_cons_succ, List.set_cons_zero]
           obtain ⟨f, hu, hfe, hfw⟩ := hQ _ List.mem_cons_self
           have hu : (g 22).v = _ := hu
           obtain ⟨hf, -⟩ := hF.2.1 ((23, fun g => Obj.cells (aggF (g 22).v) 59) : Nat × (Ghs → Obj)) (by simp)
           simp only [hu, aggF] at hf
           obtain ⟨x, hx⟩ : ∃ x, x = (g 23).n := ⟨_, rfl⟩
           rw [← hx] at hf
           rw [← hx]
           have HLS : Hid (LsE elFld w7 (fun _ => False) (.slice (some ⟨x, 0, none⟩) 1 1) [f]) := Lib.hid (cells_lsE (P := [(f, [.int .i64 f.kind, .string f.bytes, .int .i64 f.n, .int .i64 f.low, .int .i64 f.high])]) hf rfl rfl rfl (by simp [maxLen]) (by intro p hp; simp at hp; subst hp; exact ⟨rfl, hfw⟩))
           have HF7 := Lib.hid (HF.out.ext hE7)
           have HFB7 := Lib.hid (hs_ext hE7 HFB.out)
           have HE7 := Lib.hid (HEi.out.trans hE7)
           have HFL : Hid (fb < w7.heap.size) := Lib.hid (Array.getElem?_eq_some_iff.1 HFB7.out).1
           have HFV2 : Hid ((F ++ [f]).length = k + 1 ∧ ∀ (j : Nat) f', (F ++ [f])[j]? = some f' → fieldErr t f' (decide (j + 1 = min D.length 4)) = 0 ∧ f'.Wf) := Lib.hid ⟨by rw [List.length_append, HFV.out.1]; rfl, fun j f' hj => by
            rcases Nat.lt_or_ge j F.length with h | h
            · rw [List.getElem?_append_left h] at hj
              exact HFV.out.2 j f' hj
            · rw [List.getElem?_append_right h] at hj
              have hj0 : j - F.length = 0 := by
               have := (List.getElem?_eq_some_iff.1 hj).1
               simpa using this
              rw [hj0] at hj
              cases hj
              have hjk : j = k := by have := HFV.out.1; omega
              rw [hjk, ← HLQ.out]
              exact ⟨hfe, hfw⟩⟩
           clear hF hQ hu hf hfe hfw hx hE7 d0 e0 e1 e2 v0
           refine wpList_appG (E := elFld) (T := 59) rfl 54 (.tmp 35) (.tmp 57) rfl rfl rfl Tryz.underlying54 sizFld2 rfl (by decide) (by decide) HF7.out HFL.out (fun c h => absurd h id) (by have := HFV.out.1; omega) (M := [f]) (by simp) HLS.out ?_
           intro v8 w8 o8 g8 k8
           have hfb8 := (g8.block fb HFL.out (fun e => by have := (HF7.out.lt fb e.symm).1; omega)).trans HFB7.out
           have HE8 := Lib.hid (Ext.grown HE7.out g8 (fun c hc => by have := (HF7.out.lt c hc).1; have := HFS.out; omega))
           obtain ⟨va8, vc8, rfl, -, -⟩ := id o8.slice
           have v1 : w8.cell? ⟨fb, 1, none⟩ = some (.slice va F.length vc) := by rw [cellc hfb8]; rfl
           have vf : w8.frozen? ⟨fb, 1, none⟩ = false := frozenc hfb8
           have HB9 : Hid ((w8.setCell ⟨fb, 1, none⟩ (.slice va8 (F ++ [f]).length vc8)).heap[fb]? = some (.cells #[.string nm, .slice va8 (F ++ [f]).length vc8] 56)) := Lib.hid (by rw [heap_setCell_same w8 fb 1 _ _ _ hfb8]; rfl)
           have HE9 : Hid (Ext w5 (w8.setCell ⟨fb, 1, none⟩ (.slice va8 (F ++ [f]).length vc8))) := Lib.hid (HE8.out.setCell (by have := HFS.out; omega) _)
           have HF9 : Hid (OwnG elFld (w8.setCell ⟨fb, 1, none⟩ (.slice va8 (F ++ [f]).length vc8)) (fb + 1) 59 (fun _ => False) (.slice va8 (F ++ [f]).length vc8) (F ++ [f])) := Lib.hid (o8.keep (fun c hc => heap_setCell_other _ _ _ _ (by have := (o8.lt c hc).1; show c ≠ fb; omega)) (fun c h => absurd h id) (fun c h => absurd h id))
           obtain ⟨n9, hn9⟩ : ∃ n9, n9 = (F ++ [f]).length := ⟨_, rfl⟩
           rw [← hn9] at HB9 HE9 HF9
           rw [← hn9]
           clear o8 g8 k8 hfb8 hn9
           go_wp2_with fail
           go_roundw
           case rel => exact ⟨k + 1, _, F ++ [f], by go_num, by omega, by omega, HE9, HB9, HF9, HFV2⟩
           case measure => simp [intOf]; omega
     · have hkm : k = min D.length 4 := by omega
       obtain ⟨va, vc, hva, -, -⟩ := id HF.out.slice
       subst hva
       have HEz := Lib.hid HEi.out
       obtain ⟨wz, hwz⟩ : ∃ wz, wz = wr := ⟨_, rfl⟩
       rw [← hwz] at HEz HEi HF HFB d0 ⊢
       have HFL : Hid (F.length = k) := Lib.hid HFV.out.1
       have HFL2 : Hid (fb < wz.heap.size) := Lib.hid (Array.getElem?_eq_some_iff.1 HFB.out).1
       clear hwz hDL
       have HVS : Hid (∀ FF : List Fld, FF ≠ [] → FF.length ≤ 6 → (∀ (q : Nat) x, FF[q]? = some x → fieldErr t x (decide (q + 1 = FF.length)) = 0) → validF (t ++ [⟨nm, FF⟩]) = 0 ∧ ∀ (j : Nat) f, (t ++ [⟨nm, FF⟩])[j]? = some f → f.name = nmF j) := Lib.hid (fun FF h1 h2 h3 => ⟨valid_snoc HV.out.1 (by omega) (by show fnameOk nm = true; rw [HNM.out]; exact nmF_ok hlt.2) (by
        show findS t nm = -1
        refine findS_none (fun j f hj e => ?_)
        have h4 := HV.out.2 j f hj
        have h5 := (List.getElem?_eq_some_iff.1 hj).1
        rw [h4, HNM.out] at e
        have := nmF_inj (by omega) hlt.2 e
        omega) h1 h2 h3, fun j f hj => by
        rcases Nat.lt_or_ge j t.length with h | h
        · rw [List.getElem?_append_left h] at hj
          exact HV.out.2 j f hj
        · rw [List.getElem?_append_right h] at hj
          have hj0 : j - t.length = 0 := by
           have := (List.getElem?_eq_some_iff.1 hj).1
           simpa using this
          rw [hj0] at hj
          cases hj
          have : j = t.length := by omega
          rw [this]; exact HNM.out⟩)
       have v0 : wz.cell? ⟨fb, 1, none⟩ = some (.slice va F.length vc) := by rw [cellc HFB.out]; rfl
       by_cases hk0 : k = 0
       · have hF0 : F = [] := List.eq_nil_of_length_eq_zero (by rw [HFL.out]; exact hk0)
         have hkl : ¬ (k : Int) < (D.length : Int) := by omega
         have HVN8 := Lib.hid (HVS.out tagF (by simp) (by simp) (fun q x hx => by
          have hq : q = 0 := by
           have := (List.getElem?_eq_some_iff.1 hx).1
           simpa using this
          subst hq
          cases hx
          rfl))
         have v1 : wz.cell? ⟨fb, 1, none⟩ = some (.slice va 0 vc) := by rw [v0, hF0]; rfl
         obtain ⟨F0, hF00⟩ : ∃ F0 : Nat, F0 = F.length := ⟨_, rfl⟩
         have hFz : F0 = 0 := by rw [hF00, hF0]; rfl
         subst hFz
         obtain ⟨x, w7, hx, hw7, HX7, hE7⟩ := box_new wz (.cells #[.int .i64 1, .string ⟨#[116]⟩, .int .i64 0, .int .i64 0, .int .i64 0] 59)
         have hfb7 := hs_ext hE7 HFB.out
         have v1 : (wz.alloc (.cells #[.int .i64 1, .string ⟨#[116]⟩, .int .i64 0, .int .i64 0, .int .i64 0] 59)).cell? ⟨fb, 1, none⟩ = some (.slice va F.length vc) := by rw [← hw7, cellc hfb7]; rfl
         have vf : (wz.alloc (.cells #[.int .i64 1, .string ⟨#[116]⟩, .int .i64 0, .int .i64 0, .int .i64 0] 59)).frozen? ⟨fb, 1, none⟩ = false := by rw [← hw7]; exact frozenc hfb7
         have HFB8 : Hid ((w7.setCell ⟨fb, 1, none⟩ (.slice (some ⟨x, 0, none⟩) 1 1)).heap[fb]? = some (.cells #[.string nm, .slice (some ⟨x, 0, none⟩) 1 1] 56)) := Lib.hid (by rw [heap_setCell_same w7 fb 1 _ _ _ hfb7]; rfl)
         have HEz8 : Hid (Ext w5 (w7.setCell ⟨fb, 1, none⟩ (.slice (some ⟨x, 0, none⟩) 1 1))) := Lib.hid ((HEz.out.trans hE7).setCell (by have := HFS.out; omega) _)
         have HLV8 : Hid (LsG elFld (w7.setCell ⟨fb, 1, none⟩ (.slice (some ⟨x, 0, none⟩) 1 1)) (fun c => fb < c) (.slice (some ⟨x, 0, none⟩) 1 1) tagF) := Lib.hid ((cells_lsG (E := elFld) (w := w7) (S := fun c => fb < c) (P := [(mkFld 1 ⟨#[116]⟩ 0 0 0, [.int .i64 1, .string ⟨#[116]⟩, .int .i64 0, .int .i64 0, .int .i64 0])]) HX7.out rfl rfl rfl (by simp [maxLen]) (by rw [hx]; exact HFL2.out) (by
          intro p hp
          simp at hp
          subst hp
          exact ⟨rfl, by simp [mkFld, I64], by simp [mkFld, I64], by simp [mkFld, I64], by simp [mkFld, I64], by show (1 : Nat) ≤ 2 ^ 63 - 1; omega⟩)).keep (fun c hc _ => heap_setCell_other _ _ _ _ (by show c ≠ fb; omega)) (fun c h _ => h) (by rw [World.size_setCell]; exact Nat.le_refl _))
         have hl0 : ((F.length : Int) == 0) = true := by rw [hF0]; rfl
         clear hF0 hF00 hE7 hfb7
         go_upto_region 12 with fail
         rw [← hw7, ← hx]
         clear hw7 hx v1 vf v0
         generalize hw8 : World.setCell w7 _ _ = w8 at HFB8 HEz8 HLV8 ⊢
         clear hw8
         have h0 : w8.cell? ⟨fb, 0, none⟩ = some (.string nm) := by rw [cellc HFB8.out]; rfl
         have h1 : w8.cell? ⟨fb, 1, none⟩ = some (.slice (some/-_-/⟨x,0,none⟩) 1 1) := by rw [cellc HFB8.out]; rfl
         obtain ⟨gb, w9, hgb, hw9, HGB, hE9⟩ := box_new w8 (.cells #[.string nm, .slice (some/-_-/⟨x,0,none⟩) 1 1] 56)
         have HGL : Hid (gb < w9.heap.size ∧ ∀ c, (Value.slice oa t.length oc).ownBlock = some c → c ≠ gb ∧ c < w9.heap.size ∧ c < fb) := Lib.hid ⟨(Array.getElem?_eq_some_iff.1 HGB.out).1, fun c hc => by
          have h1 := (HO5.out.lt c hc).2
          have h2 := HFS.out
          have h3 := HEz8.out.size
          have h4 := hE9.size
          omega⟩
         have HO9 : Hid (OwnG elFmt w9 w.heap.size 56 (fun c => (Value.slice oa t.length oc).ownBlock ≠ some c ∧ c < w9.heap.size) (.slice oa t.length oc) t) := Lib.hid ((HO5.out.ext (HEz8.out.trans hE9)).wide (fun c h hc => ⟨h, hc⟩))
         have HLE : Hid (LsE elFmt w9 (fun c => (Value.slice oa t.length oc).ownBlock ≠ some c ∧ c < w9.heap.size) (.slice (some ⟨gb, 0, none⟩) 1 1) [⟨nm, tagF⟩]) := Lib.hid (cells_lsE (P := [(⟨nm, tagF⟩, [.string nm, .slice (some/-_-/⟨x,0,none⟩) 1 1])]) HGB.out rfl rfl rfl (by simp [maxLen]) (by
          intro p hp
          simp at hp
          subst hp
          exact ⟨_, rfl, by rw [HNM.out, nmF_size]; unfold maxLen; omega, (HLV8.out.ext hE9).wide (fun c h hc => ⟨fun e => by have := (HGL.out.2 c e).2.2; omega, hc⟩)⟩))
         have HEw := Lib.hid (HE5.out.trans (HEz8.out.trans hE9))
         clear hE9 HGB
         go_wp2_with (
          at_builtin
          rw [← hw9, ← hgb]
          refine wpList_appG (E := elFmt) (T := 56) rfl 26 (.tmp 67) (.tmp 69) rfl rfl rfl Tryz.underlying26 sizFmt2 rfl (by decide) (by decide) HO9.out HEw.out.size (fun c h => h.1) (by omega) (M := [⟨nm, tagF⟩]) (by simp) HLE.out ?_
          intro v10 w10 o10 g10 k10
          have HE10 := Lib.hid (Ext.grown HEw.out g10 (fun c hc => (HO9.out.lt c hc).1))
          have HO10 : Hid (OwnG elFmt w10 w.heap.size 56 (fun c => v10.ownBlock ≠ some c) v10 (t ++ [⟨nm, tagF⟩])) := Lib.hid (o10.wide (fun c h hc e => by
           rcases k10 with k9 | k9
           · rw [k9] at e; exact h.1 e
           · rw [k9] at e; cases e; exact absurd h.2 (Nat.lt_irrefl _)))
          clear o10 g10 k10)
         go_roundw
         case rel => exact ⟨t ++ [⟨nm, tagF⟩], by rw [List.length_append, List.length_singleton]; go_num, by rw [List.length_append, List.length_singleton]; omega, by rw [List.length_append, List.length_singleton]; omega, HO10, HVN8, HE10⟩
         case measure => simp [intOf]; omega
       · have hfb0 : ((F.length : Int) == 0) = false := by simp; have := HFL.out; intro h; subst h; simp at this; omega
         have HLV : Hid (LsG elFld wz (fun c => fb < c) (.slice va F.length vc) F) := Lib.hid (HF.out.ls (fun c h _ => absurd h id) (fun g _ h _ => h))
         have HVN := Lib.hid (HVS.out F (fun e => by have := HFL.out; rw [e] at this; exact hk0 this.symm) (by have := HFL.out; omega) (fun q x hx => by rw [HFL.out, hkm]; exact (HFV.out.2 q x hx).1))
         by_cases hkd : k < D.length
         · have hk4b : ¬ (k : Int) < 4 := by omega
           have hkl : (k : Int) < (D.length : Int) := by omega
           have h0 : wz.cell? ⟨fb, 0, none⟩ = some (.string nm) := by rw [cellc HFB.out]; rfl
           have h1 : wz.cell? ⟨fb, 1, none⟩ = some (.slice va F.length vc) := by rw [cellc HFB.out]; rfl
           obtain ⟨gb, w9, hgb, hw9, HGB, hE9⟩ := box_new wz (.cells #[.string nm, .slice va F.length vc] 56)
           have HGL : Hid (gb < w9.heap.size ∧ ∀ c, (Value.slice oa t.length oc).ownBlock = some c → c ≠ gb ∧ c < w9.heap.size ∧ c < fb) := Lib.hid ⟨(Array.getElem?_eq_some_iff.1 HGB.out).1, fun c hc => by
            have h1 := (HO5.out.lt c hc).2
            have h2 := HFS.out
            have h3 := HEz.out.size
            have h4 := hE9.size
            omega⟩
           have HO9 : Hid (OwnG elFmt w9 w.heap.size 56 (fun c => (Value.slice oa t.length oc).ownBlock ≠ some c ∧ c < w9.heap.size) (.slice oa t.length oc) t) := Lib.hid ((HO5.out.ext (HEz.out.trans hE9)).wide (fun c h hc => ⟨h, hc⟩))
           have HLE : Hid (LsE elFmt w9 (fun c => (Value.slice oa t.length oc).ownBlock ≠ some c ∧ c < w9.heap.size) (.slice (some ⟨gb, 0, none⟩) 1 1) [⟨nm, F⟩]) := Lib.hid (cells_lsE (P := [(⟨nm, F⟩, [.string nm, .slice va F.length vc])]) HGB.out rfl rfl rfl (by simp [maxLen]) (by
            intro p hp
            simp at hp
            subst hp
            exact ⟨_, rfl, by rw [HNM.out, nmF_size]; unfold maxLen; omega, (HLV.out.ext hE9).wide (fun c h hc => ⟨fun e => by have := (HGL.out.2 c e).2.2; omega, hc⟩)⟩))
           have HEw := Lib.hid (HE5.out.trans (HEz.out.trans hE9))
           clear hE9 HGB
           go_wp2_with (
            at_builtin
            rw [← hw9, ← hgb]
            refine wpList_appG (E := elFmt) (T := 56) rfl 26 (.tmp 67) (.tmp 69) rfl rfl rfl Tryz.underlying26 sizFmt2 rfl (by decide) (by decide) HO9.out HEw.out.size (fun c h => h.1) (by omega) (M := [⟨nm, F⟩]) (by simp) HLE.out ?_
            intro v10 w10 o10 g10 k10
            have HE10 := Lib.hid (Ext.grown HEw.out g10 (fun c hc => (HO9.out.lt c hc).1))
            have HO10 : Hid (OwnG elFmt w10 w.heap.size 56 (fun c => v10.ownBlock ≠ some c) v10 (t ++ [⟨nm, F⟩])) := Lib.hid (o10.wide (fun c h hc e => by
             rcases k10 with k9 | k9
             · rw [k9] at e; exact h.1 e
             · rw [k9] at e; cases e; exact absurd h.2 (Nat.lt_irrefl _)))
            clear o10 g10 k10)
           go_roundw
           case rel => exact ⟨t ++ [⟨nm, F⟩], by rw [List.length_append, List.length_singleton]; go_num, by rw [List.length_append, List.length_singleton]; omega, by rw [List.length_append, List.length_singleton]; omega, HO10, HVN, HE10⟩
           case measure => simp [intOf]; omega
         · have hkl : ¬ (k : Int) < (D.length : Int) := by omega
           have h0 : wz.cell? ⟨fb, 0, none⟩ = some (.string nm) := by rw [cellc HFB.out]; rfl
           have h1 : wz.cell? ⟨fb, 1, none⟩ = some (.slice va F.length vc) := by rw [cellc HFB.out]; rfl
           obtain ⟨gb, w9, hgb, hw9, HGB, hE9⟩ := box_new wz (.cells #[.string nm, .slice va F.length vc] 56)
           have HGL : Hid (gb < w9.heap.size ∧ ∀ c, (Value.slice oa t.length oc).ownBlock = some c → c ≠ gb ∧ c < w9.heap.size ∧ c < fb) := Lib.hid ⟨(Array.getElem?_eq_some_iff.1 HGB.out).1, fun c hc => by
            have h1 := (HO5.out.lt c hc).2
            have h2 := HFS.out
            have h3 := HEz.out.size
            have h4 := hE9.size
            omega⟩
           have HO9 : Hid (OwnG elFmt w9 w.heap.size 56 (fun c => (Value.slice oa t.length oc).ownBlock ≠ some c ∧ c < w9.heap.size) (.slice oa t.length oc) t) := Lib.hid ((HO5.out.ext (HEz.out.trans hE9)).wide (fun c h hc => ⟨h, hc⟩))
           have HLE : Hid (LsE elFmt w9 (fun c => (Value.slice oa t.length oc).ownBlock ≠ some c ∧ c < w9.heap.size) (.slice (some ⟨gb, 0, none⟩) 1 1) [⟨nm, F⟩]) := Lib.hid (cells_lsE (P := [(⟨nm, F⟩, [.string nm, .slice va F.length vc])]) HGB.out rfl rfl rfl (by simp [maxLen]) (by
            intro p hp
            simp at hp
            subst hp
            exact ⟨_, rfl, by rw [HNM.out, nmF_size]; unfold maxLen; omega, (HLV.out.ext hE9).wide (fun c h hc => ⟨fun e => by have := (HGL.out.2 c e).2.2; omega, hc⟩)⟩))
           have HEw := Lib.hid (HE5.out.trans (HEz.out.trans hE9))
           clear hE9 HGB
           go_wp2_with (
            at_builtin
            rw [← hw9, ← hgb]
            refine wpList_appG (E := elFmt) (T := 56) rfl 26 (.tmp 67) (.tmp 69) rfl rfl rfl Tryz.underlying26 sizFmt2 rfl (by decide) (by decide) HO9.out HEw.out.size (fun c h => h.1) (by omega) (M := [⟨nm, F⟩]) (by simp) HLE.out ?_
            intro v10 w10 o10 g10 k10
            have HE10 := Lib.hid (Ext.grown HEw.out g10 (fun c hc => (HO9.out.lt c hc).1))
            have HO10 : Hid (OwnG elFmt w10 w.heap.size 56 (fun c => v10.ownBlock ≠ some c) v10 (t ++ [⟨nm, F⟩])) := Lib.hid (o10.wide (fun c h hc e => by
             rcases k10 with k9 | k9
             · rw [k9] at e; exact h.1 e
             · rw [k9] at e; cases e; exact absurd h.2 (Nat.lt_irrefl _)))
            clear o10 g10 k10)
           go_roundw
           case rel => exact ⟨t ++ [⟨nm, F⟩], by rw [List.length_append, List.length_singleton]; go_num, by rw [List.length_append, List.length_singleton]; omega, by rw [List.length_append, List.length_singleton]; omega, HO10, HVN, HE10⟩
           case measure => simp [intOf]; omega
  · obtain ⟨oa, oc, hov, -, -⟩ := id HO.out.slice
    subst hov
    have HLS := Lib.hid HO.out.any
    have hx0 : (0 : Int) ≤ (t.length : Int) := by omega
    by_cases h1 : t.length < X.length
    · have hl4 : ¬ (t.length : Int) < 4 := by omega
      have hl1 : (t.length : Int) < (X.length : Int) := by omega
      have HLN : Hid (t.length = min X.length 4) := Lib.hid (by omega)
      clear hlt h1
      go_wp2_with fail
      go_ret
      exact ⟨oa, oc, t, rfl, HE.out, HLS.out, HV.out.1, HLN.out⟩
    · have hl1 : ¬ (t.length : Int) < (X.length : Int) := by omega
      have HLN : Hid (t.length = min X.length 4) := Lib.hid (by omega)
      clear hlt h1
      go_wp2_with fail
      go_ret
      exact ⟨oa, oc, t, rfl, HE.out, HLS.out, HV.out.1, HLN.out⟩

set_option maxRecDepth 100000 in
set_option maxHeartbeats 1000000 in
theorem longD_any {w : World} {a : Option Addr} {n cap : Nat} :
 Calls Tryz.prog 30 #[.slice a n cap] w fun e w' => e = .returned (.bool (decide (8 < n))) ∧ Ext w w' := by
 by_cases h : (8 : Int) < (n : Int)
 · have hd : decide (8 < n) = true := decide_eq_true (by omega)
   rw [hd]
   clear hd
   go_enter Tryz.func30, Tryz.ntmps30
   go_wp2_with fail
   go_ret
   exact ⟨rfl, Ext.refl _⟩
 · have hd : decide (8 < n) = false := decide_eq_false (by omega)
   rw [hd]
   clear hd
   go_enter Tryz.func30, Tryz.ntmps30
   go_wp2_with fail
   go_ret
   exact ⟨rfl, Ext.refl _⟩
abbrev longD : List Dr → Bool := fun D => decide (8 < D.length)
set_option maxRecDepth 100000 in
set_option maxHeartbeats 2000000 in
theorem indexD_any {w : World} {S : Nat → Prop} {a : Option Addr} {n cap : Nat} {L : List (List Dr)} (hL : LsG elDL w S (.slice a n cap) L) :
 Calls Tryz.prog 52 #[.slice a n cap, .func (.func 30) #[] #[]] w fun e w' => ∃ k : Int, e = .returned (.int .i64 k) ∧ Ext w w' ∧ (decide (0 ≤ k)) = L.any longD ∧ -1 ≤ k ∧ k ≤ L.length := by
 obtain ⟨rfl, hl, hc⟩ := hL.len
 unfold maxLen at hc
 have HL := Lib.hid hL
 clear hL
 go_enter Tryz.func52, Tryz.ntmps52
 go_wp2_with fail
 go_loopw [5, 8] (fun x5 kv wr => ∃ k : Nat, kv = .int .i64 k ∧ k ≤ L.length ∧ Hid ((L.take k).any longD = false) ∧ Hid (Ext w wr)) (fun x5 kv _ => L.length - (intOf kv).toNat)
 case atStart => exact ⟨0, rfl, by omega, Lib.hid (by simp), Lib.hid (Ext.refl _)⟩
 case round =>
  obtain ⟨k, rfl, hk, HR, HE⟩ := hrel
  by_cases hlt : k < L.length
  · obtain ⟨x, hx⟩ : ∃ x, L[k]? = some x := ⟨_, List.getElem?_eq_getElem hlt⟩
    obtain ⟨xb, xo, da, dc, rfl, x0, -⟩ := dl_at (HL.out.ext HE.out) hx
    obtain ⟨z, hz⟩ : ∃ z, z = longD x := ⟨_, rfl⟩
    have HC : Hid (∀ w', Calls Tryz.prog 30 #[.slice da x.length dc] w' fun e w'' => e = .returned (.bool z) ∧ Ext w' w'') := Lib.hid (fun w' => by rw [hz]; exact longD_any)
    have HT : Hid ((L.take (k + 1)).any longD = z) := Lib.hid (by rw [List.take_add_one, hx, List.any_append, HR.out, hz]; simp)
    have HA : Hid (z = true → L.any longD = true) := Lib.hid (fun h => List.any_eq_true.2 ⟨x, List.mem_of_getElem? hx, by rw [← h, hz]⟩)
    clear hz hx
    go_wp2_with fail
    refine (HC.out _).mono ?_
    rintro e w5 ⟨rfl, hE5⟩
    have HE5 := Lib.hid (HE.out.trans hE5)
    clear hE5 x0
    cases z with
    | true =>
      go_wp2_with fail
      go_ret
      exact ⟨k, rfl, HE5.out, by rw [HA.out (by first | rfl | trivial)]; exact decide_eq_true (by omega), by omega, by omega⟩
    | false =>
      go_wp2_with fail
      go_roundw
      case rel => exact ⟨k + 1, by go_num, by omega, HT, HE5⟩
      case measure => simp [intOf]; omega
  · have HF : Hid (L.any longD = false) := Lib.hid (by have := HR.out; rwa [List.take_of_length_le (by omega)] at this)
    go_wp2_with fail
    go_ret
    exact ⟨-1, rfl, HE.out, by rw [HF.out]; rfl, by omega, by omega⟩
set_option maxRecDepth 100000 in
set_option maxHeartbeats 1000000 in
theorem containsD_any {w : World} {S : Nat → Prop} {a : Option Addr} {n cap : Nat} {L : List (List Dr)} (hL : LsG elDL w S (.slice a n cap) L) :
 Calls Tryz.prog 29 #[.slice a n cap, .func (.func 30) #[] #[]] w fun e w' => e = .returned (.bool (L.any longD)) ∧ Ext w w' := by
 have HI := Lib.hid (indexD_any hL)
 obtain ⟨z, hz⟩ : ∃ z, z = L.any longD := ⟨_, rfl⟩
 rw [← hz] at HI ⊢
 clear hz hL
 go_enter Tryz.func29, Tryz.ntmps29
 go_wp2_with fail
 refine HI.out.mono ?_
 rintro e w1 ⟨k, rfl, hE1, hd, -, -⟩
 have HD := Lib.hid hd
 clear hd
 go_wp2_with fail
 go_ret
 exact ⟨by rw [← HD.out]; rfl, hE1⟩

theorem results_tmp4 {fn : Func} {t u v x : Tmp} (h : fn.results = #[.tmp t, .tmp u, .tmp v, .tmp x]) (tmps : Array Value) (P : Program) (w : World) :
 (results fn tmps).run P w = .ok (.tuple #[tmps.getD t undef, tmps.getD u undef, tmps.getD v undef, tmps.getD x undef]) w := by
 simp [results, h]
/-- what table20 returns -/
def resT (i j bn : Nat) (rest : ByteArray) (w : World) (e : Ending) (w' : World) : Prop :=
 Ext w w' ∧ (e = .returned (.tuple #[.slice none 0 0, .int .i64 0, .int .i64 0, .bool false]) ∨
  ∃ ta tc t, e = .returned (.tuple #[.slice ta t.length tc, .int .i64 ((i % t.length : Nat) : Int), .int .i64 ((j % t.length : Nat) : Int), .bool true]) ∧ LsG elFmt w' (fun _ => True) (.slice ta t.length tc) t ∧ validF t = 0 ∧ 0 < t.length ∧ bn ≤ 60 ∧ rest.size ≤ 20)
set_option maxRecDepth 100000 in
set_option maxHeartbeats 8000000 in
theorem table20_any {w : World} {S : Nat → Prop} {da : Option Addr} {dc i j bn bc : Nat} {ba : Option Addr} {X : List (List Dr)} {rest : ByteArray} (hi : i < 256) (hj : j < 256) (hX : LsG elDL w S (.slice da X.length dc) X) :
 Calls Tryz.prog 6 #[.agg #[.slice da X.length dc, .int .u8 i, .int .u8 j, .slice ba bn bc, .string rest]] w (resT i j bn rest w) := by
 obtain ⟨bx, w1, hbx, hw1, HBX, hE1⟩ := box_new w (.cells #[.slice da X.length dc, .int .u8 i, .int .u8 j, .slice ba bn bc, .string rest] 25)
 have b0 : w1.cell? ⟨bx, 0, none⟩ = some (.slice da X.length dc) := by rw [cellc HBX.out]; rfl
 have b1 : w1.cell? ⟨bx, 1, none⟩ = some (.int .u8 i) := by rw [cellc HBX.out]; rfl
 have b2 : w1.cell? ⟨bx, 2, none⟩ = some (.int .u8 j) := by rw [cellc HBX.out]; rfl
 have b3 : w1.cell? ⟨bx, 3, none⟩ = some (.slice ba bn bc) := by rw [cellc HBX.out]; rfl
 have b4 : w1.cell? ⟨bx, 4, none⟩ = some (.string rest) := by rw [cellc HBX.out]; rfl
 have HX1 := Lib.hid (hX.ext hE1)
 have HE1 := Lib.hid hE1
 have HMD := Lib.hid (Made_any HX1.out)
 clear hX hE1
 go_enter Tryz.func6, Tryz.ntmps6
 go_upto_region 1 with fail
 rw [← hw1, ← hbx]
 clear hw1 hbx
 go_wp2_with fail
 refine HMD.out.mono ?_
 rintro e w2 ⟨ta, tc, t, rfl, hE2, hLt, hV, hln⟩
 have HLT := Lib.hid hLt
 have HV := Lib.hid hV
 have HLN := Lib.hid hln
 have HE2 := Lib.hid (HE1.out.trans hE2)
 have HCD := Lib.hid (fun (w' : World) (hE : Ext w2 w') => containsD_any (HX1.out.ext (hE2.trans hE)))
 obtain ⟨b0, b1, b2, b3, b4⟩ := cs_e5 hE2 ⟨b0, b1, b2, b3, b4⟩
 clear hLt hV hln hE2
 by_cases h6 : (6 : Int) < (X.length : Int)
 · skip
   go_wp2_with fail
   (try simp only [Exit.inBlock, Exit.then]); refine bodyPost_ret (results_tmp4 rfl _ _ _) rfl ?_
   exact ⟨HE2.out, .inl rfl⟩
 have HC2 := Lib.hid (HCD.out w2 (Ext.refl _))
 obtain ⟨z, hz⟩ : ∃ z, z = X.any longD := ⟨_, rfl⟩
 rw [← hz] at HC2
 clear hz
 go_wp2_with fail
 refine HC2.out.mono ?_
 rintro e w3 ⟨rfl, hE3⟩
 have HE3 := Lib.hid (HE2.out.trans hE3)
 have HLT3 := Lib.hid (HLT.out.ext hE3)
 obtain ⟨b0, b1, b2, b3, b4⟩ := cs_e5 hE3 ⟨b0, b1, b2, b3, b4⟩
 clear hE3 HLT
 cases z with
 | true =>
   skip
   go_wp2_with fail
   (try simp only [Exit.inBlock, Exit.then]); refine bodyPost_ret (results_tmp4 rfl _ _ _) rfl ?_
   exact ⟨HE3.out, .inl rfl⟩
 | false =>
   by_cases h0 : t.length = 0
   · have h0b : ((t.length : Int) == 0) = true := by simp [h0]
     clear h0
     go_wp2_with fail
     (try simp only [Exit.inBlock, Exit.then]); refine bodyPost_ret (results_tmp4 rfl _ _ _) rfl ?_
     exact ⟨HE3.out, .inl rfl⟩
   have h0b : ((t.length : Int) == 0) = false := by simpa using h0
   have HT0 : Hid (0 < t.length) := Lib.hid (by omega)
   have HT1 : Hid (t.length ≤ 4) := Lib.hid (by have := HLN.out; omega)
   clear h0
   by_cases h60 : (60 : Int) < (bn : Int)
   · skip
     go_wp2_with fail
     (try simp only [Exit.inBlock, Exit.then]); refine bodyPost_ret (results_tmp4 rfl _ _ _) rfl ?_
     exact ⟨HE3.out, .inl rfl⟩
   by_cases h20 : (20 : Int) < (rest.size : Int)
   · skip
     go_wp2_with fail
     (try simp only [Exit.inBlock, Exit.then]); refine bodyPost_ret (results_tmp4 rfl _ _ _) rfl ?_
     exact ⟨HE3.out, .inl rfl⟩
   have HBR : Hid (bn ≤ 60 ∧ rest.size ≤ 20) := Lib.hid (by omega)
   have hi4 : Int.tmod (i : Int) (t.length : Int) = ((i % t.length : Nat) : Int) := by rw [Int.tmod_eq_emod_of_nonneg (by omega)]; exact (Int.natCast_emod _ _).symm
   have hj4 : Int.tmod (j : Int) (t.length : Int) = ((j % t.length : Nat) : Int) := by rw [Int.tmod_eq_emod_of_nonneg (by omega)]; exact (Int.natCast_emod _ _).symm
   obtain ⟨i4, hi4e⟩ : ∃ i4 : Nat, i4 = i % t.length := ⟨_, rfl⟩
   obtain ⟨j4, hj4e⟩ : ∃ j4 : Nat, j4 = j % t.length := ⟨_, rfl⟩
   rw [← hi4e] at hi4
   rw [← hj4e] at hj4
   have HI4 := Lib.hid hi4e
   have HJ4 := Lib.hid hj4e
   have h0z : ¬ (t.length : Int) = 0 := by simpa using h0b
   clear hi4e hj4e
   go_upto_region 4 with fail
   go_quiet (fail)
   generalize hwn : World.drewN w3 _ = wn
   have HEn : Hid (Ext w3 wn) := Lib.hid (by rw [← hwn]; exact Ext.then_drN2 (Ext.refl _))
   clear hwn
   go_wp2_with fail
   (try simp only [Exit.inBlock, Exit.then]); refine bodyPost_ret (results_tmp4 rfl _ _ _) rfl ?_
   exact ⟨HE3.out.trans HEn.out, .inr ⟨ta, tc, t, by rw [← HI4.out, ← HJ4.out]; rfl, HLT3.out.ext HEn.out, HV.out, HT0.out, HBR.out.1, HBR.out.2⟩⟩
end Go.Proofs.YtfaienbdebjfcaaGreat
