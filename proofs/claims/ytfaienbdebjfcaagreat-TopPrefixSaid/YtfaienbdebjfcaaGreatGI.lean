/- Contracts: envelope.Decode at the pair's bytes. Contracts: awake20. The walk of the law TopCounts. -/
import Derived.Test.YtfaienbdebjfcaaGreatJ32
import Derived.Test.YtfaienbdebjfcaaGreatGC
namespace Go.Proofs.YtfaienbdebjfcaaGreat
open Go Go.RowKit
set_option linter.unusedVariables false
set_option linter.unusedSimpArgs false

theorem rescell_tmp2J {fn : Func} {p u x : Tmp} {ty : TypeId} (h : fn.results = #[.cell p ty, .tmp u, .tmp x]) (tmps : Array Value) (P : Program) (w : World) :
 (results fn tmps).run P w = ((asAddr (tmps.getD p undef)).run P w).andThen fun a w₁ => ((loadVar ty a).run P w₁).andThen fun v w₂ => .ok (.tuple #[v, tmps.getD u undef, tmps.getD x undef]) w₂ := by
 simp only [results, h]
 simp [Sem.run_bind, Result.andThen]
theorem retTerm3J {F : Func} {p u x g : Nat} {tmps : Array Value} {w : World} {cs : Array Value} {R : Ending → World → Prop} (hr : F.results = #[.cell p 77, .tmp u, .tmp x]) (hp : tmps.getD p undef = .pointer (some ⟨g, 0, none⟩)) (hg : w.heap[g]? = some (.cells cs 77)) (hs : cs.size = 4) (h : R (.returned (.tuple #[.agg cs, tmps.getD u undef, tmps.getD x undef])) w) :
 bodyPost Tryz.prog F R .ret ⟨tmps, []⟩ w := by
 refine bodyPost_ret ?_ rfl h
 rw [rescell_tmp2J hr, hp]
 simp only [asAddr, Sem.run_pure, Result.andThen_ok]
 rw [run_loadVar_row w g _ _ cs _ _ hg Tryz.underlying77 rfl (by rw [hs]; exact sizT)]
 rfl
set_option maxRecDepth 100000 in
set_option maxHeartbeats 4000000 in
theorem DecodeP_any {w : World} : Calls Tryz.prog 36 #[.string bsP] w fun e w' => ∃ a c, e = .returned (.tuple #[.agg #[.int .i64 3, .string nPair, .int .i64 0, .slice a 2 c], .int .i64 0, .int .i64 0]) ∧ Ext w w' ∧ TmW w' Any a c tP := by
 obtain ⟨s, hs⟩ : ∃ s, s = bsP := ⟨_, rfl⟩
 have hsz : s.size = 7 := by rw [hs]; rfl
 obtain ⟨rx, w1, hrx, hw1, HX, hE1⟩ := box_new w (.cells #[.int .i64 0, .string ⟨#[]⟩, .int .i64 0, .slice none 0 0] 77)
 obtain ⟨rb, w2, hrb, hw2, HRB, hE2⟩ := box_new w1 (.cells #[.string s, .int .i64 0, .bool false] 123)
 have hrb1 : rb = rx + 1 := by rw [hrb, hw1, World.size_alloc, hrx]
 have HS : Hid (s = bsP) := Lib.hid hs
 have HR2 : Hid (RdB w2 rb bsP 0) := Lib.hid (by unfold RdB; rw [← hs]; exact HRB.out)
 have HX2 := Lib.hid (hs_ext hE2 HX.out)
 have HE2 := Lib.hid (hE1.trans hE2)
 have HRS : Hid (w.heap.size ≤ rx ∧ rb = rx + 1 ∧ rb < w2.heap.size) := Lib.hid ⟨by rw [hrx]; exact Nat.le_refl _, hrb1, (Array.getElem?_eq_some_iff.1 HRB.out).1⟩
 have HT := Lib.hid (termP_any HR2.out)
 rw [← hs]
 clear hE1 hE2 HRB hs
 go_enter Tryz.func36, Tryz.ntmps36
 go_upto_region 2 with fail
 rw [← hw1, ← hrx, ← hw2, ← hrb1]
 clear hw1 hrx hw2 hrb1 hrb
 go_wp2_with fail
 refine HT.out.mono ?_
 rintro e w3 ⟨ka, kc, rfl, hR3, hG3, hT3⟩
 have hrs := HRS.out
 have hE3 : Ext w w3 := HE2.out.grown hG3 (fun k e => by have e2 := Option.some.inj e; omega)
 have hX3 := gr_ne hG3 HX2.out (by omega)
 obtain ⟨yb, w4, hyb, hw4, HY, hE4⟩ := box_new w3 (.cells #[.int .i64 3, .string nPair, .int .i64 0, .slice ka 2 kc] 77)
 obtain ⟨y0, y1, y2, y3⟩ := box4r HY.out
 have HE4 := Lib.hid (hE3.trans hE4)
 have HX4 := Lib.hid (hs_ext hE4 hX3)
 have HR4 := Lib.hid (hR3.ext hE4)
 have HT4 := Lib.hid (hT3.ext hE4)
 have r1 : w4.cell? ⟨rb, 1, none⟩ = some (.int .i64 7) := by rw [cellc HR4.out]; rfl
 have r2 : w4.cell? ⟨rb, 2, none⟩ = some (.bool false) := by rw [cellc HR4.out]; rfl
 have HV4 := Lib.hid (PValid_any (t := tP) (by decide +kernel) HT4.out.any)
 rw [show validT tP = 0 by decide +kernel] at HV4
 have HXL : Hid (rx < w4.heap.size) := Lib.hid (Array.getElem?_eq_some_iff.1 HX4.out).1
 clear hE3 hE4 hX3 hR3 hT3 hG3 hrs
 go_upto_region 3 with fail
 rw [← hw4, ← hyb]
 clear hw4 hyb
 go_wp2_with fail
 refine HV4.out.mono ?_
 rintro e w5 ⟨rfl, hE5⟩
 obtain ⟨y0, y1, y2, y3⟩ := cs_e4 hE5 ⟨y0, y1, y2, y3⟩
 have HT5 := Lib.hid (HT4.out.ext hE5)
 have HE5 := Lib.hid hE5
 have HP := Lib.hid (PlainP_any HT5.out.any)
 clear hE5
 go_wp2_with fail
 refine HP.out.mono ?_
 rintro e w6 ⟨rfl, hE6⟩
 obtain ⟨y0, y1, y2, y3⟩ := cs_e4 hE6 ⟨y0, y1, y2, y3⟩
 have HR6 := Lib.hid (hs_ext (HE5.out.trans hE6) HX4.out)
 obtain ⟨x0, x1, x2, x3⟩ := box4r HR6.out
 have f0 : w6.frozen? ⟨rx, 0, none⟩ = false := frozenc HR6.out
 have f1 : w6.frozen? ⟨rx, 1, none⟩ = false := frozenc HR6.out
 have f2 : w6.frozen? ⟨rx, 2, none⟩ = false := frozenc HR6.out
 have f3 : w6.frozen? ⟨rx, 3, none⟩ = false := frozenc HR6.out
 have HT6 := Lib.hid ((HT5.out.ext hE6).keep (S' := Any) (w' := (((w6.setCell ⟨rx, 0, none⟩ (.int .i64 3)).setCell ⟨rx, 1, none⟩ (.string nPair)).setCell ⟨rx, 2, none⟩ (.int .i64 0)).setCell ⟨rx, 3, none⟩ (.slice ka 2 kc)) (fun c hc _ => by
  have hne : c ≠ rx := by have := HRS.out; have : w2.heap.size ≤ c := hc; omega
  rw [heap_setCell_other _ _ _ _ hne, heap_setCell_other _ _ _ _ hne, heap_setCell_other _ _ _ _ hne, heap_setCell_other _ _ _ _ hne]) (fun _ _ _ => trivial))
 have HE6 := Lib.hid (HE4.out.trans (HE5.out.trans hE6))
 clear hE6
 go_wp2_with fail
 refine retTerm3J (g := rx) rfl rfl (set4s_box _ _ _ _ HR6.out).1 rfl ?_
 exact ⟨ka, kc, rfl, (set4s_box _ _ _ _ HR6.out).2 _ HE6.out HRS.out.1, HT6.out⟩

theorem two_atoms {w : World} {fb : Nat} (hb : w.heap[fb]? = some (.cells #[.int .i64 2, .string ⟨#[97]⟩, .int .i64 1, .slice none 0 0, .int .i64 2, .string ⟨#[110]⟩, .int .i64 2, .slice none 0 0] 77)) :
 LsT w Any (.slice (some ⟨fb, 0, none⟩) 2 2) [tA, tN] :=
 (cells_lsG (E := elT) (P := [(tA, encE ⟨tA, none, 0⟩), (tN, encE ⟨tN, none, 0⟩)]) (L := [tA, tN]) (n := 2) hb rfl rfl rfl (by unfold maxLen; simp) trivial (fun p hp => by
   simp at hp
   rcases hp with rfl | rfl
   · exact ⟨none, 0, rfl, tm_nil (by unfold I64; omega) (by unfold I64; omega) (by decide)⟩
   · exact ⟨none, 0, rfl, tm_nil (by unfold I64; omega) (by unfold I64; omega) (by decide)⟩)).t
set_option maxRecDepth 100000 in
set_option maxHeartbeats 4000000 in
theorem awake20_any {w : World} : Calls Tryz.prog 7 #[] w fun e w' => e = .returned (.bool true) ∧ Ext w w' := by
 obtain ⟨t, ht1, ht2, ht3⟩ := Seal_ex (s := bsP) (by decide)
 have HSL := Lib.hid ht3
 have HOP := Lib.hid (fun w => Open_any (s := bsP) (w := w) (by decide) ht1 ht2 ht3)
 clear ht1 ht2 ht3
 have HA := Lib.hid (fun w => Atom_any (w := w) (n := ⟨#[97]⟩) (k := 1) (by decide) (by unfold I64; omega))
 have HN := Lib.hid (fun w => Atom_any (w := w) (n := ⟨#[110]⟩) (k := 2) (by decide) (by unfold I64; omega))
 go_enter Tryz.func7, Tryz.ntmps7
 go_wp2_with fail
 refine (HA.out _).mono ?_
 rintro e w1 ⟨rfl, hE1⟩
 go_wp2_with fail
 refine (HN.out _).mono ?_
 rintro e w2 ⟨rfl, hE2⟩
 obtain ⟨lb, w3, hlb, hw3, HL, hE3⟩ := box_new w2 (.cells #[.int .i64 2, .string ⟨#[97]⟩, .int .i64 1, .slice none 0 0, .int .i64 2, .string ⟨#[110]⟩, .int .i64 2, .slice none 0 0] 77)
 have HE3 := Lib.hid (hE1.trans (hE2.trans hE3))
 have HP : Hid (Calls Tryz.prog 31 #[.string nPair, .slice (some ⟨lb, 0, none⟩) 2 2] w3 fun e w' => ∃ ka kc, e = .returned (.agg #[.int .i64 3, .string nPair, .int .i64 0, .slice ka 2 kc]) ∧ Ext w3 w' ∧ TmW w' Any ka kc tP) := Lib.hid ((App_any (n := nPair) (L := [tA, tN]) (by decide) (by decide) (two_atoms HL.out)).mono (by rintro e w' ⟨u, rfl, hE, ka, kc, rfl, hT⟩; exact ⟨ka, kc, rfl, hE, hT.any⟩))
 clear hE1 hE2 hE3
 go_wp2_with fail
 rw [← hw3, ← hlb]
 clear hw3 hlb
 refine (show Calls _ _ _ _ _ from HP.out).mono ?_
 rintro e w4 ⟨ka, kc, rfl, hE4, hT4⟩
 obtain ⟨tb, w5, htb, hw5, HTB, hE5⟩ := box_new w4 (.cells #[.int .i64 3, .string nPair, .int .i64 0, .slice ka 2 kc] 77)
 obtain ⟨y0, y1, y2, y3⟩ := box4r HTB.out
 have HE5 := Lib.hid (HE3.out.trans (hE4.trans hE5))
 have HT5 : Hid (TmW w5 Any ka kc tP) := Lib.hid (hT4.ext hE5)
 have HEN := Lib.hid (EncodeP_any HT5.out)
 clear hE4 hE5 hT4
 go_upto_region 2 with fail
 rw [← hw5, ← htb]
 clear hw5 htb
 go_wp2_with fail
 refine HEN.out.mono ?_
 rintro e w6 ⟨rfl, hE6⟩
 obtain ⟨y0, y1, y2, y3⟩ := cs_e4 hE6 ⟨y0, y1, y2, y3⟩
 have HE6 := Lib.hid (HE5.out.trans hE6)
 have HT6 := Lib.hid (HT5.out.ext hE6)
 clear hE6
 go_wp2_with fail
 refine (HSL.out _).mono ?_
 rintro e w7 ⟨rfl, hE7⟩
 obtain ⟨y0, y1, y2, y3⟩ := cs_e4 hE7 ⟨y0, y1, y2, y3⟩
 have HE7 := Lib.hid (HE6.out.trans hE7)
 have HT7 := Lib.hid (HT6.out.ext hE7)
 clear hE7
 go_wp2_with fail
 refine (HOP.out _).mono ?_
 rintro e w8 ⟨rfl, hE8⟩
 obtain ⟨y0, y1, y2, y3⟩ := cs_e4 hE8 ⟨y0, y1, y2, y3⟩
 have HE8 := Lib.hid (HE7.out.trans hE8)
 have HT8 := Lib.hid (HT7.out.ext hE8)
 clear hE8
 go_wp2_with fail
 refine DecodeP_any.mono ?_
 rintro e w9 ⟨va, vc, rfl, hE9, hU9⟩
 obtain ⟨ub, w10, hub, hw10, HUB, hE10⟩ := box_new w9 (.cells #[.int .i64 3, .string nPair, .int .i64 0, .slice va 2 vc] 77)
 obtain ⟨z0, z1, z2, z3⟩ := box4r HUB.out
 have hEE := hE9.trans hE10
 obtain ⟨y0, y1, y2, y3⟩ := cs_e4 hEE ⟨y0, y1, y2, y3⟩
 have HE10 := Lib.hid (HE8.out.trans hEE)
 have HT10 := Lib.hid (HT8.out.ext hEE)
 have HU10 := Lib.hid (hU9.ext hE10)
 have HSM := Lib.hid (RSame_any (s := tP) (t := tP) (by decide +kernel) (by decide +kernel) HT10.out HU10.out)
 clear hE9 hE10 hEE hU9
 go_upto_region 5 with fail
 rw [← hw10, ← hub]
 clear hw10 hub
 go_wp2_with fail
 refine HSM.out.mono ?_
 rintro e w11 ⟨rfl, hE11⟩
 have HE11 := Lib.hid (HE10.out.trans hE11)
 clear hE11
 go_wp2_with fail
 go_ret
 exact ⟨by simp, HE11.out⟩

end Go.Proofs.YtfaienbdebjfcaaGreat
