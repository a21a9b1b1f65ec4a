/- Contracts: theory.every, normal, Plain at a pair of atoms. Contracts: term.Vars at a pair of atoms. -/
import Derived.Test.YtfaienbdebjfcaaGreatGD
import Derived.Test.YtfaienbdebjfcaaGreatYO
namespace Go.Proofs.YtfaienbdebjfcaaGreat
open Go Go.RowKit
set_option linter.unusedVariables false
set_option linter.unusedSimpArgs false

theorem tmw_atom {w w' : World} {S S' : Nat → Prop} {a : Option Addr} {cap : Nat} {x : Tm} (h : TmW w S a cap x) (hk : x.kids = []) : TmW w' S' a cap x :=
 ⟨h.kind, h.sort, h.name, h.len, h.cap, 0, 0, fun hne => absurd hk hne, fun i t hi => by rw [hk] at hi; simp at hi⟩
set_option maxRecDepth 100000 in
set_option maxHeartbeats 1000000 in
theorem plain1_any {w : World} : Calls Tryz.prog 85 #[.string nPair] w fun e w' => e = .returned (.bool true) ∧ Ext w w' := by
 have HC := Lib.hid (symbolP_any (w := w))
 have hfd : ∀ w : World, (Instr.field 164 (.agg #[.string nPair, .int .i64 2, .int .i64 2, .int .i64 1]) 3).run Tryz.prog w = .ok (.int .i64 1) w := fun _ => by kernel_rfl
 go_enter Tryz.func85, Tryz.ntmps85
 go_wp2_with fail
 refine HC.out.mono ?_
 rintro e w1 ⟨rfl, hE1⟩
 go_wp2_with fail
 go_ret
 exact ⟨rfl, hE1⟩
set_option maxRecDepth 100000 in
set_option maxHeartbeats 1000000 in
theorem everyA_any {w : World} {n : ByteArray} {s : Int} {a : Option Addr} {c : Nat} : Calls Tryz.prog 84 #[.agg #[.int .i64 2, .string n, .int .i64 s, .slice a 0 c], .func (.func 85) #[] #[]] w fun e w' => e = .returned (.bool true) ∧ Ext w w' := by
 obtain ⟨bx, w1, hbx, hw1, HB, hE1⟩ := box_new w (.cells #[.int .i64 2, .string n, .int .i64 s, .slice a 0 c] 77)
 have b0 : w1.cell? ⟨bx, 0, none⟩ = some (.int .i64 2) := by rw [cellc HB.out]; rfl
 have b3 : w1.cell? ⟨bx, 3, none⟩ = some (.slice a 0 c) := by rw [cellc HB.out]; rfl
 have HE1 := Lib.hid hE1
 clear hE1
 go_enter Tryz.func84, Tryz.ntmps84
 go_upto_region 1 with fail
 rw [← hw1, ← hbx]
 clear hw1 hbx
 go_wp2_with fail
 go_loopw [6, 20] (fun x6 kv wr => kv = .int .i64 0 ∧ Hid (wr = w1)) (fun x6 kv _ => 0)
 case atStart => exact ⟨rfl, Lib.hid rfl⟩
 case round =>
  obtain ⟨rfl, HW⟩ := hrel
  have hw := HW.out
  subst hw
  go_wp2_with fail
  go_ret
  exact ⟨rfl, HE1.out⟩
set_option maxRecDepth 100000 in
set_option maxHeartbeats 2000000 in
theorem everyP_any {w : World} {a : Option Addr} {cap : Nat} (hT : TmW w Any a cap tP) : Calls Tryz.prog 84 #[.agg #[.int .i64 3, .string nPair, .int .i64 0, .slice a 2 cap], .func (.func 85) #[] #[]] w fun e w' => e = .returned (.bool true) ∧ Ext w w' := by
 obtain ⟨bx, w1, hbx, hw1, HB, hE1⟩ := box_new w (.cells #[.int .i64 3, .string nPair, .int .i64 0, .slice a 2 cap] 77)
 have b0 : w1.cell? ⟨bx, 0, none⟩ = some (.int .i64 3) := by rw [cellc HB.out]; rfl
 have b1 : w1.cell? ⟨bx, 1, none⟩ = some (.string nPair) := by rw [cellc HB.out]; rfl
 have b3 : w1.cell? ⟨bx, 3, none⟩ = some (.slice a 2 cap) := by rw [cellc HB.out]; rfl
 have HE1 := Lib.hid hE1
 have HT := Lib.hid (hT.ext hE1)
 have hcm := hT.cap
 have hcl2 : 2 ≤ cap := hT.len
 unfold maxLen at hcm
 have HP := Lib.hid (fun (w' : World) => plain1_any (w := w'))
 clear hE1 hT
 go_enter Tryz.func84, Tryz.ntmps84
 go_upto_region 1 with fail
 rw [← hw1, ← hbx]
 clear hw1 hbx
 go_wp2_with fail
 refine (HP.out _).mono ?_
 rintro e w3 ⟨rfl, hE3⟩
 obtain ⟨b0, b1, b3⟩ := cs_e3 hE3 ⟨b0, b1, b3⟩
 have HE1 := Lib.hid (HE1.out.trans hE3)
 have HT := Lib.hid (HT.out.ext hE3)
 clear hE3
 go_wp2_with fail
 go_loopw [6, 20] (fun x6 kv wr => ∃ k : Nat, kv = .int .i64 k ∧ k ≤ 2 ∧ Hid (Ext w3 wr)) (fun x6 kv _ => 2 - (intOf kv).toNat)
 case atStart => exact ⟨0, rfl, by omega, Lib.hid (Ext.refl _)⟩
 case round =>
  obtain ⟨k, rfl, hk, HE⟩ := hrel
  by_cases hlt : k < 2
  · obtain ⟨x, hx, hx2, hx3⟩ := kid_get hlt
    obtain ⟨kb, ko, ka, kc, rfl, x0, x1, x2, x3, -⟩ := (HT.out.ext HE.out).ts.at hx
    rw [hx2] at x0
    rw [hx3] at x3
    obtain ⟨yb, w4, hyb, hw4, HY, hE4⟩ := box_new wr (.cells #[.int .i64 2, .string x.name, .int .i64 x.sort, .slice ka 0 kc] 77)
    have y0 : w4.cell? ⟨yb, 0, none⟩ = some (.int .i64 2) := by rw [cellc HY.out]; rfl
    have y1 : w4.cell? ⟨yb, 1, none⟩ = some (.string x.name) := by rw [cellc HY.out]; rfl
    have y2 : w4.cell? ⟨yb, 2, none⟩ = some (.int .i64 x.sort) := by rw [cellc HY.out]; rfl
    have y3 : w4.cell? ⟨yb, 3, none⟩ = some (.slice ka 0 kc) := by rw [cellc HY.out]; rfl
    have hki : (k : Int) < 2 := by omega
    have HC := Lib.hid (everyA_any (w := w4) (n := x.name) (s := x.sort) (a := ka) (c := kc))
    have HE4 := Lib.hid (HE.out.trans hE4)
    clear hE4 hx hx2 hx3
    go_upto_region 6 with fail
    rw [← hw4, ← hyb]
    clear hw4 hyb x0 x1 x2 x3
    go_wp2_with fail
    refine HC.out.mono ?_
    rintro e w5 ⟨rfl, hE5⟩
    have HE5 := Lib.hid (HE4.out.trans hE5)
    clear hE5
    go_wp2_with fail
    go_roundw
    case rel => exact ⟨k + 1, by go_num, by omega, HE5⟩
    case measure => simp [intOf]; omega
  · have hki : ¬ (k : Int) < 2 := by omega
    go_wp2_with fail
    go_ret
    exact ⟨rfl, HE1.out.trans HE.out⟩
set_option maxRecDepth 100000 in
set_option maxHeartbeats 1000000 in
theorem normalA_any {w : World} {n : ByteArray} {s : Int} {a : Option Addr} {c : Nat} : Calls Tryz.prog 113 #[.agg #[.int .i64 2, .string n, .int .i64 s, .slice a 0 c]] w fun e w' => e = .returned (.tuple #[.agg #[.int .i64 2, .string n, .int .i64 s, .slice a 0 c], .int .i64 0]) ∧ Ext w w' := by
 obtain ⟨bx, w1, hbx, hw1, HB, hE1⟩ := box_new w (.cells #[.int .i64 2, .string n, .int .i64 s, .slice a 0 c] 77)
 obtain ⟨rb, w2, hrb, hw2, HR, hE2⟩ := box_new w1 (.cells #[.int .i64 0, .string ⟨#[]⟩, .int .i64 0, .slice none 0 0] 77)
 have hrb1 : rb = bx + 1 := by rw [hrb, hw1, World.size_alloc, hbx]
 have hb2 := hs_ext hE2 HB.out
 obtain ⟨b0, b1, b2, b3⟩ := box4r hb2
 obtain ⟨r0, r1, r2, r3⟩ := box4r HR.out
 have f0 : w2.frozen? ⟨rb, 0, none⟩ = false := frozenc HR.out
 have f1 : w2.frozen? ⟨rb, 1, none⟩ = false := frozenc HR.out
 have f2 : w2.frozen? ⟨rb, 2, none⟩ = false := frozenc HR.out
 have f3 : w2.frozen? ⟨rb, 3, none⟩ = false := frozenc HR.out
 have HE2 := Lib.hid (hE1.trans hE2)
 have HRS : Hid (w.heap.size ≤ rb) := Lib.hid (by rw [hrb1, hbx]; omega)
 clear hE1 hE2 hb2
 go_enter Tryz.func113, Tryz.ntmps113
 go_upto_region 1 with fail
 rw [← hw1, ← hbx, ← hw2, ← hrb1]
 clear hw1 hbx hw2 hrb1 hrb
 go_wp2_with fail
 refine ret_term2 (g := rb) rfl rfl (set4s_box _ _ _ _ HR.out).1 rfl ?_
 exact ⟨rfl, (set4s_box _ _ _ _ HR.out).2 _ HE2.out HRS.out⟩
set_option maxRecDepth 100000 in
set_option maxHeartbeats 8000000 in
theorem normalP_any {w : World} {a : Option Addr} {cap : Nat} (hT : TmW w Any a cap tP) : Calls Tryz.prog 113 #[.agg #[.int .i64 3, .string nPair, .int .i64 0, .slice a 2 cap]] w fun e w' => ∃ a' cap', e = .returned (.tuple #[.agg #[.int .i64 3, .string nPair, .int .i64 0, .slice a' 2 cap'], .int .i64 0]) ∧ Ext w w' ∧ TmW w' (fun c => w.heap.size ≤ c) a' cap' tP := by
 obtain ⟨bx, w1, hbx, hw1, HB, hE1⟩ := box_new w (.cells #[.int .i64 3, .string nPair, .int .i64 0, .slice a 2 cap] 77)
 obtain ⟨rb, w2, hrb, hw2, HR, hE2⟩ := box_new w1 (.cells #[.int .i64 0, .string ⟨#[]⟩, .int .i64 0, .slice none 0 0] 77)
 obtain ⟨ob, w3, hob, hw3, HO, hE3⟩ := box_new w2 (.cells #[.int .i64 3, .string nPair, .int .i64 0, .slice none 0 0] 77)
 have hrb1 : rb = bx + 1 := by rw [hrb, hw1, World.size_alloc, hbx]
 have hb2 := hs_ext hE2 HB.out
 obtain ⟨b0, b1, b2, b3⟩ := box4r hb2
 have hb3 := hs_ext hE3 hb2
 have b1n : w3.cell? ⟨bx, 1, none⟩ = some (.string nPair) := by rw [cellc hb3]; rfl
 have b3n : w3.cell? ⟨bx, 3, none⟩ = some (.slice a 2 cap) := by rw [cellc hb3]; rfl
 have HE2 := Lib.hid (hE1.trans hE2)
 have HE3 := Lib.hid hE3
 have HRS : Hid (w.heap.size ≤ rb ∧ rb < w2.heap.size ∧ ob = w2.heap.size ∧ bx < w2.heap.size) := Lib.hid ⟨by rw [hrb1, hbx]; omega, (Array.getElem?_eq_some_iff.1 HR.out).1, hob, (Array.getElem?_eq_some_iff.1 hb2).1⟩
 have HT := Lib.hid (hT.ext (hE1.trans hE2))
 have hcm := hT.cap
 have hcl2 : 2 ≤ cap := hT.len
 have HB2 := Lib.hid hb2
 unfold maxLen at hcm
 clear hE1 hE2 hE3 hb2 hb3 hT
 go_enter Tryz.func113, Tryz.ntmps113
 go_upto_region 1 with fail
 rw [← hw1, ← hbx, ← hw2, ← hrb1]
 clear hw1 hbx hw2 hrb1 hrb
 go_upto_region 4 with fail
 rw [← hw3, ← hob]
 clear hw3 hob b0 b1 b2 b3
 go_wp2_with fail
 clear b1n b3n
 go_loopw [6, 7, 8, 21] (fun x6 x7 x8 kv wr => ∃ (k : Nat) (V : Value), kv = .int .i64 k ∧ k ≤ 2 ∧ Hid (Ext w2 wr) ∧ Hid (wr.heap[ob]? = some (.cells #[.int .i64 3, .string nPair, .int .i64 0, V] 77)) ∧ Hid (OwnT wr (ob + 1) (fun _ => False) V (tP.kids.take k))) (fun x6 x7 x8 kv _ => 2 - (intOf kv).toNat)
 case atStart => exact ⟨0, _, rfl, by omega, HE3, HO, Lib.hid OwnT.nil⟩
 case round =>
  obtain ⟨k, V, rfl, hk, HE, HOB, HOW⟩ := hrel
  obtain ⟨va, vc, rfl, hvl, hvc, -⟩ := id HOW.out.ls
  obtain ⟨m, hm⟩ : ∃ m, m = (tP.kids.take k).length := ⟨_, rfl⟩
  have HML : Hid (m = k) := Lib.hid (by rw [hm, List.length_take]; have : tP.kids.length = 2 := rfl; omega)
  rw [← hm] at HOB HOW
  clear hm hvl
  by_cases hlt : k < 2
  · obtain ⟨x, hx, hx2, hx3⟩ := kid_get hlt
    obtain ⟨kb, ko, ka, kc, rfl, x0, x1, x2, x3, hTx⟩ := (HT.out.ext HE.out).ts.at hx
    rw [hx2] at x0
    have x3z := x3
    rw [hx3] at x3
    obtain ⟨yb, w4, hyb, hw4, HY, hE4⟩ := box_new wr (.cells #[.int .i64 2, .string x.name, .int .i64 x.sort, .slice ka 0 kc] 77)
    obtain ⟨y0, y1, y2, y3⟩ := box4r HY.out
    have hki : (k : Int) < 2 := by omega
    have HC := Lib.hid (normalA_any (w := w4) (n := x.name) (s := x.sort) (a := ka) (c := kc))
    have HTX : Hid (TmW wr (fun _ => False) ka kc x) := Lib.hid (tmw_atom hTx hx3)
    have HX2 : Hid (x.kind = 2 ∧ x.kids.length = 0) := Lib.hid ⟨hx2, by rw [hx3]; rfl⟩
    have HTK : Hid (tP.kids.take (k + 1) = tP.kids.take k ++ [x]) := Lib.hid (by rw [List.take_add_one, hx]; rfl)
    have HE4 := Lib.hid hE4
    clear hE4 hx hx2 hx3 hTx x3z
    go_upto_region 7 with fail
    rw [← hw4, ← hyb]
    clear hw4 hyb x0 x1 x2 x3
    go_wp2_with fail
    refine HC.out.mono ?_
    rintro e w5 ⟨rfl, hE5⟩
    obtain ⟨zb, w6, hzb, hw6, HZ, hE6⟩ := box_new w5 (.cells #[.int .i64 2, .string x.name, .int .i64 x.sort, .slice ka 0 kc] 77)
    obtain ⟨z0, z1, z2, z3⟩ := box4r HZ.out
    have hr6 := HE4.out.trans (hE5.trans hE6)
    have hob6 := hs_ext hr6 HOB.out
    have o3 : w6.cell? ⟨ob, 3, none⟩ = some (.slice va m vc) := by rw [cellc hob6]; rfl
    obtain ⟨lb, w7, hlb, hw7, HL, hE7⟩ := box_new w6 (.cells #[.int .i64 2, .string x.name, .int .i64 x.sort, .slice ka 0 kc] 77)
    have hr7 := hr6.trans hE7
    have HLS : Hid (LsT w7 (fun _ => False) (.slice (some ⟨lb, 0, none⟩) 1 1) [x]) := Lib.hid (one_ls (by rw [HL.out, HX2.out.1, HX2.out.2]) (HTX.out.ext hr7))
    have HO7 := Lib.hid (HOW.out.ext hr7)
    have HOB7 := Lib.hid (hs_ext hr7 HOB.out)
    have HE7 := Lib.hid (HE.out.trans hr7)
    have HSZ : Hid (ob + 1 ≤ w7.heap.size) := Lib.hid (Array.getElem?_eq_some_iff.1 HOB7.out).1
    have hm6 : m ≤ 1000000 := by have := HML.out; omega
    have hml : (tP.kids.take k).length ≤ 1000000 := by rw [List.length_take]; omega
    clear hE5 hE6 hE7 hr6 hr7 hob6
    go_upto_region 8 with fail
    rw [← hw6, ← hzb]
    clear hw6 hzb y0 y1 y2 y3
    go_wp2_with (
     at_builtin
     rw [← hw7, ← hlb]
     refine wpList_appT rfl (.tmp 35) (.tmp 37) rfl rfl rfl HO7.out HSZ.out (fun c h => absurd h id) hml (X := [x]) (by simp) HLS.out ?_
     intro v8 w8 o8 g8 k8
     obtain ⟨va8, vc8, rfl, -, -, -⟩ := id o8.ls
     obtain ⟨m8, hm8⟩ : ∃ m8, m8 = (tP.kids.take k ++ [x]).length := ⟨_, rfl⟩
     rw [← hm8] at o8 k8
     rw [← hm8]
     have hob8 := (g8.block ob HSZ.out (fun e => by have := (HO7.out.lt ob e.symm).1; omega)).trans HOB7.out
     have HE8 := Lib.hid (Ext.grown HE7.out g8 (fun c hc => by have := (HO7.out.lt c hc).1; have := HRS.out; omega))
     have c3 : w8.cell? ⟨ob, 3, none⟩ = some (.slice va m vc) := by rw [cellc hob8]; rfl
     have f3 : w8.frozen? ⟨ob, 3, none⟩ = false := frozenc hob8
     have HOB9 : Hid ((w8.setCell ⟨ob, 3, none⟩ (.slice va8 m8 vc8)).heap[ob]? = some (.cells #[.int .i64 3, .string nPair, .int .i64 0, .slice va8 m8 vc8] 77)) := Lib.hid (by rw [heap_setCell_same w8 ob 3 _ _ _ hob8]; rfl)
     have HE9 : Hid (Ext w2 (w8.setCell ⟨ob, 3, none⟩ (.slice va8 m8 vc8))) := Lib.hid (HE8.out.setCell (by have := HRS.out; omega) _)
     have HO9 : Hid (OwnT (w8.setCell ⟨ob, 3, none⟩ (.slice va8 m8 vc8)) (ob + 1) (fun _ => False) (.slice va8 m8 vc8) (tP.kids.take (k + 1))) := Lib.hid (by rw [HTK.out]; exact o8.keep (fun c hc => heap_setCell_other _ _ _ _ (by have := (o8.lt c hc).1; show c ≠ ob; omega)) (fun c h => absurd h id))
     clear o8 g8 k8 hob8 hm8)
    go_roundw
    case rel => exact ⟨k + 1, _, by go_num, by omega, HE9, HOB9, HO9⟩
    case measure => simp [intOf]; omega
  · have hki : ¬ (k : Int) < 2 := by omega
    have HK2 : Hid (tP.kids.take k = tP.kids) := Lib.hid (List.take_of_length_le (by have : tP.kids.length = 2 := rfl; omega))
    have HM2 : Hid (m = 2) := Lib.hid (by have := HML.out; omega)
    have hm2 := HM2.out
    subst hm2
    have hbz := hs_ext HE.out HB2.out
    have b1 : wr.cell? ⟨bx, 1, none⟩ = some (.string nPair) := by rw [cellc hbz]; rfl
    obtain ⟨o0, o1, o2, o3⟩ := box4r HOB.out
    have HRz := Lib.hid (hs_ext HE.out HR.out)
    obtain ⟨r0, r1, r2, r3⟩ := box4r HRz.out
    have f0 : wr.frozen? ⟨rb, 0, none⟩ = false := frozenc HRz.out
    have f1 : wr.frozen? ⟨rb, 1, none⟩ = false := frozenc HRz.out
    have f2 : wr.frozen? ⟨rb, 2, none⟩ = false := frozenc HRz.out
    have f3 : wr.frozen? ⟨rb, 3, none⟩ = false := frozenc HRz.out
    have HLZ : Hid (LsT wr Any (.slice va 2 vc) tP.kids) := Lib.hid (by have := HOW.out.ls.any; rwa [HK2.out] at this)
    have HEz := Lib.hid (HE2.out.trans HE.out)
    clear hbz
    go_wp2_with fail
    refine ret_term2 (g := rb) rfl rfl (set4s_box _ _ _ _ HRz.out).1 rfl ?_
    have hne : ∀ c, c ≠ rb → (((((wr.setCell ⟨rb, 0, none⟩ (.int .i64 3)).setCell ⟨rb, 1, none⟩ (.string nPair)).setCell ⟨rb, 2, none⟩ (.int .i64 0)).setCell ⟨rb, 3, none⟩ (.slice va 2 vc)).heap[c]? : Option Obj) = wr.heap[c]? := fun c hc => by
     rw [heap_setCell_other _ _ _ _ hc, heap_setCell_other _ _ _ _ hc, heap_setCell_other _ _ _ _ hc, heap_setCell_other _ _ _ _ hc]
    have hO9 := HOW.out.keep (fun c hc => hne c (by have := (HOW.out.lt c hc).1; have := HRS.out; show c ≠ rb; omega)) (fun c h => absurd h id)
    rw [HK2.out] at hO9
    exact ⟨va, vc, rfl, (set4s_box _ _ _ _ HRz.out).2 _ HEz.out HRS.out.1, (tm_app (n := nPair) (by show (4 : Nat) ≤ 2 ^ 63 - 1; omega) (hO9.ls.wide (S' := fun c => w.heap.size ≤ c) (fun c h _ => absurd h id)) (fun b o e => by
     subst e
     have h1 := (HOW.out.lt b rfl).1
     have h2 := HRS.out
     have h3 := HE2.out.size
     show w.heap.size ≤ b
     omega)).2⟩
set_option maxRecDepth 100000 in
set_option maxHeartbeats 4000000 in
theorem NormalP_any {w : World} {a : Option Addr} {cap : Nat} (hT : TmW w Any a cap tP) : Calls Tryz.prog 82 #[.agg #[.int .i64 3, .string nPair, .int .i64 0, .slice a 2 cap]] w fun e w' => ∃ a' cap', e = .returned (.tuple #[.agg #[.int .i64 3, .string nPair, .int .i64 0, .slice a' 2 cap'], .int .i64 0]) ∧ Ext w w' ∧ TmW w' Any a' cap' tP := by
 obtain ⟨bx, w1, hbx, hw1, HB, hE1⟩ := box_new w (.cells #[.int .i64 3, .string nPair, .int .i64 0, .slice a 2 cap] 77)
 obtain ⟨rb, w2, hrb, hw2, HR, hE2⟩ := box_new w1 (.cells #[.int .i64 0, .string ⟨#[]⟩, .int .i64 0, .slice none 0 0] 77)
 have hrb1 : rb = bx + 1 := by rw [hrb, hw1, World.size_alloc, hbx]
 have HB2 := Lib.hid (hs_ext hE2 HB.out)
 obtain ⟨b0, b1, b2, b3⟩ := box4r HB2.out
 have HE2 := Lib.hid (hE1.trans hE2)
 have HRS : Hid (w.heap.size ≤ rb) := Lib.hid (by rw [hrb1, hbx]; omega)
 have HT := Lib.hid (hT.ext (hE1.trans hE2))
 have HV := Lib.hid (ValidP_any HT.out)
 clear hE1 hE2 hT
 go_enter Tryz.func82, Tryz.ntmps82
 go_upto_region 1 with fail
 rw [← hw1, ← hbx, ← hw2, ← hrb1]
 clear hw1 hbx hw2 hrb1 hrb
 go_wp2_with fail
 refine HV.out.mono ?_
 rintro e w3 ⟨rfl, hE3⟩
 obtain ⟨b0, b1, b2, b3⟩ := cs_e4 hE3 ⟨b0, b1, b2, b3⟩
 have HE3 := Lib.hid hE3
 have HRL : Hid (rb < w3.heap.size) := Lib.hid (Nat.lt_of_lt_of_le (Array.getElem?_eq_some_iff.1 HR.out).1 hE3.size)
 have HN := Lib.hid (normalP_any (HT.out.ext hE3))
 clear hE3
 go_wp2_with fail
 refine HN.out.mono ?_
 rintro e w4 ⟨na, nc, rfl, hE4, hN4⟩
 obtain ⟨nb, w5, hnb, hw5, HNB, hE5⟩ := box_new w4 (.cells #[.int .i64 3, .string nPair, .int .i64 0, .slice na 2 nc] 77)
 obtain ⟨n0, n1, n2, n3⟩ := box4r HNB.out
 have HE5 := Lib.hid (HE3.out.trans (hE4.trans hE5))
 have HN5 := Lib.hid (hN4.ext hE5)
 have HV5 := Lib.hid (PValid_any (t := tP) (by decide +kernel) HN5.out.any)
 rw [show validT tP = 0 by decide +kernel] at HV5
 clear hE4 hE5 hN4
 go_upto_region 5 with fail
 rw [← hw5, ← hnb]
 clear hw5 hnb b0 b1 b2 b3
 go_wp2_with fail
 refine HV5.out.mono ?_
 rintro e w6 ⟨rfl, hE6⟩
 obtain ⟨n0, n1, n2, n3⟩ := cs_e4 hE6 ⟨n0, n1, n2, n3⟩
 have HR6 := Lib.hid (hs_ext (HE5.out.trans hE6) HR.out)
 obtain ⟨r0, r1, r2, r3⟩ := box4r HR6.out
 have f0 : w6.frozen? ⟨rb, 0, none⟩ = false := frozenc HR6.out
 have f1 : w6.frozen? ⟨rb, 1, none⟩ = false := frozenc HR6.out
 have f2 : w6.frozen? ⟨rb, 2, none⟩ = false := frozenc HR6.out
 have f3 : w6.frozen? ⟨rb, 3, none⟩ = false := frozenc HR6.out
 have HN6 := Lib.hid ((HN5.out.ext hE6).keep (S' := Any) (w' := (((w6.setCell ⟨rb, 0, none⟩ (.int .i64 3)).setCell ⟨rb, 1, none⟩ (.string nPair)).setCell ⟨rb, 2, none⟩ (.int .i64 0)).setCell ⟨rb, 3, none⟩ (.slice na 2 nc)) (fun c hc _ => by
  have hne : c ≠ rb := by have := HRL.out; omega
  rw [heap_setCell_other _ _ _ _ hne, heap_setCell_other _ _ _ _ hne, heap_setCell_other _ _ _ _ hne, heap_setCell_other _ _ _ _ hne]) (fun _ _ _ => trivial))
 have HE6 := Lib.hid (HE2.out.trans (HE5.out.trans hE6))
 clear hE6
 go_wp2_with fail
 refine ret_term2 (g := rb) rfl rfl (set4s_box _ _ _ _ HR6.out).1 rfl ?_
 exact ⟨na, nc, rfl, (set4s_box _ _ _ _ HR6.out).2 _ HE6.out HRS.out, HN6.out⟩
set_option maxRecDepth 100000 in
set_option maxHeartbeats 2000000 in
theorem sameP_any {w : World} {a b : Option Addr} {c d : Nat} (hT : TmW w Any a c tP) (hU : TmW w Any b d tP) : Calls Tryz.prog 83 #[.agg #[.int .i64 3, .string nPair, .int .i64 0, .slice a 2 c], .agg #[.int .i64 3, .string nPair, .int .i64 0, .slice b 2 d]] w fun e w' => e = .returned (.bool true) ∧ Ext w w' := by
 obtain ⟨bx, w1, hbx, hw1, HB, hE1⟩ := box_new w (.cells #[.int .i64 3, .string nPair, .int .i64 0, .slice a 2 c] 77)
 obtain ⟨cx, w2, hcx, hw2, HC, hE2⟩ := box_new w1 (.cells #[.int .i64 3, .string nPair, .int .i64 0, .slice b 2 d] 77)
 have hcx1 : cx = bx + 1 := by rw [hcx, hw1, World.size_alloc, hbx]
 have hb2 := hs_ext hE2 HB.out
 obtain ⟨b0, b1, b2, b3⟩ := box4r hb2
 obtain ⟨c0, c1, c2, c3⟩ := box4r HC.out
 have HE2 := Lib.hid (hE1.trans hE2)
 have HCM := Lib.hid (PCmp_any (s := tP) (t := tP) (by decide +kernel) (by decide +kernel) (hT.ext HE2.out) (hU.ext HE2.out))
 rw [show cmpT tP tP = 0 by decide +kernel] at HCM
 clear hE1 hE2 hb2 hT hU
 go_enter Tryz.func83, Tryz.ntmps83
 go_upto_region 1 with fail
 rw [← hw1, ← hbx, ← hw2, ← hcx1]
 clear hw1 hbx hw2 hcx hcx1
 go_wp2_with fail
 refine HCM.out.mono ?_
 rintro e w3 ⟨rfl, hE3⟩
 have HE3 := Lib.hid (HE2.out.trans hE3)
 clear hE3
 go_wp2_with fail
 go_ret
 exact ⟨rfl, HE3.out⟩
set_option maxRecDepth 100000 in
set_option maxHeartbeats 2000000 in
theorem PlainP_any {w : World} {a : Option Addr} {cap : Nat} (hT : TmW w Any a cap tP) : Calls Tryz.prog 55 #[.agg #[.int .i64 3, .string nPair, .int .i64 0, .slice a 2 cap]] w fun e w' => e = .returned (.bool true) ∧ Ext w w' := by
 obtain ⟨bx, w1, hbx, hw1, HB, hE1⟩ := box_new w (.cells #[.int .i64 3, .string nPair, .int .i64 0, .slice a 2 cap] 77)
 obtain ⟨b0, b1, b2, b3⟩ := box4r HB.out
 have HE1 := Lib.hid hE1
 have HT := Lib.hid (hT.ext hE1)
 have HN := Lib.hid (NormalP_any HT.out)
 clear hE1 hT
 go_enter Tryz.func55, Tryz.ntmps55
 go_upto_region 1 with fail
 rw [← hw1, ← hbx]
 clear hw1 hbx
 go_wp2_with fail
 refine HN.out.mono ?_
 rintro e w4 ⟨na, nc, rfl, hE4, hN4⟩
 obtain ⟨nb, w5, hnb, hw5, HNB, hE5⟩ := box_new w4 (.cells #[.int .i64 3, .string nPair, .int .i64 0, .slice na 2 nc] 77)
 obtain ⟨n0, n1, n2, n3⟩ := box4r HNB.out
 have hE45 := hE4.trans hE5
 obtain ⟨b0, b1, b2, b3⟩ := cs_e4 hE45 ⟨b0, b1, b2, b3⟩
 have HT5 := Lib.hid (HT.out.ext hE45)
 have HE5 := Lib.hid (HE1.out.trans hE45)
 have HS := Lib.hid (sameP_any (hN4.ext hE5) HT5.out)
 clear hE4 hE5 hE45 hN4
 go_upto_region 2 with fail
 rw [← hw5, ← hnb]
 clear hw5 hnb
 go_wp2_with fail
 refine HS.out.mono ?_
 rintro e w6 ⟨rfl, hE6⟩
 obtain ⟨b0, b1, b2, b3⟩ := cs_e4 hE6 ⟨b0, b1, b2, b3⟩
 have HE6 := Lib.hid (HE5.out.trans hE6)
 have HV := Lib.hid (everyP_any (HT5.out.ext hE6))
 clear hE6 n0 n1 n2 n3
 go_wp2_with fail
 refine HV.out.mono ?_
 rintro e w7 ⟨rfl, hE7⟩
 have HE7 := Lib.hid (HE6.out.trans hE7)
 clear hE7
 go_wp2_with fail
 go_ret
 exact ⟨rfl, HE7.out⟩

set_option maxRecDepth 100000 in
set_option maxHeartbeats 1000000 in
theorem ins0_any {w : World} {n : Nat} {f : Value} : Calls Tryz.prog 155 #[.slice none 0 n, .int .i64 0, .int .i64 0, f] w fun e w' => e = .returned (.tuple #[]) ∧ Ext w w' := by
 go_enter Tryz.func155, Tryz.ntmps155
 go_wp2_with fail
 go_loopw [8, 9] (fun iv x9 wr => iv = .int .i64 1 ∧ Hid (wr = w)) (fun iv x9 _ => 0)
 case atStart => exact ⟨rfl, Lib.hid rfl⟩
 case round =>
  obtain ⟨rfl, HW⟩ := hrel
  have hw := HW.out
  subst hw
  go_wp2_with fail
  go_end0
  exact ⟨rfl, Ext.refl _⟩
set_option maxRecDepth 100000 in
set_option maxHeartbeats 1000000 in
theorem pdq0_any {w : World} {n : Nat} {l : Int} {f : Value} : Calls Tryz.prog 140 #[.slice none 0 n, .int .i64 0, .int .i64 0, .int .i64 l, f] w fun e w' => e = .returned (.tuple #[]) ∧ Ext w w' := by
 have HC := Lib.hid (fun (w' : World) => ins0_any (w := w') (n := n) (f := f))
 go_enter Tryz.func140, Tryz.ntmps140
 go_wp2_with fail
 go_loopw [1, 2, 3, 10, 11, 12] (fun av bv cv x10 x11 x12 wr => av = .int .i64 0 ∧ bv = .int .i64 0 ∧ Hid (wr = w)) (fun _ _ _ _ _ _ _ => 0)
 case atStart => exact ⟨rfl, rfl, Lib.hid rfl⟩
 case round =>
  obtain ⟨rfl, rfl, HW⟩ := hrel
  have hw := HW.out
  subst hw
  go_wp2_with fail
  refine (HC.out _).mono ?_
  rintro e w2 ⟨rfl, hE2⟩
  go_wp2_with fail
  exact bodyPost_ret (results_none rfl _ _ _) rfl ⟨rfl, hE2⟩
set_option maxRecDepth 100000 in
set_option maxHeartbeats 1000000 in
theorem sort0_any {w : World} {n : Nat} {f : Value} : Calls Tryz.prog 126 #[.slice none 0 n, f] w fun e w' => e = .returned (.tuple #[]) ∧ Ext w w' := by
 have HL := Lib.hid (Tryz.bits_Len 0 w (by omega) (by omega))
 have HC := Lib.hid (fun (w' : World) => pdq0_any (w := w') (n := n) (l := (Lib.bitLen (0 : Int).toNat : Nat)) (f := f))
 go_enter Tryz.func126, Tryz.ntmps126
 go_wp2_with fail
 refine HL.out.mono ?_
 rintro e w2 ⟨rfl, rfl⟩
 go_wp2_with fail
 refine (HC.out _).mono ?_
 rintro e w3 ⟨rfl, hE3⟩
 go_wp2_with fail
 go_end0
 exact ⟨rfl, hE3⟩
set_option maxRecDepth 100000 in
set_option maxHeartbeats 1000000 in
theorem compact0_any {w : World} {n : Nat} {f : Value} : Calls Tryz.prog 127 #[.slice none 0 n, f] w fun e w' => e = .returned (.slice none 0 n) ∧ Ext w w' := by
 go_enter Tryz.func127, Tryz.ntmps127
 go_wp2_with fail
 go_ret
 exact ⟨rfl, Ext.refl _⟩
set_option maxRecDepth 100000 in
set_option maxHeartbeats 1000000 in
theorem ordered0_any {w : World} {n : Nat} : Calls Tryz.prog 112 #[.slice none 0 n] w fun e w' => e = .returned (.slice none 0 n) ∧ Ext w w' := by
 have HS := Lib.hid (fun (w' : World) (f : Value) => sort0_any (w := w') (n := n) (f := f))
 have HC := Lib.hid (fun (w' : World) (f : Value) => compact0_any (w := w') (n := n) (f := f))
 go_enter Tryz.func112, Tryz.ntmps112
 go_wp2_with fail
 refine (HS.out _ _).mono ?_
 rintro e w2 ⟨rfl, hE2⟩
 go_wp2_with fail
 refine (HC.out _ _).mono ?_
 rintro e w3 ⟨rfl, hE3⟩
 have HE3 := Lib.hid (hE2.trans hE3)
 clear hE2 hE3
 go_wp2_with fail
 go_loopw [3, 10] (fun x3 kv wr => kv = .int .i64 0 ∧ Hid (wr = w3)) (fun _ _ _ => 0)
 case atStart => exact ⟨rfl, Lib.hid rfl⟩
 case round =>
  obtain ⟨rfl, HW⟩ := hrel
  have hw := HW.out
  subst hw
  go_wp2_with fail
  go_ret
  exact ⟨rfl, HE3.out⟩
set_option maxRecDepth 100000 in
set_option maxHeartbeats 1000000 in
theorem kd0_any {w : World} {k : Int} {n : ByteArray} {s : Int} {v : Value} {kb ob : Nat} (hk : k ≠ 1) (hb : w.heap[kb]? = some (.cells #[.int .i64 1] 3)) :
 Calls Tryz.prog 111 #[.agg #[.int .i64 k, .string n, .int .i64 s, v], .pointer (some ⟨kb, 0, none⟩), .pointer (some ⟨ob, 0, none⟩)] w fun e w' => e = .returned (.tuple #[]) ∧ Ext w w' := by
 obtain ⟨bx, w1, hbx, hw1, HB, hE1⟩ := box_new w (.cells #[.int .i64 k, .string n, .int .i64 s, v] 77)
 have b0 : w1.cell? ⟨bx, 0, none⟩ = some (.int .i64 k) := by rw [cellc HB.out]; rfl
 have k0 : w1.cell? ⟨kb, 0, none⟩ = some (.int .i64 1) := by rw [cellc (hs_ext hE1 hb)]; rfl
 have HE1 := Lib.hid hE1
 have hkb : (k == 1) = false := by simpa using hk
 clear hE1 hb
 go_enter Tryz.func111, Tryz.ntmps111
 go_upto_region 1 with fail
 rw [← hw1, ← hbx]
 clear hw1 hbx
 go_wp2_with fail
 go_end0
 exact ⟨rfl, HE1.out⟩
set_option maxRecDepth 100000 in
set_option maxHeartbeats 1000000 in
theorem walkA_any {w : World} {n : ByteArray} {s : Int} {a : Option Addr} {c kb ob : Nat} (hb : w.heap[kb]? = some (.cells #[.int .i64 1] 3)) :
 Calls Tryz.prog 110 #[.agg #[.int .i64 2, .string n, .int .i64 s, .slice a 0 c], .func (.func 111) #[] #[.pointer (some ⟨kb, 0, none⟩), .pointer (some ⟨ob, 0, none⟩)]] w fun e w' => e = .returned (.tuple #[]) ∧ Ext w w' := by
 obtain ⟨bx, w1, hbx, hw1, HB, hE1⟩ := box_new w (.cells #[.int .i64 2, .string n, .int .i64 s, .slice a 0 c] 77)
 obtain ⟨b0, b1, b2, b3⟩ := box4r HB.out
 have HE1 := Lib.hid hE1
 have HC := Lib.hid (kd0_any (k := 2) (n := n) (s := s) (v := .slice a 0 c) (ob := ob) (by omega) (hs_ext hE1 hb))
 clear hE1 hb
 go_enter Tryz.func110, Tryz.ntmps110
 go_upto_region 1 with fail
 rw [← hw1, ← hbx]
 clear hw1 hbx
 go_wp2_with fail
 refine HC.out.mono ?_
 rintro e w2 ⟨rfl, hE2⟩
 obtain ⟨b0, b1, b2, b3⟩ := cs_e4 hE2 ⟨b0, b1, b2, b3⟩
 have HE2 := Lib.hid (HE1.out.trans hE2)
 clear hE2
 go_wp2_with fail
 go_loopw [5, 12] (fun x5 kv wr => kv = .int .i64 0 ∧ Hid (wr = w2)) (fun _ _ _ => 0)
 case atStart => exact ⟨rfl, Lib.hid rfl⟩
 case round =>
  obtain ⟨rfl, HW⟩ := hrel
  have hw := HW.out
  subst hw
  go_wp2_with fail
  go_end0
  exact ⟨rfl, HE2.out⟩
set_option maxRecDepth 100000 in
set_option maxHeartbeats 2000000 in
theorem walkP_any {w : World} {a : Option Addr} {cap kb ob : Nat} (hT : TmW w Any a cap tP) (hb : w.heap[kb]? = some (.cells #[.int .i64 1] 3)) :
 Calls Tryz.prog 110 #[.agg #[.int .i64 3, .string nPair, .int .i64 0, .slice a 2 cap], .func (.func 111) #[] #[.pointer (some ⟨kb, 0, none⟩), .pointer (some ⟨ob, 0, none⟩)]] w fun e w' => e = .returned (.tuple #[]) ∧ Ext w w' := by
 obtain ⟨bx, w1, hbx, hw1, HB, hE1⟩ := box_new w (.cells #[.int .i64 3, .string nPair, .int .i64 0, .slice a 2 cap] 77)
 obtain ⟨b0, b1, b2, b3⟩ := box4r HB.out
 have HE1 := Lib.hid hE1
 have HT := Lib.hid (hT.ext hE1)
 have HKB := Lib.hid (hs_ext hE1 hb)
 have hcm := hT.cap
 have hcl2 : 2 ≤ cap := hT.len
 unfold maxLen at hcm
 have HC := Lib.hid (kd0_any (k := 3) (n := nPair) (s := 0) (v := .slice a 2 cap) (ob := ob) (by omega) HKB.out)
 clear hE1 hb hT
 go_enter Tryz.func110, Tryz.ntmps110
 go_upto_region 1 with fail
 rw [← hw1, ← hbx]
 clear hw1 hbx
 go_wp2_with fail
 refine HC.out.mono ?_
 rintro e w2 ⟨rfl, hE2⟩
 obtain ⟨b0, b1, b2, b3⟩ := cs_e4 hE2 ⟨b0, b1, b2, b3⟩
 have HT := Lib.hid (HT.out.ext hE2)
 have HKB := Lib.hid (hs_ext hE2 HKB.out)
 have HE2 := Lib.hid (HE1.out.trans hE2)
 clear hE2
 go_wp2_with fail
 go_loopw [5, 12] (fun x5 kv wr => ∃ k : Nat, kv = .int .i64 k ∧ k ≤ 2 ∧ Hid (Ext w2 wr)) (fun _ kv _ => 2 - (intOf kv).toNat)
 case atStart => exact ⟨0, rfl, by omega, Lib.hid (Ext.refl _)⟩
 case round =>
  obtain ⟨k, rfl, hk, HE⟩ := hrel
  by_cases hlt : k < 2
  · obtain ⟨x, hx, hx2, hx3⟩ := kid_get hlt
    obtain ⟨kx, ko, ka, kc, rfl, x0, x1, x2, x3, -⟩ := (HT.out.ext HE.out).ts.at hx
    rw [hx2] at x0
    rw [hx3] at x3
    obtain ⟨yb, w4, hyb, hw4, HY, hE4⟩ := box_new wr (.cells #[.int .i64 2, .string x.name, .int .i64 x.sort, .slice ka 0 kc] 77)
    obtain ⟨y0, y1, y2, y3⟩ := box4r HY.out
    have hki : (k : Int) < 2 := by omega
    have HC := Lib.hid (walkA_any (w := w4) (n := x.name) (s := x.sort) (a := ka) (c := kc) (ob := ob) (hs_ext (HE.out.trans hE4) HKB.out))
    have HE4 := Lib.hid (HE.out.trans hE4)
    clear hE4 hx hx2 hx3
    go_upto_region 5 with fail
    rw [← hw4, ← hyb]
    clear hw4 hyb x0 x1 x2 x3
    go_wp2_with fail
    refine HC.out.mono ?_
    rintro e w5 ⟨rfl, hE5⟩
    have HE5 := Lib.hid (HE4.out.trans hE5)
    clear hE5
    go_wp2_with fail
    go_roundw
    case rel => exact ⟨k + 1, by go_num, by omega, HE5⟩
    case measure => simp [intOf]; omega
  · have hki : ¬ (k : Int) < 2 := by omega
    go_wp2_with fail
    go_end0
    exact ⟨rfl, HE2.out.trans HE.out⟩
set_option maxRecDepth 100000 in
set_option maxHeartbeats 2000000 in
theorem VarsP_any {w : World} {a : Option Addr} {cap : Nat} (hT : TmW w Any a cap tP) : Calls Tryz.prog 54 #[.agg #[.int .i64 3, .string nPair, .int .i64 0, .slice a 2 cap]] w fun e w' => e = .returned (.slice none 0 0) ∧ Ext w w' := by
 obtain ⟨bx, w1, hbx, hw1, HB, hE1⟩ := box_new w (.cells #[.int .i64 3, .string nPair, .int .i64 0, .slice a 2 cap] 77)
 obtain ⟨b0, b1, b2, b3⟩ := box4r HB.out
 have HE1 := Lib.hid hE1
 have HO : Hid (∀ w' : World, Ext w1 w' → Calls Tryz.prog 81 #[.agg #[.int .i64 3, .string nPair, .int .i64 0, .slice a 2 cap], .int .i64 1] w' fun e w'' => e = .returned (.slice none 0 0) ∧ Ext w' w'') := Lib.hid (fun w' hE => by
  obtain ⟨cx, w2, hcx, hw2, HC, hE2⟩ := box_new w' (.cells #[.int .i64 3, .string nPair, .int .i64 0, .slice a 2 cap] 77)
  obtain ⟨kx, w3, hkx, hw3, HK, hE3⟩ := box_new w2 (.cells #[.int .i64 1] 3)
  obtain ⟨ox, w4, hox, hw4, HX, hE4⟩ := box_new w3 (.cells #[.slice none 0 0] 75)
  have hkx1 : kx = cx + 1 := by rw [hkx, hw2, World.size_alloc, hcx]
  have hc4 := hs_ext (hE3.trans hE4) HC.out
  obtain ⟨c0, c1, c2, c3⟩ := box4r hc4
  have HE4 := Lib.hid (hE2.trans (hE3.trans hE4))
  have HW := Lib.hid (walkP_any (w := w4) (ob := ox) (hT.ext (hE1.trans (hE.trans HE4.out))) (hs_ext hE4 HK.out))
  have hmf : ∀ (fn : Fn) (first cap : Array Value) (w : World), (Instr.makeFunc fn first cap).run Tryz.prog w = .ok (.func fn first cap) w := fun _ _ _ _ => rfl
  clear hE hE2 hE3 hE4 hc4 hE1 hT hw1 HE1 b0 b1 b2 b3
  go_enter Tryz.func81, Tryz.ntmps81
  go_upto_region 1 with fail
  rw [← hw2, ← hcx, ← hw3, ← hkx1]
  clear hw2 hcx hw3 hkx1 hkx
  go_upto_region 2 with fail
  rw [← hw4, ← hox]
  clear hw4 hox
  go_wp2_with fail
  refine HW.out.mono ?_
  rintro e w5 ⟨rfl, hE5⟩
  have o0 : w5.cell? ⟨ox, 0, none⟩ = some (.slice none 0 0) := by rw [cellc (hs_ext hE5 HX.out)]; rfl
  have HE5 := Lib.hid (HE4.out.trans hE5)
  have HOR := Lib.hid (ordered0_any (w := w5) (n := 0))
  clear hE5 c0 c1 c2 c3
  go_wp2_with fail
  refine HOR.out.mono ?_
  rintro e w6 ⟨rfl, hE6⟩
  have HE6 := Lib.hid (HE5.out.trans hE6)
  clear hE6
  go_wp2_with fail
  go_ret
  exact ⟨rfl, HE6.out⟩)
 clear hE1 hT
 go_enter Tryz.func54, Tryz.ntmps54
 go_upto_region 1 with fail
 rw [← hw1, ← hbx]
 clear hw1 hbx
 go_wp2_with fail
 refine (HO.out _ (Ext.refl _)).mono ?_
 rintro e w2 ⟨rfl, hE2⟩
 have HE2 := Lib.hid (HE1.out.trans hE2)
 clear hE2
 go_wp2_with fail
 go_ret
 exact ⟨rfl, HE2.out⟩
end Go.Proofs.YtfaienbdebjfcaaGreat
