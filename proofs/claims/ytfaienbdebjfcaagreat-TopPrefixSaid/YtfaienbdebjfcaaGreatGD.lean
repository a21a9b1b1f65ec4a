/- Contracts: theory.Symbols, theory.symbol. Contracts: theory.check, Valid, every at a pair of atoms. -/
import Derived.Test.YtfaienbdebjfcaaGreatG6
import Derived.Test.YtfaienbdebjfcaaGreatG4
import Derived.Test.YtfaienbdebjfcaaGreatH1
import Derived.Laws.EntriesVeiled
namespace Go.Proofs.YtfaienbdebjfcaaGreat
open Go Go.RowKit
set_option linter.unusedVariables false
set_option linter.unusedSimpArgs false

abbrev Sy := ByteArray × Int × Int × Int
/-- symbols -/
def elSy : Elm Sy where
 n := 4
 R w S x cs := cs = [.string x.1, .int .i64 x.2.1, .int .i64 x.2.2.1, .int .i64 x.2.2.2]
 len := by rintro w S t cs rfl; rfl
 one := by rintro w S t cs rfl u hu; simp at hu; rcases hu with rfl | rfl | rfl | rfl <;> rfl
 keep := by rintro w w' S S' t cs rfl h1 h2; rfl
theorem infSy : (Tryz.prog.info? 164).map (fun i => (i.zero, i.size, i.bytes)) = some (some (.agg #[.string ⟨#[]⟩, .int .i64 0, .int .i64 0, .int .i64 0]), 4, 40) := by kernel_rfl
def symsL : List Sy := [(⟨#[112, 97, 105, 114]⟩, 2, 2, 1), (⟨#[101, 110, 99]⟩, 2, 2, 1), (⟨#[97, 101, 110, 99]⟩, 2, 2, 1), (⟨#[112, 107]⟩, 1, 1, 1), (⟨#[115, 105, 103, 110]⟩, 2, 2, 1), (⟨#[104, 97, 115, 104]⟩, 1, 1, 1), (⟨#[120, 111, 114]⟩, 2, 8, 1), (⟨#[122, 101, 114, 111]⟩, 0, 0, 1), (⟨#[101, 120, 112]⟩, 2, 2, 1), (⟨#[109, 117, 108]⟩, 2, 8, 1), (⟨#[105, 110, 118]⟩, 1, 1, 1), (⟨#[111, 110, 101]⟩, 0, 0, 1), (⟨#[115, 107]⟩, 1, 1, 2), (⟨#[115, 104, 107]⟩, 2, 2, 2), (⟨#[110, 101, 119]⟩, 1, 8, 2), (⟨#[102, 115, 116]⟩, 1, 1, 3), (⟨#[115, 110, 100]⟩, 1, 1, 3), (⟨#[100, 101, 99]⟩, 2, 2, 3), (⟨#[97, 100, 101, 99]⟩, 2, 2, 3), (⟨#[111, 112, 101, 110]⟩, 2, 2, 3), (⟨#[114, 101, 97, 100]⟩, 1, 1, 3)]
/-- the symbols so far -/
structure SyI (w0 w : World) (ob : Nat) (k : Nat) : Prop where
 ext : Ext w0 w
 sz : w0.heap.size ≤ ob
 box : ∃ v, w.heap[ob]? = some (.cells #[v] 202) ∧ OwnG elSy w (ob + 1) 164 (fun _ => False) v (symsL.take k)
set_option maxRecDepth 100000 in
set_option maxHeartbeats 2000000 in
theorem sym1_any {w0 w : World} {ob k : Nat} {x : Sy} (h : SyI w0 w ob k) (hk : symsL[k]? = some x) :
 Calls Tryz.prog 138 #[.int .i64 x.2.2.2, .string x.1, .int .i64 x.2.1, .int .i64 x.2.2.1, .pointer (some ⟨ob, 0, none⟩)] w fun e w' => e = .returned (.tuple #[]) ∧ SyI w0 w' ob (k + 1) := by
 obtain ⟨v, hb, hO⟩ := h.box
 obtain ⟨va, vc, rfl, -, -⟩ := id hO.slice
 have b0 : w.cell? ⟨ob, 0, none⟩ = some (.slice va (symsL.take k).length vc) := by rw [cellc hb]; rfl
 obtain ⟨xb, w1, hxb, hw1, HX, hE1⟩ := box_new w (.cells #[.string x.1, .int .i64 x.2.1, .int .i64 x.2.2.1, .int .i64 x.2.2.2] 164)
 have HLS : Hid (LsE elSy w1 (fun _ => False) (.slice (some ⟨xb, 0, none⟩) 1 1) [x]) := Lib.hid (cells_lsE (P := [(x, [.string x.1, .int .i64 x.2.1, .int .i64 x.2.2.1, .int .i64 x.2.2.2])]) HX.out rfl rfl rfl (by simp [maxLen]) (by intro p hp; simp at hp; subst hp; rfl))
 have HO1 := Lib.hid (hO.ext hE1)
 have HB1 := Lib.hid (hs_ext hE1 hb)
 have HS := Lib.hid h
 have HE1 := Lib.hid (h.ext.trans hE1)
 have hln : (symsL.take k).length ≤ 1000000 := by rw [List.length_take]; have : symsL.length = 21 := rfl; omega
 have HTK : Hid (symsL.take (k + 1) = symsL.take k ++ [x]) := Lib.hid (by rw [List.take_add_one, hk]; rfl)
 have HSZ : Hid (ob + 1 ≤ w1.heap.size) := Lib.hid (Array.getElem?_eq_some_iff.1 HB1.out).1
 obtain ⟨m, hm⟩ : ∃ m, m = (symsL.take k).length := ⟨_, rfl⟩
 have HM := Lib.hid hm
 rw [← hm] at b0 HO1 HB1
 clear h hb hO hE1 hk hm
 go_enter Tryz.func138, Tryz.ntmps138
 go_wp2_with (
  at_builtin
  rw [← hw1, ← hxb]
  refine wpList_appG (E := elSy) (T := 164) rfl 202 (.tmp 9) (.tmp 15) rfl rfl rfl Tryz.underlying202 infSy rfl (by decide) (by decide) HO1.out HSZ.out (fun c h => absurd h id) hln (M := [x]) (by simp) HLS.out ?_
  intro v2 w2 o2 g2 k2
  obtain ⟨va2, vc2, rfl, -, -⟩ := id o2.slice
  obtain ⟨m2, hm2⟩ : ∃ m2, m2 = (symsL.take k ++ [x]).length := ⟨_, rfl⟩
  rw [← hm2] at o2 k2
  rw [← hm2]
  clear hm2
  have hb2 := (g2.block ob HSZ.out (fun e => by have := (HO1.out.lt ob e.symm).1; omega)).trans HB1.out
  have HE2 := Lib.hid (Ext.grown HE1.out g2 (fun c hc => by have := (HO1.out.lt c hc).1; have := HS.out.sz; omega))
  have c0 : w2.cell? ⟨ob, 0, none⟩ = some (.slice va m vc) := by rw [cellc hb2]; rfl
  have f0 : w2.frozen? ⟨ob, 0, none⟩ = false := frozenc hb2
  have HI2 : Hid (SyI w0 (w2.setCell ⟨ob, 0, none⟩ (.slice va2 m2 vc2)) ob (k + 1)) := Lib.hid ⟨HE2.out.setCell HS.out.sz _, HS.out.sz, _, by rw [heap_setCell_same w2 ob 0 _ _ _ hb2]; rfl, by rw [HTK.out]; exact o2.keep (fun c hc => heap_setCell_other _ _ _ _ (by have := (o2.lt c hc).1; show c ≠ ob; omega)) (fun c h => absurd h id) (fun c h => absurd h id)⟩
  clear o2 g2 k2 hb2)
 go_end0
 exact ⟨rfl, HI2.out⟩
set_option maxRecDepth 100000 in
set_option maxHeartbeats 8000000 in
theorem symbols_any {w : World} : Calls Tryz.prog 115 #[] w fun e w' => ∃ a cap, e = .returned (.slice a 21 cap) ∧ Ext w w' ∧ LsG elSy w' (fun _ => True) (.slice a 21 cap) symsL := by
 obtain ⟨ob, w1, hob, hw1, HB, hE1⟩ := box_new w (.cells #[.slice none 0 0] 202)
 have HS : Hid (SyI w w1 ob 0) := Lib.hid ⟨hE1, by rw [hob]; exact Nat.le_refl _, _, HB.out, OwnG.nil⟩
 have hmf : ∀ (fn : Fn) (first cap : Array Value) (w : World), (Instr.makeFunc fn first cap).run Tryz.prog w = .ok (.func fn first cap) w := fun _ _ _ _ => rfl
 clear hE1 HB
 go_enter Tryz.func115, Tryz.ntmps115
 go_upto_region 4 with fail
 rw [← hw1, ← hob]
 clear hw1 hob
 go_wp2_with fail
 refine (sym1_any (x := (⟨#[112, 97, 105, 114]⟩, 2, 2, 1)) HS.out rfl).mono ?_
 rintro e w2 ⟨rfl, hS⟩
 have HS := Lib.hid hS
 clear hS
 go_wp2_with fail
 refine (sym1_any (x := (⟨#[101, 110, 99]⟩, 2, 2, 1)) HS.out rfl).mono ?_
 rintro e w2 ⟨rfl, hS⟩
 have HS := Lib.hid hS
 clear hS
 go_wp2_with fail
 refine (sym1_any (x := (⟨#[97, 101, 110, 99]⟩, 2, 2, 1)) HS.out rfl).mono ?_
 rintro e w2 ⟨rfl, hS⟩
 have HS := Lib.hid hS
 clear hS
 go_wp2_with fail
 refine (sym1_any (x := (⟨#[112, 107]⟩, 1, 1, 1)) HS.out rfl).mono ?_
 rintro e w2 ⟨rfl, hS⟩
 have HS := Lib.hid hS
 clear hS
 go_wp2_with fail
 refine (sym1_any (x := (⟨#[115, 105, 103, 110]⟩, 2, 2, 1)) HS.out rfl).mono ?_
 rintro e w2 ⟨rfl, hS⟩
 have HS := Lib.hid hS
 clear hS
 go_wp2_with fail
 refine (sym1_any (x := (⟨#[104, 97, 115, 104]⟩, 1, 1, 1)) HS.out rfl).mono ?_
 rintro e w2 ⟨rfl, hS⟩
 have HS := Lib.hid hS
 clear hS
 go_wp2_with fail
 refine (sym1_any (x := (⟨#[120, 111, 114]⟩, 2, 8, 1)) HS.out rfl).mono ?_
 rintro e w2 ⟨rfl, hS⟩
 have HS := Lib.hid hS
 clear hS
 go_wp2_with fail
 refine (sym1_any (x := (⟨#[122, 101, 114, 111]⟩, 0, 0, 1)) HS.out rfl).mono ?_
 rintro e w2 ⟨rfl, hS⟩
 have HS := Lib.hid hS
 clear hS
 go_wp2_with fail
 refine (sym1_any (x := (⟨#[101, 120, 112]⟩, 2, 2, 1)) HS.out rfl).mono ?_
 rintro e w2 ⟨rfl, hS⟩
 have HS := Lib.hid hS
 clear hS
 go_wp2_with fail
 refine (sym1_any (x := (⟨#[109, 117, 108]⟩, 2, 8, 1)) HS.out rfl).mono ?_
 rintro e w2 ⟨rfl, hS⟩
 have HS := Lib.hid hS
 clear hS
 go_wp2_with fail
 refine (sym1_any (x := (⟨#[105, 110, 118]⟩, 1, 1, 1)) HS.out rfl).mono ?_
 rintro e w2 ⟨rfl, hS⟩
 have HS := Lib.hid hS
 clear hS
 go_wp2_with fail
 refine (sym1_any (x := (⟨#[111, 110, 101]⟩, 0, 0, 1)) HS.out rfl).mono ?_
 rintro e w2 ⟨rfl, hS⟩
 have HS := Lib.hid hS
 clear hS
 go_wp2_with fail
 refine (sym1_any (x := (⟨#[115, 107]⟩, 1, 1, 2)) HS.out rfl).mono ?_
 rintro e w2 ⟨rfl, hS⟩
 have HS := Lib.hid hS
 clear hS
 go_wp2_with fail
 refine (sym1_any (x := (⟨#[115, 104, 107]⟩, 2, 2, 2)) HS.out rfl).mono ?_
 rintro e w2 ⟨rfl, hS⟩
 have HS := Lib.hid hS
 clear hS
 go_wp2_with fail
 refine (sym1_any (x := (⟨#[110, 101, 119]⟩, 1, 8, 2)) HS.out rfl).mono ?_
 rintro e w2 ⟨rfl, hS⟩
 have HS := Lib.hid hS
 clear hS
 go_wp2_with fail
 refine (sym1_any (x := (⟨#[102, 115, 116]⟩, 1, 1, 3)) HS.out rfl).mono ?_
 rintro e w2 ⟨rfl, hS⟩
 have HS := Lib.hid hS
 clear hS
 go_wp2_with fail
 refine (sym1_any (x := (⟨#[115, 110, 100]⟩, 1, 1, 3)) HS.out rfl).mono ?_
 rintro e w2 ⟨rfl, hS⟩
 have HS := Lib.hid hS
 clear hS
 go_wp2_with fail
 refine (sym1_any (x := (⟨#[100, 101, 99]⟩, 2, 2, 3)) HS.out rfl).mono ?_
 rintro e w2 ⟨rfl, hS⟩
 have HS := Lib.hid hS
 clear hS
 go_wp2_with fail
 refine (sym1_any (x := (⟨#[97, 100, 101, 99]⟩, 2, 2, 3)) HS.out rfl).mono ?_
 rintro e w2 ⟨rfl, hS⟩
 have HS := Lib.hid hS
 clear hS
 go_wp2_with fail
 refine (sym1_any (x := (⟨#[111, 112, 101, 110]⟩, 2, 2, 3)) HS.out rfl).mono ?_
 rintro e w2 ⟨rfl, hS⟩
 have HS := Lib.hid hS
 clear hS
 go_wp2_with fail
 refine (sym1_any (x := (⟨#[114, 101, 97, 100]⟩, 1, 1, 3)) HS.out rfl).mono ?_
 rintro e w2 ⟨rfl, hS⟩
 have HS := Lib.hid hS
 clear hS
 obtain ⟨v, hb, hO⟩ := HS.out.box
 obtain ⟨va, vc, rfl, -, -⟩ := id hO.slice
 have b0 : w2.cell? ⟨ob, 0, none⟩ = some (.slice va 21 vc) := by rw [cellc hb]; rfl
 have HL : Hid (LsG elSy w2 (fun _ => True) (.slice va 21 vc) symsL) := Lib.hid hO.any
 clear hb hO
 go_wp2_with fail
 go_ret
 exact ⟨va, vc, rfl, HS.out.ext, HL.out⟩

abbrev nPair : ByteArray := ⟨#[112, 97, 105, 114]⟩
def tA : Tm := .mk 2 ⟨#[97]⟩ 1 []
def tN : Tm := .mk 2 ⟨#[110]⟩ 2 []
def tP : Tm := .mk 3 nPair 0 [tA, tN]
theorem kid_get {k : Nat} (h : k < 2) : ∃ x, tP.kids[k]? = some x ∧ x.kind = 2 ∧ x.kids = [] := by
 rcases (by omega : k = 0 ∨ k = 1) with rfl | rfl
 · exact ⟨tA, rfl, rfl, rfl⟩
 · exact ⟨tN, rfl, rfl, rfl⟩
theorem set4s_box {w : World} {g T : Nat} {a b c d : Value} (a' b' c' d' : Value) (h : w.heap[g]? = some (.cells #[a, b, c, d] T)) :
 ((((w.setCell ⟨g, 0, none⟩ a').setCell ⟨g, 1, none⟩ b').setCell ⟨g, 2, none⟩ c').setCell ⟨g, 3, none⟩ d').heap[g]? = some (.cells #[a', b', c', d'] T) ∧
   ∀ W, Ext W w → W.heap.size ≤ g → Ext W ((((w.setCell ⟨g, 0, none⟩ a').setCell ⟨g, 1, none⟩ b').setCell ⟨g, 2, none⟩ c').setCell ⟨g, 3, none⟩ d') := by
 refine ⟨?_, fun W hE hW => (((hE.setCell hW _).setCell hW _).setCell hW _).setCell hW _⟩
 have h1 := heap_setCell_same w g 0 _ _ a' h
 have h5 := heap_setCell_same _ g 1 _ _ b' h1
 have h6 := heap_setCell_same _ g 2 _ _ c' h5
 have h7 := heap_setCell_same _ g 3 _ _ d' h6
 rw [h7]; simp
set_option maxRecDepth 100000 in
set_option maxHeartbeats 2000000 in
theorem symbolP_any {w : World} : Calls Tryz.prog 86 #[.string nPair] w fun e w' => e = .returned (.agg #[.string nPair, .int .i64 2, .int .i64 2, .int .i64 1]) ∧ Ext w w' := by
 obtain ⟨rb, w1, hrb, hw1, HRB, hE1⟩ := box_new w (.cells #[.string ⟨#[]⟩, .int .i64 0, .int .i64 0, .int .i64 0] 164)
 have HC := Lib.hid (symbols_any (w := w1))
 have HE1 := Lib.hid hE1
 have HRS : Hid (w.heap.size ≤ rb) := Lib.hid (by rw [hrb]; exact Nat.le_refl _)
 clear hE1
 go_enter Tryz.func86, Tryz.ntmps86
 go_upto_region 1 with fail
 rw [← hw1, ← hrb]
 clear hw1 hrb
 go_wp2_with fail
 refine HC.out.mono ?_
 rintro e w2 ⟨a, cap, rfl, hE2, hL⟩
 obtain ⟨b, off, cs, rfl, -, -, rfl, hc⟩ := hL.at (i := 0) (x := (nPair, 2, 2, 1)) rfl
 have c0 : w2.cell? ⟨b, off, none⟩ = some (.string nPair) := by simpa using hc 0 _ rfl
 have c1 : w2.cell? ⟨b, off + 1, none⟩ = some (.int .i64 2) := by simpa using hc 1 _ rfl
 have c2 : w2.cell? ⟨b, off + 2, none⟩ = some (.int .i64 2) := by simpa using hc 2 _ rfl
 have c3 : w2.cell? ⟨b, off + 3, none⟩ = some (.int .i64 1) := by simpa using hc 3 _ rfl
 have HR2 := Lib.hid (hs_ext hE2 HRB.out)
 have HE2 := Lib.hid (HE1.out.trans hE2)
 have hcap := hL.len.2.2
 clear hc hL hE2
 go_wp2_with fail
 go_loopw [4, 7] (fun x4 kv wr => kv = .int .i64 0 ∧ Hid (wr = w2)) (fun x4 kv _ => 0)
 case atStart => exact ⟨rfl, Lib.hid rfl⟩
 case round =>
  obtain ⟨rfl, HW⟩ := hrel
  have hw := HW.out
  subst hw
  obtain ⟨xb, w3, hxb, hw3, HX, hE3⟩ := box_new wr (.cells #[.string nPair, .int .i64 2, .int .i64 2, .int .i64 1] 164)
  have x0 : w3.cell? ⟨xb, 0, none⟩ = some (.string nPair) := by rw [cellc HX.out]; rfl
  have x1 : w3.cell? ⟨xb, 1, none⟩ = some (.int .i64 2) := by rw [cellc HX.out]; rfl
  have x2 : w3.cell? ⟨xb, 2, none⟩ = some (.int .i64 2) := by rw [cellc HX.out]; rfl
  have x3 : w3.cell? ⟨xb, 3, none⟩ = some (.int .i64 1) := by rw [cellc HX.out]; rfl
  have hr3 := hs_ext hE3 HR2.out
  have r0 : w3.cell? ⟨rb, 0, none⟩ = some (.string ⟨#[]⟩) := by rw [cellc hr3]; rfl
  have r1 : w3.cell? ⟨rb, 1, none⟩ = some (.int .i64 0) := by rw [cellc hr3]; rfl
  have r2 : w3.cell? ⟨rb, 2, none⟩ = some (.int .i64 0) := by rw [cellc hr3]; rfl
  have r3 : w3.cell? ⟨rb, 3, none⟩ = some (.int .i64 0) := by rw [cellc hr3]; rfl
  have f0 : w3.frozen? ⟨rb, 0, none⟩ = false := frozenc hr3
  have f1 : w3.frozen? ⟨rb, 1, none⟩ = false := frozenc hr3
  have f2 : w3.frozen? ⟨rb, 2, none⟩ = false := frozenc hr3
  have f3 : w3.frozen? ⟨rb, 3, none⟩ = false := frozenc hr3
  have HR3 := Lib.hid hr3
  have HE3 := Lib.hid (HE2.out.trans hE3)
  clear hr3 hE3
  go_upto_region 4 with fail
  rw [← hw3, ← hxb]
  clear hw3 hxb c0 c1 c2 c3
  go_wp2_with fail
  refine bodyPost_ret (results_cell_row rfl _ _ rb _ _ _ _ rfl (set4s_box _ _ _ _ HR3.out).1 Tryz.underlying164 rfl (by kernel_rfl)) rfl ?_
  exact ⟨rfl, (set4s_box _ _ _ _ HR3.out).2 _ HE3.out HRS.out⟩
set_option maxRecDepth 100000 in
set_option maxHeartbeats 2000000 in
theorem checkA_any {w : World} {n : ByteArray} {s : Int} {v : Value} : Calls Tryz.prog 80 #[.agg #[.int .i64 2, .string n, .int .i64 s, v]] w fun e w' => e = .returned (.int .i64 0) ∧ Ext w w' := by
 obtain ⟨bx, w1, hbx, hw1, HB, hE1⟩ := box_new w (.cells #[.int .i64 2, .string n, .int .i64 s, v] 77)
 have b0 : w1.cell? ⟨bx, 0, none⟩ = some (.int .i64 2) := by rw [cellc HB.out]; rfl
 have HE1 := Lib.hid hE1
 clear hE1
 go_enter Tryz.func80, Tryz.ntmps80
 go_upto_region 1 with fail
 rw [← hw1, ← hbx]
 clear hw1 hbx
 go_wp2_with fail
 go_ret
 exact ⟨rfl, HE1.out⟩
set_option maxRecDepth 100000 in
set_option maxHeartbeats 4000000 in
theorem checkP_any {w : World} {a : Option Addr} {cap : Nat} (hT : TmW w Any a cap tP) : Calls Tryz.prog 80 #[.agg #[.int .i64 3, .string nPair, .int .i64 0, .slice a 2 cap]] w fun e w' => e = .returned (.int .i64 0) ∧ Ext w w' := by
 obtain ⟨bx, w1, hbx, hw1, HB, hE1⟩ := box_new w (.cells #[.int .i64 3, .string nPair, .int .i64 0, .slice a 2 cap] 77)
 have b0 : w1.cell? ⟨bx, 0, none⟩ = some (.int .i64 3) := by rw [cellc HB.out]; rfl
 have b1 : w1.cell? ⟨bx, 1, none⟩ = some (.string nPair) := by rw [cellc HB.out]; rfl
 have b3 : w1.cell? ⟨bx, 3, none⟩ = some (.slice a 2 cap) := by rw [cellc HB.out]; rfl
 have HE1 := Lib.hid hE1
 have HT := Lib.hid (hT.ext hE1)
 have HSY := Lib.hid (fun (w' : World) => symbolP_any (w := w'))
 have hcl := hT.len
 have hcm := hT.cap
 have hcl2 : 2 ≤ cap := hcl
 unfold maxLen at hcm
 clear hE1 hT hcl
 go_enter Tryz.func80, Tryz.ntmps80
 go_upto_region 1 with fail
 rw [← hw1, ← hbx]
 clear hw1 hbx
 go_wp2_with fail
 refine (HSY.out _).mono ?_
 rintro e w2 ⟨rfl, hE2⟩
 obtain ⟨b0, b1, b3⟩ := cs_e3 hE2 ⟨b0, b1, b3⟩
 have HE1 := Lib.hid (HE1.out.trans hE2)
 have HT := Lib.hid (HT.out.ext hE2)
 obtain ⟨sb, w3, hsb, hw3, HSB, hE3⟩ := box_new w2 (.cells #[.string nPair, .int .i64 2, .int .i64 2, .int .i64 1] 164)
 have s1 : w3.cell? ⟨sb, 1, none⟩ = some (.int .i64 2) := by rw [cellc HSB.out]; rfl
 have s2 : w3.cell? ⟨sb, 2, none⟩ = some (.int .i64 2) := by rw [cellc HSB.out]; rfl
 have s3 : w3.cell? ⟨sb, 3, none⟩ = some (.int .i64 1) := by rw [cellc HSB.out]; rfl
 obtain ⟨b0, b1, b3⟩ := cs_e3 hE3 ⟨b0, b1, b3⟩
 have HE1 := Lib.hid (HE1.out.trans hE3)
 have HT := Lib.hid (HT.out.ext hE3)
 clear hE2 hE3
 go_upto_region 4 with fail
 rw [← hw3, ← hsb]
 clear hw3 hsb
 go_wp2_with fail
 go_loopw [8, 9, 64] (fun x8 x9 kv wr => ∃ k : Nat, kv = .int .i64 k ∧ k ≤ 2 ∧ Hid (Ext w3 wr)) (fun x8 x9 kv _ => 2 - (intOf kv).toNat)
 case atStart => exact ⟨0, rfl, by omega, Lib.hid (Ext.refl _)⟩
 case round =>
  obtain ⟨k, rfl, hk, HE⟩ := hrel
  by_cases hlt : k < 2
  · obtain ⟨x, hx, hx2, hx3⟩ := kid_get hlt
    obtain ⟨kb, ko, ka, kc, rfl, x0, x1, x2, x3, -⟩ := (HT.out.ext HE.out).ts.at hx
    rw [hx2] at x0
    obtain ⟨yb, w4, hyb, hw4, HY, hE4⟩ := box_new wr (.cells #[.int .i64 2, .string x.name, .int .i64 x.sort, .slice ka x.kids.length kc] 77)
    have y0 : w4.cell? ⟨yb, 0, none⟩ = some (.int .i64 2) := by rw [cellc HY.out]; rfl
    have y1 : w4.cell? ⟨yb, 1, none⟩ = some (.string x.name) := by rw [cellc HY.out]; rfl
    have y2 : w4.cell? ⟨yb, 2, none⟩ = some (.int .i64 x.sort) := by rw [cellc HY.out]; rfl
    have y3 : w4.cell? ⟨yb, 3, none⟩ = some (.slice ka x.kids.length kc) := by rw [cellc HY.out]; rfl
    have hki : (k : Int) < 2 := by omega
    have HC := Lib.hid (checkA_any (w := w4) (n := x.name) (s := x.sort) (v := .slice ka x.kids.length kc))
    have HE4 := Lib.hid (HE.out.trans hE4)
    clear hE4 hx hx2 hx3
    go_upto_region 24 with fail
    rw [← hw4, ← hyb]
    clear hw4 hyb x0 x1 x2 x3
    go_wp2_with fail
    refine HC.out.mono ?_
    rintro e w5 ⟨rfl, hE5⟩
    have HE5 := Lib.hid (HE4.out.trans hE5)
    clear hE5
    go_wp2_with fail
    go_roundw
    case rel => exact ⟨k + 1, by go_num, by omega, HE5⟩
    case measure => simp [intOf]; omega
  · have hki : ¬ (k : Int) < 2 := by omega
    go_wp2_with fail
    go_ret
    exact ⟨rfl, HE1.out.trans HE.out⟩
set_option maxRecDepth 100000 in
set_option maxHeartbeats 2000000 in
theorem ValidP_any {w : World} {a : Option Addr} {cap : Nat} (hT : TmW w Any a cap tP) : Calls Tryz.prog 53 #[.agg #[.int .i64 3, .string nPair, .int .i64 0, .slice a 2 cap]] w fun e w' => e = .returned (.int .i64 0) ∧ Ext w w' := by
 obtain ⟨bx, w1, hbx, hw1, HB, hE1⟩ := box_new w (.cells #[.int .i64 3, .string nPair, .int .i64 0, .slice a 2 cap] 77)
 have b0 : w1.cell? ⟨bx, 0, none⟩ = some (.int .i64 3) := by rw [cellc HB.out]; rfl
 have b1 : w1.cell? ⟨bx, 1, none⟩ = some (.string nPair) := by rw [cellc HB.out]; rfl
 have b2 : w1.cell? ⟨bx, 2, none⟩ = some (.int .i64 0) := by rw [cellc HB.out]; rfl
 have b3 : w1.cell? ⟨bx, 3, none⟩ = some (.slice a 2 cap) := by rw [cellc HB.out]; rfl
 have HE1 := Lib.hid hE1
 have HT := Lib.hid (hT.ext hE1)
 have HV := Lib.hid (PValid_any (by decide +kernel) HT.out)
 rw [show validT tP = 0 by decide +kernel] at HV
 clear hE1 hT
 go_enter Tryz.func53, Tryz.ntmps53
 go_upto_region 1 with fail
 rw [← hw1, ← hbx]
 clear hw1 hbx
 go_wp2_with fail
 refine HV.out.mono ?_
 rintro e w2 ⟨rfl, hE2⟩
 obtain ⟨b0, b1, b2, b3⟩ := cs_e4 hE2 ⟨b0, b1, b2, b3⟩
 have HE1 := Lib.hid (HE1.out.trans hE2)
 have HT := Lib.hid (HT.out.ext hE2)
 have HC := Lib.hid (checkP_any HT.out)
 clear hE2
 go_wp2_with fail
 refine HC.out.mono ?_
 rintro e w3 ⟨rfl, hE3⟩
 have HE3 := Lib.hid (HE1.out.trans hE3)
 clear hE3
 go_wp2_with fail
 go_ret
 exact ⟨rfl, HE3.out⟩
end Go.Proofs.YtfaienbdebjfcaaGreat
