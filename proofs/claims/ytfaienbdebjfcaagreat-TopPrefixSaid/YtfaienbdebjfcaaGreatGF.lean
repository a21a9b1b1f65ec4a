/- Contracts: envelope.write at a pair of atoms. Contracts: envelope.write, Encode at a pair of atoms. Contracts: wire.Check, Seal, Open. -/
import Derived.Test.YtfaienbdebjfcaaGreatGE
import Derived.Deep.RegionLaw
import Derived.Lib.AppendStr
import Derived.Laws.BytesArg
import Derived.Laws.EntriesVeiled
namespace Go.Proofs.YtfaienbdebjfcaaGreat
open Go Go.RowKit
set_option linter.unusedVariables false
set_option linter.unusedSimpArgs false

/-- bytes -/
def elY : Elm Nat where
 n := 1
 R w S k cs := cs = [.int .u8 k] ∧ k < 256
 len := by rintro w S t cs ⟨rfl, -⟩; rfl
 one := by rintro w S t cs ⟨rfl, -⟩ u hu; simp at hu; subst hu; rfl
 keep := by rintro w w' S S' t cs ⟨rfl, h⟩ h1 h2; exact ⟨rfl, h⟩
theorem infU8 : (Tryz.prog.info? 5).map (fun i => (i.zero, i.size, i.bytes)) = some (some (.int .u8 0), 1, 1) := by kernel_rfl
def strN (s : ByteArray) : List Nat := s.data.toList.map (·.toNat)
theorem strN_len (s : ByteArray) : (strN s).length = s.size := by unfold strN; rw [List.length_map]; rfl
theorem strN_cells (s : ByteArray) : (((strN s).map (fun (k : Nat) => (k, [Value.int .u8 (k : Int)]))).flatMap (·.2)) = Lib.strCells s := by
 unfold strN Lib.strCells
 induction s.data.toList with
 | nil => rfl
 | cons b l ih => simp only [List.map_cons, List.flatMap_cons, ih]; rfl
section
variable {w : World} {base : Nat} {v : Value} {L : List Nat}
theorem appS {ty : TypeId} {s : ByteArray} (h : OwnG elY w base 5 (fun _ => False) v L) (hb : base ≤ w.heap.size) (hl : L.length + s.size ≤ 1000000) :
 ∃ v' w', (Builtin.append_ #[23, 9] ty #[v, .string s]).run Tryz.prog w = .ok v' w' ∧ OwnG elY w' base 5 (fun _ => False) v' (L ++ strN s) ∧ w.grownBy w' v.ownBlock := by
 obtain ⟨i0, hi0, hi1, hi2, hi3⟩ := info_parts infU8
 obtain ⟨P, rfl, e2, h2⟩ := h
 rw [List.length_map] at hl
 have h2 : w.ownsRow base 5 1 v P.length (P.flatMap (·.2)) := h2
 obtain ⟨v', w', hr, r1, r2, -⟩ := Lib.run_append_own_string (P := Tryz.prog) w base 23 9 ty 5 i0 Tryz.underlying23 Tryz.underlying9 hi0 hi1 hi2 hi3 v P.length (P.flatMap (·.2)) h2 s (by unfold maxLen; omega) (by omega) hb
 refine ⟨v', w', hr, ⟨P ++ (strN s).map (fun (k : Nat) => (k, [Value.int .u8 (k : Int)])), by rw [List.map_append, List.map_map]; simp [Function.comp_def], fun p hp => ?_, ?_⟩, r2⟩
 · rcases List.mem_append.1 hp with hp | hp
   · exact ⟨(e2 p hp).1, (e2 p hp).2⟩
   · obtain ⟨k, hk, rfl⟩ := List.mem_map.1 hp
     refine ⟨rfl, ?_⟩
     unfold strN at hk
     obtain ⟨b, -, rfl⟩ := List.mem_map.1 hk
     exact UInt8.toNat_lt b
 · rw [List.length_append, List.length_map, strN_len, List.flatMap_append, strN_cells]
   exact r1
theorem step_appS {ops : Array Oper} {o : Oper} {a : Act} {K : Act → World → Prop} {Q : Exit → Act → World → Prop} {F : Prop} (hgd : o.guard = none) (sl y : Operand)
 (ho : o.op = .call { callee := .builtin .append, args := #[sl, y], argTypes := #[23, 9] }) {s : ByteArray} (hs : a.eval sl = v) (hy : a.eval y = .string s)
 (h : OwnG elY w base 5 (fun _ => False) v L) (hb : base ≤ w.heap.size) (hl : L.length + s.size ≤ 1000000)
 (hK : ∀ v' w', OwnG elY w' base 5 (fun _ => False) v' (L ++ strN s) → w.grownBy w' v.ownBlock → K (a.put o.dst v') w') :
 if Region.wanted o (yielded ops a.tmps) = true then Oper.wp Tryz.prog o a w K Q else F := by
 have hw : Region.wanted o (yielded ops a.tmps) = true := by simp [Region.wanted, hgd]
 rw [if_pos hw]
 obtain ⟨v', w', hr, h1, h2⟩ := appS (ty := o.type) h hb hl (s := s)
 unfold Oper.wp execOp
 simp only [ho, resolve, invoke, builtin, Sem.run_bind, Sem.run_pure, Result.andThen_ok, List.map_toArray, List.map_cons, List.map_nil, hs, hy, hr]
 exact hK v' w' h1 h2
end
/-- what a writing leaves -/
structure WrI (w : World) (base : Nat) (e : Ending) (w' : World) (L : List Nat) : Prop where
 row : ∃ v, e = .returned v ∧ OwnG elY w' base 5 (fun _ => False) v L
 ext : ∀ W, Ext W w → W.heap.size ≤ base → Ext W w'
def atomN (s : Nat) (n : ByteArray) : List Nat := [s, n.size] ++ strN n
set_option maxRecDepth 100000 in
set_option maxHeartbeats 4000000 in
theorem writeA_any {w : World} {base : Nat} {v x : Value} {L : List Nat} {n : ByteArray} {s : Nat} (hO : OwnG elY w base 5 (fun _ => False) v L) (hb : base ≤ w.heap.size) (hl : L.length ≤ 1000) (hn : n.size < 256) (hs : s < 256) :
 Calls Tryz.prog 56 #[v, .agg #[.int .i64 2, .string n, .int .i64 s, x]] w fun e w' => WrI w base e w' (L ++ atomN s n) := by
 obtain ⟨bx, w1, hbx, hw1, HB, hE1⟩ := box_new w (.cells #[.int .i64 2, .string n, .int .i64 s, x] 77)
 have b0 : w1.cell? ⟨bx, 0, none⟩ = some (.int .i64 2) := by rw [cellc HB.out]; rfl
 have b1 : w1.cell? ⟨bx, 1, none⟩ = some (.string n) := by rw [cellc HB.out]; rfl
 have b2 : w1.cell? ⟨bx, 2, none⟩ = some (.int .i64 s) := by rw [cellc HB.out]; rfl
 have HO := Lib.hid (fun (w' : World) (hE : Ext w1 w') => hO.ext (hE1.trans hE))
 have HBS := Lib.hid (fun (w' : World) (hE : Ext w1 w') => Nat.le_trans hb (hE1.trans hE).size)
 have HROW : Hid (∀ wz : World, LsE elY (wz.alloc (.cells #[.int .u8 s, .int .u8 n.size] 5)) (fun _ => False) (.slice (some ⟨wz.heap.size, 0, none⟩) 2 2) [s, n.size]) := Lib.hid (fun wz => cells_lsE (P := [(s, [.int .u8 s]), (n.size, [.int .u8 n.size])]) hs_new rfl rfl rfl (by simp [maxLen]) (by
  intro p hp
  simp at hp
  rcases hp with rfl | rfl
  · exact ⟨rfl, hs⟩
  · exact ⟨rfl, hn⟩))
 have HE1 := Lib.hid hE1
 have HLT := Lib.hid hO.lt
 have HBX : Hid (bx = w.heap.size) := Lib.hid hbx
 have a1 : (w1.alloc (.cells #[.int .u8 s, .int .u8 n.size] 5)).cell? ⟨bx, 1, none⟩ = some (.string n) := cs_al b1
 obtain ⟨va, vc, rfl, -, -⟩ := id hO.slice
 have hws : IntKind.u8.wrap (s : Int) = (s : Int) := by rw [IntKind.wrap_u8]; omega
 have hwn : IntKind.u8.wrap (n.size : Int) = (n.size : Int) := by rw [IntKind.wrap_u8]; omega
 have HLL := Lib.hid hl
 have HNN := Lib.hid hn
 obtain ⟨m, hm⟩ : ∃ m, m = L.length := ⟨_, rfl⟩
 rw [← hm] at HO HLT ⊢
 clear hE1 hO hb hm
 go_enter Tryz.func56, Tryz.ntmps56
 go_upto_region 1 with fail
 rw [← hw1, ← hbx]
 clear hw1 hbx
 go_upto_region 2 with fail
 go_region_law (first
  | (refine step_appG (E := elY) (T := 5) rfl 23 (.tmp 11) (.tmp 19) rfl rfl rfl Tryz.underlying23 infU8 rfl (by decide) (by decide) (HO.out _ (by repeat (first | exact Ext.refl _ | exact Ext.alloc _ _ | apply Ext.then_dr | apply Ext.then_drN | apply Ext.then_drN2 | (refine Ext.then_al ?_ _)))) (HBS.out _ (by repeat (first | exact Ext.refl _ | exact Ext.alloc _ _ | apply Ext.then_dr | apply Ext.then_drN | apply Ext.then_drN2 | (refine Ext.then_al ?_ _)))) (fun c h => absurd h id) (by have := HLL.out; omega) (M := [s, n.size]) (by simp) (by first | exact HROW.out _ | exact (HROW.out _).ext (Ext.drew _)) ?_
     intro v7 w7 o7 g7 k7
     have b17 : w7.cell? ⟨bx, 1, none⟩ = some (.string n) := g7.cell (cs_ext (show Ext w1 _ from (by repeat (first | exact Ext.refl _ | exact Ext.alloc _ _ | apply Ext.then_dr | apply Ext.then_drN | apply Ext.then_drN2 | (refine Ext.then_al ?_ _)))) b1) (fun e => by have := (HLT.out bx e.symm).2; have := HBX.out; omega)
     have HX7 : Hid (∀ W, Ext W w → W.heap.size ≤ base → Ext W w7) := Lib.hid (fun W h1 h2 => Ext.grown (h1.trans (HE1.out.trans (show Ext w1 _ from (by repeat (first | exact Ext.refl _ | exact Ext.alloc _ _ | apply Ext.then_dr | apply Ext.then_drN | apply Ext.then_drN2 | (refine Ext.then_al ?_ _)))))) g7 (fun c hc => Nat.le_trans h2 (HLT.out c hc).1))
     have HB7 : Hid (base ≤ w7.heap.size) := Lib.hid (Nat.le_trans (HBS.out _ (show Ext w1 _ from (by repeat (first | exact Ext.refl _ | exact Ext.alloc _ _ | apply Ext.then_dr | apply Ext.then_drN | apply Ext.then_drN2 | (refine Ext.then_al ?_ _))))) g7.size)
     have HO7 := Lib.hid o7
     clear o7 g7 k7)
  | (refine step_appS rfl (.tmp 20) (.tmp 22) rfl rfl rfl HO7.out HB7.out (by have := HLL.out; have := HNN.out; simp; omega) ?_
     intro v8 w8 o8 g8
     have HX8 : Hid (∀ W, Ext W w → W.heap.size ≤ base → Ext W w8) := Lib.hid (fun W h1 h2 => Ext.grown (HX7.out W h1 h2) g8 (fun c hc => Nat.le_trans h2 (HO7.out.lt c hc).1))
     have HO8 := Lib.hid o8
     clear o8 g8))
 all_goals
  simp only [Act.put, List.getElem_cons_succ, List.getElem_cons_zero]
  go_simp
  go_wp2_with fail
  go_ret
  exact ⟨⟨v8, rfl, by have := HO8.out; rwa [List.append_assoc] at this⟩, HX8.out⟩
set_option maxRecDepth 100000 in
set_option maxHeartbeats 4000000 in
theorem symbolsE_any {w : World} : Calls Tryz.prog 88 #[] w fun e w' => ∃ b, e = .returned (.slice (some ⟨b, 0, none⟩) 15 15) ∧ Ext w w' ∧ w'.cell? ⟨b, 0, none⟩ = some (.string nPair) ∧ w'.cell? ⟨b, 1, none⟩ = some (.int .i64 2) ∧ w'.cell? ⟨b, 2, none⟩ = some (.int .i64 2) := by
 go_enter Tryz.func88, Tryz.ntmps88
 go_wp2_with fail
 go_ret
 exact ⟨w.heap.size, rfl, Ext.alloc _ _, by rw [cellc hs_new]; rfl, by rw [cellc hs_new]; rfl, by rw [cellc hs_new]; rfl⟩
set_option maxRecDepth 100000 in
set_option maxHeartbeats 1000000 in
theorem counted_any {w : World} {n : ByteArray} : Calls Tryz.prog 90 #[.agg #[.string n, .int .i64 2, .int .i64 2]] w fun e w' => e = .returned (.bool false) ∧ Ext w w' := by
 obtain ⟨bx, w1, hbx, hw1, HB, hE1⟩ := box_new w (.cells #[.string n, .int .i64 2, .int .i64 2] 169)
 have b1 : w1.cell? ⟨bx, 1, none⟩ = some (.int .i64 2) := by rw [cellc HB.out]; rfl
 have b2 : w1.cell? ⟨bx, 2, none⟩ = some (.int .i64 2) := by rw [cellc HB.out]; rfl
 have HE1 := Lib.hid hE1
 clear hE1
 go_enter Tryz.func90, Tryz.ntmps90
 go_upto_region 1 with fail
 rw [← hw1, ← hbx]
 clear hw1 hbx
 go_wp2_with fail
 go_ret
 exact ⟨rfl, HE1.out⟩
set_option maxRecDepth 100000 in
set_option maxHeartbeats 1000000 in
theorem write1_any {w : World} {tb : Nat} (ht : w.cell? ⟨tb, 1, none⟩ = some (.string nPair)) : Calls Tryz.prog 89 #[.agg #[.string nPair, .int .i64 2, .int .i64 2], .pointer (some ⟨tb, 0, none⟩)] w fun e w' => e = .returned (.bool true) ∧ Ext w w' := by
 obtain ⟨bx, w1, hbx, hw1, HB, hE1⟩ := box_new w (.cells #[.string nPair, .int .i64 2, .int .i64 2] 169)
 have b0 : w1.cell? ⟨bx, 0, none⟩ = some (.string nPair) := by rw [cellc HB.out]; rfl
 have t0 := cs_ext hE1 ht
 have HE1 := Lib.hid hE1
 clear hE1 ht
 go_enter Tryz.func89, Tryz.ntmps89
 go_upto_region 1 with fail
 rw [← hw1, ← hbx]
 clear hw1 hbx
 go_wp2_with fail
 go_ret
 exact ⟨rfl, HE1.out⟩
set_option maxRecDepth 100000 in
set_option maxHeartbeats 2000000 in
theorem indexE_any {w : World} {b tb : Nat} (ht : w.cell? ⟨tb, 1, none⟩ = some (.string nPair)) (h0 : w.cell? ⟨b, 0, none⟩ = some (.string nPair)) (h1 : w.cell? ⟨b, 1, none⟩ = some (.int .i64 2)) (h2 : w.cell? ⟨b, 2, none⟩ = some (.int .i64 2)) :
 Calls Tryz.prog 87 #[.slice (some ⟨b, 0, none⟩) 15 15, .func (.func 89) #[] #[.pointer (some ⟨tb, 0, none⟩)]] w fun e w' => e = .returned (.int .i64 0) ∧ Ext w w' := by
 have HW := Lib.hid (write1_any ht)
 clear ht
 go_enter Tryz.func87, Tryz.ntmps87
 go_wp2_with fail
 go_loopw [5, 8] (fun x5 kv wr => kv = .int .i64 0 ∧ Hid (wr = w)) (fun _ _ _ => 0)
 case atStart => exact ⟨rfl, Lib.hid rfl⟩
 case round =>
  obtain ⟨rfl, HQ⟩ := hrel
  have hw := HQ.out
  subst hw
  go_wp2_with fail
  refine HW.out.mono ?_
  rintro e w2 ⟨rfl, hE2⟩
  go_wp2_with fail
  go_ret
  exact ⟨rfl, hE2⟩
end Go.Proofs.YtfaienbdebjfcaaGreat

namespace Go.Proofs.YtfaienbdebjfcaaGreat
open Go Go.RowKit
set_option linter.unusedVariables false
set_option linter.unusedSimpArgs false

def wrL (k : Nat) : List Nat := [16] ++ (tP.kids.take k).flatMap (fun x => atomN x.sort.toNat x.name)
theorem wrL_step {k : Nat} {x : Tm} (h : tP.kids[k]? = some x) : wrL (k + 1) = wrL k ++ atomN x.sort.toNat x.name := by
 unfold wrL
 rw [List.take_add_one, h]
 simp
theorem wrL_len {k : Nat} (h : k ≤ 2) : (wrL k).length ≤ 1000 := by
 rcases (by omega : k = 0 ∨ k = 1 ∨ k = 2) with rfl | rfl | rfl <;> decide +kernel
theorem wrL_two : wrL 2 = [16, 1, 1, 97, 2, 1, 110] := by decide +kernel
def bsP : ByteArray := ⟨#[16, 1, 1, 97, 2, 1, 110]⟩
theorem kid_get2 {k : Nat} (h : k < 2) : ∃ x, tP.kids[k]? = some x ∧ x.kind = 2 ∧ x.kids = [] ∧ x.sort = (x.sort.toNat : Int) ∧ x.sort.toNat < 256 ∧ x.name.size < 256 := by
 rcases (by omega : k = 0 ∨ k = 1) with rfl | rfl
 · exact ⟨tA, rfl, rfl, rfl, rfl, by decide, by decide⟩
 · exact ⟨tN, rfl, rfl, rfl, rfl, by decide, by decide⟩
set_option maxRecDepth 100000 in
set_option maxHeartbeats 8000000 in
theorem writeP_any {w : World} {a : Option Addr} {cap : Nat} (hT : TmW w Any a cap tP) : Calls Tryz.prog 56 #[.slice none 0 0, .agg #[.int .i64 3, .string nPair, .int .i64 0, .slice a 2 cap]] w fun e w' => ∃ g c, e = .returned (.slice (some ⟨g, 0, none⟩) 7 c) ∧ Ext w w' ∧ ∃ base, OwnG elY w' base 5 (fun _ => False) (.slice (some ⟨g, 0, none⟩) 7 c) (wrL 2) := by
 obtain ⟨bx, w1, hbx, hw1, HB, hE1⟩ := box_new w (.cells #[.int .i64 3, .string nPair, .int .i64 0, .slice a 2 cap] 77)
 obtain ⟨b0, b1, b2, b3⟩ := box4r HB.out
 have HE1 := Lib.hid hE1
 have HT := Lib.hid (hT.ext hE1)
 have hcm := hT.cap
 have hcl2 : 2 ≤ cap := hT.len
 unfold maxLen at hcm
 have hmf : ∀ (fn : Fn) (first cap : Array Value) (w : World), (Instr.makeFunc fn first cap).run Tryz.prog w = .ok (.func fn first cap) w := fun _ _ _ _ => rfl
 have HSY := Lib.hid (fun (w' : World) => symbolsE_any (w := w'))
 clear hE1 hT
 go_enter Tryz.func56, Tryz.ntmps56
 go_upto_region 1 with fail
 rw [← hw1, ← hbx]
 clear hw1 hbx
 go_wp2_with fail
 refine (HSY.out _).mono ?_
 rintro e w2 ⟨sb, rfl, hE2, s0, s1, s2⟩
 obtain ⟨b0, b1, b2, b3⟩ := cs_e4 hE2 ⟨b0, b1, b2, b3⟩
 have HE1 := Lib.hid (HE1.out.trans hE2)
 have HT := Lib.hid (HT.out.ext hE2)
 have HIX := Lib.hid (indexE_any (tb := bx) b1 s0 s1 s2)
 clear hE2 s0 s1 s2
 go_wp2_with fail
 refine HIX.out.mono ?_
 rintro e w3 ⟨rfl, hE3⟩
 obtain ⟨b0, b1, b2, b3⟩ := cs_e4 hE3 ⟨b0, b1, b2, b3⟩
 have HE1 := Lib.hid (HE1.out.trans hE3)
 have HT := Lib.hid (HT.out.ext hE3)
 clear hE3
 obtain ⟨xb, w4, hxb, hw4, HX, hE4⟩ := box_new w3 (.cells #[.int .u8 16] 5)
 have HROW : Hid (LsE elY w4 (fun _ => False) (.slice (some ⟨xb, 0, none⟩) 1 1) [16]) := Lib.hid (cells_lsE (P := [(16, [.int .u8 16])]) HX.out rfl rfl rfl (by simp [maxLen]) (by intro p hp; simp at hp; subst hp; exact ⟨rfl, by omega⟩))
 obtain ⟨b0, b1, b2, b3⟩ := cs_e4 hE4 ⟨b0, b1, b2, b3⟩
 have HE1 := Lib.hid (HE1.out.trans hE4)
 have HT := Lib.hid (HT.out.ext hE4)
 have HT4 := HT
 have HE4 := HE1
 clear hE4
 go_wp2_with (
  at_builtin
  rw [← hw4, ← hxb]
  refine wpList_appG (E := elY) (T := 5) rfl 23 (.tmp 27) (.tmp 31) rfl rfl rfl Tryz.underlying23 infU8 rfl (by decide) (by decide) (base := w4.heap.size) OwnG.nil (Nat.le_refl _) (fun c h => absurd h id) (by simp) (M := [16]) (by simp) HROW.out ?_
  intro v5 w5 o5 g5 k5
  have hE5 : Ext w4 w5 := Ext.grown (Ext.refl _) g5 (fun c hc => by cases hc)
  obtain ⟨b0, b1, b2, b3⟩ := cs_e4 hE5 ⟨b0, b1, b2, b3⟩
  have HE1 := Lib.hid (HE1.out.trans hE5)
  have HT := Lib.hid (HT.out.ext hE5)
  have HE5 := Lib.hid hE5
  have HO5 : Hid (OwnG elY w5 w4.heap.size 5 (fun _ => False) v5 (wrL 0)) := Lib.hid o5
  clear o5 g5 k5 hE5)
 refine (HSY.out _).mono ?_
 rintro e w6 ⟨sb2, rfl, hE6, s0, s1, s2⟩
 obtain ⟨b0, b1, b2, b3⟩ := cs_e4 hE6 ⟨b0, b1, b2, b3⟩
 have HE1 := Lib.hid (HE1.out.trans hE6)
 have HT := Lib.hid (HT.out.ext hE6)
 have HE5 := Lib.hid (HE5.out.trans hE6)
 have HO6 := Lib.hid (HO5.out.ext hE6)
 have HCT := Lib.hid (fun (w' : World) => counted_any (w := w') (n := nPair))
 clear hE6
 go_wp2_with fail
 refine (HCT.out _).mono ?_
 rintro e w7 ⟨rfl, hE7⟩
 obtain ⟨b0, b1, b2, b3⟩ := cs_e4 hE7 ⟨b0, b1, b2, b3⟩
 have HE1 := Lib.hid (HE1.out.trans hE7)
 have HT := Lib.hid (HT.out.ext hE7)
 have HE5 := Lib.hid (HE5.out.trans hE7)
 have HO7 := Lib.hid (HO6.out.ext hE7)
 clear hE7 s0 s1 s2
 go_wp2_with fail
 go_loopw [0, 7, 48] (fun ov x7 kv wr => ∃ k : Nat, kv = .int .i64 k ∧ k ≤ 2 ∧ Hid (OwnG elY wr w4.heap.size 5 (fun _ => False) ov (wrL k)) ∧ Hid (Ext w4 wr)) (fun _ _ kv _ => 2 - (intOf kv).toNat)
 case atStart => exact ⟨0, rfl, by omega, HO7, HE5⟩
 case round =>
  obtain ⟨k, rfl, hk, HO, HE⟩ := hrel
  by_cases hlt : k < 2
  · obtain ⟨x, hx, hx2, hx3, hx4, hx5, hx6⟩ := kid_get2 hlt
    obtain ⟨kx, ko, ka, kc, rfl, x0, x1, x2, x3, -⟩ := (HT4.out.ext HE.out).ts.at hx
    rw [hx2] at x0
    rw [hx4] at x2
    have HST := Lib.hid (wrL_step hx)
    obtain ⟨sn, hsn⟩ : ∃ sn, sn = x.sort.toNat := ⟨_, rfl⟩
    rw [← hsn] at x2 HST hx5
    obtain ⟨yb, w8, hyb, hw8, HY, hE8⟩ := box_new wr (.cells #[.int .i64 2, .string x.name, .int .i64 sn, .slice ka x.kids.length kc] 77)
    obtain ⟨y0, y1, y2, y3⟩ := box4r HY.out
    have hki : (k : Int) < 2 := by omega
    have HE8 := Lib.hid (HE.out.trans hE8)
    have HC := Lib.hid (writeA_any (n := x.name) (s := sn) (x := .slice ka x.kids.length kc) (HO.out.ext hE8) HE8.out.size (wrL_len hk) hx6 hx5)
    clear hE8 hx hx2 hx3 hx4 hx5 hx6 hsn
    go_upto_region 10 with fail
    rw [← hw8, ← hyb]
    clear hw8 hyb x0 x1 x2 x3
    go_wp2_with fail
    refine HC.out.mono ?_
    rintro e w9 ⟨⟨v9, rfl, h9⟩, hX9⟩
    have HE9 := Lib.hid (hX9 w4 HE8.out (Nat.le_refl _))
    have HO9 : Hid (OwnG elY w9 w4.heap.size 5 (fun _ => False) v9 (wrL (k + 1))) := Lib.hid (by rw [HST.out]; exact h9)
    clear h9 hX9
    go_wp2_with fail
    go_roundw
    case rel => exact ⟨k + 1, by go_num, by omega, HO9, HE9⟩
    case measure => simp [intOf]; omega
  · have hki : ¬ (k : Int) < 2 := by omega
    have HK2 : Hid (k = 2) := Lib.hid (by omega)
    have h := HO.out
    rw [HK2.out, wrL_two] at h
    obtain ⟨g, c, cs, h1, -⟩ := h.at (i := 0) (x := 16) rfl
    have h1 : _ = Value.slice (some ⟨g, 0, none⟩) 7 c := h1
    clear h
    subst h1
    have HEZ := Lib.hid (HE4.out.trans HE.out)
    have HOZ : Hid (OwnG elY wr w4.heap.size 5 (fun _ => False) (.slice (some ⟨g, 0, none⟩) 7 c) (wrL 2)) := Lib.hid (by have := HO.out; rwa [HK2.out] at this)
    go_wp2_with fail
    go_ret
    exact ⟨g, c, rfl, HEZ.out, _, HOZ.out⟩
theorem bs_str : strOfNums [16, 1, 1, 97, 2, 1, 110] = bsP := by decide +kernel
set_option maxRecDepth 100000 in
set_option maxHeartbeats 4000000 in
theorem EncodeP_any {w : World} {a : Option Addr} {cap : Nat} (hT : TmW w Any a cap tP) : Calls Tryz.prog 33 #[.agg #[.int .i64 3, .string nPair, .int .i64 0, .slice a 2 cap]] w fun e w' => e = .returned (.tuple #[.string bsP, .int .i64 0]) ∧ Ext w w' := by
 obtain ⟨bx, w1, hbx, hw1, HB, hE1⟩ := box_new w (.cells #[.int .i64 3, .string nPair, .int .i64 0, .slice a 2 cap] 77)
 obtain ⟨b0, b1, b2, b3⟩ := box4r HB.out
 have HE1 := Lib.hid hE1
 have HT := Lib.hid (hT.ext hE1)
 have HV := Lib.hid (ValidP_any HT.out)
 clear hE1 hT
 go_enter Tryz.func33, Tryz.ntmps33
 go_upto_region 1 with fail
 rw [← hw1, ← hbx]
 clear hw1 hbx
 go_wp2_with fail
 refine HV.out.mono ?_
 rintro e w2 ⟨rfl, hE2⟩
 obtain ⟨b0, b1, b2, b3⟩ := cs_e4 hE2 ⟨b0, b1, b2, b3⟩
 have HE1 := Lib.hid (HE1.out.trans hE2)
 have HT := Lib.hid (HT.out.ext hE2)
 have HVA := Lib.hid (VarsP_any HT.out)
 clear hE2
 go_wp2_with fail
 refine HVA.out.mono ?_
 rintro e w3 ⟨rfl, hE3⟩
 obtain ⟨b0, b1, b2, b3⟩ := cs_e4 hE3 ⟨b0, b1, b2, b3⟩
 have HE1 := Lib.hid (HE1.out.trans hE3)
 have HT := Lib.hid (HT.out.ext hE3)
 have HPL := Lib.hid (PlainP_any HT.out)
 clear hE3
 go_wp2_with fail
 refine HPL.out.mono ?_
 rintro e w4 ⟨rfl, hE4⟩
 obtain ⟨b0, b1, b2, b3⟩ := cs_e4 hE4 ⟨b0, b1, b2, b3⟩
 have HE1 := Lib.hid (HE1.out.trans hE4)
 have HT := Lib.hid (HT.out.ext hE4)
 have HWR := Lib.hid (writeP_any HT.out)
 clear hE4
 go_wp2_with fail
 refine HWR.out.mono ?_
 rintro e w5 ⟨g, c, rfl, hE5, base, hO⟩
 have HE5 := Lib.hid (HE1.out.trans hE5)
 have hcv : (convert 23 9 (.slice (some ⟨g, 0, none⟩) 7 c)).run Tryz.prog w5 = .ok (.string bsP) w5 := by
  rw [← bs_str]
  refine run_convert_bytes_arg w5 _ _ Tryz.underlying23 Tryz.underlying5 _ 0 7 c [16, 1, 1, 97, 2, 1, 110] rfl (fun i hi => ?_) _ Tryz.underlying9
  rw [wrL_two] at hO
  obtain ⟨x, hx⟩ : ∃ x, ([16, 1, 1, 97, 2, 1, 110] : List Nat)[i]? = some x := ⟨_, List.getElem?_eq_getElem hi⟩
  obtain ⟨g', c', cs, h1, -, -, ⟨rfl, -⟩, hc⟩ := hO.at hx
  cases h1
  have h2 := hc 0 _ rfl
  have h3 : (Value.int .u8 (([16, 1, 1, 97, 2, 1, 110] : List Int).getD i 0)) = .int .u8 x := by
   rcases (by omega : i = 0 ∨ i = 1 ∨ i = 2 ∨ i = 3 ∨ i = 4 ∨ i = 5 ∨ i = 6) with rfl | rfl | rfl | rfl | rfl | rfl | rfl <;> (cases hx; rfl)
  rw [h3]
  simpa [elY] using h2
 clear hE5 hO
 go_wp2_with fail
 go_ret2
 exact ⟨rfl, HE5.out⟩

def chkAB (s : ByteArray) : Nat → Nat × Nat
 | 0 => (1, 0)
 | k + 1 =>
   let p := chkAB s k
   let a := (p.1 + (s.data.getD k 0).toNat) % 65521
   (a, (p.2 + a) % 65521)
theorem chkAB_lt (s : ByteArray) (k : Nat) : (chkAB s k).1 < 65521 ∧ (chkAB s k).2 < 65521 := by
 cases k with
 | zero => exact ⟨by show 1 < 65521; omega, by show 0 < 65521; omega⟩
 | succ k => exact ⟨Nat.mod_lt _ (by omega), Nat.mod_lt _ (by omega)⟩
theorem chkAB_succ {s : ByteArray} {k : Nat} (h : k < s.size) {a b : Nat} (hp : (a, b) = chkAB s k) : chkAB s (k + 1) = ((a + s[k].toNat) % 65521, (b + (a + s[k].toNat) % 65521) % 65521) := by
 have hd : s.data.getD k 0 = s[k] := by
  show s.data.getD k 0 = s.data[k]
  have hk : k < s.data.size := h
  simp only [Array.getD]
  exact dif_pos hk
 show ((_ : Nat), (_ : Nat)) = _
 rw [← hp, hd]
def chkV (s : ByteArray) : Int := bits BinOp.or IntKind.u32 ((chkAB s s.size).2 * 65536) (chkAB s s.size).1
set_option maxRecDepth 100000 in
set_option maxHeartbeats 2000000 in
theorem Check_any {w : World} {s : ByteArray} (hs : s.size ≤ 1000) : Calls Tryz.prog 57 #[.string s] w fun e w' => e = .returned (.int .u32 (chkV s)) ∧ Ext w w' := by
 go_enter Tryz.func57, Tryz.ntmps57
 go_wp2_with fail
 go_loopw [3, 4, 5, 8] (fun av bv x5 kv wr => ∃ k : Nat, kv = .int .i64 k ∧ k ≤ s.size ∧ av = .int .u32 (chkAB s k).1 ∧ bv = .int .u32 (chkAB s k).2 ∧ Hid (Ext w wr)) (fun _ _ _ kv _ => s.size - (intOf kv).toNat)
 case atStart => exact ⟨0, rfl, by omega, rfl, rfl, Lib.hid (Ext.refl _)⟩
 case round =>
  obtain ⟨k, rfl, hk, rfl, rfl, HE⟩ := hrel
  by_cases hlt : k < s.size
  · have hki : (k : Int) < (s.size : Int) := by omega
    have hlt2 := chkAB_lt s k
    obtain ⟨p, hp⟩ : ∃ p, p = chkAB s k := ⟨_, rfl⟩
    rw [← hp] at hlt2 ⊢
    obtain ⟨a, b⟩ := p
    simp only at hlt2 ⊢
    have HSU := Lib.hid (chkAB_succ hlt hp)
    have HLT := Lib.hid hlt2
    have hsb : s[k].toNat < 256 := UInt8.toNat_lt _
    clear hp
    go_wp2_with fail
    go_roundw
    case rel => exact ⟨k + 1, by go_num, by omega, by rw [HSU.out]; simp <;> omega, by rw [HSU.out]; simp <;> omega, HE⟩
    case measure => simp [intOf]; omega
  · have hki : ¬ (k : Int) < (s.size : Int) := by omega
    have hlt2 := chkAB_lt s k
    obtain ⟨p, hp⟩ : ∃ p, p = chkAB s k := ⟨_, rfl⟩
    rw [← hp] at hlt2 ⊢
    obtain ⟨a, b⟩ := p
    simp only at hlt2 ⊢
    go_wp2_with fail
    go_ret
    have hks : k = s.size := by omega
    refine ⟨?_, HE.out⟩
    unfold chkV
    rw [← hks, ← hp]
    rfl
set_option maxRecDepth 100000 in
set_option maxHeartbeats 2000000 in
/-- a sealed string, and what opens it -/
theorem Seal_ex {s : ByteArray} (hs : s.size ≤ 1000) : ∃ t : ByteArray, t.size = 4 + s.size ∧ t.extract 4 t.size = s ∧ ∀ w : World, Calls Tryz.prog 35 #[.string s] w fun e w' => e = .returned (.string t) ∧ Ext w w' := by
 obtain ⟨c, hc⟩ : ∃ c, c = chkV s := ⟨_, rfl⟩
 have HC := Lib.hid (fun (w : World) => Check_any (w := w) hs)
 rw [← hc] at HC
 clear hc
 obtain ⟨q, hq⟩ : ∃ q, q = strOfNums [c / 16777216 % 256, c / 65536 % 256, c / 256 % 256, c % 256] := ⟨_, rfl⟩
 have hq4 : q.size = 4 := by rw [hq]; rfl
 refine ⟨q ++ s, by rw [ByteArray.size_append, hq4], ?_, fun w => ?_⟩
 · rw [ByteArray.size_append]
   have h1 : (q ++ s).extract (q.size + 0) (q.size + s.size) = s.extract 0 s.size := ByteArray.extract_append_size_add
   rw [hq4] at h1
   rw [hq4]
   simpa using h1
 have hcv : ∀ w' : World, (convert 23 9 (.slice (some ⟨w'.heap.size, 0, none⟩) 4 4)).run Tryz.prog (w'.alloc (.cells #[.int .u8 (c / 16777216 % 256), .int .u8 (c / 65536 % 256), .int .u8 (c / 256 % 256), .int .u8 (c % 256)] 5)) = .ok (.string q) (w'.alloc (.cells #[.int .u8 (c / 16777216 % 256), .int .u8 (c / 65536 % 256), .int .u8 (c / 256 % 256), .int .u8 (c % 256)] 5)) := by
  intro w'
  rw [hq]
  exact run_convert_bytes_arg (w'.alloc _) _ _ Tryz.underlying23 Tryz.underlying5 _ 0 4 4 [c / 16777216 % 256, c / 65536 % 256, c / 256 % 256, c % 256] rfl (fun i hi => by
   rw [cellc hs_new]
   rcases (by omega : i = 0 ∨ i = 1 ∨ i = 2 ∨ i = 3) with rfl | rfl | rfl | rfl <;> rfl) _ Tryz.underlying9
 clear hq
 go_enter Tryz.func35, Tryz.ntmps35
 go_wp2_with fail
 refine (HC.out _).mono ?_
 rintro e w2 ⟨rfl, hE2⟩
 go_wp2_with fail
 go_ret
 exact ⟨rfl, hE2.trans (Ext.alloc _ _)⟩
set_option maxRecDepth 100000 in
set_option maxHeartbeats 2000000 in
theorem Open_any {s t : ByteArray} (hs : s.size ≤ 1000) (h1 : t.size = 4 + s.size) (h2 : t.extract 4 t.size = s) (h : ∀ w : World, Calls Tryz.prog 35 #[.string s] w fun e w' => e = .returned (.string t) ∧ Ext w w') {w : World} :
 Calls Tryz.prog 34 #[.string t] w fun e w' => e = .returned (.tuple #[.string s, .int .i64 0]) ∧ Ext w w' := by
 have HC := Lib.hid h
 have h4 : ¬ (t.size : Int) < 4 := by omega
 have h4b : (4 : Int) ≤ (t.size : Int) := by omega
 have h4c : 4 ≤ t.size := by omega
 clear h h1
 go_enter Tryz.func34, Tryz.ntmps34
 go_wp2_with fail
 refine (HC.out _).mono ?_
 rintro e w2 ⟨rfl, hE2⟩
 go_wp2_with fail
 go_ret2
 exact ⟨rfl, hE2⟩
end Go.Proofs.YtfaienbdebjfcaaGreat
