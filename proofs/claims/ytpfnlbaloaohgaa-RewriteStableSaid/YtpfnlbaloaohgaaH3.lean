/- Contracts: the small functions of matching. Maps from names of variables to terms. Plain law: matching. Contracts: the program's match. Contracts: the program's Match. Terms off the blocks that may be turned. -/
import Derived.Test.YtpfnlbaloaohgaaH2
import Derived.Test.YtpfnlbaloaohgaaG6
import Derived.Test.YtpfnlbaloaohgaaG1
import Derived.Maps.OwnSet
import Derived.Test.YtpfnlbaloaohgaaH1
namespace Go.Proofs.Ytpfnlbaloaohgaa
open Go Go.RowKit
set_option linter.unusedVariables false
set_option linter.unusedSimpArgs false

def alikeT (a b : Tm) : Bool := decide (a.kind = 3) && (decide (b.kind = 3) && (decide (a.name = b.name) && decide (a.kids.length = b.kids.length)))
/-- whether a variable may stand for a term -/
def fitsT (x t : Tm) : Bool := decide (x.sort = 0) || (decide (t.kind ≠ 3) && decide (t.sort = x.sort))

theorem name_eq {a b : ByteArray} : a = b ↔ a.toList = b.toList := ⟨fun h => by rw [h], bytes_eq⟩
theorem alikeT_eq (a b : Tm) : alikeT a b = ((a.kind == 3) && ((b.kind == 3) && ((a.name.toList == b.name.toList) && ((a.kids.length : Int) == (b.kids.length : Int))))) := by
 rw [Bool.eq_iff_iff]
 simp only [alikeT, name_eq, Bool.and_eq_true, decide_eq_true_eq, beq_iff_eq]
 constructor
 · rintro ⟨h1, h2, h3, h4⟩; exact ⟨h1, h2, h3, by omega⟩
 · rintro ⟨h1, h2, h3, h4⟩; exact ⟨h1, h2, h3, by omega⟩

theorem isVar_any {w : World} {S : Nat → Prop} {a : Option Addr} {cap : Nat} {t : Tm} (hT : TmW w S a cap t) :
 Calls Try.prog 87 #[.agg #[.int .i64 t.kind, .string t.name, .int .i64 t.sort, .slice a t.kids.length cap]] w fun e w' => e = .returned (.bool (decide (t.kind = 1))) ∧ Ext w w' := by
 obtain ⟨bx, w1, hbbx, hwbx, HBbx, hEbx⟩ := box_new w (.cells #[.int .i64 t.kind, .string t.name, .int .i64 t.sort, .slice a t.kids.length cap] 31)
 obtain ⟨b0, b1, b2, b3⟩ := box4r (HBbx.out)
 have HE1 := Lib.hid hEbx
 clear hT hEbx
 go_enter Try.func87, Try.ntmps87
 go_upto_region 1 with fail
 rw [← hwbx, ← hbbx]
 clear hwbx hbbx
 go_wp2_with fail
 go_ret
 exact ⟨rb (by rw [Bool.eq_iff_iff]; simp), HE1.out⟩

theorem key_any {w : World} {S : Nat → Prop} {a : Option Addr} {cap : Nat} {t : Tm} (hT : TmW w S a cap t) :
 Calls Try.prog 73 #[.agg #[.int .i64 t.kind, .string t.name, .int .i64 t.sort, .slice a t.kids.length cap]] w fun e w' => e = .returned (.agg #[.string t.name, .int .i64 t.sort]) ∧ Ext w w' := by
 obtain ⟨bx, w1, hbbx, hwbx, HBbx, hEbx⟩ := box_new w (.cells #[.int .i64 t.kind, .string t.name, .int .i64 t.sort, .slice a t.kids.length cap] 31)
 obtain ⟨b0, b1, b2, b3⟩ := box4r (HBbx.out)
 have HE1 := Lib.hid hEbx
 clear hT hEbx
 go_enter Try.func73, Try.ntmps73
 go_wp2_with fail
 refine bodyPost_ret (results_cell_row rfl _ _ (w.heap.size + 1) _ #[.string t.name, .int .i64 t.sort] _ _ rfl (by have h := hs_new (w := w1) (o := .cells #[.string t.name, .int .i64 t.sort] 104); rw [hwbx, World.size_alloc] at h; exact h) Try.underlying104 rfl (by kernel_rfl)) rfl ⟨rfl, ?_⟩
 exact (Ext.alloc _ _).then_al _

theorem PSame_any {w : World} {S S' : Nat → Prop} {a a' : Option Addr} {cap cap' : Nat} {s t : Tm} (hs6 : sizeT s ≤ 1000000) (ht6 : sizeT t ≤ 1000000) (hT : TmW w S a cap s) (hT' : TmW w S' a' cap' t) :
 Calls Try.prog 74 #[.agg #[.int .i64 s.kind, .string s.name, .int .i64 s.sort, .slice a s.kids.length cap], .agg #[.int .i64 t.kind, .string t.name, .int .i64 t.sort, .slice a' t.kids.length cap']] w fun e w' => e = .returned (.bool (decide (s = t))) ∧ Ext w w' := by
 have hl := hT.len
 have hc := hT.cap
 have hl' := hT'.len
 have hc' := hT'.cap
 have hcon := fun (w' : World) (hE : Ext w w') => PCmp_any (w := w') hs6 ht6 (hT.ext hE) (hT'.ext hE)
 have hr : decide (s = t) = (cmpT s t == 0) := by rw [Bool.eq_iff_iff]; simp [cmpT_zero]
 rw [hr]
 obtain ⟨o, ho⟩ : ∃ o, o = cmpT s t := ⟨_, rfl⟩
 rw [← ho] at hcon ⊢
 have HC := Lib.hid hcon
 clear hcon hT hT' ho hr
 go_enter Try.func74, Try.ntmps74
 go_wp2_with (refine (HC.out _ (Ext.trans (Ext.alloc _ _) (Ext.alloc _ _))).mono ?_; rintro e w1 ⟨rfl, hE⟩)
 go_ret
 exact ⟨rfl, Ext.trans (Ext.trans (Ext.alloc _ _) (Ext.alloc _ _)) hE⟩

set_option maxHeartbeats 2000000 in
theorem alike_any {w : World} {S S' : Nat → Prop} {a a' : Option Addr} {cap cap' : Nat} {s t : Tm} (hT : TmW w S a cap s) (hT' : TmW w S' a' cap' t) :
 Calls Try.prog 89 #[.agg #[.int .i64 s.kind, .string s.name, .int .i64 s.sort, .slice a s.kids.length cap], .agg #[.int .i64 t.kind, .string t.name, .int .i64 t.sort, .slice a' t.kids.length cap']] w fun e w' => e = .returned (.bool (alikeT s t)) ∧ Ext w w' := by
 have hl := hT.len
 have hc := hT.cap
 have hl' := hT'.len
 have hc' := hT'.cap
 unfold maxLen at hc hc'
 clear hT hT'
 obtain ⟨R, hR⟩ : ∃ R, R = alikeT s t := ⟨_, rfl⟩
 rw [← hR]
 have HR := Lib.hid hR
 clear hR
 go_enter Try.func89, Try.ntmps89
 go_wp2_with fail
 all_goals go_ret
 all_goals
  refine ⟨rb ?_, (Ext.alloc _ _).then_al _⟩
  rw [HR.out, alikeT_eq]
  simp [*]

theorem uvalid_any {w : World} {S S' : Nat → Prop} {a a' : Option Addr} {cap cap' : Nat} {s t : Tm} (hs6 : sizeT s ≤ 1000000) (ht6 : sizeT t ≤ 1000000) (hT : TmW w S a cap s) (hT' : TmW w S' a' cap' t) :
 Calls Try.prog 71 #[.agg #[.int .i64 s.kind, .string s.name, .int .i64 s.sort, .slice a s.kids.length cap], .agg #[.int .i64 t.kind, .string t.name, .int .i64 t.sort, .slice a' t.kids.length cap']] w fun e w' => e = .returned (.int .i64 (orE (validT s) (validT t))) ∧ Ext w w' := by
 have hl := hT.len
 have hc := hT.cap
 have hl' := hT'.len
 have hc' := hT'.cap
 have hcon := fun (w' : World) (hE : Ext w w') => PValid_any (w := w') hs6 (hT.ext hE)
 have hcon' := fun (w' : World) (hE : Ext w w') => PValid_any (w := w') ht6 (hT'.ext hE)
 obtain ⟨o, ho⟩ : ∃ o, o = validT s := ⟨_, rfl⟩
 obtain ⟨o', ho'⟩ : ∃ o, o = validT t := ⟨_, rfl⟩
 rw [← ho] at hcon ⊢
 rw [← ho'] at hcon' ⊢
 have HC := Lib.hid hcon
 have HC' := Lib.hid hcon'
 obtain ⟨bx, w1, hbbx, hwbx, HBbx, hEbx⟩ := box_new w (.cells #[.int .i64 s.kind, .string s.name, .int .i64 s.sort, .slice a s.kids.length cap] 31)
 obtain ⟨by1, w2, hbby1, hwby1, HBby1, hEby1⟩ := box_new w1 (.cells #[.int .i64 t.kind, .string t.name, .int .i64 t.sort, .slice a' t.kids.length cap'] 31)
 have hE := hEbx.trans hEby1
 obtain ⟨b0, b1, b2, b3⟩ := box4r (hs_ext hEby1 HBbx.out)
 obtain ⟨c0, c1, c2, c3⟩ := box4r (HBby1.out)
 have hs1 : w1.heap.size = bx + 1 := by rw [hwbx, hbbx, World.size_alloc]
 have HE := Lib.hid hE
 rw [hs1] at hbby1
 clear hcon hcon' hT hT' ho ho' hE hEbx hEby1 hs1
 go_enter Try.func71, Try.ntmps71
 go_upto_region 1 with fail
 rw [← hwbx, ← hbbx, ← hwby1, ← hbby1]
 clear hwbx hbbx hwby1 hbby1
 by_cases h0 : o = 0
 · subst h0
   go_wp2_with fail
   refine (HC.out _ HE.out).mono ?_
   rintro e w3 ⟨rfl, hE3⟩
   obtain ⟨c0, c1, c2, c3⟩ := cs_e4 hE3 ⟨c0, c1, c2, c3⟩
   have HE3 := Lib.hid (HE.out.trans hE3)
   clear hE3
   go_wp2_with fail
   refine (HC'.out _ HE3.out).mono ?_
   rintro e w4 ⟨rfl, hE4⟩
   have HE4 := Lib.hid (HE3.out.trans hE4)
   clear hE4
   go_wp2_with fail
   go_ret
   exact ⟨ri (by simp [orE]), HE4.out⟩
 · have HR : Hid (orE o o' = o) := Lib.hid (by simp [orE, h0])
   have e0 : (o != 0) = true := by simp [h0]
   clear h0
   go_wp2_with fail
   refine (HC.out _ HE.out).mono ?_
   rintro e w3 ⟨rfl, hE3⟩
   have HE3 := Lib.hid (HE.out.trans hE3)
   clear hE3
   go_wp2_with fail
   go_ret
   exact ⟨ri HR.out.symm, HE3.out⟩

set_option maxHeartbeats 2000000 in
theorem sFits_any {w : World} {S S' : Nat → Prop} {a a' : Option Addr} {cap cap' : Nat} {s t : Tm} (hs6 : sizeT s ≤ 1000000) (ht6 : sizeT t ≤ 1000000) (hs0 : validT s = 0) (ht0 : validT t = 0) (hk : s.kind = 1) (hT : TmW w S a cap s) (hT' : TmW w S' a' cap' t) :
 Calls Try.prog 88 #[.agg #[.int .i64 s.kind, .string s.name, .int .i64 s.sort, .slice a s.kids.length cap], .agg #[.int .i64 t.kind, .string t.name, .int .i64 t.sort, .slice a' t.kids.length cap']] w fun e w' => e = .returned (.bool (fitsT s t)) ∧ Ext w w' := by
 have hcon := fun (w' : World) (hE : Ext w w') => PValid_any (w := w') hs6 (hT.ext hE)
 have hcon' := fun (w' : World) (hE : Ext w w') => PValid_any (w := w') ht6 (hT'.ext hE)
 rw [hs0] at hcon
 rw [ht0] at hcon'
 have HC := Lib.hid hcon
 have HC' := Lib.hid hcon'
 obtain ⟨bx, w1, hbbx, hwbx, HBbx, hEbx⟩ := box_new w (.cells #[.int .i64 s.kind, .string s.name, .int .i64 s.sort, .slice a s.kids.length cap] 31)
 obtain ⟨by1, w2, hbby1, hwby1, HBby1, hEby1⟩ := box_new w1 (.cells #[.int .i64 t.kind, .string t.name, .int .i64 t.sort, .slice a' t.kids.length cap'] 31)
 have hE := hEbx.trans hEby1
 obtain ⟨b0, b1, b2, b3⟩ := box4r (hs_ext hEby1 HBbx.out)
 obtain ⟨c0, c1, c2, c3⟩ := box4r (HBby1.out)
 have hs1 : w1.heap.size = bx + 1 := by rw [hwbx, hbbx, World.size_alloc]
 have HE := Lib.hid hE
 rw [hs1] at hbby1
 obtain ⟨R, hR⟩ : ∃ R, R = fitsT s t := ⟨_, rfl⟩
 rw [← hR]
 have HR := Lib.hid hR
 have e1 : (s.kind != 1) = false := by simp [hk]
 clear hcon hcon' hT hT' hE hEbx hEby1 hs1 hR hk
 go_enter Try.func88, Try.ntmps88
 go_upto_region 1 with fail
 rw [← hwbx, ← hbbx, ← hwby1, ← hbby1]
 clear hwbx hbbx hwby1 hbby1
 go_wp2_with fail
 refine (HC.out _ HE.out).mono ?_
 rintro e w3 ⟨rfl, hE3⟩
 obtain ⟨b0, b1, b2, b3, c0, c1, c2, c3⟩ := cs_e8 hE3 ⟨b0, b1, b2, b3, c0, c1, c2, c3⟩
 have HE3 := Lib.hid (HE.out.trans hE3)
 clear hE3
 go_wp2_with fail
 refine (HC'.out _ HE3.out).mono ?_
 rintro e w4 ⟨rfl, hE4⟩
 obtain ⟨b0, b1, b2, b3, c0, c1, c2, c3⟩ := cs_e8 hE4 ⟨b0, b1, b2, b3, c0, c1, c2, c3⟩
 have HE4 := Lib.hid (HE3.out.trans hE4)
 clear hE4
 go_wp2_with fail
 all_goals go_ret
 all_goals
  refine ⟨rb ?_, HE4.out⟩
  rw [HR.out]
  first
   | (rw [Bool.eq_iff_iff]; simp [fitsT]; done)
   | (simp [fitsT, *]; done)
   | (rw [Bool.eq_iff_iff]; simp [fitsT] at *; omega)

end Go.Proofs.Ytpfnlbaloaohgaa

namespace Go.Proofs.Ytpfnlbaloaohgaa
open Go Go.RowKit
open Go.Maps (Keyed)
set_option linter.unusedVariables false
set_option linter.unusedSimpArgs false

/-- names of variables, as keys -/
abbrev NKey := { k : ByteArray × Int // k.1.size ≤ maxLen ∧ I64 k.2 }
def encK (k : NKey) : Value := .agg #[.string k.1.1, .int .i64 k.1.2]
theorem encK_inj (x y : NKey) (h : encK x = encK y) : x = y := by
 obtain ⟨⟨x1, x2⟩, hx⟩ := x
 obtain ⟨⟨y1, y2⟩, hy⟩ := y
 simp [encK] at h
 obtain ⟨rfl, rfl⟩ := h
 rfl
theorem laidOutP : laidOutB Try.prog = true := by kernel_rfl
theorem cellsStr : Try.prog.cellsOf 9 = 1 := by kernel_rfl
theorem cellsInt : Try.prog.cellsOf 3 = 1 := by kernel_rfl
theorem zeroTV (w : World) : (zeroValue 31).run Try.prog w = .ok (.agg #[.int .i64 0, .string ⟨#[]⟩, .int .i64 0, .slice none 0 0]) w := by kernel_rfl
theorem infPos : ∃ m, Try.prog.types.size = m + 1 := ⟨Try.prog.types.size - 1, by have h : (3 : Nat) < Try.prog.types.size := of_decide_eq_true (by kernel_rfl); omega⟩

theorem rowId : (104 : TypeId) < Try.prog.types.size := of_decide_eq_true (by kernel_rfl)
theorem deepId : Try.prog.keyTypeAt 2 104 = true := by kernel_rfl
theorem klawId : WideMaps.KeyLaw Try.prog 104 := by
 refine deep_law_laid (P := Try.prog) (k := 104) laidOutP (m := 2) (by omega) rowId deepId ?_
 rw [Try.underlying104]
theorem lawId : Keyed Try.prog 104 := Keyed.of_law klawId
theorem keyTypeId : Try.prog.keyType 104 = true := by kernel_rfl
theorem cellsId : Try.prog.cellsOf 104 = 2 := by kernel_rfl
theorem keyId (p : NKey) : ∃ l, keyOf Try.prog 104 (encK p) = some l := by
 obtain ⟨⟨x, y⟩, hx, ⟨hy1, hy2⟩⟩ := p
 simp only at hx hy1 hy2
 have wy : (Lit.int .i64 y).wf = true := WalkArith.wf_i64 ⟨hy1, hy2⟩
 obtain ⟨m, hm⟩ := infPos
 have hu := Try.underlying104
 have hf : (Value.agg #[.string x, .int .i64 y]).formed Try.prog 104 = true := by simp [Value.formed, hu, cellsId]
 refine ⟨.string (keyBytes [.string x.data.toList, .int .i64 y]), ?_⟩
 unfold keyOf encK
 simp only [hu]
 rw [if_pos (by rw [keyTypeId, hf]; rfl), hm]
 unfold Program.keyLits
 simp [hu, Value.cells, cellsId, cellsInt, cellsStr, Program.keyLits, Try.underlying3, Try.underlying9, wy, hx]

theorem rowNm : (108 : TypeId) < Try.prog.types.size := of_decide_eq_true (by kernel_rfl)
theorem deepNm : Try.prog.keyTypeAt 2 108 = true := by kernel_rfl
theorem klawNm : WideMaps.KeyLaw Try.prog 108 := by
 refine deep_law_laid (P := Try.prog) (k := 108) laidOutP (m := 2) (by omega) rowNm deepNm ?_
 rw [Try.underlying108]
theorem lawNm : Keyed Try.prog 108 := Keyed.of_law klawNm
theorem keyTypeNm : Try.prog.keyType 108 = true := by kernel_rfl
theorem cellsNm : Try.prog.cellsOf 108 = 2 := by kernel_rfl
theorem keyNm (p : NKey) : ∃ l, keyOf Try.prog 108 (encK p) = some l := by
 obtain ⟨⟨x, y⟩, hx, ⟨hy1, hy2⟩⟩ := p
 simp only at hx hy1 hy2
 have wy : (Lit.int .i64 y).wf = true := WalkArith.wf_i64 ⟨hy1, hy2⟩
 obtain ⟨m, hm⟩ := infPos
 have hu := Try.underlying108
 have hf : (Value.agg #[.string x, .int .i64 y]).formed Try.prog 108 = true := by simp [Value.formed, hu, cellsNm]
 refine ⟨.string (keyBytes [.string x.data.toList, .int .i64 y]), ?_⟩
 unfold keyOf encK
 simp only [hu]
 rw [if_pos (by rw [keyTypeNm, hf]; rfl), hm]
 unfold Program.keyLits
 simp [hu, Value.cells, cellsNm, cellsInt, cellsStr, Program.keyLits, Try.underlying3, Try.underlying9, wy, hx]

/-- the map in block mb holds the terms of F; they lie in blocks of S -/
def MapT (w : World) (S : Nat → Prop) (mb n : Nat) (F : ByteArray × Int → Option Tm) : Prop :=
 ∃ G : NKey → Option Value, MapK encK w mb n G ∧ ∀ k : NKey, (F k.1 = none ∧ G k = none) ∨ ∃ t v, F k.1 = some t ∧ G k = some v ∧ IsS w S v t
section
variable {w w' : World} {S S' : Nat → Prop} {mb n : Nat} {F : ByteArray × Int → Option Tm}
theorem MapT.keep (h : MapT w S mb n F) (h0 : w'.heap[mb]? = w.heap[mb]?) (h1 : ∀ c, S c → c < w.heap.size → w'.heap[c]? = w.heap[c]?) (h2 : ∀ c, S c → c < w.heap.size → S' c) : MapT w' S' mb n F := by
 obtain ⟨G, hG, hF⟩ := h
 refine ⟨G, hG.same h0, fun k => ?_⟩
 rcases hF k with h | ⟨t, v, e1, e2, a, cap, e3, hT⟩
 · exact .inl h
 · exact .inr ⟨t, v, e1, e2, a, cap, e3, hT.keep h1 h2⟩
theorem MapT.lt (h : MapT w S mb n F) : mb < w.heap.size := let ⟨_, hG, _⟩ := h; hG.lt
theorem MapT.ext (h : MapT w S mb n F) (hE : Ext w w') : MapT w' S mb n F := h.keep (hE.block h.lt) (fun c _ hc => hE.block hc) (fun _ h _ => h)
theorem MapT.made (hb : w.heap[mb]? = some (.map #[] 0)) : MapT w S mb 0 (fun _ => none) := ⟨fun _ => none, MapK.made_at hb, fun k => .inl ⟨rfl, rfl⟩⟩
/-- F with one more name -/
def updT (F : ByteArray × Int → Option Tm) (x : ByteArray × Int) (t : Tm) : ByteArray × Int → Option Tm := fun y => if y = x then some t else F y
end

theorem wpList_lookId {ops : Array Oper} {rest : List Oper} {o : Oper} {a : Act} {w : World} {Q : Exit → Act → World → Prop} {S : Nat → Prop} {mb n : Nat} {F : ByteArray × Int → Option Tm} (hg : o.guard = none) (m x : Operand) (c : Bool) (hop : o.op = Op.lookup 101 m x c) (h : MapT w S mb n F)
 (hm : a.eval m = .map (some mb)) (nm : ByteArray) (s : Int) (hn : nm.size ≤ maxLen) (hs : I64 s) (hx : a.eval x = .agg #[.string nm, .int .i64 s])
 (h0 : F (nm, s) = none → wpList Try.prog ops Q rest (a.put o.dst (if c then .tuple #[.agg #[.int .i64 0, .string ⟨#[]⟩, .int .i64 0, .slice none 0 0], .bool false] else .agg #[.int .i64 0, .string ⟨#[]⟩, .int .i64 0, .slice none 0 0])) w)
 (h1 : ∀ t ta tc, F (nm, s) = some t → TmW w S ta tc t → wpList Try.prog ops Q rest (a.put o.dst (if c then .tuple #[.agg #[.int .i64 t.kind, .string t.name, .int .i64 t.sort, .slice ta t.kids.length tc], .bool true] else .agg #[.int .i64 t.kind, .string t.name, .int .i64 t.sort, .slice ta t.kids.length tc])) w) :
 wpList Try.prog ops Q (o :: rest) a w := by
 obtain ⟨G, hG, hF⟩ := h
 refine wpList_mapK_look hg m x _ c hop hG lawId keyId Try.underlying101 (zeroTV w) hm ⟨(nm, s), hn, hs⟩ hx ?_
 rcases hF ⟨(nm, s), hn, hs⟩ with ⟨e1, e2⟩ | ⟨t, v, e1, e2, ta, tc, rfl, hT⟩
 · rw [e2]
   exact h0 e1
 · rw [e2]
   exact h1 t ta tc e1 hT
theorem wpList_updId {ops : Array Oper} {rest : List Oper} {o : Oper} {a : Act} {w : World} {Q : Exit → Act → World → Prop} {S : Nat → Prop} {mb n : Nat} {F : ByteArray × Int → Option Tm} (hg : o.guard = none) (m x v : Operand) (hop : o.op = Op.mapUpdate 101 m x v) (h : MapT w S mb n F)
 (hm : a.eval m = .map (some mb)) (nm : ByteArray) (s : Int) (hn : nm.size ≤ maxLen) (hs : I64 s) (hx : a.eval x = .agg #[.string nm, .int .i64 s]) {t : Tm} {ta : Option Addr} {tc : Nat} (hv : a.eval v = .agg #[.int .i64 t.kind, .string t.name, .int .i64 t.sort, .slice ta t.kids.length tc]) (hT : TmW w S ta tc t) (hS : ∀ c, S c → c ≠ mb)
 (hK : ∀ ob, MapT (ChangeMaps.setBlock w mb ob) S mb (n + 1) (updT F (nm, s) t) → wpList Try.prog ops Q rest (a.put o.dst undef) (ChangeMaps.setBlock w mb ob)) :
 wpList Try.prog ops Q (o :: rest) a w := by
 refine wpList_plain hg fun K' hK' => ?_
 have hG' := h
 obtain ⟨G, hG, hF⟩ := h
 obtain ⟨ob, hrun, r1⟩ := hG.update lawId keyId encK_inj Try.underlying101 ⟨(nm, s), hn, hs⟩ (.agg #[.int .i64 t.kind, .string t.name, .int .i64 t.sort, .slice ta t.kids.length tc])
 have hx' : a.eval x = encK ⟨(nm, s), hn, hs⟩ := hx
 unfold Oper.wp
 simp [execOp, hop, hm, hx', hv, hrun, Result.andThen]
 refine hK' _ _ (hK ob ?_)
 refine ⟨fun z => if z = ⟨(nm, s), hn, hs⟩ then some (.agg #[.int .i64 t.kind, .string t.name, .int .i64 t.sort, .slice ta t.kids.length tc]) else G z, r1 _ (by simp) (fun z hz => by simp [hz]), fun k => ?_⟩
 have hk : ∀ t v, IsS w S v t → IsS (ChangeMaps.setBlock w mb ob) S v t := fun t v ⟨a, cap, e, hT⟩ => ⟨a, cap, e, hT.keep (fun c hc _ => turned_block (hS c hc)) (fun _ h _ => h)⟩
 by_cases hkx : k = ⟨(nm, s), hn, hs⟩
 · subst hkx
   right
   exact ⟨t, _, by simp [updT], by simp, hk t _ ⟨ta, tc, rfl, hT⟩⟩
 · have hne : k.1 ≠ (nm, s) := fun e => hkx (Subtype.ext e)
   rcases hF k with ⟨h1, h2⟩ | ⟨t, v, e1, e2, hT⟩
   · exact .inl ⟨by simp [updT, hne, h1], by simp [hkx, h2]⟩
   · exact .inr ⟨t, v, by simp [updT, hne, e1], by simp [hkx, e2], hk t v hT⟩

theorem wpList_lookNm {ops : Array Oper} {rest : List Oper} {o : Oper} {a : Act} {w : World} {Q : Exit → Act → World → Prop} {S : Nat → Prop} {mb n : Nat} {F : ByteArray × Int → Option Tm} (hg : o.guard = none) (m x : Operand) (c : Bool) (hop : o.op = Op.lookup 106 m x c) (h : MapT w S mb n F)
 (hm : a.eval m = .map (some mb)) (nm : ByteArray) (s : Int) (hn : nm.size ≤ maxLen) (hs : I64 s) (hx : a.eval x = .agg #[.string nm, .int .i64 s])
 (h0 : F (nm, s) = none → wpList Try.prog ops Q rest (a.put o.dst (if c then .tuple #[.agg #[.int .i64 0, .string ⟨#[]⟩, .int .i64 0, .slice none 0 0], .bool false] else .agg #[.int .i64 0, .string ⟨#[]⟩, .int .i64 0, .slice none 0 0])) w)
 (h1 : ∀ t ta tc, F (nm, s) = some t → TmW w S ta tc t → wpList Try.prog ops Q rest (a.put o.dst (if c then .tuple #[.agg #[.int .i64 t.kind, .string t.name, .int .i64 t.sort, .slice ta t.kids.length tc], .bool true] else .agg #[.int .i64 t.kind, .string t.name, .int .i64 t.sort, .slice ta t.kids.length tc])) w) :
 wpList Try.prog ops Q (o :: rest) a w := by
 obtain ⟨G, hG, hF⟩ := h
 refine wpList_mapK_look hg m x _ c hop hG lawNm keyNm Try.underlying106 (zeroTV w) hm ⟨(nm, s), hn, hs⟩ hx ?_
 rcases hF ⟨(nm, s), hn, hs⟩ with ⟨e1, e2⟩ | ⟨t, v, e1, e2, ta, tc, rfl, hT⟩
 · rw [e2]
   exact h0 e1
 · rw [e2]
   exact h1 t ta tc e1 hT
theorem wpList_updNm {ops : Array Oper} {rest : List Oper} {o : Oper} {a : Act} {w : World} {Q : Exit → Act → World → Prop} {S : Nat → Prop} {mb n : Nat} {F : ByteArray × Int → Option Tm} (hg : o.guard = none) (m x v : Operand) (hop : o.op = Op.mapUpdate 106 m x v) (h : MapT w S mb n F)
 (hm : a.eval m = .map (some mb)) (nm : ByteArray) (s : Int) (hn : nm.size ≤ maxLen) (hs : I64 s) (hx : a.eval x = .agg #[.string nm, .int .i64 s]) {t : Tm} {ta : Option Addr} {tc : Nat} (hv : a.eval v = .agg #[.int .i64 t.kind, .string t.name, .int .i64 t.sort, .slice ta t.kids.length tc]) (hT : TmW w S ta tc t) (hS : ∀ c, S c → c ≠ mb)
 (hK : ∀ ob, MapT (ChangeMaps.setBlock w mb ob) S mb (n + 1) (updT F (nm, s) t) → wpList Try.prog ops Q rest (a.put o.dst undef) (ChangeMaps.setBlock w mb ob)) :
 wpList Try.prog ops Q (o :: rest) a w := by
 refine wpList_plain hg fun K' hK' => ?_
 have hG' := h
 obtain ⟨G, hG, hF⟩ := h
 obtain ⟨ob, hrun, r1⟩ := hG.update lawNm keyNm encK_inj Try.underlying106 ⟨(nm, s), hn, hs⟩ (.agg #[.int .i64 t.kind, .string t.name, .int .i64 t.sort, .slice ta t.kids.length tc])
 have hx' : a.eval x = encK ⟨(nm, s), hn, hs⟩ := hx
 unfold Oper.wp
 simp [execOp, hop, hm, hx', hv, hrun, Result.andThen]
 refine hK' _ _ (hK ob ?_)
 refine ⟨fun z => if z = ⟨(nm, s), hn, hs⟩ then some (.agg #[.int .i64 t.kind, .string t.name, .int .i64 t.sort, .slice ta t.kids.length tc]) else G z, r1 _ (by simp) (fun z hz => by simp [hz]), fun k => ?_⟩
 have hk : ∀ t v, IsS w S v t → IsS (ChangeMaps.setBlock w mb ob) S v t := fun t v ⟨a, cap, e, hT⟩ => ⟨a, cap, e, hT.keep (fun c hc _ => turned_block (hS c hc)) (fun _ h _ => h)⟩
 by_cases hkx : k = ⟨(nm, s), hn, hs⟩
 · subst hkx
   right
   exact ⟨t, _, by simp [updT], by simp, hk t _ ⟨ta, tc, rfl, hT⟩⟩
 · have hne : k.1 ≠ (nm, s) := fun e => hkx (Subtype.ext e)
   rcases hF k with ⟨h1, h2⟩ | ⟨t, v, e1, e2, hT⟩
   · exact .inl ⟨by simp [updT, hne, h1], by simp [hkx, h2]⟩
   · exact .inr ⟨t, v, by simp [updT, hne, e1], by simp [hkx, e2], hk t v hT⟩

end Go.Proofs.Ytpfnlbaloaohgaa

namespace Go.Proofs.Ytpfnlbaloaohgaa
open Go
set_option linter.unusedVariables false
set_option linter.unusedSimpArgs false

abbrev Bnd := ByteArray × Int → Option Tm
mutual
/-- matching, with what is known so far -/
def pmT : Tm → Tm → Bnd → Option Bnd
 | .mk k n s l, t, F =>
   if k = 1 then (match F (n, s) with | some u => if u = t then some F else none | none => if fitsT (.mk k n s l) t then some (updT F (n, s) t) else none)
   else if alikeT (.mk k n s l) t then pmL l t.kids F else if .mk k n s l = t then some F else none
def pmL : List Tm → List Tm → Bnd → Option Bnd
 | [], _, F => some F
 | a :: l, b :: m, F => (match pmT a b F with | some G => pmL l m G | none => none)
 | _ :: _, [], _ => none
end
theorem pmT_eq (p t : Tm) (F : Bnd) : pmT p t F = if p.kind = 1 then (match F (p.name, p.sort) with | some u => if u = t then some F else none | none => if fitsT p t then some (updT F (p.name, p.sort) t) else none) else if alikeT p t then pmL p.kids t.kids F else if p = t then some F else none := by
 cases p; rw [pmT]; rfl
theorem pmL_snoc : ∀ (l m : List Tm) (a b : Tm) (F : Bnd), l.length = m.length → pmL (l ++ [a]) (m ++ [b]) F = (match pmL l m F with | some G => pmT a b G | none => none)
 | [], [], a, b, F, _ => by simp only [List.nil_append, pmL]; cases pmT a b F <;> rfl
 | [], _ :: _, a, b, F, h => by simp at h
 | _ :: _, [], a, b, F, h => by simp at h
 | x :: l, y :: m, a, b, F, h => by
   simp only [List.cons_append, pmL]
   cases hx : pmT x y F with
   | none => rfl
   | some G => exact pmL_snoc l m a b G (by simpa using h)
theorem pmL_none : ∀ (l m l' m' : List Tm) (F : Bnd), l.length = m.length → pmL l m F = none → pmL (l ++ l') (m ++ m') F = none
 | [], [], l', m', F, _, h => by simp [pmL] at h
 | [], _ :: _, _, _, F, h, _ => by simp at h
 | _ :: _, [], _, _, F, h, _ => by simp at h
 | x :: l, y :: m, l', m', F, h, hn => by
   simp only [List.cons_append, pmL] at hn ⊢
   cases hx : pmT x y F with
   | none => rfl
   | some G =>
     rw [hx] at hn
     exact pmL_none l m l' m' G (by simpa using h) hn
theorem pmL_take {l m : List Tm} {i : Nat} {a b : Tm} (F : Bnd) (ha : l[i]? = some a) (hb : m[i]? = some b) : pmL (l.take (i + 1)) (m.take (i + 1)) F = (match pmL (l.take i) (m.take i) F with | some G => pmT a b G | none => none) := by
 have h1 := (List.getElem?_eq_some_iff.1 ha).1
 have h2 := (List.getElem?_eq_some_iff.1 hb).1
 rw [List.take_add_one, List.take_add_one, ha, hb]
 exact pmL_snoc _ _ a b F (by rw [List.length_take, List.length_take]; omega)
theorem pmL_stop {l m : List Tm} {i : Nat} {a b : Tm} {F G : Bnd} (ha : l[i]? = some a) (hb : m[i]? = some b) (h : pmL (l.take i) (m.take i) F = some G) (hn : pmT a b G = none) : pmL l m F = none := by
 have h1 := (List.getElem?_eq_some_iff.1 ha).1
 have h2 := (List.getElem?_eq_some_iff.1 hb).1
 have h3 := pmL_take F ha hb
 rw [h] at h3
 simp only [hn] at h3
 have h4 := pmL_none _ _ (l.drop (i + 1)) (m.drop (i + 1)) F (by rw [List.length_take, List.length_take]; omega) h3
 rwa [List.take_append_drop, List.take_append_drop] at h4

theorem orE_split {a b : Int} (h : orE a b = 0) : a = 0 ∧ b = 0 := orE_zero.1 h
theorem errL_get : ∀ {L : List Tm} {i : Nat} {t : Tm}, L[i]? = some t → errL L = 0 → errT t = 0
 | [], i, t, h, _ => by simp at h
 | x :: L, 0, t, h, he => by cases h; rw [errL] at he; exact (orE_split he).1
 | x :: L, i + 1, t, h, he => by rw [errL] at he; exact errL_get (L := L) (i := i) (by simpa using h) (orE_split he).2
/-- a term without an error has its size and levels in bounds -/
theorem validT_iff {t : Tm} : validT t = 0 ↔ errT t = 0 ∧ sizeT t ≤ 400 ∧ depthT t ≤ 40 := by
 unfold validT
 rw [orE_zero]
 constructor
 · rintro ⟨h1, h2⟩
   split at h2
   · omega
   · exact ⟨h1, by omega, by omega⟩
 · rintro ⟨h1, h2, h3⟩
   exact ⟨h1, if_neg (by omega)⟩
theorem valid_kid {t x : Tm} {i : Nat} (h : validT t = 0) (hx : t.kids[i]? = some x) : validT x = 0 := by
 rw [validT_iff] at h ⊢
 obtain ⟨h1, h2, h3⟩ := h
 rw [errT_kids] at h1
 have h4 := sizeL_get hx
 have h5 := depthL_get hx
 have h6 := sizeT_kids t
 have h7 := depthT_kids t
 exact ⟨errL_get hx (orE_split h1).2, by omega, by omega⟩
theorem errT_node {t : Tm} (h : errT t = 0) : ((t.kind = 1 ∨ t.kind = 2) ∧ 0 ≤ t.sort ∧ t.sort ≤ 5 ∧ t.kids = [] ∨ t.kind = 3 ∧ t.sort = 0) ∧ nameOk t.name = true ∧ t.kids.length ≤ 8 := by
 rw [errT_kids] at h
 have h1 := (orE_split h).1
 unfold nodeE at h1
 split at h1
 · omega
 · rename_i h2
   have h2 := Classical.not_not.1 h2
   split at h1
   · omega
   · rename_i h3
     split at h1
     · omega
     · rename_i h4
       refine ⟨?_, by simpa using h3, by omega⟩
       rcases h2 with ⟨a, b, c, d⟩ | h2
       · exact .inl ⟨a, b, c, List.length_eq_zero_iff.1 d⟩
       · exact .inr h2

theorem valid_kids {t : Tm} (h : validT t = 0) : ∀ x ∈ t.kids, validT x = 0 := fun x hx => by
 obtain ⟨i, hi⟩ := List.mem_iff_getElem?.1 hx
 exact valid_kid h hi
/-- all terms that are known are valid -/
def okF (F : Bnd) : Prop := ∀ k u, F k = some u → validT u = 0
theorem okF.upd {F : Bnd} {x : ByteArray × Int} {t : Tm} (h : okF F) (ht : validT t = 0) : okF (updT F x t) := fun k u e => by
 unfold updT at e
 split at e
 · cases e; exact ht
 · exact h k u e
mutual
theorem pmT_vals : ∀ (p t : Tm) (F G : Bnd), pmT p t F = some G → validT t = 0 → okF F → okF G
 | .mk k n s l, t, F, G, h, ht, hF => by
   rw [pmT] at h
   split at h
   · split at h
     · split at h
       · cases h; exact hF
       · cases h
     · split at h
       · cases h; exact hF.upd ht
       · cases h
   · split at h
     · exact pmL_vals l t.kids F G h (valid_kids ht) hF
     · split at h
       · cases h; exact hF
       · cases h
theorem pmL_vals : ∀ (l m : List Tm) (F G : Bnd), pmL l m F = some G → (∀ x ∈ m, validT x = 0) → okF F → okF G
 | [], _, F, G, h, _, hF => by rw [pmL] at h; cases h; exact hF
 | a :: l, b :: m, F, G, h, hm, hF => by
   rw [pmL] at h
   cases hx : pmT a b F with
   | none => rw [hx] at h; cases h
   | some H =>
     rw [hx] at h
     exact pmL_vals l m H G h (fun x hx => hm x (by simp [hx])) (pmT_vals a b F H hx (hm b (by simp)) hF)
 | _ :: _, [], F, G, h, _, _ => by rw [pmL] at h; cases h
end

end Go.Proofs.Ytpfnlbaloaohgaa

namespace Go.Proofs.Ytpfnlbaloaohgaa
open Go Go.RowKit
set_option linter.unusedVariables false
set_option linter.unusedSimpArgs false

theorem TmW.grown {w w' : World} {S : Nat → Prop} {mb : Nat} {a : Option Addr} {cap : Nat} {t : Tm} (h : TmW w S a cap t) (hg : w.grownBy w' (some mb)) (hS : ∀ c, S c → c ≠ mb) : TmW w' S a cap t :=
 h.keep (fun c hc hlt => hg.block c hlt (fun e => hS c hc (Option.some.inj e))) (fun _ h _ => h)
theorem hs_grown {w w' : World} {mb b : Nat} {o : Obj} (h : w.heap[b]? = some o) (hg : w.grownBy w' (some mb)) (hb : b ≠ mb) : w'.heap[b]? = some o := by
 rw [hg.block b (lt_of_get' h) (fun e => hb (Option.some.inj e))]; exact h
theorem grown_setBlock {w : World} {mb : Nat} {ob : Obj} : w.grownBy (ChangeMaps.setBlock w mb ob) (some mb) :=
 ⟨rfl, rfl, rfl, by simp [ChangeMaps.setBlock], fun k _ hne => turned_block (fun e => hne (by rw [e]))⟩
/-- what match says -/
def MatchR (w w' : World) (S : Nat → Prop) (mb : Nat) (r : Option Bnd) (b : Bool) : Prop := (b = true ∧ ∃ F' N', r = some F' ∧ MapT w' S mb N' F') ∨ (b = false ∧ r = none)

set_option maxRecDepth 100000 in
set_option maxHeartbeats 8000000 in
theorem match_any {S : Nat → Prop} {mb : Nat} (hS : ∀ c, S c → c ≠ mb) (n : Nat) : ∀ (w : World) (N : Nat) (F : Bnd) (a a' : Option Addr) (cap cap' : Nat) (p t : Tm), sizeT p ≤ n → validT p = 0 → validT t = 0 → okF F → MapT w S mb N F → TmW w S a cap p → TmW w S a' cap' t →
 Calls Try.prog 72 #[.agg #[.int .i64 p.kind, .string p.name, .int .i64 p.sort, .slice a p.kids.length cap], .agg #[.int .i64 t.kind, .string t.name, .int .i64 t.sort, .slice a' t.kids.length cap'], .map (some mb)] w fun e w' => ∃ b, e = .returned (.bool b) ∧ w.grownBy w' (some mb) ∧ MatchR w w' S mb (pmT p t F) b := by
 induction n with
 | zero => intro w N F a a' cap cap' p t hn; have := sizeT_kids p; omega
 | succ n ih =>
   intro w N F a a' cap cap' p t hn hp0 ht0 hF hM hT hT'
   have hp4 := (validT_iff.1 hp0).2.1
   have ht4 := (validT_iff.1 ht0).2.1
   have hl := hT.len
   have hc := hT.cap
   have hl' := hT'.len
   have hc' := hT'.cap
   unfold maxLen at hc hc'
   obtain ⟨bx, w1, hbbx, hwbx, HBbx, hEbx⟩ := box_new w (.cells #[.int .i64 p.kind, .string p.name, .int .i64 p.sort, .slice a p.kids.length cap] 31)
   obtain ⟨by1, w2, hbby1, hwby1, HBby1, hEby1⟩ := box_new w1 (.cells #[.int .i64 t.kind, .string t.name, .int .i64 t.sort, .slice a' t.kids.length cap'] 31)
   have hE := hEbx.trans hEby1
   have hs1 : w1.heap.size = bx + 1 := by rw [hwbx, hbbx, World.size_alloc]
   rw [hs1] at hbby1
   have hmx : bx ≠ mb ∧ by1 ≠ mb := by have := hM.lt; omega
   obtain ⟨b0, b1, b2, b3⟩ := box4r (hs_ext hEby1 HBbx.out)
   obtain ⟨c0, c1, c2, c3⟩ := box4r (HBby1.out)
   have HB1 := Lib.hid (hs_ext hEby1 HBbx.out)
   have HIV := Lib.hid (isVar_any (hT.ext hE))
   have HKEY := Lib.hid (fun (w' : World) (h : Ext w2 w') => key_any ((hT.ext hE).ext h))
   have HFIT := Lib.hid (fun (w' : World) (h : Ext w2 w') (hk : p.kind = 1) => sFits_any (by omega) (by omega) hp0 ht0 hk ((hT.ext hE).ext h) ((hT'.ext hE).ext h))
   have HT := Lib.hid (hT.ext hE)
   have HT' := Lib.hid (hT'.ext hE)
   have HM := Lib.hid (hM.ext hE)
   have HE := Lib.hid hE
   have HS := Lib.hid hS
   have HN := Lib.hid hn
   have HP := Lib.hid (And.intro hp0 ht0)
   have HF := Lib.hid hF
   have HPS := Lib.hid (And.intro hp4 ht4)
   have HMX := Lib.hid hmx
   have IH := Lib.hid ih
   have hnm : p.name.size ≤ maxLen := hT.name
   have hns : I64 p.sort := hT.sort
   have HNM := Lib.hid (And.intro hnm hns)
   obtain ⟨R, hR⟩ : ∃ R, R = pmT p t F := ⟨_, rfl⟩
   rw [← hR]
   rw [pmT_eq] at hR
   have HR := Lib.hid hR
   clear hF hM hT hT' hE hEbx hEby1 hs1 hn hp0 ht0 ih hmx hR hp4 ht4 hnm hns
   go_enter Try.func72, Try.ntmps72
   go_upto_region 1 with fail
   rw [← hwbx, ← hbbx, ← hwby1, ← hbby1]
   clear hwbx hbbx hwby1 hbby1
   by_cases hk : p.kind = 1
   · have e1 : decide (p.kind = 1) = true := by simp [hk]
     rw [e1] at HIV
     have HK := Lib.hid hk
     clear hk e1
     go_wp2_with fail
     refine HIV.out.mono ?_
     rintro e w3 ⟨rfl, hE3⟩
     obtain ⟨b0, b1, b2, b3, c0, c1, c2, c3⟩ := cs_e8 hE3 ⟨b0, b1, b2, b3, c0, c1, c2, c3⟩
     have HE3 := Lib.hid hE3
     clear hE3
     go_wp2_with fail
     refine (HKEY.out _ HE3.out).mono ?_
     rintro e w4 ⟨rfl, hE4⟩
     obtain ⟨b0, b1, b2, b3, c0, c1, c2, c3⟩ := cs_e8 hE4 ⟨b0, b1, b2, b3, c0, c1, c2, c3⟩
     have HE4 := Lib.hid (HE3.out.trans hE4)
     have HM4 := Lib.hid (HM.out.ext HE4.out)
     clear hE4
     cases hq : F (p.name, p.sort) with
     | some u =>
       have hsz := (validT_iff.1 (HF.out _ _ hq)).2.1
       have HR2 : Hid (R = if u = t then some F else none) := Lib.hid (by rw [HR.out, if_pos HK.out, hq])
       have HQ := Lib.hid hq
       clear hq
       go_upto_region 4 with (
        refine wpList_lookId rfl _ _ _ rfl HM4.out rfl p.name p.sort HNM.out.1 HNM.out.2 rfl (fun h => absurd h (by rw [HQ.out]; simp)) ?_
        intro u' ua uc hu hTu
        rw [HQ.out] at hu
        cases hu
        have HTU := Lib.hid hTu
        clear hTu)
       obtain ⟨ux, w4b, hbux, hwux, HBux, hEux⟩ := box_new w4 (.cells #[.int .i64 u.kind, .string u.name, .int .i64 u.sort, .slice ua u.kids.length uc] 31)
       obtain ⟨d0, d1, d2, d3⟩ := box4r (HBux.out)
       obtain ⟨c0, c1, c2, c3⟩ := cs_e4 hEux ⟨c0, c1, c2, c3⟩
       rw [← hwux, ← hbux]
       clear hwux hbux
       have HTU := Lib.hid (HTU.out.ext hEux)
       have HE4 := Lib.hid (HE4.out.trans hEux)
       clear hEux
       go_wp2_with fail
       refine (PSame_any (by omega) (by have := HPS.out.2; omega) HTU.out (HT'.out.ext HE4.out)).mono ?_
       rintro e w5 ⟨rfl, hE5⟩
       have HE5 : Hid (Ext w2 w5) := Lib.hid (HE4.out.trans hE5)
       clear hE5
       go_wp2_with fail
       go_ret
       refine ⟨_, rfl, grown_put' (HE.out.trans HE5.out) _, ?_⟩
       by_cases hut : u = t
       · exact .inl ⟨by simp [hut], F, N, by rw [HR2.out, if_pos hut], HM.out.ext HE5.out⟩
       · exact .inr ⟨by simp [hut], by rw [HR2.out, if_neg hut]⟩
     | none =>
       have HR2 : Hid (R = if fitsT p t then some (updT F (p.name, p.sort) t) else none) := Lib.hid (by rw [HR.out, if_pos HK.out, hq])
       have HQ := Lib.hid hq
       clear hq
       go_upto_region 5 with (refine wpList_lookId rfl _ _ _ rfl HM4.out rfl p.name p.sort HNM.out.1 HNM.out.2 rfl ?_ (fun u' ua uc hu => absurd hu (by rw [HQ.out]; simp)); intro _)
       obtain ⟨w5, hw5⟩ : ∃ x, x = w4.alloc (.cells #[.int .i64 0, .string ⟨#[]⟩, .int .i64 0, .slice none 0 0] 31) := ⟨_, rfl⟩
       have hE5 : Ext w4 w5 := by rw [hw5]; exact Ext.alloc _ _
       obtain ⟨b0, b1, b2, b3, c0, c1, c2, c3⟩ := cs_e8 hE5 ⟨b0, b1, b2, b3, c0, c1, c2, c3⟩
       have HE5 := Lib.hid (HE4.out.trans hE5)
       rw [← hw5]
       clear hE5 hw5
       have HFCT := Lib.hid (And.intro b0 (And.intro b1 (And.intro b2 (And.intro b3 (And.intro c0 (And.intro c1 (And.intro c2 c3)))))))
       refine wp_region_reg 4 false (by kernel_rfl) (by kernel_rfl) ?_
       refine reg_value (fun _ => rfl) ?_ (fun g w' vs hM hE hP => ?_) ?_
       rotate_left
       · (clear hP hM; have ⟨z0, z1, z2, z3, z4, z5, z6, z7⟩ := cs_e8 hE HFCT.out; go_simp; first | done | rfl)
       refine reg_value (fun _ => rfl) ?_ (fun g w' vs hM hE hP => ?_) ?_
       rotate_left
       · (clear hP hM; have ⟨z0, z1, z2, z3, z4, z5, z6, z7⟩ := cs_e8 hE HFCT.out; go_simp; first | done | rfl)
       refine reg_const (fun _ => rfl) 73 ?_ (fun g w' vs hM hE hP => ?_) ?_
       rotate_left
       · (clear hP hM; have ⟨z0, z1, z2, z3, z4, z5, z6, z7⟩ := cs_e8 hE HFCT.out; go_simp; first | done | exact ⟨rfl, rfl⟩ | rfl)
       apply Exists.intro
       refine And.intro (fun g w' vs hM hE hP => ?_) ?_
       · exact HKEY.out _ (HE5.out.trans hE)
       refine reg_value (fun _ => rfl) ?_ (fun g w' vs hM hE hP => ?_) ?_
       rotate_left
       · (clear hP hM; have ⟨z0, z1, z2, z3, z4, z5, z6, z7⟩ := cs_e8 hE HFCT.out; go_simp; first | done | rfl)
       intro g w6 hE6 hF hQ
       simp only [List.drop_succ_cons, List.drop_zero, Act.put, List.setIfInBounds_toArray, List.set_cons_succ, List.set_cons_zero]
       clear hF hQ
       obtain ⟨b0, b1, b2, b3, c0, c1, c2, c3⟩ := cs_e8 hE6 ⟨b0, b1, b2, b3, c0, c1, c2, c3⟩
       have HE6 := Lib.hid (HE5.out.trans hE6)
       have HM6 := Lib.hid (HM.out.ext HE6.out)
       have HT6 := Lib.hid (HT'.out.ext HE6.out)
       clear hE6
       go_upto_region 6 with (
        refine wpList_updId rfl _ _ _ rfl HM6.out rfl p.name p.sort HNM.out.1 HNM.out.2 rfl rfl HT6.out HS.out ?_
        intro ob hM7
        have HM7 := Lib.hid hM7
        have HG7 : Hid (World.grownBy w6 (ChangeMaps.setBlock w6 mb ob) (some mb)) := Lib.hid grown_setBlock
        clear hM7)
       obtain ⟨w7, hw7⟩ : ∃ x, x = ChangeMaps.setBlock w6 mb ob := ⟨_, rfl⟩
       rw [← hw7] at HM7 HG7
       rw [← hw7]
       clear hw7 b0 b1 b2 b3 c0 c1 c2 c3
       obtain ⟨b0, b1, b2, b3⟩ := box4r (hs_grown (hs_ext HE6.out HB1.out) HG7.out HMX.out.1)
       obtain ⟨c0, c1, c2, c3⟩ := box4r (hs_grown (hs_ext HE6.out HBby1.out) HG7.out HMX.out.2)
       have HCF := Lib.hid (sFits_any (by have := HPS.out.1; omega) (by have := HPS.out.2; omega) HP.out.1 HP.out.2 HK.out ((HT.out.ext HE6.out).grown HG7.out HS.out) (HT6.out.grown HG7.out HS.out))
       go_wp2_with fail
       refine HCF.out.mono ?_
       rintro e w8 ⟨rfl, hE8⟩
       have HE8 := Lib.hid hE8
       clear hE8
       go_wp2_with fail
       go_ret
       refine ⟨_, rfl, grown_trans (grown_put' (HE.out.trans HE6.out) _) (grown_ext HG7.out HE8.out), ?_⟩
       by_cases hut : fitsT p t = true
       · exact .inl ⟨hut, _, N + 1, by rw [HR2.out, if_pos hut], HM7.out.ext HE8.out⟩
       · exact .inr ⟨by simpa using hut, by rw [HR2.out, if_neg hut]⟩
   · have e1 : decide (p.kind = 1) = false := by simp [hk]
     rw [e1] at HIV
     have HK := Lib.hid hk
     clear hk e1
     have HAL := Lib.hid (fun (w' : World) (h : Ext w2 w') => alike_any (HT.out.ext h) (HT'.out.ext h))
     go_wp2_with fail
     refine HIV.out.mono ?_
     rintro e w3 ⟨rfl, hE3⟩
     obtain ⟨b0, b1, b2, b3, c0, c1, c2, c3⟩ := cs_e8 hE3 ⟨b0, b1, b2, b3, c0, c1, c2, c3⟩
     have HE3 := Lib.hid hE3
     clear hE3
     by_cases hal : alikeT p t = true
     · have HR2 : Hid (R = pmL p.kids t.kids F) := Lib.hid (by rw [HR.out, if_neg HK.out, if_pos hal])
       have HLN : Hid (p.kids.length = t.kids.length) := Lib.hid (by unfold alikeT at hal; simp at hal; exact hal.2.2.2)
       rw [hal] at HAL
       clear hal
       go_wp2_with fail
       refine (HAL.out _ HE3.out).mono ?_
       rintro e w4 ⟨rfl, hE4⟩
       obtain ⟨b0, b1, b2, b3, c0, c1, c2, c3⟩ := cs_e8 hE4 ⟨b0, b1, b2, b3, c0, c1, c2, c3⟩
       have HE4 := Lib.hid (HE3.out.trans hE4)
       clear hE4
       go_wp2_with fail
       have HB1 := Lib.hid (hs_ext HE4.out HB1.out)
       have HB2 := Lib.hid (hs_ext HE4.out HBby1.out)
       go_loopw [9, 40] (fun _ kv wr => Hid (∃ (k N' : Nat) (G : Bnd), kv = .int .i64 k ∧ k ≤ p.kids.length ∧ pmL (p.kids.take k) (t.kids.take k) F = some G ∧ MapT wr S mb N' G ∧ w4.grownBy wr (some mb))) (fun _ kv _ => p.kids.length - (intOf kv).toNat)
       case atStart => exact Lib.hid ⟨0, N, F, rfl, by omega, by simp [pmL], HM.out.ext HE4.out, grown_self _ _⟩
       case round =>
        obtain ⟨k, N', G, rfl, hk, hG, hM, hg⟩ := hrel.out
        have HG := Lib.hid hG
        have HM' := Lib.hid hM
        have HGR := Lib.hid hg
        clear hrel hG hM hg b0 b1 b2 b3 c0 c1 c2 c3
        obtain ⟨b0, b1, b2, b3⟩ := box4r (hs_grown HB1.out HGR.out HMX.out.1)
        obtain ⟨c0, c1, c2, c3⟩ := box4r (hs_grown HB2.out HGR.out HMX.out.2)
        by_cases hlt : k < p.kids.length
        · obtain ⟨x, hx⟩ : ∃ x, p.kids[k]? = some x := ⟨_, List.getElem?_eq_getElem hlt⟩
          obtain ⟨y, hy⟩ : ∃ y, t.kids[k]? = some y := ⟨_, List.getElem?_eq_getElem (by rw [← HLN.out]; exact hlt)⟩
          obtain ⟨xb, xo, xa, xc, rfl, x0, x1, x2, x3, hTx⟩ := ((HT.out.ext HE4.out).grown HGR.out HS.out).ts.at hx
          obtain ⟨yb, yo, ya, yc, rfl, y0, y1, y2, y3, hTy⟩ := ((HT'.out.ext HE4.out).grown HGR.out HS.out).ts.at hy
          have hsx := sizeL_get hx
          have hy2 : k < t.kids.length := (List.getElem?_eq_some_iff.1 hy).1
          have hkz : (k : Int) < (t.kids.length : Int) := by omega
          have hkz0 : (0 : Int) ≤ (k : Int) := by omega
          have hkz1 : (k : Int) < (p.kids.length : Int) := by omega
          have hoG : okF G := pmL_vals _ _ F G HG.out (fun z hz => valid_kids HP.out.2 z (List.mem_of_mem_take hz)) HF.out
          have hcon := fun (w' : World) (h : Ext wr w') => IH.out w' N' G xa ya xc yc x y (by have := sizeT_kids p; have := HN.out; omega) (valid_kid HP.out.1 hx) (valid_kid HP.out.2 hy) hoG (HM'.out.ext h) (hTx.ext h) (hTy.ext h)
          have hpt := pmL_take F hx hy
          rw [HG.out] at hpt
          simp only at hpt
          have HPT := Lib.hid hpt
          have HST := Lib.hid (fun (h : pmT x y G = none) => pmL_stop hx hy HG.out h)
          clear hpt
          have HCON := Lib.hid hcon
          have HX := Lib.hid hx
          have HY := Lib.hid hy
          clear hcon hx hy hsx hTx hTy hoG
          go_upto_region 12 with fail
          have HFCT := Lib.hid (And.intro b0 (And.intro b1 (And.intro b2 (And.intro b3 (And.intro c0 (And.intro c1 (And.intro c2 (And.intro c3 (And.intro x0 (And.intro x1 (And.intro x2 (And.intro x3 (And.intro y0 (And.intro y1 (And.intro y2 y3)))))))))))))))
          refine wp_region_reg 11 false (by kernel_rfl) (by kernel_rfl) ?_
          refine reg_value (fun _ => rfl) ?_ (fun g w' vs hM hE hP => ?_) ?_
          rotate_left
          · (clear hP hM; have ⟨z0, z1, z2, z3, z4, z5, z6, z7, z8, z9, z10, z11, z12, z13, z14, z15⟩ := cs_e16 hE HFCT.out; go_simp; first | done | rfl)
          refine reg_value (fun _ => rfl) ?_ (fun g w' vs hM hE hP => ?_) ?_
          rotate_left
          · (clear hP hM; have ⟨z0, z1, z2, z3, z4, z5, z6, z7, z8, z9, z10, z11, z12, z13, z14, z15⟩ := cs_e16 hE HFCT.out; go_simp; first | done | rfl)
          refine reg_value (fun _ => rfl) ?_ (fun g w' vs hM hE hP => ?_) ?_
          rotate_left
          · (clear hP hM; have ⟨z0, z1, z2, z3, z4, z5, z6, z7, z8, z9, z10, z11, z12, z13, z14, z15⟩ := cs_e16 hE HFCT.out; go_simp; first | done | rfl)
          refine reg_value (fun _ => rfl) ?_ (fun g w' vs hM hE hP => ?_) ?_
          rotate_left
          · (clear hP hM; have ⟨z0, z1, z2, z3, z4, z5, z6, z7, z8, z9, z10, z11, z12, z13, z14, z15⟩ := cs_e16 hE HFCT.out; go_simp; first | done | rfl)
          refine reg_value (fun _ => rfl) ?_ (fun g w' vs hM hE hP => ?_) ?_
          rotate_left
          · (clear hP hM; have ⟨z0, z1, z2, z3, z4, z5, z6, z7, z8, z9, z10, z11, z12, z13, z14, z15⟩ := cs_e16 hE HFCT.out; go_simp; first | done | rfl)
          refine reg_value (fun _ => rfl) ?_ (fun g w' vs hM hE hP => ?_) ?_
          rotate_left
          · (clear hP hM; have ⟨z0, z1, z2, z3, z4, z5, z6, z7, z8, z9, z10, z11, z12, z13, z14, z15⟩ := cs_e16 hE HFCT.out; go_simp; first | done | rfl)
          refine reg_value (fun _ => rfl) ?_ (fun g w' vs hM hE hP => ?_) ?_
          rotate_left
          · (clear hP hM; have ⟨z0, z1, z2, z3, z4, z5, z6, z7, z8, z9, z10, z11, z12, z13, z14, z15⟩ := cs_e16 hE HFCT.out; go_simp; first | done | rfl)
          refine reg_value (fun _ => rfl) ?_ (fun g w' vs hM hE hP => ?_) ?_
          rotate_left
          · (clear hP hM; have ⟨z0, z1, z2, z3, z4, z5, z6, z7, z8, z9, z10, z11, z12, z13, z14, z15⟩ := cs_e16 hE HFCT.out; go_simp; first | done | rfl)
          refine reg_value (fun _ => rfl) ?_ (fun g w' vs hM hE hP => ?_) ?_
          rotate_left
          · (clear hP hM; have ⟨z0, z1, z2, z3, z4, z5, z6, z7, z8, z9, z10, z11, z12, z13, z14, z15⟩ := cs_e16 hE HFCT.out; go_simp; first | done | rfl)
          refine reg_value (fun _ => rfl) ?_ (fun g w' vs hM hE hP => ?_) ?_
          rotate_left
          · (clear hP hM; have ⟨z0, z1, z2, z3, z4, z5, z6, z7, z8, z9, z10, z11, z12, z13, z14, z15⟩ := cs_e16 hE HFCT.out; go_simp; first | done | rfl)
          refine reg_value (fun _ => rfl) ?_ (fun g w' vs hM hE hP => ?_) ?_
          rotate_left
          · (clear hP hM; have ⟨z0, z1, z2, z3, z4, z5, z6, z7, z8, z9, z10, z11, z12, z13, z14, z15⟩ := cs_e16 hE HFCT.out; go_simp; first | done | rfl)
          intro g w6 hE6 hF hQ
          simp only [List.drop_succ_cons, List.drop_zero, Act.put, List.setIfInBounds_toArray, List.set_cons_succ, List.set_cons_zero]
          have HC6 := Lib.hid (HCON.out _ hE6)
          have HE6 := Lib.hid hE6
          clear hF hQ hE6 b0 b1 b2 b3 c0 c1 c2 c3 x0 x1 x2 x3 y0 y1 y2 y3
          go_wp2_with fail
          refine HC6.out.mono ?_
          rintro e w7 ⟨bb, rfl, hg7, hm7⟩
          have HG7 : Hid (w4.grownBy w7 (some mb)) := Lib.hid (grown_trans (grown_ext HGR.out HE6.out) hg7)
          have HM7 := Lib.hid hm7
          clear hg7 hm7
          cases bb with
          | true =>
            obtain ⟨F', N'', e7, hM7⟩ : ∃ F' N'', pmT x y G = some F' ∧ MapT w7 S mb N'' F' := by
             rcases HM7.out with ⟨-, h⟩ | ⟨h, -⟩
             · exact h
             · cases h
            have HR7 : Hid (pmL (p.kids.take (k + 1)) (t.kids.take (k + 1)) F = some F') := Lib.hid (by rw [HPT.out, e7])
            have HM8 := Lib.hid hM7
            clear e7 hM7
            go_wp2_with fail
            go_roundw
            case rel => exact Lib.hid ⟨k + 1, N'', F', by go_num, by omega, HR7.out, HM8.out, HG7.out⟩
            case measure => simp [intOf]; omega
          | false =>
            have HRN : Hid (R = none) := Lib.hid (by
             rcases HM7.out with ⟨h, -⟩ | ⟨-, h⟩
             · cases h
             · rw [HR2.out]; exact HST.out h)
            go_wp2_with fail
            go_ret
            exact ⟨_, rfl, grown_trans (grown_put' (HE.out.trans HE4.out) _) HG7.out, .inr ⟨rfl, HRN.out⟩⟩
        · have HRS : Hid (R = some G) := Lib.hid (by
           have h := HG.out
           rw [List.take_of_length_le (by omega), List.take_of_length_le (by have := HLN.out; omega)] at h
           rw [HR2.out, h])
          go_wp2_with fail
          go_ret
          exact ⟨_, rfl, grown_trans (grown_put' (HE.out.trans HE4.out) _) HGR.out, .inl ⟨rfl, G, N', HRS.out, HM'.out⟩⟩
     · have HR2 : Hid (R = if p = t then some F else none) := Lib.hid (by rw [HR.out, if_neg HK.out, if_neg hal])
       have hal : alikeT p t = false := by simpa using hal
       rw [hal] at HAL
       clear hal
       go_wp2_with fail
       refine (HAL.out _ HE3.out).mono ?_
       rintro e w4 ⟨rfl, hE4⟩
       obtain ⟨b0, b1, b2, b3, c0, c1, c2, c3⟩ := cs_e8 hE4 ⟨b0, b1, b2, b3, c0, c1, c2, c3⟩
       have HE4 := Lib.hid (HE3.out.trans hE4)
       clear hE4
       have HCS := Lib.hid (PSame_any (by have := HPS.out.1; omega) (by have := HPS.out.2; omega) (HT.out.ext HE4.out) (HT'.out.ext HE4.out))
       go_wp2_with fail
       refine HCS.out.mono ?_
       rintro e w5 ⟨rfl, hE5⟩
       have HE5 := Lib.hid (HE4.out.trans hE5)
       clear hE5
       go_wp2_with fail
       go_ret
       refine ⟨_, rfl, grown_put' (HE.out.trans HE5.out) _, ?_⟩
       by_cases hut : p = t
       · exact .inl ⟨by simp [hut], F, N, by rw [HR2.out, if_pos hut], HM.out.ext HE5.out⟩
       · exact .inr ⟨by simp [hut], by rw [HR2.out, if_neg hut]⟩

/-- the bindings of variables, without those that stand for themselves -/
def bindF (F : Bnd) (L : List Tm) : List (Tm × Tm) := (L.map (fun x => (x, (F (x.name, x.sort)).getD zeroTm))).filter (fun b => decide (b.2 ≠ b.1))
/-- what Match answers -/
def matchP (p t : Tm) : Int × List (Tm × Tm) := if orE (validT p) (validT t) ≠ 0 then (orE (validT p) (validT t), []) else match pmT p t (fun _ => none) with | none => (11, []) | some F => (0, bindF F (varsT p))
theorem bindF_take {F : Bnd} {L : List Tm} {k : Nat} {x : Tm} (h : L[k]? = some x) : bindF F (L.take (k + 1)) = bindF F (L.take k) ++ (if (F (x.name, x.sort)).getD zeroTm = x then [] else [(x, (F (x.name, x.sort)).getD zeroTm)]) := by
 unfold bindF
 rw [List.take_add_one, h, List.map_append, List.filter_append]
 congr 1
 simp only [Option.toList_some, List.map_cons, List.map_nil]
 by_cases e : (F (x.name, x.sort)).getD zeroTm = x <;> simp [e]
theorem bindF_len (F : Bnd) (L : List Tm) : (bindF F L).length ≤ L.length := by
 unfold bindF
 exact Nat.le_trans (List.length_filter_le _ _) (by rw [List.length_map]; exact Nat.le_refl _)

theorem run_mapId (w : World) : (Instr.makeMap 101 none).run Try.prog w = .ok (.map (some w.heap.size)) (w.alloc (.map #[] 0)) := by
 simp [Instr.makeMap, run_underlying Try.underlying101, Result.andThen]
theorem wpList_buildG {T : TypeId} {ops : Array Oper} {rest : List Oper} {o : Oper} {a : Act} {w : World} {Q : Exit → Act → World → Prop} (hg : o.guard = none) (parts : List (Nat × Operand)) (ho : o.op = .build T parts.toArray) (vals : List (Nat × Value)) (hv : parts.map (fun p => (p.1, a.eval p.2)) = vals) {cells : Array Value}
 (hb : Try.prog.built T vals = some cells) (h : wpList Try.prog ops Q rest (a.put o.dst (.agg cells)) w) : wpList Try.prog ops Q (o :: rest) a w := by
 have e : (parts.toArray.map fun (i, x) => (i, a.eval x)).toList = vals := by rw [← hv]; simp
 refine wpList_build hg T parts.toArray ho (by rw [e, hb]; rfl) ?_
 rw [e, hb]
 exact h
theorem built_bind (k s k' s' : Int) (n n' : ByteArray) (a a' : Option Addr) (l c l' c' : Nat) : Try.prog.built 81 [(0, .agg #[.int .i64 k, .string n, .int .i64 s, .slice a l c]), (1, .agg #[.int .i64 k', .string n', .int .i64 s', .slice a' l' c'])] = some #[.int .i64 k, .string n, .int .i64 s, .slice a l c, .int .i64 k', .string n', .int .i64 s', .slice a' l' c'] := by kernel_rfl
/-- a block of one pair -/
theorem one_pair {w : World} {S : Nat → Prop} {fb : Nat} {T : TypeId} {s t : Tm} {a a' : Option Addr} {cap cap' : Nat} (hb : w.heap[fb]? = some (.cells #[.int .i64 s.kind, .string s.name, .int .i64 s.sort, .slice a s.kids.length cap, .int .i64 t.kind, .string t.name, .int .i64 t.sort, .slice a' t.kids.length cap'] T)) (hT : TmW w S a cap s) (hT' : TmW w S a' cap' t) :
 LsE elP w S (.slice (some ⟨fb, 0, none⟩) 1 1) [(s, t)] :=
 cells_lsE (P := [((s, t), encE ⟨s, a, cap⟩ ++ encE ⟨t, a', cap'⟩)]) hb rfl rfl rfl (by unfold maxLen; simp) (fun p hp => by simp at hp; subst hp; exact ⟨a, cap, a', cap', rfl, hT, hT'⟩)

theorem wpList_lookIdD {ops : Array Oper} {rest : List Oper} {o : Oper} {a : Act} {w : World} {Q : Exit → Act → World → Prop} {S : Nat → Prop} {mb n : Nat} {F : Bnd} (hg : o.guard = none) (m x : Operand) (hop : o.op = Op.lookup 101 m x false) (h : MapT w S mb n F)
 (hm : a.eval m = .map (some mb)) (nm : ByteArray) (s : Int) (hn : nm.size ≤ maxLen) (hs : I64 s) (hx : a.eval x = .agg #[.string nm, .int .i64 s]) {U : Tm} (hU : U = (F (nm, s)).getD zeroTm)
 (hK : ∀ ta tc, TmW w S ta tc U → wpList Try.prog ops Q rest (a.put o.dst (.agg #[.int .i64 U.kind, .string U.name, .int .i64 U.sort, .slice ta U.kids.length tc])) w) :
 wpList Try.prog ops Q (o :: rest) a w := by
 refine wpList_lookId hg m x false hop h hm nm s hn hs hx (fun h0 => ?_) (fun t ta tc h1 hT => ?_)
 · rw [h0] at hU
   subst hU
   exact hK none 0 (tm_nil (by unfold I64; omega) (by unfold I64; omega) (by unfold maxLen; decide))
 · rw [h1] at hU
   subst hU
   exact hK ta tc hT
theorem getD_size {F : Bnd} (h : okF F) (k : ByteArray × Int) : sizeT ((F k).getD zeroTm) ≤ 400 := by
 cases hq : F k with
 | none => simp [zeroTm, sizeT, sizeL]
 | some u => exact (validT_iff.1 (h k u hq)).2.1

set_option maxRecDepth 100000 in
set_option maxHeartbeats 8000000 in
theorem PMatch_any {w : World} {S S' : Nat → Prop} {a a' : Option Addr} {cap cap' : Nat} {p t : Tm} (hp6 : sizeT p ≤ 1000000) (ht6 : sizeT t ≤ 1000000) (hT : TmW w S a cap p) (hT' : TmW w S' a' cap' t) :
 Calls Try.prog 54 #[.agg #[.int .i64 p.kind, .string p.name, .int .i64 p.sort, .slice a p.kids.length cap], .agg #[.int .i64 t.kind, .string t.name, .int .i64 t.sort, .slice a' t.kids.length cap']] w fun e w' => ∃ u, e = .returned (.tuple #[u, .int .i64 (matchP p t).1]) ∧ Ext w w' ∧ LsG elP w' (fun _ => True) u (matchP p t).2 := by
 obtain ⟨bx, w1, hbbx, hwbx, HBbx, hEbx⟩ := box_new w (.cells #[.int .i64 p.kind, .string p.name, .int .i64 p.sort, .slice a p.kids.length cap] 31)
 obtain ⟨by1, w2, hbby1, hwby1, HBby1, hEby1⟩ := box_new w1 (.cells #[.int .i64 t.kind, .string t.name, .int .i64 t.sort, .slice a' t.kids.length cap'] 31)
 have hE := hEbx.trans hEby1
 have hs1 : w1.heap.size = bx + 1 := by rw [hwbx, hbbx, World.size_alloc]
 rw [hs1] at hbby1
 obtain ⟨b0, b1, b2, b3⟩ := box4r (hs_ext hEby1 HBbx.out)
 obtain ⟨c0, c1, c2, c3⟩ := box4r (HBby1.out)
 have HB1 := Lib.hid (hs_ext hEby1 HBbx.out)
 have HT := Lib.hid (hT.ext hE).below
 have HT' := Lib.hid (hT'.ext hE).below
 have HE := Lib.hid hE
 have HCV := Lib.hid (uvalid_any hp6 ht6 HT.out HT'.out)
 obtain ⟨R, hR⟩ : ∃ R, R = matchP p t := ⟨_, rfl⟩
 rw [← hR]
 unfold matchP at hR
 obtain ⟨o, ho⟩ : ∃ o, o = orE (validT p) (validT t) := ⟨_, rfl⟩
 rw [← ho] at hR HCV
 have HO := Lib.hid ho
 have HR := Lib.hid hR
 clear hT hT' hE hEbx hEby1 hs1 hR ho
 go_enter Try.func54, Try.ntmps54
 go_upto_region 1 with fail
 rw [← hwbx, ← hbbx, ← hwby1, ← hbby1]
 clear hwbx hbbx hwby1 hbby1
 go_wp2_with fail
 refine HCV.out.mono ?_
 rintro e w3 ⟨rfl, hE3⟩
 obtain ⟨b0, b1, b2, b3, c0, c1, c2, c3⟩ := cs_e8 hE3 ⟨b0, b1, b2, b3, c0, c1, c2, c3⟩
 have HE3 := Lib.hid hE3
 clear hE3
 by_cases h0 : o = 0
 · have HP : Hid (validT p = 0 ∧ validT t = 0) := Lib.hid (by rw [HO.out] at h0; exact orE_split h0)
   have HR2 : Hid (R = match pmT p t (fun _ => none) with | none => (11, []) | some F => (0, bindF F (varsT p))) := Lib.hid (by rw [HR.out, if_neg (by simp [h0])])
   have e0 : (o != 0) = false := by simp [h0]
   clear h0
   obtain ⟨w4, hw4⟩ : ∃ x, x = w3.alloc (.map #[] 0) := ⟨_, rfl⟩
   obtain ⟨mb, hmb⟩ : ∃ x, x = w3.heap.size := ⟨_, rfl⟩
   have hE4 : Ext w3 w4 := by rw [hw4]; exact Ext.alloc _ _
   have hM4 : MapT w4 (fun c => c < w2.heap.size) mb 0 (fun _ => none) := MapT.made (by rw [hw4, hmb]; exact hs_new)
   have hne : ∀ c, c < w2.heap.size → c ≠ mb := fun c hc => by have := HE3.out.size; omega
   have HNE := Lib.hid hne
   have HM4 := Lib.hid hM4
   have HE4 := Lib.hid (HE3.out.trans hE4)
   have HCM := Lib.hid (match_any hne 1000000 w4 0 (fun _ => none) a a' cap cap' p t hp6 HP.out.1 HP.out.2 (fun k u e => by cases e) hM4 (HT.out.ext HE4.out) (HT'.out.ext HE4.out))
   obtain ⟨b0, b1, b2, b3, c0, c1, c2, c3⟩ := cs_e8 hE4 ⟨b0, b1, b2, b3, c0, c1, c2, c3⟩
   clear hE4 hM4 hne
   have hmm := run_mapId w3
   go_upto_region 5 with fail
   clear hmm
   rw [← hw4, ← hmb]
   clear hw4 hmb
   go_wp2_with fail
   refine HCM.out.mono ?_
   rintro e w5 ⟨bb, rfl, hg5, hm5⟩
   have hsz4 : w2.heap.size ≤ mb := by
    have := HM4.out.lt
    rcases Nat.lt_or_ge mb w2.heap.size with h | h
    · exact absurd rfl (HNE.out mb h)
    · exact h
   have hE5 : Ext w2 w5 := (HE4.out).grown hg5 (fun k hk => by cases hk; exact hsz4)
   have HB5 := Lib.hid (hs_ext hE5 HBby1.out)
   clear b0 b1 b2 b3 c0 c1 c2 c3
   obtain ⟨b0, b1, b2, b3⟩ := box4r (hs_ext hE5 HB1.out)
   have HE5 := Lib.hid hE5
   cases bb with
   | false =>
     have HRN : Hid (R = (11, [])) := Lib.hid (by
      rcases hm5 with ⟨h, -⟩ | ⟨-, h⟩
      · cases h
      · rw [HR2.out, h])
     clear hm5 hg5 hE5 hsz4
     go_wp2_with fail
     go_ret2
     refine ⟨.slice none 0 0, ?_, HE.out.trans HE5.out, ?_⟩
     · rw [HRN.out]; rfl
     · rw [HRN.out]; exact LsG.nil
   | true =>
     obtain ⟨F, N, hF, hM5⟩ : ∃ F N, pmT p t (fun _ => none) = some F ∧ MapT w5 (fun c => c < w2.heap.size) mb N F := by
      rcases hm5 with ⟨-, h⟩ | ⟨h, -⟩
      · exact h
      · cases h
     have HRN : Hid (R = (0, bindF F (varsT p))) := Lib.hid (by rw [HR2.out, hF])
     have HOK : Hid (okF F) := Lib.hid (pmT_vals p t _ F hF HP.out.2 (fun k u e => by cases e))
     have HM5 := Lib.hid hM5
     have HPZ : Hid (sizeT p ≤ 400) := Lib.hid (validT_iff.1 HP.out.1).2.1
     have HCX := Lib.hid (PVars_any (w := w5) (by have := HPZ.out; omega) (HT.out.ext HE5.out))
     have HVZ : Hid ((varsT p).length ≤ 400 ∧ ∀ x ∈ varsT p, sizeT x ≤ 400) := Lib.hid ⟨Nat.le_trans (varsT_len p) HPZ.out, fun x hx => Nat.le_trans (varsT_size hx) HPZ.out⟩
     obtain ⟨V, hV⟩ : ∃ V, V = varsT p := ⟨_, rfl⟩
     rw [← hV] at HRN HCX HVZ
     clear hm5 hg5 hE5 hsz4 hF hM5 hV
     go_wp2_with fail
     refine HCX.out.mono ?_
     rintro e w6 ⟨u, rfl, hE6, hO6⟩
     obtain ⟨va, vc, hv, -, hvc⟩ := hO6.slice
     subst hv
     unfold maxLen at hvc
     have HO6 := Lib.hid hO6.ls
     have HM6 := Lib.hid ((HM5.out.ext hE6).keep (w' := w6) (S' := fun c => c < w6.heap.size) rfl (fun _ _ _ => rfl) (fun _ _ h => h))
     have HE6 := Lib.hid (HE5.out.trans hE6)
     have hVl := HVZ.out.1
     clear hE6 hO6 b0 b1 b2 b3
     go_wp2_with fail
     go_loopw [8, 27] (fun ov kv wr => Hid (∃ k : Nat, kv = .int .i64 k ∧ k ≤ V.length ∧ OwnG elP wr w6.heap.size 81 (fun c => c < w6.heap.size) ov (bindF F (V.take k)) ∧ Ext w6 wr)) (fun _ kv _ => V.length - (intOf kv).toNat)
     case atStart => exact Lib.hid ⟨0, rfl, by omega, by simp [bindF]; exact OwnG.nil, Ext.refl _⟩
     case round =>
      obtain ⟨k, rfl, hk, hO, hE⟩ := hrel.out
      have HO := Lib.hid hO
      have HE7 := Lib.hid hE
      clear hrel hO hE
      obtain ⟨oa, oc, hov, -, hoc⟩ := HO.out.slice
      subst hov
      unfold maxLen at hoc
      by_cases hlt : k < V.length
      · obtain ⟨x, hx⟩ : ∃ x, V[k]? = some x := ⟨_, List.getElem?_eq_getElem hlt⟩
        obtain ⟨xb, xo, xa, xc, rfl, x0, x1, x2, x3, hTx⟩ := (HO6.out.below.ext HE7.out).ts.at hx
        have HXZ := Lib.hid (HVZ.out.2 x (List.mem_of_getElem? hx))
        have hxn : x.name.size ≤ maxLen := hTx.name
        have hxs : I64 x.sort := hTx.sort
        have HXN := Lib.hid (And.intro hxn hxs)
        have hbt := bindF_take (F := F) hx
        obtain ⟨U, hU⟩ : ∃ U, U = (F (x.name, x.sort)).getD zeroTm := ⟨_, rfl⟩
        rw [← hU] at hbt
        have HBT := Lib.hid hbt
        have HUZ : Hid (sizeT U ≤ 400) := Lib.hid (by rw [hU]; exact getD_size HOK.out _)
        have HU := Lib.hid hU
        obtain ⟨xx, wa, hbxx, hwxx, HBxx, hExx⟩ := box_new wr (.cells #[.int .i64 x.kind, .string x.name, .int .i64 x.sort, .slice xa x.kids.length xc] 31)
        have HTX := Lib.hid (hTx.ext hExx)
        have HE8 := Lib.hid (HE7.out.trans hExx)
        have HOa := Lib.hid (HO.out.ext hExx)
        clear hx hTx hxn hxs hbt hU hExx
        go_upto_region 11 with fail
        rw [← hwxx, ← hbxx]
        clear hwxx hbxx
        clear x0 x1 x2 x3
        obtain ⟨x0, x1, x2, x3⟩ := box4r (HBxx.out)
        have HKX := Lib.hid (key_any HTX.out)
        go_wp2_with fail
        refine HKX.out.mono ?_
        rintro e wb ⟨rfl, hEb⟩
        obtain ⟨x0, x1, x2, x3⟩ := cs_e4 hEb ⟨x0, x1, x2, x3⟩
        have HTX := Lib.hid (HTX.out.ext hEb)
        have HOa := Lib.hid (HOa.out.ext hEb)
        have HBxx := Lib.hid (hs_ext hEb HBxx.out)
        have HEb := Lib.hid (HE8.out.trans hEb)
        have HMb := Lib.hid (HM6.out.ext HEb.out)
        clear hEb
        go_upto_region 12 with (refine wpList_lookIdD rfl _ _ rfl HMb.out rfl x.name x.sort HXN.out.1 HXN.out.2 rfl HU.out ?_; intro ua uc hTu; have HTU := Lib.hid hTu; clear hTu)
        obtain ⟨uu, wc, hbuu, hwuu, HBuu, hEuu⟩ := box_new wb (.cells #[.int .i64 U.kind, .string U.name, .int .i64 U.sort, .slice ua U.kids.length uc] 31)
        obtain ⟨u0, u1, u2, u3⟩ := box4r (HBuu.out)
        obtain ⟨x0, x1, x2, x3⟩ := cs_e4 hEuu ⟨x0, x1, x2, x3⟩
        have HTX := Lib.hid (HTX.out.ext hEuu)
        have HTU := Lib.hid (HTU.out.ext hEuu)
        have HOa := Lib.hid (HOa.out.ext hEuu)
        have HEb := Lib.hid (HEb.out.trans hEuu)
        have HBxx := Lib.hid (hs_ext hEuu HBxx.out)
        rw [← hwuu, ← hbuu]
        clear hwuu hbuu
        clear hEuu
        have HSM := Lib.hid (PSame_any (by have := HUZ.out; omega) (by have := HXZ.out; omega) HTU.out HTX.out)
        go_wp2_with fail
        refine HSM.out.mono ?_
        rintro e wd ⟨rfl, hEd⟩
        obtain ⟨x0, x1, x2, x3, u0, u1, u2, u3⟩ := cs_e8 hEd ⟨x0, x1, x2, x3, u0, u1, u2, u3⟩
        have HTX := Lib.hid (HTX.out.ext hEd)
        have HTU := Lib.hid (HTU.out.ext hEd)
        have HOa := Lib.hid (HOa.out.ext hEd)
        have HEb := Lib.hid (HEb.out.trans hEd)
        clear hEd
        by_cases hux : U = x
        · have hd : decide (U = x) = true := by simp [hux]
          have HB2 : Hid (bindF F (V.take (k + 1)) = bindF F (V.take k)) := Lib.hid (by rw [HBT.out, if_pos hux, List.append_nil])
          rw [hd]
          clear hux hd
          go_wp2_with fail
          go_roundw
          case rel => exact Lib.hid ⟨k + 1, by go_num, by omega, by rw [HB2.out]; exact HOa.out, HEb.out⟩
          case measure => simp [intOf]; omega
        · have hd : decide (U = x) = false := by simp [hux]
          have HB2 : Hid (bindF F (V.take (k + 1)) = bindF F (V.take k) ++ [(x, U)]) := Lib.hid (by rw [HBT.out, if_neg hux])
          have HLB : Hid ((bindF F (V.take k)).length ≤ 1000000) := Lib.hid (by have := bindF_len F (V.take k); rw [List.length_take] at this; omega)
          rw [hd]
          clear hux hd
          obtain ⟨we, hwe⟩ : ∃ zz9, zz9 = wd.alloc (.cells #[.int .i64 x.kind, .string x.name, .int .i64 x.sort, .slice xa x.kids.length xc, .int .i64 U.kind, .string U.name, .int .i64 U.sort, .slice ua U.kids.length uc] 81) := ⟨_, rfl⟩
          obtain ⟨fb, hfb⟩ : ∃ zz9, zz9 = wd.heap.size := ⟨_, rfl⟩
          have hEe : Ext wd we := by rw [hwe]; exact Ext.alloc _ _
          have hX : LsE elP we (fun c => c < w6.heap.size) (.slice (some ⟨fb, 0, none⟩) 1 1) [(x, U)] := one_pair (by rw [hwe, hfb]; exact hs_new) (HTX.out.ext hEe) (HTU.out.ext hEe)
          have hO9 := HOa.out.ext hEe
          have hsz : w6.heap.size ≤ we.heap.size := (HEb.out.trans hEe).size
          have hoff : ∀ c, c < w6.heap.size → (Value.slice oa (bindF F (V.take k)).length oc).ownBlock ≠ some c := fun c hc e => by have := (HO.out.lt c e).1; omega
          have HE9 := Lib.hid (HEb.out.trans hEe)
          have HX9 := Lib.hid hX
          have HO9 := Lib.hid hO9
          have HOF := Lib.hid hoff
          clear hEe hX hO9 hoff
          go_wp2_with (first
           | (refine wpList_buildG (T := 81) rfl [_, _] rfl [(0, .agg #[.int .i64 x.kind, .string x.name, .int .i64 x.sort, .slice xa x.kids.length xc]), (1, .agg #[.int .i64 U.kind, .string U.name, .int .i64 U.sort, .slice ua U.kids.length uc])] rfl (built_bind _ _ _ _ _ _ _ _ _ _ _ _) ?_)
           | (at_builtin
              rw [← hwe, ← hfb]
              refine wpList_appG (E := elP) (T := 81) rfl 37 (.tmp 39) (.tmp 43) rfl rfl rfl Try.underlying37 infBinding rfl (by decide) (by decide) HO9.out hsz HOF.out HLB.out (M := [(x, U)]) (by simp) HX9.out ?_
              intro v5 wf o5 g5 k5
              have HO5 := Lib.hid o5
              have HE5 : Hid (Ext w6 wf) := Lib.hid (HE9.out.grownG HO9.out (Nat.le_refl _) g5)
              clear o5 g5 k5))
          go_roundw
          case rel => exact Lib.hid ⟨k + 1, by go_num, by omega, by rw [HB2.out]; exact HO5.out, HE5.out⟩
          case measure => simp [intOf]; omega
      · have HVT : Hid (V.take k = V) := Lib.hid (List.take_of_length_le (by omega))
        have hlen : (bindF F (V.take k)).length = (bindF F V).length := by rw [HVT.out]
        have HL : Hid (LsG elP wr (fun _ => True) (.slice oa (bindF F (V.take k)).length oc) (bindF F V)) := Lib.hid (by have h := HO.out.any; rw [HVT.out] at h ⊢; exact h)
        have HLN := Lib.hid hlen
        clear hlen
        go_wp2_with fail
        go_ret2
        refine ⟨.slice oa (bindF F (V.take k)).length oc, ?_, (HE.out.trans HE6.out).trans HE7.out, ?_⟩
        · rw [HRN.out]; rfl
        · rw [HRN.out]; exact HL.out
 · have e0 : (o != 0) = true := by simp [h0]
   have HR2 : Hid (R = (o, [])) := Lib.hid (by rw [HR.out, if_pos h0])
   clear h0
   go_wp2_with fail
   go_ret2
   refine ⟨.slice none 0 0, ?_, HE.out.trans HE3.out, ?_⟩
   · rw [HR2.out]; rfl
   · rw [HR2.out]; exact LsG.nil

/-- no block that may be turned -/
def Still (w : World) (c : Nat) : Prop := ∀ o, w.heap[c]? = some o → ¬ Turnable o
theorem still_of {w : World} {c o : Nat} {k : Int} (h : w.cell? ⟨c, o, none⟩ = some (.int .i64 k)) (hk : k ≠ 0) : Still w c := by
 intro ob ho ht
 rcases ht with ⟨es, cl, rfl⟩ | rfl
 · simp [World.cell?, ho] at h
 · rw [cellc ho] at h
   match o, h with
   | 0, h => simp at h; exact hk h.symm
   | 1, h => simp at h
   | 2, h => simp at h; exact hk h.symm
   | 3, h => simp at h
   | o + 4, h => simp at h
theorem kind_ne {t : Tm} (h : errT t = 0) : t.kind ≠ 0 := by
 rcases (errT_node h).1 with ⟨h | h, -⟩ | ⟨h, -⟩ <;> omega
theorem errT_kid {t x : Tm} {i : Nat} (h : errT t = 0) (hx : t.kids[i]? = some x) : errT x = 0 := by
 rw [errT_kids] at h
 exact errL_get hx (orE_split h).2
theorem TmAt.still {w : World} {S : Nat → Prop} {b o : Nat} {t : Tm} (h : TmAt w S b o t) : errT t = 0 → TmAt w (fun c => S c ∧ Still w c) b o t := by
 induction h with
 | @mk b o k n s l a cap ba oa h0 h1 h2 h3 hk hs hn hl hc ha kids ih =>
   intro he
   refine .mk h0 h1 h2 h3 hk hs hn hl hc (fun hne => ⟨(ha hne).1, (ha hne).2, ?_⟩) (fun i t hi => ih i t hi (errT_kid (t := .mk k n s l) he hi))
   obtain ⟨x, hx⟩ := get0 hne
   obtain ⟨a', cap', c0, -⟩ := (kids 0 x hx).open
   exact still_of c0 (kind_ne (errT_kid (t := .mk k n s l) he hx))
/-- a term whose rows lie in blocks of Y that can't be turned -/
def TmZ (w : World) (Y : Nat → Prop) (a : Option Addr) (cap : Nat) (t : Tm) : Prop := TmW w (fun c => Y c ∧ Still w c) a cap t
section
variable {w w' : World} {Y : Nat → Prop} {a : Option Addr} {cap : Nat} {t : Tm}
theorem TmW.z (h : TmW w Y a cap t) (he : errT t = 0) : TmZ w Y a cap t := by
 refine ⟨h.kind, h.sort, h.name, h.len, h.cap, ?_⟩
 obtain ⟨ba, oa, ha, hk⟩ := h.kids
 refine ⟨ba, oa, fun hne => ⟨(ha hne).1, (ha hne).2, ?_⟩, fun i x hi => (hk i x hi).still (errT_kid he hi)⟩
 obtain ⟨x, hx⟩ := get0 hne
 obtain ⟨a', cap', c0, -⟩ := (hk 0 x hx).open
 exact still_of c0 (kind_ne (errT_kid he hx))
theorem TmZ.tm (h : TmZ w Y a cap t) : TmW w Y a cap t := TmW.wide h (fun _ h _ => h.1)
theorem TmZ.ext (h : TmZ w Y a cap t) (hE : Ext w w') : TmZ w' Y a cap t :=
 TmW.keep h (fun c _ hc => hE.block hc) (fun c h hc => ⟨h.1, fun o ho => h.2 o ((hE.block hc).symm.trans ho)⟩)
theorem TmZ.turn {b : Nat} {o o' : Obj} (h : TmZ w Y a cap t) (hb : w.heap[b]? = some o) (ho : Turnable o) : TmZ (ChangeMaps.setBlock w b o') Y a cap t := by
 have hne : ∀ c, Still w c → c ≠ b := fun c hc e => by subst e; exact hc o hb ho
 refine TmW.keep h (fun c h _ => reg_turned_block (hne c h.2)) (fun c h _ => ⟨h.1, fun x hx => h.2 x ?_⟩)
 rw [reg_turned_block (hne c h.2)] at hx
 exact hx
theorem TmZ.wide {Y' : Nat → Prop} (h : TmZ w Y a cap t) (hS : ∀ c, Y c → Y' c) : TmZ w Y' a cap t := TmW.wide h (fun c h _ => ⟨hS c h.1, h.2⟩)
end
/-- a term as the result of a call, whatever is made or turned beside it -/
def resZ (Y : Nat → Prop) (t : Tm) (u : Value) (w : World) : Prop := ∃ a cap, u = .agg #[.int .i64 t.kind, .string t.name, .int .i64 t.sort, .slice a t.kids.length cap] ∧ TmZ w Y a cap t
def resZ2 (Y : Nat → Prop) (t : Tm) (er : Int) (u : Value) (w : World) : Prop := ∃ v, u = .tuple #[v, .int .i64 er] ∧ resZ Y t v w
theorem resZ.persist {B : Nat} {Y : Nat → Prop} {t : Tm} : Persist true B [] (resZ Y t) :=
 ⟨fun u w w' ⟨a, c, e, h⟩ hE => ⟨a, c, e, h.ext hE⟩, fun _ u w b o o' ⟨a, c, e, h⟩ hb ho => ⟨a, c, e, h.turn hb ho⟩, fun h => absurd rfl h⟩
theorem resZ2.persist {B : Nat} {Y : Nat → Prop} {t : Tm} {er : Int} : Persist true B [] (resZ2 Y t er) :=
 ⟨fun u w w' ⟨v, e, h⟩ hE => ⟨v, e, (resZ.persist (B := B)).1 v w w' h hE⟩, fun _ u w b o o' ⟨v, e, h⟩ hb ho => ⟨v, e, (resZ.persist (B := B)).2.1 rfl v w b o o' h hb ho⟩, fun h => absurd rfl h⟩
/-- a term and an error as the result of a call -/
def resE (Y : Nat → Prop) (Q : Int × Tm) (u : Value) (w : World) : Prop := ∃ k n s a l c, u = .tuple #[.agg #[.int .i64 k, .string n, .int .i64 s, .slice a l c], .int .i64 Q.1] ∧ (Q.1 = 0 → k = Q.2.kind ∧ n = Q.2.name ∧ s = Q.2.sort ∧ l = Q.2.kids.length ∧ TmZ w Y a c Q.2)
theorem resE.persist {B : Nat} {Y : Nat → Prop} {Q : Int × Tm} : Persist true B [] (resE Y Q) :=
 ⟨fun u w w' ⟨k, n, s, a, l, c, e, h⟩ hE => ⟨k, n, s, a, l, c, e, fun h0 => let ⟨h1, h2, h3, h4, h5⟩ := h h0; ⟨h1, h2, h3, h4, h5.ext hE⟩⟩, fun _ u w b o o' ⟨k, n, s, a, l, c, e, h⟩ hb ho => ⟨k, n, s, a, l, c, e, fun h0 => let ⟨h1, h2, h3, h4, h5⟩ := h h0; ⟨h1, h2, h3, h4, h5.turn hb ho⟩⟩, fun h => absurd rfl h⟩
/-- a row of another type is no block that may be turned -/
theorem OwnG.turn3 {α : Type} {E : Elm α} {w : World} {base : Nat} {T : TypeId} {S : Nat → Prop} {v : Value} {L : List α} {b : Nat} {o o' : Obj} (h : OwnG E w base T S v L) (hT : T ≠ 31) (hS : ∀ c, S c → Still w c) (hb : w.heap[b]? = some o) (ho : Turnable o) : OwnG E (ChangeMaps.setBlock w b o') base T S v L := by
 refine h.keep (fun g hg => reg_turned_block (fun e => ?_)) (fun c h _ => reg_turned_block (fun e => by subst e; exact hS c h o hb ho)) (fun _ h _ => h)
 subst e
 obtain ⟨cur, hc⟩ := h.block hg
 rw [hb] at hc
 cases hc
 rcases ho with ⟨es, cl, e⟩ | e
 · cases e
 · cases e; exact hT rfl
theorem ownI.persist {B base : Nat} {C : List Int} (hT : (3 : TypeId) ≠ 31 := by decide) : Persist true B [] (fun u w => OwnG elI w base 3 (fun _ => False) u C) :=
 ⟨fun u w w' h hE => h.ext hE, fun _ u w b o o' h hb ho => h.turn3 hT (fun _ h => h.elim) hb ho, fun h => absurd rfl h⟩
end Go.Proofs.Ytpfnlbaloaohgaa
