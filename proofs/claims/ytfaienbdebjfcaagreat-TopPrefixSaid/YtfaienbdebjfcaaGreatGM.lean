/- Valid tables; maps of states. Contracts: two; the state of a search through pairs. -/
import Derived.Test.YtfaienbdebjfcaaGreatGL
import Derived.Test.YtfaienbdebjfcaaGreatG1
import Derived.Test.YtfaienbdebjfcaaGreatH1
import Derived.Maps.AppendAt
import Derived.DeepKeys4
import Derived.Maps.OwnSet
import Derived.Maps.OwnOps
import Derived.OwnWalk
namespace Go.Proofs.YtfaienbdebjfcaaGreat
open Go Go.RowKit
open Go.Maps (Keyed)
set_option linter.unusedVariables false
set_option linter.unusedSimpArgs false
set_option linter.unusedSectionVars false

theorem fieldErr_zero {t : List Fmt} {x : Fld} {last : Bool} (h : fieldErr t x last = 0) :
 x.kind = 1 ∧ 1 ≤ x.bytes.size ∧ x.bytes.size ≤ 8 ∨ x.kind = 2 ∧ 1 ≤ x.n ∧ x.n ≤ 15 ∨ x.kind = 3 ∧ 0 ≤ x.n ∧ x.n ≤ 15 ∨ x.kind = 4 ∧ 0 ≤ x.low ∧ x.low ≤ x.high ∧ x.high ≤ 255 ∨
 x.kind = 6 ∧ last = true ∧ 0 ≤ x.low ∧ x.low ≤ x.high ∧ x.high ≤ 1000 ∨ x.kind = 5 ∧ ∃ j : Nat, x.n = j ∧ ∃ gm, t[j]? = some gm ∧ plain17 gm.fields = true := by
 unfold fieldErr at h
 by_cases hs : shapeS x = false
 · rw [if_pos hs] at h; omega
 rw [if_neg hs] at h
 by_cases hr : rangesS x last = false
 · rw [if_pos hr] at h; omega
 rw [if_neg hr] at h
 simp only [Bool.not_eq_false] at hs hr
 by_cases h5 : x.kind = 5
 · rw [if_neg (by simp [h5])] at h
   by_cases hn : x.n < 0 ∨ (t.length : Int) ≤ x.n
   · rw [if_pos hn] at h; omega
   rw [if_neg hn] at h
   by_cases hp : plain17 (t.getD x.n.toNat default).fields = false
   · rw [if_pos hp] at h; omega
   refine .inr (.inr (.inr (.inr (.inr ⟨h5, x.n.toNat, by omega, t[x.n.toNat]'(by omega), List.getElem?_eq_getElem (by omega), ?_⟩))))
   have e : (t.getD x.n.toNat default) = t[x.n.toNat]'(by omega) := by
    rw [List.getD_eq_getElem?_getD, List.getElem?_eq_getElem (by omega)]; rfl
   rw [e] at hp
   simpa using hp
 · rcases kind7 x.kind with k | k | k | k | k | k | ⟨-, k1, k2, k3, k4, k5, k6⟩
   · left; simp only [rangesS, k, if_pos, decide_eq_true_eq] at hr; exact ⟨k, hr⟩
   · right; left; simp [rangesS, k] at hr; exact ⟨k, hr⟩
   · right; right; left; simp [rangesS, k] at hr; exact ⟨k, hr⟩
   · right; right; right; left; simp [rangesS, k] at hr; exact ⟨k, hr⟩
   · exact absurd k h5
   · right; right; right; right; left; simp [rangesS, k] at hr; exact ⟨k, hr⟩
   · simp [shapeS, k1, k2, k3, k4, k5, k6] at hs

theorem valid_fmt {t : List Fmt} (h : validF t = 0) {i : Nat} {fm : Fmt} (hi : t[i]? = some fm) : t.length ≤ 8 ∧ fm.fields ≠ [] ∧ fm.fields.length ≤ 6 ∧
 ∀ (k : Nat) (x : Fld), fm.fields[k]? = some x → fieldErr (t.take i) x (decide (k + 1 = fm.fields.length)) = 0 := by
 unfold validF at h
 by_cases h8 : 8 < t.length
 · rw [if_pos h8] at h; omega
 rw [if_neg h8] at h
 have h1 := errFrom_zero h i (lt_of_get hi)
 rw [fmtE_at hi] at h1
 unfold fmtErr at h1
 repeat (split at h1; · omega)
 refine ⟨by omega, fun e => ?_, by omega, fun k x hk => ?_⟩
 · simp_all
 · have := errFrom_zero h1 k (lt_of_get hk)
   rwa [fldE_at hk] at this

theorem valid_VFmt {t : List Fmt} (h : validF t = 0) {i : Nat} {fm : Fmt} (hi : t[i]? = some fm) : VFmt t fm := by
 obtain ⟨-, h2, h3, h4⟩ := valid_fmt h hi
 refine ⟨h2, h3, fun k x hk => ?_⟩
 rcases fieldErr_zero (h4 k x hk) with h | h | h | h | h | ⟨h5, j, hj, gm, hg, hp⟩
 · exact .inl h
 · exact .inr (.inl h)
 · exact .inr (.inr (.inl h))
 · exact .inr (.inr (.inr (.inl h)))
 · exact .inr (.inr (.inr (.inr (.inl ⟨h.1, by simpa using h.2.1, h.2.2⟩))))
 · refine .inr (.inr (.inr (.inr (.inr ⟨h5, j, hj, gm, ?_, ?_⟩))))
   · rw [List.getElem?_take] at hg
     split at hg
     · exact hg
     · cases hg
   · rw [List.getElem?_take] at hg
     split at hg
     case isFalse => cases hg
     obtain ⟨-, g2, g3, g4⟩ := valid_fmt h hg
     refine ⟨g2, g3, fun k y hy => ?_⟩
     have hpl : ∀ z ∈ gm.fields, z.kind ≠ 5 ∧ z.kind ≠ 6 := by simpa [plain17] using hp
     have hy2 := hpl y (List.mem_of_getElem? hy)
     rcases fieldErr_zero (g4 k y hy) with h | h | h | h | h | h
     · exact .inl h
     · exact .inr (.inl h)
     · exact .inr (.inr (.inl h))
     · exact .inr (.inr (.inr h))
     · exact absurd h.1 hy2.2
     · exact absurd h.1 hy2.1

section
variable {K : Type} {enc : K → Value} {w : World} {b n : Nat} {F : K → Option Value} {P : Program} {ops : Array Oper} {rest : List Oper} {o : Oper} {a : Act} {Q : Exit → Act → World → Prop} {k : TypeId}

end

def encI (x : Int) : Value := .int .i64 x
/-- whether a number is in a list -/
def inB {K : Type} [DecidableEq K] (L : List K) (x : K) : Option Value := if x ∈ L then some (.bool true) else none

theorem rStep_le {t : List Fmt} {F : List Fld} {s : Int} {b : Nat} (hF : F.length ≤ 100) (hb : b ≤ 255) : rStep t F s b ≤ 40000000 := by
 unfold rStep
 split
 · omega
 · split
   · omega
   · rename_i x hx
     have := lt_of_get hx
     split
     · unfold rNest
       split
       · split
         · omega
         · unfold stS; omega
       · split
         · omega
         · split
           · omega
           · rename_i y hy
             have hk := stepK_le y (f := (s % 256).toNat / 32) (r := (s % 256).toNat % 32) (b := b) (by omega) (by omega) hb
             generalize stepK y ((s % 256).toNat / 32) ((s % 256).toNat % 32) b = v at *
             (repeat' split) <;> (unfold stS at *; omega)
     · split
       · omega
       · have := stepK_le x (f := (s / 262144).toNat) (r := (s / 256 % 1024).toNat) (b := b) (by omega) (by omega) hb
         omega

/-- the step of a format, as a partial function -/
def stF (t : List Fmt) (F : List Fld) (s : Int) (b : Nat) : Option Int := if rStep t F s b < 0 then none else some (rStep t F s b)
/-- the step of two formats -/
def stP (t : List Fmt) (F G : List Fld) (p : Int × Int) (b : Nat) : Option (Int × Int) := if rStep t F p.1 b < 0 ∨ rStep t G p.2 b < 0 then none else some (rStep t F p.1 b, rStep t G p.2 b)

theorem inf3 : (Tryz.prog.info? 3).map (fun i => (i.zero, i.size, i.bytes)) = some (some (.int .i64 0), 1, 8) := by kernel_rfl
theorem inf53 : (Tryz.prog.info? 143).map (fun i => (i.zero, i.size, i.bytes)) = some (some (.agg #[.int .i64 0, .int .i64 0]), 2, 16) := by kernel_rfl
theorem inf106 : (Tryz.prog.info? 185).map (fun i => (i.zero, i.size, i.bytes)) = some (some (.agg #[.int .i64 0, .int .u8 0]), 2, 16) := by kernel_rfl
theorem zero3 (w : World) : (zeroValue 3).run Tryz.prog w = .ok (.int .i64 0) w := by kernel_rfl
theorem zero4 (w : World) : (zeroValue 4).run Tryz.prog w = .ok (.bool false) w := by kernel_rfl

/-- numbers that a machine holds -/
abbrev N64 := { x : Int // I64 x }
def encN (x : N64) : Value := .int .i64 x.1
theorem law3 : Keyed Tryz.prog 3 := Maps.int_keyed Tryz.underlying3
theorem key3 (x : N64) : ∃ l, keyOf Tryz.prog 3 (encN x) = some l := by
 obtain ⟨x, h1, h2⟩ := x
 exact ⟨_, Maps.keyOf_int_mk Tryz.underlying3 (WalkArith.wf_i64 ⟨h1, h2⟩)⟩
theorem encN_inj (x y : N64) (h : encN x = encN y) : x = y := by
 obtain ⟨x, hx⟩ := x
 obtain ⟨y, hy⟩ := y
 simp [encN] at h
 exact Subtype.ext h

abbrev P64 := { p : Int × Int // I64 p.1 ∧ I64 p.2 }
def encP (p : P64) : Value := .agg #[.int .i64 p.1.1, .int .i64 p.1.2]
theorem laidOutD : laidOutB Tryz.prog = true := by kernel_rfl
theorem row53 : (143 : TypeId) < Tryz.prog.types.size := of_decide_eq_true (by kernel_rfl)
theorem deep53 : Tryz.prog.keyTypeAt 2 143 = true := by kernel_rfl
theorem klaw53 : WideMaps.KeyLaw Tryz.prog 143 := by
 refine deep_law_laid (P := Tryz.prog) (k := 143) laidOutD (m := 2) (by omega) row53 deep53 ?_
 rw [Tryz.underlying143]
theorem law53 : Keyed Tryz.prog 143 := Keyed.of_law klaw53
theorem keyType53 : Tryz.prog.keyType 143 = true := by kernel_rfl
theorem cells53 : Tryz.prog.cellsOf 143 = 2 := by kernel_rfl
theorem cells3 : Tryz.prog.cellsOf 3 = 1 := by kernel_rfl
theorem types_pos : ∃ m, Tryz.prog.types.size = m + 1 := ⟨Tryz.prog.types.size - 1, by have h : (143 : Nat) < Tryz.prog.types.size := row53; omega⟩
theorem key53 (p : P64) : ∃ l, keyOf Tryz.prog 143 (encP p) = some l := by
 obtain ⟨⟨x, y⟩, ⟨hx1, hx2⟩, ⟨hy1, hy2⟩⟩ := p
 have wx : (Lit.int .i64 x).wf = true := WalkArith.wf_i64 ⟨hx1, hx2⟩
 have wy : (Lit.int .i64 y).wf = true := WalkArith.wf_i64 ⟨hy1, hy2⟩
 obtain ⟨m, hm⟩ := types_pos
 have hu := Tryz.underlying143
 have hf : (Value.agg #[.int .i64 x, .int .i64 y]).formed Tryz.prog 143 = true := by simp [Value.formed, hu, cells53]
 refine ⟨.string (keyBytes [.int .i64 x, .int .i64 y]), ?_⟩
 unfold keyOf encP
 simp only [hu]
 rw [if_pos (by rw [keyType53, hf]; rfl), hm]
 unfold Program.keyLits
 simp [hu, Value.cells, cells53, cells3, Program.keyLits, Tryz.underlying3, wx, wy]
theorem encP_inj (x y : P64) (h : encP x = encP y) : x = y := by
 obtain ⟨⟨x1, x2⟩, hx⟩ := x
 obtain ⟨⟨y1, y2⟩, hy⟩ := y
 simp [encP] at h
 obtain ⟨rfl, rfl⟩ := h
 rfl

def badIx (n : Nat) (x : Int) : Bool := decide (x < 0) || decide ((n : Int) ≤ x)
/-- the error of a table and indices -/
def errS (t : List Fmt) (l : List Int) : Int := if validF t ≠ 0 then validF t else if l.any (badIx t.length) then 7 else 0

theorem inB_new {K : Type} [DecidableEq K] {L : List K} {n : K} : inB (L ++ [n]) n = some (.bool true) := by simp [inB]
theorem inB_other {K : Type} [DecidableEq K] {L : List K} {n y : K} (h : y ≠ n) : inB (L ++ [n]) y = inB L y := by simp [inB, h]
theorem inB_val {K : Type} [DecidableEq K] {L : List K} {n : K} : (inB L n).getD (.bool false) = .bool (decide (n ∈ L)) := by
 unfold inB
 by_cases h : n ∈ L <;> simp [h]

theorem errS_zero {t : List Fmt} {l : List Int} (h : errS t l = 0) : validF t = 0 ∧ ∀ x ∈ l, 0 ≤ x ∧ x < t.length := by
 unfold errS at h
 by_cases h1 : validF t = 0
 · rw [if_neg (by simp [h1])] at h
   refine ⟨h1, fun x hx => ?_⟩
   by_cases h2 : l.any (badIx t.length) = true
   · rw [if_pos h2] at h; omega
   · simp only [Bool.not_eq_true] at h2
     rw [List.any_eq_false] at h2
     have := h2 x hx
     simp [badIx] at this
     omega
 · rw [if_pos h1] at h; exact absurd h h1

theorem ints_get {L : List Int} {k : Nat} {x : Int} (h : L[k]? = some x) : (L.map encI)[k]? = some (.int .i64 x) := by simp [h, encI]

/-- the list and the map of a search -/
structure Srch (w wr : World) (mb : Nat) (lv : Value) (L : List Int) : Prop where
 own : wr.ownsRow w.heap.size 3 1 lv L.length (L.map encI)
 map : ∃ n, MapK encN wr mb n (fun x => inB L x.1)
 apart : lv.ownBlock ≠ some mb
 mb : w.heap.size ≤ mb
 ext : Ext w wr
theorem Srch.next {w wr w' : World} {mb : Nat} {lv : Value} {L : List Int} (h : Srch w wr mb lv L) (hE : Ext wr w') : Srch w w' mb lv L :=
 ⟨ownsRow_ext h.own hE, let ⟨n, h'⟩ := h.map; ⟨n, h'.ext hE⟩, h.apart, h.mb, h.ext.trans hE⟩
theorem Srch.at {w wr : World} {mb : Nat} {lv : Value} {L : List Int} {k : Nat} {x : Int} (h : Srch w wr mb lv L) (hk : L[k]? = some x) :
 ∃ g cap, lv = .slice (some ⟨g, 0, none⟩) L.length cap ∧ wr.cell? ⟨g, k, none⟩ = some (.int .i64 x) := by
 have hlt := (List.getElem?_eq_some_iff.1 hk).1
 rcases h.own.2 with ⟨-, h0⟩ | ⟨g, cap, cur, rfl, -⟩
 · omega
 · refine ⟨g, cap, rfl, ?_⟩
   have h0 := h.own.cells (g := g) rfl k _ (ints_get hk)
   by_cases hk0 : k = 0
   · subst hk0; simpa [Addr.add] using h0
   · simpa [Addr.add, hk0] using h0
theorem Srch.slice {w wr : World} {mb : Nat} {lv : Value} {L : List Int} (h : Srch w wr mb lv L) : ∃ a cap, lv = .slice a L.length cap := by
 rcases h.own.2 with ⟨rfl, h0⟩ | ⟨g, cap, cur, rfl, -⟩
 · exact ⟨none, 0, by rw [h0]⟩
 · exact ⟨_, _, rfl⟩

theorem Srch.start {w w2 : World} {mb n : Nat} (hE : Ext w w2) (hM : MapK encN w2 mb n (fun x => inB [0] x.1)) (h1 : w.heap.size ≤ mb) (h2 : mb < w2.heap.size) :
 Srch w (w2.alloc (.cells #[.int .i64 0] 3)) mb (.slice (some ⟨w2.heap.size, 0, none⟩) 1 1) [0] :=
 ⟨⟨rfl, .inr ⟨w2.heap.size, 1, #[.int .i64 0], rfl, hE.size, heap_alloc_new w2 _, by simp, by unfold maxLen; omega, rfl, rfl⟩⟩, ⟨n, hM.al _⟩, by simp [Value.ownBlock]; omega, h1, hE.then_al _⟩

theorem Srch.push {w w4 w5 : World} {mb n : Nat} {lv v' : Value} {L : List Int} {nv : Int} {o : Obj} (hE : Ext w w4) (hM : MapK encN w4 mb n (fun x => inB (L ++ [nv]) x.1)) (ha : lv.ownBlock ≠ some mb) (hl : ∀ k, lv.ownBlock = some k → w.heap.size ≤ k) (hmb : w.heap.size ≤ mb)
 (hown : w5.ownsRow w.heap.size 3 1 v' (L.length + 1) (L.map encI ++ [.int .i64 nv])) (hg : (w4.alloc o).grownBy w5 lv.ownBlock) (hat : v'.ownBlock = lv.ownBlock ∨ v'.ownBlock = some (w4.alloc o).heap.size) : Srch w w5 mb v' (L ++ [nv]) := by
 have hlt := hM.lt
 refine ⟨by simpa [encI] using hown, ⟨n, hM.same ?_⟩, ?_, hmb, (hE.then_al o).grown hg hl⟩
 · rw [hg.block mb (by simp; omega) (fun h => ha h.symm)]
   exact (Ext.alloc w4 o).block hlt
 · rcases hat with h | h
   · rw [h]; exact ha
   · rw [h]; simp; omega
theorem Srch.put {w wr : World} {mb : Nat} {lv : Value} {L : List Int} {nv : Int} (h : Srch w wr mb lv L) (hn : I64 nv) : ∃ w4 n, (Instr.mapUpdate 136 (.map (some mb)) (.int .i64 nv) (.bool true)).run Tryz.prog wr = .ok () w4 ∧ Ext w w4 ∧ MapK encN w4 mb n (fun x => inB (L ++ [nv]) x.1) ∧
 w4.ownsRow w.heap.size 3 1 lv L.length (L.map encI) := by
 obtain ⟨n, hM⟩ := h.map
 obtain ⟨ob, hup, hF⟩ := hM.update law3 key3 encN_inj Tryz.underlying136 ⟨nv, hn⟩ (.bool true)
 refine ⟨_, n + 1, hup, h.ext.turned h.mb, hF _ inB_new (fun y hy => inB_other (fun e => hy (Subtype.ext e))), ownsRow_same h.own fun g hg => turned_block (fun e => h.apart (by rw [hg, e]))⟩
theorem Srch.look {w wr : World} {mb : Nat} {lv : Value} {L : List Int} {nv : Int} (h : Srch w wr mb lv L) (hn : I64 nv) : (Instr.lookup 136 (.map (some mb)) (.int .i64 nv) false).run Tryz.prog wr = .ok (.bool (decide (nv ∈ L))) wr := by
 obtain ⟨n, hM⟩ := h.map
 have := hM.look law3 key3 Tryz.underlying136 (zero4 wr) ⟨nv, hn⟩ false
 simp only [inB_val] at this
 exact this

end Go.Proofs.YtfaienbdebjfcaaGreat

namespace Go.Proofs.YtfaienbdebjfcaaGreat
open Go Go.RowKit
open Go.Maps (Keyed)
set_option linter.unusedVariables false
set_option linter.unusedSimpArgs false
set_option linter.unusedSectionVars false

theorem inf67 : (Tryz.prog.info? 132).map (·.size) = some 2 := by kernel_rfl

theorem results_two {tmps : Array Value} {w : World} {g1 g2 : Nat} {c1 c2 : Array Value} {f1 f2 : Nat × Nat} (h6 : tmps.getD 6 undef = .pointer (some ⟨g1, 0, none⟩)) (h7 : tmps.getD 7 undef = .pointer (some ⟨g2, 0, none⟩)) (hg1 : w.heap[g1]? = some (.cells c1 132 f1)) (hg2 : w.heap[g2]? = some (.cells c2 132 f2))
 (s1 : c1.size = 2) (s2 : c2.size = 2) : (results Tryz.f67 tmps).run Tryz.prog w = .ok (.tuple #[.agg c1, .agg c2, tmps.getD 8 undef]) w := by
 have h6' : tmps[6]?.getD undef = .pointer (some ⟨g1, 0, none⟩) := by simpa using h6
 have h7' : tmps[7]?.getD undef = .pointer (some ⟨g2, 0, none⟩) := by simpa using h7
 have hi : (Tryz.prog.info? 132).map (·.size) = some 2 := by kernel_rfl
 simp [results, Tryz.results67, h6', h7', asAddr, run_loadVar_row w g1 132 132 c1 f1 _ hg1 Tryz.underlying132 rfl (by rw [s1]; exact hi), run_loadVar_row w g2 132 132 c2 f2 _ hg2 Tryz.underlying132 rfl (by rw [s2]; exact hi)]

set_option maxRecDepth 100000 in
set_option maxHeartbeats 4000000 in
theorem two_any {w : World} {B : Nat} {a : Option Addr} {t : List Fmt} {cap : Nat} {i j : Int} (hT : TabA w B a t) (hB : B ≤ w.heap.size) (hcap : t.length ≤ cap) (hcap2 : cap ≤ 9223372036854775807) :
 Calls Tryz.prog 67 #[.slice a t.length cap, .int .i64 i, .int .i64 j] w fun e w' => ∃ u v, e = .returned (.tuple #[u, v, .int .i64 (errS t [i, j])]) ∧ Ext w w' ∧ (errS t [i, j] = 0 → u = .agg #[.slice a t.length cap, .int .i64 i] ∧ v = .agg #[.slice a t.length cap, .int .i64 j]) ∧ (errS t [i, j] ≠ 0 → u = .agg #[.slice none 0 0, .int .i64 0] ∧ v = .agg #[.slice none 0 0, .int .i64 0]) := by
 have hn63 := hT.1
 unfold maxLen at hn63
 obtain ⟨res, hres⟩ : ∃ res, res = errS t [i, j] := ⟨_, rfl⟩
 rw [← hres]
 have HRES := Lib.hid hres; clear hres
 obtain ⟨v0, hv0⟩ : ∃ v0, v0 = validF t := ⟨_, rfl⟩
 have HV0 := Lib.hid hv0
 have hcon := fun w' (hE : Ext w w') => FValid_any (hT.ext hB hE) (by have := hE.size; omega) hcap hcap2
 rw [← hv0] at hcon
 clear hv0
 go_enter Tryz.func67, Tryz.ntmps67
 go_wp2_with fail
 refine (hcon _ ((Ext.alloc w _).then_al _)).mono ?_
 rintro e w1 ⟨rfl, hb1⟩
 have hg1 : w1.heap[w.heap.size]? = some (.cells #[.slice none 0 0, .int .i64 0] 132) := hs_ext hb1 (hs_al hs_new)
 have hg2 : w1.heap[w.heap.size + 1]? = some (.cells #[.slice none 0 0, .int .i64 0] 132) := hs_ext hb1 (by have h := hs_new (w := w.alloc (.cells #[.slice none 0 0, .int .i64 0] 132)) (o := .cells #[.slice none 0 0, .int .i64 0] 132); rwa [World.size_alloc] at h)
 have hE1 : Ext w w1 := ((Ext.alloc w _).then_al _).trans hb1
 clear hb1 hcon
 have hlt : w.heap.size + 1 < w1.heap.size := (Array.getElem?_eq_some_iff.1 hg2).1
 have done : ∀ (c1 c2 : Array Value) (tmps : Array Value), tmps.getD 6 undef = .pointer (some ⟨w.heap.size, 0, none⟩) → tmps.getD 7 undef = .pointer (some ⟨w.heap.size + 1, 0, none⟩) → tmps.getD 8 undef = .int .i64 res → c1.size = 2 → c2.size = 2 →
  (res = 0 → c1 = #[.slice a t.length cap, .int .i64 i] ∧ c2 = #[.slice a t.length cap, .int .i64 j]) → (res ≠ 0 → c1 = #[.slice none 0 0, .int .i64 0] ∧ c2 = #[.slice none 0 0, .int .i64 0]) →
  bodyPost Tryz.prog Tryz.f67 (fun e w' => ∃ u v, e = .returned (.tuple #[u, v, .int .i64 res]) ∧ Ext w w' ∧ (res = 0 → u = .agg #[.slice a t.length cap, .int .i64 i] ∧ v = .agg #[.slice a t.length cap, .int .i64 j]) ∧ (res ≠ 0 → u = .agg #[.slice none 0 0, .int .i64 0] ∧ v = .agg #[.slice none 0 0, .int .i64 0])) .ret ⟨tmps, []⟩ ((w1.setRow w.heap.size c1).setRow (w.heap.size + 1) c2) := by
  intro c1 c2 tmps h6 h7 h8 s1 s2 hc hc'
  have hh2 : ((w1.setRow w.heap.size c1).setRow (w.heap.size + 1) c2).heap[w.heap.size + 1]? = some (.cells c2 132 (0, 0)) := setRow_heap _ _ _ _ _ _ (by rw [setRow_other _ _ _ _ (by omega)]; exact hg2)
  have hh1 : ((w1.setRow w.heap.size c1).setRow (w.heap.size + 1) c2).heap[w.heap.size]? = some (.cells c1 132 (0, 0)) := by
   rw [setRow_other _ _ _ _ (by omega)]
   exact setRow_heap _ _ _ _ _ _ hg1
  refine bodyPost_ret (results_two h6 h7 hh1 hh2 s1 s2) rfl ?_
  rw [h8]
  exact ⟨_, _, rfl, (hE1.setRow (Nat.le_refl _) _).setRow (by omega) _, fun h => ⟨by rw [(hc h).1], by rw [(hc h).2]⟩, fun h => ⟨by rw [(hc' h).1], by rw [(hc' h).2]⟩⟩
 have HD := Lib.hid done; clear done
 by_cases hz : v0 = 0
 · subst hz
   have HVal : Hid (errS t [i, j] = if [i, j].any (badIx t.length) then 7 else 0) := by show _ = _; rw [errS, if_neg (by rw [← HV0.out]; simp)]
   have bad : ∀ x, x ∈ [i, j] → (x < 0 ∨ (t.length : Int) ≤ x) → Hid (res = 7) := by
    intro x hx h
    show _ = _
    rw [HRES.out, HVal.out, if_pos (List.any_eq_true.2 ⟨x, hx, by simpa [badIx] using h⟩)]
   have HB := Lib.hid bad; clear bad
   by_cases h1 : i < 0
   · have e1 : decide (i < 0) = true := decide_eq_true h1
     have hr : res = 7 := (HB.out i (by simp) (.inl h1)).out
     go_wp2_with (refine wpList_store_all rfl 132 _ _ rfl _ _ rfl rfl 132 _ (by first | exact hg1 | exact hg2 | (rw [setRow_other _ _ _ _ (by omega)]; exact hg2)) inf67 rfl (by first | rfl | simp [Value.oneCell']) ?_)
     exact HD.out _ _ _ rfl rfl (by rw [hr]; rfl) rfl rfl (by rw [hr]; omega) (fun _ => ⟨rfl, rfl⟩)
   have e1 : decide (i < 0) = false := decide_eq_false h1
   by_cases h2 : (t.length : Int) ≤ i
   · have e2 : decide ((t.length : Int) ≤ i) = true := decide_eq_true h2
     have hr : res = 7 := (HB.out i (by simp) (.inr h2)).out
     go_wp2_with (refine wpList_store_all rfl 132 _ _ rfl _ _ rfl rfl 132 _ (by first | exact hg1 | exact hg2 | (rw [setRow_other _ _ _ _ (by omega)]; exact hg2)) inf67 rfl (by first | rfl | simp [Value.oneCell']) ?_)
     exact HD.out _ _ _ rfl rfl (by rw [hr]; rfl) rfl rfl (by rw [hr]; omega) (fun _ => ⟨rfl, rfl⟩)
   have e2 : decide ((t.length : Int) ≤ i) = false := decide_eq_false h2
   by_cases h3 : j < 0
   · have e3 : decide (j < 0) = true := decide_eq_true h3
     have hr : res = 7 := (HB.out j (by simp) (.inl h3)).out
     go_wp2_with (refine wpList_store_all rfl 132 _ _ rfl _ _ rfl rfl 132 _ (by first | exact hg1 | exact hg2 | (rw [setRow_other _ _ _ _ (by omega)]; exact hg2)) inf67 rfl (by first | rfl | simp [Value.oneCell']) ?_)
     exact HD.out _ _ _ rfl rfl (by rw [hr]; rfl) rfl rfl (by rw [hr]; omega) (fun _ => ⟨rfl, rfl⟩)
   have e3 : decide (j < 0) = false := decide_eq_false h3
   by_cases h4 : (t.length : Int) ≤ j
   · have e4 : decide ((t.length : Int) ≤ j) = true := decide_eq_true h4
     have hr : res = 7 := (HB.out j (by simp) (.inr h4)).out
     go_wp2_with (refine wpList_store_all rfl 132 _ _ rfl _ _ rfl rfl 132 _ (by first | exact hg1 | exact hg2 | (rw [setRow_other _ _ _ _ (by omega)]; exact hg2)) inf67 rfl (by first | rfl | simp [Value.oneCell']) ?_)
     exact HD.out _ _ _ rfl rfl (by rw [hr]; rfl) rfl rfl (by rw [hr]; omega) (fun _ => ⟨rfl, rfl⟩)
   have e4 : decide ((t.length : Int) ≤ j) = false := decide_eq_false h4
   obtain ⟨tb, toff, rfl, -⟩ := hT.2 (by rintro rfl; simp at h2; omega)
   have hr : res = 0 := by
    rw [HRES.out, HVal.out, if_neg (by simp [badIx]; omega)]
   go_wp2_with (first | (refine wpList_store_all rfl 132 _ _ rfl (w.heap.size) #[.slice (some ⟨tb, toff, none⟩) t.length cap, .int .i64 i] rfl rfl 132 #[.slice none 0 0, .int .i64 0] (hg1) inf67 rfl (by simp [Value.oneCell']) ?_) | (refine wpList_store_all rfl 132 _ _ rfl (w.heap.size + 1) #[.slice (some ⟨tb, toff, none⟩) t.length cap, .int .i64 j] rfl rfl 132 #[.slice none 0 0, .int .i64 0] (by rw [setRow_other _ _ _ _ (by omega)]; exact hg2) inf67 rfl (by simp [Value.oneCell']) ?_))
   refine HD.out _ _ _ ?_ ?_ ?_ ?_ ?_ ?_ ?_
   · rfl
   · rfl
   · rw [hr]; rfl
   · rfl
   · rfl
   · exact fun _ => ⟨rfl, rfl⟩
   · exact fun h => absurd hr h
 · have e1 : (v0 == 0) = false := beq_eq_false_iff_ne.2 hz
   have hr : res = v0 := by rw [HRES.out, errS, if_pos (by rw [← HV0.out]; exact hz), HV0.out]
   go_wp2_with (refine wpList_store_all rfl 132 _ _ rfl _ _ rfl rfl 132 _ (by first | exact hg1 | exact hg2 | (rw [setRow_other _ _ _ _ (by omega)]; exact hg2)) inf67 rfl (by first | rfl | simp [Value.oneCell']) ?_)
   exact HD.out _ _ _ rfl rfl (by rw [hr]; rfl) rfl rfl (by rw [hr]; exact fun h => absurd h hz) (fun _ => ⟨rfl, rfl⟩)

theorem VFmt.nested {t : List Fmt} {fm : Fmt} (h : VFmt t fm) : ∀ x ∈ fm.fields, x.kind = 5 → ∃ j : Nat, x.n = j ∧ ∃ gm, t[j]? = some gm ∧ gm.fields ≠ [] ∧ gm.fields.length ≤ 100 ∧ ∀ y ∈ gm.fields, y.kind = 1 ∨ y.kind = 2 ∨ y.kind = 3 ∨ y.kind = 4 ∨ y.kind = 6 := by
 intro x hx h5
 obtain ⟨k, hk⟩ := List.mem_iff_getElem?.1 hx
 rcases h.fld k x hk with h | h | h | h | h | ⟨-, j, hj, gm, hg, hv⟩
 all_goals first | (exfalso; rw [h.1] at h5; omega) | skip
 exact ⟨j, hj, gm, hg, hv.ne, by have := hv.le; omega, hv.kinds⟩

theorem stepV {w : World} {B : Nat} {a : Option Addr} {t : List Fmt} {cap : Nat} {i : Nat} {fm : Fmt} (s : Int) (b : Nat) (hb : b ≤ 255) (h1 : s ≤ 9223372036854775807) (hT : TabA w B a t) (hB : B ≤ w.heap.size) (hi : t[i]? = some fm) (hV : VFmt t fm) :
 Calls Tryz.prog 98 #[.agg #[.slice a t.length cap, .int .i64 i], .int .i64 s, .int .u8 b] w fun e w' => e = .returned (.int .i64 (rStep t fm.fields s b)) ∧ Ext w w' := by
 rw [step_eq hV s b hb]
 exact step1_any s b hb h1 hT hB hi hV.ne (by have := hV.le; omega) hV.kinds hV.nested
theorem acceptsV {w : World} {B : Nat} {a : Option Addr} {t : List Fmt} {cap : Nat} {i : Nat} {fm : Fmt} (s : Int) (h1 : s ≤ 9223372036854775807) (hT : TabA w B a t) (hB : B ≤ w.heap.size) (hi : t[i]? = some fm) (hV : VFmt t fm) :
 Calls Tryz.prog 69 #[.agg #[.slice a t.length cap, .int .i64 i], .int .i64 s] w fun e w' => e = .returned (.bool (rAcc fm.fields s)) ∧ Ext w w' := by
 rw [acc_eq hV s]
 exact accepts_any s h1 hT hB hi hV.ne (by have := hV.le; omega) hV.kinds hV.nested

/-- lists of values, two cells each -/
theorem flat2_get {α : Type} {f : α → List Value} (hf : ∀ x, (f x).length = 2) : ∀ (L : List α) (k j : Nat) (x : α), L[k]? = some x → j < 2 → (L.flatMap f)[k * 2 + j]? = (f x)[j]?
 | [], k, j, x, h, _ => by simp at h
 | y :: L, 0, j, x, h, hj => by
   simp only [List.getElem?_cons_zero, Option.some.injEq] at h
   subst h
   rw [List.flatMap_cons, List.getElem?_append_left (by rw [hf]; omega)]
   simp
 | y :: L, k + 1, j, x, h, hj => by
   simp only [List.getElem?_cons_succ] at h
   rw [List.flatMap_cons, List.getElem?_append_right (by rw [hf]; omega), hf, show (k + 1) * 2 + j - 2 = k * 2 + j by omega]
   exact flat2_get hf L k j x h hj
def encP2 (p : Int × Int) : List Value := [.int .i64 p.1, .int .i64 p.2]
def encW2 (p : Nat × Nat) : List Value := [.int .i64 p.1, .int .u8 p.2]
def flatP (L : List (Int × Int)) : List Value := L.flatMap encP2
def flatW (L : List (Nat × Nat)) : List Value := L.flatMap encW2
theorem flatP_snoc (L : List (Int × Int)) (p : Int × Int) : flatP (L ++ [p]) = flatP L ++ [.int .i64 p.1, .int .i64 p.2] := by simp [flatP, encP2]
theorem flatW_snoc (L : List (Nat × Nat)) (p : Nat × Nat) : flatW (L ++ [p]) = flatW L ++ [.int .i64 p.1, .int .u8 p.2] := by simp [flatW, encW2]

/-- elements of two cells of an own row -/
theorem row2_at {w : World} {base e : Nat} {v : Value} {α : Type} {f : α → List Value} (hf : ∀ x, (f x).length = 2) {L : List α} {k : Nat} {x : α} (h : w.ownsRow base e 2 v L.length (L.flatMap f)) (hk : L[k]? = some x) :
 ∃ g cap, v = .slice (some ⟨g, 0, none⟩) L.length cap ∧ L.length ≤ cap ∧ base ≤ g ∧ g < w.heap.size ∧ ∀ j u, (f x)[j]? = some u → w.cell? ⟨g, k * 2 + j, none⟩ = some u := by
 have hlt := (List.getElem?_eq_some_iff.1 hk).1
 rcases h.2 with ⟨-, h0⟩ | ⟨g, cap, cur, rfl, h1, h2, h3, -⟩
 · omega
 · refine ⟨g, cap, rfl, h3, h1, (Array.getElem?_eq_some_iff.1 h2).1, fun j u hu => ?_⟩
   have hj : j < 2 := by have := (List.getElem?_eq_some_iff.1 hu).1; rw [hf] at this; exact this
   have h0 := h.cells (g := g) rfl (k * 2 + j) u (by rw [flat2_get hf L k j x hk hj]; exact hu)
   by_cases hk0 : k * 2 + j = 0
   · rw [hk0] at h0 ⊢
     simpa [Addr.add] using h0
   · rw [Addr.add, if_neg hk0, Nat.zero_add] at h0
     exact h0
/-- the cells of a search: the two automata, the pairs, how they were reached, the map -/
def srchCells (tv : Value) (i j : Nat) (pv wv : Value) (mb : Nat) : Array Value := #[tv, .int .i64 i, tv, .int .i64 j, pv, wv, .map (some mb)]

/-- a search, while its fields lag behind: the rows pv, wv bear L, W; the map bears Lm; the fields bear p0, w0 -/
structure PGen (w wr : World) (tv : Value) (i j gs mb : Nat) (p0 w0 pv wv : Value) (L : List (Int × Int)) (W : List (Nat × Nat)) (Lm : List (Int × Int)) : Prop where
 st : wr.heap[gs]? = some (.cells (srchCells tv i j p0 w0 mb) 141)
 pairs : wr.ownsRow w.heap.size 143 2 pv L.length (flatP L)
 ways : wr.ownsRow w.heap.size 185 2 wv W.length (flatW W)
 map : ∃ n F, MapK encP wr mb n F ∧ ∀ x, (F x).isSome = decide (x.1 ∈ Lm)
 a1 : pv.ownBlock ≠ some gs
 a2 : wv.ownBlock ≠ some gs
 a3 : pv.ownBlock ≠ some mb
 a4 : wv.ownBlock ≠ some mb
 a5 : pv.ownBlock ≠ wv.ownBlock
 a6 : gs ≠ mb
 gs_lo : w.heap.size ≤ gs
 mb_lo : w.heap.size ≤ mb
 ext : Ext w wr

/-- a search -/
abbrev PSrch (w wr : World) (tv : Value) (i j gs mb : Nat) (pv wv : Value) (L : List (Int × Int)) (W : List (Nat × Nat)) : Prop := PGen w wr tv i j gs mb pv wv pv wv L W L

theorem PGen.next {w wr w' : World} {tv : Value} {i j gs mb : Nat} {p0 w0 pv wv : Value} {L Lm : List (Int × Int)} {W : List (Nat × Nat)} (h : PGen w wr tv i j gs mb p0 w0 pv wv L W Lm) (hE : Ext wr w') : PGen w w' tv i j gs mb p0 w0 pv wv L W Lm :=
 ⟨hs_ext hE h.st, ownsRow_ext h.pairs hE, ownsRow_ext h.ways hE, let ⟨n, F, h1, h2⟩ := h.map; ⟨n, F, h1.ext hE, h2⟩, h.a1, h.a2, h.a3, h.a4, h.a5, h.a6, h.gs_lo, h.mb_lo, h.ext.trans hE⟩

theorem PGen.cells {w wr : World} {tv : Value} {i j gs mb : Nat} {p0 w0 pv wv : Value} {L Lm : List (Int × Int)} {W : List (Nat × Nat)} (h : PGen w wr tv i j gs mb p0 w0 pv wv L W Lm) :
 wr.cell? ⟨gs, 0, none⟩ = some tv ∧ wr.cell? ⟨gs, 1, none⟩ = some (.int .i64 i) ∧ wr.cell? ⟨gs, 2, none⟩ = some tv ∧ wr.cell? ⟨gs, 3, none⟩ = some (.int .i64 j) ∧ wr.cell? ⟨gs, 4, none⟩ = some p0 ∧ wr.cell? ⟨gs, 5, none⟩ = some w0 ∧ wr.cell? ⟨gs, 6, none⟩ = some (.map (some mb)) := by
 have e : ∀ o, wr.cell? ⟨gs, o, none⟩ = (srchCells tv i j p0 w0 mb)[o]? := fun o => by simp [World.cell?, h.st]
 simp [e, srchCells]

theorem PGen.gs_lt {w wr : World} {tv : Value} {i j gs mb : Nat} {p0 w0 pv wv : Value} {L Lm : List (Int × Int)} {W : List (Nat × Nat)} (h : PGen w wr tv i j gs mb p0 w0 pv wv L W Lm) : gs < wr.heap.size := (Array.getElem?_eq_some_iff.1 h.st).1

theorem MapK.one {w : World} {b : Nat} (h : w.heap[b]? = some (.map #[{ key := .agg #[.int .i64 0, .int .i64 0], val := .int .i64 0, born := 0 }] 1)) : ∃ n F, MapK encP w b n F ∧ ∀ x : P64, (F x).isSome = decide (x.1 ∈ [((0 : Int), (0 : Int))]) := by
 have z : I64 0 := ⟨by omega, by omega⟩
 refine ⟨1, fun x => if x.1 = (0, 0) then some (.int .i64 0) else none, ⟨_, _, h, by simp, ?_, ?_, ?_⟩, ?_⟩
 · intro i e hi
   match i, hi with
   | 0, hi => simp at hi; subst hi; exact ⟨⟨(0, 0), z, z⟩, rfl⟩
   | i + 1, hi => simp at hi
 · intro i j e e' hi hj _
   have h1 := (Array.getElem?_eq_some_iff.1 hi).1
   have h2 := (Array.getElem?_eq_some_iff.1 hj).1
   simp at h1 h2
   omega
 · rintro ⟨⟨x, y⟩, hx, hy⟩
   by_cases h0 : (x, y) = (0, 0)
   · right
     refine ⟨0, _, rfl, ?_, by simp [h0]⟩
     simp at h0
     simp [encP, h0]
   · left
     refine ⟨by simp [h0], ?_⟩
     intro i e hi
     match i, hi with
     | 0, hi =>
       simp at hi; subst hi
       simp [encP]
       intro h1 h2
       exact h0 (by rw [← h1, ← h2])
     | i + 1, hi => simp at hi
 · intro x
   by_cases h0 : x.1 = (0, 0) <;> simp [h0]

theorem PSrch.start {w wz : World} {tv : Value} {i j gs mb g1 g2 : Nat} (hE : Ext w wz) (h1 : wz.heap[gs]? = some (.cells #[tv, .int .i64 i, tv, .int .i64 j, .slice (some ⟨g1, 0, none⟩) 1 1, .slice (some ⟨g2, 0, none⟩) 1 1, .map (some mb)] 141) ∧ w.heap.size ≤ gs)
 (h2 : wz.heap[g2]? = some (.cells #[.int .i64 0, .int .u8 0] 185) ∧ w.heap.size ≤ g2) (h3 : wz.heap[g1]? = some (.cells #[.int .i64 0, .int .i64 0] 143) ∧ w.heap.size ≤ g1)
 (h4 : wz.heap[mb]? = some (.map #[{ key := .agg #[.int .i64 0, .int .i64 0], val := .int .i64 0, born := 0 }] 1)) (h5 : w.heap.size ≤ mb) (n1 : gs ≠ g1) (n2 : gs ≠ g2) (n3 : gs ≠ mb) (n4 : g2 ≠ g1) (n5 : g2 ≠ mb) (n6 : g1 ≠ mb) :
 PSrch w wz tv i j gs mb (.slice (some ⟨g1, 0, none⟩) 1 1) (.slice (some ⟨g2, 0, none⟩) 1 1) [(0, 0)] [(0, 0)] :=
 ⟨h1.1, ⟨rfl, .inr ⟨g1, 1, _, rfl, h3.2, h3.1, by simp, by unfold maxLen; omega, rfl, rfl⟩⟩, ⟨rfl, .inr ⟨g2, 1, _, rfl, h2.2, h2.1, by simp, by unfold maxLen; omega, rfl, rfl⟩⟩, MapK.one h4,
  by simp [Value.ownBlock]; omega, by simp [Value.ownBlock]; omega, by simp [Value.ownBlock]; omega, by simp [Value.ownBlock]; omega, by simp [Value.ownBlock]; omega, n3, h1.2, h5, hE⟩

/-- all pairs are small -/
theorem levP_small {t : List Fmt} {F G : List Fld} (hF : F.length ≤ 100) (hG : G.length ≤ 100) {k : Nat} : ∀ x ∈ lev (stP t F G) (0, 0) k, 0 ≤ x.1 ∧ x.1 ≤ 40000000 ∧ 0 ≤ x.2 ∧ x.2 ≤ 40000000 := by
 have tk : ∀ (L : List (Int × Int)) (x : Int × Int) (b : Nat), b ≤ 255 → (∀ y ∈ L, 0 ≤ y.1 ∧ y.1 ≤ 40000000 ∧ 0 ≤ y.2 ∧ y.2 ≤ 40000000) → ∀ y ∈ tick (stP t F G) x L b, 0 ≤ y.1 ∧ y.1 ≤ 40000000 ∧ 0 ≤ y.2 ∧ y.2 ≤ 40000000 := by
  intro L x b hb hL y hy
  unfold tick at hy
  split at hy
  · exact hL y hy
  · rename_i n hn
    split at hy
    · exact hL y hy
    · rcases List.mem_append.1 hy with hy | hy
      · exact hL y hy
      · simp at hy
        subst hy
        unfold stP at hn
        split at hn
        · cases hn
        · cases hn
          have h1 := rStep_le (t := t) (s := x.1) hF hb
          have h2 := rStep_le (t := t) (s := x.2) hG hb
          simp only
          omega
 have rw' : ∀ (L : List (Int × Int)) (x : Int × Int) (c : Nat), c ≤ 256 → (∀ y ∈ L, 0 ≤ y.1 ∧ y.1 ≤ 40000000 ∧ 0 ≤ y.2 ∧ y.2 ≤ 40000000) → ∀ y ∈ rowS (stP t F G) L x c, 0 ≤ y.1 ∧ y.1 ≤ 40000000 ∧ 0 ≤ y.2 ∧ y.2 ≤ 40000000 := by
  intro L x c
  induction c with
  | zero => intro _ h; exact h
  | succ c ih => intro hc h; rw [rowS_succ]; exact tk _ _ _ (by omega) (ih (by omega) h)
 induction k with
 | zero => simp [lev]
 | succ k ih =>
   cases h : (lev (stP t F G) (0, 0) k)[k]? with
   | none => rw [lev_stuck h]; exact ih
   | some x => rw [lev_succ h]; exact rw' _ _ _ (by omega) ih

theorem exec_append_own {P : Program} {o : Oper} {a : Act} {w : World} (s x : Operand) (t : TypeId) (ho : o.op = .call { callee := .builtin .append, args := #[s, x], argTypes := #[t, t] })
 (base : Nat) (e : TypeId) (i : TypeInfo) (z : Value) (size bytes : Nat) (ht : P.underlying t = some (.slice e)) (hi : P.info? e = some i) (hz : i.zero = some z)
 (hsize : i.size = size) (hby : i.bytes = bytes) (hzs : z.cells.size = size) (hsz : 0 < size)
 (v : Value) (n : Nat) (xs : List Value) (hs : a.eval s = v) (hown : w.ownsRow base e size v n xs)
 (ad : Addr) (m c : Nat) (news : List Value) (hx : a.eval x = .slice (some ad) m c) (hl : news.length = m * size) (hnews : ∀ j u, news[j]? = some u → w.cell? (ad.add j) = some u) (h1 : ∀ u ∈ news, u.oneCell' = true)
 (h63 : n + m ≤ maxLen) (hbytes : (n + m) * bytes ≤ 140737488355328) (hbase : base ≤ w.heap.size) :
 ∃ v' w', (execOp a.eval o).run P w = .ok (.value v') w' ∧ w'.ownsRow base e size v' (n + m) (xs ++ news) ∧ w.grownBy w' v.ownBlock ∧ (v'.ownBlock = v.ownBlock ∨ v'.ownBlock = some w.heap.size) := by
 obtain ⟨v', w', hr, h2, h3, h4, h5⟩ := run_append_own_at (P := P) w base t o.type e i z size bytes ht hi hz hsize hby hzs hsz v n xs hown ad m c news hl hnews h1 h63 hbytes hbase
 refine ⟨v', w', ?_, h2, h3, h5⟩
 unfold execOp
 simp only [ho, resolve, invoke, builtin, Sem.run_bind, Sem.run_pure, Result.andThen_ok, List.map_toArray, List.map_cons, List.map_nil, hs, hx, hr]

theorem cells_two {w : World} {b : Nat} {x y : Value} {T : TypeId} (h : w.heap[b]? = some (.cells #[x, y] T)) : ∀ j u, [x, y][j]? = some u → w.cell? ((⟨b, 0, none⟩ : Addr).add j) = some u := by
 intro j u hj
 have hc : w.cell? ⟨b, j, none⟩ = some u := by simp [World.cell?, h]; simpa using hj
 unfold Addr.add
 split
 · rename_i h0; subst h0; exact hc
 · simpa using hc

theorem PGen.app1 {w wr : World} {tv : Value} {i j gs mb : Nat} {p0 w0 pv wv : Value} {L Lm : List (Int × Int)} {W : List (Nat × Nat)} (h : PGen w wr tv i j gs mb p0 w0 pv wv L W Lm) {n1 n2 : Int} {fb : Nat} (hfb : wr.heap[fb]? = some (.cells #[.int .i64 n1, .int .i64 n2] 143))
 {o : Oper} {a : Act} {s x : Operand} (ho : o.op = .call { callee := .builtin .append, args := #[s, x], argTypes := #[137, 137] }) (hs : a.eval s = pv) (hx : a.eval x = .slice (some ⟨fb, 0, none⟩) 1 1) (hlen : L.length ≤ 30000) :
 ∃ v' w', (execOp a.eval o).run Tryz.prog wr = .ok (.value v') w' ∧ PGen w w' tv i j gs mb p0 w0 v' wv (L ++ [(n1, n2)]) W Lm ∧ wr.grownBy w' pv.ownBlock ∧ (v'.ownBlock = pv.ownBlock ∨ v'.ownBlock = some wr.heap.size) := by
 obtain ⟨i0, hi, hz0, hz1, hz2⟩ := info_parts inf53
 obtain ⟨v', w', h1, h2, h3, h4⟩ := exec_append_own s x 137 ho w.heap.size 143 i0 (.agg #[.int .i64 0, .int .i64 0]) 2 16 Tryz.underlying137 hi hz0 hz1 hz2 rfl (by decide) pv L.length (flatP L) hs h.pairs ⟨fb, 0, none⟩ 1 1 [.int .i64 n1, .int .i64 n2] hx rfl (cells_two hfb)
  (fun u hu => by simp at hu; rcases hu with rfl | rfl <;> rfl) (by unfold maxLen; omega) (by omega) h.ext.size
 have hgs := h.gs_lt
 have hwl := h.ways.lt
 obtain ⟨mn, MF, hM, hMF⟩ := h.map
 have hml := hM.lt
 refine ⟨v', w', h1, ⟨?_, ?_, ?_, ⟨mn, MF, hM.same (h3.block mb hml (fun e => h.a3 e.symm)), hMF⟩, ?_, h.a2, ?_, h.a4, ?_, h.a6, h.gs_lo, h.mb_lo, h.ext.grown h3 (fun k hk => (h.pairs.lt k hk).1)⟩, h3, h4⟩
 · rw [h3.block gs hgs (fun e => h.a1 e.symm)]; exact h.st
 · rw [flatP_snoc]; simpa using h2
 · exact ownsRow_same h.ways (fun g hg => h3.block g (hwl g hg).2 (fun e => h.a5 (by rw [← e, hg])))
 · rcases h4 with e | e
   · rw [e]; exact h.a1
   · rw [e]; simp; omega
 · rcases h4 with e | e
   · rw [e]; exact h.a3
   · rw [e]; simp; omega
 · rcases h4 with e | e
   · rw [e]; exact h.a5
   · rw [e]; intro e2; have := (hwl _ e2.symm).2; omega

theorem PGen.app2 {w wr : World} {tv : Value} {i j gs mb : Nat} {p0 w0 pv wv : Value} {L Lm : List (Int × Int)} {W : List (Nat × Nat)} (h : PGen w wr tv i j gs mb p0 w0 pv wv L W Lm) {n1 n2 : Nat} {fb : Nat} (hfb : wr.heap[fb]? = some (.cells #[.int .i64 n1, .int .u8 n2] 185))
 {o : Oper} {a : Act} {s x : Operand} (ho : o.op = .call { callee := .builtin .append, args := #[s, x], argTypes := #[138, 138] }) (hs : a.eval s = wv) (hx : a.eval x = .slice (some ⟨fb, 0, none⟩) 1 1) (hlen : W.length ≤ 30000) :
 ∃ v' w', (execOp a.eval o).run Tryz.prog wr = .ok (.value v') w' ∧ PGen w w' tv i j gs mb p0 w0 pv v' L (W ++ [(n1, n2)]) Lm ∧ wr.grownBy w' wv.ownBlock ∧ (v'.ownBlock = wv.ownBlock ∨ v'.ownBlock = some wr.heap.size) := by
 obtain ⟨i0, hi, hz0, hz1, hz2⟩ := info_parts inf106
 obtain ⟨v', w', h1, h2, h3, h4⟩ := exec_append_own s x 138 ho w.heap.size 185 i0 (.agg #[.int .i64 0, .int .u8 0]) 2 16 Tryz.underlying138 hi hz0 hz1 hz2 rfl (by decide) wv W.length (flatW W) hs h.ways ⟨fb, 0, none⟩ 1 1 [.int .i64 n1, .int .u8 n2] hx rfl (cells_two hfb)
  (fun u hu => by simp at hu; rcases hu with rfl | rfl <;> rfl) (by unfold maxLen; omega) (by omega) h.ext.size
 have hgs := h.gs_lt
 have hpl := h.pairs.lt
 obtain ⟨mn, MF, hM, hMF⟩ := h.map
 have hml := hM.lt
 refine ⟨v', w', h1, ⟨?_, ?_, ?_, ⟨mn, MF, hM.same (h3.block mb hml (fun e => h.a4 e.symm)), hMF⟩, h.a1, ?_, h.a3, ?_, ?_, h.a6, h.gs_lo, h.mb_lo, h.ext.grown h3 (fun k hk => (h.ways.lt k hk).1)⟩, h3, h4⟩
 · rw [h3.block gs hgs (fun e => h.a2 e.symm)]; exact h.st
 · exact ownsRow_same h.pairs (fun g hg => h3.block g (hpl g hg).2 (fun e => h.a5 (by rw [← e, hg])))
 · rw [flatW_snoc]; simpa using h2
 · rcases h4 with e | e
   · rw [e]; exact h.a2
   · rw [e]; simp; omega
 · rcases h4 with e | e
   · rw [e]; exact h.a4
   · rw [e]; simp; omega
 · rcases h4 with e | e
   · rw [e]; exact h.a5
   · rw [e]; intro e2; have := (hpl _ e2).2; omega

/-- the fields follow -/
theorem PGen.set1 {w wr : World} {tv : Value} {i j gs mb : Nat} {p0 w0 pv wv : Value} {L Lm : List (Int × Int)} {W : List (Nat × Nat)} (h : PGen w wr tv i j gs mb p0 w0 pv wv L W Lm) : PGen w (wr.setCell ⟨gs, 4, none⟩ pv) tv i j gs mb pv w0 pv wv L W Lm := by
 have hb : ∀ k, k ≠ gs → (wr.setCell ⟨gs, 4, none⟩ pv).heap[k]? = wr.heap[k]? := fun k hk => heap_setCell_other _ _ _ _ hk
 obtain ⟨mn, MF, hM, hMF⟩ := h.map
 refine ⟨?_, ownsRow_same h.pairs (fun g hg => hb g (fun e => h.a1 (by rw [hg, e]))), ownsRow_same h.ways (fun g hg => hb g (fun e => h.a2 (by rw [hg, e]))), ⟨mn, MF, hM.same (hb mb (fun e => h.a6 e.symm)), hMF⟩, h.a1, h.a2, h.a3, h.a4, h.a5, h.a6, h.gs_lo, h.mb_lo, ?_⟩
 · rw [heap_setCell_same _ _ _ _ _ _ h.st]; rfl
 · exact ⟨h.ext.os, h.ext.tape, h.ext.output, by simpa using h.ext.size, fun k hk => by rw [hb k (by have := h.gs_lo; omega)]; exact h.ext.block hk⟩
theorem PGen.set2 {w wr : World} {tv : Value} {i j gs mb : Nat} {p0 w0 pv wv : Value} {L Lm : List (Int × Int)} {W : List (Nat × Nat)} (h : PGen w wr tv i j gs mb p0 w0 pv wv L W Lm) : PGen w (wr.setCell ⟨gs, 5, none⟩ wv) tv i j gs mb p0 wv pv wv L W Lm := by
 have hb : ∀ k, k ≠ gs → (wr.setCell ⟨gs, 5, none⟩ wv).heap[k]? = wr.heap[k]? := fun k hk => heap_setCell_other _ _ _ _ hk
 obtain ⟨mn, MF, hM, hMF⟩ := h.map
 refine ⟨?_, ownsRow_same h.pairs (fun g hg => hb g (fun e => h.a1 (by rw [hg, e]))), ownsRow_same h.ways (fun g hg => hb g (fun e => h.a2 (by rw [hg, e]))), ⟨mn, MF, hM.same (hb mb (fun e => h.a6 e.symm)), hMF⟩, h.a1, h.a2, h.a3, h.a4, h.a5, h.a6, h.gs_lo, h.mb_lo, ?_⟩
 · rw [heap_setCell_same _ _ _ _ _ _ h.st]; rfl
 · exact ⟨h.ext.os, h.ext.tape, h.ext.output, by simpa using h.ext.size, fun k hk => by rw [hb k (by have := h.gs_lo; omega)]; exact h.ext.block hk⟩
/-- the map bears one more -/
theorem PGen.put {w wr : World} {tv : Value} {i j gs mb : Nat} {p0 w0 pv wv : Value} {L Lm : List (Int × Int)} {W : List (Nat × Nat)} (h : PGen w wr tv i j gs mb p0 w0 pv wv L W Lm) (nk : P64) (v : Value) : ∃ ob, (Instr.mapUpdate 139 (.map (some mb)) (encP nk) v).run Tryz.prog wr = .ok () (ChangeMaps.setBlock wr mb ob) ∧
 PGen w (ChangeMaps.setBlock wr mb ob) tv i j gs mb p0 w0 pv wv L W (Lm ++ [nk.1]) := by
 obtain ⟨mn, MF, hM, hMF⟩ := h.map
 obtain ⟨ob, hup, hF⟩ := hM.update law53 key53 encP_inj Tryz.underlying139 nk v
 refine ⟨ob, hup, by rw [turned_block h.a6]; exact h.st, ownsRow_same h.pairs (fun g hg => turned_block (fun e => h.a3 (by rw [hg, e]))), ownsRow_same h.ways (fun g hg => turned_block (fun e => h.a4 (by rw [hg, e]))),
  ⟨_, fun y => if y = nk then some v else MF y, hF _ (by simp) (fun y hy => by simp [hy]), fun x => ?_⟩, h.a1, h.a2, h.a3, h.a4, h.a5, h.a6, h.gs_lo, h.mb_lo, h.ext.turned h.mb_lo⟩
 by_cases hx : x = nk
 · subst hx; simp
 · simp only [hx, if_false, hMF]
   have : x.1 ≠ nk.1 := fun e => hx (Subtype.ext e)
   simp [this]

/-- what holds while two rows grow, by the acts that have run -/
def AppI (w : World) (tv : Value) (i j gs mb : Nat) (pv wv : Value) (L : List (Int × Int)) (W : List (Nat × Nat)) (n : Int × Int) (q : Nat × Nat) (pb nb : Nat) (oP oN : Obj) (vs : List Value) (w' : World) : Prop :=
 w'.heap[nb]? = some oN ∧ w'.heap[pb]? = some oP ∧
 match vs with
 | [] => PGen w w' tv i j gs mb pv wv pv wv L W (L ++ [n])
 | [v1] => PGen w w' tv i j gs mb pv wv v1 wv (L ++ [n]) W (L ++ [n]) ∧ v1.ownBlock ≠ some pb
 | [v1, v2] => PGen w w' tv i j gs mb pv wv v1 v2 (L ++ [n]) (W ++ [q]) (L ++ [n]) ∧ v1.ownBlock ≠ some pb ∧ v2.ownBlock ≠ some pb
 | [v1, v2, _] => PGen w w' tv i j gs mb v1 wv v1 v2 (L ++ [n]) (W ++ [q]) (L ++ [n]) ∧ v1.ownBlock ≠ some pb ∧ v2.ownBlock ≠ some pb
 | [v1, v2, _, _] => PGen w w' tv i j gs mb v1 v2 v1 v2 (L ++ [n]) (W ++ [q]) (L ++ [n]) ∧ v1.ownBlock ≠ some pb ∧ v2.ownBlock ≠ some pb
 | _ => False

theorem AppI.ext {w : World} {tv : Value} {i j gs mb : Nat} {pv wv : Value} {L : List (Int × Int)} {W : List (Nat × Nat)} {n : Int × Int} {q : Nat × Nat} {pb nb : Nat} {oP oN : Obj} (vs : List Value) (w1 w2 : World)
 (h : AppI w tv i j gs mb pv wv L W n q pb nb oP oN vs w1) (hE : Ext w1 w2) : AppI w tv i j gs mb pv wv L W n q pb nb oP oN vs w2 := by
 obtain ⟨h1, h2, h3⟩ := h
 refine ⟨hs_ext hE h1, hs_ext hE h2, ?_⟩
 match vs, h3 with
 | [], h3 => exact PGen.next h3 hE
 | [v1], h3 => exact ⟨PGen.next h3.1 hE, h3.2⟩
 | [v1, v2], h3 => exact ⟨PGen.next h3.1 hE, h3.2⟩
 | [v1, v2, _], h3 => exact ⟨PGen.next h3.1 hE, h3.2⟩
 | [v1, v2, _, _], h3 => exact ⟨PGen.next h3.1 hE, h3.2⟩

theorem PGen.app1_act {w wr : World} {tv : Value} {i j gs mb : Nat} {p0 w0 pv wv : Value} {L Lm : List (Int × Int)} {W : List (Nat × Nat)} (h : PGen w wr tv i j gs mb p0 w0 pv wv L W Lm) {n1 n2 : Int} {fb B : Nat} (hfb : wr.heap[fb]? = some (.cells #[.int .i64 n1, .int .i64 n2] 143))
 {o : Oper} {a : Act} {s x : Operand} (ho : o.op = .call { callee := .builtin .append, args := #[s, x], argTypes := #[137, 137] }) (hs : a.eval s = pv) (hx : a.eval x = .slice (some ⟨fb, 0, none⟩) 1 1) (hlen : L.length ≤ 30000) (hB : ∀ k, pv.ownBlock = some k → k < B) {R : Value → World → Prop}
 (hR : ∀ v' w', PGen w w' tv i j gs mb p0 w0 v' wv (L ++ [(n1, n2)]) W Lm → wr.grownBy w' pv.ownBlock → (v'.ownBlock = pv.ownBlock ∨ v'.ownBlock = some wr.heap.size) → R v' w') :
 ∃ x v w', (execOp a.eval o).run Tryz.prog wr = .ok x w' ∧ (x = .value v ∨ x = .skip ∧ v = undef) ∧ ActExt B wr w' ∧ R v w' := by
 obtain ⟨v', w', h1, h2, h3, h4⟩ := h.app1 hfb ho hs hx hlen
 exact ⟨_, v', w', h1, .inl rfl, ⟨h3.size, fun b hb hb2 => h3.block b hb2 (fun e => by have := hB b e.symm; omega)⟩, hR v' w' h2 h3 h4⟩
theorem PGen.app2_act {w wr : World} {tv : Value} {i j gs mb : Nat} {p0 w0 pv wv : Value} {L Lm : List (Int × Int)} {W : List (Nat × Nat)} (h : PGen w wr tv i j gs mb p0 w0 pv wv L W Lm) {n1 n2 : Nat} {fb B : Nat} (hfb : wr.heap[fb]? = some (.cells #[.int .i64 n1, .int .u8 n2] 185))
 {o : Oper} {a : Act} {s x : Operand} (ho : o.op = .call { callee := .builtin .append, args := #[s, x], argTypes := #[138, 138] }) (hs : a.eval s = wv) (hx : a.eval x = .slice (some ⟨fb, 0, none⟩) 1 1) (hlen : W.length ≤ 30000) (hB : ∀ k, wv.ownBlock = some k → k < B) {R : Value → World → Prop}
 (hR : ∀ v' w', PGen w w' tv i j gs mb p0 w0 pv v' L (W ++ [(n1, n2)]) Lm → wr.grownBy w' wv.ownBlock → (v'.ownBlock = wv.ownBlock ∨ v'.ownBlock = some wr.heap.size) → R v' w') :
 ∃ x v w', (execOp a.eval o).run Tryz.prog wr = .ok x w' ∧ (x = .value v ∨ x = .skip ∧ v = undef) ∧ ActExt B wr w' ∧ R v w' := by
 obtain ⟨v', w', h1, h2, h3, h4⟩ := h.app2 hfb ho hs hx hlen
 exact ⟨_, v', w', h1, .inl rfl, ⟨h3.size, fun b hb hb2 => h3.block b hb2 (fun e => by have := hB b e.symm; omega)⟩, hR v' w' h2 h3 h4⟩

theorem ownsRow_lower {w : World} {base base' size n : Nat} {e : TypeId} {v : Value} {xs : List Value} (h : w.ownsRow base e size v n xs) (hb : base' ≤ base) : w.ownsRow base' e size v n xs := by
 refine ⟨h.1, ?_⟩
 rcases h.2 with h | ⟨g, cap, cur, rfl, h1, h2⟩
 · exact .inl h
 · exact .inr ⟨g, cap, cur, rfl, Nat.le_trans hb h1, h2⟩
theorem PGen.lower {w0 w wr : World} {tv : Value} {i j gs mb : Nat} {p0 w1 pv wv : Value} {L Lm : List (Int × Int)} {W : List (Nat × Nat)} (h : PGen w wr tv i j gs mb p0 w1 pv wv L W Lm) (hE : Ext w0 w) : PGen w0 wr tv i j gs mb p0 w1 pv wv L W Lm :=
 ⟨h.st, ownsRow_lower h.pairs hE.size, ownsRow_lower h.ways hE.size, h.map, h.a1, h.a2, h.a3, h.a4, h.a5, h.a6, Nat.le_trans hE.size h.gs_lo, Nat.le_trans hE.size h.mb_lo, hE.trans h.ext⟩

/-- what a search through pairs answers -/
def ExploreR (w w' : World) (tv : Value) (i j : Nat) (f : Int × Int → Nat → Option (Int × Int)) (p : Value) (er : Int) : Prop :=
 (Over f (0, 0) ∧ p = .pointer none ∧ er = 3) ∨ ∃ gs mb pv wv L Ws, Full f (0, 0) L ∧ L.length ≤ 20000 ∧ Ways f L Ws ∧ er = 0 ∧ p = .pointer (some ⟨gs, 0, none⟩) ∧ PSrch w w' tv i j gs mb pv wv L Ws

end Go.Proofs.YtfaienbdebjfcaaGreat
