/- A strings.Builder that the call has made: what it holds; the writers. Values of formats: in memory, valid, their bytes (plain). Contracts: the chooser of codec. -/
import Derived.Test.YtfaienbdebjfcaaGreatGO
import Derived.Test.YtfaienbdebjfcaaGreatG5
import Derived.Test.YtfaienbdebjfcaaGreatYQ
import Derived.Lib.OthersKept
import Derived.Lib.FrozenHead
import Derived.Lib.FrozenHead2
import Derived.Lib.VarintMem
import Derived.Test.YtfaienbdebjfcaaGreatG9
import Derived.Test.YtfaienbdebjfcaaGreatH1
import Derived.Test.YtfaienbdebjfcaaGreatGH
namespace Go.Proofs.YtfaienbdebjfcaaGreat
open Go Go.RowKit Go.Shelf
set_option linter.unusedVariables false
set_option linter.unusedSimpArgs false

/-- block b is a builder that holds the bytes l -/
def Bu (w : World) (B b : Nat) (l : List UInt8) : Prop := Lib.IsBuilderF 151 5 B b (Lib.byteCells l) w
section
variable {w w' : World} {B b : Nat} {l : List UInt8}
theorem Bu.keep (h : Bu w B b l) (hk : ∀ k, k = b ∨ (∃ c fz, w.heap[k]? = some (.cells c 5 fz)) → w'.heap[k]? = w.heap[k]?) : Bu w' B b l := by
 have key : ∀ p, Lib.BuilderAtF 151 5 B b p (Lib.byteCells l) w → Lib.BuilderAtF 151 5 B b p (Lib.byteCells l) w' := by
  rintro p ⟨hB, v, hb, hown, hne⟩
  refine ⟨hB, v, (hk b (.inl rfl)).trans hb, ?_, hne⟩
  obtain ⟨h1, h2⟩ := hown
  refine ⟨h1, ?_⟩
  rcases h2 with h2 | ⟨g, cap, cur, fz, e, hb', hg, h3⟩
  · exact .inl h2
  · exact .inr ⟨g, cap, cur, fz, e, hb', (hk g (.inr ⟨cur, fz, hg⟩)).trans hg, h3⟩
 rcases h with h | h
 · exact .inl (key _ h)
 · exact .inr (key _ h)
theorem Bu.lt (h : Bu w B b l) : b < w.heap.size := by
 rcases h with h | h
 · exact h.lt
 · exact h.lt
theorem Bu.low (h : Bu w B b l) : B ≤ b := by
 rcases h with h | h
 · exact h.1
 · exact h.1
theorem Bu.ext (h : Bu w B b l) (hE : Ext w w') : Bu w' B b l := h.keep fun k hk => by
 rcases hk with rfl | ⟨c, fz, hc⟩
 · exact hE.block h.lt
 · exact hE.block (Array.getElem?_eq_some_iff.1 hc).1
theorem Bu.fresh (w : World) : Bu (w.alloc (.cells #[.pointer none, .slice none 0 0] 151)) w.heap.size w.heap.size [] := by
 refine .inl ⟨Nat.le_refl _, .slice none 0 0, by rw [hs_new], World.ownsRowF_nil _ _ _ _, by simp [Value.ownBlock]⟩
/-- a write's frame: other blocks that are no bytes stay -/
structure Wrote (B b : Nat) (w w' : World) : Prop where
 below : Below B w w'
 kept : ∀ k, k ≠ b → k < w.heap.size → (∀ c fz, w.heap[k]? ≠ some (.cells c 5 fz)) → w'.heap[k]? = w.heap[k]?
theorem Wrote.of {w w' : World} (h : Below B w w') (hk : Lib.OthersKept 5 (some b) w w') : Wrote B b w w' := ⟨h, fun k h1 h2 h3 => by
 have e : w.heap[k]? = some w.heap[k] := Array.getElem?_eq_getElem h2
 rw [e]
 exact hk k _ e (fun e => h1 (Option.some.inj e)) (fun c fz e' => h3 c fz (by rw [e, e']))⟩
end

theorem sizeBu : (Tryz.prog.info? 151).map (·.size) = some 2 := by kernel_rfl
theorem liesBu : liesAt Tryz.prog Tryz.prog.depth 151 (2 / Tryz.prog.cellsOf 151) 0 151 1 = true := by kernel_rfl

set_option maxHeartbeats 1000000 in
set_option maxRecDepth 100000 in
theorem copyCheck_any {w : World} {B b : Nat} {l : List UInt8} (h : Bu w B b l) :
 Calls Tryz.prog 109 #[.pointer (some ⟨b, 0, none⟩)] w fun e w' => e = .returned (.tuple #[]) ∧ Lib.BuilderAtF 151 5 B b (.pointer (some ⟨b, 0, none⟩)) (Lib.byteCells l) w' ∧ Below B w w' ∧ Lib.OthersKept 5 (some b) w w' := by
 rcases h with h | h
 · have c0 := h.cell0
   have f0 := h.frozen0
   have sh := h.shape
   have hlow := h.1
   obtain ⟨j, hj, hjs⟩ := Option.map_eq_some_iff.1 sizeBu
   go_enter Tryz.func109, Tryz.ntmps109
   go_wp2
   rw [Lib.run_to_unsafe w ⟨b, 0, none⟩ Tryz.underlying149 Tryz.underlying208 hj (by rw [hjs]; decide) sh (Nat.zero_lt_succ 1)]
   simp only [Result.andThen]
   rw [Oper.upon_value]
   go_wp2
   rw [run_callFunc_extern Tryz.func125 (by kernel_rfl) (by kernel_rfl) (by kernel_rfl) (e := Extern.AbiNoEscape.same) (by kernel_rfl)]
   rw [Lib.run_noEscape]
   simp only [Result.andThen]
   rw [Oper.upon_value]
   go_wp2
   rw [Lib.run_from_unsafe w ⟨b, 0, none⟩ Tryz.underlying208 Tryz.underlying149 hj sh liesBu]
   simp only [Result.andThen]
   rw [Oper.upon_value]
   go_wp2
   go_end0
   exact ⟨rfl, h.used _, (Below.refl B w).setCell (p := ⟨b, 0, none⟩) hlow _, (Lib.OthersKept.refl _ _ w).setCell ⟨b, 0, none⟩ rfl _⟩
 · have c0 := h.cell0
   obtain ⟨j, hj, hjs⟩ := Option.map_eq_some_iff.1 sizeBu
   go_enter Tryz.func109, Tryz.ntmps109
   go_wp2
   rw [Lib.run_neq_ptr_same w _ Tryz.underlying149 hj]
   go_wp2
   go_end0
   exact ⟨rfl, h, Below.refl B _, Lib.OthersKept.refl _ _ _⟩

theorem infoU8 : (Tryz.prog.info? 5).map (fun i => (i.zero, i.size, i.bytes)) = some (some (.int .u8 0), 1, 1) := by kernel_rfl

set_option maxHeartbeats 2000000 in
set_option maxRecDepth 100000 in
theorem writeStr_k {w : World} {B b : Nat} {l : List UInt8} {s : ByteArray} (h : Bu w B b l) (hlen : l.length + s.size ≤ 1000000) (hBw : B ≤ w.heap.size) :
 Calls Tryz.prog 76 #[.pointer (some ⟨b, 0, none⟩), .string s] w fun e w' => e = .returned (.tuple #[.int .i64 s.size, .nilIface]) ∧ Bu w' B b (l ++ s.data.toList) ∧ Below B w w' ∧ Lib.OthersKept 5 (some b) w w' := by
 obtain ⟨i0, hi, hz0, hz1, hz2⟩ := info_parts infoU8
 go_enter Tryz.func76, Tryz.ntmps76
 go_wp2_with (go_at_call 109; refine (copyCheck_any h).mono ?_)
 rintro e w1 ⟨rfl, h1, hb1, hk1⟩
 obtain ⟨hB, v, hbk, hown, hne⟩ := h1
 have c0 : w1.cell? ⟨b, 0, none⟩ = some (.pointer (some ⟨b, 0, none⟩)) := by rw [Lib.cell_of_heap hbk]; rfl
 have c1 : w1.cell? ⟨b, 1, none⟩ = some v := by rw [Lib.cell_of_heap hbk]; rfl
 have hlen' : (Lib.byteCells l).length + s.size ≤ 1000000 := by rw [Lib.byteCells_length]; exact hlen
 go_wp2_with (at_builtin; refine Lib.wpList_append_own_stringF _ rfl _ _ 23 9 rfl B 5 i0 Tryz.underlying23 Tryz.underlying9 hi hz0 hz1 hz2 _ _ _ rfl hown s rfl ?c3 ?c4 ?c5 ?_)
 case c3 => unfold maxLen; omega
 case c4 => omega
 case c5 => have := hb1.size; omega
 intro v' w2 hown' hgrow _
 have hlt : b < w1.heap.size := by
  rcases Nat.lt_or_ge b w1.heap.size with h' | h'
  · exact h'
  · simp [Array.getElem?_eq_none h'] at hbk
 have hb2 : w2.heap[b]? = some (.cells #[.pointer (some ⟨b, 0, none⟩), v] 151 (0, 0)) := by
  rw [hgrow.block b hlt (fun e => hne e.symm)]
  exact hbk
 have d0 : w2.cell? ⟨b, 0, none⟩ = some (.pointer (some ⟨b, 0, none⟩)) := by rw [Lib.cell_of_heap hb2]; rfl
 have d1 : w2.cell? ⟨b, 1, none⟩ = some v := by rw [Lib.cell_of_heap hb2]; rfl
 have f1 : w2.frozen? ⟨b, 1, none⟩ = false := Lib.frozen_of_heap hb2 1
 obtain ⟨ao, n', cap, rfl⟩ : ∃ ao n' cap, v' = .slice ao n' cap := by
  rcases hown'.2 with ⟨hv, _⟩ | ⟨g, cap, cur, fz, hv, _⟩
  · exact ⟨_, _, _, hv⟩
  · exact ⟨_, _, _, hv⟩
 go_wp2
 go_ret2
 refine ⟨rfl, .inr ?_, ?_, (hk1.grown hgrow (Lib.ownsRowF_kind hown)).setCell ⟨b, 1, none⟩ rfl _⟩
 · rw [Lib.byteCells_append, ← Lib.strCells_eq]
   exact Lib.BuilderAtF.put (T := 151) (e := 5) hB hb2 (bs' := Lib.byteCells l ++ Lib.strCells s) (by simpa [Lib.strCells_length] using hown') (by decide)
 · exact (hb1.grown hgrow (by have := hb1.size; omega) (fun k hk => (hown.lt k hk).1)).setCell (p := ⟨b, 1, none⟩) hB _
theorem writeStr_any {w : World} {B b : Nat} {l : List UInt8} {s : ByteArray} (h : Bu w B b l) (hlen : l.length + s.size ≤ 1000000) (hBw : B ≤ w.heap.size) :
 Calls Tryz.prog 76 #[.pointer (some ⟨b, 0, none⟩), .string s] w fun e w' => e = .returned (.tuple #[.int .i64 s.size, .nilIface]) ∧ Bu w' B b (l ++ s.data.toList) ∧ Wrote B b w w' :=
 (writeStr_k h hlen hBw).mono fun e w' ⟨h1, h2, h3, h4⟩ => ⟨h1, h2, .of h3 h4⟩
theorem buStr_any {w : World} {B b : Nat} {l : List UInt8} (h : Bu w B b l) (hBw : B ≤ w.heap.size) :
 Calls Tryz.prog 78 #[.pointer (some ⟨b, 0, none⟩)] w fun e w' => e = .returned (.string ⟨l.toArray⟩) ∧ Bu w' B b l ∧ Wrote B b w w' :=
 (Tryz.Builder_String_any_k B b l w h hBw).mono fun e w' ⟨h1, h2, h3, h4⟩ => ⟨h1, h2, .of h3 h4⟩
set_option maxHeartbeats 2000000 in
set_option maxRecDepth 100000 in
theorem writeByte_any {w : World} {B b : Nat} {l : List UInt8} {k : Nat} (hk : k < 256) (h : Bu w B b l) (hlen : l.length ≤ 1000000) (hBw : B ≤ w.heap.size) :
 Calls Tryz.prog 77 #[.pointer (some ⟨b, 0, none⟩), .int .u8 k] w fun e w' => e = .returned .nilIface ∧ Bu w' B b (l ++ [k.toUInt8]) ∧ Wrote B b w w' := by
 obtain ⟨i0, hi, hz0, hz1, hz2⟩ := info_parts infoU8
 go_enter Tryz.func77, Tryz.ntmps77
 go_wp2_with (go_at_call 109; refine (copyCheck_any h).mono ?_)
 rintro e w1 ⟨rfl, h1, hb1, hk1⟩
 obtain ⟨hB, v, hbk, hown, hne⟩ := h1
 have c0 : w1.cell? ⟨b, 0, none⟩ = some (.pointer (some ⟨b, 0, none⟩)) := by rw [Lib.cell_of_heap hbk]; rfl
 have c1 : w1.cell? ⟨b, 1, none⟩ = some v := by rw [Lib.cell_of_heap hbk]; rfl
 go_wp2_with (at_builtin; refine wpList_append_ownF _ rfl _ _ 23 rfl B 5 i0 (.int .u8 0) 1 1 Tryz.underlying23 hi hz0 hz1 hz2 rfl (by decide) _ _ _ rfl (hown.alloc _) ⟨w1.heap.size, 0, none⟩ 1 1 [.int .u8 k] rfl rfl ?c1 ?c2 ?c3 ?c4 ?c5 ?_)
 case c1 =>
  intro j u hj
  match j, hj with
  | 0, hj => simp at hj; subst hj; simp [Addr.add]
 case c2 => intro u hu; simp at hu; subst hu; rfl
 case c3 => rw [Lib.byteCells_length]; unfold maxLen; omega
 case c4 => rw [Lib.byteCells_length]; omega
 case c5 => have := hb1.size; simp; omega
 intro v' w2 hown' hgrow _
 have hlt : b < w1.heap.size := by
  rcases Nat.lt_or_ge b w1.heap.size with h' | h'
  · exact h'
  · simp [Array.getElem?_eq_none h'] at hbk
 have hb2 : w2.heap[b]? = some (.cells #[.pointer (some ⟨b, 0, none⟩), v] 151 (0, 0)) := by
  rw [hgrow.block b (by simp; omega) (fun e => hne e.symm), Lib.alloc_old w1 _ b hlt]
  exact hbk
 have d0 : w2.cell? ⟨b, 0, none⟩ = some (.pointer (some ⟨b, 0, none⟩)) := by rw [Lib.cell_of_heap hb2]; rfl
 have d1 : w2.cell? ⟨b, 1, none⟩ = some v := by rw [Lib.cell_of_heap hb2]; rfl
 have f1 : w2.frozen? ⟨b, 1, none⟩ = false := Lib.frozen_of_heap hb2 1
 obtain ⟨ao, n', cap, rfl⟩ : ∃ ao n' cap, v' = .slice ao n' cap := by
  rcases hown'.2 with ⟨hv, _⟩ | ⟨g, cap, cur, fz, hv, _⟩
  · exact ⟨_, _, _, hv⟩
  · exact ⟨_, _, _, hv⟩
 go_wp2
 go_ret
 refine ⟨rfl, .inr ?_, .of ?_ ?_⟩
 · rw [Lib.byteCells_snoc l hk]
   exact Lib.BuilderAtF.put (T := 151) (e := 5) hB hb2 (by simpa using hown') (by decide)
 · exact ((hb1.alloc (by have := hb1.size; omega) _).grown hgrow (by have := hb1.size; simp; omega) (fun k hk => (hown.lt k hk).1)).setCell (p := ⟨b, 1, none⟩) hB _
 · exact ((hk1.alloc _).grown hgrow (Lib.ownsRowF_kind (hown.alloc _))).setCell ⟨b, 1, none⟩ rfl _
end Go.Proofs.YtfaienbdebjfcaaGreat

namespace Go.Proofs.YtfaienbdebjfcaaGreat
open Go Go.RowKit
set_option linter.unusedVariables false
set_option linter.unusedSimpArgs false

/-- a value: bytes, a number, kids -/
inductive Vl where | mk (bytes : ByteArray) (num : Int) (kids : List Vl)
def Vl.bytes : Vl → ByteArray | .mk b _ _ => b
def Vl.num : Vl → Int | .mk _ n _ => n
def Vl.kids : Vl → List Vl | .mk _ _ k => k
def zeroVl : Vl := .mk ⟨#[]⟩ 0 []
/-- values whose kids are of a kind -/
def elVk (E : Elm Vl) : Elm Vl where
 n := 3
 R w S x cs := ∃ a cap, cs = [.string x.bytes, .int .i64 x.num, .slice a x.kids.length cap] ∧ x.bytes.size ≤ maxLen ∧ I64 x.num ∧ LsG E w S (.slice a x.kids.length cap) x.kids
 len := by rintro w S x cs ⟨a, cap, rfl, -⟩; rfl
 one := by
  rintro w S x cs ⟨a, cap, rfl, -⟩ u hu
  simp at hu
  rcases hu with rfl | rfl | rfl <;> rfl
 keep := by
  rintro w w' S S' x cs ⟨a, cap, rfl, h1, h2, h⟩ h3 h4
  exact ⟨a, cap, rfl, h1, h2, h.hold h3 h4⟩
/-- no values -/
def elE : Elm Vl where
 n := 3
 R w S x cs := False
 len := by rintro w S x cs h; exact h.elim
 one := by rintro w S x cs h; exact h.elim
 keep := by rintro w w' S S' x cs h _ _; exact h.elim
def elV0 : Elm Vl := elVk elE
def elV1 : Elm Vl := elVk elV0
theorem infV : (Tryz.prog.info? 41).map (fun i => (i.zero, i.size, i.bytes)) = some (some (.agg #[.string ⟨#[]⟩, .int .i64 0, .slice none 0 0]), 3, 48) := by kernel_rfl
theorem sizV : (Tryz.prog.info? 41).map (·.size) = some 3 := by kernel_rfl
theorem ret_vl {F : Func} {p g : Nat} {tmps : Array Value} {w : World} {cs : Array Value} {R : Ending → World → Prop} (hr : F.results = #[.cell p 41]) (hp : tmps.getD p undef = .pointer (some ⟨g, 0, none⟩)) (hg : w.heap[g]? = some (.cells cs 41)) (hs : cs.size = 3) (h : R (.returned (.agg cs)) w) :
 bodyPost Tryz.prog F R .ret ⟨tmps, []⟩ w :=
 bodyPost_ret (results_cell_row hr tmps w g _ cs _ _ hp hg Tryz.underlying41 rfl (by rw [hs]; exact sizV)) rfl h
section
variable {w w' : World} {S : Nat → Prop} {E : Elm Vl}
theorem vl_leaf {b : ByteArray} {n : Int} (hb : b.size ≤ maxLen) (hn : I64 n) : (elVk E).R w S (.mk b n []) [.string b, .int .i64 n, .slice none 0 0] :=
 ⟨none, 0, rfl, hb, hn, LsG.nil⟩
theorem box3r {g T : Nat} {a b c : Value} (h : w.heap[g]? = some (.cells #[a, b, c] T)) : w.cell? ⟨g, 0, none⟩ = some a ∧ w.cell? ⟨g, 1, none⟩ = some b ∧ w.cell? ⟨g, 2, none⟩ = some c := by
 refine ⟨?_, ?_, ?_⟩ <;> rw [cellc h] <;> rfl
theorem one_vl {fb : Nat} {x : Vl} {a b c : Value} (hb : w.heap[fb]? = some (.cells #[a, b, c] 41)) (h : E.R w S x [a, b, c]) : LsE E w S (.slice (some ⟨fb, 0, none⟩) 1 1) [x] :=
 cells_lsE (P := [(x, [a, b, c])]) hb rfl rfl rfl (by unfold maxLen; simp) (fun p hp => by simp at hp; subst hp; exact h)
theorem LsG.vAt {E' : Elm Vl} {a : Option Addr} {n cap i : Nat} {L : List Vl} {x : Vl} (h : LsG (elVk E') w S (.slice a n cap) L) (hi : L[i]? = some x) : ∃ b off ka kc, a = some ⟨b, off, none⟩ ∧ w.cell? ⟨b, off + i * 3, none⟩ = some (.string x.bytes) ∧ w.cell? ⟨b, off + i * 3 + 1, none⟩ = some (.int .i64 x.num) ∧ w.cell? ⟨b, off + i * 3 + 2, none⟩ = some (.slice ka x.kids.length kc) ∧ x.bytes.size ≤ maxLen ∧ I64 x.num ∧ LsG E' w S (.slice ka x.kids.length kc) x.kids := by
 obtain ⟨b, off, cs, e, hb, hlt, ⟨ka, kc, rfl, h1, h2, h3⟩, hcs⟩ := h.at hi
 exact ⟨b, off, ka, kc, e, hcs 0 _ rfl, hcs 1 _ rfl, hcs 2 _ rfl, h1, h2, h3⟩
end

/-- a value of a field that is no nested one -/
def ValP (f : Fld) (x : Vl) : Prop :=
 f.kind = 1 ∧ x = zeroVl ∨ f.kind = 2 ∧ (x.bytes.size : Int) = f.n ∧ x = .mk x.bytes 0 [] ∨ f.kind = 3 ∧ (x.bytes.size : Int) ≤ f.n ∧ x = .mk x.bytes 0 [] ∨
 f.kind = 4 ∧ f.low ≤ x.num ∧ x.num ≤ f.high ∧ x = .mk ⟨#[]⟩ x.num [] ∨ f.kind = 6 ∧ f.low ≤ (x.bytes.size : Int) ∧ (x.bytes.size : Int) ≤ f.high ∧ x = .mk x.bytes 0 []
def ValsP (F : List Fld) (X : List Vl) : Prop := X.length = F.length ∧ ∀ (k : Nat) f x, F[k]? = some f → X[k]? = some x → ValP f x
/-- a value of a field -/
def ValF (t : List Fmt) (f : Fld) (x : Vl) : Prop :=
 ValP f x ∨ f.kind = 5 ∧ ∃ (j : Nat) (gm : Fmt), f.n = j ∧ t[j]? = some gm ∧ x = .mk ⟨#[]⟩ 0 x.kids ∧ ValsP gm.fields x.kids
def ValsF (t : List Fmt) (F : List Fld) (X : List Vl) : Prop := X.length = F.length ∧ ∀ (k : Nat) f x, F[k]? = some f → X[k]? = some x → ValF t f x
/-- the bytes of a value of a field that is no nested one -/
def encP1 (f : Fld) (x : Vl) : List UInt8 :=
 if f.kind = 1 then f.bytes.data.toList else if f.kind = 3 then x.bytes.size.toUInt8 :: x.bytes.data.toList else if f.kind = 4 then [x.num.toNat.toUInt8] else x.bytes.data.toList
def encPs : List Fld → List Vl → List UInt8
 | f :: F, x :: X => encP1 f x ++ encPs F X
 | _, _ => []
def encF1 (t : List Fmt) (f : Fld) (x : Vl) : List UInt8 :=
 if f.kind = 5 then (encPs (t.getD f.n.toNat default).fields x.kids).length.toUInt8 :: encPs (t.getD f.n.toNat default).fields x.kids else encP1 f x
def encFs (t : List Fmt) : List Fld → List Vl → List UInt8
 | f :: F, x :: X => encF1 t f x ++ encFs t F X
 | _, _ => []
theorem encF1_p {t : List Fmt} {f : Fld} {x : Vl} (h : f.kind ≠ 5) : encF1 t f x = encP1 f x := by unfold encF1; rw [if_neg h]
theorem encFs_p {t : List Fmt} : ∀ {F : List Fld} {X : List Vl}, (∀ f ∈ F, f.kind ≠ 5) → encFs t F X = encPs F X
 | [], X, _ => by cases X <;> rfl
 | f :: F, [], _ => rfl
 | f :: F, x :: X, h => by rw [encFs, encPs, encF1_p (h f (by simp)), encFs_p (fun g hg => h g (by simp [hg]))]
theorem encFs_take {t : List Fmt} : ∀ {F : List Fld} {X : List Vl} {k : Nat} {f : Fld} {x : Vl}, F[k]? = some f → X[k]? = some x → encFs t (F.take (k + 1)) (X.take (k + 1)) = encFs t (F.take k) (X.take k) ++ encF1 t f x
 | [], X, k, f, x, h, _ => by simp at h
 | f :: F, [], k, g, x, _, h => by simp at h
 | f :: F, y :: X, 0, g, x, h1, h2 => by
   simp at h1 h2
   subst h1 h2
   simp [encFs]
 | f :: F, y :: X, k + 1, g, x, h1, h2 => by
   have h1 : F[k]? = some g := by simpa using h1
   have h2 : X[k]? = some x := by simpa using h2
   rw [List.take_succ_cons, List.take_succ_cons, encFs, encFs_take h1 h2, List.take_succ_cons, List.take_succ_cons, encFs, List.append_assoc]
theorem encFs_split {t : List Fmt} : ∀ {F : List Fld} {X : List Vl} {k : Nat} {f : Fld} {x : Vl}, F[k]? = some f → X[k]? = some x → encFs t (F.drop k) (X.drop k) = encF1 t f x ++ encFs t (F.drop (k + 1)) (X.drop (k + 1))
 | [], X, k, f, x, h, _ => by simp at h
 | f :: F, [], k, g, x, _, h => by simp at h
 | f :: F, y :: X, 0, g, x, h1, h2 => by
   simp at h1 h2
   subst h1 h2
   simp [encFs]
 | f :: F, y :: X, k + 1, g, x, h1, h2 => by
   have h1 : F[k]? = some g := by simpa using h1
   have h2 : X[k]? = some x := by simpa using h2
   rw [List.drop_succ_cons, List.drop_succ_cons, encFs_split h1 h2, List.drop_succ_cons, List.drop_succ_cons]
end Go.Proofs.YtfaienbdebjfcaaGreat

namespace Go.Proofs.YtfaienbdebjfcaaGreat
open Go Go.RowKit
set_option linter.unusedVariables false
set_option linter.unusedSimpArgs false

/-- the chooser at block cb -/
def ChO (w : World) (cb : Nat) : Prop := ∃ v L, w.heap[cb]? = some (.cells #[v] 102) ∧ LsG elY w (fun c => c < cb) v L
theorem ChO.lt {w : World} {cb : Nat} (h : ChO w cb) : cb < w.heap.size := let ⟨_, _, h, _⟩ := h; (Array.getElem?_eq_some_iff.1 h).1
theorem ChO.set {w : World} {cb g o : Nat} {v : Value} (h : ChO w cb) (hg : cb < g) : ChO (w.setCell ⟨g, o, none⟩ v) cb :=
 let ⟨v', L, h1, h2⟩ := h
 ⟨v', L, (heap_setCell_other _ _ _ _ (by show cb ≠ g; omega)).trans h1, h2.hold (fun c hc _ => heap_setCell_other _ _ _ _ (by show c ≠ g; omega)) (fun c h _ => h)⟩
theorem ChO.ext {w w' : World} {cb : Nat} (h : ChO w cb) (hE : Ext w w') : ChO w' cb := let ⟨v, L, h1, h2⟩ := h; ⟨v, L, hs_ext hE h1, h2.ext hE⟩
set_option maxRecDepth 100000 in
set_option maxHeartbeats 4000000 in
theorem chNext_any {w : World} {cb : Nat} (h : ChO w cb) : Calls Tryz.prog 74 #[.pointer (some ⟨cb, 0, none⟩)] w fun e w' => ∃ b : Nat, b < 256 ∧ e = .returned (.int .u8 b) ∧ ChO w' cb ∧ w.grownBy w' (some cb) := by
 obtain ⟨v, L, h1, h2⟩ := h
 obtain ⟨a, cap, rfl, hl, hc⟩ := h2.slice
 unfold maxLen at hc
 have c0 : w.cell? ⟨cb, 0, none⟩ = some (.slice a L.length cap) := by rw [cellc h1]; rfl
 have f0 : w.frozen? ⟨cb, 0, none⟩ = false := frozenc h1
 have H1 := Lib.hid h1
 have H2 := Lib.hid h2
 cases L with
 | nil =>
   clear h1 h2
   go_enter Tryz.func74, Tryz.ntmps74
   go_wp2_with fail
   go_ret
   exact ⟨0, by omega, rfl, ⟨_, _, H1.out, H2.out⟩, gr_ext (Ext.refl _)⟩
 | cons b L =>
   obtain ⟨bb, off, cs, rfl, hS, hlt, ⟨rfl, hb256⟩, hcs⟩ := h2.at (i := 0) (x := b) rfl
   have hcc : w.cell? ⟨bb, off, none⟩ = some (.int .u8 b) := hcs 0 _ rfl
   have hcap : 1 ≤ cap := by have := hl; simp at this; omega
   have hlc : L.length + 1 ≤ cap := hl
   have hne : (((L.length + 1 : Nat) : Int) == 0) = false := beq_eq_false_iff_ne.2 (by omega)
   have HD := Lib.hid (h2.drop_any (m := 1) (by simp))
   have HB := Lib.hid hb256
   clear h1 h2 hcs hS hlt hb256 hl
   by_cases hc1 : cap = 1
   · subst hc1
     have hL0 : L = [] := List.length_eq_zero_iff.1 (by omega)
     subst hL0
     have HD2 : Hid (LsG elY w (fun c => c < cb) (.slice (some ⟨bb, off, none⟩) 0 0) []) := Lib.hid (by have := HD.out; rw [if_pos rfl] at this; exact this)
     go_enter Tryz.func74, Tryz.ntmps74
     go_wp2_with fail
     go_ret
     exact ⟨b, HB.out, rfl, ⟨_, [], by rw [heap_setCell_same w cb 0 _ _ _ H1.out]; rfl, LsG.hold HD2.out (fun c hc _ => heap_setCell_other _ _ _ _ (Nat.ne_of_lt hc)) (fun c h _ => h)⟩, ⟨rfl, rfl, rfl, by rw [World.size_setCell]; exact Nat.le_refl _, fun i _ hn => heap_setCell_other _ _ _ _ (fun e => hn (by rw [e]))⟩⟩
   · have HD2 : Hid (LsG elY w (fun c => c < cb) (.slice (some ⟨bb, off + 1, none⟩) L.length (cap - 1)) L) := Lib.hid (by have := HD.out; rw [if_neg hc1] at this; simp only [Option.map_some, add_none] at this; exact this)
     go_enter Tryz.func74, Tryz.ntmps74
     go_wp2_with fail
     go_ret
     exact ⟨b, HB.out, rfl, ⟨_, L, by rw [heap_setCell_same w cb 0 _ _ _ H1.out]; rfl, LsG.hold HD2.out (fun c hc _ => heap_setCell_other _ _ _ _ (Nat.ne_of_lt hc)) (fun c h _ => h)⟩, ⟨rfl, rfl, rfl, by rw [World.size_setCell]; exact Nat.le_refl _, fun i _ hn => heap_setCell_other _ _ _ _ (fun e => hn (by rw [e]))⟩⟩
/-- a block of bytes -/
def BlkY (w : World) (gb : Nat) (M : List Nat) : Prop := w.heap[gb]? = some (.cells (M.map encN8).toArray 5)
theorem BlkY.frozen {w : World} {gb : Nat} {M : List Nat} (h : BlkY w gb M) (k : Nat) : w.frozen? ⟨gb, k, none⟩ = false := frozenc h
theorem BlkY.get {w : World} {gb : Nat} {M : List Nat} (h : BlkY w gb M) {k v : Nat} (hk : M[k]? = some v) : w.cell? ⟨gb, k, none⟩ = some (.int .u8 v) := by
 rw [cellc h]
 simp [hk, encN8]
theorem BlkY.set {w : World} {gb : Nat} {M : List Nat} (h : BlkY w gb M) (k v : Nat) : BlkY (w.setCell ⟨gb, k, none⟩ (.int .u8 v)) gb (M.set k v) := by
 unfold BlkY at h ⊢
 rw [heap_setCell_same w gb k _ _ _ h]
 congr 2
 apply Array.ext'
 simp [encN8, List.map_set]
theorem made_zeroY (n : Nat) : madeCells (Value.int .u8 0).cells n = ((List.replicate n 0).map encN8).toArray := by
 apply Array.ext
 · simp [size_madeCells]
 · intro i h1 h2
   simp [madeCells, Value.cells, encN8, Nat.mod_one]
set_option maxRecDepth 100000 in
theorem run_makeY (w : World) (n : Nat) (hn : n ≤ 1000000) : (Instr.makeSlice 23 (.int .i64 (n : Int)) (.int .i64 (n : Int))).run Tryz.prog w = .ok (.slice (some ⟨w.heap.size, 0, none⟩) n n) (w.alloc (.cells ((List.replicate n 0).map encN8).toArray 5)) := by
 obtain ⟨i0, hi0, hi1, hi2, hi3⟩ := info_parts (show (Tryz.prog.info? 5).map (fun i => (i.zero, i.size, i.bytes)) = some (some (.int .u8 0), 1, 1) by kernel_rfl)
 have hmk := run_makeSlice (P := Tryz.prog) w 23 5 i0 _ Tryz.underlying23 hi0 hi1 .i64 .i64 (n : Int) (n : Int) (by omega) (by omega) (by rw [hi2]; simp; omega) (by rw [hi3]; omega) (by omega)
 rw [hi2, Int.toNat_natCast, Nat.mul_one, made_zeroY] at hmk
 exact hmk
theorem BlkY.row {w : World} {gb : Nat} {M : List Nat} (h : BlkY w gb M) (hm : M.length ≤ maxLen) : w.ownsRow gb 5 1 (.slice (some ⟨gb, 0, none⟩) M.length M.length) M.length (M.map encN8) :=
 ⟨by simp, .inr ⟨gb, M.length, _, rfl, Nat.le_refl _, h, Nat.le_refl _, hm, by simp, by simp; exact List.take_of_length_le (by simp)⟩⟩
set_option maxRecDepth 100000 in
set_option maxHeartbeats 4000000 in
theorem chSome_any {w : World} {cb n : Nat} (hn : n ≤ 1000) (h : ChO w cb) : Calls Tryz.prog 73 #[.pointer (some ⟨cb, 0, none⟩), .int .i64 n] w fun e w' => ∃ s : ByteArray, s.size = n ∧ e = .returned (.string s) ∧ ChO w' cb ∧ w.grownBy w' (some cb) := by
 obtain ⟨gb, w1, hgb, hw1, HG, hE1⟩ := box_new w (.cells ((List.replicate n 0).map encN8).toArray 5)
 have hmk : (Instr.makeSlice 23 (.int .i64 (n : Int)) (.int .i64 (n : Int))).run Tryz.prog w = .ok (.slice (some ⟨gb, 0, none⟩) n n) w1 := by rw [hw1, hgb]; exact run_makeY w n (by omega)
 have HGE : Hid (w.heap.size = gb ∧ cb < gb) := Lib.hid ⟨by first | exact hgb | exact hgb.symm, by have := h.lt; omega⟩
 have HC := Lib.hid (h.ext hE1)
 have HE1 := Lib.hid hE1
 have HB : Hid (∃ M : List Nat, M.length = n ∧ (∀ b ∈ M, b < 256) ∧ BlkY w1 gb M) := Lib.hid ⟨_, by simp, fun b hb => by rw [List.eq_of_mem_replicate hb]; omega, HG.out⟩
 clear hgb hw1 HG h hE1
 go_enter Tryz.func73, Tryz.ntmps73
 go_upto_region 3 with fail
 go_loopw [6, 11] (fun _ kv wr => ∃ k : Nat, kv = .int .i64 k ∧ k ≤ n ∧ Hid (∃ M : List Nat, M.length = n ∧ (∀ b ∈ M, b < 256) ∧ BlkY wr gb M) ∧ Hid (ChO wr cb ∧ w.grownBy wr (some cb))) (fun _ kv _ => n - (intOf kv).toNat)
 case atStart => exact ⟨0, rfl, by omega, HB, Lib.hid ⟨HC.out, gr_ext HE1.out⟩⟩
 case round =>
  obtain ⟨k, rfl, hk, HB, HG⟩ := hrel
  clear HC HE1
  by_cases hlt : k < n
  · have hki : (k : Int) < (n : Int) := by omega
    have HC := Lib.hid (chNext_any HG.out.1)
    go_wp2_with fail
    refine HC.out.mono ?_
    rintro e w2 ⟨b, hb, rfl, hC2, hG2⟩
    obtain ⟨M, hM1, hM2, hM3⟩ := HB.out
    have hge := HGE.out
    have hY : BlkY w2 gb M := (hG2.block gb (Array.getElem?_eq_some_iff.1 hM3).1 (fun e => by have := Option.some.inj e; omega)).trans hM3
    obtain ⟨v, hv⟩ : ∃ v, M[k]? = some v := ⟨_, List.getElem?_eq_getElem (by omega)⟩
    have c0 := hY.get hv
    have f0 := hY.frozen k
    have HY2 : Hid (∃ M : List Nat, M.length = n ∧ (∀ b ∈ M, b < 256) ∧ BlkY (w2.setCell ⟨gb, k, none⟩ (.int .u8 b)) gb M) := Lib.hid ⟨M.set k b, by rw [List.length_set, hM1], fun x hx => by
     rcases List.mem_or_eq_of_mem_set hx with h | h
     · exact hM2 x h
     · rw [h]; exact hb, hY.set k b⟩
    have HG2 : Hid (ChO (w2.setCell ⟨gb, k, none⟩ (.int .u8 b)) cb ∧ w.grownBy (w2.setCell ⟨gb, k, none⟩ (.int .u8 b)) (some cb)) := Lib.hid ⟨hC2.set hge.2, gr_set2 (gr_trans HG.out.2 hG2) (by omega)⟩
    clear hb hC2 hG2 hM1 hM2 hM3 hY hv hge
    go_wp2_with fail
    go_roundw
    case rel => exact ⟨k + 1, by go_num, by omega, HY2, HG2⟩
    case measure => simp [intOf]; omega
  · have hki : ¬ (k : Int) < (n : Int) := by omega
    obtain ⟨M, hM1, hM2, hM3⟩ := HB.out
    have hcv : (convert 23 9 (.slice (some ⟨gb, 0, none⟩) n n)).run Tryz.prog wr = .ok (.string (bytesN M)) wr := by
     have := bytes_back (hM3.row (by rw [hM1]; unfold maxLen; omega)) hM2
     rwa [hM1] at this
    have HSZ : Hid ((bytesN M).size = n) := Lib.hid (by rw [← hM1]; simp [bytesN, ByteArray.size])
    clear hM1 hM2 hM3
    go_wp2_with fail
    go_ret
    exact ⟨_, HSZ.out, rfl, HG.out.1, HG.out.2⟩
end Go.Proofs.YtfaienbdebjfcaaGreat
