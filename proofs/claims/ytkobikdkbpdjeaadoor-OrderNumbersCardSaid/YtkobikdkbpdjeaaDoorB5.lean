/- A strings.Builder that the call has made: what it holds; the writers. -/
import Derived.Test.YtkobikdkbpdjeaaDoorB4
import Derived.Test.YtkobikdkbpdjeaaDoorG5
import Derived.Test.YtkobikdkbpdjeaaDoorYO
import Derived.Lib.OthersKept
import Derived.Lib.FrozenHead
namespace Go.Proofs.YtkobikdkbpdjeaaDoor
open Go Go.RowKit Go.Shelf
set_option linter.unusedVariables false
set_option linter.unusedSimpArgs false

/-- block b is a builder that holds the bytes l -/
def Bu (w : World) (B b : Nat) (l : List UInt8) : Prop := Lib.IsBuilderF 82 5 B b (Lib.byteCells l) w
section
variable {w w' : World} {B b : Nat} {l : List UInt8}
theorem Bu.keep (h : Bu w B b l) (hk : ∀ k, k = b ∨ (∃ c fz, w.heap[k]? = some (.cells c 5 fz)) → w'.heap[k]? = w.heap[k]?) : Bu w' B b l := by
 have key : ∀ p, Lib.BuilderAtF 82 5 B b p (Lib.byteCells l) w → Lib.BuilderAtF 82 5 B b p (Lib.byteCells l) w' := by
  rintro p ⟨hB, v, hb, hown, hne⟩
  refine ⟨hB, v, (hk b (.inl rfl)).trans hb, ?_, hne⟩
  obtain ⟨h1, h2⟩ := hown
  refine ⟨h1, ?_⟩
  rcases h2 with h2 | ⟨g, cap, cur, fz, e, hb', hg, h3⟩
  · exact .inl h2
  · exact .inr ⟨g, cap, cur, fz, e, hb', (hk g (.inr ⟨cur, fz, hg⟩)).trans hg, h3⟩
 rcases h with h | h
 · exact .inl (key _ h)
 · exact .inr (key _ h)
theorem Bu.lt (h : Bu w B b l) : b < w.heap.size := by
 rcases h with h | h
 · exact h.lt
 · exact h.lt
theorem Bu.low (h : Bu w B b l) : B ≤ b := by
 rcases h with h | h
 · exact h.1
 · exact h.1
theorem Bu.ext (h : Bu w B b l) (hE : Ext w w') : Bu w' B b l := h.keep fun k hk => by
 rcases hk with rfl | ⟨c, fz, hc⟩
 · exact hE.block h.lt
 · exact hE.block (Array.getElem?_eq_some_iff.1 hc).1
theorem Bu.fresh (w : World) : Bu (w.alloc (.cells #[.pointer none, .slice none 0 0] 82)) w.heap.size w.heap.size [] := by
 refine .inl ⟨Nat.le_refl _, .slice none 0 0, by rw [hs_new], World.ownsRowF_nil _ _ _ _, by simp [Value.ownBlock]⟩
/-- a write's frame: other blocks that are no bytes stay -/
structure Wrote (B b : Nat) (w w' : World) : Prop where
 below : Below B w w'
 kept : ∀ k, k ≠ b → k < w.heap.size → (∀ c fz, w.heap[k]? ≠ some (.cells c 5 fz)) → w'.heap[k]? = w.heap[k]?
theorem Wrote.of {w w' : World} (h : Below B w w') (hk : Lib.OthersKept 5 (some b) w w') : Wrote B b w w' := ⟨h, fun k h1 h2 h3 => by
 have e : w.heap[k]? = some w.heap[k] := Array.getElem?_eq_getElem h2
 rw [e]
 exact hk k _ e (fun e => h1 (Option.some.inj e)) (fun c fz e' => h3 c fz (by rw [e, e']))⟩
end

theorem sizeBu : (Tryd.prog.info? 82).map (·.size) = some 2 := by kernel_rfl
theorem liesBu : liesAt Tryd.prog Tryd.prog.depth 82 (2 / Tryd.prog.cellsOf 82) 0 82 1 = true := by kernel_rfl

set_option maxHeartbeats 1000000 in
set_option maxRecDepth 100000 in
theorem copyCheck_any {w : World} {B b : Nat} {l : List UInt8} (h : Bu w B b l) :
 Calls Tryd.prog 76 #[.pointer (some ⟨b, 0, none⟩)] w fun e w' => e = .returned (.tuple #[]) ∧ Lib.BuilderAtF 82 5 B b (.pointer (some ⟨b, 0, none⟩)) (Lib.byteCells l) w' ∧ Below B w w' ∧ Lib.OthersKept 5 (some b) w w' := by
 rcases h with h | h
 · have c0 := h.cell0
   have f0 := h.frozen0
   have sh := h.shape
   have hlow := h.1
   obtain ⟨j, hj, hjs⟩ := Option.map_eq_some_iff.1 sizeBu
   go_enter Tryd.func76, Tryd.ntmps76
   go_wp2
   rw [Lib.run_to_unsafe w ⟨b, 0, none⟩ Tryd.underlying79 Tryd.underlying117 hj (by rw [hjs]; decide) sh (Nat.zero_lt_succ 1)]
   simp only [Result.andThen]
   rw [Oper.upon_value]
   go_wp2
   rw [run_callFunc_extern Tryd.func84 (by kernel_rfl) (by kernel_rfl) (by kernel_rfl) (e := Extern.AbiNoEscape.same) (by kernel_rfl)]
   rw [Lib.run_noEscape]
   simp only [Result.andThen]
   rw [Oper.upon_value]
   go_wp2
   rw [Lib.run_from_unsafe w ⟨b, 0, none⟩ Tryd.underlying117 Tryd.underlying79 hj sh liesBu]
   simp only [Result.andThen]
   rw [Oper.upon_value]
   go_wp2
   go_end0
   exact ⟨rfl, h.used _, (Below.refl B w).setCell (p := ⟨b, 0, none⟩) hlow _, (Lib.OthersKept.refl _ _ w).setCell ⟨b, 0, none⟩ rfl _⟩
 · have c0 := h.cell0
   obtain ⟨j, hj, hjs⟩ := Option.map_eq_some_iff.1 sizeBu
   go_enter Tryd.func76, Tryd.ntmps76
   go_wp2
   rw [Lib.run_neq_ptr_same w _ Tryd.underlying79 hj]
   go_wp2
   go_end0
   exact ⟨rfl, h, Below.refl B _, Lib.OthersKept.refl _ _ _⟩

theorem infoU8 : (Tryd.prog.info? 5).map (fun i => (i.zero, i.size, i.bytes)) = some (some (.int .u8 0), 1, 1) := by kernel_rfl

set_option maxHeartbeats 2000000 in
set_option maxRecDepth 100000 in
theorem writeStr_k {w : World} {B b : Nat} {l : List UInt8} {s : ByteArray} (h : Bu w B b l) (hlen : l.length + s.size ≤ 1000000) (hBw : B ≤ w.heap.size) :
 Calls Tryd.prog 59 #[.pointer (some ⟨b, 0, none⟩), .string s] w fun e w' => e = .returned (.tuple #[.int .i64 s.size, .nilIface]) ∧ Bu w' B b (l ++ s.data.toList) ∧ Below B w w' ∧ Lib.OthersKept 5 (some b) w w' := by
 obtain ⟨i0, hi, hz0, hz1, hz2⟩ := info_parts infoU8
 go_enter Tryd.func59, Tryd.ntmps59
 go_wp2_with (go_at_call 76; refine (copyCheck_any h).mono ?_)
 rintro e w1 ⟨rfl, h1, hb1, hk1⟩
 obtain ⟨hB, v, hbk, hown, hne⟩ := h1
 have c0 : w1.cell? ⟨b, 0, none⟩ = some (.pointer (some ⟨b, 0, none⟩)) := by rw [Lib.cell_of_heap hbk]; rfl
 have c1 : w1.cell? ⟨b, 1, none⟩ = some v := by rw [Lib.cell_of_heap hbk]; rfl
 have hlen' : (Lib.byteCells l).length + s.size ≤ 1000000 := by rw [Lib.byteCells_length]; exact hlen
 go_wp2_with (at_builtin; refine Lib.wpList_append_own_stringF _ rfl _ _ 80 9 rfl B 5 i0 Tryd.underlying80 Tryd.underlying9 hi hz0 hz1 hz2 _ _ _ rfl hown s rfl ?c3 ?c4 ?c5 ?_)
 case c3 => unfold maxLen; omega
 case c4 => omega
 case c5 => have := hb1.size; omega
 intro v' w2 hown' hgrow _
 have hlt : b < w1.heap.size := by
  rcases Nat.lt_or_ge b w1.heap.size with h' | h'
  · exact h'
  · simp [Array.getElem?_eq_none h'] at hbk
 have hb2 : w2.heap[b]? = some (.cells #[.pointer (some ⟨b, 0, none⟩), v] 82 (0, 0)) := by
  rw [hgrow.block b hlt (fun e => hne e.symm)]
  exact hbk
 have d0 : w2.cell? ⟨b, 0, none⟩ = some (.pointer (some ⟨b, 0, none⟩)) := by rw [Lib.cell_of_heap hb2]; rfl
 have d1 : w2.cell? ⟨b, 1, none⟩ = some v := by rw [Lib.cell_of_heap hb2]; rfl
 have f1 : w2.frozen? ⟨b, 1, none⟩ = false := Lib.frozen_of_heap hb2 1
 obtain ⟨ao, n', cap, rfl⟩ : ∃ ao n' cap, v' = .slice ao n' cap := by
  rcases hown'.2 with ⟨hv, _⟩ | ⟨g, cap, cur, fz, hv, _⟩
  · exact ⟨_, _, _, hv⟩
  · exact ⟨_, _, _, hv⟩
 go_wp2
 go_ret2
 refine ⟨rfl, .inr ?_, ?_, (hk1.grown hgrow (Lib.ownsRowF_kind hown)).setCell ⟨b, 1, none⟩ rfl _⟩
 · rw [Lib.byteCells_append, ← Lib.strCells_eq]
   exact Lib.BuilderAtF.put (T := 82) (e := 5) hB hb2 (bs' := Lib.byteCells l ++ Lib.strCells s) (by simpa [Lib.strCells_length] using hown') (by decide)
 · exact (hb1.grown hgrow (by have := hb1.size; omega) (fun k hk => (hown.lt k hk).1)).setCell (p := ⟨b, 1, none⟩) hB _
theorem writeStr_any {w : World} {B b : Nat} {l : List UInt8} {s : ByteArray} (h : Bu w B b l) (hlen : l.length + s.size ≤ 1000000) (hBw : B ≤ w.heap.size) :
 Calls Tryd.prog 59 #[.pointer (some ⟨b, 0, none⟩), .string s] w fun e w' => e = .returned (.tuple #[.int .i64 s.size, .nilIface]) ∧ Bu w' B b (l ++ s.data.toList) ∧ Wrote B b w w' :=
 (writeStr_k h hlen hBw).mono fun e w' ⟨h1, h2, h3, h4⟩ => ⟨h1, h2, .of h3 h4⟩
theorem buStr_any {w : World} {B b : Nat} {l : List UInt8} (h : Bu w B b l) (hBw : B ≤ w.heap.size) :
 Calls Tryd.prog 54 #[.pointer (some ⟨b, 0, none⟩)] w fun e w' => e = .returned (.string ⟨l.toArray⟩) ∧ Bu w' B b l ∧ Wrote B b w w' :=
 (Tryd.Builder_String_any_k B b l w h hBw).mono fun e w' ⟨h1, h2, h3, h4⟩ => ⟨h1, h2, .of h3 h4⟩
theorem itoa_any {w : World} {i : Int} (h0 : 0 ≤ i) (h1 : i < 100) :
 Calls Tryd.prog 60 #[.int .i64 i] w fun e w' => e = .returned (.string ⟨(num i).toArray⟩) ∧ w = w' := by
 have := Tryd.strconv_Itoa_small i.toNat (by omega) w
 rw [Int.toNat_of_nonneg h0] at this
 exact this.mono fun e w' ⟨h1, h2⟩ => ⟨h1, by first | exact h2 | exact h2.symm⟩

end Go.Proofs.YtkobikdkbpdjeaaDoor
