/- From the arguments of a row to memory, and back: terms, lists of terms, lists of numbers. -/
import Derived.Test.YtfaienbdebjfcaaGreatH1
import Derived.Test.YtfaienbdebjfcaaGreatRows
import Derived.ProofKit
import Derived.OpenShut
import Derived.Deep.Slices
import Derived.Deep.Fields
import Derived.ChangeSame
import Derived.Carry
namespace Go.Proofs.YtfaienbdebjfcaaGreat
open Go Go.RowKit Go.ChangeShapes Go.WideShapes Go.ChangeAt Go.Deep
set_option linter.unusedVariables false
set_option linter.unusedSimpArgs false

section
variable {H : Type} {enc : TypeId × Value → H} {P : Program}
theorem post_of_below {f : Func} {s : ChangeSpec} {apart fresh handsOn again : Bool} {W W' : World} {args : Array Value} {v : Value} {ds gs : List (DataW H)} {before pa pv : List MemPlace}
 (hW : DataW.Whole enc P f.params.toList s.vars apart W args.toList ds gs before)
 (hres : ∀ (b : Nat) (sp : Nat → Bool) (hd : Bool), DataW.TrodAll enc P W' b sp hd f.resultTypes.toList (v.resultList f.resultTypes.size) (s.fn H (ds ++ gs)).results [])
 (hargs : ∀ sp : Nat → Bool, (∀ p ∈ before, sp p.block = true) → DataW.TrodAll enc P W' 0 sp true f.params.toList args.toList (s.fn H (ds ++ gs)).args pa)
 (hvars : ∀ sp : Nat → Bool, (∀ p ∈ before, sp p.block = true) → DataW.TrodVars enc P W' sp s.vars (s.fn H (ds ++ gs)).vars pv)
 (hps : before = pa ++ pv) (hb : Below W.heap.size W W')
 (hok : ∀ (j : Nat) (t : TypeId) (r : Value), f.resultTypes[j]? = some t → (v.resultList f.resultTypes.size)[j]? = some r → Value.okWide P W' .any 0 t r) :
 s.post enc P f apart fresh handsOn again W args v W' := by
 have hlt : ∀ p ∈ before, p.block < W.heap.size := fun p hp => hW.lt p hp
 have hold : ∀ p ∈ before, (fun b => decide (b < W.heap.size)) p.block = true := fun p hp => by simpa using hlt p hp
 refine ⟨ds, gs, before, [], pa, pv, hW, hres _ _ _, hargs _ hold, hvars _ hold, World.keptBut_mono (fun p hp => ⟨hp, ?_⟩) (hb.frame (· ∈ before)), fun _ => ?_⟩
 · rw [hps, List.mem_append] at hp
   exact Or.inr hp
 · obtain ⟨_, _, _, _, _, hz, hn⟩ := hW
   refine ⟨hok, _, _, ([] ++ pa) ++ pv, ⟨[] ++ pa, pv, trodAll_append (hargs _ (fun _ _ => rfl)) (hres _ _ _), hvars _ (fun _ _ => rfl), rfl, ?_, ?_⟩, ?_⟩
   · intro b off hp
     have hin : MemPlace.cell b off ∈ before := by rw [hps]; simpa using hp
     rw [hb.frozen (hlt _ hin)]
     exact hz b off hin
   · intro ha
     have := hn ha
     rw [hps] at this
     simpa using this
   · intro p hp _
     rw [hps]
     simpa using hp
end

section
variable {H : Type} {enc : TypeId × Value → H} {W : World}

theorem add_plain {a : Addr} (h : a.spot = none) (k : Nat) : a.add k = ⟨a.block, a.off + k, none⟩ := by
 unfold Addr.add
 split
 · rename_i h0; subst h0; cases a; simp_all
 · rfl
theorem spot_none {w : World} {a : Addr} {v : Value} (h : w.cell? a = some v) : a.spot = none := by
 unfold World.cell? at h
 split at h
 · by_cases hs : a.spot = none
   · exact hs
   · simp [hs] at h
 · cases h
theorem add_zero (a : Addr) : a.add 0 = a := by simp [Addr.add]
theorem list_choose {α : Type} {P : Nat → α → Prop} : ∀ (n : Nat), (∀ i, i < n → ∃ x, P i x) → ∃ l : List α, l.length = n ∧ ∀ i x, l[i]? = some x → P i x
 | 0, _ => ⟨[], rfl, by simp⟩
 | n + 1, h => by
   obtain ⟨l, h1, h2⟩ := list_choose n (fun i hi => h i (by omega))
   obtain ⟨x, hx⟩ := h n (by omega)
   refine ⟨l ++ [x], by simp [h1], fun i y hy => ?_⟩
   by_cases hi : i < n
   · rw [List.getElem?_append_left (by omega)] at hy
     exact h2 i y hy
   · have := (List.getElem?_eq_some_iff.1 hy).1
     simp at this
     have : i = n := by omega
     subst this
     rw [List.getElem?_append_right (by omega)] at hy
     simp [h1] at hy
     subst hy
     exact hx
theorem wf_I64 {n : Int} (h : (Lit.int .i64 n).wf = true) : I64 n := by
 simp [Lit.wf, IntKind.min, IntKind.max, IntKind.signed, IntKind.bits] at h
 unfold I64
 omega
theorem LsT.kidsB {n cap : Nat} {a : Option Addr} {L : List Tm} (h : LsT W (fun c => c < W.heap.size) (.slice a n cap) L) : KidsA W (fun c => c < W.heap.size) a L := by
 have ht := h.ts
 cases hL : L with
 | nil => exact ⟨0, 0, fun h => absurd rfl h, fun i t hi => by simp at hi⟩
 | cons x M =>
   obtain ⟨b, off, rfl, h0⟩ := ht 0 x (by rw [hL]; rfl)
   refine ⟨b, off, fun _ => ⟨rfl, h0.lt⟩, fun i t hi => ?_⟩
   obtain ⟨b', off', e, h'⟩ := ht i t (by rw [hL]; exact hi)
   cases e
   exact h'
theorem cTerm : Tryz.prog.cellsOf 77 = 4 := by kernel_rfl

set_option maxRecDepth 100000 in
/-- four cells that read as a term -/
theorem open_node {sp : Nat → Bool} {held : Bool} {fuel : Nat} {cs : List Value} {x : DataW H × List MemPlace}
 (ih : ∀ n, n < fuel → ∀ (cs : List Value) (x : DataW H × List MemPlace), DataW.trod enc Tryz.prog W 0 sp held n 75 cs = some x → ∃ a cap, ∃ L : List Tm, cs = [.slice a L.length cap] ∧ LsT W (fun c => c < W.heap.size) (.slice a L.length cap) L)
 (h : DataW.trod enc Tryz.prog W 0 sp held fuel 77 cs = some x) :
 ∃ t a cap, cs = [.int .i64 (Tm.kind t), .string t.name, .int .i64 t.sort, .slice a t.kids.length cap] ∧ TmW W (fun c => c < W.heap.size) a cap t := by
 obtain ⟨ys, n, hn, -, hlen, hyl, hf⟩ := DataW.trod_struct Tryz.underlying77 h
 rw [cTerm] at hlen
 match cs, hlen with
 | [v0, v1, v2, v3], _ =>
   have g0 : ∃ y, DataW.trod enc Tryz.prog W 0 sp held n 3 [v0] = some y := ⟨ys[0]'(by rw [hyl]; decide), (hf 0 _ rfl).trans (List.getElem?_eq_getElem _)⟩
   have g1 : ∃ y, DataW.trod enc Tryz.prog W 0 sp held n 9 [v1] = some y := ⟨ys[1]'(by rw [hyl]; decide), (hf 1 _ rfl).trans (List.getElem?_eq_getElem _)⟩
   have g2 : ∃ y, DataW.trod enc Tryz.prog W 0 sp held n 3 [v2] = some y := ⟨ys[2]'(by rw [hyl]; decide), (hf 2 _ rfl).trans (List.getElem?_eq_getElem _)⟩
   have g3 : ∃ y, DataW.trod enc Tryz.prog W 0 sp held n 75 [v3] = some y := ⟨ys[3]'(by rw [hyl]; decide), (hf 3 _ rfl).trans (List.getElem?_eq_getElem _)⟩
   obtain ⟨y0, t0⟩ := g0
   obtain ⟨y1, t1⟩ := g1
   obtain ⟨y2, t2⟩ := g2
   obtain ⟨y3, t3⟩ := g3
   obtain ⟨n0, e0, -, w0⟩ := DataW.trod_int Tryz.underlying3 t0
   obtain ⟨n1, e1, -, w1⟩ := DataW.trod_string Tryz.underlying9 t1
   obtain ⟨n2, e2, -, w2⟩ := DataW.trod_int Tryz.underlying3 t2
   obtain ⟨a, cap, L, e3, hL⟩ := ih n (by omega) _ _ t3
   cases e0; cases e1; cases e2; cases e3
   obtain ⟨-, hl1, hl2⟩ := hL.len
   refine ⟨.mk n0 n1 n2 L, a, cap, rfl, ⟨wf_I64 w0, wf_I64 w2, w1, hl1, hl2, hL.kidsB⟩⟩

set_option maxRecDepth 100000 in
theorem open_ts {sp : Nat → Bool} {held : Bool} (fuel : Nat) : ∀ (cs : List Value) (x : DataW H × List MemPlace), DataW.trod enc Tryz.prog W 0 sp held fuel 75 cs = some x → ∃ a cap, ∃ L : List Tm, cs = [.slice a L.length cap] ∧ LsT W (fun c => c < W.heap.size) (.slice a L.length cap) L := by
 induction fuel using Nat.strongRecOn with
 | ind fuel ih =>
   intro cs x h
   rcases DataW.trod_slice Tryz.underlying75 h with ⟨rfl, -⟩ | ⟨a, len, cap, elems, rest, n, hn, rfl, -, -, hlc, hcm, hlen, hel, -, -⟩
   · exact ⟨none, 0, [], rfl, LsT.nil⟩
   · rw [cTerm] at hel
     have key : ∀ i, i < len → ∃ t : Tm, TmAt W (fun c => c < W.heap.size) a.block (a.off + i * 4) t ∧ a.spot = none := by
      intro i hi
      have h1 := hel i hi
      rw [List.getElem?_eq_getElem (show i < elems.length by omega)] at h1
      obtain ⟨cs', hc, ht⟩ := Option.bind_eq_some_iff.1 h1
      have h0 := hel 0 (by omega)
      rw [List.getElem?_eq_getElem (show 0 < elems.length by omega)] at h0
      obtain ⟨cs0, hc0, -⟩ := Option.bind_eq_some_iff.1 h0
      obtain ⟨-, hl0, hat0⟩ := World.cells?_some hc0
      have hs := spot_none ((show W.cell? a = W.cell? ((a.add (0 * 4)).add 0) by rw [add_zero, Nat.zero_mul, add_zero]).trans ((hat0 0 (by omega)).trans (List.getElem?_eq_getElem (by omega))))
      obtain ⟨-, hl, hat⟩ := World.cells?_some hc
      obtain ⟨t, ta, tcap, rfl, hT⟩ := open_node (fun m hm => ih m (by omega)) ht
      have hcell : ∀ j v, [Value.int .i64 t.kind, .string t.name, .int .i64 t.sort, .slice ta t.kids.length tcap][j]? = some v → W.cell? ⟨a.block, a.off + i * 4 + j, none⟩ = some v := fun j v hv => by
       have hj := (List.getElem?_eq_some_iff.1 hv).1
       have := hat j (by simpa using hj)
       rw [Go.Deep.add_add, add_plain hs, ← Nat.add_assoc] at this
       exact this.trans hv
      exact ⟨t, TmAt.close (hcell 0 _ rfl) (hcell 1 _ rfl) (hcell 2 _ rfl) (hcell 3 _ rfl) hT, hs⟩
     obtain ⟨L, hl, hL⟩ := list_choose len key
     refine ⟨some a, cap, L, by rw [hl], some a, cap, rfl, by omega, hcm, fun i t hi => ?_⟩
     obtain ⟨h1, h2⟩ := hL i t hi
     exact ⟨a.block, a.off, by obtain ⟨b, o, s⟩ := a; simp only at h2; subst h2; rfl, h1⟩

set_option maxRecDepth 100000 in
theorem open_list {v : Value} {d : DataW H} {p : List MemPlace} {r : Reach} {b0 : Nat} (h : DataW.Trod enc Tryz.prog W 0 (fun _ => true) true 75 v d p) (hv : Value.okWide Tryz.prog W r b0 75 v) :
 ∃ a cap, ∃ L : List Tm, v = .slice a L.length cap ∧ LsT W (fun c => c < W.heap.size) (.slice a L.length cap) L := by
 obtain ⟨av, lv, cv, rfl⟩ := okWide_slice Tryz.underlying75 hv
 obtain ⟨fuel, hf⟩ := h
 obtain ⟨a, cap, L, e, hL⟩ := open_ts fuel _ _ hf
 simp [Value.cells] at e
 obtain ⟨rfl, rfl, rfl⟩ := e
 exact ⟨_, _, L, rfl, hL⟩
set_option maxRecDepth 100000 in
/-- .. and how long the reading is -/
theorem open_list_len {v : Value} {d : DataW H} {p : List MemPlace} {r : Reach} {b0 : Nat} (h : DataW.Trod enc Tryz.prog W 0 (fun _ => true) true 75 v d p) (hv : Value.okWide Tryz.prog W r b0 75 v) :
 ∃ a cap, ∃ L : List Tm, v = .slice a L.length cap ∧ LsT W (fun c => c < W.heap.size) (.slice a L.length cap) L ∧ (L = [] ∨ ∃ es sp, d = .slice es sp ∧ es.length = L.length) := by
 obtain ⟨a, cap, L, rfl, hL⟩ := open_list h hv
 refine ⟨a, cap, L, rfl, hL, ?_⟩
 obtain ⟨fuel, hf⟩ := h
 rcases DataW.trod_slice Tryz.underlying75 hf with ⟨e, -⟩ | ⟨a, len, cap, elems, rest, n, hn, e, hx, -, -, -, hlen, -⟩
 · simp [Value.cells] at e
   exact .inl e.2.1
 · simp [Value.cells] at e
   simp only [Prod.mk.injEq] at hx
   exact .inr ⟨_, _, hx.1, by rw [List.length_map, hlen, e.2.1]⟩
set_option maxRecDepth 100000 in
theorem open_term {v : Value} {d : DataW H} {p : List MemPlace} {r : Reach} {b0 : Nat} (h : DataW.Trod enc Tryz.prog W 0 (fun _ => true) true 77 v d p) (hv : Value.okWide Tryz.prog W r b0 77 v) :
 ∃ t a cap, v = .agg #[.int .i64 (Tm.kind t), .string t.name, .int .i64 t.sort, .slice a t.kids.length cap] ∧ TmW W (fun c => c < W.heap.size) a cap t := by
 obtain ⟨cs, rfl, hs⟩ := okWide_struct Tryz.underlying77 hv
 obtain ⟨fuel, hf⟩ := h
 obtain ⟨t, a, cap, e, hT⟩ := open_node (fun n _ => open_ts n) hf
 refine ⟨t, a, cap, ?_, hT⟩
 have e' : cs.toList = [.int .i64 (Tm.kind t), .string t.name, .int .i64 t.sort, .slice a t.kids.length cap] := by simpa [Value.cells] using e
 rw [← e']
set_option maxRecDepth 100000 in
theorem open_nums {v : Value} {d : DataW H} {p : List MemPlace} {r : Reach} {b0 : Nat} (h : DataW.Trod enc Tryz.prog W 0 (fun _ => true) true 68 v d p) (hv : Value.okWide Tryz.prog W r b0 68 v) :
 ∃ a cap, ∃ C : List Int, v = .slice a C.length cap ∧ LsI W (.slice a C.length cap) C := by
 obtain ⟨av, lv, cv, rfl⟩ := okWide_slice Tryz.underlying68 hv
 obtain ⟨fuel, hf⟩ := h
 rcases DataW.trod_slice Tryz.underlying68 hf with ⟨e, -⟩ | ⟨a, len, cap, elems, rest, n, hn, e, -, -, hlc, hcm, hlen, hel, -, -⟩
 · simp [Value.cells] at e
   obtain ⟨rfl, rfl, rfl⟩ := e
   exact ⟨none, 0, [], rfl, none, 0, rfl, by simp, by unfold maxLen; omega, fun i x h => by simp at h, by simp⟩
 · simp [Value.cells] at e
   obtain ⟨rfl, rfl, rfl⟩ := e
   have key : ∀ i, i < lv → ∃ x : Int, W.cell? ⟨a.block, a.off + i, none⟩ = some (.int .i64 x) ∧ I64 x ∧ a.spot = none := by
    intro i hi
    have cI : Tryz.prog.cellsOf 3 = 1 := by kernel_rfl
    rw [cI] at hel
    have h1 := hel i hi
    rw [List.getElem?_eq_getElem (show i < elems.length by omega)] at h1
    obtain ⟨cs', hc, ht⟩ := Option.bind_eq_some_iff.1 h1
    have h0 := hel 0 (by omega)
    rw [List.getElem?_eq_getElem (show 0 < elems.length by omega)] at h0
    obtain ⟨cs0, hc0, -⟩ := Option.bind_eq_some_iff.1 h0
    obtain ⟨-, hl0, hat0⟩ := World.cells?_some hc0
    have hs := spot_none ((show W.cell? a = W.cell? ((a.add (0 * 1)).add 0) by rw [add_zero, Nat.zero_mul, add_zero]).trans ((hat0 0 (by omega)).trans (List.getElem?_eq_getElem (by omega))))
    obtain ⟨-, hl, hat⟩ := World.cells?_some hc
    obtain ⟨n0, e0, -, w0⟩ := DataW.trod_int Tryz.underlying3 ht
    subst e0
    have := hat 0 (by omega)
    rw [add_zero, Nat.mul_one, add_plain hs] at this
    exact ⟨n0, this, wf_I64 w0, hs⟩
   obtain ⟨C, hl, hC⟩ := list_choose lv key
   refine ⟨some a, cv, C, by rw [hl], some a, cv, rfl, by omega, hcm, fun i x hi => ?_, fun x hx => ?_⟩
   · obtain ⟨h1, h2, h3⟩ := hC i x hi
     exact ⟨a.block, a.off, by obtain ⟨b, o, s⟩ := a; simp only at h3; subst h3; rfl, h1⟩
   · obtain ⟨i, hi⟩ := List.mem_iff_getElem?.1 hx
     exact (hC i x hi).2.1
end

theorem laidOut : laidOutB Tryz.prog = true := by kernel_rfl
theorem ownK : ownKnob Tryz.prog.godebug = none := by kernel_rfl
theorem readTs : Tryz.prog.readableRec 75 = true := by kernel_rfl
theorem rowTs : (75 : TypeId) < Tryz.prog.types.size := of_decide_eq_true (by kernel_rfl)
theorem readT : Tryz.prog.readableRec 77 = true := by kernel_rfl
theorem rowT : (77 : TypeId) < Tryz.prog.types.size := of_decide_eq_true (by kernel_rfl)
theorem readIs : Tryz.prog.readableRec 68 = true := by kernel_rfl
theorem rowIs : (68 : TypeId) < Tryz.prog.types.size := of_decide_eq_true (by kernel_rfl)

end Go.Proofs.YtfaienbdebjfcaaGreat
