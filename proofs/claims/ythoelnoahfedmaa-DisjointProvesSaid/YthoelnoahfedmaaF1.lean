/- From the arguments of a row to memory, and back. -/
import Derived.Test.YthoelnoahfedmaaG13
import Derived.Test.YthoelnoahfedmaaRows
import Derived.ProofKit
import Derived.OpenShut
import Derived.Deep.Slices
import Derived.Deep.Fields
import Derived.ChangeSame
import Derived.Carry
namespace Go.Proofs.Ythoelnoahfedmaa
open Go Go.RowKit Go.ChangeShapes Go.WideShapes Go.ChangeAt Go.Deep
set_option linter.unusedVariables false
set_option linter.unusedSimpArgs false

section
variable {H : Type} {enc : TypeId × Value → H} {P : Program} {w : World} {base : Nat} {spare : Nat → Bool} {held : Bool}
theorem open_slice_fields {t e : TypeId} {fs : Array Field} {fuel : Nat} {cs : List Value} {x : DataW H × List MemPlace} (ht : P.underlying t = some (.slice e)) (he : P.underlying e = some (.struct fs))
    (hone : oneCellFields P fs = true) (hC : P.cellsOf e = fs.size) (h : DataW.trod enc P w base spare held fuel t cs = some x) :
    (cs = [.slice none 0 0] ∧ x = (.nil, [])) ∨
    ∃ (a : Addr) (len cap m : Nat) (D : Nat → DataW H) (Pl : Nat → List MemPlace), cs = [.slice (some a) len cap] ∧ base ≤ a.block ∧ len ≤ cap ∧ cap ≤ maxLen ∧ m = (if spare a.block then cap else len) ∧
      x = (.slice ((List.range len).map D) ((List.range (m - len)).map fun j => D (len + j)), MemPlace.row a (m * fs.size) ++ (List.range m).flatMap Pl) ∧
      ∀ i, i < m → ∃ (ys : List (DataW H × List MemPlace)) (n : Nat), D i = .agg (ys.map (·.1)) ∧ Pl i = ys.flatMap (·.2) ∧ ys.length = fs.size ∧
        ∀ (j : Nat) (f : Field), fs[j]? = some f → ∃ (v : Value) (y : DataW H × List MemPlace), w.cell? (a.add (i * fs.size + j)) = some v ∧ ys[j]? = some y ∧ DataW.trod enc P w base spare held n f.type [v] = some y := by
  rcases open_slice ht h with h0 | ⟨a, len, cap, m, n, D, Pl, hcs, hb, hl, hm, hmm, hx, hi⟩
  · exact .inl h0
  · refine .inr ⟨a, len, cap, m, D, Pl, hcs, hb, hl, hm, hmm, by rw [hC] at hx; exact hx, fun i him => ?_⟩
    obtain ⟨cs', hc, ht'⟩ := hi i him
    rw [hC] at hc
    obtain ⟨ys, n', hn', hy, hlen, hyl, hf⟩ := DataW.trod_struct he ht'
    obtain ⟨_, hcl, hat⟩ := World.cells?_some hc
    simp only [Prod.mk.injEq] at hy
    refine ⟨ys, n', hy.1, hy.2, hyl, fun j f hj => ?_⟩
    obtain ⟨ho, hk⟩ := hone_of hone j f hj
    have hjl : j < fs.size := (Array.getElem?_eq_some_iff.1 hj).1
    have hcell := hat j hjl
    have hv : cs'[j]? = some (cs'[j]'(by omega)) := List.getElem?_eq_getElem (by omega)
    have h1 := hf j f hj
    rw [ho, hk] at h1
    have hone' : (cs'.drop j).take 1 = [cs'[j]'(by omega)] := by
      rw [List.drop_eq_getElem_cons (by omega)]
      rfl
    rw [hone'] at h1
    have hys : ys[j]? = some (ys[j]'(by omega)) := List.getElem?_eq_getElem (by omega)
    refine ⟨_, _, ?_, hys, h1.trans hys⟩
    rw [← Go.Deep.add_add, hcell, hv]
end

section
variable {H : Type} {enc : TypeId × Value → H} {P : Program}
theorem post_of_below {f : Func} {s : ChangeSpec} {apart fresh handsOn again : Bool} {W W' : World} {args : Array Value} {v : Value} {ds gs : List (DataW H)} {before pa pv : List MemPlace}
    (hW : DataW.Whole enc P f.params.toList s.vars apart W args.toList ds gs before)
    (hres : ∀ (b : Nat) (sp : Nat → Bool) (hd : Bool), DataW.TrodAll enc P W' b sp hd f.resultTypes.toList (v.resultList f.resultTypes.size) (s.fn H (ds ++ gs)).results [])
    (hargs : ∀ sp : Nat → Bool, (∀ p ∈ before, sp p.block = true) → DataW.TrodAll enc P W' 0 sp true f.params.toList args.toList (s.fn H (ds ++ gs)).args pa)
    (hvars : ∀ sp : Nat → Bool, (∀ p ∈ before, sp p.block = true) → DataW.TrodVars enc P W' sp s.vars (s.fn H (ds ++ gs)).vars pv)
    (hps : before = pa ++ pv) (hb : Below W.heap.size W W')
    (hok : ∀ (j : Nat) (t : TypeId) (r : Value), f.resultTypes[j]? = some t → (v.resultList f.resultTypes.size)[j]? = some r → Value.okWide P W' .any 0 t r) :
    s.post enc P f apart fresh handsOn again W args v W' := by
  have hlt : ∀ p ∈ before, p.block < W.heap.size := fun p hp => hW.lt p hp
  have hold : ∀ p ∈ before, (fun b => decide (b < W.heap.size)) p.block = true := fun p hp => by simpa using hlt p hp
  refine ⟨ds, gs, before, [], pa, pv, hW, hres _ _ _, hargs _ hold, hvars _ hold, World.keptBut_mono (fun p hp => ⟨hp, ?_⟩) (hb.frame (· ∈ before)), fun _ => ?_⟩
  · rw [hps, List.mem_append] at hp
    exact Or.inr hp
  · obtain ⟨_, _, _, _, _, hz, hn⟩ := hW
    refine ⟨hok, _, _, ([] ++ pa) ++ pv, ⟨[] ++ pa, pv, trodAll_append (hargs _ (fun _ _ => rfl)) (hres _ _ _), hvars _ (fun _ _ => rfl), rfl, ?_, ?_⟩, ?_⟩
    · intro b off hp
      have hin : MemPlace.cell b off ∈ before := by rw [hps]; simpa using hp
      rw [hb.frozen (hlt _ hin)]
      exact hz b off hin
    · intro ha
      have := hn ha
      rw [hps] at this
      simpa using this
    · intro p hp _
      rw [hps]
      simpa using hp
end

theorem c42 : Try.prog.cellsOf 42 = 2 := by kernel_rfl
theorem c39 : Try.prog.cellsOf 39 = 5 := by kernel_rfl

section
variable {H : Type} {enc : TypeId × Value → H} {W : World}

theorem add_plain {a : Addr} (h : a.spot = none) (k : Nat) : a.add k = ⟨a.block, a.off + k, none⟩ := by
  unfold Addr.add
  split
  · rename_i h0; subst h0; cases a; simp_all
  · rfl
theorem spot_none {w : World} {a : Addr} {v : Value} (h : w.cell? a = some v) : a.spot = none := by
  unfold World.cell? at h
  split at h
  · by_cases hs : a.spot = none
    · exact hs
    · simp [hs] at h
  · cases h
theorem add_zero (a : Addr) : a.add 0 = a := by simp [Addr.add]
theorem list_choose {α : Type} {P : Nat → α → Prop} : ∀ (n : Nat), (∀ i, i < n → ∃ x, P i x) → ∃ l : List α, l.length = n ∧ ∀ i x, l[i]? = some x → P i x
  | 0, _ => ⟨[], rfl, by simp⟩
  | n + 1, h => by
    obtain ⟨l, h1, h2⟩ := list_choose n (fun i hi => h i (by omega))
    obtain ⟨x, hx⟩ := h n (by omega)
    refine ⟨l ++ [x], by simp [h1], fun i y hy => ?_⟩
    by_cases hi : i < n
    · rw [List.getElem?_append_left (by omega)] at hy
      exact h2 i y hy
    · have := (List.getElem?_eq_some_iff.1 hy).1
      simp at this
      have : i = n := by omega
      subst this
      rw [List.getElem?_append_right (by omega)] at hy
      simp [h1] at hy
      subst hy
      exact hx
theorem wf_I64 {n : Int} (h : (Lit.int .i64 n).wf = true) : I64 n := by
  simp [Lit.wf, IntKind.min, IntKind.max, IntKind.signed, IntKind.bits] at h
  unfold I64
  omega

set_option maxRecDepth 100000 in
theorem open_flds {fuel : Nat} {cs : List Value} {x : DataW H × List MemPlace} (h : DataW.trod enc Try.prog W 0 (fun _ => true) true fuel 40 cs = some x) :
    ∃ a cap F, cs = [.slice a (List.length F) cap] ∧ FldsA W W.heap.size a F := by
  rcases open_slice_fields (fs := _) Try.underlying40 Try.underlying39 (by kernel_rfl) (by kernel_rfl) h with ⟨rfl, rfl⟩ | ⟨a, len, cap, m, D, Pl, rfl, -, hlc, hcm, hm, -, hel⟩
  · exact ⟨none, 0, [], rfl, by simp [maxLen], by simp⟩
  · have hm' : m = cap := by rw [hm]; rfl
    subst hm'
    have key : ∀ i, i < len → ∃ f : Fld, FldAt W a.block (a.off + i * 5) f ∧ a.spot = none := by
      intro i hi
      obtain ⟨ys, n, -, -, -, hf⟩ := hel i (by omega)
      obtain ⟨ys0, n0, -, -, -, hf0⟩ := hel 0 (by omega)
      obtain ⟨v, y, hc, -, -⟩ := hf0 0 _ rfl
      rw [Nat.zero_mul, Nat.zero_add, add_zero] at hc
      have hs := spot_none hc
      obtain ⟨v0, y0, c0, -, t0⟩ := hf 0 _ rfl
      obtain ⟨v1, y1, c1, -, t1⟩ := hf 1 _ rfl
      obtain ⟨v2, y2, c2, -, t2⟩ := hf 2 _ rfl
      obtain ⟨v3, y3, c3, -, t3⟩ := hf 3 _ rfl
      obtain ⟨v4, y4, c4, -, t4⟩ := hf 4 _ rfl
      obtain ⟨n0, e0, -, w0⟩ := DataW.trod_int Try.underlying3 t0
      obtain ⟨n1, e1, -, w1⟩ := DataW.trod_string Try.underlying9 t1
      obtain ⟨n2, e2, -, w2⟩ := DataW.trod_int Try.underlying3 t2
      obtain ⟨n3, e3, -, w3⟩ := DataW.trod_int Try.underlying3 t3
      obtain ⟨n4, e4, -, w4⟩ := DataW.trod_int Try.underlying3 t4
      cases e0; cases e1; cases e2; cases e3; cases e4
      rw [add_plain hs] at c0 c1 c2 c3 c4
      exact ⟨⟨n0, n1, n2, n3, n4⟩, ⟨c0, c1, c2, c3, c4, ⟨wf_I64 w0, wf_I64 w2, wf_I64 w3, wf_I64 w4, w1⟩⟩, hs⟩
    obtain ⟨F, hl, hF⟩ := list_choose len key
    refine ⟨some a, m, F, by rw [hl], by omega, fun hne => ?_⟩
    have hpos : 0 < F.length := List.length_pos_iff.2 hne
    have h0 := hF 0 F[0] (List.getElem?_eq_getElem hpos)
    refine ⟨a.block, a.off, by obtain ⟨b, o, s⟩ := a; have := h0.2; simp only at this; subst this; rfl, ?_, fun i f hf => (hF i f hf).1⟩
    exact World.block_lt_of_cell? W ⟨a.block, a.off + 0 * 5, none⟩ h0.1.kind

set_option maxRecDepth 100000 in
theorem open_tab {v : Value} {d : DataW H} {p : List MemPlace} {r : Reach} {b0 : Nat} (hv : Value.okWide Try.prog W r b0 22 v) (h : DataW.Trod enc Try.prog W 0 (fun _ => true) true 22 v d p) :
    ∃ a cap t, v = .slice a (List.length t) cap ∧ TabA W W.heap.size a t ∧ t.length ≤ cap ∧ cap ≤ 9223372036854775807 := by
  obtain ⟨av, lv, cv, rfl⟩ := okWide_slice Try.underlying22 hv
  obtain ⟨fuel, hf⟩ := h
  rcases open_slice_fields (fs := _) Try.underlying22 Try.underlying42 (by kernel_rfl) (by kernel_rfl) hf with ⟨h1, -⟩ | ⟨a, len, cap, m, D, Pl, h1, -, hlc, hcm, hm, -, hel⟩
  · simp [Value.cells] at h1
    obtain ⟨rfl, rfl, rfl⟩ := h1
    exact ⟨none, 0, [], rfl, ⟨by simp [maxLen], by simp⟩, by simp, by omega⟩
  · simp [Value.cells] at h1
    obtain ⟨rfl, rfl, rfl⟩ := h1
    have hm' : m = cv := by rw [hm]; rfl
    subst hm'
    have key : ∀ i, i < lv → ∃ f : Fmt, FmtAt W W.heap.size a.block (a.off + i * 2) f ∧ a.spot = none := by
      intro i hi
      obtain ⟨ys, n, -, -, -, hf⟩ := hel i (by omega)
      obtain ⟨ys0, n0, -, -, -, hf0⟩ := hel 0 (by omega)
      obtain ⟨v, y, hc, -, -⟩ := hf0 0 _ rfl
      rw [Nat.zero_mul, Nat.zero_add, add_zero] at hc
      have hs := spot_none hc
      obtain ⟨v0, y0, c0, -, t0⟩ := hf 0 _ rfl
      obtain ⟨v1, y1, c1, -, t1⟩ := hf 1 _ rfl
      obtain ⟨n0, e0, -, w0⟩ := DataW.trod_string Try.underlying9 t0
      obtain ⟨fa, fcap, F, e1, hF⟩ := open_flds t1
      cases e0; cases e1
      rw [add_plain hs] at c0 c1
      exact ⟨⟨n0, F⟩, ⟨c0, ⟨fa, fcap, c1, hF⟩, w0⟩, hs⟩
    obtain ⟨t, hl, hF⟩ := list_choose lv key
    unfold maxLen at hcm
    refine ⟨some a, m, t, by rw [hl], ⟨by rw [hl]; unfold maxLen; omega, fun hne => ?_⟩, by omega, hcm⟩
    have hpos : 0 < t.length := List.length_pos_iff.2 hne
    have h0 := hF 0 t[0] (List.getElem?_eq_getElem hpos)
    refine ⟨a.block, a.off, by obtain ⟨b, o, s⟩ := a; have := h0.2; simp only at this; subst this; rfl, ?_, fun i f hf => (hF i f hf).1⟩
    exact World.block_lt_of_cell? W ⟨a.block, a.off + 0 * 2, none⟩ h0.1.name
end

end Go.Proofs.Ythoelnoahfedmaa
