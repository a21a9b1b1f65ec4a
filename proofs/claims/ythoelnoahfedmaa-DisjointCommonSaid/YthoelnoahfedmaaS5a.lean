/- The state of a search through pairs: what lies in memory. -/
import Derived.Test.YthoelnoahfedmaaS4
import Derived.Test.YthoelnoahfedmaaW5
import Derived.Test.YthoelnoahfedmaaL1
import Derived.Test.YthoelnoahfedmaaReg
namespace Go.Proofs.Ythoelnoahfedmaa
open Go Go.RowKit
open Go.Maps (Keyed)
set_option linter.unusedVariables false
set_option linter.unusedSimpArgs false

theorem VFmt.nested {t : List Fmt} {fm : Fmt} (h : VFmt t fm) : ∀ x ∈ fm.fields, x.kind = 5 → ∃ j : Nat, x.n = j ∧ ∃ gm, t[j]? = some gm ∧ gm.fields ≠ [] ∧ gm.fields.length ≤ 100 ∧ ∀ y ∈ gm.fields, y.kind = 1 ∨ y.kind = 2 ∨ y.kind = 3 ∨ y.kind = 4 ∨ y.kind = 6 := by
  intro x hx h5
  obtain ⟨k, hk⟩ := List.mem_iff_getElem?.1 hx
  rcases h.fld k x hk with h | h | h | h | h | ⟨-, j, hj, gm, hg, hv⟩
  all_goals first | (exfalso; rw [h.1] at h5; omega) | skip
  exact ⟨j, hj, gm, hg, hv.ne, by have := hv.le; omega, hv.kinds⟩

theorem stepV {w : World} {B : Nat} {a : Option Addr} {t : List Fmt} {cap : Nat} {i : Nat} {fm : Fmt} (s : Int) (b : Nat) (hb : b ≤ 255) (h1 : s ≤ 9223372036854775807) (hT : TabA w B a t) (hB : B ≤ w.heap.size) (hi : t[i]? = some fm) (hV : VFmt t fm) :
    Calls Try.prog 54 #[.agg #[.slice a t.length cap, .int .i64 i], .int .i64 s, .int .u8 b] w fun e w' => e = .returned (.int .i64 (rStep t fm.fields s b)) ∧ Ext w w' := by
  rw [step_eq hV s b hb]
  exact step1_any s b hb h1 hT hB hi hV.ne (by have := hV.le; omega) hV.kinds hV.nested
theorem acceptsV {w : World} {B : Nat} {a : Option Addr} {t : List Fmt} {cap : Nat} {i : Nat} {fm : Fmt} (s : Int) (h1 : s ≤ 9223372036854775807) (hT : TabA w B a t) (hB : B ≤ w.heap.size) (hi : t[i]? = some fm) (hV : VFmt t fm) :
    Calls Try.prog 36 #[.agg #[.slice a t.length cap, .int .i64 i], .int .i64 s] w fun e w' => e = .returned (.bool (rAcc fm.fields s)) ∧ Ext w w' := by
  rw [acc_eq hV s]
  exact accepts_any s h1 hT hB hi hV.ne (by have := hV.le; omega) hV.kinds hV.nested

/-- lists of values, two cells each -/
theorem flat2_get {α : Type} {f : α → List Value} (hf : ∀ x, (f x).length = 2) : ∀ (L : List α) (k j : Nat) (x : α), L[k]? = some x → j < 2 → (L.flatMap f)[k * 2 + j]? = (f x)[j]?
  | [], k, j, x, h, _ => by simp at h
  | y :: L, 0, j, x, h, hj => by
    simp only [List.getElem?_cons_zero, Option.some.injEq] at h
    subst h
    rw [List.flatMap_cons, List.getElem?_append_left (by rw [hf]; omega)]
    simp
  | y :: L, k + 1, j, x, h, hj => by
    simp only [List.getElem?_cons_succ] at h
    rw [List.flatMap_cons, List.getElem?_append_right (by rw [hf]; omega), hf, show (k + 1) * 2 + j - 2 = k * 2 + j by omega]
    exact flat2_get hf L k j x h hj
theorem flat2_len {α : Type} {f : α → List Value} (hf : ∀ x, (f x).length = 2) (L : List α) : (L.flatMap f).length = L.length * 2 := by
  induction L with
  | nil => rfl
  | cons x L ih => simp [hf, ih]; omega

def encP2 (p : Int × Int) : List Value := [.int .i64 p.1, .int .i64 p.2]
def encW2 (p : Nat × Nat) : List Value := [.int .i64 p.1, .int .u8 p.2]
def flatP (L : List (Int × Int)) : List Value := L.flatMap encP2
def flatW (L : List (Nat × Nat)) : List Value := L.flatMap encW2
theorem flatP_snoc (L : List (Int × Int)) (p : Int × Int) : flatP (L ++ [p]) = flatP L ++ [.int .i64 p.1, .int .i64 p.2] := by simp [flatP, encP2]
theorem flatW_snoc (L : List (Nat × Nat)) (p : Nat × Nat) : flatW (L ++ [p]) = flatW L ++ [.int .i64 p.1, .int .u8 p.2] := by simp [flatW, encW2]

/-- elements of two cells of an own row -/
theorem row2_at {w : World} {base e : Nat} {v : Value} {α : Type} {f : α → List Value} (hf : ∀ x, (f x).length = 2) {L : List α} {k : Nat} {x : α} (h : w.ownsRow base e 2 v L.length (L.flatMap f)) (hk : L[k]? = some x) :
    ∃ g cap, v = .slice (some ⟨g, 0, none⟩) L.length cap ∧ L.length ≤ cap ∧ base ≤ g ∧ g < w.heap.size ∧ ∀ j u, (f x)[j]? = some u → w.cell? ⟨g, k * 2 + j, none⟩ = some u := by
  have hlt := (List.getElem?_eq_some_iff.1 hk).1
  rcases h.2 with ⟨-, h0⟩ | ⟨g, cap, cur, rfl, h1, h2, h3, -⟩
  · omega
  · refine ⟨g, cap, rfl, h3, h1, (Array.getElem?_eq_some_iff.1 h2).1, fun j u hu => ?_⟩
    have hj : j < 2 := by have := (List.getElem?_eq_some_iff.1 hu).1; rw [hf] at this; exact this
    have h0 := h.cells (g := g) rfl (k * 2 + j) u (by rw [flat2_get hf L k j x hk hj]; exact hu)
    by_cases hk0 : k * 2 + j = 0
    · rw [hk0] at h0 ⊢
      simpa [Addr.add] using h0
    · rw [Addr.add, if_neg hk0, Nat.zero_add] at h0
      exact h0
theorem row2_slice {w : World} {base e n size : Nat} {v : Value} {xs : List Value} (h : w.ownsRow base e size v n xs) (hn : 0 < n) : ∃ g cap, v = .slice (some ⟨g, 0, none⟩) n cap ∧ n ≤ cap ∧ cap ≤ maxLen ∧ base ≤ g ∧ g < w.heap.size := by
  rcases h.2 with ⟨-, h0⟩ | ⟨g, cap, cur, rfl, h1, h2, h3, h4, -⟩
  · omega
  · exact ⟨g, cap, rfl, h3, h4, h1, (Array.getElem?_eq_some_iff.1 h2).1⟩

/-- the cells of a search: the two automata, the pairs, how they were reached, the map -/
def srchCells (tv : Value) (i j : Nat) (pv wv : Value) (mb : Nat) : Array Value := #[tv, .int .i64 i, tv, .int .i64 j, pv, wv, .map (some mb)]

/-- a search, while its fields lag behind: the rows pv, wv bear L, W; the map bears Lm; the fields bear p0, w0 -/
structure PGen (w wr : World) (tv : Value) (i j gs mb : Nat) (p0 w0 pv wv : Value) (L : List (Int × Int)) (W : List (Nat × Nat)) (Lm : List (Int × Int)) : Prop where
  st : wr.heap[gs]? = some (.cells (srchCells tv i j p0 w0 mb) 71)
  pairs : wr.ownsRow w.heap.size 53 2 pv L.length (flatP L)
  ways : wr.ownsRow w.heap.size 106 2 wv W.length (flatW W)
  map : ∃ n F, MapK encP wr mb n F ∧ ∀ x, (F x).isSome = decide (x.1 ∈ Lm)
  a1 : pv.ownBlock ≠ some gs
  a2 : wv.ownBlock ≠ some gs
  a3 : pv.ownBlock ≠ some mb
  a4 : wv.ownBlock ≠ some mb
  a5 : pv.ownBlock ≠ wv.ownBlock
  a6 : gs ≠ mb
  gs_lo : w.heap.size ≤ gs
  mb_lo : w.heap.size ≤ mb
  ext : Ext w wr

/-- a search -/
abbrev PSrch (w wr : World) (tv : Value) (i j gs mb : Nat) (pv wv : Value) (L : List (Int × Int)) (W : List (Nat × Nat)) : Prop := PGen w wr tv i j gs mb pv wv pv wv L W L

theorem PGen.next {w wr w' : World} {tv : Value} {i j gs mb : Nat} {p0 w0 pv wv : Value} {L Lm : List (Int × Int)} {W : List (Nat × Nat)} (h : PGen w wr tv i j gs mb p0 w0 pv wv L W Lm) (hE : Ext wr w') : PGen w w' tv i j gs mb p0 w0 pv wv L W Lm :=
  ⟨hs_ext hE h.st, ownsRow_ext h.pairs hE, ownsRow_ext h.ways hE, let ⟨n, F, h1, h2⟩ := h.map; ⟨n, F, h1.ext hE, h2⟩, h.a1, h.a2, h.a3, h.a4, h.a5, h.a6, h.gs_lo, h.mb_lo, h.ext.trans hE⟩

theorem PGen.cells {w wr : World} {tv : Value} {i j gs mb : Nat} {p0 w0 pv wv : Value} {L Lm : List (Int × Int)} {W : List (Nat × Nat)} (h : PGen w wr tv i j gs mb p0 w0 pv wv L W Lm) :
    wr.cell? ⟨gs, 0, none⟩ = some tv ∧ wr.cell? ⟨gs, 1, none⟩ = some (.int .i64 i) ∧ wr.cell? ⟨gs, 2, none⟩ = some tv ∧ wr.cell? ⟨gs, 3, none⟩ = some (.int .i64 j) ∧ wr.cell? ⟨gs, 4, none⟩ = some p0 ∧ wr.cell? ⟨gs, 5, none⟩ = some w0 ∧ wr.cell? ⟨gs, 6, none⟩ = some (.map (some mb)) := by
  have e : ∀ o, wr.cell? ⟨gs, o, none⟩ = (srchCells tv i j p0 w0 mb)[o]? := fun o => by simp [World.cell?, h.st]
  simp [e, srchCells]

theorem PGen.gs_lt {w wr : World} {tv : Value} {i j gs mb : Nat} {p0 w0 pv wv : Value} {L Lm : List (Int × Int)} {W : List (Nat × Nat)} (h : PGen w wr tv i j gs mb p0 w0 pv wv L W Lm) : gs < wr.heap.size := (Array.getElem?_eq_some_iff.1 h.st).1

theorem MapK.one {w : World} {b : Nat} (h : w.heap[b]? = some (.map #[{ key := .agg #[.int .i64 0, .int .i64 0], val := .int .i64 0, born := 0 }] 1)) : ∃ n F, MapK encP w b n F ∧ ∀ x : P64, (F x).isSome = decide (x.1 ∈ [((0 : Int), (0 : Int))]) := by
  have z : I64 0 := ⟨by omega, by omega⟩
  refine ⟨1, fun x => if x.1 = (0, 0) then some (.int .i64 0) else none, ⟨_, _, h, by simp, ?_, ?_, ?_⟩, ?_⟩
  · intro i e hi
    match i, hi with
    | 0, hi => simp at hi; subst hi; exact ⟨⟨(0, 0), z, z⟩, rfl⟩
    | i + 1, hi => simp at hi
  · intro i j e e' hi hj _
    have h1 := (Array.getElem?_eq_some_iff.1 hi).1
    have h2 := (Array.getElem?_eq_some_iff.1 hj).1
    simp at h1 h2
    omega
  · rintro ⟨⟨x, y⟩, hx, hy⟩
    by_cases h0 : (x, y) = (0, 0)
    · right
      refine ⟨0, _, rfl, ?_, by simp [h0]⟩
      simp at h0
      simp [encP, h0]
    · left
      refine ⟨by simp [h0], ?_⟩
      intro i e hi
      match i, hi with
      | 0, hi =>
        simp at hi; subst hi
        simp [encP]
        intro h1 h2
        exact h0 (by rw [← h1, ← h2])
      | i + 1, hi => simp at hi
  · intro x
    by_cases h0 : x.1 = (0, 0) <;> simp [h0]

theorem PSrch.start {w wz : World} {tv : Value} {i j gs mb g1 g2 : Nat} (hE : Ext w wz) (h1 : wz.heap[gs]? = some (.cells #[tv, .int .i64 i, tv, .int .i64 j, .slice (some ⟨g1, 0, none⟩) 1 1, .slice (some ⟨g2, 0, none⟩) 1 1, .map (some mb)] 71) ∧ w.heap.size ≤ gs)
    (h2 : wz.heap[g2]? = some (.cells #[.int .i64 0, .int .u8 0] 106) ∧ w.heap.size ≤ g2) (h3 : wz.heap[g1]? = some (.cells #[.int .i64 0, .int .i64 0] 53) ∧ w.heap.size ≤ g1)
    (h4 : wz.heap[mb]? = some (.map #[{ key := .agg #[.int .i64 0, .int .i64 0], val := .int .i64 0, born := 0 }] 1)) (h5 : w.heap.size ≤ mb) (n1 : gs ≠ g1) (n2 : gs ≠ g2) (n3 : gs ≠ mb) (n4 : g2 ≠ g1) (n5 : g2 ≠ mb) (n6 : g1 ≠ mb) :
    PSrch w wz tv i j gs mb (.slice (some ⟨g1, 0, none⟩) 1 1) (.slice (some ⟨g2, 0, none⟩) 1 1) [(0, 0)] [(0, 0)] :=
  ⟨h1.1, ⟨rfl, .inr ⟨g1, 1, _, rfl, h3.2, h3.1, by simp, by unfold maxLen; omega, rfl, rfl⟩⟩, ⟨rfl, .inr ⟨g2, 1, _, rfl, h2.2, h2.1, by simp, by unfold maxLen; omega, rfl, rfl⟩⟩, MapK.one h4,
    by simp [Value.ownBlock]; omega, by simp [Value.ownBlock]; omega, by simp [Value.ownBlock]; omega, by simp [Value.ownBlock]; omega, by simp [Value.ownBlock]; omega, n3, h1.2, h5, hE⟩

/-- all pairs are small -/
theorem levP_small {t : List Fmt} {F G : List Fld} (hF : F.length ≤ 100) (hG : G.length ≤ 100) {k : Nat} : ∀ x ∈ lev (stP t F G) (0, 0) k, 0 ≤ x.1 ∧ x.1 ≤ 40000000 ∧ 0 ≤ x.2 ∧ x.2 ≤ 40000000 := by
  have tk : ∀ (L : List (Int × Int)) (x : Int × Int) (b : Nat), b ≤ 255 → (∀ y ∈ L, 0 ≤ y.1 ∧ y.1 ≤ 40000000 ∧ 0 ≤ y.2 ∧ y.2 ≤ 40000000) → ∀ y ∈ tick (stP t F G) x L b, 0 ≤ y.1 ∧ y.1 ≤ 40000000 ∧ 0 ≤ y.2 ∧ y.2 ≤ 40000000 := by
    intro L x b hb hL y hy
    unfold tick at hy
    split at hy
    · exact hL y hy
    · rename_i n hn
      split at hy
      · exact hL y hy
      · rcases List.mem_append.1 hy with hy | hy
        · exact hL y hy
        · simp at hy
          subst hy
          unfold stP at hn
          split at hn
          · cases hn
          · cases hn
            have h1 := rStep_le (t := t) (s := x.1) hF hb
            have h2 := rStep_le (t := t) (s := x.2) hG hb
            simp only
            omega
  have rw' : ∀ (L : List (Int × Int)) (x : Int × Int) (c : Nat), c ≤ 256 → (∀ y ∈ L, 0 ≤ y.1 ∧ y.1 ≤ 40000000 ∧ 0 ≤ y.2 ∧ y.2 ≤ 40000000) → ∀ y ∈ rowS (stP t F G) L x c, 0 ≤ y.1 ∧ y.1 ≤ 40000000 ∧ 0 ≤ y.2 ∧ y.2 ≤ 40000000 := by
    intro L x c
    induction c with
    | zero => intro _ h; exact h
    | succ c ih => intro hc h; rw [rowS_succ]; exact tk _ _ _ (by omega) (ih (by omega) h)
  induction k with
  | zero => simp [lev]
  | succ k ih =>
    cases h : (lev (stP t F G) (0, 0) k)[k]? with
    | none => rw [lev_stuck h]; exact ih
    | some x => rw [lev_succ h]; exact rw' _ _ _ (by omega) ih

theorem exec_append_own {P : Program} {o : Oper} {a : Act} {w : World} (s x : Operand) (t : TypeId) (ho : o.op = .call { callee := .builtin .append, args := #[s, x], argTypes := #[t, t] })
    (base : Nat) (e : TypeId) (i : TypeInfo) (z : Value) (size bytes : Nat) (ht : P.underlying t = some (.slice e)) (hi : P.info? e = some i) (hz : i.zero = some z)
    (hsize : i.size = size) (hby : i.bytes = bytes) (hzs : z.cells.size = size) (hsz : 0 < size)
    (v : Value) (n : Nat) (xs : List Value) (hs : a.eval s = v) (hown : w.ownsRow base e size v n xs)
    (ad : Addr) (m c : Nat) (news : List Value) (hx : a.eval x = .slice (some ad) m c) (hl : news.length = m * size) (hnews : ∀ j u, news[j]? = some u → w.cell? (ad.add j) = some u) (h1 : ∀ u ∈ news, u.oneCell' = true)
    (h63 : n + m ≤ maxLen) (hbytes : (n + m) * bytes ≤ 140737488355328) (hbase : base ≤ w.heap.size) :
    ∃ v' w', (execOp a.eval o).run P w = .ok (.value v') w' ∧ w'.ownsRow base e size v' (n + m) (xs ++ news) ∧ w.grownBy w' v.ownBlock ∧ (v'.ownBlock = v.ownBlock ∨ v'.ownBlock = some w.heap.size) := by
  obtain ⟨v', w', hr, h2, h3, h4, h5⟩ := run_append_own_at (P := P) w base t o.type e i z size bytes ht hi hz hsize hby hzs hsz v n xs hown ad m c news hl hnews h1 h63 hbytes hbase
  refine ⟨v', w', ?_, h2, h3, h5⟩
  unfold execOp
  simp only [ho, resolve, invoke, builtin, Sem.run_bind, Sem.run_pure, Result.andThen_ok, List.map_toArray, List.map_cons, List.map_nil, hs, hx, hr]

theorem cells_two {w : World} {b : Nat} {x y : Value} {T : TypeId} (h : w.heap[b]? = some (.cells #[x, y] T)) : ∀ j u, [x, y][j]? = some u → w.cell? ((⟨b, 0, none⟩ : Addr).add j) = some u := by
  intro j u hj
  have hc : w.cell? ⟨b, j, none⟩ = some u := by simp [World.cell?, h]; simpa using hj
  unfold Addr.add
  split
  · rename_i h0; subst h0; exact hc
  · simpa using hc

theorem PGen.app1 {w wr : World} {tv : Value} {i j gs mb : Nat} {p0 w0 pv wv : Value} {L Lm : List (Int × Int)} {W : List (Nat × Nat)} (h : PGen w wr tv i j gs mb p0 w0 pv wv L W Lm) {n1 n2 : Int} {fb : Nat} (hfb : wr.heap[fb]? = some (.cells #[.int .i64 n1, .int .i64 n2] 53))
    {o : Oper} {a : Act} {s x : Operand} (ho : o.op = .call { callee := .builtin .append, args := #[s, x], argTypes := #[48, 48] }) (hs : a.eval s = pv) (hx : a.eval x = .slice (some ⟨fb, 0, none⟩) 1 1) (hlen : L.length ≤ 30000) :
    ∃ v' w', (execOp a.eval o).run Try.prog wr = .ok (.value v') w' ∧ PGen w w' tv i j gs mb p0 w0 v' wv (L ++ [(n1, n2)]) W Lm ∧ wr.grownBy w' pv.ownBlock ∧ (v'.ownBlock = pv.ownBlock ∨ v'.ownBlock = some wr.heap.size) := by
  obtain ⟨i0, hi, hz0, hz1, hz2⟩ := info_parts inf53
  obtain ⟨v', w', h1, h2, h3, h4⟩ := exec_append_own s x 48 ho w.heap.size 53 i0 (.agg #[.int .i64 0, .int .i64 0]) 2 16 Try.underlying48 hi hz0 hz1 hz2 rfl (by decide) pv L.length (flatP L) hs h.pairs ⟨fb, 0, none⟩ 1 1 [.int .i64 n1, .int .i64 n2] hx rfl (cells_two hfb)
    (fun u hu => by simp at hu; rcases hu with rfl | rfl <;> rfl) (by unfold maxLen; omega) (by omega) h.ext.size
  have hgs := h.gs_lt
  have hwl := h.ways.lt
  obtain ⟨mn, MF, hM, hMF⟩ := h.map
  have hml := hM.lt
  refine ⟨v', w', h1, ⟨?_, ?_, ?_, ⟨mn, MF, hM.same (h3.block mb hml (fun e => h.a3 e.symm)), hMF⟩, ?_, h.a2, ?_, h.a4, ?_, h.a6, h.gs_lo, h.mb_lo, h.ext.grown h3 (fun k hk => (h.pairs.lt k hk).1)⟩, h3, h4⟩
  · rw [h3.block gs hgs (fun e => h.a1 e.symm)]; exact h.st
  · rw [flatP_snoc]; simpa using h2
  · exact ownsRow_same h.ways (fun g hg => h3.block g (hwl g hg).2 (fun e => h.a5 (by rw [← e, hg])))
  · rcases h4 with e | e
    · rw [e]; exact h.a1
    · rw [e]; simp; omega
  · rcases h4 with e | e
    · rw [e]; exact h.a3
    · rw [e]; simp; omega
  · rcases h4 with e | e
    · rw [e]; exact h.a5
    · rw [e]; intro e2; have := (hwl _ e2.symm).2; omega

theorem PGen.app2 {w wr : World} {tv : Value} {i j gs mb : Nat} {p0 w0 pv wv : Value} {L Lm : List (Int × Int)} {W : List (Nat × Nat)} (h : PGen w wr tv i j gs mb p0 w0 pv wv L W Lm) {n1 n2 : Nat} {fb : Nat} (hfb : wr.heap[fb]? = some (.cells #[.int .i64 n1, .int .u8 n2] 106))
    {o : Oper} {a : Act} {s x : Operand} (ho : o.op = .call { callee := .builtin .append, args := #[s, x], argTypes := #[68, 68] }) (hs : a.eval s = wv) (hx : a.eval x = .slice (some ⟨fb, 0, none⟩) 1 1) (hlen : W.length ≤ 30000) :
    ∃ v' w', (execOp a.eval o).run Try.prog wr = .ok (.value v') w' ∧ PGen w w' tv i j gs mb p0 w0 pv v' L (W ++ [(n1, n2)]) Lm ∧ wr.grownBy w' wv.ownBlock ∧ (v'.ownBlock = wv.ownBlock ∨ v'.ownBlock = some wr.heap.size) := by
  obtain ⟨i0, hi, hz0, hz1, hz2⟩ := info_parts inf106
  obtain ⟨v', w', h1, h2, h3, h4⟩ := exec_append_own s x 68 ho w.heap.size 106 i0 (.agg #[.int .i64 0, .int .u8 0]) 2 16 Try.underlying68 hi hz0 hz1 hz2 rfl (by decide) wv W.length (flatW W) hs h.ways ⟨fb, 0, none⟩ 1 1 [.int .i64 n1, .int .u8 n2] hx rfl (cells_two hfb)
    (fun u hu => by simp at hu; rcases hu with rfl | rfl <;> rfl) (by unfold maxLen; omega) (by omega) h.ext.size
  have hgs := h.gs_lt
  have hpl := h.pairs.lt
  obtain ⟨mn, MF, hM, hMF⟩ := h.map
  have hml := hM.lt
  refine ⟨v', w', h1, ⟨?_, ?_, ?_, ⟨mn, MF, hM.same (h3.block mb hml (fun e => h.a4 e.symm)), hMF⟩, h.a1, ?_, h.a3, ?_, ?_, h.a6, h.gs_lo, h.mb_lo, h.ext.grown h3 (fun k hk => (h.ways.lt k hk).1)⟩, h3, h4⟩
  · rw [h3.block gs hgs (fun e => h.a2 e.symm)]; exact h.st
  · exact ownsRow_same h.pairs (fun g hg => h3.block g (hpl g hg).2 (fun e => h.a5 (by rw [← e, hg])))
  · rw [flatW_snoc]; simpa using h2
  · rcases h4 with e | e
    · rw [e]; exact h.a2
    · rw [e]; simp; omega
  · rcases h4 with e | e
    · rw [e]; exact h.a4
    · rw [e]; simp; omega
  · rcases h4 with e | e
    · rw [e]; exact h.a5
    · rw [e]; intro e2; have := (hpl _ e2).2; omega

/-- the fields follow -/
theorem PGen.set1 {w wr : World} {tv : Value} {i j gs mb : Nat} {p0 w0 pv wv : Value} {L Lm : List (Int × Int)} {W : List (Nat × Nat)} (h : PGen w wr tv i j gs mb p0 w0 pv wv L W Lm) : PGen w (wr.setCell ⟨gs, 4, none⟩ pv) tv i j gs mb pv w0 pv wv L W Lm := by
  have hb : ∀ k, k ≠ gs → (wr.setCell ⟨gs, 4, none⟩ pv).heap[k]? = wr.heap[k]? := fun k hk => heap_setCell_other _ _ _ _ hk
  obtain ⟨mn, MF, hM, hMF⟩ := h.map
  refine ⟨?_, ownsRow_same h.pairs (fun g hg => hb g (fun e => h.a1 (by rw [hg, e]))), ownsRow_same h.ways (fun g hg => hb g (fun e => h.a2 (by rw [hg, e]))), ⟨mn, MF, hM.same (hb mb (fun e => h.a6 e.symm)), hMF⟩, h.a1, h.a2, h.a3, h.a4, h.a5, h.a6, h.gs_lo, h.mb_lo, ?_⟩
  · rw [heap_setCell_same _ _ _ _ _ _ h.st]; rfl
  · exact ⟨h.ext.os, h.ext.tape, h.ext.output, by simpa using h.ext.size, fun k hk => by rw [hb k (by have := h.gs_lo; omega)]; exact h.ext.block hk⟩
theorem PGen.set2 {w wr : World} {tv : Value} {i j gs mb : Nat} {p0 w0 pv wv : Value} {L Lm : List (Int × Int)} {W : List (Nat × Nat)} (h : PGen w wr tv i j gs mb p0 w0 pv wv L W Lm) : PGen w (wr.setCell ⟨gs, 5, none⟩ wv) tv i j gs mb p0 wv pv wv L W Lm := by
  have hb : ∀ k, k ≠ gs → (wr.setCell ⟨gs, 5, none⟩ wv).heap[k]? = wr.heap[k]? := fun k hk => heap_setCell_other _ _ _ _ hk
  obtain ⟨mn, MF, hM, hMF⟩ := h.map
  refine ⟨?_, ownsRow_same h.pairs (fun g hg => hb g (fun e => h.a1 (by rw [hg, e]))), ownsRow_same h.ways (fun g hg => hb g (fun e => h.a2 (by rw [hg, e]))), ⟨mn, MF, hM.same (hb mb (fun e => h.a6 e.symm)), hMF⟩, h.a1, h.a2, h.a3, h.a4, h.a5, h.a6, h.gs_lo, h.mb_lo, ?_⟩
  · rw [heap_setCell_same _ _ _ _ _ _ h.st]; rfl
  · exact ⟨h.ext.os, h.ext.tape, h.ext.output, by simpa using h.ext.size, fun k hk => by rw [hb k (by have := h.gs_lo; omega)]; exact h.ext.block hk⟩
/-- the map bears one more -/
theorem PGen.put {w wr : World} {tv : Value} {i j gs mb : Nat} {p0 w0 pv wv : Value} {L Lm : List (Int × Int)} {W : List (Nat × Nat)} (h : PGen w wr tv i j gs mb p0 w0 pv wv L W Lm) (nk : P64) (v : Value) : ∃ ob, (Instr.mapUpdate 69 (.map (some mb)) (encP nk) v).run Try.prog wr = .ok () (ChangeMaps.setBlock wr mb ob) ∧
    PGen w (ChangeMaps.setBlock wr mb ob) tv i j gs mb p0 w0 pv wv L W (Lm ++ [nk.1]) := by
  obtain ⟨mn, MF, hM, hMF⟩ := h.map
  obtain ⟨ob, hup, hF⟩ := hM.update law53 key53 encP_inj Try.underlying69 nk v
  refine ⟨ob, hup, by rw [turned_block h.a6]; exact h.st, ownsRow_same h.pairs (fun g hg => turned_block (fun e => h.a3 (by rw [hg, e]))), ownsRow_same h.ways (fun g hg => turned_block (fun e => h.a4 (by rw [hg, e]))),
    ⟨_, fun y => if y = nk then some v else MF y, hF _ (by simp) (fun y hy => by simp [hy]), fun x => ?_⟩, h.a1, h.a2, h.a3, h.a4, h.a5, h.a6, h.gs_lo, h.mb_lo, h.ext.turned h.mb_lo⟩
  by_cases hx : x = nk
  · subst hx; simp
  · simp only [hx, if_false, hMF]
    have : x.1 ≠ nk.1 := fun e => hx (Subtype.ext e)
    simp [this]

/-- what holds while two rows grow, by the acts that have run -/
def AppI (w : World) (tv : Value) (i j gs mb : Nat) (pv wv : Value) (L : List (Int × Int)) (W : List (Nat × Nat)) (n : Int × Int) (q : Nat × Nat) (pb nb : Nat) (oP oN : Obj) (vs : List Value) (w' : World) : Prop :=
  w'.heap[nb]? = some oN ∧ w'.heap[pb]? = some oP ∧
  match vs with
  | [] => PGen w w' tv i j gs mb pv wv pv wv L W (L ++ [n])
  | [v1] => PGen w w' tv i j gs mb pv wv v1 wv (L ++ [n]) W (L ++ [n]) ∧ v1.ownBlock ≠ some pb
  | [v1, v2] => PGen w w' tv i j gs mb pv wv v1 v2 (L ++ [n]) (W ++ [q]) (L ++ [n]) ∧ v1.ownBlock ≠ some pb ∧ v2.ownBlock ≠ some pb
  | [v1, v2, _] => PGen w w' tv i j gs mb v1 wv v1 v2 (L ++ [n]) (W ++ [q]) (L ++ [n]) ∧ v1.ownBlock ≠ some pb ∧ v2.ownBlock ≠ some pb
  | [v1, v2, _, _] => PGen w w' tv i j gs mb v1 v2 v1 v2 (L ++ [n]) (W ++ [q]) (L ++ [n]) ∧ v1.ownBlock ≠ some pb ∧ v2.ownBlock ≠ some pb
  | _ => False

theorem AppI.ext {w : World} {tv : Value} {i j gs mb : Nat} {pv wv : Value} {L : List (Int × Int)} {W : List (Nat × Nat)} {n : Int × Int} {q : Nat × Nat} {pb nb : Nat} {oP oN : Obj} (vs : List Value) (w1 w2 : World)
    (h : AppI w tv i j gs mb pv wv L W n q pb nb oP oN vs w1) (hE : Ext w1 w2) : AppI w tv i j gs mb pv wv L W n q pb nb oP oN vs w2 := by
  obtain ⟨h1, h2, h3⟩ := h
  refine ⟨hs_ext hE h1, hs_ext hE h2, ?_⟩
  match vs, h3 with
  | [], h3 => exact PGen.next h3 hE
  | [v1], h3 => exact ⟨PGen.next h3.1 hE, h3.2⟩
  | [v1, v2], h3 => exact ⟨PGen.next h3.1 hE, h3.2⟩
  | [v1, v2, _], h3 => exact ⟨PGen.next h3.1 hE, h3.2⟩
  | [v1, v2, _, _], h3 => exact ⟨PGen.next h3.1 hE, h3.2⟩

theorem PGen.app1_act {w wr : World} {tv : Value} {i j gs mb : Nat} {p0 w0 pv wv : Value} {L Lm : List (Int × Int)} {W : List (Nat × Nat)} (h : PGen w wr tv i j gs mb p0 w0 pv wv L W Lm) {n1 n2 : Int} {fb B : Nat} (hfb : wr.heap[fb]? = some (.cells #[.int .i64 n1, .int .i64 n2] 53))
    {o : Oper} {a : Act} {s x : Operand} (ho : o.op = .call { callee := .builtin .append, args := #[s, x], argTypes := #[48, 48] }) (hs : a.eval s = pv) (hx : a.eval x = .slice (some ⟨fb, 0, none⟩) 1 1) (hlen : L.length ≤ 30000) (hB : ∀ k, pv.ownBlock = some k → k < B) {R : Value → World → Prop}
    (hR : ∀ v' w', PGen w w' tv i j gs mb p0 w0 v' wv (L ++ [(n1, n2)]) W Lm → wr.grownBy w' pv.ownBlock → (v'.ownBlock = pv.ownBlock ∨ v'.ownBlock = some wr.heap.size) → R v' w') :
    ∃ x v w', (execOp a.eval o).run Try.prog wr = .ok x w' ∧ (x = .value v ∨ x = .skip ∧ v = undef) ∧ ActExt B wr w' ∧ R v w' := by
  obtain ⟨v', w', h1, h2, h3, h4⟩ := h.app1 hfb ho hs hx hlen
  exact ⟨_, v', w', h1, .inl rfl, ⟨h3.size, fun b hb hb2 => h3.block b hb2 (fun e => by have := hB b e.symm; omega)⟩, hR v' w' h2 h3 h4⟩
theorem PGen.app2_act {w wr : World} {tv : Value} {i j gs mb : Nat} {p0 w0 pv wv : Value} {L Lm : List (Int × Int)} {W : List (Nat × Nat)} (h : PGen w wr tv i j gs mb p0 w0 pv wv L W Lm) {n1 n2 : Nat} {fb B : Nat} (hfb : wr.heap[fb]? = some (.cells #[.int .i64 n1, .int .u8 n2] 106))
    {o : Oper} {a : Act} {s x : Operand} (ho : o.op = .call { callee := .builtin .append, args := #[s, x], argTypes := #[68, 68] }) (hs : a.eval s = wv) (hx : a.eval x = .slice (some ⟨fb, 0, none⟩) 1 1) (hlen : W.length ≤ 30000) (hB : ∀ k, wv.ownBlock = some k → k < B) {R : Value → World → Prop}
    (hR : ∀ v' w', PGen w w' tv i j gs mb p0 w0 pv v' L (W ++ [(n1, n2)]) Lm → wr.grownBy w' wv.ownBlock → (v'.ownBlock = wv.ownBlock ∨ v'.ownBlock = some wr.heap.size) → R v' w') :
    ∃ x v w', (execOp a.eval o).run Try.prog wr = .ok x w' ∧ (x = .value v ∨ x = .skip ∧ v = undef) ∧ ActExt B wr w' ∧ R v w' := by
  obtain ⟨v', w', h1, h2, h3, h4⟩ := h.app2 hfb ho hs hx hlen
  exact ⟨_, v', w', h1, .inl rfl, ⟨h3.size, fun b hb hb2 => h3.block b hb2 (fun e => by have := hB b e.symm; omega)⟩, hR v' w' h2 h3 h4⟩

theorem ownsRow_lower {w : World} {base base' size n : Nat} {e : TypeId} {v : Value} {xs : List Value} (h : w.ownsRow base e size v n xs) (hb : base' ≤ base) : w.ownsRow base' e size v n xs := by
  refine ⟨h.1, ?_⟩
  rcases h.2 with h | ⟨g, cap, cur, rfl, h1, h2⟩
  · exact .inl h
  · exact .inr ⟨g, cap, cur, rfl, Nat.le_trans hb h1, h2⟩
theorem PGen.lower {w0 w wr : World} {tv : Value} {i j gs mb : Nat} {p0 w1 pv wv : Value} {L Lm : List (Int × Int)} {W : List (Nat × Nat)} (h : PGen w wr tv i j gs mb p0 w1 pv wv L W Lm) (hE : Ext w0 w) : PGen w0 wr tv i j gs mb p0 w1 pv wv L W Lm :=
  ⟨h.st, ownsRow_lower h.pairs hE.size, ownsRow_lower h.ways hE.size, h.map, h.a1, h.a2, h.a3, h.a4, h.a5, h.a6, Nat.le_trans hE.size h.gs_lo, Nat.le_trans hE.size h.mb_lo, hE.trans h.ext⟩

/-- what a search through pairs answers -/
def ExploreR (w w' : World) (tv : Value) (i j : Nat) (f : Int × Int → Nat → Option (Int × Int)) (p : Value) (er : Int) : Prop :=
  (Over f (0, 0) ∧ p = .pointer none ∧ er = 3) ∨ ∃ gs mb pv wv L Ws, Full f (0, 0) L ∧ L.length ≤ 20000 ∧ Ways f L Ws ∧ er = 0 ∧ p = .pointer (some ⟨gs, 0, none⟩) ∧ PSrch w w' tv i j gs mb pv wv L Ws

end Go.Proofs.Ythoelnoahfedmaa
