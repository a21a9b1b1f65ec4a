/- Choices of elements, and spans of terms. Contracts: the program's Span. Contracts: the program's Basis, Rank. Contracts: Go's Equal and Clone of lists of numbers. -/
import Derived.Test.YtckgjebcehbkfaaG11
import Derived.Test.YtckgjebcehbkfaaG7
namespace Go.Proofs.Ytckgjebcehbkfaa
open Go Go.RowKit
set_option linter.unusedVariables false
set_option linter.unusedSimpArgs false

/-- the numbers below m that c chooses -/
def sel (c : Vec Nat) (m : Nat) : List Nat := (List.range m).filter c
theorem sel_succ (c : Vec Nat) (m : Nat) : sel c (m + 1) = sel c m ++ (if c m then [m] else []) := by
  unfold sel
  rw [List.range_succ, List.filter_append]
  congr 1
  simp [List.filter_cons]
theorem sel_mem {c : Vec Nat} {m i : Nat} : i ∈ sel c m ↔ i < m ∧ c i = true := by
  unfold sel; simp
theorem sel_asc (c : Vec Nat) (m : Nat) : (sel c m).Pairwise (· < ·) := List.Pairwise.filter _ (List.pairwise_lt_range)
theorem sel_len (c : Vec Nat) (m : Nat) : (sel c m).length ≤ m := by
  have := List.length_filter_le c (List.range m)
  simpa [sel] using this

/-- the vector of the i-th term -/
def vT (L : List Tm) (i : Nat) : Vec Tm := chi (sumT ((L[i]?).getD default))
/-- the term t is a sum of elements of L -/
def InSpan (L : List Tm) (t : Tm) : Prop := Spn (vT L) L.length (chi (sumT t))
theorem vvL_eq (K L : List Tm) (i : Nat) : vvL K L i = atL K (vT L i) := rowB_atL K _
theorem chi_plus {A B : List Tm} (hA : Asc A) (hB : Asc B) : chi (plusS A B) = xr (chi A) (chi B) := by
  funext x
  have := plusS_mem A B hA hB x
  unfold chi xr
  by_cases h1 : x ∈ A <;> by_cases h2 : x ∈ B <;> simp [this, h1, h2]
theorem chi_nil : chi [] = zv := by funext x; simp [chi, zv]
theorem chi_inj {A B : List Tm} (hA : Asc A) (hB : Asc B) (h : chi A = chi B) : A = B := asc_eq hA hB (fun x => by
  have := congrFun h x
  unfold chi at this
  by_cases h1 : x ∈ A <;> by_cases h2 : x ∈ B <;> simp_all)
/-- the chosen elements' sum -/
theorem comb_sel (L : List Tm) (c : Vec Nat) : ∀ m, m ≤ L.length → comb (vT L) c m = chi (sumL ((sel c m).filterMap (fun i => L[i]?)) [])
  | 0, _ => by simp [sel, sumL, comb, chi_nil]
  | m + 1, h => by
    show xr (comb (vT L) c m) (if c m then vT L m else zv) = _
    rw [comb_sel L c m (by omega), sel_succ, List.filterMap_append]
    cases hc : c m with
    | false => simp [xr_zero]
    | true =>
      have hm : L[m]? = some L[m] := List.getElem?_eq_getElem (by omega)
      simp only [if_true]
      rw [show List.filterMap (fun i => L[i]?) [m] = [L[m]] by simp [hm], sumL_snoc, chi_plus (sumL_asc _ _ (by simp)) (sumT_asc _)]
      unfold vT
      rw [hm]; rfl
theorem selS_sel (L : List Tm) (c : Vec Nat) (m : Nat) : selS L ((sel c m).map (fun k : Nat => (k : Int))) = (sel c m).filterMap (fun i => L[i]?) := by
  unfold selS
  rw [List.filterMap_map]
  rfl
theorem okC_sel {n : Nat} (c : Vec Nat) : okC n ((sel c n).map (fun k : Nat => (k : Int))) := by
  refine ⟨fun x hx => ?_, ?_⟩
  · obtain ⟨i, hi, rfl⟩ := List.mem_map.1 hx
    have := (sel_mem.1 hi).1
    omega
  · rw [List.pairwise_map]
    exact (sel_asc c n).imp (fun h => by omega)
theorem chkS_sel {L : List Tm} {t : Tm} {c : Vec Nat} (hr : rightS L [t] = 0) (h : chi (sumT t) = comb (vT L) c L.length) : chkS L t ((sel c L.length).map (fun k : Nat => (k : Int))) = true := by
  unfold chkS
  rw [hr, decide_eq_true (okC_sel c), selS_sel]
  rw [comb_sel L c _ (Nat.le_refl _)] at h
  rw [decide_eq_true (chi_inj (sumL_asc _ _ (by simp)) (sumT_asc t) h.symm)]
  rfl
theorem int_asc_eq : ∀ {a b : List Int}, a.Pairwise (· < ·) → b.Pairwise (· < ·) → (∀ x, x ∈ a ↔ x ∈ b) → a = b
  | [], [], _, _, _ => rfl
  | [], y :: b, _, _, h => by have := (h y).2 (by simp); simp at this
  | x :: a, [], _, _, h => by have := (h x).1 (by simp); simp at this
  | x :: a, y :: b, ha, hb, h => by
    have ha' := List.pairwise_cons.1 ha
    have hb' := List.pairwise_cons.1 hb
    have e : x = y := by
      rcases List.mem_cons.1 ((h x).1 (by simp)) with e | hx
      · exact e
      · rcases List.mem_cons.1 ((h y).2 (by simp)) with e | hy
        · exact e.symm
        · have h1 := ha'.1 _ hy; have h2 := hb'.1 _ hx; omega
    subst e
    rw [int_asc_eq ha'.2 hb'.2 (fun z => ?_)]
    have h1 : x ∉ a := fun hm => by have := ha'.1 _ hm; omega
    have h2 : x ∉ b := fun hm => by have := hb'.1 _ hm; omega
    have h3 := h z
    simp only [List.mem_cons] at h3
    by_cases e : z = x
    · subst e; simp [h1, h2]
    · simpa [e] using h3
theorem okC_eq {n : Nat} {C : List Int} (h : okC n C) : C = (sel (fun i => decide ((i : Int) ∈ C)) n).map (fun k : Nat => (k : Int)) := by
  refine int_asc_eq h.2 (okC_sel _).2 (fun x => ?_)
  rw [List.mem_map]
  constructor
  · intro hx
    have := h.1 x hx
    exact ⟨x.toNat, sel_mem.2 ⟨by omega, decide_eq_true (by rwa [Int.toNat_of_nonneg this.1])⟩, by omega⟩
  · rintro ⟨i, hi, rfl⟩
    exact of_decide_eq_true (sel_mem.1 hi).2
theorem chkS_span {L : List Tm} {t : Tm} {C : List Int} (h : chkS L t C = true) : rightS L [t] = 0 ∧ InSpan L t := by
  unfold chkS at h
  simp only [Bool.and_eq_true, decide_eq_true_eq] at h
  obtain ⟨⟨h1, h2⟩, h3⟩ := h
  refine ⟨h1, fun i => decide ((i : Int) ∈ C), ?_⟩
  rw [comb_sel L _ _ (Nat.le_refl _), ← selS_sel, ← okC_eq h2, h3]

/-- what Span answers -/
def SpanR (L : List Tm) (t : Tm) (C : List Int) (er : Int) : Prop :=
  (rightS L [t] ≠ 0 ∧ er = rightS L [t] ∧ C = []) ∨ (rightS L [t] = 0 ∧ ((InSpan L t ∧ er = 0 ∧ chkS L t C = true) ∨ (¬ InSpan L t ∧ er = 4 ∧ C = [])))
/-- what Basis answers -/
def BasisR (L : List Tm) (B : List Nat) : Prop := B.Pairwise (· < ·) ∧ ∀ i, i ∈ B ↔ i < L.length ∧ ¬ Spn (vT L) i (vT L i)
theorem BasisR.eq {L : List Tm} {B B' : List Nat} (h : BasisR L B) (h' : BasisR L B') : B = B' := by
  have := int_asc_eq (a := B.map (fun k : Nat => (k : Int))) (b := B'.map (fun k : Nat => (k : Int))) (by rw [List.pairwise_map]; exact h.1.imp (fun h => by omega)) (by rw [List.pairwise_map]; exact h'.1.imp (fun h => by omega)) (fun x => by
    rw [List.mem_map, List.mem_map]
    constructor
    · rintro ⟨i, hi, rfl⟩; exact ⟨i, (h'.2 i).2 ((h.2 i).1 hi), rfl⟩
    · rintro ⟨i, hi, rfl⟩; exact ⟨i, (h.2 i).2 ((h'.2 i).1 hi), rfl⟩)
  exact (List.map_inj_right (f := fun k : Nat => (k : Int)) (fun a b h => by omega)).1 this

/-- columns that hold all summands -/
theorem sup_vT {K L : List Tm} {t : Tm} (hK : ∀ x, x ∈ K ↔ x ∈ allS (L ++ [t])) {i : Nat} (hi : i < L.length) : Sup K (vT L i) := fun x hx => by
  unfold vT chi at hx
  have hm : L[i]? = some L[i] := List.getElem?_eq_getElem hi
  rw [hm] at hx
  refine (hK x).2 (List.mem_flatMap.2 ⟨L[i], by simp, of_decide_eq_true hx⟩)
theorem sup_t {K L : List Tm} {t : Tm} (hK : ∀ x, x ∈ K ↔ x ∈ allS (L ++ [t])) : Sup K (chi (sumT t)) := fun x hx =>
  (hK x).2 (List.mem_flatMap.2 ⟨t, by simp, of_decide_eq_true hx⟩)
theorem vvL_fun (K L : List Tm) : vvL K L = fun i => atL K (vT L i) := funext (vvL_eq K L)
theorem span_cols {K L : List Tm} {t : Tm} (hK : ∀ x, x ∈ K ↔ x ∈ allS (L ++ [t])) : Spn (vvL K L) L.length (rowB K (sumT t)) ↔ InSpan L t := by
  rw [rowB_atL, vvL_fun]
  exact spn_atL (fun i hi => sup_vT hK hi) (sup_t hK)
theorem comb_cols {K L : List Tm} {t : Tm} {c : Vec Nat} (hK : ∀ x, x ∈ K ↔ x ∈ allS (L ++ [t])) (h : rowB K (sumT t) = comb (vvL K L) c L.length) : chi (sumT t) = comb (vT L) c L.length := by
  rw [rowB_atL, vvL_fun, atL_comb] at h
  exact atL_inj (sup_t hK) (sup_comb c _ (fun i hi => sup_vT hK hi)) h
theorem basis_cols {K L : List Tm} {t : Tm} {R : Nat → Option (Vec Nat)} {C : Nat → Option (Vec Nat)} {B : List Nat} (hK : ∀ x, x ∈ K ↔ x ∈ allS (L ++ [t])) (h : Sys (vvL K L) id K.length L.length R C B) : BasisR L B := by
  refine ⟨h.asc, fun i => ?_⟩
  rw [h.mem i]
  constructor
  · rintro ⟨h1, h2⟩
    refine ⟨h1, fun hs => h2 ?_⟩
    rw [vvL_fun]
    exact (spn_atL (fun j hj => sup_vT hK (by omega)) (sup_vT hK h1)).2 hs
  · rintro ⟨h1, h2⟩
    refine ⟨h1, fun hs => h2 ?_⟩
    rw [vvL_fun] at hs
    exact (spn_atL (fun j hj => sup_vT hK (by omega)) (sup_vT hK h1)).1 hs

end Go.Proofs.Ytckgjebcehbkfaa

namespace Go.Proofs.Ytckgjebcehbkfaa
open Go Go.RowKit
open Go.Maps (Keyed)
set_option linter.unusedVariables false
set_option linter.unusedSimpArgs false

theorem LsI.nil (w : World) : LsI w (.slice none 0 0) [] := ⟨none, 0, rfl, by simp, by unfold maxLen; omega, fun i x h => by simp at h, by simp⟩

set_option maxRecDepth 100000 in
set_option maxHeartbeats 4000000 in
theorem PSpan_any {w : World} {S S' : Nat → Prop} {a a' : Option Addr} {cap cap' : Nat} {L : List Tm} {t : Tm} (hz : sizeL L + sizeT t ≤ 80000) (hL : LsT w S (.slice a L.length cap) L) (hT : TmW w S' a' cap' t) :
    Calls Try.prog 31 #[.slice a L.length cap, .agg #[.int .i64 t.kind, .string t.name, .int .i64 t.sort, .slice a' t.kids.length cap']] w fun e w' => ∃ u er C, e = .returned (.tuple #[u, .int .i64 er]) ∧ Ext w w' ∧ LsI w' u C ∧ SpanR L t C er := by
  obtain ⟨-, hl, hc⟩ := hL.len
  have hl' := hT.len
  have hc' := hT.cap
  unfold maxLen at hc hc'
  have hll := len_size L
  have hn80 : L.length ≤ 80000 := by omega
  obtain ⟨bx, hbx⟩ : ∃ bx, bx = w.heap.size := ⟨_, rfl⟩
  obtain ⟨w1, hw1⟩ : ∃ w1, w1 = w.alloc (.cells #[.int .i64 t.kind, .string t.name, .int .i64 t.sort, .slice a' t.kids.length cap'] 24) := ⟨_, rfl⟩
  have HE1 : Hid (Ext w w1) := Lib.hid (by rw [hw1]; exact Ext.alloc w _)
  have HBX : Hid (w1.heap[bx]? = some (.cells #[.int .i64 t.kind, .string t.name, .int .i64 t.sort, .slice a' t.kids.length cap'] 24)) := Lib.hid (by rw [hw1, hbx]; exact hs_new)
  have HLW := Lib.hid (hL.below.ext HE1.out)
  have HTW := Lib.hid (hT.below.ext HE1.out)
  have hcon := right_any (w := w1.alloc (.cells #[.int .i64 t.kind, .string t.name, .int .i64 t.sort, .slice a' t.kids.length cap'] 24)) (L := L) (M := [t]) (a' := some ⟨w1.heap.size, 0, none⟩) (cap' := 1) (fun x hx => by obtain ⟨i, hi⟩ := List.mem_iff_getElem?.1 hx; have := sizeL_get hi; omega) (fun x h => by simp at h; subst h; omega) (by simp) (HLW.out.ext (Ext.alloc _ _)) (one_ls hs_new (HTW.out.ext (Ext.alloc _ _)))
  obtain ⟨er, her⟩ : ∃ er, er = rightS L [t] := ⟨_, rfl⟩
  have HER := Lib.hid her
  rw [← her] at hcon
  have HCON := Lib.hid hcon
  have HZ := Lib.hid hz
  have b0 : w1.cell? ⟨bx, 0, none⟩ = some (.int .i64 t.kind) := by rw [cellc HBX.out]; rfl
  have b1 : w1.cell? ⟨bx, 1, none⟩ = some (.string t.name) := by rw [cellc HBX.out]; rfl
  have b2 : w1.cell? ⟨bx, 2, none⟩ = some (.int .i64 t.sort) := by rw [cellc HBX.out]; rfl
  have b3 : w1.cell? ⟨bx, 3, none⟩ = some (.slice a' t.kids.length cap') := by rw [cellc HBX.out]; rfl
  clear her hcon hL hT hz
  go_enter Try.func31, Try.ntmps31
  go_upto_region 1 with fail
  rw [← hw1, ← hbx]
  clear hw1 hbx
  go_wp2_with fail
  refine HCON.out.mono ?_
  rintro e w3 ⟨rfl, hE3⟩
  have HE3 : Hid (Ext w1 w3) := Lib.hid ((Ext.alloc _ _).trans hE3)
  have HBX3 := Lib.hid (hs_ext HE3.out HBX.out)
  clear hE3 b0 b1 b2 b3
  by_cases hz : er = 0
  case neg =>
    have e1 : (er != 0) = true := by simp [hz]
    have HZ0 := Lib.hid hz
    clear hz
    go_wp2_with fail
    go_ret2
    exact ⟨_, er, [], rfl, HE1.out.trans HE3.out, LsI.nil _, .inl ⟨by rw [← HER.out]; exact HZ0.out, HER.out, rfl⟩⟩
  have e1 : (er != 0) = false := by simp [hz]
  have HR0 : Hid (rightS L [t] = 0) := Lib.hid (by rw [← HER.out, hz])
  clear hz
  have b0 : w3.cell? ⟨bx, 0, none⟩ = some (.int .i64 t.kind) := by rw [cellc HBX3.out]; rfl
  have b1 : w3.cell? ⟨bx, 1, none⟩ = some (.string t.name) := by rw [cellc HBX3.out]; rfl
  have b2 : w3.cell? ⟨bx, 2, none⟩ = some (.int .i64 t.sort) := by rw [cellc HBX3.out]; rfl
  have b3 : w3.cell? ⟨bx, 3, none⟩ = some (.slice a' t.kids.length cap') := by rw [cellc HBX3.out]; rfl
  have hcon := eliminate_any (w := w3) HZ.out (HLW.out.ext HE3.out) (HTW.out.ext HE3.out)
  have HCON2 := Lib.hid hcon
  clear hcon
  go_wp2_with fail
  refine HCON2.out.mono ?_
  rintro e w4 ⟨sb, rfl, hE4, mr, mc, v, K, bv, B, F, G, hB, hKA, hKM, hK8⟩
  obtain ⟨ka, kc, hkv, hkl, hkc, -⟩ := id hB.own.ls
  unfold maxLen at hkc
  subst hkv
  have HB := Lib.hid hB
  have HKA := Lib.hid hKA
  have HKM := Lib.hid hKM
  have HE4 := Lib.hid (HE3.out.trans hE4)
  have b0 := cs_ext hE4 b0
  have b1 := cs_ext hE4 b1
  have b2 := cs_ext hE4 b2
  have b3 := cs_ext hE4 b3
  have hcon := row_any (w := w4) (t := t) hB.sys (fun y hy => by
      obtain ⟨x, hx, hy⟩ := List.mem_flatMap.1 ((hKM y).1 hy)
      have := sumT_size x y hy
      obtain ⟨i, hi⟩ := List.mem_iff_getElem?.1 hx
      have h1 := sizeL_get hi
      have h2 := HZ.out
      rw [sizeL_append, sizeL, sizeL] at h1
      omega) (by have := HZ.out; omega) (by omega) hKA hB.own.ls (HTW.out.ext HE4.out) (fun y hy => (hKM y).2 (List.mem_flatMap.2 ⟨t, by simp, hy⟩))
  have HCON3 := Lib.hid hcon
  clear hcon hB hKA hKM hE4
  go_wp2_with fail
  refine HCON3.out.mono ?_
  rintro e w5 ⟨g, ws, rfl, hE5, hg5, hB5, hl5, hv5⟩
  have HB5 := Lib.hid (HB.out.next hE5)
  have hcon := reduce_any (w := w5) (T := fun c => c < w4.heap.size) HB5.out.sys (by omega) (by omega)
    ⟨by have := lt_of_get' HB.out.sys; omega, by have := HB.out.rows.map.lt; omega, by have := HB.out.chos.map.lt; omega⟩ (fun c hc e => by have hc' : c < w4.heap.size := hc; omega) hB5 hl5
    ((HB.out.rows.weak (T' := fun c => c < w4.heap.size) (fun c _ h => h)).ext hE5) ((HB.out.chos.weak (T' := fun c => c < w4.heap.size) (fun c _ h => h)).ext hE5) HB.out.dom
  have hred : redS F G (bitL ws) K.length = (red (vecs F) id (rowB K (sumT t)) K.length, chs (vecs F) (vecs G) id (rowB K (sumT t)) K.length) := by rw [redS_eq F G HB.out.dom, funext hv5]
  rw [hred] at hcon
  have HCON4 := Lib.hid hcon
  have HE5 := Lib.hid hE5
  have HG5 := Lib.hid hg5
  have HL5 := Lib.hid hl5
  clear hcon hred hE5 hg5 hB5 hl5 hv5 b0 b1 b2 b3
  go_wp2_with fail
  refine HCON4.out.mono ?_
  rintro e w6 ⟨gc, ws', cs, rfl, hg6, hgc6, hB6, hl6, hC6, hlc6, hv6, hvc6⟩
  have hE6 : Ext w4 w6 := HE5.out.grown hg6 (fun q hq => by cases hq; exact HG5.out)
  have HB6 := Lib.hid (HB.out.next hE6)
  have hs0 : w6.cell? ⟨sb, 0, none⟩ = some (.slice ka K.length kc) := by rw [cellc HB6.out.sys]; rfl
  have hcon := first_any (n := K.length) hB6 (by rw [hl6, HL5.out]; omega) (by rw [hl6, HL5.out]; omega)
  rw [hl6] at hcon
  have HCON5 := Lib.hid hcon
  have HE6 := Lib.hid (HE4.out.trans hE6)
  have HC6 := Lib.hid hC6
  have HLC6 := Lib.hid hlc6
  have HV6 := Lib.hid hv6
  have HVC6 := Lib.hid hvc6
  clear hcon hg6 hgc6 hB6 hl6 hC6 hlc6 hv6 hvc6 hE6
  go_wp2_with fail
  refine HCON5.out.mono ?_
  rintro e w7 ⟨r, rfl, rfl, hr⟩
  rcases hr with ⟨rfl, hr⟩ | ⟨c, rfl, hcK, hc1, hcf⟩
  case inr =>
    have HNS : Hid (¬ InSpan L t) := Lib.hid (fun h => by
      have h2 := (HB.out.plain.span _).1 ((span_cols HKM.out).2 h)
      have h3 := HV6.out c
      rw [h2, hc1] at h3
      cases h3)
    clear hc1 hcf
    go_wp2_with fail
    go_ret2
    exact ⟨_, 4, [], rfl, HE1.out.trans HE6.out, LsI.nil _, .inr ⟨HR0.out, .inr ⟨HNS.out, rfl, rfl⟩⟩⟩
  have HRZ : Hid (red (vecs F) id (rowB K (sumT t)) K.length = zv) := Lib.hid (funext (fun j => by
    by_cases hj : j < K.length
    · have := HV6.out j; rw [hr j hj] at this; exact this.symm
    · exact red_out (fun c r hr => HB.out.zero c r hr j (.inr (by omega))) (by unfold rowB; rw [List.getElem?_eq_none (by omega)]) _))
  obtain ⟨ch, hch⟩ : ∃ ch, ch = bitL cs := ⟨_, rfl⟩
  have HSP : Hid (chi (sumT t) = comb (vT L) ch L.length) := Lib.hid (by
    refine comb_cols HKM.out ?_
    have h1 := chs_comb (pv := id) HB.out.plain.dom HB.out.plain.row (rowB K (sumT t)) K.length
    rw [HRZ.out, zero_xr] at h1
    rw [h1, hch, funext HVC6.out])
  have HCH := Lib.hid hch
  clear hr hs0 hch
  go_wp2_with fail
  go_loopw [10, 11, 40] (fun ov _ kv wr => Hid (∃ k : Nat, kv = .int .i64 k ∧ k ≤ L.length ∧ OwnN wr w6.heap.size ov (sel ch k) ∧ Ext w6 wr)) (fun _ _ kv _ => L.length - (intOf kv).toNat)
  case atStart => exact Lib.hid ⟨0, rfl, by omega, OwnN.nil, Ext.refl _⟩
  case round =>
    obtain ⟨k, rfl, hk, hO, hE⟩ := hrel.out
    have HO := Lib.hid hO
    have HE := Lib.hid hE
    clear hO hE hrel
    by_cases hlt : k < L.length
    · have hcon := has_any (i := k) (HC6.out.ext HE.out) (by rw [HLC6.out]; omega) (by rw [HLC6.out]; omega)
      obtain ⟨o, ho⟩ : ∃ o, o = bitL cs k := ⟨_, rfl⟩
      rw [← ho] at hcon
      have HSU : Hid (sel ch (k + 1) = sel ch k ++ if o then [k] else []) := Lib.hid (by rw [sel_succ, HCH.out, ho])
      have HCON6 := Lib.hid hcon
      obtain ⟨pa, pc, hp, -, hpc⟩ := HO.out.slice
      unfold maxLen at hpc
      subst hp
      clear hcon ho
      go_wp2_with fail
      refine HCON6.out.mono ?_
      rintro e w8 ⟨rfl, rfl⟩
      cases o with
      | false =>
        have HO2 : Hid (OwnN wr w6.heap.size (.slice pa (sel ch k).length pc) (sel ch (k + 1))) := Lib.hid (by rw [HSU.out]; simpa using HO.out)
        go_wp2_with fail
        go_roundw
        case rel => exact Lib.hid ⟨k + 1, by go_num, by omega, HO2.out, HE.out⟩
        case measure => simp [intOf]; omega
      | true =>
        have hOA := HO.out.ext (Ext.alloc wr (.cells #[.int .i64 k] 3))
        have hszA : w6.heap.size ≤ (wr.alloc (.cells #[.int .i64 k] 3)).heap.size := (HE.out.then_al _).size
        have hBL : (sel ch k).length ≤ 1000000 := by have := sel_len ch k; omega
        go_wp2_with (at_builtin; (refine wpList_appN rfl (.tmp 46) (.tmp 48) rfl rfl rfl hOA hszA hBL (x := k) (cs_new rfl) ?_); intro v' w9 o9 g9 k9
                     have HO9 : Hid (OwnN w9 w6.heap.size v' (sel ch (k + 1))) := Lib.hid (by rw [HSU.out]; exact o9)
                     have HE9 : Hid (Ext w6 w9) := Lib.hid ((HE.out.then_al _).grown g9 (fun q hq => (hOA.lt q hq).1))
                     clear o9 g9 k9 hOA)
        go_roundw
        case rel => exact Lib.hid ⟨k + 1, by go_num, by omega, HO9.out, HE9.out⟩
        case measure => simp [intOf]; omega
    · have hend : Hid (k = L.length) := Lib.hid (by omega)
      go_wp2_with fail
      go_ret2
      have hO := HO.out
      rw [hend.out] at hO
      exact ⟨_, 0, _, rfl, (HE1.out.trans HE6.out).trans HE.out, hO.ls (fun b hb => by have := (sel_mem.1 hb).1; omega), .inr ⟨HR0.out, .inl ⟨⟨ch, HSP.out⟩, rfl, chkS_sel HR0.out HSP.out⟩⟩⟩

end Go.Proofs.Ytckgjebcehbkfaa

namespace Go.Proofs.Ytckgjebcehbkfaa
open Go Go.RowKit
open Go.Maps (Keyed)
set_option linter.unusedVariables false
set_option linter.unusedSimpArgs false

theorem ints_len (B : List Nat) : (B.map (fun k : Nat => (k : Int))).length = B.length := List.length_map _
set_option maxRecDepth 100000 in
set_option maxHeartbeats 4000000 in
theorem PBasis_any {w : World} {S : Nat → Prop} {a : Option Addr} {cap : Nat} {L : List Tm} (hz : sizeL L ≤ 79000) (hL : LsT w S (.slice a L.length cap) L) :
    Calls Try.prog 28 #[.slice a L.length cap] w fun e w' => ∃ u er B, e = .returned (.tuple #[u, .int .i64 er]) ∧ Ext w w' ∧ LsI w' u (B.map (fun k : Nat => (k : Int))) ∧ er = rightS L [] ∧ (er ≠ 0 → B = []) ∧ (er = 0 → BasisR L B) := by
  obtain ⟨-, hl, hc⟩ := hL.len
  unfold maxLen at hc
  have hll := len_size L
  have hn80 : L.length ≤ 80000 := by omega
  have hcon := right_any (w := w) (L := L) (M := []) (a' := none) (cap' := 0) (fun x hx => by obtain ⟨i, hi⟩ := List.mem_iff_getElem?.1 hx; have := sizeL_get hi; omega) (fun x h => by simp at h) (by simp) hL LsT.nil
  obtain ⟨er, her⟩ : ∃ er, er = rightS L [] := ⟨_, rfl⟩
  have HER := Lib.hid her
  rw [← her] at hcon
  have HCON := Lib.hid hcon
  have HZ := Lib.hid hz
  have HL := Lib.hid hL
  clear her hcon hL hz
  go_enter Try.func28, Try.ntmps28
  go_wp2_with fail
  refine HCON.out.mono ?_
  rintro e w3 ⟨rfl, hE3⟩
  have HE3 := Lib.hid hE3
  clear hE3
  by_cases hz : er = 0
  case neg =>
    have e1 : (er != 0) = true := by simp [hz]
    have HZ0 := Lib.hid hz
    clear hz
    go_wp2_with fail
    go_ret2
    exact ⟨_, er, [], rfl, HE3.out, LsI.nil _, HER.out, fun _ => rfl, fun h => absurd h HZ0.out⟩
  have e1 : (er != 0) = false := by simp [hz]
  have HR0 := Lib.hid hz
  clear hz
  have hcon := eliminate_any (w := w3) (t := appTm zeroN []) (a' := none) (cap' := 0) (S' := fun _ => True) (by have := HZ.out; rw [show sizeT (appTm zeroN []) = 1 by decide +kernel]; omega) (HL.out.ext HE3.out) (tm_nil (by unfold I64; omega) (by unfold I64; omega) (by unfold maxLen; decide))
  have HCON2 := Lib.hid hcon
  clear hcon
  go_wp2_with (refine wpList_buildT rfl [_, _] rfl [(0, .int .i64 3), (1, .string zeroN)] rfl (built_zero _ _) ?_)
  refine HCON2.out.mono ?_
  rintro e w4 ⟨sb, rfl, hE4, mr, mc, v, K, bv, B, F, G, hB, hKA, hKM, hK8⟩
  have HB := Lib.hid hB
  have HKM := Lib.hid hKM
  have HE4 := Lib.hid (HE3.out.trans hE4)
  have s4 : w4.cell? ⟨sb, 4, none⟩ = some bv := by rw [cellc HB.out.sys]; rfl
  obtain ⟨pa, pc, hp, hpl, hpc⟩ := hB.bas.slice
  unfold maxLen at hpc
  subst hp
  clear hB hKA hKM hE4
  go_wp2_with fail
  go_ret2
  exact ⟨_, 0, B, rfl, HE4.out, HB.out.bas.ls (fun b hb => by have := HB.out.plain.lt hb; omega), by rw [← HER.out, HR0.out], fun h => absurd rfl h, fun _ => basis_cols HKM.out HB.out.plain⟩

set_option maxRecDepth 100000 in
set_option maxHeartbeats 4000000 in
theorem PRank_any {w : World} {S : Nat → Prop} {a : Option Addr} {cap : Nat} {L : List Tm} (hz : sizeL L ≤ 79000) (hL : LsT w S (.slice a L.length cap) L) :
    Calls Try.prog 27 #[.slice a L.length cap] w fun e w' => ∃ er B, e = .returned (.tuple #[.int .i64 (B.length : Nat), .int .i64 er]) ∧ Ext w w' ∧ er = rightS L [] ∧ (er ≠ 0 → B = []) ∧ (er = 0 → BasisR L B) := by
  obtain ⟨-, hl, hc⟩ := hL.len
  unfold maxLen at hc
  have hcon := PBasis_any hz hL
  have HCON := Lib.hid hcon
  clear hcon hL hz
  go_enter Try.func27, Try.ntmps27
  go_wp2_with fail
  refine HCON.out.mono ?_
  rintro e w3 ⟨u, er, B, rfl, hE, hI, h1, h2, h3⟩
  obtain ⟨ua, uc, hu, hul, huc, -⟩ := id hI
  rw [ints_len] at hu
  unfold maxLen at huc
  have HE := Lib.hid hE
  have H1 := Lib.hid h1
  have H2 := Lib.hid h2
  have H3 := Lib.hid h3
  subst hu
  clear hI hE h1 h2 h3
  go_wp2_with fail
  go_ret2
  exact ⟨er, B, rfl, HE.out, H1.out, H2.out, H3.out⟩

end Go.Proofs.Ytckgjebcehbkfaa

namespace Go.Proofs.Ytckgjebcehbkfaa
open Go Go.RowKit
set_option linter.unusedVariables false
set_option linter.unusedSimpArgs false

theorem IntsA.at {w : World} {a : Option Addr} {C : List Int} {i : Nat} {x : Int} (h : IntsA w a C) (hi : C[i]? = some x) : ∃ b off, a = some ⟨b, off, none⟩ ∧ w.cell? ⟨b, off + i, none⟩ = some (.int .i64 x) := h i x hi

set_option maxRecDepth 100000 in
set_option maxHeartbeats 1000000 in
theorem iEqual_any {w : World} {a a' : Option Addr} {cap cap' : Nat} {A B : List Int} (hA : LsI w (.slice a A.length cap) A) (hB : LsI w (.slice a' B.length cap') B) :
    Calls Try.prog 30 #[.slice a A.length cap, .slice a' B.length cap'] w fun e w' => e = .returned (.bool (decide (A = B))) ∧ Ext w w' := by
  obtain ⟨-, hl, hc⟩ := hA.len
  obtain ⟨-, hl', hc'⟩ := hB.len
  unfold maxLen at hc hc'
  have HA := Lib.hid hA.ints
  have HB := Lib.hid hB.ints
  clear hA hB
  by_cases hlen : A.length = B.length
  · have e1 : ((A.length : Int) != (B.length : Int)) = false := by simp [hlen]
    have hlt2 : A.length ≤ B.length := by omega
    have HLEN := Lib.hid hlen
    clear hlen
    go_enter Try.func30, Try.ntmps30
    go_wp2_with fail
    go_loopw [5, 13] (fun _ kv wr => ∃ k : Nat, kv = .int .i64 k ∧ k ≤ A.length ∧ (∀ (j : Nat) x y, j < k → A[j]? = some x → B[j]? = some y → x = y) ∧ Ext w wr) (fun _ kv _ => A.length - (intOf kv).toNat)
    case atStart => exact ⟨0, rfl, by omega, fun j x y h => by omega, Ext.refl _⟩
    case round =>
      obtain ⟨k, rfl, hk, hall, hE⟩ := hrel
      have HALL := Lib.hid hall
      have HE := Lib.hid hE
      clear hall hE
      by_cases hlt : k < A.length
      · have hlt' : k < B.length := by omega
        obtain ⟨x, hx⟩ : ∃ x, A[k]? = some x := ⟨_, List.getElem?_eq_getElem hlt⟩
        obtain ⟨y, hy⟩ : ∃ y, B[k]? = some y := ⟨_, List.getElem?_eq_getElem hlt'⟩
        obtain ⟨xb, xo, rfl, x0⟩ := (HA.out.ext HE.out).at hx
        obtain ⟨yb, yo, rfl, y0⟩ := (HB.out.ext HE.out).at hy
        have HX := Lib.hid hx
        have HY := Lib.hid hy
        clear hx hy
        go_wp2_with fail
        refine wp_region_reg 9 false (by kernel_rfl) (by kernel_rfl) ?_
        refine reg_value (fun _ => rfl) ?_ (fun g w' vs hM hE hP => ?_) ?_
        rotate_left
        · (clear hP hM; have zz0 := cs_ext hE x0; have zz1 := cs_ext hE y0; go_simp; first | done | rfl)
        refine reg_value (fun _ => rfl) ?_ (fun g w' vs hM hE hP => ?_) ?_
        rotate_left
        · (clear hP hM; have zz0 := cs_ext hE x0; have zz1 := cs_ext hE y0; go_simp; first | done | rfl)
        refine reg_value (fun _ => rfl) ?_ (fun g w' vs hM hE hP => ?_) ?_
        rotate_left
        · (clear hP hM; have zz0 := cs_ext hE x0; have zz1 := cs_ext hE y0; go_simp; first | done | rfl)
        refine reg_value (fun _ => rfl) ?_ (fun g w' vs hM hE hP => ?_) ?_
        rotate_left
        · (clear hP hM; have zz0 := cs_ext hE x0; have zz1 := cs_ext hE y0; go_simp; first | done | rfl)
        refine reg_value (fun _ => rfl) ?_ (fun g w' vs hM hE hP => ?_) ?_
        rotate_left
        · (clear hP hM; have zz0 := cs_ext hE x0; have zz1 := cs_ext hE y0; go_simp; first | done | rfl)
        refine reg_value (fun _ => rfl) ?_ (fun g w' vs hM hE hP => ?_) ?_
        rotate_left
        · (clear hP hM; have zz0 := cs_ext hE x0; have zz1 := cs_ext hE y0; go_simp; first | done | rfl)
        refine reg_value (fun _ => rfl) ?_ (fun g w' vs hM hE hP => ?_) ?_
        rotate_left
        · (clear hP hM; have zz0 := cs_ext hE x0; have zz1 := cs_ext hE y0; go_simp; first | done | rfl)
        refine reg_value (fun _ => rfl) ?_ (fun g w' vs hM hE hP => ?_) ?_
        rotate_left
        · (clear hP hM; have zz0 := cs_ext hE x0; have zz1 := cs_ext hE y0; go_simp; first | done | rfl)
        refine reg_value (fun _ => rfl) ?_ (fun g w' vs hM hE hP => ?_) ?_
        rotate_left
        · (clear hP hM; have zz0 := cs_ext hE x0; have zz1 := cs_ext hE y0; go_simp; first | done | rfl)
        intro g wz hE2 hF hQ
        simp only [List.drop_succ_cons, List.drop_zero, Act.put, List.setIfInBounds_toArray, List.set_cons_succ, List.set_cons_zero]
        have HE2 := Lib.hid (HE.out.trans hE2)
        clear hE2 hF hQ
        by_cases hxy : x = y
        · have e2 : (x != y) = false := by simp [hxy]
          have HXY := Lib.hid hxy
          clear hxy
          go_wp2_with fail
          go_roundw
          case rel => exact ⟨k + 1, by go_num, by omega, fun j x' y' hj hx' hy' => by
            rcases Nat.lt_or_ge j k with h' | h'
            · exact HALL.out j x' y' h' hx' hy'
            · have : j = k := by omega
              subst this
              rw [HX.out] at hx'; rw [HY.out] at hy'; cases hx'; cases hy'; exact HXY.out, HE2.out⟩
          case measure => simp [intOf]; omega
        · have e2 : (x != y) = true := by simp [hxy]
          have HR : Hid (decide (A = B) = false) := Lib.hid (by
            rw [decide_eq_false_iff_not]
            rintro rfl
            have := HX.out.symm.trans HY.out
            exact hxy (Option.some.inj this))
          clear hxy
          go_wp2_with fail
          go_ret
          exact ⟨rb HR.out.symm, HE2.out⟩
      · have HR : Hid (decide (A = B) = true) := Lib.hid (decide_eq_true (take_eq_of HLEN.out (fun j x y hx hy => HALL.out j x y (by have := (List.getElem?_eq_some_iff.1 hx).1; omega) hx hy)))
        go_wp2_with fail
        go_ret
        exact ⟨rb HR.out.symm, HE.out⟩
  · have e1 : ((A.length : Int) != (B.length : Int)) = true := by simp; omega
    have HR : Hid (decide (A = B) = false) := Lib.hid (by rw [decide_eq_false_iff_not]; rintro rfl; exact hlen rfl)
    clear hlen
    go_enter Try.func30, Try.ntmps30
    go_wp2_with fail
    go_ret
    exact ⟨rb HR.out.symm, Ext.refl _⟩

def encY (k : Int) : Value := .int .i64 k
/-- append of numbers to an empty row of our own -/
theorem wpList_appI {ops : Array Oper} {rest : List Oper} {o : Oper} {a : Act} {w : World} {Q : Exit → Act → World → Prop} (hgd : o.guard = none) (s y : Operand)
    (ho : o.op = .call { callee := .builtin .append, args := #[s, y], argTypes := #[45, 45] }) {base cap : Nat} {v : Value} {ad : Addr} {C : List Int} (hs : a.eval s = v) (hy : a.eval y = .slice (some ad) C.length cap)
    (h : w.ownsRow base 3 1 v 0 []) (hb : base ≤ w.heap.size) (hl : C.length ≤ 1000000) (hx : LsI w (.slice (some ad) C.length cap) C)
    (hK : ∀ v' w', LsI w' v' C → w.grownBy w' v.ownBlock → wpList Try.prog ops Q rest (a.put o.dst v') w') :
    wpList Try.prog ops Q (o :: rest) a w := by
  refine wpList_plain hgd fun K hK' => ?_
  obtain ⟨i0, hi0, hi1, hi2, hi3⟩ := info_parts infI
  obtain ⟨v', w', hr, r1, r2, r3, r4⟩ := run_append_own_at (P := Try.prog) w base 45 o.type 3 i0 (.int .i64 0) 1 8 Try.underlying45 hi0 hi1 hi2 hi3 rfl (by decide)
    v 0 [] h ad C.length cap (C.map encY) (by simp) (fun j u hu => by
      rw [List.getElem?_map] at hu
      obtain ⟨x, hx', rfl⟩ := Option.map_eq_some_iff.1 hu
      obtain ⟨b, off, e, hc⟩ := hx.ints j x hx'
      cases e
      rw [add_none]; exact hc) (fun u hu => by obtain ⟨x, -, rfl⟩ := List.mem_map.1 hu; rfl) (by unfold maxLen; omega) (by omega) hb
  unfold Oper.wp execOp
  simp only [ho, resolve, invoke, builtin, Sem.run_bind, Sem.run_pure, Result.andThen_ok, List.map_toArray, List.map_cons, List.map_nil, hs, hy, hr]
  refine hK' _ _ (hK v' w' ?_ r2)
  rw [Nat.zero_add, List.nil_append] at r1
  rcases r1.2 with ⟨rfl, h0⟩ | ⟨g, cap', cur, rfl, -, -, h1, h2, -⟩
  · have : C = [] := List.length_eq_zero_iff.1 h0
    subst this
    exact LsI.nil _
  · refine ⟨_, cap', rfl, h1, h2, fun i x hi => ⟨g, 0, rfl, ?_⟩, hx.i64⟩
    have hc := World.ownsRow.cells r1 (g := g) rfl i (encY x) (by rw [List.getElem?_map, hi]; rfl)
    rw [add_none] at hc
    exact hc

set_option maxRecDepth 100000 in
set_option maxHeartbeats 1000000 in
theorem iClone_any {w : World} {a : Option Addr} {cap : Nat} {C : List Int} (hll : C.length ≤ 1000000) (hC : LsI w (.slice a C.length cap) C) :
    Calls Try.prog 33 #[.slice a C.length cap] w fun e w' => ∃ u, e = .returned u ∧ Ext w w' ∧ LsI w' u C := by
  have q45 : ∀ (w : World) (a : Option Addr) (n c n' c' : Nat), (binOp .eql 45 (.slice a n c) (.slice none n' c')).run Try.prog w = .ok (.bool a.isNone) w := fun w a n c n' c' => Lib.run_eql_slice_nil w _ _ a n c n' c' Try.underlying45
  cases a with
  | none =>
    have hC0 : C = [] := by
      cases C with
      | nil => rfl
      | cons x L => obtain ⟨b, off, e, -⟩ := hC.ints 0 x rfl; cases e
    subst hC0
    go_enter Try.func33, Try.ntmps33
    go_wp2
    go_ret
    exact ⟨_, rfl, Ext.refl _, LsI.nil _⟩
  | some ad =>
    have hsz : w.heap.size ≤ (w.alloc (.cells #[] 3)).heap.size := by simp
    have hO0 : (w.alloc (.cells #[] 3)).ownsRow w.heap.size 3 1 (.slice (some ⟨w.heap.size, 0, none⟩) 0 0) 0 [] := World.ownsRow_made w #[] 0 (Nat.le_refl _) (by unfold maxLen; omega) (by simp)
    have hC0 := hC.ext (Ext.alloc w (.cells #[] 3))
    have HE0 : Hid (Ext w (w.alloc (.cells #[] 3))) := Lib.hid (Ext.alloc w _)
    clear hC
    go_enter Try.func33, Try.ntmps33
    go_wp2_with (at_builtin; (refine wpList_appI rfl (.tmp 5) (.tmp 6) rfl rfl rfl hO0 hsz (by omega) hC0 ?_); intro v5 w5 o5 g5
                 have HO5 := Lib.hid o5
                 have HE5 : Hid (Ext w w5) := Lib.hid (HE0.out.grown g5 (fun q hq => by cases hq; exact Nat.le_refl _))
                 clear o5 g5 hO0 hC0)
    go_ret
    exact ⟨_, rfl, HE5.out, HO5.out⟩

set_option maxRecDepth 100000 in
set_option maxHeartbeats 1000000 in
theorem few_any {w : World} {S : Nat → Prop} {a : Option Addr} {cap : Nat} {L : List Tm} (hL : LsT w S (.slice a L.length cap) L) :
    Calls Try.prog 13 #[.slice a L.length cap] w fun e w' => e = .returned (.bool (fewT L 20 300)) ∧ Ext w w' := by
  obtain ⟨-, hl, hc⟩ := hL.len
  have hcon := Few_any (w := w) (a := a) (cap := cap) (L := L) (n := 20) (m := 300) (by omega) (by omega) (by omega) (Nat.le_trans hl hc) hL.ts
  have HCON := Lib.hid hcon
  unfold maxLen at hc
  clear hcon hL
  go_enter Try.func13, Try.ntmps13
  go_wp2_with fail
  refine HCON.out.mono ?_
  rintro e w3 ⟨rfl, hE3⟩
  go_wp2_with fail
  go_ret
  exact ⟨rfl, hE3⟩

end Go.Proofs.Ytckgjebcehbkfaa
