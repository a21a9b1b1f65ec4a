/- Contracts: Check of both. Rows of elements of any kind. Kinds of elements: terms, pairs of terms, numbers, lists of numbers, redexes. Plain law: subterms, variables, positions, parts of terms. Contracts: the reference's subterms and variables. -/
import Derived.Test.YtfaienbdebjfcaaGreatG8
import Derived.Test.YtfaienbdebjfcaaGreatG4
import Derived.Test.YtfaienbdebjfcaaGreatG5
import Derived.Test.YtfaienbdebjfcaaGreatG1
import Derived.Test.YtfaienbdebjfcaaGreatG3
namespace Go.Proofs.YtfaienbdebjfcaaGreat
open Go Go.RowKit
set_option linter.unusedVariables false
set_option linter.unusedSimpArgs false

/-- the numbers C lie one behind the other at address a -/
def IntsA (w : World) (a : Option Addr) (C : List Int) : Prop := ∀ (i : Nat) x, C[i]? = some x → ∃ b off, a = some ⟨b, off, none⟩ ∧ w.cell? ⟨b, off + i, none⟩ = some (.int .i64 x)
theorem IntsA.ext {w w' : World} {a : Option Addr} {C : List Int} (h : IntsA w a C) (hE : Ext w w') : IntsA w' a C := fun i x hi =>
 let ⟨b, off, e, hc⟩ := h i x hi
 ⟨b, off, e, cs_ext hE hc⟩
/-- the slice v reads as the numbers C -/
def LsI (w : World) (v : Value) (C : List Int) : Prop := ∃ a cap, v = .slice a C.length cap ∧ C.length ≤ cap ∧ cap ≤ maxLen ∧ IntsA w a C ∧ ∀ x ∈ C, I64 x
theorem LsI.ext {w w' : World} {v : Value} {C : List Int} (h : LsI w v C) (hE : Ext w w') : LsI w' v C :=
 let ⟨a, cap, e, h1, h2, h3, h4⟩ := h
 ⟨a, cap, e, h1, h2, h3.ext hE, h4⟩
theorem LsI.ints {w : World} {a : Option Addr} {n cap : Nat} {C : List Int} (h : LsI w (.slice a n cap) C) : IntsA w a C := by
 obtain ⟨a', cap', e, -, -, h, -⟩ := h
 cases e
 exact h
theorem LsI.len {w : World} {a : Option Addr} {n cap : Nat} {C : List Int} (h : LsI w (.slice a n cap) C) : n = C.length ∧ C.length ≤ cap ∧ cap ≤ maxLen := by
 obtain ⟨a', cap', e, h1, h2, -⟩ := h
 cases e
 exact ⟨rfl, h1, h2⟩
theorem LsI.i64 {w : World} {v : Value} {C : List Int} (h : LsI w v C) : ∀ x ∈ C, I64 x := let ⟨_, _, _, _, _, _, h⟩ := h; h

/-- indices in range, ascending -/
def okC (n : Nat) (C : List Int) : Prop := (∀ x ∈ C, 0 ≤ x ∧ x < n) ∧ C.Pairwise (· < ·)
instance (n : Nat) (C : List Int) : Decidable (okC n C) := by unfold okC; infer_instance
/-- the elements that are chosen -/
def selS (L : List Tm) (C : List Int) : List Tm := C.filterMap (fun k => L[k.toNat]?)
def chkS (L : List Tm) (t : Tm) (C : List Int) : Bool := decide (rightS L [t] = 0) && decide (okC L.length C) && decide (sumL (selS L C) [] = sumT t)
theorem okC_nil {n : Nat} : okC n [] := ⟨by simp, by simp⟩
theorem int_take {C : List Int} {k : Nat} {x : Int} (h : C[k]? = some x) : C.take (k + 1) = C.take k ++ [x] := by rw [List.take_add_one, h]; rfl
theorem okC_first {n : Nat} {C : List Int} {x : Int} (h : C[0]? = some x) (h0 : 0 ≤ x) (hn : x < n) : okC n (C.take 1) := by
 rw [int_take h]
 exact ⟨by simp; omega, by simp⟩
theorem okC_next {n : Nat} {C : List Int} {m : Nat} {x y : Int} (h : okC n (C.take (m + 1))) (hy : C[m]? = some y) (hx : C[m + 1]? = some x) (h0 : 0 ≤ x) (hn : x < n) (hlt : y < x) : okC n (C.take (m + 1 + 1)) := by
 rw [int_take hx]
 refine ⟨fun z hz => ?_, ?_⟩
 · rcases List.mem_append.1 hz with hz | hz
   · exact h.1 z hz
   · simp at hz; subst hz; exact ⟨h0, hn⟩
 · rw [int_take hy] at h ⊢
   have hp := h.2
   refine List.pairwise_append.2 ⟨hp, by simp, fun a ha b hb => ?_⟩
   simp at hb
   subst hb
   rcases List.mem_append.1 ha with ha | ha
   · have := (List.pairwise_append.1 hp).2.2 a ha y (by simp); omega
   · simp at ha; omega
theorem okC_bad {n : Nat} {C : List Int} {k : Nat} {x : Int} (hx : C[k]? = some x) (h : x < 0 ∨ n ≤ x) : ¬ okC n C := fun hok => by
 have := hok.1 x (List.mem_of_getElem? hx)
 omega
theorem okC_bad2 {n : Nat} {C : List Int} {m : Nat} {x y : Int} (hy : C[m]? = some y) (hx : C[m + 1]? = some x) (h : x ≤ y) : ¬ okC n C := fun hok => by
 obtain ⟨h1, rfl⟩ := List.getElem?_eq_some_iff.1 hy
 obtain ⟨h2, rfl⟩ := List.getElem?_eq_some_iff.1 hx
 have := List.pairwise_iff_getElem.1 hok.2 m (m + 1) h1 h2 (by omega)
 omega
theorem selS_take {L : List Tm} {C : List Int} {k : Nat} {x : Int} {t : Tm} (hx : C[k]? = some x) (ht : L[x.toNat]? = some t) : selS L (C.take (k + 1)) = selS L (C.take k) ++ [t] := by
 unfold selS
 rw [int_take hx, List.filterMap_append]
 simp [ht]
theorem selS_mem {L : List Tm} {C : List Int} {t : Tm} (h : t ∈ selS L C) : t ∈ L := by
 unfold selS at h
 obtain ⟨k, -, hk⟩ := List.mem_filterMap.1 h
 exact List.mem_of_getElem? hk
theorem selS_len {L : List Tm} {C : List Int} : (selS L C).length ≤ C.length := List.length_filterMap_le _ _
theorem selS_size {L : List Tm} {C : List Int} (hC : C.length ≤ 200) (hL : ∀ x ∈ L, sizeT x ≤ 300) : sizeL (selS L C) ≤ 60000 := by
 have h1 := sizeL_le_mul (L := selS L C) (n := 300) (fun y hy => hL y (selS_mem hy))
 have h2 := selS_len (L := L) (C := C)
 have : (selS L C).length * 300 ≤ 200 * 300 := Nat.mul_le_mul_right _ (by omega)
 omega
theorem sumL_snoc {L acc : List Tm} {t : Tm} : sumL (L ++ [t]) acc = plusS (sumL L acc) (sumT t) := by rw [sumL_append]; simp [sumL]
theorem plusS_self (A : List Tm) : plusS A A = [] := by
 induction A with
 | nil => simp [plusS]
 | cons x A ih => rw [plusS, (cmpT_zero x x).2 rfl]; simpa using ih
theorem plusS_empty {A B : List Tm} (hA : Asc A) (hB : Asc B) : plusS A B = [] ↔ A = B := by
 constructor
 · intro h
   refine asc_eq hA hB (fun x => ?_)
   have := plusS_mem A B hA hB x
   rw [h] at this
   simpa using this
 · rintro rfl; exact plusS_self A
theorem sel_facts {L : List Tm} {C : List Int} (hC : C.length ≤ 200) (hL : ∀ x ∈ L, sizeT x ≤ 300) (k : Nat) : (sumL (selS L (C.take k)) []).length ≤ 60000 ∧ Asc (sumL (selS L (C.take k)) []) ∧ ∀ y ∈ sumL (selS L (C.take k)) [], sizeT y ≤ 60000 := by
 have h1 := selS_size (L := L) (C := C.take k) (by rw [List.length_take]; omega) hL
 refine ⟨by have := sumL_len (selS L (C.take k)) []; simp at this; omega, sumL_asc _ _ (by simp), fun y hy => ?_⟩
 rcases sumL_size _ _ y hy with h | h
 · simp at h
 · omega

/-- how an element of a row lies in memory: n cells, what they point to lies in blocks of a set -/
structure Elm (α : Type) where
 n : Nat
 R : World → (Nat → Prop) → α → List Value → Prop
 len : ∀ {w S x cs}, R w S x cs → cs.length = n
 one : ∀ {w S x cs}, R w S x cs → ∀ u ∈ cs, u.oneCell' = true
 keep : ∀ {w w' : World} {S S' : Nat → Prop} {x cs}, R w S x cs → (∀ c, S c → c < w.heap.size → w'.heap[c]? = w.heap[c]?) → (∀ c, S c → c < w.heap.size → S' c) → R w' S' x cs

section
variable {α : Type} {E : Elm α} {w w' : World} {S S' : Nat → Prop} {v : Value} {L M : List α}
theorem Elm.ext (E : Elm α) {x : α} {cs : List Value} (h : E.R w S x cs) (hE : Ext w w') : E.R w' S x cs := E.keep h (fun c _ hc => hE.block hc) (fun _ h _ => h)
theorem Elm.wide (E : Elm α) {x : α} {cs : List Value} (h : E.R w S x cs) (hS : ∀ c, S c → c < w.heap.size → S' c) : E.R w S' x cs := E.keep h (fun _ _ _ => rfl) hS

/-- the slice v reads as the elements L -/
def LsG (E : Elm α) (w : World) (S : Nat → Prop) (v : Value) (L : List α) : Prop :=
 ∃ a cap, v = .slice a L.length cap ∧ L.length ≤ cap ∧ cap ≤ maxLen ∧ ∀ (i : Nat) x, L[i]? = some x → ∃ b off cs, a = some ⟨b, off, none⟩ ∧ S b ∧ b < w.heap.size ∧ E.R w S x cs ∧ ∀ (j : Nat) u, cs[j]? = some u → w.cell? ⟨b, off + i * E.n + j, none⟩ = some u
theorem LsG.keep (h : LsG E w S v L) (h1 : ∀ c, S c → c < w.heap.size → w'.heap[c]? = w.heap[c]?) (h2 : ∀ c, S c → c < w.heap.size → S' c) (h3 : w.heap.size ≤ w'.heap.size) : LsG E w' S' v L := by
 obtain ⟨a, cap, e, hl, hc, h⟩ := h
 refine ⟨a, cap, e, hl, hc, fun i x hi => ?_⟩
 obtain ⟨b, off, cs, e, hb, hlt, hR, hcs⟩ := h i x hi
 exact ⟨b, off, cs, e, h2 b hb hlt, by omega, E.keep hR h1 h2, fun j u hu => by rw [World.cell?_of_block (a := ⟨b, off + i * E.n + j, none⟩) (h1 b hb hlt)]; exact hcs j u hu⟩
theorem LsG.ext (h : LsG E w S v L) (hE : Ext w w') : LsG E w' S v L := h.keep (fun c _ hc => hE.block hc) (fun _ h _ => h) hE.size
theorem LsG.wide (h : LsG E w S v L) (hS : ∀ c, S c → c < w.heap.size → S' c) : LsG E w S' v L := h.keep (fun _ _ _ => rfl) hS (Nat.le_refl _)
theorem LsG.any (h : LsG E w S v L) : LsG E w (fun _ => True) v L := h.wide (fun _ _ _ => trivial)
theorem LsG.below (h : LsG E w S v L) : LsG E w (fun c => c < w.heap.size) v L := h.wide (fun _ _ h => h)
theorem LsG.nil : LsG E w S (.slice none 0 0) ([] : List α) := ⟨none, 0, rfl, by simp, by unfold maxLen; omega, fun i t h => by simp at h⟩
theorem LsG.slice (h : LsG E w S v L) : ∃ a cap, v = .slice a L.length cap ∧ L.length ≤ cap ∧ cap ≤ maxLen :=
 let ⟨a, cap, e, h1, h2, _⟩ := h
 ⟨a, cap, e, h1, h2⟩
theorem LsG.len {a : Option Addr} {n cap : Nat} (h : LsG E w S (.slice a n cap) L) : n = L.length ∧ L.length ≤ cap ∧ cap ≤ maxLen := by
 obtain ⟨a', cap', e, h1, h2, -⟩ := h
 cases e
 exact ⟨rfl, h1, h2⟩
theorem LsG.at {a : Option Addr} {n cap : Nat} (h : LsG E w S (.slice a n cap) L) {i : Nat} {x : α} (hi : L[i]? = some x) :
 ∃ b off cs, a = some ⟨b, off, none⟩ ∧ S b ∧ b < w.heap.size ∧ E.R w S x cs ∧ ∀ (j : Nat) u, cs[j]? = some u → w.cell? ⟨b, off + i * E.n + j, none⟩ = some u := by
 obtain ⟨a', cap', e, h1, h2, h3⟩ := h
 cases e
 exact h3 i x hi
/-- a part of a list -/
theorem LsG.drop {b off n cap m : Nat} (h : LsG E w S (.slice (some ⟨b, off, none⟩) n cap) L) (hm : m ≤ L.length) : LsG E w S (.slice (some ⟨b, off + m * E.n, none⟩) (n - m) (cap - m)) (L.drop m) := by
 obtain ⟨a', cap', e, h1, h2, h3⟩ := h
 cases e
 refine ⟨_, cap - m, by rw [List.length_drop], by rw [List.length_drop]; omega, by omega, fun k x hk => ?_⟩
 rw [List.getElem?_drop] at hk
 obtain ⟨b', off', cs, e, h4, h5, h6, h7⟩ := h3 _ x hk
 cases e
 refine ⟨b, off + m * E.n, cs, rfl, h4, h5, h6, fun j u hu => ?_⟩
 have := h7 j u hu
 rwa [show off + (m + k) * E.n + j = off + m * E.n + k * E.n + j by rw [Nat.add_mul]; omega] at this
theorem LsG.drop_any {a : Option Addr} {n cap m : Nat} (h : LsG E w S (.slice a n cap) L) (hm : m ≤ L.length) : LsG E w S (.slice (if cap = m then a else a.map (fun p => p.add (m * E.n))) (n - m) (cap - m)) (L.drop m) := by
 obtain ⟨-, hl, hc⟩ := h.len
 cases a with
 | none =>
   have : L = [] := by
    cases L with
    | nil => rfl
    | cons x L => obtain ⟨b, off, cs, e, -⟩ := h.at (i := 0) (x := x) rfl; cases e
   subst this
   obtain ⟨-, hl, hc⟩ := h.len
   have hn := h.len.1
   simp only [List.length_nil] at hn hm
   subst hn
   refine ⟨if cap = m then none else Option.map (fun p : Addr => p.add (m * E.n)) none, cap - m, by simp, by simp, by omega, fun i x hi => by simp at hi⟩
 | some ad =>
   split
   · rename_i e
     subst e
     have hm' : L.length = cap := by omega
     refine ⟨_, 0, by rw [List.length_drop, h.len.1, Nat.sub_self], by rw [List.length_drop]; omega, by unfold maxLen; omega, fun i x hi => ?_⟩
     rw [List.drop_of_length_le (by omega)] at hi
     simp at hi
   · by_cases hL : L = []
     · subst hL
       have hn := h.len.1
       simp only [List.length_nil] at hn hm
       subst hn
       exact ⟨Option.map (fun p : Addr => p.add (m * E.n)) (some ad), cap - m, by simp, by simp, by omega, fun i x hi => by simp at hi⟩
     · obtain ⟨x, hx⟩ : ∃ x, L[0]? = some x := ⟨_, List.getElem?_eq_getElem (List.length_pos_iff.2 hL)⟩
       obtain ⟨b, off, cs, e, -⟩ := h.at hx
       cases e
       have := h.drop hm
       simp only [Option.map_some, add_none]
       exact this
theorem LsG.take {a : Option Addr} {n cap m : Nat} (h : LsG E w S (.slice a n cap) L) (hm : m ≤ L.length) : LsG E w S (.slice a m cap) (L.take m) := by
 obtain ⟨a', cap', e, h1, h2, h3⟩ := h
 cases e
 refine ⟨a, cap, by rw [List.length_take, Nat.min_eq_left hm], by rw [List.length_take]; omega, h2, fun k x hk => ?_⟩
 rw [List.getElem?_take] at hk
 split at hk
 · exact h3 k x hk
 · cases hk

theorem flatP_len {n : Nat} : ∀ (P : List (α × List Value)), (∀ p ∈ P, p.2.length = n) → (P.flatMap (·.2)).length = P.length * n
 | [], _ => by simp
 | p :: P, h => by
   rw [List.flatMap_cons, List.length_append, h p (by simp), flatP_len P (fun q hq => h q (by simp [hq])), List.length_cons, Nat.add_mul]; omega
theorem flatP_get {n : Nat} : ∀ (P : List (α × List Value)) (k j : Nat) (p : α × List Value), (∀ p ∈ P, p.2.length = n) → P[k]? = some p → j < n → (P.flatMap (·.2))[k * n + j]? = p.2[j]?
 | [], k, j, p, _, h, _ => by simp at h
 | q :: P, 0, j, p, h, hk, hj => by
   simp only [List.getElem?_cons_zero, Option.some.injEq] at hk
   subst hk
   rw [List.flatMap_cons, List.getElem?_append_left (by rw [h q (by simp)]; omega)]
   simp
 | q :: P, k + 1, j, p, h, hk, hj => by
   simp only [List.getElem?_cons_succ] at hk
   have e : (k + 1) * n + j = n + (k * n + j) := by rw [Nat.add_mul]; omega
   have hq := h q (by simp)
   rw [List.flatMap_cons, List.getElem?_append_right (by rw [hq, e]; omega), hq, e, show n + (k * n + j) - n = k * n + j by omega]
   exact flatP_get P k j p (fun p hp => h p (by simp [hp])) hk hj

/-- the slice v reads as the elements L, wherever its own block lies -/
def LsE (E : Elm α) (w : World) (S : Nat → Prop) (v : Value) (L : List α) : Prop :=
 ∃ a cap, v = .slice a L.length cap ∧ L.length ≤ cap ∧ cap ≤ maxLen ∧ ∀ (i : Nat) x, L[i]? = some x → ∃ b off cs, a = some ⟨b, off, none⟩ ∧ b < w.heap.size ∧ E.R w S x cs ∧ ∀ (j : Nat) u, cs[j]? = some u → w.cell? ⟨b, off + i * E.n + j, none⟩ = some u
theorem LsG.e (h : LsG E w S v L) : LsE E w S v L := by
 obtain ⟨a, cap, e, hl, hc, h⟩ := h
 refine ⟨a, cap, e, hl, hc, fun i x hi => ?_⟩
 obtain ⟨b, off, cs, e, hb, hlt, hR, hcs⟩ := h i x hi
 exact ⟨b, off, cs, e, hlt, hR, hcs⟩
theorem LsE.slice (h : LsE E w S v L) : ∃ a cap, v = .slice a L.length cap ∧ L.length ≤ cap ∧ cap ≤ maxLen :=
 let ⟨a, cap, e, h1, h2, _⟩ := h
 ⟨a, cap, e, h1, h2⟩
theorem LsE.ext (h : LsE E w S v L) (hE : Ext w w') : LsE E w' S v L := by
 obtain ⟨a, cap, e, hl, hc, h⟩ := h
 refine ⟨a, cap, e, hl, hc, fun i x hi => ?_⟩
 obtain ⟨b, off, cs, e, hlt, hR, hcs⟩ := h i x hi
 exact ⟨b, off, cs, e, Nat.lt_of_lt_of_le hlt hE.size, E.ext hR hE, fun j u hu => cs_ext hE (hcs j u hu)⟩
theorem LsE.at {a : Option Addr} {n cap : Nat} (h : LsE E w S (.slice a n cap) L) {i : Nat} {x : α} (hi : L[i]? = some x) :
 ∃ b off cs, a = some ⟨b, off, none⟩ ∧ b < w.heap.size ∧ E.R w S x cs ∧ ∀ (j : Nat) u, cs[j]? = some u → w.cell? ⟨b, off + i * E.n + j, none⟩ = some u := by
 obtain ⟨a', cap', e, h1, h2, h3⟩ := h
 cases e
 exact h3 i x hi
/-- a list read as entries -/
theorem LsE.entries {a : Option Addr} {n cap : Nat} (h : LsE E w S (.slice a n cap) L) : ∃ P : List (α × List Value), P.map (·.1) = L ∧ (∀ p ∈ P, E.R w S p.1 p.2) ∧ (L ≠ [] → ∃ b off, a = some ⟨b, off, none⟩ ∧ ∀ (j : Nat) u, (P.flatMap (·.2))[j]? = some u → w.cell? ⟨b, off + j, none⟩ = some u) := by
 have key : ∀ m, m ≤ L.length → ∃ P : List (α × List Value), P.map (·.1) = L.take m ∧ (∀ p ∈ P, E.R w S p.1 p.2) ∧ ∀ (i : Nat) p, P[i]? = some p → ∃ b off, a = some ⟨b, off, none⟩ ∧ ∀ (j : Nat) u, p.2[j]? = some u → w.cell? ⟨b, off + i * E.n + j, none⟩ = some u := by
  intro m
  induction m with
  | zero => intro _; exact ⟨[], by simp, by simp, by simp⟩
  | succ m ih =>
    intro hm
    obtain ⟨P, h1, h2, h3⟩ := ih (by omega)
    obtain ⟨x, hx⟩ : ∃ x, L[m]? = some x := ⟨_, List.getElem?_eq_getElem (by omega)⟩
    obtain ⟨b, off, cs, e, -, hR, hcs⟩ := h.at hx
    have hl : P.length = m := by have := congrArg List.length h1; simp at this; omega
    refine ⟨P ++ [(x, cs)], by rw [List.map_append, h1, List.take_add_one, hx]; rfl, fun p hp => ?_, fun i p hi => ?_⟩
    · rcases List.mem_append.1 hp with hp | hp
      · exact h2 p hp
      · simp at hp; subst hp; exact hR
    · by_cases hlt : i < m
      · rw [List.getElem?_append_left (by omega)] at hi
        exact h3 i p hi
      · have := (List.getElem?_eq_some_iff.1 hi).1
        simp at this
        have : i = m := by omega
        subst this
        rw [List.getElem?_append_right (by omega), hl] at hi
        simp at hi
        subst hi
        exact ⟨b, off, e, hcs⟩
 obtain ⟨P, h1, h2, h3⟩ := key L.length (Nat.le_refl _)
 rw [List.take_length] at h1
 refine ⟨P, h1, h2, fun hne => ?_⟩
 obtain ⟨x, hx⟩ : ∃ x, L[0]? = some x := ⟨_, List.getElem?_eq_getElem (List.length_pos_iff.2 hne)⟩
 obtain ⟨b, off, cs, rfl, -⟩ := h.at hx
 refine ⟨b, off, rfl, fun j u hu => ?_⟩
 have hPn : ∀ p ∈ P, p.2.length = E.n := fun p hp => E.len (h2 p hp)
 have hlt := (List.getElem?_eq_some_iff.1 hu).1
 rw [flatP_len P hPn] at hlt
 have hn : 0 < E.n := by
  rcases Nat.eq_zero_or_pos E.n with h0 | h0
  · rw [h0] at hlt; simp at hlt
  · exact h0
 have hm : j / E.n < P.length := (Nat.div_lt_iff_lt_mul hn).2 hlt
 obtain ⟨p, hp⟩ : ∃ p, P[j / E.n]? = some p := ⟨_, List.getElem?_eq_getElem hm⟩
 have e := flatP_get P (j / E.n) (j % E.n) p hPn hp (Nat.mod_lt _ hn)
 have hj : j / E.n * E.n + j % E.n = j := by rw [Nat.mul_comm]; exact Nat.div_add_mod _ _
 rw [hj, hu] at e
 obtain ⟨b', off', e1, hcs⟩ := h3 _ p hp
 cases e1
 have := hcs _ u e.symm
 rwa [show off + j / E.n * E.n + j % E.n = off + j by omega] at this

/-- the row v of our own holds the elements L -/
def OwnG (E : Elm α) (w : World) (base : Nat) (T : TypeId) (S : Nat → Prop) (v : Value) (L : List α) : Prop :=
 ∃ P : List (α × List Value), P.map (·.1) = L ∧ (∀ p ∈ P, E.R w S p.1 p.2) ∧ w.ownsRow base T E.n v P.length (P.flatMap (·.2))
variable {base base' : Nat} {T : TypeId}
theorem OwnG.nil : OwnG E w base T S (.slice none 0 0) ([] : List α) := ⟨[], rfl, by simp, World.ownsRow_nil _ _ _ _⟩
theorem OwnG.lt (h : OwnG E w base T S v L) : ∀ k, v.ownBlock = some k → base ≤ k ∧ k < w.heap.size := let ⟨_, _, _, h⟩ := h; h.lt
theorem OwnG.keep (h : OwnG E w base T S v L) (h1 : ∀ g, v.ownBlock = some g → w'.heap[g]? = w.heap[g]?) (h2 : ∀ c, S c → c < w.heap.size → w'.heap[c]? = w.heap[c]?) (h3 : ∀ c, S c → c < w.heap.size → S' c) : OwnG E w' base T S' v L :=
 let ⟨P, e1, e2, e3⟩ := h
 ⟨P, e1, fun p hp => E.keep (e2 p hp) h2 h3, ownsRow_same e3 h1⟩
theorem OwnG.ext (h : OwnG E w base T S v L) (hE : Ext w w') : OwnG E w' base T S v L := h.keep (fun g hg => hE.block (h.lt g hg).2) (fun c _ hc => hE.block hc) (fun _ h _ => h)
theorem OwnG.wide (h : OwnG E w base T S v L) (hS : ∀ c, S c → c < w.heap.size → S' c) : OwnG E w base T S' v L := h.keep (fun _ _ => rfl) (fun _ _ _ => rfl) hS
theorem OwnG.low (h : OwnG E w base T S v L) (hb : base' ≤ base) : OwnG E w base' T S v L := by
 obtain ⟨P, e1, e2, ⟨h2, h3⟩⟩ := h
 refine ⟨P, e1, e2, ⟨h2, ?_⟩⟩
 rcases h3 with h | ⟨g, cap, cur, e, hg, h⟩
 · exact .inl h
 · exact .inr ⟨g, cap, cur, e, by omega, h⟩
theorem OwnG.slice (h : OwnG E w base T S v L) : ∃ a cap, v = .slice a L.length cap ∧ L.length ≤ cap ∧ cap ≤ maxLen := by
 obtain ⟨P, rfl, e2, h⟩ := h
 rcases h.2 with ⟨rfl, h0⟩ | ⟨g, cap, cur, rfl, -, -, h1, h2, -⟩
 · exact ⟨none, 0, by simp [h0], by simp [h0], by unfold maxLen; omega⟩
 · exact ⟨some ⟨g, 0, none⟩, cap, by simp, by simpa using h1, h2⟩
theorem OwnG.at (h : OwnG E w base T S v L) {i : Nat} {x : α} (hi : L[i]? = some x) : ∃ g cap cs, v = .slice (some ⟨g, 0, none⟩) L.length cap ∧ base ≤ g ∧ g < w.heap.size ∧ E.R w S x cs ∧ ∀ (j : Nat) u, cs[j]? = some u → w.cell? ⟨g, i * E.n + j, none⟩ = some u := by
 obtain ⟨P, rfl, e2, h⟩ := h
 rw [List.getElem?_map] at hi
 obtain ⟨p, hp, rfl⟩ := Option.map_eq_some_iff.1 hi
 have hPn : ∀ p ∈ P, p.2.length = E.n := fun p hp => E.len (e2 p hp)
 have hlt := (List.getElem?_eq_some_iff.1 hp).1
 rcases h.2 with ⟨-, h0⟩ | ⟨g, cap, cur, rfl, h1, h2, h3, -⟩
 · omega
 · refine ⟨g, cap, p.2, by simp, h1, (Array.getElem?_eq_some_iff.1 h2).1, e2 p (List.mem_of_getElem? hp), fun j u hu => ?_⟩
   have hj : j < E.n := by have := (List.getElem?_eq_some_iff.1 hu).1; rw [hPn p (List.mem_of_getElem? hp)] at this; exact this
   have h0 := h.cells (g := g) rfl (i * E.n + j) u (by rw [flatP_get P i j p hPn hp hj]; exact hu)
   rw [add_none, Nat.zero_add] at h0
   exact h0
theorem OwnG.ls (h : OwnG E w base T S v L) (h1 : ∀ c, S c → c < w.heap.size → S' c) (h2 : ∀ g, v.ownBlock = some g → base ≤ g → g < w.heap.size → S' g) : LsG E w S' v L := by
 obtain ⟨a, cap, rfl, hl, hc⟩ := h.slice
 refine ⟨a, cap, rfl, hl, hc, fun i x hi => ?_⟩
 obtain ⟨g, cap', cs, e, hb, hg, hR, hcs⟩ := h.at hi
 cases e
 exact ⟨g, 0, cs, rfl, h2 g rfl hb hg, hg, E.wide hR h1, fun j u hu => by rw [Nat.zero_add]; exact hcs j u hu⟩
theorem OwnG.any (h : OwnG E w base T S v L) : LsG E w (fun _ => True) v L := h.ls (fun _ _ _ => trivial) (fun _ _ _ _ => trivial)
theorem OwnG.new (h : OwnG E w base T S v L) (hS : ∀ c, S c → c < w.heap.size → base ≤ c) : LsG E w (fun c => base ≤ c) v L := h.ls hS (fun _ _ h _ => h)
theorem OwnG.block (h : OwnG E w base T S v L) {g : Nat} (hg : v.ownBlock = some g) : ∃ cur, w.heap[g]? = some (.cells cur T) := by
 obtain ⟨P, rfl, e2, h⟩ := h
 rcases h.2 with ⟨rfl, -⟩ | ⟨g', cap, cur, rfl, -, hc, -⟩
 · cases hg
 · cases hg; exact ⟨cur, hc⟩
theorem Ext.grownG {w0 : World} (h : Ext w0 w) (hO : OwnG E w base T S v L) (hb : w0.heap.size ≤ base) (hg : w.grownBy w' v.ownBlock) : Ext w0 w' := h.grown hg (fun k hk => by have := (hO.lt k hk).1; omega)

/-- append to a row of our own -/
theorem appG {sl : TypeId} {z : Value} {bytes : Nat} {x : Value} {ty : TypeId} {P : Program} (hsl : P.underlying sl = some (.slice T)) (hT : (P.info? T).map (fun i => (i.zero, i.size, i.bytes)) = some (some z, E.n, bytes)) (hz : z.cells.size = E.n) (hn : 0 < E.n) (hby : bytes ≤ 1000)
 (h : OwnG E w base T S v L) (hb : base ≤ w.heap.size) (hS : ∀ c, S c → v.ownBlock ≠ some c) (hl : L.length ≤ 1000000) (hM : M.length ≤ 1000000) (hx : LsE E w S x M) :
 ∃ v' w', (Builtin.append_ #[sl, sl] ty #[v, x]).run P w = .ok v' w' ∧ OwnG E w' base T S v' (L ++ M) ∧ w.grownBy w' v.ownBlock ∧ (v'.ownBlock = v.ownBlock ∨ v'.ownBlock = some w.heap.size) := by
 obtain ⟨i0, hi0, hi1, hi2, hi3⟩ := info_parts hT
 obtain ⟨P1, rfl, e2, h2⟩ := h
 obtain ⟨xa, xc, rfl, hx1, hx2⟩ := hx.slice
 obtain ⟨Q, hQ, f1, f2⟩ := hx.entries
 have hQl : Q.length = M.length := by rw [← hQ, List.length_map]
 have hQn : ∀ p ∈ Q, p.2.length = E.n := fun p hp => E.len (f1 p hp)
 simp only [List.length_map] at hl
 cases xa with
 | none =>
   have hne : M = [] := by
    cases hM : M with
    | nil => rfl
    | cons y M' => obtain ⟨b, off, e, -⟩ := f2 (by rw [hM]; simp); cases e
   subst hne
   refine ⟨v, w, ?_, ⟨P1, by simp, e2, h2⟩, ⟨rfl, rfl, rfl, Nat.le_refl _, fun _ _ _ => rfl⟩, .inl rfl⟩
   have := append_of_nil (P := P) (c := xc) (ty := ty) hsl hi0 h2
   simpa using this
 | some ad =>
   obtain ⟨v', w', hr, r1, r2, r3, r4⟩ := run_append_own_at (P := P) w base sl ty T i0 z E.n bytes hsl hi0 hi1 hi2 hi3 hz hn v P1.length (P1.flatMap (·.2)) h2 ad M.length xc (Q.flatMap (·.2)) (by rw [flatP_len Q hQn, hQl])
    (fun j u hu => by
      have hne : M ≠ [] := fun e => by
       rw [e] at hQ
       have : Q = [] := by simpa using hQ
       rw [this] at hu
       simp at hu
      obtain ⟨b, off, e, hc⟩ := f2 hne
      cases e
      rw [add_none]; exact hc j u hu) (fun u hu => by obtain ⟨p, hp, hu⟩ := List.mem_flatMap.1 hu; exact E.one (f1 p hp) u hu) (by unfold maxLen; omega)
    (Nat.le_trans (Nat.mul_le_mul (show P1.length + M.length ≤ 2000000 by omega) hby) (by omega)) hb
   have hk : ∀ c, S c → c < w.heap.size → w'.heap[c]? = w.heap[c]? := fun c hc hlt => r2.block c hlt (fun e => hS c hc e.symm)
   refine ⟨v', w', hr, ⟨P1 ++ Q, by rw [List.map_append, hQ], fun p hp => ?_, by rw [List.length_append, List.flatMap_append, hQl]; exact r1⟩, r2, r4⟩
   rcases List.mem_append.1 hp with hp | hp
   · exact E.keep (e2 p hp) hk (fun _ h _ => h)
   · exact E.keep (f1 p hp) hk (fun _ h _ => h)
theorem wpList_appG {P : Program} {ops : Array Oper} {rest : List Oper} {o : Oper} {a : Act} {Q : Exit → Act → World → Prop} (hgd : o.guard = none) (sl : TypeId) (s y : Operand)
 (ho : o.op = .call { callee := .builtin .append, args := #[s, y], argTypes := #[sl, sl] }) {z : Value} {bytes : Nat} {x : Value} (hs : a.eval s = v) (hy : a.eval y = x)
 (hsl : P.underlying sl = some (.slice T)) (hT : (P.info? T).map (fun i => (i.zero, i.size, i.bytes)) = some (some z, E.n, bytes)) (hz : z.cells.size = E.n) (hn : 0 < E.n) (hby : bytes ≤ 1000)
 (h : OwnG E w base T S v L) (hb : base ≤ w.heap.size) (hS : ∀ c, S c → v.ownBlock ≠ some c) (hl : L.length ≤ 1000000) (hM : M.length ≤ 1000000) (hx : LsE E w S x M)
 (hK : ∀ v' w', OwnG E w' base T S v' (L ++ M) → w.grownBy w' v.ownBlock → (v'.ownBlock = v.ownBlock ∨ v'.ownBlock = some w.heap.size) → wpList P ops Q rest (a.put o.dst v') w') :
 wpList P ops Q (o :: rest) a w := by
 refine wpList_plain hgd fun K hK' => ?_
 obtain ⟨v', w', hr, h1, h2, h3⟩ := appG (ty := o.type) hsl hT hz hn hby h hb hS hl hM hx
 unfold Oper.wp execOp
 simp only [ho, resolve, invoke, builtin, Sem.run_bind, Sem.run_pure, Result.andThen_ok, List.map_toArray, List.map_cons, List.map_nil, hs, hy, hr]
 exact hK' _ _ (hK v' w' h1 h2 h3)
theorem step_appG {P : Program} {ops : Array Oper} {o : Oper} {a : Act} {K : Act → World → Prop} {Q : Exit → Act → World → Prop} {F : Prop} (hgd : o.guard = none) (sl : TypeId) (s y : Operand)
 (ho : o.op = .call { callee := .builtin .append, args := #[s, y], argTypes := #[sl, sl] }) {z : Value} {bytes : Nat} {x : Value} (hs : a.eval s = v) (hy : a.eval y = x)
 (hsl : P.underlying sl = some (.slice T)) (hT : (P.info? T).map (fun i => (i.zero, i.size, i.bytes)) = some (some z, E.n, bytes)) (hz : z.cells.size = E.n) (hn : 0 < E.n) (hby : bytes ≤ 1000)
 (h : OwnG E w base T S v L) (hb : base ≤ w.heap.size) (hS : ∀ c, S c → v.ownBlock ≠ some c) (hl : L.length ≤ 1000000) (hM : M.length ≤ 1000000) (hx : LsE E w S x M)
 (hK : ∀ v' w', OwnG E w' base T S v' (L ++ M) → w.grownBy w' v.ownBlock → (v'.ownBlock = v.ownBlock ∨ v'.ownBlock = some w.heap.size) → K (a.put o.dst v') w') :
 if Region.wanted o (yielded ops a.tmps) = true then Oper.wp P o a w K Q else F := by
 have hw : Region.wanted o (yielded ops a.tmps) = true := by simp [Region.wanted, hgd]
 rw [if_pos hw]
 obtain ⟨v', w', hr, h1, h2, h3⟩ := appG (ty := o.type) hsl hT hz hn hby h hb hS hl hM hx
 unfold Oper.wp execOp
 simp only [ho, resolve, invoke, builtin, Sem.run_bind, Sem.run_pure, Result.andThen_ok, List.map_toArray, List.map_cons, List.map_nil, hs, hy, hr]
 exact hK v' w' h1 h2 h3

/-- a block of entries reads as their list -/
theorem cells_lsE {fb : Nat} {cs : Array Value} {P : List (α × List Value)} {n : Nat} (hb : w.heap[fb]? = some (.cells cs T)) (he : cs = (P.flatMap (·.2)).toArray) (hP : P.map (·.1) = L) (hn : n = L.length) (hl : L.length ≤ maxLen) (hR : ∀ p ∈ P, E.R w S p.1 p.2) : LsE E w S (.slice (some ⟨fb, 0, none⟩) n n) L := by
 subst hn hP
 refine ⟨_, _, rfl, Nat.le_refl _, hl, fun i x hi => ?_⟩
 rw [List.getElem?_map] at hi
 obtain ⟨p, hp, rfl⟩ := Option.map_eq_some_iff.1 hi
 have hPn : ∀ p ∈ P, p.2.length = E.n := fun p hp => E.len (hR p hp)
 refine ⟨fb, 0, p.2, rfl, lt_of_get' hb, hR p (List.mem_of_getElem? hp), fun j u hu => ?_⟩
 have hj : j < E.n := by have := (List.getElem?_eq_some_iff.1 hu).1; rw [hPn p (List.mem_of_getElem? hp)] at this; exact this
 rw [cellc hb, he, Nat.zero_add, List.getElem?_toArray, flatP_get P i j p hPn hp hj]
 exact hu
theorem cells_lsG {fb : Nat} {cs : Array Value} {P : List (α × List Value)} {n : Nat} (hb : w.heap[fb]? = some (.cells cs T)) (he : cs = (P.flatMap (·.2)).toArray) (hP : P.map (·.1) = L) (hn : n = L.length) (hl : L.length ≤ maxLen) (hS : S fb) (hR : ∀ p ∈ P, E.R w S p.1 p.2) : LsG E w S (.slice (some ⟨fb, 0, none⟩) n n) L := by
 subst hn hP
 refine ⟨_, _, rfl, Nat.le_refl _, hl, fun i x hi => ?_⟩
 rw [List.getElem?_map] at hi
 obtain ⟨p, hp, rfl⟩ := Option.map_eq_some_iff.1 hi
 have hPn : ∀ p ∈ P, p.2.length = E.n := fun p hp => E.len (hR p hp)
 refine ⟨fb, 0, p.2, rfl, hS, lt_of_get' hb, hR p (List.mem_of_getElem? hp), fun j u hu => ?_⟩
 have hj : j < E.n := by have := (List.getElem?_eq_some_iff.1 hu).1; rw [hPn p (List.mem_of_getElem? hp)] at this; exact this
 rw [cellc hb, he, Nat.zero_add, List.getElem?_toArray, flatP_get P i j p hPn hp hj]
 exact hu
end

end Go.Proofs.YtfaienbdebjfcaaGreat

namespace Go.Proofs.YtfaienbdebjfcaaGreat
open Go Go.RowKit
set_option linter.unusedVariables false
set_option linter.unusedSimpArgs false

theorem encE_one' (e : TE) : ∀ u ∈ encE e, u.oneCell' = true := fun u hu => encE_one [e] u (by simpa using hu)
/-- terms -/
def elT : Elm Tm where
 n := 4
 R w S t cs := ∃ a cap, cs = encE ⟨t, a, cap⟩ ∧ TmW w S a cap t
 len := by rintro w S t cs ⟨a, cap, rfl, -⟩; rfl
 one := by rintro w S t cs ⟨a, cap, rfl, -⟩; exact encE_one' _
 keep := by rintro w w' S S' t cs ⟨a, cap, rfl, h⟩ h1 h2; exact ⟨a, cap, rfl, h.keep h1 h2⟩
/-- pairs of terms -/
def elP : Elm (Tm × Tm) where
 n := 8
 R w S p cs := ∃ a cap b dap, cs = encE ⟨p.1, a, cap⟩ ++ encE ⟨p.2, b, dap⟩ ∧ TmW w S a cap p.1 ∧ TmW w S b dap p.2
 len := by rintro w S t cs ⟨a, cap, b, dap, rfl, -⟩; rfl
 one := by
  rintro w S t cs ⟨a, cap, b, dap, rfl, -⟩ u hu
  rcases List.mem_append.1 hu with h | h
  · exact encE_one' _ u h
  · exact encE_one' _ u h
 keep := by rintro w w' S S' t cs ⟨a, cap, b, dap, rfl, h, h'⟩ h1 h2; exact ⟨a, cap, b, dap, rfl, h.keep h1 h2, h'.keep h1 h2⟩
/-- numbers -/
def elI : Elm Int where
 n := 1
 R w S k cs := cs = [.int .i64 k] ∧ I64 k
 len := by rintro w S t cs ⟨rfl, -⟩; rfl
 one := by rintro w S t cs ⟨rfl, -⟩ u hu; simp at hu; subst hu; rfl
 keep := by rintro w w' S S' t cs ⟨rfl, h⟩ h1 h2; exact ⟨rfl, h⟩
/-- strings -/
def elS : Elm ByteArray where
 n := 1
 R w S s cs := cs = [.string s] ∧ s.size ≤ maxLen
 len := by rintro w S t cs ⟨rfl, -⟩; rfl
 one := by rintro w S t cs ⟨rfl, -⟩ u hu; simp at hu; subst hu; rfl
 keep := by rintro w w' S S' t cs ⟨rfl, h⟩ h1 h2; exact ⟨rfl, h⟩
/-- rows whose elements are slices of a kind -/
def elL {α : Type} (E : Elm α) : Elm (List α) where
 n := 1
 R w S l cs := ∃ v, cs = [v] ∧ LsG E w S v l
 len := by rintro w S t cs ⟨v, rfl, -⟩; rfl
 one := by
  rintro w S t cs ⟨v, rfl, h⟩ u hu
  simp at hu; subst hu
  obtain ⟨a, cap, rfl, -⟩ := h.slice
  rfl
 keep := by
  rintro w w' S S' t cs ⟨v, rfl, h⟩ h1 h2
  refine ⟨v, rfl, ?_⟩
  obtain ⟨a, cap, e, hl, hc, h⟩ := h
  refine ⟨a, cap, e, hl, hc, fun i x hi => ?_⟩
  obtain ⟨b, off, cs, e, hb, hlt, hR, hcs⟩ := h i x hi
  have hblk := h1 b hb hlt
  have hlt' : b < w'.heap.size := by
   have h3 : w.heap[b]? = some w.heap[b] := Array.getElem?_eq_getElem hlt
   rw [← hblk] at h3
   exact (Array.getElem?_eq_some_iff.1 h3).1
  exact ⟨b, off, cs, e, h2 b hb hlt, hlt', E.keep hR h1 h2, fun j u hu => by rw [World.cell?_of_block (a := ⟨b, off + i * E.n + j, none⟩) hblk]; exact hcs j u hu⟩
/-- redexes -/
abbrev Rdx := Int × List Int
def elX : Elm Rdx where
 n := 2
 R w S r cs := ∃ v, cs = [.int .i64 r.1, v] ∧ I64 r.1 ∧ LsG elI w S v r.2
 len := by rintro w S t cs ⟨v, rfl, -⟩; rfl
 one := by
  rintro w S t cs ⟨v, rfl, -, h⟩ u hu
  obtain ⟨a, cap, rfl, -⟩ := h.slice
  simp at hu
  rcases hu with rfl | rfl <;> rfl
 keep := by
  rintro w w' S S' t cs ⟨v, rfl, hk, h⟩ h1 h2
  have := (elL elI).keep (x := t.2) (cs := [v]) ⟨v, rfl, h⟩ h1 h2
  obtain ⟨v', e, h⟩ := this
  simp only [List.cons.injEq, and_true] at e
  subst e
  exact ⟨v, rfl, hk, h⟩
theorem LsG.hold {α : Type} {E : Elm α} {w w' : World} {S S' : Nat → Prop} {v : Value} {L : List α} (h : LsG E w S v L) (h1 : ∀ c, S c → c < w.heap.size → w'.heap[c]? = w.heap[c]?) (h2 : ∀ c, S c → c < w.heap.size → S' c) : LsG E w' S' v L := by
 have := (elL E).keep (x := L) (cs := [v]) ⟨v, rfl, h⟩ h1 h2
 obtain ⟨v', e, h⟩ := this
 simp only [List.cons.injEq, and_true] at e
 subst e
 exact h

section
variable {w w' : World} {S S' : Nat → Prop} {v : Value}
theorem LsT.g {L : List Tm} (h : LsT w S v L) : LsG elT w (fun _ => True) v L := by
 obtain ⟨a, cap, e, h1, h2, h3⟩ := h
 refine ⟨a, cap, e, h1, h2, fun i x hi => ?_⟩
 obtain ⟨b, off, a', cap', e, c0, c1, c2, c3, hW⟩ := h3.at hi
 refine ⟨b, off, encE ⟨x, a', cap'⟩, e, trivial, World.block_lt_of_cell? w ⟨b, off + i * 4, none⟩ c0, ⟨a', cap', rfl, hW.any⟩, fun j u hu => ?_⟩
 match j, hu with
 | 0, hu => simp [encE] at hu; subst hu; exact c0
 | 1, hu => simp [encE] at hu; subst hu; exact c1
 | 2, hu => simp [encE] at hu; subst hu; exact c2
 | 3, hu => simp [encE] at hu; subst hu; exact c3
 | j + 4, hu => simp [encE] at hu
theorem LsG.t {L : List Tm} (h : LsG elT w S v L) : LsT w S v L := by
 obtain ⟨a, cap, e, h1, h2, h3⟩ := h
 refine ⟨a, cap, e, h1, h2, fun i x hi => ?_⟩
 obtain ⟨b, off, cs, e, hb, hlt, ⟨a', cap', rfl, hW⟩, hcs⟩ := h3 i x hi
 exact ⟨b, off, e, TmAt.close (hcs 0 _ rfl) (hcs 1 _ rfl) (hcs 2 _ rfl) (hcs 3 _ rfl) hW⟩
theorem OwnT.g {base : Nat} {L : List Tm} (h : OwnT w base S v L) : OwnG elT w base 77 S v L := by
 obtain ⟨E, rfl, h1, h2⟩ := h
 refine ⟨E.map (fun e => (e.t, encE e)), by simp, fun p hp => ?_, ?_⟩
 · obtain ⟨e, he, rfl⟩ := List.mem_map.1 hp
   exact ⟨e.a, e.cap, rfl, h2 e he⟩
 · rw [List.length_map, List.flatMap_map]
   exact h1
theorem LsI.g {C : List Int} (h : LsI w v C) : LsG elI w (fun _ => True) v C := by
 obtain ⟨a, cap, e, h1, h2, h3, h4⟩ := h
 refine ⟨a, cap, e, h1, h2, fun i x hi => ?_⟩
 obtain ⟨b, off, e, hc⟩ := h3 i x hi
 refine ⟨b, off, [.int .i64 x], e, trivial, World.block_lt_of_cell? w ⟨b, off + i, none⟩ hc, ⟨rfl, h4 x (List.mem_of_getElem? hi)⟩, fun j u hu => ?_⟩
 match j, hu with
 | 0, hu => simp at hu; subst hu; show w.cell? ⟨b, off + i * 1 + 0, none⟩ = _; rw [Nat.mul_one]; exact hc
 | j + 1, hu => simp at hu
theorem LsG.i {C : List Int} (h : LsG elI w S v C) : LsI w v C := by
 obtain ⟨a, cap, e, h1, h2, h3⟩ := h
 refine ⟨a, cap, e, h1, h2, fun i x hi => ?_, fun x hx => ?_⟩
 · obtain ⟨b, off, cs, e, hb, hlt, ⟨rfl, hW⟩, hcs⟩ := h3 i x hi
   have := hcs 0 _ rfl
   refine ⟨b, off, e, ?_⟩
   have e1 : off + i * elI.n + 0 = off + i := by show off + i * 1 + 0 = _; omega
   rw [e1] at this
   exact this
 · obtain ⟨i, hi⟩ := List.mem_iff_getElem?.1 hx
   obtain ⟨b, off, cs, e, hb, hlt, ⟨rfl, hW⟩, hcs⟩ := h3 i x hi
   exact hW
/-- an element, opened -/
theorem LsG.tAt {a : Option Addr} {n cap i : Nat} {L : List Tm} {x : Tm} (h : LsG elT w S (.slice a n cap) L) (hi : L[i]? = some x) : ∃ b off a' cap', a = some ⟨b, off, none⟩ ∧ w.cell? ⟨b, off + i * 4, none⟩ = some (.int .i64 x.kind) ∧ w.cell? ⟨b, off + i * 4 + 1, none⟩ = some (.string x.name) ∧ w.cell? ⟨b, off + i * 4 + 2, none⟩ = some (.int .i64 x.sort) ∧ w.cell? ⟨b, off + i * 4 + 3, none⟩ = some (.slice a' x.kids.length cap') ∧ TmW w S a' cap' x := by
 obtain ⟨b, off, cs, e, hb, hlt, ⟨a', cap', rfl, hW⟩, hcs⟩ := h.at hi
 exact ⟨b, off, a', cap', e, hcs 0 _ rfl, hcs 1 _ rfl, hcs 2 _ rfl, hcs 3 _ rfl, hW⟩
theorem LsG.pAt {a : Option Addr} {n cap i : Nat} {L : List (Tm × Tm)} {x : Tm × Tm} (h : LsG elP w S (.slice a n cap) L) (hi : L[i]? = some x) : ∃ b off a1 c1 a2 c2, a = some ⟨b, off, none⟩ ∧
 (w.cell? ⟨b, off + i * 8, none⟩ = some (.int .i64 x.1.kind) ∧ w.cell? ⟨b, off + i * 8 + 1, none⟩ = some (.string x.1.name) ∧ w.cell? ⟨b, off + i * 8 + 2, none⟩ = some (.int .i64 x.1.sort) ∧ w.cell? ⟨b, off + i * 8 + 3, none⟩ = some (.slice a1 x.1.kids.length c1)) ∧
 (w.cell? ⟨b, off + i * 8 + 4, none⟩ = some (.int .i64 x.2.kind) ∧ w.cell? ⟨b, off + i * 8 + 5, none⟩ = some (.string x.2.name) ∧ w.cell? ⟨b, off + i * 8 + 6, none⟩ = some (.int .i64 x.2.sort) ∧ w.cell? ⟨b, off + i * 8 + 7, none⟩ = some (.slice a2 x.2.kids.length c2)) ∧ TmW w S a1 c1 x.1 ∧ TmW w S a2 c2 x.2 := by
 obtain ⟨b, off, cs, e, hb, hlt, ⟨a1, c1, a2, c2, rfl, hW, hW'⟩, hcs⟩ := h.at hi
 exact ⟨b, off, a1, c1, a2, c2, e, ⟨hcs 0 _ rfl, hcs 1 _ rfl, hcs 2 _ rfl, hcs 3 _ rfl⟩, ⟨hcs 4 _ rfl, hcs 5 _ rfl, hcs 6 _ rfl, hcs 7 _ rfl⟩, hW, hW'⟩
theorem LsG.iAt {a : Option Addr} {n cap i : Nat} {L : List Int} {x : Int} (h : LsG elI w S (.slice a n cap) L) (hi : L[i]? = some x) : ∃ b off, a = some ⟨b, off, none⟩ ∧ w.cell? ⟨b, off + i, none⟩ = some (.int .i64 x) ∧ I64 x := by
 obtain ⟨b, off, cs, e, hb, hlt, ⟨rfl, hW⟩, hcs⟩ := h.at hi
 have := hcs 0 _ rfl
 have e1 : off + i * elI.n + 0 = off + i := by show off + i * 1 + 0 = _; omega
 rw [e1] at this
 exact ⟨b, off, e, this, hW⟩
theorem LsG.sAt {a : Option Addr} {n cap i : Nat} {L : List ByteArray} {x : ByteArray} (h : LsG elS w S (.slice a n cap) L) (hi : L[i]? = some x) : ∃ b off, a = some ⟨b, off, none⟩ ∧ w.cell? ⟨b, off + i, none⟩ = some (.string x) ∧ x.size ≤ maxLen := by
 obtain ⟨b, off, cs, e, hb, hlt, ⟨rfl, hW⟩, hcs⟩ := h.at hi
 have := hcs 0 _ rfl
 have e1 : off + i * elS.n + 0 = off + i := by show off + i * 1 + 0 = _; omega
 rw [e1] at this
 exact ⟨b, off, e, this, hW⟩
theorem LsG.lAt {α : Type} {E : Elm α} {a : Option Addr} {n cap i : Nat} {L : List (List α)} {x : List α} (h : LsG (elL E) w S (.slice a n cap) L) (hi : L[i]? = some x) : ∃ b off a' cap', a = some ⟨b, off, none⟩ ∧ w.cell? ⟨b, off + i, none⟩ = some (.slice a' x.length cap') ∧ x.length ≤ cap' ∧ cap' ≤ maxLen ∧ LsG E w S (.slice a' x.length cap') x := by
 obtain ⟨b, off, cs, e, hb, hlt, ⟨v, rfl, hW⟩, hcs⟩ := h.at hi
 have := hcs 0 _ rfl
 have e1 : off + i * (elL E).n + 0 = off + i := by show off + i * 1 + 0 = _; omega
 rw [e1] at this
 obtain ⟨a', cap', rfl, h1, h2⟩ := hW.slice
 exact ⟨b, off, a', cap', e, this, h1, h2, hW⟩
theorem LsG.xAt {a : Option Addr} {n cap i : Nat} {L : List Rdx} {x : Rdx} (h : LsG elX w S (.slice a n cap) L) (hi : L[i]? = some x) : ∃ b off a' cap', a = some ⟨b, off, none⟩ ∧ w.cell? ⟨b, off + i * 2, none⟩ = some (.int .i64 x.1) ∧ w.cell? ⟨b, off + i * 2 + 1, none⟩ = some (.slice a' x.2.length cap') ∧ I64 x.1 ∧ x.2.length ≤ cap' ∧ cap' ≤ maxLen ∧ LsG elI w S (.slice a' x.2.length cap') x.2 := by
 obtain ⟨b, off, cs, e, hb, hlt, ⟨v, rfl, hk, hW⟩, hcs⟩ := h.at hi
 obtain ⟨a', cap', rfl, h1, h2⟩ := hW.slice
 exact ⟨b, off, a', cap', e, hcs 0 _ rfl, hcs 1 _ rfl, hk, h1, h2, hW⟩
end
theorem infInt : (Tryz.prog.info? 3).map (fun i => (i.zero, i.size, i.bytes)) = some (some (.int .i64 0), 1, 8) := by kernel_rfl
theorem infInts : (Tryz.prog.info? 68).map (fun i => (i.zero, i.size, i.bytes)) = some (some (.slice none 0 0), 1, 24) := by kernel_rfl
end Go.Proofs.YtfaienbdebjfcaaGreat

namespace Go.Proofs.YtfaienbdebjfcaaGreat
open Go
set_option linter.unusedVariables false
set_option linter.unusedSimpArgs false

mutual
/-- the subterms in preorder -/
def allT : Tm → List Tm | .mk k n s l => .mk k n s l :: allL l
def allL : List Tm → List Tm | [] => [] | t :: l => allT t ++ allL l
end
theorem allT_kids (t : Tm) : allT t = t :: allL t.kids := by cases t; rw [allT]; rfl
def setS (L : List Tm) : List Tm := L.foldl (fun acc t => addS t acc) []
def kindT (k : Int) (t : Tm) : List Tm := (allT t).filter (fun x => decide (x.kind = k))
/-- the variables of a term -/
def varsT (t : Tm) : List Tm := setS (kindT 1 t)
mutual
theorem allT_len : ∀ t : Tm, (allT t).length = sizeT t
 | .mk k n s l => by rw [allT, sizeT, List.length_cons, allL_len l]; omega
theorem allL_len : ∀ l : List Tm, (allL l).length = sizeL l
 | [] => rfl
 | t :: l => by rw [allL, sizeL, List.length_append, allT_len t, allL_len l]
end
mutual
theorem allT_size : ∀ (t x : Tm), x ∈ allT t → sizeT x ≤ sizeT t
 | .mk k n s l, x, h => by
   rw [allT] at h
   rcases List.mem_cons.1 h with rfl | h
   · exact Nat.le_refl _
   · have := allL_size l x h; rw [sizeT]; omega
theorem allL_size : ∀ (l : List Tm) (x : Tm), x ∈ allL l → sizeT x ≤ sizeL l
 | [], x, h => by simp [allL] at h
 | t :: l, x, h => by
   rw [allL] at h
   rw [sizeL]
   rcases List.mem_append.1 h with h | h
   · have := allT_size t x h; omega
   · have := allL_size l x h; omega
end
theorem allL_append (l m : List Tm) : allL (l ++ m) = allL l ++ allL m := by
 induction l with
 | nil => simp [allL]
 | cons t l ih => simp [allL, ih]
theorem allL_take {l : List Tm} {i : Nat} {x : Tm} (h : l[i]? = some x) : allL (l.take (i + 1)) = allL (l.take i) ++ allT x := by
 rw [List.take_add_one, h, allL_append]; simp [allL]
theorem setS_foldl_mem {x : Tm} : ∀ (L acc : List Tm), x ∈ L.foldl (fun acc t => addS t acc) acc ↔ x ∈ acc ∨ x ∈ L
 | [], acc => by simp
 | t :: L, acc => by
   rw [List.foldl_cons, setS_foldl_mem L, addS_mem, List.mem_cons]
   constructor
   · rintro ((h | h) | h) <;> simp [h]
   · rintro (h | h | h) <;> simp [h]
theorem setS_foldl_asc : ∀ (L acc : List Tm), Asc acc → Asc (L.foldl (fun acc t => addS t acc) acc)
 | [], acc, h => h
 | t :: L, acc, h => by rw [List.foldl_cons]; exact setS_foldl_asc L _ (addS_asc h)
theorem setS_mem {x : Tm} {L : List Tm} : x ∈ setS L ↔ x ∈ L := by unfold setS; rw [setS_foldl_mem]; simp
theorem setS_asc (L : List Tm) : Asc (setS L) := setS_foldl_asc L [] List.Pairwise.nil
theorem setS_take {L : List Tm} {i : Nat} {x : Tm} (h : L[i]? = some x) : setS (L.take (i + 1)) = addS x (setS (L.take i)) := by
 unfold setS
 rw [List.take_add_one, h, List.foldl_append]; rfl
theorem addS_len' {t : Tm} {L : List Tm} : (addS t L).length ≤ L.length + 1 := by
 induction L with
 | nil => simp [addS]
 | cons y L ih => rw [addS]; (repeat' split) <;> simp <;> omega
theorem setS_len (L : List Tm) : (setS L).length ≤ L.length := by
 have key : ∀ (L acc : List Tm), (L.foldl (fun acc t => addS t acc) acc).length ≤ acc.length + L.length := by
  intro L
  induction L with
  | nil => simp
  | cons t L ih =>
    intro acc
    have h1 := ih (addS t acc)
    have h2 := addS_len' (t := t) (L := acc)
    simp only [List.foldl_cons, List.length_cons]
    omega
 have := key L []
 simpa [setS] using this
theorem kindT_mem {k : Int} {t x : Tm} : x ∈ kindT k t ↔ x ∈ allT t ∧ x.kind = k := by simp [kindT]
theorem varsT_mem {t x : Tm} : x ∈ varsT t ↔ x ∈ allT t ∧ x.kind = 1 := by unfold varsT; rw [setS_mem, kindT_mem]
theorem varsT_asc (t : Tm) : Asc (varsT t) := setS_asc _
theorem kindT_len (k : Int) (t : Tm) : (kindT k t).length ≤ sizeT t := by
 unfold kindT; rw [← allT_len]; exact List.length_filter_le _ _
theorem varsT_len (t : Tm) : (varsT t).length ≤ sizeT t := Nat.le_trans (setS_len _) (kindT_len 1 t)
theorem kindT_size {k : Int} {t x : Tm} (h : x ∈ kindT k t) : sizeT x ≤ sizeT t := allT_size t x (kindT_mem.1 h).1
theorem varsT_size {t x : Tm} (h : x ∈ varsT t) : sizeT x ≤ sizeT t := allT_size t x (varsT_mem.1 h).1

mutual
/-- the positions in preorder -/
def posT : Tm → List (List Int) | .mk _ _ _ l => [] :: posL l 0
def posL : List Tm → Nat → List (List Int) | [], _ => [] | t :: l, i => (posT t).map (fun p => (i : Int) :: p) ++ posL l (i + 1)
end
/-- the part at a position -/
def atT : List Int → Tm → Option Tm
 | [], t => some t
 | i :: p, t => if 0 ≤ i then (match t.kids[i.toNat]? with | some k => atT p k | none => none) else none
/-- u put at a position -/
def repT : List Int → Tm → Tm → Option Tm
 | [], _, u => some u
 | i :: p, t, u => if 0 ≤ i then (match t.kids[i.toNat]? with | some k => (repT p k u).map (fun x => .mk t.kind t.name t.sort (t.kids.set i.toNat x)) | none => none) else none
theorem posT_kids (t : Tm) : posT t = [] :: posL t.kids 0 := by cases t; rw [posT]; rfl
mutual
theorem posT_len : ∀ t : Tm, (posT t).length = sizeT t
 | .mk k n s l => by rw [posT, sizeT, List.length_cons, posL_len l]; omega
theorem posL_len : ∀ (l : List Tm) (i : Nat), (posL l i).length = sizeL l
 | [], _ => rfl
 | t :: l, i => by rw [posL, sizeL, List.length_append, List.length_map, posT_len t, posL_len l]
end
theorem posL_append (l m : List Tm) (i : Nat) : posL (l ++ m) i = posL l i ++ posL m (i + l.length) := by
 induction l generalizing i with
 | nil => simp [posL]
 | cons t l ih => simp only [List.cons_append, posL, ih, List.append_assoc, List.length_cons]; rw [show i + 1 + l.length = i + (l.length + 1) by omega]
theorem posL_take {l : List Tm} {i : Nat} {x : Tm} (h : l[i]? = some x) : posL (l.take (i + 1)) 0 = posL (l.take i) 0 ++ (posT x).map (fun p => (i : Int) :: p) := by
 have hl : (l.take i).length = i := by have := (List.getElem?_eq_some_iff.1 h).1; rw [List.length_take]; omega
 rw [List.take_add_one, h, posL_append, hl]; simp [posL]
theorem atT_append : ∀ (p q : List Int) (t : Tm), atT (p ++ q) t = (atT p t).bind (atT q)
 | [], q, t => rfl
 | i :: p, q, t => by
   rw [List.cons_append, atT, atT]
   split
   · split
     · exact atT_append p q _
     · rfl
   · rfl
theorem atT_size : ∀ (p : List Int) (t u : Tm), atT p t = some u → sizeT u ≤ sizeT t
 | [], t, u, h => by cases h; exact Nat.le_refl _
 | i :: p, t, u, h => by
   rw [atT] at h
   split at h
   · split at h
     · rename_i k hk
       have h1 := atT_size p k u h
       have h2 := sizeL_get hk
       have := sizeT_kids t
       omega
     · cases h
   · cases h
theorem sizeL_set {l : List Tm} {i : Nat} {k x : Tm} (h : l[i]? = some k) : sizeL (l.set i x) + sizeT k = sizeL l + sizeT x := by
 induction l generalizing i with
 | nil => simp at h
 | cons y l ih =>
   cases i with
   | zero => cases h; simp only [List.set_cons_zero, sizeL]; omega
   | succ i =>
     have := ih (i := i) (by simpa using h)
     simp only [List.set_cons_succ, sizeL]
     omega
theorem repT_size : ∀ (p : List Int) (t u v x : Tm), repT p t u = some v → atT p t = some x → sizeT v + sizeT x = sizeT t + sizeT u
 | [], t, u, v, x, h, h' => by cases h; cases h'; omega
 | i :: p, t, u, v, x, h, h' => by
   rw [repT] at h
   rw [atT] at h'
   split at h
   · rename_i h0
     rw [if_pos h0] at h'
     split at h
     · rename_i k hk
       rw [hk] at h'
       obtain ⟨y, hy, rfl⟩ := Option.map_eq_some_iff.1 h
       have h1 := repT_size p k u y x hy h'
       have h2 := sizeL_set (x := y) hk
       have := sizeT_kids t
       rw [sizeT]
       omega
     · cases h
   · cases h
theorem repT_at : ∀ (p : List Int) (t u : Tm), (repT p t u).isSome = (atT p t).isSome
 | [], t, u => rfl
 | i :: p, t, u => by
   rw [repT, atT]
   split
   · split
     · rename_i k hk
       rw [Option.isSome_map, repT_at p k u]
     · rfl
   · rfl
mutual
/-- each position is one -/
theorem posT_at : ∀ (t : Tm) (p : List Int), p ∈ posT t → (atT p t).isSome = true
 | .mk k n s l, p, h => by
   rw [posT] at h
   rcases List.mem_cons.1 h with rfl | h
   · rfl
   · obtain ⟨j, x, q, hj, rfl, hq⟩ := posL_at l 0 p h
     rw [Nat.zero_add]
     have e : (Tm.mk k n s l).kids[((j : Nat) : Int).toNat]? = some x := by simpa [Tm.kids] using hj
     rw [atT, if_pos (by omega), e]
     exact hq
theorem posL_at : ∀ (l : List Tm) (i : Nat) (p : List Int), p ∈ posL l i → ∃ (j : Nat) (x : Tm) (q : List Int), l[j]? = some x ∧ p = ((i + j : Nat) : Int) :: q ∧ (atT q x).isSome = true
 | [], i, p, h => by simp [posL] at h
 | t :: l, i, p, h => by
   rw [posL] at h
   rcases List.mem_append.1 h with h | h
   · obtain ⟨q, hq, rfl⟩ := List.mem_map.1 h
     exact ⟨0, t, q, rfl, rfl, posT_at t q hq⟩
   · obtain ⟨j, x, q, hj, rfl, hq⟩ := posL_at l (i + 1) p h
     exact ⟨j + 1, x, q, by simpa using hj, by rw [show i + 1 + j = i + (j + 1) by omega], hq⟩
end

end Go.Proofs.YtfaienbdebjfcaaGreat

namespace Go.Proofs.YtfaienbdebjfcaaGreat
open Go Go.RowKit
set_option linter.unusedVariables false
set_option linter.unusedSimpArgs false

theorem kindT_take {k : Int} {A : List Tm} {i : Nat} {x : Tm} (h : A[i]? = some x) : (A.take (i + 1)).filter (fun x => decide (x.kind = k)) = (A.take i).filter (fun x => decide (x.kind = k)) ++ (if x.kind = k then [x] else []) := by
 rw [List.take_add_one, h, List.filter_append]
 by_cases e : x.kind = k <;> simp [e]

end Go.Proofs.YtfaienbdebjfcaaGreat
