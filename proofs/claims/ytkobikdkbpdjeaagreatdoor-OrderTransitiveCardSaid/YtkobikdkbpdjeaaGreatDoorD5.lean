/- The walk of the law OrderTransitive. -/
import Derived.Test.YtkobikdkbpdjeaaGreatDoorD4
namespace Go.Proofs.YtkobikdkbpdjeaaGreatDoor
open Go Go.RowKit
set_option linter.unusedVariables false
set_option linter.unusedSimpArgs false

def pairs4 : List (Nat × Nat) := [(0, 1), (1, 2), (0, 2), (1, 0)]
def res4 (f : Tm → Tm → Int) (s t u : Tm) : List Int := [f s t, f t u, f s u, f t s]
theorem twelve {w : World} {g T : Nat} {v0 v1 v2 v3 v4 v5 v6 v7 v8 v9 v10 v11 : Value} (h : w.heap[g]? = some (.cells #[v0, v1, v2, v3, v4, v5, v6, v7, v8, v9, v10, v11] T)) :
 (w.cell? ⟨g, 0, none⟩ = some v0 ∧ w.cell? ⟨g, 1, none⟩ = some v1 ∧ w.cell? ⟨g, 2, none⟩ = some v2 ∧ w.cell? ⟨g, 3, none⟩ = some v3) ∧
 (w.cell? ⟨g, 4, none⟩ = some v4 ∧ w.cell? ⟨g, 5, none⟩ = some v5 ∧ w.cell? ⟨g, 6, none⟩ = some v6 ∧ w.cell? ⟨g, 7, none⟩ = some v7) ∧
 (w.cell? ⟨g, 8, none⟩ = some v8 ∧ w.cell? ⟨g, 9, none⟩ = some v9 ∧ w.cell? ⟨g, 10, none⟩ = some v10 ∧ w.cell? ⟨g, 11, none⟩ = some v11) := by
 refine ⟨⟨?_, ?_, ?_, ?_⟩, ⟨?_, ?_, ?_, ?_⟩, ⟨?_, ?_, ?_, ?_⟩⟩ <;> simp [World.cell?, h]
theorem eight {w : World} {g T : Nat} {v0 v1 v2 v3 v4 v5 v6 v7 : Value} (h : w.heap[g]? = some (.cells #[v0, v1, v2, v3, v4, v5, v6, v7] T)) :
 w.cell? ⟨g, 0, none⟩ = some v0 ∧ w.cell? ⟨g, 1, none⟩ = some v1 ∧ w.cell? ⟨g, 2, none⟩ = some v2 ∧ w.cell? ⟨g, 3, none⟩ = some v3 ∧ w.cell? ⟨g, 4, none⟩ = some v4 ∧ w.cell? ⟨g, 5, none⟩ = some v5 ∧ w.cell? ⟨g, 6, none⟩ = some v6 ∧ w.cell? ⟨g, 7, none⟩ = some v7 := by
 refine ⟨?_, ?_, ?_, ?_, ?_, ?_, ?_, ?_⟩ <;> simp [World.cell?, h]
theorem two {w : World} {g T : Nat} {v0 v1 : Value} (h : w.heap[g]? = some (.cells #[v0, v1] T)) : w.cell? ⟨g, 0, none⟩ = some v0 ∧ w.cell? ⟨g, 1, none⟩ = some v1 := by
 refine ⟨?_, ?_⟩ <;> simp [World.cell?, h]

/-- three terms in the array's block -/
structure Three (w : World) (xb : Nat) (s t u : Tm) : Prop where
 at_ : ∀ i, i < 3 → ∃ (x : Tm) (a : Option Addr) (c : Nat), [s, t, u][i]? = some x ∧ w.cell? ⟨xb, i * 4, none⟩ = some (.int .i64 x.kind) ∧ w.cell? ⟨xb, i * 4 + 1, none⟩ = some (.string x.name) ∧ w.cell? ⟨xb, i * 4 + 2, none⟩ = some (.int .i64 x.sort) ∧ w.cell? ⟨xb, i * 4 + 3, none⟩ = some (.slice a x.kids.length c) ∧ x.kids.length ≤ c ∧ c ≤ 9223372036854775807 ∧ TmW w Any a c x
theorem Three.ext {w w' : World} {xb : Nat} {s t u : Tm} (h : Three w xb s t u) (hE : Ext w w') : Three w' xb s t u := ⟨fun i hi => by
 obtain ⟨x, a, c, h1, h2, h3, h4, h5, h6, h7, h8⟩ := h.at_ i hi
 exact ⟨x, a, c, h1, cs_ext hE h2, cs_ext hE h3, cs_ext hE h4, cs_ext hE h5, h6, h7, h8.ext hE⟩⟩
theorem Three.mk3 {w : World} {xb : Nat} {s t u : Tm} {a b c : Option Addr} {k l m : Nat} (h : w.heap[xb]? = some (.cells #[.int .i64 s.kind, .string s.name, .int .i64 s.sort, .slice a s.kids.length k, .int .i64 t.kind, .string t.name, .int .i64 t.sort, .slice b t.kids.length l, .int .i64 u.kind, .string u.name, .int .i64 u.sort, .slice c u.kids.length m] 25)) (hs : TmW w Any a k s) (ht : TmW w Any b l t) (hu : TmW w Any c m u) : Three w xb s t u := by
 obtain ⟨⟨p0, p1, p2, p3⟩, ⟨q0, q1, q2, q3⟩, ⟨r0, r1, r2, r3⟩⟩ := twelve h
 have h1 := hs.len
 have h2 := hs.cap
 have h3 := ht.len
 have h4 := ht.cap
 have h5 := hu.len
 have h6 := hu.cap
 unfold maxLen at h2 h4 h6
 refine ⟨fun i hi => ?_⟩
 match i, hi with
 | 0, _ => exact ⟨s, a, k, rfl, p0, p1, p2, p3, h1, by omega, hs⟩
 | 1, _ => exact ⟨t, b, l, rfl, q0, q1, q2, q3, h3, by omega, ht⟩
 | 2, _ => exact ⟨u, c, m, rfl, r0, r1, r2, r3, h5, by omega, hu⟩
theorem pairs_at {w : World} {gb : Nat} (h : w.heap[gb]? = some (.cells #[.int .i64 0, .int .i64 1, .int .i64 1, .int .i64 2, .int .i64 0, .int .i64 2, .int .i64 1, .int .i64 0] 35)) {k : Nat} (hk : k < 4) :
 ∃ i j : Nat, pairs4[k]? = some (i, j) ∧ i < 3 ∧ j < 3 ∧ w.cell? ⟨gb, k * 2, none⟩ = some (.int .i64 (i : Int)) ∧ w.cell? ⟨gb, k * 2 + 1, none⟩ = some (.int .i64 (j : Int)) := by
 obtain ⟨p0, p1, p2, p3, p4, p5, p6, p7⟩ := eight h
 match k, hk with
 | 0, _ => exact ⟨0, 1, rfl, by omega, by omega, p0, p1⟩
 | 1, _ => exact ⟨1, 2, rfl, by omega, by omega, p2, p3⟩
 | 2, _ => exact ⟨0, 2, rfl, by omega, by omega, p4, p5⟩
 | 3, _ => exact ⟨1, 0, rfl, by omega, by omega, p6, p7⟩
theorem res4_at {f : Tm → Tm → Int} {s t u x y : Tm} {k i j : Nat} (hp : pairs4[k]? = some (i, j)) (hx : [s, t, u][i]? = some x) (hy : [s, t, u][j]? = some y) : (res4 f s t u)[k]? = some (f x y) ∧ (x, y) ∈ [(s, t), (t, u), (s, u), (t, s)] := by
 have hk : k < 4 := (List.getElem?_eq_some_iff.1 hp).1
 match k, hk with
 | 0, _ => simp [pairs4] at hp; obtain ⟨rfl, rfl⟩ := hp; simp at hx hy; subst hx; subst hy; exact ⟨rfl, by simp⟩
 | 1, _ => simp [pairs4] at hp; obtain ⟨rfl, rfl⟩ := hp; simp at hx hy; subst hx; subst hy; exact ⟨rfl, by simp⟩
 | 2, _ => simp [pairs4] at hp; obtain ⟨rfl, rfl⟩ := hp; simp at hx hy; subst hx; subst hy; exact ⟨rfl, by simp⟩
 | 3, _ => simp [pairs4] at hp; obtain ⟨rfl, rfl⟩ := hp; simp at hx hy; subst hx; subst hy; exact ⟨rfl, by simp⟩
theorem vdt_rng (f : Tm → Tm → Bool) (s t : Tm) : -1 ≤ vdt f s t ∧ vdt f s t ≤ 2 := by
 unfold vdt
 (repeat' split) <;> omega
theorem lpoV_rng (l : List ByteArray) (s t : Tm) : -1 ≤ lpoV l s t ∧ lpoV l s t ≤ 2 := by
 unfold lpoV
 split
 · omega
 · exact vdt_rng _ _ _
theorem kboV_rng (l : List ByteArray) (W : List Int) (s t : Tm) : -1 ≤ kboV l W s t ∧ kboV l W s t ≤ 2 := by
 unfold kboV
 split
 · omega
 · exact vdt_rng _ _ _
/-- two rows that grow side by side -/
structure Rows2 (w0 w : World) (B : Nat) (pv qv : Value) (P Q : List Int) : Prop where
 ext : Ext w0 w
 p : OwnG elI w B 3 (fun _ => False) pv P
 q : OwnG elI w B 3 (fun _ => False) qv Q
 ne : ∀ g, pv.ownBlock = some g → qv.ownBlock ≠ some g
 base : w0.heap.size ≤ B ∧ B ≤ w.heap.size
theorem Rows2.next {w0 w w' : World} {B : Nat} {pv qv : Value} {P Q : List Int} (h : Rows2 w0 w B pv qv P Q) (hE : Ext w w') : Rows2 w0 w' B pv qv P Q :=
 ⟨h.ext.trans hE, h.p.ext hE, h.q.ext hE, h.ne, h.base.1, Nat.le_trans h.base.2 hE.size⟩
theorem Rows2.putP {w0 w w' : World} {B : Nat} {pv qv pv' : Value} {P P' Q : List Int} (h : Rows2 w0 w B pv qv P Q) (hO : OwnG elI w' B 3 (fun _ => False) pv' P') (hg : w.grownBy w' pv.ownBlock) (hat : pv'.ownBlock = pv.ownBlock ∨ pv'.ownBlock = some w.heap.size) : Rows2 w0 w' B pv' qv P' Q := by
 refine ⟨h.ext.grown hg (fun g e => Nat.le_trans h.base.1 (h.p.lt g e).1), hO, h.q.keep (fun g e => hg.block g (h.q.lt g e).2 (fun e2 => h.ne g e2.symm e)) (fun c hc => hc.elim) (fun c hc => hc.elim), fun g e e2 => ?_, h.base.1, Nat.le_trans h.base.2 hg.size⟩
 rcases hat with h1 | h1
 · exact h.ne g (h1.symm.trans e) e2
 · rw [h1] at e
   cases e
   exact absurd (h.q.lt _ e2).2 (Nat.lt_irrefl _)
theorem Rows2.swap {w0 w : World} {B : Nat} {pv qv : Value} {P Q : List Int} (h : Rows2 w0 w B pv qv P Q) : Rows2 w0 w B qv pv Q P := ⟨h.ext, h.q, h.p, fun g e e2 => h.ne g e2 e, h.base⟩
end Go.Proofs.YtkobikdkbpdjeaaGreatDoor
