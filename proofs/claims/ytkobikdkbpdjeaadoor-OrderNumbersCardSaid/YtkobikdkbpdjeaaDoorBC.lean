/- Contracts: the path order, remembered and decided. -/
import Derived.Test.YtkobikdkbpdjeaaDoorBB
namespace Go.Proofs.YtkobikdkbpdjeaaDoor
open Go Go.RowKit
set_option linter.unusedVariables false
set_option linter.unusedSimpArgs false

/-- only block mb may change -/
structure KFr (w w' : World) (mb : Nat) : Prop where
 os : w'.os = w.os
 tape : w'.tape = w.tape
 output : w'.output = w.output
 size : w.heap.size ≤ w'.heap.size
 block : ∀ c, c < w.heap.size → c ≠ mb → w'.heap[c]? = w.heap[c]?
section
variable {w w' w'' : World} {B fb ib mb : Nat} {l : List ByteArray} {lv nv : Value} {N : List Nd} {S : Nat → Prop}
theorem KFr.ext (h : Ext w w') : KFr w w' mb := ⟨h.os, h.tape, h.output, h.size, fun c hc _ => h.block hc⟩
theorem KFr.refl (w : World) : KFr w w mb := KFr.ext (Ext.refl w)
theorem KFr.trans (h : KFr w w' mb) (k : KFr w' w'' mb) : KFr w w'' mb :=
 ⟨k.os.trans h.os, k.tape.trans h.tape, k.output.trans h.output, Nat.le_trans h.size k.size, fun c hc h1 => (k.block c (Nat.lt_of_lt_of_le hc h.size) h1).trans (h.block c hc h1)⟩
theorem KFr.hs (h : KFr w w' mb) {c : Nat} {o : Obj} (hc : w.heap[c]? = some o) (hne : c ≠ mb) : w'.heap[c]? = some o := (h.block c (lt_of_get' hc) hne).trans hc
theorem KFr.put {ob : Obj} (w : World) (mb : Nat) : KFr w (ChangeMaps.setBlock w mb ob) mb := ⟨rfl, rfl, rfl, by simp [ChangeMaps.setBlock], fun c _ hc => turned_block hc⟩
theorem KFr.outside (h : KFr w w' mb) (hB : B ≤ w.heap.size) (hm : B ≤ mb) : Below B w w' := ⟨h.os, h.tape, h.output, h.size, fun c hc => h.block c (by omega) (by omega)⟩
/-- what is known, and right -/
def PK (w : World) (mb : Nat) (l : List ByteArray) (N : List Nd) : Prop :=
 ∃ K n, MapK encQ w mb n K ∧ ∀ (q : QKey) v, K q = some v → ∀ (i k : Nat) x y, q.1 = ((i : Int), (k : Int)) → N[i]? = some x → N[k]? = some y → v = .bool (path l x.t y.t)
theorem PK.lt (h : PK w mb l N) : mb < w.heap.size := let ⟨_, _, h, _⟩ := h; h.lt
theorem PK.none (h : MapK encQ w mb 0 (fun _ => Option.none)) : PK w mb l N := ⟨_, 0, h, fun q v h => by cases h⟩
theorem PK.same (h : PK w mb l N) (e : w'.heap[mb]? = w.heap[mb]?) : PK w' mb l N := let ⟨K, n, h1, h2⟩ := h; ⟨K, n, h1.same e, h2⟩
theorem PK.ext (h : PK w mb l N) (hE : Ext w w') : PK w' mb l N := h.same (hE.block h.lt)
theorem FW.kfr (h : FW w B fb ib mb l lv nv N S) (hP : PK w mb l N) (hg : KFr w w' mb) : FW w' B fb ib mb l lv nv N S := by
 obtain ⟨K, n, ⟨es, clock, hm, -⟩, -⟩ := hP
 refine h.keep hg.size fun c hc h' => hg.block c hc (fun e => ?_)
 subst e
 rcases h' with h' | h' | h' | h' | h'
 · have := h.low.2.2.1; omega
 · subst h'; rw [h.blk] at hm; simp at hm
 · exact h.low.2.2.2.1 h'.symm
 · obtain ⟨cur, e1⟩ := h.row.block h'
   rw [hm] at e1; simp at e1
 · exact (h.out _ h').2.2.2.1 rfl
/-- the nodes, apart from what is known -/
theorem FW.lsN (h : FW w B fb ib mb l lv nv N S) (hP : PK w mb l N) : LsG elN w (fun c => c ≠ mb) nv N := by
 obtain ⟨K, n, ⟨es, clock, hm, -⟩, -⟩ := hP
 refine h.row.ls (fun c hc _ => (h.out c hc).2.2.2.1) (fun g hg _ _ e => ?_)
 subst e
 obtain ⟨cur, e1⟩ := h.row.block hg
 rw [hm] at e1; simp at e1
theorem LsG.kfr {α : Type} {E : Elm α} {v : Value} {L : List α} (h : LsG E w (fun c => c ≠ mb) v L) (hg : KFr w w' mb) : LsG E w' (fun c => c ≠ mb) v L := h.hold (fun c hc hlt => hg.block c hlt hc) (fun _ h _ => h)
theorem known_look (h : PK w mb l N) {i k : Nat} {x y : Nd} (hi : i ≤ 1000) (hk : k ≤ 1000) (hx : N[i]? = some x) (hy : N[k]? = some y) :
 ∃ r ok, (∀ w', Ext w w' → (Instr.lookup 63 (.map (some mb)) (.agg #[.int .i64 (i : Int), .int .i64 (k : Int)]) true).run Tryd.prog w' = .ok (.tuple #[.bool r, .bool ok]) w') ∧ (ok = true → r = path l x.t y.t) := by
 obtain ⟨K, n, hM, hK⟩ := h
 have hq : I64 (i : Int) ∧ I64 (k : Int) := ⟨by unfold I64; omega, by unfold I64; omega⟩
 have h := fun w' (hE : Ext w w') => (hM.ext hE).look lawQ keyQ Tryd.underlying63 (z := .bool false) (Tryd.zeroValue4 w') ⟨((i : Int), (k : Int)), hq⟩ true
 simp only [encQ, if_true] at h
 cases hv : K ⟨((i : Int), (k : Int)), hq⟩ with
 | none =>
   rw [hv] at h
   exact ⟨false, false, h, fun h => by cases h⟩
 | some v =>
   have := hK _ v hv i k x y rfl hx hy
   subst this
   rw [hv] at h
   exact ⟨_, true, h, fun _ => rfl⟩
theorem known_put (h : PK w mb l N) {i k : Nat} {x y : Nd} {r : Bool} (hi : i ≤ 1000) (hk : k ≤ 1000) (hx : N[i]? = some x) (hy : N[k]? = some y) (hr : r = path l x.t y.t) :
 ∃ ob, (Instr.mapUpdate 63 (.map (some mb)) (.agg #[.int .i64 (i : Int), .int .i64 (k : Int)]) (.bool r)).run Tryd.prog w = .ok () (ChangeMaps.setBlock w mb ob) ∧ PK (ChangeMaps.setBlock w mb ob) mb l N := by
 obtain ⟨K, n, hM, hK⟩ := h
 have hq : I64 (i : Int) ∧ I64 (k : Int) := ⟨by unfold I64; omega, by unfold I64; omega⟩
 obtain ⟨ob, h1, h2⟩ := hM.update lawQ keyQ encQ_inj Tryd.underlying63 ⟨((i : Int), (k : Int)), hq⟩ (.bool r)
 refine ⟨ob, h1, (fun q => if q = ⟨((i : Int), (k : Int)), hq⟩ then some (.bool r) else K q), n + 1, h2 _ (by simp) (fun y hy => by simp [hy]), fun q v hv i' k' x' y' e hx' hy' => ?_⟩
 by_cases hc : q = ⟨((i : Int), (k : Int)), hq⟩
 · subst hc
   simp only [if_true, Option.some.injEq] at hv
   simp only [Prod.mk.injEq] at e
   have e1 : i = i' := by omega
   have e2 : k = k' := by omega
   subst e1 e2
   rw [hx] at hx'; rw [hy] at hy'
   cases hx'; cases hy'
   rw [← hv, hr]
 · simp only [hc, if_false] at hv
   exact hK q v hv i' k' x' y' e hx' hy'
end

def PathC (n : Nat) : Prop := ∀ (w : World) (B fb ib mb : Nat) (l : List ByteArray) (lv nv : Value) (N : List Nd) (S : Nat → Prop) (i k : Nat) (x y : Nd), sizeT x.t + sizeT y.t ≤ n → FW w B fb ib mb l lv nv N S → PK w mb l N → N.length ≤ 100 → (∀ z ∈ N, wfT z.t) → N[i]? = some x → N[k]? = some y →
 Calls Tryd.prog 36 #[.pointer (some ⟨fb, 0, none⟩), .int .i64 i, .int .i64 k] w fun e w' => e = .returned (.bool (path l x.t y.t)) ∧ KFr w w' mb ∧ PK w' mb l N

set_option maxRecDepth 100000 in
set_option maxHeartbeats 8000000 in
theorem decide_any {n : Nat} (ih : PathC n) {w : World} {B fb ib mb : Nat} {l : List ByteArray} {lv nv : Value} {N : List Nd} {S : Nat → Prop} {i k : Nat} {x y : Nd} (hn : sizeT x.t + sizeT y.t ≤ n + 1) (hF : FW w B fb ib mb l lv nv N S) (hP : PK w mb l N) (hN : N.length ≤ 100) (hwf : ∀ z ∈ N, wfT z.t) (hx : N[i]? = some x) (hy : N[k]? = some y) (hk1 : x.t.kind ≠ 1) :
 Calls Tryd.prog 48 #[.pointer (some ⟨fb, 0, none⟩), .int .i64 i, .int .i64 k] w fun e w' => e = .returned (.bool (path l x.t y.t)) ∧ KFr w w' mb ∧ PK w' mb l N := by
 obtain ⟨na, nc, rfl, hn1, hn2⟩ := hF.row.slice
 unfold maxLen at hn2
 have f1 : w.cell? ⟨fb, 1, none⟩ = some (.slice na N.length nc) := by rw [cellc hF.blk]; rfl
 have hls := hF.lsN hP
 obtain ⟨nrb, nro, xa, xc, xk, xkc, rfl, x0, x1, x2, x3, x4, x5, -, -, hLx⟩ := hls.nAt hx
 obtain ⟨nrb', nro', ya, yc, yk, ykc, e, y0, y1, y2, y3, y4, y5, -, -, hLy⟩ := hls.nAt hy
 cases e
 have hi := (List.getElem?_eq_some_iff.1 hx).1
 have hk := (List.getElem?_eq_some_iff.1 hy).1
 have i1 : (i : Int) < (N.length : Int) := by omega
 have i2 : (0 : Int) ≤ (i : Int) := by omega
 have k1 : (k : Int) < (N.length : Int) := by omega
 have k2 : (0 : Int) ≤ (k : Int) := by omega
 have hxl := hF.grown.len x (List.mem_of_getElem? hx)
 have hyl := hF.grown.len y (List.mem_of_getElem? hy)
 have hxc := hLx.len.2.2
 have hyc := hLy.len.2.2
 have hxc' := hLx.len.2.1
 have hyc' := hLy.len.2.1
 unfold maxLen at hxc hyc
 have hmbw := hP.lt
 have HF := Lib.hid hF
 have HP := Lib.hid hP
 have HLX := Lib.hid hLx
 have HLY := Lib.hid hLy
 have HX := Lib.hid hx
 have HY := Lib.hid hy
 have HXL := Lib.hid hxl
 have HYL := Lib.hid hyl
 have HWF := Lib.hid hwf
 have HK1 := Lib.hid hk1
 clear hls hF hP hLx hLy hx hy hxl hyl hwf hk1 hi hk
 go_enter Tryd.func48, Tryd.ntmps48
 go_upto_region 1 with fail
 have HFCT := Lib.hid (And.intro f1 (And.intro x0 (And.intro x1 (And.intro x2 (And.intro x3 (And.intro x4 (And.intro x5 (And.intro y0 (And.intro y1 (And.intro y2 (And.intro y3 (And.intro y4 y5))))))))))))
 refine wp_region_reg 18 true (by kernel_rfl) (by kernel_rfl) ?_
 refine reg_value (fun _ => rfl) ?_ (fun g w' vs hM hE hP => ?_) ?_
 rotate_left
 · (clear hP hM; have ⟨z0, z1, z2, z3, z4, z5, z6, z7, z8, z9, z10, z11, z12⟩ := cs_e13 hE HFCT.out; go_simp; first | done | rfl)
 refine reg_value (fun _ => rfl) ?_ (fun g w' vs hM hE hP => ?_) ?_
 rotate_left
 · (clear hP hM; have ⟨z0, z1, z2, z3, z4, z5, z6, z7, z8, z9, z10, z11, z12⟩ := cs_e13 hE HFCT.out; go_simp; first | done | rfl)
 refine reg_value (fun _ => rfl) ?_ (fun g w' vs hM hE hP => ?_) ?_
 rotate_left
 · (clear hP hM; have ⟨z0, z1, z2, z3, z4, z5, z6, z7, z8, z9, z10, z11, z12⟩ := cs_e13 hE HFCT.out; go_simp; first | done | rfl)
 refine reg_value (fun _ => rfl) ?_ (fun g w' vs hM hE hP => ?_) ?_
 rotate_left
 · (clear hP hM; have ⟨z0, z1, z2, z3, z4, z5, z6, z7, z8, z9, z10, z11, z12⟩ := cs_e13 hE HFCT.out; go_simp; first | done | rfl)
 refine reg_value (fun _ => rfl) ?_ (fun g w' vs hM hE hP => ?_) ?_
 rotate_left
 · (clear hP hM; have ⟨z0, z1, z2, z3, z4, z5, z6, z7, z8, z9, z10, z11, z12⟩ := cs_e13 hE HFCT.out; go_simp; first | done | rfl)
 refine reg_value (fun _ => rfl) ?_ (fun g w' vs hM hE hP => ?_) ?_
 rotate_left
 · (clear hP hM; have ⟨z0, z1, z2, z3, z4, z5, z6, z7, z8, z9, z10, z11, z12⟩ := cs_e13 hE HFCT.out; go_simp; first | done | rfl)
 refine reg_value (fun _ => rfl) ?_ (fun g w' vs hM hE hP => ?_) ?_
 rotate_left
 · (clear hP hM; have ⟨z0, z1, z2, z3, z4, z5, z6, z7, z8, z9, z10, z11, z12⟩ := cs_e13 hE HFCT.out; go_simp; first | done | rfl)
 refine reg_value (fun _ => rfl) ?_ (fun g w' vs hM hE hP => ?_) ?_
 rotate_left
 · (clear hP hM; have ⟨z0, z1, z2, z3, z4, z5, z6, z7, z8, z9, z10, z11, z12⟩ := cs_e13 hE HFCT.out; go_simp; first | done | rfl)
 refine reg_value (fun _ => rfl) ?_ (fun g w' vs hM hE hP => ?_) ?_
 rotate_left
 · (clear hP hM; have ⟨z0, z1, z2, z3, z4, z5, z6, z7, z8, z9, z10, z11, z12⟩ := cs_e13 hE HFCT.out; go_simp; first | done | rfl)
 refine reg_value (fun _ => rfl) ?_ (fun g w' vs hM hE hP => ?_) ?_
 rotate_left
 · (clear hP hM; have ⟨z0, z1, z2, z3, z4, z5, z6, z7, z8, z9, z10, z11, z12⟩ := cs_e13 hE HFCT.out; go_simp; first | done | rfl)
 refine reg_value (fun _ => rfl) ?_ (fun g w' vs hM hE hP => ?_) ?_
 rotate_left
 · (clear hP hM; have ⟨z0, z1, z2, z3, z4, z5, z6, z7, z8, z9, z10, z11, z12⟩ := cs_e13 hE HFCT.out; go_simp; first | done | rfl)
 refine reg_value (fun _ => rfl) ?_ (fun g w' vs hM hE hP => ?_) ?_
 rotate_left
 · (clear hP hM; have ⟨z0, z1, z2, z3, z4, z5, z6, z7, z8, z9, z10, z11, z12⟩ := cs_e13 hE HFCT.out; go_simp; first | done | rfl)
 refine reg_value (fun _ => rfl) ?_ (fun g w' vs hM hE hP => ?_) ?_
 rotate_left
 · (clear hP hM; have ⟨z0, z1, z2, z3, z4, z5, z6, z7, z8, z9, z10, z11, z12⟩ := cs_e13 hE HFCT.out; go_simp; first | done | rfl)
 refine reg_value (fun _ => rfl) ?_ (fun g w' vs hM hE hP => ?_) ?_
 rotate_left
 · (clear hP hM; have ⟨z0, z1, z2, z3, z4, z5, z6, z7, z8, z9, z10, z11, z12⟩ := cs_e13 hE HFCT.out; go_simp; first | done | rfl)
 refine reg_fresh (fun _ => rfl) (fun n => .pointer (some ⟨n, 0, none⟩)) (fun _ => .cells zeroNd 67) (fun g w' vs hM hE hP => ?_) ?_
 · clear hP hM
   go_simp
   first | done | rfl | exact ⟨rfl, rfl⟩
 refine reg_fresh (fun _ => rfl) (fun n => .pointer (some ⟨n, 0, none⟩)) (fun _ => .cells zeroNd 67) (fun g w' vs hM hE hP => ?_) ?_
 · clear hP hM
   go_simp
   first | done | rfl | exact ⟨rfl, rfl⟩
 refine reg_turn (fun _ => rfl) 14 (fun _ => .cells zeroNd 67) (fun g => .cells #[.int .i64 x.t.kind, .string x.t.name, .int .i64 x.t.sort, .slice xa x.t.kids.length xc, .int .i64 x.r, .slice xk x.ks.length xkc] 67) (by simp) (anc_of 3 (by kernel_rfl)) (fun _ => .inr (.inr rfl)) (fun g w' m hM hE hP hb => ?_) ?_
 · refine ⟨.skip, ?_, .inr rfl⟩
   rw [← set6_turn _ _ _ _ _ _ hb]
   obtain ⟨z0, z1, z2, z3, z4, z5⟩ := box6 hb
   have u0 : w'.frozen? ⟨(g 14).n, 0, none⟩ = false := frozenc hb
   have u1 : w'.frozen? ⟨(g 14).n, 1, none⟩ = false := frozenc hb
   have u2 : w'.frozen? ⟨(g 14).n, 2, none⟩ = false := frozenc hb
   have u3 : w'.frozen? ⟨(g 14).n, 3, none⟩ = false := frozenc hb
   have u4 : w'.frozen? ⟨(g 14).n, 4, none⟩ = false := frozenc hb
   have u5 : w'.frozen? ⟨(g 14).n, 5, none⟩ = false := frozenc hb
   clear hP hM hb hE
   go_simp
 refine reg_turn (fun _ => rfl) 15 (fun _ => .cells zeroNd 67) (fun g => .cells #[.int .i64 y.t.kind, .string y.t.name, .int .i64 y.t.sort, .slice ya y.t.kids.length yc, .int .i64 y.r, .slice yk y.ks.length ykc] 67) (by simp) (anc_of 3 (by kernel_rfl)) (fun _ => .inr (.inr rfl)) (fun g w' m hM hE hP hb => ?_) ?_
 · refine ⟨.skip, ?_, .inr rfl⟩
   rw [← set6_turn _ _ _ _ _ _ hb]
   obtain ⟨z0, z1, z2, z3, z4, z5⟩ := box6 hb
   have u0 : w'.frozen? ⟨(g 15).n, 0, none⟩ = false := frozenc hb
   have u1 : w'.frozen? ⟨(g 15).n, 1, none⟩ = false := frozenc hb
   have u2 : w'.frozen? ⟨(g 15).n, 2, none⟩ = false := frozenc hb
   have u3 : w'.frozen? ⟨(g 15).n, 3, none⟩ = false := frozenc hb
   have u4 : w'.frozen? ⟨(g 15).n, 4, none⟩ = false := frozenc hb
   have u5 : w'.frozen? ⟨(g 15).n, 5, none⟩ = false := frozenc hb
   clear hP hM hb hE
   go_simp
 intro g w2 hE2 hF2 hQ2
 simp only [List.drop_succ_cons, List.drop_zero, Act.put, List.setIfInBounds_toArray, List.set_cons_succ, List.set_cons_zero]
 obtain ⟨ha, hao⟩ := hF2.2.1 ((14, fun _ => Obj.cells #[.int .i64 x.t.kind, .string x.t.name, .int .i64 x.t.sort, .slice xa x.t.kids.length xc, .int .i64 x.r, .slice xk x.ks.length xkc] 67) : Nat × (Ghs → Obj)) (by simp)
 obtain ⟨hb, hbo⟩ := hF2.2.1 ((15, fun _ => Obj.cells #[.int .i64 y.t.kind, .string y.t.name, .int .i64 y.t.sort, .slice ya y.t.kids.length yc, .int .i64 y.r, .slice yk y.ks.length ykc] 67) : Nat × (Ghs → Obj)) (by simp)
 simp only at ha hao hb hbo
 obtain ⟨p, hp⟩ : ∃ p, p = (g 14).n := ⟨_, rfl⟩
 obtain ⟨q, hq⟩ : ∃ q, q = (g 15).n := ⟨_, rfl⟩
 rw [← hp] at ha hao
 rw [← hq] at hb hbo
 rw [← hp, ← hq]
 obtain ⟨p0, p1, p2, p3, p4, p5⟩ := box6 ha
 obtain ⟨q0, q1, q2, q3, q4, q5⟩ := box6 hb
 have HPB := Lib.hid ha
 have HQB := Lib.hid hb
 have HPO := Lib.hid hao
 have HQO := Lib.hid hbo
 have HE2 := Lib.hid hE2
 clear hF2 hQ2 hE2 ha hao hb hbo hp hq f1 x0 x1 x2 x3 x4 x5 y0 y1 y2 y3 y4 y5 i1 i2 k1 k2
 have HKF : Hid (KFr w w2 mb) := Lib.hid (KFr.ext HE2.out)
 have HPM : Hid (p ≠ mb ∧ q ≠ mb) := Lib.hid ⟨by have := HPO.out; omega, by have := HQO.out; omega⟩
 obtain ⟨p0, p1, p2, p3, p4, p5⟩ := box6 HPB.out
 go_wp2_with fail
 go_loopw [33] (fun kv wr => ∃ j : Nat, kv = .int .i64 j ∧ j ≤ x.ks.length ∧ Hid (KFr w2 wr mb ∧ PK wr mb l N ∧ (x.t.kids.take j).any (fun z => decide (z = y.t) || path l z y.t) = false)) (fun kv _ => x.ks.length - (intOf kv).toNat)
 case atStart => exact ⟨0, rfl, by omega, Lib.hid ⟨KFr.refl w2, HP.out.ext HE2.out, by simp⟩⟩
 case round =>
  clear p0 p1 p2 p3 p4 p5
  obtain ⟨j, rfl, hj, HR⟩ := hrel
  by_cases hlt : j < x.ks.length
  · obtain ⟨m0, hm0⟩ : ∃ m0, x.ks[j]? = some m0 := ⟨_, List.getElem?_eq_getElem hlt⟩
    obtain ⟨m, z, rfl, hmi, hz, hzk⟩ := HF.out.grown.kid i x HX.out j m0 hm0
    obtain ⟨kb, ko, rfl, c0, -⟩ := (((HLX.out.hold (fun c _ hlt => HE2.out.block hlt) (fun _ h _ => h)).kfr HR.out.1).iAt hm0)
    have HZ := Lib.hid (And.intro hz hzk)
    have hFr := (HF.out.ext HE2.out).kfr (HP.out.ext HE2.out) HR.out.1
    have hsz := size_kid (List.mem_of_getElem? hzk)
    have HC := Lib.hid (ih wr B fb ib mb l lv _ N S m k z y (by omega) hFr HR.out.2.1 hN HWF.out hz HY.out)
    clear hm0 hz hzk hFr hsz hmi
    by_cases hmk : (m : Int) = (k : Int)
    · go_wp2_with fail
      go_ret
      refine ⟨rb ?_, HKF.out.trans HR.out.1, HR.out.2.1⟩
      have e : m = k := by omega
      have hz := HZ.out.1
      rw [e, HY.out] at hz
      cases hz
      exact (path_iff.2 ⟨HK1.out, .inl ⟨y.t, List.mem_of_getElem? HZ.out.2, .inl rfl⟩⟩).symm
    · obtain ⟨r, hr⟩ : ∃ r, r = path l z.t y.t := ⟨_, rfl⟩
      rw [← hr] at HC
      have HRR := Lib.hid hr
      clear hr
      go_wp2_with fail
      refine HC.out.mono ?_
      rintro e w3 ⟨rfl, hk3, hp3⟩
      have HK3 := Lib.hid (HR.out.1.trans hk3)
      have HP3 := Lib.hid hp3
      clear hk3 hp3
      cases r with
      | true =>
        go_wp2_with fail
        go_ret
        exact ⟨rb (path_iff.2 ⟨HK1.out, .inl ⟨z.t, List.mem_of_getElem? HZ.out.2, .inr HRR.out.symm⟩⟩).symm, HKF.out.trans HK3.out, HP3.out⟩
      | false =>
        go_wp2_with fail
        go_roundw
        case rel =>
         refine ⟨j + 1, by go_num, by omega, Lib.hid ⟨HK3.out, HP3.out, ?_⟩⟩
         rw [List.take_add_one, HZ.out.2, List.any_append, HR.out.2.2, Option.toList_some]
         have hne : z.t ≠ y.t := fun e => hmk (by rw [HF.out.grown.once m k z y HZ.out.1 HY.out e])
         simp [hne, ← HRR.out]
        case measure => simp [intOf]; omega
  · have hje : j = x.ks.length := by omega
    subst hje
    have hany := HR.out.2.2
    rw [HXL.out, List.take_length] at hany
    have HANY := Lib.hid hany
    have HPE : Hid (path l x.t y.t = (decide (y.t.kind ≠ 1) && decide (0 ≤ strong l x.t y.t) && y.t.kids.all (fun z => path l x.t z) && (decide (0 < strong l x.t y.t) || lexF (path l) x.t.kids y.t.kids))) := Lib.hid (by
     rw [path_eq, HANY.out, decide_eq_true HK1.out]; simp)
    obtain ⟨q0, q1, q2, q3, q4, q5⟩ := box6 (HR.out.1.hs HQB.out HPM.out.2)
    have HFr := Lib.hid ((HF.out.ext HE2.out).kfr (HP.out.ext HE2.out) HR.out.1)
    clear hany
    by_cases hy1 : y.t.kind = 1
    · go_wp2_with fail
      go_ret
      exact ⟨rb (by rw [HPE.out]; simp [hy1]), HKF.out.trans HR.out.1, HR.out.2.1⟩
    · obtain ⟨c, hc⟩ : ∃ c, c = strong l x.t y.t := ⟨_, rfl⟩
      have HS := Lib.hid (stronger_any HFr.out (by omega) HX.out HY.out)
      rw [← hc] at HS HPE
      have HPE2 : Hid (path l x.t y.t = (decide (0 ≤ c) && y.t.kids.all (fun z => path l x.t z) && (decide (0 < c) || lexF (path l) x.t.kids y.t.kids))) := Lib.hid (by rw [HPE.out, decide_eq_true hy1]; simp)
      have HCC := Lib.hid hc
      clear hc
      go_upto_region 10 with fail
      clear hy1
      go_wp2_with fail
      refine HS.out.mono ?_
      rintro e w3 ⟨rfl, hE3⟩
      have HK3 := Lib.hid (HR.out.1.trans (KFr.ext hE3))
      have HP3 := Lib.hid (HR.out.2.1.ext hE3)
      clear hE3 q0 q1 q2 q3 q4 q5
      obtain ⟨q0, q1, q2, q3, q4, q5⟩ := box6 (HK3.out.hs HQB.out HPM.out.2)
      by_cases hc0 : c < 0
      · go_wp2_with fail
        go_ret
        refine ⟨rb ?_, HKF.out.trans HK3.out, HP3.out⟩
        rw [HPE2.out, decide_eq_false (show ¬ 0 ≤ c by omega)]; rfl
      · have HPE3 : Hid (path l x.t y.t = (y.t.kids.all (fun z => path l x.t z) && (decide (0 < c) || lexF (path l) x.t.kids y.t.kids))) := Lib.hid (by rw [HPE2.out, decide_eq_true (show 0 ≤ c by omega)]; simp)
        have hd0 : decide (c < 0) = false := by simp; omega
        go_wp2_with fail
        go_loopw [60] (fun kv wr => ∃ j : Nat, kv = .int .i64 j ∧ j ≤ y.ks.length ∧ Hid (KFr w2 wr mb ∧ PK wr mb l N ∧ (y.t.kids.take j).all (fun z => path l x.t z) = true)) (fun kv _ => y.ks.length - (intOf kv).toNat)
        case atStart => exact ⟨0, rfl, by omega, Lib.hid ⟨HK3.out, HP3.out, by simp⟩⟩
        case round =>
         clear q0 q1 q2 q3 q4 q5
         obtain ⟨j, rfl, hj, HR2⟩ := hrel
         by_cases hlt : j < y.ks.length
         · obtain ⟨m0, hm0⟩ : ∃ m0, y.ks[j]? = some m0 := ⟨_, List.getElem?_eq_getElem hlt⟩
           obtain ⟨m, z, rfl, hmi, hz, hzk⟩ := HF.out.grown.kid k y HY.out j m0 hm0
           obtain ⟨kb, ko, rfl, c0, -⟩ := (((HLY.out.hold (fun c _ hlt => HE2.out.block hlt) (fun _ h _ => h)).kfr HR2.out.1).iAt hm0)
           have HZ := Lib.hid (And.intro hz hzk)
           have hFr := (HF.out.ext HE2.out).kfr (HP.out.ext HE2.out) HR2.out.1
           have hsz := size_kid (List.mem_of_getElem? hzk)
           obtain ⟨r, hr⟩ : ∃ r, r = path l x.t z.t := ⟨_, rfl⟩
           have HC := Lib.hid (ih wr B fb ib mb l lv _ N S i m x z (by omega) hFr HR2.out.2.1 hN HWF.out HX.out hz)
           rw [← hr] at HC
           have HRR := Lib.hid hr
           clear hm0 hz hzk hFr hsz hmi hr
           go_wp2_with fail
           refine HC.out.mono ?_
           rintro e w4 ⟨rfl, hk4, hp4⟩
           have HK4 := Lib.hid (HR2.out.1.trans hk4)
           have HP4 := Lib.hid hp4
           clear hk4 hp4
           cases r with
           | false =>
             go_wp2_with fail
             go_ret
             refine ⟨rb ?_, HKF.out.trans HK4.out, HP4.out⟩
             have : y.t.kids.all (fun z => path l x.t z) = false := by
              rw [Bool.eq_false_iff]
              intro h
              rw [List.all_eq_true] at h
              have := h z.t (List.mem_of_getElem? HZ.out.2)
              rw [← HRR.out] at this; cases this
             rw [HPE3.out, this]; rfl
           | true =>
             go_wp2_with fail
             go_roundw
             case rel =>
              refine ⟨j + 1, by go_num, by omega, Lib.hid ⟨HK4.out, HP4.out, ?_⟩⟩
              rw [List.take_add_one, HZ.out.2, List.all_append, HR2.out.2.2, Option.toList_some]
              simp [← HRR.out]
             case measure => simp [intOf]; omega
         · have hje : j = y.ks.length := by omega
           subst hje
           have hall := HR2.out.2.2
           rw [HYL.out, List.take_length] at hall
           have HPE4 : Hid (path l x.t y.t = (decide (0 < c) || lexF (path l) x.t.kids y.t.kids)) := Lib.hid (by rw [HPE3.out, hall]; simp)
           obtain ⟨p0, p1, p2, p3, p4, p5⟩ := box6 (HR2.out.1.hs HPB.out HPM.out.1)
           clear hall
           by_cases hc1 : 0 < c
           · go_wp2_with fail
             go_ret
             exact ⟨rb (by rw [HPE4.out]; simp [hc1]), HKF.out.trans HR2.out.1, HR2.out.2.1⟩
           · have hc2 : c = 0 := by omega
             have hlen := (strong_zero (HCC.out.symm.trans hc2)).2.2.2
             have HPE5 : Hid (path l x.t y.t = lexF (path l) x.t.kids y.t.kids) := Lib.hid (by rw [HPE4.out]; simp [hc1])
             have HLEN := Lib.hid hlen
             have hd1 : decide (0 < c) = false := by simp; omega
             clear hc2 hlen
             go_wp2_with fail
             go_loopw [75] (fun kv wr => ∃ j : Nat, kv = .int .i64 j ∧ j ≤ x.ks.length ∧ Hid (KFr w2 wr mb ∧ PK wr mb l N ∧ lexF (path l) x.t.kids y.t.kids = lexF (path l) (x.t.kids.drop j) (y.t.kids.drop j))) (fun kv _ => x.ks.length - (intOf kv).toNat)
             case atStart => exact ⟨0, rfl, by omega, Lib.hid ⟨HR2.out.1, HR2.out.2.1, by simp⟩⟩
             case round =>
              clear p0 p1 p2 p3 p4 p5
              obtain ⟨j, rfl, hj, HR3⟩ := hrel
              by_cases hlt : j < x.ks.length
              · obtain ⟨m0, hm0⟩ : ∃ m0, x.ks[j]? = some m0 := ⟨_, List.getElem?_eq_getElem hlt⟩
                obtain ⟨m, z, rfl, hmi, hz, hzk⟩ := HF.out.grown.kid i x HX.out j m0 hm0
                have hyk : y.ks.length = x.ks.length := by rw [HYL.out, HXL.out, HLEN.out]
                obtain ⟨n0, hn0⟩ : ∃ n0, y.ks[j]? = some n0 := ⟨_, List.getElem?_eq_getElem (by omega)⟩
                obtain ⟨m', z', rfl, hmi', hz', hzk'⟩ := HF.out.grown.kid k y HY.out j n0 hn0
                obtain ⟨kb, ko, rfl, c0, -⟩ := (((HLX.out.hold (fun c _ hlt => HE2.out.block hlt) (fun _ h _ => h)).kfr HR3.out.1).iAt hm0)
                obtain ⟨kb', ko', rfl, d0, -⟩ := (((HLY.out.hold (fun c _ hlt => HE2.out.block hlt) (fun _ h _ => h)).kfr HR3.out.1).iAt hn0)
                obtain ⟨q0, q1, q2, q3, q4, q5⟩ := box6 (HR3.out.1.hs HQB.out HPM.out.2)
                have hFr := (HF.out.ext HE2.out).kfr (HP.out.ext HE2.out) HR3.out.1
                have hsz := size_kid (List.mem_of_getElem? hzk)
                have hsz' := size_kid (List.mem_of_getElem? hzk')
                have HC := Lib.hid (ih wr B fb ib mb l lv _ N S m m' z z' (by omega) hFr HR3.out.2.1 hN HWF.out hz hz')
                have hlex : lexF (path l) (x.t.kids.drop j) (y.t.kids.drop j) = if z.t = z'.t then lexF (path l) (x.t.kids.drop (j + 1)) (y.t.kids.drop (j + 1)) else path l z.t z'.t := by
                 rw [List.drop_eq_getElem_cons (List.getElem?_eq_some_iff.1 hzk).1, List.drop_eq_getElem_cons (List.getElem?_eq_some_iff.1 hzk').1, (List.getElem?_eq_some_iff.1 hzk).2, (List.getElem?_eq_some_iff.1 hzk').2, lexF]
                have HLEX := Lib.hid hlex
                have hj1 : (j : Int) < (y.ks.length : Int) := by omega
                have hj2 : (0 : Int) ≤ (j : Int) := by omega
                have HMM : Hid (m = m' ↔ z.t = z'.t) := Lib.hid ⟨fun e => by subst e; rw [hz] at hz'; cases hz'; rfl, fun e => HF.out.grown.once m m' z z' hz hz' e⟩
                clear hm0 hn0 hz hz' hzk hzk' hFr hsz hsz' hmi hmi' hlex hyk
                by_cases hmm : (m : Int) = (m' : Int)
                · have HT : Hid (z.t = z'.t) := Lib.hid (HMM.out.1 (by omega))
                  go_wp2_with fail
                  go_roundw
                  case rel => exact ⟨j + 1, by go_num, by omega, Lib.hid ⟨HR3.out.1, HR3.out.2.1, by rw [HR3.out.2.2, HLEX.out, if_pos HT.out]⟩⟩
                  case measure => simp [intOf]; omega
                · have HT : Hid (¬ z.t = z'.t) := Lib.hid (fun e => hmm (by rw [HMM.out.2 e]))
                  go_wp2_with fail
                  refine HC.out.mono ?_
                  rintro e w5 ⟨rfl, hk5, hp5⟩
                  have HK5 := Lib.hid (HR3.out.1.trans hk5)
                  have HP5 := Lib.hid hp5
                  clear hk5 hp5
                  go_wp2_with fail
                  go_ret
                  exact ⟨rb (by rw [HPE5.out, HR3.out.2.2, HLEX.out, if_neg HT.out]), HKF.out.trans HK5.out, HP5.out⟩
              · have hje : j = x.ks.length := by omega
                subst hje
                go_wp2_with fail
                go_ret
                refine ⟨rb ?_, HKF.out.trans HR3.out.1, HR3.out.2.1⟩
                rw [HPE5.out, HR3.out.2.2, HXL.out, List.drop_length]
                simp [lexF]

theorem sizQ : (Tryd.prog.info? 76).map (fun i => i.size) = some 2 := by kernel_rfl
theorem wpList_storeQ {ops : Array Oper} {rest : List Oper} {o : Oper} {a : Act} {w : World} {Q : Exit → Act → World → Prop} (hgd : o.guard = none) (x y : Operand) (ho : o.op = .store 76 x y)
 {g : Nat} (hx : a.eval x = .pointer (some ⟨g, 0, none⟩)) {i k : Int} (hy : a.eval y = .agg #[.int .i64 i, .int .i64 k])
 {old : Array Value} (hg : w.heap[g]? = some (.cells old 76)) (ho4 : old.size = 2)
 (hK : ∀ w', w'.heap[g]? = some (.cells #[.int .i64 i, .int .i64 k] 76) → (∀ W0, Ext W0 w → W0.heap.size ≤ g → Ext W0 w') → wpList Tryd.prog ops Q rest (a.put o.dst undef) w') :
 wpList Tryd.prog ops Q (o :: rest) a w := by
 refine wpList_store_all hgd 76 x y ho g _ hx hy 76 old hg sizQ ho4 (by simp [Value.oneCell']) ?_
 exact hK _ (setRow_heap w g old _ _ _ hg) (fun W0 h hg => h.setRow hg _)
theorem wpList_known {ops : Array Oper} {rest : List Oper} {o : Oper} {a : Act} {w : World} {Q : Exit → Act → World → Prop} {mb : Nat} {l : List ByteArray} {N : List Nd} {i k : Nat} {x y : Nd} {r : Bool} (hg : o.guard = none) (m z v : Operand) (hop : o.op = Op.mapUpdate 63 m z v) (h : PK w mb l N) (hi : i ≤ 1000) (hk : k ≤ 1000) (hx : N[i]? = some x) (hy : N[k]? = some y) (hr : r = path l x.t y.t)
 (hm : a.eval m = .map (some mb)) (hz : a.eval z = .agg #[.int .i64 (i : Int), .int .i64 (k : Int)]) (hv : a.eval v = .bool r)
 (hK : ∀ ob, PK (ChangeMaps.setBlock w mb ob) mb l N → wpList Tryd.prog ops Q rest (a.put o.dst undef) (ChangeMaps.setBlock w mb ob)) :
 wpList Tryd.prog ops Q (o :: rest) a w := by
 refine wpList_plain hg fun K' hK' => ?_
 obtain ⟨ob, hrun, h1⟩ := known_put h hi hk hx hy hr
 unfold Oper.wp
 simp [execOp, hop, hm, hz, hv, hrun, Result.andThen]
 exact hK' _ _ (hK ob h1)

set_option maxRecDepth 100000 in
set_option maxHeartbeats 8000000 in
theorem path_step {n : Nat} (ih : PathC n) : PathC (n + 1) := by
 intro w B fb ib mb l lv nv N S i k x y hn hF hP hN hwf hx hy
 obtain ⟨na, nc, rfl, hn1, hn2⟩ := hF.row.slice
 unfold maxLen at hn2
 obtain ⟨g0, f1, g2, f3⟩ := box4r hF.blk
 have hls := hF.lsN hP
 obtain ⟨nrb, nro, xa, xc, xk, xkc, rfl, x0, x1, x2, x3, x4, x5, -, -, hLx⟩ := hls.nAt hx
 have hi := (List.getElem?_eq_some_iff.1 hx).1
 have hk := (List.getElem?_eq_some_iff.1 hy).1
 have i1 : (i : Int) < (N.length : Int) := by omega
 have i2 : (0 : Int) ≤ (i : Int) := by omega
 obtain ⟨r, ok, hlk, hrk⟩ := known_look hP (by omega) (by omega) hx hy
 have HF := Lib.hid hF
 have HP := Lib.hid hP
 have HX := Lib.hid hx
 have HY := Lib.hid hy
 have HLK := Lib.hid hlk
 have HRK := Lib.hid hrk
 have HWF := Lib.hid hwf
 have HIK := Lib.hid (And.intro hi hk)
 clear hls hF hP hLx hx hy hwf g0 g2 hlk hrk hi hk
 go_enter Tryd.func36, Tryd.ntmps36
 by_cases hk1 : x.t.kind = 1
 · go_wp2_with fail
   go_ret
   exact ⟨rb (by rw [path_eq]; simp [hk1]), KFr.refl w, HP.out⟩
 · by_cases hik : (i : Int) = (k : Int)
   · obtain rfl : i = k := by omega
     clear hik
     go_wp2_with fail
     go_ret
     refine ⟨rb ?_, KFr.refl w, HP.out⟩
     have h1 := HX.out
     rw [HY.out] at h1
     cases h1
     exact (path_irrefl _ x.t (Nat.le_refl _) (HWF.out x (List.mem_of_getElem? HX.out))).symm
   · obtain ⟨kb, w1, hkb, hw1, HB1, hE1⟩ := box_new w (.cells #[.int .i64 0, .int .i64 0] 76)
     have HE1 := Lib.hid hE1
     have HKB : Hid (kb = w.heap.size) := Lib.hid hkb
     have hd1 : (x.t.kind == 1) = false := by simp [hk1]
     have hd2 : ((i : Int) == (k : Int)) = false := by simpa using hik
     have hd3 : (x.t.kind == 1 || (i : Int) == (k : Int)) = false := by rw [hd1, hd2]; rfl
     clear hE1
     go_upto_region 4 with (
      rw [← hkb, ← hw1]
      refine wpList_storeQ rfl (.tmp 7) (.tmp 27) rfl (g := kb) rfl (i := (i : Int)) (k := (k : Int)) rfl HB1.out rfl ?_
      intro w2 c2 e2
      have HB2 := Lib.hid c2
      have HE2 := Lib.hid (e2 w HE1.out (Nat.le_of_eq HKB.out.symm))
      have b0 : w2.cell? ⟨kb, 0, none⟩ = some (.int .i64 (i : Int)) := (by rw [cellc c2]; rfl)
      have b1 : w2.cell? ⟨kb, 1, none⟩ = some (.int .i64 (k : Int)) := (by rw [cellc c2]; rfl)
      clear c2 e2)
     have f3 := cs_ext HE2.out f3
     clear f1 x0 x1 x2 x3 x4 x5 i1 i2 hkb hw1 hd1 hd2 hd3 hik
     have HFCT := Lib.hid (And.intro b0 (And.intro b1 f3))
     refine wp_region_reg 11 false (by kernel_rfl) (by kernel_rfl) ?_
     refine reg_value (fun _ => rfl) ?_ (fun g w' vs hM hE hP => ?_) ?_
     rotate_left
     · (clear hP hM; have ⟨z0, z1, z2⟩ := cs_e3 hE HFCT.out; go_simp; first | done | rfl)
     refine reg_value (fun _ => rfl) ?_ (fun g w' vs hM hE hP => ?_) ?_
     rotate_left
     · (clear hP hM; have ⟨z0, z1, z2⟩ := cs_e3 hE HFCT.out; go_simp; first | done | rfl)
     refine reg_value (fun _ => rfl) ?_ (fun g w' vs hM hE hP => ?_) ?_
     rotate_left
     · (clear hP hM; have ⟨z0, z1, z2⟩ := cs_e3 hE HFCT.out; go_simp; first | done | rfl)
     refine reg_value (fun _ => rfl) ?_ (fun g w' vs hM hE hP => ?_) ?_
     rotate_left
     · (clear hP hM; have ⟨z0, z1, z2⟩ := cs_e3 hE HFCT.out; go_simp; first | done | rfl)
     refine reg_value (fun _ => rfl) ?_ (fun g w' vs hM hE hP => ?_) ?_
     rotate_left
     · (clear hP hM; have ⟨z0, z1, z2⟩ := cs_e3 hE HFCT.out; go_simp; first | done | rfl)
     refine reg_value (fun _ => rfl) (fun _ => .tuple #[.bool r, .bool ok]) (fun g w' vs hM hE hP => ?_) ?_
     · have hz := HLK.out w' (HE2.out.trans hE)
       clear hP hM
       go_simp
     refine reg_value (fun _ => rfl) ?_ (fun g w' vs hM hE hP => ?_) ?_
     rotate_left
     · (clear hP hM; have ⟨z0, z1, z2⟩ := cs_e3 hE HFCT.out; go_simp; first | done | rfl)
     refine reg_value (fun _ => rfl) ?_ (fun g w' vs hM hE hP => ?_) ?_
     rotate_left
     · (clear hP hM; have ⟨z0, z1, z2⟩ := cs_e3 hE HFCT.out; go_simp; first | done | rfl)
     refine reg_value (fun _ => rfl) ?_ (fun g w' vs hM hE hP => ?_) ?_
     rotate_left
     · (clear hP hM; have ⟨z0, z1, z2⟩ := cs_e3 hE HFCT.out; go_simp; first | done | rfl)
     refine reg_value (fun _ => rfl) ?_ (fun g w' vs hM hE hP => ?_) ?_
     rotate_left
     · (clear hP hM; have ⟨z0, z1, z2⟩ := cs_e3 hE HFCT.out; go_simp; first | done | rfl)
     refine reg_value (fun _ => rfl) ?_ (fun g w' vs hM hE hP => ?_) ?_
     rotate_left
     · (clear hP hM; have ⟨z0, z1, z2⟩ := cs_e3 hE HFCT.out; go_simp; first | done | rfl)
     intro g w3 hE3 hF3 hQ3
     simp only [List.drop_succ_cons, List.drop_zero, Act.put, List.setIfInBounds_toArray, List.set_cons_succ, List.set_cons_zero]
     have HE3 := Lib.hid (HE2.out.trans hE3)
     have HE23 := Lib.hid hE3
     have f3 := cs_ext hE3 f3
     have b0 := cs_ext hE3 b0
     have b1 := cs_ext hE3 b1
     clear hF3 hQ3 hE3
     cases ok with
     | true =>
       go_wp2_with fail
       go_ret
       exact ⟨rb (HRK.out trivial), KFr.ext HE3.out, HP.out.ext HE3.out⟩
     | false =>
       have HD := Lib.hid (decide_any ih hn (HF.out.ext HE3.out) (HP.out.ext HE3.out) hN HWF.out HX.out HY.out hk1)
       clear b0 b1 f3
       go_wp2_with fail
       refine HD.out.mono ?_
       rintro e w4 ⟨rfl, hk4, hp4⟩
       have HK4 := Lib.hid hk4
       have HP4 := Lib.hid hp4
       have HF4 := Lib.hid ((HF.out.ext HE3.out).kfr (HP.out.ext HE3.out) hk4)
       obtain ⟨g0, f1, g2, f3⟩ := box4r HF4.out.blk
       have hb4 := hk4.hs (c := kb) (hs_ext HE23.out HB2.out) (by have := HP.out.lt; have := HKB.out; omega)
       have b0 : w4.cell? ⟨kb, 0, none⟩ = some (.int .i64 (i : Int)) := by rw [cellc hb4]; rfl
       have b1 : w4.cell? ⟨kb, 1, none⟩ = some (.int .i64 (k : Int)) := by rw [cellc hb4]; rfl
       clear g0 f1 g2 hk4 hp4 hb4
       go_upto_region 7 with fail
       go_still_tail 6, (by kernel_rfl)
       change wpList _ _ _ _ _ w4.drew
       generalize hwm : World.drew w4 = wm
       have hEm : Ext w4 wm := by rw [← hwm]; exact Ext.drew w4
       have HKm := Lib.hid ((KFr.ext HE3.out).trans (HK4.out.trans (KFr.ext hEm)))
       have HPm := Lib.hid (HP4.out.ext hEm)
       clear hEm hwm
       go_wp2_with (
        refine wpList_known rfl (.tmp 46) (.tmp 47) (.tmp 48) rfl HPm.out (by have := HIK.out; omega) (by have := HIK.out; omega) HX.out HY.out rfl rfl rfl rfl ?_
        intro ob hP9
        have HP9 := Lib.hid hP9
        clear hP9)
       go_ret
       exact ⟨rfl, HKm.out.trans (KFr.put _ _), HP9.out⟩
theorem path_any : ∀ n, PathC n
 | 0 => fun w B fb ib mb l lv nv N S i k x y hn => by have := sizeT_kids x.t; omega
 | n + 1 => path_step (path_any n)

end Go.Proofs.YtkobikdkbpdjeaaDoor
