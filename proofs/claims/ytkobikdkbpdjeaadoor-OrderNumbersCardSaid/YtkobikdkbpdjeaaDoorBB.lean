/- Contracts: a forest without terms; symbols compared. -/
import Derived.Test.YtkobikdkbpdjeaaDoorBA
namespace Go.Proofs.YtkobikdkbpdjeaaDoor
open Go Go.RowKit
set_option linter.unusedVariables false
set_option linter.unusedSimpArgs false

theorem built_forest (v : Value) (x y : Nat) (a : Option Addr) (l c : Nat) (hv : v = .slice a l c) : Tryd.prog.built 65 [(0, v), (2, .map (some x)), (3, .map (some y))] = some #[v, .slice none 0 0, .map (some x), .map (some y)] := by subst hv; kernel_rfl

/-- a forest that has just been planted -/
def Planted (w w' : World) (l : List ByteArray) (lv : Value) (fb ib mb : Nat) : Prop :=
 FW w' w.heap.size fb ib mb l lv (.slice none 0 0) [] (fun c => c < w.heap.size) ∧ MapK encQ w' mb 0 (fun _ => none) ∧ fb ≠ mb ∧ Ext w w'

set_option maxRecDepth 100000 in
set_option maxHeartbeats 2000000 in
theorem plant_any {w : World} {S : Nat → Prop} {a : Option Addr} {n cap : Nat} {l : List ByteArray} (hL : LsG elS w S (.slice a n cap) l) (hS : ∀ c, S c → c < w.heap.size) :
 Calls Tryd.prog 33 #[.slice a n cap] w fun e w' => ∃ fb ib mb, e = .returned (.pointer (some ⟨fb, 0, none⟩)) ∧ Planted w w' l (.slice a n cap) fb ib mb := by
 obtain ⟨ib, w1, hib, hw1, HB1, hE1⟩ := box_new w (.map #[] 0)
 obtain ⟨mb, w2, hmb, hw2, HB2, hE2⟩ := box_new w1 (.map #[] 0)
 obtain ⟨fb, w3, hfb, hw3, HB3, hE3⟩ := box_new w2 (.cells #[.slice a n cap, .slice none 0 0, .map (some ib), .map (some mb)] 65)
 have hE := hE1.trans (hE2.trans hE3)
 have s1 : w1.heap.size = w.heap.size + 1 := by rw [hw1, World.size_alloc]
 have s2 : w2.heap.size = w1.heap.size + 1 := by rw [hw2, World.size_alloc]
 have HP : Hid (Planted w w3 l (.slice a n cap) fb ib mb) := Lib.hid (by
  have hi := hs_ext (hE2.trans hE3) HB1.out
  refine ⟨⟨HB3.out, ⟨by omega, by omega, by omega, by omega, hE.size⟩, (hL.ext hE).wide (fun c hc _ => hS c hc), fun c hc => ⟨Nat.lt_of_lt_of_le hc hE.size, by omega, by omega, by omega, by simp [Value.ownBlock]⟩, fun c hc => hc, fun c hc h => by omega, OwnG.nil, ⟨_, 0, IdsOk.none, MapK.made_at hi⟩, Grown.nil l⟩, MapK.made_at (hs_ext hE3 HB2.out), by omega, hE⟩)
 clear HB1 HB2 HB3 hE1 hE2 hE3 hE s1 s2
 subst hw3 hfb hw2 hmb hw1 hib
 go_enter Tryd.func33, Tryd.ntmps33
 have hmm := @run_makeMap Tryd.prog
 go_wp2
 go_ret
 have h := HP.out
 simp only [World.size_alloc] at h
 exact ⟨_, _, _, rfl, h⟩

def orL : List Int → Int
 | [] => 0
 | x :: l => if x ≠ 0 then x else orL l
set_option maxRecDepth 100000 in
set_option maxHeartbeats 2000000 in
theorem or_any {w : World} {S : Nat → Prop} {a : Option Addr} {n cap : Nat} {L : List Int} (hL : LsG elI w S (.slice a n cap) L) :
 Calls Tryd.prog 62 #[.slice a n cap] w fun e w' => e = .returned (.int .i64 (orL L)) ∧ Ext w w' := by
 obtain ⟨rfl, hl, hc⟩ := hL.len
 unfold maxLen at hc
 have HL := Lib.hid hL
 clear hL
 go_enter Tryd.func62, Tryd.ntmps62
 go_wp2_with fail
 go_loopw [8] (fun kv wr => ∃ k : Nat, kv = .int .i64 k ∧ k ≤ L.length ∧ Hid (orL L = orL (L.drop k)) ∧ Hid (Ext w wr)) (fun kv _ => L.length - (intOf kv).toNat)
 case atStart => exact ⟨0, rfl, by omega, Lib.hid (by simp), Lib.hid (Ext.refl _)⟩
 case round =>
  obtain ⟨k, rfl, hk, HR, HE⟩ := hrel
  by_cases hlt : k < L.length
  · obtain ⟨x, hx⟩ : ∃ x, L[k]? = some x := ⟨_, List.getElem?_eq_getElem hlt⟩
    obtain ⟨xb, xo, rfl, x0, hxi⟩ := (HL.out.ext HE.out).iAt hx
    have HD : Hid (orL (L.drop k) = if x ≠ 0 then x else orL (L.drop (k + 1))) := Lib.hid (by
     rw [List.drop_eq_getElem_cons hlt, (List.getElem?_eq_some_iff.1 hx).2, orL])
    clear hx
    by_cases h0 : x = 0
    · go_wp2_with fail
      go_roundw
      case rel => exact ⟨k + 1, by go_num, by omega, Lib.hid (by rw [HR.out, HD.out, if_neg (by simp [h0])]), HE⟩
      case measure => simp [intOf]; omega
    · go_wp2_with fail
      go_ret
      exact ⟨by rw [HR.out, HD.out, if_pos h0]; rfl, HE.out⟩
  · have hke : k = L.length := by omega
    subst hke
    go_wp2_with fail
    go_ret
    exact ⟨by rw [HR.out, List.drop_length]; rfl, HE.out⟩
theorem cmp_any {w : World} {x y : Int} :
 Calls Tryd.prog 30 #[.int .i64 x, .int .i64 y] w fun e w' => e = .returned (.int .i64 (sgn x y)) ∧ Ext w w' :=
 (Tryd.cmp_Compare_int x y w).mono fun e w' ⟨h1, h2⟩ => ⟨by rw [h1]; rfl, by rw [h2]; exact Ext.refl _⟩

theorem sgn_i64 (a b : Int) : I64 (sgn a b) := by unfold sgn I64; (repeat' split) <;> omega
theorem ints4 {w : World} {g : Nat} {a b c d : Int} (h : w.heap[g]? = some (.cells #[.int .i64 a, .int .i64 b, .int .i64 c, .int .i64 d] 3)) (ha : I64 a) (hb : I64 b) (hc : I64 c) (hd : I64 d) : LsG elI w (fun _ => True) (.slice (some ⟨g, 0, none⟩) 4 4) [a, b, c, d] :=
 cells_lsG (P := [(a, [Value.int .i64 a]), (b, [Value.int .i64 b]), (c, [Value.int .i64 c]), (d, [Value.int .i64 d])]) h rfl rfl rfl (by simp [maxLen]) trivial (by
  intro p hp
  simp only [List.mem_cons, List.not_mem_nil, or_false] at hp
  rcases hp with rfl | rfl | rfl | rfl
  · exact ⟨rfl, ha⟩
  · exact ⟨rfl, hb⟩
  · exact ⟨rfl, hc⟩
  · exact ⟨rfl, hd⟩)
theorem set6_turn {w : World} {g T : Nat} {a b c d e f : Value} (a' b' c' d' e' f' : Value) (h : w.heap[g]? = some (.cells #[a, b, c, d, e, f] T)) :
 (((((w.setCell ⟨g, 0, none⟩ a').setCell ⟨g, 1, none⟩ b').setCell ⟨g, 2, none⟩ c').setCell ⟨g, 3, none⟩ d').setCell ⟨g, 4, none⟩ e').setCell ⟨g, 5, none⟩ f' = ChangeMaps.setBlock w g (.cells #[a', b', c', d', e', f'] T) := by
 have h1 := heap_setCell_same w g 0 _ _ a' h
 have h5 := heap_setCell_same _ g 1 _ _ b' h1
 have h6 := heap_setCell_same _ g 2 _ _ c' h5
 have h7 := heap_setCell_same _ g 3 _ _ d' h6
 have h8 := heap_setCell_same _ g 4 _ _ e' h7
 have h9 := heap_setCell_same _ g 5 _ _ f' h8
 have hlt := (Array.getElem?_eq_some_iff.1 h).1
 have hx : ((((((w.setCell ⟨g, 0, none⟩ a').setCell ⟨g, 1, none⟩ b').setCell ⟨g, 2, none⟩ c').setCell ⟨g, 3, none⟩ d').setCell ⟨g, 4, none⟩ e').setCell ⟨g, 5, none⟩ f').heap = (ChangeMaps.setBlock w g (.cells #[a', b', c', d', e', f'] T)).heap := by
  apply Array.ext_getElem?
  intro i
  by_cases hi : i = g
  · subst hi
    rw [h9, reg_turned_same h]
    simp
  · rw [heap_setCell_other _ _ _ _ hi, heap_setCell_other _ _ _ _ hi, heap_setCell_other _ _ _ _ hi, heap_setCell_other _ _ _ _ hi, heap_setCell_other _ _ _ _ hi, heap_setCell_other _ _ _ _ hi, reg_turned_block hi]
 have hw : ∀ (A B : World), A.heap = B.heap → A.tape = B.tape → A.drawn = B.drawn → A.os = B.os → A.output = B.output → A = B := by
  intro A B e1 e2 e3 e4 e5
  cases A; cases B
  simp only at e1 e2 e3 e4 e5
  subst e1 e2 e3 e4 e5
  rfl
 have t1 : ∀ (w : World) p v, (w.setCell p v).tape = w.tape := fun _ _ _ => rfl
 have t2 : ∀ (w : World) p v, (w.setCell p v).drawn = w.drawn := fun _ _ _ => rfl
 have t3 : ∀ (w : World) p v, (w.setCell p v).os = w.os := fun _ _ _ => rfl
 have t4 : ∀ (w : World) p v, (w.setCell p v).output = w.output := fun _ _ _ => rfl
 exact hw _ _ hx (by rw [t1, t1, t1, t1, t1, t1]; rfl) (by rw [t2, t2, t2, t2, t2, t2]; rfl) (by rw [t3, t3, t3, t3, t3, t3]; rfl) (by rw [t4, t4, t4, t4, t4, t4]; rfl)
abbrev zeroNd : Array Value := #[.int .i64 0, .string ⟨#[]⟩, .int .i64 0, .slice none 0 0, .int .i64 0, .slice none 0 0]

set_option maxRecDepth 100000 in
set_option maxHeartbeats 4000000 in
theorem stronger_any {w : World} {B fb ib mb : Nat} {l : List ByteArray} {lv nv : Value} {N : List Nd} {S : Nat → Prop} {i k : Nat} {x y : Nd} (hF : FW w B fb ib mb l lv nv N S) (hN : N.length ≤ 1000) (hx : N[i]? = some x) (hy : N[k]? = some y) :
 Calls Tryd.prog 52 #[.pointer (some ⟨fb, 0, none⟩), .int .i64 i, .int .i64 k] w fun e w' => e = .returned (.int .i64 (strong l x.t y.t)) ∧ Ext w w' := by
 obtain ⟨na, nc, rfl, hn1, hn2⟩ := hF.row.slice
 unfold maxLen at hn2
 have f1 : w.cell? ⟨fb, 1, none⟩ = some (.slice na N.length nc) := by rw [cellc hF.blk]; rfl
 obtain ⟨rb, ro, xa, xc, xk, xkc, rfl, x0, x1, x2, x3, x4, x5, -⟩ := hF.row.any.nAt hx
 obtain ⟨rb', ro', ya, yc, yk, ykc, e, y0, y1, y2, y3, y4, y5, -⟩ := hF.row.any.nAt hy
 cases e
 have hi := (List.getElem?_eq_some_iff.1 hx).1
 have hk := (List.getElem?_eq_some_iff.1 hy).1
 have i1 : (i : Int) < (N.length : Int) := by omega
 have i2 : (0 : Int) ≤ (i : Int) := by omega
 have k1 : (k : Int) < (N.length : Int) := by omega
 have k2 : (0 : Int) ≤ (k : Int) := by omega
 go_enter Tryd.func52, Tryd.ntmps52
 go_upto_region 1 with fail
 have HFCT := Lib.hid (And.intro f1 (And.intro x0 (And.intro x1 (And.intro x2 (And.intro x3 (And.intro x4 (And.intro x5 (And.intro y0 (And.intro y1 (And.intro y2 (And.intro y3 (And.intro y4 y5))))))))))))
 refine wp_region_reg 18 true (by kernel_rfl) (by kernel_rfl) ?_
 refine reg_value (fun _ => rfl) ?_ (fun g w' vs hM hE hP => ?_) ?_
 rotate_left
 · (clear hP hM; have ⟨z0, z1, z2, z3, z4, z5, z6, z7, z8, z9, z10, z11, z12⟩ := cs_e13 hE HFCT.out; go_simp; first | done | rfl)
 refine reg_value (fun _ => rfl) ?_ (fun g w' vs hM hE hP => ?_) ?_
 rotate_left
 · (clear hP hM; have ⟨z0, z1, z2, z3, z4, z5, z6, z7, z8, z9, z10, z11, z12⟩ := cs_e13 hE HFCT.out; go_simp; first | done | rfl)
 refine reg_value (fun _ => rfl) ?_ (fun g w' vs hM hE hP => ?_) ?_
 rotate_left
 · (clear hP hM; have ⟨z0, z1, z2, z3, z4, z5, z6, z7, z8, z9, z10, z11, z12⟩ := cs_e13 hE HFCT.out; go_simp; first | done | rfl)
 refine reg_value (fun _ => rfl) ?_ (fun g w' vs hM hE hP => ?_) ?_
 rotate_left
 · (clear hP hM; have ⟨z0, z1, z2, z3, z4, z5, z6, z7, z8, z9, z10, z11, z12⟩ := cs_e13 hE HFCT.out; go_simp; first | done | rfl)
 refine reg_value (fun _ => rfl) ?_ (fun g w' vs hM hE hP => ?_) ?_
 rotate_left
 · (clear hP hM; have ⟨z0, z1, z2, z3, z4, z5, z6, z7, z8, z9, z10, z11, z12⟩ := cs_e13 hE HFCT.out; go_simp; first | done | rfl)
 refine reg_value (fun _ => rfl) ?_ (fun g w' vs hM hE hP => ?_) ?_
 rotate_left
 · (clear hP hM; have ⟨z0, z1, z2, z3, z4, z5, z6, z7, z8, z9, z10, z11, z12⟩ := cs_e13 hE HFCT.out; go_simp; first | done | rfl)
 refine reg_value (fun _ => rfl) ?_ (fun g w' vs hM hE hP => ?_) ?_
 rotate_left
 · (clear hP hM; have ⟨z0, z1, z2, z3, z4, z5, z6, z7, z8, z9, z10, z11, z12⟩ := cs_e13 hE HFCT.out; go_simp; first | done | rfl)
 refine reg_value (fun _ => rfl) ?_ (fun g w' vs hM hE hP => ?_) ?_
 rotate_left
 · (clear hP hM; have ⟨z0, z1, z2, z3, z4, z5, z6, z7, z8, z9, z10, z11, z12⟩ := cs_e13 hE HFCT.out; go_simp; first | done | rfl)
 refine reg_value (fun _ => rfl) ?_ (fun g w' vs hM hE hP => ?_) ?_
 rotate_left
 · (clear hP hM; have ⟨z0, z1, z2, z3, z4, z5, z6, z7, z8, z9, z10, z11, z12⟩ := cs_e13 hE HFCT.out; go_simp; first | done | rfl)
 refine reg_value (fun _ => rfl) ?_ (fun g w' vs hM hE hP => ?_) ?_
 rotate_left
 · (clear hP hM; have ⟨z0, z1, z2, z3, z4, z5, z6, z7, z8, z9, z10, z11, z12⟩ := cs_e13 hE HFCT.out; go_simp; first | done | rfl)
 refine reg_value (fun _ => rfl) ?_ (fun g w' vs hM hE hP => ?_) ?_
 rotate_left
 · (clear hP hM; have ⟨z0, z1, z2, z3, z4, z5, z6, z7, z8, z9, z10, z11, z12⟩ := cs_e13 hE HFCT.out; go_simp; first | done | rfl)
 refine reg_value (fun _ => rfl) ?_ (fun g w' vs hM hE hP => ?_) ?_
 rotate_left
 · (clear hP hM; have ⟨z0, z1, z2, z3, z4, z5, z6, z7, z8, z9, z10, z11, z12⟩ := cs_e13 hE HFCT.out; go_simp; first | done | rfl)
 refine reg_value (fun _ => rfl) ?_ (fun g w' vs hM hE hP => ?_) ?_
 rotate_left
 · (clear hP hM; have ⟨z0, z1, z2, z3, z4, z5, z6, z7, z8, z9, z10, z11, z12⟩ := cs_e13 hE HFCT.out; go_simp; first | done | rfl)
 refine reg_value (fun _ => rfl) ?_ (fun g w' vs hM hE hP => ?_) ?_
 rotate_left
 · (clear hP hM; have ⟨z0, z1, z2, z3, z4, z5, z6, z7, z8, z9, z10, z11, z12⟩ := cs_e13 hE HFCT.out; go_simp; first | done | rfl)
 refine reg_fresh (fun _ => rfl) (fun n => .pointer (some ⟨n, 0, none⟩)) (fun _ => .cells zeroNd 67) (fun g w' vs hM hE hP => ?_) ?_
 · clear hP hM
   go_simp
   first | done | rfl | exact ⟨rfl, rfl⟩
 refine reg_fresh (fun _ => rfl) (fun n => .pointer (some ⟨n, 0, none⟩)) (fun _ => .cells zeroNd 67) (fun g w' vs hM hE hP => ?_) ?_
 · clear hP hM
   go_simp
   first | done | rfl | exact ⟨rfl, rfl⟩
 refine reg_turn (fun _ => rfl) 14 (fun _ => .cells zeroNd 67) (fun g => .cells #[.int .i64 x.t.kind, .string x.t.name, .int .i64 x.t.sort, .slice xa x.t.kids.length xc, .int .i64 x.r, .slice xk x.ks.length xkc] 67) (by simp) (anc_of 3 (by kernel_rfl)) (fun _ => .inr (.inr rfl)) (fun g w' m hM hE hP hb => ?_) ?_
 · refine ⟨.skip, ?_, .inr rfl⟩
   rw [← set6_turn _ _ _ _ _ _ hb]
   obtain ⟨z0, z1, z2, z3, z4, z5⟩ := box6 hb
   have u0 : w'.frozen? ⟨(g 14).n, 0, none⟩ = false := frozenc hb
   have u1 : w'.frozen? ⟨(g 14).n, 1, none⟩ = false := frozenc hb
   have u2 : w'.frozen? ⟨(g 14).n, 2, none⟩ = false := frozenc hb
   have u3 : w'.frozen? ⟨(g 14).n, 3, none⟩ = false := frozenc hb
   have u4 : w'.frozen? ⟨(g 14).n, 4, none⟩ = false := frozenc hb
   have u5 : w'.frozen? ⟨(g 14).n, 5, none⟩ = false := frozenc hb
   clear hP hM hb hE
   go_simp
 refine reg_turn (fun _ => rfl) 15 (fun _ => .cells zeroNd 67) (fun g => .cells #[.int .i64 y.t.kind, .string y.t.name, .int .i64 y.t.sort, .slice ya y.t.kids.length yc, .int .i64 y.r, .slice yk y.ks.length ykc] 67) (by simp) (anc_of 3 (by kernel_rfl)) (fun _ => .inr (.inr rfl)) (fun g w' m hM hE hP hb => ?_) ?_
 · refine ⟨.skip, ?_, .inr rfl⟩
   rw [← set6_turn _ _ _ _ _ _ hb]
   obtain ⟨z0, z1, z2, z3, z4, z5⟩ := box6 hb
   have u0 : w'.frozen? ⟨(g 15).n, 0, none⟩ = false := frozenc hb
   have u1 : w'.frozen? ⟨(g 15).n, 1, none⟩ = false := frozenc hb
   have u2 : w'.frozen? ⟨(g 15).n, 2, none⟩ = false := frozenc hb
   have u3 : w'.frozen? ⟨(g 15).n, 3, none⟩ = false := frozenc hb
   have u4 : w'.frozen? ⟨(g 15).n, 4, none⟩ = false := frozenc hb
   have u5 : w'.frozen? ⟨(g 15).n, 5, none⟩ = false := frozenc hb
   clear hP hM hb hE
   go_simp
 intro g w2 hE2 hF2 hQ2
 simp only [List.drop_succ_cons, List.drop_zero, Act.put, List.setIfInBounds_toArray, List.set_cons_succ, List.set_cons_zero]
 obtain ⟨ha, hao⟩ := hF2.2.1 ((14, fun _ => Obj.cells #[.int .i64 x.t.kind, .string x.t.name, .int .i64 x.t.sort, .slice xa x.t.kids.length xc, .int .i64 x.r, .slice xk x.ks.length xkc] 67) : Nat × (Ghs → Obj)) (by simp)
 obtain ⟨hb, hbo⟩ := hF2.2.1 ((15, fun _ => Obj.cells #[.int .i64 y.t.kind, .string y.t.name, .int .i64 y.t.sort, .slice ya y.t.kids.length yc, .int .i64 y.r, .slice yk y.ks.length ykc] 67) : Nat × (Ghs → Obj)) (by simp)
 simp only at ha hao hb hbo
 obtain ⟨p, hp⟩ : ∃ p, p = (g 14).n := ⟨_, rfl⟩
 obtain ⟨q, hq⟩ : ∃ q, q = (g 15).n := ⟨_, rfl⟩
 rw [← hp] at ha hao
 rw [← hq] at hb hbo
 rw [← hp, ← hq]
 obtain ⟨p0, p1, p2, p3, p4, p5⟩ := box6 ha
 obtain ⟨q0, q1, q2, q3, q4, q5⟩ := box6 hb
 have HE2 := Lib.hid hE2
 have HR : Hid (x.r = rnk l x.t.name ∧ y.r = rnk l y.t.name ∧ x.ks.length = x.t.kids.length ∧ y.ks.length = y.t.kids.length) := Lib.hid ⟨hF.grown.rank x (List.mem_of_getElem? hx), hF.grown.rank y (List.mem_of_getElem? hy), hF.grown.len x (List.mem_of_getElem? hx), hF.grown.len y (List.mem_of_getElem? hy)⟩
 clear hF2 hQ2 hE2 ha hao hb hbo hp hq hF hx hy f1 x0 x1 x2 x3 x4 x5 y0 y1 y2 y3 y4 y5 i1 i2 k1 k2 hi hk
 go_upto_region 2 with fail
 have HFCT := Lib.hid (And.intro p0 (And.intro p1 (And.intro p2 (And.intro p3 (And.intro p4 (And.intro p5 (And.intro q0 (And.intro q1 (And.intro q2 (And.intro q3 (And.intro q4 q5)))))))))))
 refine wp_region_reg 26 false (by kernel_rfl) (by kernel_rfl) ?_
 refine reg_value (fun _ => rfl) ?_ (fun g w' vs hM hE hP => ?_) ?_
 rotate_left
 · (clear hP hM; have ⟨z0, z1, z2, z3, z4, z5, z6, z7, z8, z9, z10, z11⟩ := cs_e12 hE HFCT.out; go_simp; first | done | rfl)
 refine reg_value (fun _ => rfl) ?_ (fun g w' vs hM hE hP => ?_) ?_
 rotate_left
 · (clear hP hM; have ⟨z0, z1, z2, z3, z4, z5, z6, z7, z8, z9, z10, z11⟩ := cs_e12 hE HFCT.out; go_simp; first | done | rfl)
 refine reg_value (fun _ => rfl) ?_ (fun g w' vs hM hE hP => ?_) ?_
 rotate_left
 · (clear hP hM; have ⟨z0, z1, z2, z3, z4, z5, z6, z7, z8, z9, z10, z11⟩ := cs_e12 hE HFCT.out; go_simp; first | done | rfl)
 refine reg_value (fun _ => rfl) ?_ (fun g w' vs hM hE hP => ?_) ?_
 rotate_left
 · (clear hP hM; have ⟨z0, z1, z2, z3, z4, z5, z6, z7, z8, z9, z10, z11⟩ := cs_e12 hE HFCT.out; go_simp; first | done | rfl)
 refine reg_const (fun _ => rfl) 30 ?_ (fun g w' vs hM hE hP => ?_) ?_
 rotate_left
 · (clear hP hM; have ⟨z0, z1, z2, z3, z4, z5, z6, z7, z8, z9, z10, z11⟩ := cs_e12 hE HFCT.out; go_simp; first | done | exact ⟨rfl, rfl⟩ | rfl)
 apply Exists.intro
 refine And.intro (fun g w' vs hM hE hP => ?_) ?_
 · exact cmp_any
 refine reg_value (fun _ => rfl) ?_ (fun g w' vs hM hE hP => ?_) ?_
 rotate_left
 · (clear hP hM; have ⟨z0, z1, z2, z3, z4, z5, z6, z7, z8, z9, z10, z11⟩ := cs_e12 hE HFCT.out; go_simp; first | done | rfl)
 refine reg_value (fun _ => rfl) ?_ (fun g w' vs hM hE hP => ?_) ?_
 rotate_left
 · (clear hP hM; have ⟨z0, z1, z2, z3, z4, z5, z6, z7, z8, z9, z10, z11⟩ := cs_e12 hE HFCT.out; go_simp; first | done | rfl)
 refine reg_value (fun _ => rfl) ?_ (fun g w' vs hM hE hP => ?_) ?_
 rotate_left
 · (clear hP hM; have ⟨z0, z1, z2, z3, z4, z5, z6, z7, z8, z9, z10, z11⟩ := cs_e12 hE HFCT.out; go_simp; first | done | rfl)
 refine reg_value (fun _ => rfl) ?_ (fun g w' vs hM hE hP => ?_) ?_
 rotate_left
 · (clear hP hM; have ⟨z0, z1, z2, z3, z4, z5, z6, z7, z8, z9, z10, z11⟩ := cs_e12 hE HFCT.out; go_simp; first | done | rfl)
 refine reg_value (fun _ => rfl) ?_ (fun g w' vs hM hE hP => ?_) ?_
 rotate_left
 · (clear hP hM; have ⟨z0, z1, z2, z3, z4, z5, z6, z7, z8, z9, z10, z11⟩ := cs_e12 hE HFCT.out; go_simp; first | done | rfl)
 refine reg_value (fun _ => rfl) ?_ (fun g w' vs hM hE hP => ?_) ?_
 rotate_left
 · (clear hP hM; have ⟨z0, z1, z2, z3, z4, z5, z6, z7, z8, z9, z10, z11⟩ := cs_e12 hE HFCT.out; go_simp; first | done | rfl)
 refine reg_const (fun _ => rfl) 30 ?_ (fun g w' vs hM hE hP => ?_) ?_
 rotate_left
 · (clear hP hM; have ⟨z0, z1, z2, z3, z4, z5, z6, z7, z8, z9, z10, z11⟩ := cs_e12 hE HFCT.out; go_simp; first | done | exact ⟨rfl, rfl⟩ | rfl)
 apply Exists.intro
 refine And.intro (fun g w' vs hM hE hP => ?_) ?_
 · exact cmp_any
 refine reg_value (fun _ => rfl) ?_ (fun g w' vs hM hE hP => ?_) ?_
 rotate_left
 · (clear hP hM; have ⟨z0, z1, z2, z3, z4, z5, z6, z7, z8, z9, z10, z11⟩ := cs_e12 hE HFCT.out; go_simp; first | done | rfl)
 refine reg_value (fun _ => rfl) ?_ (fun g w' vs hM hE hP => ?_) ?_
 rotate_left
 · (clear hP hM; have ⟨z0, z1, z2, z3, z4, z5, z6, z7, z8, z9, z10, z11⟩ := cs_e12 hE HFCT.out; go_simp; first | done | rfl)
 refine reg_value (fun _ => rfl) ?_ (fun g w' vs hM hE hP => ?_) ?_
 rotate_left
 · (clear hP hM; have ⟨z0, z1, z2, z3, z4, z5, z6, z7, z8, z9, z10, z11⟩ := cs_e12 hE HFCT.out; go_simp; first | done | rfl)
 refine reg_value (fun _ => rfl) ?_ (fun g w' vs hM hE hP => ?_) ?_
 rotate_left
 · (clear hP hM; have ⟨z0, z1, z2, z3, z4, z5, z6, z7, z8, z9, z10, z11⟩ := cs_e12 hE HFCT.out; go_simp; first | done | rfl)
 refine reg_value (fun _ => rfl) ?_ (fun g w' vs hM hE hP => ?_) ?_
 rotate_left
 · (clear hP hM; have ⟨z0, z1, z2, z3, z4, z5, z6, z7, z8, z9, z10, z11⟩ := cs_e12 hE HFCT.out; go_simp; first | done | rfl)
 refine reg_value (fun _ => rfl) ?_ (fun g w' vs hM hE hP => ?_) ?_
 rotate_left
 · (clear hP hM; have ⟨z0, z1, z2, z3, z4, z5, z6, z7, z8, z9, z10, z11⟩ := cs_e12 hE HFCT.out; go_simp; first | done | rfl)
 refine reg_const (fun _ => rfl) 30 ?_ (fun g w' vs hM hE hP => ?_) ?_
 rotate_left
 · (clear hP hM; have ⟨z0, z1, z2, z3, z4, z5, z6, z7, z8, z9, z10, z11⟩ := cs_e12 hE HFCT.out; go_simp; first | done | exact ⟨rfl, rfl⟩ | rfl)
 apply Exists.intro
 refine And.intro (fun g w' vs hM hE hP => ?_) ?_
 · exact cmp_any
 refine reg_value (fun _ => rfl) ?_ (fun g w' vs hM hE hP => ?_) ?_
 rotate_left
 · (clear hP hM; have ⟨z0, z1, z2, z3, z4, z5, z6, z7, z8, z9, z10, z11⟩ := cs_e12 hE HFCT.out; go_simp; first | done | rfl)
 refine reg_value (fun _ => rfl) ?_ (fun g w' vs hM hE hP => ?_) ?_
 rotate_left
 · (clear hP hM; have ⟨z0, z1, z2, z3, z4, z5, z6, z7, z8, z9, z10, z11⟩ := cs_e12 hE HFCT.out; go_simp; first | done | rfl)
 refine reg_value (fun _ => rfl) ?_ (fun g w' vs hM hE hP => ?_) ?_
 rotate_left
 · (clear hP hM; have ⟨z0, z1, z2, z3, z4, z5, z6, z7, z8, z9, z10, z11⟩ := cs_e12 hE HFCT.out; go_simp; first | done | rfl)
 refine reg_value (fun _ => rfl) ?_ (fun g w' vs hM hE hP => ?_) ?_
 rotate_left
 · (clear hP hM; have ⟨z0, z1, z2, z3, z4, z5, z6, z7, z8, z9, z10, z11⟩ := cs_e12 hE HFCT.out; go_simp; first | done | rfl)
 refine reg_value (fun _ => rfl) ?_ (fun g w' vs hM hE hP => ?_) ?_
 rotate_left
 · (clear hP hM; have ⟨z0, z1, z2, z3, z4, z5, z6, z7, z8, z9, z10, z11⟩ := cs_e12 hE HFCT.out; go_simp; first | done | rfl)
 refine reg_value (fun _ => rfl) ?_ (fun g w' vs hM hE hP => ?_) ?_
 rotate_left
 · (clear hP hM; have ⟨z0, z1, z2, z3, z4, z5, z6, z7, z8, z9, z10, z11⟩ := cs_e12 hE HFCT.out; go_simp; first | done | rfl)
 refine reg_const (fun _ => rfl) 30 ?_ (fun g w' vs hM hE hP => ?_) ?_
 rotate_left
 · (clear hP hM; have ⟨z0, z1, z2, z3, z4, z5, z6, z7, z8, z9, z10, z11⟩ := cs_e12 hE HFCT.out; go_simp; first | done | exact ⟨rfl, rfl⟩ | rfl)
 apply Exists.intro
 refine And.intro (fun g w' vs hM hE hP => ?_) ?_
 · exact cmp_any
 intro g3 w3 hE3 hF3 hQ3
 simp only [List.drop_succ_cons, List.drop_zero, Act.put, List.setIfInBounds_toArray, List.set_cons_succ, List.set_cons_zero]
 obtain ⟨gb, w4, hgb, hw4, HB4, hE4⟩ := box_new w3 (.cells #[.int .i64 (sgn x.r y.r), .int .i64 (sgn x.t.kind y.t.kind), .int .i64 (sgn x.t.sort y.t.sort), .int .i64 (sgn (x.ks.length : Int) (y.ks.length : Int))] 3)
 have HE4 := Lib.hid (HE2.out.trans (hE3.trans hE4))
 have HO := Lib.hid (or_any (ints4 HB4.out (sgn_i64 _ _) (sgn_i64 _ _) (sgn_i64 _ _) (sgn_i64 _ _)))
 clear hF3 hQ3 hE3 hE4
 go_wp2_with fail
 rw [← hgb, ← hw4]
 refine HO.out.mono ?_
 rintro e w5 ⟨rfl, hE5⟩
 have HE5 := Lib.hid (HE4.out.trans hE5)
 clear hE5
 go_wp2_with fail
 go_ret
 refine ⟨?_, HE5.out⟩
 unfold strong
 rw [← HR.out.1, ← HR.out.2.1, ← HR.out.2.2.1, ← HR.out.2.2.2]
 have key : ∀ a b c d : Int, orL [a, b, c, d] = orE a (orE b (orE c d)) := by
  intro a b c d
  simp only [orL, orE]
  (repeat' split) <;> first | rfl | omega | simp_all
 rw [key]
 rfl

end Go.Proofs.YtkobikdkbpdjeaaDoor
