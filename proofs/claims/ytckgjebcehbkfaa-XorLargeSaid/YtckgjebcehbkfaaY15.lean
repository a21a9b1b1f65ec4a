/- Contracts: the chapter's examples. -/
import Derived.Test.YtckgjebcehbkfaaG12
import Derived.Test.YtckgjebcehbkfaaG8
import Derived.Test.YtckgjebcehbkfaaG7
namespace Go.Proofs.Ytckgjebcehbkfaa
open Go Go.RowKit
set_option linter.unusedVariables false
set_option linter.unusedSimpArgs false

def tmA : Tm := atomTm ⟨#[97]⟩
def tmB : Tm := atomTm ⟨#[98]⟩
def tmC : Tm := atomTm ⟨#[99]⟩
theorem hs_new1 {w : World} {o o' : Obj} : ((w.alloc o).alloc o').heap[w.heap.size + 1]? = some o' := by
  have h := hs_new (w := w.alloc o) (o := o')
  rw [World.size_alloc] at h
  exact h
theorem heap_set4 {w : World} {q : Nat} {a b c d x y z u : Value} {T : TypeId} (h : w.heap[q]? = some (.cells #[a, b, c, d] T)) : ((((w.setCell ⟨q, 0, none⟩ x).setCell ⟨q, 1, none⟩ y).setCell ⟨q, 2, none⟩ z).setCell ⟨q, 3, none⟩ u).heap[q]? = some (.cells #[x, y, z, u] T) := by
  have h0 := heap_setCell_same w q 0 _ _ x h
  have h1 := heap_setCell_same _ q 1 _ _ y h0
  have h2 := heap_setCell_same _ q 2 _ _ z h1
  have h3 := heap_setCell_same _ q 3 _ _ u h2
  rw [h3]; simp
theorem ext_set4 {W w : World} {q : Nat} {x y z u : Value} (h : Ext W w) (hq : W.heap.size ≤ q) : Ext W ((((w.setCell ⟨q, 0, none⟩ x).setCell ⟨q, 1, none⟩ y).setCell ⟨q, 2, none⟩ z).setCell ⟨q, 3, none⟩ u) :=
  (((h.setCell hq x).setCell hq y).setCell hq z).setCell hq u
theorem tm_set4 {w : World} {q cap : Nat} {k : Option Addr} {x y z u : Value} {t : Tm} (h : TmW w (fun c => c ≠ q) k cap t) : TmW ((((w.setCell ⟨q, 0, none⟩ x).setCell ⟨q, 1, none⟩ y).setCell ⟨q, 2, none⟩ z).setCell ⟨q, 3, none⟩ u) Any k cap t :=
  h.keep (fun c hc _ => by
    rw [heap_setCell_other _ _ _ _ (by exact hc), heap_setCell_other _ _ _ _ (by exact hc), heap_setCell_other _ _ _ _ (by exact hc), heap_setCell_other _ _ _ _ (by exact hc)]) (fun _ _ _ => trivial)
theorem two_ints {w : World} {fb : Nat} {x y : Int} (hb : w.heap[fb]? = some (.cells #[.int .i64 x, .int .i64 y] 3)) (hx : I64 x := by unfold I64; omega) (hy : I64 y := by unfold I64; omega) : LsI w (.slice (some ⟨fb, 0, none⟩) 2 2) [x, y] :=
  ⟨_, 2, rfl, by simp, by unfold maxLen; omega, fun i z hi => ⟨fb, 0, rfl, by
    match i, hi with
    | 0, hi => cases hi; rw [cellc hb]; rfl
    | 1, hi => cases hi; rw [cellc hb]; rfl⟩, fun z hz => by simp at hz; rcases hz with rfl | rfl <;> assumption⟩
/-- a block of terms reads as their list -/
theorem cells_ls {w : World} {S : Nat → Prop} {fb : Nat} {cs : Array Value} {E : List TE} (hb : w.heap[fb]? = some (.cells cs 24)) (he : cs = (E.flatMap encE).toArray) (hm : E.length ≤ 1000) (hT : ∀ e ∈ E, TmW w S e.a e.cap e.t) : LsT w S (.slice (some ⟨fb, 0, none⟩) E.length E.length) (E.map (·.t)) := by
  have hl := flatE_len encE_len E
  have h : OwnT w 0 S (.slice (some ⟨fb, 0, none⟩) E.length E.length) (E.map (·.t)) :=
    ⟨E, rfl, ⟨hl, .inr ⟨fb, E.length, cs, rfl, Nat.zero_le _, hb, Nat.le_refl _, by unfold maxLen; omega, by rw [he, List.size_toArray, hl], by rw [he, List.take_of_length_le (by simp only [hl]; omega)]⟩⟩, hT⟩
  exact h.ls
theorem tm_atom {w : World} {S : Nat → Prop} {n : ByteArray} (hn : n.size ≤ maxLen) : TmW w S none 0 (atomTm n) := tm_nil (by unfold I64; omega) (by unfold I64; omega) hn
theorem tmA_w {w : World} {S : Nat → Prop} : TmW w S none 0 tmA := tm_atom (by unfold maxLen; decide)
theorem tmB_w {w : World} {S : Nat → Prop} : TmW w S none 0 tmB := tm_atom (by unfold maxLen; decide)
theorem tmC_w {w : World} {S : Nat → Prop} : TmW w S none 0 tmC := tm_atom (by unfold maxLen; decide)
def eA : TE := ⟨tmA, none, 0⟩
def eB : TE := ⟨tmB, none, 0⟩
def eC : TE := ⟨tmC, none, 0⟩
theorem App2_any {w : World} {fb : Nat} {cs : Array Value} {s t : TE} (hb : w.heap[fb]? = some (.cells cs 24)) (he : cs = ([s, t].flatMap encE).toArray) (hs : TmW w Any s.a s.cap s.t) (ht : TmW w Any t.a t.cap t.t) :
    Calls Try.prog 23 #[.string ⟨#[120, 111, 114]⟩, .slice (some ⟨fb, 0, none⟩) 2 2] w fun e w' => ∃ u, e = .returned u ∧ Ext w w' ∧ IsT w' u (appTm xorN [s.t, t.t]) := by
  have h := cells_ls hb he (by simp) (S := Any) (fun e he => by
    simp at he
    rcases he with rfl | rfl
    · exact hs
    · exact ht)
  refine (App_any (n := xorN) (L := [s.t, t.t]) (by unfold maxLen; decide) (by simp) h).mono ?_
  rintro e w' ⟨u, h1, h2, h3⟩
  exact ⟨u, h1, h2, h3.any⟩

def tmAB : Tm := appTm xorN [eA.t, eB.t]
def tmBC : Tm := appTm xorN [eB.t, eC.t]
def tmAC : Tm := appTm xorN [eA.t, eC.t]
theorem okC_two {C : List Int} (h : okC 2 C) : C = [] ∨ C = [0] ∨ C = [1] ∨ C = [0, 1] := by
  have e := okC_eq h
  have e2 : sel (fun i => decide ((i : Int) ∈ C)) 2 = (if decide (((0 : Nat) : Int) ∈ C) then [0] else []) ++ (if decide (((1 : Nat) : Int) ∈ C) then [1] else []) := by
    rw [sel_succ, sel_succ]
    simp [sel]
  rw [e2] at e
  by_cases h0 : ((0 : Nat) : Int) ∈ C <;> by_cases h1 : ((1 : Nat) : Int) ∈ C
  · rw [decide_eq_true h0, decide_eq_true h1] at e; exact .inr (.inr (.inr e))
  · rw [decide_eq_true h0, decide_eq_false h1] at e; exact .inr (.inl e)
  · rw [decide_eq_false h0, decide_eq_true h1] at e; exact .inr (.inr (.inl e))
  · rw [decide_eq_false h0, decide_eq_false h1] at e; exact .inl e
theorem awake_span1 {C : List Int} {er : Int} (h : SpanR [tmAB, tmBC] tmAC C er) : er = 0 ∧ C = [0, 1] := by
  have hr : rightS [tmAB, tmBC] [tmAC] = 0 := by decide +kernel
  have hs := (chkS_span (L := [tmAB, tmBC]) (t := tmAC) (C := [0, 1]) (by decide +kernel)).2
  rcases h with ⟨h, -⟩ | ⟨-, ⟨-, h1, h2⟩ | ⟨h, -⟩⟩
  · exact absurd hr h
  · refine ⟨h1, ?_⟩
    have h3 : okC 2 C := by
      unfold chkS at h2
      simp only [Bool.and_eq_true, decide_eq_true_eq] at h2
      exact h2.1.2
    rcases okC_two h3 with rfl | rfl | rfl | rfl
    · exact absurd h2 (by decide +kernel)
    · exact absurd h2 (by decide +kernel)
    · exact absurd h2 (by decide +kernel)
    · rfl
  · exact absurd hs h
theorem awake_span2 {C : List Int} {er : Int} (h : SpanR [tmAB, tmBC] tmA C er) : er = 4 := by
  have hr : rightS [tmAB, tmBC] [tmA] = 0 := by decide +kernel
  rcases h with ⟨h, -⟩ | ⟨-, ⟨-, h1, h2⟩ | ⟨-, h, -⟩⟩
  · exact absurd hr h
  · have h3 : okC 2 C := by
      unfold chkS at h2
      simp only [Bool.and_eq_true, decide_eq_true_eq] at h2
      exact h2.1.2
    rcases okC_two h3 with rfl | rfl | rfl | rfl <;> exact absurd h2 (by decide +kernel)
  · exact h

set_option maxRecDepth 100000 in
set_option maxHeartbeats 4000000 in
theorem awake_any (w : World) :
    Calls Try.prog 12 #[] w fun e w' => e = .returned (.bool true) ∧ Ext w w' := by
  have hA := fun (w : World) => Atom_any (w := w) (n := ⟨#[97]⟩) (k := 0) (by unfold maxLen; decide) (by unfold I64; omega)
  have hB := fun (w : World) => Atom_any (w := w) (n := ⟨#[98]⟩) (k := 0) (by unfold maxLen; decide) (by unfold I64; omega)
  have hC := fun (w : World) => Atom_any (w := w) (n := ⟨#[99]⟩) (k := 0) (by unfold maxLen; decide) (by unfold I64; omega)
  have HA := Lib.hid hA
  have HB := Lib.hid hB
  have HC := Lib.hid hC
  clear hA hB hC
  go_enter Try.func12, Try.ntmps12
  go_wp2_with fail
  refine (HA.out _).mono ?_
  rintro e w1 ⟨rfl, hE1⟩
  go_wp2_with fail
  refine (HB.out _).mono ?_
  rintro e w2 ⟨rfl, hE2⟩
  go_wp2_with fail
  refine (HC.out _).mono ?_
  rintro e w3 ⟨rfl, hE3⟩
  go_upto_region 2 with fail
  obtain ⟨w4, hw4⟩ : ∃ w4, w4 = (((w3.alloc (.cells #[.int .i64 2, .string ⟨#[97]⟩, .int .i64 0, .slice none 0 0] 24)).alloc (.cells #[.int .i64 2, .string ⟨#[98]⟩, .int .i64 0, .slice none 0 0] 24)).alloc (.cells #[.int .i64 2, .string ⟨#[99]⟩, .int .i64 0, .slice none 0 0] 24)) := ⟨_, rfl⟩
  obtain ⟨p1, hp1⟩ : ∃ p, p = w3.heap.size := ⟨_, rfl⟩
  obtain ⟨p2, hp2⟩ : ∃ p, p = w3.heap.size + 1 := ⟨_, rfl⟩
  obtain ⟨p3, hp3⟩ : ∃ p, p = w3.heap.size + 1 + 1 := ⟨_, rfl⟩
  have h1 : w4.heap[p1]? = some (.cells #[.int .i64 2, .string ⟨#[97]⟩, .int .i64 0, .slice none 0 0] 24) := by rw [hw4, hp1]; exact hs_al (hs_al hs_new)
  have h2 : w4.heap[p2]? = some (.cells #[.int .i64 2, .string ⟨#[98]⟩, .int .i64 0, .slice none 0 0] 24) := by
    rw [hw4, hp2]
    have h := hs_new (w := w3.alloc (.cells #[.int .i64 2, .string ⟨#[97]⟩, .int .i64 0, .slice none 0 0] 24)) (o := .cells #[.int .i64 2, .string ⟨#[98]⟩, .int .i64 0, .slice none 0 0] 24)
    rw [World.size_alloc] at h
    exact hs_al h
  have h3 : w4.heap[p3]? = some (.cells #[.int .i64 2, .string ⟨#[99]⟩, .int .i64 0, .slice none 0 0] 24) := by
    rw [hw4, hp3]
    have h := hs_new (w := (w3.alloc (.cells #[.int .i64 2, .string ⟨#[97]⟩, .int .i64 0, .slice none 0 0] 24)).alloc (.cells #[.int .i64 2, .string ⟨#[98]⟩, .int .i64 0, .slice none 0 0] 24)) (o := .cells #[.int .i64 2, .string ⟨#[99]⟩, .int .i64 0, .slice none 0 0] 24)
    rw [World.size_alloc, World.size_alloc] at h
    exact h
  have HE4 : Hid (Ext w w4) := Lib.hid (by rw [hw4]; exact (((hE1.trans (hE2.trans hE3)).then_al _).then_al _).then_al _)
  rw [← hw4, ← hp3, ← hp2, ← hp1]
  clear hw4 hp1 hp2 hp3 hE1 hE2 hE3
  have HP1 := Lib.hid h1
  have HP2 := Lib.hid h2
  have HP3 := Lib.hid h3
  have a0 : w4.cell? ⟨p1, 0, none⟩ = some (.int .i64 2) := by rw [cellc h1]; rfl
  have a1 : w4.cell? ⟨p1, 1, none⟩ = some (.string ⟨#[97]⟩) := by rw [cellc h1]; rfl
  have a2 : w4.cell? ⟨p1, 2, none⟩ = some (.int .i64 0) := by rw [cellc h1]; rfl
  have a3 : w4.cell? ⟨p1, 3, none⟩ = some (.slice none 0 0) := by rw [cellc h1]; rfl
  have b0 : w4.cell? ⟨p2, 0, none⟩ = some (.int .i64 2) := by rw [cellc h2]; rfl
  have b1 : w4.cell? ⟨p2, 1, none⟩ = some (.string ⟨#[98]⟩) := by rw [cellc h2]; rfl
  have b2 : w4.cell? ⟨p2, 2, none⟩ = some (.int .i64 0) := by rw [cellc h2]; rfl
  have b3 : w4.cell? ⟨p2, 3, none⟩ = some (.slice none 0 0) := by rw [cellc h2]; rfl
  have c0 : w4.cell? ⟨p3, 0, none⟩ = some (.int .i64 2) := by rw [cellc h3]; rfl
  have c1 : w4.cell? ⟨p3, 1, none⟩ = some (.string ⟨#[99]⟩) := by rw [cellc h3]; rfl
  have c2 : w4.cell? ⟨p3, 2, none⟩ = some (.int .i64 0) := by rw [cellc h3]; rfl
  have c3 : w4.cell? ⟨p3, 3, none⟩ = some (.slice none 0 0) := by rw [cellc h3]; rfl
  clear h1 h2 h3
  have HCON := Lib.hid (App2_any (w := w4.alloc (.cells #[.int .i64 2, .string ⟨#[97]⟩, .int .i64 0, .slice none 0 0, .int .i64 2, .string ⟨#[99]⟩, .int .i64 0, .slice none 0 0] 24)) (s := eA) (t := eC) hs_new rfl tmA_w tmC_w)
  obtain ⟨tAC, hAC⟩ : ∃ t, t = appTm xorN [eA.t, eC.t] := ⟨_, rfl⟩
  rw [← hAC] at HCON
  have HAC := Lib.hid hAC
  clear hAC
  go_wp2_with fail
  refine HCON.out.mono ?_
  rintro e w5 ⟨u, rfl, hE5, aca, acc, rfl, hT5⟩
  have hE5 := (Ext.alloc w4 _).trans hE5
  go_upto_region 3 with fail
  obtain ⟨w6, hw6⟩ : ∃ w6, w6 = w5.alloc (.cells #[.int .i64 tAC.kind, .string tAC.name, .int .i64 tAC.sort, .slice aca tAC.kids.length acc] 24) := ⟨_, rfl⟩
  obtain ⟨p4, hp4⟩ : ∃ p, p = w5.heap.size := ⟨_, rfl⟩
  have HP4 : Hid (w6.heap[p4]? = some (.cells #[.int .i64 tAC.kind, .string tAC.name, .int .i64 tAC.sort, .slice aca tAC.kids.length acc] 24)) := Lib.hid (by rw [hw6, hp4]; exact hs_new)
  have hE6 : Ext w4 w6 := by rw [hw6]; exact hE5.then_al _
  have HT4 : Hid (TmW w6 Any aca acc tAC) := Lib.hid (by rw [hw6]; exact hT5.ext (Ext.alloc _ _))
  rw [← hw6, ← hp4]
  clear hw6 hp4 hT5 hE5
  have HE6 := Lib.hid (HE4.out.trans hE6)
  have HP1 := Lib.hid (hs_ext hE6 HP1.out)
  have HP2 := Lib.hid (hs_ext hE6 HP2.out)
  have HP3 := Lib.hid (hs_ext hE6 HP3.out)
  have a0 := cs_ext hE6 a0
  have a1 := cs_ext hE6 a1
  have a2 := cs_ext hE6 a2
  have a3 := cs_ext hE6 a3
  have b0 := cs_ext hE6 b0
  have b1 := cs_ext hE6 b1
  have b2 := cs_ext hE6 b2
  have b3 := cs_ext hE6 b3
  have c0 := cs_ext hE6 c0
  have c1 := cs_ext hE6 c1
  have c2 := cs_ext hE6 c2
  have c3 := cs_ext hE6 c3
  clear hE6
  obtain ⟨tAB, hAB⟩ : ∃ t, t = appTm xorN [eA.t, eB.t] := ⟨_, rfl⟩
  obtain ⟨tBC, hBC⟩ : ∃ t, t = appTm xorN [eB.t, eC.t] := ⟨_, rfl⟩
  have HAB := Lib.hid hAB
  have HBC := Lib.hid hBC
  clear hAB hBC HP1 HP2 HP3
  refine wp_region_reg 9 false (by kernel_rfl) (by kernel_rfl) ?_
  refine reg_value (fun _ => rfl) ?_ (fun g w' vs hM hE hP => ?_) ?_
  rotate_left
  · (clear hP hM; have zz0 := cs_ext hE a0; have zz1 := cs_ext hE a1; have zz2 := cs_ext hE a2; have zz3 := cs_ext hE a3; have zz4 := cs_ext hE b0; have zz5 := cs_ext hE b1; have zz6 := cs_ext hE b2; have zz7 := cs_ext hE b3; have zz8 := cs_ext hE c0; have zz9 := cs_ext hE c1; have zz10 := cs_ext hE c2; have zz11 := cs_ext hE c3; go_simp; first | done | rfl)
  refine reg_value (fun _ => rfl) ?_ (fun g w' vs hM hE hP => ?_) ?_
  rotate_left
  · (clear hP hM; have zz0 := cs_ext hE a0; have zz1 := cs_ext hE a1; have zz2 := cs_ext hE a2; have zz3 := cs_ext hE a3; have zz4 := cs_ext hE b0; have zz5 := cs_ext hE b1; have zz6 := cs_ext hE b2; have zz7 := cs_ext hE b3; have zz8 := cs_ext hE c0; have zz9 := cs_ext hE c1; have zz10 := cs_ext hE c2; have zz11 := cs_ext hE c3; go_simp; first | done | rfl)
  refine reg_upon (fun _ => rfl) (fun v w'' => ∃ fb, v = .slice (some ⟨fb, 0, none⟩) 2 2 ∧ w''.heap[fb]? = some (.cells #[.int .i64 2, .string ⟨#[97]⟩, .int .i64 0, .slice none 0 0, .int .i64 2, .string ⟨#[98]⟩, .int .i64 0, .slice none 0 0] 24)) ⟨fun u a b ⟨fb, h1, h2⟩ hE => ⟨fb, h1, hs_ext hE h2⟩, (fun h => nomatch h), (fun h => absurd rfl h)⟩ (fun g w' m hM hE hP => ?_) ?_
  · clear hM hP
    go_simp
    exact ⟨Ext.alloc _ _, _, rfl, hs_new⟩
  refine reg_call (fun _ => rfl) 23 (fun g => #[.string ⟨#[120, 111, 114]⟩, (g 2).v]) (fun g w' m hM hE hP => ?_) (fun u w'' => IsT w'' u tAB) ⟨fun u a b h hE => h.ext hE, (fun h => nomatch h), (fun h => absurd rfl h)⟩ (fun g w' m hM hE hP => ?_) ?_
  · clear hM hP
    go_simp
  · obtain ⟨fb, hv, hb⟩ := hP _ List.mem_cons_self (anc_of 3 (by kernel_rfl))
    have hv : (g 2).v = _ := hv
    rw [hv, HAB.out]
    exact App2_any hb rfl tmA_w tmB_w
  refine reg_value (fun _ => rfl) ?_ (fun g w' vs hM hE hP => ?_) ?_
  rotate_left
  · (clear hP hM; have zz0 := cs_ext hE a0; have zz1 := cs_ext hE a1; have zz2 := cs_ext hE a2; have zz3 := cs_ext hE a3; have zz4 := cs_ext hE b0; have zz5 := cs_ext hE b1; have zz6 := cs_ext hE b2; have zz7 := cs_ext hE b3; have zz8 := cs_ext hE c0; have zz9 := cs_ext hE c1; have zz10 := cs_ext hE c2; have zz11 := cs_ext hE c3; go_simp; first | done | rfl)
  refine reg_value (fun _ => rfl) ?_ (fun g w' vs hM hE hP => ?_) ?_
  rotate_left
  · (clear hP hM; have zz0 := cs_ext hE a0; have zz1 := cs_ext hE a1; have zz2 := cs_ext hE a2; have zz3 := cs_ext hE a3; have zz4 := cs_ext hE b0; have zz5 := cs_ext hE b1; have zz6 := cs_ext hE b2; have zz7 := cs_ext hE b3; have zz8 := cs_ext hE c0; have zz9 := cs_ext hE c1; have zz10 := cs_ext hE c2; have zz11 := cs_ext hE c3; go_simp; first | done | rfl)
  refine reg_upon (fun _ => rfl) (fun v w'' => ∃ fb, v = .slice (some ⟨fb, 0, none⟩) 2 2 ∧ w''.heap[fb]? = some (.cells #[.int .i64 2, .string ⟨#[98]⟩, .int .i64 0, .slice none 0 0, .int .i64 2, .string ⟨#[99]⟩, .int .i64 0, .slice none 0 0] 24)) ⟨fun u a b ⟨fb, h1, h2⟩ hE => ⟨fb, h1, hs_ext hE h2⟩, (fun h => nomatch h), (fun h => absurd rfl h)⟩ (fun g w' m hM hE hP => ?_) ?_
  · clear hM hP
    go_simp
    exact ⟨Ext.alloc _ _, _, rfl, hs_new⟩
  refine reg_call (fun _ => rfl) 23 (fun g => #[.string ⟨#[120, 111, 114]⟩, (g 6).v]) (fun g w' m hM hE hP => ?_) (fun u w'' => IsT w'' u tBC) ⟨fun u a b h hE => h.ext hE, (fun h => nomatch h), (fun h => absurd rfl h)⟩ (fun g w' m hM hE hP => ?_) ?_
  · clear hM hP
    go_simp
  · obtain ⟨fb, hv, hb⟩ := hP _ List.mem_cons_self (anc_of 3 (by kernel_rfl))
    have hv : (g 6).v = _ := hv
    rw [hv, HBC.out]
    exact App2_any hb rfl tmB_w tmC_w
  refine reg_fresh (fun _ => rfl) (fun n => .slice (some ⟨n, 0, none⟩) 2 2) (fun g => .cells (aggC (g 3).v ++ aggC (g 7).v) 24) (fun g w' m hM hE hP => ?_) ?_
  · obtain ⟨ua, uc, hu, -⟩ := hP _ (List.mem_cons_of_mem _ (List.mem_cons_of_mem _ List.mem_cons_self)) (anc_of 3 (by kernel_rfl))
    obtain ⟨va, vc, hv, -⟩ := hP _ List.mem_cons_self (anc_of 3 (by kernel_rfl))
    have hu : (g 3).v = _ := hu
    have hv : (g 7).v = _ := hv
    clear hP hM
    go_simp
    first | done | simp [aggC, hu, hv]
  intro g w7 hE7 hF hQ
  simp only [List.drop_succ_cons, List.drop_zero, Act.put, List.setIfInBounds_toArray, List.set_cons_succ, List.set_cons_zero]
  obtain ⟨ua, uc, hu, hTu⟩ := hQ _ (List.mem_cons_of_mem _ (List.mem_cons_of_mem _ List.mem_cons_self))
  obtain ⟨va, vc, hv, hTv⟩ := hQ _ List.mem_cons_self
  have hu : (g 3).v = _ := hu
  have hv : (g 7).v = _ := hv
  have hf := (hF.2.1 _ List.mem_cons_self).1
  have hf : w7.heap[(g 8).n]? = some (.cells (aggC (g 3).v ++ aggC (g 7).v) 24) := hf
  rw [hu, hv] at hf
  obtain ⟨lb, hlb⟩ : ∃ lb, lb = (g 8).n := ⟨_, rfl⟩
  rw [← hlb] at hf
  rw [← hlb, hu, hv]
  have hf : w7.heap[lb]? = some (.cells #[.int .i64 tAB.kind, .string tAB.name, .int .i64 tAB.sort, .slice ua tAB.kids.length uc, .int .i64 tBC.kind, .string tBC.name, .int .i64 tBC.sort, .slice va tBC.kids.length vc] 24) := hf
  have HLB := Lib.hid hf
  have HTU := Lib.hid hTu
  have HTV := Lib.hid hTv
  have HP4 := Lib.hid (hs_ext hE7 HP4.out)
  have HT4 := Lib.hid (HT4.out.ext hE7)
  have a0 := cs_ext hE7 a0
  have a1 := cs_ext hE7 a1
  have a2 := cs_ext hE7 a2
  have a3 := cs_ext hE7 a3
  have b0 := cs_ext hE7 b0
  have b1 := cs_ext hE7 b1
  have b2 := cs_ext hE7 b2
  have b3 := cs_ext hE7 b3
  have c0 := cs_ext hE7 c0
  have c1 := cs_ext hE7 c1
  have c2 := cs_ext hE7 c2
  have c3 := cs_ext hE7 c3
  have HE7 := Lib.hid (HE6.out.trans hE7)
  have d0 : w7.cell? ⟨lb, 4, none⟩ = some (.int .i64 tBC.kind) := by rw [cellc hf]; rfl
  have d1 : w7.cell? ⟨lb, 5, none⟩ = some (.string tBC.name) := by rw [cellc hf]; rfl
  have d2 : w7.cell? ⟨lb, 6, none⟩ = some (.int .i64 tBC.sort) := by rw [cellc hf]; rfl
  have d3 : w7.cell? ⟨lb, 7, none⟩ = some (.slice va tBC.kids.length vc) := by rw [cellc hf]; rfl
  clear hf hu hv hTu hTv hlb hQ hF hE7
  have hsum : ∀ (w' : World) (fb : Nat), Ext w7 w' → w'.heap[fb]? = some (.cells #[.int .i64 2, .string ⟨#[97]⟩, .int .i64 0, .slice none 0 0, .int .i64 2, .string ⟨#[98]⟩, .int .i64 0, .slice none 0 0, .int .i64 tBC.kind, .string tBC.name, .int .i64 tBC.sort, .slice va tBC.kids.length vc] 24) →
      Calls Try.prog 24 #[.slice (some ⟨fb, 0, none⟩) 3 3] w' fun e w'' => ∃ u, e = .returned (.tuple #[u, .int .i64 0]) ∧ Ext w' w'' ∧ IsS w'' (fun c => w'.heap.size ≤ c) u tAC := by
    intro w' fb hE hb
    have h := cells_ls (S := Any) (E := [eA, eB, ⟨tBC, va, vc⟩]) hb rfl (by simp) (fun e he => by
      simp at he
      rcases he with rfl | rfl | rfl
      · exact tmA_w
      · exact tmB_w
      · exact HTV.out.ext hE)
    have e1 : errSum [eA.t, eB.t, tBC] = 0 ∧ sumR [eA.t, eB.t, tBC] = tAC ∧ sizeL [eA.t, eB.t, tBC] ≤ 80000 := by
      rw [HBC.out, HAC.out]
      exact ⟨by decide +kernel, by decide +kernel, by decide +kernel⟩
    refine (PSum_any (w := w') (L := [eA.t, eB.t, tBC]) e1.2.2 h).mono ?_
    rintro e w'' ⟨u, h1, h2, h3⟩
    rw [e1.1] at h1
    rw [e1.2.1] at h3
    exact ⟨u, h1, h2, h3⟩
  have HSUM := Lib.hid hsum
  clear hsum
  go_upto_region 4 with fail
  go_cut [6, 7] from 31 to 39 (fun v6 v7 wx => ∃ pb sa sc, v6 = .pointer (some ⟨pb, 0, none⟩) ∧ v7 = .int .i64 0 ∧ Ext w7 wx ∧ wx.heap[pb]? = some (.cells #[.int .i64 tAC.kind, .string tAC.name, .int .i64 tAC.sort, .slice sa tAC.kids.length sc] 24) ∧ TmW wx Any sa sc tAC)
  case first =>
    have a0 : w7.drew.cell? ⟨p1, 0, none⟩ = _ := a0
    have a1 : w7.drew.cell? ⟨p1, 1, none⟩ = _ := a1
    have a2 : w7.drew.cell? ⟨p1, 2, none⟩ = _ := a2
    have a3 : w7.drew.cell? ⟨p1, 3, none⟩ = _ := a3
    have b0 : w7.drew.cell? ⟨p2, 0, none⟩ = _ := b0
    have b1 : w7.drew.cell? ⟨p2, 1, none⟩ = _ := b1
    have b2 : w7.drew.cell? ⟨p2, 2, none⟩ = _ := b2
    have b3 : w7.drew.cell? ⟨p2, 3, none⟩ = _ := b3
    have d0 : w7.drew.cell? ⟨lb, 4, none⟩ = _ := d0
    have d1 : w7.drew.cell? ⟨lb, 5, none⟩ = _ := d1
    have d2 : w7.drew.cell? ⟨lb, 6, none⟩ = _ := d2
    have d3 : w7.drew.cell? ⟨lb, 7, none⟩ = _ := d3
    have a0z : (w7.alloc (.cells #[.int .i64 0, .string ⟨#[]⟩, .int .i64 0, .slice none 0 0] 24)).drew.cell? _ = _ := cs_al a0
    have a1z : (w7.alloc (.cells #[.int .i64 0, .string ⟨#[]⟩, .int .i64 0, .slice none 0 0] 24)).drew.cell? _ = _ := cs_al a1
    have a2z : (w7.alloc (.cells #[.int .i64 0, .string ⟨#[]⟩, .int .i64 0, .slice none 0 0] 24)).drew.cell? _ = _ := cs_al a2
    have a3z : (w7.alloc (.cells #[.int .i64 0, .string ⟨#[]⟩, .int .i64 0, .slice none 0 0] 24)).drew.cell? _ = _ := cs_al a3
    have b0z : (w7.alloc (.cells #[.int .i64 0, .string ⟨#[]⟩, .int .i64 0, .slice none 0 0] 24)).drew.cell? _ = _ := cs_al b0
    have b1z : (w7.alloc (.cells #[.int .i64 0, .string ⟨#[]⟩, .int .i64 0, .slice none 0 0] 24)).drew.cell? _ = _ := cs_al b1
    have b2z : (w7.alloc (.cells #[.int .i64 0, .string ⟨#[]⟩, .int .i64 0, .slice none 0 0] 24)).drew.cell? _ = _ := cs_al b2
    have b3z : (w7.alloc (.cells #[.int .i64 0, .string ⟨#[]⟩, .int .i64 0, .slice none 0 0] 24)).drew.cell? _ = _ := cs_al b3
    have d0z : (w7.alloc (.cells #[.int .i64 0, .string ⟨#[]⟩, .int .i64 0, .slice none 0 0] 24)).drew.cell? _ = _ := cs_al d0
    have d1z : (w7.alloc (.cells #[.int .i64 0, .string ⟨#[]⟩, .int .i64 0, .slice none 0 0] 24)).drew.cell? _ = _ := cs_al d1
    have d2z : (w7.alloc (.cells #[.int .i64 0, .string ⟨#[]⟩, .int .i64 0, .slice none 0 0] 24)).drew.cell? _ = _ := cs_al d2
    have d3z : (w7.alloc (.cells #[.int .i64 0, .string ⟨#[]⟩, .int .i64 0, .slice none 0 0] 24)).drew.cell? _ = _ := cs_al d3
    clear c0 c1 c2 c3
    go_region_law (go_simp
                   go_at_call 24
                   refine (HSUM.out _ _ (by repeat (first | exact Ext.refl _ | exact Ext.alloc _ _ | apply Ext.then_dr | apply Ext.then_drN | apply Ext.then_drN2 | (refine Ext.then_al ?_ _))) (by first | exact hs_new | exact hs_new1 | exact hs_al hs_new)).mono ?_
                   rintro e w8 ⟨u, rfl, hE8, sa, sc, rfl, hT8⟩
                   have HE8 : Hid (Ext w7 w8) := Lib.hid (Ext.trans (by repeat (first | exact Ext.refl _ | exact Ext.alloc _ _ | apply Ext.then_dr | apply Ext.then_drN | apply Ext.then_drN2 | (refine Ext.then_al ?_ _))) hE8)
                   have HT8 := Lib.hid hT8.any
                   try (have kb : w8.heap[w7.heap.size]? = some (.cells #[.int .i64 0, .string ⟨#[]⟩, .int .i64 0, .slice none 0 0] 24) := hs_ext hE8 (hs_al hs_new)
                        have k0 : w8.cell? ⟨w7.heap.size, 0, none⟩ = some (.int .i64 0) := by rw [cellc kb]; rfl
                        have k1 : w8.cell? ⟨w7.heap.size, 1, none⟩ = some (.string ⟨#[]⟩) := by rw [cellc kb]; rfl
                        have k2 : w8.cell? ⟨w7.heap.size, 2, none⟩ = some (.int .i64 0) := by rw [cellc kb]; rfl
                        have k3 : w8.cell? ⟨w7.heap.size, 3, none⟩ = some (.slice none 0 0) := by rw [cellc kb]; rfl
                        have f0 : w8.frozen? ⟨w7.heap.size, 0, none⟩ = false := frozenc kb
                        have f1 : w8.frozen? ⟨w7.heap.size, 1, none⟩ = false := frozenc kb
                        have f2 : w8.frozen? ⟨w7.heap.size, 2, none⟩ = false := frozenc kb
                        have f3 : w8.frozen? ⟨w7.heap.size, 3, none⟩ = false := frozenc kb
                        have HT9 : Hid (TmW w8 (fun c => c ≠ w7.heap.size) sa sc tAC) := Lib.hid (hT8.wide (fun c hc _ => by simp only [World.drew, World.size_alloc] at hc; omega))
                        have KB := Lib.hid kb
                        clear kb)
                   try (have kb : w8.heap[w7.heap.size + 1]? = some (.cells #[.int .i64 0, .string ⟨#[]⟩, .int .i64 0, .slice none 0 0] 24) := hs_ext hE8 hs_new1
                        have k0 : w8.cell? ⟨w7.heap.size + 1, 0, none⟩ = some (.int .i64 0) := by rw [cellc kb]; rfl
                        have k1 : w8.cell? ⟨w7.heap.size + 1, 1, none⟩ = some (.string ⟨#[]⟩) := by rw [cellc kb]; rfl
                        have k2 : w8.cell? ⟨w7.heap.size + 1, 2, none⟩ = some (.int .i64 0) := by rw [cellc kb]; rfl
                        have k3 : w8.cell? ⟨w7.heap.size + 1, 3, none⟩ = some (.slice none 0 0) := by rw [cellc kb]; rfl
                        have f0 : w8.frozen? ⟨w7.heap.size + 1, 0, none⟩ = false := frozenc kb
                        have f1 : w8.frozen? ⟨w7.heap.size + 1, 1, none⟩ = false := frozenc kb
                        have f2 : w8.frozen? ⟨w7.heap.size + 1, 2, none⟩ = false := frozenc kb
                        have f3 : w8.frozen? ⟨w7.heap.size + 1, 3, none⟩ = false := frozenc kb
                        have HT9 : Hid (TmW w8 (fun c => c ≠ w7.heap.size + 1) sa sc tAC) := Lib.hid (hT8.wide (fun c hc _ => by simp only [World.drew, World.size_alloc] at hc; omega))
                        have KB := Lib.hid kb
                        clear kb)
                   clear hT8)
    all_goals
      go_wp2_with fail
      go_meet
      first
        | exact ⟨_, _, _, rfl, rfl, HE8.out.then_al _, hs_new, HT8.out.ext (Ext.alloc _ _)⟩
        | exact ⟨_, _, _, rfl, rfl, ext_set4 HE8.out (by omega), heap_set4 KB.out, tm_set4 HT9.out⟩
  case rest =>
    obtain ⟨p6, sa, sc, rfl, rfl, hE8, h6, hT6⟩ := hcut
    have HP6 := Lib.hid h6
    have HT6 := Lib.hid hT6
    have HLB := Lib.hid (hs_ext hE8 HLB.out)
    have HTU := Lib.hid (HTU.out.ext hE8)
    have HTV := Lib.hid (HTV.out.ext hE8)
    have HP4 := Lib.hid (hs_ext hE8 HP4.out)
    have HT4 := Lib.hid (HT4.out.ext hE8)
    have HE8 := Lib.hid (HE7.out.trans hE8)
    have a0 := cs_ext hE8 a0
    have a1 := cs_ext hE8 a1
    have a2 := cs_ext hE8 a2
    have a3 := cs_ext hE8 a3
    have b0 := cs_ext hE8 b0
    have b1 := cs_ext hE8 b1
    have b2 := cs_ext hE8 b2
    have b3 := cs_ext hE8 b3
    have c0 := cs_ext hE8 c0
    have c1 := cs_ext hE8 c1
    have c2 := cs_ext hE8 c2
    have c3 := cs_ext hE8 c3
    clear hE8 h6 hT6 d0 d1 d2 d3 HSUM
    have HCON5 := Lib.hid (App2_any (w := wc.alloc (.cells #[.int .i64 2, .string ⟨#[97]⟩, .int .i64 0, .slice none 0 0, .int .i64 2, .string ⟨#[97]⟩, .int .i64 0, .slice none 0 0] 24)) (s := eA) (t := eA) hs_new rfl tmA_w tmA_w)
    obtain ⟨tAA, hAA⟩ : ∃ t, t = appTm xorN [eA.t, eA.t] := ⟨_, rfl⟩
    rw [← hAA] at HCON5
    have HAA := Lib.hid hAA
    clear hAA
    go_wp2_with fail
    refine HCON5.out.mono ?_
    rintro e w9 ⟨u, rfl, hE9, xa, xc, rfl, hT9⟩
    have hE9 := (Ext.alloc wc _).trans hE9
    have hcon := PParts_any (w := w9) (t := tAA) (by rw [HAA.out]; decide +kernel) hT9
    have ep : validT tAA = 0 ∧ partsR tAA = [] := by rw [HAA.out]; exact ⟨by decide +kernel, by decide +kernel⟩
    rw [ep.1, ep.2] at hcon
    have HCON6 := Lib.hid hcon
    have HE9 := Lib.hid hE9
    clear hcon ep hT9 hE9
    go_wp2_with fail
    refine HCON6.out.mono ?_
    rintro e w10 ⟨u, rfl, hE10, pa, pc, rfl, hpl, hpc, -⟩
    unfold maxLen at hpc
    have hE10 := HE9.out.trans hE10
    have HLB := Lib.hid (hs_ext hE10 HLB.out)
    have HTU := Lib.hid (HTU.out.ext hE10)
    have HTV := Lib.hid (HTV.out.ext hE10)
    have HT4 := Lib.hid (HT4.out.ext hE10)
    have HP4 := Lib.hid (hs_ext hE10 HP4.out)
    have HP6 := Lib.hid (hs_ext hE10 HP6.out)
    have HT6 := Lib.hid (HT6.out.ext hE10)
    have HE10 := Lib.hid (HE8.out.trans hE10)
    have a0 := cs_ext hE10 a0
    have a1 := cs_ext hE10 a1
    have a2 := cs_ext hE10 a2
    have a3 := cs_ext hE10 a3
    have b0 := cs_ext hE10 b0
    have b1 := cs_ext hE10 b1
    have b2 := cs_ext hE10 b2
    have b3 := cs_ext hE10 b3
    have c0 := cs_ext hE10 c0
    have c1 := cs_ext hE10 c1
    have c2 := cs_ext hE10 c2
    have c3 := cs_ext hE10 c3
    have e0 : w10.cell? ⟨p4, 0, none⟩ = some (.int .i64 tAC.kind) := by rw [cellc HP4.out]; rfl
    have e1 : w10.cell? ⟨p4, 1, none⟩ = some (.string tAC.name) := by rw [cellc HP4.out]; rfl
    have e2 : w10.cell? ⟨p4, 2, none⟩ = some (.int .i64 tAC.sort) := by rw [cellc HP4.out]; rfl
    have e3 : w10.cell? ⟨p4, 3, none⟩ = some (.slice aca tAC.kids.length acc) := by rw [cellc HP4.out]; rfl
    have HLS : Hid (∀ w', Ext w10 w' → LsT w' Any (.slice (some ⟨lb, 0, none⟩) [tAB, tBC].length 2) [tAB, tBC]) := Lib.hid (fun w' hE => cells_ls (S := Any) (E := [⟨tAB, ua, uc⟩, ⟨tBC, va, vc⟩]) (hs_ext hE HLB.out) rfl (by simp) (fun e he => by
      simp at he
      rcases he with rfl | rfl
      · exact HTU.out.ext hE
      · exact HTV.out.ext hE))
    have hcon := PSpan_any (w := w10) (L := [tAB, tBC]) (t := tAC) (by rw [HAB.out, HBC.out, HAC.out]; decide +kernel) (HLS.out _ (Ext.refl _)) HT4.out
    have HCON7 : Hid (Calls Try.prog 31 #[.slice (some ⟨lb, 0, none⟩) 2 2, .agg #[.int .i64 tAC.kind, .string tAC.name, .int .i64 tAC.sort, .slice aca tAC.kids.length acc]] w10 fun e w' => ∃ u er C, e = .returned (.tuple #[u, .int .i64 er]) ∧ Ext w10 w' ∧ LsI w' u C ∧ SpanR [tAB, tBC] tAC C er) := Lib.hid hcon
    clear hcon hE10
    go_wp2_with fail
    refine HCON7.out.mono ?_
    rintro e w11 ⟨u, er, C, rfl, hE11, hI11, hS⟩
    rw [HAB.out, HBC.out, HAC.out] at hS
    obtain ⟨rfl, rfl⟩ := awake_span1 hS
    obtain ⟨ia, ic, rfl, hil, hic, -⟩ := id hI11
    unfold maxLen at hic
    have HI11 := Lib.hid hI11
    have HE11 := Lib.hid hE11
    have a0 := cs_ext hE11 a0
    have a1 := cs_ext hE11 a1
    have a2 := cs_ext hE11 a2
    have a3 := cs_ext hE11 a3
    have hcon := PSpan_any (w := w11) (L := [tAB, tBC]) (t := tmA) (a' := none) (cap' := 0) (S' := Any) (by rw [HAB.out, HBC.out]; decide +kernel) (HLS.out _ HE11.out) tmA_w
    have HCON8 : Hid (Calls Try.prog 31 #[.slice (some ⟨lb, 0, none⟩) 2 2, .agg #[.int .i64 2, .string ⟨#[97]⟩, .int .i64 0, .slice none 0 0]] w11 fun e w' => ∃ u er C, e = .returned (.tuple #[u, .int .i64 er]) ∧ Ext w11 w' ∧ LsI w' u C ∧ SpanR [tAB, tBC] tmA C er) := Lib.hid hcon
    clear hcon hE11 hI11 hS
    go_wp2_with fail
    refine HCON8.out.mono ?_
    rintro e w12 ⟨u, er, C, rfl, hE12, -, hS⟩
    rw [HAB.out, HBC.out] at hS
    obtain rfl := awake_span2 hS
    have HI12 := Lib.hid (HI11.out.ext hE12)
    have hE := HE11.out.trans hE12
    have HE12 := Lib.hid hE
    have g0 : w12.cell? ⟨p4, 0, none⟩ = some (.int .i64 tAC.kind) := by rw [cellc (hs_ext hE HP4.out)]; rfl
    have g1 : w12.cell? ⟨p4, 1, none⟩ = some (.string tAC.name) := by rw [cellc (hs_ext hE HP4.out)]; rfl
    have g2 : w12.cell? ⟨p4, 2, none⟩ = some (.int .i64 tAC.sort) := by rw [cellc (hs_ext hE HP4.out)]; rfl
    have g3 : w12.cell? ⟨p4, 3, none⟩ = some (.slice aca tAC.kids.length acc) := by rw [cellc (hs_ext hE HP4.out)]; rfl
    have f0 : w12.cell? ⟨p6, 0, none⟩ = some (.int .i64 tAC.kind) := by rw [cellc (hs_ext hE HP6.out)]; rfl
    have f1 : w12.cell? ⟨p6, 1, none⟩ = some (.string tAC.name) := by rw [cellc (hs_ext hE HP6.out)]; rfl
    have f2 : w12.cell? ⟨p6, 2, none⟩ = some (.int .i64 tAC.sort) := by rw [cellc (hs_ext hE HP6.out)]; rfl
    have f3 : w12.cell? ⟨p6, 3, none⟩ = some (.slice sa tAC.kids.length sc) := by rw [cellc (hs_ext hE HP6.out)]; rfl
    have a0 := cs_ext hE12 a0
    have a1 := cs_ext hE12 a1
    have a2 := cs_ext hE12 a2
    have a3 := cs_ext hE12 a3
    have b0 := cs_ext hE b0
    have b1 := cs_ext hE b1
    have b2 := cs_ext hE b2
    have b3 := cs_ext hE b3
    have c0 := cs_ext hE c0
    have c1 := cs_ext hE c1
    have c2 := cs_ext hE c2
    have c3 := cs_ext hE c3
    have hcon := RSame_any (w := w12) (by rw [HAC.out]; decide +kernel) (by rw [HAC.out]; decide +kernel) (HT6.out.ext hE) (HT4.out.ext hE)
    rw [show decide (tAC = tAC) = true by simp] at hcon
    have HCON9 := Lib.hid hcon
    clear hcon hE hE12 hS e0 e1 e2 e3
    go_wp2_with fail
    refine HCON9.out.mono ?_
    rintro e w13 ⟨rfl, hE13⟩
    have hcon := iEqual_any (w := w13.alloc (.cells #[.int .i64 0, .int .i64 1] 3)) (A := [0, 1]) (B := [0, 1]) (HI12.out.ext (hE13.then_al _)) (a' := some ⟨w13.heap.size, 0, none⟩) (cap' := 2) (two_ints hs_new)
    have HCON10 : Hid (Calls Try.prog 30 #[.slice ia 2 ic, .slice (some ⟨w13.heap.size, 0, none⟩) 2 2] (w13.alloc (.cells #[.int .i64 0, .int .i64 1] 3)) fun e w' => e = .returned (.bool true) ∧ Ext (w13.alloc (.cells #[.int .i64 0, .int .i64 1] 3)) w') := Lib.hid hcon
    have a0 := cs_ext hE13 a0
    have a1 := cs_ext hE13 a1
    have a2 := cs_ext hE13 a2
    have a3 := cs_ext hE13 a3
    have b0 := cs_ext hE13 b0
    have b1 := cs_ext hE13 b1
    have b2 := cs_ext hE13 b2
    have b3 := cs_ext hE13 b3
    have c0 := cs_ext hE13 c0
    have c1 := cs_ext hE13 c1
    have c2 := cs_ext hE13 c2
    have c3 := cs_ext hE13 c3
    have HE13 := Lib.hid (HE12.out.trans hE13)
    clear hcon hE13 g0 g1 g2 g3 f0 f1 f2 f3
    go_wp2_with fail
    refine HCON10.out.mono ?_
    rintro e w14 ⟨rfl, hE14⟩
    have hE14 := (Ext.alloc w13 _).trans hE14
    have a0 := cs_ext hE14 a0
    have a1 := cs_ext hE14 a1
    have a2 := cs_ext hE14 a2
    have a3 := cs_ext hE14 a3
    have b0 := cs_ext hE14 b0
    have b1 := cs_ext hE14 b1
    have b2 := cs_ext hE14 b2
    have b3 := cs_ext hE14 b3
    have c0 := cs_ext hE14 c0
    have c1 := cs_ext hE14 c1
    have c2 := cs_ext hE14 c2
    have c3 := cs_ext hE14 c3
    have HE14 := Lib.hid (HE13.out.trans hE14)
    have hls := cells_ls (w := w14.alloc (.cells #[.int .i64 2, .string ⟨#[97]⟩, .int .i64 0, .slice none 0 0, .int .i64 2, .string ⟨#[98]⟩, .int .i64 0, .slice none 0 0, .int .i64 2, .string ⟨#[99]⟩, .int .i64 0, .slice none 0 0] 24)) (S := Any) (E := [eA, eB, eC]) hs_new rfl (by simp) (fun e he => by
      simp at he
      rcases he with rfl | rfl | rfl
      · exact tmA_w
      · exact tmB_w
      · exact tmC_w)
    have hcon := PCheckRefute_any (w := w14.alloc (.cells #[.int .i64 2, .string ⟨#[97]⟩, .int .i64 0, .slice none 0 0, .int .i64 2, .string ⟨#[98]⟩, .int .i64 0, .slice none 0 0, .int .i64 2, .string ⟨#[99]⟩, .int .i64 0, .slice none 0 0] 24)) (L := [tAB, tBC]) (R := [tmA, tmB, tmC]) (t := tmA) (a' := none) (cap' := 0) (S' := Any) (S'' := Any)
      (by rw [HAB.out, HBC.out]; decide +kernel) (by decide +kernel) (by decide +kernel) (by simp) (by simp) (HLS.out _ (HE14.out.then_al _)) tmA_w hls
    have ecr : crS [tAB, tBC] tmA [tmA, tmB, tmC] = true := by rw [HAB.out, HBC.out]; decide +kernel
    rw [ecr] at hcon
    have HCON11 : Hid (Calls Try.prog 18 #[.slice (some ⟨lb, 0, none⟩) 2 2, .agg #[.int .i64 2, .string ⟨#[97]⟩, .int .i64 0, .slice none 0 0], .slice (some ⟨w14.heap.size, 0, none⟩) 3 3] (w14.alloc (.cells #[.int .i64 2, .string ⟨#[97]⟩, .int .i64 0, .slice none 0 0, .int .i64 2, .string ⟨#[98]⟩, .int .i64 0, .slice none 0 0, .int .i64 2, .string ⟨#[99]⟩, .int .i64 0, .slice none 0 0] 24)) fun e w' => e = .returned (.bool true) ∧ Ext (w14.alloc (.cells #[.int .i64 2, .string ⟨#[97]⟩, .int .i64 0, .slice none 0 0, .int .i64 2, .string ⟨#[98]⟩, .int .i64 0, .slice none 0 0, .int .i64 2, .string ⟨#[99]⟩, .int .i64 0, .slice none 0 0] 24)) w') := Lib.hid hcon
    clear hcon hls ecr hE14
    go_wp2_with fail
    refine HCON11.out.mono ?_
    rintro e w15 ⟨rfl, hE15⟩
    have HE15 := Lib.hid ((HE10.out.trans (HE14.out.then_al _)).trans hE15)
    clear hE15
    go_wp2_with fail
    go_ret
    exact ⟨rfl, HE15.out⟩

end Go.Proofs.Ytckgjebcehbkfaa
