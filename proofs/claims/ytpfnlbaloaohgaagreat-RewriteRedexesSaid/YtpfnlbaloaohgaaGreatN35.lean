/- Contracts: equal joins. -/
import Derived.Test.YtpfnlbaloaohgaaGreatN34
import Derived.Test.YtpfnlbaloaohgaaGreatN30
namespace Go.Proofs.YtpfnlbaloaohgaaGreat
open Go Go.RowKit
set_option linter.unusedVariables false
set_option linter.unusedSimpArgs false

set_option maxRecDepth 100000 in
set_option maxHeartbeats 8000000 in
theorem RSameJoin_any {w : World} {S1 S2 S3 S4 S5 S6 : Nat → Prop} {la ra ja lb rb jb : Option Addr} {lc rc jc ld rd jd : Nat} {A B D G : List Rdx} {x y : Tm} (hx6 : sizeT x ≤ 1000000) (hy6 : sizeT y ≤ 1000000)
    (hA : LsG elX w S1 (.slice la A.length lc) A) (hB : LsG elX w S2 (.slice ra B.length rc) B) (hX : TmW w S3 ja jc x) (hD : LsG elX w S4 (.slice lb D.length ld) D) (hG : LsG elX w S5 (.slice rb G.length rd) G) (hY : TmW w S6 jb jd y) :
    Calls Tryz.prog 31 #[.agg #[.slice la A.length lc, .slice ra B.length rc, .int .i64 x.kind, .string x.name, .int .i64 x.sort, .slice ja x.kids.length jc], .agg #[.slice lb D.length ld, .slice rb G.length rd, .int .i64 y.kind, .string y.name, .int .i64 y.sort, .slice jb y.kids.length jd]] w fun e w' => e = .returned (.bool (decide (A = D) && (decide (B = G) && decide (x = y)))) ∧ Ext w w' := by
  obtain ⟨-, hal, hac⟩ := hA.len
  unfold maxLen at hac
  obtain ⟨-, hbl, hbc⟩ := hB.len
  unfold maxLen at hbc
  obtain ⟨-, hdl, hdc⟩ := hD.len
  unfold maxLen at hdc
  obtain ⟨-, hgl, hgc⟩ := hG.len
  unfold maxLen at hgc
  have hxl := hX.len
  have hxc := hX.cap
  unfold maxLen at hxc
  have hyl := hY.len
  have hyc := hY.cap
  unfold maxLen at hyc
  obtain ⟨bx, hbx⟩ : ∃ zz9, zz9 = w.heap.size := ⟨_, rfl⟩
  obtain ⟨w1, hw1⟩ : ∃ zz9, zz9 = w.alloc (.cells #[.slice la A.length lc, .slice ra B.length rc, .int .i64 x.kind, .string x.name, .int .i64 x.sort, .slice ja x.kids.length jc] 48) := ⟨_, rfl⟩
  have hE1 : Ext w w1 := by rw [hw1]; exact Ext.alloc _ _
  have hs1 : w1.heap.size = bx + 1 := by rw [hw1, hbx, World.size_alloc]
  have hb1 : w1.heap[bx]? = some (.cells #[.slice la A.length lc, .slice ra B.length rc, .int .i64 x.kind, .string x.name, .int .i64 x.sort, .slice ja x.kids.length jc] 48) := by rw [hw1, hbx]; exact hs_new
  obtain ⟨cx, hcx⟩ : ∃ zz9, zz9 = bx + 1 := ⟨_, rfl⟩
  obtain ⟨w2, hw2⟩ : ∃ zz9, zz9 = w1.alloc (.cells #[.slice lb D.length ld, .slice rb G.length rd, .int .i64 y.kind, .string y.name, .int .i64 y.sort, .slice jb y.kids.length jd] 48) := ⟨_, rfl⟩
  have hE2 : Ext w1 w2 := by rw [hw2]; exact Ext.alloc _ _
  have hc2 : w2.heap[cx]? = some (.cells #[.slice lb D.length ld, .slice rb G.length rd, .int .i64 y.kind, .string y.name, .int .i64 y.sort, .slice jb y.kids.length jd] 48) := by rw [hw2, hcx, ← hs1]; exact hs_new
  have hb2 := hs_ext hE2 hb1
  have b0 : w2.cell? ⟨bx, 0, none⟩ = some (.slice la A.length lc) := by rw [cellc hb2]; rfl
  have b1 : w2.cell? ⟨bx, 1, none⟩ = some (.slice ra B.length rc) := by rw [cellc hb2]; rfl
  have b2 : w2.cell? ⟨bx, 2, none⟩ = some (.int .i64 x.kind) := by rw [cellc hb2]; rfl
  have b3 : w2.cell? ⟨bx, 3, none⟩ = some (.string x.name) := by rw [cellc hb2]; rfl
  have b4 : w2.cell? ⟨bx, 4, none⟩ = some (.int .i64 x.sort) := by rw [cellc hb2]; rfl
  have b5 : w2.cell? ⟨bx, 5, none⟩ = some (.slice ja x.kids.length jc) := by rw [cellc hb2]; rfl
  have c0 : w2.cell? ⟨cx, 0, none⟩ = some (.slice lb D.length ld) := by rw [cellc hc2]; rfl
  have c1 : w2.cell? ⟨cx, 1, none⟩ = some (.slice rb G.length rd) := by rw [cellc hc2]; rfl
  have c2 : w2.cell? ⟨cx, 2, none⟩ = some (.int .i64 y.kind) := by rw [cellc hc2]; rfl
  have c3 : w2.cell? ⟨cx, 3, none⟩ = some (.string y.name) := by rw [cellc hc2]; rfl
  have c4 : w2.cell? ⟨cx, 4, none⟩ = some (.int .i64 y.sort) := by rw [cellc hc2]; rfl
  have c5 : w2.cell? ⟨cx, 5, none⟩ = some (.slice jb y.kids.length jd) := by rw [cellc hc2]; rfl
  have hE := hE1.trans hE2
  have HE := Lib.hid hE
  have HC1 := Lib.hid (RSameTrace_any (hA.ext hE) (hD.ext hE))
  have HC2 := Lib.hid (fun (w' : World) (h : Ext w2 w') => RSameTrace_any (w := w') ((hB.ext hE).ext h) ((hG.ext hE).ext h))
  have HC3 := Lib.hid (fun (w' : World) (h : Ext w2 w') => RSame_any (w := w') hx6 hy6 ((hX.ext hE).ext h) ((hY.ext hE).ext h))
  obtain ⟨p, hp⟩ : ∃ p, p = decide (A = D) := ⟨_, rfl⟩
  obtain ⟨q, hq⟩ : ∃ q, q = decide (B = G) := ⟨_, rfl⟩
  obtain ⟨r, hr⟩ : ∃ r, r = decide (x = y) := ⟨_, rfl⟩
  rw [← hp] at HC1 ⊢
  rw [← hq] at HC2 ⊢
  rw [← hr] at HC3 ⊢
  clear hA hB hX hD hG hY hE hE1 hE2 hs1 hb1 hb2 hc2 hp hq hr
  go_enter Tryz.func31, Tryz.ntmps31
  go_upto_region 1 with fail
  rw [← hw1, ← hbx, ← hw2]
  try rw [← hcx]
  clear hw1 hbx hw2 hcx
  go_wp2_with fail
  refine HC1.out.mono ?_
  rintro e w3 ⟨rfl, hE3⟩
  have HE3 := Lib.hid hE3
  have b1 := cs_ext hE3 b1
  have b2 := cs_ext hE3 b2
  have b3 := cs_ext hE3 b3
  have b4 := cs_ext hE3 b4
  have b5 := cs_ext hE3 b5
  have c1 := cs_ext hE3 c1
  have c2 := cs_ext hE3 c2
  have c3 := cs_ext hE3 c3
  have c4 := cs_ext hE3 c4
  have c5 := cs_ext hE3 c5
  clear hE3
  cases p with
  | false =>
    go_wp2_with fail
    go_ret
    exact ⟨rfl, HE.out.trans HE3.out⟩
  | true =>
    go_wp2_with fail
    refine (HC2.out w3 HE3.out).mono ?_
    rintro e w4 ⟨rfl, hE4⟩
    have HE4 := Lib.hid (HE3.out.trans hE4)
    have b2 := cs_ext hE4 b2
    have b3 := cs_ext hE4 b3
    have b4 := cs_ext hE4 b4
    have b5 := cs_ext hE4 b5
    have c2 := cs_ext hE4 c2
    have c3 := cs_ext hE4 c3
    have c4 := cs_ext hE4 c4
    have c5 := cs_ext hE4 c5
    clear hE4
    cases q with
    | false =>
      go_wp2_with fail
      go_ret
      exact ⟨rfl, HE.out.trans HE4.out⟩
    | true =>
      go_wp2_with fail
      refine (HC3.out w4 HE4.out).mono ?_
      rintro e w5 ⟨rfl, hE5⟩
      have HE5 := Lib.hid (HE.out.trans (HE4.out.trans hE5))
      clear hE5
      go_wp2_with fail
      go_ret
      exact ⟨by first | rfl | (simp only [Bool.true_and]; rfl), HE5.out⟩

end Go.Proofs.YtpfnlbaloaohgaaGreat
