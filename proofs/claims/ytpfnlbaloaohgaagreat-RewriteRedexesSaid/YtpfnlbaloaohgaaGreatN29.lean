/- Contracts: joins. -/
import Derived.Test.YtpfnlbaloaohgaaGreatN28
namespace Go.Proofs.YtpfnlbaloaohgaaGreat
open Go Go.RowKit
set_option linter.unusedVariables false
set_option linter.unusedSimpArgs false

abbrev Jn := List Rdx × List Rdx × Tm
def zeroJ : Jn := ([], [], zeroTm)
/-- the join by normal forms -/
def joinsP (R : List Rl) (t u : Tm) (fuel : Int) : Int × Jn :=
  if (normP R t fuel).1 ≠ 0 then ((normP R t fuel).1, zeroJ) else if (normP R u fuel).1 ≠ 0 then ((normP R u fuel).1, zeroJ) else
  if cmpT (normP R t fuel).2.1 (normP R u fuel).2.1 ≠ 0 then (11, zeroJ) else (0, (normP R t fuel).2.2, (normP R u fuel).2.2, (normP R t fuel).2.1)
/-- whether a join is one of two terms -/
def checkJ (R : List Rl) (t u : Tm) (j : Jn) : Bool := traceP R t j.1 j.2.2 && traceP R u j.2.1 j.2.2
def joinV (w : World) (S : Nat → Prop) (v : Value) (j : Jn) : Prop :=
  ∃ la lc ra rc ja jc, v = .agg #[.slice la j.1.length lc, .slice ra j.2.1.length rc, .int .i64 j.2.2.kind, .string j.2.2.name, .int .i64 j.2.2.sort, .slice ja j.2.2.kids.length jc] ∧ LsG elX w S (.slice la j.1.length lc) j.1 ∧ LsG elX w S (.slice ra j.2.1.length rc) j.2.1 ∧ TmW w S ja jc j.2.2
def joinR (w : World) (S : Nat → Prop) (v : Value) (er : Int) (Q : Int × Jn) : Prop :=
  er = Q.1 ∧ (Q.1 = 0 → joinV w S v Q.2) ∧ (Q.1 ≠ 0 → v = .agg #[.slice none 0 0, .slice none 0 0, .int .i64 0, .string ⟨#[]⟩, .int .i64 0, .slice none 0 0])
theorem normF_valid {R : List Rl} : ∀ (n : Nat) (u : Tm) (T : List Rdx), validT u = 0 → (normF R n u T).1 = 0 → validT (normF R n u T).2.1 = 0
  | 0, u, T, hu, h => by
    cases hf : firstP R u with
    | none => rw [normF_none hf]; exact hu
    | some q => rw [normF_fuel hf] at h; simp at h
  | n + 1, u, T, hu, h => by
    cases hf : firstP R u with
    | none => rw [normF_none hf]; exact hu
    | some q =>
      by_cases hs : (stepP R u q).1 = 0
      · rw [normF_step hf hs (by omega), Nat.add_sub_cancel] at h ⊢
        exact normF_valid n _ _ (stepP_ok hs) h
      · rw [normF_err hf hs (by omega)] at h
        exact absurd h hs
theorem normP_valid {R : List Rl} {t : Tm} {fuel : Int} (h : (normP R t fuel).1 = 0) : validT (normP R t fuel).2.1 = 0 := by
  unfold normP at h ⊢
  split at h
  · rename_i h0; exact absurd h h0
  · rename_i h0
    split at h
    · rename_i h1
      rw [if_neg h0, if_pos h1]
      exact normF_valid _ _ _ (orE_split (Classical.not_not.1 h0)).2 h
    · simp at h

theorem sizJ : (Tryz.prog.info? 48).map (·.size) = some 6 := by kernel_rfl
theorem built_join (la ra : Option Addr) (ln lc rn rc : Nat) (k s : Int) (n : ByteArray) (ja : Option Addr) (jl jc : Nat) : Tryz.prog.built 48 [(0, .slice la ln lc), (1, .slice ra rn rc), (2, .agg #[.int .i64 k, .string n, .int .i64 s, .slice ja jl jc])] = some #[.slice la ln lc, .slice ra rn rc, .int .i64 k, .string n, .int .i64 s, .slice ja jl jc] := by kernel_rfl
theorem built_join0 : Tryz.prog.built 48 [] = some #[.slice none 0 0, .slice none 0 0, .int .i64 0, .string ⟨#[]⟩, .int .i64 0, .slice none 0 0] := by kernel_rfl
theorem wpList_storeJ {ops : Array Oper} {rest : List Oper} {o : Oper} {a : Act} {w : World} {Q : Exit → Act → World → Prop} (hgd : o.guard = none) (x y : Operand) (ho : o.op = .store 48 x y)
    {g : Nat} (hx : a.eval x = .pointer (some ⟨g, 0, none⟩)) {la ra ja : Option Addr} {ln lc rn rc jl jc : Nat} {k s : Int} {n : ByteArray} (hy : a.eval y = .agg #[.slice la ln lc, .slice ra rn rc, .int .i64 k, .string n, .int .i64 s, .slice ja jl jc])
    {old : Array Value} (hg : w.heap[g]? = some (.cells old 48)) (ho2 : old.size = 6)
    (hK : ∀ w', w'.heap[g]? = some (.cells #[.slice la ln lc, .slice ra rn rc, .int .i64 k, .string n, .int .i64 s, .slice ja jl jc] 48) → (∀ q, q ≠ g → w'.heap[q]? = w.heap[q]?) → (∀ W0, Ext W0 w → W0.heap.size ≤ g → Ext W0 w') → w'.heap.size = w.heap.size → wpList Tryz.prog ops Q rest (a.put o.dst undef) w') :
    wpList Tryz.prog ops Q (o :: rest) a w := by
  refine wpList_store_all hgd 48 x y ho g _ hx hy 48 old hg sizJ ho2 (by simp [Value.oneCell']) ?_
  exact hK _ (setRow_heap w g old _ _ _ hg) (fun q hq => setRow_other w g q _ hq) (fun W0 h hg => h.setRow hg _) (size_setRow _ _ _)
theorem ret_join2 {F : Func} {p u g : Nat} {tmps : Array Value} {w : World} {cs : Array Value} {R : Ending → World → Prop} (hr : F.results = #[.cell p 48, .tmp u]) (hp : tmps.getD p undef = .pointer (some ⟨g, 0, none⟩)) (hg : w.heap[g]? = some (.cells cs 48)) (hs : cs.size = 6) (h : R (.returned (.tuple #[.agg cs, tmps.getD u undef])) w) :
    bodyPost Tryz.prog F R .ret ⟨tmps, []⟩ w := by
  refine bodyPost_ret ?_ rfl h
  rw [results_cell_tmp hr, hp]
  simp only [asAddr, Sem.run_pure, Result.andThen_ok]
  rw [run_loadVar_row w g _ _ cs _ _ hg Tryz.underlying48 rfl (by rw [hs]; exact sizJ)]
  rfl

set_option maxRecDepth 100000 in
set_option maxHeartbeats 8000000 in
theorem PCheckJoin_any {w : World} {S S' S'' S3 S4 S5 : Nat → Prop} {a ta ua la ra ja : Option Addr} {cap tc uc lc rc jc : Nat} {R : List Rl} {t u : Tm} {j : Jn} (hz : smallR R) (hL : LsG elP w S (.slice a R.length cap) R) (ht : sizeT t ≤ 100000) (hT : TmW w S' ta tc t) (hu : sizeT u ≤ 100000) (hU : TmW w S'' ua uc u)
    (hA : LsG elX w S3 (.slice la j.1.length lc) j.1) (hB : LsG elX w S4 (.slice ra j.2.1.length rc) j.2.1) (hj : sizeT j.2.2 ≤ 100000) (hJ : TmW w S5 ja jc j.2.2) :
    Calls Tryz.prog 26 #[.slice a R.length cap, .agg #[.int .i64 t.kind, .string t.name, .int .i64 t.sort, .slice ta t.kids.length tc], .agg #[.int .i64 u.kind, .string u.name, .int .i64 u.sort, .slice ua u.kids.length uc], .agg #[.slice la j.1.length lc, .slice ra j.2.1.length rc, .int .i64 j.2.2.kind, .string j.2.2.name, .int .i64 j.2.2.sort, .slice ja j.2.2.kids.length jc]] w fun e w' => e = .returned (.bool (checkJ R t u j)) ∧ Ext w w' := by
  obtain ⟨A, B, x⟩ := j
  simp only at hA hB hj hJ ⊢
  obtain ⟨-, hll, hlc⟩ := hL.len
  unfold maxLen at hlc
  obtain ⟨-, hal, hac⟩ := hA.len
  unfold maxLen at hac
  obtain ⟨-, hbl, hbc⟩ := hB.len
  unfold maxLen at hbc
  have hxl := hJ.len
  have hxc := hJ.cap
  unfold maxLen at hxc
  obtain ⟨bx, hbbx⟩ : ∃ zz9, zz9 = w.heap.size := ⟨_, rfl⟩
  obtain ⟨w1, hwbx⟩ : ∃ zz9, zz9 = w.alloc (.cells #[.int .i64 t.kind, .string t.name, .int .i64 t.sort, .slice ta t.kids.length tc] 25) := ⟨_, rfl⟩
  have HBbx : Hid (w1.heap[bx]? = some (.cells #[.int .i64 t.kind, .string t.name, .int .i64 t.sort, .slice ta t.kids.length tc] 25)) := Lib.hid (by rw [hwbx, hbbx]; exact hs_new)
  have hEbx : Ext w w1 := by rw [hwbx]; exact Ext.alloc _ _
  have hs1 : w1.heap.size = bx + 1 := by rw [hwbx, hbbx, World.size_alloc]
  obtain ⟨yx, hyx⟩ : ∃ zz9, zz9 = bx + 1 := ⟨_, rfl⟩
  obtain ⟨w2, hw2⟩ : ∃ zz9, zz9 = w1.alloc (.cells #[.int .i64 u.kind, .string u.name, .int .i64 u.sort, .slice ua u.kids.length uc] 25) := ⟨_, rfl⟩
  have hE2 : Ext w1 w2 := by rw [hw2]; exact Ext.alloc _ _
  have hs2 : w2.heap.size = yx + 1 := by rw [hw2, World.size_alloc, hs1, hyx]
  have hby : w2.heap[yx]? = some (.cells #[.int .i64 u.kind, .string u.name, .int .i64 u.sort, .slice ua u.kids.length uc] 25) := by rw [hw2, hyx, ← hs1]; exact hs_new
  obtain ⟨jx, hjx⟩ : ∃ zz9, zz9 = yx + 1 := ⟨_, rfl⟩
  obtain ⟨w3, hw3⟩ : ∃ zz9, zz9 = w2.alloc (.cells #[.slice la A.length lc, .slice ra B.length rc, .int .i64 x.kind, .string x.name, .int .i64 x.sort, .slice ja x.kids.length jc] 48) := ⟨_, rfl⟩
  have hE3 : Ext w2 w3 := by rw [hw3]; exact Ext.alloc _ _
  have hbj : w3.heap[jx]? = some (.cells #[.slice la A.length lc, .slice ra B.length rc, .int .i64 x.kind, .string x.name, .int .i64 x.sort, .slice ja x.kids.length jc] 48) := by rw [hw3, hjx, ← hs2]; exact hs_new
  have hE := (hEbx.trans hE2).trans hE3
  have b0 : w3.cell? ⟨bx, 0, none⟩ = some (.int .i64 t.kind) := by rw [cellc (hs_ext (hE2.trans hE3) HBbx.out)]; rfl
  have b1 : w3.cell? ⟨bx, 1, none⟩ = some (.string t.name) := by rw [cellc (hs_ext (hE2.trans hE3) HBbx.out)]; rfl
  have b2 : w3.cell? ⟨bx, 2, none⟩ = some (.int .i64 t.sort) := by rw [cellc (hs_ext (hE2.trans hE3) HBbx.out)]; rfl
  have b3 : w3.cell? ⟨bx, 3, none⟩ = some (.slice ta t.kids.length tc) := by rw [cellc (hs_ext (hE2.trans hE3) HBbx.out)]; rfl
  have y0 : w3.cell? ⟨yx, 0, none⟩ = some (.int .i64 u.kind) := by rw [cellc (hs_ext hE3 hby)]; rfl
  have y1 : w3.cell? ⟨yx, 1, none⟩ = some (.string u.name) := by rw [cellc (hs_ext hE3 hby)]; rfl
  have y2 : w3.cell? ⟨yx, 2, none⟩ = some (.int .i64 u.sort) := by rw [cellc (hs_ext hE3 hby)]; rfl
  have y3 : w3.cell? ⟨yx, 3, none⟩ = some (.slice ua u.kids.length uc) := by rw [cellc (hs_ext hE3 hby)]; rfl
  have j0 : w3.cell? ⟨jx, 0, none⟩ = some (.slice la A.length lc) := by rw [cellc hbj]; rfl
  have j1 : w3.cell? ⟨jx, 1, none⟩ = some (.slice ra B.length rc) := by rw [cellc hbj]; rfl
  have j2 : w3.cell? ⟨jx, 2, none⟩ = some (.int .i64 x.kind) := by rw [cellc hbj]; rfl
  have j3 : w3.cell? ⟨jx, 3, none⟩ = some (.string x.name) := by rw [cellc hbj]; rfl
  have j4 : w3.cell? ⟨jx, 4, none⟩ = some (.int .i64 x.sort) := by rw [cellc hbj]; rfl
  have j5 : w3.cell? ⟨jx, 5, none⟩ = some (.slice ja x.kids.length jc) := by rw [cellc hbj]; rfl
  have HE := Lib.hid hE
  have hc1 := PTrace_any (w := w3) hz (hL.ext hE) ht (hT.ext hE) (hA.ext hE) hj (hJ.ext hE)
  have hc2 := fun (w' : World) (h : Ext w3 w') => PTrace_any (w := w') hz ((hL.ext hE).ext h) hu ((hU.ext hE).ext h) ((hB.ext hE).ext h) hj ((hJ.ext hE).ext h)
  obtain ⟨p, hp⟩ : ∃ p, p = traceP R t A x := ⟨_, rfl⟩
  obtain ⟨q, hq⟩ : ∃ q, q = traceP R u B x := ⟨_, rfl⟩
  have hP : checkJ R t u (A, B, x) = (p && q) := by rw [hp, hq]; rfl
  rw [hP]
  rw [← hp] at hc1
  simp only [← hq] at hc2
  have HC1 := Lib.hid hc1
  have HC2 := Lib.hid hc2
  clear hL hT hU hA hB hJ hz ht hu hj hp hq hP hc1 hc2 hE hE2 hE3 hEbx hs1 hs2 hby hbj
  go_enter Tryz.func26, Tryz.ntmps26
  go_upto_region 1 with fail
  rw [← hwbx, ← hbbx, ← hw2]
  try rw [← hyx]
  rw [← hw3]
  try rw [← hjx]
  clear hwbx hbbx hw2 hyx hw3 hjx
  go_wp2_with fail
  refine HC1.out.mono ?_
  rintro e w4 ⟨rfl, hE4⟩
  have HE4 := Lib.hid hE4
  have y0 := cs_ext hE4 y0
  have y1 := cs_ext hE4 y1
  have y2 := cs_ext hE4 y2
  have y3 := cs_ext hE4 y3
  have j1 := cs_ext hE4 j1
  have j2 := cs_ext hE4 j2
  have j3 := cs_ext hE4 j3
  have j4 := cs_ext hE4 j4
  have j5 := cs_ext hE4 j5
  clear hE4
  cases p with
  | false =>
    go_wp2_with fail
    go_ret
    exact ⟨rfl, HE.out.trans HE4.out⟩
  | true =>
    go_wp2_with fail
    refine (HC2.out w4 HE4.out).mono ?_
    rintro e w5 ⟨rfl, hE5⟩
    have HE5 := Lib.hid (HE.out.trans (HE4.out.trans hE5))
    clear hE5
    go_wp2_with fail
    go_ret
    exact ⟨by first | rfl | (rw [Bool.true_and]; rfl), HE5.out⟩

end Go.Proofs.YtpfnlbaloaohgaaGreat
