/- Contracts: normal forms. Contracts: checks of traces. Contracts: joins. Contracts: joins by normal forms. Plain law: a normal form is reached by its trace, and has no redex. -/
import Derived.Test.YtpfnlbaloaohgaaGreatH7
namespace Go.Proofs.YtpfnlbaloaohgaaGreat
open Go Go.RowKit
set_option linter.unusedVariables false
set_option linter.unusedSimpArgs false

/-- what n more steps at the first redexes lead to -/
def normF (R : List Rl) : Nat → Tm → List Rdx → Int × Tm × List Rdx
 | 0, u, T => match firstP R u with | none => (0, u, T) | some _ => (14, zeroTm, [])
 | n + 1, u, T => match firstP R u with | none => (0, u, T) | some r => if (stepP R u r).1 ≠ 0 then ((stepP R u r).1, zeroTm, []) else normF R n (stepP R u r).2 (T ++ [r])
/-- the normal form of a term -/
def normP (R : List Rl) (t : Tm) (fuel : Int) : Int × Tm × List Rdx :=
 if orE (rulesE R) (validT t) ≠ 0 then (orE (rulesE R) (validT t), zeroTm, []) else if 0 ≤ fuel ∧ fuel ≤ 1000 then normF R fuel.toNat t [] else (7, zeroTm, [])
def normR (w : World) (S : Nat → Prop) (v tv : Value) (er : Int) (Q : Int × Tm × List Rdx) : Prop :=
 er = Q.1 ∧ (Q.1 = 0 → IsS w S v Q.2.1 ∧ LsG elX w S tv Q.2.2) ∧ (Q.1 ≠ 0 → v = .agg #[.int .i64 0, .string ⟨#[]⟩, .int .i64 0, .slice none 0 0] ∧ tv = .slice none 0 0)
theorem normF_none {R : List Rl} {u : Tm} (h : firstP R u = none) (n : Nat) (T : List Rdx) : normF R n u T = (0, u, T) := by cases n <;> simp [normF, h]
theorem normF_fuel {R : List Rl} {u : Tm} {q : Rdx} (h : firstP R u = some q) (T : List Rdx) : normF R 0 u T = (14, zeroTm, []) := by simp [normF, h]
theorem normF_err {R : List Rl} {u : Tm} {q : Rdx} (h : firstP R u = some q) (hs : (stepP R u q).1 ≠ 0) {n : Nat} (hn : 0 < n) (T : List Rdx) : normF R n u T = ((stepP R u q).1, zeroTm, []) := by
 obtain ⟨m, rfl⟩ : ∃ m, n = m + 1 := ⟨n - 1, by omega⟩
 simp [normF, h, hs]
theorem normF_step {R : List Rl} {u : Tm} {q : Rdx} (h : firstP R u = some q) (hs : (stepP R u q).1 = 0) {n : Nat} (hn : 0 < n) (T : List Rdx) : normF R n u T = normF R (n - 1) (stepP R u q).2 (T ++ [q]) := by
 obtain ⟨m, rfl⟩ : ∃ m, n = m + 1 := ⟨n - 1, by omega⟩
 simp [normF, h, hs]

theorem results_cell_tmp2 {fn : Func} {p u x : Tmp} {ty : TypeId} (h : fn.results = #[.cell p ty, .tmp u, .tmp x]) (tmps : Array Value) (P : Program) (w : World) :
 (results fn tmps).run P w = ((asAddr (tmps.getD p undef)).run P w).andThen fun a w₁ => ((loadVar ty a).run P w₁).andThen fun v w₂ => .ok (.tuple #[v, tmps.getD u undef, tmps.getD x undef]) w₂ := by
 simp only [results, h]
 simp [Sem.run_bind, Result.andThen]
theorem ret_term3 {F : Func} {p u x g : Nat} {tmps : Array Value} {w : World} {cs : Array Value} {R : Ending → World → Prop} (hr : F.results = #[.cell p 25, .tmp u, .tmp x]) (hp : tmps.getD p undef = .pointer (some ⟨g, 0, none⟩)) (hg : w.heap[g]? = some (.cells cs 25)) (hs : cs.size = 4) (h : R (.returned (.tuple #[.agg cs, tmps.getD u undef, tmps.getD x undef])) w) :
 bodyPost Tryz.prog F R .ret ⟨tmps, []⟩ w := by
 refine bodyPost_ret ?_ rfl h
 rw [results_cell_tmp2 hr, hp]
 simp only [asAddr, Sem.run_pure, Result.andThen_ok]
 rw [run_loadVar_row w g _ _ cs _ _ hg Tryz.underlying25 rfl (by rw [hs]; exact sizT)]
 rfl
/-- a box of a term, written over cell by cell -/
theorem set4_box {w : World} {g T : Nat} {a b c d : Value} (a' b' c' d' : Value) (h : w.heap[g]? = some (.cells #[a, b, c, d] T)) :
 ((((w.setCell ⟨g, 0, none⟩ a').setCell ⟨g, 1, none⟩ b').setCell ⟨g, 2, none⟩ c').setCell ⟨g, 3, none⟩ d').heap[g]? = some (.cells #[a', b', c', d'] T) ∧
   (∀ q, q ≠ g → ((((w.setCell ⟨g, 0, none⟩ a').setCell ⟨g, 1, none⟩ b').setCell ⟨g, 2, none⟩ c').setCell ⟨g, 3, none⟩ d').heap[q]? = w.heap[q]?) ∧
   ∀ W, Ext W w → W.heap.size ≤ g → Ext W ((((w.setCell ⟨g, 0, none⟩ a').setCell ⟨g, 1, none⟩ b').setCell ⟨g, 2, none⟩ c').setCell ⟨g, 3, none⟩ d') := by
 refine ⟨?_, fun q hq => ?_, fun W hE hW => (((hE.setCell hW _).setCell hW _).setCell hW _).setCell hW _⟩
 · have h1 := heap_setCell_same w g 0 _ _ a' h
   have h5 := heap_setCell_same _ g 1 _ _ b' h1
   have h6 := heap_setCell_same _ g 2 _ _ c' h5
   have h7 := heap_setCell_same _ g 3 _ _ d' h6
   rw [h7]; simp
 · rw [heap_setCell_other _ _ _ _ hq, heap_setCell_other _ _ _ _ hq, heap_setCell_other _ _ _ _ hq, heap_setCell_other _ _ _ _ hq]

set_option maxRecDepth 100000 in
set_option maxHeartbeats 8000000 in
theorem PNormal_any {w : World} {S S' : Nat → Prop} {a ta : Option Addr} {cap tc : Nat} {R : List Rl} {t : Tm} {fuel : Int} (hz : smallR R) (hf : I64 fuel) (hL : LsG elP w S (.slice a R.length cap) R) (ht : sizeT t ≤ 100000) (hT : TmW w S' ta tc t) :
 Calls Tryz.prog 28 #[.slice a R.length cap, .agg #[.int .i64 t.kind, .string t.name, .int .i64 t.sort, .slice ta t.kids.length tc], .int .i64 fuel] w fun e w' => ∃ v tv er, e = .returned (.tuple #[v, tv, .int .i64 er]) ∧ Ext w w' ∧ normR w' (fun c => w.heap.size ≤ c) v tv er (normP R t fuel) := by
 obtain ⟨-, hll, hlc⟩ := hL.len
 unfold maxLen at hlc
 obtain ⟨bx, w1, hbbx, hwbx, HBbx, hEbx⟩ := box_new w (.cells #[.int .i64 t.kind, .string t.name, .int .i64 t.sort, .slice ta t.kids.length tc] 25)
 have hs1 : w1.heap.size = bx + 1 := by rw [hwbx, hbbx, World.size_alloc]
 obtain ⟨rx, hrx⟩ : ∃ zz9, zz9 = bx + 1 := ⟨_, rfl⟩
 obtain ⟨w2, hw2⟩ : ∃ zz9, zz9 = w1.alloc (.cells #[.int .i64 0, .string ⟨#[]⟩, .int .i64 0, .slice none 0 0] 25) := ⟨_, rfl⟩
 have hE2 : Ext w1 w2 := by rw [hw2]; exact Ext.alloc _ _
 have HBR : Hid (w2.heap[rx]? = some (.cells #[.int .i64 0, .string ⟨#[]⟩, .int .i64 0, .slice none 0 0] 25)) := Lib.hid (by rw [hw2, hrx, ← hs1]; exact hs_new)
 have hEa := hEbx.trans hE2
 have HE2 := Lib.hid hEa
 have HNB : Hid (w.heap.size = bx ∧ rx = bx + 1) := Lib.hid ⟨hbbx.symm, hrx⟩
 have HBB := Lib.hid (hs_ext hE2 HBbx.out)
 obtain ⟨b0, b1, b2, b3⟩ := box4r (HBB.out)
 have HL := Lib.hid (hL.ext hEa).any
 have HT := Lib.hid (hT.ext hEa).any
 have HZ := Lib.hid hz
 have HTZ := Lib.hid ht
 have hf1 := hf.1
 have hf2 := hf.2
 have hc1 := PRules_any hz (hL.ext hEa)
 obtain ⟨o1, ho1⟩ : ∃ o, o = rulesE R := ⟨_, rfl⟩
 obtain ⟨o2, ho2⟩ : ∃ o, o = validT t := ⟨_, rfl⟩
 rw [← ho1] at hc1
 have HC1 := Lib.hid hc1
 obtain ⟨Q, hQ⟩ : ∃ Q, Q = normP R t fuel := ⟨_, rfl⟩
 rw [← hQ]
 unfold normP at hQ
 rw [← ho1, ← ho2] at hQ
 have HQ0 := Lib.hid hQ
 have HO := Lib.hid (And.intro ho1 ho2)
 have HNZ : Hid True := Lib.hid trivial
 clear hL hT hz ht hf hc1 ho1 ho2 hEbx hE2 hEa hs1 hQ
 go_enter Tryz.func28, Tryz.ntmps28
 go_upto_region 1 with fail
 rw [← hwbx, ← hbbx, ← hw2, ← hrx]
 clear hwbx hbbx hw2 hrx
 go_wp2_with fail
 refine HC1.out.mono ?_
 rintro e w3 ⟨rfl, hE3⟩
 obtain ⟨b0, b1, b2, b3⟩ := cs_e4 hE3 ⟨b0, b1, b2, b3⟩
 have HL := Lib.hid (HL.out.ext hE3)
 have HT := Lib.hid (HT.out.ext hE3)
 have HBR := Lib.hid (hs_ext hE3 HBR.out)
 have HE2 := Lib.hid (HE2.out.trans hE3)
 have hc2 := PValid_any (w := w3) (by have := HTZ.out; omega) HT.out
 rw [← HO.out.2] at hc2
 have HC2 := Lib.hid hc2
 clear hE3 hc2
 by_cases h1 : o1 = 0
 · have e1 : (o1 != 0) = false := by simp [h1]
   have H1 := Lib.hid h1
   clear h1
   go_wp2_with fail
   refine HC2.out.mono ?_
   rintro e w4 ⟨rfl, hE4⟩
   obtain ⟨b0, b1, b2, b3⟩ := cs_e4 hE4 ⟨b0, b1, b2, b3⟩
   have HL := Lib.hid (HL.out.ext hE4)
   have HT := Lib.hid (HT.out.ext hE4)
   have HBR := Lib.hid (hs_ext hE4 HBR.out)
   have HE2 := Lib.hid (HE2.out.trans hE4)
   clear hE4
   by_cases h2 : o2 = 0
   · have e2 : (o2 != 0) = false := by simp [h2]
     have hq1 := HQ0.out
     rw [if_neg (by rw [H1.out, h2]; simp [orE])] at hq1
     have HQ1 := Lib.hid hq1
     have HV0 : Hid (validT t = 0) := Lib.hid (by rw [← HO.out.2]; exact h2)
     have H40 : Hid (R.length ≤ 40) := Lib.hid (rulesE_len (by rw [← HO.out.1]; exact H1.out))
     have HR0 : Hid (rulesE R = 0) := Lib.hid (by rw [← HO.out.1]; exact H1.out)
     clear h2 hq1
     by_cases hin : 0 ≤ fuel ∧ fuel ≤ 1000
     · obtain ⟨F, rfl⟩ : ∃ F : Nat, fuel = F := ⟨fuel.toNat, by omega⟩
       have hF1 : F ≤ 1000 := by omega
       have hF2 : decide ((F : Int) < 0) = false := by simp; try omega
       have hF3 : decide ((1000 : Int) < (F : Int)) = false := by simp; omega
       have hq2 := HQ1.out
       rw [if_pos hin, Int.toNat_natCast] at hq2
       have HQ2 := Lib.hid hq2
       have HCA := Lib.hid (PAt_any (w := w4) (p := []) (by have := HTZ.out; omega) HT.out (LsG.nil (S := Any)))
       clear hin hf1 hf2 hq2
       go_wp2_with fail
       refine HCA.out.mono ?_
       rintro e w5 ⟨v5, er, rfl, hE5, hA5⟩
       obtain ⟨rfl, ya, yc, rfl, hTy⟩ : er = 0 ∧ IsS w5 (fun c => w4.heap.size ≤ c) v5 t := by
        rcases hA5 with ⟨x, e1, e2, e3⟩ | ⟨e1, -⟩
        · rw [atT] at e1; cases e1; exact ⟨e2, e3⟩
        · rw [atT] at e1; cases e1
       have HS5 : Hid (w.heap.size ≤ w4.heap.size ∧ rx < w4.heap.size ∧ w4.heap.size ≤ w5.heap.size) := Lib.hid ⟨HE2.out.size, lt_of_get' HBR.out, hE5.size⟩
       obtain ⟨b0, b1, b2, b3⟩ := cs_e4 hE5 ⟨b0, b1, b2, b3⟩
       have HL := Lib.hid (HL.out.ext hE5)
       have HT := Lib.hid (HT.out.ext hE5)
       have HBR := Lib.hid (hs_ext hE5 HBR.out)
       have HE2 := Lib.hid (HE2.out.trans hE5)
       have HTY := Lib.hid hTy
       obtain ⟨ux, hux⟩ : ∃ zz9, zz9 = w5.heap.size := ⟨_, rfl⟩
       have HUX := Lib.hid hux
       obtain ⟨w6, hw6⟩ : ∃ zz9, zz9 = w5.alloc (.cells #[.int .i64 t.kind, .string t.name, .int .i64 t.sort, .slice ya t.kids.length yc] 25) := ⟨_, rfl⟩
       have HE6 : Hid (Ext w5 w6) := Lib.hid (by rw [hw6]; exact Ext.alloc _ _)
       have HBU : Hid (w6.heap[ux]? = some (.cells #[.int .i64 t.kind, .string t.name, .int .i64 t.sort, .slice ya t.kids.length yc] 25)) := Lib.hid (by rw [hw6, hux]; exact hs_new)
       clear hE5 hA5 hTy
       go_upto_region 10 with fail
       rw [← hw6, ← hux]
       clear hw6 hux
       go_wp2_with fail
       go_loopw [13] (fun ov wr => Hid (∃ (u : Tm) (T : List Rdx) (ka : Option Addr) (kc : Nat), T.length ≤ F ∧ validT u = 0 ∧ normF R (F - T.length) u T = Q ∧ wr.heap[ux]? = some (.cells #[.int .i64 u.kind, .string u.name, .int .i64 u.sort, .slice ka u.kids.length kc] 25) ∧ TmW wr (fun c => (w4.heap.size ≤ c ∧ c ≠ ux) ∧ ov.ownBlock ≠ some c) ka kc u ∧ OwnG elX wr (ux + 1) 35 (fun c => ux + 1 ≤ c ∧ ov.ownBlock ≠ some c) ov T ∧ Ext w5 wr)) (fun ov _ => F + 1 - lenOf ov)
       case atStart =>
        exact Lib.hid ⟨t, [], ya, yc, by simp, HV0.out, by rw [HQ2.out]; rfl, HBU.out, HTY.out.keep (w' := w6) (fun c _ hc => HE6.out.block hc) (fun c h1 h2 => ⟨⟨h1, by have := HUX.out; omega⟩, fun e => by cases e⟩), OwnG.nil, HE6.out⟩
       case round =>
        obtain ⟨u, T, ka, kc, hTF, hv, hN, hbu, hTu, hO, hE⟩ := hrel.out
        have HN := Lib.hid hN
        have HBU7 := Lib.hid hbu
        have HTU := Lib.hid hTu
        have HO7 := Lib.hid hO
        have HE7 := Lib.hid hE
        have HVU := Lib.hid hv
        obtain ⟨oa, oc, hov, -, hoc⟩ := hO.slice
        subst hov
        unfold maxLen at hoc
        have hlu := hTu.len
        have hcu := hTu.cap
        unfold maxLen at hcu
        have hu4 : sizeT u ≤ 400 := (validT_iff.1 hv).2.1
        have HU4 := Lib.hid hu4
        have HC := Lib.hid (first_rdx (sizeT u) wr Any _ a ka cap kc R u (Nat.le_refl _) (by omega) HZ.out H40.out ((HL.out.ext hE).any) hTu)
        obtain ⟨u0, u1, u2, u3⟩ := box4r (HBU7.out)
        clear hrel hN hbu hTu hO hE hv hu4 HBU HTY
        go_wp2_with fail
        refine HC.out.mono ?_
        rintro e w7 ⟨v, b, rfl, hEb, hA⟩
        have HEb := Lib.hid hEb
        have HE8 := Lib.hid (HE7.out.trans hEb)
        cases hfp : firstP R u with
        | none =>
          obtain ⟨rfl, rfl⟩ : b = false ∧ v = .agg #[.int .i64 0, .slice none 0 0] := by
           rcases hA with ⟨q', a', c', e1, -⟩ | ⟨-, e2, e3⟩
           · rw [hfp] at e1; cases e1
           · exact ⟨e2, e3⟩
          have HQ : Hid (Q = (0, u, T)) := Lib.hid (by rw [← HN.out, normF_none hfp])
          have HR8 : Hid ((w7.alloc (.cells #[.int .i64 0, .slice none 0 0] 35)).heap[rx]? = some (.cells #[.int .i64 0, .string ⟨#[]⟩, .int .i64 0, .slice none 0 0] 25)) := Lib.hid (hs_ext (HE8.out.trans (Ext.alloc _ _)) HBR.out)
          have HEZ : Hid (Ext wr (w7.alloc (.cells #[.int .i64 0, .slice none 0 0] 35))) := Lib.hid (HEb.out.trans (Ext.alloc _ _))
          obtain ⟨u0, u1, u2, u3⟩ := cs_e4 hEb ⟨u0, u1, u2, u3⟩
          have u0z : (w7.alloc (.cells #[.int .i64 0, .slice none 0 0] 35)).cell? _ = _ := cs_al u0
          have u1z : (w7.alloc (.cells #[.int .i64 0, .slice none 0 0] 35)).cell? _ = _ := cs_al u1
          have u2z : (w7.alloc (.cells #[.int .i64 0, .slice none 0 0] 35)).cell? _ = _ := cs_al u2
          have u3z : (w7.alloc (.cells #[.int .i64 0, .slice none 0 0] 35)).cell? _ = _ := cs_al u3
          clear hEb hA hfp
          go_wp2_with (first
           | (refine wpList_storeT rfl (.tmp 6) (.tmp 50) rfl (g := rx) rfl (k := u.kind) (s := u.sort) (n := u.name) (ka := ka) (kl := u.kids.length) (kc := kc) rfl HR8.out rfl ?_
              intro wq c6 q6 e6 z6
              have HG6 := Lib.hid c6
              have HQ6 := Lib.hid q6
              have HEQ := Lib.hid (e6 w ((HE2.out.trans HE7.out).trans HEZ.out) (by have := HNB.out; omega))
              clear c6 q6 e6 z6))
          have hkeep : ∀ c, c < wr.heap.size → c ≠ rx → wq.heap[c]? = wr.heap[c]? := fun c h1 h2 => by rw [HQ6.out c h2, HEZ.out.block h1]
          refine ret_term3 (g := rx) rfl rfl HG6.out rfl ⟨_, _, _, rfl, HEQ.out, by rw [HQ.out], fun _ => ?_, fun h => absurd (by rw [HQ.out]) h⟩
          rw [HQ.out]
          refine ⟨⟨ka, kc, rfl, HTU.out.keep (fun c h1 h2 => hkeep c h2 (by have := HS5.out; have := h1.1.1; omega)) (fun c h1 _ => by have := HS5.out; have := h1.1.1; omega)⟩, ?_⟩
          have hO9 := HO7.out.keep (w' := wq) (S' := fun c => w.heap.size ≤ c) (fun c hc => hkeep c (HO7.out.lt c hc).2 (by have := (HO7.out.lt c hc).1; have := HS5.out; have := HUX.out; omega)) (fun c h1 h2 => hkeep c h2 (by have := h1.1; have := HS5.out; have := HUX.out; omega)) (fun c h1 _ => by have := h1.1; have := HS5.out; have := HUX.out; omega)
          exact hO9.ls (fun _ h _ => h) (fun g _ h1 _ => by have := HS5.out; have := HUX.out; omega)
        | some q =>
          obtain ⟨pa, pc, rfl, rfl, hP⟩ : ∃ pa pc, b = true ∧ v = .agg #[.int .i64 q.1, .slice pa q.2.length pc] ∧ LsG elI w7 (fun c => wr.heap.size ≤ c) (.slice pa q.2.length pc) q.2 := by
           rcases hA with ⟨q', a', c', e1, e2, e3, e4⟩ | ⟨e1, -⟩
           · rw [hfp] at e1; cases e1; exact ⟨_, _, e2, e3, e4⟩
           · rw [hfp] at e1; cases e1
          have HFP := Lib.hid hfp
          have hqb := firstP_bound R u q hfp
          obtain ⟨-, hpl, hpc⟩ := hP.len
          unfold maxLen at hpc
          have HQB := Lib.hid hqb
          obtain ⟨vx, hvx⟩ : ∃ zz9, zz9 = w7.heap.size := ⟨_, rfl⟩
          obtain ⟨w8, hw8⟩ : ∃ zz9, zz9 = w7.alloc (.cells #[.int .i64 q.1, .slice pa q.2.length pc] 35) := ⟨_, rfl⟩
          have hEc : Ext w7 w8 := by rw [hw8]; exact Ext.alloc _ _
          have hbv : w8.heap[vx]? = some (.cells #[.int .i64 q.1, .slice pa q.2.length pc] 35) := by rw [hw8, hvx]; exact hs_new
          have HBV := Lib.hid hbv
          have v0 : w8.cell? ⟨vx, 0, none⟩ = some (.int .i64 q.1) := by rw [cellc hbv]; rfl
          have v1 : w8.cell? ⟨vx, 1, none⟩ = some (.slice pa q.2.length pc) := by rw [cellc hbv]; rfl
          have HP8 := Lib.hid (hP.ext hEc)
          have HEr8 := Lib.hid (hEb.trans hEc)
          have HE58 := Lib.hid (HE8.out.trans hEc)
          obtain ⟨u0, u1, u2, u3⟩ := cs_e4 hEb ⟨u0, u1, u2, u3⟩
          obtain ⟨u0, u1, u2, u3⟩ := cs_e4 hEc ⟨u0, u1, u2, u3⟩
          clear hEb hA hfp hqb hP hEc hbv
          go_upto_region 14 with fail
          rw [← hw8, ← hvx]
          clear hw8 hvx
          by_cases hTe : T.length = F
          · have ef : (((T.length : Nat) : Int) == (F : Int)) = true := by simp [hTe]
            have HQ : Hid (Q = (14, zeroTm, [])) := Lib.hid (by rw [← HN.out, hTe, Nat.sub_self, normF_fuel HFP.out])
            have HR8 : Hid (w8.heap[rx]? = some (.cells #[.int .i64 0, .string ⟨#[]⟩, .int .i64 0, .slice none 0 0] 25)) := Lib.hid (hs_ext HE58.out HBR.out)
            go_wp2_with (first
             | (refine wpList_buildT rfl [] rfl [] rfl built_none ?_)
             | (refine wpList_storeT rfl (.tmp 6) (.tmp 56) rfl (g := rx) rfl (k := 0) (s := 0) (n := ⟨#[]⟩) (ka := none) (kl := 0) (kc := 0) rfl HR8.out rfl ?_
                intro wq c6 q6 e6 z6
                have HG6 := Lib.hid c6
                have HEQ := Lib.hid (e6 w (HE2.out.trans HE58.out) (by have := HNB.out; omega))
                clear c6 q6 e6 z6))
            refine ret_term3 (g := rx) rfl rfl HG6.out rfl ⟨_, _, _, rfl, HEQ.out, ?_, ?_, ?_⟩
            · rw [HQ.out]
            · intro h; rw [HQ.out] at h; exact absurd h (by first | decide | exact HNZ.out)
            · intro _; exact ⟨rfl, rfl⟩
          · have ef : (((T.length : Nat) : Int) == (F : Int)) = false := by simp; omega
            have HI : Hid (I64 q.1) := Lib.hid (by have := HQB.out; have := H40.out; unfold I64; omega)
            have HCS := Lib.hid (step_any (w := w8) HR0.out HVU.out HI.out (HL.out.ext HE58.out) (HTU.out.ext HEr8.out) HP8.out)
            go_wp2_with fail
            refine HCS.out.mono ?_
            rintro e w9 ⟨v9, er, rfl, hE9, hA9⟩
            obtain ⟨u0, u1, u2, u3, v0, v1⟩ := cs_e6 hE9 ⟨u0, u1, u2, u3, v0, v1⟩
            by_cases h9 : (stepP R u q).1 = 0
            · obtain ⟨X, hX⟩ : ∃ X, X = (stepP R u q).2 := ⟨_, rfl⟩
              rw [← hX] at hA9
              obtain ⟨xa, xc, rfl, hTx⟩ := hA9.2.1 h9
              have her : er = 0 := hA9.1.trans h9
              subst her
              have HVX : Hid (validT X = 0) := Lib.hid (by rw [hX]; exact stepP_ok h9)
              have HNX : Hid (normF R (F - (T.length + 1)) X (T ++ [q]) = Q) := Lib.hid (by rw [← HN.out, normF_step HFP.out h9 (by omega), hX]; congr 1)
              obtain ⟨nx, hnx⟩ : ∃ zz9, zz9 = w9.heap.size := ⟨_, rfl⟩
              obtain ⟨w10, hw10⟩ : ∃ zz9, zz9 = w9.alloc (.cells #[.int .i64 X.kind, .string X.name, .int .i64 X.sort, .slice xa X.kids.length xc] 25) := ⟨_, rfl⟩
              have hE10 : Ext w9 w10 := by rw [hw10]; exact Ext.alloc _ _
              have HBX : Hid (w10.heap[nx]? = some (.cells #[.int .i64 X.kind, .string X.name, .int .i64 X.sort, .slice xa X.kids.length xc] 25)) := Lib.hid (by rw [hw10, hnx]; exact hs_new)
              have hE8a := hE9.trans hE10
              have HE8a := Lib.hid hE8a
              have HTX := Lib.hid hTx
              have HE9a := Lib.hid hE10
              have HP10 := Lib.hid (HP8.out.ext hE8a)
              have HBUa := Lib.hid (hs_ext (HEr8.out.trans hE8a) HBU7.out)
              have HEra := Lib.hid (HEr8.out.trans hE8a)
              have HOa := Lib.hid (HO7.out.ext HEra.out)
              have HSZ : Hid (w10.heap.size = nx + 1 ∧ w8.heap.size ≤ nx ∧ wr.heap.size ≤ w8.heap.size ∧ ux < wr.heap.size ∧ nx = w9.heap.size) := Lib.hid ⟨by rw [hw10, hnx, World.size_alloc], by rw [hnx]; exact hE9.size, HEr8.out.size, lt_of_get' HBU7.out, hnx⟩
              obtain ⟨u0, u1, u2, u3, v0, v1⟩ := cs_e6 hE10 ⟨u0, u1, u2, u3, v0, v1⟩
              obtain ⟨n0, n1, n2, n3⟩ := box4r (HBX.out)
              clear hA9 hE9 h9 hX hTx hE10 hE8a
              go_upto_region 19 with fail
              rw [← hw10, ← hnx]
              clear hw10 hnx
              have n0z : (w10.alloc (.cells #[.int .i64 q.1, .slice pa q.2.length pc] 35)).cell? _ = _ := cs_al n0
              have n1z : (w10.alloc (.cells #[.int .i64 q.1, .slice pa q.2.length pc] 35)).cell? _ = _ := cs_al n1
              have n2z : (w10.alloc (.cells #[.int .i64 q.1, .slice pa q.2.length pc] 35)).cell? _ = _ := cs_al n2
              have n3z : (w10.alloc (.cells #[.int .i64 q.1, .slice pa q.2.length pc] 35)).cell? _ = _ := cs_al n3
              have HAL : Hid ((w10.alloc (.cells #[.int .i64 q.1, .slice pa q.2.length pc] 35)).heap.size = nx + 2) := Lib.hid (by rw [World.size_alloc]; have := HSZ.out; omega)
              have HAL2 : Hid (∀ c, c < (w10.alloc (.cells #[.int .i64 q.1, .slice pa q.2.length pc] 35)).heap.size → c < w10.heap.size + 1) := Lib.hid (fun c h => by rw [World.size_alloc] at h; exact h)
              have HAL3 : Hid (ux + 1 ≤ (w10.alloc (.cells #[.int .i64 q.1, .slice pa q.2.length pc] 35)).heap.size) := Lib.hid (by have := HAL.out; have := HSZ.out; omega)
              have HARM : Hid (∀ wz v5 w11, wz.heap.size = nx + 2 → Ext w10 wz → OwnG elX w11 (ux + 1) 35 (fun c => (ux + 1 ≤ c ∧ (Value.slice oa T.length oc).ownBlock ≠ some c) ∧ c < w10.heap.size + 1) v5 (T ++ [q]) → wz.grownBy w11 (Value.slice oa T.length oc).ownBlock → (v5.ownBlock = (Value.slice oa T.length oc).ownBlock ∨ v5.ownBlock = some wz.heap.size) →
               Ext w5 w11 ∧ w11.heap[ux]? = some (.cells #[.int .i64 u.kind, .string u.name, .int .i64 u.sort, .slice ka u.kids.length kc] 25) ∧ w11.heap[nx]? = some (.cells #[.int .i64 X.kind, .string X.name, .int .i64 X.sort, .slice xa X.kids.length xc] 25) ∧ OwnG elX w11 (ux + 1) 35 (fun c => ux + 1 ≤ c ∧ v5.ownBlock ≠ some c) v5 (T ++ [q]) ∧ TmW w11 (fun c => (w4.heap.size ≤ c ∧ c ≠ ux) ∧ v5.ownBlock ≠ some c) xa xc X ∧ lenOf v5 = T.length + 1) := Lib.hid (fun wz v5 w11 hwz hEz o5 g5 k5 => by
               have hE11 : Ext w5 w11 := Ext.grown ((HE7.out.trans HEra.out).trans hEz) g5 (fun c hc => by have := (HO7.out.lt c hc).1; have := HUX.out; omega)
               have hsame : ∀ c, c < w10.heap.size → (Value.slice oa T.length oc).ownBlock ≠ some c → w11.heap[c]? = w10.heap[c]? := fun c h1 h2 => by
                rw [g5.block c (by have := HSZ.out; omega) (fun e => h2 e.symm)]
                exact hEz.block h1
               have hL11 : lenOf v5 = T.length + 1 := by
                obtain ⟨y1, y2, e, -⟩ := o5.slice
                rw [e]; simp [lenOf]
               rw [hwz, show nx + 2 = w10.heap.size + 1 by have := HSZ.out; omega] at k5
               refine ⟨hE11, ?_, ?_, o5.turn k5, HTX.out.keep (fun c h1 h2 => ?_) (fun c h1 h2 => ⟨⟨?_, ?_⟩, fun e => ?_⟩), hL11⟩
               · rw [hsame ux (by have := HSZ.out; omega) (fun e => by have := (HO7.out.lt ux e).1; omega)]; exact HBUa.out
               · rw [hsame nx (by have := HSZ.out; omega) (fun e => by have := (HO7.out.lt nx e).2; have := HSZ.out; omega)]; exact HBX.out
               · rw [hsame c (by have := HSZ.out; omega) (fun e => by have := (HO7.out.lt c e).2; have := HSZ.out; omega)]
                 exact HE9a.out.block h2
               · have := HSZ.out; have := HS5.out; have := HUX.out; omega
               · have := HSZ.out; omega
               · rcases k5 with k | k
                 · rw [k] at e; have := (HO7.out.lt c e).2; have := HSZ.out; omega
                 · rw [k] at e; have := Option.some.inj e; have := HSZ.out; omega)
              go_region_law (
               refine step_appG (E := elX) (T := 35) rfl 29 (.tmp 69) (.tmp 71) rfl rfl rfl Tryz.underlying29 infRedex rfl (by decide) (by decide) ((HOa.out.ext (by repeat (first | exact Ext.refl _ | exact Ext.alloc _ _ | apply Ext.then_dr | apply Ext.then_drN | apply Ext.then_drN2 | (refine Ext.then_al ?_ _)))).wide (S' := fun c => (ux + 1 ≤ c ∧ (Value.slice oa T.length oc).ownBlock ≠ some c) ∧ c < w10.heap.size + 1) (fun c h h2 => ⟨h, HAL2.out c h2⟩)) HAL3.out (fun c h => h.1.2) (by omega) (M := [q]) (by simp) (one_rdxE hs_new HI.out ((HP10.out.ext (by repeat (first | exact Ext.refl _ | exact Ext.alloc _ _ | apply Ext.then_dr | apply Ext.then_drN | apply Ext.then_drN2 | (refine Ext.then_al ?_ _)))).wide (fun c h h2 => ⟨⟨by have := HSZ.out; omega, fun e => by have := (HO7.out.lt c e).2; omega⟩, HAL2.out c h2⟩))) ?_
               intro v5 w11 o5 g5 k5
               obtain ⟨hE11, hb11, hn11, hO11, hT11, hL11⟩ := HARM.out _ v5 w11 (by first | rw [HAL.out] | exact HAL.out) (by repeat (first | exact Ext.refl _ | exact Ext.alloc _ _ | apply Ext.then_dr | apply Ext.then_drN | apply Ext.then_drN2 | (refine Ext.then_al ?_ _))) o5 g5 k5
               have HE11 := Lib.hid hE11
               have HB11 := Lib.hid hb11
               have HO11 := Lib.hid hO11
               have HTX11 := Lib.hid hT11
               have HL11 := Lib.hid hL11
               have u0w : w11.cell? ⟨ux, 0, none⟩ = some (.int .i64 u.kind) := by rw [cellc hb11]; rfl
               have u1w : w11.cell? ⟨ux, 1, none⟩ = some (.string u.name) := by rw [cellc hb11]; rfl
               have u2w : w11.cell? ⟨ux, 2, none⟩ = some (.int .i64 u.sort) := by rw [cellc hb11]; rfl
               have u3w : w11.cell? ⟨ux, 3, none⟩ = some (.slice ka u.kids.length kc) := by rw [cellc hb11]; rfl
               have n0w : w11.cell? ⟨nx, 0, none⟩ = some (.int .i64 X.kind) := by rw [cellc hn11]; rfl
               have n1w : w11.cell? ⟨nx, 1, none⟩ = some (.string X.name) := by rw [cellc hn11]; rfl
               have n2w : w11.cell? ⟨nx, 2, none⟩ = some (.int .i64 X.sort) := by rw [cellc hn11]; rfl
               have n3w : w11.cell? ⟨nx, 3, none⟩ = some (.slice xa X.kids.length xc) := by rw [cellc hn11]; rfl
               have z0 : w11.frozen? ⟨ux, 0, none⟩ = false := frozenc hb11
               have z1 : w11.frozen? ⟨ux, 1, none⟩ = false := frozenc hb11
               have z2 : w11.frozen? ⟨ux, 2, none⟩ = false := frozenc hb11
               have z3 : w11.frozen? ⟨ux, 3, none⟩ = false := frozenc hb11
               clear o5 g5 k5 hE11 hb11 hn11 hO11 hT11 hL11)
              all_goals
               simp only [Act.put, List.getElem_cons_succ, List.getElem_cons_zero]
               go_simp
               go_roundw
               case rel =>
                obtain ⟨y1, y2, y3⟩ := set4_box (.int .i64 X.kind) (.string X.name) (.int .i64 X.sort) (.slice xa X.kids.length xc) HB11.out
                have hlt := HSZ.out
                have hnu : ∀ c, v5.ownBlock = some c → c ≠ ux := fun c e => by have := (HO11.out.lt c e).1; omega
                refine ⟨_, _, _, _, _, _, _, _, _, _, _, _, _, _, _, _, _, _, _, _, _, _, _, _, _, _, _, _, _, _, _, _, _, _, _, _, _, _, ?_, rfl⟩
                exact Lib.hid ⟨X, T ++ [q], xa, xc, by rw [List.length_append]; simp; omega, HVX.out, by rw [List.length_append]; exact HNX.out, y1, HTX11.out.keep (fun c h1 _ => y2 c h1.1.2) (fun c h1 _ => h1), HO11.out.keep (fun c hc => y2 c (hnu c hc)) (fun c h1 _ => y2 c (by have := h1.1; omega)) (fun c h1 _ => h1), y3 _ HE11.out (by have := HUX.out; omega)⟩
               case measure =>
                show F + 1 - lenOf v5 < F + 1 - T.length
                rw [HL11.out]; omega
            · obtain rfl := hA9.2.2 h9
              have HQ : Hid (Q = (er, zeroTm, [])) := Lib.hid (by rw [← HN.out, normF_err HFP.out h9 (by omega), hA9.1])
              have ee : (er != 0) = true := by rw [hA9.1]; simpa using h9
              have HEE : Hid (er ≠ 0) := Lib.hid (by rw [hA9.1]; exact h9)
              have HR9 : Hid ((w9.alloc (.cells #[.int .i64 0, .string ⟨#[]⟩, .int .i64 0, .slice none 0 0] 25)).heap[rx]? = some (.cells #[.int .i64 0, .string ⟨#[]⟩, .int .i64 0, .slice none 0 0] 25)) := Lib.hid (hs_ext (HE58.out.trans (hE9.trans (Ext.alloc _ _))) HBR.out)
              have HE9 : Hid (Ext w (w9.alloc (.cells #[.int .i64 0, .string ⟨#[]⟩, .int .i64 0, .slice none 0 0] 25))) := Lib.hid (HE2.out.trans (HE58.out.trans (hE9.trans (Ext.alloc _ _))))
              clear hA9 hE9 h9
              go_wp2_with (first
               | (refine wpList_buildT rfl [] rfl [] rfl built_none ?_)
               | (refine wpList_storeT rfl (.tmp 6) (.tmp 66) rfl (g := rx) rfl (k := 0) (s := 0) (n := ⟨#[]⟩) (ka := none) (kl := 0) (kc := 0) rfl HR9.out rfl ?_
                  intro wq c6 q6 e6 z6
                  have HG6 := Lib.hid c6
                  have HEQ := Lib.hid (e6 w HE9.out (by have := HNB.out; omega))
                  clear c6 q6 e6 z6))
              refine ret_term3 (g := rx) rfl rfl HG6.out rfl ⟨_, _, _, rfl, HEQ.out, ?_, ?_, ?_⟩
              · rw [HQ.out]
              · intro h; rw [HQ.out] at h; exact absurd h HEE.out
              · intro _; exact ⟨rfl, rfl⟩
     · have HQ : Hid (Q = (7, zeroTm, [])) := Lib.hid (by rw [HQ1.out, if_neg hin])
       by_cases h0 : fuel < 0
       · go_wp2_with (first
          | (refine wpList_buildT rfl [] rfl [] rfl built_none ?_)
          | (refine wpList_storeT rfl (.tmp 6) (.tmp 36) rfl (g := rx) rfl (k := 0) (s := 0) (n := ⟨#[]⟩) (ka := none) (kl := 0) (kc := 0) rfl HBR.out rfl ?_
             intro wq c6 q6 e6 z6
             have HG6 := Lib.hid c6
             have HEQ := Lib.hid (e6 w HE2.out (by have := HNB.out; omega))
             clear c6 q6 e6 z6))
         refine ret_term3 (g := rx) rfl rfl HG6.out rfl ⟨_, _, _, rfl, HEQ.out, ?_, ?_, ?_⟩
         · rw [HQ.out]
         · intro h; rw [HQ.out] at h; exact absurd h (by first | decide | exact HNZ.out)
         · intro _; exact ⟨rfl, rfl⟩
       · have h1000 : (1000 : Int) < fuel := by omega
         go_wp2_with (first
          | (refine wpList_buildT rfl [] rfl [] rfl built_none ?_)
          | (refine wpList_storeT rfl (.tmp 6) (.tmp 36) rfl (g := rx) rfl (k := 0) (s := 0) (n := ⟨#[]⟩) (ka := none) (kl := 0) (kc := 0) rfl HBR.out rfl ?_
             intro wq c6 q6 e6 z6
             have HG6 := Lib.hid c6
             have HEQ := Lib.hid (e6 w HE2.out (by have := HNB.out; omega))
             clear c6 q6 e6 z6))
         refine ret_term3 (g := rx) rfl rfl HG6.out rfl ⟨_, _, _, rfl, HEQ.out, ?_, ?_, ?_⟩
         · rw [HQ.out]
         · intro h; rw [HQ.out] at h; exact absurd h (by first | decide | exact HNZ.out)
         · intro _; exact ⟨rfl, rfl⟩
   · have e2 : (o2 != 0) = true := by simp [h2]
     have HQ : Hid (Q = (o2, zeroTm, [])) := Lib.hid (by rw [HQ0.out, H1.out, if_pos (by simp [orE, h2])]; simp [orE])
     have H2 := Lib.hid h2
     clear h2
     go_wp2_with (first
      | (refine wpList_buildT rfl [] rfl [] rfl built_none ?_)
      | (refine wpList_storeT rfl (.tmp 6) (.tmp 28) rfl (g := rx) rfl (k := 0) (s := 0) (n := ⟨#[]⟩) (ka := none) (kl := 0) (kc := 0) rfl HBR.out rfl ?_
         intro wq c6 q6 e6 z6
         have HG6 := Lib.hid c6
         have HEQ := Lib.hid (e6 w HE2.out (by have := HNB.out; omega))
         clear c6 q6 e6 z6))
     refine ret_term3 (g := rx) rfl rfl HG6.out rfl ⟨_, _, _, rfl, HEQ.out, ?_, ?_, ?_⟩
     · rw [HQ.out]
     · intro h; rw [HQ.out] at h; exact absurd h H2.out
     · intro _; exact ⟨rfl, rfl⟩
 · have e1 : (o1 != 0) = true := by simp [h1]
   have HQ : Hid (Q = (o1, zeroTm, [])) := Lib.hid (by rw [HQ0.out, if_pos (by simp [orE, h1])]; simp [orE, h1])
   have H1 := Lib.hid h1
   clear h1
   go_wp2_with (first
    | (refine wpList_buildT rfl [] rfl [] rfl built_none ?_)
    | (refine wpList_storeT rfl (.tmp 6) (.tmp 22) rfl (g := rx) rfl (k := 0) (s := 0) (n := ⟨#[]⟩) (ka := none) (kl := 0) (kc := 0) rfl HBR.out rfl ?_
       intro wq c6 q6 e6 z6
       have HG6 := Lib.hid c6
       have HEQ := Lib.hid (e6 w HE2.out (by have := HNB.out; omega))
       clear c6 q6 e6 z6))
   refine ret_term3 (g := rx) rfl rfl HG6.out rfl ⟨_, _, _, rfl, HEQ.out, ?_, ?_, ?_⟩
   · rw [HQ.out]
   · intro h; rw [HQ.out] at h; exact absurd h H1.out
   · intro _; exact ⟨rfl, rfl⟩

/-- what redexes lead to -/
def checkL (R : List Rl) : List Rdx → Tm → Option Tm
 | [], t => some t
 | r :: l, t => if (stepP R t r).1 ≠ 0 then none else checkL R l (stepP R t r).2
def endB (o : Option Tm) (u : Tm) : Bool := match o with | none => false | some x => decide (cmpT x u = 0)
/-- whether redexes lead from a term to another one -/
def traceP (R : List Rl) (t : Tm) (l : List Rdx) (u : Tm) : Bool :=
 if orE (rulesE R) (validT t) ≠ 0 then false else endB (checkL R l t) u

set_option maxRecDepth 100000 in
set_option maxHeartbeats 8000000 in
theorem PTrace_any {w : World} {S S' S'' S3 : Nat → Prop} {a ta la ua : Option Addr} {cap tc lc uc : Nat} {R : List Rl} {t u : Tm} {l : List Rdx} (hz : smallR R) (hL : LsG elP w S (.slice a R.length cap) R) (ht : sizeT t ≤ 100000) (hT : TmW w S' ta tc t) (hX : LsG elX w S'' (.slice la l.length lc) l) (hu : sizeT u ≤ 100000) (hU : TmW w S3 ua uc u) :
 Calls Tryz.prog 23 #[.slice a R.length cap, .agg #[.int .i64 t.kind, .string t.name, .int .i64 t.sort, .slice ta t.kids.length tc], .slice la l.length lc, .agg #[.int .i64 u.kind, .string u.name, .int .i64 u.sort, .slice ua u.kids.length uc]] w fun e w' => e = .returned (.bool (traceP R t l u)) ∧ Ext w w' := by
 obtain ⟨-, hll, hlc⟩ := hL.len
 unfold maxLen at hlc
 obtain ⟨-, hxl, hxc⟩ := hX.len
 unfold maxLen at hxc
 obtain ⟨bx, w1, hbbx, hwbx, HBbx, hEbx⟩ := box_new w (.cells #[.int .i64 t.kind, .string t.name, .int .i64 t.sort, .slice ta t.kids.length tc] 25)
 have hs1 : w1.heap.size = bx + 1 := by rw [hwbx, hbbx, World.size_alloc]
 obtain ⟨yx, hyx⟩ : ∃ zz9, zz9 = bx + 1 := ⟨_, rfl⟩
 obtain ⟨w2, hw2⟩ : ∃ zz9, zz9 = w1.alloc (.cells #[.int .i64 u.kind, .string u.name, .int .i64 u.sort, .slice ua u.kids.length uc] 25) := ⟨_, rfl⟩
 have hE2 : Ext w1 w2 := by rw [hw2]; exact Ext.alloc _ _
 have HBY : Hid (w2.heap[yx]? = some (.cells #[.int .i64 u.kind, .string u.name, .int .i64 u.sort, .slice ua u.kids.length uc] 25)) := Lib.hid (by rw [hw2, hyx, ← hs1]; exact hs_new)
 have hEa := hEbx.trans hE2
 have HE2 := Lib.hid hEa
 have HNB : Hid (w.heap.size = bx ∧ yx = bx + 1) := Lib.hid ⟨hbbx.symm, hyx⟩
 have HBB := Lib.hid (hs_ext hE2 HBbx.out)
 obtain ⟨b0, b1, b2, b3⟩ := box4r (HBB.out)
 have HL0 := Lib.hid hL.any
 have HX0 := Lib.hid hX.any
 have HU0 := Lib.hid hU.any
 have HT0 := Lib.hid (hT.keep (w' := w) (S' := fun c => c ≠ bx) (fun _ _ _ => rfl) (fun c _ hc => by omega))
 have HT := Lib.hid (hT.ext hEa).any
 have HZ := Lib.hid hz
 have HTZ := Lib.hid ht
 have HUZ := Lib.hid hu
 have hc1 := PRules_any hz (hL.ext hEa)
 obtain ⟨o1, ho1⟩ : ∃ o, o = rulesE R := ⟨_, rfl⟩
 obtain ⟨o2, ho2⟩ : ∃ o, o = validT t := ⟨_, rfl⟩
 rw [← ho1] at hc1
 have HC1 := Lib.hid hc1
 obtain ⟨Z, hZ⟩ : ∃ Z, Z = traceP R t l u := ⟨_, rfl⟩
 rw [← hZ]
 unfold traceP at hZ
 rw [← ho1, ← ho2] at hZ
 have HZZ := Lib.hid hZ
 have HO := Lib.hid (And.intro ho1 ho2)
 clear hL hT hX hU hz ht hu hc1 ho1 ho2 hZ hEbx hE2 hEa hs1
 go_enter Tryz.func23, Tryz.ntmps23
 go_upto_region 1 with fail
 rw [← hwbx, ← hbbx, ← hw2, ← hyx]
 clear hwbx hbbx hw2 hyx
 by_cases h1 : o1 = 0
 · have e1 : (o1 != 0) = false := by simp [h1]
   have H1 := Lib.hid h1
   clear h1
   go_wp2_with fail
   refine HC1.out.mono ?_
   rintro e w3 ⟨rfl, hE3⟩
   obtain ⟨b0, b1, b2, b3⟩ := cs_e4 hE3 ⟨b0, b1, b2, b3⟩
   have HT := Lib.hid (HT.out.ext hE3)
   have HE2 := Lib.hid (HE2.out.trans hE3)
   have HBB := Lib.hid (hs_ext hE3 HBB.out)
   have HBY := Lib.hid (hs_ext hE3 HBY.out)
   have hc2 := PValid_any (w := w3) (by have := HTZ.out; omega) HT.out
   rw [← HO.out.2] at hc2
   have HC2 := Lib.hid hc2
   clear hE3 hc2
   go_wp2_with fail
   refine HC2.out.mono ?_
   rintro e w4 ⟨rfl, hE4⟩
   obtain ⟨b0, b1, b2, b3⟩ := cs_e4 hE4 ⟨b0, b1, b2, b3⟩
   have HT := Lib.hid (HT.out.ext hE4)
   have HE2 := Lib.hid (HE2.out.trans hE4)
   have HBB := Lib.hid (hs_ext hE4 HBB.out)
   have HBY := Lib.hid (hs_ext hE4 HBY.out)
   clear hE4
   by_cases h2 : o2 = 0
   · have e2 : (o2 != 0) = false := by simp [h2]
     have HV0 : Hid (validT t = 0) := Lib.hid (by rw [← HO.out.2]; exact h2)
     have HR0 : Hid (rulesE R = 0) := Lib.hid (by rw [← HO.out.1]; exact H1.out)
     obtain ⟨CQ, hCQ⟩ : ∃ CQ, CQ = checkL R l t := ⟨_, rfl⟩
     have HZ2 : Hid (Z = endB CQ u) := Lib.hid (by rw [HZZ.out, if_neg (by rw [H1.out, h2]; simp [orE]), hCQ])
     have HCQ := Lib.hid hCQ
     clear h2 hCQ
     go_wp2_with fail
     go_loopw [23] (fun jv wr => Hid (∃ (j : Nat) (x : Tm) (ka : Option Addr) (kc : Nat), jv = .int .i64 j ∧ j ≤ l.length ∧ checkL R (l.drop j) x = CQ ∧ validT x = 0 ∧ wr.heap[bx]? = some (.cells #[.int .i64 x.kind, .string x.name, .int .i64 x.sort, .slice ka x.kids.length kc] 25) ∧ TmW wr (fun c => c ≠ bx) ka kc x ∧ Ext w wr ∧ wr.heap[yx]? = some (.cells #[.int .i64 u.kind, .string u.name, .int .i64 u.sort, .slice ua u.kids.length uc] 25))) (fun jv _ => l.length - (intOf jv).toNat)
     case atStart => exact Lib.hid ⟨0, t, ta, tc, rfl, by omega, HCQ.out.symm, HV0.out, HBB.out, HT0.out.ext HE2.out, HE2.out, HBY.out⟩
     case round =>
      obtain ⟨j, x, ka, kc, rfl, hj, hC, hv, hbx, hTx, hE, hby⟩ := hrel.out
      have HC := Lib.hid hC
      have HV := Lib.hid hv
      have HBX := Lib.hid hbx
      have HTX := Lib.hid hTx
      have HE := Lib.hid hE
      have HBU := Lib.hid hby
      have hlx := hTx.len
      have hcx := hTx.cap
      unfold maxLen at hcx
      have HX4 : Hid (sizeT x ≤ 400) := Lib.hid (validT_iff.1 hv).2.1
      clear hrel hC hv hbx hTx hE hby b0 b1 b2 b3
      obtain ⟨x0, x1, x2, x3⟩ := box4r (HBX.out)
      by_cases hlt : j < l.length
      · obtain ⟨q, hq⟩ : ∃ q, l[j]? = some q := ⟨_, List.getElem?_eq_getElem hlt⟩
        obtain ⟨xb, xo, pa, pc, rfl, r0, r1, hr64, hpl, hpc, hP⟩ := (HX0.out.ext HE.out).xAt hq
        unfold maxLen at hpc
        have HDR : Hid (l.drop j = q :: l.drop (j + 1)) := Lib.hid (by
         obtain ⟨h, e⟩ := List.getElem?_eq_some_iff.1 hq
         rw [List.drop_eq_getElem_cons h, e])
        obtain ⟨dx, hdx⟩ : ∃ zz9, zz9 = wr.heap.size := ⟨_, rfl⟩
        obtain ⟨wa, hwa⟩ : ∃ zz9, zz9 = wr.alloc (.cells #[.int .i64 q.1, .slice pa q.2.length pc] 35) := ⟨_, rfl⟩
        have hEr : Ext wr wa := by rw [hwa]; exact Ext.alloc _ _
        have hbd : wa.heap[dx]? = some (.cells #[.int .i64 q.1, .slice pa q.2.length pc] 35) := by rw [hwa, hdx]; exact hs_new
        have d0 : wa.cell? ⟨dx, 0, none⟩ = some (.int .i64 q.1) := by rw [cellc hbd]; rfl
        have d1 : wa.cell? ⟨dx, 1, none⟩ = some (.slice pa q.2.length pc) := by rw [cellc hbd]; rfl
        have HEr := Lib.hid hEr
        have HCS := Lib.hid (step_any (w := wa) HR0.out HV.out hr64 ((HL0.out.ext HE.out).ext hEr) (HTX.out.ext hEr) (hP.ext hEr))
        obtain ⟨x0, x1, x2, x3⟩ := cs_e4 hEr ⟨x0, x1, x2, x3⟩
        clear hr64 hP hEr hbd hq
        go_upto_region 6 with fail
        rw [← hwa, ← hdx]
        clear hwa hdx r0 r1
        go_wp2_with fail
        refine HCS.out.mono ?_
        rintro e w9 ⟨v9, er, rfl, hE9, hA9⟩
        by_cases h9 : (stepP R x q).1 = 0
        · obtain ⟨X, hX⟩ : ∃ X, X = (stepP R x q).2 := ⟨_, rfl⟩
          rw [← hX] at hA9
          obtain ⟨ya, yc, rfl, hTy⟩ := hA9.2.1 h9
          have her : er = 0 := hA9.1.trans h9
          subst her
          have HVX : Hid (validT X = 0) := Lib.hid (by rw [hX]; exact stepP_ok h9)
          have HNX : Hid (checkL R (l.drop (j + 1)) X = CQ) := Lib.hid (by rw [← HC.out, HDR.out, checkL, if_neg (by simpa using h9), hX])
          obtain ⟨nx, hnx⟩ : ∃ zz9, zz9 = w9.heap.size := ⟨_, rfl⟩
          obtain ⟨w10, hw10⟩ : ∃ zz9, zz9 = w9.alloc (.cells #[.int .i64 X.kind, .string X.name, .int .i64 X.sort, .slice ya X.kids.length yc] 25) := ⟨_, rfl⟩
          have hE10 : Ext w9 w10 := by rw [hw10]; exact Ext.alloc _ _
          have HBN : Hid (w10.heap[nx]? = some (.cells #[.int .i64 X.kind, .string X.name, .int .i64 X.sort, .slice ya X.kids.length yc] 25)) := Lib.hid (by rw [hw10, hnx]; exact hs_new)
          have hEb := (HEr.out.trans hE9).trans hE10
          have HEB := Lib.hid hEb
          have HTY := Lib.hid (hTy.keep (w' := w10) (S' := fun c => c ≠ bx) (fun c _ hc => hE10.block hc) (fun c h1 _ => by have := HEr.out.size; have := lt_of_get' HBX.out; omega))
          have HB10 := Lib.hid (hs_ext hEb HBX.out)
          have HY10 := Lib.hid (hs_ext hEb HBU.out)
          obtain ⟨n0, n1, n2, n3⟩ := box4r (HBN.out)
          clear hE9 hA9 h9 hX hTy hE10 hEb x0 x1 x2 x3 d0 d1
          go_upto_region 7 with fail
          rw [← hw10, ← hnx]
          clear hw10 hnx
          go_wp2_with (first
           | (refine wpList_storeT rfl (.tmp 5) (.tmp 36) rfl (g := bx) rfl (k := X.kind) (s := X.sort) (n := X.name) (ka := ya) (kl := X.kids.length) (kc := yc) rfl HB10.out rfl ?_
              intro wq c6 q6 e6 z6
              have HG6 := Lib.hid c6
              have HQ6 := Lib.hid q6
              have HEQ := Lib.hid (e6 w (HE.out.trans HEB.out) (by have := HNB.out; omega))
              clear c6 q6 e6 z6))
          go_roundw
          case rel => exact Lib.hid ⟨j + 1, X, ya, yc, by go_num, by omega, HNX.out, HVX.out, HG6.out, HTY.out.keep (fun c h1 _ => HQ6.out c h1) (fun c h1 _ => h1), HEQ.out, by rw [HQ6.out yx (by have := HNB.out; omega)]; exact HY10.out⟩
          case measure => simp [intOf]; omega
        · obtain rfl := hA9.2.2 h9
          have HF : Hid (Z = false) := Lib.hid (by rw [HZ2.out, ← HC.out, HDR.out, checkL, if_pos h9]; rfl)
          have ee : (er != 0) = true := by rw [hA9.1]; simpa using h9
          have HE9 : Hid (Ext w (w9.alloc (.cells #[.int .i64 0, .string ⟨#[]⟩, .int .i64 0, .slice none 0 0] 25))) := Lib.hid (HE.out.trans ((HEr.out.trans hE9).trans (Ext.alloc _ _)))
          clear hA9 hE9 h9
          go_wp2_with fail
          go_ret
          exact ⟨by rw [HF.out]; rfl, HE9.out⟩
      · have HF : Hid (Z = decide (cmpT x u = 0)) := Lib.hid (by
         have h := HC.out
         rw [List.drop_of_length_le (by omega), checkL] at h
         rw [HZ2.out, ← h]; rfl)
        have hjz : ¬ ((j : Int) < (l.length : Int)) := by omega
        obtain ⟨y0, y1, y2, y3⟩ := box4r (HBU.out)
        have HCC := Lib.hid (PCmp_any (w := wr) (s := x) (t := u) (by have := HX4.out; omega) (by have := HUZ.out; omega) HTX.out (HU0.out.ext HE.out))
        have hlu := HU0.out.len
        go_wp2_with fail
        refine HCC.out.mono ?_
        rintro e w9 ⟨rfl, hE9⟩
        have HE9 := Lib.hid (HE.out.trans hE9)
        clear hE9
        go_wp2_with fail
        go_ret
        exact ⟨rb (by rw [HF.out, Bool.eq_iff_iff]; simp), HE9.out⟩
   · have e2 : (o2 != 0) = true := by simp [h2]
     have HF : Hid (Z = false) := Lib.hid (by rw [HZZ.out, if_pos (by rw [H1.out]; simp [orE, h2])])
     clear h2
     go_wp2_with fail
     go_ret
     exact ⟨by rw [HF.out]; rfl, HE2.out⟩
 · have e1 : (o1 != 0) = true := by simp [h1]
   have HF : Hid (Z = false) := Lib.hid (by rw [HZZ.out, if_pos (by simp [orE, h1])])
   clear h1
   go_wp2_with fail
   refine HC1.out.mono ?_
   rintro e w3 ⟨rfl, hE3⟩
   have HE3 := Lib.hid (HE2.out.trans hE3)
   clear hE3
   go_wp2_with fail
   go_ret
   exact ⟨by rw [HF.out]; rfl, HE3.out⟩

abbrev Jn := List Rdx × List Rdx × Tm
def zeroJ : Jn := ([], [], zeroTm)
/-- the join by normal forms -/
def joinsP (R : List Rl) (t u : Tm) (fuel : Int) : Int × Jn :=
 if (normP R t fuel).1 ≠ 0 then ((normP R t fuel).1, zeroJ) else if (normP R u fuel).1 ≠ 0 then ((normP R u fuel).1, zeroJ) else
 if cmpT (normP R t fuel).2.1 (normP R u fuel).2.1 ≠ 0 then (11, zeroJ) else (0, (normP R t fuel).2.2, (normP R u fuel).2.2, (normP R t fuel).2.1)
/-- whether a join is one of two terms -/
def checkJ (R : List Rl) (t u : Tm) (j : Jn) : Bool := traceP R t j.1 j.2.2 && traceP R u j.2.1 j.2.2
def joinV (w : World) (S : Nat → Prop) (v : Value) (j : Jn) : Prop :=
 ∃ la lc ra rc ja jc, v = .agg #[.slice la j.1.length lc, .slice ra j.2.1.length rc, .int .i64 j.2.2.kind, .string j.2.2.name, .int .i64 j.2.2.sort, .slice ja j.2.2.kids.length jc] ∧ LsG elX w S (.slice la j.1.length lc) j.1 ∧ LsG elX w S (.slice ra j.2.1.length rc) j.2.1 ∧ TmW w S ja jc j.2.2
def joinR (w : World) (S : Nat → Prop) (v : Value) (er : Int) (Q : Int × Jn) : Prop :=
 er = Q.1 ∧ (Q.1 = 0 → joinV w S v Q.2) ∧ (Q.1 ≠ 0 → v = .agg #[.slice none 0 0, .slice none 0 0, .int .i64 0, .string ⟨#[]⟩, .int .i64 0, .slice none 0 0])
theorem normF_valid {R : List Rl} : ∀ (n : Nat) (u : Tm) (T : List Rdx), validT u = 0 → (normF R n u T).1 = 0 → validT (normF R n u T).2.1 = 0
 | 0, u, T, hu, h => by
   cases hf : firstP R u with
   | none => rw [normF_none hf]; exact hu
   | some q => rw [normF_fuel hf] at h; simp at h
 | n + 1, u, T, hu, h => by
   cases hf : firstP R u with
   | none => rw [normF_none hf]; exact hu
   | some q =>
     by_cases hs : (stepP R u q).1 = 0
     · rw [normF_step hf hs (by omega), Nat.add_sub_cancel] at h ⊢
       exact normF_valid n _ _ (stepP_ok hs) h
     · rw [normF_err hf hs (by omega)] at h
       exact absurd h hs
theorem normP_valid {R : List Rl} {t : Tm} {fuel : Int} (h : (normP R t fuel).1 = 0) : validT (normP R t fuel).2.1 = 0 := by
 unfold normP at h ⊢
 split at h
 · rename_i h0; exact absurd h h0
 · rename_i h0
   split at h
   · rename_i h1
     rw [if_neg h0, if_pos h1]
     exact normF_valid _ _ _ (orE_split (Classical.not_not.1 h0)).2 h
   · simp at h

theorem sizJ : (Tryz.prog.info? 48).map (·.size) = some 6 := by kernel_rfl
theorem built_join (la ra : Option Addr) (ln lc rn rc : Nat) (k s : Int) (n : ByteArray) (ja : Option Addr) (jl jc : Nat) : Tryz.prog.built 48 [(0, .slice la ln lc), (1, .slice ra rn rc), (2, .agg #[.int .i64 k, .string n, .int .i64 s, .slice ja jl jc])] = some #[.slice la ln lc, .slice ra rn rc, .int .i64 k, .string n, .int .i64 s, .slice ja jl jc] := by kernel_rfl
theorem built_join0 : Tryz.prog.built 48 [] = some #[.slice none 0 0, .slice none 0 0, .int .i64 0, .string ⟨#[]⟩, .int .i64 0, .slice none 0 0] := by kernel_rfl
theorem wpList_storeJ {ops : Array Oper} {rest : List Oper} {o : Oper} {a : Act} {w : World} {Q : Exit → Act → World → Prop} (hgd : o.guard = none) (x y : Operand) (ho : o.op = .store 48 x y)
 {g : Nat} (hx : a.eval x = .pointer (some ⟨g, 0, none⟩)) {la ra ja : Option Addr} {ln lc rn rc jl jc : Nat} {k s : Int} {n : ByteArray} (hy : a.eval y = .agg #[.slice la ln lc, .slice ra rn rc, .int .i64 k, .string n, .int .i64 s, .slice ja jl jc])
 {old : Array Value} (hg : w.heap[g]? = some (.cells old 48)) (ho2 : old.size = 6)
 (hK : ∀ w', w'.heap[g]? = some (.cells #[.slice la ln lc, .slice ra rn rc, .int .i64 k, .string n, .int .i64 s, .slice ja jl jc] 48) → (∀ q, q ≠ g → w'.heap[q]? = w.heap[q]?) → (∀ W0, Ext W0 w → W0.heap.size ≤ g → Ext W0 w') → w'.heap.size = w.heap.size → wpList Tryz.prog ops Q rest (a.put o.dst undef) w') :
 wpList Tryz.prog ops Q (o :: rest) a w := by
 refine wpList_store_all hgd 48 x y ho g _ hx hy 48 old hg sizJ ho2 (by simp [Value.oneCell']) ?_
 exact hK _ (setRow_heap w g old _ _ _ hg) (fun q hq => setRow_other w g q _ hq) (fun W0 h hg => h.setRow hg _) (size_setRow _ _ _)
theorem ret_join2 {F : Func} {p u g : Nat} {tmps : Array Value} {w : World} {cs : Array Value} {R : Ending → World → Prop} (hr : F.results = #[.cell p 48, .tmp u]) (hp : tmps.getD p undef = .pointer (some ⟨g, 0, none⟩)) (hg : w.heap[g]? = some (.cells cs 48)) (hs : cs.size = 6) (h : R (.returned (.tuple #[.agg cs, tmps.getD u undef])) w) :
 bodyPost Tryz.prog F R .ret ⟨tmps, []⟩ w := by
 refine bodyPost_ret ?_ rfl h
 rw [results_cell_tmp hr, hp]
 simp only [asAddr, Sem.run_pure, Result.andThen_ok]
 rw [run_loadVar_row w g _ _ cs _ _ hg Tryz.underlying48 rfl (by rw [hs]; exact sizJ)]
 rfl

set_option maxRecDepth 100000 in
set_option maxHeartbeats 8000000 in
theorem PCheckJoin_any {w : World} {S S' S'' S3 S4 S5 : Nat → Prop} {a ta ua la ra ja : Option Addr} {cap tc uc lc rc jc : Nat} {R : List Rl} {t u : Tm} {j : Jn} (hz : smallR R) (hL : LsG elP w S (.slice a R.length cap) R) (ht : sizeT t ≤ 100000) (hT : TmW w S' ta tc t) (hu : sizeT u ≤ 100000) (hU : TmW w S'' ua uc u)
 (hA : LsG elX w S3 (.slice la j.1.length lc) j.1) (hB : LsG elX w S4 (.slice ra j.2.1.length rc) j.2.1) (hj : sizeT j.2.2 ≤ 100000) (hJ : TmW w S5 ja jc j.2.2) :
 Calls Tryz.prog 26 #[.slice a R.length cap, .agg #[.int .i64 t.kind, .string t.name, .int .i64 t.sort, .slice ta t.kids.length tc], .agg #[.int .i64 u.kind, .string u.name, .int .i64 u.sort, .slice ua u.kids.length uc], .agg #[.slice la j.1.length lc, .slice ra j.2.1.length rc, .int .i64 j.2.2.kind, .string j.2.2.name, .int .i64 j.2.2.sort, .slice ja j.2.2.kids.length jc]] w fun e w' => e = .returned (.bool (checkJ R t u j)) ∧ Ext w w' := by
 obtain ⟨A, B, x⟩ := j
 simp only at hA hB hj hJ ⊢
 obtain ⟨-, hll, hlc⟩ := hL.len
 unfold maxLen at hlc
 obtain ⟨-, hal, hac⟩ := hA.len
 unfold maxLen at hac
 obtain ⟨-, hbl, hbc⟩ := hB.len
 unfold maxLen at hbc
 have hxl := hJ.len
 have hxc := hJ.cap
 unfold maxLen at hxc
 obtain ⟨bx, w1, hbbx, hwbx, HBbx, hEbx⟩ := box_new w (.cells #[.int .i64 t.kind, .string t.name, .int .i64 t.sort, .slice ta t.kids.length tc] 25)
 have hs1 : w1.heap.size = bx + 1 := by rw [hwbx, hbbx, World.size_alloc]
 obtain ⟨yx, hyx⟩ : ∃ zz9, zz9 = bx + 1 := ⟨_, rfl⟩
 obtain ⟨w2, hw2⟩ : ∃ zz9, zz9 = w1.alloc (.cells #[.int .i64 u.kind, .string u.name, .int .i64 u.sort, .slice ua u.kids.length uc] 25) := ⟨_, rfl⟩
 have hE2 : Ext w1 w2 := by rw [hw2]; exact Ext.alloc _ _
 have hs2 : w2.heap.size = yx + 1 := by rw [hw2, World.size_alloc, hs1, hyx]
 have hby : w2.heap[yx]? = some (.cells #[.int .i64 u.kind, .string u.name, .int .i64 u.sort, .slice ua u.kids.length uc] 25) := by rw [hw2, hyx, ← hs1]; exact hs_new
 obtain ⟨jx, hjx⟩ : ∃ zz9, zz9 = yx + 1 := ⟨_, rfl⟩
 obtain ⟨w3, hw3⟩ : ∃ zz9, zz9 = w2.alloc (.cells #[.slice la A.length lc, .slice ra B.length rc, .int .i64 x.kind, .string x.name, .int .i64 x.sort, .slice ja x.kids.length jc] 48) := ⟨_, rfl⟩
 have hE3 : Ext w2 w3 := by rw [hw3]; exact Ext.alloc _ _
 have hbj : w3.heap[jx]? = some (.cells #[.slice la A.length lc, .slice ra B.length rc, .int .i64 x.kind, .string x.name, .int .i64 x.sort, .slice ja x.kids.length jc] 48) := by rw [hw3, hjx, ← hs2]; exact hs_new
 have hE := (hEbx.trans hE2).trans hE3
 obtain ⟨b0, b1, b2, b3⟩ := box4r (hs_ext (hE2.trans hE3) HBbx.out)
 obtain ⟨y0, y1, y2, y3⟩ := box4r (hs_ext hE3 hby)
 have j0 : w3.cell? ⟨jx, 0, none⟩ = some (.slice la A.length lc) := by rw [cellc hbj]; rfl
 have j1 : w3.cell? ⟨jx, 1, none⟩ = some (.slice ra B.length rc) := by rw [cellc hbj]; rfl
 have j2 : w3.cell? ⟨jx, 2, none⟩ = some (.int .i64 x.kind) := by rw [cellc hbj]; rfl
 have j3 : w3.cell? ⟨jx, 3, none⟩ = some (.string x.name) := by rw [cellc hbj]; rfl
 have j4 : w3.cell? ⟨jx, 4, none⟩ = some (.int .i64 x.sort) := by rw [cellc hbj]; rfl
 have j5 : w3.cell? ⟨jx, 5, none⟩ = some (.slice ja x.kids.length jc) := by rw [cellc hbj]; rfl
 have HE := Lib.hid hE
 have hc1 := PTrace_any (w := w3) hz (hL.ext hE) ht (hT.ext hE) (hA.ext hE) hj (hJ.ext hE)
 have hc2 := fun (w' : World) (h : Ext w3 w') => PTrace_any (w := w') hz ((hL.ext hE).ext h) hu ((hU.ext hE).ext h) ((hB.ext hE).ext h) hj ((hJ.ext hE).ext h)
 obtain ⟨p, hp⟩ : ∃ p, p = traceP R t A x := ⟨_, rfl⟩
 obtain ⟨q, hq⟩ : ∃ q, q = traceP R u B x := ⟨_, rfl⟩
 have hP : checkJ R t u (A, B, x) = (p && q) := by rw [hp, hq]; rfl
 rw [hP]
 rw [← hp] at hc1
 simp only [← hq] at hc2
 have HC1 := Lib.hid hc1
 have HC2 := Lib.hid hc2
 clear hL hT hU hA hB hJ hz ht hu hj hp hq hP hc1 hc2 hE hE2 hE3 hEbx hs1 hs2 hby hbj
 go_enter Tryz.func26, Tryz.ntmps26
 go_upto_region 1 with fail
 rw [← hwbx, ← hbbx, ← hw2]
 try rw [← hyx]
 rw [← hw3]
 try rw [← hjx]
 clear hwbx hbbx hw2 hyx hw3 hjx
 go_wp2_with fail
 refine HC1.out.mono ?_
 rintro e w4 ⟨rfl, hE4⟩
 have HE4 := Lib.hid hE4
 obtain ⟨y0, y1, y2, y3, j1, j2, j3, j4, j5⟩ := cs_e9 hE4 ⟨y0, y1, y2, y3, j1, j2, j3, j4, j5⟩
 clear hE4
 cases p with
 | false =>
   go_wp2_with fail
   go_ret
   exact ⟨rfl, HE.out.trans HE4.out⟩
 | true =>
   go_wp2_with fail
   refine (HC2.out w4 HE4.out).mono ?_
   rintro e w5 ⟨rfl, hE5⟩
   have HE5 := Lib.hid (HE.out.trans (HE4.out.trans hE5))
   clear hE5
   go_wp2_with fail
   go_ret
   exact ⟨by first | rfl | (rw [Bool.true_and]; rfl), HE5.out⟩

theorem sizeT_valid {t : Tm} (h : validT t = 0) : sizeT t ≤ 400 := (validT_iff.1 h).2.1

set_option maxRecDepth 100000 in
set_option maxHeartbeats 8000000 in
theorem PJoins_any {w : World} {S S' S'' : Nat → Prop} {a ta ua : Option Addr} {cap tc uc : Nat} {R : List Rl} {t u : Tm} {fuel : Int} (hz : smallR R) (hf : I64 fuel) (hL : LsG elP w S (.slice a R.length cap) R) (ht : sizeT t ≤ 100000) (hT : TmW w S' ta tc t) (hu : sizeT u ≤ 100000) (hU : TmW w S'' ua uc u) :
 Calls Tryz.prog 30 #[.slice a R.length cap, .agg #[.int .i64 t.kind, .string t.name, .int .i64 t.sort, .slice ta t.kids.length tc], .agg #[.int .i64 u.kind, .string u.name, .int .i64 u.sort, .slice ua u.kids.length uc], .int .i64 fuel] w fun e w' => ∃ v er, e = .returned (.tuple #[v, .int .i64 er]) ∧ Ext w w' ∧ joinR w' (fun c => w.heap.size ≤ c) v er (joinsP R t u fuel) := by
 obtain ⟨-, hll, hlc⟩ := hL.len
 unfold maxLen at hlc
 obtain ⟨bx, w1, hbbx, hwbx, HBbx, hEbx⟩ := box_new w (.cells #[.int .i64 t.kind, .string t.name, .int .i64 t.sort, .slice ta t.kids.length tc] 25)
 have hs1 : w1.heap.size = bx + 1 := by rw [hwbx, hbbx, World.size_alloc]
 obtain ⟨yx, hyx⟩ : ∃ zz9, zz9 = bx + 1 := ⟨_, rfl⟩
 obtain ⟨w2, hw2⟩ : ∃ zz9, zz9 = w1.alloc (.cells #[.int .i64 u.kind, .string u.name, .int .i64 u.sort, .slice ua u.kids.length uc] 25) := ⟨_, rfl⟩
 have hE2 : Ext w1 w2 := by rw [hw2]; exact Ext.alloc _ _
 have hs2 : w2.heap.size = yx + 1 := by rw [hw2, World.size_alloc, hs1, hyx]
 have hby : w2.heap[yx]? = some (.cells #[.int .i64 u.kind, .string u.name, .int .i64 u.sort, .slice ua u.kids.length uc] 25) := by rw [hw2, hyx, ← hs1]; exact hs_new
 obtain ⟨jx, hjx⟩ : ∃ zz9, zz9 = yx + 1 := ⟨_, rfl⟩
 obtain ⟨w3, hw3⟩ : ∃ zz9, zz9 = w2.alloc (.cells #[.slice none 0 0, .slice none 0 0, .int .i64 0, .string ⟨#[]⟩, .int .i64 0, .slice none 0 0] 48) := ⟨_, rfl⟩
 have hE3 : Ext w2 w3 := by rw [hw3]; exact Ext.alloc _ _
 have HBJ : Hid (w3.heap[jx]? = some (.cells #[.slice none 0 0, .slice none 0 0, .int .i64 0, .string ⟨#[]⟩, .int .i64 0, .slice none 0 0] 48)) := Lib.hid (by rw [hw3, hjx, ← hs2]; exact hs_new)
 have hE := (hEbx.trans hE2).trans hE3
 obtain ⟨b0, b1, b2, b3⟩ := box4r (hs_ext (hE2.trans hE3) HBbx.out)
 obtain ⟨y0, y1, y2, y3⟩ := box4r (hs_ext hE3 hby)
 have HE := Lib.hid hE
 have HS3 : Hid (w.heap.size ≤ w3.heap.size ∧ jx < w3.heap.size) := Lib.hid ⟨hE.size, lt_of_get' HBJ.out⟩
 have HNB : Hid (w.heap.size = bx ∧ jx = bx + 2) := Lib.hid ⟨hbbx.symm, by omega⟩
 have hc1 := PNormal_any (w := w3) hz hf (hL.ext hE) ht (hT.ext hE)
 have hc2 := fun (w' : World) (h : Ext w3 w') => PNormal_any (w := w') hz hf ((hL.ext hE).ext h) hu ((hU.ext hE).ext h)
 obtain ⟨A, hA⟩ : ∃ A, A = normP R t fuel := ⟨_, rfl⟩
 obtain ⟨B, hB⟩ : ∃ B, B = normP R u fuel := ⟨_, rfl⟩
 have HVA : Hid (A.1 = 0 → validT A.2.1 = 0) := Lib.hid (fun h => by rw [hA] at h ⊢; exact normP_valid h)
 have HVB : Hid (B.1 = 0 → validT B.2.1 = 0) := Lib.hid (fun h => by rw [hB] at h ⊢; exact normP_valid h)
 obtain ⟨Q, hQ⟩ : ∃ Q, Q = joinsP R t u fuel := ⟨_, rfl⟩
 rw [← hQ]
 unfold joinsP at hQ
 rw [← hA, ← hB] at hQ
 rw [← hA] at hc1
 simp only [← hB] at hc2
 have HQ0 := Lib.hid hQ
 have HC1 := Lib.hid hc1
 have HC2 := Lib.hid hc2
 have HNZ : Hid True := Lib.hid trivial
 clear hL hT hU hz ht hu hf hA hB hQ hc1 hc2 hE hE2 hE3 hEbx hs1 hs2 hby
 go_enter Tryz.func30, Tryz.ntmps30
 go_upto_region 1 with fail
 rw [← hwbx, ← hbbx, ← hw2]
 try rw [← hyx]
 rw [← hw3]
 try rw [← hjx]
 clear hwbx hbbx hw2 hyx hw3 hjx
 go_wp2_with fail
 refine HC1.out.mono ?_
 rintro e w4 ⟨v4, tv4, er, rfl, hE4, rfl, hA0, hA1⟩
 by_cases h4 : A.1 = 0
 · obtain ⟨⟨xa, xc, rfl, hTx⟩, hLx⟩ := hA0 h4
   obtain ⟨la, lc, rfl, hll4, hlc4⟩ := hLx.slice
   unfold maxLen at hlc4
   have ea : (A.1 != 0) = false := by rw [h4]; rfl
   obtain ⟨wx, hwx⟩ : ∃ zz9, zz9 = w4.heap.size := ⟨_, rfl⟩
   obtain ⟨w5, hw5⟩ : ∃ zz9, zz9 = w4.alloc (.cells #[.int .i64 A.2.1.kind, .string A.2.1.name, .int .i64 A.2.1.sort, .slice xa A.2.1.kids.length xc] 25) := ⟨_, rfl⟩
   have hE5 : Ext w4 w5 := by rw [hw5]; exact Ext.alloc _ _
   have hbw : w5.heap[wx]? = some (.cells #[.int .i64 A.2.1.kind, .string A.2.1.name, .int .i64 A.2.1.sort, .slice xa A.2.1.kids.length xc] 25) := by rw [hw5, hwx]; exact hs_new
   obtain ⟨a0, a1, a2, a3⟩ := box4r (hbw)
   have hE45 := hE4.trans hE5
   have HE45 := Lib.hid hE45
   have H4 := Lib.hid h4
   have HTX := Lib.hid (hTx.ext hE5)
   have HLX := Lib.hid (hLx.ext hE5)
   obtain ⟨b0, b1, b2, b3, y0, y1, y2, y3⟩ := cs_e8 hE45 ⟨b0, b1, b2, b3, y0, y1, y2, y3⟩
   have HBJ := Lib.hid (hs_ext hE45 HBJ.out)
   have HE := Lib.hid (HE.out.trans hE45)
   clear hA0 hA1 hTx hLx hE4 hE5 hbw hE45 h4
   go_upto_region 2 with fail
   rw [← hw5, ← hwx]
   clear hw5 hwx
   go_wp2_with fail
   refine (HC2.out w5 HE45.out).mono ?_
   rintro e w6 ⟨v6, tv6, er, rfl, hE6, rfl, hB0, hB1⟩
   by_cases h6 : B.1 = 0
   · obtain ⟨⟨za, zc, rfl, hTz⟩, hLz⟩ := hB0 h6
     obtain ⟨ra, rc, rfl, hll6, hlc6⟩ := hLz.slice
     unfold maxLen at hlc6
     have eb : (B.1 != 0) = false := by rw [h6]; rfl
     obtain ⟨zx, hzx⟩ : ∃ zz9, zz9 = w6.heap.size := ⟨_, rfl⟩
     obtain ⟨w7, hw7⟩ : ∃ zz9, zz9 = w6.alloc (.cells #[.int .i64 B.2.1.kind, .string B.2.1.name, .int .i64 B.2.1.sort, .slice za B.2.1.kids.length zc] 25) := ⟨_, rfl⟩
     have hE7 : Ext w6 w7 := by rw [hw7]; exact Ext.alloc _ _
     have hbz : w7.heap[zx]? = some (.cells #[.int .i64 B.2.1.kind, .string B.2.1.name, .int .i64 B.2.1.sort, .slice za B.2.1.kids.length zc] 25) := by rw [hw7, hzx]; exact hs_new
     obtain ⟨z0, z1, z2, z3⟩ := box4r (hbz)
     have hE57 := hE6.trans hE7
     have HTZ := Lib.hid (hTz.ext hE7)
     have HLZ := Lib.hid (hLz.ext hE7)
     have HS5 : Hid (w3.heap.size ≤ w5.heap.size) := Lib.hid HE45.out.size
     have H6 := Lib.hid h6
     obtain ⟨a0, a1, a2, a3⟩ := cs_e4 hE57 ⟨a0, a1, a2, a3⟩
     have HBJ := Lib.hid (hs_ext hE57 HBJ.out)
     have HE := Lib.hid (HE.out.trans hE57)
     have HTX := Lib.hid (HTX.out.ext hE57)
     have HLX := Lib.hid (HLX.out.ext hE57)
     have HCC := Lib.hid (PCmp_any (w := w7) (s := A.2.1) (t := B.2.1) (by have := sizeT_valid (HVA.out H4.out); omega) (by have := sizeT_valid (HVB.out h6); omega) HTX.out HTZ.out)
     obtain ⟨c, hc⟩ : ∃ c, c = cmpT A.2.1 B.2.1 := ⟨_, rfl⟩
     rw [← hc] at HCC
     have HQ1 : Hid (Q = if c ≠ 0 then (11, zeroJ) else (0, A.2.2, B.2.2, A.2.1)) := Lib.hid (by rw [HQ0.out, if_neg (by simpa using H4.out), if_neg (by simpa using h6), hc])
     clear hB0 hB1 hTz hLz hE6 hE7 hbz hE57 h6 hc
     go_upto_region 5 with fail
     rw [← hw7, ← hzx]
     clear hw7 hzx
     go_wp2_with fail
     refine HCC.out.mono ?_
     rintro e w8 ⟨rfl, hE8⟩
     obtain ⟨a0, a1, a2, a3⟩ := cs_e4 hE8 ⟨a0, a1, a2, a3⟩
     have HBJ := Lib.hid (hs_ext hE8 HBJ.out)
     have HE := Lib.hid (HE.out.trans hE8)
     have HTX := Lib.hid (HTX.out.ext hE8)
     have HLX := Lib.hid (HLX.out.ext hE8)
     have HLZ := Lib.hid (HLZ.out.ext hE8)
     clear hE8
     by_cases hc0 : c = 0
     · have ec : (c != 0) = false := by simp [hc0]
       have HQ : Hid (Q = (0, A.2.2, B.2.2, A.2.1)) := Lib.hid (by rw [HQ1.out, if_neg (by simpa using hc0)])
       clear hc0
       go_wp2_with (first
        | (refine wpList_buildG (T := 48) rfl [_, _, _] rfl [(0, .slice la A.2.2.length lc), (1, .slice ra B.2.2.length rc), (2, .agg #[.int .i64 A.2.1.kind, .string A.2.1.name, .int .i64 A.2.1.sort, .slice xa A.2.1.kids.length xc])] rfl (built_join _ _ _ _ _ _ _ _ _ _ _ _) ?_)
        | (refine wpList_storeJ rfl (.tmp 8) (.tmp 47) rfl (g := jx) rfl (la := la) (ln := A.2.2.length) (lc := lc) (ra := ra) (rn := B.2.2.length) (rc := rc) (k := A.2.1.kind) (s := A.2.1.sort) (n := A.2.1.name) (ja := xa) (jl := A.2.1.kids.length) (jc := xc) rfl HBJ.out rfl ?_
           intro wq c6 q6 e6 z6
           have HG6 := Lib.hid c6
           have HQ6 := Lib.hid q6
           have HZ6 := Lib.hid (Nat.le_of_eq z6.symm)
           have HEQ := Lib.hid (e6 w HE.out (by have := HNB.out; omega))
           clear c6 q6 e6 z6))
       refine ret_join2 (g := jx) rfl rfl HG6.out rfl ⟨_, _, rfl, HEQ.out, by rw [HQ.out], fun _ => ?_, fun h => absurd (by rw [HQ.out]) h⟩
       rw [HQ.out]
       refine ⟨la, lc, ra, rc, xa, xc, rfl, ?_, ?_, ?_⟩
       · exact HLX.out.keep (fun c h1 _ => HQ6.out c (by have := HS3.out; omega)) (fun c h1 _ => by have := HS3.out; omega) HZ6.out
       · exact HLZ.out.keep (fun c h1 _ => HQ6.out c (by have := HS3.out; have := HS5.out; omega)) (fun c h1 _ => by have := HS3.out; have := HS5.out; omega) HZ6.out
       · exact HTX.out.keep (fun c h1 _ => HQ6.out c (by have := HS3.out; omega)) (fun c h1 _ => by have := HS3.out; omega)
     · have ec : (c != 0) = true := by simp [hc0]
       have HQ : Hid (Q = (11, zeroJ)) := Lib.hid (by rw [HQ1.out, if_pos hc0])
       clear hc0
       go_wp2_with (first
        | (refine wpList_buildG (T := 48) rfl [] rfl [] rfl built_join0 ?_)
        | (refine wpList_storeJ rfl (.tmp 8) (.tmp 43) rfl (g := jx) rfl (la := none) (ln := 0) (lc := 0) (ra := none) (rn := 0) (rc := 0) (k := 0) (s := 0) (n := ⟨#[]⟩) (ja := none) (jl := 0) (jc := 0) rfl HBJ.out rfl ?_
           intro wq c6 q6 e6 z6
           have HG6 := Lib.hid c6
           have HEQ := Lib.hid (e6 w HE.out (by have := HNB.out; omega))
           clear c6 q6 e6 z6))
       refine ret_join2 (g := jx) rfl rfl HG6.out rfl ⟨_, _, rfl, HEQ.out, ?_, ?_, ?_⟩
       · rw [HQ.out]
       · intro h; rw [HQ.out] at h; exact absurd h (by first | decide | exact HNZ.out)
       · intro _; rfl
   · have HQ : Hid (Q = (B.1, zeroJ)) := Lib.hid (by rw [HQ0.out, if_neg (by simpa using H4.out), if_pos h6])
     obtain ⟨rfl, rfl⟩ := hB1 h6
     have eb : (B.1 != 0) = true := by simpa using h6
     have H6 := Lib.hid h6
     have HJ4 : Hid ((w6.alloc (.cells #[.int .i64 0, .string ⟨#[]⟩, .int .i64 0, .slice none 0 0] 25)).heap[jx]? = some (.cells #[.slice none 0 0, .slice none 0 0, .int .i64 0, .string ⟨#[]⟩, .int .i64 0, .slice none 0 0] 48)) := Lib.hid (hs_ext (hE6.trans (Ext.alloc _ _)) HBJ.out)
     have HE4 : Hid (Ext w (w6.alloc (.cells #[.int .i64 0, .string ⟨#[]⟩, .int .i64 0, .slice none 0 0] 25))) := Lib.hid (HE.out.trans (hE6.trans (Ext.alloc _ _)))
     clear hB0 hB1 hE6 h6
     go_wp2_with (first
      | (refine wpList_buildG (T := 48) rfl [] rfl [] rfl built_join0 ?_)
      | (refine wpList_storeJ rfl (.tmp 8) (.tmp 37) rfl (g := jx) rfl (la := none) (ln := 0) (lc := 0) (ra := none) (rn := 0) (rc := 0) (k := 0) (s := 0) (n := ⟨#[]⟩) (ja := none) (jl := 0) (jc := 0) rfl HJ4.out rfl ?_
         intro wq c6 q6 e6 z6
         have HG6 := Lib.hid c6
         have HEQ := Lib.hid (e6 w HE4.out (by have := HNB.out; omega))
         clear c6 q6 e6 z6))
     refine ret_join2 (g := jx) rfl rfl HG6.out rfl ⟨_, _, rfl, HEQ.out, ?_, ?_, ?_⟩
     · rw [HQ.out]
     · intro h; rw [HQ.out] at h; exact absurd h H6.out
     · intro _; rfl
 · have HQ : Hid (Q = (A.1, zeroJ)) := Lib.hid (by rw [HQ0.out, if_pos h4])
   obtain ⟨rfl, rfl⟩ := hA1 h4
   have ea : (A.1 != 0) = true := by simpa using h4
   have H4 := Lib.hid h4
   have HJ4 : Hid ((w4.alloc (.cells #[.int .i64 0, .string ⟨#[]⟩, .int .i64 0, .slice none 0 0] 25)).heap[jx]? = some (.cells #[.slice none 0 0, .slice none 0 0, .int .i64 0, .string ⟨#[]⟩, .int .i64 0, .slice none 0 0] 48)) := Lib.hid (hs_ext (hE4.trans (Ext.alloc _ _)) HBJ.out)
   have HE4 : Hid (Ext w (w4.alloc (.cells #[.int .i64 0, .string ⟨#[]⟩, .int .i64 0, .slice none 0 0] 25))) := Lib.hid (HE.out.trans (hE4.trans (Ext.alloc _ _)))
   clear hA0 hA1 hE4 h4
   go_wp2_with (first
    | (refine wpList_buildG (T := 48) rfl [] rfl [] rfl built_join0 ?_)
    | (refine wpList_storeJ rfl (.tmp 8) (.tmp 25) rfl (g := jx) rfl (la := none) (ln := 0) (lc := 0) (ra := none) (rn := 0) (rc := 0) (k := 0) (s := 0) (n := ⟨#[]⟩) (ja := none) (jl := 0) (jc := 0) rfl HJ4.out rfl ?_
       intro wq c6 q6 e6 z6
       have HG6 := Lib.hid c6
       have HEQ := Lib.hid (e6 w HE4.out (by have := HNB.out; omega))
       clear c6 q6 e6 z6))
   refine ret_join2 (g := jx) rfl rfl HG6.out rfl ⟨_, _, rfl, HEQ.out, ?_, ?_, ?_⟩
   · rw [HQ.out]
   · intro h; rw [HQ.out] at h; exact absurd h H4.out
   · intro _; rfl

end Go.Proofs.YtpfnlbaloaohgaaGreat

namespace Go.Proofs.YtpfnlbaloaohgaaGreat
open Go
set_option linter.unusedVariables false
set_option linter.unusedSimpArgs false

theorem normF_run {R : List Rl} : ∀ (n : Nat) (u : Tm) (T : List Rdx), (normF R n u T).1 = 0 → ∃ L, (normF R n u T).2.2 = T ++ L ∧ checkL R L u = some (normF R n u T).2.1 ∧ firstP R (normF R n u T).2.1 = none
 | 0, u, T, h => by
   cases hf : firstP R u with
   | none => rw [normF_none hf]; exact ⟨[], by simp, rfl, hf⟩
   | some q => rw [normF_fuel hf] at h; simp at h
 | n + 1, u, T, h => by
   cases hf : firstP R u with
   | none => rw [normF_none hf]; exact ⟨[], by simp, rfl, hf⟩
   | some q =>
     by_cases hs : (stepP R u q).1 = 0
     · rw [normF_step hf hs (by omega), Nat.add_sub_cancel] at h ⊢
       obtain ⟨L, h1, h2, h3⟩ := normF_run n _ _ h
       refine ⟨q :: L, by rw [h1]; simp, ?_, h3⟩
       rw [checkL, if_neg (by simpa using hs)]
       exact h2
     · rw [normF_err hf hs (by omega)] at h
       exact absurd h hs
theorem cmpT_self (t : Tm) : cmpT t t = 0 := (cmpT_zero t t).2 rfl
theorem normP_good {R : List Rl} {t : Tm} {fuel : Int} (h : (normP R t fuel).1 = 0) : traceP R t (normP R t fuel).2.2 (normP R t fuel).2.1 = true ∧ normalP R (normP R t fuel).2.1 = true := by
 have hv := normP_valid h
 unfold normP at h hv ⊢
 split at h
 · rename_i h0; exact absurd h h0
 · rename_i h0
   split at h
   · rename_i h1
     rw [if_neg h0, if_pos h1] at hv ⊢
     obtain ⟨L, h2, h3, h4⟩ := normF_run _ _ _ h
     have h5 := orE_split (Classical.not_not.1 h0)
     refine ⟨?_, ?_⟩
     · unfold traceP
       rw [if_neg h0, h2, List.nil_append, h3]
       simp [endB, cmpT_self]
     · unfold normalP
       rw [h5.1, hv, h4]; rfl
   · simp at h
theorem joinsP_good {R : List Rl} {t u : Tm} {fuel : Int} (h : (joinsP R t u fuel).1 = 0) : checkJ R t u (joinsP R t u fuel).2 = true := by
 unfold joinsP at h ⊢
 split at h
 · rename_i h0; exact absurd h h0
 · rename_i h0
   split at h
   · rename_i h1; exact absurd h h1
   · rename_i h1
     split at h
     · simp at h
     · rename_i h2
       rw [if_neg h0, if_neg h1, if_neg h2]
       unfold checkJ
       have ha := (normP_good (Classical.not_not.1 h0)).1
       have hb := (normP_good (Classical.not_not.1 h1)).1
       have e := (cmpT_zero _ _).1 (Classical.not_not.1 h2)
       simp only
       rw [ha, e, hb]; rfl

end Go.Proofs.YtpfnlbaloaohgaaGreat
