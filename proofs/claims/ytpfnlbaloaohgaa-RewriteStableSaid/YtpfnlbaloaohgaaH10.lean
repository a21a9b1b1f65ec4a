/- Contracts: normal forms. Contracts: checks of traces. Contracts: joins. Contracts: joins by normal forms. -/
import Derived.Test.YtpfnlbaloaohgaaH7
namespace Go.Proofs.Ytpfnlbaloaohgaa
open Go Go.RowKit
set_option linter.unusedVariables false
set_option linter.unusedSimpArgs false

/-- what n more steps at the first redexes lead to -/
def normF (R : List Rl) : Nat → Tm → List Rdx → Int × Tm × List Rdx
 | 0, u, T => match firstP R u with | none => (0, u, T) | some _ => (14, zeroTm, [])
 | n + 1, u, T => match firstP R u with | none => (0, u, T) | some r => if (stepP R u r).1 ≠ 0 then ((stepP R u r).1, zeroTm, []) else normF R n (stepP R u r).2 (T ++ [r])
/-- the normal form of a term -/
def normP (R : List Rl) (t : Tm) (fuel : Int) : Int × Tm × List Rdx :=
 if orE (rulesE R) (validT t) ≠ 0 then (orE (rulesE R) (validT t), zeroTm, []) else if 0 ≤ fuel ∧ fuel ≤ 1000 then normF R fuel.toNat t [] else (7, zeroTm, [])
def normR (w : World) (S : Nat → Prop) (v tv : Value) (er : Int) (Q : Int × Tm × List Rdx) : Prop :=
 er = Q.1 ∧ (Q.1 = 0 → IsS w S v Q.2.1 ∧ LsG elX w S tv Q.2.2) ∧ (Q.1 ≠ 0 → v = .agg #[.int .i64 0, .string ⟨#[]⟩, .int .i64 0, .slice none 0 0] ∧ tv = .slice none 0 0)
theorem normF_none {R : List Rl} {u : Tm} (h : firstP R u = none) (n : Nat) (T : List Rdx) : normF R n u T = (0, u, T) := by cases n <;> simp [normF, h]
theorem normF_fuel {R : List Rl} {u : Tm} {q : Rdx} (h : firstP R u = some q) (T : List Rdx) : normF R 0 u T = (14, zeroTm, []) := by simp [normF, h]
theorem normF_err {R : List Rl} {u : Tm} {q : Rdx} (h : firstP R u = some q) (hs : (stepP R u q).1 ≠ 0) {n : Nat} (hn : 0 < n) (T : List Rdx) : normF R n u T = ((stepP R u q).1, zeroTm, []) := by
 obtain ⟨m, rfl⟩ : ∃ m, n = m + 1 := ⟨n - 1, by omega⟩
 simp [normF, h, hs]
theorem normF_step {R : List Rl} {u : Tm} {q : Rdx} (h : firstP R u = some q) (hs : (stepP R u q).1 = 0) {n : Nat} (hn : 0 < n) (T : List Rdx) : normF R n u T = normF R (n - 1) (stepP R u q).2 (T ++ [q]) := by
 obtain ⟨m, rfl⟩ : ∃ m, n = m + 1 := ⟨n - 1, by omega⟩
 simp [normF, h, hs]

theorem results_cell_tmp2 {fn : Func} {p u x : Tmp} {ty : TypeId} (h : fn.results = #[.cell p ty, .tmp u, .tmp x]) (tmps : Array Value) (P : Program) (w : World) :
 (results fn tmps).run P w = ((asAddr (tmps.getD p undef)).run P w).andThen fun a w₁ => ((loadVar ty a).run P w₁).andThen fun v w₂ => .ok (.tuple #[v, tmps.getD u undef, tmps.getD x undef]) w₂ := by
 simp only [results, h]
 simp [Sem.run_bind, Result.andThen]
theorem ret_term3 {F : Func} {p u x g : Nat} {tmps : Array Value} {w : World} {cs : Array Value} {R : Ending → World → Prop} (hr : F.results = #[.cell p 31, .tmp u, .tmp x]) (hp : tmps.getD p undef = .pointer (some ⟨g, 0, none⟩)) (hg : w.heap[g]? = some (.cells cs 31)) (hs : cs.size = 4) (h : R (.returned (.tuple #[.agg cs, tmps.getD u undef, tmps.getD x undef])) w) :
 bodyPost Try.prog F R .ret ⟨tmps, []⟩ w := by
 refine bodyPost_ret ?_ rfl h
 rw [results_cell_tmp2 hr, hp]
 simp only [asAddr, Sem.run_pure, Result.andThen_ok]
 rw [run_loadVar_row w g _ _ cs _ _ hg Try.underlying31 rfl (by rw [hs]; exact sizT)]
 rfl
/-- a box of a term, written over cell by cell -/
theorem set4_box {w : World} {g T : Nat} {a b c d : Value} (a' b' c' d' : Value) (h : w.heap[g]? = some (.cells #[a, b, c, d] T)) :
 ((((w.setCell ⟨g, 0, none⟩ a').setCell ⟨g, 1, none⟩ b').setCell ⟨g, 2, none⟩ c').setCell ⟨g, 3, none⟩ d').heap[g]? = some (.cells #[a', b', c', d'] T) ∧
   (∀ q, q ≠ g → ((((w.setCell ⟨g, 0, none⟩ a').setCell ⟨g, 1, none⟩ b').setCell ⟨g, 2, none⟩ c').setCell ⟨g, 3, none⟩ d').heap[q]? = w.heap[q]?) ∧
   ∀ W, Ext W w → W.heap.size ≤ g → Ext W ((((w.setCell ⟨g, 0, none⟩ a').setCell ⟨g, 1, none⟩ b').setCell ⟨g, 2, none⟩ c').setCell ⟨g, 3, none⟩ d') := by
 refine ⟨?_, fun q hq => ?_, fun W hE hW => (((hE.setCell hW _).setCell hW _).setCell hW _).setCell hW _⟩
 · have h1 := heap_setCell_same w g 0 _ _ a' h
   have h5 := heap_setCell_same _ g 1 _ _ b' h1
   have h6 := heap_setCell_same _ g 2 _ _ c' h5
   have h7 := heap_setCell_same _ g 3 _ _ d' h6
   rw [h7]; simp
 · rw [heap_setCell_other _ _ _ _ hq, heap_setCell_other _ _ _ _ hq, heap_setCell_other _ _ _ _ hq, heap_setCell_other _ _ _ _ hq]

set_option maxRecDepth 100000 in
set_option maxHeartbeats 8000000 in
theorem PNormal_any {w : World} {S S' : Nat → Prop} {a ta : Option Addr} {cap tc : Nat} {R : List Rl} {t : Tm} {fuel : Int} (hz : smallR R) (hf : I64 fuel) (hL : LsG elP w S (.slice a R.length cap) R) (ht : sizeT t ≤ 100000) (hT : TmW w S' ta tc t) :
 Calls Try.prog 18 #[.slice a R.length cap, .agg #[.int .i64 t.kind, .string t.name, .int .i64 t.sort, .slice ta t.kids.length tc], .int .i64 fuel] w fun e w' => ∃ v tv er, e = .returned (.tuple #[v, tv, .int .i64 er]) ∧ Ext w w' ∧ normR w' (fun c => w.heap.size ≤ c) v tv er (normP R t fuel) := by
 obtain ⟨-, hll, hlc⟩ := hL.len
 unfold maxLen at hlc
 obtain ⟨bx, w1, hbbx, hwbx, HBbx, hEbx⟩ := box_new w (.cells #[.int .i64 t.kind, .string t.name, .int .i64 t.sort, .slice ta t.kids.length tc] 31)
 have hs1 : w1.heap.size = bx + 1 := by rw [hwbx, hbbx, World.size_alloc]
 obtain ⟨rx, hrx⟩ : ∃ zz9, zz9 = bx + 1 := ⟨_, rfl⟩
 obtain ⟨w2, hw2⟩ : ∃ zz9, zz9 = w1.alloc (.cells #[.int .i64 0, .string ⟨#[]⟩, .int .i64 0, .slice none 0 0] 31) := ⟨_, rfl⟩
 have hE2 : Ext w1 w2 := by rw [hw2]; exact Ext.alloc _ _
 have HBR : Hid (w2.heap[rx]? = some (.cells #[.int .i64 0, .string ⟨#[]⟩, .int .i64 0, .slice none 0 0] 31)) := Lib.hid (by rw [hw2, hrx, ← hs1]; exact hs_new)
 have hEa := hEbx.trans hE2
 have HE2 := Lib.hid hEa
 have HNB : Hid (w.heap.size = bx ∧ rx = bx + 1) := Lib.hid ⟨hbbx.symm, hrx⟩
 have HBB := Lib.hid (hs_ext hE2 HBbx.out)
 obtain ⟨b0, b1, b2, b3⟩ := box4r (HBB.out)
 have HL := Lib.hid (hL.ext hEa).any
 have HT := Lib.hid (hT.ext hEa).any
 have HZ := Lib.hid hz
 have HTZ := Lib.hid ht
 have hf1 := hf.1
 have hf2 := hf.2
 have hc1 := PRules_any hz (hL.ext hEa)
 obtain ⟨o1, ho1⟩ : ∃ o, o = rulesE R := ⟨_, rfl⟩
 obtain ⟨o2, ho2⟩ : ∃ o, o = validT t := ⟨_, rfl⟩
 rw [← ho1] at hc1
 have HC1 := Lib.hid hc1
 obtain ⟨Q, hQ⟩ : ∃ Q, Q = normP R t fuel := ⟨_, rfl⟩
 rw [← hQ]
 unfold normP at hQ
 rw [← ho1, ← ho2] at hQ
 have HQ0 := Lib.hid hQ
 have HO := Lib.hid (And.intro ho1 ho2)
 have HNZ : Hid True := Lib.hid trivial
 clear hL hT hz ht hf hc1 ho1 ho2 hEbx hE2 hEa hs1 hQ
 go_enter Try.func18, Try.ntmps18
 go_upto_region 1 with fail
 rw [← hwbx, ← hbbx, ← hw2, ← hrx]
 clear hwbx hbbx hw2 hrx
 go_wp2_with fail
 refine HC1.out.mono ?_
 rintro e w3 ⟨rfl, hE3⟩
 obtain ⟨b0, b1, b2, b3⟩ := cs_e4 hE3 ⟨b0, b1, b2, b3⟩
 have HL := Lib.hid (HL.out.ext hE3)
 have HT := Lib.hid (HT.out.ext hE3)
 have HBR := Lib.hid (hs_ext hE3 HBR.out)
 have HE2 := Lib.hid (HE2.out.trans hE3)
 have hc2 := PValid_any (w := w3) (by have := HTZ.out; omega) HT.out
 rw [← HO.out.2] at hc2
 have HC2 := Lib.hid hc2
 clear hE3 hc2
 by_cases h1 : o1 = 0
 · have e1 : (o1 != 0) = false := by simp [h1]
   have H1 := Lib.hid h1
   clear h1
   go_wp2_with fail
   refine HC2.out.mono ?_
   rintro e w4 ⟨rfl, hE4⟩
   obtain ⟨b0, b1, b2, b3⟩ := cs_e4 hE4 ⟨b0, b1, b2, b3⟩
   have HL := Lib.hid (HL.out.ext hE4)
   have HT := Lib.hid (HT.out.ext hE4)
   have HBR := Lib.hid (hs_ext hE4 HBR.out)
   have HE2 := Lib.hid (HE2.out.trans hE4)
   clear hE4
   by_cases h2 : o2 = 0
   · have e2 : (o2 != 0) = false := by simp [h2]
     have hq1 := HQ0.out
     rw [if_neg (by rw [H1.out, h2]; simp [orE])] at hq1
     have HQ1 := Lib.hid hq1
     have HV0 : Hid (validT t = 0) := Lib.hid (by rw [← HO.out.2]; exact h2)
     have H40 : Hid (R.length ≤ 40) := Lib.hid (rulesE_len (by rw [← HO.out.1]; exact H1.out))
     have HR0 : Hid (rulesE R = 0) := Lib.hid (by rw [← HO.out.1]; exact H1.out)
     clear h2 hq1
     by_cases hin : 0 ≤ fuel ∧ fuel ≤ 1000
     · obtain ⟨F, rfl⟩ : ∃ F : Nat, fuel = F := ⟨fuel.toNat, by omega⟩
       have hF1 : F ≤ 1000 := by omega
       have hF2 : decide ((F : Int) < 0) = false := by simp; try omega
       have hF3 : decide ((1000 : Int) < (F : Int)) = false := by simp; omega
       have hq2 := HQ1.out
       rw [if_pos hin, Int.toNat_natCast] at hq2
       have HQ2 := Lib.hid hq2
       have HCA := Lib.hid (PAt_any (w := w4) (p := []) (by have := HTZ.out; omega) HT.out (LsG.nil (S := Any)))
       clear hin hf1 hf2 hq2
       go_wp2_with fail
       refine HCA.out.mono ?_
       rintro e w5 ⟨v5, er, rfl, hE5, hA5⟩
       obtain ⟨rfl, ya, yc, rfl, hTy⟩ : er = 0 ∧ IsS w5 (fun c => w4.heap.size ≤ c) v5 t := by
        rcases hA5 with ⟨x, e1, e2, e3⟩ | ⟨e1, -⟩
        · rw [atT] at e1; cases e1; exact ⟨e2, e3⟩
        · rw [atT] at e1; cases e1
       have HS5 : Hid (w.heap.size ≤ w4.heap.size ∧ rx < w4.heap.size ∧ w4.heap.size ≤ w5.heap.size) := Lib.hid ⟨HE2.out.size, lt_of_get' HBR.out, hE5.size⟩
       obtain ⟨b0, b1, b2, b3⟩ := cs_e4 hE5 ⟨b0, b1, b2, b3⟩
       have HL := Lib.hid (HL.out.ext hE5)
       have HT := Lib.hid (HT.out.ext hE5)
       have HBR := Lib.hid (hs_ext hE5 HBR.out)
       have HE2 := Lib.hid (HE2.out.trans hE5)
       have HTY := Lib.hid hTy
       obtain ⟨ux, hux⟩ : ∃ zz9, zz9 = w5.heap.size := ⟨_, rfl⟩
       have HUX := Lib.hid hux
       obtain ⟨w6, hw6⟩ : ∃ zz9, zz9 = w5.alloc (.cells #[.int .i64 t.kind, .string t.name, .int .i64 t.sort, .slice ya t.kids.length yc] 31) := ⟨_, rfl⟩
       have HE6 : Hid (Ext w5 w6) := Lib.hid (by rw [hw6]; exact Ext.alloc _ _)
       have HBU : Hid (w6.heap[ux]? = some (.cells #[.int .i64 t.kind, .string t.name, .int .i64 t.sort, .slice ya t.kids.length yc] 31)) := Lib.hid (by rw [hw6, hux]; exact hs_new)
       clear hE5 hA5 hTy
       go_upto_region 10 with fail
       rw [← hw6, ← hux]
       clear hw6 hux
       go_wp2_with fail
       go_loopw [13] (fun ov wr => Hid (∃ (u : Tm) (T : List Rdx) (ka : Option Addr) (kc : Nat), T.length ≤ F ∧ validT u = 0 ∧ normF R (F - T.length) u T = Q ∧ wr.heap[ux]? = some (.cells #[.int .i64 u.kind, .string u.name, .int .i64 u.sort, .slice ka u.kids.length kc] 31) ∧ TmW wr (fun c => (w4.heap.size ≤ c ∧ c ≠ ux) ∧ ov.ownBlock ≠ some c) ka kc u ∧ OwnG elX wr (ux + 1) 45 (fun c => ux + 1 ≤ c ∧ ov.ownBlock ≠ some c) ov T ∧ Ext w5 wr)) (fun ov _ => F + 1 - lenOf ov)
       case atStart =>
        exact Lib.hid ⟨t, [], ya, yc, by simp, HV0.out, by rw [HQ2.out]; rfl, HBU.out, HTY.out.keep (w' := w6) (fun c _ hc => HE6.out.block hc) (fun c h1 h2 => ⟨⟨h1, by have := HUX.out; omega⟩, fun e => by cases e⟩), OwnG.nil, HE6.out⟩
       case round =>
        obtain ⟨u, T, ka, kc, hTF, hv, hN, hbu, hTu, hO, hE⟩ := hrel.out
        have HN := Lib.hid hN
        have HBU7 := Lib.hid hbu
        have HTU := Lib.hid hTu
        have HO7 := Lib.hid hO
        have HE7 := Lib.hid hE
        have HVU := Lib.hid hv
        obtain ⟨oa, oc, hov, -, hoc⟩ := hO.slice
        subst hov
        unfold maxLen at hoc
        have hlu := hTu.len
        have hcu := hTu.cap
        unfold maxLen at hcu
        have hu4 : sizeT u ≤ 400 := (validT_iff.1 hv).2.1
        have HU4 := Lib.hid hu4
        have HC := Lib.hid (first_rdx (sizeT u) wr Any _ a ka cap kc R u (Nat.le_refl _) (by omega) HZ.out H40.out ((HL.out.ext hE).any) hTu)
        obtain ⟨u0, u1, u2, u3⟩ := box4r (HBU7.out)
        clear hrel hN hbu hTu hO hE hv hu4 HBU HTY
        go_wp2_with fail
        refine HC.out.mono ?_
        rintro e w7 ⟨v, b, rfl, hEb, hA⟩
        have HEb := Lib.hid hEb
        have HE8 := Lib.hid (HE7.out.trans hEb)
        cases hfp : firstP R u with
        | none =>
          obtain ⟨rfl, rfl⟩ : b = false ∧ v = .agg #[.int .i64 0, .slice none 0 0] := by
           rcases hA with ⟨q', a', c', e1, -⟩ | ⟨-, e2, e3⟩
           · rw [hfp] at e1; cases e1
           · exact ⟨e2, e3⟩
          have HQ : Hid (Q = (0, u, T)) := Lib.hid (by rw [← HN.out, normF_none hfp])
          have HR8 : Hid ((w7.alloc (.cells #[.int .i64 0, .slice none 0 0] 45)).heap[rx]? = some (.cells #[.int .i64 0, .string ⟨#[]⟩, .int .i64 0, .slice none 0 0] 31)) := Lib.hid (hs_ext (HE8.out.trans (Ext.alloc _ _)) HBR.out)
          have HEZ : Hid (Ext wr (w7.alloc (.cells #[.int .i64 0, .slice none 0 0] 45))) := Lib.hid (HEb.out.trans (Ext.alloc _ _))
          obtain ⟨u0, u1, u2, u3⟩ := cs_e4 hEb ⟨u0, u1, u2, u3⟩
          have u0z : (w7.alloc (.cells #[.int .i64 0, .slice none 0 0] 45)).cell? _ = _ := cs_al u0
          have u1z : (w7.alloc (.cells #[.int .i64 0, .slice none 0 0] 45)).cell? _ = _ := cs_al u1
          have u2z : (w7.alloc (.cells #[.int .i64 0, .slice none 0 0] 45)).cell? _ = _ := cs_al u2
          have u3z : (w7.alloc (.cells #[.int .i64 0, .slice none 0 0] 45)).cell? _ = _ := cs_al u3
          clear hEb hA hfp
          go_wp2_with (first
           | (refine wpList_storeT rfl (.tmp 6) (.tmp 50) rfl (g := rx) rfl (k := u.kind) (s := u.sort) (n := u.name) (ka := ka) (kl := u.kids.length) (kc := kc) rfl HR8.out rfl ?_
              intro wq c6 q6 e6 z6
              have HG6 := Lib.hid c6
              have HQ6 := Lib.hid q6
              have HEQ := Lib.hid (e6 w ((HE2.out.trans HE7.out).trans HEZ.out) (by have := HNB.out; omega))
              clear c6 q6 e6 z6))
          have hkeep : ∀ c, c < wr.heap.size → c ≠ rx → wq.heap[c]? = wr.heap[c]? := fun c h1 h2 => by rw [HQ6.out c h2, HEZ.out.block h1]
          refine ret_term3 (g := rx) rfl rfl HG6.out rfl ⟨_, _, _, rfl, HEQ.out, by rw [HQ.out], fun _ => ?_, fun h => absurd (by rw [HQ.out]) h⟩
          rw [HQ.out]
          refine ⟨⟨ka, kc, rfl, HTU.out.keep (fun c h1 h2 => hkeep c h2 (by have := HS5.out; have := h1.1.1; omega)) (fun c h1 _ => by have := HS5.out; have := h1.1.1; omega)⟩, ?_⟩
          have hO9 := HO7.out.keep (w' := wq) (S' := fun c => w.heap.size ≤ c) (fun c hc => hkeep c (HO7.out.lt c hc).2 (by have := (HO7.out.lt c hc).1; have := HS5.out; have := HUX.out; omega)) (fun c h1 h2 => hkeep c h2 (by have := h1.1; have := HS5.out; have := HUX.out; omega)) (fun c h1 _ => by have := h1.1; have := HS5.out; have := HUX.out; omega)
          exact hO9.ls (fun _ h _ => h) (fun g _ h1 _ => by have := HS5.out; have := HUX.out; omega)
        | some q =>
          obtain ⟨pa, pc, rfl, rfl, hP⟩ : ∃ pa pc, b = true ∧ v = .agg #[.int .i64 q.1, .slice pa q.2.length pc] ∧ LsG elI w7 (fun c => wr.heap.size ≤ c) (.slice pa q.2.length pc) q.2 := by
           rcases hA with ⟨q', a', c', e1, e2, e3, e4⟩ | ⟨e1, -⟩
           · rw [hfp] at e1; cases e1; exact ⟨_, _, e2, e3, e4⟩
           · rw [hfp] at e1; cases e1
          have HFP := Lib.hid hfp
          have hqb := firstP_bound R u q hfp
          obtain ⟨-, hpl, hpc⟩ := hP.len
          unfold maxLen at hpc
          have HQB := Lib.hid hqb
          obtain ⟨vx, hvx⟩ : ∃ zz9, zz9 = w7.heap.size := ⟨_, rfl⟩
          obtain ⟨w8, hw8⟩ : ∃ zz9, zz9 = w7.alloc (.cells #[.int .i64 q.1, .slice pa q.2.length pc] 45) := ⟨_, rfl⟩
          have hEc : Ext w7 w8 := by rw [hw8]; exact Ext.alloc _ _
          have hbv : w8.heap[vx]? = some (.cells #[.int .i64 q.1, .slice pa q.2.length pc] 45) := by rw [hw8, hvx]; exact hs_new
          have HBV := Lib.hid hbv
          have v0 : w8.cell? ⟨vx, 0, none⟩ = some (.int .i64 q.1) := by rw [cellc hbv]; rfl
          have v1 : w8.cell? ⟨vx, 1, none⟩ = some (.slice pa q.2.length pc) := by rw [cellc hbv]; rfl
          have HP8 := Lib.hid (hP.ext hEc)
          have HEr8 := Lib.hid (hEb.trans hEc)
          have HE58 := Lib.hid (HE8.out.trans hEc)
          obtain ⟨u0, u1, u2, u3⟩ := cs_e4 hEb ⟨u0, u1, u2, u3⟩
          obtain ⟨u0, u1, u2, u3⟩ := cs_e4 hEc ⟨u0, u1, u2, u3⟩
          clear hEb hA hfp hqb hP hEc hbv
          go_upto_region 14 with fail
          rw [← hw8, ← hvx]
          clear hw8 hvx
          by_cases hTe : T.length = F
          · have ef : (((T.length : Nat) : Int) == (F : Int)) = true := by simp [hTe]
            have HQ : Hid (Q = (14, zeroTm, [])) := Lib.hid (by rw [← HN.out, hTe, Nat.sub_self, normF_fuel HFP.out])
            have HR8 : Hid (w8.heap[rx]? = some (.cells #[.int .i64 0, .string ⟨#[]⟩, .int .i64 0, .slice none 0 0] 31)) := Lib.hid (hs_ext HE58.out HBR.out)
            go_wp2_with (first
             | (refine wpList_buildT rfl [] rfl [] rfl built_none ?_)
             | (refine wpList_storeT rfl (.tmp 6) (.tmp 56) rfl (g := rx) rfl (k := 0) (s := 0) (n := ⟨#[]⟩) (ka := none) (kl := 0) (kc := 0) rfl HR8.out rfl ?_
                intro wq c6 q6 e6 z6
                have HG6 := Lib.hid c6
                have HEQ := Lib.hid (e6 w (HE2.out.trans HE58.out) (by have := HNB.out; omega))
                clear c6 q6 e6 z6))
            refine ret_term3 (g := rx) rfl rfl HG6.out rfl ⟨_, _, _, rfl, HEQ.out, ?_, ?_, ?_⟩
            · rw [HQ.out]
            · intro h; rw [HQ.out] at h; exact absurd h (by first | decide | exact HNZ.out)
            · intro _; exact ⟨rfl, rfl⟩
          · have ef : (((T.length : Nat) : Int) == (F : Int)) = false := by simp; omega
            have HI : Hid (I64 q.1) := Lib.hid (by have := HQB.out; have := H40.out; unfold I64; omega)
            have HCS := Lib.hid (step_any (w := w8) HR0.out HVU.out HI.out (HL.out.ext HE58.out) (HTU.out.ext HEr8.out) HP8.out)
            go_wp2_with fail
            refine HCS.out.mono ?_
            rintro e w9 ⟨v9, er, rfl, hE9, hA9⟩
            obtain ⟨u0, u1, u2, u3, v0, v1⟩ := cs_e6 hE9 ⟨u0, u1, u2, u3, v0, v1⟩
            by_cases h9 : (stepP R u q).1 = 0
            · obtain ⟨X, hX⟩ : ∃ X, X = (stepP R u q).2 := ⟨_, rfl⟩
              rw [← hX] at hA9
              obtain ⟨xa, xc, rfl, hTx⟩ := hA9.2.1 h9
              have her : er = 0 := hA9.1.trans h9
              subst her
              have HVX : Hid (validT X = 0) := Lib.hid (by rw [hX]; exact stepP_ok h9)
              have HNX : Hid (normF R (F - (T.length + 1)) X (T ++ [q]) = Q) := Lib.hid (by rw [← HN.out, normF_step HFP.out h9 (by omega), hX]; congr 1)
              obtain ⟨nx, hnx⟩ : ∃ zz9, zz9 = w9.heap.size := ⟨_, rfl⟩
              obtain ⟨w10, hw10⟩ : ∃ zz9, zz9 = w9.alloc (.cells #[.int .i64 X.kind, .string X.name, .int .i64 X.sort, .slice xa X.kids.length xc] 31) := ⟨_, rfl⟩
              have hE10 : Ext w9 w10 := by rw [hw10]; exact Ext.alloc _ _
              have HBX : Hid (w10.heap[nx]? = some (.cells #[.int .i64 X.kind, .string X.name, .int .i64 X.sort, .slice xa X.kids.length xc] 31)) := Lib.hid (by rw [hw10, hnx]; exact hs_new)
              have hE8a := hE9.trans hE10
              have HE8a := Lib.hid hE8a
              have HTX := Lib.hid hTx
              have HE9a := Lib.hid hE10
              have HP10 := Lib.hid (HP8.out.ext hE8a)
              have HBUa := Lib.hid (hs_ext (HEr8.out.trans hE8a) HBU7.out)
              have HEra := Lib.hid (HEr8.out.trans hE8a)
              have HOa := Lib.hid (HO7.out.ext HEra.out)
              have HSZ : Hid (w10.heap.size = nx + 1 ∧ w8.heap.size ≤ nx ∧ wr.heap.size ≤ w8.heap.size ∧ ux < wr.heap.size ∧ nx = w9.heap.size) := Lib.hid ⟨by rw [hw10, hnx, World.size_alloc], by rw [hnx]; exact hE9.size, HEr8.out.size, lt_of_get' HBU7.out, hnx⟩
              obtain ⟨u0, u1, u2, u3, v0, v1⟩ := cs_e6 hE10 ⟨u0, u1, u2, u3, v0, v1⟩
              obtain ⟨n0, n1, n2, n3⟩ := box4r (HBX.out)
              clear hA9 hE9 h9 hX hTx hE10 hE8a
              go_upto_region 19 with fail
              rw [← hw10, ← hnx]
              clear hw10 hnx
              have n0z : (w10.alloc (.cells #[.int .i64 q.1, .slice pa q.2.length pc] 45)).cell? _ = _ := cs_al n0
              have n1z : (w10.alloc (.cells #[.int .i64 q.1, .slice pa q.2.length pc] 45)).cell? _ = _ := cs_al n1
              have n2z : (w10.alloc (.cells #[.int .i64 q.1, .slice pa q.2.length pc] 45)).cell? _ = _ := cs_al n2
              have n3z : (w10.alloc (.cells #[.int .i64 q.1, .slice pa q.2.length pc] 45)).cell? _ = _ := cs_al n3
              have HAL : Hid ((w10.alloc (.cells #[.int .i64 q.1, .slice pa q.2.length pc] 45)).heap.size = nx + 2) := Lib.hid (by rw [World.size_alloc]; have := HSZ.out; omega)
              have HAL2 : Hid (∀ c, c < (w10.alloc (.cells #[.int .i64 q.1, .slice pa q.2.length pc] 45)).heap.size → c < w10.heap.size + 1) := Lib.hid (fun c h => by rw [World.size_alloc] at h; exact h)
              have HAL3 : Hid (ux + 1 ≤ (w10.alloc (.cells #[.int .i64 q.1, .slice pa q.2.length pc] 45)).heap.size) := Lib.hid (by have := HAL.out; have := HSZ.out; omega)
              have HARM : Hid (∀ wz v5 w11, wz.heap.size = nx + 2 → Ext w10 wz → OwnG elX w11 (ux + 1) 45 (fun c => (ux + 1 ≤ c ∧ (Value.slice oa T.length oc).ownBlock ≠ some c) ∧ c < w10.heap.size + 1) v5 (T ++ [q]) → wz.grownBy w11 (Value.slice oa T.length oc).ownBlock → (v5.ownBlock = (Value.slice oa T.length oc).ownBlock ∨ v5.ownBlock = some wz.heap.size) →
               Ext w5 w11 ∧ w11.heap[ux]? = some (.cells #[.int .i64 u.kind, .string u.name, .int .i64 u.sort, .slice ka u.kids.length kc] 31) ∧ w11.heap[nx]? = some (.cells #[.int .i64 X.kind, .string X.name, .int .i64 X.sort, .slice xa X.kids.length xc] 31) ∧ OwnG elX w11 (ux + 1) 45 (fun c => ux + 1 ≤ c ∧ v5.ownBlock ≠ some c) v5 (T ++ [q]) ∧ TmW w11 (fun c => (w4.heap.size ≤ c ∧ c ≠ ux) ∧ v5.ownBlock ≠ some c) xa xc X ∧ lenOf v5 = T.length + 1) := Lib.hid (fun wz v5 w11 hwz hEz o5 g5 k5 => by
               have hE11 : Ext w5 w11 := Ext.grown ((HE7.out.trans HEra.out).trans hEz) g5 (fun c hc => by have := (HO7.out.lt c hc).1; have := HUX.out; omega)
               have hsame : ∀ c, c < w10.heap.size → (Value.slice oa T.length oc).ownBlock ≠ some c → w11.heap[c]? = w10.heap[c]? := fun c h1 h2 => by
                rw [g5.block c (by have := HSZ.out; omega) (fun e => h2 e.symm)]
                exact hEz.block h1
               have hL11 : lenOf v5 = T.length + 1 := by
                obtain ⟨y1, y2, e, -⟩ := o5.slice
                rw [e]; simp [lenOf]
               rw [hwz, show nx + 2 = w10.heap.size + 1 by have := HSZ.out; omega] at k5
               refine ⟨hE11, ?_, ?_, o5.turn k5, HTX.out.keep (fun c h1 h2 => ?_) (fun c h1 h2 => ⟨⟨?_, ?_⟩, fun e => ?_⟩), hL11⟩
               · rw [hsame ux (by have := HSZ.out; omega) (fun e => by have := (HO7.out.lt ux e).1; omega)]; exact HBUa.out
               · rw [hsame nx (by have := HSZ.out; omega) (fun e => by have := (HO7.out.lt nx e).2; have := HSZ.out; omega)]; exact HBX.out
               · rw [hsame c (by have := HSZ.out; omega) (fun e => by have := (HO7.out.lt c e).2; have := HSZ.out; omega)]
                 exact HE9a.out.block h2
               · have := HSZ.out; have := HS5.out; have := HUX.out; omega
               · have := HSZ.out; omega
               · rcases k5 with k | k
                 · rw [k] at e; have := (HO7.out.lt c e).2; have := HSZ.out; omega
                 · rw [k] at e; have := Option.some.inj e; have := HSZ.out; omega)
              go_region_law (
               refine step_appG (E := elX) (T := 45) rfl 41 (.tmp 69) (.tmp 71) rfl rfl rfl Try.underlying41 infRedex rfl (by decide) (by decide) ((HOa.out.ext (by repeat (first | exact Ext.refl _ | exact Ext.alloc _ _ | apply Ext.then_dr | apply Ext.then_drN | apply Ext.then_drN2 | (refine Ext.then_al ?_ _)))).wide (S' := fun c => (ux + 1 ≤ c ∧ (Value.slice oa T.length oc).ownBlock ≠ some c) ∧ c < w10.heap.size + 1) (fun c h h2 => ⟨h, HAL2.out c h2⟩)) HAL3.out (fun c h => h.1.2) (by omega) (M := [q]) (by simp) (one_rdxE hs_new HI.out ((HP10.out.ext (by repeat (first | exact Ext.refl _ | exact Ext.alloc _ _ | apply Ext.then_dr | apply Ext.then_drN | apply Ext.then_drN2 | (refine Ext.then_al ?_ _)))).wide (fun c h h2 => ⟨⟨by have := HSZ.out; omega, fun e => by have := (HO7.out.lt c e).2; omega⟩, HAL2.out c h2⟩))) ?_
               intro v5 w11 o5 g5 k5
               obtain ⟨hE11, hb11, hn11, hO11, hT11, hL11⟩ := HARM.out _ v5 w11 (by first | rw [HAL.out] | exact HAL.out) (by repeat (first | exact Ext.refl _ | exact Ext.alloc _ _ | apply Ext.then_dr | apply Ext.then_drN | apply Ext.then_drN2 | (refine Ext.then_al ?_ _))) o5 g5 k5
               have HE11 := Lib.hid hE11
               have HB11 := Lib.hid hb11
               have HO11 := Lib.hid hO11
               have HTX11 := Lib.hid hT11
               have HL11 := Lib.hid hL11
               have u0w : w11.cell? ⟨ux, 0, none⟩ = some (.int .i64 u.kind) := by rw [cellc hb11]; rfl
               have u1w : w11.cell? ⟨ux, 1, none⟩ = some (.string u.name) := by rw [cellc hb11]; rfl
               have u2w : w11.cell? ⟨ux, 2, none⟩ = some (.int .i64 u.sort) := by rw [cellc hb11]; rfl
               have u3w : w11.cell? ⟨ux, 3, none⟩ = some (.slice ka u.kids.length kc) := by rw [cellc hb11]; rfl
               have n0w : w11.cell? ⟨nx, 0, none⟩ = some (.int .i64 X.kind) := by rw [cellc hn11]; rfl
               have n1w : w11.cell? ⟨nx, 1, none⟩ = some (.string X.name) := by rw [cellc hn11]; rfl
               have n2w : w11.cell? ⟨nx, 2, none⟩ = some (.int .i64 X.sort) := by rw [cellc hn11]; rfl
               have n3w : w11.cell? ⟨nx, 3, none⟩ = some (.slice xa X.kids.length xc) := by rw [cellc hn11]; rfl
               have z0 : w11.frozen? ⟨ux, 0, none⟩ = false := frozenc hb11
               have z1 : w11.frozen? ⟨ux, 1, none⟩ = false := frozenc hb11
               have z2 : w11.frozen? ⟨ux, 2, none⟩ = false := frozenc hb11
               have z3 : w11.frozen? ⟨ux, 3, none⟩ = false := frozenc hb11
               clear o5 g5 k5 hE11 hb11 hn11 hO11 hT11 hL11)
              all_goals
               simp only [Act.put, List.getElem_cons_succ, List.getElem_cons_zero]
               go_simp
               go_roundw
               case rel =>
                obtain ⟨y1, y2, y3⟩ := set4_box (.int .i64 X.kind) (.string X.name) (.int .i64 X.sort) (.slice xa X.kids.length xc) HB11.out
                have hlt := HSZ.out
                have hnu : ∀ c, v5.ownBlock = some c → c ≠ ux := fun c e => by have := (HO11.out.lt c e).1; omega
                refine ⟨_, _, _, _, _, _, _, _, _, _, _, _, _, _, _, _, _, _, _, _, _, _, _, _, _, _, _, _, _, _, _, _, _, _, _, _, _, _, ?_, rfl⟩
                exact Lib.hid ⟨X, T ++ [q], xa, xc, by rw [List.length_append]; simp; omega, HVX.out, by rw [List.length_append]; exact HNX.out, y1, HTX11.out.keep (fun c h1 _ => y2 c h1.1.2) (fun c h1 _ => h1), HO11.out.keep (fun c hc => y2 c (hnu c hc)) (fun c h1 _ => y2 c (by have := h1.1; omega)) (fun c h1 _ => h1), y3 _ HE11.out (by have := HUX.out; omega)⟩
               case measure =>
                show F + 1 - lenOf v5 < F + 1 - T.length
                rw [HL11.out]; omega
            · obtain rfl := hA9.2.2 h9
              have HQ : Hid (Q = (er, zeroTm, [])) := Lib.hid (by rw [← HN.out, normF_err HFP.out h9 (by omega), hA9.1])
              have ee : (er != 0) = true := by rw [hA9.1]; simpa using h9
              have HEE : Hid (er ≠ 0) := Lib.hid (by rw [hA9.1]; exact h9)
              have HR9 : Hid ((w9.alloc (.cells #[.int .i64 0, .string ⟨#[]⟩, .int .i64 0, .slice none 0 0] 31)).heap[rx]? = some (.cells #[.int .i64 0, .string ⟨#[]⟩, .int .i64 0, .slice none 0 0] 31)) := Lib.hid (hs_ext (HE58.out.trans (hE9.trans (Ext.alloc _ _))) HBR.out)
              have HE9 : Hid (Ext w (w9.alloc (.cells #[.int .i64 0, .string ⟨#[]⟩, .int .i64 0, .slice none 0 0] 31))) := Lib.hid (HE2.out.trans (HE58.out.trans (hE9.trans (Ext.alloc _ _))))
              clear hA9 hE9 h9
              go_wp2_with (first
               | (refine wpList_buildT rfl [] rfl [] rfl built_none ?_)
               | (refine wpList_storeT rfl (.tmp 6) (.tmp 66) rfl (g := rx) rfl (k := 0) (s := 0) (n := ⟨#[]⟩) (ka := none) (kl := 0) (kc := 0) rfl HR9.out rfl ?_
                  intro wq c6 q6 e6 z6
                  have HG6 := Lib.hid c6
                  have HEQ := Lib.hid (e6 w HE9.out (by have := HNB.out; omega))
                  clear c6 q6 e6 z6))
              refine ret_term3 (g := rx) rfl rfl HG6.out rfl ⟨_, _, _, rfl, HEQ.out, ?_, ?_, ?_⟩
              · rw [HQ.out]
              · intro h; rw [HQ.out] at h; exact absurd h HEE.out
              · intro _; exact ⟨rfl, rfl⟩
     · have HQ : Hid (Q = (7, zeroTm, [])) := Lib.hid (by rw [HQ1.out, if_neg hin])
       by_cases h0 : fuel < 0
       · go_wp2_with (first
          | (refine wpList_buildT rfl [] rfl [] rfl built_none ?_)
          | (refine wpList_storeT rfl (.tmp 6) (.tmp 36) rfl (g := rx) rfl (k := 0) (s := 0) (n := ⟨#[]⟩) (ka := none) (kl := 0) (kc := 0) rfl HBR.out rfl ?_
             intro wq c6 q6 e6 z6
             have HG6 := Lib.hid c6
             have HEQ := Lib.hid (e6 w HE2.out (by have := HNB.out; omega))
             clear c6 q6 e6 z6))
         refine ret_term3 (g := rx) rfl rfl HG6.out rfl ⟨_, _, _, rfl, HEQ.out, ?_, ?_, ?_⟩
         · rw [HQ.out]
         · intro h; rw [HQ.out] at h; exact absurd h (by first | decide | exact HNZ.out)
         · intro _; exact ⟨rfl, rfl⟩
       · have h1000 : (1000 : Int) < fuel := by omega
         go_wp2_with (first
          | (refine wpList_buildT rfl [] rfl [] rfl built_none ?_)
          | (refine wpList_storeT rfl (.tmp 6) (.tmp 36) rfl (g := rx) rfl (k := 0) (s := 0) (n := ⟨#[]⟩) (ka := none) (kl := 0) (kc := 0) rfl HBR.out rfl ?_
             intro wq c6 q6 e6 z6
             have HG6 := Lib.hid c6
             have HEQ := Lib.hid (e6 w HE2.out (by have := HNB.out; omega))
             clear c6 q6 e6 z6))
         refine ret_term3 (g := rx) rfl rfl HG6.out rfl ⟨_, _, _, rfl, HEQ.out, ?_, ?_, ?_⟩
         · rw [HQ.out]
         · intro h; rw [HQ.out] at h; exact absurd h (by first | decide | exact HNZ.out)
         · intro _; exact ⟨rfl, rfl⟩
   · have e2 : (o2 != 0) = true := by simp [h2]
     have HQ : Hid (Q = (o2, zeroTm, [])) := Lib.hid (by rw [HQ0.out, H1.out, if_pos (by simp [orE, h2])]; simp [orE])
     have H2 := Lib.hid h2
     clear h2
     go_wp2_with (first
      | (refine wpList_buildT rfl [] rfl [] rfl built_none ?_)
      | (refine wpList_storeT rfl (.tmp 6) (.tmp 28) rfl (g := rx) rfl (k := 0) (s := 0) (n := ⟨#[]⟩) (ka := none) (kl := 0) (kc := 0) rfl HBR.out rfl ?_
         intro wq c6 q6 e6 z6
         have HG6 := Lib.hid c6
         have HEQ := Lib.hid (e6 w HE2.out (by have := HNB.out; omega))
         clear c6 q6 e6 z6))
     refine ret_term3 (g := rx) rfl rfl HG6.out rfl ⟨_, _, _, rfl, HEQ.out, ?_, ?_, ?_⟩
     · rw [HQ.out]
     · intro h; rw [HQ.out] at h; exact absurd h H2.out
     · intro _; exact ⟨rfl, rfl⟩
 · have e1 : (o1 != 0) = true := by simp [h1]
   have HQ : Hid (Q = (o1, zeroTm, [])) := Lib.hid (by rw [HQ0.out, if_pos (by simp [orE, h1])]; simp [orE, h1])
   have H1 := Lib.hid h1
   clear h1
   go_wp2_with (first
    | (refine wpList_buildT rfl [] rfl [] rfl built_none ?_)
    | (refine wpList_storeT rfl (.tmp 6) (.tmp 22) rfl (g := rx) rfl (k := 0) (s := 0) (n := ⟨#[]⟩) (ka := none) (kl := 0) (kc := 0) rfl HBR.out rfl ?_
       intro wq c6 q6 e6 z6
       have HG6 := Lib.hid c6
       have HEQ := Lib.hid (e6 w HE2.out (by have := HNB.out; omega))
       clear c6 q6 e6 z6))
   refine ret_term3 (g := rx) rfl rfl HG6.out rfl ⟨_, _, _, rfl, HEQ.out, ?_, ?_, ?_⟩
   · rw [HQ.out]
   · intro h; rw [HQ.out] at h; exact absurd h H1.out
   · intro _; exact ⟨rfl, rfl⟩

end Go.Proofs.Ytpfnlbaloaohgaa
