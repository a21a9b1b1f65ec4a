/- Plain law: the first redex. Contracts: the first redex. Contracts: apply, is normal. -/
import Derived.Test.YtpfnlbaloaohgaaH6
import Derived.Test.YtpfnlbaloaohgaaN24
namespace Go.Proofs.Ytpfnlbaloaohgaa
open Go
set_option linter.unusedVariables false
set_option linter.unusedSimpArgs false

/-- the first rule that can be applied at the root -/
def firstI (R : List Rl) (u : Tm) : Option Rdx := (fitI R u [] R.length).head?
mutual
/-- the first redex: kids ahead of their node -/
def firstP (R : List Rl) : Tm → Option Rdx
 | .mk k n s l => match firstL R l 0 with | some r => some r | none => firstI R (.mk k n s l)
def firstL (R : List Rl) : List Tm → Nat → Option Rdx
 | [], _ => none
 | t :: l, i => match firstP R t with | some r => some (r.1, (i : Int) :: r.2) | none => firstL R l (i + 1)
end
theorem firstP_eq (R : List Rl) (t : Tm) : firstP R t = match firstL R t.kids 0 with | some r => some r | none => firstI R t := by cases t; rw [firstP]; rfl
theorem firstL_none (R : List Rl) : ∀ (l : List Tm) (i j : Nat), firstL R (l.take j) i = none → firstL R l i = firstL R (l.drop j) (i + j)
 | l, i, 0, _ => rfl
 | [], i, j + 1, _ => by simp [firstL]
 | t :: l, i, j + 1, h => by
   rw [List.take_succ_cons, firstL] at h
   rw [List.drop_succ_cons, firstL]
   cases hp : firstP R t with
   | some r => rw [hp] at h; cases h
   | none =>
     rw [hp] at h
     simp only at h ⊢
     rw [firstL_none R l (i + 1) j h, show i + 1 + j = i + (j + 1) by omega]
theorem firstL_take {R : List Rl} {l : List Tm} {j : Nat} {x : Tm} (h : firstL R (l.take j) 0 = none) (hx : l[j]? = some x) (hn : firstP R x = none) : firstL R (l.take (j + 1)) 0 = none := by
 have hj := (List.getElem?_eq_some_iff.1 hx).1
 have e : (l.take (j + 1)).take j = l.take j := by rw [List.take_take]; congr 1; omega
 have e2 : (l.take (j + 1)).drop j = [x] := by
  rw [List.take_add_one, hx, List.drop_append, List.drop_of_length_le (by rw [List.length_take]; omega), List.length_take, Nat.min_eq_left (by omega)]; simp
 rw [firstL_none R _ 0 j (by rw [e]; exact h), e2, firstL, hn, firstL]
theorem firstL_hit {R : List Rl} {l : List Tm} {j : Nat} {x : Tm} {r : Rdx} (h : firstL R (l.take j) 0 = none) (hx : l[j]? = some x) (hn : firstP R x = some r) : firstL R l 0 = some (r.1, (j : Int) :: r.2) := by
 rw [firstL_none R l 0 j h]
 obtain ⟨hj, rfl⟩ := List.getElem?_eq_some_iff.1 hx
 rw [List.drop_eq_getElem_cons hj, firstL, hn, Nat.zero_add]
theorem fitI_head {R : List Rl} {u : Tm} {n : Nat} {r : Rl} (h0 : fitI R u [] n = []) (hr : R[n]? = some r) (hf : fitP r u = true) : firstI R u = some ((n : Int), []) := by
 have hn := (List.getElem?_eq_some_iff.1 hr).1
 have key : ∀ k, n + 1 ≤ k → (fitI R u [] k).head? = some ((n : Int), []) := by
  intro k
  induction k with
  | zero => omega
  | succ k ih =>
    intro hk
    rw [fitI]
    by_cases e : k = n
    · subst e; rw [h0, hr]; simp [hf]
    · have := ih (by omega)
      rw [List.head?_append, this]; rfl
 exact key R.length (by omega)
mutual
theorem firstP_bound (R : List Rl) : ∀ (t : Tm) (r : Rdx), firstP R t = some r → r.2.length ≤ sizeT t ∧ 0 ≤ r.1 ∧ r.1 < R.length
 | .mk k0 n s l, r, h => by
   rw [firstP] at h
   rw [sizeT]
   cases hl : firstL R l 0 with
   | some q =>
     rw [hl] at h
     have h := Option.some.inj h
     have := firstL_bound R l 0 q hl
     subst h
     omega
   | none =>
     rw [hl] at h
     simp only at h
     have hk : ∀ k, ∀ q ∈ fitI R (.mk k0 n s l) [] k, k ≤ R.length → q.2 = [] ∧ 0 ≤ q.1 ∧ q.1 < R.length := by
      intro k
      induction k with
      | zero => intro q hq; simp [fitI] at hq
      | succ k ih =>
        intro q hq hk
        rw [fitI] at hq
        rcases List.mem_append.1 hq with hq | hq
        · exact ih q hq (by omega)
        · split at hq
          · split at hq
            · simp at hq; subst hq; simp; omega
            · simp at hq
          · simp at hq
     have hm := List.mem_of_mem_head? h
     have := hk _ r hm (Nat.le_refl _)
     rw [this.1]
     simp
     omega
theorem firstL_bound (R : List Rl) : ∀ (l : List Tm) (i : Nat) (r : Rdx), firstL R l i = some r → r.2.length ≤ 1 + sizeL l ∧ 0 ≤ r.1 ∧ r.1 < R.length
 | [], i, r, h => by simp [firstL] at h
 | t :: l, i, r, h => by
   rw [firstL] at h
   rw [sizeL]
   cases hp : firstP R t with
   | some q =>
     rw [hp] at h
     cases h
     have := firstP_bound R t q hp
     simp
     omega
   | none =>
     rw [hp] at h
     have := firstL_bound R l (i + 1) r h
     omega
end

end Go.Proofs.Ytpfnlbaloaohgaa

namespace Go.Proofs.Ytpfnlbaloaohgaa
open Go Go.RowKit
set_option linter.unusedVariables false
set_option linter.unusedSimpArgs false

theorem sizRdx : (Try.prog.info? 45).map (·.size) = some 2 := by kernel_rfl
theorem built_redex0 : Try.prog.built 45 [] = some #[.int .i64 0, .slice none 0 0] := by kernel_rfl
theorem wpList_storeX {ops : Array Oper} {rest : List Oper} {o : Oper} {a : Act} {w : World} {Q : Exit → Act → World → Prop} (hgd : o.guard = none) (x y : Operand) (ho : o.op = .store 45 x y)
 {g : Nat} (hx : a.eval x = .pointer (some ⟨g, 0, none⟩)) {k : Int} {ka : Option Addr} {kl kc : Nat} (hy : a.eval y = .agg #[.int .i64 k, .slice ka kl kc])
 {old : Array Value} (hg : w.heap[g]? = some (.cells old 45)) (ho2 : old.size = 2)
 (hK : ∀ w', w'.heap[g]? = some (.cells #[.int .i64 k, .slice ka kl kc] 45) → (∀ q, q ≠ g → w'.heap[q]? = w.heap[q]?) → (∀ W0, Ext W0 w → W0.heap.size ≤ g → Ext W0 w') → w'.heap.size = w.heap.size → wpList Try.prog ops Q rest (a.put o.dst undef) w') :
 wpList Try.prog ops Q (o :: rest) a w := by
 refine wpList_store_all hgd 45 x y ho g _ hx hy 45 old hg sizRdx ho2 (by simp [Value.oneCell']) ?_
 exact hK _ (setRow_heap w g old _ _ _ hg) (fun q hq => setRow_other w g q _ hq) (fun W0 h hg => h.setRow hg _) (size_setRow _ _ _)
theorem ret_rdx2 {F : Func} {p u g : Nat} {tmps : Array Value} {w : World} {cs : Array Value} {R : Ending → World → Prop} (hr : F.results = #[.cell p 45, .tmp u]) (hp : tmps.getD p undef = .pointer (some ⟨g, 0, none⟩)) (hg : w.heap[g]? = some (.cells cs 45)) (hs : cs.size = 2) (h : R (.returned (.tuple #[.agg cs, tmps.getD u undef])) w) :
 bodyPost Try.prog F R .ret ⟨tmps, []⟩ w := by
 refine bodyPost_ret ?_ rfl h
 rw [results_cell_tmp hr, hp]
 simp only [asAddr, Sem.run_pure, Result.andThen_ok]
 rw [run_loadVar_row w g _ _ cs _ _ hg Try.underlying45 rfl (by rw [hs]; exact sizRdx)]
 rfl
theorem own_oneI {w : World} {base fb : Nat} {S : Nat → Prop} {k : Int} (hb : w.heap[fb]? = some (.cells #[.int .i64 k] 3)) (hf : base ≤ fb) (hk : I64 k) : OwnG elI w base 3 S (.slice (some ⟨fb, 0, none⟩) 1 1) [k] :=
 ⟨[(k, [.int .i64 k])], rfl, fun p hp => by simp at hp; subst hp; exact ⟨rfl, hk⟩, ⟨rfl, .inr ⟨fb, 1, _, rfl, hf, hb, Nat.le_refl _, by unfold maxLen; omega, rfl, rfl⟩⟩⟩
/-- a redex, if there is one -/
def rdxR (w : World) (S : Nat → Prop) (v : Value) (b : Bool) (r : Option Rdx) : Prop :=
 (∃ q a c, r = some q ∧ b = true ∧ v = .agg #[.int .i64 q.1, .slice a q.2.length c] ∧ LsG elI w S (.slice a q.2.length c) q.2) ∨ (r = none ∧ b = false ∧ v = .agg #[.int .i64 0, .slice none 0 0])

set_option maxRecDepth 100000 in
set_option maxHeartbeats 8000000 in
theorem first_rdx (n : Nat) : ∀ (w : World) (S S' : Nat → Prop) (a ta : Option Addr) (cap tc : Nat) (R : List Rl) (t : Tm), sizeT t ≤ n → n ≤ 100000 → smallR R → R.length ≤ 40 → LsG elP w S (.slice a R.length cap) R → TmW w S' ta tc t →
 Calls Try.prog 41 #[.slice a R.length cap, .agg #[.int .i64 t.kind, .string t.name, .int .i64 t.sort, .slice ta t.kids.length tc]] w fun e w' => ∃ v b, e = .returned (.tuple #[v, .bool b]) ∧ Ext w w' ∧ rdxR w' (fun c => w.heap.size ≤ c) v b (firstP R t) := by
 induction n with
 | zero => intro w S S' a ta cap tc R t hn; have := sizeT_kids t; omega
 | succ n ih =>
   intro w S S' a ta cap tc R t hn hn2 hz h40 hL hT
   obtain ⟨-, hll, hlc⟩ := hL.len
   unfold maxLen at hlc
   have hkl := hT.len
   have hkc := hT.cap
   unfold maxLen at hkc
   obtain ⟨bx, w1, hbbx, hwbx, HBbx, hEbx⟩ := box_new w (.cells #[.int .i64 t.kind, .string t.name, .int .i64 t.sort, .slice ta t.kids.length tc] 31)
   have hs1 : w1.heap.size = bx + 1 := by rw [hwbx, hbbx, World.size_alloc]
   obtain ⟨rx, hrx⟩ : ∃ zz9, zz9 = bx + 1 := ⟨_, rfl⟩
   obtain ⟨w2, hw2⟩ : ∃ zz9, zz9 = w1.alloc (.cells #[.int .i64 0, .slice none 0 0] 45) := ⟨_, rfl⟩
   have hE2 : Ext w1 w2 := by rw [hw2]; exact Ext.alloc _ _
   have HBR : Hid (w2.heap[rx]? = some (.cells #[.int .i64 0, .slice none 0 0] 45)) := Lib.hid (by rw [hw2, hrx, ← hs1]; exact hs_new)
   have hEa := hEbx.trans hE2
   have HE2 := Lib.hid hEa
   have HNB : Hid (w.heap.size = bx ∧ rx = bx + 1 ∧ w2.heap.size = bx + 2) := Lib.hid ⟨hbbx.symm, hrx, by rw [hw2, World.size_alloc, hs1]⟩
   have HBB := Lib.hid (hs_ext hE2 HBbx.out)
   obtain ⟨b0, b1, b2, b3⟩ := box4r (HBB.out)
   have HL := Lib.hid (hL.ext hEa).any
   have HT := Lib.hid (hT.ext hEa).any
   have HZ := Lib.hid hz
   have HN := Lib.hid (And.intro hn hn2)
   have HK := Lib.hid (sizeT_kids t)
   have H40 := Lib.hid h40
   have IH := Lib.hid ih
   obtain ⟨Q, hQ⟩ : ∃ Q, Q = firstP R t := ⟨_, rfl⟩
   have hQ2 := hQ
   rw [← hQ]
   rw [firstP_eq] at hQ
   have HQ0 := Lib.hid hQ
   clear hL hT hEbx hE2 hEa hs1 hn hn2 hz h40 ih hQ hQ2
   go_enter Try.func41, Try.ntmps41
   go_upto_region 1 with fail
   rw [← hwbx, ← hbbx, ← hw2, ← hrx]
   clear hwbx hbbx hw2 hrx
   go_wp2_with fail
   go_loopw [6, 15] (fun _ kv wr => Hid (∃ k : Nat, kv = .int .i64 k ∧ k ≤ t.kids.length ∧ firstL R (t.kids.take k) 0 = none ∧ Ext w2 wr)) (fun _ kv _ => t.kids.length - (intOf kv).toNat)
   case atStart => exact Lib.hid ⟨0, rfl, by omega, by simp [firstL], Ext.refl _⟩
   case round =>
    obtain ⟨k, rfl, hk, hf, hE⟩ := hrel.out
    have HF := Lib.hid hf
    have HE := Lib.hid hE
    clear hrel hf hE
    obtain ⟨b0, b1, b2, b3⟩ := cs_e4 HE.out ⟨b0, b1, b2, b3⟩
    by_cases hlt : k < t.kids.length
    · obtain ⟨x, hx⟩ : ∃ x, t.kids[k]? = some x := ⟨_, List.getElem?_eq_getElem hlt⟩
      obtain ⟨xb, xo, xa, xc, rfl, x0, x1, x2, x3, hTx⟩ := (HT.out.ext HE.out).ts.at hx
      have hsx := sizeL_get hx
      obtain ⟨xx, wa, hbxx, hwxx, HBxx, hExx⟩ := box_new wr (.cells #[.int .i64 x.kind, .string x.name, .int .i64 x.sort, .slice xa x.kids.length xc] 31)
      have hEa := HE.out.trans hExx
      have hcon := IH.out wa Any Any a xa cap xc R x (by have := HK.out; have := HN.out; omega) (by have := HN.out; omega) HZ.out H40.out (HL.out.ext hEa) (hTx.ext hExx)
      have HC := Lib.hid hcon
      have HX := Lib.hid hx
      have HEa := Lib.hid hEa
      have hxz : sizeT x ≤ 100000 := by have := HK.out; have := HN.out; omega
      have HXZ := Lib.hid hxz
      obtain ⟨b0, b1, b2, b3⟩ := cs_e4 hExx ⟨b0, b1, b2, b3⟩
      clear hx hTx hsx hcon hEa hExx hxz
      go_upto_region 4 with fail
      rw [← hwxx, ← hbxx]
      clear hwxx hbxx
      clear x0 x1 x2 x3
      obtain ⟨x0, x1, x2, x3⟩ := box4r (HBxx.out)
      go_wp2_with fail
      refine HC.out.mono ?_
      rintro e wb ⟨v, b, rfl, hEb, hA⟩
      have HEb := Lib.hid (HEa.out.trans hEb)
      obtain ⟨b0, b1, b2, b3⟩ := cs_e4 hEb ⟨b0, b1, b2, b3⟩
      cases hfp : firstP R x with
      | some q =>
        obtain ⟨pa, pc, rfl, rfl, hP⟩ : ∃ pa pc, b = true ∧ v = .agg #[.int .i64 q.1, .slice pa q.2.length pc] ∧ LsG elI wb (fun c => wa.heap.size ≤ c) (.slice pa q.2.length pc) q.2 := by
         rcases hA with ⟨q', a', c', e1, e2, e3, e4⟩ | ⟨e1, -⟩
         · rw [hfp] at e1; cases e1; exact ⟨_, _, e2, e3, e4⟩
         · rw [hfp] at e1; cases e1
        have HQ : Hid (Q = some (q.1, (k : Int) :: q.2)) := Lib.hid (by rw [HQ0.out, firstL_hit HF.out HX.out hfp])
        have hqb := firstP_bound R x q hfp
        obtain ⟨-, hpl, hpc⟩ := hP.len
        unfold maxLen at hpc
        have HQB := Lib.hid hqb
        obtain ⟨vx, hvx⟩ : ∃ zz9, zz9 = wb.heap.size := ⟨_, rfl⟩
        obtain ⟨wc, hwc⟩ : ∃ zz9, zz9 = wb.alloc (.cells #[.int .i64 q.1, .slice pa q.2.length pc] 45) := ⟨_, rfl⟩
        have hEc : Ext wb wc := by rw [hwc]; exact Ext.alloc _ _
        have hbv : wc.heap[vx]? = some (.cells #[.int .i64 q.1, .slice pa q.2.length pc] 45) := by rw [hwc, hvx]; exact hs_new
        have v0 : wc.cell? ⟨vx, 0, none⟩ = some (.int .i64 q.1) := by rw [cellc hbv]; rfl
        have v1 : wc.cell? ⟨vx, 1, none⟩ = some (.slice pa q.2.length pc) := by rw [cellc hbv]; rfl
        have HPc := Lib.hid (hP.ext hEc)
        have HEc := Lib.hid (HEb.out.trans hEc)
        have HBV := Lib.hid hbv
        have hsc : wc.heap.size = vx + 1 := by rw [hwc, hvx, World.size_alloc]
        have HSC : Hid (wc.heap.size = vx + 1 ∧ wa.heap.size ≤ vx) := Lib.hid ⟨hsc, by have := hEb.size; omega⟩
        clear hEb hA hfp hqb hP hEc hbv hsc
        go_upto_region 6 with fail
        rw [← hwc, ← hvx]
        clear hwc hvx
        obtain ⟨wd, hwd⟩ : ∃ zz9, zz9 = wc.alloc (.cells #[.int .i64 (k : Int)] 3) := ⟨_, rfl⟩
        have hEd : Ext wc wd := by rw [hwd]; exact Ext.alloc _ _
        have hkb : I64 (k : Int) := by have := HXZ.out; have := HK.out; have := HN.out; have := len_size t.kids; unfold I64; omega
        have HOd : Hid (OwnG elI wd wc.heap.size 3 (fun _ => False) (.slice (some ⟨wc.heap.size, 0, none⟩) 1 1) [(k : Int)]) := Lib.hid (own_oneI (by rw [hwd]; exact hs_new) (Nat.le_refl _) hkb)
        have HPd := Lib.hid ((HPc.out.ext hEd).e.wideI (S' := fun _ => False))
        have HEd := Lib.hid hEd
        have HBVd := Lib.hid (hs_ext hEd HBV.out)
        clear hEd hkb v0 v1
        have v1 : (wc.alloc (.cells #[.int .i64 (k : Int)] 3)).cell? ⟨vx, 1, none⟩ = some (.slice pa q.2.length pc) := by rw [← hwd, cellc HBVd.out]; rfl
        go_upto_region 7 with (
         at_builtin
         try rw [← HSC.out.1]
         rw [← hwd]
         refine wpList_appG (E := elI) (T := 3) rfl 43 (.tmp 28) (.tmp 30) rfl rfl rfl Try.underlying43 infInt rfl (by decide) (by decide) HOd.out HEd.out.size (fun c h => absurd h id) (by simp) (M := q.2) (by have := HQB.out; have := HXZ.out; omega) HPd.out ?_
         intro v6 w6 o6 g6 k6
         have hE6 : Ext wc w6 := Ext.grown HEd.out g6 (fun c hc => (HOd.out.lt c hc).1)
         have hbv6 := hs_ext hE6 HBV.out
         have z1 : w6.cell? ⟨vx, 1, none⟩ = some (.slice pa q.2.length pc) := by rw [cellc hbv6]; rfl
         have zf : w6.frozen? ⟨vx, 1, none⟩ = false := frozenc hbv6
         have HG7 : Hid ((w6.setCell ⟨vx, 1, none⟩ v6).heap[vx]? = some (.cells #[.int .i64 q.1, v6] 45)) := Lib.hid (by
          rw [heap_setCell_same w6 vx 1 _ _ v6 hbv6]; simp)
         have HE7 : Hid (Ext w (w6.setCell ⟨vx, 1, none⟩ v6)) := Lib.hid (((HE2.out.trans HEc.out).trans hE6).setCell (by have := HSC.out.2; have := (HE2.out.trans HEa.out).size; omega) v6)
         have HR7 : Hid ((w6.setCell ⟨vx, 1, none⟩ v6).heap[rx]? = some (.cells #[.int .i64 0, .slice none 0 0] 45)) := Lib.hid (by
          rw [heap_setCell_other _ _ _ _ (by have := HSC.out.2; have := HEa.out.size; have := HNB.out; show rx ≠ vx; omega)]
          exact hs_ext (HEc.out.trans hE6) HBR.out)
         have HO7 : Hid (OwnG elI (w6.setCell ⟨vx, 1, none⟩ v6) wc.heap.size 3 (fun c => wc.heap.size ≤ c) v6 ((k : Int) :: q.2)) := Lib.hid (elI_wide (w' := w6) (o6.keep (w' := w6.setCell ⟨vx, 1, none⟩ v6) (S' := fun _ => False) (fun c hc => heap_setCell_other _ _ _ _ (by have := (o6.lt c hc).1; have := HSC.out; show c ≠ vx; omega)) (fun c h => absurd h id) (fun _ h _ => h)))
         obtain ⟨u1, u2, hu, -, hu2⟩ := o6.slice
         unfold maxLen at hu2
         have hl6 : ([(k : Int)] ++ q.2).length = q.2.length + 1 := by simp
         rw [hl6] at hu
         subst hu
         clear o6 g6 k6 hE6 hbv6 hl6)
        obtain ⟨w7, hw7⟩ : ∃ zz9, zz9 = w6.setCell ⟨vx, 1, none⟩ (.slice u1 (q.2.length + 1) u2) := ⟨_, rfl⟩
        rw [← hw7] at HG7 HE7 HR7 HO7
        rw [← hw7]
        clear hw7 z1 zf v1
        have v0 : w7.cell? ⟨vx, 0, none⟩ = some (.int .i64 q.1) := by rw [cellc HG7.out]; rfl
        have v1 : w7.cell? ⟨vx, 1, none⟩ = some (.slice u1 (q.2.length + 1) u2) := by rw [cellc HG7.out]; rfl
        go_wp2_with (
         refine wpList_storeX rfl (.tmp 4) (.tmp 33) rfl (g := rx) rfl (k := q.1) (ka := u1) (kl := q.2.length + 1) (kc := u2) rfl HR7.out rfl ?_
         intro w8 c8 q8 e8 z8
         have HG8 := Lib.hid c8
         have HE8 := Lib.hid (e8 w HE7.out (by have := HNB.out; omega))
         have HO8 := Lib.hid (HO7.out.keep (w' := w8) (S' := fun c => wc.heap.size ≤ c) (fun c hc => q8 c (by have := (HO7.out.lt c hc).1; have := HSC.out; have := HNB.out; have := HEa.out.size; omega)) (fun c hc _ => q8 c (by have := HSC.out; have := HNB.out; have := HEa.out.size; omega)) (fun _ h _ => h))
         clear c8 q8 e8 z8)
        refine ret_rdx2 (g := rx) rfl rfl HG8.out rfl ⟨_, _, rfl, HE8.out, .inl ⟨(q.1, (k : Int) :: q.2), u1, u2, HQ.out, rfl, rfl, ?_⟩⟩
        exact HO8.out.ls (fun c h _ => by have := (HE2.out.trans HEc.out).size; omega) (fun g _ h1 _ => by have := (HE2.out.trans HEc.out).size; omega)
      | none =>
        obtain ⟨rfl, rfl⟩ : b = false ∧ v = .agg #[.int .i64 0, .slice none 0 0] := by
         rcases hA with ⟨q', a', c', e1, -⟩ | ⟨-, e2, e3⟩
         · rw [hfp] at e1; cases e1
         · exact ⟨e2, e3⟩
        have HFN := Lib.hid (firstL_take HF.out HX.out hfp)
        clear hEb hA hfp
        go_wp2_with fail
        go_roundw
        case rel => exact Lib.hid ⟨k + 1, by go_num, by omega, HFN.out, HEb.out.then_al _⟩
        case measure => simp [intOf]; omega
    · have HQ1 : Hid (Q = firstI R t) := Lib.hid (by
       have h := HF.out
       rw [List.take_of_length_le (by omega)] at h
       rw [HQ0.out, h])
      have hkz : ¬ ((k : Int) < (t.kids.length : Int)) := by omega
      have HE3 := Lib.hid HE.out
      have HBB3 := Lib.hid (hs_ext HE.out HBB.out)
      have HR3 := Lib.hid (hs_ext HE.out HBR.out)
      have HL3 := Lib.hid (HL.out.ext HE.out)
      have HT3 := Lib.hid (HT.out.ext HE.out)
      obtain ⟨w3, hw3⟩ : ∃ zz9, zz9 = wr := ⟨_, rfl⟩
      subst hw3
      go_wp2_with fail
      go_loopw [10, 37] (fun _ jv wx => Hid (∃ j : Nat, jv = .int .i64 j ∧ j ≤ R.length ∧ fitI R t [] j = [] ∧ Ext w3 wx)) (fun _ jv _ => R.length - (intOf jv).toNat)
      case atStart => exact Lib.hid ⟨0, rfl, by omega, rfl, Ext.refl _⟩
      case round =>
       obtain ⟨j, rfl, hj, hfi, hE⟩ := hrel.out
       have HFI := Lib.hid hfi
       have HE8 := Lib.hid hE
       clear hrel hfi hE
       obtain ⟨b0, b1, b2, b3⟩ := cs_e4 HE8.out ⟨b0, b1, b2, b3⟩
       by_cases hjl : j < R.length
       · obtain ⟨r, hr⟩ : ∃ r, R[j]? = some r := ⟨_, List.getElem?_eq_getElem hjl⟩
         obtain ⟨rb, ro, xa, xc, ya, yc, rfl, ⟨x0, x1, x2, x3⟩, ⟨y0, y1, y2, y3⟩, hTx, hTy⟩ := (HL3.out.ext HE8.out).pAt hr
         have hsz := HZ.out r (List.mem_of_getElem? hr)
         obtain ⟨qx, wa, hbqx, hwqx, HBqx, hEqx⟩ := box_new wr (.cells #[.int .i64 r.1.kind, .string r.1.name, .int .i64 r.1.sort, .slice xa r.1.kids.length xc, .int .i64 r.2.kind, .string r.2.name, .int .i64 r.2.sort, .slice ya r.2.kids.length yc] 55)
         have HEa := Lib.hid (HE8.out.trans hEqx)
         have hcf := fits_any (r := r) (t := t) (by omega) (by have := HN.out; omega) (hTx.ext hEqx) (hTy.ext hEqx) ((HT3.out.ext HE8.out).ext hEqx)
         obtain ⟨b, hb⟩ : ∃ b, b = fitP r t := ⟨_, rfl⟩
         rw [← hb] at hcf
         have HCF := Lib.hid hcf
         have HB := Lib.hid hb
         have HRJ := Lib.hid hr
         obtain ⟨b0, b1, b2, b3⟩ := cs_e4 hEqx ⟨b0, b1, b2, b3⟩
         clear hr hsz hcf hb hTx hTy hEqx
         go_upto_region 12 with fail
         rw [← hwqx, ← hbqx]
         clear hwqx hbqx
         clear x0 x1 x2 x3 y0 y1 y2 y3
         have z0 : wa.cell? ⟨qx, 0, none⟩ = some (.int .i64 r.1.kind) := by rw [cellc (HBqx.out)]; rfl
         have z1 : wa.cell? ⟨qx, 1, none⟩ = some (.string r.1.name) := by rw [cellc (HBqx.out)]; rfl
         have z2 : wa.cell? ⟨qx, 2, none⟩ = some (.int .i64 r.1.sort) := by rw [cellc (HBqx.out)]; rfl
         have z3 : wa.cell? ⟨qx, 3, none⟩ = some (.slice xa r.1.kids.length xc) := by rw [cellc (HBqx.out)]; rfl
         have z4 : wa.cell? ⟨qx, 4, none⟩ = some (.int .i64 r.2.kind) := by rw [cellc (HBqx.out)]; rfl
         have z5 : wa.cell? ⟨qx, 5, none⟩ = some (.string r.2.name) := by rw [cellc (HBqx.out)]; rfl
         have z6 : wa.cell? ⟨qx, 6, none⟩ = some (.int .i64 r.2.sort) := by rw [cellc (HBqx.out)]; rfl
         have z7 : wa.cell? ⟨qx, 7, none⟩ = some (.slice ya r.2.kids.length yc) := by rw [cellc (HBqx.out)]; rfl
         go_wp2_with fail
         refine HCF.out.mono ?_
         rintro e wb ⟨rfl, hEb⟩
         have HEb := Lib.hid (HEa.out.trans hEb)
         clear hEb
         cases b with
         | false =>
           have HFN : Hid (fitI R t [] (j + 1) = []) := Lib.hid (by rw [fitI, HFI.out, HRJ.out]; simp [← HB.out])
           go_wp2_with fail
           go_roundw
           case rel => exact Lib.hid ⟨j + 1, by go_num, by omega, HFN.out, HEb.out⟩
           case measure => simp [intOf]; omega
         | true =>
           have HQ : Hid (Q = some ((j : Int), [])) := Lib.hid (by rw [HQ1.out, fitI_head HFI.out HRJ.out HB.out.symm])
           have HRc : Hid ((wb.alloc (.cells #[] 3)).heap[rx]? = some (.cells #[.int .i64 0, .slice none 0 0] 45)) := Lib.hid (hs_ext (HEb.out.trans (Ext.alloc _ _)) HR3.out)
           have HEc : Hid (Ext w2 (wb.alloc (.cells #[] 3))) := Lib.hid ((HE3.out.trans HEb.out).trans (Ext.alloc _ _))
           have HOc : Hid (OwnG elI (wb.alloc (.cells #[] 3)) wb.heap.size 3 (fun _ => False) (.slice (some ⟨wb.heap.size, 0, none⟩) 0 0) []) := Lib.hid (own_made (Nat.le_refl _))
           have HSB := Lib.hid (HE3.out.trans HEb.out).size
           go_wp2_with (first
            | (refine wpList_buildG (T := 45) rfl [_, _] rfl [(0, .int .i64 (j : Int)), (1, .slice (some ⟨wb.heap.size, 0, none⟩) 0 0)] rfl (built_redex _ _ _ _) ?_)
            | (refine wpList_storeX rfl (.tmp 4) (.tmp 47) rfl (g := rx) rfl (k := (j : Int)) (ka := some ⟨wb.heap.size, 0, none⟩) (kl := 0) (kc := 0) rfl HRc.out rfl ?_
               intro w8 c8 q8 e8 z8
               have HG8 := Lib.hid c8
               have HE9 := Lib.hid (e8 w (HE2.out.trans HEc.out) (by have := HNB.out; omega))
               have HO8 := Lib.hid (HOc.out.keep (w' := w8) (S' := fun c => wb.heap.size ≤ c) (fun c hc => q8 c (by have := (HOc.out.lt c hc).1; have := HSB.out; have := HNB.out; omega)) (fun c h => absurd h id) (fun _ h _ => absurd h id))
               clear c8 q8 e8 z8))
           refine ret_rdx2 (g := rx) rfl rfl HG8.out rfl ⟨_, _, rfl, HE9.out, .inl ⟨((j : Int), []), some ⟨wb.heap.size, 0, none⟩, 0, HQ.out, rfl, rfl, ?_⟩⟩
           exact HO8.out.ls (fun c h _ => by have := HSB.out; have := HE2.out.size; omega) (fun g _ h1 _ => by have := HSB.out; have := HE2.out.size; omega)
       · have HQ : Hid (Q = none) := Lib.hid (by
          have e : j = R.length := by omega
          have h := HFI.out
          rw [e] at h
          rw [HQ1.out, firstI, h]; rfl)
         have hjz : ¬ ((j : Int) < (R.length : Int)) := by omega
         have HRc : Hid (wr.heap[rx]? = some (.cells #[.int .i64 0, .slice none 0 0] 45)) := Lib.hid (hs_ext HE8.out HR3.out)
         go_wp2_with (first
          | (refine wpList_buildG (T := 45) rfl [] rfl [] rfl built_redex0 ?_)
          | (refine wpList_storeX rfl (.tmp 4) (.tmp 49) rfl (g := rx) rfl (k := 0) (ka := none) (kl := 0) (kc := 0) rfl HRc.out rfl ?_
             intro w8 c8 q8 e8 z8
             have HG8 := Lib.hid c8
             have HE9 := Lib.hid (e8 w ((HE2.out.trans HE3.out).trans HE8.out) (by have := HNB.out; omega))
             clear c8 q8 e8 z8))
         refine ret_rdx2 (g := rx) rfl rfl HG8.out rfl ?_
         first
          | exact ⟨_, _, rfl, HE9.out, .inr ⟨HQ.out, rfl, rfl⟩⟩
          | exact ⟨_, .inl ⟨rfl, HE9.out, .inr ⟨HQ.out, rfl, rfl⟩⟩⟩
          | exact .inl ⟨rfl, HE9.out, .inr ⟨HQ.out, rfl, rfl⟩⟩

theorem rulesE_len {R : List Rl} (h : rulesE R = 0) : R.length ≤ 40 := by
 unfold rulesE at h
 split at h
 · omega
 · omega

set_option maxRecDepth 100000 in
set_option maxHeartbeats 8000000 in
theorem PApply_any {w : World} {S S' S'' : Nat → Prop} {a ta pa : Option Addr} {cap tc pc : Nat} {R : List Rl} {t : Tm} {r : Rdx} (hz : smallR R) (hr64 : I64 r.1) (hL : LsG elP w S (.slice a R.length cap) R) (ht : sizeT t ≤ 100000) (hT : TmW w S' ta tc t) (hP : LsG elI w S'' (.slice pa r.2.length pc) r.2) :
 Calls Try.prog 15 #[.slice a R.length cap, .agg #[.int .i64 t.kind, .string t.name, .int .i64 t.sort, .slice ta t.kids.length tc], .agg #[.int .i64 r.1, .slice pa r.2.length pc]] w fun e w' => ∃ v er, e = .returned (.tuple #[v, .int .i64 er]) ∧ Ext w w' ∧ errR w' (fun c => w.heap.size ≤ c) v er (applyP R t r).2 (applyP R t r).1 := by
 obtain ⟨-, hll, hlc⟩ := hL.len
 unfold maxLen at hlc
 obtain ⟨-, hpl, hpc⟩ := hP.len
 unfold maxLen at hpc
 obtain ⟨bx, w1, hbbx, hwbx, HBbx, hEbx⟩ := box_new w (.cells #[.int .i64 t.kind, .string t.name, .int .i64 t.sort, .slice ta t.kids.length tc] 31)
 have hs1 : w1.heap.size = bx + 1 := by rw [hwbx, hbbx, World.size_alloc]
 obtain ⟨dx, hdx⟩ : ∃ zz9, zz9 = bx + 1 := ⟨_, rfl⟩
 obtain ⟨w1b, hw1b⟩ : ∃ zz9, zz9 = w1.alloc (.cells #[.int .i64 r.1, .slice pa r.2.length pc] 45) := ⟨_, rfl⟩
 have hE1b : Ext w1 w1b := by rw [hw1b]; exact Ext.alloc _ _
 have hs1b : w1b.heap.size = dx + 1 := by rw [hw1b, World.size_alloc, hs1, hdx]
 have hbd : w1b.heap[dx]? = some (.cells #[.int .i64 r.1, .slice pa r.2.length pc] 45) := by rw [hw1b, hdx, ← hs1]; exact hs_new
 obtain ⟨rx, hrx⟩ : ∃ zz9, zz9 = dx + 1 := ⟨_, rfl⟩
 obtain ⟨w2, hw2⟩ : ∃ zz9, zz9 = w1b.alloc (.cells #[.int .i64 0, .string ⟨#[]⟩, .int .i64 0, .slice none 0 0] 31) := ⟨_, rfl⟩
 have hE2 : Ext w1b w2 := by rw [hw2]; exact Ext.alloc _ _
 have HBR : Hid (w2.heap[rx]? = some (.cells #[.int .i64 0, .string ⟨#[]⟩, .int .i64 0, .slice none 0 0] 31)) := Lib.hid (by rw [hw2, hrx, ← hs1b]; exact hs_new)
 have hEa := (hEbx.trans hE1b).trans hE2
 have HE2 := Lib.hid hEa
 have HNB : Hid (w.heap.size = bx ∧ dx = bx + 1 ∧ rx = bx + 2) := Lib.hid ⟨hbbx.symm, hdx, by omega⟩
 have HBD := Lib.hid (hs_ext hE2 hbd)
 have HBB := Lib.hid (hs_ext (hE1b.trans hE2) HBbx.out)
 obtain ⟨b0, b1, b2, b3⟩ := box4r (HBB.out)
 have d0 : w2.cell? ⟨dx, 0, none⟩ = some (.int .i64 r.1) := by rw [cellc HBD.out]; rfl
 have d1 : w2.cell? ⟨dx, 1, none⟩ = some (.slice pa r.2.length pc) := by rw [cellc HBD.out]; rfl
 have HL := Lib.hid (hL.ext hEa).any
 have HT := Lib.hid (hT.ext hEa).any
 have HP := Lib.hid (hP.ext hEa).any
 have HZ := Lib.hid hz
 have HTZ := Lib.hid ht
 have HR64 := Lib.hid hr64
 have hc1 := PRules_any hz (hL.ext hEa)
 obtain ⟨o1, ho1⟩ : ∃ o, o = rulesE R := ⟨_, rfl⟩
 obtain ⟨o2, ho2⟩ : ∃ o, o = validT t := ⟨_, rfl⟩
 rw [← ho1] at hc1
 have HC1 := Lib.hid hc1
 obtain ⟨Q, hQ⟩ : ∃ Q, Q = applyP R t r := ⟨_, rfl⟩
 rw [← hQ]
 unfold applyP at hQ
 rw [← ho1, ← ho2] at hQ
 have HQ0 := Lib.hid hQ
 have HO := Lib.hid (And.intro ho1 ho2)
 have HNZ : Hid True := Lib.hid trivial
 clear hL hT hP hz ht hr64 hc1 ho1 ho2 hEbx hE1b hE2 hEa hs1 hs1b hbd hQ
 go_enter Try.func15, Try.ntmps15
 go_upto_region 1 with fail
 rw [← hwbx, ← hbbx, ← hw1b, ← hdx, ← hw2, ← hrx]
 clear hwbx hbbx hw1b hdx hw2 hrx
 go_wp2_with fail
 refine HC1.out.mono ?_
 rintro e w3 ⟨rfl, hE3⟩
 obtain ⟨b0, b1, b2, b3, d0, d1⟩ := cs_e6 hE3 ⟨b0, b1, b2, b3, d0, d1⟩
 have HL := Lib.hid (HL.out.ext hE3)
 have HT := Lib.hid (HT.out.ext hE3)
 have HP := Lib.hid (HP.out.ext hE3)
 have HBR := Lib.hid (hs_ext hE3 HBR.out)
 have HE2 := Lib.hid (HE2.out.trans hE3)
 have hc2 := PValid_any (w := w3) (by have := HTZ.out; omega) HT.out
 rw [← HO.out.2] at hc2
 have HC2 := Lib.hid hc2
 clear hE3 hc2
 by_cases h1 : o1 = 0
 · have e1 : (o1 != 0) = false := by simp [h1]
   have H1 := Lib.hid h1
   clear h1
   go_wp2_with fail
   refine HC2.out.mono ?_
   rintro e w4 ⟨rfl, hE4⟩
   obtain ⟨b0, b1, b2, b3, d0, d1⟩ := cs_e6 hE4 ⟨b0, b1, b2, b3, d0, d1⟩
   have HL := Lib.hid (HL.out.ext hE4)
   have HT := Lib.hid (HT.out.ext hE4)
   have HP := Lib.hid (HP.out.ext hE4)
   have HBR := Lib.hid (hs_ext hE4 HBR.out)
   have HE2 := Lib.hid (HE2.out.trans hE4)
   clear hE4
   by_cases h2 : o2 = 0
   · have e2 : (o2 != 0) = false := by simp [h2]
     have HQ1 : Hid (Q = stepP R t r) := Lib.hid (by rw [HQ0.out, if_neg (by rw [H1.out, h2]; simp [orE])])
     have HCS := Lib.hid (step_any (w := w4) (by rw [← HO.out.1]; exact H1.out) (by rw [← HO.out.2]; exact h2) HR64.out HL.out HT.out HP.out)
     clear h2
     go_wp2_with fail
     refine HCS.out.mono ?_
     rintro e w5 ⟨v, er, rfl, hE5, hA⟩
     rw [← HQ1.out] at hA
     obtain ⟨k, n, s, ka, kl, kc, rfl⟩ : ∃ k n s ka kl kc, v = .agg #[.int .i64 k, .string n, .int .i64 s, .slice ka kl kc] := by
      obtain ⟨e1, e2, e3⟩ := hA
      by_cases h : Q.1 = 0
      · obtain ⟨a', c', e, -⟩ := e2 h; exact ⟨_, _, _, _, _, _, e⟩
      · exact ⟨_, _, _, _, _, _, e3 h⟩
     have HA := Lib.hid hA
     have HSZ : Hid (rx < w4.heap.size ∧ w.heap.size ≤ w4.heap.size) := Lib.hid ⟨lt_of_get' HBR.out, HE2.out.size⟩
     have HBR := Lib.hid (hs_ext hE5 HBR.out)
     have HE2 := Lib.hid (HE2.out.trans hE5)
     clear hE5 hA
     go_wp2_with (first
      | (refine wpList_storeT rfl (.tmp 6) (.tmp 26) rfl (g := rx) rfl (k := k) (s := s) (n := n) (ka := ka) (kl := kl) (kc := kc) rfl HBR.out rfl ?_
         intro wq c6 q6 e6 z6
         have HG6 := Lib.hid c6
         have HEQ := Lib.hid (e6 w HE2.out (by have := HNB.out; omega))
         have HQ6 := Lib.hid q6
         clear c6 q6 e6 z6))
     refine ret_term2 (g := rx) rfl rfl HG6.out rfl ⟨_, _, rfl, HEQ.out, HA.out.1, ?_, HA.out.2.2⟩
     intro h
     obtain ⟨a', c', e, hT5⟩ := HA.out.2.1 h
     exact ⟨a', c', e, hT5.keep (fun c h1 h2 => HQ6.out c (by have := HSZ.out; omega)) (fun c h1 _ => by have := HSZ.out; omega)⟩
   · have e2 : (o2 != 0) = true := by simp [h2]
     have HQ : Hid (Q = (o2, zeroTm)) := Lib.hid (by rw [HQ0.out, H1.out, if_pos (by simp [orE, h2])]; simp [orE])
     have H2 := Lib.hid h2
     clear h2
     go_wp2_with (first
      | (refine wpList_buildT rfl [] rfl [] rfl built_none ?_)
      | (refine wpList_storeT rfl (.tmp 6) (.tmp 20) rfl (g := rx) rfl (k := 0) (s := 0) (n := ⟨#[]⟩) (ka := none) (kl := 0) (kc := 0) rfl HBR.out rfl ?_
         intro wq c6 q6 e6 z6
         have HG6 := Lib.hid c6
         have HEQ := Lib.hid (e6 w HE2.out (by have := HNB.out; omega))
         clear c6 q6 e6 z6))
     refine ret_term2 (g := rx) rfl rfl HG6.out rfl ⟨_, _, rfl, HEQ.out, ?_, ?_, ?_⟩
     · rw [HQ.out]
     · intro h; rw [HQ.out] at h; exact absurd h H2.out
     · intro _; rfl
 · have e1 : (o1 != 0) = true := by simp [h1]
   have HQ : Hid (Q = (o1, zeroTm)) := Lib.hid (by rw [HQ0.out, if_pos (by simp [orE, h1])]; simp [orE, h1])
   have H1 := Lib.hid h1
   clear h1
   go_wp2_with (first
    | (refine wpList_buildT rfl [] rfl [] rfl built_none ?_)
    | (refine wpList_storeT rfl (.tmp 6) (.tmp 14) rfl (g := rx) rfl (k := 0) (s := 0) (n := ⟨#[]⟩) (ka := none) (kl := 0) (kc := 0) rfl HBR.out rfl ?_
       intro wq c6 q6 e6 z6
       have HG6 := Lib.hid c6
       have HEQ := Lib.hid (e6 w HE2.out (by have := HNB.out; omega))
       clear c6 q6 e6 z6))
   refine ret_term2 (g := rx) rfl rfl HG6.out rfl ⟨_, _, rfl, HEQ.out, ?_, ?_, ?_⟩
   · rw [HQ.out]
   · intro h; rw [HQ.out] at h; exact absurd h H1.out
   · intro _; rfl

end Go.Proofs.Ytpfnlbaloaohgaa
