/- Contracts: the positions' closure. -/
import Derived.Test.YtpfnlbaloaohgaaH4
namespace Go.Proofs.Ytpfnlbaloaohgaa
open Go Go.RowKit
set_option linter.unusedVariables false
set_option linter.unusedSimpArgs false

theorem one_intE {w : World} {S : Nat → Prop} {fb : Nat} {k : Int} (h : w.heap[fb]? = some (.cells #[.int .i64 k] 3)) (hk : I64 k) : LsE elI w S (.slice (some ⟨fb, 0, none⟩) 1 1) [k] :=
 cells_lsE (P := [(k, [.int .i64 k])]) h rfl rfl rfl (by unfold maxLen; simp) (fun p hp => by simp at hp; subst hp; exact ⟨rfl, hk⟩)
def preP (q : List Int) (L : List (List Int)) : List (List Int) := L.map (fun p => q ++ p)
theorem preP_snoc (q : List Int) (i : Int) (L : List (List Int)) : preP q (L.map (fun p => i :: p)) = preP (q ++ [i]) L := by
 unfold preP
 rw [List.map_map]
 congr 1
 funext p
 simp
theorem kds_of {w W w3 w4 : World} {ob : Nat} {v v' x : Value} (hE : Ext w W) (h3 : W.grownBy w3 v.ownBlock) (h4 : v'.ownBlock = v.ownBlock ∨ v'.ownBlock = some W.heap.size) (e4 : w4 = w3.setCell ⟨ob, 0, none⟩ x) : KdS w w4 ob v v' := by
 subst e4
 refine ⟨fun b b1 b2 b3 => ?_, fun b hb => ?_, ?_⟩
 · rw [heap_setCell_other _ _ _ _ b2, h3.block b (Nat.lt_of_lt_of_le b1 hE.size) (fun e => b3 e.symm), hE.block b1]
 · rcases h4 with e | e
   · exact .inl (by rw [← e]; exact hb)
   · rw [e] at hb
     cases hb
     exact .inr hE.size
 · have := hE.size
   have := h3.size
   simp
   omega

set_option maxRecDepth 100000 in
set_option maxHeartbeats 16000000 in
theorem visit_any {w0 : World} {ob vb : Nat} {S : Nat → Prop} (hw : w0.heap.size ≤ ob) (hov : ob < vb) (hS : ∀ c, S c → c < w0.heap.size) (n : Nat) : ∀ (w : World) (v : Value) (L : List (List Int)) (q : List Int) (Sq : Nat → Prop) (a qa : Option Addr) (cap qc : Nat) (t : Tm), sizeT t ≤ n → L.length + sizeT t ≤ 900000 → q.length + sizeT t ≤ 900000 → PosI w0 w ob vb v L → TmW w0 S a cap t →
 LsG elI w Sq (.slice qa q.length qc) q → (∀ c, Sq c → c ≠ ob ∧ v.ownBlock ≠ some c) →
 Calls Try.prog 51 #[.agg #[.int .i64 t.kind, .string t.name, .int .i64 t.sort, .slice a t.kids.length cap], .slice qa q.length qc, .pointer (some ⟨ob, 0, none⟩), .pointer (some ⟨vb, 0, none⟩)] w fun e w' => e = .returned (.tuple #[]) ∧ ∃ v', PosI w0 w' ob vb v' (L ++ preP q (posT t)) ∧ KdS w w' ob v v' := by
 induction n with
 | zero => intro w v L q Sq a qa cap qc t hn; have := sizeT_kids t; omega
 | succ n ih =>
   intro w v L q Sq a qa cap qc t hn hn2 hn3 hI hT hQ hSq
   have hl := hT.len
   have hc := hT.cap
   unfold maxLen at hc
   obtain ⟨-, hql, hqc⟩ := hQ.len
   unfold maxLen at hqc
   obtain ⟨bx, w1, hbbx, hwbx, HBbx, hEbx⟩ := box_new w (.cells #[.int .i64 t.kind, .string t.name, .int .i64 t.sort, .slice a t.kids.length cap] 31)
   have hI1 := hI.next hEbx
   have hbl : vb < bx := by rw [hbbx]; exact lt_of_get' hI.vc
   have hown1 : ∀ c, v.ownBlock = some c → c < bx := fun c hc => by rw [hbbx]; exact (hI.own.lt c hc).2
   obtain ⟨va, vc, hv, -, hvc⟩ := hI.own.slice
   subst hv
   unfold maxLen at hvc
   obtain ⟨b0, b1, b2, b3⟩ := box4r (HBbx.out)
   have o0 : w1.cell? ⟨ob, 0, none⟩ = some (.slice va L.length vc) := by rw [cellc hI1.oc]; rfl
   have hQw := hQ.wide (S' := fun c => (c ≠ ob ∧ (Value.slice va L.length vc).ownBlock ≠ some c) ∧ c < w.heap.size) (fun c h1 h2 => ⟨hSq c h1, h2⟩)
   have HQ0 := Lib.hid hQw
   have HQ1 := Lib.hid (hQw.ext hEbx)
   have HI1 := Lib.hid hI1
   have HTW := Lib.hid hT
   have HE1 := Lib.hid hEbx
   have HLT := Lib.hid (And.intro hbl hown1)
   have HN := Lib.hid (And.intro hn (And.intro hn2 hn3))
   have HK := Lib.hid (sizeT_kids t)
   have IH := Lib.hid ih
   obtain ⟨R, hR⟩ : ∃ R, R = L ++ preP q (posT t) := ⟨_, rfl⟩
   rw [← hR]
   have HR : Hid (R = (L ++ [q]) ++ preP q (posL t.kids 0)) := Lib.hid (by rw [hR, posT_kids]; simp [preP])
   have HPL : Hid ((posL t.kids 0).length = sizeL t.kids) := Lib.hid (posL_len _ _)
   clear hI hT hQ hSq hI1 hEbx hbl hown1 hn hn2 hn3 ih hR hQw
   go_enter Try.func51, Try.ntmps51
   go_upto_region 1 with fail
   have HBX0 : Hid (bx = w.heap.size ∧ w1.heap.size = bx + 1) := Lib.hid ⟨hbbx, by rw [hwbx, World.size_alloc, hbbx]⟩
   rw [← hwbx, ← hbbx]
   clear hwbx hbbx
   refine wp_region_reg 4 false (by kernel_rfl) (by kernel_rfl) ?_
   refine reg_value (fun _ => rfl) ?_ (fun g w' vs hM hE hP => ?_) ?_
   rotate_left
   · (clear hP hM; have zz0 := cs_ext hE o0; go_simp; first | done | rfl)
   refine reg_value (fun _ => rfl) ?_ (fun g w' vs hM hE hP => ?_) ?_
   rotate_left
   · (clear hP hM; have zz0 := cs_ext hE o0; go_simp; first | done | rfl)
   refine reg_call (fun _ => rfl) 52 ?_ (fun g w' m hM hE hP => ?_) (fun u w'' => OwnG elI w'' w1.heap.size 3 (fun _ => True) u q) ⟨fun u a b h hE => h.ext hE, (fun h => nomatch h), (fun h => absurd rfl h)⟩ (fun g w' m hM hE hP => ?_) ?_
   rotate_left
   · (clear hP hM; go_simp; first | done | exact ⟨rfl, rfl⟩ | rfl)
   · exact (iClone_own (by have := HN.out; omega) (HQ1.out.ext hE)).mono (fun e w'' ⟨u, h1, h2, h3⟩ => ⟨u, h1, h2, h3.low hE.size⟩)
   refine reg_fresh (fun _ => rfl) (fun n => .slice (some ⟨n, 0, none⟩) 1 1) (fun g => .cells #[(g 2).v] 43) (fun g w' m hM hE hP => ?_) ?_
   · obtain ⟨ua, uc, hu, -⟩ := (hP _ List.mem_cons_self (anc_of 1 (by kernel_rfl))).slice
     have hu : (g 2).v = _ := hu
     clear hP hM
     go_simp
     first | done | simp [hu]
   intro g w2 hE2 hF hQ
   simp only [List.drop_succ_cons, List.drop_zero, Act.put, List.setIfInBounds_toArray, List.set_cons_succ, List.set_cons_zero]
   have hu := hQ _ List.mem_cons_self
   have hu : OwnG elI w2 w1.heap.size 3 (fun _ => True) (g 2).v q := hu
   have hf := (hF.2.1 _ List.mem_cons_self).1
   have hf : w2.heap[(g 3).n]? = some (.cells #[(g 2).v] 43) := hf
   obtain ⟨fb, hfb⟩ : ∃ fb, fb = (g 3).n := ⟨_, rfl⟩
   rw [← hfb] at hf
   rw [← hfb]
   obtain ⟨ua, uc, hue, -⟩ := hu.slice
   rw [hue] at hf hu
   rw [hue]
   have hI2 := HI1.out.next hE2
   have hX : LsE (elL elI) w2 (fun c => (vb + 1 ≤ c ∧ (Value.slice va L.length vc).ownBlock ≠ some c) ∧ c < w2.heap.size) (.slice (some ⟨fb, 0, none⟩) 1 1) [q] :=
    cells_lsE (P := [(q, [.slice ua q.length uc])]) hf rfl rfl rfl (by unfold maxLen; simp) (fun p hp => by
     simp at hp; subst hp
     exact ⟨_, rfl, ((elI_wide (w' := w2) (S' := fun c => w1.heap.size ≤ c) hu).new (fun c h _ => h)).wide (fun c h1 h2 => ⟨⟨by have := HBX0.out; have := HLT.out.1; omega, fun e => by have := HLT.out.2 c e; have := HBX0.out; omega⟩, h2⟩)⟩)
   have hO2 := hI2.own.wide (S' := fun c => (vb + 1 ≤ c ∧ (Value.slice va L.length vc).ownBlock ≠ some c) ∧ c < w2.heap.size) (fun c h1 h2 => ⟨h1, h2⟩)
   have hsz : vb + 1 ≤ w2.heap.size := by have := lt_of_get' hI2.vc; omega
   have hoff : ∀ c, (vb + 1 ≤ c ∧ (Value.slice va L.length vc).ownBlock ≠ some c) ∧ c < w2.heap.size → (Value.slice va L.length vc).ownBlock ≠ some c := fun c h => h.1.2
   have hl1 : L.length ≤ 1000000 := by have := HN.out; omega
   have HI2 := Lib.hid hI2
   have HE2 := Lib.hid hE2
   clear hu hue hf hfb hF hQ hI2 hE2 o0 b0 b1 b2 b3
   go_upto_region 2 with (
    at_builtin
    refine wpList_appG (E := elL elI) (T := 43) rfl 68 (.tmp 8) (.tmp 11) rfl rfl rfl Try.underlying68 infInts rfl (by decide) (by decide) hO2 hsz hoff hl1 (M := [q]) (by simp) hX ?_
    intro v3 w3 o3 g3 k3
    have hoc3 : w3.heap[ob]? = some (.cells #[.slice va L.length vc] 68) := by rw [g3.block ob (lt_of_get' HI2.out.oc) (fun e => by have := (HI2.out.own.lt ob e.symm).1; omega)]; exact HI2.out.oc
    have z0 : w3.cell? ⟨ob, 0, none⟩ = some (.slice va L.length vc) := by rw [cellc hoc3]; rfl
    have zf : w3.frozen? ⟨ob, 0, none⟩ = false := frozenc hoc3
    have HP3 := Lib.hid (HI2.out.put hw hov o3 g3 k3)
    have HS3 := Lib.hid (kds_of (ob := ob) (x := v3) (HE1.out.trans HE2.out) g3 k3 rfl)
    obtain ⟨a3, c3, hv3, -, hc3⟩ := o3.slice
    unfold maxLen at hc3
    have HB3 : Hid ((w3.setCell ⟨ob, 0, none⟩ v3).heap[bx]? = some (.cells #[.int .i64 t.kind, .string t.name, .int .i64 t.sort, .slice a t.kids.length cap] 31) ∧ v3.ownBlock ≠ some bx) := Lib.hid ⟨by
     rw [heap_setCell_other _ _ _ _ (by have := HLT.out.1; show bx ≠ ob; omega), g3.block bx (lt_of_get' (hs_ext HE2.out HBbx.out)) (fun e => by have := HLT.out.2 bx e.symm; omega)]
     exact hs_ext HE2.out HBbx.out, fun e => by
     rcases k3 with k | k
     · have e2 : (Value.slice va L.length vc).ownBlock = some bx := k.symm.trans e
       have := HLT.out.2 bx e2; omega
     · have e2 := k.symm.trans e
       have e3 := Option.some.inj e2
       have := lt_of_get' (hs_ext HE2.out HBbx.out)
       omega⟩
    have hlL : (L ++ [q]).length = L.length + 1 := by simp
    rw [hlL] at hv3
    subst hv3
    clear o3 g3 k3 hoc3 hO2 hX hoff hlL)
   obtain ⟨w4, hw4⟩ : ∃ zz9, zz9 = w3.setCell ⟨ob, 0, none⟩ (.slice a3 (L.length + 1) c3) := ⟨_, rfl⟩
   rw [← hw4] at HP3 HS3 HB3 ⊢
   clear hw4 z0 zf
   have b3 : w4.cell? ⟨bx, 3, none⟩ = some (.slice a t.kids.length cap) := by rw [cellc HB3.out.1]; rfl
   go_wp2_with fail
   go_loopw [6, 16] (fun _ kv wr => Hid (∃ (k : Nat) (v5 : Value), kv = .int .i64 k ∧ k ≤ t.kids.length ∧ PosI w0 wr ob vb v5 ((L ++ [q]) ++ preP q (posL (t.kids.take k) 0)) ∧ KdS w4 wr ob (.slice a3 (L.length + 1) c3) v5)) (fun _ kv _ => t.kids.length - (intOf kv).toNat)
   case atStart => exact Lib.hid ⟨0, _, rfl, by omega, by simp [posL, preP]; exact HP3.out, KdS.of_ext (Ext.refl _)⟩
   case round =>
    obtain ⟨k, v5, rfl, hk, hI5, hS5⟩ := hrel.out
    have HI5 := Lib.hid hI5
    have HS5 := Lib.hid hS5
    clear hI5 hS5 hrel b3
    by_cases hlt : k < t.kids.length
    · obtain ⟨x, hx⟩ : ∃ x, t.kids[k]? = some x := ⟨_, List.getElem?_eq_getElem hlt⟩
      obtain ⟨xb, xo, xa, xc, hxa, x0, x1, x2, x3, hTx⟩ := (HTW.out.ext HI5.out.ext).ts.at hx
      obtain ⟨xb', xo', xa', xc', hxa', y0, y1, y2, y3, hTy⟩ := HTW.out.ts.at hx
      rw [hxa] at hxa'
      obtain ⟨rfl, rfl⟩ : xb = xb' ∧ xo = xo' := by cases hxa'; exact ⟨rfl, rfl⟩
      have y3' := cs_ext HI5.out.ext y3
      rw [x3] at y3'
      obtain ⟨rfl, rfl⟩ : xa = xa' ∧ xc = xc' := by cases y3'; exact ⟨rfl, rfl⟩
      have hbxr : wr.heap[bx]? = some (.cells #[.int .i64 t.kind, .string t.name, .int .i64 t.sort, .slice a t.kids.length cap] 31) := by
       rw [HS5.out.kept bx (lt_of_get' HB3.out.1) (by have := HLT.out.1; omega) HB3.out.2]; exact HB3.out.1
      have hsx := sizeL_get hx
      have hlen2 : sizeL (t.kids.take k) + sizeT x ≤ sizeL t.kids := by rw [← sizeL_take hx]; exact sizeL_take_le _ _
      have hz : sizeT x ≤ n ∧ ((L ++ [q]) ++ preP q (posL (t.kids.take k) 0)).length + sizeT x ≤ 900000 ∧ (q ++ [(k : Int)]).length + sizeT x ≤ 900000 := by
       have h1 := HK.out
       have h2 := HN.out
       have h3 := posL_len (t.kids.take k) 0
       simp only [List.length_append, List.length_singleton, preP, List.length_map, h3]
       omega
      have HZ := Lib.hid hz
      have hq5 : LsG elI wr (fun c => (c ≠ ob ∧ (Value.slice va L.length vc).ownBlock ≠ some c) ∧ c < w.heap.size) (.slice qa q.length qc) q := HQ0.out.hold (fun c h1 h2 => (HS3.out.trans HS5.out).kept c h2 h1.1.1 h1.1.2) (fun _ h _ => h)
      have HTX := Lib.hid hTy
      have hnext : (L ++ [q]) ++ preP q (posL (t.kids.take (k + 1)) 0) = ((L ++ [q]) ++ preP q (posL (t.kids.take k) 0)) ++ preP (q ++ [(k : Int)]) (posT x) := by
       rw [posL_take hx, ← preP_snoc]
       simp [preP]
      have HNX := Lib.hid hnext
      subst hxa
      obtain ⟨xx, wa, hbxx, hwxx, HBxx, hExx⟩ := box_new wr (.cells #[.int .i64 x.kind, .string x.name, .int .i64 x.sort, .slice xa x.kids.length xc] 31)
      have HIA := Lib.hid (HI5.out.next hExx)
      have HQA := Lib.hid (hq5.ext hExx)
      have HEA := Lib.hid hExx
      have HQL : Hid (q.length ≤ 1000000) := Lib.hid (by have := HZ.out.2.2; simp at this; omega)
      have hkb : I64 (k : Int) := by have := HZ.out; unfold I64; omega
      have HKB := Lib.hid hkb
      have HSQ : Hid (∀ c, wa.heap.size ≤ c → c ≠ ob ∧ v5.ownBlock ≠ some c) := Lib.hid (fun c hc => ⟨fun e => by have := lt_of_get' HIA.out.oc; omega, fun e => by have := (HIA.out.own.lt c e).2; omega⟩)
      clear hx hsx hlen2 hTx hTy y0 y1 y2 y3 y3' hxa' hz hq5 hnext hExx hkb
      go_upto_region 5 with fail
      rw [← hwxx, ← hbxx]
      clear hwxx hbxx
      clear x0 x1 x2 x3
      obtain ⟨x0, x1, x2, x3⟩ := box4r (HBxx.out)
      have p0 : wa.cell? ⟨vb, 0, none⟩ = some (.func (.func 51) #[] #[.pointer (some ⟨ob, 0, none⟩), .pointer (some ⟨vb, 0, none⟩)]) := by rw [cellc HIA.out.vc]; rfl
      skip
      have x0z : (wa.alloc (.cells #[.int .i64 (k : Int)] 3)).cell? _ = _ := cs_al x0
      have x1z : (wa.alloc (.cells #[.int .i64 (k : Int)] 3)).cell? _ = _ := cs_al x1
      have x2z : (wa.alloc (.cells #[.int .i64 (k : Int)] 3)).cell? _ = _ := cs_al x2
      have x3z : (wa.alloc (.cells #[.int .i64 (k : Int)] 3)).cell? _ = _ := cs_al x3
      have p0z : (wa.alloc (.cells #[.int .i64 (k : Int)] 3)).cell? _ = _ := cs_al p0
      go_region_law (first
       | (go_simp
          go_at_call 52
          refine (iClone_own HQL.out (HQA.out.ext (by repeat (first | exact Ext.refl _ | exact Ext.alloc _ _ | apply Ext.then_dr | apply Ext.then_drN | apply Ext.then_drN2 | (refine Ext.then_al ?_ _))))).mono ?_
          rintro e w5 ⟨u, rfl, hE5, hO5⟩
          have hO5 := hO5.low (base' := wa.heap.size) (show wa.heap.size ≤ _ from Ext.size (by repeat (first | exact Ext.refl _ | exact Ext.alloc _ _ | apply Ext.then_dr | apply Ext.then_drN | apply Ext.then_drN2 | (refine Ext.then_al ?_ _))))
          have hEw : Ext wa w5 := Ext.trans (by repeat (first | exact Ext.refl _ | exact Ext.alloc _ _ | apply Ext.then_dr | apply Ext.then_drN | apply Ext.then_drN2 | (refine Ext.then_al ?_ _))) hE5
          have x0w := cs_ext hEw x0
          have x1w := cs_ext hEw x1
          have x2w := cs_ext hEw x2
          have x3w := cs_ext hEw x3
          have p0w := cs_ext hEw p0
          have x0y : (w5.alloc (.cells #[.int .i64 (k : Int)] 3)).cell? _ = _ := cs_al x0w
          have x1y : (w5.alloc (.cells #[.int .i64 (k : Int)] 3)).cell? _ = _ := cs_al x1w
          have x2y : (w5.alloc (.cells #[.int .i64 (k : Int)] 3)).cell? _ = _ := cs_al x2w
          have x3y : (w5.alloc (.cells #[.int .i64 (k : Int)] 3)).cell? _ = _ := cs_al x3w
          have p0y : (w5.alloc (.cells #[.int .i64 (k : Int)] 3)).cell? _ = _ := cs_al p0w
          obtain ⟨u1, u2, hu, -, hu2⟩ := hO5.slice
          unfold maxLen at hu2
          have HE5 := Lib.hid hE5
          have HEW := Lib.hid hEw
          have HO5 := Lib.hid (elI_wide (w' := w5) (S' := fun _ => False) hO5)
          subst hu
          clear hE5 hO5 hEw)
       | (refine step_appG (E := elI) (T := 3) rfl 43 (.tmp 24) (.tmp 26) rfl rfl rfl Try.underlying43 infInt rfl (by decide) (by decide) (by first | exact HO5.out | exact HO5.out.ext (by repeat (first | exact Ext.refl _ | exact Ext.alloc _ _ | apply Ext.then_dr | apply Ext.then_drN | apply Ext.then_drN2 | (refine Ext.then_al ?_ _)))) (Nat.le_trans HEW.out.size (by first | exact Nat.le_refl _ | exact Ext.size (by repeat (first | exact Ext.refl _ | exact Ext.alloc _ _ | apply Ext.then_dr | apply Ext.then_drN | apply Ext.then_drN2 | (refine Ext.then_al ?_ _))))) (fun c h => absurd h id) HQL.out (M := [(k : Int)]) (by simp) (by first | exact one_intE (hs_ext HE5.out hs_new) HKB.out | exact one_intE hs_new HKB.out) ?_
          intro v6 w6 o6 g6 k6
          have HE6 : Hid (Ext wa w6) := Lib.hid (Ext.grown (by first | exact HEW.out | exact HEW.out.trans (by repeat (first | exact Ext.refl _ | exact Ext.alloc _ _ | apply Ext.then_dr | apply Ext.then_drN | apply Ext.then_drN2 | (refine Ext.then_al ?_ _)))) g6 (fun c hc => (HO5.out.lt c hc).1))
          obtain ⟨u3, u4, hu6, -, hu62⟩ := o6.slice
          unfold maxLen at hu62
          have hQ6 := (elI_wide (w' := w6) (S' := fun c => wa.heap.size ≤ c) o6).new (fun c h _ => h)
          have hlq : (q ++ [(k : Int)]).length = q.length + 1 := by simp
          have x0w := cs_ext HE6.out x0
          have x1w := cs_ext HE6.out x1
          have x2w := cs_ext HE6.out x2
          have x3w := cs_ext HE6.out x3
          have p0w := cs_ext HE6.out p0
          subst hu6
          have hcon := fun (W : World) (h : Ext w6 W) => IH.out W v5 _ (q ++ [(k : Int)]) (fun c => wa.heap.size ≤ c) xa u3 xc u4 x HZ.out.1 HZ.out.2.1 HZ.out.2.2 (HIA.out.next (HE6.out.trans h)) HTX.out (hQ6.ext h) HSQ.out
          simp only [hlq, ← HNX.out] at hcon
          have HC6 := Lib.hid hcon
          rw [hlq]
          clear o6 g6 k6 hQ6 hlq hcon)
       | (go_simp
          go_at_call 51
          refine (HC6.out _ (by repeat (first | exact Ext.refl _ | exact Ext.alloc _ _ | apply Ext.then_dr | apply Ext.then_drN | apply Ext.then_drN2 | (refine Ext.then_al ?_ _)))).mono ?_
          rintro e w7 ⟨rfl, v7, hI7, hS7⟩
          have HI7 := Lib.hid hI7
          have HS7 := Lib.hid ((HS5.out.trans (KdS.of_ext (HEA.out.trans (HE6.out.trans (by repeat (first | exact Ext.refl _ | exact Ext.alloc _ _ | apply Ext.then_dr | apply Ext.then_drN | apply Ext.then_drN2 | (refine Ext.then_al ?_ _))))))).trans hS7)
          clear hI7 hS7))
      all_goals
       go_wp2_with fail
       go_roundw
       case rel => exact Lib.hid ⟨k + 1, v7, by go_num, by omega, HI7.out, HS7.out⟩
       case measure => simp [intOf]; omega
    · have HF : Hid (R = (L ++ [q]) ++ preP q (posL (t.kids.take k) 0)) := Lib.hid (by rw [HR.out, List.take_of_length_le (by omega)])
      go_wp2_with fail
      go_end0
      exact ⟨rfl, v5, by rw [HF.out]; exact HI5.out, HS3.out.trans HS5.out⟩

end Go.Proofs.Ytpfnlbaloaohgaa
