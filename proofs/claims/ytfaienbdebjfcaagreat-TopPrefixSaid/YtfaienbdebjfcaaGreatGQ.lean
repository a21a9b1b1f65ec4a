/- Contracts: codec.sample. Contracts: codec.Sample. -/
import Derived.Test.YtfaienbdebjfcaaGreatGP
import Derived.Deep.RegionLaw
import Derived.Deep.RegionHeld3
import Derived.Deep.CutRange
import Derived.Deep.CutBlock
namespace Go.Proofs.YtfaienbdebjfcaaGreat
open Go Go.RowKit
set_option linter.unusedVariables false
set_option linter.unusedSimpArgs false

theorem cell_other {w : World} {g o b k : Nat} {u v : Value} (h : w.cell? ⟨b, k, none⟩ = some v) (hne : b ≠ g) : (w.setCell ⟨g, o, none⟩ u).cell? ⟨b, k, none⟩ = some v := by
 rw [World.cell?_of_block (a := ⟨b, k, none⟩) (heap_setCell_other _ _ _ _ hne)]
 exact h
theorem set3v_box {w : World} {g T : Nat} {a b c : Value} (a' b' c' : Value) (h : w.heap[g]? = some (.cells #[a, b, c] T)) :
 (((w.setCell ⟨g, 0, none⟩ a').setCell ⟨g, 1, none⟩ b').setCell ⟨g, 2, none⟩ c').heap[g]? = some (.cells #[a', b', c'] T) := by
 have h1 := heap_setCell_same w g 0 _ _ a' h
 have h5 := heap_setCell_same _ g 1 _ _ b' h1
 have h6 := heap_setCell_same _ g 2 _ _ c' h5
 rw [h6]; simp
theorem set3v_other {w : World} {g q : Nat} (a' b' c' : Value) (hq : q ≠ g) :
 (((w.setCell ⟨g, 0, none⟩ a').setCell ⟨g, 1, none⟩ b').setCell ⟨g, 2, none⟩ c').heap[q]? = w.heap[q]? := by
 rw [heap_setCell_other _ _ _ _ hq, heap_setCell_other _ _ _ _ hq, heap_setCell_other _ _ _ _ hq]
theorem tmod_nat (b n : Nat) : ∃ r : Nat, Int.tmod (b : Int) ((n : Int) + 1) = (r : Int) ∧ r ≤ n := by
 refine ⟨b % (n + 1), ?_, by have := Nat.mod_lt b (show 0 < n + 1 by omega); omega⟩
 rw [Int.tmod_eq_emod_of_nonneg (by omega)]
 have : ((n : Int) + 1) = ((n + 1 : Nat) : Int) := by omega
 rw [this]
 exact (Int.natCast_emod b (n + 1)).symm
/-- a good field -/
def FGd (t : List Fmt) (f : Fld) : Prop :=
 f.kind = 1 ∧ 1 ≤ f.bytes.size ∧ f.bytes.size ≤ 8 ∨ f.kind = 2 ∧ 1 ≤ f.n ∧ f.n ≤ 15 ∨ f.kind = 3 ∧ 0 ≤ f.n ∧ f.n ≤ 15 ∨
 f.kind = 4 ∧ 0 ≤ f.low ∧ f.low ≤ f.high ∧ f.high ≤ 255 ∨ f.kind = 6 ∧ 0 ≤ f.low ∧ f.low ≤ f.high ∧ f.high ≤ 1000 ∨
 f.kind = 5 ∧ ∃ (k : Nat) (g : Fmt), f.n = (k : Int) ∧ t[k]? = some g ∧ ∀ x ∈ g.fields, x.kind ≠ 5 ∧ x.kind ≠ 6
theorem below_gr {w w' : World} {B cb : Nat} (h : w.grownBy w' (some cb)) (hB : B ≤ cb) (hw : B ≤ w.heap.size) : Below B w w' :=
 ⟨h.os, h.tape, h.output, h.size, fun k hk => h.block k (by omega) (fun e => by have := Option.some.inj e; omega)⟩
/-- what sample leaves -/
theorem ValsF.snoc {t : List Fmt} {F : List Fld} {X : List Vl} {k : Nat} {f : Fld} {x : Vl} (h : ValsF t (F.take k) X) (hf : F[k]? = some f) (hx : ValF t f x) : ValsF t (F.take (k + 1)) (X ++ [x]) := by
 have hk := (List.getElem?_eq_some_iff.1 hf).1
 have hl : X.length = k := by rw [h.1, List.length_take]; omega
 refine ⟨by rw [List.length_append, hl, List.length_take, List.length_singleton]; omega, fun j g y hg hy => ?_⟩
 rw [List.getElem?_take] at hg
 split at hg
 · rename_i hj
   rcases Nat.lt_or_ge j k with hjk | hjk
   · rw [List.getElem?_append_left (by omega)] at hy
     exact h.2 j g y (by rw [List.getElem?_take, if_pos hjk]; exact hg) hy
   · have : j = k := by omega
     subst this
     rw [hf] at hg
     rw [List.getElem?_append_right (by omega), hl, Nat.sub_self] at hy
     cases hg
     simp at hy
     subst hy
     exact hx
 · cases hg
def SmpR (E : Elm Vl) (F : List Vl → Prop) (w : World) (cb : Nat) (e : Ending) (w' : World) : Prop :=
 ∃ X va vc, e = .returned (.agg #[.string ⟨#[]⟩, .int .i64 0, .slice va X.length vc]) ∧ ChO w' cb ∧ w.grownBy w' (some cb) ∧ LsG E w' (fun c => w.heap.size ≤ c) (.slice va X.length vc) X ∧ F X
/-- the state of sample's loop -/
structure SmI (E : Elm Vl) (w : World) (b2 : Nat) (wr : World) (cb vb rx : Nat) (X : List Vl) : Prop where
 ch : ChO wr cb
 gr : w.grownBy wr (some cb)
 sz : b2 ≤ wr.heap.size
 rbox : wr.heap[rx]? = some (.cells #[.string ⟨#[]⟩, .int .i64 0, .slice none 0 0] 41)
 box : ∃ v, wr.heap[vb]? = some (.cells #[.string ⟨#[]⟩, .int .i64 0, v] 41) ∧ OwnG E wr b2 41 (fun c => b2 ≤ c ∧ v.ownBlock ≠ some c) v X
/-- a field's value, in its box -/
def XR (E : Elm Vl) (t : List Fmt) (f : Fld) (wr wy : World) (xb cb : Nat) : Prop :=
 ∃ bs nn ka kl kc xv, wy.heap[xb]? = some (.cells #[.string bs, .int .i64 nn, .slice ka kl kc] 41) ∧ ChO wy cb ∧ wr.grownBy wy (some cb) ∧ E.R wy (fun c => wr.heap.size ≤ c) xv [.string bs, .int .i64 nn, .slice ka kl kc] ∧ ValF t f xv
theorem SmI.grown {E : Elm Vl} {w wr w' : World} {b2 cb vb rx : Nat} {X : List Vl} (h : SmI E w b2 wr cb vb rx X) (hg : wr.grownBy w' (some cb)) (hc : ChO w' cb) (h1 : cb < rx) (h2 : cb < vb) (h3 : vb < b2) : SmI E w b2 w' cb vb rx X := by
 have hk : ∀ g o, wr.heap[g]? = some o → g ≠ cb → w'.heap[g]? = some o := fun g o ho hne => (hg.block g (Array.getElem?_eq_some_iff.1 ho).1 (fun e => hne (Option.some.inj e))).trans ho
 obtain ⟨v, hv1, hv2⟩ := h.box
 refine ⟨hc, gr_trans h.gr hg, Nat.le_trans h.sz hg.size, hk _ _ h.rbox (by omega), v, hk _ _ hv1 (by omega), hv2.keep (fun g hgv => ?_) (fun c hc hlt => ?_) (fun c h _ => h)⟩
 · have := hv2.lt g hgv
   exact hg.block g this.2 (fun e => by have := Option.some.inj e; omega)
 · exact hg.block c hlt (fun e => by have := Option.some.inj e; have := hc.1; omega)
set_option maxRecDepth 100000 in
set_option maxHeartbeats 8000000 in
theorem sample_rec {E' : Elm Vl} {w : World} {B cb : Nat} {a : Option Addr} {cap i : Nat} {t : List Fmt} {fm : Fmt} (hT : TabA w B a t) (hB : B ≤ cb) (hC : ChO w cb) (hi : t[i]? = some fm) (hl6 : fm.fields.length ≤ 6) (hok : ∀ f ∈ fm.fields, FGd t f)
 (HN : ∀ f ∈ fm.fields, f.kind = 5 → ∃ (j : Nat) (gm : Fmt), f.n = j ∧ t[j]? = some gm ∧ ∀ w', TabA w' B a t → ChO w' cb → Calls Tryz.prog 45 #[.pointer (some ⟨cb, 0, none⟩), .slice a t.length cap, .int .i64 j] w' (SmpR E' (ValsP gm.fields) w' cb)) :
 Calls Tryz.prog 45 #[.pointer (some ⟨cb, 0, none⟩), .slice a t.length cap, .int .i64 i] w (SmpR (elVk E') (ValsF t fm.fields) w cb) := by
 obtain ⟨rx, w1, hrx, hw1, HX, hE1⟩ := box_new w (.cells #[.string ⟨#[]⟩, .int .i64 0, .slice none 0 0] 41)
 obtain ⟨vb, w2, hvb, hw2, HV, hE2⟩ := box_new w1 (.cells #[.string ⟨#[]⟩, .int .i64 0, .slice none 0 0] 41)
 have hvb1 : vb = rx + 1 := by rw [hvb, hw1, World.size_alloc, hrx]
 have hcl := hC.lt
 have HS : Hid (w.heap.size = rx ∧ vb = rx + 1 ∧ cb < rx ∧ B ≤ cb) := Lib.hid ⟨by first | exact hrx | exact hrx.symm, hvb1, by omega, hB⟩
 have HE2 := Lib.hid (hE1.trans hE2)
 have HX2 := Lib.hid (hs_ext hE2 HX.out)
 have HI : Hid (SmI (elVk E') w w2.heap.size w2 cb vb rx []) := Lib.hid ⟨hC.ext HE2.out, gr_ext HE2.out, Nat.le_refl _, HX2.out, _, HV.out, OwnG.nil⟩
 have hin := lt_of_get hi
 have hn63 := hT.1
 unfold maxLen at hn63
 obtain ⟨tb, toff, fa, fcap, rfl, htb, -, htc0, hF, -⟩ := hT.at hi
 have htc := cs_ext HE2.out htc0
 have hi0 : (0 : Int) ≤ (i : Int) := by omega
 have hi1 : (i : Int) < (t.length : Int) := by omega
 have HF := Lib.hid hF
 have HT := Lib.hid hT
 have HOK := Lib.hid hok
 have HHN := Lib.hid HN
 have HLB : Hid (rx < w2.heap.size ∧ vb < w2.heap.size) := Lib.hid ⟨(Array.getElem?_eq_some_iff.1 HX2.out).1, (Array.getElem?_eq_some_iff.1 HV.out).1⟩
 clear HN hok hT hF hE1 hE2 HX HV hC hcl htb htc0
 go_enter Tryz.func45, Tryz.ntmps45
 go_upto_region 2 with fail
 rw [← hw1, ← hrx, ← hw2, ← hvb1]
 clear hw1 hrx hw2 hvb hvb1
 go_upto_region 3 with fail
 clear htc hi
 obtain ⟨b2, hb2⟩ : ∃ b2, b2 = w2.heap.size := ⟨_, rfl⟩
 rw [← hb2] at HI HLB
 have HF2 := Lib.hid (fun (w' : World) (hg : w.grownBy w' (some cb)) => HF.out.below (below_gr hg HS.out.2.2.2 (by have := HS.out; omega)) (Nat.le_refl _))
 go_loopw [9, 10, 17, 23, 30, 42, 58, 76] (fun _ _ kv _ _ _ _ _ wr => ∃ (k : Nat) (X : List Vl), kv = .int .i64 k ∧ k ≤ fm.fields.length ∧ Hid (SmI (elVk E') w b2 wr cb vb rx X) ∧ Hid (ValsF t (fm.fields.take k) X)) (fun _ _ kv _ _ _ _ _ _ => fm.fields.length - (intOf kv).toNat)
 case atStart => exact ⟨0, [], rfl, by omega, HI, Lib.hid ⟨rfl, fun k f x h => by simp at h⟩⟩
 case round =>
  obtain ⟨k, X, rfl, hk, HI, HVX⟩ := hrel
  by_cases hlt : k < fm.fields.length
  · obtain ⟨f, hf⟩ : ∃ f, fm.fields[k]? = some f := ⟨_, List.getElem?_eq_getElem hlt⟩
    obtain ⟨fb, foff, rfl, hfb, hFX⟩ := (HF2.out wr HI.out.gr).get' hf
    obtain ⟨x0, x1, x2, x3, x4, hxw⟩ := hFX
    have hfm := List.mem_of_getElem? hf
    obtain ⟨zb, w3, hzb, hw3, HZ, hE3⟩ := box_new wr (.cells #[.int .i64 f.kind, .string f.bytes, .int .i64 f.n, .int .i64 f.low, .int .i64 f.high] 59)
    obtain ⟨xb, w4, hxb, hw4, HXB, hE4⟩ := box_new w3 (.cells #[.string ⟨#[]⟩, .int .i64 0, .slice none 0 0] 41)
    have hxb1 : xb = zb + 1 := by rw [hxb, hw3, World.size_alloc, hzb]
    have HZ4 := Lib.hid (hs_ext hE4 HZ.out)
    have HE4 := Lib.hid (hE3.trans hE4)
    have HXS : Hid (wr.heap.size = zb ∧ xb = zb + 1 ∧ xb < w4.heap.size) := Lib.hid ⟨by first | exact hzb | exact hzb.symm, hxb1, (Array.getElem?_eq_some_iff.1 HXB.out).1⟩
    have HC4 := Lib.hid (HI.out.ch.ext HE4.out)
    have HG4 := Lib.hid (gr_ext (r := some cb) HE4.out)
    have z0 : w4.cell? ⟨zb, 0, none⟩ = some (.int .i64 f.kind) := by rw [cellc HZ4.out]; rfl
    have z1 : w4.cell? ⟨zb, 1, none⟩ = some (.string f.bytes) := by rw [cellc HZ4.out]; rfl
    have z2 : w4.cell? ⟨zb, 2, none⟩ = some (.int .i64 f.n) := by rw [cellc HZ4.out]; rfl
    have z3 : w4.cell? ⟨zb, 3, none⟩ = some (.int .i64 f.low) := by rw [cellc HZ4.out]; rfl
    have z4 : w4.cell? ⟨zb, 4, none⟩ = some (.int .i64 f.high) := by rw [cellc HZ4.out]; rfl
    have HFD := Lib.hid hf
    have hgd := HOK.out f hfm
    have HNF := Lib.hid (HHN.out f hfm)
    have hki : (k : Int) < (fm.fields.length : Int) := by omega
    clear hf hfm hE3 hE4 hxw
    go_upto_region 6 with fail
    rw [← hw3, ← hzb, ← hw4, ← hxb1]
    clear hw3 hzb hw4 hxb1 hxb x0 x1 x2 x3 x4
    go_upto_block 2 with fail
    go_cut [17] from 18 to 89 (fun v17 wy => v17 = .int .i64 k ∧ Hid (XR (elVk E') t f wr wy xb cb))
    case first =>
     rcases hgd with ⟨h1, h2, h3⟩ | ⟨h1, h2, h3⟩ | ⟨h1, h2, h3⟩ | ⟨h1, h2, h3, h4⟩ | ⟨h1, h2, h3, h4⟩ | ⟨h1, h2⟩
     · have HK := Lib.hid h1
       rw [h1]
       clear h1 h2 h3
       go_wp2_with fail
       go_meet
       exact ⟨rfl, Lib.hid ⟨_, _, _, _, _, zeroVl, HXB.out, HC4.out, HG4.out, vl_leaf (by decide) (by unfold I64; omega), .inl (.inl ⟨HK.out, rfl⟩)⟩⟩
     · rw [h1]
       obtain ⟨n, hn⟩ : ∃ n : Nat, f.n = n := ⟨f.n.toNat, by omega⟩
       rw [hn] at z2
       have HCS := Lib.hid (chSome_any (n := n) (by omega) HC4.out)
       have HNN : Hid (f.n = n ∧ n ≤ 15) := Lib.hid ⟨hn, by omega⟩
       have HK := Lib.hid h1
       have HQ : Hid (cb < xb ∧ cb < zb ∧ wr.heap.size ≤ xb ∧ zb ≠ xb) := Lib.hid (by have := HXS.out; have := HS.out; have := HI.out.sz; have := HLB.out; omega)
       clear h1 h2 h3 hn
       go_wp2_with fail
       refine HCS.out.mono ?_
       rintro e wq ⟨bs, hbs, rfl, hCq, hGq⟩
       have hG6a := hGq
       have hxq := gr_ne hG6a HXB.out (show xb ≠ cb by have := HQ.out; omega)
       have y0 : wq.cell? ⟨xb, 0, none⟩ = some (.string ⟨#[]⟩) := (by rw [cellc hxq]; rfl)
       have fy0 : wq.frozen? ⟨xb, 0, none⟩ = false := frozenc hxq
       have HX6 : Hid ((wq.setCell ⟨xb, 0, none⟩ (.string bs)).heap[xb]? = some (.cells #[.string bs, .int .i64 0, .slice none 0 0] 41)) := Lib.hid (by rw [heap_setCell_same wq xb 0 _ _ _ hxq]; rfl)
       have HC6 : Hid (ChO (wq.setCell ⟨xb, 0, none⟩ (.string bs)) cb) := Lib.hid (hCq.set HQ.out.1)
       have HG6 : Hid (wr.grownBy (wq.setCell ⟨xb, 0, none⟩ (.string bs)) (some cb)) := Lib.hid (gr_set2 (gr_trans HG4.out hG6a) HQ.out.2.2.1)
       have HBS := Lib.hid hbs
       clear hbs hCq hGq hG6a hxq
       go_wp2_with fail
       go_meet
       exact ⟨rfl, Lib.hid ⟨_, _, _, _, _, Vl.mk bs 0 [], HX6.out, HC6.out, HG6.out, vl_leaf (by rw [HBS.out]; have := HNN.out.2; unfold maxLen; omega) (by unfold I64; omega), .inl (.inr (.inl ⟨HK.out, by rw [HNN.out.1]; show ((bs.size : Nat) : Int) = _; rw [HBS.out], rfl⟩))⟩⟩
     · rw [h1]
       obtain ⟨n, hn⟩ : ∃ n : Nat, f.n = n := ⟨f.n.toNat, by omega⟩
       rw [hn] at z2
       have HNN : Hid (f.n = n ∧ n ≤ 15) := Lib.hid ⟨hn, by omega⟩
       have hw1 : IntKind.i64.wrap ((n : Int) + 1) = (n : Int) + 1 := by rw [IntKind.wrap_i64]; omega
       have hnz : (((n : Int) + 1) == 0) = false := beq_eq_false_iff_ne.2 (by omega)
       have hnz2 : ¬ ((n : Int) + 1) = 0 := by omega
       have HK := Lib.hid h1
       have HQ : Hid (cb < xb ∧ cb < zb ∧ wr.heap.size ≤ xb ∧ zb ≠ xb) := Lib.hid (by have := HXS.out; have := HS.out; have := HI.out.sz; have := HLB.out; omega)
       clear h1 h2 h3 hn
       go_upto_region 10 with fail
       go_region_law (first
        | (go_simp
           go_at_call 74
           refine (chNext_any (HC4.out.ext (by repeat (first | exact Ext.refl _ | exact Ext.alloc _ _ | apply Ext.then_dr | apply Ext.then_drN | apply Ext.then_drN2 | (refine Ext.then_al ?_ _))))).mono ?_
           rintro e w5 ⟨b, hb, rfl, hC5, hG5⟩
           have hG5a : w4.grownBy w5 (some cb) := gr_trans (gr_ext (by repeat (first | exact Ext.refl _ | exact Ext.alloc _ _ | apply Ext.then_dr | apply Ext.then_drN | apply Ext.then_drN2 | (refine Ext.then_al ?_ _)))) hG5
           have z2b : w5.cell? ⟨zb, 2, none⟩ = some (.int .i64 n) := hG5a.cell z2 (show some zb ≠ (some cb : Option Nat) from fun e => by have e2 := Option.some.inj e; have := HQ.out; omega)
           obtain ⟨r, hr, hrn⟩ := tmod_nat b n
           have hwb : IntKind.i64.wrap (b : Int) = (b : Int) := (by rw [IntKind.wrap_i64]; omega)
           have hwr : IntKind.i64.wrap (r : Int) = (r : Int) := (by rw [IntKind.wrap_i64]; have := HNN.out.2; omega)
           have HC5 := Lib.hid hC5
           have HG5 := Lib.hid hG5a
           have HR : Hid (r ≤ n) := Lib.hid hrn
           clear hC5 hG5 hG5a hrn)
        | (go_simp
           go_at_call 73
           refine (chSome_any (n := r) (by have := HR.out; have := HNN.out.2; omega) (HC5.out.ext (by repeat (first | exact Ext.refl _ | exact Ext.alloc _ _ | apply Ext.then_dr | apply Ext.then_drN | apply Ext.then_drN2 | (refine Ext.then_al ?_ _))))).mono ?_
           rintro e wq ⟨bs, hbs, rfl, hCq, hGq⟩
           have hG6a : w4.grownBy wq (some cb) := gr_trans HG5.out (gr_trans (gr_ext (by repeat (first | exact Ext.refl _ | exact Ext.alloc _ _ | apply Ext.then_dr | apply Ext.then_drN | apply Ext.then_drN2 | (refine Ext.then_al ?_ _)))) hGq)
           have hxq := gr_ne hG6a HXB.out (show xb ≠ cb by have := HQ.out; omega)
           have y0 : wq.cell? ⟨xb, 0, none⟩ = some (.string ⟨#[]⟩) := (by rw [cellc hxq]; rfl)
           have fy0 : wq.frozen? ⟨xb, 0, none⟩ = false := frozenc hxq
           have HX6 : Hid ((wq.setCell ⟨xb, 0, none⟩ (.string bs)).heap[xb]? = some (.cells #[.string bs, .int .i64 0, .slice none 0 0] 41)) := Lib.hid (by rw [heap_setCell_same wq xb 0 _ _ _ hxq]; rfl)
           have HC6 : Hid (ChO (wq.setCell ⟨xb, 0, none⟩ (.string bs)) cb) := Lib.hid (hCq.set HQ.out.1)
           have HG6 : Hid (wr.grownBy (wq.setCell ⟨xb, 0, none⟩ (.string bs)) (some cb)) := Lib.hid (gr_set2 (gr_trans HG4.out hG6a) HQ.out.2.2.1)
           have HBS := Lib.hid hbs
           clear hbs hCq hGq hG6a hxq
           skip))
       all_goals
        go_wp2_with fail
        go_meet
        exact ⟨rfl, Lib.hid ⟨_, _, _, _, _, Vl.mk bs 0 [], HX6.out, HC6.out, HG6.out, vl_leaf (by rw [HBS.out]; have := HNN.out.2; have := HR.out; unfold maxLen; omega) (by unfold I64; omega), .inl (.inr (.inr (.inl ⟨HK.out, by rw [HNN.out.1]; show ((bs.size : Nat) : Int) ≤ _; rw [HBS.out]; have := HR.out; omega, rfl⟩)))⟩⟩
     · rw [h1]
       obtain ⟨lo, hlo⟩ : ∃ n : Nat, f.low = n := ⟨f.low.toNat, by omega⟩
       obtain ⟨hi, hhi⟩ : ∃ n : Nat, f.high = n := ⟨f.high.toNat, by omega⟩
       obtain ⟨d, hd⟩ : ∃ d : Nat, hi = lo + d := ⟨hi - lo, by omega⟩
       rw [hlo] at z3
       rw [hhi] at z4
       have HLH : Hid (f.low = lo ∧ f.high = hi ∧ hi = lo + d ∧ hi ≤ 1000) := Lib.hid ⟨hlo, hhi, hd, by omega⟩
       have hsub : IntKind.i64.wrap ((hi : Int) - (lo : Int)) = (d : Int) := by rw [IntKind.wrap_i64]; omega
       have hw1 : IntKind.i64.wrap ((d : Int) + 1) = (d : Int) + 1 := by rw [IntKind.wrap_i64]; omega
       have hnz : (((d : Int) + 1) == 0) = false := beq_eq_false_iff_ne.2 (by omega)
       have hnz2 : ¬ ((d : Int) + 1) = 0 := by omega
       have HK := Lib.hid h1
       have HQ : Hid (cb < xb ∧ cb < zb ∧ wr.heap.size ≤ xb ∧ zb ≠ xb) := Lib.hid (by have := HXS.out; have := HS.out; have := HI.out.sz; have := HLB.out; omega)
       clear h1 h2 h3 h4 hlo hhi hd
       go_upto_region 12 with fail
       go_region_held3 (fun w' => w'.cell? ⟨zb, 3, none⟩ = some (.int .i64 lo) ∧ w'.cell? ⟨zb, 4, none⟩ = some (.int .i64 hi)) (first | exact ⟨z3, z4⟩ | exact ⟨cs_ext (Ext.drew _) z3, cs_ext (Ext.drew _) z4⟩ | exact ⟨z3b, z4b⟩ | exact ⟨z3s, z4s⟩) (first
        | (go_simp
           go_at_call 74
           refine (chNext_any (HC4.out.ext (by repeat (first | exact Ext.refl _ | exact Ext.alloc _ _ | apply Ext.then_dr | apply Ext.then_drN | apply Ext.then_drN2 | (refine Ext.then_al ?_ _))))).mono ?_
           rintro e w5 ⟨b, hb, rfl, hC5, hG5⟩
           have hG5a : w4.grownBy w5 (some cb) := gr_trans (gr_ext (by repeat (first | exact Ext.refl _ | exact Ext.alloc _ _ | apply Ext.then_dr | apply Ext.then_drN | apply Ext.then_drN2 | (refine Ext.then_al ?_ _)))) hG5
           have z3b : w5.cell? ⟨zb, 3, none⟩ = some (.int .i64 lo) := hG5a.cell z3 (show some zb ≠ (some cb : Option Nat) from fun e => by have e2 := Option.some.inj e; have := HQ.out; omega)
           have z4b : w5.cell? ⟨zb, 4, none⟩ = some (.int .i64 hi) := hG5a.cell z4 (show some zb ≠ (some cb : Option Nat) from fun e => by have e2 := Option.some.inj e; have := HQ.out; omega)
           obtain ⟨r, hr, hrn⟩ := tmod_nat b d
           have hwb : IntKind.i64.wrap (b : Int) = (b : Int) := (by rw [IntKind.wrap_i64]; omega)
           obtain ⟨q, hq⟩ : ∃ q : Nat, q = lo + r := ⟨_, rfl⟩
           have hwq : IntKind.i64.wrap ((lo : Int) + (r : Int)) = (q : Int) := (by rw [IntKind.wrap_i64]; have := HLH.out; omega)
           have HC5 := Lib.hid hC5
           have HG5 := Lib.hid hG5a
           have HR : Hid (r ≤ d ∧ q = lo + r) := Lib.hid ⟨hrn, hq⟩
           clear hC5 hG5 hrn hq
           have hxq := gr_ne hG5a HXB.out (show xb ≠ cb by have := HQ.out; omega)
           have y1 : w5.cell? ⟨xb, 1, none⟩ = some (.int .i64 0) := (by rw [cellc hxq]; rfl)
           have fy1 : w5.frozen? ⟨xb, 1, none⟩ = false := frozenc hxq
           have HX6 : Hid ((w5.setCell ⟨xb, 1, none⟩ (.int .i64 q)).heap[xb]? = some (.cells #[.string ⟨#[]⟩, .int .i64 q, .slice none 0 0] 41)) := Lib.hid (by rw [heap_setCell_same w5 xb 1 _ _ _ hxq]; rfl)
           have HC6 : Hid (ChO (w5.setCell ⟨xb, 1, none⟩ (.int .i64 q)) cb) := Lib.hid (HC5.out.set HQ.out.1)
           have HG6 : Hid (wr.grownBy (w5.setCell ⟨xb, 1, none⟩ (.int .i64 q)) (some cb)) := Lib.hid (gr_set2 (gr_trans HG4.out hG5a) HQ.out.2.2.1)
           have z3s := cell_other (g := xb) (o := 1) (u := .int .i64 q) z3b HQ.out.2.2.2
           have z4s := cell_other (g := xb) (o := 1) (u := .int .i64 q) z4b HQ.out.2.2.2
           clear hG5a hxq))
       all_goals
        go_wp2_with fail
        go_meet
        exact ⟨rfl, Lib.hid ⟨_, _, _, _, _, Vl.mk ⟨#[]⟩ q [], HX6.out, HC6.out, HG6.out, vl_leaf (by decide) (by have := HLH.out; have := HR.out; unfold I64; omega), .inl (.inr (.inr (.inr (.inl ⟨HK.out, by show _ ≤ (q : Int); have := HLH.out; have := HR.out; omega, by show (q : Int) ≤ _; have := HLH.out; have := HR.out; omega, rfl⟩))))⟩⟩
     · rw [h1]
       obtain ⟨lo, hlo⟩ : ∃ n : Nat, f.low = n := ⟨f.low.toNat, by omega⟩
       obtain ⟨hi, hhi⟩ : ∃ n : Nat, f.high = n := ⟨f.high.toNat, by omega⟩
       obtain ⟨d, hd⟩ : ∃ d : Nat, hi = lo + d := ⟨hi - lo, by omega⟩
       rw [hlo] at z3
       rw [hhi] at z4
       have HLH : Hid (f.low = lo ∧ f.high = hi ∧ hi = lo + d ∧ hi ≤ 1000) := Lib.hid ⟨hlo, hhi, hd, by omega⟩
       have hsub : IntKind.i64.wrap ((hi : Int) - (lo : Int)) = (d : Int) := by rw [IntKind.wrap_i64]; omega
       have hw1 : IntKind.i64.wrap ((d : Int) + 1) = (d : Int) + 1 := by rw [IntKind.wrap_i64]; omega
       have hnz : (((d : Int) + 1) == 0) = false := beq_eq_false_iff_ne.2 (by omega)
       have hnz2 : ¬ ((d : Int) + 1) = 0 := by omega
       have HK := Lib.hid h1
       have HQ : Hid (cb < xb ∧ cb < zb ∧ wr.heap.size ≤ xb ∧ zb ≠ xb) := Lib.hid (by have := HXS.out; have := HS.out; have := HI.out.sz; have := HLB.out; omega)
       clear h1 h2 h3 h4 hlo hhi hd
       go_upto_region 14 with fail
       go_region_held3 (fun w' => w'.cell? ⟨zb, 3, none⟩ = some (.int .i64 lo) ∧ w'.cell? ⟨zb, 4, none⟩ = some (.int .i64 hi)) (first | exact ⟨z3, z4⟩ | exact ⟨cs_ext (Ext.drew _) z3, cs_ext (Ext.drew _) z4⟩ | exact ⟨z3b, z4b⟩ | exact ⟨z3c, z4c⟩ | exact ⟨z3s, z4s⟩) (first
        | (go_simp
           go_at_call 74
           refine (chNext_any (HC4.out.ext (by repeat (first | exact Ext.refl _ | exact Ext.alloc _ _ | apply Ext.then_dr | apply Ext.then_drN | apply Ext.then_drN2 | (refine Ext.then_al ?_ _))))).mono ?_
           rintro e w5 ⟨b, hb, rfl, hC5, hG5⟩
           have hG5a : w4.grownBy w5 (some cb) := gr_trans (gr_ext (by repeat (first | exact Ext.refl _ | exact Ext.alloc _ _ | apply Ext.then_dr | apply Ext.then_drN | apply Ext.then_drN2 | (refine Ext.then_al ?_ _)))) hG5
           have z3b : w5.cell? ⟨zb, 3, none⟩ = some (.int .i64 lo) := hG5a.cell z3 (show some zb ≠ (some cb : Option Nat) from fun e => by have e2 := Option.some.inj e; have := HQ.out; omega)
           have z4b : w5.cell? ⟨zb, 4, none⟩ = some (.int .i64 hi) := hG5a.cell z4 (show some zb ≠ (some cb : Option Nat) from fun e => by have e2 := Option.some.inj e; have := HQ.out; omega)
           obtain ⟨r, hr, hrn⟩ := tmod_nat b d
           have hwb : IntKind.i64.wrap (b : Int) = (b : Int) := (by rw [IntKind.wrap_i64]; omega)
           obtain ⟨q, hq⟩ : ∃ q : Nat, q = lo + r := ⟨_, rfl⟩
           have hwq : IntKind.i64.wrap ((lo : Int) + (r : Int)) = (q : Int) := (by rw [IntKind.wrap_i64]; have := HLH.out; omega)
           have HC5 := Lib.hid hC5
           have HG5 := Lib.hid hG5a
           have HR : Hid (r ≤ d ∧ q = lo + r) := Lib.hid ⟨hrn, hq⟩
           clear hC5 hG5 hrn hq
           clear hG5a)
        | (go_simp
           go_at_call 73
           refine (chSome_any (n := q) (by have := HR.out; have := HLH.out; omega) (HC5.out.ext (by repeat (first | exact Ext.refl _ | exact Ext.alloc _ _ | apply Ext.then_dr | apply Ext.then_drN | apply Ext.then_drN2 | (refine Ext.then_al ?_ _))))).mono ?_
           rintro e wq ⟨bs, hbs, rfl, hCq, hGq⟩
           have hG6a : w4.grownBy wq (some cb) := gr_trans HG5.out (gr_trans (gr_ext (by repeat (first | exact Ext.refl _ | exact Ext.alloc _ _ | apply Ext.then_dr | apply Ext.then_drN | apply Ext.then_drN2 | (refine Ext.then_al ?_ _)))) hGq)
           have z3c : wq.cell? ⟨zb, 3, none⟩ = some (.int .i64 lo) := hG6a.cell z3 (show some zb ≠ (some cb : Option Nat) from fun e => by have e2 := Option.some.inj e; have := HQ.out; omega)
           have z4c : wq.cell? ⟨zb, 4, none⟩ = some (.int .i64 hi) := hG6a.cell z4 (show some zb ≠ (some cb : Option Nat) from fun e => by have e2 := Option.some.inj e; have := HQ.out; omega)
           have z3s := cell_other (g := xb) (o := 0) (u := .string bs) z3c HQ.out.2.2.2
           have z4s := cell_other (g := xb) (o := 0) (u := .string bs) z4c HQ.out.2.2.2
           have hxq := gr_ne hG6a HXB.out (show xb ≠ cb by have := HQ.out; omega)
           have y0 : wq.cell? ⟨xb, 0, none⟩ = some (.string ⟨#[]⟩) := (by rw [cellc hxq]; rfl)
           have fy0 : wq.frozen? ⟨xb, 0, none⟩ = false := frozenc hxq
           have HX6 : Hid ((wq.setCell ⟨xb, 0, none⟩ (.string bs)).heap[xb]? = some (.cells #[.string bs, .int .i64 0, .slice none 0 0] 41)) := Lib.hid (by rw [heap_setCell_same wq xb 0 _ _ _ hxq]; rfl)
           have HC6 : Hid (ChO (wq.setCell ⟨xb, 0, none⟩ (.string bs)) cb) := Lib.hid (hCq.set HQ.out.1)
           have HG6 : Hid (wr.grownBy (wq.setCell ⟨xb, 0, none⟩ (.string bs)) (some cb)) := Lib.hid (gr_set2 (gr_trans HG4.out hG6a) HQ.out.2.2.1)
           have HBS := Lib.hid hbs
           clear hbs hCq hGq hG6a hxq
           skip))
       all_goals
        go_wp2_with fail
        go_meet
        exact ⟨rfl, Lib.hid ⟨_, _, _, _, _, Vl.mk bs 0 [], HX6.out, HC6.out, HG6.out, vl_leaf (by rw [HBS.out]; have := HLH.out; have := HR.out; unfold maxLen; omega) (by unfold I64; omega), .inl (.inr (.inr (.inr (.inr ⟨HK.out, by show _ ≤ ((bs.size : Nat) : Int); rw [HBS.out]; have := HLH.out; have := HR.out; omega, by show ((bs.size : Nat) : Int) ≤ _; rw [HBS.out]; have := HLH.out; have := HR.out; omega, rfl⟩))))⟩⟩
     · have HK := Lib.hid h1
       rw [h1]
       obtain ⟨j, gm, hn, hgm, hcj⟩ := HNF.out h1
       rw [hn] at z2
       have HJ := Lib.hid (And.intro hn hgm)
       have HQ : Hid (cb < xb ∧ xb < w4.heap.size ∧ wr.heap.size ≤ xb) := Lib.hid (by have := HXS.out; have := HS.out; have := HI.out.sz; have := HLB.out; omega)
       have HCJ := Lib.hid (hcj w4 (HT.out.below (below_gr (gr_trans HI.out.gr HG4.out) HS.out.2.2.2 (by have := HS.out; omega)) (Nat.le_refl _)) HC4.out)
       clear h1 h2 hn hgm hcj
       go_wp2_with fail
       refine HCJ.out.mono ?_
       rintro e wq ⟨X', va, vc, rfl, hCq, hGq, hL, hV⟩
       have hxq := gr_ne hGq HXB.out (show xb ≠ cb by have := HQ.out; omega)
       obtain ⟨y0, y1, y2⟩ := box3r hxq
       have fy0 : wq.frozen? ⟨xb, 0, none⟩ = false := frozenc hxq
       have fy1 : wq.frozen? ⟨xb, 1, none⟩ = false := frozenc hxq
       have fy2 : wq.frozen? ⟨xb, 2, none⟩ = false := frozenc hxq
       have HX6 := Lib.hid (set3v_box (.string ⟨#[]⟩) (.int .i64 0) (.slice va X'.length vc) hxq)
       have HC6 : Hid (ChO (((wq.setCell ⟨xb, 0, none⟩ (.string ⟨#[]⟩)).setCell ⟨xb, 1, none⟩ (.int .i64 0)).setCell ⟨xb, 2, none⟩ (.slice va X'.length vc)) cb) := Lib.hid (((hCq.set HQ.out.1).set HQ.out.1).set HQ.out.1)
       have HG6 : Hid (wr.grownBy (((wq.setCell ⟨xb, 0, none⟩ (.string ⟨#[]⟩)).setCell ⟨xb, 1, none⟩ (.int .i64 0)).setCell ⟨xb, 2, none⟩ (.slice va X'.length vc)) (some cb)) := Lib.hid (gr_set2 (gr_set2 (gr_set2 (gr_trans HG4.out hGq) HQ.out.2.2) HQ.out.2.2) HQ.out.2.2)
       have HL6 : Hid (LsG E' (((wq.setCell ⟨xb, 0, none⟩ (.string ⟨#[]⟩)).setCell ⟨xb, 1, none⟩ (.int .i64 0)).setCell ⟨xb, 2, none⟩ (.slice va X'.length vc)) (fun c => wr.heap.size ≤ c) (.slice va X'.length vc) X') := Lib.hid (hL.hold (fun c hc _ => set3v_other _ _ _ (by have := HQ.out; have h : w4.heap.size ≤ c := hc; omega)) (fun c hc _ => by have := HE4.out.size; have h : w4.heap.size ≤ c := hc; show wr.heap.size ≤ c; omega))
       have HV := Lib.hid hV
       clear hCq hGq hL hV hxq
       go_wp2_with fail
       go_meet
       exact ⟨rfl, Lib.hid ⟨_, _, _, _, _, Vl.mk ⟨#[]⟩ 0 X', HX6.out, HC6.out, HG6.out, ⟨va, vc, rfl, Nat.zero_le _, by show I64 0; unfold I64; omega, HL6.out⟩, .inr ⟨HK.out, j, gm, HJ.out.1, HJ.out.2, rfl, HV.out⟩⟩⟩
    case rest =>
     rename World => w6
     obtain ⟨rfl, HXR⟩ := hcut
     obtain ⟨bs, nn, ka, kl, kc, xv, hx6, hc6, hg6, hel, hvf⟩ := HXR.out
     have HX6 := Lib.hid hx6
     have HC6 := Lib.hid hc6
     have HG6 := Lib.hid hg6
     have HEL := Lib.hid hel
     have HVF := Lib.hid hvf
     clear hx6 hc6 hg6 hel hvf HXR hgd z0 z1 z2 z3 z4
     have hss := HS.out
     have hlb := HLB.out
     have hI6 := HI.out.grown HG6.out HC6.out (by omega) (by omega) (by omega)
     obtain ⟨v, hv1, hv2⟩ := hI6.box
     obtain ⟨va, vc, rfl, hvl, hvc⟩ := hv2.slice
     have v2 : w6.cell? ⟨vb, 2, none⟩ = some (.slice va X.length vc) := by rw [cellc hv1]; rfl
     obtain ⟨y0, y1, y2⟩ := box3r HX6.out
     obtain ⟨ob, w7, hob, hw7, HO, hE7⟩ := box_new w6 (.cells #[.string bs, .int .i64 nn, .slice ka kl kc] 41)
     have HE7 := Lib.hid hE7
     have HV7 := Lib.hid (hs_ext hE7 hv1)
     have HR7 := Lib.hid (hs_ext hE7 hI6.rbox)
     have HC7 := Lib.hid (hI6.ch.ext hE7)
     have HG7 := Lib.hid (gr_trans hI6.gr (gr_ext hE7))
     have HS7 : Hid (b2 ≤ w6.heap.size ∧ w6.heap.size ≤ w7.heap.size) := Lib.hid ⟨hI6.sz, hE7.size⟩
     have HOW : Hid (OwnG (elVk E') w7 b2 41 (fun c => b2 ≤ c ∧ (Value.slice va X.length vc).ownBlock ≠ some c ∧ c < w6.heap.size) (.slice va X.length vc) X) := Lib.hid ((hv2.wide (fun c h hl => ⟨h.1, h.2, hl⟩)).ext hE7)
     have HOL := Lib.hid hv2.lt
     have HRX : Hid ((elVk E').R w7 (fun c => b2 ≤ c ∧ (Value.slice va X.length vc).ownBlock ≠ some c ∧ c < w6.heap.size) xv [.string bs, .int .i64 nn, .slice ka kl kc]) := Lib.hid (Elm.ext _ (Elm.wide _ HEL.out (fun c h hl => ⟨by have := HI.out.sz; omega, fun e => by
      obtain ⟨v0, hv0, hv0b⟩ := HI.out.box
      have h6 := (HG6.out.block vb (Array.getElem?_eq_some_iff.1 hv0).1 (fun e => by have := Option.some.inj e; omega)).trans hv0
      rw [hv1] at h6
      simp at h6
      subst h6
      have := (hv0b.lt c e).2
      omega, hl⟩)) hE7)
     have HLX : Hid (X.length ≤ 1000000) := Lib.hid (by have := HVX.out.1; rw [List.length_take] at this; omega)
     clear hv1 hv2 hI6 hE7 hss hlb
     go_wp2_with (
      at_builtin
      rw [← hw7, ← hob]
      refine wpList_appG (E := elVk E') (T := 41) rfl 39 (.tmp 84) (.tmp 86) rfl rfl rfl Tryz.underlying39 infV rfl (Nat.zero_lt_succ 2) (by decide) HOW.out (by have := HS7.out; omega) (fun c h => h.2.1) HLX.out (M := [xv]) (by simp) (one_vl HO.out HRX.out) ?_
      intro v8 w8 o8 g8 k8
      have hlb := HLB.out
      have hss := HS.out
      have hs7 := HS7.out
      have hvb8 : w8.heap[vb]? = some (.cells #[.string ⟨#[]⟩, .int .i64 0, .slice va X.length vc] 41) := (g8.block vb (Array.getElem?_eq_some_iff.1 HV7.out).1 (fun e => by have := (HOL.out vb e.symm).1; omega)).trans HV7.out
      have f2 : w8.frozen? ⟨vb, 2, none⟩ = false := frozenc hvb8
      have c2 : w8.cell? ⟨vb, 2, none⟩ = some (.slice va X.length vc) := by rw [cellc hvb8]; rfl
      have hv8 : v8.ownBlock ≠ some vb ∧ v8.ownBlock ≠ some rx ∧ v8.ownBlock ≠ some cb := ⟨fun e => by have := (o8.lt _ e).1; omega, fun e => by have := (o8.lt _ e).1; omega, fun e => by have := (o8.lt _ e).1; omega⟩
      obtain ⟨v8a, v8c, rfl, -, -⟩ := o8.slice
      have hl8 : (X ++ [xv]).length = X.length + 1 := by simp
      rw [hl8] at o8 k8 hv8
      have HI9 : Hid (SmI (elVk E') w b2 (w8.setCell ⟨vb, 2, none⟩ (.slice v8a (X.length + 1 : Nat) v8c)) cb vb rx (X ++ [xv])) := Lib.hid (by
       refine ⟨?_, ?_, ?_, ?_, _, by rw [heap_setCell_same w8 vb 2 _ _ _ hvb8]; rfl, ?_⟩
       · refine ChO.set ?_ (by omega)
         obtain ⟨u, L, hu1, hu2⟩ := HC7.out
         exact ⟨u, L, (g8.block cb (Array.getElem?_eq_some_iff.1 hu1).1 (fun e => by have := (HOL.out cb e.symm).1; omega)).trans hu1, hu2.hold (fun c hc hl => g8.block c hl (fun e => by have := (HOL.out c e.symm).1; have hcc : c < cb := hc; omega)) (fun c h _ => h)⟩
       · exact gr_set2 ⟨g8.os.trans HG7.out.os, g8.tape.trans HG7.out.tape, g8.output.trans HG7.out.output, Nat.le_trans HG7.out.size g8.size, fun c hl hn => (g8.block c (Nat.lt_of_lt_of_le hl HG7.out.size) (fun e => by have := (HOL.out c e.symm).1; omega)).trans (HG7.out.block c hl hn)⟩ (by omega)
       · rw [World.size_setCell]; have := g8.size; omega
       · rw [heap_setCell_other _ _ _ _ (show rx ≠ vb by omega)]
         exact (g8.block rx (Array.getElem?_eq_some_iff.1 HR7.out).1 (fun e => by have := (HOL.out rx e.symm).1; omega)).trans HR7.out
       · refine o8.keep (fun g hg => heap_setCell_other _ _ _ _ (fun e => hv8.1 (hg.trans (by rw [← (show g = vb from e)])))) (fun c hc _ => heap_setCell_other _ _ _ _ (by have := hc.1; show c ≠ vb; omega)) (fun c hc hl => ⟨hc.1, fun e => ?_⟩)
         rcases k8 with k8 | k8
         · exact hc.2.1 (k8.symm.trans e)
         · have := Option.some.inj (k8.symm.trans e); have := hc.2.2; omega)
      clear o8 g8 k8 hlb hss hs7 hvb8 hv8 hl8)
     go_roundw
     case rel => exact ⟨k + 1, X ++ [xv], by go_num, by omega, HI9, Lib.hid (HVX.out.snoc HFD.out HVF.out)⟩
     case measure => simp [intOf]; omega
  · have hki : ¬ (k : Int) < (fm.fields.length : Int) := by omega
    obtain ⟨v, hv1, hv2⟩ := HI.out.box
    obtain ⟨va, vc, rfl, hvl, hvc⟩ := hv2.slice
    obtain ⟨v0, v1, v2⟩ := box3r hv1
    have hrb := HI.out.rbox
    obtain ⟨r0, r1, r2⟩ := box3r hrb
    have fr0 : wr.frozen? ⟨rx, 0, none⟩ = false := frozenc hrb
    have fr1 : wr.frozen? ⟨rx, 1, none⟩ = false := frozenc hrb
    have fr2 : wr.frozen? ⟨rx, 2, none⟩ = false := frozenc hrb
    have HRB := Lib.hid hrb
    have HO := Lib.hid hv2
    have HFIN : Hid (ValsF t fm.fields X) := Lib.hid (by have := HVX.out; rwa [List.take_of_length_le (by omega)] at this)
    clear hv1 hv2 hrb
    go_wp2_with fail
    refine ret_vl (g := rx) rfl rfl (set3v_box _ _ _ HRB.out) rfl ?_
    have hs := HS.out
    have hlb := HLB.out
    refine ⟨X, va, vc, rfl, ((HI.out.ch.set (by omega)).set (by omega)).set (by omega), gr_set2 (gr_set2 (gr_set2 HI.out.gr (by omega)) (by omega)) (by omega), ?_, HFIN.out⟩
    have hls := HO.out.ls (S' := fun c => b2 ≤ c) (fun c h _ => h.1) (fun g _ h _ => h)
    exact hls.hold (fun c hc _ => set3v_other _ _ _ (by have h : b2 ≤ c := hc; omega)) (fun c hc _ => by have h : b2 ≤ c := hc; show w.heap.size ≤ c; omega)

theorem fok_gd {t : List Fmt} {f : Fld} {i : Nat} {last : Bool} (h : FOk (t.take i) f last) : FGd t f := by
 rcases h with h | h | h | h | ⟨h1, k, g, h2, h3, h4⟩ | ⟨h1, -, h2⟩
 · exact .inl h
 · exact .inr (.inl h)
 · exact .inr (.inr (.inl h))
 · exact .inr (.inr (.inr (.inl h)))
 · refine .inr (.inr (.inr (.inr (.inr ⟨h1, k, g, h2, ?_, h4⟩))))
   rw [List.getElem?_take] at h3
   split at h3
   · exact h3
   · cases h3
 · exact .inr (.inr (.inr (.inr (.inl ⟨h1, h2⟩))))
theorem fields_gd {t : List Fmt} (hv : validF t = 0) {i : Nat} {fm : Fmt} (hi : t[i]? = some fm) : ∀ f ∈ fm.fields, FGd t f := fun f hf => by
 obtain ⟨k, hk⟩ := List.getElem?_of_mem hf
 exact fok_gd ((valid_at hv hi).2.2 k f hk)
theorem valf_p {t : List Fmt} {f : Fld} {x : Vl} (h : ValF t f x) (hk : f.kind ≠ 5) : ValP f x := by
 rcases h with h | ⟨h, -⟩
 · exact h
 · exact absurd h hk
theorem valsf_p {t : List Fmt} {F : List Fld} {X : List Vl} (h : ValsF t F X) (hk : ∀ f ∈ F, f.kind ≠ 5) : ValsP F X :=
 ⟨h.1, fun k f x hf hx => valf_p (h.2 k f x hf hx) (hk f (List.mem_of_getElem? hf))⟩
theorem ret_vl2 {F : Func} {p u g : Nat} {tmps : Array Value} {w : World} {cs : Array Value} {R : Ending → World → Prop} (hr : F.results = #[.cell p 41, .tmp u]) (hp : tmps.getD p undef = .pointer (some ⟨g, 0, none⟩)) (hg : w.heap[g]? = some (.cells cs 41)) (hs : cs.size = 3) (h : R (.returned (.tuple #[.agg cs, tmps.getD u undef])) w) :
 bodyPost Tryz.prog F R .ret ⟨tmps, []⟩ w := by
 refine bodyPost_ret ?_ rfl h
 rw [results_cell_tmp hr, hp]
 simp only [asAddr, Sem.run_pure, Result.andThen_ok]
 rw [run_loadVar_row w g _ _ cs _ _ hg Tryz.underlying41 rfl (by rw [hs]; exact sizV)]
 rfl
set_option maxRecDepth 100000 in
set_option maxHeartbeats 1000000 in
theorem bClone_any {w : World} {S : Nat → Prop} {a : Option Addr} {cap : Nat} {C : List Nat} (hll : C.length ≤ 1000000) (hC : LsE elY w S (.slice a C.length cap) C) :
 Calls Tryz.prog 15 #[.slice a C.length cap] w fun e w' => ∃ u, e = .returned u ∧ Ext w w' ∧ LsG elY w' (fun c => w.heap.size ≤ c) u C := by
 have q45 : ∀ (w : World) (a : Option Addr) (n c n' c' : Nat), (binOp .eql 23 (.slice a n c) (.slice none n' c')).run Tryz.prog w = .ok (.bool a.isNone) w := fun w a n c n' c' => Lib.run_eql_slice_nil w _ _ a n c n' c' Tryz.underlying23
 cases a with
 | none =>
   have hC0 : C = [] := by
    cases C with
    | nil => rfl
    | cons x L => obtain ⟨b, off, cs, e, -⟩ := hC.at (i := 0) (x := x) rfl; cases e
   subst hC0
   go_enter Tryz.func15, Tryz.ntmps15
   go_wp2
   go_ret
   exact ⟨_, rfl, Ext.refl _, LsG.nil⟩
 | some ad =>
   have hsz : w.heap.size ≤ (w.alloc (.cells #[] 5)).heap.size := by simp
   have HO0 : Hid (OwnG elY (w.alloc (.cells #[] 5)) w.heap.size 5 (fun _ => False) (.slice (some ⟨w.heap.size, 0, none⟩) 0 0) []) := Lib.hid ⟨[], rfl, by simp, World.ownsRow_made w #[] 0 (Nat.le_refl _) (by unfold maxLen; omega) (by simp)⟩
   have HC0 : Hid (LsE elY (w.alloc (.cells #[] 5)) (fun _ => False) (.slice (some ad) C.length cap) C) := Lib.hid (by
    obtain ⟨a', c', e, h1, h2, h3⟩ := hC.ext (Ext.alloc w (.cells #[] 5))
    exact ⟨a', c', e, h1, h2, fun i x hi => by obtain ⟨b, off, cs, e1, e2, e3, e4⟩ := h3 i x hi; exact ⟨b, off, cs, e1, e2, e3, e4⟩⟩)
   have HE0 : Hid (Ext w (w.alloc (.cells #[] 5))) := Lib.hid (Ext.alloc w _)
   clear hC
   go_enter Tryz.func15, Tryz.ntmps15
   go_wp2_with (at_builtin; (refine wpList_appG (E := elY) (T := 5) rfl 23 (.tmp 5) (.tmp 6) rfl rfl rfl Tryz.underlying23 infU8 rfl (by decide) (by decide) HO0.out hsz (fun c h => absurd h id) (by simp) hll HC0.out ?_); intro v5 w5 o5 g5 k5
                have HO5 := Lib.hid o5
                have HE5 : Hid (Ext w w5) := Lib.hid (HE0.out.grown g5 (fun q hq => by cases hq; exact Nat.le_refl _))
                clear o5 g5 k5 HO0 HC0)
   go_ret
   exact ⟨_, rfl, HE5.out, HO5.out.ls (fun c h _ => absurd h id) (fun g _ h _ => h)⟩
set_option maxRecDepth 100000 in
set_option maxHeartbeats 4000000 in
theorem Sample_any {w : World} {B : Nat} {S : Nat → Prop} {a ba : Option Addr} {cap bc i : Nat} {t : List Fmt} {fm : Fmt} {C : List Nat} (hv : validF t = 0) (hT : TabA w B a t) (hB : B ≤ w.heap.size) (hcap : t.length ≤ cap) (hcap2 : cap ≤ 9223372036854775807) (hi : t[i]? = some fm) (hll : C.length ≤ 1000000) (hC : LsE elY w S (.slice ba C.length bc) C) :
 Calls Tryz.prog 14 #[.slice a t.length cap, .int .i64 i, .slice ba C.length bc] w fun e w' => ∃ X va vc, e = .returned (.tuple #[.agg #[.string ⟨#[]⟩, .int .i64 0, .slice va X.length vc], .int .i64 0]) ∧ Ext w w' ∧ LsG elV1 w' (fun c => w.heap.size ≤ c) (.slice va X.length vc) X ∧ ValsF t fm.fields X := by
 obtain ⟨rx, w1, hrx, hw1, HX, hE1⟩ := box_new w (.cells #[.string ⟨#[]⟩, .int .i64 0, .slice none 0 0] 41)
 have HBD := Lib.hid (Bounds_any hv (hT.ext hB hE1) (Nat.le_trans hB hE1.size) hcap hcap2 hi)
 have HE1 := Lib.hid hE1
 have HS : Hid (w.heap.size = rx ∧ rx < w1.heap.size) := Lib.hid ⟨by first | exact hrx | exact hrx.symm, (Array.getElem?_eq_some_iff.1 HX.out).1⟩
 have HT := Lib.hid hT
 have HC := Lib.hid (hC.ext hE1)
 have HV := Lib.hid hv
 have HI := Lib.hid hi
 clear hv hT hi hC hE1
 go_enter Tryz.func14, Tryz.ntmps14
 go_upto_region 1 with fail
 rw [← hw1, ← hrx]
 clear hw1 hrx
 go_wp2_with fail
 refine HBD.out.mono ?_
 rintro e w2 ⟨rfl, hE2⟩
 have HCL := Lib.hid (bClone_any hll (HC.out.ext hE2))
 have HE2 := Lib.hid (HE1.out.trans hE2)
 have HX2 := Lib.hid (hs_ext hE2 HX.out)
 have HS2 : Hid (rx < w2.heap.size) := Lib.hid (Array.getElem?_eq_some_iff.1 HX2.out).1
 clear hE2
 go_wp2_with fail
 refine HCL.out.mono ?_
 rintro e w3 ⟨u, rfl, hE3, hU⟩
 obtain ⟨ua, uc, rfl, -, -⟩ := hU.slice
 obtain ⟨cb, w4, hcb, hw4, HCB, hE4⟩ := box_new w3 (.cells #[.slice ua C.length uc] 102)
 have hcb3 : cb = w3.heap.size := by first | exact hcb | exact hcb.symm
 have hch : ChO w4 cb := ⟨_, C, HCB.out, by rw [hcb3]; exact hU.below.ext hE4⟩
 have HE4 := Lib.hid (HE2.out.trans (hE3.trans hE4))
 have HX4 := Lib.hid (hs_ext (hE3.trans hE4) HX2.out)
 have HQ : Hid (w3.heap.size = cb ∧ rx < cb ∧ w.heap.size ≤ rx ∧ B ≤ cb) := Lib.hid ⟨hcb3.symm, by have := HS2.out; have := hE3.size; omega, by have := HS.out; omega, by have := HE2.out.size; have := hE3.size; omega⟩
 have hv := HV.out
 have hi := HI.out
 have hT4 := HT.out.ext hB HE4.out
 have HSM : Hid (Calls Tryz.prog 45 #[.pointer (some ⟨cb, 0, none⟩), .slice a t.length cap, .int .i64 i] w4 (SmpR elV1 (ValsF t fm.fields) w4 cb)) := Lib.hid (by
  refine sample_rec (E' := elV0) hT4 HQ.out.2.2.2 hch hi (valid_at hv hi).2.1 (fields_gd hv hi) (fun f hf hk => ?_)
  rcases fields_gd hv hi f hf with h | h | h | h | h | ⟨-, k, g, h2, h3, h4⟩
  iterate 5 (exact absurd h.1 (by omega))
  refine ⟨k, g, h2, h3, fun w' hT' hC' => (sample_rec (E' := elE) hT' HQ.out.2.2.2 hC' h3 (valid_at hv h3).2.1 (fields_gd hv h3) (fun f hf hk => absurd hk (h4 f hf).1)).mono ?_⟩
  rintro e w'' ⟨X, va, vc, h5, h6, h7, h8, h9⟩
  exact ⟨X, va, vc, h5, h6, h7, h8, valsf_p h9 (fun f hf => (h4 f hf).1)⟩)
 clear hch hv hi hT4 hE3 hE4 hU
 go_upto_region 5 with fail
 rw [← hw4, ← hcb]
 clear hw4 hcb hcb3
 go_wp2_with fail
 refine HSM.out.mono ?_
 rintro e w5 ⟨X, va, vc, rfl, hC5, hG5, hL5, hV5⟩
 have hq := HQ.out
 have hx5 := gr_ne hG5 HX4.out (by omega)
 obtain ⟨y0, y1, y2⟩ := box3r hx5
 have fy0 : w5.frozen? ⟨rx, 0, none⟩ = false := frozenc hx5
 have fy1 : w5.frozen? ⟨rx, 1, none⟩ = false := frozenc hx5
 have fy2 : w5.frozen? ⟨rx, 2, none⟩ = false := frozenc hx5
 have HX5 := Lib.hid hx5
 have HE5 : Hid (Ext w w5) := Lib.hid (HE4.out.grown hG5 (fun k e => by have e2 := Option.some.inj e; omega))
 have HL5 := Lib.hid hL5
 have HV5 := Lib.hid hV5
 have HZ : Hid (rx < w4.heap.size) := Lib.hid (Array.getElem?_eq_some_iff.1 HX4.out).1
 clear hC5 hG5 hL5 hV5 hx5 hq
 go_wp2_with fail
 refine ret_vl2 (g := rx) rfl rfl (set3v_box _ _ _ HX5.out) rfl ?_
 have hq := HQ.out
 refine ⟨X, va, vc, rfl, ((HE5.out.setCell (by omega) _).setCell (by omega) _).setCell (by omega) _, ?_, HV5.out⟩
 exact HL5.out.hold (fun c hc _ => set3v_other _ _ _ (by have h : w4.heap.size ≤ c := hc; have := HZ.out; omega)) (fun c hc _ => by have h : w4.heap.size ≤ c := hc; have := HE4.out.size; show w.heap.size ≤ c; omega)
end Go.Proofs.YtfaienbdebjfcaaGreat
