/- Contracts: the reader of codec: format. Contracts: codec.Decode: of a value's bytes, and of bytes with another tag. Contracts: codec.Which. Contracts: format.First, Tagged, of tagged tables; small helpers of TopTagged. -/
import Derived.Test.YtfaienbdebjfcaaGreatGS
namespace Go.Proofs.YtfaienbdebjfcaaGreat
open Go Go.RowKit
set_option linter.unusedVariables false
set_option linter.unusedSimpArgs false

/-- the state of the reader's loop over the fields -/
structure FmI (E : Elm Vl) (w : World) (b2 : Nat) (wr : World) (rb : Nat) (v0 : Value) (s : ByteArray) (k vb rx : Nat) (X : List Vl) : Prop where
 rd : RdC wr rb v0 s k false
 gr : w.grownBy wr (some rb)
 sz : b2 ≤ wr.heap.size
 rbox : wr.heap[rx]? = some (.cells #[.string ⟨#[]⟩, .int .i64 0, .slice none 0 0] 41)
 box : ∃ v, wr.heap[vb]? = some (.cells #[.string ⟨#[]⟩, .int .i64 0, v] 41) ∧ OwnG E wr b2 41 (fun c => b2 ≤ c ∧ v.ownBlock ≠ some c) v X
theorem FmI.grown {E : Elm Vl} {w wr w' : World} {b2 rb vb rx k k' : Nat} {v0 : Value} {s : ByteArray} {X : List Vl} (h : FmI E w b2 wr rb v0 s k vb rx X) (hg : wr.grownBy w' (some rb)) (hc : RdC w' rb v0 s k' false) (h1 : rb < rx) (h2 : rb < vb) (h3 : vb < b2) : FmI E w b2 w' rb v0 s k' vb rx X := by
 have hk : ∀ g o, wr.heap[g]? = some o → g ≠ rb → w'.heap[g]? = some o := fun g o ho hne => (hg.block g (Array.getElem?_eq_some_iff.1 ho).1 (fun e => hne (Option.some.inj e))).trans ho
 obtain ⟨v, hv1, hv2⟩ := h.box
 refine ⟨hc, gr_trans h.gr hg, Nat.le_trans h.sz hg.size, hk _ _ h.rbox (by omega), v, hk _ _ hv1 (by omega), hv2.keep (fun g hgv => ?_) (fun c hc hlt => ?_) (fun c h _ => h)⟩
 · have := hv2.lt g hgv
   exact hg.block g this.2 (fun e => by have := Option.some.inj e; omega)
 · exact hg.block c hlt (fun e => by have := Option.some.inj e; have := hc.1; omega)
/-- where the end has to lie for a rest -/
def RestOk (t : List Fmt) (F : List Fld) (X : List Vl) (k ed : Nat) (pre : Bool) : Prop := ∀ (j : Nat) f x, F[j]? = some f → X[j]? = some x → f.kind = 6 → (pre = false → ed = k + (encFs t (F.take j) (X.take j)).length + x.bytes.size) ∧ (pre = true → (x.bytes.size : Int) = f.high)
theorem valf_sz {t : List Fmt} {f : Fld} {x : Vl} (hg : FGd t f) (hx : ValF t f x) : x.bytes.size ≤ 1000 ∧ I64 x.num := by
 have hz : I64 0 := by unfold I64; omega
 rcases hx with (⟨h1, rfl⟩ | ⟨h1, h2, h3⟩ | ⟨h1, h2, h3⟩ | ⟨h1, h2, h3, h4⟩ | ⟨h1, h2, h3, h4⟩) | ⟨h1, j, gm, h2, h3, h4, h5⟩
 · exact ⟨Nat.zero_le _, hz⟩
 · refine ⟨by rcases hg with h | h | h | h | h | h <;> first | omega | (have := h.1; omega), by rw [h3]; exact hz⟩
 · refine ⟨by rcases hg with h | h | h | h | h | h <;> first | omega | (have := h.1; omega), by rw [h3]; exact hz⟩
 · refine ⟨by rw [h4]; exact Nat.zero_le _, ?_⟩
   rcases hg with h | h | h | h | h | h <;> first | (exfalso; have := h.1; omega) | (unfold I64; omega)
 · refine ⟨by rcases hg with h | h | h | h | h | h <;> first | omega | (have := h.1; omega), by rw [h4]; exact hz⟩
 · exact ⟨by rw [h4]; exact Nat.zero_le _, by rw [h4]; exact hz⟩
theorem encFs_cat {t : List Fmt} : ∀ (j : Nat) (F : List Fld) (X : List Vl), j ≤ F.length → X.length = F.length → encFs t F X = encFs t (F.take j) (X.take j) ++ encFs t (F.drop j) (X.drop j)
 | 0, F, X, _, _ => by simp [encFs]
 | j + 1, [], X, h, _ => by simp at h
 | j + 1, f :: F, [], _, h => by simp at h
 | j + 1, f :: F, x :: X, h1, h2 => by
   rw [List.take_succ_cons, List.take_succ_cons, List.drop_succ_cons, List.drop_succ_cons, encFs, encFs, List.append_assoc, ← encFs_cat j F X (by simpa using h1) (by simpa using h2)]
set_option maxRecDepth 100000 in
set_option maxHeartbeats 4000000 in
theorem formatR_ok {E' : Elm Vl} {w : World} {B rb k ed : Nat} {a : Option Addr} {cap i : Nat} {t : List Fmt} {fm : Fmt} {X : List Vl} {s : ByteArray} {pre : Bool} (hT : TabA w B a t) (hB : B ≤ rb) (h : RdC w rb (.slice a t.length cap) s k false) (hi : t[i]? = some fm) (hl6 : fm.fields.length ≤ 6) (hgd : ∀ f ∈ fm.fields, FGd t f) (hV : ValsF t fm.fields X)
 (hat : AtU s k (encFs t fm.fields X)) (hn : k + (encFs t fm.fields X).length ≤ ed) (he : ed ≤ s.size) (hs : s.size ≤ 100000) (hrest : RestOk t fm.fields X k ed pre)
 (HREC : ∀ (f : Fld) (x : Vl) (p : Nat), f ∈ fm.fields → f.kind = 5 → ValF t f x → AtU s p (encF1 t f x) → p + (encF1 t f x).length ≤ ed → ∀ w', w.grownBy w' (some rb) → RdC w' rb (.slice a t.length cap) s p false → Calls Tryz.prog 106 #[.pointer (some ⟨rb, 0, none⟩), .int .i64 f.n, .int .i64 ed] w' fun e w'' => ∃ ka kc, e = .returned (.agg #[.string x.bytes, .int .i64 x.num, .slice ka x.kids.length kc]) ∧ RdC w'' rb (.slice a t.length cap) s (p + (encF1 t f x).length) false ∧ w'.grownBy w'' (some rb) ∧ LsG E' w'' (fun c => w'.heap.size ≤ c) (.slice ka x.kids.length kc) x.kids) :
 Calls Tryz.prog 43 #[.pointer (some ⟨rb, 0, none⟩), .int .i64 i, .int .i64 ed, .bool pre] w fun e w' => ∃ va vc, e = .returned (.agg #[.string ⟨#[]⟩, .int .i64 0, .slice va X.length vc]) ∧ RdC w' rb (.slice a t.length cap) s (k + (encFs t fm.fields X).length) false ∧ w.grownBy w' (some rb) ∧ LsG (elVk E') w' (fun c => w.heap.size ≤ c) (.slice va X.length vc) X := by
 obtain ⟨rx, w1, hrx, hw1, HX, hE1⟩ := box_new w (.cells #[.string ⟨#[]⟩, .int .i64 0, .slice none 0 0] 41)
 obtain ⟨vb, w2, hvb, hw2, HV, hE2⟩ := box_new w1 (.cells #[.string ⟨#[]⟩, .int .i64 0, .slice none 0 0] 41)
 have hvb1 : vb = rx + 1 := by rw [hvb, hw1, World.size_alloc, hrx]
 have hcl := h.lt
 have hlx := hV.1
 have HS : Hid (w.heap.size = rx ∧ vb = rx + 1 ∧ rb < rx ∧ B ≤ rb) := Lib.hid ⟨by first | exact hrx | exact hrx.symm, hvb1, by omega, hB⟩
 have HE2 := Lib.hid (hE1.trans hE2)
 have HX2 := Lib.hid (hs_ext hE2 HX.out)
 have hin := lt_of_get hi
 have hn63 := hT.1
 unfold maxLen at hn63
 obtain ⟨tb, toff, fa, fcap, rfl, htb, -, htc0, hF, -⟩ := hT.at hi
 have htc := cs_ext HE2.out htc0
 have hR2 := h.ext HE2.out
 have c0 := hR2.c0
 obtain ⟨b2, hb2⟩ : ∃ b2, b2 = w2.heap.size := ⟨_, rfl⟩
 have HI : Hid (FmI (elVk E') w b2 w2 rb (.slice (some ⟨tb, toff, none⟩) t.length cap) s (k + (encFs t (fm.fields.take 0) (X.take 0)).length) vb rx (X.take 0)) := Lib.hid (by
  simp only [List.take_zero, encFs, List.length_nil, Nat.add_zero]
  exact ⟨hR2, gr_ext HE2.out, by omega, HX2.out, _, HV.out, OwnG.nil⟩)
 have hi0 : (0 : Int) ≤ (i : Int) := by omega
 have hi1 : (i : Int) < (t.length : Int) := by omega
 have HF := Lib.hid hF
 have HOK := Lib.hid hgd
 have HHN := Lib.hid HREC
 have HAT := Lib.hid hat
 have HVV := Lib.hid hV
 have HRST := Lib.hid hrest
 have HN := Lib.hid (And.intro hn (And.intro he hs))
 have HLX := Lib.hid hlx
 have HLB : Hid (rx < b2 ∧ vb < b2) := Lib.hid ⟨by rw [hb2]; exact (Array.getElem?_eq_some_iff.1 HX2.out).1, by rw [hb2]; exact (Array.getElem?_eq_some_iff.1 HV.out).1⟩
 have HF2 := Lib.hid (fun (w' : World) (hg : w.grownBy w' (some rb)) => HF.out.below (below_gr hg HS.out.2.2.2 (by have := HS.out; omega)) (Nat.le_refl _))
 clear HREC hgd hT hF hE1 hE2 HV hcl htb htc0 hR2 h hat hV hrest hn he hs hlx hb2 hi
 go_enter Tryz.func43, Tryz.ntmps43
 go_upto_region 2 with fail
 rw [← hw1, ← hrx, ← hw2, ← hvb1]
 clear hw1 hrx hw2 hvb hvb1 HX
 go_upto_region 3 with fail
 clear htc c0
 go_loopw [11, 12, 22] (fun _ _ kv wr => ∃ j : Nat, kv = .int .i64 j ∧ j ≤ fm.fields.length ∧ Hid (FmI (elVk E') w b2 wr rb (.slice (some ⟨tb, toff, none⟩) t.length cap) s (k + (encFs t (fm.fields.take j) (X.take j)).length) vb rx (X.take j))) (fun _ _ kv _ => fm.fields.length - (intOf kv).toNat)
 case atStart => exact ⟨0, rfl, by omega, HI⟩
 case round =>
  obtain ⟨j, rfl, hj, HI⟩ := hrel
  by_cases hlt : j < fm.fields.length
  · obtain ⟨f, hf⟩ : ∃ f, fm.fields[j]? = some f := ⟨_, List.getElem?_eq_getElem hlt⟩
    obtain ⟨x, hx⟩ : ∃ x, X[j]? = some x := ⟨_, List.getElem?_eq_getElem (by rw [HLX.out]; omega)⟩
    obtain ⟨fb, foff, rfl, hfb, hFX⟩ := (HF2.out wr HI.out.gr).get' hf
    obtain ⟨x0, x1, x2, x3, x4, hxw⟩ := hFX
    have hfm := List.mem_of_getElem? hf
    obtain ⟨zb, w3, hzb, hw3, HZ, hE3⟩ := box_new wr (.cells #[.int .i64 f.kind, .string f.bytes, .int .i64 f.n, .int .i64 f.low, .int .i64 f.high] 59)
    have z0 : w3.cell? ⟨zb, 0, none⟩ = some (.int .i64 f.kind) := by rw [cellc HZ.out]; rfl
    have z1 : w3.cell? ⟨zb, 1, none⟩ = some (.string f.bytes) := by rw [cellc HZ.out]; rfl
    have z2 : w3.cell? ⟨zb, 2, none⟩ = some (.int .i64 f.n) := by rw [cellc HZ.out]; rfl
    have z3 : w3.cell? ⟨zb, 3, none⟩ = some (.int .i64 f.low) := by rw [cellc HZ.out]; rfl
    have z4 : w3.cell? ⟨zb, 4, none⟩ = some (.int .i64 f.high) := by rw [cellc HZ.out]; rfl
    obtain ⟨p, hp⟩ : ∃ p, p = k + (encFs t (fm.fields.take j) (X.take j)).length := ⟨_, rfl⟩
    have hst := encFs_take (t := t) hf hx
    have hsp := encFs_split (t := t) hf hx
    have hall : encFs t fm.fields X = encFs t (fm.fields.take j) (X.take j) ++ (encF1 t f x ++ encFs t (fm.fields.drop (j + 1)) (X.drop (j + 1))) := by
     rw [← hsp]
     exact encFs_cat j _ _ (by omega) HLX.out
    have hat : AtU s p (encF1 t f x) := by
     have h1 := HAT.out
     rw [hall] at h1
     rw [hp]
     exact h1.right.left
    have hle : p + (encF1 t f x).length ≤ ed := by
     have h1 := HN.out.1
     rw [hall, List.length_append, List.length_append] at h1
     omega
    have hvf := HVV.out.2 j f x hf hx
    have HSZ := Lib.hid (valf_sz (HOK.out f hfm) hvf)
    have hR3 : RdC w3 rb (.slice (some ⟨tb, toff, none⟩) t.length cap) s p false := by rw [hp]; exact HI.out.rd.ext hE3
    have HC := Lib.hid (fieldR_ok (E' := E') hR3 (HOK.out f hfm) hvf hat hle HN.out.2.1 HN.out.2.2 (fun h6 => by have := HRST.out j f x hf hx h6; rw [hp]; exact this) (fun h5 w' hE' => HHN.out f x p hfm h5 hvf hat hle w' (gr_trans HI.out.gr (gr_ext (hE3.trans hE'))) (hR3.ext hE')))
    have hki : (j : Int) < (fm.fields.length : Int) := by omega
    have hki0 : (0 : Int) ≤ (j : Int) := by omega
    have HPP : Hid (p + (encF1 t f x).length = k + (encFs t (fm.fields.take (j + 1)) (X.take (j + 1))).length) := Lib.hid (by rw [hst, List.length_append, hp]; omega)
    have HTK : Hid (X.take (j + 1) = X.take j ++ [x] ∧ (X.take j).length = j) := Lib.hid ⟨by rw [List.take_add_one, hx]; rfl, by rw [List.length_take, HLX.out]; omega⟩
    have HE3 := Lib.hid hE3
    have HZS : Hid (wr.heap.size ≤ w3.heap.size) := Lib.hid hE3.size
    clear hf hfm hxw hx hst hsp hall hat hle hvf hR3 hE3 hp
    go_upto_region 5 with fail
    rw [← hw3, ← hzb]
    clear hw3 hzb x0 x1 x2 x3 x4
    go_wp2_with fail
    refine HC.out.mono ?_
    rintro e w5 ⟨ka, kc, rfl, hR5, hG5, hL5⟩
    obtain ⟨xb, w6, hxb, hw6, HX6, hE6⟩ := box_new w5 (.cells #[.string x.bytes, .int .i64 x.num, .slice ka x.kids.length kc] 41)
    have hss := HS.out
    have hlb := HLB.out
    have HG6 := Lib.hid (gr_trans (gr_trans (gr_ext HE3.out) hG5) (gr_ext hE6))
    have hR6 := hR5.ext hE6
    have c3 := hR6.c3
    have hI6 := HI.out.grown HG6.out hR6 (by omega) (by omega) (by omega)
    have HEL : Hid ((elVk E').R w6 (fun c => wr.heap.size ≤ c) x [.string x.bytes, .int .i64 x.num, .slice ka x.kids.length kc]) := Lib.hid (by
     refine ⟨ka, kc, rfl, ?_, ?_, (hL5.ext hE6).wide (fun c h _ => by have := HZS.out; have h2 : w3.heap.size ≤ c := h; show wr.heap.size ≤ c; omega)⟩
     · have := HSZ.out.1; unfold maxLen; omega
     · exact HSZ.out.2)
    obtain ⟨v, hv1, hv2⟩ := hI6.box
    obtain ⟨va, vc, rfl, hvl, hvc⟩ := hv2.slice
    have HLJ := Lib.hid HTK.out.2
    obtain ⟨XJ, hXJ⟩ : ∃ XJ, XJ = X.take j := ⟨_, rfl⟩
    rw [← hXJ] at hv1 hv2 HTK HLJ hI6
    have v2 : w6.cell? ⟨vb, 2, none⟩ = some (.slice va XJ.length vc) := by rw [cellc hv1]; rfl
    obtain ⟨y0, y1, y2⟩ := box3r HX6.out
    obtain ⟨ob, w7, hob, hw7, HO, hE7⟩ := box_new w6 (.cells #[.string x.bytes, .int .i64 x.num, .slice ka x.kids.length kc] 41)
    have HV7 := Lib.hid (hs_ext hE7 hv1)
    have HR7 := Lib.hid (hs_ext hE7 hI6.rbox)
    have HRD7 := Lib.hid (hI6.rd.ext hE7)
    have HG7 := Lib.hid (gr_trans hI6.gr (gr_ext hE7))
    have HS7 : Hid (b2 ≤ w6.heap.size ∧ w6.heap.size ≤ w7.heap.size) := Lib.hid ⟨hI6.sz, hE7.size⟩
    have HOW : Hid (OwnG (elVk E') w7 b2 41 (fun c => b2 ≤ c ∧ (Value.slice va XJ.length vc).ownBlock ≠ some c ∧ c < w6.heap.size) (.slice va XJ.length vc) XJ) := Lib.hid ((hv2.wide (fun c h hl => ⟨h.1, h.2, hl⟩)).ext hE7)
    have HOL := Lib.hid hv2.lt
    have HRX : Hid ((elVk E').R w7 (fun c => b2 ≤ c ∧ (Value.slice va XJ.length vc).ownBlock ≠ some c ∧ c < w6.heap.size) x [.string x.bytes, .int .i64 x.num, .slice ka x.kids.length kc]) := Lib.hid (Elm.ext _ (Elm.wide _ HEL.out (fun c h hl => ⟨by have := HI.out.sz; have h2 : wr.heap.size ≤ c := h; omega, fun e => by
     obtain ⟨v0, hv0, hv0b⟩ := HI.out.box
     have h6 := (HG6.out.block vb (Array.getElem?_eq_some_iff.1 hv0).1 (fun e => by have := Option.some.inj e; omega)).trans hv0
     rw [hv1] at h6
     simp at h6
     subst h6
     have := (hv0b.lt c e).2
     have h2 : wr.heap.size ≤ c := h
     omega, hl⟩)) hE7)
    have HLX6 : Hid (XJ.length ≤ 1000000) := Lib.hid (by have := HLJ.out; omega)
    clear hv1 hv2 hI6 hE7 hss hlb hR5 hG5 hL5 hE6 hR6 hXJ
    go_upto_region 6 with fail
    rw [← hw6, ← hxb]
    clear hw6 hxb z0 z1 z2 z3 z4
    go_wp2_with (
     at_builtin
     rw [← hw7, ← hob]
     refine wpList_appG (E := elVk E') (T := 41) rfl 39 (.tmp 37) (.tmp 39) rfl rfl rfl Tryz.underlying39 infV rfl (Nat.zero_lt_succ 2) (by decide) HOW.out (by have := HS7.out; omega) (fun c h => h.2.1) HLX6.out (M := [x]) (by simp) (one_vl HO.out HRX.out) ?_
     intro v8 w8 o8 g8 k8
     have hlb := HLB.out
     have hss := HS.out
     have hs7 := HS7.out
     have hvb8 : w8.heap[vb]? = some (.cells #[.string ⟨#[]⟩, .int .i64 0, .slice va XJ.length vc] 41) := (g8.block vb (Array.getElem?_eq_some_iff.1 HV7.out).1 (fun e => by have := (HOL.out vb e.symm).1; omega)).trans HV7.out
     have f2 : w8.frozen? ⟨vb, 2, none⟩ = false := frozenc hvb8
     have c2 : w8.cell? ⟨vb, 2, none⟩ = some (.slice va XJ.length vc) := by rw [cellc hvb8]; rfl
     have hv8 : v8.ownBlock ≠ some vb ∧ v8.ownBlock ≠ some rx ∧ v8.ownBlock ≠ some rb := ⟨fun e => by have := (o8.lt _ e).1; omega, fun e => by have := (o8.lt _ e).1; omega, fun e => by have := (o8.lt _ e).1; omega⟩
     obtain ⟨v8a, v8c, rfl, -, -⟩ := o8.slice
     have hl8 : (XJ ++ [x]).length = XJ.length + 1 := by simp
     rw [hl8] at o8 k8 hv8
     have HI9 : Hid (FmI (elVk E') w b2 (w8.setCell ⟨vb, 2, none⟩ (.slice v8a (XJ.length + 1 : Nat) v8c)) rb (.slice (some ⟨tb, toff, none⟩) t.length cap) s (p + (encF1 t f x).length) vb rx (XJ ++ [x])) := Lib.hid (by
      refine ⟨?_, ?_, ?_, ?_, _, by rw [heap_setCell_same w8 vb 2 _ _ _ hvb8]; rfl, ?_⟩
      · exact (heap_setCell_other _ _ _ _ (show rb ≠ vb by omega)).trans ((g8.block rb HRD7.out.lt (fun e => by have := (HOL.out rb e.symm).1; omega)).trans HRD7.out)
      · exact gr_set2 ⟨g8.os.trans HG7.out.os, g8.tape.trans HG7.out.tape, g8.output.trans HG7.out.output, Nat.le_trans HG7.out.size g8.size, fun c hl hn => (g8.block c (Nat.lt_of_lt_of_le hl HG7.out.size) (fun e => by have := (HOL.out c e.symm).1; omega)).trans (HG7.out.block c hl hn)⟩ (by omega)
      · rw [World.size_setCell]; have := g8.size; omega
      · rw [heap_setCell_other _ _ _ _ (show rx ≠ vb by omega)]
        exact (g8.block rx (Array.getElem?_eq_some_iff.1 HR7.out).1 (fun e => by have := (HOL.out rx e.symm).1; omega)).trans HR7.out
      · refine o8.keep (fun g hg => heap_setCell_other _ _ _ _ (fun e => hv8.1 (hg.trans (by rw [← (show g = vb from e)])))) (fun c hc _ => heap_setCell_other _ _ _ _ (by have := hc.1; show c ≠ vb; omega)) (fun c hc hl => ⟨hc.1, fun e => ?_⟩)
        rcases k8 with k8 | k8
        · exact hc.2.1 (k8.symm.trans e)
        · have := Option.some.inj (k8.symm.trans e); have := hc.2.2; omega)
     clear o8 g8 k8 hlb hss hs7 hvb8 hv8 hl8)
    go_roundw
    case rel => exact ⟨j + 1, by go_num, by omega, Lib.hid (by rw [← HPP.out, HTK.out.1]; exact HI9.out)⟩
    case measure => simp [intOf]; omega
  · have hki : ¬ (j : Int) < (fm.fields.length : Int) := by omega
    have htx : X.take j = X := List.take_of_length_le (by rw [HLX.out]; omega)
    have htf : fm.fields.take j = fm.fields := List.take_of_length_le (by omega)
    rw [htx, htf] at HI
    obtain ⟨v, hv1, hv2⟩ := HI.out.box
    obtain ⟨va, vc, rfl, hvl, hvc⟩ := hv2.slice
    obtain ⟨v0, v1, v2⟩ := box3r hv1
    have hrb := HI.out.rbox
    obtain ⟨r0, r1, r2⟩ := box3r hrb
    have fr0 : wr.frozen? ⟨rx, 0, none⟩ = false := frozenc hrb
    have fr1 : wr.frozen? ⟨rx, 1, none⟩ = false := frozenc hrb
    have fr2 : wr.frozen? ⟨rx, 2, none⟩ = false := frozenc hrb
    have HRB := Lib.hid hrb
    have HO := Lib.hid hv2
    clear hv1 hv2 hrb htx htf
    go_wp2_with fail
    refine ret_vl (g := rx) rfl rfl (set3v_box _ _ _ HRB.out) rfl ?_
    have hs := HS.out
    have hlb := HLB.out
    refine ⟨va, vc, rfl, (set3v_other _ _ _ (by omega)).trans HI.out.rd, gr_set2 (gr_set2 (gr_set2 HI.out.gr (by omega)) (by omega)) (by omega), ?_⟩
    have hls := HO.out.ls (S' := fun c => b2 ≤ c) (fun c h _ => h.1) (fun g _ h _ => h)
    exact hls.hold (fun c hc _ => set3v_other _ _ _ (by have h : b2 ≤ c := hc; omega)) (fun c hc _ => by have h : b2 ≤ c := hc; show w.heap.size ≤ c; omega)

theorem at_list {s : ByteArray} {l : List UInt8} (h : s.data.toList = l) : AtU s 0 l := by
 subst h
 have hl : s.data.toList.length = s.size := by rw [Array.length_toList]; rfl
 refine ⟨by rw [hl]; omega, fun j h1 h2 => ?_⟩
 simp only [Array.getElem_toList, Nat.zero_add]
 rfl
theorem rescell_tmp2V {fn : Func} {p u x : Tmp} {ty : TypeId} (h : fn.results = #[.cell p ty, .tmp u, .tmp x]) (tmps : Array Value) (P : Program) (w : World) :
 (results fn tmps).run P w = ((asAddr (tmps.getD p undef)).run P w).andThen fun a w₁ => ((loadVar ty a).run P w₁).andThen fun v w₂ => .ok (.tuple #[v, tmps.getD u undef, tmps.getD x undef]) w₂ := by
 simp only [results, h]
 simp [Sem.run_bind, Result.andThen]
theorem ret_vl3 {F : Func} {p u x g : Nat} {tmps : Array Value} {w : World} {cs : Array Value} {R : Ending → World → Prop} (hr : F.results = #[.cell p 41, .tmp u, .tmp x]) (hp : tmps.getD p undef = .pointer (some ⟨g, 0, none⟩)) (hg : w.heap[g]? = some (.cells cs 41)) (hs : cs.size = 3) (h : R (.returned (.tuple #[.agg cs, tmps.getD u undef, tmps.getD x undef])) w) :
 bodyPost Tryz.prog F R .ret ⟨tmps, []⟩ w := by
 refine bodyPost_ret ?_ rfl h
 rw [rescell_tmp2V hr, hp]
 simp only [asAddr, Sem.run_pure, Result.andThen_ok]
 rw [run_loadVar_row w g _ _ cs _ _ hg Tryz.underlying41 rfl (by rw [hs]; exact sizV)]
 rfl
section
variable {w : World} {B : Nat} {a : Option Addr} {cap i : Nat} {t : List Fmt} {fm : Fmt} {s : ByteArray}
set_option maxRecDepth 100000 in
set_option maxHeartbeats 1000000 in
theorem Decode_ok {X : List Vl} (hv : validF t = 0) (hT : TabA w B a t) (hB : B ≤ w.heap.size) (hcap : t.length ≤ cap) (hcap2 : cap ≤ 9223372036854775807) (hi : t[i]? = some fm) (hV : ValsF t fm.fields X) (hs : s.size ≤ 100000) (heq : s.data.toList = encFs t fm.fields X) (hrest : RestOk t fm.fields X 0 s.size false)
 (HREC : ∀ (rb : Nat) (f : Fld) (x : Vl) (p : Nat) w', B ≤ rb → w.heap.size ≤ rb → f ∈ fm.fields → f.kind = 5 → ValF t f x → AtU s p (encF1 t f x) → p + (encF1 t f x).length ≤ s.size → TabA w' B a t → RdC w' rb (.slice a t.length cap) s p false → Calls Tryz.prog 106 #[.pointer (some ⟨rb, 0, none⟩), .int .i64 f.n, .int .i64 s.size] w' fun e w'' => ∃ ka kc, e = .returned (.agg #[.string x.bytes, .int .i64 x.num, .slice ka x.kids.length kc]) ∧ RdC w'' rb (.slice a t.length cap) s (p + (encF1 t f x).length) false ∧ w'.grownBy w'' (some rb) ∧ LsG elV0 w'' (fun c => w'.heap.size ≤ c) (.slice ka x.kids.length kc) x.kids) :
 Calls Tryz.prog 12 #[.slice a t.length cap, .int .i64 i, .string s] w fun e w' => ∃ va vc, e = .returned (.tuple #[.agg #[.string ⟨#[]⟩, .int .i64 0, .slice va X.length vc], .int .i64 0, .int .i64 0]) ∧ Ext w w' ∧ LsG elV1 w' (fun c => w.heap.size ≤ c) (.slice va X.length vc) X := by
 obtain ⟨rx, w1, hrx, hw1, HX, hE1⟩ := box_new w (.cells #[.string ⟨#[]⟩, .int .i64 0, .slice none 0 0] 41)
 have HBD := Lib.hid (Bounds_any hv (hT.ext hB hE1) (Nat.le_trans hB hE1.size) hcap hcap2 hi)
 have HE1 := Lib.hid hE1
 have HS : Hid (w.heap.size = rx ∧ rx < w1.heap.size) := Lib.hid ⟨by first | exact hrx | exact hrx.symm, (Array.getElem?_eq_some_iff.1 HX.out).1⟩
 have HT := Lib.hid hT
 have hln : (encFs t fm.fields X).length = s.size := by rw [← heq, Array.length_toList]; rfl
 have hat : AtU s 0 (encFs t fm.fields X) := at_list heq
 have HFM := Lib.hid (fun rb w0 (hT0 : TabA w0 B a t) (hw : w.grownBy w0 none) (h1 : B ≤ rb) (h2 : w.heap.size ≤ rb) (h3 : RdC w0 rb (.slice a t.length cap) s 0 false) => formatR_ok (E' := elV0) (pre := false) hT0 h1 h3 hi (valid_at hv hi).2.1 (fields_gd hv hi) hV hat (by omega : 0 + (encFs t fm.fields X).length ≤ s.size) (Nat.le_refl _) hs hrest (fun f x p hf h5 hx ha hp w' hg hr => HREC rb f x p w' h1 h2 hf h5 hx ha hp (hT0.below (below_gr hg h1 (Nat.le_trans hB hw.size)) (Nat.le_refl _)) hr))
 rw [hln, Nat.zero_add] at HFM
 have HSS := Lib.hid hs
 clear hv hT hi hE1 hV hs heq hrest HREC hln hat
 go_enter Tryz.func12, Tryz.ntmps12
 go_upto_region 1 with fail
 rw [← hw1, ← hrx]
 clear hw1 hrx
 go_wp2_with fail
 refine HBD.out.mono ?_
 rintro e w2 ⟨rfl, hE2⟩
 obtain ⟨rb, w3, hrb, hw3, HRB, hE3⟩ := box_new w2 (.cells #[.slice a t.length cap, .string s, .int .i64 0, .bool false] 98)
 have HE3 := Lib.hid (HE1.out.trans (hE2.trans hE3))
 have HX3 := Lib.hid (hs_ext (hE2.trans hE3) HX.out)
 have hrb2 : rb = w2.heap.size := by first | exact hrb | exact hrb.symm
 have HQ : Hid (rx < rb ∧ B ≤ rb ∧ w.heap.size ≤ rx ∧ rx < w3.heap.size) := Lib.hid ⟨by have := HS.out; have := hE2.size; omega, by have := HE1.out.size; have := hE2.size; omega, by have := HS.out; omega, (Array.getElem?_eq_some_iff.1 HX3.out).1⟩
 have HC := Lib.hid (HFM.out rb w3 (HT.out.ext hB HE3.out) (gr_ext HE3.out) HQ.out.2.1 (by have := HQ.out; omega) HRB.out)
 clear hE2 hE3 hrb2
 go_upto_region 5 with fail
 rw [← hw3, ← hrb]
 clear hw3 hrb
 go_wp2_with fail
 refine HC.out.mono ?_
 rintro e w5 ⟨va, vc, rfl, hR5, hG5, hL5⟩
 obtain ⟨xb, w6, hxb, hw6, HX6, hE6⟩ := box_new w5 (.cells #[.string ⟨#[]⟩, .int .i64 0, .slice va X.length vc] 41)
 obtain ⟨v0, v1, v2⟩ := box3r HX6.out
 have hq := HQ.out
 have hR6 := hR5.ext hE6
 have c2 := hR6.c2
 have c3 := hR6.c3
 have hx6 := hs_ext hE6 (gr_ne hG5 HX3.out (by omega))
 obtain ⟨y0, y1, y2⟩ := box3r hx6
 have fy0 : w6.frozen? ⟨rx, 0, none⟩ = false := frozenc hx6
 have fy1 : w6.frozen? ⟨rx, 1, none⟩ = false := frozenc hx6
 have fy2 : w6.frozen? ⟨rx, 2, none⟩ = false := frozenc hx6
 have HX7 := Lib.hid hx6
 have HE6 : Hid (Ext w w6) := Lib.hid ((HE3.out.grown hG5 (fun k e => by have e2 := Option.some.inj e; omega)).trans hE6)
 have HL6 := Lib.hid (hL5.ext hE6)
 have hnl : ¬ ((s.size : Int) < (s.size : Int)) := by omega
 clear hq hx6 hR6 hR5 hG5 hE6 hL5
 go_upto_region 6 with fail
 rw [← hw6, ← hxb]
 clear hw6 hxb
 go_wp2_with fail
 have hq := HQ.out
 refine ret_vl3 (g := rx) rfl rfl (set3v_box _ _ _ HX7.out) rfl ⟨va, vc, rfl, ((HE6.out.setCell (by omega) _).setCell (by omega) _).setCell (by omega) _, ?_⟩
 exact HL6.out.hold (fun c hc _ => set3v_other _ _ _ (by have h : w3.heap.size ≤ c := hc; omega)) (fun c hc _ => by have h : w3.heap.size ≤ c := hc; have := HE3.out.size; show w.heap.size ≤ c; omega)
end
end Go.Proofs.YtfaienbdebjfcaaGreat

namespace Go.Proofs.YtfaienbdebjfcaaGreat
open Go Go.RowKit
set_option linter.unusedVariables false
set_option linter.unusedSimpArgs false

end Go.Proofs.YtfaienbdebjfcaaGreat

namespace Go.Proofs.YtfaienbdebjfcaaGreat
open Go Go.RowKit
open Go.Maps (Keyed)
set_option linter.unusedVariables false
set_option linter.unusedSimpArgs false

end Go.Proofs.YtfaienbdebjfcaaGreat
