/- Contracts: codec.value of a value that fits. Contracts: codec.encode, Encode. Contracts: codec.Valid, Encode at a value that fits. -/
import Derived.Test.YtfaienbdebjfcaaGreatGQ
import Derived.Deep.QuietTactic
import Derived.BigQuiet
namespace Go.Proofs.YtfaienbdebjfcaaGreat
open Go Go.RowKit
set_option linter.unusedVariables false
set_option linter.unusedSimpArgs false

set_option maxRecDepth 100000 in
set_option maxHeartbeats 1000000 in
theorem zeroV_any {w : World} {a : Option Addr} {c : Nat} : Calls Tryz.prog 124 #[.agg #[.string ⟨#[]⟩, .int .i64 0, .slice a 0 c]] w fun e w' => e = .returned (.bool true) ∧ Ext w w' := by
 go_enter Tryz.func124, Tryz.ntmps124
 go_wp2_with fail
 go_ret
 exact ⟨rfl, (by repeat (first | exact Ext.refl _ | exact Ext.alloc _ _ | apply Ext.then_dr | apply Ext.then_drN | apply Ext.then_drN2 | (refine Ext.then_al ?_ _)))⟩
set_option maxRecDepth 100000 in
set_option maxHeartbeats 4000000 in
theorem cfield_ok {w : World} {a ka : Option Addr} {cap kc : Nat} {t : List Fmt} {f : Fld} {x : Vl} (hg : FGd t f) (hx : ValF t f x)
 (HREC : f.kind = 5 → ∀ w', Ext w w' → Calls Tryz.prog 75 #[.slice a t.length cap, .int .i64 f.n, .agg #[.string x.bytes, .int .i64 x.num, .slice ka x.kids.length kc]] w' fun e w'' => e = .returned (.int .i64 0) ∧ Ext w' w'') :
 Calls Tryz.prog 108 #[.slice a t.length cap, .agg #[.int .i64 f.kind, .string f.bytes, .int .i64 f.n, .int .i64 f.low, .int .i64 f.high], .agg #[.string x.bytes, .int .i64 x.num, .slice ka x.kids.length kc]] w fun e w' => e = .returned (.int .i64 0) ∧ Ext w w' := by
 obtain ⟨zb, w1, hzb, hw1, HZ, hE1⟩ := box_new w (.cells #[.int .i64 f.kind, .string f.bytes, .int .i64 f.n, .int .i64 f.low, .int .i64 f.high] 59)
 obtain ⟨xb, w2, hxb, hw2, HX, hE2⟩ := box_new w1 (.cells #[.string x.bytes, .int .i64 x.num, .slice ka x.kids.length kc] 41)
 have hxb1 : xb = zb + 1 := by rw [hxb, hw1, World.size_alloc, hzb]
 have HZ2 := Lib.hid (hs_ext hE2 HZ.out)
 have z0 : w2.cell? ⟨zb, 0, none⟩ = some (.int .i64 f.kind) := by rw [cellc HZ2.out]; rfl
 have z1 : w2.cell? ⟨zb, 1, none⟩ = some (.string f.bytes) := by rw [cellc HZ2.out]; rfl
 have z2 : w2.cell? ⟨zb, 2, none⟩ = some (.int .i64 f.n) := by rw [cellc HZ2.out]; rfl
 have z3 : w2.cell? ⟨zb, 3, none⟩ = some (.int .i64 f.low) := by rw [cellc HZ2.out]; rfl
 have z4 : w2.cell? ⟨zb, 4, none⟩ = some (.int .i64 f.high) := by rw [cellc HZ2.out]; rfl
 obtain ⟨x0, x1, x2⟩ := box3r HX.out
 have HE2 := Lib.hid (hE1.trans hE2)
 clear hE1 hE2
 go_enter Tryz.func108, Tryz.ntmps108
 go_upto_region 1 with fail
 rw [← hw1, ← hzb, ← hw2, ← hxb1]
 clear hw1 hzb hw2 hxb1 hxb
 rcases hx with (⟨h1, rfl⟩ | ⟨h1, h2, h3⟩ | ⟨h1, h2, h3⟩ | ⟨h1, h2, h3, h4⟩ | ⟨h1, h2, h3, h4⟩) | ⟨h1, j, gm, h2, h3, h4, h5⟩
 · rw [h1] at z0
   replace x0 : w2.cell? ⟨xb, 0, none⟩ = some (.string ⟨#[]⟩) := x0
   replace x1 : w2.cell? ⟨xb, 1, none⟩ = some (.int .i64 0) := x1
   replace x2 : w2.cell? ⟨xb, 2, none⟩ = some (.slice ka 0 kc) := x2
   clear hg h1 HREC
   go_wp2_with fail
   refine zeroV_any.mono ?_
   rintro e w3 ⟨rfl, hE3⟩
   have HE3 := Lib.hid (HE2.out.trans hE3)
   clear hE3
   go_wp2_with fail
   go_ret
   exact ⟨rfl, HE3.out⟩
 · rw [h1] at z0
   obtain ⟨b, hb⟩ : ∃ b, b = x.bytes := ⟨_, rfl⟩
   rw [← hb] at h2 h3
   subst h3
   replace x0 : w2.cell? ⟨xb, 0, none⟩ = some (.string b) := x0
   replace x1 : w2.cell? ⟨xb, 1, none⟩ = some (.int .i64 0) := x1
   replace x2 : w2.cell? ⟨xb, 2, none⟩ = some (.slice ka 0 kc) := x2
   rw [← h2] at z2
   have hl1 : ¬ ((b.size : Int) < (b.size : Int)) := by omega
   clear hg h1 HREC h2 hb
   go_upto_region 10 with fail
   go_quiet (fail)
   generalize hwn : World.drewN w2 _ = wn
   have HEn : Hid (Ext w2 wn) := Lib.hid (by rw [← hwn]; exact Ext.then_drN2 (Ext.refl _))
   clear hwn
   obtain ⟨z0, z1, z2, z3, z4, x0, x1, x2⟩ := cs_e8 HEn.out ⟨z0, z1, z2, z3, z4, x0, x1, x2⟩
   go_wp2_with fail
   go_ret
   exact ⟨rfl, HE2.out.trans HEn.out⟩
 · rw [h1] at z0
   obtain ⟨b, hb⟩ : ∃ b, b = x.bytes := ⟨_, rfl⟩
   rw [← hb] at h2 h3
   subst h3
   replace x0 : w2.cell? ⟨xb, 0, none⟩ = some (.string b) := x0
   replace x1 : w2.cell? ⟨xb, 1, none⟩ = some (.int .i64 0) := x1
   replace x2 : w2.cell? ⟨xb, 2, none⟩ = some (.slice ka 0 kc) := x2
   have hl1 : ¬ ((b.size : Int) < 0) := by omega
   have hl2 : ¬ (f.n < (b.size : Int)) := by omega
   clear hg h1 HREC h2 hb
   go_upto_region 10 with fail
   go_quiet (fail)
   generalize hwn : World.drewN w2 _ = wn
   have HEn : Hid (Ext w2 wn) := Lib.hid (by rw [← hwn]; exact Ext.then_drN2 (Ext.refl _))
   clear hwn
   obtain ⟨z0, z1, z2, z3, z4, x0, x1, x2⟩ := cs_e8 HEn.out ⟨z0, z1, z2, z3, z4, x0, x1, x2⟩
   go_wp2_with fail
   go_ret
   exact ⟨rfl, HE2.out.trans HEn.out⟩
 · rw [h1] at z0
   obtain ⟨q, hq⟩ : ∃ q, q = x.num := ⟨_, rfl⟩
   rw [← hq] at h2 h3 h4
   subst h4
   replace x0 : w2.cell? ⟨xb, 0, none⟩ = some (.string ⟨#[]⟩) := x0
   replace x1 : w2.cell? ⟨xb, 1, none⟩ = some (.int .i64 q) := x1
   replace x2 : w2.cell? ⟨xb, 2, none⟩ = some (.slice ka 0 kc) := x2
   have hl1 : ¬ (q < f.low) := by omega
   have hl2 : ¬ (f.high < q) := by omega
   clear hg h1 HREC h2 h3 hq
   go_wp2_with fail
   go_ret
   exact ⟨rfl, HE2.out⟩
 · rw [h1] at z0
   obtain ⟨b, hb⟩ : ∃ b, b = x.bytes := ⟨_, rfl⟩
   rw [← hb] at h2 h3 h4
   subst h4
   replace x0 : w2.cell? ⟨xb, 0, none⟩ = some (.string b) := x0
   replace x1 : w2.cell? ⟨xb, 1, none⟩ = some (.int .i64 0) := x1
   replace x2 : w2.cell? ⟨xb, 2, none⟩ = some (.slice ka 0 kc) := x2
   have hl1 : ¬ ((b.size : Int) < f.low) := by omega
   have hl2 : ¬ (f.high < (b.size : Int)) := by omega
   clear hg h1 HREC h2 h3 hb
   go_upto_region 10 with fail
   go_quiet (fail)
   generalize hwn : World.drewN w2 _ = wn
   have HEn : Hid (Ext w2 wn) := Lib.hid (by rw [← hwn]; exact Ext.then_drN2 (Ext.refl _))
   clear hwn
   obtain ⟨z0, z1, z2, z3, z4, x0, x1, x2⟩ := cs_e8 HEn.out ⟨z0, z1, z2, z3, z4, x0, x1, x2⟩
   go_upto_region 15 with fail
   go_quiet (fail)
   generalize hwm : World.drewN wn _ = wm
   have HEm : Hid (Ext wn wm) := Lib.hid (by rw [← hwm]; exact Ext.then_drN2 (Ext.refl _))
   clear hwm
   obtain ⟨z0, z1, z2, z3, z4, x0, x1, x2⟩ := cs_e8 HEm.out ⟨z0, z1, z2, z3, z4, x0, x1, x2⟩
   go_wp2_with fail
   go_ret
   exact ⟨rfl, HE2.out.trans (HEn.out.trans HEm.out)⟩
 · rw [h1] at z0
   have HC := Lib.hid (HREC h1 w2 HE2.out)
   clear hg h1 HREC h2 h3 h4 h5
   go_wp2_with fail
   refine HC.out.mono ?_
   rintro e w3 ⟨rfl, hE3⟩
   have HE3 := Lib.hid (HE2.out.trans hE3)
   clear hE3
   go_wp2_with fail
   go_ret
   exact ⟨rfl, HE3.out⟩
set_option maxRecDepth 100000 in
set_option maxHeartbeats 4000000 in
theorem cvalue_rec {E' : Elm Vl} {w : World} {B : Nat} {S : Nat → Prop} {a va : Option Addr} {cap vc i : Nat} {t : List Fmt} {fm : Fmt} {X : List Vl} (hT : TabA w B a t) (hB : B ≤ w.heap.size) (hi : t[i]? = some fm) (hl6 : fm.fields.length ≤ 6) (hgd : ∀ f ∈ fm.fields, FGd t f)
 (hL : LsG (elVk E') w S (.slice va X.length vc) X) (hV : ValsF t fm.fields X)
 (HREC : ∀ f x, f ∈ fm.fields → f.kind = 5 → ValF t f x → ∀ w' ka kc, Ext w w' → LsG E' w' S (.slice ka x.kids.length kc) x.kids → Calls Tryz.prog 75 #[.slice a t.length cap, .int .i64 f.n, .agg #[.string x.bytes, .int .i64 x.num, .slice ka x.kids.length kc]] w' fun e w'' => e = .returned (.int .i64 0) ∧ Ext w' w'') :
 Calls Tryz.prog 75 #[.slice a t.length cap, .int .i64 i, .agg #[.string ⟨#[]⟩, .int .i64 0, .slice va X.length vc]] w fun e w' => e = .returned (.int .i64 0) ∧ Ext w w' := by
 have hlx : X.length = fm.fields.length := hV.1
 rw [hlx] at hL ⊢
 obtain ⟨vb, w1, hvb, hw1, HVB, hE1⟩ := box_new w (.cells #[.string ⟨#[]⟩, .int .i64 0, .slice va fm.fields.length vc] 41)
 obtain ⟨v0, v1, v2⟩ := box3r HVB.out
 have hin := lt_of_get hi
 have hn63 := hT.1
 unfold maxLen at hn63
 obtain ⟨tb, toff, fa, fcap, rfl, htb, -, htc0, hF, -⟩ := hT.at hi
 have htc := cs_ext hE1 htc0
 have hi0 : (0 : Int) ≤ (i : Int) := by omega
 have hi1 : (i : Int) < (t.length : Int) := by omega
 obtain ⟨-, hlv, hcv⟩ := hL.len
 rw [hlx] at hlv
 unfold maxLen at hcv
 have HF := Lib.hid hF
 have HE1 := Lib.hid hE1
 have HL := Lib.hid hL
 have HV := Lib.hid hV
 have HG := Lib.hid hgd
 have HR := Lib.hid HREC
 clear HREC hgd hT hF hE1 hL hV htc0 htb hi
 have HLX := Lib.hid hlx
 clear hlx
 go_enter Tryz.func75, Tryz.ntmps75
 go_upto_region 1 with fail
 rw [← hw1, ← hvb]
 clear hw1 hvb
 go_upto_region 7 with fail
 clear htc v0 v1
 go_loopw [8, 9, 10, 32] (fun _ _ _ kv wr => ∃ k : Nat, kv = .int .i64 k ∧ k ≤ fm.fields.length ∧ Ext w1 wr) (fun _ _ _ kv _ => fm.fields.length - (intOf kv).toNat)
 case atStart => exact ⟨0, rfl, by omega, Ext.refl _⟩
 case round =>
  obtain ⟨k, rfl, hk, hE⟩ := hrel
  by_cases hlt : k < fm.fields.length
  · obtain ⟨f, hf⟩ : ∃ f, fm.fields[k]? = some f := ⟨_, List.getElem?_eq_getElem hlt⟩
    obtain ⟨x, hx⟩ : ∃ x, X[k]? = some x := ⟨_, List.getElem?_eq_getElem (by rw [HLX.out]; omega)⟩
    obtain ⟨fb, foff, rfl, hfb, hFX⟩ := (HF.out.ext hB (HE1.out.trans hE)).get' hf
    obtain ⟨x0, x1, x2, x3, x4, hxw⟩ := hFX
    obtain ⟨zb, w3, hzb, hw3, HZ, hE3⟩ := box_new wr (.cells #[.int .i64 f.kind, .string f.bytes, .int .i64 f.n, .int .i64 f.low, .int .i64 f.high] 59)
    have z0 : w3.cell? ⟨zb, 0, none⟩ = some (.int .i64 f.kind) := by rw [cellc HZ.out]; rfl
    have z1 : w3.cell? ⟨zb, 1, none⟩ = some (.string f.bytes) := by rw [cellc HZ.out]; rfl
    have z2 : w3.cell? ⟨zb, 2, none⟩ = some (.int .i64 f.n) := by rw [cellc HZ.out]; rfl
    have z3 : w3.cell? ⟨zb, 3, none⟩ = some (.int .i64 f.low) := by rw [cellc HZ.out]; rfl
    have z4 : w3.cell? ⟨zb, 4, none⟩ = some (.int .i64 f.high) := by rw [cellc HZ.out]; rfl
    have hfm := List.mem_of_getElem? hf
    obtain ⟨xb, xo, ka, kc, rfl, y0, y1, y2, -, -, hkl⟩ := (HL.out.ext (HE1.out.trans (hE.trans hE3))).vAt hx
    have v2b := cs_ext (hE.trans hE3) v2
    have HE3 := Lib.hid (hE.trans hE3)
    have HKL := Lib.hid hkl
    have HVX := Lib.hid (HV.out.2 k f x hf hx)
    have HC := Lib.hid (fun (w' : World) (hw : Ext w3 w') => cfield_ok (w := w') (a := some ⟨tb, toff, none⟩) (cap := cap) (ka := ka) (kc := kc) (HG.out f hfm) HVX.out (fun h5 w'' h'' => HR.out f x hfm h5 HVX.out w'' ka kc ((HE1.out.trans HE3.out).trans (hw.trans h'')) (HKL.out.ext (hw.trans h''))))
    have hki : (k : Int) < (fm.fields.length : Int) := by omega
    have hki0 : (0 : Int) ≤ (k : Int) := by omega
    clear hf hfm hxw hkl hE3 hx hE
    go_upto_region 9 with fail
    rw [← hw3, ← hzb]
    clear hw3 hzb x0 x1 x2 x3 x4
    have HFCT := Lib.hid (And.intro z0 (And.intro z1 (And.intro z2 (And.intro z3 (And.intro z4 (And.intro v2b (And.intro y0 (And.intro y1 y2))))))))
    refine wp_region_reg 8 false (by kernel_rfl) (by kernel_rfl) ?_
    refine reg_value (fun _ => rfl) ?_ (fun g w' vs hM hE hP => ?_) ?_
    rotate_left
    · (clear hP hM; go_simp; first | done | rfl)
    refine reg_value (fun _ => rfl) ?_ (fun g w' vs hM hE hP => ?_) ?_
    rotate_left
    · (clear hP hM; have ⟨z0, z1, z2, z3, z4, z5, z6, z7, z8⟩ := cs_e9 hE HFCT.out; go_simp; first | done | rfl)
    refine reg_value (fun _ => rfl) ?_ (fun g w' vs hM hE hP => ?_) ?_
    rotate_left
    · (clear hP hM; go_simp; first | done | rfl)
    refine reg_value (fun _ => rfl) ?_ (fun g w' vs hM hE hP => ?_) ?_
    rotate_left
    · (clear hP hM; have ⟨z0, z1, z2, z3, z4, z5, z6, z7, z8⟩ := cs_e9 hE HFCT.out; go_simp; first | done | rfl)
    refine reg_value (fun _ => rfl) ?_ (fun g w' vs hM hE hP => ?_) ?_
    rotate_left
    · (clear hP hM; go_simp; first | done | rfl)
    refine reg_value (fun _ => rfl) ?_ (fun g w' vs hM hE hP => ?_) ?_
    rotate_left
    · (clear hP hM; go_simp; first | done | rfl)
    refine reg_value (fun _ => rfl) ?_ (fun g w' vs hM hE hP => ?_) ?_
    rotate_left
    · (clear hP hM; have ⟨z0, z1, z2, z3, z4, z5, z6, z7, z8⟩ := cs_e9 hE HFCT.out; go_simp; first | done | rfl)
    refine reg_const (fun _ => rfl) 108 ?_ (fun g w' vs hM hE hP => ?_) ?_
    rotate_left
    · (clear hP hM; have ⟨z0, z1, z2, z3, z4, z5, z6, z7, z8⟩ := cs_e9 hE HFCT.out; go_simp; first | done | exact ⟨rfl, rfl⟩ | rfl)
    apply Exists.intro
    refine And.intro (fun g w' vs hM hE hP => ?_) ?_
    · exact HC.out w' hE
    intro g w4 hE4 hF4 hQ4
    simp only [List.drop_succ_cons, List.drop_zero, Act.put, List.setIfInBounds_toArray, List.set_cons_succ, List.set_cons_zero]
    have HE4 := Lib.hid (HE3.out.trans hE4)
    clear hE4 hF4 hQ4
    go_wp2_with fail
    go_roundw
    case rel => exact ⟨k + 1, by go_num, by omega, HE4.out⟩
    case measure => simp [intOf]; omega
  · have hki : ¬ (k : Int) < (fm.fields.length : Int) := by omega
    have HE := Lib.hid hE
    clear hE
    go_wp2_with fail
    go_ret
    exact ⟨rfl, HE1.out.trans HE.out⟩

theorem Wrote.ext {w w1 w' : World} {b : Nat} (h : Wrote w.heap.size b w1 w') (hE : Ext w w1) : Ext w w' := ⟨h.below.os.trans hE.os, h.below.tape.trans hE.tape, h.below.output.trans hE.output, Nat.le_trans hE.size h.below.size, fun k hk => (h.below.block k hk).trans (hE.block hk)⟩
theorem Wrote.cells {B b g T : Nat} {w w' : World} {cs : Array Value} (h : Wrote B b w w') (hg : w.heap[g]? = some (.cells cs T)) (hne : g ≠ b) (hT : T ≠ 5) : w'.heap[g]? = some (.cells cs T) := by
 rw [h.kept g hne (Array.getElem?_eq_some_iff.1 hg).1 (fun c fz e => by rw [hg] at e; simp at e; exact hT e.2.1)]
 exact hg
/-- what a field's bytes are to encode -/
def EncOk (t : List Fmt) (f : Fld) (x : Vl) : Prop := ValF t f x ∧ (encF1 t f x).length ≤ 2000 ∧ (f.kind = 5 → (encPs (t.getD f.n.toNat default).fields x.kids).length < 256)
set_option maxRecDepth 100000 in
set_option maxHeartbeats 8000000 in
theorem encode_rec {E' : Elm Vl} {w : World} {B : Nat} {S : Nat → Prop} {a va : Option Addr} {cap vc i : Nat} {t : List Fmt} {fm : Fmt} {X : List Vl} (hT : TabA w B a t) (hB : B ≤ w.heap.size) (hi : t[i]? = some fm) (hl6 : fm.fields.length ≤ 6) (hgd : ∀ f ∈ fm.fields, FGd t f)
 (hL : LsG (elVk E') w S (.slice va X.length vc) X) (hlx : X.length = fm.fields.length) (hV : ∀ (k : Nat) f x, fm.fields[k]? = some f → X[k]? = some x → EncOk t f x)
 (HREC : ∀ f x, f ∈ fm.fields → f.kind = 5 → EncOk t f x → ∀ w' ka kc, Ext w w' → LsG E' w' S (.slice ka x.kids.length kc) x.kids → Calls Tryz.prog 47 #[.slice a t.length cap, .int .i64 f.n, .agg #[.string x.bytes, .int .i64 x.num, .slice ka x.kids.length kc]] w' fun e w'' => e = .returned (.string ⟨(encPs (t.getD f.n.toNat default).fields x.kids).toArray⟩) ∧ Ext w' w'') :
 Calls Tryz.prog 47 #[.slice a t.length cap, .int .i64 i, .agg #[.string ⟨#[]⟩, .int .i64 0, .slice va X.length vc]] w fun e w' => e = .returned (.string ⟨(encFs t fm.fields X).toArray⟩) ∧ Ext w w' := by
 rw [hlx] at hL ⊢
 obtain ⟨vb, w1, hvb, hw1, HVB, hE1⟩ := box_new w (.cells #[.string ⟨#[]⟩, .int .i64 0, .slice va fm.fields.length vc] 41)
 obtain ⟨bb, w2, hbb, hw2, HBB, hE2⟩ := box_new w1 (.cells #[.pointer none, .slice none 0 0] 151)
 have hbb1 : bb = vb + 1 := by rw [hbb, hw1, World.size_alloc, hvb]
 have hbb0 : bb = w1.heap.size := by first | exact hbb | exact hbb.symm
 have hBu : Bu w2 w.heap.size bb [] := by
  refine .inl ⟨by rw [hbb0]; exact hE1.size, .slice none 0 0, HBB.out, World.ownsRowF_nil _ _ _ _, by simp [Value.ownBlock]⟩
 have HBU := Lib.hid hBu
 have HVB2 := Lib.hid (hs_ext hE2 HVB.out)
 have hin := lt_of_get hi
 have hn63 := hT.1
 unfold maxLen at hn63
 obtain ⟨tb, toff, fa, fcap, rfl, htb, -, htc0, hF, -⟩ := hT.at hi
 have htc := cs_ext (hE1.trans hE2) htc0
 have hi0 : (0 : Int) ≤ (i : Int) := by omega
 have hi1 : (i : Int) < (t.length : Int) := by omega
 obtain ⟨-, hlv, hcv⟩ := hL.len
 rw [hlx] at hlv
 unfold maxLen at hcv
 have HF := Lib.hid hF
 have HE2 := Lib.hid (hE1.trans hE2)
 have HL := Lib.hid hL
 have HV := Lib.hid hV
 have HG := Lib.hid hgd
 have HR := Lib.hid HREC
 have HLX := Lib.hid hlx
 have HVS : Hid (w.heap.size = vb ∧ bb = vb + 1) := Lib.hid ⟨by first | exact hvb | exact hvb.symm, hbb1⟩
 clear HREC hgd hT hF hE1 hE2 hL hV htc0 htb hi hlx hBu HBB hbb0
 go_enter Tryz.func47, Tryz.ntmps47
 go_upto_region 2 with fail
 rw [← hw1, ← hvb, ← hw2, ← hbb1]
 clear hw1 hvb hw2 hbb1 hbb
 go_upto_region 3 with fail
 clear htc
 go_loopw [8, 9, 10, 11, 18, 33, 38, 48, 54] (fun _ _ _ _ kv _ _ _ _ wr => ∃ k : Nat, kv = .int .i64 k ∧ k ≤ fm.fields.length ∧ Hid (Ext w wr) ∧ Hid (Bu wr w.heap.size bb (encFs t (fm.fields.take k) (X.take k)) ∧ (encFs t (fm.fields.take k) (X.take k)).length ≤ k * 2000) ∧ Hid (wr.heap[vb]? = some (.cells #[.string ⟨#[]⟩, .int .i64 0, .slice va fm.fields.length vc] 41))) (fun _ _ _ _ kv _ _ _ _ _ => fm.fields.length - (intOf kv).toNat)
 case atStart => exact ⟨0, rfl, by omega, HE2, Lib.hid ⟨by simp only [List.take_zero, encFs]; exact HBU.out, by simp [encFs]⟩, HVB2⟩
 case round =>
  obtain ⟨k, rfl, hk, HE, HB, HVR⟩ := hrel
  by_cases hlt : k < fm.fields.length
  · obtain ⟨f, hf⟩ : ∃ f, fm.fields[k]? = some f := ⟨_, List.getElem?_eq_getElem hlt⟩
    obtain ⟨x, hx⟩ : ∃ x, X[k]? = some x := ⟨_, List.getElem?_eq_getElem (by rw [HLX.out]; omega)⟩
    obtain ⟨fb, foff, rfl, hfb, hFX⟩ := (HF.out.ext hB HE.out).get' hf
    obtain ⟨x0, x1, x2, x3, x4, hxw⟩ := hFX
    obtain ⟨zb, w3, hzb, hw3, HZ, hE3⟩ := box_new wr (.cells #[.int .i64 f.kind, .string f.bytes, .int .i64 f.n, .int .i64 f.low, .int .i64 f.high] 59)
    have hfm := List.mem_of_getElem? hf
    obtain ⟨xb, xo, ka, kc, rfl, y0, y1, y2, hbz, -, hkl⟩ := (HL.out.ext (HE.out.trans hE3)).vAt hx
    obtain ⟨-, -, v2⟩ := box3r (hs_ext hE3 HVR.out)
    have hki : (k : Int) < (fm.fields.length : Int) := by omega
    have hki0 : (0 : Int) ≤ (k : Int) := by omega
    obtain ⟨ob, w4, hob, hw4, HOB, hE4⟩ := box_new w3 (.cells #[.string x.bytes, .int .i64 x.num, .slice ka x.kids.length kc] 41)
    have hz4 := hs_ext hE4 HZ.out
    have z0 : w4.cell? ⟨zb, 0, none⟩ = some (.int .i64 f.kind) := by rw [cellc hz4]; rfl
    have z1 : w4.cell? ⟨zb, 1, none⟩ = some (.string f.bytes) := by rw [cellc hz4]; rfl
    have z2 : w4.cell? ⟨zb, 2, none⟩ = some (.int .i64 f.n) := by rw [cellc hz4]; rfl
    obtain ⟨o0, o1, o2⟩ := box3r HOB.out
    have HZ4 := Lib.hid hz4
    have HB4 := Lib.hid (HB.out.1.ext (hE3.trans hE4))
    have HE4 := Lib.hid (HE.out.trans (hE3.trans hE4))
    have HV4 := Lib.hid (hs_ext (hE3.trans hE4) HVR.out)
    have HK4 := Lib.hid (hkl.ext hE4)
    have HOK := Lib.hid (HV.out k f x hf hx)
    have HST := Lib.hid (encFs_take (t := t) hf hx)
    have HRR := Lib.hid (fun h5 => HR.out f x hfm h5 HOK.out w4 ka kc HE4.out HK4.out)
    have HNE : Hid (zb ≠ bb ∧ ob ≠ bb ∧ vb ≠ bb ∧ w.heap.size ≤ w4.heap.size) := Lib.hid ⟨by have h1 : zb = wr.heap.size := (by first | exact hzb | exact hzb.symm); have := HB.out.1.lt; omega, by have h1 : ob = w3.heap.size := (by first | exact hob | exact hob.symm); have := HB.out.1.lt; have := hE3.size; omega, by have := HVS.out; omega, (HE.out.trans (hE3.trans hE4)).size⟩
    have hgf := HG.out f hfm
    clear hf hfm hxw hkl hE3 hE4 hx hz4
    go_upto_region 5 with fail
    rw [← hw3, ← hzb]
    clear hw3 hzb x0 x1 x2 x3 x4
    go_upto_region 6 with fail
    rw [← hw4, ← hob]
    clear hw4 hob y0 y1 y2 v2
    have HLN : Hid ((encFs t (fm.fields.take k) (X.take k) ++ encF1 t f x).length ≤ (k + 1) * 2000) := Lib.hid (by rw [List.length_append]; have := HB.out.2; have := HOK.out.2.1; omega)
    have HL1 : Hid (k ≤ 6) := Lib.hid (by omega)
    have hval := HOK.out.1
    rcases hval with (⟨h1, rfl⟩ | ⟨h1, h2, h3⟩ | ⟨h1, h2, h3⟩ | ⟨h1, h2, h3, h4⟩ | ⟨h1, h2, h3, h4⟩) | ⟨h1, j, gm, h2, h3, h4, h5⟩
    · have HEQ : Hid (encF1 t f zeroVl = f.bytes.data.toList) := Lib.hid (by rw [encF1_p (by omega)]; unfold encP1; rw [if_pos h1])
      have HW := Lib.hid (writeStr_any (s := f.bytes) HB4.out (by have := HB.out.2; have := HL1.out; rcases hgf with h | h | h | h | h | h <;> first | omega | (have := h.1; omega)) HNE.out.2.2.2)
      rw [h1] at z0
      clear h1 hgf
      go_wp2_with fail
      refine HW.out.mono ?_
      rintro e w9 ⟨rfl, hB9, hW9⟩
      have HE9 := Lib.hid (hW9.ext (w1 := w4) HE4.out)
      have HV9 := Lib.hid (hW9.cells HV4.out HNE.out.2.2.1 (by decide))
      have HB9 := Lib.hid hB9
      clear hW9 hB9
      go_wp2_with fail
      go_roundw
      case rel => exact ⟨k + 1, by go_num, by omega, HE9, Lib.hid ⟨by rw [HST.out, HEQ.out]; exact HB9.out, by rw [HST.out]; exact HLN.out⟩, HV9⟩
      case measure => simp [intOf]; omega
    · have HEQ : Hid (encF1 t f x = x.bytes.data.toList) := Lib.hid (by rw [encF1_p (by omega)]; unfold encP1; rw [if_neg (by omega), if_neg (by omega), if_neg (by omega)])
      have HW := Lib.hid (writeStr_any (s := x.bytes) HB4.out (by have := HB.out.2; have := HL1.out; rcases hgf with h | h | h | h | h | h <;> first | omega | (have := h.1; omega)) HNE.out.2.2.2)
      rw [h1] at z0
      clear h1 h2 h3 hgf
      go_wp2_with fail
      refine HW.out.mono ?_
      rintro e w9 ⟨rfl, hB9, hW9⟩
      have HE9 := Lib.hid (hW9.ext (w1 := w4) HE4.out)
      have HV9 := Lib.hid (hW9.cells HV4.out HNE.out.2.2.1 (by decide))
      have HB9 := Lib.hid hB9
      clear hW9 hB9
      go_wp2_with fail
      go_roundw
      case rel => exact ⟨k + 1, by go_num, by omega, HE9, Lib.hid ⟨by rw [HST.out, HEQ.out]; exact HB9.out, by rw [HST.out]; exact HLN.out⟩, HV9⟩
      case measure => simp [intOf]; omega
    · have HEQ : Hid (encF1 t f x = x.bytes.size.toUInt8 :: x.bytes.data.toList) := Lib.hid (by rw [encF1_p (by omega)]; unfold encP1; rw [if_neg (by omega), if_pos (by omega)])
      have HSZ : Hid (x.bytes.size ≤ 15) := Lib.hid (by rcases hgf with h | h | h | h | h | h <;> first | omega | (have := h.1; omega))
      have HW := Lib.hid (writeByte_any (k := x.bytes.size) (by have := HSZ.out; omega) HB4.out (by have := HB.out.2; have := HL1.out; omega) HNE.out.2.2.2)
      have hws : ((x.bytes.size : Nat) : Int) % 256 = ((x.bytes.size : Nat) : Int) := by have := HSZ.out; omega
      have hwu : IntKind.u8.wrap (x.bytes.size : Int) = (x.bytes.size : Int) := by rw [IntKind.wrap_u8]; exact hws
      rw [h1] at z0
      clear h1 h2 h3 hgf
      go_wp2_with fail
      refine HW.out.mono ?_
      rintro e w8 ⟨rfl, hB8, hW8⟩
      have HE8 := Lib.hid (hW8.ext (w1 := w4) HE4.out)
      have HV8 := Lib.hid (hW8.cells HV4.out HNE.out.2.2.1 (by decide))
      obtain ⟨o0, o1, o2⟩ := box3r (hW8.cells HOB.out HNE.out.2.1 (by decide))
      have HW2 := Lib.hid (writeStr_any (s := x.bytes) hB8 (by rw [List.length_append]; have := HB.out.2; have := HL1.out; have := HSZ.out; simp; omega) (Nat.le_trans HNE.out.2.2.2 hW8.below.size))
      clear hB8 hW8
      go_wp2_with fail
      refine HW2.out.mono ?_
      rintro e w9 ⟨rfl, hB9, hW9⟩
      rw [List.append_assoc] at hB9
      have HE9 := Lib.hid (hW9.ext (w1 := w8) HE8.out)
      have HV9 := Lib.hid (hW9.cells HV8.out HNE.out.2.2.1 (by decide))
      have HB9 := Lib.hid hB9
      clear hW9 hB9
      go_wp2_with fail
      go_roundw
      case rel => exact ⟨k + 1, by go_num, by omega, HE9, Lib.hid ⟨by rw [HST.out, HEQ.out]; exact HB9.out, by rw [HST.out]; exact HLN.out⟩, HV9⟩
      case measure => simp [intOf]; omega
    · obtain ⟨q, hq⟩ : ∃ q : Nat, x.num = q := ⟨x.num.toNat, by rcases hgf with h | h | h | h | h | h <;> first | omega | (have := h.1; omega)⟩
      have HEQ : Hid (encF1 t f x = [q.toUInt8]) := Lib.hid (by rw [encF1_p (by omega)]; unfold encP1; rw [if_neg (by omega), if_neg (by omega), if_pos h1, hq]; rfl)
      have HSZ : Hid (q ≤ 255) := Lib.hid (by rcases hgf with h | h | h | h | h | h <;> first | omega | (have := h.1; omega))
      have HW := Lib.hid (writeByte_any (k := q) (by have := HSZ.out; omega) HB4.out (by have := HB.out.2; have := HL1.out; omega) HNE.out.2.2.2)
      have hws : (q : Int) % 256 = (q : Int) := by have := HSZ.out; omega
      have hwu : IntKind.u8.wrap (q : Int) = (q : Int) := by rw [IntKind.wrap_u8]; exact hws
      rw [h1] at z0
      rw [hq] at o1
      clear h1 h2 h3 h4 hgf hq
      go_wp2_with fail
      refine HW.out.mono ?_
      rintro e w9 ⟨rfl, hB9, hW9⟩
      have HE9 := Lib.hid (hW9.ext (w1 := w4) HE4.out)
      have HV9 := Lib.hid (hW9.cells HV4.out HNE.out.2.2.1 (by decide))
      have HB9 := Lib.hid hB9
      clear hW9 hB9
      go_wp2_with fail
      go_roundw
      case rel => exact ⟨k + 1, by go_num, by omega, HE9, Lib.hid ⟨by rw [HST.out, HEQ.out]; exact HB9.out, by rw [HST.out]; exact HLN.out⟩, HV9⟩
      case measure => simp [intOf]; omega
    · have HEQ : Hid (encF1 t f x = x.bytes.data.toList) := Lib.hid (by rw [encF1_p (by omega)]; unfold encP1; rw [if_neg (by omega), if_neg (by omega), if_neg (by omega)])
      have HW := Lib.hid (writeStr_any (s := x.bytes) HB4.out (by have := HB.out.2; have := HL1.out; rcases hgf with h | h | h | h | h | h <;> first | omega | (have := h.1; omega)) HNE.out.2.2.2)
      rw [h1] at z0
      clear h1 h2 h3 h4 hgf
      go_wp2_with fail
      refine HW.out.mono ?_
      rintro e w9 ⟨rfl, hB9, hW9⟩
      have HE9 := Lib.hid (hW9.ext (w1 := w4) HE4.out)
      have HV9 := Lib.hid (hW9.cells HV4.out HNE.out.2.2.1 (by decide))
      have HB9 := Lib.hid hB9
      clear hW9 hB9
      go_wp2_with fail
      go_roundw
      case rel => exact ⟨k + 1, by go_num, by omega, HE9, Lib.hid ⟨by rw [HST.out, HEQ.out]; exact HB9.out, by rw [HST.out]; exact HLN.out⟩, HV9⟩
      case measure => simp [intOf]; omega
    · obtain ⟨sl, hsl⟩ : ∃ sl, sl = encPs (t.getD f.n.toNat default).fields x.kids := ⟨_, rfl⟩
      have HC := Lib.hid (HRR.out h1)
      have HEQ : Hid (encF1 t f x = sl.length.toUInt8 :: sl) := Lib.hid (by unfold encF1; rw [if_pos h1, hsl])
      have HSZ : Hid (sl.length < 256) := Lib.hid (by rw [hsl]; exact HOK.out.2.2 h1)
      rw [← hsl] at HC
      obtain ⟨ss, hss⟩ : ∃ ss : ByteArray, ss = ⟨sl.toArray⟩ := ⟨_, rfl⟩
      have HS1 : Hid (ss.size = sl.length ∧ ss.data.toList = sl) := Lib.hid ⟨by rw [hss]; simp [ByteArray.size], by rw [hss]⟩
      rw [← hss] at HC
      have hws : ((ss.size : Nat) : Int) % 256 = ((ss.size : Nat) : Int) := by have := HSZ.out; have := HS1.out.1; omega
      have hwu : IntKind.u8.wrap (ss.size : Int) = (ss.size : Int) := by rw [IntKind.wrap_u8]; exact hws
      rw [h1] at z0
      clear h1 h2 h3 h4 h5 hgf hsl hss
      go_wp2_with fail
      refine HC.out.mono ?_
      rintro e w7 ⟨rfl, hE7⟩
      have HE7 := Lib.hid (HE4.out.trans hE7)
      have HV7 := Lib.hid (hs_ext hE7 HV4.out)
      have HW := Lib.hid (writeByte_any (k := ss.size) (by have := HSZ.out; have := HS1.out.1; omega) (HB4.out.ext hE7) (by have := HB.out.2; have := HL1.out; omega) (Nat.le_trans HNE.out.2.2.2 hE7.size))
      have HSW : Hid (w.heap.size ≤ w7.heap.size) := Lib.hid (Nat.le_trans HNE.out.2.2.2 hE7.size)
      clear hE7
      go_wp2_with fail
      refine HW.out.mono ?_
      rintro e w8 ⟨rfl, hB8, hW8⟩
      have HE8 := Lib.hid (hW8.ext (w1 := w7) HE7.out)
      have HV8 := Lib.hid (hW8.cells HV7.out HNE.out.2.2.1 (by decide))
      have HW2 := Lib.hid (writeStr_any (s := ss) hB8 (by rw [List.length_append]; have := HB.out.2; have := HL1.out; have := HSZ.out; have := HS1.out.1; simp; omega) (Nat.le_trans HSW.out hW8.below.size))
      clear hB8 hW8
      go_wp2_with fail
      refine HW2.out.mono ?_
      rintro e w9 ⟨rfl, hB9, hW9⟩
      rw [List.append_assoc, HS1.out.1, HS1.out.2] at hB9
      have HE9 := Lib.hid (hW9.ext (w1 := w8) HE8.out)
      have HV9 := Lib.hid (hW9.cells HV8.out HNE.out.2.2.1 (by decide))
      have HB9 := Lib.hid hB9
      clear hW9 hB9
      go_wp2_with fail
      go_roundw
      case rel => exact ⟨k + 1, by go_num, by omega, HE9, Lib.hid ⟨by rw [HST.out, HEQ.out]; exact HB9.out, by rw [HST.out]; exact HLN.out⟩, HV9⟩
      case measure => simp [intOf]; omega
  · have hki : ¬ (k : Int) < (fm.fields.length : Int) := by omega
    have HFIN : Hid (encFs t (fm.fields.take k) (X.take k) = encFs t fm.fields X) := Lib.hid (by rw [List.take_of_length_le (by omega), List.take_of_length_le (by rw [HLX.out]; omega)])
    have HSR := Lib.hid (buStr_any HB.out.1 HE.out.size)
    go_wp2_with fail
    refine HSR.out.mono ?_
    rintro e w5 ⟨rfl, -, hW⟩
    have HE5 := Lib.hid (hW.ext HE.out)
    clear hW
    go_wp2_with fail
    go_ret
    exact ⟨by rw [HFIN.out]; rfl, HE5.out⟩

theorem encP1_len {t : List Fmt} {f : Fld} {x : Vl} (hg : FGd t f) (hx : ValP f x) : (encP1 f x).length ≤ 1000 ∧ (f.kind ≠ 6 → (encP1 f x).length ≤ 16) := by
 have hs : ∀ b : ByteArray, b.data.toList.length = b.size := fun b => by rw [Array.length_toList]; rfl
 rcases hx with ⟨h1, rfl⟩ | ⟨h1, h2, h3⟩ | ⟨h1, h2, h3⟩ | ⟨h1, h2, h3, h4⟩ | ⟨h1, h2, h3, h4⟩ <;> rcases hg with h | h | h | h | h | h <;> have hk := h.1 <;> first | (exfalso; omega) | skip
 · unfold encP1; rw [if_pos h1, hs]; omega
 · unfold encP1; rw [if_neg (by omega), if_neg (by omega), if_neg (by omega), hs]; omega
 · unfold encP1; rw [if_neg (by omega), if_pos h1, List.length_cons, hs]; omega
 · unfold encP1; rw [if_neg (by omega), if_neg (by omega), if_pos h1]; simp
 · unfold encP1; rw [if_neg (by omega), if_neg (by omega), if_neg (by omega), hs]; omega
theorem encPs_len {t : List Fmt} : ∀ {F : List Fld} {X : List Vl}, (∀ f ∈ F, FGd t f) → (∀ f ∈ F, f.kind ≠ 6) → ValsP F X → (encPs F X).length ≤ F.length * 16
 | [], X, _, _, _ => by cases X <;> simp [encPs]
 | f :: F, [], _, _, h => by have := h.1; simp at this
 | f :: F, x :: X, h1, h2, h3 => by
   have hx : ValP f x := h3.2 0 f x rfl rfl
   have hl := (encP1_len (h1 f (by simp)) hx).2 (h2 f (by simp))
   have ih := encPs_len (F := F) (X := X) (fun g hg => h1 g (by simp [hg])) (fun g hg => h2 g (by simp [hg])) ⟨by have := h3.1; simpa using this, fun k g y hg hy => h3.2 (k + 1) g y (by simpa using hg) (by simpa using hy)⟩
   rw [encPs, List.length_append, List.length_cons]
   omega
/-- a nested field's format -/
theorem nest_get {t : List Fmt} (hv : validF t = 0) {f : Fld} (hg : FGd t f) (h5 : f.kind = 5) : ∃ (k : Nat) (g : Fmt), f.n = k ∧ t[k]? = some g ∧ t.getD f.n.toNat default = g ∧ (∀ x ∈ g.fields, x.kind ≠ 5 ∧ x.kind ≠ 6) ∧ g.fields.length ≤ 6 ∧ ∀ x ∈ g.fields, FGd t x := by
 rcases hg with h | h | h | h | h | ⟨-, k, g, h2, h3, h4⟩
 iterate 5 (exact absurd h.1 (by omega))
 exact ⟨k, g, h2, h3, by rw [h2, Int.toNat_natCast, List.getD_eq_getElem?_getD, h3]; rfl, h4, (valid_at hv h3).2.1, fields_gd hv h3⟩
theorem enc_ok {t : List Fmt} (hv : validF t = 0) {f : Fld} {x : Vl} (hg : FGd t f) (hx : ValF t f x) : EncOk t f x := by
 by_cases h5 : f.kind = 5
 · obtain ⟨k, g, h1, h2, h3, h4, h6, h7⟩ := nest_get hv hg h5
   have hk : ValsP g.fields x.kids := by
    rcases hx with (h | h | h | h | h) | ⟨-, j, gm, e1, e2, -, e4⟩
    iterate 5 (exact absurd h.1 (by omega))
    have : j = k := by omega
    subst this
    rw [h2] at e2
    cases e2
    exact e4
   have hl := encPs_len h7 (fun y hy => (h4 y hy).2) hk
   have hl2 : (encPs g.fields x.kids).length ≤ 96 := by omega
   exact ⟨hx, by unfold encF1; rw [if_pos h5, h3, List.length_cons]; omega, fun _ => by rw [h3]; omega⟩
 · refine ⟨hx, ?_, fun h => absurd h h5⟩
   rw [encF1_p h5]
   have := (encP1_len hg (valf_p hx h5)).1
   omega
theorem nest_val {t : List Fmt} {f : Fld} {x : Vl} {k : Nat} {g : Fmt} (h5 : f.kind = 5) (hx : ValF t f x) (h1 : f.n = k) (h2 : t[k]? = some g) : x = .mk ⟨#[]⟩ 0 x.kids ∧ ValsP g.fields x.kids := by
 rcases hx with (h | h | h | h | h) | ⟨-, j, gm, e1, e2, e3, e4⟩
 iterate 5 (exact absurd h.1 (by omega))
 have : j = k := by omega
 subst this
 rw [h2] at e2
 cases e2
 exact ⟨e3, e4⟩
section
variable {w : World} {B : Nat} {S : Nat → Prop} {a va : Option Addr} {cap vc i : Nat} {t : List Fmt} {fm : Fmt} {X : List Vl}
theorem cvalue_any (hv : validF t = 0) (hT : TabA w B a t) (hB : B ≤ w.heap.size) (hi : t[i]? = some fm) (hL : LsG elV1 w S (.slice va X.length vc) X) (hV : ValsF t fm.fields X) :
 Calls Tryz.prog 75 #[.slice a t.length cap, .int .i64 i, .agg #[.string ⟨#[]⟩, .int .i64 0, .slice va X.length vc]] w fun e w' => e = .returned (.int .i64 0) ∧ Ext w w' := by
 refine cvalue_rec (E' := elV0) hT hB hi (valid_at hv hi).2.1 (fields_gd hv hi) hL hV (fun f x hf h5 hx w' ka kc hE hk => ?_)
 obtain ⟨k, g, h1, h2, h3, h4, h6, h7⟩ := nest_get hv (fields_gd hv hi f hf) h5
 obtain ⟨e1, e2⟩ := nest_val h5 hx h1 h2
 rw [h1]
 obtain ⟨L, hL⟩ : ∃ L, L = x.kids := ⟨_, rfl⟩
 rw [← hL] at e1 e2 hk ⊢
 rw [e1]
 exact cvalue_rec (E' := elE) (hT.ext hB hE) (Nat.le_trans hB hE.size) h2 h6 h7 hk ⟨e2.1, fun k f x hf hx => .inl (e2.2 k f x hf hx)⟩ (fun f x hf h5 => absurd h5 (h4 f hf).1)
theorem encode_any (hv : validF t = 0) (hT : TabA w B a t) (hB : B ≤ w.heap.size) (hi : t[i]? = some fm) (hL : LsG elV1 w S (.slice va X.length vc) X) (hV : ValsF t fm.fields X) :
 Calls Tryz.prog 47 #[.slice a t.length cap, .int .i64 i, .agg #[.string ⟨#[]⟩, .int .i64 0, .slice va X.length vc]] w fun e w' => e = .returned (.string ⟨(encFs t fm.fields X).toArray⟩) ∧ Ext w w' := by
 refine encode_rec (E' := elV0) hT hB hi (valid_at hv hi).2.1 (fields_gd hv hi) hL hV.1 (fun k f x hf hx => enc_ok hv (fields_gd hv hi f (List.mem_of_getElem? hf)) (hV.2 k f x hf hx)) (fun f x hf h5 hx w' ka kc hE hk => ?_)
 obtain ⟨k, g, h1, h2, h3, h4, h6, h7⟩ := nest_get hv (fields_gd hv hi f hf) h5
 obtain ⟨e1, e2⟩ := nest_val h5 hx.1 h1 h2
 rw [h3, h1]
 obtain ⟨L, hL⟩ : ∃ L, L = x.kids := ⟨_, rfl⟩
 rw [← hL] at e1 e2 hk ⊢
 rw [e1]
 rw [← encFs_p (t := t) (fun f hf => (h4 f hf).1)]
 exact encode_rec (E' := elE) (hT.ext hB hE) (Nat.le_trans hB hE.size) h2 h6 h7 hk e2.1 (fun k f x hf hx => enc_ok hv (h7 f (List.mem_of_getElem? hf)) (.inl (e2.2 k f x hf hx))) (fun f x hf h5 => absurd h5 (h4 f hf).1)
set_option maxRecDepth 100000 in
set_option maxHeartbeats 2000000 in
theorem cValid_any (hv : validF t = 0) (hT : TabA w B a t) (hB : B ≤ w.heap.size) (hcap : t.length ≤ cap) (hcap2 : cap ≤ 9223372036854775807) (hi : t[i]? = some fm) (hL : LsG elV1 w S (.slice va X.length vc) X) (hV : ValsF t fm.fields X) :
 Calls Tryz.prog 46 #[.slice a t.length cap, .int .i64 i, .agg #[.string ⟨#[]⟩, .int .i64 0, .slice va X.length vc]] w fun e w' => e = .returned (.int .i64 0) ∧ Ext w w' := by
 obtain ⟨vb, w1, hvb, hw1, HVB, hE1⟩ := box_new w (.cells #[.string ⟨#[]⟩, .int .i64 0, .slice va X.length vc] 41)
 obtain ⟨v0, v1, v2⟩ := box3r HVB.out
 have HBD := Lib.hid (Bounds_any hv (hT.ext hB hE1) (Nat.le_trans hB hE1.size) hcap hcap2 hi)
 have HE1 := Lib.hid hE1
 have HC := Lib.hid (fun (w' : World) (hE : Ext w w') => cvalue_any (w := w') (cap := cap) hv (hT.ext hB hE) (Nat.le_trans hB hE.size) hi (hL.ext hE) hV)
 clear hv hT hi hL hV hE1
 go_enter Tryz.func46, Tryz.ntmps46
 go_upto_region 1 with fail
 rw [← hw1, ← hvb]
 clear hw1 hvb
 go_wp2_with fail
 refine HBD.out.mono ?_
 rintro e w2 ⟨rfl, hE2⟩
 obtain ⟨v0, v1, v2⟩ := cs_e3 hE2 ⟨v0, v1, v2⟩
 have HE2 := Lib.hid (HE1.out.trans hE2)
 clear hE2
 go_wp2_with fail
 refine (HC.out w2 HE2.out).mono ?_
 rintro e w3 ⟨rfl, hE3⟩
 have HE3 := Lib.hid (HE2.out.trans hE3)
 clear hE3
 go_wp2_with fail
 go_ret
 exact ⟨rfl, HE3.out⟩
set_option maxRecDepth 100000 in
set_option maxHeartbeats 2000000 in
theorem cEncode_any (hv : validF t = 0) (hT : TabA w B a t) (hB : B ≤ w.heap.size) (hcap : t.length ≤ cap) (hcap2 : cap ≤ 9223372036854775807) (hi : t[i]? = some fm) (hL : LsG elV1 w S (.slice va X.length vc) X) (hV : ValsF t fm.fields X) :
 Calls Tryz.prog 16 #[.slice a t.length cap, .int .i64 i, .agg #[.string ⟨#[]⟩, .int .i64 0, .slice va X.length vc]] w fun e w' => e = .returned (.tuple #[.string ⟨(encFs t fm.fields X).toArray⟩, .int .i64 0]) ∧ Ext w w' := by
 obtain ⟨vb, w1, hvb, hw1, HVB, hE1⟩ := box_new w (.cells #[.string ⟨#[]⟩, .int .i64 0, .slice va X.length vc] 41)
 obtain ⟨v0, v1, v2⟩ := box3r HVB.out
 have HE1 := Lib.hid hE1
 have HVC := Lib.hid (cValid_any (cap := cap) hv (hT.ext hB hE1) (Nat.le_trans hB hE1.size) hcap hcap2 hi (hL.ext hE1) hV)
 have HC := Lib.hid (fun (w' : World) (hE : Ext w w') => encode_any (w := w') (cap := cap) hv (hT.ext hB hE) (Nat.le_trans hB hE.size) hi (hL.ext hE) hV)
 clear hv hT hi hL hV hE1
 go_enter Tryz.func16, Tryz.ntmps16
 go_upto_region 1 with fail
 rw [← hw1, ← hvb]
 clear hw1 hvb
 go_wp2_with fail
 refine HVC.out.mono ?_
 rintro e w2 ⟨rfl, hE2⟩
 obtain ⟨v0, v1, v2⟩ := cs_e3 hE2 ⟨v0, v1, v2⟩
 have HE2 := Lib.hid (HE1.out.trans hE2)
 clear hE2
 go_wp2_with fail
 refine (HC.out w2 HE2.out).mono ?_
 rintro e w3 ⟨rfl, hE3⟩
 have HE3 := Lib.hid (HE2.out.trans hE3)
 clear hE3
 go_wp2_with fail
 go_ret2
 exact ⟨rfl, HE3.out⟩
end
end Go.Proofs.YtfaienbdebjfcaaGreat
