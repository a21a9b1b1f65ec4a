/- Contracts: the reference's substitutions: leaf, Fits, binding, Valid, Apply. Contracts: the reference's substitutions: binding, Valid, Apply. -/
import Derived.Test.YtpfnlbaloaohgaaH15
import Derived.Test.YtpfnlbaloaohgaaR13
import Derived.Test.YtpfnlbaloaohgaaH3
namespace Go.Proofs.Ytpfnlbaloaohgaa
open Go Go.RowKit
set_option linter.unusedVariables false
set_option linter.unusedSimpArgs false

def leafT (t : Tm) (s : Int) : Bool := ((t.kind == 1) || (t.kind == 2)) && (t.sort == s)
def fitB (x t : Tm) : Bool := (decide (validT x = 0) && ((x.kind == 1) && decide (validT t = 0))) && ((x.sort == 0) || leafT t x.sort)
/-- the error of a binding -/
def bndE (b : Tm × Tm) : Int := if validT b.1 ≠ 0 then validT b.1 else if b.1.kind ≠ 1 ∨ b.1 = b.2 then 1 else if validT b.2 ≠ 0 then validT b.2 else if fitB b.1 b.2 then 0 else 10
/-- a variable that does not come ahead of another one -/
def lateB (p : Option Tm) (x : Tm) : Bool := match p with | none => false | some y => decide (0 ≤ cmpT y x)
/-- the error of bindings behind one of a variable -/
def vldL : List (Tm × Tm) → Option Tm → Int
 | [], _ => 0
 | b :: l, p => if bndE b ≠ 0 then bndE b else if lateB p b.1 then 5 else vldL l (some b.1)
/-- the error of a substitution -/
def vldS (B : List (Tm × Tm)) : Int := if 200 < B.length then 3 else vldL B none
/-- a substitution applied -/
def applyS (B : List (Tm × Tm)) (t : Tm) : Int × Tm :=
 if vldS B ≠ 0 then (vldS B, zeroTm) else if validT t ≠ 0 then (validT t, zeroTm) else if validT (putG B t) ≠ 0 then (validT (putG B t), zeroTm) else (0, putG B t)
mutual
theorem putS_size {B : List (Tm × Tm)} (hB : ∀ b ∈ B, sizeT b.2 ≤ 400) : ∀ t : Tm, sizeT (putG B t) ≤ 400 * sizeT t
 | .mk k n s l => by
   rw [putG]
   split
   · have key : ∀ (C : List (Tm × Tm)) (x : Tm), (∀ b ∈ C, sizeT b.2 ≤ 400) → sizeT (getB C x) ≤ 400 * sizeT x := by
      intro C
      induction C with
      | nil => intro x _; rw [getB]; omega
      | cons b C ih =>
        intro x h
        rw [getB]
        split
        · have := h b (by simp); have := sizeT_kids x; omega
        · exact ih x (fun c hc => h c (by simp [hc]))
     exact key B _ hB
   · have := putSL_size hB l
     rw [sizeT, sizeT]; omega
theorem putSL_size {B : List (Tm × Tm)} (hB : ∀ b ∈ B, sizeT b.2 ≤ 400) : ∀ l : List Tm, sizeL (putGL B l) ≤ 400 * sizeL l
 | [] => by simp [putGL, sizeL]
 | t :: l => by
   have h1 := putS_size hB t
   have h2 := putSL_size hB l
   rw [putGL, sizeL, sizeL]; omega
end
theorem sizeT_valid' {t : Tm} (h : validT t = 0) : sizeT t ≤ 400 := (validT_iff.1 h).2.1
theorem bndE_good {b : Tm × Tm} (h : bndE b = 0) : validT b.1 = 0 ∧ validT b.2 = 0 ∧ isV b.1 ∧ fitsT b.1 b.2 = true := by
 unfold bndE at h
 split at h
 · rename_i h1; exact absurd h h1
 · rename_i h1
   have h1 := Classical.not_not.1 h1
   split at h
   · simp at h
   · rename_i h2
     split at h
     · rename_i h3; exact absurd h h3
     · rename_i h3
       split at h
       · rename_i h4
         have hk : b.1.kind = 1 := Classical.byContradiction (fun e => h2 (.inl e))
         refine ⟨h1, Classical.not_not.1 h3, isV_of (validT_iff.1 h1).1 hk, ?_⟩
         unfold fitB leafT at h4
         simp only [Bool.and_eq_true, Bool.or_eq_true, beq_iff_eq, decide_eq_true_eq] at h4
         rw [fitsT_iff]
         rcases h4.2 with e | ⟨e1, e2⟩
         · exact .inl e
         · exact .inr ⟨by omega, e2⟩
       · simp at h
theorem vldL_good : ∀ (B : List (Tm × Tm)) (p : Option Tm), vldL B p = 0 → ∀ b ∈ B, bndE b = 0
 | [], p, _, b, hb => by simp at hb
 | c :: B, p, h, b, hb => by
   rw [vldL] at h
   split at h
   · rename_i h1; exact absurd h h1
   · rename_i h1
     split at h
     · simp at h
     · rcases List.mem_cons.1 hb with e | e
       · subst e; exact Classical.not_not.1 h1
       · exact vldL_good B _ h b e
theorem vldS_good {B : List (Tm × Tm)} (h : vldS B = 0) : ∀ b ∈ B, bndE b = 0 := by
 unfold vldS at h
 split at h
 · simp at h
 · exact vldL_good B none h

set_option maxHeartbeats 1000000 in
theorem SVar_any {w : World} {n : ByteArray} {k : Int} (hn : n.size ≤ maxLen) (hk : I64 k) :
 Calls Try.prog 31 #[.string n, .int .i64 k] w fun e w' => e = .returned (.agg #[.int .i64 1, .string n, .int .i64 k, .slice none 0 0]) ∧ Ext w w' := by
 obtain ⟨g, w1, hgg, hw1, HG, hE1⟩ := box_new w (.cells #[.int .i64 0, .string ⟨#[]⟩, .int .i64 0, .slice none 0 0] 31)
 have HE1 := Lib.hid hE1
 have HGG := Lib.hid hgg
 clear hE1
 go_enter Try.func31, Try.ntmps31
 go_upto_region 1 with fail
 rw [← hw1, ← hgg]
 clear hw1 hgg
 go_wp2_with (first
  | (refine wpList_buildT rfl [_, _, _] rfl [(0, .int .i64 1), (1, .string n), (2, .int .i64 k)] rfl (built_ks _ _ _) ?_)
  | ((refine wpList_storeT rfl (.tmp 4) (.tmp 7) rfl (g := g) rfl (k := 1) (s := k) (n := n) (ka := none) (kl := 0) (kc := 0) rfl HG.out rfl ?_); intro w6 c6 q6 e6 z6
     have HG6 := Lib.hid c6
     have HE6 := Lib.hid (e6 w HE1.out (Nat.le_of_eq HGG.out.symm))
     clear c6 q6 e6 z6))
 exact ret_term (g := g) rfl rfl HG6.out rfl ⟨rfl, HE6.out⟩

set_option maxHeartbeats 2000000 in
theorem SLeaf_any {w : World} {a : Option Addr} {cap : Nat} {t : Tm} {s : Int} :
 Calls Try.prog 86 #[.agg #[.int .i64 t.kind, .string t.name, .int .i64 t.sort, .slice a t.kids.length cap], .int .i64 s] w fun e w' => e = .returned (.bool (leafT t s)) ∧ Ext w w' := by
 obtain ⟨bx, w1, hbbx, hwbx, HBbx, hEbx⟩ := box_new w (.cells #[.int .i64 t.kind, .string t.name, .int .i64 t.sort, .slice a t.kids.length cap] 31)
 obtain ⟨b0, b1, b2, b3⟩ := box4r (HBbx.out)
 have HE := Lib.hid hEbx
 clear hEbx
 unfold leafT
 go_enter Try.func86, Try.ntmps86
 go_upto_region 1 with fail
 rw [← hwbx, ← hbbx]
 clear hwbx hbbx
 by_cases h1 : t.kind = 1
 · have e1 : (t.kind == 1) = true := by simp [h1]
   clear h1
   go_wp2_with fail
   go_ret
   exact ⟨rb (by simp [e1]), HE.out⟩
 · have e1 : (t.kind == 1) = false := by simpa using h1
   clear h1
   by_cases h2 : t.kind = 2
   · have e2 : (t.kind == 2) = true := by simp [h2]
     clear h2
     go_wp2_with fail
     go_ret
     exact ⟨rb (by simp [e1, e2]), HE.out⟩
   · have e2 : (t.kind == 2) = false := by simpa using h2
     clear h2
     go_wp2_with fail
     go_ret
     exact ⟨rb (by simp [e1, e2]), HE.out⟩

set_option maxRecDepth 100000 in
set_option maxHeartbeats 4000000 in
theorem SFits_any {w : World} {S S' : Nat → Prop} {a a' : Option Addr} {cap cap' : Nat} {x t : Tm} (hx6 : sizeT x ≤ 1000000) (ht6 : sizeT t ≤ 1000000) (hX : TmW w S a cap x) (hT : TmW w S' a' cap' t) :
 Calls Try.prog 70 #[.agg #[.int .i64 x.kind, .string x.name, .int .i64 x.sort, .slice a x.kids.length cap], .agg #[.int .i64 t.kind, .string t.name, .int .i64 t.sort, .slice a' t.kids.length cap']] w fun e w' => e = .returned (.bool (fitB x t)) ∧ Ext w w' := by
 obtain ⟨bx, w1, hbbx, hwbx, HBbx, hEbx⟩ := box_new w (.cells #[.int .i64 x.kind, .string x.name, .int .i64 x.sort, .slice a x.kids.length cap] 31)
 obtain ⟨cx, w2, hbcx, hwcx, HBcx, hEcx⟩ := box_new w1 (.cells #[.int .i64 t.kind, .string t.name, .int .i64 t.sort, .slice a' t.kids.length cap'] 31)
 have hE := hEbx.trans hEcx
 obtain ⟨b0, b1, b2, b3⟩ := box4r (hs_ext hEcx HBbx.out)
 obtain ⟨c0, c1, c2, c3⟩ := box4r (HBcx.out)
 have HE := Lib.hid hE
 have hc1 := RValid_any (w := w2) hx6 (hX.ext hE)
 have hc2 := fun (w' : World) (h : Ext w2 w') => RValid_any (w := w') ht6 ((hT.ext hE).ext h)
 obtain ⟨o1, ho1⟩ : ∃ o, o = validT x := ⟨_, rfl⟩
 obtain ⟨o2, ho2⟩ : ∃ o, o = validT t := ⟨_, rfl⟩
 unfold fitB
 rw [← ho1, ← ho2]
 rw [← ho1] at hc1
 simp only [← ho2] at hc2
 have HC1 := Lib.hid hc1
 have HC2 := Lib.hid hc2
 have hs1 : w1.heap.size = bx + 1 := by rw [hwbx, hbbx, World.size_alloc]
 rw [hs1] at hbcx
 clear hX hT hx6 ht6 hEbx hEcx hE ho1 ho2 hc1 hc2
 go_enter Try.func70, Try.ntmps70
 go_upto_region 1 with fail
 rw [← hwbx, ← hbbx, ← hwcx]
 try rw [← hbcx]
 clear hwbx hbbx hwcx hbcx hs1
 go_wp2_with fail
 refine HC1.out.mono ?_
 rintro e w3 ⟨rfl, hE3⟩
 have HX3 := Lib.hid hE3
 obtain ⟨b0, b1, b2, b3, c0, c1, c2, c3⟩ := cs_e8 hE3 ⟨b0, b1, b2, b3, c0, c1, c2, c3⟩
 have HE := Lib.hid (HE.out.trans hE3)
 clear hE3
 by_cases h1 : o1 = 0
 · have e1 : (o1 != 0) = false := by simp [h1]
   by_cases hk : x.kind = 1
   · have ek : (x.kind != 1) = false := by simp [hk]
     have HK := Lib.hid (And.intro h1 hk)
     clear h1 hk
     go_wp2_with fail
     refine (HC2.out _ HX3.out).mono ?_
     rintro e w4 ⟨rfl, hE4⟩
     obtain ⟨b0, b1, b2, b3, c0, c1, c2, c3⟩ := cs_e8 hE4 ⟨b0, b1, b2, b3, c0, c1, c2, c3⟩
     have HE := Lib.hid (HE.out.trans hE4)
     clear hE4
     by_cases h2 : o2 = 0
     · have e2 : (o2 != 0) = false := by simp [h2]
       have H2 := Lib.hid h2
       clear h2
       by_cases hs : x.sort = 0
       · have es : (x.sort == 0) = true := by simp [hs]
         clear hs
         go_wp2_with fail
         go_ret
         exact ⟨rb (by rw [decide_eq_true HK.out.1, decide_eq_true H2.out]; simp [HK.out.2, es]), HE.out⟩
       · have es : (x.sort == 0) = false := by simpa using hs
         have HCL := Lib.hid (SLeaf_any (w := w4) (a := a') (cap := cap') (t := t) (s := x.sort))
         clear hs
         go_wp2_with fail
         refine HCL.out.mono ?_
         rintro e w5 ⟨rfl, hE5⟩
         have HE := Lib.hid (HE.out.trans hE5)
         clear hE5
         go_wp2_with fail
         go_ret
         exact ⟨rb (by rw [decide_eq_true HK.out.1, decide_eq_true H2.out]; simp [HK.out.2, es]), HE.out⟩
     · have e2 : (o2 != 0) = true := by simp [h2]
       have H2 := Lib.hid h2
       clear h2
       go_wp2_with fail
       go_ret
       exact ⟨rb (by rw [decide_eq_false H2.out]; simp), HE.out⟩
   · have ek : (x.kind != 1) = true := by simpa using hk
     have HK := Lib.hid hk
     clear h1 hk
     go_wp2_with fail
     go_ret
     exact ⟨rb (by simp [HK.out]), HE.out⟩
 · have e1 : (o1 != 0) = true := by simp [h1]
   have H1 := Lib.hid h1
   clear h1
   go_wp2_with fail
   go_ret
   exact ⟨rb (by rw [decide_eq_false H1.out]; simp), HE.out⟩

set_option maxRecDepth 100000 in
set_option maxHeartbeats 4000000 in
theorem SBinding_any {w : World} {S S' : Nat → Prop} {a a' : Option Addr} {cap cap' : Nat} {x t : Tm} (hx6 : sizeT x ≤ 1000000) (ht6 : sizeT t ≤ 1000000) (hX : TmW w S a cap x) (hT : TmW w S' a' cap' t) :
 Calls Try.prog 49 #[.agg #[.int .i64 x.kind, .string x.name, .int .i64 x.sort, .slice a x.kids.length cap, .int .i64 t.kind, .string t.name, .int .i64 t.sort, .slice a' t.kids.length cap']] w fun e w' => e = .returned (.int .i64 (bndE (x, t))) ∧ Ext w w' := by
 obtain ⟨bx, w1, hbbx, hwbx, HBbx, hEbx⟩ := box_new w (.cells #[.int .i64 x.kind, .string x.name, .int .i64 x.sort, .slice a x.kids.length cap, .int .i64 t.kind, .string t.name, .int .i64 t.sort, .slice a' t.kids.length cap'] 81)
 have b0 : w1.cell? ⟨bx, 0, none⟩ = some (.int .i64 x.kind) := by rw [cellc (HBbx.out)]; rfl
 have b1 : w1.cell? ⟨bx, 1, none⟩ = some (.string x.name) := by rw [cellc (HBbx.out)]; rfl
 have b2 : w1.cell? ⟨bx, 2, none⟩ = some (.int .i64 x.sort) := by rw [cellc (HBbx.out)]; rfl
 have b3 : w1.cell? ⟨bx, 3, none⟩ = some (.slice a x.kids.length cap) := by rw [cellc (HBbx.out)]; rfl
 have b4 : w1.cell? ⟨bx, 4, none⟩ = some (.int .i64 t.kind) := by rw [cellc (HBbx.out)]; rfl
 have b5 : w1.cell? ⟨bx, 5, none⟩ = some (.string t.name) := by rw [cellc (HBbx.out)]; rfl
 have b6 : w1.cell? ⟨bx, 6, none⟩ = some (.int .i64 t.sort) := by rw [cellc (HBbx.out)]; rfl
 have b7 : w1.cell? ⟨bx, 7, none⟩ = some (.slice a' t.kids.length cap') := by rw [cellc (HBbx.out)]; rfl
 have HE := Lib.hid hEbx
 have HCV := Lib.hid (fun (w' : World) (h : Ext w1 w') => RValid_any (w := w') hx6 ((hX.ext hEbx).ext h))
 have HCT := Lib.hid (fun (w' : World) (h : Ext w1 w') => RValid_any (w := w') ht6 ((hT.ext hEbx).ext h))
 have HCS := Lib.hid (fun (w' : World) (h : Ext w1 w') => RSame_any (w := w') hx6 ht6 ((hX.ext hEbx).ext h) ((hT.ext hEbx).ext h))
 have HCF := Lib.hid (fun (w' : World) (h : Ext w1 w') => SFits_any (w := w') hx6 ht6 ((hX.ext hEbx).ext h) ((hT.ext hEbx).ext h))
 obtain ⟨o1, ho1⟩ : ∃ o, o = validT x := ⟨_, rfl⟩
 obtain ⟨o2, ho2⟩ : ∃ o, o = validT t := ⟨_, rfl⟩
 obtain ⟨Z, hZ⟩ : ∃ Z, Z = bndE (x, t) := ⟨_, rfl⟩
 rw [← hZ]
 unfold bndE at hZ
 simp only [← ho1, ← ho2] at hZ HCV HCT
 have HZ := Lib.hid hZ
 obtain ⟨f, hf⟩ : ∃ f, f = fitB x t := ⟨_, rfl⟩
 obtain ⟨q, hq⟩ : ∃ q, q = decide (x = t) := ⟨_, rfl⟩
 simp only [← hf] at HCF HZ
 simp only [← hq] at HCS
 have HQ := Lib.hid hq
 clear hx6 ht6 hX hT hEbx ho1 ho2 hZ hf hq
 go_enter Try.func49, Try.ntmps49
 go_upto_region 1 with fail
 rw [← hwbx, ← hbbx]
 clear hwbx hbbx
 go_wp2_with fail
 refine (HCV.out _ (Ext.refl _)).mono ?_
 rintro e w2 ⟨rfl, hE2⟩
 have HX := Lib.hid hE2
 obtain ⟨b0, b1, b2, b3, b4, b5, b6, b7⟩ := cs_e8 hE2 ⟨b0, b1, b2, b3, b4, b5, b6, b7⟩
 have HE := Lib.hid (HE.out.trans hE2)
 clear hE2
 by_cases h1 : o1 = 0
 · have e1 : (o1 != 0) = false := by simp [h1]
   have H1 := Lib.hid h1
   clear h1
   by_cases hk : x.kind = 1
   · have ek : (x.kind != 1) = false := by simp [hk]
     have HK := Lib.hid hk
     clear hk
     go_wp2_with fail
     refine (HCS.out _ HX.out).mono ?_
     rintro e w3 ⟨rfl, hE3⟩
     have HX := Lib.hid (HX.out.trans hE3)
     obtain ⟨b0, b1, b2, b3, b4, b5, b6, b7⟩ := cs_e8 hE3 ⟨b0, b1, b2, b3, b4, b5, b6, b7⟩
     have HE := Lib.hid (HE.out.trans hE3)
     clear hE3
     cases q with
     | true =>
       have HF : Hid (Z = 1) := Lib.hid (by rw [HZ.out, if_neg (by simp [H1.out]), if_pos (.inr (of_decide_eq_true HQ.out.symm))])
       go_wp2_with fail
       go_ret
       exact ⟨by rw [HF.out]; rfl, HE.out⟩
     | false =>
       have HZ2 : Hid (Z = if o2 ≠ 0 then o2 else if f then 0 else 10) := Lib.hid (by rw [HZ.out, if_neg (by simp [H1.out]), if_neg (fun h => h.elim (fun h => h HK.out) (of_decide_eq_false HQ.out.symm))])
       go_wp2_with fail
       refine (HCT.out _ HX.out).mono ?_
       rintro e w4 ⟨rfl, hE4⟩
       have HX := Lib.hid (HX.out.trans hE4)
       obtain ⟨b0, b1, b2, b3, b4, b5, b6, b7⟩ := cs_e8 hE4 ⟨b0, b1, b2, b3, b4, b5, b6, b7⟩
       have HE := Lib.hid (HE.out.trans hE4)
       clear hE4
       by_cases h2 : o2 = 0
       · have e2 : (o2 != 0) = false := by simp [h2]
         have HZ3 : Hid (Z = if f then 0 else 10) := Lib.hid (by rw [HZ2.out, if_neg (by simp [h2])])
         clear h2
         go_wp2_with fail
         refine (HCF.out _ HX.out).mono ?_
         rintro e w5 ⟨rfl, hE5⟩
         have HE := Lib.hid (HE.out.trans hE5)
         clear hE5
         cases f with
         | true =>
           have HF : Hid (Z = 0) := Lib.hid (by rw [HZ3.out, if_pos rfl])
           go_wp2_with fail
           go_ret
           exact ⟨by rw [HF.out]; rfl, HE.out⟩
         | false =>
           have HF : Hid (Z = 10) := Lib.hid (by rw [HZ3.out, if_neg (by simp)])
           go_wp2_with fail
           go_ret
           exact ⟨by rw [HF.out]; rfl, HE.out⟩
       · have e2 : (o2 != 0) = true := by simp [h2]
         have HF : Hid (Z = o2) := Lib.hid (by rw [HZ2.out, if_pos h2])
         clear h2
         go_wp2_with fail
         go_ret
         exact ⟨by rw [HF.out]; rfl, HE.out⟩
   · have ek : (x.kind != 1) = true := by simpa using hk
     have HF : Hid (Z = 1) := Lib.hid (by rw [HZ.out, if_neg (by simp [H1.out]), if_pos (.inl hk)])
     clear hk
     go_wp2_with fail
     go_ret
     exact ⟨by rw [HF.out]; rfl, HE.out⟩
 · have e1 : (o1 != 0) = true := by simp [h1]
   have HF : Hid (Z = o1) := Lib.hid (by rw [HZ.out, if_pos h1])
   clear h1
   go_wp2_with fail
   go_ret
   exact ⟨by rw [HF.out]; rfl, HE.out⟩

end Go.Proofs.Ytpfnlbaloaohgaa
