/- The walk of the law TopPrefix. -/
import Derived.Test.YtfaienbdebjfcaaGreatGY
import Derived.Test.YtfaienbdebjfcaaGreatGI
namespace Go.Proofs.YtfaienbdebjfcaaGreat
open Go Go.RowKit
set_option linter.unusedVariables false
set_option linter.unusedSimpArgs false

theorem enc_size {t : List Fmt} (hv : validF t = 0) {k : Nat} {fm : Fmt} (hi : t[k]? = some fm) {X : List Vl} (hX : ValsF t fm.fields X) : (encFs t fm.fields X).length ≤ 12000 := by
 have h2 := encFs_len hv (fields_gd hv hi) hX
 have h3 := (valid_at hv hi).2.1
 omega
/-- what PrefixFree answers for a valid table -/
def PreR (t : List Fmt) (fm : Fmt) (s1 s2 : ByteArray) (er : Int) : Prop :=
 er = 3 ∨ (er = 0 ∧ ∃ X1 X2, ValsF t fm.fields X1 ∧ s1.data.toList = encFs t fm.fields X1 ∧ ValsF t fm.fields X2 ∧ s2.data.toList = encFs t fm.fields X2 ∧ s1.size < s2.size ∧ s2.size ≤ 12000 ∧ Lib.hasPrefix s2.data.toList s1.data.toList = true) ∨
 (er = 15 ∧ ∀ X, ValsF t fm.fields X → ∀ (j : Nat) f, fm.fields[j]? = some f → f.kind = 6 → f.low = f.high)
theorem pre_cases {t : List Fmt} (hv : validF t = 0) {k : Nat} {fm : Fmt} (hi : t[k]? = some fm) {s1 s2 : ByteArray} {er : Int} (h : BegR t k k true s1 s2 er) : PreR t fm s1 s2 er := by
 have hk := (List.getElem?_eq_some_iff.1 hi).1
 have hz := errS_in hv hk hk
 rcases h with ⟨h, -⟩ | ⟨-, i', j', fm', gm', e1, e2, h1, h2, hVf, hVg, hR⟩
 · exact absurd hz h
 · have e1' : k = i' := by omega
   have e2' : k = j' := by omega
   subst e1'
   subst e2'
   rw [hi] at h1 h2
   cases h1
   cases h2
   rcases hR with ⟨-, -, -, h3⟩ | ⟨L, Ws, hF, hL, hW, hC⟩
   · exact .inl h3
   · have hc : er = 0 ∨ er = 15 := by rcases hC with h | h; exact .inl h.1; exact .inr h.1
     rcases hc with rfl | rfl
     · refine .inr (.inl ⟨rfl, ?_⟩)
       obtain ⟨b1, b2, r, hr, e⟩ := pre_found hF hW hC
       obtain ⟨X1, x1, x2⟩ := bel_dec hVf b1
       obtain ⟨X2, x3, x4⟩ := bel_dec hVf b2
       have hl := congrArg List.length e
       rw [List.length_append, ba_len, ba_len] at hl
       have hp := List.length_pos_iff.2 hr
       refine ⟨X1, X2, x1, x2, x3, x4, by omega, ?_, ?_⟩
       · have := enc_size hv hi x3
         rw [← x4, ba_len] at this
         exact this
       · rw [e]
         unfold Lib.hasPrefix
         rw [List.isPrefixOf_iff_prefix]
         exact List.prefix_append _ _
     · refine .inr (.inr ⟨rfl, fun X hX j f hf h6 => ?_⟩)
       rcases hC with h | h
       · have := h.1; omega
       · exact safe_rest hv hi hF h.2.2.2 hX hf h6
theorem rest_pre {t : List Fmt} {fm : Fmt} {X : List Vl} (hX : ValsF t fm.fields X) (h : ∀ (j : Nat) f, fm.fields[j]? = some f → f.kind = 6 → f.low = f.high) {ed : Nat} : RestOk t fm.fields X 0 ed true := by
 intro j f x hf hx h6
 refine ⟨fun h => (Bool.noConfusion h), fun _ => ?_⟩
 have he := h j f hf h6
 rcases hX.2 j f x hf hx with (g | g | g | g | g) | g
 iterate 4 (exfalso; have := g.1; omega)
 · have := g.2.1; have := g.2.2.1; omega
 · exfalso; have := g.1; omega
theorem at_append {s r : ByteArray} {l : List UInt8} (h : s.data.toList = l) : AtU (s ++ r) 0 l := by
 have h1 : (s ++ r).data.toList = l ++ r.data.toList := by rw [← h]; simp
 exact (at_list h1).left
set_option maxRecDepth 100000 in
set_option maxHeartbeats 4000000 in
theorem law_prefix {w : World} {S S' : Nat → Prop} {da : Option Addr} {dc i j bc : Nat} {ba : Option Addr} {X : List (List Dr)} {C : List Nat} {rest : ByteArray} (hi : i < 256) (hj : j < 256) (hX : LsG elDL w S (.slice da X.length dc) X) (hC : LsE elY w S' (.slice ba C.length bc) C) :
 Calls Tryz.prog 4 #[.agg #[.slice da X.length dc, .int .u8 i, .int .u8 j, .slice ba C.length bc, .string rest]] w fun e w' => e = .returned (.bool true) ∧ Ext w w' := by
 obtain ⟨bx, w1, hbx, hw1, HBX, hE1⟩ := box_new w (.cells #[.slice da X.length dc, .int .u8 i, .int .u8 j, .slice ba C.length bc, .string rest] 25)
 have b0 : w1.cell? ⟨bx, 0, none⟩ = some (.slice da X.length dc) := by rw [cellc HBX.out]; rfl
 have b1 : w1.cell? ⟨bx, 1, none⟩ = some (.int .u8 i) := by rw [cellc HBX.out]; rfl
 have b2 : w1.cell? ⟨bx, 2, none⟩ = some (.int .u8 j) := by rw [cellc HBX.out]; rfl
 have b3 : w1.cell? ⟨bx, 3, none⟩ = some (.slice ba C.length bc) := by rw [cellc HBX.out]; rfl
 have b4 : w1.cell? ⟨bx, 4, none⟩ = some (.string rest) := by rw [cellc HBX.out]; rfl
 have HE1 := Lib.hid hE1
 have HTB := Lib.hid (table20_any (i := i) (j := j) (ba := ba) (bn := C.length) (bc := bc) (rest := rest) hi hj (hX.ext hE1))
 have HAW := Lib.hid (fun (w' : World) => awake20_any (w := w'))
 have HC := Lib.hid (hC.ext hE1)
 clear hX hE1 hC
 go_enter Tryz.func4, Tryz.ntmps4
 go_upto_region 1 with fail
 rw [← hw1, ← hbx]
 clear hw1 hbx
 go_wp2_with fail
 refine HTB.out.mono ?_
 rintro e w2 ⟨hE2, hcase⟩
 have HE2 := Lib.hid (HE1.out.trans hE2)
 have HC2 := Lib.hid (HC.out.ext hE2)
 have b3 := cs_ext hE2 b3
 have b4 := cs_ext hE2 b4
 clear hE2 b0 b1 b2
 rcases hcase with rfl | ⟨ta, tc, t, rfl, hL, hV, ht0, hbn, hrs⟩
 · clear b3 b4
   go_wp2_with fail
   refine (HAW.out _).mono ?_
   rintro e w3 ⟨rfl, hE3⟩
   have HE3 := Lib.hid (HE2.out.trans hE3)
   clear hE3
   go_wp2_with fail
   refine (HAW.out _).mono ?_
   rintro e w4 ⟨rfl, hE4⟩
   have HE4 := Lib.hid (HE3.out.trans hE4)
   clear hE4
   go_wp2_with fail
   go_ret
   exact ⟨rfl, HE4.out⟩
 · obtain ⟨k, hk⟩ : ∃ k, k = i % t.length := ⟨_, rfl⟩
   have hkl : k < t.length := by rw [hk]; exact Nat.mod_lt _ ht0
   rw [← hk]
   obtain ⟨fm, hfm⟩ : ∃ fm, t[k]? = some fm := ⟨_, List.getElem?_eq_getElem hkl⟩
   have HV := Lib.hid hV
   have HT := Lib.hid (tab_of hL)
   have HFM := Lib.hid hfm
   have HBN := Lib.hid hbn
   have HRS := Lib.hid hrs
   obtain ⟨-, htl, htc⟩ := hL.len
   unfold maxLen at htc
   have HTC : Hid (t.length ≤ tc ∧ tc ≤ 9223372036854775807) := Lib.hid ⟨htl, by omega⟩
   clear hk hV hL hkl hfm hbn ht0 hrs htl htc
   go_wp2_with fail
   refine (HAW.out _).mono ?_
   rintro e w3 ⟨rfl, hE3⟩
   have b3 := cs_ext hE3 b3
   have b4 := cs_ext hE3 b4
   have HPF := Lib.hid (PrefixFree_any (i := (k : Int)) (HT.out.ext (Nat.le_refl _) hE3) hE3.size HTC.out.1 HTC.out.2)
   have HE3 := Lib.hid (HE2.out.trans hE3)
   have HX3 := Lib.hid hE3
   clear hE3
   go_wp2_with fail
   refine HPF.out.mono ?_
   rintro e w4 ⟨s1, s2, er, rfl, hE4, hB⟩
   have b3 := cs_ext hE4 b3
   have b4 := cs_ext hE4 b4
   have hP := pre_cases HV.out HFM.out hB
   have HX4 := Lib.hid (HX3.out.trans hE4)
   clear hE4 hB
   rcases hP with rfl | ⟨rfl, X1, X2, hX1, e1, hX2, e2, hlt, hsz, hpre⟩ | ⟨rfl, hsafe⟩
   · clear b3 b4
     go_wp2_with fail
     go_ret
     exact ⟨rfl, HE2.out.trans HX4.out⟩
   · have HPR := Lib.hid hpre
     have HSZ : Hid (s1.size ≤ 100000 ∧ s2.size ≤ 100000) := Lib.hid ⟨by omega, by omega⟩
     have HD1 := Lib.hid (fun (w' : World) (hE : Ext w2 w') => Decode_val (w := w') (s := s1) HV.out (HT.out.ext (Nat.le_refl _) hE) hE.size HTC.out.1 HTC.out.2 HFM.out hX1 HSZ.out.1 e1)
     have HD2 := Lib.hid (fun (w' : World) (hE : Ext w2 w') => Decode_val (w := w') (s := s2) HV.out (HT.out.ext (Nat.le_refl _) hE) hE.size HTC.out.1 HTC.out.2 HFM.out hX2 HSZ.out.2 e2)
     have hlti : (s1.size : Int) < (s2.size : Int) := by omega
     clear b3 b4 e1 e2 hX1 hX2 hsz hpre hlt
     go_wp2_with fail
     refine (HD1.out w4 HX4.out).mono ?_
     rintro e w5 ⟨va, vc, rfl, hE5, -⟩
     obtain ⟨ub, w6, hub, hw6, -, hE6⟩ := box_new w5 (.cells #[.string ⟨#[]⟩, .int .i64 0, .slice va X1.length vc] 41)
     have HX6 := Lib.hid (HX4.out.trans (hE5.trans hE6))
     clear hE5 hE6
     go_upto_region 7 with fail
     rw [← hw6, ← hub]
     clear hw6 hub
     go_wp2_with fail
     refine (HD2.out w6 HX6.out).mono ?_
     rintro e w7 ⟨vb, vd, rfl, hE7, -⟩
     obtain ⟨ub2, w8, hub2, hw8, -, hE8⟩ := box_new w7 (.cells #[.string ⟨#[]⟩, .int .i64 0, .slice vb X2.length vd] 41)
     have HX8 := Lib.hid (HX6.out.trans (hE7.trans hE8))
     have HHP := Lib.hid (Tryz.strings_HasPrefix s2 s1 w8)
     rw [HPR.out] at HHP
     clear hE7 hE8
     go_upto_region 8 with fail
     rw [← hw8, ← hub2]
     clear hw8 hub2
     go_wp2_with fail
     refine HHP.out.mono ?_
     rintro e w9 ⟨rfl, rfl⟩
     go_wp2_with fail
     go_ret
     exact ⟨rfl, HE2.out.trans HX8.out⟩
   · have HSF := Lib.hid hsafe
     have HCL := Lib.hid (bClone_any (by have := HBN.out; omega) (HC2.out.ext HX4.out))
     clear hsafe
     go_wp2_with fail
     refine HCL.out.mono ?_
     rintro e w5 ⟨u, rfl, hE5, hU⟩
     obtain ⟨ua, uc, rfl, -, -⟩ := hU.slice
     have b4 := cs_ext hE5 b4
     have HX5 := Lib.hid (HX4.out.trans hE5)
     have HSM := Lib.hid (Sample_any HV.out (HT.out.ext (Nat.le_refl _) HX5.out) HX5.out.size HTC.out.1 HTC.out.2 HFM.out (by have := HBN.out; omega) hU.e)
     clear hE5 hU b3
     go_wp2_with fail
     refine HSM.out.mono ?_
     rintro e w6 ⟨Y, va, vc, rfl, hE6, hL6, hV6⟩
     obtain ⟨xb, w7, hxb, hw7, HXB, hE7⟩ := box_new w6 (.cells #[.string ⟨#[]⟩, .int .i64 0, .slice va Y.length vc] 41)
     obtain ⟨y0, y1, y2⟩ := box3r HXB.out
     have b4 := cs_ext (hE6.trans hE7) b4
     have HX7 := Lib.hid (HX5.out.trans (hE6.trans hE7))
     have hL7 := hL6.ext hE7
     have HEN := Lib.hid (cEncode_any HV.out (HT.out.ext (Nat.le_refl _) HX7.out) HX7.out.size HTC.out.1 HTC.out.2 HFM.out hL7 hV6)
     have HL7 := Lib.hid hL7
     have HYV := Lib.hid hV6
     obtain ⟨s, hs⟩ : ∃ s : ByteArray, s = ⟨(encFs t fm.fields Y).toArray⟩ := ⟨_, rfl⟩
     rw [← hs] at HEN
     have HSD : Hid (s.data.toList = encFs t fm.fields Y) := Lib.hid (by rw [hs])
     have hsl : s.size = (encFs t fm.fields Y).length := by rw [← HSD.out, ba_len]
     have hsz : s.size ≤ 12000 := by rw [hsl]; exact enc_size HV.out HFM.out hV6
     have hbd := encFs_bnd hV6
     rw [← hsl] at hbd
     have hjs : (s ++ rest).size = s.size + rest.size := by simp [ByteArray.size_append]
     have HPX := Lib.hid (fun (w' : World) (hE : Ext w2 w') => Prefix_val (w := w') (s := s ++ rest) HV.out (HT.out.ext (Nat.le_refl _) hE) hE.size HTC.out.1 HTC.out.2 HFM.out HYV.out (by rw [hjs]; have := HRS.out; omega) (at_append HSD.out) (rest_pre HYV.out (HSF.out Y HYV.out)))
     rw [← hsl] at HPX
     have HBD := Lib.hid (fun (w' : World) (hE : Ext w2 w') => Bounds_any (w := w') HV.out (HT.out.ext (Nat.le_refl _) hE) hE.size HTC.out.1 HTC.out.2 HFM.out)
     obtain ⟨lo, hlo⟩ : ∃ lo, lo = (bndT t fm.fields).1 := ⟨_, rfl⟩
     obtain ⟨hi, hhi⟩ : ∃ hi, hi = (bndT t fm.fields).2 := ⟨_, rfl⟩
     rw [← hlo, ← hhi] at HBD hbd
     obtain ⟨hb1, hb2⟩ := hbd
     have hcat : ¬ (9223372036854775807 < s.size + rest.size) := by have := HRS.out; omega
     have HSI : Hid (s.size = (encFs t fm.fields Y).length) := Lib.hid hsl
     clear hE6 hE7 hL6 hL7 hV6 hs hsl hsz hjs hlo hhi
     go_upto_region 12 with fail
     rw [← hw7, ← hxb]
     clear hw7 hxb
     go_wp2_with fail
     refine HEN.out.mono ?_
     rintro e w8 ⟨rfl, hE8⟩
     have b4 := cs_ext hE8 b4
     have y0 := cs_ext hE8 y0
     have y1 := cs_ext hE8 y1
     have y2 := cs_ext hE8 y2
     have HX8 := Lib.hid (HX7.out.trans hE8)
     have HY8 := Lib.hid (HL7.out.ext hE8)
     clear hE8
     go_wp2_with fail
     refine (HPX.out w8 HX8.out).mono ?_
     rintro e w9 ⟨pa, pc, rfl, hE9, hL9⟩
     obtain ⟨zb, w10, hzb, hw10, HZB, hE10⟩ := box_new w9 (.cells #[.string ⟨#[]⟩, .int .i64 0, .slice pa Y.length pc] 41)
     obtain ⟨z0, z1, z2⟩ := box3r HZB.out
     have y0 := cs_ext (hE9.trans hE10) y0
     have y1 := cs_ext (hE9.trans hE10) y1
     have y2 := cs_ext (hE9.trans hE10) y2
     have HX10 := Lib.hid (HX8.out.trans (hE9.trans hE10))
     have HY10 := Lib.hid (HY8.out.ext (hE9.trans hE10))
     have HZ10 := Lib.hid (hL9.ext hE10)
     clear hE9 hE10 hL9 b4
     go_upto_region 14 with fail
     rw [← hw10, ← hzb]
     clear hw10 hzb
     go_wp2_with fail
     refine (HBD.out w10 HX10.out).mono ?_
     rintro e w11 ⟨rfl, hE11⟩
     have HSC := Lib.hid (VSame_any (HZ10.out.ext hE11) (HY10.out.ext hE11))
     have y0 := cs_ext hE11 y0
     have y1 := cs_ext hE11 y1
     have y2 := cs_ext hE11 y2
     have z0 := cs_ext hE11 z0
     have z1 := cs_ext hE11 z1
     have z2 := cs_ext hE11 z2
     have HX11 := Lib.hid (HX10.out.trans hE11)
     clear hE11
     go_wp2_with fail
     refine HSC.out.mono ?_
     rintro e w12 ⟨rfl, hE12⟩
     have HX12 := Lib.hid (HX11.out.trans hE12)
     clear hE12
     go_wp2_with fail
     go_ret
     exact ⟨rfl, HE2.out.trans HX12.out⟩
end Go.Proofs.YtfaienbdebjfcaaGreat
