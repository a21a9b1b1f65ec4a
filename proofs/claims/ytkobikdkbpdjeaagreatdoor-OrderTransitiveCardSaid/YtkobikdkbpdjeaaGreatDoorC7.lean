/- Contracts: the reference's order: right, wrong. -/
import Derived.Test.YtkobikdkbpdjeaaGreatDoorC6
namespace Go.Proofs.YtkobikdkbpdjeaaGreatDoor
open Go Go.RowKit
set_option linter.unusedVariables false
set_option linter.unusedSimpArgs false

theorem errL_get4 : ∀ {L : List Tm} {i : Nat} {t : Tm}, L[i]? = some t → errL L = 0 → errT t = 0
 | [], i, t, h, _ => by simp at h
 | x :: L, 0, t, h, he => by cases h; rw [errL] at he; exact (orE_zero.1 he).1
 | x :: L, i + 1, t, h, he => by rw [errL] at he; exact errL_get4 (L := L) (i := i) (by simpa using h) (orE_zero.1 he).2
theorem errT_kid4 {t x : Tm} {i : Nat} (h : errT t = 0) (hx : t.kids[i]? = some x) : errT x = 0 := by
 rw [errT_kids] at h
 exact errL_get4 hx (orE_zero.1 h).2
theorem errT_node4 {t : Tm} (h : errT t = 0) : ((t.kind = 1 ∨ t.kind = 2) ∧ 0 ≤ t.sort ∧ t.sort ≤ 5 ∧ t.kids = [] ∨ t.kind = 3 ∧ t.sort = 0) ∧ nameOk t.name = true ∧ t.kids.length ≤ 8 := by
 rw [errT_kids] at h
 have h1 := (orE_zero.1 h).1
 unfold nodeE at h1
 split at h1
 · omega
 · rename_i h2
   have h2 := Classical.not_not.1 h2
   split at h1
   · omega
   · rename_i h3
     split at h1
     · omega
     · rename_i h4
       refine ⟨?_, by simpa using h3, by omega⟩
       rcases h2 with ⟨a, b, c, d⟩ | h2
       · exact .inl ⟨a, b, c, List.length_eq_zero_iff.1 d⟩
       · exact .inr h2
theorem validT_iff4 {t : Tm} : validT t = 0 ↔ errT t = 0 ∧ sizeT t ≤ 400 ∧ depthT t ≤ 40 := by
 unfold validT
 rw [orE_zero]
 constructor
 · rintro ⟨h1, h2⟩
   split at h2
   · omega
   · exact ⟨h1, by omega, by omega⟩
 · rintro ⟨h1, h2, h3⟩
   exact ⟨h1, if_neg (by omega)⟩
/-- wrong places of names without weight, over a list -/
def wrongL (l : List ByteArray) (W : List Int) (L : List Tm) : Bool := (allL L).any (badT l W)
theorem wrongT_kids (l : List ByteArray) (W : List Int) (t : Tm) : wrongT l W t = (badT l W t || wrongL l W t.kids) := by
 unfold wrongT wrongL
 rw [allT_kids, List.any_cons]
theorem wrongL_tk {l : List ByteArray} {W : List Int} {L : List Tm} {k : Nat} {x : Tm} (h : L[k]? = some x) : wrongL l W (L.take (k + 1)) = (wrongL l W (L.take k) || wrongT l W x) := by
 have key : ∀ (A : List Tm) (x : Tm), allL (A ++ [x]) = allL A ++ allT x := by
  intro A x
  induction A with
  | nil => simp [allL]
  | cons y A ih => rw [List.cons_append, allL, allL, ih, List.append_assoc]
 unfold wrongL wrongT
 rw [List.take_add_one, h, Option.toList_some, key, List.any_append]
theorem wrongL_get : ∀ {l : List ByteArray} {W : List Int} {L : List Tm} {k : Nat} {x : Tm}, L[k]? = some x → wrongT l W x = true → wrongL l W L = true
 | _, _, [], _, _, h, _ => by simp at h
 | l, W, y :: L, 0, x, h, hx => by
   simp at h; subst h
   unfold wrongL; unfold wrongT at hx
   rw [allL, List.any_append, hx]; rfl
 | l, W, y :: L, k + 1, x, h, hx => by
   have := wrongL_get (l := l) (W := W) (L := L) (k := k) (x := x) (by simpa using h) hx
   unfold wrongL at this ⊢
   rw [allL, List.any_append, this, Bool.or_true]
theorem bad_valid {l : List ByteArray} {W : List Int} {t : Tm} (h : errT t = 0) : badT l W t = (decide (t.kind ≠ 1) && (decide (wAt l W t.name = 0) && decide (t.kids.length ≠ 1))) := by
 unfold badT
 rcases (errT_node4 h).1 with ⟨h1, -, -, h2⟩ | ⟨h1, -⟩
 · rw [h2]
   have : t.kind ≠ 3 := by omega
   simp [this]
 · rw [h1]; simp

set_option maxRecDepth 100000 in
set_option maxHeartbeats 4000000 in
theorem RWrong_any (n : Nat) : ∀ (w : World) (Sl Sw S : Nat → Prop) (v u a : Option Addr) (m vc q uc cap : Nat) (l : List ByteArray) (W : List Int) (t : Tm), sizeT t ≤ n → n ≤ 10000 → W.length = l.length → knT l t = true → errT t = 0 → LsG elS w Sl (.slice v m vc) l → LsG elI w Sw (.slice u q uc) W → TmW w S a cap t →
 Calls Tryz.prog 25 #[.slice v m vc, .slice u q uc, .agg #[.int .i64 t.kind, .string t.name, .int .i64 t.sort, .slice a t.kids.length cap]] w fun e w' => e = .returned (.bool (wrongT l W t)) ∧ Ext w w' := by
 induction n with
 | zero => intro w Sl Sw S v u a m vc q uc cap l W t hn; have := sizeT_kids t; omega
 | succ n ih =>
   intro w Sl Sw S v u a m vc q uc cap l W t hn hn2 hlen hkn her hL hI hT
   have hl := hT.len
   have hc := hT.cap
   unfold maxLen at hc
   obtain ⟨rfl, hul, huc⟩ := hI.len
   unfold maxLen at huc
   obtain ⟨bx, w1, hbbx, hwbx, HBbx, hEbx⟩ := box_new w (.cells #[.int .i64 t.kind, .string t.name, .int .i64 t.sort, .slice a t.kids.length cap] 24)
   obtain ⟨b0, b1, b2, b3⟩ := box4r (HBbx.out)
   have HT := Lib.hid (hT.ext hEbx)
   have HL := Lib.hid (hL.ext hEbx)
   have HI := Lib.hid (hI.ext hEbx)
   have HNM := Lib.hid hT.name
   have HE1 := Lib.hid hEbx
   have HK := Lib.hid (sizeT_kids t)
   have HN := Lib.hid hn
   have IH := Lib.hid ih
   have HLEN := Lib.hid hlen
   have HKN := Lib.hid hkn
   have HER := Lib.hid her
   have HBD := Lib.hid (bad_valid (l := l) (W := W) her)
   clear hT hL hI hn ih hEbx hlen hkn her
   obtain ⟨V, hV⟩ : ∃ V, V = wrongT l W t := ⟨_, rfl⟩
   rw [← hV]
   have hV2 : V = (decide (t.kind ≠ 1) && (decide (wAt l W t.name = 0) && decide (t.kids.length ≠ 1)) || wrongL l W t.kids) := by rw [hV, wrongT_kids, HBD.out]
   have HVE := Lib.hid hV2
   clear hV hV2
   go_enter Tryz.func25, Tryz.ntmps25
   go_upto_region 1 with fail
   rw [← hwbx, ← hbbx]
   clear hwbx hbbx
   by_cases hk1 : t.kind = 1
   · have HV2 : Hid (V = wrongL l W t.kids) := Lib.hid (by rw [HVE.out, hk1]; simp)
     rw [hk1] at b0
     clear hk1
     obtain ⟨w2, hw2⟩ : ∃ w2, w2 = w1 := ⟨_, rfl⟩
     go_upto_region 3 with fail
     rw [← hw2] at b0 b1 b2 b3 HT HL HI ⊢
     go_wp2_with fail
     have HE2 := Lib.hid (show Ext w1 w2 by rw [hw2]; exact Ext.refl _)
     clear hw2
     go_loopw [6, 7] (fun rv kv wr => ∃ k : Nat, kv = .int .i64 k ∧ k ≤ t.kids.length ∧ Hid (wrongL l W (t.kids.take k) = false) ∧ Hid (Ext w2 wr)) (fun rv kv _ => t.kids.length - (intOf kv).toNat)
     case atStart => exact ⟨0, rfl, by omega, Lib.hid (by simp [wrongL, allL]), Lib.hid (Ext.refl _)⟩
     case round =>
      obtain ⟨k, rfl, hk, HR, HE⟩ := hrel
      have b3 := cs_ext HE.out b3
      clear b0 b1 b2
      by_cases hlt : k < t.kids.length
      · obtain ⟨x, hx⟩ : ∃ x, t.kids[k]? = some x := ⟨_, List.getElem?_eq_getElem hlt⟩
        obtain ⟨xb, xo, xa, xc, rfl, x0, x1, x2, x3, hTx⟩ := (HT.out.ext HE.out).ts.at hx
        have hsx := sizeL_get hx
        have hcon := IH.out wr Sl Sw S v _ xa m vc W.length uc xc l W x (by have := HK.out; have := HN.out; omega) (by omega) HLEN.out (knT_kid HKN.out hx) (errT_kid4 HER.out hx) (HL.out.ext HE.out) (HI.out.ext HE.out) hTx
        have HF := Lib.hid (wrongL_tk (l := l) (W := W) hx)
        have HG := Lib.hid (wrongL_get (l := l) (W := W) hx)
        obtain ⟨y, hy⟩ : ∃ y, y = wrongT l W x := ⟨_, rfl⟩
        rw [← hy] at hcon HF HG
        have HCON := Lib.hid hcon
        clear hx hsx hTx hcon hy
        go_wp2_with fail
        refine HCON.out.mono ?_
        rintro e w3 ⟨rfl, hE3⟩
        have HE3 := Lib.hid (HE.out.trans hE3)
        clear hE3
        cases y with
        | false =>
          go_wp2_with fail
          go_roundw
          case rel => exact ⟨k + 1, by go_num, by omega, Lib.hid (by rw [HF.out, HR.out]; rfl), HE3⟩
          case measure => simp [intOf]; omega
        | true =>
          go_wp2_with fail
          go_ret
          refine ⟨?_, HE1.out.trans (HE2.out.trans HE3.out)⟩
          rw [HV2.out, (by first | exact HG.out rfl | exact HG.out trivial : wrongL l W t.kids = true)]
          rfl
      · go_wp2_with fail
        go_ret
        refine ⟨?_, HE1.out.trans (HE2.out.trans HE.out)⟩
        have h := HR.out
        rw [List.take_of_length_le (by omega)] at h
        rw [HV2.out, h]
        rfl
   · have hk2 : (t.kind != 1) = true := by simp [hk1]
     obtain ⟨r, hr, hrl, hwr⟩ := wAt_get HLEN.out (knT_name HKN.out hk1)
     have HAT := Lib.hid (at_any (s := t.name) HL.out HNM.out)
     rw [hr] at HAT
     obtain ⟨wb, wo, rfl, v0, -⟩ := HI.out.iAt hwr
     obtain ⟨va, hva⟩ : ∃ va : Int, va = wAt l W t.name := ⟨_, rfl⟩
     rw [← hva] at v0 HVE
     have r1 : (r : Int) < (W.length : Int) := by omega
     have r2 : (0 : Int) ≤ (r : Int) := by omega
     have HK1 := Lib.hid hk1
     clear hva hr hrl hwr hk1
     by_cases hv0 : va = 0
     · have hvb : (va == 0) = true := by simp [hv0]
       by_cases hl1 : t.kids.length = 1
       · have HV2 : Hid (V = wrongL l W t.kids) := Lib.hid (by rw [HVE.out, decide_eq_true hv0, hl1]; simp)
         have hlb : ((t.kids.length : Int) != 1) = false := by simp; omega
         clear hv0 hl1
         go_upto_region 3 with (go_at_call 43; refine HAT.out.mono ?_; rintro e w2 ⟨rfl, hE2⟩; have v0 := cs_ext hE2 v0; have b3 := cs_ext hE2 b3)
         clear hlb hvb
         have HT := Lib.hid (HT.out.ext hE2)
         have HL := Lib.hid (HL.out.ext hE2)
         have HI := Lib.hid (HI.out.ext hE2)
         have HE2 := Lib.hid hE2
         clear hE2 b0 b1 b2 hk2 v0 r1 r2
         have b0 := b3
         have b1 := b3
         have b2 := b3
         go_wp2_with fail
         go_loopw [6, 7] (fun rv kv wr => ∃ k : Nat, kv = .int .i64 k ∧ k ≤ t.kids.length ∧ Hid (wrongL l W (t.kids.take k) = false) ∧ Hid (Ext w2 wr)) (fun rv kv _ => t.kids.length - (intOf kv).toNat)
         case atStart => exact ⟨0, rfl, by omega, Lib.hid (by simp [wrongL, allL]), Lib.hid (Ext.refl _)⟩
         case round =>
          obtain ⟨k, rfl, hk, HR, HE⟩ := hrel
          have b3 := cs_ext HE.out b3
          clear b0 b1 b2
          by_cases hlt : k < t.kids.length
          · obtain ⟨x, hx⟩ : ∃ x, t.kids[k]? = some x := ⟨_, List.getElem?_eq_getElem hlt⟩
            obtain ⟨xb, xo, xa, xc, rfl, x0, x1, x2, x3, hTx⟩ := (HT.out.ext HE.out).ts.at hx
            have hsx := sizeL_get hx
            have hcon := IH.out wr Sl Sw S v _ xa m vc W.length uc xc l W x (by have := HK.out; have := HN.out; omega) (by omega) HLEN.out (knT_kid HKN.out hx) (errT_kid4 HER.out hx) (HL.out.ext HE.out) (HI.out.ext HE.out) hTx
            have HF := Lib.hid (wrongL_tk (l := l) (W := W) hx)
            have HG := Lib.hid (wrongL_get (l := l) (W := W) hx)
            obtain ⟨y, hy⟩ : ∃ y, y = wrongT l W x := ⟨_, rfl⟩
            rw [← hy] at hcon HF HG
            have HCON := Lib.hid hcon
            clear hx hsx hTx hcon hy
            go_wp2_with fail
            refine HCON.out.mono ?_
            rintro e w3 ⟨rfl, hE3⟩
            have HE3 := Lib.hid (HE.out.trans hE3)
            clear hE3
            cases y with
            | false =>
              go_wp2_with fail
              go_roundw
              case rel => exact ⟨k + 1, by go_num, by omega, Lib.hid (by rw [HF.out, HR.out]; rfl), HE3⟩
              case measure => simp [intOf]; omega
            | true =>
              go_wp2_with fail
              go_ret
              refine ⟨?_, HE1.out.trans (HE2.out.trans HE3.out)⟩
              rw [HV2.out, (by first | exact HG.out rfl | exact HG.out trivial : wrongL l W t.kids = true)]
              rfl
          · go_wp2_with fail
            go_ret
            refine ⟨?_, HE1.out.trans (HE2.out.trans HE.out)⟩
            have h := HR.out
            rw [List.take_of_length_le (by omega)] at h
            rw [HV2.out, h]
            rfl
       · have HV2 : Hid (V = true) := Lib.hid (by rw [HVE.out, decide_eq_true hv0, decide_eq_true hl1, decide_eq_true HK1.out]; rfl)
         have hlb : ((t.kids.length : Int) != 1) = true := by simp; omega
         clear hv0 hl1
         go_wp2_with (go_at_call 43; refine HAT.out.mono ?_; rintro e w2 ⟨rfl, hE2⟩; have v0 := cs_ext hE2 v0; have b3 := cs_ext hE2 b3)
         go_ret
         exact ⟨by rw [HV2.out]; rfl, HE1.out.trans hE2⟩
     · have HV2 : Hid (V = wrongL l W t.kids) := Lib.hid (by rw [HVE.out, decide_eq_false hv0]; simp)
       have hvb : (va == 0) = false := by simp [hv0]
       clear hv0
       go_upto_region 3 with (go_at_call 43; refine HAT.out.mono ?_; rintro e w2 ⟨rfl, hE2⟩; have v0 := cs_ext hE2 v0; have b3 := cs_ext hE2 b3)
       clear hvb
       have HT := Lib.hid (HT.out.ext hE2)
       have HL := Lib.hid (HL.out.ext hE2)
       have HI := Lib.hid (HI.out.ext hE2)
       have HE2 := Lib.hid hE2
       clear hE2 b0 b1 b2 hk2 v0 r1 r2
       have b0 := b3
       have b1 := b3
       have b2 := b3
       go_wp2_with fail
       go_loopw [6, 7] (fun rv kv wr => ∃ k : Nat, kv = .int .i64 k ∧ k ≤ t.kids.length ∧ Hid (wrongL l W (t.kids.take k) = false) ∧ Hid (Ext w2 wr)) (fun rv kv _ => t.kids.length - (intOf kv).toNat)
       case atStart => exact ⟨0, rfl, by omega, Lib.hid (by simp [wrongL, allL]), Lib.hid (Ext.refl _)⟩
       case round =>
        obtain ⟨k, rfl, hk, HR, HE⟩ := hrel
        have b3 := cs_ext HE.out b3
        clear b0 b1 b2
        by_cases hlt : k < t.kids.length
        · obtain ⟨x, hx⟩ : ∃ x, t.kids[k]? = some x := ⟨_, List.getElem?_eq_getElem hlt⟩
          obtain ⟨xb, xo, xa, xc, rfl, x0, x1, x2, x3, hTx⟩ := (HT.out.ext HE.out).ts.at hx
          have hsx := sizeL_get hx
          have hcon := IH.out wr Sl Sw S v _ xa m vc W.length uc xc l W x (by have := HK.out; have := HN.out; omega) (by omega) HLEN.out (knT_kid HKN.out hx) (errT_kid4 HER.out hx) (HL.out.ext HE.out) (HI.out.ext HE.out) hTx
          have HF := Lib.hid (wrongL_tk (l := l) (W := W) hx)
          have HG := Lib.hid (wrongL_get (l := l) (W := W) hx)
          obtain ⟨y, hy⟩ : ∃ y, y = wrongT l W x := ⟨_, rfl⟩
          rw [← hy] at hcon HF HG
          have HCON := Lib.hid hcon
          clear hx hsx hTx hcon hy
          go_wp2_with fail
          refine HCON.out.mono ?_
          rintro e w3 ⟨rfl, hE3⟩
          have HE3 := Lib.hid (HE.out.trans hE3)
          clear hE3
          cases y with
          | false =>
            go_wp2_with fail
            go_roundw
            case rel => exact ⟨k + 1, by go_num, by omega, Lib.hid (by rw [HF.out, HR.out]; rfl), HE3⟩
            case measure => simp [intOf]; omega
          | true =>
            go_wp2_with fail
            go_ret
            refine ⟨?_, HE1.out.trans (HE2.out.trans HE3.out)⟩
            rw [HV2.out, (by first | exact HG.out rfl | exact HG.out trivial : wrongL l W t.kids = true)]
            rfl
        · go_wp2_with fail
          go_ret
          refine ⟨?_, HE1.out.trans (HE2.out.trans HE.out)⟩
          have h := HR.out
          rw [List.take_of_length_le (by omega)] at h
          rw [HV2.out, h]
          rfl

set_option maxRecDepth 100000 in
set_option maxHeartbeats 4000000 in
theorem RRight_any4 {w : World} {Sl S S' : Nat → Prop} {v a a' : Option Addr} {m vc cap cap' : Nat} {l : List ByteArray} {s t : Tm} (hs6 : sizeT s ≤ 100000) (ht6 : sizeT t ≤ 100000) (hL : LsG elS w Sl (.slice v m vc) l) (hs : TmW w S a cap s) (ht : TmW w S' a' cap' t) :
 Calls Tryz.prog 24 #[.slice v m vc, .agg #[.int .i64 s.kind, .string s.name, .int .i64 s.sort, .slice a s.kids.length cap], .agg #[.int .i64 t.kind, .string t.name, .int .i64 t.sort, .slice a' t.kids.length cap']] w fun e w' => e = .returned (.int .i64 (termsE l s t)) ∧ Ext w w' := by
 have hsl := hs.len
 have hsc := hs.cap
 have htl := ht.len
 have htc := ht.cap
 unfold maxLen at hsc htc
 obtain ⟨bx, w0, hbbx, hwbx, HBbx, hEbx⟩ := box_new w (.cells #[.int .i64 s.kind, .string s.name, .int .i64 s.sort, .slice a s.kids.length cap] 24)
 obtain ⟨cx, w1, hbcx, hwcx, HBcx, hEcx⟩ := box_new w0 (.cells #[.int .i64 t.kind, .string t.name, .int .i64 t.sort, .slice a' t.kids.length cap'] 24)
 have hcx1 : cx = bx + 1 := by rw [hbcx, hwbx, World.size_alloc, hbbx]
 have HBX := Lib.hid (hs_ext hEcx HBbx.out)
 have hE1 := hEbx.trans hEcx
 obtain ⟨b0, b1, b2, b3⟩ := box4r (HBX.out)
 obtain ⟨c0, c1, c2, c3⟩ := box4r (HBcx.out)
 have HL := Lib.hid (hL.ext hE1)
 have HS := Lib.hid (hs.ext hE1)
 have HT := Lib.hid (ht.ext hE1)
 have HE := Lib.hid hE1
 obtain ⟨V, hV⟩ : ∃ V, V = termsE l s t := ⟨_, rfl⟩
 rw [← hV]
 unfold termsE at hV
 have H1 := Lib.hid (RValid_any (w := w1) (by omega) HS.out)
 have H2 := Lib.hid (fun (w' : World) (h : Ext w1 w') => RValid_any (w := w') (by omega) (HT.out.ext h))
 have H3 := Lib.hid (fun (w' : World) (h : Ext w1 w') => known_any 100000 w' Sl S v a m vc cap l s hs6 (by omega) (HL.out.ext h) (HS.out.ext h))
 have H4 := Lib.hid (fun (w' : World) (h : Ext w1 w') => known_any 100000 w' Sl S' v a' m vc cap' l t ht6 (by omega) (HL.out.ext h) (HT.out.ext h))
 obtain ⟨p, hp⟩ : ∃ p, p = validT s := ⟨_, rfl⟩
 obtain ⟨q, hq⟩ : ∃ q, q = validT t := ⟨_, rfl⟩
 obtain ⟨y, hy⟩ : ∃ y, y = knT l s := ⟨_, rfl⟩
 obtain ⟨z, hz⟩ : ∃ z, z = knT l t := ⟨_, rfl⟩
 rw [← hp] at H1 hV
 rw [← hq] at H2 hV
 rw [← hy] at H3 hV
 rw [← hz] at H4 hV
 have HVE := Lib.hid hV
 clear hV hp hq hy hz hE1 hEbx hEcx hL hs ht hs6 ht6
 go_enter Tryz.func24, Tryz.ntmps24
 go_upto_region 1 with fail
 rw [← hwbx, ← hbbx]
 clear hwbx hbbx
 rw [← hwcx, ← hcx1]
 clear hwcx hcx1 hbcx
 go_wp2_with fail
 refine H1.out.mono ?_
 rintro e w2 ⟨rfl, hE2⟩
 obtain ⟨b0, b1, b2, b3, c0, c1, c2, c3⟩ := cs_e8 hE2 ⟨b0, b1, b2, b3, c0, c1, c2, c3⟩
 have HE2 := Lib.hid hE2
 clear hE2
 by_cases hp0 : p = 0
 · subst hp0
   have HVE : Hid (V = orE q (if (y && z) = true then 0 else 4)) := Lib.hid (by rw [HVE.out]; rfl)
   go_wp2_with fail
   refine (H2.out _ HE2.out).mono ?_
   rintro e w3 ⟨rfl, hE3⟩
   obtain ⟨b0, b1, b2, b3, c0, c1, c2, c3⟩ := cs_e8 hE3 ⟨b0, b1, b2, b3, c0, c1, c2, c3⟩
   have HE3 := Lib.hid (HE2.out.trans hE3)
   clear hE3
   by_cases hq0 : q = 0
   · subst hq0
     have HVE : Hid (V = (if (y && z) = true then 0 else 4)) := Lib.hid (by rw [HVE.out]; rfl)
     go_wp2_with fail
     refine (H3.out _ HE3.out).mono ?_
     rintro e w4 ⟨rfl, hE4⟩
     obtain ⟨c0, c1, c2, c3⟩ := cs_e4 hE4 ⟨c0, c1, c2, c3⟩
     have HE4 := Lib.hid (HE3.out.trans hE4)
     clear hE4
     cases y with
     | false =>
       go_wp2_with fail
       go_ret
       exact ⟨by rw [HVE.out]; rfl, HE.out.trans HE4.out⟩
     | true =>
       go_wp2_with fail
       refine (H4.out _ HE4.out).mono ?_
       rintro e w5 ⟨rfl, hE5⟩
       cases z with
       | false =>
         go_wp2_with fail
         go_ret
         exact ⟨by rw [HVE.out]; rfl, HE.out.trans (HE4.out.trans hE5)⟩
       | true =>
         go_wp2_with fail
         go_ret
         exact ⟨by rw [HVE.out]; rfl, HE.out.trans (HE4.out.trans hE5)⟩
   · have hqb : (q == 0) = false := by simp [hq0]
     have HVE : Hid (V = q) := Lib.hid (by rw [HVE.out]; unfold orE; rw [if_neg hq0])
     go_wp2_with fail
     go_ret
     exact ⟨by rw [HVE.out]; rfl, HE.out.trans HE3.out⟩
 · have hpb : (p == 0) = false := by simp [hp0]
   have HVE : Hid (V = p) := Lib.hid (by rw [HVE.out]; unfold orE; rw [if_neg hp0])
   go_wp2_with fail
   go_ret
   exact ⟨by rw [HVE.out]; rfl, HE.out.trans HE2.out⟩
end Go.Proofs.YtkobikdkbpdjeaaGreatDoor
