/- Contracts: the reference's order: known, right. -/
import Derived.Test.YtkobikdkbpdjeaaGreatDoorC3
import Derived.Test.YtkobikdkbpdjeaaGreatDoorG2
import Derived.Test.YtkobikdkbpdjeaaGreatDoorBD
namespace Go.Proofs.YtkobikdkbpdjeaaGreatDoor
open Go Go.RowKit
set_option linter.unusedVariables false
set_option linter.unusedSimpArgs false

theorem knL_tk {l : List ByteArray} {L : List Tm} {k : Nat} {x : Tm} (h : L[k]? = some x) : knL l (L.take (k + 1)) = (knL l (L.take k) && knT l x) := by
 have key : ∀ (A : List Tm) (x : Tm), knL l (A ++ [x]) = (knL l A && knT l x) := by
  intro A x
  induction A with
  | nil => simp [knL]
  | cons y A ih => rw [List.cons_append, knL, knL, ih, Bool.and_assoc]
 rw [List.take_add_one, h, Option.toList_some, key]
theorem knL_gt : ∀ {l : List ByteArray} {L : List Tm} {k : Nat} {x : Tm}, L[k]? = some x → knL l L = true → knT l x = true
 | _, [], _, _, h, _ => by simp at h
 | l, y :: L, 0, x, h, hL => by
   simp at h; subst h
   rw [knL, Bool.and_eq_true] at hL
   exact hL.1
 | l, y :: L, k + 1, x, h, hL => by
   rw [knL, Bool.and_eq_true] at hL
   exact knL_gt (by simpa using h) hL.2

set_option maxRecDepth 100000 in
set_option maxHeartbeats 4000000 in
theorem known_any (n : Nat) : ∀ (w : World) (Sl S : Nat → Prop) (v a : Option Addr) (m vc cap : Nat) (l : List ByteArray) (t : Tm), sizeT t ≤ n → n ≤ 400000 → LsG elS w Sl (.slice v m vc) l → TmW w S a cap t →
 Calls Tryz.prog 42 #[.slice v m vc, .agg #[.int .i64 t.kind, .string t.name, .int .i64 t.sort, .slice a t.kids.length cap]] w fun e w' => e = .returned (.bool (knT l t)) ∧ Ext w w' := by
 induction n with
 | zero => intro w Sl S v a m vc cap l t hn; have := sizeT_kids t; omega
 | succ n ih =>
   intro w Sl S v a m vc cap l t hn hn2 hL hT
   have hl := hT.len
   have hc := hT.cap
   unfold maxLen at hc
   obtain ⟨bx, w1, hbbx, hwbx, HBbx, hEbx⟩ := box_new w (.cells #[.int .i64 t.kind, .string t.name, .int .i64 t.sort, .slice a t.kids.length cap] 24)
   obtain ⟨b0, b1, b2, b3⟩ := box4r (HBbx.out)
   have HT := Lib.hid (hT.ext hEbx)
   have HL := Lib.hid (hL.ext hEbx)
   have HNM := Lib.hid hT.name
   have HE1 := Lib.hid hEbx
   have HK := Lib.hid (sizeT_kids t)
   have HN := Lib.hid hn
   have IH := Lib.hid ih
   clear hT hL hn ih hEbx
   obtain ⟨V, hV⟩ : ∃ V, V = knT l t := ⟨_, rfl⟩
   rw [← hV]
   rw [knT_kids] at hV
   have HVE := Lib.hid hV
   clear hV
   go_enter Tryz.func42, Tryz.ntmps42
   go_upto_region 1 with fail
   rw [← hwbx, ← hbbx]
   clear hwbx hbbx
   have HAT := Lib.hid (at_any (s := t.name) HL.out HNM.out)
   obtain ⟨r, hr⟩ : ∃ r, r = rnk l t.name := ⟨_, rfl⟩
   rw [← hr] at HAT HVE
   clear hr
   by_cases hk1 : t.kind = 1
   · have HV2 : Hid (V = knL l t.kids) := Lib.hid (by rw [HVE.out, hk1]; rfl)
     have HE2 := Lib.hid (Ext.refl w1)
     obtain ⟨w2, hw2⟩ : ∃ w2, w2 = w1 := ⟨_, rfl⟩
     rw [hk1] at b0
     go_upto_region 3 with fail
     rw [← hw2] at HE2 b3 HT HL ⊢
     rw [← hw2] at b0 b1 b2
     clear hk1
     go_wp2_with fail
     have HE2 := Lib.hid (show Ext w1 w2 by rw [hw2]; exact Ext.refl _)
     clear hw2
     go_loopw [4, 5] (fun rv kv wr => ∃ k : Nat, kv = .int .i64 k ∧ k ≤ t.kids.length ∧ Hid (knL l (t.kids.take k) = true) ∧ Hid (Ext w2 wr)) (fun rv kv _ => t.kids.length - (intOf kv).toNat)
     case atStart => exact ⟨0, rfl, by omega, Lib.hid (by simp [knL]), Lib.hid (Ext.refl _)⟩
     case round =>
      obtain ⟨k, rfl, hk, HR, HE⟩ := hrel
      have b3 := cs_ext HE.out b3
      clear b0 b1 b2
      by_cases hlt : k < t.kids.length
      · obtain ⟨x, hx⟩ : ∃ x, t.kids[k]? = some x := ⟨_, List.getElem?_eq_getElem hlt⟩
        obtain ⟨xb, xo, xa, xc, rfl, x0, x1, x2, x3, hTx⟩ := (HT.out.ext HE.out).ts.at hx
        have hsx := sizeL_get hx
        have hcon := IH.out wr Sl S v xa m vc xc l x (by have := HK.out; have := HN.out; omega) (by omega) (HL.out.ext HE.out) hTx
        have HF := Lib.hid (knL_tk (l := l) hx)
        have HG := Lib.hid (knL_gt (l := l) hx)
        obtain ⟨y, hy⟩ : ∃ y, y = knT l x := ⟨_, rfl⟩
        rw [← hy] at hcon HF HG
        have HCON := Lib.hid hcon
        clear hx hsx hTx hcon hy
        go_wp2_with fail
        refine HCON.out.mono ?_
        rintro e w3 ⟨rfl, hE3⟩
        have HE3 := Lib.hid (HE.out.trans hE3)
        clear hE3
        cases y with
        | true =>
          go_wp2_with fail
          go_roundw
          case rel => exact ⟨k + 1, by go_num, by omega, Lib.hid (by rw [HF.out, HR.out]; rfl), HE3⟩
          case measure => simp [intOf]; omega
        | false =>
          go_wp2_with fail
          go_ret
          refine ⟨?_, HE1.out.trans (HE2.out.trans HE3.out)⟩
          rw [HV2.out, show knL l t.kids = false from Bool.eq_false_iff.2 (fun h => Bool.noConfusion (HG.out h))]
          rfl
      · go_wp2_with fail
        go_ret
        refine ⟨?_, HE1.out.trans (HE2.out.trans HE.out)⟩
        have h := HR.out
        rw [List.take_of_length_le (by omega)] at h
        rw [HV2.out, h]
        rfl
   · have hk2 : (t.kind == 1) = false := by simp [hk1]
     by_cases hr0 : r < 0
     · have HV2 : Hid (V = false) := Lib.hid (by rw [HVE.out, decide_eq_false hk1, decide_eq_false (by omega)]; rfl)
       go_wp2_with (go_at_call 43; refine HAT.out.mono ?_; rintro e w2 ⟨rfl, hE2⟩)
       go_ret
       exact ⟨by rw [HV2.out]; rfl, HE1.out.trans hE2⟩
     · have HV2 : Hid (V = knL l t.kids) := Lib.hid (by rw [HVE.out, decide_eq_false hk1, decide_eq_true (by omega)]; rfl)
       go_upto_region 3 with (go_at_call 43; refine HAT.out.mono ?_; rintro e w2 ⟨rfl, hE2⟩)
       have b3 := cs_ext hE2 b3
       have HT := Lib.hid (HT.out.ext hE2)
       have HL := Lib.hid (HL.out.ext hE2)
       have HE2 := Lib.hid hE2
       clear hE2 b0 b1 b2 hk1 hk2 hr0
       have b0 := b3
       have b1 := b3
       have b2 := b3
       go_wp2_with fail
       go_loopw [4, 5] (fun rv kv wr => ∃ k : Nat, kv = .int .i64 k ∧ k ≤ t.kids.length ∧ Hid (knL l (t.kids.take k) = true) ∧ Hid (Ext w2 wr)) (fun rv kv _ => t.kids.length - (intOf kv).toNat)
       case atStart => exact ⟨0, rfl, by omega, Lib.hid (by simp [knL]), Lib.hid (Ext.refl _)⟩
       case round =>
        obtain ⟨k, rfl, hk, HR, HE⟩ := hrel
        have b3 := cs_ext HE.out b3
        clear b0 b1 b2
        by_cases hlt : k < t.kids.length
        · obtain ⟨x, hx⟩ : ∃ x, t.kids[k]? = some x := ⟨_, List.getElem?_eq_getElem hlt⟩
          obtain ⟨xb, xo, xa, xc, rfl, x0, x1, x2, x3, hTx⟩ := (HT.out.ext HE.out).ts.at hx
          have hsx := sizeL_get hx
          have hcon := IH.out wr Sl S v xa m vc xc l x (by have := HK.out; have := HN.out; omega) (by omega) (HL.out.ext HE.out) hTx
          have HF := Lib.hid (knL_tk (l := l) hx)
          have HG := Lib.hid (knL_gt (l := l) hx)
          obtain ⟨y, hy⟩ : ∃ y, y = knT l x := ⟨_, rfl⟩
          rw [← hy] at hcon HF HG
          have HCON := Lib.hid hcon
          clear hx hsx hTx hcon hy
          go_wp2_with fail
          refine HCON.out.mono ?_
          rintro e w3 ⟨rfl, hE3⟩
          have HE3 := Lib.hid (HE.out.trans hE3)
          clear hE3
          cases y with
          | true =>
            go_wp2_with fail
            go_roundw
            case rel => exact ⟨k + 1, by go_num, by omega, Lib.hid (by rw [HF.out, HR.out]; rfl), HE3⟩
            case measure => simp [intOf]; omega
          | false =>
            go_wp2_with fail
            go_ret
            refine ⟨?_, HE1.out.trans (HE2.out.trans HE3.out)⟩
            rw [HV2.out, show knL l t.kids = false from Bool.eq_false_iff.2 (fun h => Bool.noConfusion (HG.out h))]
            rfl
        · go_wp2_with fail
          go_ret
          refine ⟨?_, HE1.out.trans (HE2.out.trans HE.out)⟩
          have h := HR.out
          rw [List.take_of_length_le (by omega)] at h
          rw [HV2.out, h]
          rfl
end Go.Proofs.YtkobikdkbpdjeaaGreatDoor
