/- Contracts: the weighted order. -/
import Derived.Test.YtkobikdkbpdjeaaDoorBG
namespace Go.Proofs.YtkobikdkbpdjeaaDoor
open Go Go.RowKit
set_option linter.unusedVariables false
set_option linter.unusedSimpArgs false

theorem light_eq (l : List ByteArray) (W : List Int) (t x : Tm) : lightT l W t x = (decide (t = x) || (decide (t.kind = 3) && decide (t.kids.length = 1) && decide (wAt l W t.name = 0) && lightL l W t.kids x)) := by cases t; rw [lightT]; rfl

set_option maxRecDepth 100000 in
set_option maxHeartbeats 8000000 in
theorem above_any {w : World} {B fb ib mb : Nat} {l : List ByteArray} {lv nv : Value} {N : List Nd} {S : Nat → Prop} {wa : Option Addr} {wc : Nat} {W : List Int} {i k : Nat} {x y : Nd} (hSW : SW w B fb ib mb l lv nv N S wa wc W) (hN : N.length ≤ 1000) (hx : N[i]? = some x) (hy : N[k]? = some y) :
 Calls Tryd.prog 51 #[.agg #[.pointer (some ⟨fb, 0, none⟩), .slice wa W.length wc], .int .i64 i, .int .i64 k] w fun e w' => e = .returned (.bool (lightT l W x.t y.t)) ∧ Ext w w' := by
 obtain ⟨na, nc, rfl, hn1, hn2⟩ := hSW.fw.row.slice
 unfold maxLen at hn2
 obtain ⟨-, hwl1, hwl2⟩ := hSW.ws.len
 unfold maxLen at hwl2
 obtain ⟨sx, w1, hsx, hw1, HB1, hE1⟩ := box_new w (.cells #[.pointer (some ⟨fb, 0, none⟩), .slice wa W.length wc] 60)
 have HSW := Lib.hid (hSW.ext hE1)
 have HE1 := Lib.hid hE1
 have HX := Lib.hid hx
 have HY := Lib.hid hy
 have HK : Hid (k < N.length) := Lib.hid (List.getElem?_eq_some_iff.1 hy).1
 obtain ⟨V, hV⟩ : ∃ V, V = lightT l W x.t y.t := ⟨_, rfl⟩
 rw [← hV]
 have HV := Lib.hid hV
 clear hSW hE1 hx hy hV
 go_enter Tryd.func51, Tryd.ntmps51
 go_upto_region 1 with fail
 rw [← hw1, ← hsx]
 clear hw1 hsx
 go_loopw [1] (fun iv wr => ∃ (m : Nat) (z : Nd), iv = .int .i64 m ∧ Hid (N[m]? = some z ∧ V = lightT l W z.t y.t) ∧ Hid (Ext w1 wr)) (fun iv _ => (intOf iv).toNat)
 case atStart => exact ⟨i, x, rfl, Lib.hid ⟨HX.out, HV.out⟩, Lib.hid (Ext.refl _)⟩
 case round =>
  obtain ⟨m, z, rfl, HZ, HE⟩ := hrel
  by_cases hmk : (m : Int) = (k : Int)
  · have HV1 : Hid (V = true) := Lib.hid (by
     have e : m = k := by omega
     have h1 := HZ.out.1
     rw [e, HY.out] at h1
     cases h1
     rw [HZ.out.2, light_eq]; simp)
    go_wp2_with fail
    go_ret
    exact ⟨by rw [HV1.out]; rfl, HE1.out.trans HE.out⟩
  · have HNE : Hid (z.t ≠ y.t) := Lib.hid (fun e => hmk (by rw [HSW.out.fw.grown.once m k z y HZ.out.1 HY.out e]))
    have f1 : wr.cell? ⟨fb, 1, none⟩ = some (.slice na N.length nc) := by rw [cellc (HSW.out.ext HE.out).fw.blk]; rfl
    have hb1 := hs_ext HE.out HB1.out
    have s0 : wr.cell? ⟨sx, 0, none⟩ = some (.pointer (some ⟨fb, 0, none⟩)) := by rw [cellc hb1]; rfl
    have s1 : wr.cell? ⟨sx, 1, none⟩ = some (.slice wa W.length wc) := by rw [cellc hb1]; rfl
    obtain ⟨nrb, nro, xa, xc, xk, xkc, rfl, x0, x1, x2, x3, x4, x5, -, hrI, hLx⟩ := (HSW.out.ext HE.out).fw.row.any.nAt HZ.out.1
    have hi := (List.getElem?_eq_some_iff.1 HZ.out.1).1
    have i1 : (m : Int) < (N.length : Int) := by omega
    have i2 : (0 : Int) ≤ (m : Int) := by omega
    obtain ⟨nb, w2, hnb, hw2, HB2, hE2⟩ := box_new wr (.cells #[.int .i64 0, .string ⟨#[]⟩, .int .i64 0, .slice none 0 0, .int .i64 0, .slice none 0 0] 67)
    have HE2 := Lib.hid hE2
    have HNB : Hid (nb = wr.heap.size) := Lib.hid hnb
    have HLX := Lib.hid hLx
    have hxkc := hLx.len.2
    unfold maxLen at hxkc
    have HXL := Lib.hid (HSW.out.fw.grown.len z (List.mem_of_getElem? HZ.out.1))
    clear hb1 hE2 hLx hi
    go_upto_region 3 with (
     rw [← hnb, ← hw2]
     refine wpList_storeN rfl (.tmp 7) (.tmp 18) rfl (g := nb) rfl (k := z.t.kind) (s := z.t.sort) (n := z.t.name) (ka := xa) (kl := z.t.kids.length) (kc := xc) (r := z.r) (ks := xk) (sl := z.ks.length) (sc := xkc) rfl HB2.out rfl ?_
     intro w3 c3 q3 e3 z3
     have HE3 := Lib.hid (e3 wr HE2.out (Nat.le_of_eq HNB.out.symm))
     obtain ⟨n0, n1, n2, n3, n4, n5⟩ := box6 c3
     clear c3 q3 e3 z3 hnb hw2)
    have s1 := cs_ext HE3.out s1
    have HE03 := Lib.hid (HE.out.trans HE3.out)
    clear s0 f1 x0 x1 x2 x3 x4 x5 i1 i2 hmk
    by_cases hk3 : z.t.kind = 3
    · have hne1 : z.t.kind ≠ 1 := by omega
      obtain ⟨r, hr, hrl, hwr⟩ := HSW.out.at (List.mem_of_getElem? HZ.out.1) hne1
      obtain ⟨wb, wo, rfl, v0, hvI⟩ := (HSW.out.ext HE03.out).ws.iAt hwr
      have r1 : (r : Int) < (W.length : Int) := by omega
      have r2 : (0 : Int) ≤ (r : Int) := by omega
      obtain ⟨va, hva⟩ : ∃ va, va = wAt l W z.t.name := ⟨_, rfl⟩
      rw [← hva] at v0
      rw [hr] at n4
      have HVE : Hid (V = (decide (z.ks.length = 1) && decide (va = 0) && lightL l W z.t.kids y.t)) := Lib.hid (by
       rw [HZ.out.2, light_eq, hva, HXL.out]
       simp [HNE.out, hk3])
      clear hr hrl hwr hvI hva hne1
      by_cases hv0 : va = 0
      · by_cases hl1 : z.ks.length = 1
        · obtain ⟨m0, hm0⟩ : ∃ m0, z.ks[0]? = some m0 := ⟨_, List.getElem?_eq_getElem (by omega)⟩
          obtain ⟨m', u, rfl, hmi, hu, huk⟩ := HSW.out.fw.grown.kid m z HZ.out.1 0 m0 hm0
          obtain ⟨kb, ko, rfl, c0, -⟩ := (HLX.out.ext HE3.out).iAt hm0
          rw [Nat.add_zero] at c0
          have HVU : Hid (V = lightT l W u.t y.t) := Lib.hid (by
           rw [HVE.out]
           have : z.t.kids = [u.t] := by
            have hlen : z.t.kids.length = 1 := by rw [← HXL.out]; exact hl1
            match h : z.t.kids, hlen with
            | [q], _ => rw [h] at huk; simp at huk; rw [huk]
           simp [hl1, hv0, this, lightL])
          have HU := Lib.hid hu
          clear hm0 hu huk
          go_wp2_with fail
          go_roundw
          case rel => exact ⟨m', u, rfl, Lib.hid ⟨HU.out, HVU.out⟩, HE03⟩
          case measure => simp [intOf]; omega
        · have HV0 : Hid (V = false) := Lib.hid (by rw [HVE.out]; simp [hl1])
          have hl2 : ¬ (z.ks.length : Int) = 1 := by omega
          go_wp2_with fail
          go_ret
          exact ⟨by rw [HV0.out]; rfl, HE1.out.trans HE03.out⟩
      · have HV0 : Hid (V = false) := Lib.hid (by rw [HVE.out]; simp [hv0])
        go_wp2_with fail
        go_ret
        exact ⟨by rw [HV0.out]; rfl, HE1.out.trans HE03.out⟩
    · have HV0 : Hid (V = false) := Lib.hid (by
       rw [HZ.out.2, light_eq]
       simp [HNE.out, hk3])
      go_wp2_with fail
      go_ret
      exact ⟨by rw [HV0.out]; rfl, HE1.out.trans HE03.out⟩

set_option maxRecDepth 100000 in
set_option maxHeartbeats 8000000 in
theorem heavier_any (n : Nat) : ∀ (w : World) (B fb ib mb : Nat) (l : List ByteArray) (lv nv : Value) (N : List Nd) (S : Nat → Prop) (wa : Option Addr) (wc : Nat) (W : List Int) (i k : Nat) (x y : Nd), sizeT x.t ≤ n → n ≤ 10000 → sizeT y.t ≤ 10000 → SW w B fb ib mb l lv nv N S wa wc W → N.length ≤ 1000 → N[i]? = some x → N[k]? = some y →
 Calls Tryd.prog 37 #[.agg #[.pointer (some ⟨fb, 0, none⟩), .slice wa W.length wc], .int .i64 i, .int .i64 k] w fun e w' => e = .returned (.bool (hv l W x.t y.t)) ∧ Ext w w' := by
 induction n with
 | zero => intro w B fb ib mb l lv nv N S wa wc W i k x y hn; have := sizeT_kids x.t; omega
 | succ n ih =>
   intro w B fb ib mb l lv nv N S wa wc W i k x y hn hn6 hy6 hSW hN hx hy
   obtain ⟨na, nc, rfl, hn1, hn2⟩ := hSW.fw.row.slice
   unfold maxLen at hn2
   obtain ⟨-, hwl1, hwl2⟩ := hSW.ws.len
   unfold maxLen at hwl2
   obtain ⟨sx, w1, hsx, hw1, HB1, hE1⟩ := box_new w (.cells #[.pointer (some ⟨fb, 0, none⟩), .slice wa W.length wc] 60)
   have HSW := Lib.hid (hSW.ext hE1)
   have f1 : w1.cell? ⟨fb, 1, none⟩ = some (.slice na N.length nc) := by rw [cellc HSW.out.fw.blk]; rfl
   have s0 : w1.cell? ⟨sx, 0, none⟩ = some (.pointer (some ⟨fb, 0, none⟩)) := by rw [cellc HB1.out]; rfl
   have s1 : w1.cell? ⟨sx, 1, none⟩ = some (.slice wa W.length wc) := by rw [cellc HB1.out]; rfl
   obtain ⟨nrb, nro, xa, xc, xk, xkc, rfl, x0, x1, x2, x3, x4, x5, -, hrI, hLx⟩ := HSW.out.fw.row.any.nAt hx
   obtain ⟨nrb', nro', ya, yc, yk, ykc, e, y0, y1, y2, y3, y4, y5, -, -, hLy⟩ := HSW.out.fw.row.any.nAt hy
   cases e
   have hi := (List.getElem?_eq_some_iff.1 hx).1
   have hk := (List.getElem?_eq_some_iff.1 hy).1
   have i1 : (i : Int) < (N.length : Int) := by omega
   have i2 : (0 : Int) ≤ (i : Int) := by omega
   have k1 : (k : Int) < (N.length : Int) := by omega
   have k2 : (0 : Int) ≤ (k : Int) := by omega
   have HE1 := Lib.hid hE1
   have HX := Lib.hid hx
   have HY := Lib.hid hy
   have HLX := Lib.hid hLx
   have HLY := Lib.hid hLy
   have hxkc := hLx.len.2
   have hykc := hLy.len.2
   unfold maxLen at hxkc hykc
   have HG := Lib.hid HSW.out.fw.grown
   have HIK : Hid (i = k ↔ x.t = y.t) := Lib.hid ⟨fun e => by subst e; rw [hx] at hy; cases hy; rfl, fun e => HG.out.once i k x y hx hy e⟩
   obtain ⟨V, hV⟩ : ∃ V, V = hv l W x.t y.t := ⟨_, rfl⟩
   rw [← hV]
   have HV0 : Hid (V = (decide (x.t ≠ y.t) && decide (x.t.kind ≠ 1) && cov x.t y.t && (if wgt l W x.t ≠ wgt l W y.t then decide (wgt l W y.t < wgt l W x.t) else if y.t.kind = 1 then lightT l W x.t y.t else if strong l x.t y.t ≠ 0 then decide (0 < strong l x.t y.t) else lexF (hv l W) x.t.kids y.t.kids))) := Lib.hid (by rw [hV, hv_eq])
   have HC := Lib.hid (covers_any HSW.out hN ⟨by omega, hy6⟩ hx hy)
   obtain ⟨cv, hcv⟩ : ∃ cv, cv = cov x.t y.t := ⟨_, rfl⟩
   rw [← hcv] at HC HV0
   clear hSW hE1 hx hy hLx hLy hi hk hV hcv
   go_enter Tryd.func37, Tryd.ntmps37
   go_upto_region 1 with fail
   rw [← hw1, ← hsx]
   clear hw1 hsx
   by_cases hik : (i : Int) = (k : Int)
   · obtain rfl : i = k := by omega
     have HV1 : Hid (V = false) := Lib.hid (by rw [HV0.out]; simp [HIK.out.1 rfl])
     clear hik
     go_wp2_with fail
     go_ret
     exact ⟨by rw [HV1.out]; rfl, HE1.out⟩
   · have HNE : Hid (x.t ≠ y.t) := Lib.hid (fun e => hik (by rw [HIK.out.2 e]))
     by_cases hk1 : x.t.kind = 1
     · have HV1 : Hid (V = false) := Lib.hid (by rw [HV0.out]; simp [hk1])
       go_wp2_with fail
       go_ret
       exact ⟨by rw [HV1.out]; rfl, HE1.out⟩
     · have HV2 : Hid (V = (cv && (if wgt l W x.t ≠ wgt l W y.t then decide (wgt l W y.t < wgt l W x.t) else if y.t.kind = 1 then lightT l W x.t y.t else if strong l x.t y.t ≠ 0 then decide (0 < strong l x.t y.t) else lexF (hv l W) x.t.kids y.t.kids))) := Lib.hid (by rw [HV0.out]; simp [HNE.out, hk1])
       have hd1 : (x.t.kind == 1) = false := by simp [hk1]
       have hd2 : ((i : Int) == (k : Int)) = false := by simpa using hik
       have hd3 : ((i : Int) == (k : Int) || x.t.kind == 1) = false := by rw [hd1, hd2]; rfl
       go_wp2_with fail
       refine HC.out.mono ?_
       rintro e w2 ⟨rfl, hE2⟩
       obtain ⟨f1, s0, s1, x0, x1, x2, x3, x4, x5, y0, y1, y2, y3, y4, y5⟩ := cs_e15 hE2 ⟨f1, s0, s1, x0, x1, x2, x3, x4, x5, y0, y1, y2, y3, y4, y5⟩
       have HE2 := Lib.hid hE2
       have HSW2 := Lib.hid (HSW.out.ext hE2)
       clear hE2
       cases cv with
       | false =>
         have HV1 : Hid (V = false) := Lib.hid (by rw [HV2.out]; rfl)
         go_wp2_with fail
         go_ret
         exact ⟨by rw [HV1.out]; rfl, HE1.out.trans HE2.out⟩
       | true =>
         obtain ⟨a, ha⟩ : ∃ a, a = wgt l W x.t := ⟨_, rfl⟩
         obtain ⟨b, hb⟩ : ∃ b, b = wgt l W y.t := ⟨_, rfl⟩
         have HW1 := Lib.hid (fun (w' : World) (h : Ext w2 w') => weight_any _ w' B fb ib mb l lv _ N S wa wc W i x (Nat.le_refl _) (by omega) (HSW2.out.ext h) hN HX.out)
         have HW2 := Lib.hid (fun (w' : World) (h : Ext w2 w') => weight_any _ w' B fb ib mb l lv _ N S wa wc W k y (Nat.le_refl _) (by omega) (HSW2.out.ext h) hN HY.out)
         rw [← ha] at HW1 HV2
         rw [← hb] at HW2 HV2
         have HV3 : Hid (V = (if a ≠ b then decide (b < a) else if y.t.kind = 1 then lightT l W x.t y.t else if strong l x.t y.t ≠ 0 then decide (0 < strong l x.t y.t) else lexF (hv l W) x.t.kids y.t.kids)) := Lib.hid (by rw [HV2.out]; rfl)
         clear ha hb hk1
         go_upto_region 3 with fail
         have HFCT := Lib.hid (And.intro s0 s1)
         refine wp_region_reg 8 false (by kernel_rfl) (by kernel_rfl) ?_
         refine reg_value (fun _ => rfl) ?_ (fun g w' vs hM hE hP => ?_) ?_
         rotate_left
         · (clear hP hM; have ⟨z0, z1⟩ := cs_e2 hE HFCT.out; go_simp; first | done | rfl)
         refine reg_value (fun _ => rfl) ?_ (fun g w' vs hM hE hP => ?_) ?_
         rotate_left
         · (clear hP hM; have ⟨z0, z1⟩ := cs_e2 hE HFCT.out; go_simp; first | done | rfl)
         refine reg_const (fun _ => rfl) 50 ?_ (fun g w' vs hM hE hP => ?_) ?_
         rotate_left
         · (clear hP hM; have ⟨z0, z1⟩ := cs_e2 hE HFCT.out; go_simp; first | done | exact ⟨rfl, rfl⟩ | rfl)
         apply Exists.intro
         refine And.intro (fun g w' vs hM hE hP => ?_) ?_
         · exact HW1.out _ hE
         refine reg_value (fun _ => rfl) ?_ (fun g w' vs hM hE hP => ?_) ?_
         rotate_left
         · (clear hP hM; have ⟨z0, z1⟩ := cs_e2 hE HFCT.out; go_simp; first | done | rfl)
         refine reg_value (fun _ => rfl) ?_ (fun g w' vs hM hE hP => ?_) ?_
         rotate_left
         · (clear hP hM; have ⟨z0, z1⟩ := cs_e2 hE HFCT.out; go_simp; first | done | rfl)
         refine reg_const (fun _ => rfl) 50 ?_ (fun g w' vs hM hE hP => ?_) ?_
         rotate_left
         · (clear hP hM; have ⟨z0, z1⟩ := cs_e2 hE HFCT.out; go_simp; first | done | exact ⟨rfl, rfl⟩ | rfl)
         apply Exists.intro
         refine And.intro (fun g w' vs hM hE hP => ?_) ?_
         · exact HW2.out _ hE
         refine reg_value (fun _ => rfl) ?_ (fun g w' vs hM hE hP => ?_) ?_
         rotate_left
         · (clear hP hM; have ⟨z0, z1⟩ := cs_e2 hE HFCT.out; go_simp; first | done | rfl)
         refine reg_value (fun _ => rfl) ?_ (fun g w' vs hM hE hP => ?_) ?_
         rotate_left
         · (clear hP hM; have ⟨z0, z1⟩ := cs_e2 hE HFCT.out; go_simp; first | done | rfl)
         intro g w3 hE3 hF3 hQ3
         simp only [List.drop_succ_cons, List.drop_zero, Act.put, List.setIfInBounds_toArray, List.set_cons_succ, List.set_cons_zero]
         obtain ⟨f1, s0, s1, x0, x1, x2, x3, x4, x5, y0, y1, y2, y3, y4, y5⟩ := cs_e15 hE3 ⟨f1, s0, s1, x0, x1, x2, x3, x4, x5, y0, y1, y2, y3, y4, y5⟩
         have HE3 := Lib.hid (HE2.out.trans hE3)
         have HSW3 := Lib.hid (HSW2.out.ext hE3)
         clear hE3 hF3 hQ3
         by_cases hab : a = b
         · have HV4 : Hid (V = (if y.t.kind = 1 then lightT l W x.t y.t else if strong l x.t y.t ≠ 0 then decide (0 < strong l x.t y.t) else lexF (hv l W) x.t.kids y.t.kids)) := Lib.hid (by rw [HV3.out, if_neg (by simp [hab])])
           by_cases hy1 : y.t.kind = 1
           · have HAB := Lib.hid (above_any HSW3.out hN HX.out HY.out)
             have HV5 : Hid (V = lightT l W x.t y.t) := Lib.hid (by rw [HV4.out, if_pos hy1])
             rw [← HV5.out] at HAB
             go_wp2_with fail
             refine HAB.out.mono ?_
             rintro e w4 ⟨rfl, hE4⟩
             have HE4 := Lib.hid (HE3.out.trans hE4)
             clear hE4
             go_wp2_with fail
             go_ret
             exact ⟨rfl, HE1.out.trans HE4.out⟩
           · obtain ⟨c, hc⟩ : ∃ c, c = strong l x.t y.t := ⟨_, rfl⟩
             have HS := Lib.hid (stronger_any HSW3.out.fw hN HX.out HY.out)
             rw [← hc] at HS HV4
             have HV5 : Hid (V = (if c ≠ 0 then decide (0 < c) else lexF (hv l W) x.t.kids y.t.kids)) := Lib.hid (by rw [HV4.out, if_neg hy1])
             have HCC := Lib.hid hc
             have hd4 : (y.t.kind == 1) = false := by simp [hy1]
             have hd5 : (a != b) = false := by simp [hab]
             clear hc
             go_upto_region 8 with fail
             go_wp2_with fail
             refine HS.out.mono ?_
             rintro e w4 ⟨rfl, hE4⟩
             obtain ⟨f1, s0, s1, x0, x1, x2, x3, x4, x5, y0, y1, y2, y3, y4, y5⟩ := cs_e15 hE4 ⟨f1, s0, s1, x0, x1, x2, x3, x4, x5, y0, y1, y2, y3, y4, y5⟩
             have HE4 := Lib.hid (HE3.out.trans hE4)
             have HSW4 := Lib.hid (HSW3.out.ext hE4)
             have HE14 := Lib.hid hE4
             clear hE4
             by_cases hc0 : c = 0
             · have HV6 : Hid (V = lexF (hv l W) x.t.kids y.t.kids) := Lib.hid (by rw [HV5.out, if_neg (by simp [hc0])])
               have hlen := (strong_zero (HCC.out.symm.trans hc0)).2.2.2
               have HLEN : Hid (x.ks.length = y.ks.length) := Lib.hid (by rw [HG.out.len x (List.mem_of_getElem? HX.out), HG.out.len y (List.mem_of_getElem? HY.out), hlen])
               have HXL := Lib.hid (HG.out.len x (List.mem_of_getElem? HX.out))
               have hd6 : (c != 0) = false := by simp [hc0]
               have HE24 : Hid (Ext w1 w4) := Lib.hid HE4.out
               clear hlen hd1 hd2 hd3
               go_upto_region 11 with fail
               clear hc0 hy1 hab hd4 hd5 hd6
               go_wp2_with fail
               go_loopw [82] (fun kv wr => ∃ j : Nat, kv = .int .i64 j ∧ j ≤ x.ks.length ∧ Hid (Ext w4 wr ∧ lexF (hv l W) x.t.kids y.t.kids = lexF (hv l W) (x.t.kids.drop j) (y.t.kids.drop j))) (fun kv _ => x.ks.length - (intOf kv).toNat)
               case atStart => exact ⟨0, rfl, by omega, Lib.hid ⟨Ext.refl _, by simp⟩⟩
               case round =>
                obtain ⟨j, rfl, hj, HR⟩ := hrel
                by_cases hlt : j < x.ks.length
                · have f1 := cs_ext HR.out.1 f1
                  have s0 := cs_ext HR.out.1 s0
                  have s1 := cs_ext HR.out.1 s1
                  have y5 := cs_ext HR.out.1 y5
                  obtain ⟨m0, hm0⟩ : ∃ m0, x.ks[j]? = some m0 := ⟨_, List.getElem?_eq_getElem hlt⟩
                  obtain ⟨m, z, rfl, hmi, hz, hzk⟩ := HG.out.kid i x HX.out j m0 hm0
                  obtain ⟨n0, hn0⟩ : ∃ n0, y.ks[j]? = some n0 := ⟨_, List.getElem?_eq_getElem (by have := HLEN.out; omega)⟩
                  obtain ⟨m', z', rfl, hmi', hz', hzk'⟩ := HG.out.kid k y HY.out j n0 hn0
                  obtain ⟨kb, ko, rfl, c0, -⟩ := ((HLX.out.ext HE24.out).ext HR.out.1).iAt hm0
                  obtain ⟨kb', ko', rfl, d0, -⟩ := ((HLY.out.ext HE24.out).ext HR.out.1).iAt hn0
                  have hsz := size_kid (List.mem_of_getElem? hzk)
                  have hsz' := size_kid (List.mem_of_getElem? hzk')
                  have HCR := Lib.hid (ih wr B fb ib mb l lv _ N S wa wc W m m' z z' (by omega) (by omega) (by omega) (HSW4.out.ext HR.out.1) hN hz hz')
                  have HLEX : Hid (lexF (hv l W) (x.t.kids.drop j) (y.t.kids.drop j) = if z.t = z'.t then lexF (hv l W) (x.t.kids.drop (j + 1)) (y.t.kids.drop (j + 1)) else hv l W z.t z'.t) := Lib.hid (by
                   rw [List.drop_eq_getElem_cons (List.getElem?_eq_some_iff.1 hzk).1, List.drop_eq_getElem_cons (List.getElem?_eq_some_iff.1 hzk').1, (List.getElem?_eq_some_iff.1 hzk).2, (List.getElem?_eq_some_iff.1 hzk').2, lexF])
                  have hj1 : (j : Int) < (y.ks.length : Int) := by have := HLEN.out; omega
                  have hj2 : (0 : Int) ≤ (j : Int) := by omega
                  have HMM : Hid (m = m' ↔ z.t = z'.t) := Lib.hid ⟨fun e => by subst e; rw [hz] at hz'; cases hz'; rfl, fun e => HG.out.once m m' z z' hz hz' e⟩
                  obtain ⟨r, hr⟩ : ∃ r, r = hv l W z.t z'.t := ⟨_, rfl⟩
                  rw [← hr] at HCR HLEX
                  clear hm0 hn0 hz hz' hzk hzk' hsz hsz' hmi hmi' hr
                  by_cases hmm : (m : Int) = (m' : Int)
                  · have HT : Hid (z.t = z'.t) := Lib.hid (HMM.out.1 (by omega))
                    go_wp2_with fail
                    go_roundw
                    case rel => exact ⟨j + 1, by go_num, by omega, Lib.hid ⟨HR.out.1, by rw [HR.out.2, HLEX.out, if_pos HT.out]⟩⟩
                    case measure => simp [intOf]; omega
                  · have HT : Hid (¬ z.t = z'.t) := Lib.hid (fun e => hmm (by rw [HMM.out.2 e]))
                    have HV7 : Hid (V = r) := Lib.hid (by rw [HV6.out, HR.out.2, HLEX.out, if_neg HT.out])
                    go_wp2_with fail
                    refine HCR.out.mono ?_
                    rintro e w5 ⟨rfl, hE5⟩
                    have HE5 := Lib.hid (HR.out.1.trans hE5)
                    clear hE5
                    go_wp2_with fail
                    go_ret
                    exact ⟨by rw [HV7.out]; rfl, (HE1.out.trans HE4.out).trans HE5.out⟩
                · have hje : j = x.ks.length := by omega
                  have HV7 : Hid (V = false) := Lib.hid (by
                   rw [HV6.out, HR.out.2, hje, HXL.out, List.drop_length]; simp [lexF])
                  subst hje
                  go_wp2_with fail
                  go_ret
                  exact ⟨by rw [HV7.out]; rfl, (HE1.out.trans HE4.out).trans HR.out.1⟩
             · have HV6 : Hid (V = decide (0 < c)) := Lib.hid (by rw [HV5.out, if_pos hc0])
               go_wp2_with fail
               go_ret
               exact ⟨by rw [HV6.out]; rfl, HE1.out.trans HE4.out⟩
         · have HV4 : Hid (V = decide (b < a)) := Lib.hid (by rw [HV3.out, if_pos hab])
           go_wp2_with fail
           go_ret
           exact ⟨by rw [HV4.out]; rfl, HE1.out.trans HE3.out⟩

end Go.Proofs.YtkobikdkbpdjeaaDoor
