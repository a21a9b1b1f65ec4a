/- Contracts: two terms in a forest; the verdict; the path order. -/
import Derived.Test.YtkobikdkbpdjeaaDoorBC
import Derived.Test.YtkobikdkbpdjeaaDoorB2
import Derived.Laws.EntriesVeiled
namespace Go.Proofs.YtkobikdkbpdjeaaDoor
open Go Go.RowKit
set_option linter.unusedVariables false
set_option linter.unusedSimpArgs false

/-- the error of two terms -/
def termsE (l : List ByteArray) (a b : Tm) : Int := orE (validT a) (orE (validT b) (if knT l a && knT l b then 0 else 4))

/-- two terms that lie in a list of at most a hundred terms -/
def Two4 (s t : Tm) : Prop := sizeT s ≤ 100 ∧ sizeT t ≤ 100 ∧ ∃ U : List Tm, U.length ≤ 100 ∧ (∀ x ∈ allT s, x ∈ U) ∧ ∀ x ∈ allT t, x ∈ U
theorem two_sum {s t : Tm} (h : sizeT s + sizeT t ≤ 100) : Two4 s t :=
 ⟨by omega, by omega, allT s ++ allT t, by rw [List.length_append, allT_len, allT_len]; exact h, fun x hx => List.mem_append.2 (.inl hx), fun x hx => List.mem_append.2 (.inr hx)⟩
theorem two_kid {s t : Tm} (h : sizeT s ≤ 100) (hk : t ∈ s.kids) : Two4 s t :=
 ⟨h, by have := size_kid hk; omega, allT s, by rw [allT_len]; exact h, fun x hx => hx, fun x hx => allT_kid hk hx⟩

set_option maxRecDepth 100000 in
set_option maxHeartbeats 8000000 in
theorem terms_any {w : World} {B fb ib mb : Nat} {l : List ByteArray} {lv nv : Value} {N : List Nd} {S : Nat → Prop} {a a' : Option Addr} {cap cap' : Nat} {s t : Tm} (hF : FW w B fb ib mb l lv nv N S) (hM : MapK encQ w mb 0 (fun _ => none)) (hl : l.length ≤ 100) (hN : ∃ U : List Tm, sizeT s ≤ 100 ∧ sizeT t ≤ 100 ∧ U.length ≤ 100 ∧ (∀ q ∈ N, q.t ∈ U) ∧ (∀ x ∈ allT s, x ∈ U) ∧ ∀ x ∈ allT t, x ∈ U) (hs : TmW w (fun c => c < B) a cap s) (ht : TmW w (fun c => c < B) a' cap' t) :
 Calls Tryd.prog 34 #[.pointer (some ⟨fb, 0, none⟩), .agg #[.int .i64 s.kind, .string s.name, .int .i64 s.sort, .slice a s.kids.length cap], .agg #[.int .i64 t.kind, .string t.name, .int .i64 t.sort, .slice a' t.kids.length cap']] w fun e w' => ∃ i k, e = .returned (.tuple #[.int .i64 i, .int .i64 k, .int .i64 (termsE l s t)]) ∧ Below B w w' ∧ (∀ c, c < w.heap.size → c ≠ fb → c ≠ ib → nv.ownBlock ≠ some c → w'.heap[c]? = w.heap[c]?) ∧
  (termsE l s t = 0 → ∃ (nv' : Value) (N' : List Nd) (S' : Nat → Prop) (m n : Nat) (x y : Nd), i = (m : Int) ∧ k = (n : Int) ∧ FW w' B fb ib mb l lv nv' N' S' ∧ PK w' mb l N' ∧ N'.length ≤ 100 ∧ N'[m]? = some x ∧ N'[n]? = some y ∧ x.t = s ∧ y.t = t ∧ ∀ q ∈ N', q ∈ N ∨ q.t ∈ allT s ∨ q.t ∈ allT t) := by
 have hnvB : ∀ g, nv.ownBlock = some g → B ≤ g := fun g hg => (hF.row.lt g hg).1
 have hsl := hs.len
 have hsc := hs.cap
 have htl := ht.len
 have htc := ht.cap
 unfold maxLen at hsc htc
 obtain ⟨bx, w1, hbbx, hwbx, HBbx, hEbx⟩ := box_new w (.cells #[.int .i64 s.kind, .string s.name, .int .i64 s.sort, .slice a s.kids.length cap] 38)
 obtain ⟨cx, w2, hbcx, hwcx, HBcx, hEcx⟩ := box_new w1 (.cells #[.int .i64 t.kind, .string t.name, .int .i64 t.sort, .slice a' t.kids.length cap'] 38)
 have hE2 := hEbx.trans hEcx
 have hcx1 : cx = bx + 1 := by rw [hbcx, hwbx, World.size_alloc, hbbx]
 have HBX := Lib.hid (hs_ext hEcx HBbx.out)
 have HE2 := Lib.hid hE2
 have HF2 := Lib.hid (hF.ext hE2)
 have HM2 := Lib.hid (hM.ext hE2)
 have HLOW := Lib.hid hF.low
 have HNV := Lib.hid hnvB
 have HNC := Lib.hid (show B ≤ w.heap.size ∧ w.heap.size ≤ bx ∧ w.heap.size ≤ cx ∧ fb < w.heap.size ∧ ib < w.heap.size ∧ mb < w.heap.size from ⟨hF.low.2.2.2.2, Nat.le_of_eq hbbx.symm, by rw [hbcx]; exact hEbx.size, hF.fbl, hF.ibl, hM.lt⟩)
 have HS := Lib.hid (hs.ext hE2)
 have HT := Lib.hid (ht.ext hE2)
 obtain ⟨U, hN⟩ := hN
 have HNN := Lib.hid hN
 obtain ⟨b0, b1, b2, b3⟩ := box4r HBX.out
 obtain ⟨c0, c1, c2, c3⟩ := box4r HBcx.out
 have HV1 := Lib.hid (PValid_any (w := w2) (by have := HNN.out; omega) HS.out)
 obtain ⟨v1, hv1⟩ : ∃ v1, v1 = validT s := ⟨_, rfl⟩
 obtain ⟨v2, hv2⟩ : ∃ v2, v2 = validT t := ⟨_, rfl⟩
 obtain ⟨E, hE⟩ : ∃ E, E = termsE l s t := ⟨_, rfl⟩
 rw [← hE]
 rw [← hv1] at HV1
 have HEE : Hid (E = orE v1 (orE v2 (if knT l s && knT l t then 0 else 4))) := Lib.hid (by rw [hE, hv1, hv2]; rfl)
 have HVV := Lib.hid (And.intro hv1 hv2)
 clear hF hM hN hs ht hnvB hE2 hEbx hEcx hv1 hv2 hE
 go_enter Tryd.func34, Tryd.ntmps34
 go_upto_region 1 with fail
 rw [← hwbx, ← hbbx]
 clear hwbx hbbx
 rw [← hwcx, ← hcx1]
 clear hwcx hcx1 hbcx
 go_wp2_with fail
 refine HV1.out.mono ?_
 rintro e w3 ⟨rfl, hE3⟩
 obtain ⟨b0, b1, b2, b3, c0, c1, c2, c3⟩ := cs_e8 hE3 ⟨b0, b1, b2, b3, c0, c1, c2, c3⟩
 have HS := Lib.hid (HS.out.ext hE3)
 have HT := Lib.hid (HT.out.ext hE3)
 have HF2 := Lib.hid (HF2.out.ext hE3)
 have HM2 := Lib.hid (HM2.out.ext hE3)
 have HE3 := Lib.hid (HE2.out.trans hE3)
 have HE23 := Lib.hid hE3
 clear hE3
 by_cases h1 : v1 = 0
 · have HQ1 := Lib.hid h1
   subst h1
   have HV2 := Lib.hid (PValid_any (w := w3) (by have := HNN.out; omega) HT.out)
   rw [← HVV.out.2] at HV2
   go_wp2_with fail
   refine HV2.out.mono ?_
   rintro e w4 ⟨rfl, hE4⟩
   obtain ⟨b0, b1, b2, b3, c0, c1, c2, c3⟩ := cs_e8 hE4 ⟨b0, b1, b2, b3, c0, c1, c2, c3⟩
   have HS := Lib.hid (HS.out.ext hE4)
   have HT := Lib.hid (HT.out.ext hE4)
   have HF2 := Lib.hid (HF2.out.ext hE4)
   have HM2 := Lib.hid (HM2.out.ext hE4)
   have HE4 := Lib.hid (HE3.out.trans hE4)
   have HBX4 := Lib.hid (hs_ext hE4 (hs_ext HE23.out HBX.out))
   have HCX4 := Lib.hid (hs_ext hE4 (hs_ext HE23.out HBcx.out))
   clear hE4
   by_cases h2 : v2 = 0
   · have HQ2 := Lib.hid h2
     subst h2
     have HTM1 := Lib.hid (tame_of_err (orE_zero.1 HVV.out.1.symm).1)
     have HTM2 := Lib.hid (tame_of_err (orE_zero.1 HVV.out.2.symm).1)
     have HA := Lib.hid (add_any _ w4 B fb ib mb l lv nv N S a cap s (Nat.le_refl _) HF2.out HM2.out.lt hl HTM1.out.1 ⟨U, HNN.out.1, HNN.out.2.2.1, HNN.out.2.2.2.1, HNN.out.2.2.2.2.1⟩ HS.out)
     go_wp2_with fail
     refine HA.out.mono ?_
     rintro e w5 ⟨i, ok, rfl, nv1, N1, S1, hF1, hfr1, hp1, hn1, hsb1, hok, hm1⟩
     have HSB1 := Lib.hid hsb1
     have hlow : ∀ c, c < w4.heap.size → w.heap.size ≤ c → (∃ cs, w4.heap[c]? = some (.cells cs 38)) → w5.heap[c]? = w4.heap[c]? := fun c hc hwc hcs => by
      have := HNC.out
      refine hfr1.block c hc (by omega) (by omega) (fun e => ?_)
      obtain ⟨cur, e1⟩ := HF2.out.row.block e
      obtain ⟨cs, e2⟩ := hcs
      rw [e1] at e2; simp at e2
     have HB5 : Hid (Below B w w5) := Lib.hid ((HE4.out.below HNC.out.1).trans (hfr1.outside HLOW.out.1 HLOW.out.2.1 (Nat.le_trans HNC.out.1 HE4.out.size) HNV.out))
     have hcx5 := (hlow cx (lt_of_get' HCX4.out) HNC.out.2.2.1 ⟨_, HCX4.out⟩).trans HCX4.out
     have HCX5 := Lib.hid hcx5
     have HT5 := Lib.hid (HT.out.keep (w' := w5) (S' := fun c => c < B) (fun c hc hlt => by
      have := HNC.out; have := HLOW.out
      exact hfr1.block c hlt (by omega) (by omega) (fun e => by have := HNV.out c e; omega)) (fun _ h _ => h))
     have HF5 := Lib.hid hF1
     have HFR5 := Lib.hid hfr1
     have hmb5 : w5.heap[mb]? = w4.heap[mb]? := by
      have := HNC.out
      have hlt := HM2.out.lt
      refine hfr1.block mb hlt (fun e => ?_) (fun e => HLOW.out.2.2.2.1 e.symm) (fun e => ?_)
      · obtain ⟨es, cl, h1, -⟩ := HM2.out
        rw [e, HF2.out.blk] at h1; simp at h1
      · obtain ⟨cur, e1⟩ := HF2.out.row.block e
        obtain ⟨es, cl, h1, -⟩ := HM2.out
        rw [h1] at e1; simp at e1
     have HM5 := Lib.hid (HM2.out.same hmb5)
     have HP1 := Lib.hid hp1
     have HN1 := Lib.hid hn1
     have HOK := Lib.hid hok
     have HME := Lib.hid hm1
     obtain ⟨c0, c1, c2, c3⟩ := box4r hcx5
     have HA2 := Lib.hid (add_any _ w5 B fb ib mb l lv nv1 N1 S1 a' cap' t (Nat.le_refl _) hF1 HM5.out.lt hl HTM2.out.1 ⟨U, HNN.out.2.1, HNN.out.2.2.1, fun q hq => (HSB1.out q hq).elim (HNN.out.2.2.2.1 q) (HNN.out.2.2.2.2.1 _), HNN.out.2.2.2.2.2⟩ HT5.out)
     clear hF1 hfr1 hp1 hn1 hsb1 hok hm1 hlow hcx5 hmb5
     go_wp2_with fail
     refine HA2.out.mono ?_
     rintro e w6 ⟨k, ok2, rfl, nv2, N2, S2, hF6, hfr6, hp6, hn6, hsb6, hok6, hm6⟩
     have HSB6 : Hid (∀ q ∈ N2, q ∈ N ∨ q.t ∈ allT s ∨ q.t ∈ allT t) := Lib.hid (fun q hq => by
      rcases hsb6 q hq with h | h
      · rcases HSB1.out q h with h | h
        · exact .inl h
        · exact .inr (.inl h)
      · exact .inr (.inr h))
     have hnv1 : ∀ g, nv1.ownBlock = some g → B ≤ g := fun g hg => (HF5.out.row.lt g hg).1
     have HB6 : Hid (Below B w w6) := Lib.hid (HB5.out.trans (hfr6.outside HLOW.out.1 HLOW.out.2.1 (Nat.le_trans HNC.out.1 HB5.out.size) hnv1))
     have HKP : Hid (∀ c, c < w.heap.size → c ≠ fb → c ≠ ib → nv.ownBlock ≠ some c → w6.heap[c]? = w.heap[c]?) := Lib.hid (fun c hc h1 h2 h3 => by
      have hs4 := HE4.out.size
      have hs5 := HFR5.out.size
      rw [hfr6.block c (by omega) h1 h2 (fun e => ?_), HFR5.out.block c (by omega) h1 h2 h3, HE4.out.block hc]
      rcases HFR5.out.own c e with e | e
      · exact h3 e
      · omega)
     have hmb6 : w6.heap[mb]? = w5.heap[mb]? := by
      refine hfr6.block mb HM5.out.lt (fun e => ?_) (fun e => HLOW.out.2.2.2.1 e.symm) (fun e => ?_)
      · obtain ⟨es, cl, h1, -⟩ := HM5.out
        rw [e, HF5.out.blk] at h1; simp at h1
      · obtain ⟨cur, e1⟩ := HF5.out.row.block e
        obtain ⟨es, cl, h1, -⟩ := HM5.out
        rw [h1] at e1; simp at e1
     have HP6 : Hid (PK w6 mb l N2) := Lib.hid (PK.none (HM5.out.same hmb6))
     have HF6 := Lib.hid hF6
     have HPX6 := Lib.hid hp6
     have HN6 := Lib.hid hn6
     have HOK6 := Lib.hid hok6
     have HME6 := Lib.hid hm6
     clear hnv1 hmb6 hF6 hfr6 hp6 hn6 hsb6 hok6 hm6
     have HEF : Hid (E = if ok && ok2 then 0 else 4) := Lib.hid (by rw [HEE.out, HOK.out, HOK6.out]; rfl)
     cases ok with
     | false =>
       go_wp2_with fail
       go_ret3
       refine ⟨0, 0, by rw [HEF.out]; rfl, HB6.out, HKP.out, fun h => ?_⟩
       rw [HEF.out] at h; simp at h
     | true =>
       cases ok2 with
       | false =>
         go_wp2_with fail
         go_ret3
         refine ⟨0, 0, by rw [HEF.out]; rfl, HB6.out, HKP.out, fun h => ?_⟩
         rw [HEF.out] at h; simp at h
       | true =>
         obtain ⟨m, x, rfl, hx, hxs⟩ := HME.out rfl
         obtain ⟨n, y, rfl, hy, hyt⟩ := HME6.out rfl
         have HXY := Lib.hid (And.intro (And.intro hx hxs) (And.intro hy hyt))
         clear hx hxs hy hyt
         go_wp2_with fail
         go_ret3
         refine ⟨_, _, by rw [HEF.out]; rfl, HB6.out, HKP.out, fun _ => ⟨nv2, N2, S2, m, n, x, y, rfl, rfl, HF6.out, HP6.out, Nat.le_trans (grown_len HF6.out.grown (fun q hq => (HSB6.out q hq).elim (HNN.out.2.2.2.1 q) (fun h => h.elim (HNN.out.2.2.2.2.1 _) (HNN.out.2.2.2.2.2 _)))) HNN.out.2.2.1, ?_, HXY.out.2.1, HXY.out.1.2, HXY.out.2.2, HSB6.out⟩⟩
         obtain ⟨R, hR⟩ := HPX6.out
         rw [← hR, List.getElem?_append_left (List.getElem?_eq_some_iff.1 HXY.out.1.1).1]
         exact HXY.out.1.1
   · go_wp2_with fail
     go_ret3
     have hEv : E = v2 := by rw [HEE.out]; simp [orE, h2]
     refine ⟨0, 0, by rw [hEv]; rfl, HE4.out.below HNC.out.1, fun c hc _ _ _ => HE4.out.block hc, fun h => ?_⟩
     rw [HEE.out] at h
     simp [orE, h2] at h
 · go_wp2_with fail
   go_ret3
   have hEv : E = v1 := by rw [HEE.out]; simp [orE, h1]
   refine ⟨0, 0, by rw [hEv]; rfl, HE3.out.below HNC.out.1, fun c hc _ _ _ => HE3.out.block hc, fun h => ?_⟩
   rw [HEE.out] at h
   simp [orE, h1] at h

set_option maxRecDepth 100000 in
set_option maxHeartbeats 4000000 in
theorem verdict_path {w : World} {B fb ib mb : Nat} {l : List ByteArray} {lv nv : Value} {N : List Nd} {S : Nat → Prop} {i k : Nat} {x y : Nd} (hF : FW w B fb ib mb l lv nv N S) (hP : PK w mb l N) (hN : N.length ≤ 100) (hx : N[i]? = some x) (hy : N[k]? = some y) :
 Calls Tryd.prog 35 #[.int .i64 i, .int .i64 k, .func (.func 36) #[.pointer (some ⟨fb, 0, none⟩)] #[]] w fun e w' => e = .returned (.int .i64 (vdt (path l) x.t y.t)) ∧ KFr w w' mb ∧ PK w' mb l N := by
 have hwf : ∀ z ∈ N, wfT z.t := fun z hz => hF.grown.wf _ z hz (Nat.le_refl _)
 have HC := Lib.hid (path_any _ w B fb ib mb l lv nv N S i k x y (Nat.le_refl _) hF hP hN hwf hx hy)
 have HD : Hid (∀ w1, KFr w w1 mb → PK w1 mb l N → Calls Tryd.prog 36 #[.pointer (some ⟨fb, 0, none⟩), .int .i64 k, .int .i64 i] w1 fun e w' => e = .returned (.bool (path l y.t x.t)) ∧ KFr w1 w' mb ∧ PK w' mb l N) := Lib.hid (fun w1 h1 h2 => path_any _ w1 B fb ib mb l lv nv N S k i y x (Nat.le_refl _) (hF.kfr hP h1) h2 hN hwf hy hx)
 have HIK : Hid (i = k ↔ x.t = y.t) := Lib.hid ⟨fun e => by subst e; rw [hx] at hy; cases hy; rfl, fun e => hF.grown.once i k x y hx hy e⟩
 obtain ⟨r, hr⟩ : ∃ r, r = path l x.t y.t := ⟨_, rfl⟩
 obtain ⟨q, hq⟩ : ∃ q, q = path l y.t x.t := ⟨_, rfl⟩
 obtain ⟨V, hV⟩ : ∃ V, V = vdt (path l) x.t y.t := ⟨_, rfl⟩
 rw [← hr] at HC
 rw [← hq] at HD
 rw [← hV]
 have HV : Hid (V = if x.t = y.t then 0 else if r then 1 else if q then -1 else 2) := Lib.hid (by rw [hV, hr, hq]; rfl)
 have HP := Lib.hid hP
 clear hF hP hx hy hwf hr hq hV
 go_enter Tryd.func35, Tryd.ntmps35
 by_cases hik : (i : Int) = (k : Int)
 · have HT := Lib.hid (HIK.out.1 (by omega))
   go_wp2_with fail
   go_ret
   exact ⟨by rw [HV.out, if_pos HT.out]; rfl, KFr.refl w, HP.out⟩
 · have HT : Hid (¬ x.t = y.t) := Lib.hid (fun e => hik (by rw [HIK.out.2 e]))
   go_wp2_with fail
   refine HC.out.mono ?_
   rintro e w1 ⟨rfl, k1, p1⟩
   have HK1 := Lib.hid k1
   have HP1 := Lib.hid p1
   clear k1 p1
   cases r with
   | true =>
     go_wp2_with fail
     go_ret
     exact ⟨by rw [HV.out, if_neg HT.out]; rfl, HK1.out, HP1.out⟩
   | false =>
     go_wp2_with fail
     refine (HD.out w1 HK1.out HP1.out).mono ?_
     rintro e w2 ⟨rfl, k2, p2⟩
     have HK2 := Lib.hid (HK1.out.trans k2)
     have HP2 := Lib.hid p2
     clear k2 p2
     cases q with
     | true =>
       go_wp2_with fail
       go_ret
       exact ⟨by rw [HV.out, if_neg HT.out]; rfl, HK2.out, HP2.out⟩
     | false =>
       go_wp2_with fail
       go_ret
       exact ⟨by rw [HV.out, if_neg HT.out]; rfl, HK2.out, HP2.out⟩

/-- the error of a comparison in the path order -/
def lpoE (l : List ByteArray) (a b : Tm) : Int := if precE l ≠ 0 then precE l else termsE l a b
/-- the path order's verdict, and the error -/
def lpoV (l : List ByteArray) (a b : Tm) : Int := if lpoE l a b ≠ 0 then 0 else vdt (path l) a b

set_option maxRecDepth 100000 in
set_option maxHeartbeats 8000000 in
theorem Lpo_two {w : World} {S Sa : Nat → Prop} {v a a' : Option Addr} {n vc cap cap' : Nat} {l : List ByteArray} {s t : Tm} (hW : Words w) (hL : LsG elS w S (.slice v n vc) l) (hS : ∀ c, S c → c < w.heap.size) (hSa : ∀ c, Sa c → c < w.heap.size) (hN : Two4 s t) (hs : TmW w Sa a cap s) (ht : TmW w Sa a' cap' t) :
 Calls Tryd.prog 22 #[.slice v n vc, .agg #[.int .i64 s.kind, .string s.name, .int .i64 s.sort, .slice a s.kids.length cap], .agg #[.int .i64 t.kind, .string t.name, .int .i64 t.sort, .slice a' t.kids.length cap']] w fun e w' => e = .returned (.tuple #[.int .i64 (lpoV l s t), .int .i64 (lpoE l s t)]) ∧ Ext w w' := by
 have hsl := hs.len
 have hsc := hs.cap
 have htl := ht.len
 have htc := ht.cap
 unfold maxLen at hsc htc
 obtain ⟨rfl, hvl, hvc⟩ := hL.len
 unfold maxLen at hvc
 obtain ⟨bx, w1, hbbx, hwbx, HBbx, hEbx⟩ := box_new w (.cells #[.int .i64 s.kind, .string s.name, .int .i64 s.sort, .slice a s.kids.length cap] 38)
 obtain ⟨cx, w2, hbcx, hwcx, HBcx, hEcx⟩ := box_new w1 (.cells #[.int .i64 t.kind, .string t.name, .int .i64 t.sort, .slice a' t.kids.length cap'] 38)
 have hE2 := hEbx.trans hEcx
 have hcx1 : cx = bx + 1 := by rw [hbcx, hwbx, World.size_alloc, hbbx]
 have HBX := Lib.hid (hs_ext hEcx HBbx.out)
 obtain ⟨b0, b1, b2, b3⟩ := box4r HBX.out
 obtain ⟨c0, c1, c2, c3⟩ := box4r HBcx.out
 have HE2 := Lib.hid hE2
 have HL := Lib.hid ((hL.wide (S' := fun c => c < w.heap.size) (fun c hc _ => hS c hc)).ext hE2)
 have HWS := Lib.hid (hW.ext hE2)
 have HS := Lib.hid ((hs.wide (S' := fun c => c < w.heap.size) (fun c hc _ => hSa c hc)).ext hE2)
 have HT := Lib.hid ((ht.wide (S' := fun c => c < w.heap.size) (fun c hc _ => hSa c hc)).ext hE2)
 have HNN := Lib.hid hN
 have HPR := Lib.hid (prec_any HWS.out HL.out)
 obtain ⟨p, hp⟩ : ∃ p, p = precE l := ⟨_, rfl⟩
 obtain ⟨E, hE⟩ : ∃ E, E = lpoE l s t := ⟨_, rfl⟩
 obtain ⟨V, hV⟩ : ∃ V, V = lpoV l s t := ⟨_, rfl⟩
 rw [← hE, ← hV]
 rw [← hp] at HPR
 have HEE : Hid (E = if p ≠ 0 then p else termsE l s t) := Lib.hid (by rw [hE, hp]; rfl)
 have HVV : Hid (V = if E ≠ 0 then 0 else vdt (path l) s t) := Lib.hid (by rw [hV, hE]; rfl)
 have HPE := Lib.hid hp
 clear hL hW hs ht hN hE2 hEbx hEcx hp hE hV
 go_enter Tryd.func22, Tryd.ntmps22
 go_upto_region 1 with fail
 rw [← hwbx, ← hbbx]
 clear hwbx hbbx
 rw [← hwcx, ← hcx1]
 clear hwcx hcx1 hbcx
 go_wp2_with fail
 refine HPR.out.mono ?_
 rintro e w3 ⟨rfl, hE3⟩
 obtain ⟨b0, b1, b2, b3, c0, c1, c2, c3⟩ := cs_e8 hE3 ⟨b0, b1, b2, b3, c0, c1, c2, c3⟩
 have HS := Lib.hid (HS.out.ext hE3)
 have HT := Lib.hid (HT.out.ext hE3)
 have HL := Lib.hid (HL.out.ext hE3)
 have HE3 := Lib.hid (HE2.out.trans hE3)
 clear hE3
 by_cases hp0 : p = 0
 · have hl40 : l.length ≤ 40 := by
    have h := HPE.out.symm.trans hp0
    unfold precE at h
    split at h
    · cases h
    · omega
   have HEE2 : Hid (E = termsE l s t) := Lib.hid (by rw [HEE.out, if_neg (by simp [hp0])])
   subst hp0
   have HSZ := Lib.hid HE3.out.size
   have HPL := Lib.hid (plant_any HL.out (fun c hc => Nat.lt_of_lt_of_le hc HSZ.out))
   go_wp2_with fail
   refine HPL.out.mono ?_
   rintro e w4 ⟨fb, ib, mb, rfl, hF4, hM4, hfm, hE4⟩
   obtain ⟨b0, b1, b2, b3, c0, c1, c2, c3⟩ := cs_e8 hE4 ⟨b0, b1, b2, b3, c0, c1, c2, c3⟩
   have HS := Lib.hid (HS.out.ext hE4)
   have HT := Lib.hid (HT.out.ext hE4)
   have HE4 := Lib.hid (HE3.out.trans hE4)
   have HF4 := Lib.hid hF4
   have HM4 := Lib.hid hM4
   have HTE := Lib.hid (terms_any hF4 hM4 (by omega) (by obtain ⟨h1, h2, U, h3, h4, h5⟩ := HNN.out; exact ⟨U, h1, h2, h3, by simp, h4, h5⟩) (HS.out.wide (fun c hc _ => Nat.lt_of_lt_of_le hc HSZ.out)) (HT.out.wide (fun c hc _ => Nat.lt_of_lt_of_le hc HSZ.out)))
   rw [← HEE2.out] at HTE
   clear hF4 hM4 hfm hE4
   go_wp2_with fail
   refine HTE.out.mono ?_
   rintro e w5 ⟨i, k, rfl, hB5, -, h5⟩
   have HB5 := Lib.hid hB5
   have H5 := Lib.hid h5
   clear hB5 h5
   by_cases hE0 : E = 0
   · obtain ⟨nv', N', S', m, n, x, y, rfl, rfl, hF5, hP5, hN5, hx, hy, hxs, hyt, -⟩ := H5.out hE0
     have HVV2 : Hid (V = vdt (path l) x.t y.t) := Lib.hid (by rw [HVV.out, if_neg (by simp [hE0]), hxs, hyt])
     have HVD := Lib.hid (verdict_path hF5 hP5 hN5 hx hy)
     rw [← HVV2.out] at HVD
     have HMB : Hid (w3.heap.size ≤ mb) := Lib.hid hF5.low.2.2.1
     have HBL : Hid (w3.heap.size ≤ w5.heap.size) := Lib.hid hF5.low.2.2.2.2
     have HE0 := Lib.hid hE0
     clear hF5 hP5 hN5 hx hy hxs hyt
     subst hE0
     go_wp2_with fail
     refine HVD.out.mono ?_
     rintro e w6 ⟨rfl, k6, p6⟩
     have HX6 : Hid (Ext w w6) := Lib.hid (Below.trans (Ext.below HE4.out (Nat.le_refl _)) (Below.trans (Below.mono HB5.out HE3.out.size) (Below.mono (k6.outside HBL.out HMB.out) HE3.out.size)))
     clear k6 p6
     go_wp2_with fail
     go_ret2
     exact ⟨rfl, HX6.out⟩
   · have HV0 : Hid (V = 0) := Lib.hid (by rw [HVV.out, if_pos hE0])
     go_wp2_with fail
     go_ret2
     exact ⟨by rw [HV0.out]; rfl, Below.trans (Ext.below HE4.out (Nat.le_refl _)) (Below.mono HB5.out HE3.out.size)⟩
 · have HEP : Hid (E = p) := Lib.hid (by rw [HEE.out, if_pos hp0])
   have HV0 : Hid (V = 0) := Lib.hid (by rw [HVV.out, HEP.out, if_pos hp0])
   go_wp2_with fail
   go_ret2
   exact ⟨by rw [HEP.out, HV0.out]; rfl, HE3.out⟩

theorem Lpo_any {w : World} {S Sa : Nat → Prop} {v a a' : Option Addr} {n vc cap cap' : Nat} {l : List ByteArray} {s t : Tm} (hW : Words w) (hL : LsG elS w S (.slice v n vc) l) (hS : ∀ c, S c → c < w.heap.size) (hSa : ∀ c, Sa c → c < w.heap.size) (hN : sizeT s + sizeT t ≤ 100) (hs : TmW w Sa a cap s) (ht : TmW w Sa a' cap' t) :
 Calls Tryd.prog 22 #[.slice v n vc, .agg #[.int .i64 s.kind, .string s.name, .int .i64 s.sort, .slice a s.kids.length cap], .agg #[.int .i64 t.kind, .string t.name, .int .i64 t.sort, .slice a' t.kids.length cap']] w fun e w' => e = .returned (.tuple #[.int .i64 (lpoV l s t), .int .i64 (lpoE l s t)]) ∧ Ext w w' :=
 Lpo_two hW hL hS hSa (two_sum hN) hs ht
end Go.Proofs.YtkobikdkbpdjeaaDoor
