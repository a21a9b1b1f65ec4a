/- Contracts: comparison in the weighted order. -/
import Derived.Test.YtkobikdkbpdjeaaDoorBH
namespace Go.Proofs.YtkobikdkbpdjeaaDoor
open Go Go.RowKit
set_option linter.unusedVariables false
set_option linter.unusedSimpArgs false

theorem admR_rng : ∀ (W : List Int) (n i : Nat), admR n i W = 0 → ∀ v ∈ W, 0 ≤ v ∧ v ≤ 1000
 | [], _, _, _, v, h => by simp at h
 | x :: W, n, i, h, v, hv => by
   rw [admR] at h
   split at h
   · cases h
   · rename_i hx
     rcases List.mem_cons.1 hv with rfl | hv
     · omega
     · exact admR_rng W n (i + 1) h v hv
theorem adm_ok {l : List ByteArray} {W : List Int} (h : admE l W = 0) : precE l = 0 ∧ W.length = l.length ∧ (∀ v ∈ W, 0 ≤ v ∧ v ≤ 1000) ∧ l.length ≤ 40 := by
 unfold admE at h
 split at h
 · exact absurd h (by assumption)
 · rename_i h1
   have h1 := Classical.not_not.1 h1
   split at h
   · cases h
   · rename_i h2
     refine ⟨h1, by omega, admR_rng _ _ _ h, ?_⟩
     unfold precE at h1
     split at h1
     · cases h1
     · omega
/-- a name without weight at another place than above one kid -/
def badT (l : List ByteArray) (W : List Int) (t : Tm) : Bool := decide (t.kind ≠ 1) && decide (wAt l W t.name = 0) && (decide (t.kind ≠ 3) || decide (t.kids.length ≠ 1))
def wrongT (l : List ByteArray) (W : List Int) (t : Tm) : Bool := (allT t).any (badT l W)
mutual
theorem all_sub {l : List ByteArray} {N : List Nd} (hG : Grown l N) {v : Tm} : ∀ (t : Tm) (i : Nat) (x : Nd), N[i]? = some x → x.t = t → v ∈ allT t → ∃ (m : Nat) (z : Nd), N[m]? = some z ∧ z.t = v
 | .mk k n s ks, i, x, hx, hxt, hv => by
   rw [allT] at hv
   rcases List.mem_cons.1 hv with hv | hv
   · exact ⟨i, x, hx, by rw [hxt, hv]⟩
   · refine all_subL hG ks (fun u hu => ?_) hv
     obtain ⟨j, hj⟩ := List.mem_iff_getElem?.1 hu
     have hl := hG.len x (List.mem_of_getElem? hx)
     have hk : x.t.kids = ks := by rw [hxt]; rfl
     have hjl := (List.getElem?_eq_some_iff.1 hj).1
     have hjx : j < x.ks.length := by rw [hl, hk]; exact hjl
     obtain ⟨m, y, -, -, hy, hyk⟩ := hG.kid i x hx j x.ks[j] (List.getElem?_eq_getElem hjx)
     rw [hk, hj] at hyk
     cases hyk
     exact ⟨m, y, hy, rfl⟩
theorem all_subL {l : List ByteArray} {N : List Nd} (hG : Grown l N) {v : Tm} : ∀ (L : List Tm), (∀ u ∈ L, ∃ (m : Nat) (z : Nd), N[m]? = some z ∧ z.t = u) → v ∈ allL L → ∃ (m : Nat) (z : Nd), N[m]? = some z ∧ z.t = v
 | [], _, hv => by simp [allL] at hv
 | t :: ks, hL, hv => by
   rw [allL] at hv
   rcases List.mem_append.1 hv with hv | hv
   · obtain ⟨m, z, hz, e⟩ := hL t (by simp)
     exact all_sub hG t m z hz e hv
   · exact all_subL hG ks (fun u hu => hL u (by simp [hu])) hv
end
/-- the nodes tell it -/
theorem wrong_nodes {l : List ByteArray} {W : List Int} {N : List Nd} {m n : Nat} {x y : Nd} {s t : Tm} (hG : Grown l N) (hx : N[m]? = some x) (hy : N[n]? = some y) (hxs : x.t = s) (hyt : y.t = t) (hS : ∀ q ∈ N, q.t ∈ allT s ∨ q.t ∈ allT t) :
 N.any (fun q => badT l W q.t) = (wrongT l W s || wrongT l W t) := by
 rw [Bool.eq_iff_iff, Bool.or_eq_true]
 unfold wrongT
 simp only [List.any_eq_true]
 constructor
 · rintro ⟨q, hq, hb⟩
   rcases hS q hq with h | h
   · exact .inl ⟨_, h, hb⟩
   · exact .inr ⟨_, h, hb⟩
 · rintro (⟨v, hv, hb⟩ | ⟨v, hv, hb⟩)
   · obtain ⟨i, z, hz, rfl⟩ := all_sub hG s m x hx hxs hv
     exact ⟨z, List.mem_of_getElem? hz, hb⟩
   · obtain ⟨i, z, hz, rfl⟩ := all_sub hG t n y hy hyt hv
     exact ⟨z, List.mem_of_getElem? hz, hb⟩

set_option maxRecDepth 100000 in
set_option maxHeartbeats 4000000 in
theorem verdict_hv {w : World} {B fb ib mb : Nat} {l : List ByteArray} {lv nv : Value} {N : List Nd} {S : Nat → Prop} {wa : Option Addr} {wc : Nat} {W : List Int} {i k : Nat} {x y : Nd} (hSW : SW w B fb ib mb l lv nv N S wa wc W) (hN : N.length ≤ 100) (hsz : sizeT x.t ≤ 1000 ∧ sizeT y.t ≤ 1000) (hx : N[i]? = some x) (hy : N[k]? = some y) :
 Calls Tryd.prog 35 #[.int .i64 i, .int .i64 k, .func (.func 37) #[.agg #[.pointer (some ⟨fb, 0, none⟩), .slice wa W.length wc]] #[]] w fun e w' => e = .returned (.int .i64 (vdt (hv l W) x.t y.t)) ∧ Ext w w' := by
 have HC := Lib.hid (heavier_any _ w B fb ib mb l lv nv N S wa wc W i k x y (Nat.le_refl _) (by omega) (by omega) hSW (by omega) hx hy)
 have HD : Hid (∀ w1, Ext w w1 → Calls Tryd.prog 37 #[.agg #[.pointer (some ⟨fb, 0, none⟩), .slice wa W.length wc], .int .i64 k, .int .i64 i] w1 fun e w' => e = .returned (.bool (hv l W y.t x.t)) ∧ Ext w1 w') := Lib.hid (fun w1 h1 => heavier_any _ w1 B fb ib mb l lv nv N S wa wc W k i y x (Nat.le_refl _) (by omega) (by omega) (hSW.ext h1) (by omega) hy hx)
 have HIK : Hid (i = k ↔ x.t = y.t) := Lib.hid ⟨fun e => by subst e; rw [hx] at hy; cases hy; rfl, fun e => hSW.fw.grown.once i k x y hx hy e⟩
 obtain ⟨r, hr⟩ : ∃ r, r = hv l W x.t y.t := ⟨_, rfl⟩
 obtain ⟨q, hq⟩ : ∃ q, q = hv l W y.t x.t := ⟨_, rfl⟩
 obtain ⟨V, hV⟩ : ∃ V, V = vdt (hv l W) x.t y.t := ⟨_, rfl⟩
 rw [← hr] at HC
 rw [← hq] at HD
 rw [← hV]
 have HV : Hid (V = if x.t = y.t then 0 else if r then 1 else if q then -1 else 2) := Lib.hid (by rw [hV, hr, hq]; rfl)
 clear hSW hx hy hr hq hV
 go_enter Tryd.func35, Tryd.ntmps35
 by_cases hik : (i : Int) = (k : Int)
 · have HT := Lib.hid (HIK.out.1 (by omega))
   go_wp2_with fail
   go_ret
   exact ⟨by rw [HV.out, if_pos HT.out]; rfl, Ext.refl w⟩
 · have HT : Hid (¬ x.t = y.t) := Lib.hid (fun e => hik (by rw [HIK.out.2 e]))
   go_wp2_with fail
   refine HC.out.mono ?_
   rintro e w1 ⟨rfl, k1⟩
   have HK1 := Lib.hid k1
   clear k1
   cases r with
   | true =>
     go_wp2_with fail
     go_ret
     exact ⟨by rw [HV.out, if_neg HT.out]; rfl, HK1.out⟩
   | false =>
     go_wp2_with fail
     refine (HD.out w1 HK1.out).mono ?_
     rintro e w2 ⟨rfl, k2⟩
     have HK2 := Lib.hid (HK1.out.trans k2)
     clear k2
     cases q with
     | true =>
       go_wp2_with fail
       go_ret
       exact ⟨by rw [HV.out, if_neg HT.out]; rfl, HK2.out⟩
     | false =>
       go_wp2_with fail
       go_ret
       exact ⟨by rw [HV.out, if_neg HT.out]; rfl, HK2.out⟩

theorem sizS : (Tryd.prog.info? 60).map (fun i => i.size) = some 2 := by kernel_rfl
theorem wpList_storeS {ops : Array Oper} {rest : List Oper} {o : Oper} {a : Act} {w : World} {Q : Exit → Act → World → Prop} (hgd : o.guard = none) (x y : Operand) (ho : o.op = .store 60 x y)
 {g : Nat} (hx : a.eval x = .pointer (some ⟨g, 0, none⟩)) {p : Option Addr} {wa : Option Addr} {wn wc : Nat} (hy : a.eval y = .agg #[.pointer p, .slice wa wn wc])
 {old : Array Value} (hg : w.heap[g]? = some (.cells old 60)) (ho4 : old.size = 2)
 (hK : ∀ w', w'.heap[g]? = some (.cells #[.pointer p, .slice wa wn wc] 60) → (∀ W0, Ext W0 w → W0.heap.size ≤ g → Ext W0 w') → w'.heap.size = w.heap.size → wpList Tryd.prog ops Q rest (a.put o.dst undef) w') :
 wpList Tryd.prog ops Q (o :: rest) a w := by
 refine wpList_store_all hgd 60 x y ho g _ hx hy 60 old hg sizS ho4 (by simp [Value.oneCell']) ?_
 exact hK _ (setRow_heap w g old _ _ _ hg) (fun W0 h hg => h.setRow hg _) (size_setRow _ _ _)

/-- the error of a comparison in the weighted order -/
def kboE (l : List ByteArray) (W : List Int) (a b : Tm) : Int := if admE l W ≠ 0 then admE l W else if termsE l a b ≠ 0 then termsE l a b else if wrongT l W a || wrongT l W b then 6 else 0
/-- the weighted order's verdict, and the error -/
def kboV (l : List ByteArray) (W : List Int) (a b : Tm) : Int := if kboE l W a b ≠ 0 then 0 else vdt (hv l W) a b

set_option maxRecDepth 100000 in
set_option maxHeartbeats 8000000 in
theorem Kbo_two {w : World} {S Sa Sw : Nat → Prop} {v a a' u : Option Addr} {n vc cap cap' m uc : Nat} {l : List ByteArray} {W : List Int} {s t : Tm} (hWd : Words w) (hL : LsG elS w S (.slice v n vc) l) (hI : LsG elI w Sw (.slice u m uc) W) (hS : ∀ c, S c → c < w.heap.size) (hSw : ∀ c, Sw c → c < w.heap.size) (hSa : ∀ c, Sa c → c < w.heap.size) (hN : Two4 s t) (hs : TmW w Sa a cap s) (ht : TmW w Sa a' cap' t) :
 Calls Tryd.prog 23 #[.slice v n vc, .slice u m uc, .agg #[.int .i64 s.kind, .string s.name, .int .i64 s.sort, .slice a s.kids.length cap], .agg #[.int .i64 t.kind, .string t.name, .int .i64 t.sort, .slice a' t.kids.length cap']] w fun e w' => e = .returned (.tuple #[.int .i64 (kboV l W s t), .int .i64 (kboE l W s t)]) ∧ Ext w w' := by
 have hsl := hs.len
 have hsc := hs.cap
 have htl := ht.len
 have htc := ht.cap
 unfold maxLen at hsc htc
 obtain ⟨rfl, hvl, hvc⟩ := hL.len
 obtain ⟨rfl, hul, huc⟩ := hI.len
 unfold maxLen at hvc huc
 obtain ⟨bx, w1, hbbx, hwbx, HBbx, hEbx⟩ := box_new w (.cells #[.int .i64 s.kind, .string s.name, .int .i64 s.sort, .slice a s.kids.length cap] 38)
 obtain ⟨cx, w2, hbcx, hwcx, HBcx, hEcx⟩ := box_new w1 (.cells #[.int .i64 t.kind, .string t.name, .int .i64 t.sort, .slice a' t.kids.length cap'] 38)
 have hE2 := hEbx.trans hEcx
 have hcx1 : cx = bx + 1 := by rw [hbcx, hwbx, World.size_alloc, hbbx]
 have HBX := Lib.hid (hs_ext hEcx HBbx.out)
 obtain ⟨b0, b1, b2, b3⟩ := box4r HBX.out
 obtain ⟨c0, c1, c2, c3⟩ := box4r HBcx.out
 have HE2 := Lib.hid hE2
 have HL := Lib.hid ((hL.wide (S' := fun c => c < w.heap.size) (fun c hc _ => hS c hc)).ext hE2)
 have HI := Lib.hid ((hI.wide (S' := fun c => c < w.heap.size) (fun c hc _ => hSw c hc)).ext hE2)
 have HWS := Lib.hid (hWd.ext hE2)
 have HS := Lib.hid ((hs.wide (S' := fun c => c < w.heap.size) (fun c hc _ => hSa c hc)).ext hE2)
 have HT := Lib.hid ((ht.wide (S' := fun c => c < w.heap.size) (fun c hc _ => hSa c hc)).ext hE2)
 have HNN := Lib.hid hN
 have HPR := Lib.hid (adm_any HWS.out HL.out HI.out)
 obtain ⟨p, hp⟩ : ∃ p, p = admE l W := ⟨_, rfl⟩
 obtain ⟨q, hq⟩ : ∃ q, q = termsE l s t := ⟨_, rfl⟩
 obtain ⟨E, hE⟩ : ∃ E, E = kboE l W s t := ⟨_, rfl⟩
 obtain ⟨V, hV⟩ : ∃ V, V = kboV l W s t := ⟨_, rfl⟩
 rw [← hE, ← hV]
 rw [← hp] at HPR
 have HEE : Hid (E = if p ≠ 0 then p else if q ≠ 0 then q else if wrongT l W s || wrongT l W t then 6 else 0) := Lib.hid (by rw [hE, hp, hq]; rfl)
 have HVV : Hid (V = if E ≠ 0 then 0 else vdt (hv l W) s t) := Lib.hid (by rw [hV, hE]; rfl)
 have HPE := Lib.hid hp
 have HQE := Lib.hid hq
 clear hL hI hWd hs ht hN hE2 hEbx hEcx hp hq hE hV
 go_enter Tryd.func23, Tryd.ntmps23
 go_upto_region 1 with fail
 rw [← hwbx, ← hbbx]
 clear hwbx hbbx
 rw [← hwcx, ← hcx1]
 clear hwcx hcx1 hbcx
 go_wp2_with fail
 refine HPR.out.mono ?_
 rintro e w3 ⟨rfl, hE3⟩
 obtain ⟨b0, b1, b2, b3, c0, c1, c2, c3⟩ := cs_e8 hE3 ⟨b0, b1, b2, b3, c0, c1, c2, c3⟩
 have HS := Lib.hid (HS.out.ext hE3)
 have HT := Lib.hid (HT.out.ext hE3)
 have HL := Lib.hid (HL.out.ext hE3)
 have HI := Lib.hid (HI.out.ext hE3)
 have HE3 := Lib.hid (HE2.out.trans hE3)
 clear hE3
 by_cases hp0 : p = 0
 · have HAD := Lib.hid (adm_ok (HPE.out.symm.trans hp0))
   have HEE2 : Hid (E = if q ≠ 0 then q else if wrongT l W s || wrongT l W t then 6 else 0) := Lib.hid (by rw [HEE.out, if_neg (by simp [hp0])])
   subst hp0
   have HSZ := Lib.hid HE3.out.size
   have HPL := Lib.hid (plant_any HL.out (fun c hc => Nat.lt_of_lt_of_le hc HSZ.out))
   go_wp2_with fail
   refine HPL.out.mono ?_
   rintro e w4 ⟨fb, ib, mb, rfl, hF4, hM4, hfm, hE4⟩
   obtain ⟨b0, b1, b2, b3, c0, c1, c2, c3⟩ := cs_e8 hE4 ⟨b0, b1, b2, b3, c0, c1, c2, c3⟩
   have HS := Lib.hid (HS.out.ext hE4)
   have HT := Lib.hid (HT.out.ext hE4)
   have HI := Lib.hid (HI.out.ext hE4)
   have HE4 := Lib.hid (HE3.out.trans hE4)
   have HE34 := Lib.hid hE4
   have HF4 := Lib.hid hF4
   have HM4 := Lib.hid hM4
   clear hF4 hM4 hfm hE4
   obtain ⟨gb, w5, hgb, hw5, HB5, hE5⟩ := box_new w4 (.cells #[.pointer none, .slice none 0 0] 60)
   have HE5 := Lib.hid hE5
   have HGB : Hid (gb = w4.heap.size) := Lib.hid hgb
   clear hE5
   go_upto_region 5 with (
    rw [← hgb, ← hw5]
    refine wpList_storeS rfl (.tmp 11) (.tmp 26) rfl (g := gb) rfl (p := some ⟨fb, 0, none⟩) (wa := u) (wn := W.length) (wc := uc) rfl HB5.out rfl ?_
    intro w6 c6 e6 z6
    have HB6 := Lib.hid c6
    have HE46 := Lib.hid (e6 w4 HE5.out (Nat.le_of_eq HGB.out.symm))
    have HE6 := Lib.hid (HE4.out.trans (e6 w4 HE5.out (Nat.le_of_eq HGB.out.symm)))
    have s0 : w6.cell? ⟨gb, 0, none⟩ = some (.pointer (some ⟨fb, 0, none⟩)) := (by rw [cellc c6]; rfl)
    have s1 : w6.cell? ⟨gb, 1, none⟩ = some (.slice u W.length uc) := (by rw [cellc c6]; rfl)
    clear c6 e6 z6 hgb hw5)
   have hE46 := HE46.out
   obtain ⟨b0, b1, b2, b3, c0, c1, c2, c3⟩ := cs_e8 hE46 ⟨b0, b1, b2, b3, c0, c1, c2, c3⟩
   have HS := Lib.hid (HS.out.ext hE46)
   have HT := Lib.hid (HT.out.ext hE46)
   have HI := Lib.hid (HI.out.ext hE46)
   have HF4 := Lib.hid (HF4.out.ext hE46)
   have HM4 := Lib.hid (HM4.out.ext hE46)
   clear hE46
   have HLT : Hid (gb < w6.heap.size) := Lib.hid (lt_of_get' HB6.out)
   have HTE := Lib.hid (terms_any HF4.out HM4.out (by have := HAD.out; omega) (by obtain ⟨h1, h2, U, h3, h4, h5⟩ := HNN.out; exact ⟨U, h1, h2, h3, by simp, h4, h5⟩) (HS.out.wide (fun c hc _ => Nat.lt_of_lt_of_le hc HSZ.out)) (HT.out.wide (fun c hc _ => Nat.lt_of_lt_of_le hc HSZ.out)))
   rw [← HQE.out] at HTE
   go_wp2_with fail
   refine HTE.out.mono ?_
   rintro e w7 ⟨i, k, rfl, hB7, hk7, h7⟩
   have HB7 := Lib.hid hB7
   have H7 := Lib.hid h7
   have hgb7 : w7.heap[gb]? = _ := (hk7 gb HLT.out (by have := HF4.out.fbl; have := HGB.out; intro e; subst e; have h1 := HF4.out.blk; rw [HB6.out] at h1; simp at h1) (by intro e; subst e; obtain ⟨D, n, -, es, cl, h1, -⟩ := HF4.out.ids; rw [HB6.out] at h1; simp at h1) (by simp [Value.ownBlock])).trans HB6.out
   have HGB7 := Lib.hid hgb7
   clear hB7 hk7 h7 b0 b1 b2 b3 c0 c1 c2 c3
   by_cases hq0 : q = 0
   · obtain ⟨nv', N', S', m, n, x, y, rfl, rfl, hF7, hP7, hN7, hx, hy, hxs, hyt, hsb⟩ := H7.out hq0
     have HSW : Hid (SW w7 w3.heap.size fb ib mb l (.slice v l.length vc) nv' N' S' u uc W) := Lib.hid ⟨hF7, HI.out.keep (w' := w7) (S' := fun c => c < w3.heap.size) (fun c hc hlt => HB7.out.block c (Nat.lt_of_lt_of_le hc HSZ.out)) (fun c hc _ => Nat.lt_of_lt_of_le hc HSZ.out) HB7.out.size, HAD.out.2.1, HAD.out.2.2.1⟩
     have hxm : sizeT x.t ≤ 1000 := by rw [hxs]; have := HNN.out.1; omega
     have hym : sizeT y.t ≤ 1000 := by rw [hyt]; have := HNN.out.2.1; omega
     have HEF : Hid (E = if N'.any (fun z => badT l W z.t) then 6 else 0) := Lib.hid (by
      rw [HEE2.out, if_neg (by simp [hq0]), wrong_nodes hF7.grown hx hy hxs hyt (fun z hz => by
       rcases hsb z hz with h | h
       · simp at h
       · exact h)])
     have HVF : Hid (E = 0 → V = vdt (hv l W) x.t y.t) := Lib.hid (fun h => by rw [HVV.out, if_neg (by simp [h]), hxs, hyt])
     have HX := Lib.hid hx
     have HY := Lib.hid hy
     have HXY := Lib.hid (And.intro hxm hym)
     have HEX : Hid (Ext w w7) := Lib.hid (Below.trans (Ext.below HE6.out (Nat.le_refl _)) (Below.mono HB7.out HE3.out.size))
     obtain ⟨na, nc, hnv, hn1, hn2⟩ := hF7.row.slice
     subst hnv
     unfold maxLen at hn2
     obtain ⟨g0, f1, g2, g3⟩ := box4r hF7.blk
     have s0 : w7.cell? ⟨gb, 0, none⟩ = some (.pointer (some ⟨fb, 0, none⟩)) := by rw [cellc hgb7]; rfl
     have s1 : w7.cell? ⟨gb, 1, none⟩ = some (.slice u W.length uc) := by rw [cellc hgb7]; rfl
     have HN7 := Lib.hid hN7
     clear hF7 hP7 hx hy hxs hyt hsb hxm hym g0 g2 g3 hgb7
     subst hq0
     go_wp2_with fail
     go_loopw [45] (fun kv wr => ∃ j : Nat, kv = .int .i64 j ∧ j ≤ N'.length ∧ Hid (Ext w7 wr ∧ (N'.take j).any (fun z => badT l W z.t) = false)) (fun kv _ => N'.length - (intOf kv).toNat)
     case atStart => exact ⟨0, rfl, by omega, Lib.hid ⟨Ext.refl _, by simp⟩⟩
     case round =>
      obtain ⟨j, rfl, hj, HR⟩ := hrel
      by_cases hlt : j < N'.length
      · obtain ⟨z, hz⟩ : ∃ z, N'[j]? = some z := ⟨_, List.getElem?_eq_getElem hlt⟩
        clear s0 s1 f1
        obtain ⟨nrb, nro, xa, xc, xk, xkc, rfl, x0, x1, x2, x3, x4, x5, -, hrI, hLx⟩ := (HSW.out.ext HR.out.1).fw.row.any.nAt hz
        obtain ⟨nb, w8, hnb, hw8, HB8, hE8⟩ := box_new wr (.cells #[.int .i64 0, .string ⟨#[]⟩, .int .i64 0, .slice none 0 0, .int .i64 0, .slice none 0 0] 67)
        have HE8 := Lib.hid hE8
        have HNB : Hid (nb = wr.heap.size) := Lib.hid hnb
        have HZ := Lib.hid hz
        have hxkc := hLx.len.2
        unfold maxLen at hxkc
        have HXL := Lib.hid (HSW.out.fw.grown.len z (List.mem_of_getElem? hz))
        have HBA : Hid (badT l W z.t = true → E = 6) := Lib.hid (fun h => by
         have : N'.any (fun q => badT l W q.t) = true := List.any_eq_true.2 ⟨z, List.mem_of_getElem? hz, h⟩
         rw [HEF.out, this]; rfl)
        clear hE8 hz hLx
        go_upto_region 11 with (
         rw [← hnb, ← hw8]
         refine wpList_storeN rfl (.tmp 16) (.tmp 48) rfl (g := nb) rfl (k := z.t.kind) (s := z.t.sort) (n := z.t.name) (ka := xa) (kl := z.t.kids.length) (kc := xc) (r := z.r) (ks := xk) (sl := z.ks.length) (sc := xkc) rfl HB8.out rfl ?_
         intro w9 c9 q9 e9 z9
         have HE9 := Lib.hid (HR.out.1.trans (e9 wr HE8.out (Nat.le_of_eq HNB.out.symm)))
         obtain ⟨n0, n1, n2, n3, n4, n5⟩ := box6 c9
         clear c9 q9 e9 z9 hnb hw8)
        clear x0 x1 x2 x3 x4 x5
        by_cases hk1 : z.t.kind = 1
        · have HBD : Hid (badT l W z.t = false) := Lib.hid (by unfold badT; simp [hk1])
          go_wp2_with fail
          go_roundw
          case rel => exact ⟨j + 1, by go_num, by omega, Lib.hid ⟨HE9.out, by rw [List.take_add_one, HZ.out, List.any_append, HR.out.2, Option.toList_some]; simp [HBD.out]⟩⟩
          case measure => simp [intOf]; omega
        · obtain ⟨r, hr, hrl, hwr⟩ := HSW.out.at (List.mem_of_getElem? HZ.out) hk1
          obtain ⟨wb, wo, rfl, v0, hvI⟩ := (HSW.out.ext HE9.out).ws.iAt hwr
          have r1 : (r : Int) < (W.length : Int) := by omega
          have r2 : (0 : Int) ≤ (r : Int) := by omega
          obtain ⟨va, hva⟩ : ∃ va, va = wAt l W z.t.name := ⟨_, rfl⟩
          rw [← hva] at v0
          rw [hr] at n4
          have HVA := Lib.hid hva
          clear hr hrl hwr hvI hva
          by_cases hv0 : va = 0
          · by_cases hk3 : z.t.kind = 3
            · by_cases hl1 : z.ks.length = 1
              · have HBD : Hid (badT l W z.t = false) := Lib.hid (by unfold badT; rw [← HXL.out]; simp [hk3, hl1])
                go_wp2_with fail
                go_roundw
                case rel => exact ⟨j + 1, by go_num, by omega, Lib.hid ⟨HE9.out, by rw [List.take_add_one, HZ.out, List.any_append, HR.out.2, Option.toList_some]; simp [HBD.out]⟩⟩
                case measure => simp [intOf]; omega
              · have hl2 : ¬ (z.ks.length : Int) = 1 := by omega
                have HE6' : Hid (E = 6) := Lib.hid (HBA.out (by unfold badT; rw [← HXL.out, ← HVA.out]; simp [hk3, hl1, hv0]))
                have HV0 : Hid (V = 0) := Lib.hid (by rw [HVV.out, HE6'.out]; rfl)
                go_wp2_with fail
                go_ret2
                exact ⟨by rw [HE6'.out, HV0.out]; rfl, HEX.out.trans HE9.out⟩
            · have HE6' : Hid (E = 6) := Lib.hid (HBA.out (by unfold badT; rw [← HVA.out]; simp [hk1, hk3, hv0]))
              have HV0 : Hid (V = 0) := Lib.hid (by rw [HVV.out, HE6'.out]; rfl)
              go_wp2_with fail
              go_ret2
              exact ⟨by rw [HE6'.out, HV0.out]; rfl, HEX.out.trans HE9.out⟩
          · have HBD : Hid (badT l W z.t = false) := Lib.hid (by unfold badT; rw [← HVA.out]; simp [hv0])
            go_wp2_with fail
            go_roundw
            case rel => exact ⟨j + 1, by go_num, by omega, Lib.hid ⟨HE9.out, by rw [List.take_add_one, HZ.out, List.any_append, HR.out.2, Option.toList_some]; simp [HBD.out]⟩⟩
            case measure => simp [intOf]; omega
      · have hje : j = N'.length := by omega
        have HE0 : Hid (E = 0) := Lib.hid (by
         have h := HR.out.2
         rw [hje, List.take_length] at h
         rw [HEF.out, h]; rfl)
        have hE0 := HE0.out
        subst hje
        have s0 := cs_ext HR.out.1 s0
        have s1 := cs_ext HR.out.1 s1
        have HVD := Lib.hid (verdict_hv (HSW.out.ext HR.out.1) HN7.out HXY.out HX.out HY.out)
        rw [← HVF.out hE0] at HVD
        clear hE0
        go_wp2_with fail
        refine HVD.out.mono ?_
        rintro e w8 ⟨rfl, hE8⟩
        have HE8 := Lib.hid (HR.out.1.trans hE8)
        clear hE8
        go_wp2_with fail
        go_ret2
        exact ⟨by rw [HE0.out]; rfl, HEX.out.trans HE8.out⟩
   · have HEQ : Hid (E = q) := Lib.hid (by rw [HEE2.out, if_pos hq0])
     have HV0 : Hid (V = 0) := Lib.hid (by rw [HVV.out, HEQ.out, if_pos hq0])
     go_wp2_with fail
     go_ret2
     exact ⟨by rw [HEQ.out, HV0.out]; rfl, Below.trans (Ext.below HE6.out (Nat.le_refl _)) (Below.mono HB7.out HE3.out.size)⟩
 · have HEP : Hid (E = p) := Lib.hid (by rw [HEE.out, if_pos hp0])
   have HV0 : Hid (V = 0) := Lib.hid (by rw [HVV.out, HEP.out, if_pos hp0])
   go_wp2_with fail
   go_ret2
   exact ⟨by rw [HEP.out, HV0.out]; rfl, HE3.out⟩

theorem Kbo_any {w : World} {S Sa Sw : Nat → Prop} {v a a' u : Option Addr} {n vc cap cap' m uc : Nat} {l : List ByteArray} {W : List Int} {s t : Tm} (hWd : Words w) (hL : LsG elS w S (.slice v n vc) l) (hI : LsG elI w Sw (.slice u m uc) W) (hS : ∀ c, S c → c < w.heap.size) (hSw : ∀ c, Sw c → c < w.heap.size) (hSa : ∀ c, Sa c → c < w.heap.size) (hN : sizeT s + sizeT t ≤ 100) (hs : TmW w Sa a cap s) (ht : TmW w Sa a' cap' t) :
 Calls Tryd.prog 23 #[.slice v n vc, .slice u m uc, .agg #[.int .i64 s.kind, .string s.name, .int .i64 s.sort, .slice a s.kids.length cap], .agg #[.int .i64 t.kind, .string t.name, .int .i64 t.sort, .slice a' t.kids.length cap']] w fun e w' => e = .returned (.tuple #[.int .i64 (kboV l W s t), .int .i64 (kboE l W s t)]) ∧ Ext w w' :=
 Kbo_two hWd hL hI hS hSw hSa (two_sum hN) hs ht
end Go.Proofs.YtkobikdkbpdjeaaDoor
