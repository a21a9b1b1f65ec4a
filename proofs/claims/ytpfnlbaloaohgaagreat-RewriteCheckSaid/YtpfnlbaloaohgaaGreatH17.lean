/- Contracts: the reference's Apply. Contracts: the reference's Check. -/
import Derived.Test.YtpfnlbaloaohgaaGreatN33
import Derived.Test.YtpfnlbaloaohgaaGreatH15
import Derived.Test.YtpfnlbaloaohgaaGreatN43
import Derived.Test.YtpfnlbaloaohgaaGreatH12
import Derived.Test.YtpfnlbaloaohgaaGreatH3
import Derived.Test.YtpfnlbaloaohgaaGreatH10
namespace Go.Proofs.YtpfnlbaloaohgaaGreat
open Go Go.RowKit
set_option linter.unusedVariables false
set_option linter.unusedSimpArgs false

/-- a term with a part replaced, if it is valid -/
def lastG (t : Tm) (p : List Int) (P : Tm) : Int × Tm := match repT p t P with | none => (7, zeroTm) | some y => if validT y ≠ 0 then (validT y, zeroTm) else (0, y)
theorem stepG_in {R : List Rl} {t u : Tm} {n : Nat} {p : List Int} {rl : Rl} (hr : R[n]? = some rl) (hu : atT p t = some u) : stepG R t ((n : Int), p) = if (matchP rl.1 u).1 ≠ 0 then (11, zeroTm) else lastG t p (putG (matchP rl.1 u).2 rl.2) := by
 have e : ruleAt R (n : Int) = some rl := by unfold ruleAt; rw [if_pos (by omega), Int.toNat_natCast, hr]
 unfold stepG lastG
 simp only [e, hu]
 split
 · rfl
 · cases repT p t (putG (matchP rl.1 u).2 rl.2) <;> rfl

mutual
theorem putG_size {B : List (Tm × Tm)} (hB : ∀ b ∈ B, sizeT b.2 ≤ 400) : ∀ t : Tm, sizeT (putG B t) ≤ 400 * sizeT t
 | .mk k n s l => by
   rw [putG]
   split
   · have key : ∀ (C : List (Tm × Tm)) (x : Tm), (∀ b ∈ C, sizeT b.2 ≤ 400) → sizeT (getB C x) ≤ 400 * sizeT x := by
      intro C
      induction C with
      | nil => intro x _; rw [getB]; omega
      | cons b C ih =>
        intro x h
        rw [getB]
        split
        · have := h b (by simp); have := sizeT_kids x; omega
        · exact ih x (fun c hc => h c (by simp [hc]))
     exact key B _ hB
   · have := putGL_size hB l
     rw [sizeT, sizeT]; omega
theorem putGL_size {B : List (Tm × Tm)} (hB : ∀ b ∈ B, sizeT b.2 ≤ 400) : ∀ l : List Tm, sizeL (putGL B l) ≤ 400 * sizeL l
 | [] => by simp [putGL, sizeL]
 | t :: l => by
   have h1 := putG_size hB t
   have h2 := putGL_size hB l
   rw [putGL, sizeL, sizeL]; omega
end
theorem atR_some {w : World} {S : Nat → Prop} {v : Value} {er : Int} {y : Tm} (h : atR w S v er (some y)) : er = 0 ∧ IsS w S v y := by
 rcases h with ⟨x, e1, e2, e3⟩ | ⟨e1, -⟩
 · cases e1; exact ⟨e2, e3⟩
 · cases e1
theorem stepG_errs {t P y : Tm} {p : List Int} {rl : Rl} {u : Tm} (B : List (Tm × Tm)) (ht : validT t = 0) (hr : ruleE rl = 0) (hP : P = putG (matchP rl.1 u).2 rl.2) (hy : repT p t P = some y) : errT P = 0 ∧ errT y = 0 := by
 have hr2 := (validT_iff.1 (ruleE_iff.1 hr).2.1).1
 obtain ⟨hv, hn⟩ := matchP_good (p := rl.1) (t := u)
 have hps := put_same (matchP rl.1 u).2 hv hn rl.2 hr2
 have hpe : errT (putF (bndF (matchP rl.1 u).2) rl.2) = 0 := errT_put (bndF_ok (P := fun u => errT u = 0) (fun b hb => (validT_iff.1 (matchP_vals b hb)).1)) rl.2 hr2
 rw [hps, ← hP] at hpe
 exact ⟨hpe, (repT_ok _ _ _ _ hy (validT_iff.1 ht).1 hpe).1⟩
theorem isV_size {t : Tm} (h : isV t) : sizeT t = 1 := by rw [sizeT_kids, h.2, sizeL]

set_option maxRecDepth 100000 in
set_option maxHeartbeats 16000000 in
theorem RApply_any {w : World} {S S' S'' : Nat → Prop} {a ta pa : Option Addr} {cap tc pc : Nat} {R : List Rl} {t : Tm} {r : Rdx} (hz : smallR R) (hr64 : I64 r.1) (hL : LsG elP w S (.slice a R.length cap) R) (ht : sizeT t ≤ 100000) (hT : TmW w S' ta tc t) (hP : LsG elI w S'' (.slice pa r.2.length pc) r.2) :
 Calls Tryz.prog 19 #[.slice a R.length cap, .agg #[.int .i64 t.kind, .string t.name, .int .i64 t.sort, .slice ta t.kids.length tc], .agg #[.int .i64 r.1, .slice pa r.2.length pc]] w fun e w' => ∃ v er, e = .returned (.tuple #[v, .int .i64 er]) ∧ Ext w w' ∧ errR w' (fun c => (S c ∧ c < w.heap.size) ∨ (S' c ∧ c < w.heap.size) ∨ w.heap.size ≤ c) v er (applyP R t r).2 (applyP R t r).1 := by
 obtain ⟨r1, r2⟩ := r
 simp only at hr64 hP ⊢
 obtain ⟨-, hll, hlc⟩ := hL.len
 unfold maxLen at hlc
 obtain ⟨-, hpl, hpc⟩ := hP.len
 unfold maxLen at hpc
 obtain ⟨X, hX⟩ : ∃ X : Nat → Prop, X = fun c => (S c ∧ c < w.heap.size) ∨ (S' c ∧ c < w.heap.size) := ⟨_, rfl⟩
 have HXW : Hid (∀ c, X c → c < w.heap.size) := Lib.hid (fun c h => by rw [hX] at h; rcases h with h | h <;> exact h.2)
 have HXR : Hid (∀ c, X c → (S c ∧ c < w.heap.size) ∨ (S' c ∧ c < w.heap.size) ∨ w.heap.size ≤ c) := Lib.hid (fun c h => by rw [hX] at h; exact h.imp id Or.inl)
 have hL := hL.wide (S' := X) (fun c h h2 => by rw [hX]; exact .inl ⟨h, h2⟩)
 have hT := hT.wide (S' := X) (fun c h h2 => by rw [hX]; exact .inr ⟨h, h2⟩)
 clear hX
 obtain ⟨bx, w1, hbbx, hwbx, HBbx, hEbx⟩ := box_new w (.cells #[.int .i64 t.kind, .string t.name, .int .i64 t.sort, .slice ta t.kids.length tc] 25)
 have hs1 : w1.heap.size = bx + 1 := by rw [hwbx, hbbx, World.size_alloc]
 obtain ⟨dx, hdx⟩ : ∃ zz9, zz9 = bx + 1 := ⟨_, rfl⟩
 obtain ⟨w1b, hw1b⟩ : ∃ zz9, zz9 = w1.alloc (.cells #[.int .i64 r1, .slice pa r2.length pc] 35) := ⟨_, rfl⟩
 have hE1b : Ext w1 w1b := by rw [hw1b]; exact Ext.alloc _ _
 have hs1b : w1b.heap.size = dx + 1 := by rw [hw1b, World.size_alloc, hs1, hdx]
 have hbd : w1b.heap[dx]? = some (.cells #[.int .i64 r1, .slice pa r2.length pc] 35) := by rw [hw1b, hdx, ← hs1]; exact hs_new
 obtain ⟨rx, hrx⟩ : ∃ zz9, zz9 = dx + 1 := ⟨_, rfl⟩
 obtain ⟨w2, hw2⟩ : ∃ zz9, zz9 = w1b.alloc (.cells #[.int .i64 0, .string ⟨#[]⟩, .int .i64 0, .slice none 0 0] 25) := ⟨_, rfl⟩
 have hE2 : Ext w1b w2 := by rw [hw2]; exact Ext.alloc _ _
 have HBR : Hid (w2.heap[rx]? = some (.cells #[.int .i64 0, .string ⟨#[]⟩, .int .i64 0, .slice none 0 0] 25)) := Lib.hid (by rw [hw2, hrx, ← hs1b]; exact hs_new)
 have hEa := (hEbx.trans hE1b).trans hE2
 have HE := Lib.hid hEa
 have HNB : Hid (w.heap.size = bx ∧ dx = bx + 1 ∧ rx = bx + 2) := Lib.hid ⟨hbbx.symm, hdx, by omega⟩
 have HBD := Lib.hid (hs_ext hE2 hbd)
 have HBB := Lib.hid (hs_ext (hE1b.trans hE2) HBbx.out)
 obtain ⟨b0, b1, b2, b3⟩ := box4r (HBB.out)
 have d0 : w2.cell? ⟨dx, 0, none⟩ = some (.int .i64 r1) := by rw [cellc HBD.out]; rfl
 have d1 : w2.cell? ⟨dx, 1, none⟩ = some (.slice pa r2.length pc) := by rw [cellc HBD.out]; rfl
 have HL := Lib.hid (hL.ext hEa)
 have HT := Lib.hid (hT.ext hEa)
 have HP := Lib.hid (hP.ext hEa).any
 have HZ := Lib.hid hz
 have HTZ := Lib.hid ht
 have HR64 := Lib.hid hr64
 have hc1 := RRight_any hz HL.out (by omega) HT.out
 obtain ⟨o1, ho1⟩ : ∃ o, o = orE (rulesE R) (validT t) := ⟨_, rfl⟩
 rw [← ho1] at hc1
 have HC1 := Lib.hid hc1
 obtain ⟨Q, hQ⟩ : ∃ Q, Q = applyP R t (r1, r2) := ⟨_, rfl⟩
 rw [← hQ]
 rw [applyG_eq, ← ho1] at hQ
 have HQ0 := Lib.hid hQ
 have HO := Lib.hid ho1
 clear hL hT hP hz ht hr64 hc1 ho1 hEbx hE1b hE2 hEa hs1 hs1b hbd hQ
 go_enter Tryz.func19, Tryz.ntmps19
 go_upto_region 1 with fail
 rw [← hwbx, ← hbbx, ← hw1b, ← hdx, ← hw2, ← hrx]
 clear hwbx hbbx hw1b hdx hw2 hrx
 go_wp2_with fail
 refine HC1.out.mono ?_
 rintro e w3 ⟨rfl, hE3⟩
 obtain ⟨b0, b1, b2, b3, d0, d1⟩ := cs_e6 hE3 ⟨b0, b1, b2, b3, d0, d1⟩
 have HL := Lib.hid (HL.out.ext hE3)
 have HT := Lib.hid (HT.out.ext hE3)
 have HP := Lib.hid (HP.out.ext hE3)
 have HBR := Lib.hid (hs_ext hE3 HBR.out)
 have HBB := Lib.hid (hs_ext hE3 HBB.out)
 have HBD := Lib.hid (hs_ext hE3 HBD.out)
 have HE := Lib.hid (HE.out.trans hE3)
 clear hE3
 by_cases h1 : o1 = 0
 · have e1 : (o1 != 0) = false := by simp [h1]
   have HQ1 : Hid (Q = stepG R t (r1, r2)) := Lib.hid (by rw [HQ0.out, if_neg (by simp [h1])])
   have HOO : Hid (rulesE R = 0 ∧ validT t = 0) := Lib.hid (orE_split (by rw [← HO.out]; exact h1))
   have H400 : Hid (sizeT t ≤ 400) := Lib.hid (validT_iff.1 HOO.out.2).2.1
   have HCA := Lib.hid (RAt_any (w := w3) (by have := H400.out; omega) HT.out HP.out)
   clear h1
   go_upto_region 5 with (first
    | (go_at_call 44
       refine HCA.out.mono ?_
       rintro e w4 ⟨v4, er4, rfl, hE4, hA4⟩
       obtain ⟨yk, yn, ys, ya, yl, yc, rfl⟩ : ∃ yk yn ys ya yl yc, v4 = .agg #[.int .i64 yk, .string yn, .int .i64 ys, .slice ya yl yc] := by
        rcases hA4 with ⟨_, _, _, _, _, e, _⟩ | ⟨_, _, e⟩ <;> exact ⟨_, _, _, _, _, _, e⟩
       have HE34 := Lib.hid hE4
       have HA4 := Lib.hid hA4
       clear hE4 hA4)
    | (refine wpList_storeT rfl (.tmp 9) (.tmp 27) rfl (g := w4.heap.size) rfl (k := yk) (s := ys) (n := yn) (ka := ya) (kl := yl) (kc := yc) rfl hs_new rfl ?_
       intro w5 c5 q5 e5 z5
       have HQ5 := Lib.hid c5
       have HE45 := Lib.hid (e5 w4 (Ext.alloc _ _) (Nat.le_refl _))
       clear c5 q5 e5 z5))
   obtain ⟨q, hq⟩ : ∃ q, q = w4.heap.size := ⟨_, rfl⟩
   have HQW : Hid (w.heap.size ≤ q ∧ rx < q) := Lib.hid ⟨by have := (HE.out.trans HE34.out).size; omega, by have := lt_of_get' (hs_ext HE34.out HBR.out); omega⟩
   rw [← hq] at HQ5 ⊢
   have HA5 := Lib.hid (HA4.out.ext HE45.out)
   have hE35 := HE34.out.trans HE45.out
   obtain ⟨b0, b1, b2, b3, d0, d1⟩ := cs_e6 hE35 ⟨b0, b1, b2, b3, d0, d1⟩
   have HL := Lib.hid (HL.out.ext hE35)
   have HT := Lib.hid (HT.out.ext hE35)
   have HP := Lib.hid (HP.out.ext hE35)
   have HBR := Lib.hid (hs_ext hE35 HBR.out)
   have HBB := Lib.hid (hs_ext hE35 HBB.out)
   have HBD := Lib.hid (hs_ext hE35 HBD.out)
   have HE := Lib.hid (HE.out.trans hE35)
   clear hE35 hq HE34 HE45 HA4
   rcases HA5.out with ⟨u, hu, her, va, vc, hv, hTu⟩ | ⟨hn, her, -⟩
   · by_cases hin : 0 ≤ r1 ∧ r1 < (R.length : Int)
     · subst her
       have hv2 : yk = u.kind ∧ yn = u.name ∧ ys = u.sort ∧ ya = va ∧ yl = u.kids.length ∧ yc = vc := by simpa using hv
       obtain ⟨rfl, rfl, rfl, rfl, rfl, rfl⟩ := hv2
       obtain ⟨n, rfl⟩ : ∃ n : Nat, r1 = (n : Int) := ⟨r1.toNat, by omega⟩
       obtain ⟨rl, hrl⟩ : ∃ rl, R[n]? = some rl := ⟨_, List.getElem?_eq_getElem (by omega)⟩
       obtain ⟨rb, ro, xa, xc, za, zc, rfl, ⟨x0, x1, x2, x3⟩, ⟨x4, x5, x6, x7⟩, hTx, hTy⟩ := HL.out.pAt hrl
       have hsz := HZ.out rl (List.mem_of_getElem? hrl)
       have husz : sizeT u ≤ 400 := Nat.le_trans (atT_size _ _ _ hu) H400.out
       have HCM := Lib.hid (fun w' (hE : Ext w5 w') => RMatch_any (w := w') hsz.1 (by omega) (hTx.ext hE) (hTu.ext hE))
       have HQ2 : Hid (Q = if (matchP rl.1 u).1 ≠ 0 then (11, zeroTm) else lastG t r2 (putG (matchP rl.1 u).2 rl.2)) := Lib.hid (by rw [HQ1.out]; exact stepG_in hrl hu)
       have hB400 : ∀ b ∈ (matchP rl.1 u).2, sizeT b.2 ≤ 400 := matchP_ok
       obtain ⟨m, hm⟩ : ∃ m, m = (matchP rl.1 u).1 := ⟨_, rfl⟩
       obtain ⟨B, hB⟩ : ∃ B, B = (matchP rl.1 u).2 := ⟨_, rfl⟩
       rw [← hm, ← hB] at HCM HQ2
       rw [← hB] at hB400
       have HB400 := Lib.hid hB400
       have HSZ := Lib.hid (And.intro hsz husz)
       have HTY := Lib.hid hTy
       have HTU := Lib.hid hTu
       have HU := Lib.hid hu
       have hn1 : (n : Int) < (R.length : Int) := by omega
       have hn0 : ¬ ((n : Int) < 0) := by omega
       have hn2 : ¬ ((R.length : Int) ≤ (n : Int)) := by omega
       have hn3 : (0 : Int) ≤ (n : Int) := by omega
       obtain ⟨q0, q1, q2, q3⟩ := box4r HQ5.out
       have HQS : Hid (q < w5.heap.size) := Lib.hid (lt_of_get' HQ5.out)
       have HBV : Hid (∀ b ∈ B, sizeT b.1 ≤ 1000000) := Lib.hid (fun b hb => by rw [hB] at hb; rw [isV_size ((matchP_good (p := rl.1) (t := u)).1 b hb)]; omega)
       have HRV : Hid (sizeT rl.2 ≤ 400) := Lib.hid (by
        have h := rulesE_get hrl HOO.out.1
        exact (validT_iff.1 (ruleE_iff.1 h).2.1).2.1)
       have HATS : Hid ((repT r2 t (putG B rl.2)).isSome = true) := Lib.hid (by rw [repT_at, hu]; rfl)
       have HRE : Hid (ruleE rl = 0) := Lib.hid (rulesE_get hrl HOO.out.1)
       have HBQ : Hid (B = (matchP rl.1 u).2) := Lib.hid hB
       clear hrl hTx hTy hsz husz hTu hu hm hB hB400 hv hin
       go_upto_region 7 with fail
       have hEd : Ext w5 w5.drew := Ext.drew w5
       obtain ⟨d0, x0, x1, x2, x3, q0, q1, q2, q3⟩ := cs_e9 hEd ⟨d0, x0, x1, x2, x3, q0, q1, q2, q3⟩
       clear hEd
       go_cut [10, 11] from 44 to 54 (fun v10 v11 wx => ∃ sa sc, v11 = .slice sa B.length sc ∧ v10 = .int .i64 m ∧ Ext w5 wx ∧ LsG elP wx (fun c => X c ∨ q < c) (.slice sa B.length sc) B)
       case first =>
        go_region_law (
         go_simp
         go_at_call 45
         refine (HCM.out _ (by repeat (first | exact Ext.refl _ | exact Ext.alloc _ _ | apply Ext.then_dr | apply Ext.then_drN | apply Ext.then_drN2 | (refine Ext.then_al ?_ _)))).mono ?_
         rintro e w6 ⟨v6, rfl, hE6, hL6⟩
         have hL6 := hL6.wide (S' := fun c => X c ∨ q < c) (fun c h h2 => by
          rcases h with h | h | h
          · exact .inl h.1
          · exact .inl h.1
          · exact .inr (Nat.lt_of_lt_of_le HQS.out (Nat.le_trans (Ext.size (show Ext w5 _ from (by repeat (first | exact Ext.refl _ | exact Ext.alloc _ _ | apply Ext.then_dr | apply Ext.then_drN | apply Ext.then_drN2 | (refine Ext.then_al ?_ _))))) h)))
         obtain ⟨sa, sc, rfl, -, -⟩ := hL6.slice
         have HE6 := Lib.hid ((Ext.drew w5).trans hE6)
         have HL6 := Lib.hid hL6
         clear hE6 hL6)
        all_goals
         go_wp2_with fail
         go_meet
         exact ⟨_, _, rfl, rfl, HE6.out, HL6.out⟩
       case rest =>
        obtain ⟨sa, sc, rfl, rfl, hEc, hLB⟩ := hcut
        rename World => wx
        obtain ⟨-, hbl, hbc⟩ := hLB.len
        unfold maxLen at hbc
        obtain ⟨x4, x5, x6, x7⟩ := cs_e4 hEc ⟨x4, x5, x6, x7⟩
        have HT := Lib.hid (HT.out.ext hEc)
        have HP := Lib.hid (HP.out.ext hEc)
        have HBR := Lib.hid (hs_ext hEc HBR.out)
        have HBB := Lib.hid (hs_ext hEc HBB.out)
        have HBD := Lib.hid (hs_ext hEc HBD.out)
        have HE := Lib.hid (HE.out.trans hEc)
        have HTY := Lib.hid (HTY.out.ext hEc)
        have HLB := Lib.hid hLB
        have HXS : Hid (w5.heap.size ≤ wx.heap.size) := Lib.hid hEc.size
        clear hEc hLB q0 q1 q2 q3 x0 x1 x2 x3 b0 b1 b2 b3 d0 d1
        by_cases hm0 : m = 0
        · have em : (m != 0) = false := by simp [hm0]
          obtain ⟨b0, b1, b2, b3⟩ := box4r HBB.out
          have d0 : wx.cell? ⟨dx, 0, none⟩ = some (.int .i64 (n : Int)) := by rw [cellc HBD.out]; rfl
          have d1 : wx.cell? ⟨dx, 1, none⟩ = some (.slice pa r2.length pc) := by rw [cellc HBD.out]; rfl
          obtain ⟨P, hP⟩ : ∃ P, P = putG B rl.2 := ⟨_, rfl⟩
          obtain ⟨y, hy⟩ : ∃ y, repT r2 t P = some y := Option.isSome_iff_exists.1 (by rw [hP]; exact HATS.out)
          have HQ3 : Hid (Q = if validT y ≠ 0 then (validT y, zeroTm) else (0, y)) := Lib.hid (by rw [HQ2.out, if_neg (by simp [hm0])]; unfold lastG; rw [← hP, hy])
          have HPZ : Hid (sizeT P ≤ 160000) := Lib.hid (by have := putG_size HB400.out rl.2; have := HRV.out; rw [hP]; omega)
          have HYZ : Hid (sizeT y ≤ 200000) := Lib.hid (by have := repT_size r2 t P y u hy HU.out; have := HPZ.out; have := H400.out; omega)
          obtain ⟨Y, hY⟩ : ∃ Y : Nat → Prop, Y = fun c => X c ∨ q < c := ⟨_, rfl⟩
          have HYX : Hid (∀ c, X c → Y c) := Lib.hid (fun c h => by rw [hY]; exact .inl h)
          have HYQ : Hid (∀ c, q < c → Y c) := Lib.hid (fun c h => by rw [hY]; exact .inr h)
          have HX5 : Hid (w.heap.size ≤ wx.heap.size ∧ q < wx.heap.size) := Lib.hid ⟨by have := HXS.out; have := HQS.out; have := HQW.out; omega, by have := HXS.out; have := HQS.out; omega⟩
          have HYR : Hid (∀ c, Y c → (S c ∧ c < w.heap.size) ∨ (S' c ∧ c < w.heap.size) ∨ w.heap.size ≤ c) := Lib.hid (fun c h => by
           rw [hY] at h
           rcases h with h | h
           · exact HXR.out c h
           · exact .inr (.inr (by have := HQW.out; omega)))
          have HYN : Hid (∀ c, Y c → c ≠ rx) := Lib.hid (fun c h => by
           rw [hY] at h
           rcases h with h | h
           · have := HXW.out c h; have := HNB.out; omega
           · have := HQW.out; omega)
          have HLY := Lib.hid (HLB.out.wide (S' := fun c => Y c ∧ c < wx.heap.size) (fun c h h2 => ⟨by rw [hY]; exact h, h2⟩))
          have hPe : errT P = 0 ∧ errT y = 0 := stepG_errs (matchP rl.1 u).2 HOO.out.2 HRE.out (by rw [HBQ.out] at hP; exact hP) hy
          have hcp := fun (w' : World) (hE : Ext wx w') => (RPut_any 400 w' (fun c => Y c ∧ c < wx.heap.size) sa za sc zc B rl.2 HRV.out (by omega) HBV.out (fun c h => Nat.lt_of_lt_of_le h.2 hE.size) (HLY.out.ext hE) ((HTY.out.wide (fun c h h2 => ⟨HYX.out c h, h2⟩)).ext hE)).mono (R' := fun e w'' => ∃ v, e = .returned v ∧ Ext w' w'' ∧ resZ Y P v w'') (fun e w'' ⟨v, e1, e2, a, c, e3, h⟩ => ⟨v, e1, e2, a, c, by rw [hP]; exact e3, TmW.z (by rw [hP]; exact h.wide (fun c h _ => h.elim (fun h => h.1) (fun h => HYQ.out c (by have := HX5.out; have := hE.size; omega)))) hPe.1⟩)
          have HCP := Lib.hid hcp
          have hcr := fun (w' : World) (pa' : Option Addr) (pc' : Nat) (hE : Ext wx w') (h : TmW w' Y pa' pc' P) => (RReplace_any P (by have := HPZ.out; omega) r2 w' Y _ ta pa pa' tc pc pc' t (by have := H400.out; omega) ((HT.out.ext hE).wide (fun c h _ => HYX.out c h)) (HP.out.ext hE) h).mono (R' := fun e w'' => ∃ v, e = .returned v ∧ Ext w' w'' ∧ resZ2 Y y 0 v w'') (fun e w'' ⟨v, er, e1, e2, e3⟩ => by
           rw [hy] at e3
           obtain ⟨rfl, a, c, rfl, h⟩ := atR_some e3
           exact ⟨_, e1, e2, _, rfl, a, c, rfl, TmW.z (h.wide (fun c h _ => h.elim id (fun h => HYQ.out c (by have := HX5.out; have := hE.size; omega)))) hPe.2⟩)
          have HCR := Lib.hid hcr
          clear hP hy hcp hcr hm0 hPe hY
          go_upto_region 10 with fail
          have HFCT := Lib.hid (And.intro b0 (And.intro b1 (And.intro b2 (And.intro b3 (And.intro d0 (And.intro d1 (And.intro x4 (And.intro x5 (And.intro x6 x7)))))))))
          refine wp_region_reg 18 true (by kernel_rfl) (by kernel_rfl) ?_
          refine reg_value (fun _ => rfl) ?_ (fun g w' vs hM hE hP => ?_) ?_
          rotate_left
          · (clear hP hM; have ⟨z0, z1, z2, z3, z4, z5, z6, z7, z8, z9⟩ := cs_e10 hE HFCT.out; go_simp; first | done | rfl)
          refine reg_value (fun _ => rfl) ?_ (fun g w' vs hM hE hP => ?_) ?_
          rotate_left
          · (clear hP hM; have ⟨z0, z1, z2, z3, z4, z5, z6, z7, z8, z9⟩ := cs_e10 hE HFCT.out; go_simp; first | done | rfl)
          refine reg_value (fun _ => rfl) ?_ (fun g w' vs hM hE hP => ?_) ?_
          rotate_left
          · (clear hP hM; have ⟨z0, z1, z2, z3, z4, z5, z6, z7, z8, z9⟩ := cs_e10 hE HFCT.out; go_simp; first | done | rfl)
          refine reg_value (fun _ => rfl) ?_ (fun g w' vs hM hE hP => ?_) ?_
          rotate_left
          · (clear hP hM; have ⟨z0, z1, z2, z3, z4, z5, z6, z7, z8, z9⟩ := cs_e10 hE HFCT.out; go_simp; first | done | rfl)
          refine reg_value (fun _ => rfl) ?_ (fun g w' vs hM hE hP => ?_) ?_
          rotate_left
          · (clear hP hM; have ⟨z0, z1, z2, z3, z4, z5, z6, z7, z8, z9⟩ := cs_e10 hE HFCT.out; go_simp; first | done | rfl)
          refine reg_value (fun _ => rfl) ?_ (fun g w' vs hM hE hP => ?_) ?_
          rotate_left
          · (clear hP hM; have ⟨z0, z1, z2, z3, z4, z5, z6, z7, z8, z9⟩ := cs_e10 hE HFCT.out; go_simp; first | done | rfl)
          refine reg_value (fun _ => rfl) ?_ (fun g w' vs hM hE hP => ?_) ?_
          rotate_left
          · (clear hP hM; have ⟨z0, z1, z2, z3, z4, z5, z6, z7, z8, z9⟩ := cs_e10 hE HFCT.out; go_simp; first | done | rfl)
          refine reg_value (fun _ => rfl) ?_ (fun g w' vs hM hE hP => ?_) ?_
          rotate_left
          · (clear hP hM; have ⟨z0, z1, z2, z3, z4, z5, z6, z7, z8, z9⟩ := cs_e10 hE HFCT.out; go_simp; first | done | rfl)
          refine reg_value (fun _ => rfl) ?_ (fun g w' vs hM hE hP => ?_) ?_
          rotate_left
          · (clear hP hM; have ⟨z0, z1, z2, z3, z4, z5, z6, z7, z8, z9⟩ := cs_e10 hE HFCT.out; go_simp; first | done | rfl)
          refine reg_value (fun _ => rfl) ?_ (fun g w' vs hM hE hP => ?_) ?_
          rotate_left
          · (clear hP hM; have ⟨z0, z1, z2, z3, z4, z5, z6, z7, z8, z9⟩ := cs_e10 hE HFCT.out; go_simp; first | done | rfl)
          refine reg_call (fun _ => rfl) 48 (fun _ => #[.slice sa B.length sc, .agg #[.int .i64 rl.2.kind, .string rl.2.name, .int .i64 rl.2.sort, .slice za rl.2.kids.length zc]]) (fun g w' m hM hE hP => ?_) (resZ Y P) resZ.persist (fun g w' m hM hE hP => HCP.out w' hE) ?_
          · (clear hP hM; go_simp; first | done | exact ⟨rfl, rfl⟩ | rfl)
          refine reg_call (fun _ => rfl) 47 (fun g => #[.agg #[.int .i64 t.kind, .string t.name, .int .i64 t.sort, .slice ta t.kids.length tc], .slice pa r2.length pc, (g 10).v]) (fun g w' m hM hE hP => ?_) (resZ2 Y y 0) resZ2.persist (fun g w' m hM hE hP => ?_) ?_
          · (clear hP hM; go_simp; first | done | exact ⟨rfl, rfl⟩ | rfl)
          · obtain ⟨pa', pc', hu, hT⟩ := hP _ List.mem_cons_self (anc_of 3 (by kernel_rfl))
            have hu : (g 10).v = _ := hu
            rw [hu]
            exact HCR.out w' pa' pc' hE hT.tm
          refine reg_value (fun _ => rfl) ?_ (fun g w' vs hM hE hP => ?_) ?_
          rotate_left
          · (clear hP hM; have ⟨z0, z1, z2, z3, z4, z5, z6, z7, z8, z9⟩ := cs_e10 hE HFCT.out; go_simp; first | done | rfl)
          refine reg_value (fun _ => rfl) (fun g => tupOf (g 11).v 0) (fun g w' vs hM hE hP => ?_) ?_
          · obtain ⟨_, hu, -⟩ := hP _ List.mem_cons_self (anc_of 3 (by kernel_rfl))
            have hu : (g 11).v = _ := hu
            clear hP hM
            go_simp
            first | done | simp [tupOf, hu]
          refine reg_value (fun _ => rfl) (fun g => tupOf (g 11).v 1) (fun g w' vs hM hE hP => ?_) ?_
          · obtain ⟨_, hu, -⟩ := hP _ List.mem_cons_self (anc_of 3 (by kernel_rfl))
            have hu : (g 11).v = _ := hu
            clear hP hM
            go_simp
            first | done | simp [tupOf, hu]
          refine reg_fresh (fun _ => rfl) (fun n => .pointer (some ⟨n, 0, none⟩)) ?_ (fun g w' vs hM hE hP => ?_) ?_
          rotate_left
          · (clear hP hM; go_simp; first | done | rfl | exact ⟨rfl, rfl⟩)
          refine reg_turn (fun _ => rfl) 15 (fun _ => .cells #[.int .i64 0, .string ⟨#[]⟩, .int .i64 0, .slice none 0 0] 25) (fun g => .cells (aggOf (tupOf (g 11).v 0)) 25) List.mem_cons_self (anc_of 3 (by kernel_rfl)) (fun _ => .inr rfl) (fun g w' m hM hE hP hb => ?_) ?_
          · obtain ⟨k9, n9, s9, a9, l9, c9, hu⟩ := resZ2_shape (hP _ List.mem_cons_self (anc_of 3 (by kernel_rfl)))
            exact turn_store hb hu (fun z0 z1 z2 z3 f0 f1 f2 f3 ht => by clear hP hM hb hE hu; go_simp)
          refine reg_value (fun _ => rfl) ?_ (fun g w' vs hM hE hP => ?_) ?_
          rotate_left
          · (clear hP hM; have ⟨z0, z1, z2, z3, z4, z5, z6, z7, z8, z9⟩ := cs_e10 hE HFCT.out; go_simp; first | done | rfl)
          intro g wy hEy hF hQ
          simp only [List.drop_succ_cons, List.drop_zero, Act.put, List.setIfInBounds_toArray, List.set_cons_succ, List.set_cons_zero]
          obtain ⟨v, hu, oa, oc, rfl, hTy⟩ := hQ _ List.mem_cons_self
          have hu : (g 11).v = _ := hu
          have ht0 : tupOf (g 11).v 0 = .agg #[.int .i64 y.kind, .string y.name, .int .i64 y.sort, .slice oa y.kids.length oc] := by rw [hu]; rfl
          have ht1 : tupOf (g 11).v 1 = .int .i64 0 := by rw [hu]; rfl
          obtain ⟨hFb, hFo⟩ := hF.2.1 (15, fun g => .cells (aggOf (tupOf (g 11).v 0)) 25) (by simp)
          simp only [ht0, aggOf] at hFb
          simp only [ht0, ht1]
          simp only [hu]
          clear hF hQ hu ht0 ht1
          generalize (g 15).n = o at hFb hFo ⊢
          generalize (g 10).v = v69
          have HBR := Lib.hid (hs_ext hEy HBR.out)
          have HE := Lib.hid (HE.out.trans hEy)
          obtain ⟨o0, o1, o2, o3⟩ := box4r hFb
          obtain ⟨er, her⟩ : ∃ er, er = validT y := ⟨_, rfl⟩
          have hcv := RValid_any (w := wy) (by have := HYZ.out; omega) hTy.tm
          rw [← her] at hcv HQ3
          have HCV := Lib.hid hcv
          have HTO := Lib.hid hTy.tm
          have hlo := hTy.tm.len
          have hco := hTy.tm.cap
          unfold maxLen at hco
          clear hcv her hTy hFb hFo hEy b0 b1 b2 b3 d0 d1 x4 x5 x6 x7
          go_wp2_with fail
          refine HCV.out.mono ?_
          rintro e wz ⟨rfl, hEz⟩
          obtain ⟨o0, o1, o2, o3⟩ := cs_e4 hEz ⟨o0, o1, o2, o3⟩
          have HTO := Lib.hid (HTO.out.ext hEz)
          have HE := Lib.hid (HE.out.trans hEz)
          have HBR := Lib.hid (hs_ext hEz HBR.out)
          clear hEz
          by_cases he0 : er = 0
          · have ee : (er != 0) = false := by simp [he0]
            have HF : Hid (Q = (0, y)) := Lib.hid (by rw [HQ3.out, if_neg (by simp [he0])])
            clear he0
            go_wp2_with (first
             | (refine wpList_storeT rfl (.tmp 6) (.tmp 79) rfl (g := rx) rfl (k := y.kind) (s := y.sort) (n := y.name) (ka := oa) (kl := y.kids.length) (kc := oc) rfl HBR.out rfl ?_
                intro wq c6 q6 e6 z6
                have HG6 := Lib.hid c6
                have HQ6 := Lib.hid q6
                have HEQ := Lib.hid (e6 w HE.out (by have := HNB.out; omega))
                clear c6 q6 e6 z6))
            refine ret_term2 (g := rx) rfl rfl HG6.out rfl ⟨_, _, rfl, HEQ.out, by rw [HF.out], fun _ => ?_, fun h => absurd (by rw [HF.out]) h⟩
            rw [HF.out]
            exact ⟨oa, oc, rfl, HTO.out.keep (fun c h _ => HQ6.out c (HYN.out c h)) (fun c h _ => HYR.out c h)⟩
          · have ee : (er != 0) = true := by simp [he0]
            have HF : Hid (Q = (er, zeroTm) ∧ er ≠ 0) := Lib.hid ⟨by rw [HQ3.out, if_pos he0], he0⟩
            clear he0
            go_wp2_with (first
             | (refine wpList_buildT rfl [] rfl [] rfl built_none ?_)
             | (refine wpList_storeT rfl (.tmp 6) (.tmp 77) rfl (g := rx) rfl (k := 0) (s := 0) (n := ⟨#[]⟩) (ka := none) (kl := 0) (kc := 0) rfl HBR.out rfl ?_
                intro w9 c9 q9 e9 z9
                have HG9 := Lib.hid c9
                have HE9 := Lib.hid (e9 w HE.out (by have := HNB.out; omega))
                clear c9 q9 e9 z9))
            exact ret_term2 (g := rx) rfl rfl HG9.out rfl ⟨_, _, rfl, HE9.out, by rw [HF.out.1]; exact ⟨rfl, fun h => absurd h HF.out.2, fun _ => rfl⟩⟩
        · have HF : Hid (Q = (11, zeroTm) ∧ (11 : Int) ≠ 0) := Lib.hid ⟨by rw [HQ2.out, if_pos hm0], by decide⟩
          have em : (m != 0) = true := by simp [hm0]
          clear hm0
          go_wp2_with (first
           | (refine wpList_buildT rfl [] rfl [] rfl built_none ?_)
           | (refine wpList_storeT rfl (.tmp 6) (.tmp 57) rfl (g := rx) rfl (k := 0) (s := 0) (n := ⟨#[]⟩) (ka := none) (kl := 0) (kc := 0) rfl HBR.out rfl ?_
              intro w9 c9 q9 e9 z9
              have HG9 := Lib.hid c9
              have HE9 := Lib.hid (e9 w HE.out (by have := HNB.out; omega))
              clear c9 q9 e9 z9))
          exact ret_term2 (g := rx) rfl rfl HG9.out rfl ⟨_, _, rfl, HE9.out, by rw [HF.out.1]; exact ⟨rfl, fun h => absurd h HF.out.2, fun _ => rfl⟩⟩
     · have HF : Hid (Q = (7, zeroTm) ∧ (7 : Int) ≠ 0) := Lib.hid ⟨by
        rw [HQ1.out]
        unfold stepG ruleAt
        by_cases h0 : 0 ≤ r1
        · rw [if_pos h0, List.getElem?_eq_none (by omega)]
        · rw [if_neg h0], by decide⟩
       subst her
       by_cases hlt0 : r1 < 0
       · skip
         go_wp2_with (first
          | (refine wpList_buildT rfl [] rfl [] rfl built_none ?_)
          | (refine wpList_storeT rfl (.tmp 6) (.tmp 43) rfl (g := rx) rfl (k := 0) (s := 0) (n := ⟨#[]⟩) (ka := none) (kl := 0) (kc := 0) rfl HBR.out rfl ?_
             intro w9 c9 q9 e9 z9
             have HG9 := Lib.hid c9
             have HE9 := Lib.hid (e9 w HE.out (by have := HNB.out; omega))
             clear c9 q9 e9 z9))
         exact ret_term2 (g := rx) rfl rfl HG9.out rfl ⟨_, _, rfl, HE9.out, by rw [HF.out.1]; exact ⟨rfl, fun h => absurd h HF.out.2, fun _ => rfl⟩⟩
       · have hge0 : (R.length : Int) ≤ r1 := by omega
         go_wp2_with (first
          | (refine wpList_buildT rfl [] rfl [] rfl built_none ?_)
          | (refine wpList_storeT rfl (.tmp 6) (.tmp 43) rfl (g := rx) rfl (k := 0) (s := 0) (n := ⟨#[]⟩) (ka := none) (kl := 0) (kc := 0) rfl HBR.out rfl ?_
             intro w9 c9 q9 e9 z9
             have HG9 := Lib.hid c9
             have HE9 := Lib.hid (e9 w HE.out (by have := HNB.out; omega))
             clear c9 q9 e9 z9))
         exact ret_term2 (g := rx) rfl rfl HG9.out rfl ⟨_, _, rfl, HE9.out, by rw [HF.out.1]; exact ⟨rfl, fun h => absurd h HF.out.2, fun _ => rfl⟩⟩
   · have HF : Hid (Q = (7, zeroTm) ∧ (7 : Int) ≠ 0) := Lib.hid ⟨by
      rw [HQ1.out]
      unfold stepG
      cases hra : ruleAt R r1 with
      | none => rfl
      | some rl => simp only [hn], by decide⟩
     subst her
     by_cases hlt0 : r1 < 0
     · skip
       go_wp2_with (first
        | (refine wpList_buildT rfl [] rfl [] rfl built_none ?_)
        | (refine wpList_storeT rfl (.tmp 6) (.tmp 43) rfl (g := rx) rfl (k := 0) (s := 0) (n := ⟨#[]⟩) (ka := none) (kl := 0) (kc := 0) rfl HBR.out rfl ?_
           intro w9 c9 q9 e9 z9
           have HG9 := Lib.hid c9
           have HE9 := Lib.hid (e9 w HE.out (by have := HNB.out; omega))
           clear c9 q9 e9 z9))
       exact ret_term2 (g := rx) rfl rfl HG9.out rfl ⟨_, _, rfl, HE9.out, by rw [HF.out.1]; exact ⟨rfl, fun h => absurd h HF.out.2, fun _ => rfl⟩⟩
     · by_cases hge0 : (R.length : Int) ≤ r1
       · skip
         go_wp2_with (first
          | (refine wpList_buildT rfl [] rfl [] rfl built_none ?_)
          | (refine wpList_storeT rfl (.tmp 6) (.tmp 43) rfl (g := rx) rfl (k := 0) (s := 0) (n := ⟨#[]⟩) (ka := none) (kl := 0) (kc := 0) rfl HBR.out rfl ?_
             intro w9 c9 q9 e9 z9
             have HG9 := Lib.hid c9
             have HE9 := Lib.hid (e9 w HE.out (by have := HNB.out; omega))
             clear c9 q9 e9 z9))
         exact ret_term2 (g := rx) rfl rfl HG9.out rfl ⟨_, _, rfl, HE9.out, by rw [HF.out.1]; exact ⟨rfl, fun h => absurd h HF.out.2, fun _ => rfl⟩⟩
       · have hge1 : r1 < (R.length : Int) := by omega
         go_wp2_with (first
          | (refine wpList_buildT rfl [] rfl [] rfl built_none ?_)
          | (refine wpList_storeT rfl (.tmp 6) (.tmp 43) rfl (g := rx) rfl (k := 0) (s := 0) (n := ⟨#[]⟩) (ka := none) (kl := 0) (kc := 0) rfl HBR.out rfl ?_
             intro w9 c9 q9 e9 z9
             have HG9 := Lib.hid c9
             have HE9 := Lib.hid (e9 w HE.out (by have := HNB.out; omega))
             clear c9 q9 e9 z9))
         exact ret_term2 (g := rx) rfl rfl HG9.out rfl ⟨_, _, rfl, HE9.out, by rw [HF.out.1]; exact ⟨rfl, fun h => absurd h HF.out.2, fun _ => rfl⟩⟩
 · have e1 : (o1 != 0) = true := by simp [h1]
   have HF : Hid (Q = (o1, zeroTm) ∧ o1 ≠ 0) := Lib.hid ⟨by rw [HQ0.out, if_pos h1], h1⟩
   clear h1
   go_wp2_with (first
    | (refine wpList_buildT rfl [] rfl [] rfl built_none ?_)
    | (refine wpList_storeT rfl (.tmp 6) (.tmp 20) rfl (g := rx) rfl (k := 0) (s := 0) (n := ⟨#[]⟩) (ka := none) (kl := 0) (kc := 0) rfl HBR.out rfl ?_
       intro w9 c9 q9 e9 z9
       have HG9 := Lib.hid c9
       have HE9 := Lib.hid (e9 w HE.out (by have := HNB.out; omega))
       clear c9 q9 e9 z9))
   exact ret_term2 (g := rx) rfl rfl HG9.out rfl ⟨_, _, rfl, HE9.out, by rw [HF.out.1]; exact ⟨rfl, fun h => absurd h HF.out.2, fun _ => rfl⟩⟩

theorem applyP_step {R : List Rl} {t : Tm} {r : Rdx} (hR : rulesE R = 0) (ht : validT t = 0) : applyP R t r = stepP R t r := by
 unfold applyP
 rw [if_neg (by rw [hR, ht]; simp [orE])]
theorem errR_res {w : World} {S Y : Nat → Prop} {v : Value} {er : Int} {Q : Int × Tm} (h : errR w S v er Q.2 Q.1) (he : Q.1 = 0 → errT Q.2 = 0) (hS : ∀ c, S c → Y c) : resE Y Q (.tuple #[v, .int .i64 er]) w := by
 obtain ⟨rfl, h0, h1⟩ := h
 by_cases hq : Q.1 = 0
 · obtain ⟨a, c, rfl, hT⟩ := h0 hq
   exact ⟨_, _, _, _, _, _, rfl, fun _ => ⟨rfl, rfl, rfl, rfl, TmW.z (hT.wide (fun c h _ => hS c h)) (he hq)⟩⟩
 · rw [h1 hq]
   exact ⟨_, _, _, _, _, _, rfl, fun h => absurd h hq⟩

set_option maxRecDepth 100000 in
set_option maxHeartbeats 8000000 in
theorem RTrace_any {w : World} {S S' S'' S3 : Nat → Prop} {a ta la ua : Option Addr} {cap tc lc uc : Nat} {R : List Rl} {t u : Tm} {l : List Rdx} (hz : smallR R) (hL : LsG elP w S (.slice a R.length cap) R) (ht : sizeT t ≤ 100000) (hT : TmW w S' ta tc t) (hX : LsG elX w S'' (.slice la l.length lc) l) (hu : sizeT u ≤ 100000) (hU : TmW w S3 ua uc u) :
 Calls Tryz.prog 24 #[.slice a R.length cap, .agg #[.int .i64 t.kind, .string t.name, .int .i64 t.sort, .slice ta t.kids.length tc], .slice la l.length lc, .agg #[.int .i64 u.kind, .string u.name, .int .i64 u.sort, .slice ua u.kids.length uc]] w fun e w' => e = .returned (.bool (traceP R t l u)) ∧ Ext w w' := by
 obtain ⟨-, hll, hlc⟩ := hL.len
 unfold maxLen at hlc
 obtain ⟨-, hxl, hxc⟩ := hX.len
 unfold maxLen at hxc
 obtain ⟨bx, w1, hbbx, hwbx, HBbx, hEbx⟩ := box_new w (.cells #[.int .i64 t.kind, .string t.name, .int .i64 t.sort, .slice ta t.kids.length tc] 25)
 have hs1 : w1.heap.size = bx + 1 := by rw [hwbx, hbbx, World.size_alloc]
 obtain ⟨yx, hyx⟩ : ∃ zz9, zz9 = bx + 1 := ⟨_, rfl⟩
 obtain ⟨w2, hw2⟩ : ∃ zz9, zz9 = w1.alloc (.cells #[.int .i64 u.kind, .string u.name, .int .i64 u.sort, .slice ua u.kids.length uc] 25) := ⟨_, rfl⟩
 have hE2 : Ext w1 w2 := by rw [hw2]; exact Ext.alloc _ _
 have HBY : Hid (w2.heap[yx]? = some (.cells #[.int .i64 u.kind, .string u.name, .int .i64 u.sort, .slice ua u.kids.length uc] 25)) := Lib.hid (by rw [hw2, hyx, ← hs1]; exact hs_new)
 have hEa := hEbx.trans hE2
 have HE2 := Lib.hid hEa
 have HNB : Hid (w.heap.size = bx ∧ yx = bx + 1) := Lib.hid ⟨hbbx.symm, hyx⟩
 have HBB := Lib.hid (hs_ext hE2 HBbx.out)
 obtain ⟨b0, b1, b2, b3⟩ := box4r (HBB.out)
 have HL0 := Lib.hid (hL.wide (S' := fun c => c ≠ bx) (fun c _ hc => by omega))
 have HX0 := Lib.hid hX.any
 have HU0 := Lib.hid hU.any
 have HT0 := Lib.hid (hT.keep (w' := w) (S' := fun c => c ≠ bx) (fun _ _ _ => rfl) (fun c _ hc => by omega))
 have HT := Lib.hid (hT.ext hEa).any
 have HZ := Lib.hid hz
 have HTZ := Lib.hid ht
 have HUZ := Lib.hid hu
 have hc1 := RRight_any hz (hL.ext hEa) (by omega) HT.out
 obtain ⟨o1, ho1⟩ : ∃ o, o = orE (rulesE R) (validT t) := ⟨_, rfl⟩
 rw [← ho1] at hc1
 have HC1 := Lib.hid hc1
 obtain ⟨Z, hZ⟩ : ∃ Z, Z = traceP R t l u := ⟨_, rfl⟩
 rw [← hZ]
 unfold traceP at hZ
 rw [← ho1] at hZ
 have HZZ := Lib.hid hZ
 have HO := Lib.hid ho1
 clear hL hT hX hU hz ht hu hc1 ho1 hZ hEbx hE2 hEa hs1
 go_enter Tryz.func24, Tryz.ntmps24
 go_upto_region 1 with fail
 rw [← hwbx, ← hbbx, ← hw2, ← hyx]
 clear hwbx hbbx hw2 hyx
 go_wp2_with fail
 refine HC1.out.mono ?_
 rintro e w4 ⟨rfl, hE4⟩
 obtain ⟨b0, b1, b2, b3⟩ := cs_e4 hE4 ⟨b0, b1, b2, b3⟩
 have HT := Lib.hid (HT.out.ext hE4)
 have HE2 := Lib.hid (HE2.out.trans hE4)
 have HBB := Lib.hid (hs_ext hE4 HBB.out)
 have HBY := Lib.hid (hs_ext hE4 HBY.out)
 clear hE4
 by_cases h2 : o1 = 0
 · have e2 : (o1 != 0) = false := by simp [h2]
   have HOO : Hid (rulesE R = 0 ∧ validT t = 0) := Lib.hid (orE_split (by rw [← HO.out]; exact h2))
   have HV0 : Hid (validT t = 0) := Lib.hid HOO.out.2
   have HR0 : Hid (rulesE R = 0) := Lib.hid HOO.out.1
   obtain ⟨CQ, hCQ⟩ : ∃ CQ, CQ = checkL R l t := ⟨_, rfl⟩
   have HZ2 : Hid (Z = endB CQ u) := Lib.hid (by rw [HZZ.out, if_neg (by simp [h2]), hCQ])
   have HCQ := Lib.hid hCQ
   clear h2 hCQ
   go_wp2_with fail
   go_loopw [9] (fun jv wr => Hid (∃ (j : Nat) (x : Tm) (ka : Option Addr) (kc : Nat), jv = .int .i64 j ∧ j ≤ l.length ∧ checkL R (l.drop j) x = CQ ∧ validT x = 0 ∧ wr.heap[bx]? = some (.cells #[.int .i64 x.kind, .string x.name, .int .i64 x.sort, .slice ka x.kids.length kc] 25) ∧ TmW wr (fun c => c ≠ bx) ka kc x ∧ Ext w wr ∧ wr.heap[yx]? = some (.cells #[.int .i64 u.kind, .string u.name, .int .i64 u.sort, .slice ua u.kids.length uc] 25))) (fun jv _ => l.length - (intOf jv).toNat)
   case atStart => exact Lib.hid ⟨0, t, ta, tc, rfl, by omega, HCQ.out.symm, HV0.out, HBB.out, HT0.out.ext HE2.out, HE2.out, HBY.out⟩
   case round =>
    obtain ⟨j, x, ka, kc, rfl, hj, hC, hv, hbx, hTx, hE, hby⟩ := hrel.out
    have HC := Lib.hid hC
    have HV := Lib.hid hv
    have HBX := Lib.hid hbx
    have HTX := Lib.hid hTx
    have HE := Lib.hid hE
    have HBU := Lib.hid hby
    have hlx := hTx.len
    have hcx := hTx.cap
    unfold maxLen at hcx
    have HX4 : Hid (sizeT x ≤ 400) := Lib.hid (validT_iff.1 hv).2.1
    clear hrel hC hv hbx hTx hE hby b0 b1 b2 b3
    obtain ⟨x0, x1, x2, x3⟩ := box4r (HBX.out)
    by_cases hlt : j < l.length
    · obtain ⟨q, hq⟩ : ∃ q, l[j]? = some q := ⟨_, List.getElem?_eq_getElem hlt⟩
      obtain ⟨xb, xo, pa, pc, rfl, r0, r1, hr64, hpl, hpc, hP⟩ := (HX0.out.ext HE.out).xAt hq
      unfold maxLen at hpc
      have HDR : Hid (l.drop j = q :: l.drop (j + 1)) := Lib.hid (by
       obtain ⟨h, e⟩ := List.getElem?_eq_some_iff.1 hq
       rw [List.drop_eq_getElem_cons h, e])
      have HI64 := Lib.hid hr64
      obtain ⟨Q, hQ⟩ : ∃ Q, Q = stepP R x q := ⟨_, rfl⟩
      have HQV : Hid (Q.1 = 0 → validT Q.2 = 0) := Lib.hid (fun h => by rw [hQ] at h ⊢; exact stepP_ok h)
      have HWB : Hid (bx < wr.heap.size) := Lib.hid (lt_of_get' HBX.out)
      have hca := fun (w' : World) (hE' : Ext wr w') => (RApply_any (w := w') (r := q) HZ.out hr64 ((HL0.out.ext HE.out).ext hE') (by have := HX4.out; omega) (HTX.out.ext hE') (hP.ext hE')).mono (R' := fun e w'' => ∃ v, e = .returned v ∧ Ext w' w'' ∧ resE (fun c => c ≠ bx) Q v w'') (fun e w'' ⟨v, er, e1, e2, e3⟩ => ⟨_, e1, e2, by
       rw [applyP_step HR0.out HV.out, ← hQ] at e3
       exact errR_res e3 (fun h => (validT_iff.1 (HQV.out h)).1) (fun c h => by
        rcases h with h | h | h
        · exact h.1
        · exact h.1
        · have := hE'.size; have := HWB.out; omega)⟩)
      have HCA := Lib.hid hca
      have HNX0 : Hid (Q.1 = 0 → checkL R (l.drop (j + 1)) Q.2 = CQ) := Lib.hid (fun h => by rw [← HC.out, HDR.out, checkL, if_neg (by rw [← hQ]; simpa using h), hQ])
      have HNX1 : Hid (Q.1 ≠ 0 → Z = false) := Lib.hid (fun h => by rw [HZ2.out, ← HC.out, HDR.out, checkL, if_pos (by rw [← hQ]; exact h)]; rfl)
      have hjn : (j : Int) < (l.length : Int) := by omega
      have hj0 : (0 : Int) ≤ (j : Int) := by omega
      clear hr64 hP hq hca hQ
      go_upto_region 6 with fail
      have HFCT := Lib.hid (And.intro x0 (And.intro x1 (And.intro x2 (And.intro x3 (And.intro r0 r1)))))
      refine wp_region_reg 13 true (by kernel_rfl) (by kernel_rfl) ?_
      refine reg_value (fun _ => rfl) ?_ (fun g w' vs hM hE hP => ?_) ?_
      rotate_left
      · (clear hP hM; have ⟨z0, z1, z2, z3, z4, z5⟩ := cs_e6 hE HFCT.out; go_simp; first | done | rfl)
      refine reg_value (fun _ => rfl) ?_ (fun g w' vs hM hE hP => ?_) ?_
      rotate_left
      · (clear hP hM; have ⟨z0, z1, z2, z3, z4, z5⟩ := cs_e6 hE HFCT.out; go_simp; first | done | rfl)
      refine reg_value (fun _ => rfl) ?_ (fun g w' vs hM hE hP => ?_) ?_
      rotate_left
      · (clear hP hM; have ⟨z0, z1, z2, z3, z4, z5⟩ := cs_e6 hE HFCT.out; go_simp; first | done | rfl)
      refine reg_value (fun _ => rfl) ?_ (fun g w' vs hM hE hP => ?_) ?_
      rotate_left
      · (clear hP hM; have ⟨z0, z1, z2, z3, z4, z5⟩ := cs_e6 hE HFCT.out; go_simp; first | done | rfl)
      refine reg_value (fun _ => rfl) ?_ (fun g w' vs hM hE hP => ?_) ?_
      rotate_left
      · (clear hP hM; have ⟨z0, z1, z2, z3, z4, z5⟩ := cs_e6 hE HFCT.out; go_simp; first | done | rfl)
      refine reg_value (fun _ => rfl) ?_ (fun g w' vs hM hE hP => ?_) ?_
      rotate_left
      · (clear hP hM; have ⟨z0, z1, z2, z3, z4, z5⟩ := cs_e6 hE HFCT.out; go_simp; first | done | rfl)
      refine reg_call (fun _ => rfl) 19 (fun _ => #[.slice a R.length cap, .agg #[.int .i64 x.kind, .string x.name, .int .i64 x.sort, .slice ka x.kids.length kc], .agg #[.int .i64 q.1, .slice pa q.2.length pc]]) (fun g w' m hM hE hP => ?_) (resE (fun c => c ≠ bx) Q) resE.persist (fun g w' m hM hE hP => HCA.out w' hE) ?_
      · (clear hP hM; go_simp; first | done | exact ⟨rfl, rfl⟩ | rfl)
      refine reg_value (fun _ => rfl) ?_ (fun g w' vs hM hE hP => ?_) ?_
      rotate_left
      · (clear hP hM; have ⟨z0, z1, z2, z3, z4, z5⟩ := cs_e6 hE HFCT.out; go_simp; first | done | rfl)
      refine reg_value (fun _ => rfl) (fun g => tupOf (g 6).v 0) (fun g w' vs hM hE hP => ?_) ?_
      · obtain ⟨_, _, _, _, _, _, hu, -⟩ := hP _ List.mem_cons_self (anc_of 3 (by kernel_rfl))
        have hu : (g 6).v = _ := hu
        clear hP hM
        go_simp
        first | done | simp [tupOf, hu]
      refine reg_value (fun _ => rfl) (fun g => tupOf (g 6).v 1) (fun g w' vs hM hE hP => ?_) ?_
      · obtain ⟨_, _, _, _, _, _, hu, -⟩ := hP _ List.mem_cons_self (anc_of 3 (by kernel_rfl))
        have hu : (g 6).v = _ := hu
        clear hP hM
        go_simp
        first | done | simp [tupOf, hu]
      refine reg_fresh (fun _ => rfl) (fun n => .pointer (some ⟨n, 0, none⟩)) ?_ (fun g w' vs hM hE hP => ?_) ?_
      rotate_left
      · (clear hP hM; go_simp; first | done | rfl | exact ⟨rfl, rfl⟩)
      refine reg_turn (fun _ => rfl) 10 (fun _ => .cells #[.int .i64 0, .string ⟨#[]⟩, .int .i64 0, .slice none 0 0] 25) (fun g => .cells (aggOf (tupOf (g 6).v 0)) 25) List.mem_cons_self (anc_of 3 (by kernel_rfl)) (fun _ => .inr rfl) (fun g w' m hM hE hP hb => ?_) ?_
      · obtain ⟨k9, n9, s9, a9, l9, c9, hu⟩ := resE_shape (hP _ List.mem_cons_self (anc_of 3 (by kernel_rfl)))
        exact turn_store hb hu (fun z0 z1 z2 z3 f0 f1 f2 f3 ht => by clear hP hM hb hE hu; go_simp)
      refine reg_value (fun _ => rfl) ?_ (fun g w' vs hM hE hP => ?_) ?_
      rotate_left
      · (clear hP hM; have ⟨z0, z1, z2, z3, z4, z5⟩ := cs_e6 hE HFCT.out; go_simp; first | done | rfl)
      intro g w10 hEy hF hQ
      simp only [List.drop_succ_cons, List.drop_zero, Act.put, List.setIfInBounds_toArray, List.set_cons_succ, List.set_cons_zero]
      obtain ⟨k9, n9, s9, ya, l9, yc, hu, hTy⟩ := hQ _ List.mem_cons_self
      have hu : (g 6).v = _ := hu
      have ht0 : tupOf (g 6).v 0 = .agg #[.int .i64 k9, .string n9, .int .i64 s9, .slice ya l9 yc] := by rw [hu]; rfl
      have ht1 : tupOf (g 6).v 1 = .int .i64 Q.1 := by rw [hu]; rfl
      obtain ⟨hFb, hFo⟩ := hF.2.1 (10, fun g => .cells (aggOf (tupOf (g 6).v 0)) 25) (by simp)
      simp only [ht0, aggOf] at hFb
      simp only [ht0, ht1]
      simp only [hu]
      clear hF hQ hu ht0 ht1
      generalize (g 10).n = nx at hFb hFo ⊢
      have HEB := Lib.hid hEy
      have HBN := Lib.hid hFb
      have HB10 := Lib.hid (hs_ext hEy HBX.out)
      have HY10 := Lib.hid (hs_ext hEy HBU.out)
      by_cases h9 : Q.1 = 0
      · obtain ⟨rfl, rfl, rfl, rfl, hTz⟩ := hTy h9
        obtain ⟨X, hX⟩ : ∃ X, X = Q.2 := ⟨_, rfl⟩
        have HTY := Lib.hid hTz.tm
        have HVX : Hid (validT X = 0) := Lib.hid (by rw [hX]; exact HQV.out h9)
        have HNX : Hid (checkL R (l.drop (j + 1)) X = CQ) := Lib.hid (by rw [hX]; exact HNX0.out h9)
        have hlo := hTz.tm.len
        have hco := hTz.tm.cap
        unfold maxLen at hco
        simp only [← hX] at HTY HBN hlo ⊢
        rw [h9]
        obtain ⟨n0, n1, n2, n3⟩ := box4r HBN.out
        clear hTy hTz hFb hFo hEy h9 hX x0 x1 x2 x3 r0 r1
        go_wp2_with (first
         | (refine wpList_storeT rfl (.tmp 5) (.tmp 34) rfl (g := bx) rfl (k := X.kind) (s := X.sort) (n := X.name) (ka := ya) (kl := X.kids.length) (kc := yc) rfl HB10.out rfl ?_
            intro wq c6 q6 e6 z6
            have HG6 := Lib.hid c6
            have HQ6 := Lib.hid q6
            have HEQ := Lib.hid (e6 w (HE.out.trans HEB.out) (by have := HNB.out; omega))
            clear c6 q6 e6 z6))
        go_roundw
        case rel => exact Lib.hid ⟨j + 1, X, ya, yc, by go_num, by omega, HNX.out, HVX.out, HG6.out, HTY.out.keep (fun c h1 _ => HQ6.out c h1) (fun c h1 _ => h1), HEQ.out, by rw [HQ6.out yx (by have := HNB.out; omega)]; exact HY10.out⟩
        case measure => simp [intOf]; omega
      · have HF : Hid (Z = false) := Lib.hid (HNX1.out h9)
        obtain ⟨er, her⟩ : ∃ er, er = Q.1 := ⟨_, rfl⟩
        rw [← her] at h9 ⊢
        have ee : (er != 0) = true := by simpa using h9
        have HE9 := Lib.hid (HE.out.trans HEB.out)
        clear hTy hFb hFo hEy h9 her x0 x1 x2 x3 r0 r1
        go_wp2_with fail
        go_ret
        exact ⟨by rw [HF.out]; rfl, HE9.out⟩
    · have HF : Hid (Z = decide (cmpT x u = 0)) := Lib.hid (by
       have h := HC.out
       rw [List.drop_of_length_le (by omega), checkL] at h
       rw [HZ2.out, ← h]; rfl)
      have hjz : ¬ ((j : Int) < (l.length : Int)) := by omega
      obtain ⟨y0, y1, y2, y3⟩ := box4r (HBU.out)
      have HCC := Lib.hid (RSame_any (w := wr) (s := x) (t := u) (by have := HX4.out; omega) (by have := HUZ.out; omega) HTX.out (HU0.out.ext HE.out))
      have hlu := HU0.out.len
      go_wp2_with fail
      refine HCC.out.mono ?_
      rintro e w9 ⟨rfl, hE9⟩
      have HE9 := Lib.hid (HE.out.trans hE9)
      clear hE9
      go_wp2_with fail
      go_ret
      exact ⟨rb (by rw [HF.out, Bool.eq_iff_iff]; simp [cmpT_zero]), HE9.out⟩
 · have e2 : (o1 != 0) = true := by simp [h2]
   have HF : Hid (Z = false) := Lib.hid (by rw [HZZ.out, if_pos h2])
   clear h2
   go_wp2_with fail
   go_ret
   exact ⟨by rw [HF.out]; rfl, HE2.out⟩

end Go.Proofs.YtpfnlbaloaohgaaGreat
