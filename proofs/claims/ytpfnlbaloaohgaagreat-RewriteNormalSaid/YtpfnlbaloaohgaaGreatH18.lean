/- Contracts: the reference's normal forms. -/
import Derived.Test.YtpfnlbaloaohgaaGreatH17
import Derived.Test.YtpfnlbaloaohgaaGreatH16
import Derived.Test.YtpfnlbaloaohgaaGreatH13
import Derived.Test.YtpfnlbaloaohgaaGreatH12
namespace Go.Proofs.YtpfnlbaloaohgaaGreat
open Go Go.RowKit
set_option linter.unusedVariables false
set_option linter.unusedSimpArgs false

theorem firstP_red {R : List Rl} {u : Tm} (hR : rulesE R = 0) (hu : validT u = 0) : firstP R u = bestO (redP R u) := by rw [redP_all hR hu, best_first]
theorem bestO_drop {L : List Rdx} {r : Rdx} (h : L[0]? = some r) : bestO L = some (bestL r (L.drop 1)) := by
 cases L with
 | nil => simp at h
 | cons x L => simp at h; subst h; rfl

set_option maxRecDepth 100000 in
set_option maxHeartbeats 16000000 in
theorem RNormal_any {w : World} {S S' : Nat → Prop} {a ta : Option Addr} {cap tc : Nat} {R : List Rl} {t : Tm} {fuel : Int} (hz : smallR R) (hf : I64 fuel) (hL : LsG elP w S (.slice a R.length cap) R) (ht : sizeT t ≤ 100000) (hT : TmW w S' ta tc t) :
 Calls Tryz.prog 29 #[.slice a R.length cap, .agg #[.int .i64 t.kind, .string t.name, .int .i64 t.sort, .slice ta t.kids.length tc], .int .i64 fuel] w fun e w' => ∃ v tv er, e = .returned (.tuple #[v, tv, .int .i64 er]) ∧ Ext w w' ∧ normR w' (fun c => (S c ∧ c < w.heap.size) ∨ (S' c ∧ c < w.heap.size) ∨ w.heap.size ≤ c) v tv er (normP R t fuel) := by
 obtain ⟨-, hll, hlc⟩ := hL.len
 unfold maxLen at hlc
 obtain ⟨X, hX⟩ : ∃ X : Nat → Prop, X = fun c => (S c ∧ c < w.heap.size) ∨ (S' c ∧ c < w.heap.size) := ⟨_, rfl⟩
 have HXW : Hid (∀ c, X c → c < w.heap.size) := Lib.hid (fun c h => by rw [hX] at h; rcases h with h | h <;> exact h.2)
 have HXR : Hid (∀ c, X c → (S c ∧ c < w.heap.size) ∨ (S' c ∧ c < w.heap.size) ∨ w.heap.size ≤ c) := Lib.hid (fun c h => by rw [hX] at h; exact h.imp id Or.inl)
 have hL := hL.wide (S' := X) (fun c h h2 => by rw [hX]; exact .inl ⟨h, h2⟩)
 have hT := hT.wide (S' := X) (fun c h h2 => by rw [hX]; exact .inr ⟨h, h2⟩)
 clear hX
 obtain ⟨bx, w1, hbbx, hwbx, HBbx, hEbx⟩ := box_new w (.cells #[.int .i64 t.kind, .string t.name, .int .i64 t.sort, .slice ta t.kids.length tc] 25)
 have hs1 : w1.heap.size = bx + 1 := by rw [hwbx, hbbx, World.size_alloc]
 obtain ⟨rx, hrx⟩ : ∃ zz9, zz9 = bx + 1 := ⟨_, rfl⟩
 obtain ⟨w2, hw2⟩ : ∃ zz9, zz9 = w1.alloc (.cells #[.int .i64 0, .string ⟨#[]⟩, .int .i64 0, .slice none 0 0] 25) := ⟨_, rfl⟩
 have hE2 : Ext w1 w2 := by rw [hw2]; exact Ext.alloc _ _
 have HBR : Hid (w2.heap[rx]? = some (.cells #[.int .i64 0, .string ⟨#[]⟩, .int .i64 0, .slice none 0 0] 25)) := Lib.hid (by rw [hw2, hrx, ← hs1]; exact hs_new)
 have hEa := hEbx.trans hE2
 have HE := Lib.hid hEa
 have HNB : Hid (w.heap.size = bx ∧ rx = bx + 1) := Lib.hid ⟨hbbx.symm, hrx⟩
 have HBB := Lib.hid (hs_ext hE2 HBbx.out)
 obtain ⟨b0, b1, b2, b3⟩ := box4r (HBB.out)
 have HL := Lib.hid hL
 have HT := Lib.hid (hT.ext hEa)
 have HZ := Lib.hid hz
 have HTZ := Lib.hid ht
 have hf1 := hf.1
 have hf2 := hf.2
 have hc1 := RRight_any hz (hL.ext hEa) (by omega) HT.out
 obtain ⟨o1, ho1⟩ : ∃ o, o = orE (rulesE R) (validT t) := ⟨_, rfl⟩
 rw [← ho1] at hc1
 have HC1 := Lib.hid hc1
 obtain ⟨Q, hQ⟩ : ∃ Q, Q = normP R t fuel := ⟨_, rfl⟩
 rw [← hQ]
 unfold normP at hQ
 rw [← ho1] at hQ
 have HQ0 := Lib.hid hQ
 have HO := Lib.hid ho1
 clear hL hT hz ht hf hc1 ho1 hEbx hE2 hEa hs1 hQ
 go_enter Tryz.func29, Tryz.ntmps29
 go_upto_region 1 with fail
 rw [← hwbx, ← hbbx, ← hw2, ← hrx]
 clear hwbx hbbx hw2 hrx
 go_wp2_with fail
 refine HC1.out.mono ?_
 rintro e w3 ⟨rfl, hE3⟩
 obtain ⟨b0, b1, b2, b3⟩ := cs_e4 hE3 ⟨b0, b1, b2, b3⟩
 have HT := Lib.hid (HT.out.ext hE3)
 have HBR := Lib.hid (hs_ext hE3 HBR.out)
 have HBB := Lib.hid (hs_ext hE3 HBB.out)
 have HE := Lib.hid (HE.out.trans hE3)
 clear hE3
 by_cases h1 : o1 = 0
 · have e1 : (o1 != 0) = false := by simp [h1]
   have HOO : Hid (rulesE R = 0 ∧ validT t = 0) := Lib.hid (orE_split (by rw [← HO.out]; exact h1))
   have hq1 := HQ0.out
   rw [if_neg (by simp [h1])] at hq1
   have HQ1 := Lib.hid hq1
   have HR0 : Hid (rulesE R = 0) := Lib.hid HOO.out.1
   have H40 : Hid (R.length ≤ 40) := Lib.hid (rulesE_len HOO.out.1)
   clear h1 hq1
   by_cases hin : 0 ≤ fuel ∧ fuel ≤ 1000
   · obtain ⟨F, rfl⟩ : ∃ F : Nat, fuel = F := ⟨fuel.toNat, by omega⟩
     have hF1 : F ≤ 1000 := by omega
     have hF2 : decide ((F : Int) < 0) = false := by simp; try omega
     have hF3 : decide ((1000 : Int) < (F : Int)) = false := by simp; omega
     have hq2 := HQ1.out
     rw [if_pos hin, Int.toNat_natCast] at hq2
     have HQ2 := Lib.hid hq2
     obtain ⟨Y, hY⟩ : ∃ Y : Nat → Prop, Y = fun c => X c ∨ rx < c := ⟨_, rfl⟩
     have HYX : Hid (∀ c, X c → Y c) := Lib.hid (fun c h => by rw [hY]; exact .inl h)
     have HYQ : Hid (∀ c, rx < c → Y c) := Lib.hid (fun c h => by rw [hY]; exact .inr h)
     have HYR : Hid (∀ c, Y c → (S c ∧ c < w.heap.size) ∨ (S' c ∧ c < w.heap.size) ∨ w.heap.size ≤ c) := Lib.hid (fun c h => by
      rw [hY] at h
      rcases h with h | h
      · exact HXR.out c h
      · exact .inr (.inr (by have := HNB.out; omega)))
     have HYN : Hid (∀ c, Y c → c ≠ rx ∧ c ≠ bx) := Lib.hid (fun c h => by
      rw [hY] at h
      rcases h with h | h
      · have := HXW.out c h; have := HNB.out; omega
      · have := HNB.out; omega)
     clear hin hf1 hf2 hq2 hY
     go_wp2_with fail
     go_loopw [10] (fun ov wr => Hid (∃ (u : Tm) (T : List Rdx) (ka : Option Addr) (kc : Nat), T.length ≤ F ∧ validT u = 0 ∧ normF R (F - T.length) u T = Q ∧ wr.heap[bx]? = some (.cells #[.int .i64 u.kind, .string u.name, .int .i64 u.sort, .slice ka u.kids.length kc] 25) ∧ TmW wr (fun c => Y c ∧ ov.ownBlock ≠ some c) ka kc u ∧ OwnG elX wr (rx + 1) 35 (fun c => rx + 1 ≤ c ∧ ov.ownBlock ≠ some c) ov T ∧ Ext w wr ∧ wr.heap[rx]? = some (.cells #[.int .i64 0, .string ⟨#[]⟩, .int .i64 0, .slice none 0 0] 25))) (fun ov _ => F + 1 - lenOf ov)
     case atStart => exact Lib.hid ⟨t, [], ta, tc, by simp, HOO.out.2, by rw [HQ2.out]; rfl, HBB.out, HT.out.wide (fun c h _ => ⟨HYX.out c h, fun e => by cases e⟩), OwnG.nil, HE.out, HBR.out⟩
     case round =>
      obtain ⟨u, T, ka, kc, hTF, hv, hN, hbu, hTu, hO, hE, hbr⟩ := hrel.out
      clear HE HBR HBB HT
      have HN := Lib.hid hN
      have HBU := Lib.hid hbu
      have HTU := Lib.hid hTu
      have HOW := Lib.hid hO
      have HE := Lib.hid hE
      have HVU := Lib.hid hv
      have HBR := Lib.hid hbr
      obtain ⟨oa, oc, hov, -, hoc⟩ := hO.slice
      subst hov
      unfold maxLen at hoc
      have hlu := hTu.len
      have hcu := hTu.cap
      unfold maxLen at hcu
      have HU4 : Hid (sizeT u ≤ 400) := Lib.hid (validT_iff.1 hv).2.1
      have HWR : Hid (rx < wr.heap.size ∧ bx < wr.heap.size) := Lib.hid ⟨lt_of_get' hbr, lt_of_get' hbu⟩
      obtain ⟨L, hLd⟩ : ∃ L, L = redP R u := ⟨_, rfl⟩
      have hc := RRedexes_any (w := wr) HZ.out (HL.out.ext hE) (by have := HU4.out; omega) hTu
      rw [← hLd] at hc
      have HC := Lib.hid hc
      have HFP : Hid (firstP R u = bestO L) := Lib.hid (by rw [hLd]; exact firstP_red HR0.out hv)
      obtain ⟨u0, u1, u2, u3⟩ := box4r (HBU.out)
      have HOL : Hid (∀ c, (Value.slice oa T.length oc).ownBlock = some c → c < wr.heap.size) := Lib.hid (fun c e => (hO.lt c e).2)
      clear hrel hN hbu hTu hO hE hv hbr hc hLd b0 b1 b2 b3
      go_wp2_with fail
      refine HC.out.mono ?_
      rintro e w7 ⟨v, rfl, hE7, hL7⟩
      obtain ⟨la, lc, rfl, hll7, hlc7⟩ := hL7.slice
      unfold maxLen at hlc7
      have HL7 := Lib.hid hL7
      have HWE := Lib.hid hE7
      obtain ⟨u0, u1, u2, u3⟩ := cs_e4 hE7 ⟨u0, u1, u2, u3⟩
      have HBU := Lib.hid (hs_ext hE7 HBU.out)
      have HBR := Lib.hid (hs_ext hE7 HBR.out)
      have HTU := Lib.hid (HTU.out.ext hE7)
      have HOW := Lib.hid (HOW.out.ext hE7)
      have HE := Lib.hid (HE.out.trans hE7)
      clear hE7 hL7
      by_cases h0 : L.length = 0
      · have e0 : ((L.length : Int) == 0) = true := by simp [h0]
        have HF : Hid (Q = (0, u, T)) := Lib.hid (by
         rw [← HN.out, normF_none]
         rw [HFP.out, List.length_eq_zero_iff.1 h0]; rfl)
        clear h0
        go_wp2_with (first
         | (refine wpList_storeT rfl (.tmp 6) (.tmp 35) rfl (g := rx) rfl (k := u.kind) (s := u.sort) (n := u.name) (ka := ka) (kl := u.kids.length) (kc := kc) rfl HBR.out rfl ?_
            intro wq c6 q6 e6 z6
            have HG6 := Lib.hid c6
            have HQ6 := Lib.hid q6
            have HEQ := Lib.hid (e6 w HE.out (by have := HNB.out; omega))
            clear c6 q6 e6 z6))
        refine ret_term3 (g := rx) rfl rfl HG6.out rfl ⟨_, _, _, rfl, HEQ.out, by rw [HF.out], fun _ => ?_, fun h => absurd (by rw [HF.out]) h⟩
        rw [HF.out]
        refine ⟨⟨ka, kc, rfl, HTU.out.keep (fun c h1 h2 => HQ6.out c (HYN.out c h1.1).1) (fun c h1 _ => HYR.out c h1.1)⟩, ?_⟩
        have hO9 := HOW.out.keep (w' := wq) (S' := fun c => rx + 1 ≤ c) (fun c hc => HQ6.out c (by have := (HOW.out.lt c hc).1; omega)) (fun c h1 h2 => HQ6.out c (by have := h1.1; omega)) (fun c h1 _ => h1.1)
        exact hO9.ls (fun c h _ => .inr (.inr (by have := HNB.out; omega))) (fun g _ h1 _ => .inr (.inr (by have := HNB.out; omega)))
      · have e0 : ((L.length : Int) == 0) = false := by simpa using h0
        obtain ⟨r0, hr0⟩ : ∃ r0, L[0]? = some r0 := ⟨_, List.getElem?_eq_getElem (by omega)⟩
        have HFQ : Hid (firstP R u = some (bestL r0 (L.drop 1))) := Lib.hid (by rw [HFP.out, bestO_drop hr0])
        have HCF := Lib.hid (RFirst_any hr0 HL7.out)
        clear h0 hr0
        by_cases hfu : T.length = F
        · have ef : (((T.length : Nat) : Int) == (F : Int)) = true := by simp; omega
          have HF : Hid (Q = (14, zeroTm, []) ∧ (14 : Int) ≠ 0) := Lib.hid ⟨by rw [← HN.out, hfu, Nat.sub_self, normF_fuel HFQ.out], by decide⟩
          clear hfu
          go_wp2_with (first
           | (refine wpList_buildT rfl [] rfl [] rfl built_none ?_)
           | (refine wpList_storeT rfl (.tmp 6) (.tmp 41) rfl (g := rx) rfl (k := 0) (s := 0) (n := ⟨#[]⟩) (ka := none) (kl := 0) (kc := 0) rfl HBR.out rfl ?_
              intro w99 c6 q6 e6 z6
              have HG6 := Lib.hid c6
              have HEQ := Lib.hid (e6 w HE.out (by have := HNB.out; omega))
              clear c6 q6 e6 z6))
          exact ret_term3 (g := rx) rfl rfl HG6.out rfl ⟨_, _, _, rfl, HEQ.out, by rw [HF.out.1]; exact ⟨rfl, fun h => absurd h HF.out.2, fun _ => ⟨rfl, rfl⟩⟩⟩
        · have ef : (((T.length : Nat) : Int) == (F : Int)) = false := by simp; omega
          go_wp2_with fail
          refine HCF.out.mono ?_
          rintro e w8 ⟨v8, rfl, hE8, q, pa, pc, hq, rfl, hq64, hP8⟩
          rw [← hq] at HFQ
          obtain ⟨-, hpl, hpc⟩ := hP8.len
          unfold maxLen at hpc
          obtain ⟨vx, hvx⟩ : ∃ zz9, zz9 = w8.heap.size := ⟨_, rfl⟩
          obtain ⟨w9, hw9⟩ : ∃ zz9, zz9 = w8.alloc (.cells #[.int .i64 q.1, .slice pa q.2.length pc] 35) := ⟨_, rfl⟩
          have hEc : Ext w8 w9 := by rw [hw9]; exact Ext.alloc _ _
          have hbv : w9.heap[vx]? = some (.cells #[.int .i64 q.1, .slice pa q.2.length pc] 35) := by rw [hw9, hvx]; exact hs_new
          have HBV := Lib.hid hbv
          have v0 : w9.cell? ⟨vx, 0, none⟩ = some (.int .i64 q.1) := by rw [cellc hbv]; rfl
          have v1 : w9.cell? ⟨vx, 1, none⟩ = some (.slice pa q.2.length pc) := by rw [cellc hbv]; rfl
          have hEd := hE8.trans hEc
          have HP := Lib.hid (hP8.ext hEc)
          have HI := Lib.hid hq64
          obtain ⟨u0, u1, u2, u3⟩ := cs_e4 hEd ⟨u0, u1, u2, u3⟩
          have HBU := Lib.hid (hs_ext hEd HBU.out)
          have HBR := Lib.hid (hs_ext hEd HBR.out)
          have HTU := Lib.hid (HTU.out.ext hEd)
          have HOW := Lib.hid (HOW.out.ext hEd)
          have HE := Lib.hid (HE.out.trans hEd)
          have HWE := Lib.hid (HWE.out.trans hEd)
          have hca := RApply_any (w := w9) (r := q) HZ.out hq64 (HL.out.ext HE.out) (by have := HU4.out; omega) HTU.out HP.out
          rw [applyP_step HR0.out HVU.out] at hca
          have HCA := Lib.hid hca
          have HSV : Hid (vx < w9.heap.size) := Lib.hid (lt_of_get' hbv)
          clear hE8 hEc hbv hEd hq hq64 hP8 hca
          go_upto_region 13 with fail
          rw [← hw9, ← hvx]
          clear hw9 hvx
          go_wp2_with fail
          refine HCA.out.mono ?_
          rintro e w10 ⟨v10, er, rfl, hE10, hA10⟩
          have HWX : Hid (wr.heap.size ≤ w9.heap.size) := Lib.hid HWE.out.size
          by_cases h9 : (stepP R u q).1 = 0
          · obtain ⟨x, hx⟩ : ∃ x, x = (stepP R u q).2 := ⟨_, rfl⟩
            rw [← hx] at hA10
            obtain ⟨xa, xc, rfl, hTx⟩ := hA10.2.1 h9
            have her : er = 0 := hA10.1.trans h9
            subst her
            have HVX : Hid (validT x = 0) := Lib.hid (by rw [hx]; exact stepP_ok h9)
            have HNX : Hid (normF R (F - (T.length + 1)) x (T ++ [q]) = Q) := Lib.hid (by rw [← HN.out, normF_step HFQ.out h9 (by omega), hx]; congr 1)
            have HTX := Lib.hid (hTx.wide (S' := fun c => (Y c ∧ (Value.slice oa T.length oc).ownBlock ≠ some c) ∧ c < w10.heap.size) (fun c h h2 => ⟨by
             rcases h with h | h | h
             · exact ⟨HYX.out c h.1, fun e => by have := (HOW.out.lt c e).1; have := HXW.out c h.1; have := HNB.out; omega⟩
             · exact h.1
             · exact ⟨HYQ.out c (by have := HWX.out; have := HWR.out; omega), fun e => by have := (HOW.out.lt c e).2; omega⟩, h2⟩))
            obtain ⟨nx, hnx⟩ : ∃ zz9, zz9 = w10.heap.size := ⟨_, rfl⟩
            obtain ⟨w11, hw11⟩ : ∃ zz9, zz9 = w10.alloc (.cells #[.int .i64 x.kind, .string x.name, .int .i64 x.sort, .slice xa x.kids.length xc] 25) := ⟨_, rfl⟩
            have hE11 : Ext w10 w11 := by rw [hw11]; exact Ext.alloc _ _
            have hbn : w11.heap[nx]? = some (.cells #[.int .i64 x.kind, .string x.name, .int .i64 x.sort, .slice xa x.kids.length xc] 25) := by rw [hw11, hnx]; exact hs_new
            obtain ⟨n0, n1, n2, n3⟩ := box4r (hbn)
            have hlx := hTx.len
            have hcx := hTx.cap
            unfold maxLen at hcx
            have HS11 : Hid (w11.heap.size = w10.heap.size + 1 ∧ w9.heap.size ≤ w10.heap.size) := Lib.hid ⟨by rw [hw11, World.size_alloc], hE10.size⟩
            have hEe := hE10.trans hE11
            have HTX := Lib.hid (HTX.out.ext hE11)
            have HBU := Lib.hid (hs_ext hEe HBU.out)
            have HBR := Lib.hid (hs_ext hEe HBR.out)
            have HOW := Lib.hid (HOW.out.ext hEe)
            have HE := Lib.hid (HE.out.trans hEe)
            have HBV := Lib.hid (hs_ext hEe HBV.out)
            have HP := Lib.hid (HP.out.ext hEe)
            clear hE10 hA10 h9 hx hTx hE11 hbn hEe u0 u1 u2 u3 v0 v1
            go_upto_region 14 with fail
            rw [← hw11, ← hnx]
            clear hw11 hnx
            go_wp2_with (first
             | (refine wpList_storeT rfl (.tmp 4) (.tmp 55) rfl (g := bx) rfl (k := x.kind) (s := x.sort) (n := x.name) (ka := xa) (kl := x.kids.length) (kc := xc) rfl HBU.out rfl ?_
                intro wq c6 q6 e6 z6
                have HG6 := Lib.hid c6
                have HQ6 := Lib.hid q6
                have HEQ := Lib.hid (e6 w HE.out (by have := HNB.out; omega))
                have HZ6 := Lib.hid z6
                have HVB : Hid (wq.heap[vx]? = some (.cells #[.int .i64 q.1, .slice pa q.2.length pc] 35)) := Lib.hid ((q6 vx (by have := HSV.out; have := HBV.out; intro e; subst e; have h1 := HBU.out; rw [this] at h1; simp at h1)).trans HBV.out)
                have v0 : wq.cell? ⟨vx, 0, none⟩ = some (.int .i64 q.1) := by rw [cellc HVB.out]; rfl
                have v1 : wq.cell? ⟨vx, 1, none⟩ = some (.slice pa q.2.length pc) := by rw [cellc HVB.out]; rfl
                have HOQ := Lib.hid (HOW.out.keep (w' := wq) (S' := fun c => (rx + 1 ≤ c ∧ (Value.slice oa T.length oc).ownBlock ≠ some c) ∧ c < w11.heap.size) (fun c hc => q6 c (by have := (HOW.out.lt c hc).1; have := HNB.out; omega)) (fun c h1 h2 => q6 c (by have := h1.1; have := HNB.out; omega)) (fun c h1 h2 => ⟨h1, h2⟩))
                have HPQ := Lib.hid (HP.out.keep (w' := wq) (S' := fun c => (rx + 1 ≤ c ∧ (Value.slice oa T.length oc).ownBlock ≠ some c) ∧ c < w11.heap.size) (fun c h1 h2 => q6 c (by have := HWR.out; omega)) (fun c h1 h2 => ⟨⟨by have := HWR.out; omega, fun e => by have := HOL.out c e; omega⟩, h2⟩) (Nat.le_of_eq z6.symm))
                clear c6 q6 e6 z6)
             | (at_builtin
                refine wpList_appG (E := elX) (T := 35) rfl 29 (.tmp 56) (.tmp 58) rfl rfl rfl Tryz.underlying29 infRedex rfl (by decide) (by decide) (HOQ.out.ext (Ext.alloc _ _)) (by rw [World.size_alloc]; have := HZ6.out; have := HWR.out; have := HWX.out; have := HS11.out; omega) (fun c h => h.1.2) (by omega) (M := [q]) (by simp) (one_rdxE hs_new HI.out (HPQ.out.ext (Ext.alloc _ _))) ?_
                intro v5 wf o5 g5 k5
                have HOF := Lib.hid o5
                have HG5 : Hid ((wq.alloc (.cells #[.int .i64 q.1, .slice pa q.2.length pc] 35)).grownBy wf (Value.slice oa T.length oc).ownBlock) := Lib.hid g5
                have HK5 : Hid (v5.ownBlock = (Value.slice oa T.length oc).ownBlock ∨ v5.ownBlock = some (wq.heap.size + 1)) := Lib.hid (by rw [World.size_alloc] at k5; exact k5)
                clear o5 g5 k5))
            have hbl : ∀ c, c < wq.heap.size → (Value.slice oa T.length oc).ownBlock ≠ some c → wf.heap[c]? = wq.heap[c]? := fun c h1 h2 => (HG5.out.block c (by rw [World.size_alloc]; omega) (fun e => h2 e.symm)).trans ((Ext.alloc wq _).block h1)
            have hsz : wq.heap.size = w11.heap.size := HZ6.out
            have hrx : wr.heap.size ≤ w9.heap.size := HWX.out
            have hlo : ∀ c, c < wr.heap.size → c < wq.heap.size := fun c h => by have := HS11.out; omega
            have hob : (Value.slice oa T.length oc).ownBlock ≠ some bx := fun e => by have := (HOW.out.lt bx e).1; have := HNB.out; omega
            have hor : (Value.slice oa T.length oc).ownBlock ≠ some rx := fun e => by have := (HOW.out.lt rx e).1; omega
            have hl5 : lenOf v5 = T.length + 1 := by
             obtain ⟨y1, y2, e, -⟩ := HOF.out.slice
             rw [e]; simp [lenOf]
            have hb5 := (hbl bx (hlo bx HWR.out.2) hob).trans HG6.out
            have hr5 := ((hbl rx (hlo rx HWR.out.1) hor).trans (HQ6.out rx (by have := HNB.out; omega))).trans HBR.out
            have hk5 : v5.ownBlock = (Value.slice oa T.length oc).ownBlock ∨ v5.ownBlock = some (wq.heap.size + 1) := HK5.out
            have ht5 := HTX.out.keep (w' := wf) (S' := fun c => Y c ∧ v5.ownBlock ≠ some c) (fun c h1 h2 => (hbl c (by omega) h1.1.2).trans (HQ6.out c (HYN.out c h1.1.1).2)) (fun c h1 h2 => ⟨h1.1.1, fun e => by
             rcases hk5 with k | k
             · exact h1.1.2 (by rw [← k]; exact e)
             · rw [k] at e; have := Option.some.inj e; omega⟩)
            have ho5 := (HOF.out.wide (S' := fun c => (rx + 1 ≤ c ∧ (Value.slice oa T.length oc).ownBlock ≠ some c) ∧ c < wq.heap.size + 1) (fun c h h2 => ⟨h.1, by have := h.2; omega⟩)).turn hk5
            have he5 := Ext.grown (HEQ.out.trans (Ext.alloc _ _)) HG5.out (fun k hk => by have := (HOW.out.lt k hk).1; have := HNB.out; omega)
            go_roundw
            case rel => exact Lib.hid ⟨x, T ++ [q], xa, xc, by rw [List.length_append]; simp; omega, HVX.out, by rw [List.length_append]; exact HNX.out, hb5, ht5, ho5, he5, hr5⟩
            case measure =>
             show F + 1 - lenOf v5 < F + 1 - T.length
             rw [hl5]; omega
          · obtain rfl := hA10.2.2 h9
            have HF : Hid (Q = (er, zeroTm, []) ∧ er ≠ 0) := Lib.hid ⟨by rw [← HN.out, normF_err HFQ.out h9 (by omega), hA10.1], by rw [hA10.1]; exact h9⟩
            have ee : (er != 0) = true := by rw [hA10.1]; simpa using h9
            have hEz : Ext w9 (w10.alloc (.cells #[.int .i64 0, .string ⟨#[]⟩, .int .i64 0, .slice none 0 0] 25)) := hE10.trans (Ext.alloc _ _)
            have HBR := Lib.hid (hs_ext hEz HBR.out)
            have HE := Lib.hid (HE.out.trans hEz)
            clear hA10 hE10 h9 hEz
            go_wp2_with (first
             | (refine wpList_buildT rfl [] rfl [] rfl built_none ?_)
             | (refine wpList_storeT rfl (.tmp 6) (.tmp 53) rfl (g := rx) rfl (k := 0) (s := 0) (n := ⟨#[]⟩) (ka := none) (kl := 0) (kc := 0) rfl HBR.out rfl ?_
                intro w99 c6 q6 e6 z6
                have HG6 := Lib.hid c6
                have HEQ := Lib.hid (e6 w HE.out (by have := HNB.out; omega))
                clear c6 q6 e6 z6))
            exact ret_term3 (g := rx) rfl rfl HG6.out rfl ⟨_, _, _, rfl, HEQ.out, by rw [HF.out.1]; exact ⟨rfl, fun h => absurd h HF.out.2, fun _ => ⟨rfl, rfl⟩⟩⟩
   · have HF : Hid (Q = (7, zeroTm, []) ∧ (7 : Int) ≠ 0) := Lib.hid ⟨by rw [HQ1.out, if_neg hin], by decide⟩
     by_cases h0 : fuel < 0
     · skip
       go_wp2_with (first
        | (refine wpList_buildT rfl [] rfl [] rfl built_none ?_)
        | (refine wpList_storeT rfl (.tmp 6) (.tmp 28) rfl (g := rx) rfl (k := 0) (s := 0) (n := ⟨#[]⟩) (ka := none) (kl := 0) (kc := 0) rfl HBR.out rfl ?_
           intro w99 c6 q6 e6 z6
           have HG6 := Lib.hid c6
           have HEQ := Lib.hid (e6 w HE.out (by have := HNB.out; omega))
           clear c6 q6 e6 z6))
       exact ret_term3 (g := rx) rfl rfl HG6.out rfl ⟨_, _, _, rfl, HEQ.out, by rw [HF.out.1]; exact ⟨rfl, fun h => absurd h HF.out.2, fun _ => ⟨rfl, rfl⟩⟩⟩
     · have h1000 : (1000 : Int) < fuel := by omega
       go_wp2_with (first
        | (refine wpList_buildT rfl [] rfl [] rfl built_none ?_)
        | (refine wpList_storeT rfl (.tmp 6) (.tmp 28) rfl (g := rx) rfl (k := 0) (s := 0) (n := ⟨#[]⟩) (ka := none) (kl := 0) (kc := 0) rfl HBR.out rfl ?_
           intro w99 c6 q6 e6 z6
           have HG6 := Lib.hid c6
           have HEQ := Lib.hid (e6 w HE.out (by have := HNB.out; omega))
           clear c6 q6 e6 z6))
       exact ret_term3 (g := rx) rfl rfl HG6.out rfl ⟨_, _, _, rfl, HEQ.out, by rw [HF.out.1]; exact ⟨rfl, fun h => absurd h HF.out.2, fun _ => ⟨rfl, rfl⟩⟩⟩
 · have e1 : (o1 != 0) = true := by simp [h1]
   have HF : Hid (Q = (o1, zeroTm, []) ∧ o1 ≠ 0) := Lib.hid ⟨by rw [HQ0.out, if_pos h1], h1⟩
   clear h1
   go_wp2_with (first
    | (refine wpList_buildT rfl [] rfl [] rfl built_none ?_)
    | (refine wpList_storeT rfl (.tmp 6) (.tmp 20) rfl (g := rx) rfl (k := 0) (s := 0) (n := ⟨#[]⟩) (ka := none) (kl := 0) (kc := 0) rfl HBR.out rfl ?_
       intro w99 c6 q6 e6 z6
       have HG6 := Lib.hid c6
       have HEQ := Lib.hid (e6 w HE.out (by have := HNB.out; omega))
       clear c6 q6 e6 z6))
   exact ret_term3 (g := rx) rfl rfl HG6.out rfl ⟨_, _, _, rfl, HEQ.out, by rw [HF.out.1]; exact ⟨rfl, fun h => absurd h HF.out.2, fun _ => ⟨rfl, rfl⟩⟩⟩

end Go.Proofs.YtpfnlbaloaohgaaGreat
