/- Contracts: the reference's At. Contracts: the reference's positions. Contracts: equal redexes, equal traces. Contracts: equal joins. -/
import Derived.Test.YtpfnlbaloaohgaaGreatH4
import Derived.StillTailTactics
import Derived.Deep.QuietTactic
import Derived.BigQuiet
import Derived.Test.YtpfnlbaloaohgaaGreatH7
import Derived.Test.YtpfnlbaloaohgaaGreatH10
namespace Go.Proofs.YtpfnlbaloaohgaaGreat
open Go Go.RowKit
set_option linter.unusedVariables false
set_option linter.unusedSimpArgs false

theorem Ext.then_drN {w w' : World} {n : Nat} (h : Ext w w') : Ext w (w'.drewN n) := h.trans ⟨rfl, rfl, rfl, Nat.le_refl _, fun _ _ => rfl⟩

set_option maxRecDepth 100000 in
set_option maxHeartbeats 8000000 in
theorem RAt_any {w : World} {S Sp : Nat → Prop} {a pa : Option Addr} {cap pcap : Nat} {t : Tm} {p : List Int} (ht : sizeT t ≤ 900000) (hT : TmW w S a cap t) (hP : LsG elI w Sp (.slice pa p.length pcap) p) :
 Calls Tryz.prog 44 #[.agg #[.int .i64 t.kind, .string t.name, .int .i64 t.sort, .slice a t.kids.length cap], .slice pa p.length pcap] w fun e w' => ∃ v er, e = .returned (.tuple #[v, .int .i64 er]) ∧ Ext w w' ∧ atR w' S v er (atT p t) := by
 obtain ⟨-, hpl, hpc⟩ := hP.len
 unfold maxLen at hpc
 obtain ⟨bx, w1, hbbx, hwbx, HBbx, hEbx⟩ := box_new w (.cells #[.int .i64 t.kind, .string t.name, .int .i64 t.sort, .slice a t.kids.length cap] 25)
 obtain ⟨rx, hrx⟩ : ∃ zz9, zz9 = bx + 1 := ⟨_, rfl⟩
 obtain ⟨w2, hw2⟩ : ∃ zz9, zz9 = w1.alloc (.cells #[.int .i64 0, .string ⟨#[]⟩, .int .i64 0, .slice none 0 0] 25) := ⟨_, rfl⟩
 have hs1 : w1.heap.size = bx + 1 := by rw [hwbx, hbbx, World.size_alloc]
 have hE2 : Ext w1 w2 := by rw [hw2]; exact Ext.alloc _ _
 have HB2 : Hid (w2.heap[rx]? = some (.cells #[.int .i64 0, .string ⟨#[]⟩, .int .i64 0, .slice none 0 0] 25)) := Lib.hid (by rw [hw2, hrx, ← hs1]; exact hs_new)
 have HB1 := Lib.hid (hs_ext hE2 HBbx.out)
 have HE2 := Lib.hid (hEbx.trans hE2)
 have HNB : Hid (w.heap.size ≤ bx ∧ rx = bx + 1) := Lib.hid ⟨by omega, hrx⟩
 have HT := Lib.hid hT
 have HP := Lib.hid hP
 have HZ := Lib.hid ht
 obtain ⟨R, hR⟩ : ∃ R, R = atT p t := ⟨_, rfl⟩
 rw [← hR]
 have HR := Lib.hid hR
 clear hT hP hEbx hE2 hs1 ht hR
 go_enter Tryz.func44, Tryz.ntmps44
 go_upto_region 1 with fail
 rw [← hwbx, ← hbbx, ← hw2, ← hrx]
 clear hwbx hbbx hw2 hrx
 go_wp2_with fail
 go_loopw [6] (fun kv wr => Hid (∃ (k : Nat) (sub : Tm) (a' : Option Addr) (cap' : Nat), kv = .int .i64 k ∧ k ≤ p.length ∧ atT (p.take k) t = some sub ∧ TmW w S a' cap' sub ∧ wr.heap[bx]? = some (.cells #[.int .i64 sub.kind, .string sub.name, .int .i64 sub.sort, .slice a' sub.kids.length cap'] 25) ∧ wr.heap[rx]? = some (.cells #[.int .i64 0, .string ⟨#[]⟩, .int .i64 0, .slice none 0 0] 25) ∧ Ext w wr)) (fun kv _ => p.length - (intOf kv).toNat)
 case atStart => exact Lib.hid ⟨0, t, a, cap, rfl, by omega, rfl, HT.out, HB1.out, HB2.out, HE2.out⟩
 case round =>
  obtain ⟨k, sub, a', cap', rfl, hk, hat, hTs, hb, hr, hE⟩ := hrel.out
  have HAT := Lib.hid hat
  have HTS := Lib.hid hTs
  have HBS := Lib.hid hb
  have HBR := Lib.hid hr
  have HE := Lib.hid hE
  have hsl := hTs.len
  have hsc := hTs.cap
  unfold maxLen at hsc
  obtain ⟨b0, b1, b2, b3⟩ := box4r (HBS.out)
  clear hrel hat hTs hb hr hE
  by_cases hlt : k < p.length
  · obtain ⟨i, hi⟩ : ∃ i, p[k]? = some i := ⟨_, List.getElem?_eq_getElem hlt⟩
    obtain ⟨pb, po, rfl, p0, hi64⟩ := (HP.out.ext HE.out).iAt hi
    have hi1 := hi64.1
    have hi2 := hi64.2
    have HI := Lib.hid hi
    clear hi hi64
    by_cases hin : 0 ≤ i ∧ i < sub.kids.length
    · obtain ⟨j, rfl⟩ : ∃ j : Nat, i = j := ⟨i.toNat, by omega⟩
      obtain ⟨x, hx⟩ : ∃ x, sub.kids[j]? = some x := ⟨_, List.getElem?_eq_getElem (by omega)⟩
      obtain ⟨xb, xo, xa, xc, rfl, x0, x1, x2, x3, hTx⟩ := HTS.out.ts.at hx
      have x0 := cs_ext HE.out x0
      have x1 := cs_ext HE.out x1
      have x2 := cs_ext HE.out x2
      have x3 := cs_ext HE.out x3
      have hat2 : atT (p.take (k + 1)) t = some x := by
       rw [List.take_add_one, HI.out]
       exact atT_snoc HAT.out (by omega) (by simpa using hx)
      have HAT2 := Lib.hid hat2
      have HTX := Lib.hid hTx
      have hj1 : (j : Int) < (sub.kids.length : Int) := by omega
      have hj2 : ¬ ((j : Int) < 0) := by omega
      have hj3 : ¬ ((sub.kids.length : Int) ≤ (j : Int)) := by omega
      have hj4 : (0 : Int) ≤ (j : Int) := by omega
      clear hx hTx hat2 hin
      go_upto_region 4 with fail
      go_quiet (fail)
      generalize hwn : World.drewN wr _ = wn
      have hEn : Ext wr wn := by rw [← hwn]; exact Ext.then_drN (Ext.refl _)
      obtain ⟨b0, b1, b2, b3, p0, x0, x1, x2, x3⟩ := cs_e9 hEn ⟨b0, b1, b2, b3, p0, x0, x1, x2, x3⟩
      have HBS := Lib.hid (hs_ext hEn HBS.out)
      have HBR := Lib.hid (hs_ext hEn HBR.out)
      have HE := Lib.hid (HE.out.trans hEn)
      clear hEn hwn
      go_upto_region 6 with fail
      go_still_tail 8, (by kernel_rfl)
      change wpList _ _ _ _ _ wn.drew
      generalize hwm : World.drew wn = wm
      have hEm : Ext wn wm := by rw [← hwm]; exact Ext.drew wn
      have HBS := Lib.hid (hs_ext hEm HBS.out)
      have HBR := Lib.hid (hs_ext hEm HBR.out)
      have HE := Lib.hid (HE.out.trans hEm)
      clear hEm hwm
      go_wp2_with (
       refine wpList_storeT rfl (.tmp 2) (.tmp 36) rfl (g := bx) rfl (k := x.kind) (s := x.sort) (n := x.name) (ka := xa) (kl := x.kids.length) (kc := xc) rfl HBS.out rfl ?_
       intro w6 c6 q6 e6 z6
       have HG6 := Lib.hid c6
       have HE6 := Lib.hid (e6 w HE.out HNB.out.1)
       have HR6 : Hid (w6.heap[rx]? = some (.cells #[.int .i64 0, .string ⟨#[]⟩, .int .i64 0, .slice none 0 0] 25)) := Lib.hid (by rw [q6 rx (by have := HNB.out.2; omega)]; exact HBR.out)
       clear c6 q6 e6 z6)
      go_roundw
      case rel => exact Lib.hid ⟨k + 1, x, xa, xc, by go_num, by omega, HAT2.out, HTX.out, HG6.out, HR6.out, HE6.out⟩
      case measure => simp [intOf]; omega
    · have HRN : Hid (R = none) := Lib.hid (by
       rw [HR.out]
       refine atT_stop HAT.out HI.out ?_
       rcases (by omega : i < 0 ∨ (sub.kids.length : Int) ≤ i) with h | h
       · exact .inl h
       · exact .inr (List.getElem?_eq_none (by omega)))
      have r0 : wr.cell? ⟨rx, 0, none⟩ = some (.int .i64 0) := by rw [cellc HBR.out]; rfl
      by_cases h0 : i < 0
      · go_upto_region 4 with fail
        go_quiet (fail)
        generalize hwn : World.drewN wr _ = wn
        have hEn : Ext wr wn := by rw [← hwn]; exact Ext.then_drN (Ext.refl _)
        obtain ⟨b0, b1, b2, b3, p0⟩ := cs_e5 hEn ⟨b0, b1, b2, b3, p0⟩
        have HBS := Lib.hid (hs_ext hEn HBS.out)
        have HBR := Lib.hid (hs_ext hEn HBR.out)
        have HE := Lib.hid (HE.out.trans hEn)
        clear hEn hwn
        go_wp2_with (first
         | (refine wpList_buildT rfl [] rfl [] rfl built_none ?_)
         | (refine wpList_storeT rfl (.tmp 4) (.tmp 28) rfl (g := rx) rfl (k := 0) (s := 0) (n := ⟨#[]⟩) (ka := none) (kl := 0) (kc := 0) rfl HBR.out rfl ?_
            intro w6 c6 q6 e6 z6
            have HG6 := Lib.hid c6
            have HE6 := Lib.hid (e6 w HE.out (by have := HNB.out; omega))
            clear c6 q6 e6 z6))
        exact ret_term2 (g := rx) rfl rfl HG6.out rfl ⟨_, _, rfl, HE6.out, .inr ⟨HRN.out, rfl, rfl⟩⟩
      · have h1 : (sub.kids.length : Int) ≤ i := by omega
        go_upto_region 4 with fail
        go_quiet (fail)
        generalize hwn : World.drewN wr _ = wn
        have hEn : Ext wr wn := by rw [← hwn]; exact Ext.then_drN (Ext.refl _)
        obtain ⟨b0, b1, b2, b3, p0⟩ := cs_e5 hEn ⟨b0, b1, b2, b3, p0⟩
        have HBS := Lib.hid (hs_ext hEn HBS.out)
        have HBR := Lib.hid (hs_ext hEn HBR.out)
        have HE := Lib.hid (HE.out.trans hEn)
        clear hEn hwn
        go_wp2_with (first
         | (refine wpList_buildT rfl [] rfl [] rfl built_none ?_)
         | (refine wpList_storeT rfl (.tmp 4) (.tmp 28) rfl (g := rx) rfl (k := 0) (s := 0) (n := ⟨#[]⟩) (ka := none) (kl := 0) (kc := 0) rfl HBR.out rfl ?_
            intro w6 c6 q6 e6 z6
            have HG6 := Lib.hid c6
            have HE6 := Lib.hid (e6 w HE.out (by have := HNB.out; omega))
            clear c6 q6 e6 z6))
        exact ret_term2 (g := rx) rfl rfl HG6.out rfl ⟨_, _, rfl, HE6.out, .inr ⟨HRN.out, rfl, rfl⟩⟩
  · have HRS : Hid (R = some sub) := Lib.hid (by have h := HAT.out; rw [List.take_of_length_le (by omega)] at h; rw [HR.out, h])
    have HSX := Lib.hid (And.intro HE.out.size HNB.out)
    go_wp2_with (
     refine wpList_storeT rfl (.tmp 4) (.tmp 37) rfl (g := rx) rfl (k := sub.kind) (s := sub.sort) (n := sub.name) (ka := a') (kl := sub.kids.length) (kc := cap') rfl HBR.out rfl ?_
     intro w6 c6 q6 e6 z6
     have HG6 := Lib.hid c6
     have HE6 := Lib.hid (e6 w HE.out (by have := HNB.out; omega))
     clear c6 q6 e6 z6)
    exact ret_term2 (g := rx) rfl rfl HG6.out rfl ⟨_, _, rfl, HE6.out, .inl ⟨sub, HRS.out, rfl, a', cap', rfl, HTS.out.ext HE6.out⟩⟩

theorem own_oneL {α : Type} {E : Elm α} {w : World} {base fb T : Nat} {S : Nat → Prop} {v : Value} {l : List α} (hb : w.heap[fb]? = some (.cells #[v] T)) (hf : base ≤ fb) (hl : LsG E w S v l) : OwnG (elL E) w base T S (.slice (some ⟨fb, 0, none⟩) 1 1) [l] :=
 ⟨[(l, [v])], rfl, fun p hp => by simp at hp; subst hp; exact ⟨v, rfl, hl⟩, ⟨rfl, .inr ⟨fb, 1, _, rfl, hf, hb, Nat.le_refl _, by unfold maxLen; omega, rfl, rfl⟩⟩⟩
theorem one_lsL {α : Type} {E : Elm α} {w : World} {fb T : Nat} {S : Nat → Prop} {v : Value} {l : List α} (hb : w.heap[fb]? = some (.cells #[v] T)) (hl : LsG E w S v l) : LsE (elL E) w S (.slice (some ⟨fb, 0, none⟩) 1 1) [l] :=
 cells_lsE (P := [(l, [v])]) hb rfl rfl rfl (by unfold maxLen; simp) (fun p hp => by simp at hp; subst hp; exact ⟨v, rfl, hl⟩)

set_option maxRecDepth 100000 in
set_option maxHeartbeats 8000000 in
theorem RPositions_any (n : Nat) : ∀ (w : World) (S : Nat → Prop) (a : Option Addr) (cap : Nat) (t : Tm), sizeT t ≤ n → n ≤ 100000 → TmW w S a cap t →
 Calls Tryz.prog 43 #[.agg #[.int .i64 t.kind, .string t.name, .int .i64 t.sort, .slice a t.kids.length cap]] w fun e w' => ∃ v, e = .returned v ∧ Ext w w' ∧ LsG (elL elI) w' (fun c => w.heap.size ≤ c) v (posT t) := by
 induction n with
 | zero => intro w S a cap t hn; have := sizeT_kids t; omega
 | succ n ih =>
   intro w S a cap t hn hn2 hT
   have hkl := hT.len
   have hkc := hT.cap
   unfold maxLen at hkc
   obtain ⟨bx, w1, hbbx, hwbx, HBbx, hEbx⟩ := box_new w (.cells #[.int .i64 t.kind, .string t.name, .int .i64 t.sort, .slice a t.kids.length cap] 25)
   have HNB : Hid (w.heap.size = bx ∧ w1.heap.size = bx + 1) := Lib.hid ⟨hbbx.symm, by rw [hwbx, hbbx, World.size_alloc]⟩
   obtain ⟨b0, b1, b2, b3⟩ := box4r (HBbx.out)
   have HE1 := Lib.hid hEbx
   have HT := Lib.hid (hT.ext hEbx).any
   have HN := Lib.hid (And.intro hn hn2)
   have HK := Lib.hid (sizeT_kids t)
   have IH := Lib.hid ih
   obtain ⟨Q, hQ⟩ : ∃ Q, Q = posT t := ⟨_, rfl⟩
   have HQ0 : Hid (Q = [] :: posL t.kids 0) := Lib.hid (by rw [hQ, posT_kids])
   have HQL : Hid (Q.length = sizeT t) := Lib.hid (by rw [hQ, posT_len])
   rw [← hQ]
   clear hT hEbx hn hn2 ih hQ
   go_enter Tryz.func43, Tryz.ntmps43
   go_upto_region 1 with fail
   rw [← hwbx, ← hbbx]
   clear hwbx hbbx
   obtain ⟨c1, hc1⟩ : ∃ zz9, zz9 = w1.heap.size := ⟨_, rfl⟩
   obtain ⟨w2, hw2⟩ : ∃ zz9, zz9 = w1.alloc (.cells #[] 3) := ⟨_, rfl⟩
   have hE2 : Ext w1 w2 := by rw [hw2]; exact Ext.alloc _ _
   have hs2 : w2.heap.size = c1 + 1 := by rw [hw2, World.size_alloc, hc1]
   have hO2 : OwnG elI w2 c1 3 (fun _ => False) (.slice (some ⟨c1, 0, none⟩) 0 0) [] := by rw [hw2, hc1]; exact own_made (Nat.le_refl _)
   obtain ⟨c2, hc2⟩ : ∃ zz9, zz9 = c1 + 1 := ⟨_, rfl⟩
   obtain ⟨w3, hw3⟩ : ∃ zz9, zz9 = w2.alloc (.cells #[.slice (some ⟨c1, 0, none⟩) 0 0] 33) := ⟨_, rfl⟩
   have hE3 : Ext w2 w3 := by rw [hw3]; exact Ext.alloc _ _
   have hb3 : w3.heap[c2]? = some (.cells #[.slice (some ⟨c1, 0, none⟩) 0 0] 33) := by rw [hw3, hc2, ← hs2]; exact hs_new
   have HO3 : Hid (OwnG (elL elI) w3 w1.heap.size 33 (fun c => w1.heap.size ≤ c ∧ (Value.slice (some ⟨c2, 0, none⟩) 1 1).ownBlock ≠ some c) (.slice (some ⟨c2, 0, none⟩) 1 1) [[]]) := Lib.hid (own_oneL hb3 (by omega) ((hO2.ext hE3).ls (fun _ h _ => absurd h id) (fun g hg h1 _ => ⟨by omega, fun e => by
    have e1 := Option.some.inj (show some c1 = some g from hg)
    have e2 := Option.some.inj (show some c2 = some g from e)
    omega⟩)))
   have HE3 := Lib.hid (hE2.trans hE3)
   obtain ⟨b0, b1, b2, b3⟩ := cs_e4 HE3.out ⟨b0, b1, b2, b3⟩
   clear hE2 hs2 hO2 hE3 hb3
   go_upto_region 2 with fail
   try rw [← hc1]
   rw [← hw2]
   try rw [← hc2]
   rw [← hw3]
   clear hc1 hw2 hc2 hw3
   go_wp2_with fail
   go_loopw [3, 4] (fun ov iv wr => Hid (∃ k : Nat, iv = .int .i64 k ∧ k ≤ t.kids.length ∧ OwnG (elL elI) wr w1.heap.size 33 (fun c => w1.heap.size ≤ c ∧ ov.ownBlock ≠ some c) ov ([] :: posL (t.kids.take k) 0) ∧ Ext w1 wr)) (fun _ iv _ => t.kids.length - (intOf iv).toNat)
   case atStart => exact Lib.hid ⟨0, rfl, by omega, by simpa [posL] using HO3.out, HE3.out⟩
   case round =>
    obtain ⟨k, rfl, hk, hO, hE⟩ := hrel.out
    obtain ⟨O, hOd⟩ : ∃ O, O = [] :: posL (t.kids.take k) 0 := ⟨_, rfl⟩
    rw [← hOd] at hO
    have HOD := Lib.hid hOd
    have HO5 := Lib.hid hO
    have HE5 := Lib.hid hE
    obtain ⟨oa, oc, hov, -, hoc⟩ := HO5.out.slice
    subst hov
    unfold maxLen at hoc
    have hol : O.length ≤ 200000 := by
     have h1 : Q.length = O.length + (posL (t.kids.drop k) (0 + (t.kids.take k).length)).length := by
      rw [HQ0.out, hOd, List.length_cons, List.length_cons, ← List.take_append_drop k t.kids, posL_append, List.length_append, List.take_append_drop]; omega
     have := HQL.out; have := HN.out; omega
    clear b0 b1 b2 b3
    obtain ⟨b0, b1, b2, b3⟩ := box4r (hs_ext HE5.out HBbx.out)
    clear hrel hOd hO hE
    by_cases hlt : k < t.kids.length
    · obtain ⟨x, hx⟩ : ∃ x, t.kids[k]? = some x := ⟨_, List.getElem?_eq_getElem hlt⟩
      obtain ⟨xb, xo, xa, xc, rfl, x0, x1, x2, x3, hTx⟩ := (HT.out.ext HE5.out).ts.at hx
      have hsx := sizeL_get hx
      have hcon := IH.out wr Any xa xc x (by have := HK.out; have := HN.out; omega) (by have := HN.out; omega) hTx.any
      obtain ⟨M, hM⟩ : ∃ M, M = posT x := ⟨_, rfl⟩
      have hml : M.length ≤ 100000 := by rw [hM, posT_len]; have := HK.out; have := HN.out; omega
      have hmp : ∀ p ∈ M, p.length ≤ 100000 := fun p hp => by rw [hM] at hp; have := posT_plen x p hp; have := HK.out; have := HN.out; omega
      rw [← hM] at hcon
      have HCON := Lib.hid hcon
      have HMP := Lib.hid hmp
      have HTK : Hid ([] :: posL (t.kids.take (k + 1)) 0 = O ++ M.map (fun p => (k : Int) :: p)) := Lib.hid (by rw [HOD.out, posL_take hx, hM]; rfl)
      clear hx hTx hsx hcon hM hmp
      go_wp2_with fail
      refine HCON.out.mono ?_
      rintro e w6 ⟨v6, rfl, hE6, hL6⟩
      obtain ⟨la, lc, rfl, hll, hlc⟩ := hL6.slice
      unfold maxLen at hlc
      have HL6 := Lib.hid (hL6.wide (S' := fun c => (Value.slice oa O.length oc).ownBlock ≠ some c) (fun c h _ e => by have := (HO5.out.lt c e); omega))
      have HO6 := Lib.hid (HO5.out.ext hE6)
      have HE6 := Lib.hid (HE5.out.trans hE6)
      obtain ⟨b0, b1, b2, b3⟩ := cs_e4 hE6 ⟨b0, b1, b2, b3⟩
      clear hL6 hE6 x0 x1 x2 x3
      go_upto_region 6 with fail
      go_wp2_with fail
      go_loopw [3, 6] (fun ov jv wr => Hid (∃ j : Nat, jv = .int .i64 j ∧ j ≤ M.length ∧ OwnG (elL elI) wr w1.heap.size 33 (fun c => w1.heap.size ≤ c ∧ ov.ownBlock ≠ some c) ov (O ++ (M.take j).map (fun p => (k : Int) :: p)) ∧ Ext w1 wr ∧ RowK w6 wr (.slice oa O.length oc) ov)) (fun _ jv _ => M.length - (intOf jv).toNat)
      case atStart => exact Lib.hid ⟨0, rfl, by omega, by simpa using HO6.out, HE6.out, RowK.of_ext (Ext.refl _)⟩
      case round =>
       obtain ⟨j, rfl, hj, hO, hE, hS⟩ := hrel.out
       obtain ⟨O2, hOd2⟩ : ∃ O2, O2 = O ++ (M.take j).map (fun p => (k : Int) :: p) := ⟨_, rfl⟩
       have hol2 : O2.length ≤ 1000000 := by rw [hOd2, List.length_append, List.length_map, List.length_take]; omega
       rw [← hOd2] at hO
       have HOD2 := Lib.hid hOd2
       have HO8 := Lib.hid hO
       have HE8 := Lib.hid hE
       have HS8 := Lib.hid hS
       clear hrel hO hE hS hOd2
       obtain ⟨ob, oc', hov, -, hoc'⟩ := HO8.out.slice
       subst hov
       unfold maxLen at hoc'
       have HL8 := Lib.hid (HL6.out.keep (w' := wr) (S' := fun c => True) (fun c h1 h2 => HS8.out.kept c h2 h1) (fun _ _ _ => trivial) HS8.out.size)
       clear b0 b1 b2 b3
       by_cases hjl : j < M.length
       · obtain ⟨p, hp⟩ : ∃ p, M[j]? = some p := ⟨_, List.getElem?_eq_getElem hjl⟩
         obtain ⟨pb, po, pa, pc, rfl, p0, hp1, hp2, hP⟩ := HL8.out.lAt hp
         unfold maxLen at hp2
         have hpl := HMP.out p (List.mem_of_getElem? hp)
         have HTJ : Hid (O ++ (M.take (j + 1)).map (fun p => (k : Int) :: p) = O2 ++ [(k : Int) :: p]) := Lib.hid (by rw [HOD2.out, List.take_add_one, hp, List.map_append, List.append_assoc]; rfl)
         obtain ⟨wc, hwc⟩ : ∃ zz9, zz9 = wr.alloc (.cells #[.int .i64 (k : Int)] 3) := ⟨_, rfl⟩
         have hEc : Ext wr wc := by rw [hwc]; exact Ext.alloc _ _
         have hkb : I64 (k : Int) := by have := HK.out; have := HN.out; have := len_size t.kids; unfold I64; omega
         have HOc : Hid (OwnG elI wc wr.heap.size 3 (fun _ => False) (.slice (some ⟨wr.heap.size, 0, none⟩) 1 1) [(k : Int)]) := Lib.hid (by rw [hwc]; exact own_oneI hs_new (Nat.le_refl _) hkb)
         have HPc := Lib.hid (((hP.ext hEc).e).wideI (S' := fun _ => False))
         have HEc := Lib.hid hEc
         have p0z : (wr.alloc (.cells #[.int .i64 (k : Int)] 3)).cell? _ = _ := cs_al p0
         clear hp hP hEc hkb p0
         go_wp2_with (first
          | (at_builtin
             rw [← hwc]
             refine wpList_appG (E := elI) (T := 3) rfl 33 (.tmp 30) (.tmp 34) rfl rfl rfl Tryz.underlying33 infInt rfl (by decide) (by decide) HOc.out HEc.out.size (fun c h => absurd h id) (by simp) (M := p) (by omega) HPc.out ?_
             intro v9 w9 o9 g9 k9
             obtain ⟨d1, d2, hv9, -, hc9⟩ := o9.slice
             unfold maxLen at hc9
             have hE9 : Ext wr w9 := Ext.grown HEc.out g9 (fun c hc => (HOc.out.lt c hc).1)
             have HE9 := Lib.hid (HE8.out.trans hE9)
             have HER9 := Lib.hid hE9
             have HO9 := Lib.hid (HO8.out.ext hE9)
             have HV9 := Lib.hid (((elI_wide (w' := w9) (S' := fun c => wr.heap.size ≤ c) o9).new (fun c h _ => h)).wide (S' := fun c => w1.heap.size ≤ c ∧ (Value.slice ob O2.length oc').ownBlock ≠ some c) (fun c h _ => ⟨by have := HE8.out.size; omega, fun e => by have := (HO8.out.lt c e).2; omega⟩))
             have hl9 : ([(k : Int)] ++ p).length = p.length + 1 := by simp
             have hl8 : ([(k : Int)] ++ p) = (k : Int) :: p := rfl
             rw [hl8] at HV9
             rw [hl9] at hv9
             subst hv9
             clear o9 g9 k9 hE9 hl9 hl8)
          | (at_builtin
             refine wpList_appG (E := elL elI) (T := 33) rfl 64 (.tmp 28) (.tmp 36) rfl rfl rfl Tryz.underlying64 infInts rfl (by decide) (by decide) ((HO9.out.ext (Ext.alloc _ _)).wide (S' := fun c => (w1.heap.size ≤ c ∧ (Value.slice ob O2.length oc').ownBlock ≠ some c) ∧ c < w9.heap.size + 1) (fun c h h2 => ⟨h, by simpa using h2⟩)) (HE9.out.then_al _).size (fun c h => h.1.2) hol2 (M := [(k : Int) :: p]) (by simp) (one_lsL hs_new ((HV9.out.ext (Ext.alloc _ _)).wide (fun c h h2 => ⟨h, by simpa using h2⟩))) ?_
             intro v5 wf o5 g5 k5
             have HE5f : Hid (Ext w1 wf) := Lib.hid (Ext.grown (HE9.out.then_al _) g5 (fun c hc => (HO9.out.lt c hc).1))
             have HS5f := Lib.hid ((HS8.out.trans (RowK.of_ext (HER9.out.then_al _))).trans (RowK.app g5 k5))
             rw [World.size_alloc] at k5
             have HO5f := Lib.hid (o5.turn k5)
             clear o5 g5 k5))
         go_roundw
         case rel => exact Lib.hid ⟨j + 1, by go_num, by omega, by rw [HTJ.out]; exact HO5f.out, HE5f.out, HS5f.out⟩
         case measure => simp [intOf]; omega
       · have HF : Hid ([] :: posL (t.kids.take (k + 1)) 0 = O2) := Lib.hid (by rw [HTK.out, HOD2.out, List.take_of_length_le (by omega)])
         have hjz : ¬ ((j : Int) < (M.length : Int)) := by omega
         go_wp2_with fail
         go_roundw
         case rel => exact Lib.hid ⟨k + 1, by go_num, by omega, by rw [HF.out]; exact HO8.out, HE8.out⟩
         case measure => simp [intOf]; omega
    · have HF : Hid (O = Q) := Lib.hid (by rw [HOD.out, HQ0.out, List.take_of_length_le (by omega)])
      have hkz : ¬ ((k : Int) < (t.kids.length : Int)) := by omega
      have HOF := Lib.hid (HO5.out.ls (S' := fun c => w.heap.size ≤ c) (fun c h _ => by have := HNB.out; omega) (fun g _ h1 _ => by have := HNB.out; omega))
      go_wp2_with fail
      go_ret
      exact ⟨_, rfl, HE1.out.trans HE5.out, by rw [← HF.out]; exact HOF.out⟩

theorem take_succ_eq {α : Type} {p q : List α} {i : Nat} {x y : α} (h : p.take i = q.take i) (hx : p[i]? = some x) (hy : q[i]? = some y) (he : x = y) : p.take (i + 1) = q.take (i + 1) := by
 rw [List.take_add_one, List.take_add_one, h, hx, hy, he]

set_option maxRecDepth 100000 in
set_option maxHeartbeats 8000000 in
theorem RSameRedex_any {w : World} {S S' : Nat → Prop} {pa qa : Option Addr} {pc qc : Nat} {r s : Rdx} (hP : LsG elI w S (.slice pa r.2.length pc) r.2) (hQ : LsG elI w S' (.slice qa s.2.length qc) s.2) :
 Calls Tryz.prog 33 #[.agg #[.int .i64 r.1, .slice pa r.2.length pc], .agg #[.int .i64 s.1, .slice qa s.2.length qc]] w fun e w' => e = .returned (.bool (decide (r = s))) ∧ Ext w w' := by
 obtain ⟨k, p⟩ := r
 obtain ⟨m, q⟩ := s
 simp only at hP hQ ⊢
 obtain ⟨-, hpl, hpc⟩ := hP.len
 unfold maxLen at hpc
 obtain ⟨-, hql, hqc⟩ := hQ.len
 unfold maxLen at hqc
 obtain ⟨bx, hbx⟩ : ∃ zz9, zz9 = w.heap.size := ⟨_, rfl⟩
 obtain ⟨w1, hw1⟩ : ∃ zz9, zz9 = w.alloc (.cells #[.int .i64 k, .slice pa p.length pc] 35) := ⟨_, rfl⟩
 have hE1 : Ext w w1 := by rw [hw1]; exact Ext.alloc _ _
 have hs1 : w1.heap.size = bx + 1 := by rw [hw1, hbx, World.size_alloc]
 have hb1 : w1.heap[bx]? = some (.cells #[.int .i64 k, .slice pa p.length pc] 35) := by rw [hw1, hbx]; exact hs_new
 obtain ⟨cx, hcx⟩ : ∃ zz9, zz9 = bx + 1 := ⟨_, rfl⟩
 obtain ⟨w2, hw2⟩ : ∃ zz9, zz9 = w1.alloc (.cells #[.int .i64 m, .slice qa q.length qc] 35) := ⟨_, rfl⟩
 have hE2 : Ext w1 w2 := by rw [hw2]; exact Ext.alloc _ _
 have hc2 : w2.heap[cx]? = some (.cells #[.int .i64 m, .slice qa q.length qc] 35) := by rw [hw2, hcx, ← hs1]; exact hs_new
 have hb2 := hs_ext hE2 hb1
 have b0 : w2.cell? ⟨bx, 0, none⟩ = some (.int .i64 k) := by rw [cellc hb2]; rfl
 have b1 : w2.cell? ⟨bx, 1, none⟩ = some (.slice pa p.length pc) := by rw [cellc hb2]; rfl
 have c0 : w2.cell? ⟨cx, 0, none⟩ = some (.int .i64 m) := by rw [cellc hc2]; rfl
 have c1 : w2.cell? ⟨cx, 1, none⟩ = some (.slice qa q.length qc) := by rw [cellc hc2]; rfl
 have HE := Lib.hid (hE1.trans hE2)
 have HP := Lib.hid (hP.ext HE.out)
 have HQ := Lib.hid (hQ.ext HE.out)
 clear hP hQ hE1 hE2 hs1 hb1 hb2 hc2
 go_enter Tryz.func33, Tryz.ntmps33
 go_upto_region 1 with fail
 rw [← hw1, ← hbx, ← hw2]
 try rw [← hcx]
 clear hw1 hbx hw2 hcx
 by_cases h1 : k = m
 · subst h1
   have e1 : (k != k) = false := by simp
   by_cases h2 : p.length = q.length
   · have e2 : (((p.length : Nat) : Int) != (q.length : Int)) = false := by simp [h2]
     go_wp2_with fail
     go_loopw [5] (fun iv wr => Hid (∃ i : Nat, iv = .int .i64 i ∧ i ≤ p.length ∧ p.take i = q.take i ∧ Ext w2 wr)) (fun iv _ => p.length - (intOf iv).toNat)
     case atStart => exact Lib.hid ⟨0, rfl, by omega, rfl, Ext.refl _⟩
     case round =>
      obtain ⟨i, rfl, hi, hp, hE⟩ := hrel.out
      have HPQ := Lib.hid hp
      have HE5 := Lib.hid hE
      obtain ⟨b0, b1, c0, c1⟩ := cs_e4 HE5.out ⟨b0, b1, c0, c1⟩
      clear hrel hp hE
      by_cases hlt : i < p.length
      · obtain ⟨x, hx⟩ : ∃ x, p[i]? = some x := ⟨_, List.getElem?_eq_getElem hlt⟩
        obtain ⟨y, hy⟩ : ∃ y, q[i]? = some y := ⟨_, List.getElem?_eq_getElem (by omega)⟩
        obtain ⟨pb, po, rfl, x0, -⟩ := (HP.out.ext HE5.out).iAt hx
        obtain ⟨qb, qo, rfl, y0, -⟩ := (HQ.out.ext HE5.out).iAt hy
        have hlq : i < q.length := by omega
        have HXY := Lib.hid (And.intro hx hy)
        clear hx hy
        go_upto_region 6 with fail
        go_quiet (fail)
        generalize hwn : World.drewN wr _ = wn
        have hEn : Ext wr wn := by rw [← hwn]; exact Ext.then_drN (Ext.refl _)
        have HE5 := Lib.hid (HE5.out.trans hEn)
        clear hEn hwn
        by_cases hxy : x = y
        · have ex : (x != y) = false := by simp [hxy]
          have HPN := Lib.hid (take_succ_eq HPQ.out HXY.out.1 HXY.out.2 hxy)
          clear hxy
          go_wp2_with fail
          go_roundw
          case rel => exact Lib.hid ⟨i + 1, by go_num, by omega, HPN.out, HE5.out⟩
          case measure => simp [intOf]; omega
        · have ex : (x != y) = true := by simpa using hxy
          have HF : Hid (¬ p = q) := Lib.hid (fun e => by
           subst e
           have := HXY.out.1.symm.trans HXY.out.2
           exact hxy (Option.some.inj this))
          clear hxy
          go_wp2_with fail
          go_ret
          exact ⟨rb (by rw [Bool.eq_iff_iff]; simp [HF.out]), HE.out.trans HE5.out⟩
      · have HT : Hid (p = q) := Lib.hid (by
         have h := HPQ.out
         rw [List.take_of_length_le (by omega), List.take_of_length_le (by omega)] at h
         exact h)
        go_wp2_with fail
        go_ret
        exact ⟨rb (by rw [Bool.eq_iff_iff]; simp [HT.out]), HE.out.trans HE5.out⟩
   · have e2 : (((p.length : Nat) : Int) != (q.length : Int)) = true := by simp; omega
     have HF : Hid (¬ (k, p) = (k, q)) := Lib.hid (fun e => h2 (by injection e with _ e; rw [e]))
     go_wp2_with fail
     go_ret
     exact ⟨rb (by rw [Bool.eq_iff_iff]; simp [HF.out]), HE.out⟩
 · have e1 : (k != m) = true := by simpa using h1
   have HF : Hid (¬ (k, p) = (m, q)) := Lib.hid (fun e => h1 (by injection e))
   clear h1
   go_wp2_with fail
   go_ret
   exact ⟨rb (by rw [Bool.eq_iff_iff]; simp [HF.out]), HE.out⟩

set_option maxRecDepth 100000 in
set_option maxHeartbeats 8000000 in
theorem RSameTrace_any {w : World} {S S' : Nat → Prop} {la ma : Option Addr} {lc mc : Nat} {l m : List Rdx} (hL : LsG elX w S (.slice la l.length lc) l) (hM : LsG elX w S' (.slice ma m.length mc) m) :
 Calls Tryz.prog 14 #[.slice la l.length lc, .slice ma m.length mc] w fun e w' => e = .returned (.bool (decide (l = m))) ∧ Ext w w' := by
 obtain ⟨-, hll, hlc⟩ := hL.len
 unfold maxLen at hlc
 obtain ⟨-, hml, hmc⟩ := hM.len
 unfold maxLen at hmc
 have HL := Lib.hid hL
 have HM := Lib.hid hM
 clear hL hM
 go_enter Tryz.func14, Tryz.ntmps14
 by_cases h2 : l.length = m.length
 · have e2 : (((l.length : Nat) : Int) != (m.length : Int)) = false := by simp [h2]
   have HLM := Lib.hid h2
   clear h2
   go_wp2_with fail
   go_loopw [5] (fun iv wr => Hid (∃ i : Nat, iv = .int .i64 i ∧ i ≤ l.length ∧ l.take i = m.take i ∧ Ext w wr)) (fun iv _ => l.length - (intOf iv).toNat)
   case atStart => exact Lib.hid ⟨0, rfl, by omega, rfl, Ext.refl _⟩
   case round =>
    obtain ⟨i, rfl, hi, hp, hE⟩ := hrel.out
    have HPQ := Lib.hid hp
    have HE5 := Lib.hid hE
    clear hrel hp hE
    by_cases hlt : i < l.length
    · obtain ⟨x, hx⟩ : ∃ x, l[i]? = some x := ⟨_, List.getElem?_eq_getElem hlt⟩
      obtain ⟨y, hy⟩ : ∃ y, m[i]? = some y := ⟨_, List.getElem?_eq_getElem (by have := HLM.out; omega)⟩
      obtain ⟨pb, po, pa, pc, rfl, x0, x1, -, -, -, hP⟩ := (HL.out.ext HE5.out).xAt hx
      obtain ⟨qb, qo, qa, qc, rfl, y0, y1, -, -, -, hQ⟩ := (HM.out.ext HE5.out).xAt hy
      have hlq : i < m.length := by have := HLM.out; omega
      have HXY := Lib.hid (And.intro hx hy)
      have HCS := Lib.hid (fun (w' : World) (h : Ext wr w') => RSameRedex_any (w := w') (r := x) (s := y) (hP.ext h) (hQ.ext h))
      clear hx hy hP hQ
      go_upto_region 6 with fail
      go_still_tail 8, (by kernel_rfl)
      change wpList _ _ _ _ _ wr.drew
      generalize hwm : World.drew wr = wm
      have hEm : Ext wr wm := by rw [← hwm]; exact Ext.drew wr
      have HC2 := Lib.hid (HCS.out wm hEm)
      have HE5 := Lib.hid (HE5.out.trans hEm)
      clear hEm hwm
      go_wp2_with fail
      refine HC2.out.mono ?_
      rintro e w9 ⟨rfl, hE9⟩
      have HE9 := Lib.hid (HE5.out.trans hE9)
      clear hE9
      by_cases hxy : x = y
      · have ex : decide (x = y) = true := by simp [hxy]
        have HPN := Lib.hid (take_succ_eq HPQ.out HXY.out.1 HXY.out.2 hxy)
        rw [ex]
        clear hxy
        go_wp2_with fail
        go_roundw
        case rel => exact Lib.hid ⟨i + 1, by go_num, by omega, HPN.out, HE9.out⟩
        case measure => simp [intOf]; omega
      · have ex : decide (x = y) = false := by simpa using hxy
        have HF : Hid (¬ l = m) := Lib.hid (fun e => by
         subst e
         have := HXY.out.1.symm.trans HXY.out.2
         exact hxy (Option.some.inj this))
        rw [ex]
        clear hxy
        go_wp2_with fail
        go_ret
        exact ⟨rb (by rw [Bool.eq_iff_iff]; simp [HF.out]), HE9.out⟩
    · have HT : Hid (l = m) := Lib.hid (by
       have h := HPQ.out
       rw [List.take_of_length_le (by omega), List.take_of_length_le (by have := HLM.out; omega)] at h
       exact h)
      go_wp2_with fail
      go_ret
      exact ⟨rb (by rw [Bool.eq_iff_iff]; simp [HT.out]), HE5.out⟩
 · have e2 : (((l.length : Nat) : Int) != (m.length : Int)) = true := by simp; omega
   have HF : Hid (¬ l = m) := Lib.hid (fun e => h2 (by rw [e]))
   go_wp2_with fail
   go_ret
   exact ⟨rb (by rw [Bool.eq_iff_iff]; simp [HF.out]), Ext.refl _⟩

set_option maxRecDepth 100000 in
set_option maxHeartbeats 8000000 in
theorem RSameJoin_any {w : World} {S1 S2 S3 S4 S5 S6 : Nat → Prop} {la ra ja lb rb jb : Option Addr} {lc rc jc ld rd jd : Nat} {A B D G : List Rdx} {x y : Tm} (hx6 : sizeT x ≤ 1000000) (hy6 : sizeT y ≤ 1000000)
 (hA : LsG elX w S1 (.slice la A.length lc) A) (hB : LsG elX w S2 (.slice ra B.length rc) B) (hX : TmW w S3 ja jc x) (hD : LsG elX w S4 (.slice lb D.length ld) D) (hG : LsG elX w S5 (.slice rb G.length rd) G) (hY : TmW w S6 jb jd y) :
 Calls Tryz.prog 31 #[.agg #[.slice la A.length lc, .slice ra B.length rc, .int .i64 x.kind, .string x.name, .int .i64 x.sort, .slice ja x.kids.length jc], .agg #[.slice lb D.length ld, .slice rb G.length rd, .int .i64 y.kind, .string y.name, .int .i64 y.sort, .slice jb y.kids.length jd]] w fun e w' => e = .returned (.bool (decide (A = D) && (decide (B = G) && decide (x = y)))) ∧ Ext w w' := by
 obtain ⟨-, hal, hac⟩ := hA.len
 unfold maxLen at hac
 obtain ⟨-, hbl, hbc⟩ := hB.len
 unfold maxLen at hbc
 obtain ⟨-, hdl, hdc⟩ := hD.len
 unfold maxLen at hdc
 obtain ⟨-, hgl, hgc⟩ := hG.len
 unfold maxLen at hgc
 have hxl := hX.len
 have hxc := hX.cap
 unfold maxLen at hxc
 have hyl := hY.len
 have hyc := hY.cap
 unfold maxLen at hyc
 obtain ⟨bx, hbx⟩ : ∃ zz9, zz9 = w.heap.size := ⟨_, rfl⟩
 obtain ⟨w1, hw1⟩ : ∃ zz9, zz9 = w.alloc (.cells #[.slice la A.length lc, .slice ra B.length rc, .int .i64 x.kind, .string x.name, .int .i64 x.sort, .slice ja x.kids.length jc] 48) := ⟨_, rfl⟩
 have hE1 : Ext w w1 := by rw [hw1]; exact Ext.alloc _ _
 have hs1 : w1.heap.size = bx + 1 := by rw [hw1, hbx, World.size_alloc]
 have hb1 : w1.heap[bx]? = some (.cells #[.slice la A.length lc, .slice ra B.length rc, .int .i64 x.kind, .string x.name, .int .i64 x.sort, .slice ja x.kids.length jc] 48) := by rw [hw1, hbx]; exact hs_new
 obtain ⟨cx, hcx⟩ : ∃ zz9, zz9 = bx + 1 := ⟨_, rfl⟩
 obtain ⟨w2, hw2⟩ : ∃ zz9, zz9 = w1.alloc (.cells #[.slice lb D.length ld, .slice rb G.length rd, .int .i64 y.kind, .string y.name, .int .i64 y.sort, .slice jb y.kids.length jd] 48) := ⟨_, rfl⟩
 have hE2 : Ext w1 w2 := by rw [hw2]; exact Ext.alloc _ _
 have hc2 : w2.heap[cx]? = some (.cells #[.slice lb D.length ld, .slice rb G.length rd, .int .i64 y.kind, .string y.name, .int .i64 y.sort, .slice jb y.kids.length jd] 48) := by rw [hw2, hcx, ← hs1]; exact hs_new
 have hb2 := hs_ext hE2 hb1
 have b0 : w2.cell? ⟨bx, 0, none⟩ = some (.slice la A.length lc) := by rw [cellc hb2]; rfl
 have b1 : w2.cell? ⟨bx, 1, none⟩ = some (.slice ra B.length rc) := by rw [cellc hb2]; rfl
 have b2 : w2.cell? ⟨bx, 2, none⟩ = some (.int .i64 x.kind) := by rw [cellc hb2]; rfl
 have b3 : w2.cell? ⟨bx, 3, none⟩ = some (.string x.name) := by rw [cellc hb2]; rfl
 have b4 : w2.cell? ⟨bx, 4, none⟩ = some (.int .i64 x.sort) := by rw [cellc hb2]; rfl
 have b5 : w2.cell? ⟨bx, 5, none⟩ = some (.slice ja x.kids.length jc) := by rw [cellc hb2]; rfl
 have c0 : w2.cell? ⟨cx, 0, none⟩ = some (.slice lb D.length ld) := by rw [cellc hc2]; rfl
 have c1 : w2.cell? ⟨cx, 1, none⟩ = some (.slice rb G.length rd) := by rw [cellc hc2]; rfl
 have c2 : w2.cell? ⟨cx, 2, none⟩ = some (.int .i64 y.kind) := by rw [cellc hc2]; rfl
 have c3 : w2.cell? ⟨cx, 3, none⟩ = some (.string y.name) := by rw [cellc hc2]; rfl
 have c4 : w2.cell? ⟨cx, 4, none⟩ = some (.int .i64 y.sort) := by rw [cellc hc2]; rfl
 have c5 : w2.cell? ⟨cx, 5, none⟩ = some (.slice jb y.kids.length jd) := by rw [cellc hc2]; rfl
 have hE := hE1.trans hE2
 have HE := Lib.hid hE
 have HC1 := Lib.hid (RSameTrace_any (hA.ext hE) (hD.ext hE))
 have HC2 := Lib.hid (fun (w' : World) (h : Ext w2 w') => RSameTrace_any (w := w') ((hB.ext hE).ext h) ((hG.ext hE).ext h))
 have HC3 := Lib.hid (fun (w' : World) (h : Ext w2 w') => RSame_any (w := w') hx6 hy6 ((hX.ext hE).ext h) ((hY.ext hE).ext h))
 obtain ⟨p, hp⟩ : ∃ p, p = decide (A = D) := ⟨_, rfl⟩
 obtain ⟨q, hq⟩ : ∃ q, q = decide (B = G) := ⟨_, rfl⟩
 obtain ⟨r, hr⟩ : ∃ r, r = decide (x = y) := ⟨_, rfl⟩
 rw [← hp] at HC1 ⊢
 rw [← hq] at HC2 ⊢
 rw [← hr] at HC3 ⊢
 clear hA hB hX hD hG hY hE hE1 hE2 hs1 hb1 hb2 hc2 hp hq hr
 go_enter Tryz.func31, Tryz.ntmps31
 go_upto_region 1 with fail
 rw [← hw1, ← hbx, ← hw2]
 try rw [← hcx]
 clear hw1 hbx hw2 hcx
 go_wp2_with fail
 refine HC1.out.mono ?_
 rintro e w3 ⟨rfl, hE3⟩
 have HE3 := Lib.hid hE3
 obtain ⟨b1, b2, b3, b4, b5, c1, c2, c3, c4, c5⟩ := cs_e10 hE3 ⟨b1, b2, b3, b4, b5, c1, c2, c3, c4, c5⟩
 clear hE3
 cases p with
 | false =>
   go_wp2_with fail
   go_ret
   exact ⟨rfl, HE.out.trans HE3.out⟩
 | true =>
   go_wp2_with fail
   refine (HC2.out w3 HE3.out).mono ?_
   rintro e w4 ⟨rfl, hE4⟩
   have HE4 := Lib.hid (HE3.out.trans hE4)
   obtain ⟨b2, b3, b4, b5, c2, c3, c4, c5⟩ := cs_e8 hE4 ⟨b2, b3, b4, b5, c2, c3, c4, c5⟩
   clear hE4
   cases q with
   | false =>
     go_wp2_with fail
     go_ret
     exact ⟨rfl, HE.out.trans HE4.out⟩
   | true =>
     go_wp2_with fail
     refine (HC3.out w4 HE4.out).mono ?_
     rintro e w5 ⟨rfl, hE5⟩
     have HE5 := Lib.hid (HE.out.trans (HE4.out.trans hE5))
     clear hE5
     go_wp2_with fail
     go_ret
     exact ⟨by first | rfl | (simp only [Bool.true_and]; rfl), HE5.out⟩

end Go.Proofs.YtpfnlbaloaohgaaGreat
