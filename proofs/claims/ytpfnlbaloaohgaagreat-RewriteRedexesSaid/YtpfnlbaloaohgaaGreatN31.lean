/- Contracts: the reference's At. -/
import Derived.Test.YtpfnlbaloaohgaaGreatH4
import Derived.StillTailTactics
import Derived.Deep.QuietTactic
import Derived.BigQuiet
namespace Go.Proofs.YtpfnlbaloaohgaaGreat
open Go Go.RowKit
set_option linter.unusedVariables false
set_option linter.unusedSimpArgs false

theorem Ext.then_drN {w w' : World} {n : Nat} (h : Ext w w') : Ext w (w'.drewN n) := h.trans ⟨rfl, rfl, rfl, Nat.le_refl _, fun _ _ => rfl⟩

set_option maxRecDepth 100000 in
set_option maxHeartbeats 8000000 in
theorem RAt_any {w : World} {S Sp : Nat → Prop} {a pa : Option Addr} {cap pcap : Nat} {t : Tm} {p : List Int} (ht : sizeT t ≤ 900000) (hT : TmW w S a cap t) (hP : LsG elI w Sp (.slice pa p.length pcap) p) :
    Calls Tryz.prog 44 #[.agg #[.int .i64 t.kind, .string t.name, .int .i64 t.sort, .slice a t.kids.length cap], .slice pa p.length pcap] w fun e w' => ∃ v er, e = .returned (.tuple #[v, .int .i64 er]) ∧ Ext w w' ∧ atR w' S v er (atT p t) := by
  obtain ⟨-, hpl, hpc⟩ := hP.len
  unfold maxLen at hpc
  obtain ⟨bx, hbbx⟩ : ∃ zz9, zz9 = w.heap.size := ⟨_, rfl⟩
  obtain ⟨w1, hwbx⟩ : ∃ zz9, zz9 = w.alloc (.cells #[.int .i64 t.kind, .string t.name, .int .i64 t.sort, .slice a t.kids.length cap] 25) := ⟨_, rfl⟩
  have HBbx : Hid (w1.heap[bx]? = some (.cells #[.int .i64 t.kind, .string t.name, .int .i64 t.sort, .slice a t.kids.length cap] 25)) := Lib.hid (by rw [hwbx, hbbx]; exact hs_new)
  have hEbx : Ext w w1 := by rw [hwbx]; exact Ext.alloc _ _
  obtain ⟨rx, hrx⟩ : ∃ zz9, zz9 = bx + 1 := ⟨_, rfl⟩
  obtain ⟨w2, hw2⟩ : ∃ zz9, zz9 = w1.alloc (.cells #[.int .i64 0, .string ⟨#[]⟩, .int .i64 0, .slice none 0 0] 25) := ⟨_, rfl⟩
  have hs1 : w1.heap.size = bx + 1 := by rw [hwbx, hbbx, World.size_alloc]
  have hE2 : Ext w1 w2 := by rw [hw2]; exact Ext.alloc _ _
  have HB2 : Hid (w2.heap[rx]? = some (.cells #[.int .i64 0, .string ⟨#[]⟩, .int .i64 0, .slice none 0 0] 25)) := Lib.hid (by rw [hw2, hrx, ← hs1]; exact hs_new)
  have HB1 := Lib.hid (hs_ext hE2 HBbx.out)
  have HE2 := Lib.hid (hEbx.trans hE2)
  have HNB : Hid (w.heap.size ≤ bx ∧ rx = bx + 1) := Lib.hid ⟨by omega, hrx⟩
  have HT := Lib.hid hT
  have HP := Lib.hid hP
  have HZ := Lib.hid ht
  obtain ⟨R, hR⟩ : ∃ R, R = atT p t := ⟨_, rfl⟩
  rw [← hR]
  have HR := Lib.hid hR
  clear hT hP hEbx hE2 hs1 ht hR
  go_enter Tryz.func44, Tryz.ntmps44
  go_upto_region 1 with fail
  rw [← hwbx, ← hbbx, ← hw2, ← hrx]
  clear hwbx hbbx hw2 hrx
  go_wp2_with fail
  go_loopw [6] (fun kv wr => Hid (∃ (k : Nat) (sub : Tm) (a' : Option Addr) (cap' : Nat), kv = .int .i64 k ∧ k ≤ p.length ∧ atT (p.take k) t = some sub ∧ TmW w S a' cap' sub ∧ wr.heap[bx]? = some (.cells #[.int .i64 sub.kind, .string sub.name, .int .i64 sub.sort, .slice a' sub.kids.length cap'] 25) ∧ wr.heap[rx]? = some (.cells #[.int .i64 0, .string ⟨#[]⟩, .int .i64 0, .slice none 0 0] 25) ∧ Ext w wr)) (fun kv _ => p.length - (intOf kv).toNat)
  case atStart => exact Lib.hid ⟨0, t, a, cap, rfl, by omega, rfl, HT.out, HB1.out, HB2.out, HE2.out⟩
  case round =>
    obtain ⟨k, sub, a', cap', rfl, hk, hat, hTs, hb, hr, hE⟩ := hrel.out
    have HAT := Lib.hid hat
    have HTS := Lib.hid hTs
    have HBS := Lib.hid hb
    have HBR := Lib.hid hr
    have HE := Lib.hid hE
    have hsl := hTs.len
    have hsc := hTs.cap
    unfold maxLen at hsc
    have b0 : wr.cell? ⟨bx, 0, none⟩ = some (.int .i64 sub.kind) := by rw [cellc (HBS.out)]; rfl
    have b1 : wr.cell? ⟨bx, 1, none⟩ = some (.string sub.name) := by rw [cellc (HBS.out)]; rfl
    have b2 : wr.cell? ⟨bx, 2, none⟩ = some (.int .i64 sub.sort) := by rw [cellc (HBS.out)]; rfl
    have b3 : wr.cell? ⟨bx, 3, none⟩ = some (.slice a' sub.kids.length cap') := by rw [cellc (HBS.out)]; rfl
    clear hrel hat hTs hb hr hE
    by_cases hlt : k < p.length
    · obtain ⟨i, hi⟩ : ∃ i, p[k]? = some i := ⟨_, List.getElem?_eq_getElem hlt⟩
      obtain ⟨pb, po, rfl, p0, hi64⟩ := (HP.out.ext HE.out).iAt hi
      have hi1 := hi64.1
      have hi2 := hi64.2
      have HI := Lib.hid hi
      clear hi hi64
      by_cases hin : 0 ≤ i ∧ i < sub.kids.length
      · obtain ⟨j, rfl⟩ : ∃ j : Nat, i = j := ⟨i.toNat, by omega⟩
        obtain ⟨x, hx⟩ : ∃ x, sub.kids[j]? = some x := ⟨_, List.getElem?_eq_getElem (by omega)⟩
        obtain ⟨xb, xo, xa, xc, rfl, x0, x1, x2, x3, hTx⟩ := HTS.out.ts.at hx
        have x0 := cs_ext HE.out x0
        have x1 := cs_ext HE.out x1
        have x2 := cs_ext HE.out x2
        have x3 := cs_ext HE.out x3
        have hat2 : atT (p.take (k + 1)) t = some x := by
          rw [List.take_add_one, HI.out]
          exact atT_snoc HAT.out (by omega) (by simpa using hx)
        have HAT2 := Lib.hid hat2
        have HTX := Lib.hid hTx
        have hj1 : (j : Int) < (sub.kids.length : Int) := by omega
        have hj2 : ¬ ((j : Int) < 0) := by omega
        have hj3 : ¬ ((sub.kids.length : Int) ≤ (j : Int)) := by omega
        have hj4 : (0 : Int) ≤ (j : Int) := by omega
        clear hx hTx hat2 hin
        go_upto_region 4 with fail
        go_quiet (fail)
        generalize hwn : World.drewN wr _ = wn
        have hEn : Ext wr wn := by rw [← hwn]; exact Ext.then_drN (Ext.refl _)
        have b0 := cs_ext hEn b0
        have b1 := cs_ext hEn b1
        have b2 := cs_ext hEn b2
        have b3 := cs_ext hEn b3
        have p0 := cs_ext hEn p0
        have HBS := Lib.hid (hs_ext hEn HBS.out)
        have HBR := Lib.hid (hs_ext hEn HBR.out)
        have HE := Lib.hid (HE.out.trans hEn)
        have x0 := cs_ext hEn x0
        have x1 := cs_ext hEn x1
        have x2 := cs_ext hEn x2
        have x3 := cs_ext hEn x3
        clear hEn hwn
        go_upto_region 6 with fail
        go_still_tail 8, (by kernel_rfl)
        change wpList _ _ _ _ _ wn.drew
        generalize hwm : World.drew wn = wm
        have hEm : Ext wn wm := by rw [← hwm]; exact Ext.drew wn
        have HBS := Lib.hid (hs_ext hEm HBS.out)
        have HBR := Lib.hid (hs_ext hEm HBR.out)
        have HE := Lib.hid (HE.out.trans hEm)
        clear hEm hwm
        go_wp2_with (
          refine wpList_storeT rfl (.tmp 2) (.tmp 36) rfl (g := bx) rfl (k := x.kind) (s := x.sort) (n := x.name) (ka := xa) (kl := x.kids.length) (kc := xc) rfl HBS.out rfl ?_
          intro w6 c6 q6 e6 z6
          have HG6 := Lib.hid c6
          have HE6 := Lib.hid (e6 w HE.out HNB.out.1)
          have HR6 : Hid (w6.heap[rx]? = some (.cells #[.int .i64 0, .string ⟨#[]⟩, .int .i64 0, .slice none 0 0] 25)) := Lib.hid (by rw [q6 rx (by have := HNB.out.2; omega)]; exact HBR.out)
          clear c6 q6 e6 z6)
        go_roundw
        case rel => exact Lib.hid ⟨k + 1, x, xa, xc, by go_num, by omega, HAT2.out, HTX.out, HG6.out, HR6.out, HE6.out⟩
        case measure => simp [intOf]; omega
      · have HRN : Hid (R = none) := Lib.hid (by
          rw [HR.out]
          refine atT_stop HAT.out HI.out ?_
          rcases (by omega : i < 0 ∨ (sub.kids.length : Int) ≤ i) with h | h
          · exact .inl h
          · exact .inr (List.getElem?_eq_none (by omega)))
        have r0 : wr.cell? ⟨rx, 0, none⟩ = some (.int .i64 0) := by rw [cellc HBR.out]; rfl
        by_cases h0 : i < 0
        · go_upto_region 4 with fail
          go_quiet (fail)
          generalize hwn : World.drewN wr _ = wn
          have hEn : Ext wr wn := by rw [← hwn]; exact Ext.then_drN (Ext.refl _)
          have b0 := cs_ext hEn b0
          have b1 := cs_ext hEn b1
          have b2 := cs_ext hEn b2
          have b3 := cs_ext hEn b3
          have p0 := cs_ext hEn p0
          have HBS := Lib.hid (hs_ext hEn HBS.out)
          have HBR := Lib.hid (hs_ext hEn HBR.out)
          have HE := Lib.hid (HE.out.trans hEn)
          clear hEn hwn
          go_wp2_with (first
            | (refine wpList_buildT rfl [] rfl [] rfl built_none ?_)
            | (refine wpList_storeT rfl (.tmp 4) (.tmp 28) rfl (g := rx) rfl (k := 0) (s := 0) (n := ⟨#[]⟩) (ka := none) (kl := 0) (kc := 0) rfl HBR.out rfl ?_
               intro w6 c6 q6 e6 z6
               have HG6 := Lib.hid c6
               have HE6 := Lib.hid (e6 w HE.out (by have := HNB.out; omega))
               clear c6 q6 e6 z6))
          exact ret_term2 (g := rx) rfl rfl HG6.out rfl ⟨_, _, rfl, HE6.out, .inr ⟨HRN.out, rfl, rfl⟩⟩
        · have h1 : (sub.kids.length : Int) ≤ i := by omega
          go_upto_region 4 with fail
          go_quiet (fail)
          generalize hwn : World.drewN wr _ = wn
          have hEn : Ext wr wn := by rw [← hwn]; exact Ext.then_drN (Ext.refl _)
          have b0 := cs_ext hEn b0
          have b1 := cs_ext hEn b1
          have b2 := cs_ext hEn b2
          have b3 := cs_ext hEn b3
          have p0 := cs_ext hEn p0
          have HBS := Lib.hid (hs_ext hEn HBS.out)
          have HBR := Lib.hid (hs_ext hEn HBR.out)
          have HE := Lib.hid (HE.out.trans hEn)
          clear hEn hwn
          go_wp2_with (first
            | (refine wpList_buildT rfl [] rfl [] rfl built_none ?_)
            | (refine wpList_storeT rfl (.tmp 4) (.tmp 28) rfl (g := rx) rfl (k := 0) (s := 0) (n := ⟨#[]⟩) (ka := none) (kl := 0) (kc := 0) rfl HBR.out rfl ?_
               intro w6 c6 q6 e6 z6
               have HG6 := Lib.hid c6
               have HE6 := Lib.hid (e6 w HE.out (by have := HNB.out; omega))
               clear c6 q6 e6 z6))
          exact ret_term2 (g := rx) rfl rfl HG6.out rfl ⟨_, _, rfl, HE6.out, .inr ⟨HRN.out, rfl, rfl⟩⟩
    · have HRS : Hid (R = some sub) := Lib.hid (by have h := HAT.out; rw [List.take_of_length_le (by omega)] at h; rw [HR.out, h])
      have HSX := Lib.hid (And.intro HE.out.size HNB.out)
      go_wp2_with (
        refine wpList_storeT rfl (.tmp 4) (.tmp 37) rfl (g := rx) rfl (k := sub.kind) (s := sub.sort) (n := sub.name) (ka := a') (kl := sub.kids.length) (kc := cap') rfl HBR.out rfl ?_
        intro w6 c6 q6 e6 z6
        have HG6 := Lib.hid c6
        have HE6 := Lib.hid (e6 w HE.out (by have := HNB.out; omega))
        clear c6 q6 e6 z6)
      exact ret_term2 (g := rx) rfl rfl HG6.out rfl ⟨_, _, rfl, HE6.out, .inl ⟨sub, HRS.out, rfl, a', cap', rfl, HTS.out.ext HE6.out⟩⟩

end Go.Proofs.YtpfnlbaloaohgaaGreat
