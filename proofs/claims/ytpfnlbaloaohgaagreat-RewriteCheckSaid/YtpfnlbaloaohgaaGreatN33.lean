/- Contracts: the reference's Replace. -/
import Derived.Test.YtpfnlbaloaohgaaGreatH11
import Derived.Test.YtpfnlbaloaohgaaGreatH4
import Derived.Test.YtpfnlbaloaohgaaGreatH10
import Derived.Deep.RegionLaw
namespace Go.Proofs.YtpfnlbaloaohgaaGreat
open Go Go.RowKit
set_option linter.unusedVariables false
set_option linter.unusedSimpArgs false

theorem atR.ext {w w' : World} {S : Nat → Prop} {v : Value} {er : Int} {r : Option Tm} (h : atR w S v er r) (hE : Ext w w') : atR w' S v er r := by
 rcases h with ⟨x, e1, e2, a, c, e3, h⟩ | h
 · exact .inl ⟨x, e1, e2, a, c, e3, h.ext hE⟩
 · exact .inr h
theorem atR.wide {w : World} {S S' : Nat → Prop} {v : Value} {er : Int} {r : Option Tm} (h : atR w S v er r) (hS : ∀ c, S c → S' c) : atR w S' v er r := by
 rcases h with ⟨x, e1, e2, a, c, e3, h⟩ | h
 · exact .inl ⟨x, e1, e2, a, c, e3, h.wide (fun c h _ => hS c h)⟩
 · exact .inr h

theorem atR.wide2 {w : World} {S S' : Nat → Prop} {v : Value} {er : Int} {r : Option Tm} (h : atR w S v er r) (hS : ∀ c, S c → c < w.heap.size → S' c) : atR w S' v er r := by
 rcases h with ⟨x, e1, e2, a, c, e3, h⟩ | h
 · exact .inl ⟨x, e1, e2, a, c, e3, h.wide hS⟩
 · exact .inr h
theorem atR.keep {w w' : World} {S : Nat → Prop} {v : Value} {er : Int} {r : Option Tm} (h : atR w S v er r) (h1 : ∀ c, S c → c < w.heap.size → w'.heap[c]? = w.heap[c]?) : atR w' S v er r := by
 rcases h with ⟨x, e1, e2, a, c, e3, h⟩ | h
 · exact .inl ⟨x, e1, e2, a, c, e3, h.keep h1 (fun _ h _ => h)⟩
 · exact .inr h

theorem TmW.below' {w : World} {S S' : Nat → Prop} {a : Option Addr} {cap : Nat} {t : Tm} (h : TmW w S a cap t) (hS : ∀ c, S c → c < w.heap.size → S' c) : TmW w S' a cap t := h.wide hS
theorem bset3R {w : World} {g T : Nat} {a b c d : Value} (v : Value) (h : w.heap[g]? = some (.cells #[a, b, c, d] T)) : (w.setCell ⟨g, 3, none⟩ v).heap[g]? = some (.cells #[a, b, c, v] T) := by have := heap_setCell_same w g 3 _ _ v h; simpa using this
theorem repS {w wn : World} {S : Nat → Prop} {o : Obj} {c : Nat} (hw : w.heap.size ≤ wn.heap.size) (h : (S c ∧ c < w.heap.size) ∨ (wn.alloc o).heap.size ≤ c) : ((S c ∧ c < w.heap.size) ∨ wn.heap.size ≤ c) ∧ c ≠ wn.heap.size := by
 rw [World.size_alloc] at h
 rcases h with ⟨h1, h2⟩ | h
 · exact ⟨.inl ⟨h1, h2⟩, by omega⟩
 · exact ⟨.inr (by omega), by omega⟩
set_option maxRecDepth 100000 in
set_option maxHeartbeats 8000000 in
theorem RReplace_any (u : Tm) (hu : sizeT u ≤ 900000) : ∀ (p : List Int) (w : World) (S Sp : Nat → Prop) (a pa a' : Option Addr) (cap pcap cap' : Nat) (t : Tm), sizeT t ≤ 900000 → TmW w S a cap t → LsG elI w Sp (.slice pa p.length pcap) p → TmW w S a' cap' u →
 Calls Tryz.prog 47 #[.agg #[.int .i64 t.kind, .string t.name, .int .i64 t.sort, .slice a t.kids.length cap], .slice pa p.length pcap, .agg #[.int .i64 u.kind, .string u.name, .int .i64 u.sort, .slice a' u.kids.length cap']] w fun e w' => ∃ v er, e = .returned (.tuple #[v, .int .i64 er]) ∧ Ext w w' ∧ atR w' (fun c => S c ∨ w.heap.size ≤ c) v er (repT p t u) := by
 intro p
 induction p with
 | nil =>
   intro w S Sp a pa a' cap pcap cap' t ht hT hP hT'
   obtain ⟨bx, w1, hbbx, hwbx, HBbx, hEbx⟩ := box_new w (.cells #[.int .i64 t.kind, .string t.name, .int .i64 t.sort, .slice a t.kids.length cap] 25)
   have hs1 : w1.heap.size = bx + 1 := by rw [hwbx, hbbx, World.size_alloc]
   obtain ⟨ux, hux⟩ : ∃ zz9, zz9 = bx + 1 := ⟨_, rfl⟩
   obtain ⟨w2, hw2⟩ : ∃ zz9, zz9 = w1.alloc (.cells #[.int .i64 u.kind, .string u.name, .int .i64 u.sort, .slice a' u.kids.length cap'] 25) := ⟨_, rfl⟩
   have hE2 : Ext w1 w2 := by rw [hw2]; exact Ext.alloc _ _
   have hs2 : w2.heap.size = ux + 1 := by rw [hw2, World.size_alloc, hs1, hux]
   have hbu : w2.heap[ux]? = some (.cells #[.int .i64 u.kind, .string u.name, .int .i64 u.sort, .slice a' u.kids.length cap'] 25) := by rw [hw2, hux, ← hs1]; exact hs_new
   obtain ⟨rx, hrx⟩ : ∃ zz9, zz9 = ux + 1 := ⟨_, rfl⟩
   obtain ⟨w3, hw3⟩ : ∃ zz9, zz9 = w2.alloc (.cells #[.int .i64 0, .string ⟨#[]⟩, .int .i64 0, .slice none 0 0] 25) := ⟨_, rfl⟩
   have hE3 : Ext w2 w3 := by rw [hw3]; exact Ext.alloc _ _
   have HBR : Hid (w3.heap[rx]? = some (.cells #[.int .i64 0, .string ⟨#[]⟩, .int .i64 0, .slice none 0 0] 25)) := Lib.hid (by rw [hw3, hrx, ← hs2]; exact hs_new)
   have hE := (hEbx.trans hE2).trans hE3
   have HE := Lib.hid hE
   obtain ⟨u0, u1, u2, u3⟩ := box4r (hs_ext hE3 hbu)
   have HNB : Hid (w.heap.size = bx ∧ ux = bx + 1 ∧ rx = bx + 2) := Lib.hid ⟨hbbx.symm, hux, by omega⟩
   have HT' := Lib.hid hT'
   clear hT hP hT' hE hE2 hE3 hEbx hs1 hs2 hbu ht
   go_enter Tryz.func47, Tryz.ntmps47
   go_upto_region 1 with fail
   rw [← hwbx, ← hbbx, ← hw2]
   try rw [← hux]
   rw [← hw3]
   try rw [← hrx]
   clear hwbx hbbx hw2 hux hw3 hrx
   go_wp2_with (
    refine wpList_storeT rfl (.tmp 6) (.tmp 14) rfl (g := rx) rfl (k := u.kind) (s := u.sort) (n := u.name) (ka := a') (kl := u.kids.length) (kc := cap') rfl HBR.out rfl ?_
    intro w6 c6 q6 e6 z6
    have HG6 := Lib.hid c6
    have HE6 := Lib.hid (e6 w HE.out (by have := HNB.out; omega))
    clear c6 q6 e6 z6)
   exact ret_term2 (g := rx) rfl rfl HG6.out rfl ⟨_, _, rfl, HE6.out, .inl ⟨u, rfl, rfl, a', cap', rfl, (HT'.out.ext HE6.out).wide (fun c h _ => .inl h)⟩⟩
 | cons i p ih =>
   intro w S Sp a pa a' cap pcap cap' t ht hT hP hT'
   obtain ⟨-, hpl, hpc⟩ := hP.len
   unfold maxLen at hpc
   rw [List.length_cons] at hpl
   have hT := hT.wide (S' := fun c => S c ∧ c < w.heap.size) (fun c h h2 => ⟨h, h2⟩)
   have hT' := hT'.wide (S' := fun c => S c ∧ c < w.heap.size) (fun c h h2 => ⟨h, h2⟩)
   obtain ⟨bx, w1, hbbx, hwbx, HBbx, hEbx⟩ := box_new w (.cells #[.int .i64 t.kind, .string t.name, .int .i64 t.sort, .slice a t.kids.length cap] 25)
   have hs1 : w1.heap.size = bx + 1 := by rw [hwbx, hbbx, World.size_alloc]
   obtain ⟨ux, hux⟩ : ∃ zz9, zz9 = bx + 1 := ⟨_, rfl⟩
   obtain ⟨w2, hw2⟩ : ∃ zz9, zz9 = w1.alloc (.cells #[.int .i64 u.kind, .string u.name, .int .i64 u.sort, .slice a' u.kids.length cap'] 25) := ⟨_, rfl⟩
   have hE2 : Ext w1 w2 := by rw [hw2]; exact Ext.alloc _ _
   have hs2 : w2.heap.size = ux + 1 := by rw [hw2, World.size_alloc, hs1, hux]
   have hbu : w2.heap[ux]? = some (.cells #[.int .i64 u.kind, .string u.name, .int .i64 u.sort, .slice a' u.kids.length cap'] 25) := by rw [hw2, hux, ← hs1]; exact hs_new
   obtain ⟨rx, hrx⟩ : ∃ zz9, zz9 = ux + 1 := ⟨_, rfl⟩
   obtain ⟨w3, hw3⟩ : ∃ zz9, zz9 = w2.alloc (.cells #[.int .i64 0, .string ⟨#[]⟩, .int .i64 0, .slice none 0 0] 25) := ⟨_, rfl⟩
   have hE3 : Ext w2 w3 := by rw [hw3]; exact Ext.alloc _ _
   have HBR : Hid (w3.heap[rx]? = some (.cells #[.int .i64 0, .string ⟨#[]⟩, .int .i64 0, .slice none 0 0] 25)) := Lib.hid (by rw [hw3, hrx, ← hs2]; exact hs_new)
   have hE := (hEbx.trans hE2).trans hE3
   have HE := Lib.hid hE
   obtain ⟨b0, b1, b2, b3⟩ := box4r (hs_ext (hE2.trans hE3) HBbx.out)
   obtain ⟨u0, u1, u2, u3⟩ := box4r (hs_ext hE3 hbu)
   have HBT := Lib.hid (hs_ext (hE2.trans hE3) HBbx.out)
   have HNB : Hid (w.heap.size = bx ∧ ux = bx + 1 ∧ rx = bx + 2) := Lib.hid ⟨hbbx.symm, hux, by omega⟩
   have hkl := hT.len
   have hkc := hT.cap
   unfold maxLen at hkc
   have HT' := Lib.hid (hT'.ext hE)
   have HT := Lib.hid (hT.ext hE)
   have HP := Lib.hid (hP.ext hE)
   have HZ := Lib.hid ht
   have IH := Lib.hid ih
   obtain ⟨pb, po, rfl, p0, hi64⟩ := (hP.ext hE).iAt (i := 0) (x := i) rfl
   rw [Nat.add_zero] at p0
   have hi1 := hi64.1
   have hi2 := hi64.2
   obtain ⟨R, hR⟩ : ∃ R, R = repT (i :: p) t u := ⟨_, rfl⟩
   rw [← hR]
   rw [repT] at hR
   have HR := Lib.hid hR
   clear hT hP hT' hE hE2 hE3 hEbx hs1 hs2 hbu ht ih hR hi64
   go_enter Tryz.func47, Tryz.ntmps47
   go_upto_region 1 with fail
   rw [← hwbx, ← hbbx, ← hw2]
   try rw [← hux]
   rw [← hw3]
   try rw [← hrx]
   clear hwbx hbbx hw2 hux hw3 hrx
   by_cases hin : 0 ≤ i ∧ i < t.kids.length
   · obtain ⟨j, rfl⟩ : ∃ j : Nat, i = j := ⟨i.toNat, by omega⟩
     obtain ⟨x, hx⟩ : ∃ x, t.kids[j]? = some x := ⟨_, List.getElem?_eq_getElem (by omega)⟩
     have hj1 : (j : Int) < (t.kids.length : Int) := by omega
     have hj2 : ¬ ((j : Int) < 0) := by omega
     have hj3 : ¬ ((t.kids.length : Int) ≤ (j : Int)) := by omega
     have hj4 : (0 : Int) ≤ (j : Int) := by omega
     obtain ⟨xb, xo, xa, xc, rfl, x0, x1, x2, x3, hTx⟩ := HT.out.ts.at hx
     have HX := Lib.hid hx
     have HTX := Lib.hid hTx
     clear hx hTx
     go_upto_region 3 with fail
     go_quiet (fail)
     generalize hwn : World.drewN w3 _ = wn
     have hEn : Ext w3 wn := by rw [← hwn]; exact Ext.then_drN (Ext.refl _)
     obtain ⟨b0, b1, b2, b3, u0, u1, u2, u3, x0, x1, x2, x3, p0⟩ := cs_e13 hEn ⟨b0, b1, b2, b3, u0, u1, u2, u3, x0, x1, x2, x3, p0⟩
     have HBR := Lib.hid (hs_ext hEn HBR.out)
     have HBT := Lib.hid (hs_ext hEn HBT.out)
     have HE := Lib.hid (HE.out.trans hEn)
     have HT := Lib.hid (HT.out.ext hEn)
     have HT' := Lib.hid (HT'.out.ext hEn)
     have HP := Lib.hid (HP.out.ext hEn)
     have HTX := Lib.hid (HTX.out.ext hEn)
     have P0 := Lib.hid p0
     clear hEn hwn
     go_upto_region 5 with fail
     obtain ⟨y, hy⟩ : ∃ y, y = repT p x u := ⟨_, rfl⟩
     have HY := Lib.hid hy
     clear hy
     have hp1 : (1 : Int) ≤ (p.length : Int) + 1 := by omega
     obtain ⟨za, hza⟩ : ∃ za : Option Addr, (if pcap = 1 then some (⟨pb, po, none⟩ : Addr) else some ⟨pb, po + 1, none⟩) = za := ⟨_, rfl⟩
     have HPD : Hid (LsG elI wn Sp (.slice za p.length (pcap - 1)) p) := Lib.hid (by
      rw [← hza]
      have h := HP.out.drop_any (m := 1) (by simp)
      by_cases h1 : pcap = 1
      · rw [if_pos h1] at h ⊢; exact h
      · rw [if_neg h1] at h ⊢; exact h)
     have hxz : sizeT x ≤ 900000 := by have := sizeL_get HX.out; have := sizeT_kids t; have := HZ.out; omega
     have HXZ := Lib.hid hxz
     clear hxz
     have HWN : Hid (w.heap.size ≤ wn.heap.size) := Lib.hid HE.out.size
     have HCON := Lib.hid (fun (w' : World) (hE : Ext wn w') => IH.out w' (fun c => S c ∧ c < w.heap.size) Sp xa _ a' xc _ cap' x HXZ.out (HTX.out.ext hE) (HPD.out.ext hE) (HT'.out.ext hE))
     have b3a := cs_al (o := (.cells #[.int .i64 0, .string ⟨#[]⟩, .int .i64 0, .slice none 0 0] 25)) b3
     have p0a := cs_al (o := (.cells #[.int .i64 0, .string ⟨#[]⟩, .int .i64 0, .slice none 0 0] 25)) p0
     have x0a := cs_al (o := (.cells #[.int .i64 0, .string ⟨#[]⟩, .int .i64 0, .slice none 0 0] 25)) x0
     have x1a := cs_al (o := (.cells #[.int .i64 0, .string ⟨#[]⟩, .int .i64 0, .slice none 0 0] 25)) x1
     have x2a := cs_al (o := (.cells #[.int .i64 0, .string ⟨#[]⟩, .int .i64 0, .slice none 0 0] 25)) x2
     have x3a := cs_al (o := (.cells #[.int .i64 0, .string ⟨#[]⟩, .int .i64 0, .slice none 0 0] 25)) x3
     have u0a := cs_al (o := (.cells #[.int .i64 0, .string ⟨#[]⟩, .int .i64 0, .slice none 0 0] 25)) u0
     have u1a := cs_al (o := (.cells #[.int .i64 0, .string ⟨#[]⟩, .int .i64 0, .slice none 0 0] 25)) u1
     have u2a := cs_al (o := (.cells #[.int .i64 0, .string ⟨#[]⟩, .int .i64 0, .slice none 0 0] 25)) u2
     have u3a := cs_al (o := (.cells #[.int .i64 0, .string ⟨#[]⟩, .int .i64 0, .slice none 0 0] 25)) u3
     have hEd : Ext wn wn.drew := Ext.drew wn
     obtain ⟨b3, p0, x0, x1, x2, x3, u0, u1, u2, u3⟩ := cs_e10 hEd ⟨b3, p0, x0, x1, x2, x3, u0, u1, u2, u3⟩
     clear hEd
     go_cut [8, 9] from 29 to 42 (fun v8 v9 wx => ∃ (q : Nat) (er yk ys : Int) (yn : ByteArray) (ya : Option Addr) (yl yc : Nat), v8 = .pointer (some ⟨q, 0, none⟩) ∧ v9 = .int .i64 er ∧ Ext wn wx ∧ wn.heap.size ≤ q ∧ wx.heap[q]? = some (.cells #[.int .i64 yk, .string yn, .int .i64 ys, .slice ya yl yc] 25) ∧ atR wx (fun c => ((S c ∧ c < w.heap.size) ∨ wn.heap.size ≤ c) ∧ c ≠ q) (.agg #[.int .i64 yk, .string yn, .int .i64 ys, .slice ya yl yc]) er (repT p x u))
     case first =>
      go_region_law (
       go_simp
       go_at_call 47
       refine (HCON.out _ (by repeat (first | exact Ext.refl _ | exact Ext.alloc _ _ | apply Ext.then_dr | apply Ext.then_drN | apply Ext.then_drN2 | (refine Ext.then_al ?_ _)))).mono ?_
       rintro e w5 ⟨v1, er, rfl, hE5, hA5⟩
       have hEw : Ext wn w5 := Ext.trans (by repeat (first | exact Ext.refl _ | exact Ext.alloc _ _ | apply Ext.then_dr | apply Ext.then_drN | apply Ext.then_drN2 | (refine Ext.then_al ?_ _))) hE5
       obtain ⟨yk, yn, ys, ya, yl, yc, rfl⟩ : ∃ yk yn ys ya yl yc, v1 = .agg #[.int .i64 yk, .string yn, .int .i64 ys, .slice ya yl yc] := by
        rcases hA5 with ⟨_, _, _, _, _, e, _⟩ | ⟨_, _, e⟩ <;> exact ⟨_, _, _, _, _, _, e⟩
       try (have hz : w5.heap[wn.heap.size]? = some (.cells #[.int .i64 0, .string ⟨#[]⟩, .int .i64 0, .slice none 0 0] 25) := hs_ext hE5 hs_new; have z0 : w5.cell? ⟨wn.heap.size, 0, none⟩ = some (.int .i64 0) := (cellc hz).trans rfl; have z1 : w5.cell? ⟨wn.heap.size, 1, none⟩ = some (.string ⟨#[]⟩) := (cellc hz).trans rfl; have z2 : w5.cell? ⟨wn.heap.size, 2, none⟩ = some (.int .i64 0) := (cellc hz).trans rfl; have z3 : w5.cell? ⟨wn.heap.size, 3, none⟩ = some (.slice none 0 0) := (cellc hz).trans rfl; have f0 : w5.frozen? ⟨wn.heap.size, 0, none⟩ = false := frozenc hz; have f1 : w5.frozen? ⟨wn.heap.size, 1, none⟩ = false := frozenc hz; have f2 : w5.frozen? ⟨wn.heap.size, 2, none⟩ = false := frozenc hz; have f3 : w5.frozen? ⟨wn.heap.size, 3, none⟩ = false := frozenc hz; have HZ5 := Lib.hid hz; clear hz)
       have HEW := Lib.hid hEw
       have HAR := Lib.hid hA5
       have HA5 := Lib.hid (hA5.wide2 (S' := fun c => ((S c ∧ c < w.heap.size) ∨ wn.heap.size ≤ c) ∧ c ≠ w5.heap.size) (fun c h h2 => ⟨h.imp id (fun h => Nat.le_trans (Ext.size (show Ext wn _ from (by repeat (first | exact Ext.refl _ | exact Ext.alloc _ _ | apply Ext.then_dr | apply Ext.then_drN | apply Ext.then_drN2 | (refine Ext.then_al ?_ _))))) h), by omega⟩))
       clear hE5 hA5 hEw)
      all_goals
       go_wp2_with fail
       go_meet
       first
        | exact ⟨_, _, _, _, _, _, _, _, rfl, rfl, HEW.out.then_al _, HEW.out.size, hs_new, HA5.out.ext (Ext.alloc _ _)⟩
        | exact ⟨_, _, _, _, _, _, _, _, rfl, rfl, (set4_box _ _ _ _ HZ5.out).2.2 _ HEW.out (Nat.le_refl _), Nat.le_refl _, (set4_box _ _ _ _ HZ5.out).1, (HAR.out.wide2 (S' := fun c => ((S c ∧ c < w.heap.size) ∨ wn.heap.size ≤ c) ∧ c ≠ wn.heap.size) (fun c h _ => repS HWN.out h)).keep (fun c h _ => (set4_box _ _ _ _ HZ5.out).2.1 c h.2)⟩
     case rest =>
      obtain ⟨q, er, yk, ys, yn, ya, yl, yc, rfl, rfl, hEc, hq, hqb, hA⟩ := hcut
      rename World => wq
      have HE4 := Lib.hid (HE.out.trans hEc)
      have HT4 := Lib.hid (HT.out.ext hEc)
      have HB4R := Lib.hid (hs_ext hEc HBR.out)
      have HB4T := Lib.hid (hs_ext hEc HBT.out)
      have HQG : Hid (wn.heap.size ≤ q ∧ rx < q ∧ w.heap.size ≤ wn.heap.size ∧ q < wq.heap.size) := Lib.hid ⟨hq, by have := lt_of_get' HBR.out; omega, HWN.out, lt_of_get' hqb⟩
      have HQB := Lib.hid hqb
      have HRX : Hid (R = (repT p x u).map (fun z => .mk t.kind t.name t.sort (t.kids.set j z))) := Lib.hid (by
       rw [HR.out, if_pos (by omega)]
       simp only [Int.toNat_natCast]
       rw [HX.out])
      clear b0 b1 b2 b3 u0 u1 u2 u3 x0 x1 x2 x3 p0 b3a p0a x0a x1a x2a x3a u0a u1a u2a u3a
      obtain ⟨b0, b1, b2, b3⟩ := box4r HB4T.out
      have p0 : wq.cell? ⟨pb, po, none⟩ = some (.int .i64 (j : Int)) := cs_ext hEc P0.out
      rcases hA with ⟨z, hz, her, va, vc, hv, hTz⟩ | ⟨hnone, her, -⟩
      · subst her
        have hv2 : yk = z.kind ∧ yn = z.name ∧ ys = z.sort ∧ ya = va ∧ yl = z.kids.length ∧ yc = vc := by simpa using hv
        obtain ⟨rfl, rfl, rfl, rfl, rfl, rfl⟩ := hv2
        have HF : Hid (R = some (.mk t.kind t.name t.sort (t.kids.set j z))) := Lib.hid (by rw [HRX.out, hz]; rfl)
        have HTZ := Lib.hid (hTz.below' (S' := fun c => ((S c ∧ c < w.heap.size) ∨ wn.heap.size ≤ c) ∧ c < wq.heap.size) (fun c h h2 => ⟨h.1, h2⟩))
        clear hv hTz hz hqb hq hEc
        have HRW : Hid (rx < wn.heap.size ∧ w.heap.size ≤ rx) := Lib.hid ⟨lt_of_get' HBR.out, by have := HNB.out; omega⟩
        have HNM : Hid (t.name.size ≤ maxLen ∧ I64 t.sort ∧ I64 t.kind) := Lib.hid ⟨HT4.out.name, HT4.out.sort, HT4.out.kind⟩
        obtain ⟨ox, hox⟩ : ∃ zz9, zz9 = wq.heap.size := ⟨_, rfl⟩
        rw [← hox] at HTZ
        obtain ⟨w8, hw8⟩ : ∃ zz9, zz9 = wq.alloc (.cells #[.int .i64 t.kind, .string t.name, .int .i64 t.sort, .slice (some ⟨xb, xo, none⟩) t.kids.length cap] 25) := ⟨_, rfl⟩
        have hE8 : Ext wq w8 := by rw [hw8]; exact Ext.alloc _ _
        have hs8 : w8.heap.size = ox + 1 := by rw [hw8, hox, World.size_alloc]
        have HO8 : Hid (w8.heap[ox]? = some (.cells #[.int .i64 t.kind, .string t.name, .int .i64 t.sort, .slice (some ⟨xb, xo, none⟩) t.kids.length cap] 25)) := Lib.hid (by rw [hw8, hox]; exact hs_new)
        obtain ⟨c1, hc1⟩ : ∃ zz9, zz9 = w8.heap.size := ⟨_, rfl⟩
        obtain ⟨w9, hw9⟩ : ∃ zz9, zz9 = w8.alloc (.cells #[] 25) := ⟨_, rfl⟩
        have hE9 : Ext w8 w9 := by rw [hw9]; exact Ext.alloc _ _
        have HC1 : Hid (c1 = ox + 1 ∧ ox = wq.heap.size ∧ w9.heap.size = ox + 2) := Lib.hid ⟨by omega, hox, by rw [hw9, World.size_alloc, hs8]⟩
        have hOw : OwnT w9 (ox + 1) (fun c => ((S c ∧ c < w.heap.size) ∨ wn.heap.size ≤ c) ∧ c < ox) (.slice (some ⟨c1, 0, none⟩) 0 0) [] := ⟨[], rfl, ⟨rfl, .inr ⟨c1, 0, #[], rfl, by omega, by rw [hw9, hc1]; exact hs_new, Nat.le_refl _, by unfold maxLen; omega, rfl, rfl⟩⟩, by simp⟩
        have HOW := Lib.hid hOw
        have HO9 := Lib.hid (hs_ext hE9 HO8.out)
        have HEQ := Lib.hid (hE8.trans hE9)
        have HTZ9 := Lib.hid (HTZ.out.ext HEQ.out)
        have HLS : Hid (LsT w9 (fun c => ((S c ∧ c < w.heap.size) ∨ wn.heap.size ≤ c) ∧ c < ox) (.slice (some ⟨xb, xo, none⟩) t.kids.length cap) t.kids) := Lib.hid ((HT4.out.ext (hE8.trans hE9)).ls.wide (fun c h _ => ⟨.inl h, by have := HQG.out; omega⟩))
        have HKL2 : Hid (t.kids.length ≤ 1000000) := Lib.hid (by have := HZ.out; have := sizeT_kids t; have := len_size t.kids; omega)
        have b3n := cs_al (o := (.cells #[] 25)) (cs_ext hE8 b3)
        have HP0 := Lib.hid p0
        clear hs8 hOw
        go_upto_region 9 with fail
        rw [← hw8, ← hox]
        clear hw8 hox hE8 hE9 b0 b1 b2 b3
        go_wp2_with (
         at_builtin
         rw [← hw9, ← hc1]
         refine wpList_appT rfl (.tmp 48) (.tmp 50) rfl rfl rfl HOW.out (by have := HC1.out; omega) (fun c h e => by have e2 : c1 = c := Option.some.inj e; have := HC1.out; have := h.2; omega) (by simp) (X := t.kids) HKL2.out HLS.out ?_
         intro v10 w10 o10 g10 k10
         rw [List.nil_append] at o10
         have hE10 : Ext wq w10 := HEQ.out.grown g10 (fun k hk => by have e2 : c1 = k := Option.some.inj hk; have := HC1.out; omega)
         have hb10 : w10.heap[ox]? = _ := (g10.block ox (lt_of_get' HO9.out) (fun e => by have e2 : c1 = ox := Option.some.inj e.symm; have := HC1.out; omega)).trans HO9.out
         obtain ⟨oa, oc, hv10, -, hcm10⟩ := o10.slice
         subst hv10
         have z3 : w10.cell? ⟨ox, 3, none⟩ = some (.slice (some ⟨xb, xo, none⟩) t.kids.length cap) := by rw [cellc hb10]; rfl
         have f3 : w10.frozen? ⟨ox, 3, none⟩ = false := frozenc hb10
         have HX10 := Lib.hid (bset3R (.slice oa t.kids.length oc) hb10)
         have HE10 := Lib.hid (hE10.setCell (b := ox) (o := 3) (by have := HC1.out; omega) (.slice oa t.kids.length oc))
         have HO10 := Lib.hid (o10.keep (w' := w10.setCell ⟨ox, 3, none⟩ (.slice oa t.kids.length oc)) (fun g hg => heap_setCell_other _ _ _ _ (by show g ≠ ox; have := (o10.lt g hg).1; omega)) (fun c hc _ => heap_setCell_other _ _ _ _ (by show c ≠ ox; have := hc.2; omega)))
         clear o10 g10 k10 hE10 hb10)
        generalize hw11 : World.setCell w10 _ _ = w11 at HX10 HE10 HO10 ⊢
        obtain ⟨b0, b1, b2, b3⟩ := box4r HX10.out
        obtain ⟨g, cg, csz, hv, hg1, hg2, -, -⟩ := HO10.out.g.at HX.out
        obtain ⟨rfl, rfl⟩ : oa = some ⟨g, 0, none⟩ ∧ oc = cg := by cases hv; exact ⟨rfl, rfl⟩
        have HGL : Hid (ox + 1 ≤ g) := Lib.hid (HO10.out.lt g rfl).1
        have HQ11 := Lib.hid (hs_ext HE10.out HQB.out)
        have HR11 := Lib.hid (hs_ext HE10.out HB4R.out)
        have HT11 := Lib.hid (HTZ.out.ext HE10.out)
        have p0 := cs_ext HE10.out HP0.out
        have HXB := HX10
        obtain ⟨q0, q1, q2, q3⟩ := box4r HQ11.out
        clear hv hg1 hg2 hw11 HX10 z3 f3 b3n hcm10
        go_upto_region 10 with fail
        go_still_tail 7, (by kernel_rfl)
        change wpList _ _ _ _ _ w11.drew
        generalize hwm : World.drew w11 = wm
        have hEm : Ext w11 wm := by rw [← hwm]; exact Ext.drew w11
        have HOM := Lib.hid (HO10.out.keep (w' := wm) (fun k hk => hEm.block (HO10.out.lt k hk).2) (fun c hc h => hEm.block h))
        have HTM := Lib.hid (HT11.out.ext hEm)
        have HXM := Lib.hid (hs_ext hEm HXB.out)
        have HRM := Lib.hid (hs_ext hEm HR11.out)
        have HEM := Lib.hid (HE4.out.trans (HE10.out.trans hEm))
        have HLT : Hid (j < t.kids.length) := Lib.hid (by omega)
        clear hEm hwm b0 b1 b2 b3 q0 q1 q2 q3 p0
        go_wp2_with (first
         | (refine wpList_storeTk rfl (.tmp 59) (.tmp 58) rfl (g := g) (k := j) (t := z) rfl rfl HOM.out HLT.out HTM.out (fun c hc e => by have := HGL.out; have := hc.2; omega) ?_
            intro w13 o13 g13 s13
            have HO13 := Lib.hid o13
            have HX13 := Lib.hid ((g13.block ox (lt_of_get' HXM.out) (fun e => by have e2 : g = ox := Option.some.inj e.symm; have := HGL.out; omega)).trans HXM.out)
            have HR13 := Lib.hid ((g13.block rx (lt_of_get' HRM.out) (fun e => by have e2 : g = rx := Option.some.inj e.symm; have := HGL.out; have := HQG.out; have := HC1.out; omega)).trans HRM.out)
            have HE13 := Lib.hid (HEM.out.grown g13 (fun k hk => by have e2 : g = k := Option.some.inj hk; have := HGL.out; have := HC1.out; have := HQG.out; omega))
            obtain ⟨b0, b1, b2, b3⟩ := box4r HX13.out
            clear o13 g13 s13)
         | (refine wpList_storeT rfl (.tmp 6) (.tmp 60) rfl (g := rx) rfl (k := t.kind) (s := t.sort) (n := t.name) (ka := some ⟨g, 0, none⟩) (kl := t.kids.length) (kc := oc) rfl HR13.out rfl ?_
            intro w6 c6 q6 e6 z6
            have HG6 := Lib.hid c6
            have HE6 := Lib.hid (e6 w HE13.out HRW.out.2)
            have HQ6 := Lib.hid q6
            clear c6 q6 e6 z6))
        have hO6 := HO13.out.keep (w' := w6) (fun k hk => HQ6.out k (by have := (HO13.out.lt k hk).1; have := HQG.out; have := HC1.out; omega)) (fun c hc _ => HQ6.out c (by have := hc.1; have := HRW.out; omega))
        obtain ⟨va, vc, hv, hlc, hcm, hts⟩ := (hO6.wide (S' := fun c => S c ∨ w.heap.size ≤ c) (fun c hc _ => hc.1.imp (fun h => h.1) (fun h => by have := HRW.out; omega))).ls
        have hsl : (t.kids.set j z).length = t.kids.length := by simp
        rw [hsl] at hv
        cases hv
        have hfin : TmW w6 (fun c => S c ∨ w.heap.size ≤ c) (some ⟨g, 0, none⟩) oc (.mk t.kind t.name t.sort (t.kids.set j z)) := ⟨HNM.out.2.2, HNM.out.2.1, HNM.out.1, hlc, hcm, LsT.kids (n := (t.kids.set j z).length) ⟨_, _, rfl, hlc, hcm, hts⟩ (fun b o e => by
         cases e
         have := HGL.out
         have := HQG.out
         have := HC1.out
         exact .inr (by omega))⟩
        refine ret_term2 (g := rx) rfl rfl HG6.out rfl ⟨_, _, rfl, HE6.out, .inl ⟨_, HF.out, rfl, _, _, ?_, hfin⟩⟩
        show _ = Value.agg #[_, _, _, .slice _ (t.kids.set j z).length _]
        rw [hsl]
        rfl
      · subst her
        have HRN : Hid (R = none) := Lib.hid (by rw [HRX.out, hnone]; rfl)
        clear hnone hqb hq hEc
        go_wp2_with (first
         | (refine wpList_buildT rfl [] rfl [] rfl built_none ?_)
         | (refine wpList_storeT rfl (.tmp 6) (.tmp 45) rfl (g := rx) rfl (k := 0) (s := 0) (n := ⟨#[]⟩) (ka := none) (kl := 0) (kc := 0) rfl HB4R.out rfl ?_
            intro w6 c6 q6 e6 z6
            have HG6 := Lib.hid c6
            have HE6 := Lib.hid (e6 w HE4.out (by have := HNB.out; omega))
            clear c6 q6 e6 z6))
        exact ret_term2 (g := rx) rfl rfl HG6.out rfl ⟨_, _, rfl, HE6.out, .inr ⟨HRN.out, rfl, rfl⟩⟩
   · have HRN : Hid (R = none) := Lib.hid (by
      rw [HR.out]
      split
      · rw [List.getElem?_eq_none (by omega)]
      · rfl)
     by_cases h0 : i < 0
     · skip
       go_upto_region 3 with fail
       go_quiet (fail)
       generalize hwn : World.drewN w3 _ = wn
       have hEn : Ext w3 wn := by rw [← hwn]; exact Ext.then_drN (Ext.refl _)
       have HBR := Lib.hid (hs_ext hEn HBR.out)
       have HE := Lib.hid (HE.out.trans hEn)
       clear hEn hwn
       go_wp2_with (first
        | (refine wpList_buildT rfl [] rfl [] rfl built_none ?_)
        | (refine wpList_storeT rfl (.tmp 6) (.tmp 28) rfl (g := rx) rfl (k := 0) (s := 0) (n := ⟨#[]⟩) (ka := none) (kl := 0) (kc := 0) rfl HBR.out rfl ?_
           intro w6 c6 q6 e6 z6
           have HG6 := Lib.hid c6
           have HE6 := Lib.hid (e6 w HE.out (by have := HNB.out; omega))
           clear c6 q6 e6 z6))
       exact ret_term2 (g := rx) rfl rfl HG6.out rfl ⟨_, _, rfl, HE6.out, .inr ⟨HRN.out, rfl, rfl⟩⟩
     · have h1 : (t.kids.length : Int) ≤ i := by omega
       go_upto_region 3 with fail
       go_quiet (fail)
       generalize hwn : World.drewN w3 _ = wn
       have hEn : Ext w3 wn := by rw [← hwn]; exact Ext.then_drN (Ext.refl _)
       have HBR := Lib.hid (hs_ext hEn HBR.out)
       have HE := Lib.hid (HE.out.trans hEn)
       clear hEn hwn
       go_wp2_with (first
        | (refine wpList_buildT rfl [] rfl [] rfl built_none ?_)
        | (refine wpList_storeT rfl (.tmp 6) (.tmp 28) rfl (g := rx) rfl (k := 0) (s := 0) (n := ⟨#[]⟩) (ka := none) (kl := 0) (kc := 0) rfl HBR.out rfl ?_
           intro w6 c6 q6 e6 z6
           have HG6 := Lib.hid c6
           have HE6 := Lib.hid (e6 w HE.out (by have := HNB.out; omega))
           clear c6 q6 e6 z6))
       exact ret_term2 (g := rx) rfl rfl HG6.out rfl ⟨_, _, rfl, HE6.out, .inr ⟨HRN.out, rfl, rfl⟩⟩

end Go.Proofs.YtpfnlbaloaohgaaGreat
