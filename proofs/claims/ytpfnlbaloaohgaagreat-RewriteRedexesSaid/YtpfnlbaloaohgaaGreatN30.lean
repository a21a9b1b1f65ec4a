/- Contracts: joins by normal forms. -/
import Derived.Test.YtpfnlbaloaohgaaGreatN29
namespace Go.Proofs.YtpfnlbaloaohgaaGreat
open Go Go.RowKit
set_option linter.unusedVariables false
set_option linter.unusedSimpArgs false

theorem sizeT_valid {t : Tm} (h : validT t = 0) : sizeT t ≤ 400 := (validT_iff.1 h).2.1

set_option maxRecDepth 100000 in
set_option maxHeartbeats 8000000 in
theorem PJoins_any {w : World} {S S' S'' : Nat → Prop} {a ta ua : Option Addr} {cap tc uc : Nat} {R : List Rl} {t u : Tm} {fuel : Int} (hz : smallR R) (hf : I64 fuel) (hL : LsG elP w S (.slice a R.length cap) R) (ht : sizeT t ≤ 100000) (hT : TmW w S' ta tc t) (hu : sizeT u ≤ 100000) (hU : TmW w S'' ua uc u) :
    Calls Tryz.prog 30 #[.slice a R.length cap, .agg #[.int .i64 t.kind, .string t.name, .int .i64 t.sort, .slice ta t.kids.length tc], .agg #[.int .i64 u.kind, .string u.name, .int .i64 u.sort, .slice ua u.kids.length uc], .int .i64 fuel] w fun e w' => ∃ v er, e = .returned (.tuple #[v, .int .i64 er]) ∧ Ext w w' ∧ joinR w' (fun c => w.heap.size ≤ c) v er (joinsP R t u fuel) := by
  obtain ⟨-, hll, hlc⟩ := hL.len
  unfold maxLen at hlc
  obtain ⟨bx, hbbx⟩ : ∃ zz9, zz9 = w.heap.size := ⟨_, rfl⟩
  obtain ⟨w1, hwbx⟩ : ∃ zz9, zz9 = w.alloc (.cells #[.int .i64 t.kind, .string t.name, .int .i64 t.sort, .slice ta t.kids.length tc] 25) := ⟨_, rfl⟩
  have HBbx : Hid (w1.heap[bx]? = some (.cells #[.int .i64 t.kind, .string t.name, .int .i64 t.sort, .slice ta t.kids.length tc] 25)) := Lib.hid (by rw [hwbx, hbbx]; exact hs_new)
  have hEbx : Ext w w1 := by rw [hwbx]; exact Ext.alloc _ _
  have hs1 : w1.heap.size = bx + 1 := by rw [hwbx, hbbx, World.size_alloc]
  obtain ⟨yx, hyx⟩ : ∃ zz9, zz9 = bx + 1 := ⟨_, rfl⟩
  obtain ⟨w2, hw2⟩ : ∃ zz9, zz9 = w1.alloc (.cells #[.int .i64 u.kind, .string u.name, .int .i64 u.sort, .slice ua u.kids.length uc] 25) := ⟨_, rfl⟩
  have hE2 : Ext w1 w2 := by rw [hw2]; exact Ext.alloc _ _
  have hs2 : w2.heap.size = yx + 1 := by rw [hw2, World.size_alloc, hs1, hyx]
  have hby : w2.heap[yx]? = some (.cells #[.int .i64 u.kind, .string u.name, .int .i64 u.sort, .slice ua u.kids.length uc] 25) := by rw [hw2, hyx, ← hs1]; exact hs_new
  obtain ⟨jx, hjx⟩ : ∃ zz9, zz9 = yx + 1 := ⟨_, rfl⟩
  obtain ⟨w3, hw3⟩ : ∃ zz9, zz9 = w2.alloc (.cells #[.slice none 0 0, .slice none 0 0, .int .i64 0, .string ⟨#[]⟩, .int .i64 0, .slice none 0 0] 48) := ⟨_, rfl⟩
  have hE3 : Ext w2 w3 := by rw [hw3]; exact Ext.alloc _ _
  have HBJ : Hid (w3.heap[jx]? = some (.cells #[.slice none 0 0, .slice none 0 0, .int .i64 0, .string ⟨#[]⟩, .int .i64 0, .slice none 0 0] 48)) := Lib.hid (by rw [hw3, hjx, ← hs2]; exact hs_new)
  have hE := (hEbx.trans hE2).trans hE3
  have b0 : w3.cell? ⟨bx, 0, none⟩ = some (.int .i64 t.kind) := by rw [cellc (hs_ext (hE2.trans hE3) HBbx.out)]; rfl
  have b1 : w3.cell? ⟨bx, 1, none⟩ = some (.string t.name) := by rw [cellc (hs_ext (hE2.trans hE3) HBbx.out)]; rfl
  have b2 : w3.cell? ⟨bx, 2, none⟩ = some (.int .i64 t.sort) := by rw [cellc (hs_ext (hE2.trans hE3) HBbx.out)]; rfl
  have b3 : w3.cell? ⟨bx, 3, none⟩ = some (.slice ta t.kids.length tc) := by rw [cellc (hs_ext (hE2.trans hE3) HBbx.out)]; rfl
  have y0 : w3.cell? ⟨yx, 0, none⟩ = some (.int .i64 u.kind) := by rw [cellc (hs_ext hE3 hby)]; rfl
  have y1 : w3.cell? ⟨yx, 1, none⟩ = some (.string u.name) := by rw [cellc (hs_ext hE3 hby)]; rfl
  have y2 : w3.cell? ⟨yx, 2, none⟩ = some (.int .i64 u.sort) := by rw [cellc (hs_ext hE3 hby)]; rfl
  have y3 : w3.cell? ⟨yx, 3, none⟩ = some (.slice ua u.kids.length uc) := by rw [cellc (hs_ext hE3 hby)]; rfl
  have HE := Lib.hid hE
  have HS3 : Hid (w.heap.size ≤ w3.heap.size ∧ jx < w3.heap.size) := Lib.hid ⟨hE.size, lt_of_get' HBJ.out⟩
  have HNB : Hid (w.heap.size = bx ∧ jx = bx + 2) := Lib.hid ⟨hbbx.symm, by omega⟩
  have hc1 := PNormal_any (w := w3) hz hf (hL.ext hE) ht (hT.ext hE)
  have hc2 := fun (w' : World) (h : Ext w3 w') => PNormal_any (w := w') hz hf ((hL.ext hE).ext h) hu ((hU.ext hE).ext h)
  obtain ⟨A, hA⟩ : ∃ A, A = normP R t fuel := ⟨_, rfl⟩
  obtain ⟨B, hB⟩ : ∃ B, B = normP R u fuel := ⟨_, rfl⟩
  have HVA : Hid (A.1 = 0 → validT A.2.1 = 0) := Lib.hid (fun h => by rw [hA] at h ⊢; exact normP_valid h)
  have HVB : Hid (B.1 = 0 → validT B.2.1 = 0) := Lib.hid (fun h => by rw [hB] at h ⊢; exact normP_valid h)
  obtain ⟨Q, hQ⟩ : ∃ Q, Q = joinsP R t u fuel := ⟨_, rfl⟩
  rw [← hQ]
  unfold joinsP at hQ
  rw [← hA, ← hB] at hQ
  rw [← hA] at hc1
  simp only [← hB] at hc2
  have HQ0 := Lib.hid hQ
  have HC1 := Lib.hid hc1
  have HC2 := Lib.hid hc2
  have HNZ : Hid True := Lib.hid trivial
  clear hL hT hU hz ht hu hf hA hB hQ hc1 hc2 hE hE2 hE3 hEbx hs1 hs2 hby
  go_enter Tryz.func30, Tryz.ntmps30
  go_upto_region 1 with fail
  rw [← hwbx, ← hbbx, ← hw2]
  try rw [← hyx]
  rw [← hw3]
  try rw [← hjx]
  clear hwbx hbbx hw2 hyx hw3 hjx
  go_wp2_with fail
  refine HC1.out.mono ?_
  rintro e w4 ⟨v4, tv4, er, rfl, hE4, rfl, hA0, hA1⟩
  by_cases h4 : A.1 = 0
  · obtain ⟨⟨xa, xc, rfl, hTx⟩, hLx⟩ := hA0 h4
    obtain ⟨la, lc, rfl, hll4, hlc4⟩ := hLx.slice
    unfold maxLen at hlc4
    have ea : (A.1 != 0) = false := by rw [h4]; rfl
    obtain ⟨wx, hwx⟩ : ∃ zz9, zz9 = w4.heap.size := ⟨_, rfl⟩
    obtain ⟨w5, hw5⟩ : ∃ zz9, zz9 = w4.alloc (.cells #[.int .i64 A.2.1.kind, .string A.2.1.name, .int .i64 A.2.1.sort, .slice xa A.2.1.kids.length xc] 25) := ⟨_, rfl⟩
    have hE5 : Ext w4 w5 := by rw [hw5]; exact Ext.alloc _ _
    have hbw : w5.heap[wx]? = some (.cells #[.int .i64 A.2.1.kind, .string A.2.1.name, .int .i64 A.2.1.sort, .slice xa A.2.1.kids.length xc] 25) := by rw [hw5, hwx]; exact hs_new
    have a0 : w5.cell? ⟨wx, 0, none⟩ = some (.int .i64 A.2.1.kind) := by rw [cellc (hbw)]; rfl
    have a1 : w5.cell? ⟨wx, 1, none⟩ = some (.string A.2.1.name) := by rw [cellc (hbw)]; rfl
    have a2 : w5.cell? ⟨wx, 2, none⟩ = some (.int .i64 A.2.1.sort) := by rw [cellc (hbw)]; rfl
    have a3 : w5.cell? ⟨wx, 3, none⟩ = some (.slice xa A.2.1.kids.length xc) := by rw [cellc (hbw)]; rfl
    have hE45 := hE4.trans hE5
    have HE45 := Lib.hid hE45
    have H4 := Lib.hid h4
    have HTX := Lib.hid (hTx.ext hE5)
    have HLX := Lib.hid (hLx.ext hE5)
    have b0 := cs_ext hE45 b0
    have b1 := cs_ext hE45 b1
    have b2 := cs_ext hE45 b2
    have b3 := cs_ext hE45 b3
    have y0 := cs_ext hE45 y0
    have y1 := cs_ext hE45 y1
    have y2 := cs_ext hE45 y2
    have y3 := cs_ext hE45 y3
    have HBJ := Lib.hid (hs_ext hE45 HBJ.out)
    have HE := Lib.hid (HE.out.trans hE45)
    clear hA0 hA1 hTx hLx hE4 hE5 hbw hE45 h4
    go_upto_region 2 with fail
    rw [← hw5, ← hwx]
    clear hw5 hwx
    go_wp2_with fail
    refine (HC2.out w5 HE45.out).mono ?_
    rintro e w6 ⟨v6, tv6, er, rfl, hE6, rfl, hB0, hB1⟩
    by_cases h6 : B.1 = 0
    · obtain ⟨⟨za, zc, rfl, hTz⟩, hLz⟩ := hB0 h6
      obtain ⟨ra, rc, rfl, hll6, hlc6⟩ := hLz.slice
      unfold maxLen at hlc6
      have eb : (B.1 != 0) = false := by rw [h6]; rfl
      obtain ⟨zx, hzx⟩ : ∃ zz9, zz9 = w6.heap.size := ⟨_, rfl⟩
      obtain ⟨w7, hw7⟩ : ∃ zz9, zz9 = w6.alloc (.cells #[.int .i64 B.2.1.kind, .string B.2.1.name, .int .i64 B.2.1.sort, .slice za B.2.1.kids.length zc] 25) := ⟨_, rfl⟩
      have hE7 : Ext w6 w7 := by rw [hw7]; exact Ext.alloc _ _
      have hbz : w7.heap[zx]? = some (.cells #[.int .i64 B.2.1.kind, .string B.2.1.name, .int .i64 B.2.1.sort, .slice za B.2.1.kids.length zc] 25) := by rw [hw7, hzx]; exact hs_new
      have z0 : w7.cell? ⟨zx, 0, none⟩ = some (.int .i64 B.2.1.kind) := by rw [cellc (hbz)]; rfl
      have z1 : w7.cell? ⟨zx, 1, none⟩ = some (.string B.2.1.name) := by rw [cellc (hbz)]; rfl
      have z2 : w7.cell? ⟨zx, 2, none⟩ = some (.int .i64 B.2.1.sort) := by rw [cellc (hbz)]; rfl
      have z3 : w7.cell? ⟨zx, 3, none⟩ = some (.slice za B.2.1.kids.length zc) := by rw [cellc (hbz)]; rfl
      have hE57 := hE6.trans hE7
      have HTZ := Lib.hid (hTz.ext hE7)
      have HLZ := Lib.hid (hLz.ext hE7)
      have HS5 : Hid (w3.heap.size ≤ w5.heap.size) := Lib.hid HE45.out.size
      have H6 := Lib.hid h6
      have a0 := cs_ext hE57 a0
      have a1 := cs_ext hE57 a1
      have a2 := cs_ext hE57 a2
      have a3 := cs_ext hE57 a3
      have HBJ := Lib.hid (hs_ext hE57 HBJ.out)
      have HE := Lib.hid (HE.out.trans hE57)
      have HTX := Lib.hid (HTX.out.ext hE57)
      have HLX := Lib.hid (HLX.out.ext hE57)
      have HCC := Lib.hid (PCmp_any (w := w7) (s := A.2.1) (t := B.2.1) (by have := sizeT_valid (HVA.out H4.out); omega) (by have := sizeT_valid (HVB.out h6); omega) HTX.out HTZ.out)
      obtain ⟨c, hc⟩ : ∃ c, c = cmpT A.2.1 B.2.1 := ⟨_, rfl⟩
      rw [← hc] at HCC
      have HQ1 : Hid (Q = if c ≠ 0 then (11, zeroJ) else (0, A.2.2, B.2.2, A.2.1)) := Lib.hid (by rw [HQ0.out, if_neg (by simpa using H4.out), if_neg (by simpa using h6), hc])
      clear hB0 hB1 hTz hLz hE6 hE7 hbz hE57 h6 hc
      go_upto_region 5 with fail
      rw [← hw7, ← hzx]
      clear hw7 hzx
      go_wp2_with fail
      refine HCC.out.mono ?_
      rintro e w8 ⟨rfl, hE8⟩
      have a0 := cs_ext hE8 a0
      have a1 := cs_ext hE8 a1
      have a2 := cs_ext hE8 a2
      have a3 := cs_ext hE8 a3
      have HBJ := Lib.hid (hs_ext hE8 HBJ.out)
      have HE := Lib.hid (HE.out.trans hE8)
      have HTX := Lib.hid (HTX.out.ext hE8)
      have HLX := Lib.hid (HLX.out.ext hE8)
      have HLZ := Lib.hid (HLZ.out.ext hE8)
      clear hE8
      by_cases hc0 : c = 0
      · have ec : (c != 0) = false := by simp [hc0]
        have HQ : Hid (Q = (0, A.2.2, B.2.2, A.2.1)) := Lib.hid (by rw [HQ1.out, if_neg (by simpa using hc0)])
        clear hc0
        go_wp2_with (first
          | (refine wpList_buildG (T := 48) rfl [_, _, _] rfl [(0, .slice la A.2.2.length lc), (1, .slice ra B.2.2.length rc), (2, .agg #[.int .i64 A.2.1.kind, .string A.2.1.name, .int .i64 A.2.1.sort, .slice xa A.2.1.kids.length xc])] rfl (built_join _ _ _ _ _ _ _ _ _ _ _ _) ?_)
          | (refine wpList_storeJ rfl (.tmp 8) (.tmp 47) rfl (g := jx) rfl (la := la) (ln := A.2.2.length) (lc := lc) (ra := ra) (rn := B.2.2.length) (rc := rc) (k := A.2.1.kind) (s := A.2.1.sort) (n := A.2.1.name) (ja := xa) (jl := A.2.1.kids.length) (jc := xc) rfl HBJ.out rfl ?_
             intro wq c6 q6 e6 z6
             have HG6 := Lib.hid c6
             have HQ6 := Lib.hid q6
             have HZ6 := Lib.hid (Nat.le_of_eq z6.symm)
             have HEQ := Lib.hid (e6 w HE.out (by have := HNB.out; omega))
             clear c6 q6 e6 z6))
        refine ret_join2 (g := jx) rfl rfl HG6.out rfl ⟨_, _, rfl, HEQ.out, by rw [HQ.out], fun _ => ?_, fun h => absurd (by rw [HQ.out]) h⟩
        rw [HQ.out]
        refine ⟨la, lc, ra, rc, xa, xc, rfl, ?_, ?_, ?_⟩
        · exact HLX.out.keep (fun c h1 _ => HQ6.out c (by have := HS3.out; omega)) (fun c h1 _ => by have := HS3.out; omega) HZ6.out
        · exact HLZ.out.keep (fun c h1 _ => HQ6.out c (by have := HS3.out; have := HS5.out; omega)) (fun c h1 _ => by have := HS3.out; have := HS5.out; omega) HZ6.out
        · exact HTX.out.keep (fun c h1 _ => HQ6.out c (by have := HS3.out; omega)) (fun c h1 _ => by have := HS3.out; omega)
      · have ec : (c != 0) = true := by simp [hc0]
        have HQ : Hid (Q = (11, zeroJ)) := Lib.hid (by rw [HQ1.out, if_pos hc0])
        clear hc0
        go_wp2_with (first
          | (refine wpList_buildG (T := 48) rfl [] rfl [] rfl built_join0 ?_)
          | (refine wpList_storeJ rfl (.tmp 8) (.tmp 43) rfl (g := jx) rfl (la := none) (ln := 0) (lc := 0) (ra := none) (rn := 0) (rc := 0) (k := 0) (s := 0) (n := ⟨#[]⟩) (ja := none) (jl := 0) (jc := 0) rfl HBJ.out rfl ?_
             intro wq c6 q6 e6 z6
             have HG6 := Lib.hid c6
             have HEQ := Lib.hid (e6 w HE.out (by have := HNB.out; omega))
             clear c6 q6 e6 z6))
        refine ret_join2 (g := jx) rfl rfl HG6.out rfl ⟨_, _, rfl, HEQ.out, ?_, ?_, ?_⟩
        · rw [HQ.out]
        · intro h; rw [HQ.out] at h; exact absurd h (by first | decide | exact HNZ.out)
        · intro _; rfl
    · have HQ : Hid (Q = (B.1, zeroJ)) := Lib.hid (by rw [HQ0.out, if_neg (by simpa using H4.out), if_pos h6])
      obtain ⟨rfl, rfl⟩ := hB1 h6
      have eb : (B.1 != 0) = true := by simpa using h6
      have H6 := Lib.hid h6
      have HJ4 : Hid ((w6.alloc (.cells #[.int .i64 0, .string ⟨#[]⟩, .int .i64 0, .slice none 0 0] 25)).heap[jx]? = some (.cells #[.slice none 0 0, .slice none 0 0, .int .i64 0, .string ⟨#[]⟩, .int .i64 0, .slice none 0 0] 48)) := Lib.hid (hs_ext (hE6.trans (Ext.alloc _ _)) HBJ.out)
      have HE4 : Hid (Ext w (w6.alloc (.cells #[.int .i64 0, .string ⟨#[]⟩, .int .i64 0, .slice none 0 0] 25))) := Lib.hid (HE.out.trans (hE6.trans (Ext.alloc _ _)))
      clear hB0 hB1 hE6 h6
      go_wp2_with (first
        | (refine wpList_buildG (T := 48) rfl [] rfl [] rfl built_join0 ?_)
        | (refine wpList_storeJ rfl (.tmp 8) (.tmp 37) rfl (g := jx) rfl (la := none) (ln := 0) (lc := 0) (ra := none) (rn := 0) (rc := 0) (k := 0) (s := 0) (n := ⟨#[]⟩) (ja := none) (jl := 0) (jc := 0) rfl HJ4.out rfl ?_
           intro wq c6 q6 e6 z6
           have HG6 := Lib.hid c6
           have HEQ := Lib.hid (e6 w HE4.out (by have := HNB.out; omega))
           clear c6 q6 e6 z6))
      refine ret_join2 (g := jx) rfl rfl HG6.out rfl ⟨_, _, rfl, HEQ.out, ?_, ?_, ?_⟩
      · rw [HQ.out]
      · intro h; rw [HQ.out] at h; exact absurd h H6.out
      · intro _; rfl
  · have HQ : Hid (Q = (A.1, zeroJ)) := Lib.hid (by rw [HQ0.out, if_pos h4])
    obtain ⟨rfl, rfl⟩ := hA1 h4
    have ea : (A.1 != 0) = true := by simpa using h4
    have H4 := Lib.hid h4
    have HJ4 : Hid ((w4.alloc (.cells #[.int .i64 0, .string ⟨#[]⟩, .int .i64 0, .slice none 0 0] 25)).heap[jx]? = some (.cells #[.slice none 0 0, .slice none 0 0, .int .i64 0, .string ⟨#[]⟩, .int .i64 0, .slice none 0 0] 48)) := Lib.hid (hs_ext (hE4.trans (Ext.alloc _ _)) HBJ.out)
    have HE4 : Hid (Ext w (w4.alloc (.cells #[.int .i64 0, .string ⟨#[]⟩, .int .i64 0, .slice none 0 0] 25))) := Lib.hid (HE.out.trans (hE4.trans (Ext.alloc _ _)))
    clear hA0 hA1 hE4 h4
    go_wp2_with (first
      | (refine wpList_buildG (T := 48) rfl [] rfl [] rfl built_join0 ?_)
      | (refine wpList_storeJ rfl (.tmp 8) (.tmp 25) rfl (g := jx) rfl (la := none) (ln := 0) (lc := 0) (ra := none) (rn := 0) (rc := 0) (k := 0) (s := 0) (n := ⟨#[]⟩) (ja := none) (jl := 0) (jc := 0) rfl HJ4.out rfl ?_
         intro wq c6 q6 e6 z6
         have HG6 := Lib.hid c6
         have HEQ := Lib.hid (e6 w HE4.out (by have := HNB.out; omega))
         clear c6 q6 e6 z6))
    refine ret_join2 (g := jx) rfl rfl HG6.out rfl ⟨_, _, rfl, HEQ.out, ?_, ?_, ?_⟩
    · rw [HQ.out]
    · intro h; rw [HQ.out] at h; exact absurd h H4.out
    · intro _; rfl

end Go.Proofs.YtpfnlbaloaohgaaGreat
