/- Contracts: the reference's joins. -/
import Derived.Test.YtpfnlbaloaohgaaGreatH18
import Derived.Test.YtpfnlbaloaohgaaGreatH10
namespace Go.Proofs.YtpfnlbaloaohgaaGreat
open Go Go.RowKit
set_option linter.unusedVariables false
set_option linter.unusedSimpArgs false

set_option maxRecDepth 100000 in
set_option maxHeartbeats 8000000 in
theorem RJoins_any {w : World} {S S' S'' : Nat → Prop} {a ta ua : Option Addr} {cap tc uc : Nat} {R : List Rl} {t u : Tm} {fuel : Int} (hz : smallR R) (hf : I64 fuel) (hL : LsG elP w S (.slice a R.length cap) R) (ht : sizeT t ≤ 100000) (hT : TmW w S' ta tc t) (hu : sizeT u ≤ 100000) (hU : TmW w S'' ua uc u) :
 Calls Tryz.prog 25 #[.slice a R.length cap, .agg #[.int .i64 t.kind, .string t.name, .int .i64 t.sort, .slice ta t.kids.length tc], .agg #[.int .i64 u.kind, .string u.name, .int .i64 u.sort, .slice ua u.kids.length uc], .int .i64 fuel] w fun e w' => ∃ v er, e = .returned (.tuple #[v, .int .i64 er]) ∧ Ext w w' ∧ joinR w' Any v er (joinsP R t u fuel) := by
 obtain ⟨-, hll, hlc⟩ := hL.len
 unfold maxLen at hlc
 have hL := hL.below
 have hT := hT.below
 have hU := hU.below
 obtain ⟨bx, w1, hbbx, hwbx, HBbx, hEbx⟩ := box_new w (.cells #[.int .i64 t.kind, .string t.name, .int .i64 t.sort, .slice ta t.kids.length tc] 25)
 have hs1 : w1.heap.size = bx + 1 := by rw [hwbx, hbbx, World.size_alloc]
 obtain ⟨yx, hyx⟩ : ∃ zz9, zz9 = bx + 1 := ⟨_, rfl⟩
 obtain ⟨w2, hw2⟩ : ∃ zz9, zz9 = w1.alloc (.cells #[.int .i64 u.kind, .string u.name, .int .i64 u.sort, .slice ua u.kids.length uc] 25) := ⟨_, rfl⟩
 have hE2 : Ext w1 w2 := by rw [hw2]; exact Ext.alloc _ _
 have hs2 : w2.heap.size = yx + 1 := by rw [hw2, World.size_alloc, hs1, hyx]
 have hby : w2.heap[yx]? = some (.cells #[.int .i64 u.kind, .string u.name, .int .i64 u.sort, .slice ua u.kids.length uc] 25) := by rw [hw2, hyx, ← hs1]; exact hs_new
 obtain ⟨jx, hjx⟩ : ∃ zz9, zz9 = yx + 1 := ⟨_, rfl⟩
 obtain ⟨w3, hw3⟩ : ∃ zz9, zz9 = w2.alloc (.cells #[.slice none 0 0, .slice none 0 0, .int .i64 0, .string ⟨#[]⟩, .int .i64 0, .slice none 0 0] 48) := ⟨_, rfl⟩
 have hE3 : Ext w2 w3 := by rw [hw3]; exact Ext.alloc _ _
 have HBJ : Hid (w3.heap[jx]? = some (.cells #[.slice none 0 0, .slice none 0 0, .int .i64 0, .string ⟨#[]⟩, .int .i64 0, .slice none 0 0] 48)) := Lib.hid (by rw [hw3, hjx, ← hs2]; exact hs_new)
 have hE := (hEbx.trans hE2).trans hE3
 obtain ⟨b0, b1, b2, b3⟩ := box4r (hs_ext (hE2.trans hE3) HBbx.out)
 obtain ⟨y0, y1, y2, y3⟩ := box4r (hs_ext hE3 hby)
 have HE := Lib.hid hE
 have HS3 : Hid (w.heap.size ≤ w3.heap.size ∧ jx < w3.heap.size) := Lib.hid ⟨hE.size, lt_of_get' HBJ.out⟩
 have HNB : Hid (w.heap.size = bx ∧ jx = bx + 2) := Lib.hid ⟨hbbx.symm, by omega⟩
 have hc1 := RNormal_any (w := w3) hz hf (hL.ext hE) ht (hT.ext hE)
 have hc2 := fun (w' : World) (h : Ext w3 w') => RNormal_any (w := w') hz hf ((hL.ext hE).ext h) hu ((hU.ext hE).ext h)
 obtain ⟨A, hA⟩ : ∃ A, A = normP R t fuel := ⟨_, rfl⟩
 obtain ⟨B, hB⟩ : ∃ B, B = normP R u fuel := ⟨_, rfl⟩
 have HVA : Hid (A.1 = 0 → validT A.2.1 = 0) := Lib.hid (fun h => by rw [hA] at h ⊢; exact normP_valid h)
 have HVB : Hid (B.1 = 0 → validT B.2.1 = 0) := Lib.hid (fun h => by rw [hB] at h ⊢; exact normP_valid h)
 obtain ⟨Q, hQ⟩ : ∃ Q, Q = joinsP R t u fuel := ⟨_, rfl⟩
 rw [← hQ]
 unfold joinsP at hQ
 rw [← hA, ← hB] at hQ
 rw [← hA] at hc1
 simp only [← hB] at hc2
 have HQ0 := Lib.hid hQ
 have HC1 := Lib.hid hc1
 have HC2 := Lib.hid hc2
 have HNZ : Hid True := Lib.hid trivial
 clear hL hT hU hz ht hu hf hA hB hQ hc1 hc2 hE hE2 hE3 hEbx hs1 hs2 hby
 go_enter Tryz.func25, Tryz.ntmps25
 go_upto_region 1 with fail
 rw [← hwbx, ← hbbx, ← hw2]
 try rw [← hyx]
 rw [← hw3]
 try rw [← hjx]
 clear hwbx hbbx hw2 hyx hw3 hjx
 go_wp2_with fail
 refine HC1.out.mono ?_
 rintro e w4 ⟨v4, tv4, er, rfl, hE4, rfl, hA0, hA1⟩
 by_cases h4 : A.1 = 0
 · obtain ⟨⟨xa, xc, rfl, hTx⟩, hLx⟩ := hA0 h4
   obtain ⟨la, lc, rfl, hll4, hlc4⟩ := hLx.slice
   unfold maxLen at hlc4
   have ea : (A.1 != 0) = false := by rw [h4]; rfl
   obtain ⟨wx, hwx⟩ : ∃ zz9, zz9 = w4.heap.size := ⟨_, rfl⟩
   obtain ⟨w5, hw5⟩ : ∃ zz9, zz9 = w4.alloc (.cells #[.int .i64 A.2.1.kind, .string A.2.1.name, .int .i64 A.2.1.sort, .slice xa A.2.1.kids.length xc] 25) := ⟨_, rfl⟩
   have hE5 : Ext w4 w5 := by rw [hw5]; exact Ext.alloc _ _
   have hbw : w5.heap[wx]? = some (.cells #[.int .i64 A.2.1.kind, .string A.2.1.name, .int .i64 A.2.1.sort, .slice xa A.2.1.kids.length xc] 25) := by rw [hw5, hwx]; exact hs_new
   obtain ⟨a0, a1, a2, a3⟩ := box4r (hbw)
   have hE45 := hE4.trans hE5
   have HE45 := Lib.hid hE45
   have H4 := Lib.hid h4
   have HTX := Lib.hid (hTx.ext hE5)
   have HLX := Lib.hid (hLx.ext hE5)
   obtain ⟨b0, b1, b2, b3, y0, y1, y2, y3⟩ := cs_e8 hE45 ⟨b0, b1, b2, b3, y0, y1, y2, y3⟩
   have HBJ := Lib.hid (hs_ext hE45 HBJ.out)
   have HE := Lib.hid (HE.out.trans hE45)
   clear hA0 hA1 hTx hLx hE4 hE5 hbw hE45 h4
   go_upto_region 2 with fail
   rw [← hw5, ← hwx]
   clear hw5 hwx
   go_wp2_with fail
   refine (HC2.out w5 HE45.out).mono ?_
   rintro e w6 ⟨v6, tv6, er, rfl, hE6, rfl, hB0, hB1⟩
   by_cases h6 : B.1 = 0
   · obtain ⟨⟨za, zc, rfl, hTz⟩, hLz⟩ := hB0 h6
     obtain ⟨ra, rc, rfl, hll6, hlc6⟩ := hLz.slice
     unfold maxLen at hlc6
     have eb : (B.1 != 0) = false := by rw [h6]; rfl
     obtain ⟨zx, hzx⟩ : ∃ zz9, zz9 = w6.heap.size := ⟨_, rfl⟩
     obtain ⟨w7, hw7⟩ : ∃ zz9, zz9 = w6.alloc (.cells #[.int .i64 B.2.1.kind, .string B.2.1.name, .int .i64 B.2.1.sort, .slice za B.2.1.kids.length zc] 25) := ⟨_, rfl⟩
     have hE7 : Ext w6 w7 := by rw [hw7]; exact Ext.alloc _ _
     have hbz : w7.heap[zx]? = some (.cells #[.int .i64 B.2.1.kind, .string B.2.1.name, .int .i64 B.2.1.sort, .slice za B.2.1.kids.length zc] 25) := by rw [hw7, hzx]; exact hs_new
     obtain ⟨z0, z1, z2, z3⟩ := box4r (hbz)
     have hE57 := hE6.trans hE7
     have HTZ := Lib.hid (hTz.ext hE7)
     have HLZ := Lib.hid (hLz.ext hE7)
     have HS5 : Hid (w3.heap.size ≤ w5.heap.size) := Lib.hid HE45.out.size
     have H6 := Lib.hid h6
     obtain ⟨a0, a1, a2, a3⟩ := cs_e4 hE57 ⟨a0, a1, a2, a3⟩
     have HBJ := Lib.hid (hs_ext hE57 HBJ.out)
     have HE := Lib.hid (HE.out.trans hE57)
     have HTX := Lib.hid (HTX.out.ext hE57)
     have HLX := Lib.hid (HLX.out.ext hE57)
     have hcc := RSame_any (w := w7) (s := A.2.1) (t := B.2.1) (by have := sizeT_valid (HVA.out H4.out); omega) (by have := sizeT_valid (HVB.out h6); omega) HTX.out HTZ.out
     obtain ⟨c, hc⟩ : ∃ c, c = decide (A.2.1 = B.2.1) := ⟨_, rfl⟩
     rw [← hc] at hcc
     have HCC := Lib.hid hcc
     clear hcc
     have HQ1 : Hid (Q = if c = false then (11, zeroJ) else (0, A.2.2, B.2.2, A.2.1)) := Lib.hid (by rw [HQ0.out, if_neg (by simpa using H4.out), if_neg (by simpa using h6), hc]; by_cases e : A.2.1 = B.2.1 <;> simp [e, cmpT_zero])
     clear hB0 hB1 hTz hLz hE6 hE7 hbz hE57 h6 hc
     go_upto_region 5 with fail
     rw [← hw7, ← hzx]
     clear hw7 hzx
     go_wp2_with fail
     refine HCC.out.mono ?_
     rintro e w8 ⟨rfl, hE8⟩
     obtain ⟨a0, a1, a2, a3⟩ := cs_e4 hE8 ⟨a0, a1, a2, a3⟩
     have HBJ := Lib.hid (hs_ext hE8 HBJ.out)
     have HE := Lib.hid (HE.out.trans hE8)
     have HTX := Lib.hid (HTX.out.ext hE8)
     have HLX := Lib.hid (HLX.out.ext hE8)
     have HLZ := Lib.hid (HLZ.out.ext hE8)
     clear hE8
     cases c with
     | true =>
       have HQ : Hid (Q = (0, A.2.2, B.2.2, A.2.1)) := Lib.hid (by rw [HQ1.out, if_neg (by simp)])
       go_wp2_with (first
        | (refine wpList_buildG (T := 48) rfl [_, _, _] rfl [(0, .slice la A.2.2.length lc), (1, .slice ra B.2.2.length rc), (2, .agg #[.int .i64 A.2.1.kind, .string A.2.1.name, .int .i64 A.2.1.sort, .slice xa A.2.1.kids.length xc])] rfl (built_join _ _ _ _ _ _ _ _ _ _ _ _) ?_)
        | (refine wpList_storeJ rfl (.tmp 8) (.tmp 47) rfl (g := jx) rfl (la := la) (ln := A.2.2.length) (lc := lc) (ra := ra) (rn := B.2.2.length) (rc := rc) (k := A.2.1.kind) (s := A.2.1.sort) (n := A.2.1.name) (ja := xa) (jl := A.2.1.kids.length) (jc := xc) rfl HBJ.out rfl ?_
           intro wq c6 q6 e6 z6
           have HG6 := Lib.hid c6
           have HQ6 := Lib.hid q6
           have HZ6 := Lib.hid (Nat.le_of_eq z6.symm)
           have HEQ := Lib.hid (e6 w HE.out (by have := HNB.out; omega))
           clear c6 q6 e6 z6))
       refine ret_join2 (g := jx) rfl rfl HG6.out rfl ⟨_, _, rfl, HEQ.out, by rw [HQ.out], fun _ => ?_, fun h => absurd (by rw [HQ.out]) h⟩
       rw [HQ.out]
       refine ⟨la, lc, ra, rc, xa, xc, rfl, ?_, ?_, ?_⟩
       · exact HLX.out.keep (fun c h1 _ => HQ6.out c (by have := HS3.out; have := HNB.out; omega)) (fun _ _ _ => trivial) HZ6.out
       · exact HLZ.out.keep (fun c h1 _ => HQ6.out c (by have := HS3.out; have := HS5.out; have := HNB.out; omega)) (fun _ _ _ => trivial) HZ6.out
       · exact HTX.out.keep (fun c h1 _ => HQ6.out c (by have := HS3.out; have := HNB.out; omega)) (fun _ _ _ => trivial)
     | false =>
       have HQ : Hid (Q = (11, zeroJ)) := Lib.hid (by rw [HQ1.out, if_pos rfl])
       go_wp2_with (first
        | (refine wpList_buildG (T := 48) rfl [] rfl [] rfl built_join0 ?_)
        | (refine wpList_storeJ rfl (.tmp 8) (.tmp 43) rfl (g := jx) rfl (la := none) (ln := 0) (lc := 0) (ra := none) (rn := 0) (rc := 0) (k := 0) (s := 0) (n := ⟨#[]⟩) (ja := none) (jl := 0) (jc := 0) rfl HBJ.out rfl ?_
           intro wq c6 q6 e6 z6
           have HG6 := Lib.hid c6
           have HEQ := Lib.hid (e6 w HE.out (by have := HNB.out; omega))
           clear c6 q6 e6 z6))
       refine ret_join2 (g := jx) rfl rfl HG6.out rfl ⟨_, _, rfl, HEQ.out, ?_, ?_, ?_⟩
       · rw [HQ.out]
       · intro h; rw [HQ.out] at h; exact absurd h (by first | decide | exact HNZ.out)
       · intro _; rfl
   · have HQ : Hid (Q = (B.1, zeroJ)) := Lib.hid (by rw [HQ0.out, if_neg (by simpa using H4.out), if_pos h6])
     obtain ⟨rfl, rfl⟩ := hB1 h6
     have eb : (B.1 != 0) = true := by simpa using h6
     have H6 := Lib.hid h6
     have HJ4 : Hid ((w6.alloc (.cells #[.int .i64 0, .string ⟨#[]⟩, .int .i64 0, .slice none 0 0] 25)).heap[jx]? = some (.cells #[.slice none 0 0, .slice none 0 0, .int .i64 0, .string ⟨#[]⟩, .int .i64 0, .slice none 0 0] 48)) := Lib.hid (hs_ext (hE6.trans (Ext.alloc _ _)) HBJ.out)
     have HE4 : Hid (Ext w (w6.alloc (.cells #[.int .i64 0, .string ⟨#[]⟩, .int .i64 0, .slice none 0 0] 25))) := Lib.hid (HE.out.trans (hE6.trans (Ext.alloc _ _)))
     clear hB0 hB1 hE6 h6
     go_wp2_with (first
      | (refine wpList_buildG (T := 48) rfl [] rfl [] rfl built_join0 ?_)
      | (refine wpList_storeJ rfl (.tmp 8) (.tmp 37) rfl (g := jx) rfl (la := none) (ln := 0) (lc := 0) (ra := none) (rn := 0) (rc := 0) (k := 0) (s := 0) (n := ⟨#[]⟩) (ja := none) (jl := 0) (jc := 0) rfl HJ4.out rfl ?_
         intro wq c6 q6 e6 z6
         have HG6 := Lib.hid c6
         have HEQ := Lib.hid (e6 w HE4.out (by have := HNB.out; omega))
         clear c6 q6 e6 z6))
     refine ret_join2 (g := jx) rfl rfl HG6.out rfl ⟨_, _, rfl, HEQ.out, ?_, ?_, ?_⟩
     · rw [HQ.out]
     · intro h; rw [HQ.out] at h; exact absurd h H6.out
     · intro _; rfl
 · have HQ : Hid (Q = (A.1, zeroJ)) := Lib.hid (by rw [HQ0.out, if_pos h4])
   obtain ⟨rfl, rfl⟩ := hA1 h4
   have ea : (A.1 != 0) = true := by simpa using h4
   have H4 := Lib.hid h4
   have HJ4 : Hid ((w4.alloc (.cells #[.int .i64 0, .string ⟨#[]⟩, .int .i64 0, .slice none 0 0] 25)).heap[jx]? = some (.cells #[.slice none 0 0, .slice none 0 0, .int .i64 0, .string ⟨#[]⟩, .int .i64 0, .slice none 0 0] 48)) := Lib.hid (hs_ext (hE4.trans (Ext.alloc _ _)) HBJ.out)
   have HE4 : Hid (Ext w (w4.alloc (.cells #[.int .i64 0, .string ⟨#[]⟩, .int .i64 0, .slice none 0 0] 25))) := Lib.hid (HE.out.trans (hE4.trans (Ext.alloc _ _)))
   clear hA0 hA1 hE4 h4
   go_wp2_with (first
    | (refine wpList_buildG (T := 48) rfl [] rfl [] rfl built_join0 ?_)
    | (refine wpList_storeJ rfl (.tmp 8) (.tmp 25) rfl (g := jx) rfl (la := none) (ln := 0) (lc := 0) (ra := none) (rn := 0) (rc := 0) (k := 0) (s := 0) (n := ⟨#[]⟩) (ja := none) (jl := 0) (jc := 0) rfl HJ4.out rfl ?_
       intro wq c6 q6 e6 z6
       have HG6 := Lib.hid c6
       have HEQ := Lib.hid (e6 w HE4.out (by have := HNB.out; omega))
       clear c6 q6 e6 z6))
   refine ret_join2 (g := jx) rfl rfl HG6.out rfl ⟨_, _, rfl, HEQ.out, ?_, ?_, ?_⟩
   · rw [HQ.out]
   · intro h; rw [HQ.out] at h; exact absurd h H4.out
   · intro _; rfl

set_option maxRecDepth 100000 in
set_option maxHeartbeats 8000000 in
theorem RCheckJoin_any {w : World} {S S' S'' S3 S4 S5 : Nat → Prop} {a ta ua la ra ja : Option Addr} {cap tc uc lc rc jc : Nat} {R : List Rl} {t u : Tm} {j : Jn} (hz : smallR R) (hL : LsG elP w S (.slice a R.length cap) R) (ht : sizeT t ≤ 100000) (hT : TmW w S' ta tc t) (hu : sizeT u ≤ 100000) (hU : TmW w S'' ua uc u)
 (hA : LsG elX w S3 (.slice la j.1.length lc) j.1) (hB : LsG elX w S4 (.slice ra j.2.1.length rc) j.2.1) (hj : sizeT j.2.2 ≤ 100000) (hJ : TmW w S5 ja jc j.2.2) :
 Calls Tryz.prog 27 #[.slice a R.length cap, .agg #[.int .i64 t.kind, .string t.name, .int .i64 t.sort, .slice ta t.kids.length tc], .agg #[.int .i64 u.kind, .string u.name, .int .i64 u.sort, .slice ua u.kids.length uc], .agg #[.slice la j.1.length lc, .slice ra j.2.1.length rc, .int .i64 j.2.2.kind, .string j.2.2.name, .int .i64 j.2.2.sort, .slice ja j.2.2.kids.length jc]] w fun e w' => e = .returned (.bool (checkJ R t u j)) ∧ Ext w w' := by
 obtain ⟨A, B, x⟩ := j
 simp only at hA hB hj hJ ⊢
 obtain ⟨-, hll, hlc⟩ := hL.len
 unfold maxLen at hlc
 obtain ⟨-, hal, hac⟩ := hA.len
 unfold maxLen at hac
 obtain ⟨-, hbl, hbc⟩ := hB.len
 unfold maxLen at hbc
 have hxl := hJ.len
 have hxc := hJ.cap
 unfold maxLen at hxc
 obtain ⟨bx, w1, hbbx, hwbx, HBbx, hEbx⟩ := box_new w (.cells #[.int .i64 t.kind, .string t.name, .int .i64 t.sort, .slice ta t.kids.length tc] 25)
 have hs1 : w1.heap.size = bx + 1 := by rw [hwbx, hbbx, World.size_alloc]
 obtain ⟨yx, hyx⟩ : ∃ zz9, zz9 = bx + 1 := ⟨_, rfl⟩
 obtain ⟨w2, hw2⟩ : ∃ zz9, zz9 = w1.alloc (.cells #[.int .i64 u.kind, .string u.name, .int .i64 u.sort, .slice ua u.kids.length uc] 25) := ⟨_, rfl⟩
 have hE2 : Ext w1 w2 := by rw [hw2]; exact Ext.alloc _ _
 have hs2 : w2.heap.size = yx + 1 := by rw [hw2, World.size_alloc, hs1, hyx]
 have hby : w2.heap[yx]? = some (.cells #[.int .i64 u.kind, .string u.name, .int .i64 u.sort, .slice ua u.kids.length uc] 25) := by rw [hw2, hyx, ← hs1]; exact hs_new
 obtain ⟨jx, hjx⟩ : ∃ zz9, zz9 = yx + 1 := ⟨_, rfl⟩
 obtain ⟨w3, hw3⟩ : ∃ zz9, zz9 = w2.alloc (.cells #[.slice la A.length lc, .slice ra B.length rc, .int .i64 x.kind, .string x.name, .int .i64 x.sort, .slice ja x.kids.length jc] 48) := ⟨_, rfl⟩
 have hE3 : Ext w2 w3 := by rw [hw3]; exact Ext.alloc _ _
 have hbj : w3.heap[jx]? = some (.cells #[.slice la A.length lc, .slice ra B.length rc, .int .i64 x.kind, .string x.name, .int .i64 x.sort, .slice ja x.kids.length jc] 48) := by rw [hw3, hjx, ← hs2]; exact hs_new
 have hE := (hEbx.trans hE2).trans hE3
 obtain ⟨b0, b1, b2, b3⟩ := box4r (hs_ext (hE2.trans hE3) HBbx.out)
 obtain ⟨y0, y1, y2, y3⟩ := box4r (hs_ext hE3 hby)
 have j0 : w3.cell? ⟨jx, 0, none⟩ = some (.slice la A.length lc) := by rw [cellc hbj]; rfl
 have j1 : w3.cell? ⟨jx, 1, none⟩ = some (.slice ra B.length rc) := by rw [cellc hbj]; rfl
 have j2 : w3.cell? ⟨jx, 2, none⟩ = some (.int .i64 x.kind) := by rw [cellc hbj]; rfl
 have j3 : w3.cell? ⟨jx, 3, none⟩ = some (.string x.name) := by rw [cellc hbj]; rfl
 have j4 : w3.cell? ⟨jx, 4, none⟩ = some (.int .i64 x.sort) := by rw [cellc hbj]; rfl
 have j5 : w3.cell? ⟨jx, 5, none⟩ = some (.slice ja x.kids.length jc) := by rw [cellc hbj]; rfl
 have HE := Lib.hid hE
 have hc1 := RTrace_any (w := w3) hz (hL.ext hE) ht (hT.ext hE) (hA.ext hE) hj (hJ.ext hE)
 have hc2 := fun (w' : World) (h : Ext w3 w') => RTrace_any (w := w') hz ((hL.ext hE).ext h) hu ((hU.ext hE).ext h) ((hB.ext hE).ext h) hj ((hJ.ext hE).ext h)
 obtain ⟨p, hp⟩ : ∃ p, p = traceP R t A x := ⟨_, rfl⟩
 obtain ⟨q, hq⟩ : ∃ q, q = traceP R u B x := ⟨_, rfl⟩
 have hP : checkJ R t u (A, B, x) = (p && q) := by rw [hp, hq]; rfl
 rw [hP]
 rw [← hp] at hc1
 simp only [← hq] at hc2
 have HC1 := Lib.hid hc1
 have HC2 := Lib.hid hc2
 clear hL hT hU hA hB hJ hz ht hu hj hp hq hP hc1 hc2 hE hE2 hE3 hEbx hs1 hs2 hby hbj
 go_enter Tryz.func27, Tryz.ntmps27
 go_upto_region 1 with fail
 rw [← hwbx, ← hbbx, ← hw2]
 try rw [← hyx]
 rw [← hw3]
 try rw [← hjx]
 clear hwbx hbbx hw2 hyx hw3 hjx
 go_wp2_with fail
 refine HC1.out.mono ?_
 rintro e w4 ⟨rfl, hE4⟩
 have HE4 := Lib.hid hE4
 obtain ⟨y0, y1, y2, y3, j1, j2, j3, j4, j5⟩ := cs_e9 hE4 ⟨y0, y1, y2, y3, j1, j2, j3, j4, j5⟩
 clear hE4
 cases p with
 | false =>
   go_wp2_with fail
   go_ret
   exact ⟨rfl, HE.out.trans HE4.out⟩
 | true =>
   go_wp2_with fail
   refine (HC2.out w4 HE4.out).mono ?_
   rintro e w5 ⟨rfl, hE5⟩
   have HE5 := Lib.hid (HE.out.trans (HE4.out.trans hE5))
   clear hE5
   go_wp2_with fail
   go_ret
   exact ⟨by first | rfl | (rw [Bool.true_and]; rfl), HE5.out⟩

end Go.Proofs.YtpfnlbaloaohgaaGreat
