/- Contracts: checks of traces. -/
import Derived.Test.YtpfnlbaloaohgaaGreatN27
namespace Go.Proofs.YtpfnlbaloaohgaaGreat
open Go Go.RowKit
set_option linter.unusedVariables false
set_option linter.unusedSimpArgs false

/-- what redexes lead to -/
def checkL (R : List Rl) : List Rdx → Tm → Option Tm
  | [], t => some t
  | r :: l, t => if (stepP R t r).1 ≠ 0 then none else checkL R l (stepP R t r).2
def endB (o : Option Tm) (u : Tm) : Bool := match o with | none => false | some x => decide (cmpT x u = 0)
/-- whether redexes lead from a term to another one -/
def traceP (R : List Rl) (t : Tm) (l : List Rdx) (u : Tm) : Bool :=
  if orE (rulesE R) (validT t) ≠ 0 then false else endB (checkL R l t) u

set_option maxRecDepth 100000 in
set_option maxHeartbeats 8000000 in
theorem PTrace_any {w : World} {S S' S'' S3 : Nat → Prop} {a ta la ua : Option Addr} {cap tc lc uc : Nat} {R : List Rl} {t u : Tm} {l : List Rdx} (hz : smallR R) (hL : LsG elP w S (.slice a R.length cap) R) (ht : sizeT t ≤ 100000) (hT : TmW w S' ta tc t) (hX : LsG elX w S'' (.slice la l.length lc) l) (hu : sizeT u ≤ 100000) (hU : TmW w S3 ua uc u) :
    Calls Tryz.prog 23 #[.slice a R.length cap, .agg #[.int .i64 t.kind, .string t.name, .int .i64 t.sort, .slice ta t.kids.length tc], .slice la l.length lc, .agg #[.int .i64 u.kind, .string u.name, .int .i64 u.sort, .slice ua u.kids.length uc]] w fun e w' => e = .returned (.bool (traceP R t l u)) ∧ Ext w w' := by
  obtain ⟨-, hll, hlc⟩ := hL.len
  unfold maxLen at hlc
  obtain ⟨-, hxl, hxc⟩ := hX.len
  unfold maxLen at hxc
  obtain ⟨bx, hbbx⟩ : ∃ zz9, zz9 = w.heap.size := ⟨_, rfl⟩
  obtain ⟨w1, hwbx⟩ : ∃ zz9, zz9 = w.alloc (.cells #[.int .i64 t.kind, .string t.name, .int .i64 t.sort, .slice ta t.kids.length tc] 25) := ⟨_, rfl⟩
  have HBbx : Hid (w1.heap[bx]? = some (.cells #[.int .i64 t.kind, .string t.name, .int .i64 t.sort, .slice ta t.kids.length tc] 25)) := Lib.hid (by rw [hwbx, hbbx]; exact hs_new)
  have hEbx : Ext w w1 := by rw [hwbx]; exact Ext.alloc _ _
  have hs1 : w1.heap.size = bx + 1 := by rw [hwbx, hbbx, World.size_alloc]
  obtain ⟨yx, hyx⟩ : ∃ zz9, zz9 = bx + 1 := ⟨_, rfl⟩
  obtain ⟨w2, hw2⟩ : ∃ zz9, zz9 = w1.alloc (.cells #[.int .i64 u.kind, .string u.name, .int .i64 u.sort, .slice ua u.kids.length uc] 25) := ⟨_, rfl⟩
  have hE2 : Ext w1 w2 := by rw [hw2]; exact Ext.alloc _ _
  have HBY : Hid (w2.heap[yx]? = some (.cells #[.int .i64 u.kind, .string u.name, .int .i64 u.sort, .slice ua u.kids.length uc] 25)) := Lib.hid (by rw [hw2, hyx, ← hs1]; exact hs_new)
  have hEa := hEbx.trans hE2
  have HE2 := Lib.hid hEa
  have HNB : Hid (w.heap.size = bx ∧ yx = bx + 1) := Lib.hid ⟨hbbx.symm, hyx⟩
  have HBB := Lib.hid (hs_ext hE2 HBbx.out)
  have b0 : w2.cell? ⟨bx, 0, none⟩ = some (.int .i64 t.kind) := by rw [cellc (HBB.out)]; rfl
  have b1 : w2.cell? ⟨bx, 1, none⟩ = some (.string t.name) := by rw [cellc (HBB.out)]; rfl
  have b2 : w2.cell? ⟨bx, 2, none⟩ = some (.int .i64 t.sort) := by rw [cellc (HBB.out)]; rfl
  have b3 : w2.cell? ⟨bx, 3, none⟩ = some (.slice ta t.kids.length tc) := by rw [cellc (HBB.out)]; rfl
  have HL0 := Lib.hid hL.any
  have HX0 := Lib.hid hX.any
  have HU0 := Lib.hid hU.any
  have HT0 := Lib.hid (hT.keep (w' := w) (S' := fun c => c ≠ bx) (fun _ _ _ => rfl) (fun c _ hc => by omega))
  have HT := Lib.hid (hT.ext hEa).any
  have HZ := Lib.hid hz
  have HTZ := Lib.hid ht
  have HUZ := Lib.hid hu
  have hc1 := PRules_any hz (hL.ext hEa)
  obtain ⟨o1, ho1⟩ : ∃ o, o = rulesE R := ⟨_, rfl⟩
  obtain ⟨o2, ho2⟩ : ∃ o, o = validT t := ⟨_, rfl⟩
  rw [← ho1] at hc1
  have HC1 := Lib.hid hc1
  obtain ⟨Z, hZ⟩ : ∃ Z, Z = traceP R t l u := ⟨_, rfl⟩
  rw [← hZ]
  unfold traceP at hZ
  rw [← ho1, ← ho2] at hZ
  have HZZ := Lib.hid hZ
  have HO := Lib.hid (And.intro ho1 ho2)
  clear hL hT hX hU hz ht hu hc1 ho1 ho2 hZ hEbx hE2 hEa hs1
  go_enter Tryz.func23, Tryz.ntmps23
  go_upto_region 1 with fail
  rw [← hwbx, ← hbbx, ← hw2, ← hyx]
  clear hwbx hbbx hw2 hyx
  by_cases h1 : o1 = 0
  · have e1 : (o1 != 0) = false := by simp [h1]
    have H1 := Lib.hid h1
    clear h1
    go_wp2_with fail
    refine HC1.out.mono ?_
    rintro e w3 ⟨rfl, hE3⟩
    have b0 := cs_ext hE3 b0
    have b1 := cs_ext hE3 b1
    have b2 := cs_ext hE3 b2
    have b3 := cs_ext hE3 b3
    have HT := Lib.hid (HT.out.ext hE3)
    have HE2 := Lib.hid (HE2.out.trans hE3)
    have HBB := Lib.hid (hs_ext hE3 HBB.out)
    have HBY := Lib.hid (hs_ext hE3 HBY.out)
    have hc2 := PValid_any (w := w3) (by have := HTZ.out; omega) HT.out
    rw [← HO.out.2] at hc2
    have HC2 := Lib.hid hc2
    clear hE3 hc2
    go_wp2_with fail
    refine HC2.out.mono ?_
    rintro e w4 ⟨rfl, hE4⟩
    have b0 := cs_ext hE4 b0
    have b1 := cs_ext hE4 b1
    have b2 := cs_ext hE4 b2
    have b3 := cs_ext hE4 b3
    have HT := Lib.hid (HT.out.ext hE4)
    have HE2 := Lib.hid (HE2.out.trans hE4)
    have HBB := Lib.hid (hs_ext hE4 HBB.out)
    have HBY := Lib.hid (hs_ext hE4 HBY.out)
    clear hE4
    by_cases h2 : o2 = 0
    · have e2 : (o2 != 0) = false := by simp [h2]
      have HV0 : Hid (validT t = 0) := Lib.hid (by rw [← HO.out.2]; exact h2)
      have HR0 : Hid (rulesE R = 0) := Lib.hid (by rw [← HO.out.1]; exact H1.out)
      obtain ⟨CQ, hCQ⟩ : ∃ CQ, CQ = checkL R l t := ⟨_, rfl⟩
      have HZ2 : Hid (Z = endB CQ u) := Lib.hid (by rw [HZZ.out, if_neg (by rw [H1.out, h2]; simp [orE]), hCQ])
      have HCQ := Lib.hid hCQ
      clear h2 hCQ
      go_wp2_with fail
      go_loopw [23] (fun jv wr => Hid (∃ (j : Nat) (x : Tm) (ka : Option Addr) (kc : Nat), jv = .int .i64 j ∧ j ≤ l.length ∧ checkL R (l.drop j) x = CQ ∧ validT x = 0 ∧ wr.heap[bx]? = some (.cells #[.int .i64 x.kind, .string x.name, .int .i64 x.sort, .slice ka x.kids.length kc] 25) ∧ TmW wr (fun c => c ≠ bx) ka kc x ∧ Ext w wr ∧ wr.heap[yx]? = some (.cells #[.int .i64 u.kind, .string u.name, .int .i64 u.sort, .slice ua u.kids.length uc] 25))) (fun jv _ => l.length - (intOf jv).toNat)
      case atStart => exact Lib.hid ⟨0, t, ta, tc, rfl, by omega, HCQ.out.symm, HV0.out, HBB.out, HT0.out.ext HE2.out, HE2.out, HBY.out⟩
      case round =>
        obtain ⟨j, x, ka, kc, rfl, hj, hC, hv, hbx, hTx, hE, hby⟩ := hrel.out
        have HC := Lib.hid hC
        have HV := Lib.hid hv
        have HBX := Lib.hid hbx
        have HTX := Lib.hid hTx
        have HE := Lib.hid hE
        have HBU := Lib.hid hby
        have hlx := hTx.len
        have hcx := hTx.cap
        unfold maxLen at hcx
        have HX4 : Hid (sizeT x ≤ 400) := Lib.hid (validT_iff.1 hv).2.1
        clear hrel hC hv hbx hTx hE hby b0 b1 b2 b3
        have x0 : wr.cell? ⟨bx, 0, none⟩ = some (.int .i64 x.kind) := by rw [cellc (HBX.out)]; rfl
        have x1 : wr.cell? ⟨bx, 1, none⟩ = some (.string x.name) := by rw [cellc (HBX.out)]; rfl
        have x2 : wr.cell? ⟨bx, 2, none⟩ = some (.int .i64 x.sort) := by rw [cellc (HBX.out)]; rfl
        have x3 : wr.cell? ⟨bx, 3, none⟩ = some (.slice ka x.kids.length kc) := by rw [cellc (HBX.out)]; rfl
        by_cases hlt : j < l.length
        · obtain ⟨q, hq⟩ : ∃ q, l[j]? = some q := ⟨_, List.getElem?_eq_getElem hlt⟩
          obtain ⟨xb, xo, pa, pc, rfl, r0, r1, hr64, hpl, hpc, hP⟩ := (HX0.out.ext HE.out).xAt hq
          unfold maxLen at hpc
          have HDR : Hid (l.drop j = q :: l.drop (j + 1)) := Lib.hid (by
            obtain ⟨h, e⟩ := List.getElem?_eq_some_iff.1 hq
            rw [List.drop_eq_getElem_cons h, e])
          obtain ⟨dx, hdx⟩ : ∃ zz9, zz9 = wr.heap.size := ⟨_, rfl⟩
          obtain ⟨wa, hwa⟩ : ∃ zz9, zz9 = wr.alloc (.cells #[.int .i64 q.1, .slice pa q.2.length pc] 35) := ⟨_, rfl⟩
          have hEr : Ext wr wa := by rw [hwa]; exact Ext.alloc _ _
          have hbd : wa.heap[dx]? = some (.cells #[.int .i64 q.1, .slice pa q.2.length pc] 35) := by rw [hwa, hdx]; exact hs_new
          have d0 : wa.cell? ⟨dx, 0, none⟩ = some (.int .i64 q.1) := by rw [cellc hbd]; rfl
          have d1 : wa.cell? ⟨dx, 1, none⟩ = some (.slice pa q.2.length pc) := by rw [cellc hbd]; rfl
          have HEr := Lib.hid hEr
          have HCS := Lib.hid (step_any (w := wa) HR0.out HV.out hr64 ((HL0.out.ext HE.out).ext hEr) (HTX.out.ext hEr) (hP.ext hEr))
          have x0 := cs_ext hEr x0
          have x1 := cs_ext hEr x1
          have x2 := cs_ext hEr x2
          have x3 := cs_ext hEr x3
          clear hr64 hP hEr hbd hq
          go_upto_region 6 with fail
          rw [← hwa, ← hdx]
          clear hwa hdx r0 r1
          go_wp2_with fail
          refine HCS.out.mono ?_
          rintro e w9 ⟨v9, er, rfl, hE9, hA9⟩
          by_cases h9 : (stepP R x q).1 = 0
          · obtain ⟨X, hX⟩ : ∃ X, X = (stepP R x q).2 := ⟨_, rfl⟩
            rw [← hX] at hA9
            obtain ⟨ya, yc, rfl, hTy⟩ := hA9.2.1 h9
            have her : er = 0 := hA9.1.trans h9
            subst her
            have HVX : Hid (validT X = 0) := Lib.hid (by rw [hX]; exact stepP_ok h9)
            have HNX : Hid (checkL R (l.drop (j + 1)) X = CQ) := Lib.hid (by rw [← HC.out, HDR.out, checkL, if_neg (by simpa using h9), hX])
            obtain ⟨nx, hnx⟩ : ∃ zz9, zz9 = w9.heap.size := ⟨_, rfl⟩
            obtain ⟨w10, hw10⟩ : ∃ zz9, zz9 = w9.alloc (.cells #[.int .i64 X.kind, .string X.name, .int .i64 X.sort, .slice ya X.kids.length yc] 25) := ⟨_, rfl⟩
            have hE10 : Ext w9 w10 := by rw [hw10]; exact Ext.alloc _ _
            have HBN : Hid (w10.heap[nx]? = some (.cells #[.int .i64 X.kind, .string X.name, .int .i64 X.sort, .slice ya X.kids.length yc] 25)) := Lib.hid (by rw [hw10, hnx]; exact hs_new)
            have hEb := (HEr.out.trans hE9).trans hE10
            have HEB := Lib.hid hEb
            have HTY := Lib.hid (hTy.keep (w' := w10) (S' := fun c => c ≠ bx) (fun c _ hc => hE10.block hc) (fun c h1 _ => by have := HEr.out.size; have := lt_of_get' HBX.out; omega))
            have HB10 := Lib.hid (hs_ext hEb HBX.out)
            have HY10 := Lib.hid (hs_ext hEb HBU.out)
            have n0 : w10.cell? ⟨nx, 0, none⟩ = some (.int .i64 X.kind) := by rw [cellc (HBN.out)]; rfl
            have n1 : w10.cell? ⟨nx, 1, none⟩ = some (.string X.name) := by rw [cellc (HBN.out)]; rfl
            have n2 : w10.cell? ⟨nx, 2, none⟩ = some (.int .i64 X.sort) := by rw [cellc (HBN.out)]; rfl
            have n3 : w10.cell? ⟨nx, 3, none⟩ = some (.slice ya X.kids.length yc) := by rw [cellc (HBN.out)]; rfl
            clear hE9 hA9 h9 hX hTy hE10 hEb x0 x1 x2 x3 d0 d1
            go_upto_region 7 with fail
            rw [← hw10, ← hnx]
            clear hw10 hnx
            go_wp2_with (first
              | (refine wpList_storeT rfl (.tmp 5) (.tmp 36) rfl (g := bx) rfl (k := X.kind) (s := X.sort) (n := X.name) (ka := ya) (kl := X.kids.length) (kc := yc) rfl HB10.out rfl ?_
                 intro wq c6 q6 e6 z6
                 have HG6 := Lib.hid c6
                 have HQ6 := Lib.hid q6
                 have HEQ := Lib.hid (e6 w (HE.out.trans HEB.out) (by have := HNB.out; omega))
                 clear c6 q6 e6 z6))
            go_roundw
            case rel => exact Lib.hid ⟨j + 1, X, ya, yc, by go_num, by omega, HNX.out, HVX.out, HG6.out, HTY.out.keep (fun c h1 _ => HQ6.out c h1) (fun c h1 _ => h1), HEQ.out, by rw [HQ6.out yx (by have := HNB.out; omega)]; exact HY10.out⟩
            case measure => simp [intOf]; omega
          · obtain rfl := hA9.2.2 h9
            have HF : Hid (Z = false) := Lib.hid (by rw [HZ2.out, ← HC.out, HDR.out, checkL, if_pos h9]; rfl)
            have ee : (er != 0) = true := by rw [hA9.1]; simpa using h9
            have HE9 : Hid (Ext w (w9.alloc (.cells #[.int .i64 0, .string ⟨#[]⟩, .int .i64 0, .slice none 0 0] 25))) := Lib.hid (HE.out.trans ((HEr.out.trans hE9).trans (Ext.alloc _ _)))
            clear hA9 hE9 h9
            go_wp2_with fail
            go_ret
            exact ⟨by rw [HF.out]; rfl, HE9.out⟩
        · have HF : Hid (Z = decide (cmpT x u = 0)) := Lib.hid (by
            have h := HC.out
            rw [List.drop_of_length_le (by omega), checkL] at h
            rw [HZ2.out, ← h]; rfl)
          have hjz : ¬ ((j : Int) < (l.length : Int)) := by omega
          have y0 : wr.cell? ⟨yx, 0, none⟩ = some (.int .i64 u.kind) := by rw [cellc (HBU.out)]; rfl
          have y1 : wr.cell? ⟨yx, 1, none⟩ = some (.string u.name) := by rw [cellc (HBU.out)]; rfl
          have y2 : wr.cell? ⟨yx, 2, none⟩ = some (.int .i64 u.sort) := by rw [cellc (HBU.out)]; rfl
          have y3 : wr.cell? ⟨yx, 3, none⟩ = some (.slice ua u.kids.length uc) := by rw [cellc (HBU.out)]; rfl
          have HCC := Lib.hid (PCmp_any (w := wr) (s := x) (t := u) (by have := HX4.out; omega) (by have := HUZ.out; omega) HTX.out (HU0.out.ext HE.out))
          have hlu := HU0.out.len
          go_wp2_with fail
          refine HCC.out.mono ?_
          rintro e w9 ⟨rfl, hE9⟩
          have HE9 := Lib.hid (HE.out.trans hE9)
          clear hE9
          go_wp2_with fail
          go_ret
          exact ⟨rb (by rw [HF.out, Bool.eq_iff_iff]; simp), HE9.out⟩
    · have e2 : (o2 != 0) = true := by simp [h2]
      have HF : Hid (Z = false) := Lib.hid (by rw [HZZ.out, if_pos (by rw [H1.out]; simp [orE, h2])])
      clear h2
      go_wp2_with fail
      go_ret
      exact ⟨by rw [HF.out]; rfl, HE2.out⟩
  · have e1 : (o1 != 0) = true := by simp [h1]
    have HF : Hid (Z = false) := Lib.hid (by rw [HZZ.out, if_pos (by simp [orE, h1])])
    clear h1
    go_wp2_with fail
    refine HC1.out.mono ?_
    rintro e w3 ⟨rfl, hE3⟩
    have HE3 := Lib.hid (HE2.out.trans hE3)
    clear hE3
    go_wp2_with fail
    go_ret
    exact ⟨by rw [HF.out]; rfl, HE3.out⟩

end Go.Proofs.YtpfnlbaloaohgaaGreat
