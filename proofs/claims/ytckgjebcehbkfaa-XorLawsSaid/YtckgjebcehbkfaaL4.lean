/- The walk of the law XorLaws. -/
import Derived.Test.YtckgjebcehbkfaaL2
import Derived.Test.YtckgjebcehbkfaaQ1
namespace Go.Proofs.Ytckgjebcehbkfaa
open Go Go.RowKit
set_option linter.unusedVariables false
set_option linter.unusedSimpArgs false

set_option maxRecDepth 100000 in
set_option maxHeartbeats 4000000 in
theorem law_laws {w : World} {Sa Sb Sc : Nat → Prop} {aa ab ac : Option Addr} {ca cb cc : Nat} {a b c : Tm} (hA : TmW w Sa aa ca a) (hB : TmW w Sb ab cb b) (hC : TmW w Sc ac cc c) :
    Calls Try.prog 5 #[.agg #[.int .i64 a.kind, .string a.name, .int .i64 a.sort, .slice aa a.kids.length ca], .agg #[.int .i64 b.kind, .string b.name, .int .i64 b.sort, .slice ab b.kids.length cb], .agg #[.int .i64 c.kind, .string c.name, .int .i64 c.sort, .slice ac c.kids.length cc]] w fun e w' => e = .returned (.bool true) ∧ Ext w w' := by
  have hla := hA.len
  have hca := hA.cap
  have hlb := hB.len
  have hcb := hB.cap
  have hlc := hC.len
  have hcc := hC.cap
  unfold maxLen at hca hcb hcc
  obtain ⟨w1, hw1⟩ : ∃ w1, w1 = ((w.alloc (.cells #[.int .i64 a.kind, .string a.name, .int .i64 a.sort, .slice aa a.kids.length ca] 24)).alloc (.cells #[.int .i64 b.kind, .string b.name, .int .i64 b.sort, .slice ab b.kids.length cb] 24)).alloc (.cells #[.int .i64 c.kind, .string c.name, .int .i64 c.sort, .slice ac c.kids.length cc] 24) := ⟨_, rfl⟩
  obtain ⟨pa, hpa⟩ : ∃ p, p = w.heap.size := ⟨_, rfl⟩
  obtain ⟨pb, hpb⟩ : ∃ p, p = w.heap.size + 1 := ⟨_, rfl⟩
  obtain ⟨pc, hpc⟩ : ∃ p, p = w.heap.size + 1 + 1 := ⟨_, rfl⟩
  have h1 : w1.heap[pa]? = some (.cells #[.int .i64 a.kind, .string a.name, .int .i64 a.sort, .slice aa a.kids.length ca] 24) := by rw [hw1, hpa]; exact hs_al (hs_al hs_new)
  have h2 : w1.heap[pb]? = some (.cells #[.int .i64 b.kind, .string b.name, .int .i64 b.sort, .slice ab b.kids.length cb] 24) := by rw [hw1, hpb]; exact hs_al hs_new1a
  have h3 : w1.heap[pc]? = some (.cells #[.int .i64 c.kind, .string c.name, .int .i64 c.sort, .slice ac c.kids.length cc] 24) := by rw [hw1, hpc]; exact hs_new2a
  have HE1 : Hid (Ext w w1) := Lib.hid (by rw [hw1]; exact ((Ext.alloc _ _).then_al _).then_al _)
  have HPA := Lib.hid h1
  have HPB := Lib.hid h2
  have HPC := Lib.hid h3
  have HTA := Lib.hid (hA.any.ext HE1.out)
  have HTB := Lib.hid (hB.any.ext HE1.out)
  have HTC := Lib.hid (hC.any.ext HE1.out)
  have HAW := Lib.hid (awake_any)
  clear hA hB hC h1 h2 h3
  go_enter Try.func5, Try.ntmps5
  go_upto_region 1 with fail
  rw [← hw1, ← hpc, ← hpb, ← hpa]
  clear hw1 hpa hpb hpc
  go_wp2_with fail
  refine (HAW.out _).mono ?_
  rintro e w2 ⟨rfl, hE2⟩

  have ax0 : w2.cell? ⟨pa, 0, none⟩ = some (.int .i64 a.kind) := by rw [cellc (hs_ext hE2 HPA.out)]; rfl
  have ax1 : w2.cell? ⟨pa, 1, none⟩ = some (.string a.name) := by rw [cellc (hs_ext hE2 HPA.out)]; rfl
  have ax2 : w2.cell? ⟨pa, 2, none⟩ = some (.int .i64 a.sort) := by rw [cellc (hs_ext hE2 HPA.out)]; rfl
  have ax3 : w2.cell? ⟨pa, 3, none⟩ = some (.slice aa a.kids.length ca) := by rw [cellc (hs_ext hE2 HPA.out)]; rfl
  have bx0 : w2.cell? ⟨pb, 0, none⟩ = some (.int .i64 b.kind) := by rw [cellc (hs_ext hE2 HPB.out)]; rfl
  have bx1 : w2.cell? ⟨pb, 1, none⟩ = some (.string b.name) := by rw [cellc (hs_ext hE2 HPB.out)]; rfl
  have bx2 : w2.cell? ⟨pb, 2, none⟩ = some (.int .i64 b.sort) := by rw [cellc (hs_ext hE2 HPB.out)]; rfl
  have bx3 : w2.cell? ⟨pb, 3, none⟩ = some (.slice ab b.kids.length cb) := by rw [cellc (hs_ext hE2 HPB.out)]; rfl
  have cx0 : w2.cell? ⟨pc, 0, none⟩ = some (.int .i64 c.kind) := by rw [cellc (hs_ext hE2 HPC.out)]; rfl
  have cx1 : w2.cell? ⟨pc, 1, none⟩ = some (.string c.name) := by rw [cellc (hs_ext hE2 HPC.out)]; rfl
  have cx2 : w2.cell? ⟨pc, 2, none⟩ = some (.int .i64 c.sort) := by rw [cellc (hs_ext hE2 HPC.out)]; rfl
  have cx3 : w2.cell? ⟨pc, 3, none⟩ = some (.slice ac c.kids.length cc) := by rw [cellc (hs_ext hE2 HPC.out)]; rfl
  have HX : Hid (∀ (w' : World) (fb : Nat), Ext w1 w' → w'.heap[fb]? = some (.cells #[.int .i64 a.kind, .string a.name, .int .i64 a.sort, .slice aa a.kids.length ca, .int .i64 b.kind, .string b.name, .int .i64 b.sort, .slice ab b.kids.length cb, .int .i64 c.kind, .string c.name, .int .i64 c.sort, .slice ac c.kids.length cc] 24) → LsT w' Any (.slice (some ⟨fb, 0, none⟩) [a, b, c].length 3) [a, b, c]) := Lib.hid (fun w' fb hE hb => cells_ls (S := Any) (E := [⟨a, aa, ca⟩, ⟨b, ab, cb⟩, ⟨c, ac, cc⟩]) hb rfl (by simp) (fun e he => by
    simp at he
    rcases he with rfl | rfl | rfl
    · exact HTA.out.ext hE
    · exact HTB.out.ext hE
    · exact HTC.out.ext hE))
  have hcon := few_any (w := (w2.alloc (.cells #[.int .i64 a.kind, .string a.name, .int .i64 a.sort, .slice aa a.kids.length ca, .int .i64 b.kind, .string b.name, .int .i64 b.sort, .slice ab b.kids.length cb, .int .i64 c.kind, .string c.name, .int .i64 c.sort, .slice ac c.kids.length cc] 24))) (L := [a, b, c]) (HX.out _ _ (hE2.then_al _) hs_new)
  obtain ⟨fw, hfw⟩ : ∃ fw, fw = fewT [a, b, c] 20 300 := ⟨_, rfl⟩
  rw [← hfw] at hcon
  have HFW := Lib.hid hfw
  have HCON : Hid (Calls Try.prog 13 #[.slice (some ⟨w2.heap.size, 0, none⟩) 3 3] (w2.alloc (.cells #[.int .i64 a.kind, .string a.name, .int .i64 a.sort, .slice aa a.kids.length ca, .int .i64 b.kind, .string b.name, .int .i64 b.sort, .slice ab b.kids.length cb, .int .i64 c.kind, .string c.name, .int .i64 c.sort, .slice ac c.kids.length cc] 24)) fun e w' => e = .returned (.bool fw) ∧ Ext (w2.alloc (.cells #[.int .i64 a.kind, .string a.name, .int .i64 a.sort, .slice aa a.kids.length ca, .int .i64 b.kind, .string b.name, .int .i64 b.sort, .slice ab b.kids.length cb, .int .i64 c.kind, .string c.name, .int .i64 c.sort, .slice ac c.kids.length cc] 24)) w') := Lib.hid hcon
  have HE2 := Lib.hid hE2
  clear hcon hfw hE2
  go_wp2_with fail
  refine HCON.out.mono ?_
  rintro e w3 ⟨rfl, hE3⟩
  have HE3 : Hid (Ext w1 w3) := Lib.hid ((HE2.out.then_al _).trans hE3)
  clear hE3 ax0 ax1 ax2 ax3 bx0 bx1 bx2 bx3 cx0 cx1 cx2 cx3
  cases fw with
  | false =>
    go_wp2_with fail
    refine (HAW.out _).mono ?_
    rintro e w4 ⟨rfl, hE4⟩
    go_wp2_with fail
    go_ret
    exact ⟨rfl, (HE1.out.trans HE3.out).trans hE4⟩
  | true =>
    have HSZ : Hid (sizeT a ≤ 300 ∧ sizeT b ≤ 300 ∧ sizeT c ≤ 300) := Lib.hid (by have := (few_one HFW.out.symm).2; simp only [sizeL] at this; omega)
    have ax0 : w3.cell? ⟨pa, 0, none⟩ = some (.int .i64 a.kind) := by rw [cellc (hs_ext HE3.out HPA.out)]; rfl
    have ax1 : w3.cell? ⟨pa, 1, none⟩ = some (.string a.name) := by rw [cellc (hs_ext HE3.out HPA.out)]; rfl
    have ax2 : w3.cell? ⟨pa, 2, none⟩ = some (.int .i64 a.sort) := by rw [cellc (hs_ext HE3.out HPA.out)]; rfl
    have ax3 : w3.cell? ⟨pa, 3, none⟩ = some (.slice aa a.kids.length ca) := by rw [cellc (hs_ext HE3.out HPA.out)]; rfl
    have bx0 : w3.cell? ⟨pb, 0, none⟩ = some (.int .i64 b.kind) := by rw [cellc (hs_ext HE3.out HPB.out)]; rfl
    have bx1 : w3.cell? ⟨pb, 1, none⟩ = some (.string b.name) := by rw [cellc (hs_ext HE3.out HPB.out)]; rfl
    have bx2 : w3.cell? ⟨pb, 2, none⟩ = some (.int .i64 b.sort) := by rw [cellc (hs_ext HE3.out HPB.out)]; rfl
    have bx3 : w3.cell? ⟨pb, 3, none⟩ = some (.slice ab b.kids.length cb) := by rw [cellc (hs_ext HE3.out HPB.out)]; rfl
    have cx0 : w3.cell? ⟨pc, 0, none⟩ = some (.int .i64 c.kind) := by rw [cellc (hs_ext HE3.out HPC.out)]; rfl
    have cx1 : w3.cell? ⟨pc, 1, none⟩ = some (.string c.name) := by rw [cellc (hs_ext HE3.out HPC.out)]; rfl
    have cx2 : w3.cell? ⟨pc, 2, none⟩ = some (.int .i64 c.sort) := by rw [cellc (hs_ext HE3.out HPC.out)]; rfl
    have cx3 : w3.cell? ⟨pc, 3, none⟩ = some (.slice ac c.kids.length cc) := by rw [cellc (hs_ext HE3.out HPC.out)]; rfl
    obtain ⟨lb, hlb0⟩ : ∃ lb, lb = w3.heap.size := ⟨_, rfl⟩
    obtain ⟨w4, hw4⟩ : ∃ w4, w4 = w3.alloc (.cells #[.int .i64 a.kind, .string a.name, .int .i64 a.sort, .slice aa a.kids.length ca, .int .i64 b.kind, .string b.name, .int .i64 b.sort, .slice ab b.kids.length cb, .int .i64 c.kind, .string c.name, .int .i64 c.sort, .slice ac c.kids.length cc] 24) := ⟨_, rfl⟩
    have HE4 : Hid (Ext w1 w4) := Lib.hid (by rw [hw4]; exact HE3.out.then_al _)
    have HLB : Hid (w4.heap[lb]? = some (.cells #[.int .i64 a.kind, .string a.name, .int .i64 a.sort, .slice aa a.kids.length ca, .int .i64 b.kind, .string b.name, .int .i64 b.sort, .slice ab b.kids.length cb, .int .i64 c.kind, .string c.name, .int .i64 c.sort, .slice ac c.kids.length cc] 24)) := Lib.hid (by rw [hw4, hlb0]; exact hs_new)
    go_upto_region 4 with fail
    rw [← hw4, ← hlb0]
    clear hw4 hlb0 ax0 ax1 ax2 ax3 bx0 bx1 bx2 bx3 cx0 cx1 cx2 cx3
    go_loopw [8, 39] (fun _ kv wr => Hid (∃ k : Nat, kv = .int .i64 k ∧ k ≤ 3 ∧ Ext w4 wr ∧ ∀ (j : Nat) x, j < k → [a, b, c][j]? = some x → validT x = 0)) (fun _ kv _ => 3 - (intOf kv).toNat)
    case atStart => exact Lib.hid ⟨0, rfl, by omega, Ext.refl _, fun j x h => by omega⟩
    case round =>
      obtain ⟨k, rfl, hk, hE, hall⟩ := hrel.out
      have HE := Lib.hid hE
      have HALL := Lib.hid hall
      clear hE hall hrel
      by_cases hlt : k < 3
      · obtain ⟨x, hx⟩ : ∃ x, [a, b, c][k]? = some x := ⟨_, List.getElem?_eq_getElem (by simpa using hlt)⟩
        obtain ⟨xb, xo, xa, xc, hq, x0, x1, x2, x3, hTx⟩ := (HX.out wr lb (HE4.out.trans HE.out) (hs_ext HE.out HLB.out)).ts.at hx
        cases hq
        rw [Nat.zero_add] at x0 x1 x2 x3
        have hx6 : sizeT x ≤ 300 := by have := sizeL_get hx; have := HSZ.out; have := (few_one HFW.out.symm).2; omega
        have hcon := RValid_any (w := wr.alloc (.cells #[.int .i64 x.kind, .string x.name, .int .i64 x.sort, .slice xa x.kids.length xc] 24)) (by omega) (hTx.ext (Ext.alloc _ _))
        obtain ⟨er, her⟩ : ∃ er, er = validT x := ⟨_, rfl⟩
        rw [← her] at hcon
        have HER := Lib.hid her
        have HXK := Lib.hid hx
        have HCON2 := Lib.hid hcon
        have hlx := hTx.len
        have hcx := hTx.cap
        unfold maxLen at hcx
        have hk4 : ((k : Int) < 3) := by omega
        clear hcon her hTx hx hx6
        go_wp2_with fail
        refine HCON2.out.mono ?_
        rintro e w5 ⟨rfl, hE5⟩
        have HE5 := Lib.hid (HE.out.trans ((Ext.alloc _ _).trans hE5))
        clear hE5
        by_cases hz : er = 0
        · have e1 : (er != 0) = false := by simp [hz]
          have HZ := Lib.hid hz
          clear hz
          go_wp2_with fail
          go_roundw
          case rel => exact Lib.hid ⟨k + 1, by go_num, by omega, HE5.out, fun j y hj hy => by
            rcases Nat.lt_or_ge j k with h | h
            · exact HALL.out j y h hy
            · have : j = k := by omega
              subst this
              rw [HXK.out] at hy; cases hy
              rw [← HER.out, HZ.out]⟩
          case measure => simp [intOf]; omega
        · have e1 : (er != 0) = true := by simp [hz]
          clear hz
          go_wp2_with fail
          go_ret
          exact ⟨rfl, HE1.out.trans (HE4.out.trans HE5.out)⟩
      · have HVA : Hid (validT a = 0 ∧ validT b = 0 ∧ validT c = 0) := Lib.hid ⟨HALL.out 0 a (by omega) rfl, HALL.out 1 b (by omega) rfl, HALL.out 2 c (by omega) rfl⟩
        have hk3 : ¬ ((k : Int) < 3) := by omega
        have hkq : k = 3 := by omega
        subst hkq
        have HWR := Lib.hid (HE4.out.trans HE.out)
        have HS2 : Hid (∀ L : List Tm, sizeT (sumR L) ≤ 1 + sizeL L) := Lib.hid sumR_size
        have ax0 : wr.cell? ⟨pa, 0, none⟩ = some (.int .i64 a.kind) := by rw [cellc (hs_ext HWR.out HPA.out)]; rfl
        have ax1 : wr.cell? ⟨pa, 1, none⟩ = some (.string a.name) := by rw [cellc (hs_ext HWR.out HPA.out)]; rfl
        have ax2 : wr.cell? ⟨pa, 2, none⟩ = some (.int .i64 a.sort) := by rw [cellc (hs_ext HWR.out HPA.out)]; rfl
        have ax3 : wr.cell? ⟨pa, 3, none⟩ = some (.slice aa a.kids.length ca) := by rw [cellc (hs_ext HWR.out HPA.out)]; rfl
        have bx0 : wr.cell? ⟨pb, 0, none⟩ = some (.int .i64 b.kind) := by rw [cellc (hs_ext HWR.out HPB.out)]; rfl
        have bx1 : wr.cell? ⟨pb, 1, none⟩ = some (.string b.name) := by rw [cellc (hs_ext HWR.out HPB.out)]; rfl
        have bx2 : wr.cell? ⟨pb, 2, none⟩ = some (.int .i64 b.sort) := by rw [cellc (hs_ext HWR.out HPB.out)]; rfl
        have bx3 : wr.cell? ⟨pb, 3, none⟩ = some (.slice ab b.kids.length cb) := by rw [cellc (hs_ext HWR.out HPB.out)]; rfl
        obtain ⟨s1, hs1⟩ : ∃ x, x = sumR [a, b] := ⟨_, rfl⟩
        obtain ⟨es1, hes1⟩ : ∃ x, x = errSum [a, b] := ⟨_, rfl⟩
        have hcon := PAdd_new (w := wr) (s := a) (t := b) (by have h1 := HSZ.out; omega) (HTA.out.ext HWR.out) (HTB.out.ext HWR.out)
        rw [← hs1, ← hes1] at hcon
        have Hs1 := Lib.hid hs1
        have HEs1 := Lib.hid hes1
        have HCA0 := Lib.hid hcon
        clear hcon hs1 hes1
        go_wp2_with fail
        refine HCA0.out.mono ?_
        rintro e v1a ⟨u, rfl, hEa, qs1, rs1, rfl, hTa⟩
        obtain ⟨ps1, hps1⟩ : ∃ p, p = v1a.heap.size := ⟨_, rfl⟩
        obtain ⟨v1, hv1⟩ : ∃ w', w' = v1a.alloc (.cells #[.int .i64 s1.kind, .string s1.name, .int .i64 s1.sort, .slice qs1 s1.kids.length rs1] 24) := ⟨_, rfl⟩
        have HNv1 : Hid (Ext wr v1) := Lib.hid (by rw [hv1]; exact hEa.then_al _)
        have HCv1 := Lib.hid (HWR.out.trans HNv1.out)
        have HBs1 : Hid (v1.heap[ps1]? = some (.cells #[.int .i64 s1.kind, .string s1.name, .int .i64 s1.sort, .slice qs1 s1.kids.length rs1] 24)) := Lib.hid (by rw [hv1, hps1]; exact hs_new)
        have HTs1 : Hid (TmW v1 Any qs1 rs1 s1) := Lib.hid (by rw [hv1]; exact (hTa.any).ext (Ext.alloc _ _))
        have hls1 := hTa.len
        have hcs1 := hTa.cap
        unfold maxLen at hcs1
        go_upto_region 10 with fail
        rw [← hv1, ← hps1]
        clear hv1 hps1 hEa hTa ax0 ax1 ax2 ax3 bx0 bx1 bx2 bx3
        have bx0 : v1.cell? ⟨pb, 0, none⟩ = some (.int .i64 b.kind) := by rw [cellc (hs_ext HCv1.out HPB.out)]; rfl
        have bx1 : v1.cell? ⟨pb, 1, none⟩ = some (.string b.name) := by rw [cellc (hs_ext HCv1.out HPB.out)]; rfl
        have bx2 : v1.cell? ⟨pb, 2, none⟩ = some (.int .i64 b.sort) := by rw [cellc (hs_ext HCv1.out HPB.out)]; rfl
        have bx3 : v1.cell? ⟨pb, 3, none⟩ = some (.slice ab b.kids.length cb) := by rw [cellc (hs_ext HCv1.out HPB.out)]; rfl
        have ax0 : v1.cell? ⟨pa, 0, none⟩ = some (.int .i64 a.kind) := by rw [cellc (hs_ext HCv1.out HPA.out)]; rfl
        have ax1 : v1.cell? ⟨pa, 1, none⟩ = some (.string a.name) := by rw [cellc (hs_ext HCv1.out HPA.out)]; rfl
        have ax2 : v1.cell? ⟨pa, 2, none⟩ = some (.int .i64 a.sort) := by rw [cellc (hs_ext HCv1.out HPA.out)]; rfl
        have ax3 : v1.cell? ⟨pa, 3, none⟩ = some (.slice aa a.kids.length ca) := by rw [cellc (hs_ext HCv1.out HPA.out)]; rfl
        obtain ⟨s2, hs2⟩ : ∃ x, x = sumR [b, a] := ⟨_, rfl⟩
        obtain ⟨es2, hes2⟩ : ∃ x, x = errSum [b, a] := ⟨_, rfl⟩
        have hcon := PAdd_new (w := v1) (s := b) (t := a) (by have h1 := HSZ.out; omega) (HTB.out.ext HCv1.out) (HTA.out.ext HCv1.out)
        rw [← hs2, ← hes2] at hcon
        have Hs2 := Lib.hid hs2
        have HEs2 := Lib.hid hes2
        have HCA1 := Lib.hid hcon
        clear hcon hs2 hes2
        go_wp2_with fail
        refine HCA1.out.mono ?_
        rintro e v2a ⟨u, rfl, hEa, qs2, rs2, rfl, hTa⟩
        obtain ⟨ps2, hps2⟩ : ∃ p, p = v2a.heap.size := ⟨_, rfl⟩
        obtain ⟨v2, hv2⟩ : ∃ w', w' = v2a.alloc (.cells #[.int .i64 s2.kind, .string s2.name, .int .i64 s2.sort, .slice qs2 s2.kids.length rs2] 24) := ⟨_, rfl⟩
        have HNv2 : Hid (Ext v1 v2) := Lib.hid (by rw [hv2]; exact hEa.then_al _)
        have HCv2 := Lib.hid (HCv1.out.trans HNv2.out)
        have HBs2 : Hid (v2.heap[ps2]? = some (.cells #[.int .i64 s2.kind, .string s2.name, .int .i64 s2.sort, .slice qs2 s2.kids.length rs2] 24)) := Lib.hid (by rw [hv2, hps2]; exact hs_new)
        have HTs2 : Hid (TmW v2 Any qs2 rs2 s2) := Lib.hid (by rw [hv2]; exact (hTa.any).ext (Ext.alloc _ _))
        have hls2 := hTa.len
        have hcs2 := hTa.cap
        unfold maxLen at hcs2
        go_upto_region 11 with fail
        rw [← hv2, ← hps2]
        clear hv2 hps2 hEa hTa ax0 ax1 ax2 ax3 bx0 bx1 bx2 bx3
        obtain ⟨rfl, rfl⟩ : es2 = es1 ∧ s2 = s1 := by
          have h := add_comm_err HVA.out.1 HVA.out.2.1
          rw [HEs1.out, HEs2.out, Hs1.out, Hs2.out]
          exact h
        have HTs1' := Lib.hid (HTs1.out.ext HNv2.out)
        have HB1' := Lib.hid (hs_ext HNv2.out HBs1.out)
        have f0 : v2.cell? ⟨ps1, 0, none⟩ = some (.int .i64 s2.kind) := by rw [cellc HB1'.out]; rfl
        have f1 : v2.cell? ⟨ps1, 1, none⟩ = some (.string s2.name) := by rw [cellc HB1'.out]; rfl
        have f2 : v2.cell? ⟨ps1, 2, none⟩ = some (.int .i64 s2.sort) := by rw [cellc HB1'.out]; rfl
        have f3 : v2.cell? ⟨ps1, 3, none⟩ = some (.slice qs1 s2.kids.length rs1) := by rw [cellc HB1'.out]; rfl
        have g0 : v2.cell? ⟨ps2, 0, none⟩ = some (.int .i64 s2.kind) := by rw [cellc HBs2.out]; rfl
        have g1 : v2.cell? ⟨ps2, 1, none⟩ = some (.string s2.name) := by rw [cellc HBs2.out]; rfl
        have g2 : v2.cell? ⟨ps2, 2, none⟩ = some (.int .i64 s2.sort) := by rw [cellc HBs2.out]; rfl
        have g3 : v2.cell? ⟨ps2, 3, none⟩ = some (.slice qs2 s2.kids.length rs2) := by rw [cellc HBs2.out]; rfl
        have HS6 : Hid (sizeT s2 ≤ 700) := Lib.hid (by have h1 := HSZ.out; have h2 := HS2.out [b, a]; rw [← Hs2.out] at h2; simp only [sizeL] at h2; omega)
        have e1 : (es2 != es2) = false := by simp
        have hcon := RSame_any (w := v2) (by have := HS6.out; omega) (by have := HS6.out; omega) HTs1'.out HTs2.out
        rw [show decide (s2 = s2) = true by simp] at hcon
        have HSA := Lib.hid hcon
        clear hcon
        go_wp2_with fail
        refine HSA.out.mono ?_
        rintro e v3 ⟨rfl, hE3⟩
        have HNv3 := Lib.hid hE3
        have HCv3 := Lib.hid (HCv2.out.trans hE3)
        clear hE3 f0 f1 f2 f3 g0 g1 g2 g3
        have bx0 : v3.cell? ⟨pb, 0, none⟩ = some (.int .i64 b.kind) := by rw [cellc (hs_ext HCv3.out HPB.out)]; rfl
        have bx1 : v3.cell? ⟨pb, 1, none⟩ = some (.string b.name) := by rw [cellc (hs_ext HCv3.out HPB.out)]; rfl
        have bx2 : v3.cell? ⟨pb, 2, none⟩ = some (.int .i64 b.sort) := by rw [cellc (hs_ext HCv3.out HPB.out)]; rfl
        have bx3 : v3.cell? ⟨pb, 3, none⟩ = some (.slice ab b.kids.length cb) := by rw [cellc (hs_ext HCv3.out HPB.out)]; rfl
        have cx0 : v3.cell? ⟨pc, 0, none⟩ = some (.int .i64 c.kind) := by rw [cellc (hs_ext HCv3.out HPC.out)]; rfl
        have cx1 : v3.cell? ⟨pc, 1, none⟩ = some (.string c.name) := by rw [cellc (hs_ext HCv3.out HPC.out)]; rfl
        have cx2 : v3.cell? ⟨pc, 2, none⟩ = some (.int .i64 c.sort) := by rw [cellc (hs_ext HCv3.out HPC.out)]; rfl
        have cx3 : v3.cell? ⟨pc, 3, none⟩ = some (.slice ac c.kids.length cc) := by rw [cellc (hs_ext HCv3.out HPC.out)]; rfl
        obtain ⟨s3, hs3⟩ : ∃ x, x = sumR [b, c] := ⟨_, rfl⟩
        obtain ⟨es3, hes3⟩ : ∃ x, x = errSum [b, c] := ⟨_, rfl⟩
        have hcon := PAdd_new (w := v3) (s := b) (t := c) (by have h1 := HSZ.out; omega) (HTB.out.ext HCv3.out) (HTC.out.ext HCv3.out)
        rw [← hs3, ← hes3] at hcon
        have Hs3 := Lib.hid hs3
        have HEs3 := Lib.hid hes3
        have HCA2 := Lib.hid hcon
        clear hcon hs3 hes3
        go_wp2_with fail
        refine HCA2.out.mono ?_
        rintro e v4a ⟨u, rfl, hEa, qs3, rs3, rfl, hTa⟩
        obtain ⟨ps3, hps3⟩ : ∃ p, p = v4a.heap.size := ⟨_, rfl⟩
        obtain ⟨v4, hv4⟩ : ∃ w', w' = v4a.alloc (.cells #[.int .i64 s3.kind, .string s3.name, .int .i64 s3.sort, .slice qs3 s3.kids.length rs3] 24) := ⟨_, rfl⟩
        have HNv4 : Hid (Ext v3 v4) := Lib.hid (by rw [hv4]; exact hEa.then_al _)
        have HCv4 := Lib.hid (HCv3.out.trans HNv4.out)
        have HBs3 : Hid (v4.heap[ps3]? = some (.cells #[.int .i64 s3.kind, .string s3.name, .int .i64 s3.sort, .slice qs3 s3.kids.length rs3] 24)) := Lib.hid (by rw [hv4, hps3]; exact hs_new)
        have HTs3 : Hid (TmW v4 Any qs3 rs3 s3) := Lib.hid (by rw [hv4]; exact (hTa.any).ext (Ext.alloc _ _))
        have hls3 := hTa.len
        have hcs3 := hTa.cap
        unfold maxLen at hcs3
        go_upto_region 14 with fail
        rw [← hv4, ← hps3]
        clear hv4 hps3 hEa hTa bx0 bx1 bx2 bx3 cx0 cx1 cx2 cx3
        have HFIN : Hid (∀ w', Ext w1 w' → Ext w w') := Lib.hid (fun w' h => HE1.out.trans h)
        by_cases hz : es2 = 0
        case neg =>
          have e2 : (es2 != 0) = true := by simp [hz]
          clear hz
          go_wp2_with fail
          go_ret
          exact ⟨rfl, HFIN.out _ HCv4.out⟩
        have e2 : (es2 != 0) = false := by simp [hz]
        have HZ1 := Lib.hid hz
        clear hz
        by_cases hz : es3 = 0
        case neg =>
          have e3 : (es3 != 0) = true := by simp [hz]
          clear hz
          go_wp2_with fail
          go_ret
          exact ⟨rfl, HFIN.out _ HCv4.out⟩
        have e3 : (es3 != 0) = false := by simp [hz]
        have HZ3 := Lib.hid hz
        clear hz
        have HEQ : Hid (errSum [b, a] = 0 ∧ errSum [a, b] = 0 ∧ errSum [b, c] = 0) := Lib.hid ⟨by rw [← HEs2.out]; exact HZ1.out, by rw [← HEs1.out]; exact HZ1.out, by rw [← HEs3.out]; exact HZ3.out⟩
        have HS7 : Hid (sizeT s3 ≤ 700) := Lib.hid (by have h1 := HSZ.out; have h2 := HS2.out [b, c]; rw [← Hs3.out] at h2; simp only [sizeL] at h2; omega)
        have HT4 := Lib.hid (HTs1.out.ext (HNv2.out.trans (HNv3.out.trans HNv4.out)))
        have HB4 := Lib.hid (hs_ext (HNv2.out.trans (HNv3.out.trans HNv4.out)) HBs1.out)
        have f0 : v4.cell? ⟨ps1, 0, none⟩ = some (.int .i64 s2.kind) := by rw [cellc HB4.out]; rfl
        have f1 : v4.cell? ⟨ps1, 1, none⟩ = some (.string s2.name) := by rw [cellc HB4.out]; rfl
        have f2 : v4.cell? ⟨ps1, 2, none⟩ = some (.int .i64 s2.sort) := by rw [cellc HB4.out]; rfl
        have f3 : v4.cell? ⟨ps1, 3, none⟩ = some (.slice qs1 s2.kids.length rs1) := by rw [cellc HB4.out]; rfl
        have cx0 : v4.cell? ⟨pc, 0, none⟩ = some (.int .i64 c.kind) := by rw [cellc (hs_ext HCv4.out HPC.out)]; rfl
        have cx1 : v4.cell? ⟨pc, 1, none⟩ = some (.string c.name) := by rw [cellc (hs_ext HCv4.out HPC.out)]; rfl
        have cx2 : v4.cell? ⟨pc, 2, none⟩ = some (.int .i64 c.sort) := by rw [cellc (hs_ext HCv4.out HPC.out)]; rfl
        have cx3 : v4.cell? ⟨pc, 3, none⟩ = some (.slice ac c.kids.length cc) := by rw [cellc (hs_ext HCv4.out HPC.out)]; rfl
        obtain ⟨s4, hs4⟩ : ∃ x, x = sumR [s2, c] := ⟨_, rfl⟩
        obtain ⟨es4, hes4⟩ : ∃ x, x = errSum [s2, c] := ⟨_, rfl⟩
        have hcon := PAdd_new (w := v4) (s := s2) (t := c) (by have h1 := HSZ.out; have h2 := HS6.out; omega) (HT4.out) (HTC.out.ext HCv4.out)
        rw [← hs4, ← hes4] at hcon
        have Hs4 := Lib.hid hs4
        have HEs4 := Lib.hid hes4
        have HCA3 := Lib.hid hcon
        clear hcon hs4 hes4
        go_wp2_with fail
        refine HCA3.out.mono ?_
        rintro e v5a ⟨u, rfl, hEa, qs4, rs4, rfl, hTa⟩
        obtain ⟨ps4, hps4⟩ : ∃ p, p = v5a.heap.size := ⟨_, rfl⟩
        obtain ⟨v5, hv5⟩ : ∃ w', w' = v5a.alloc (.cells #[.int .i64 s4.kind, .string s4.name, .int .i64 s4.sort, .slice qs4 s4.kids.length rs4] 24) := ⟨_, rfl⟩
        have HNv5 : Hid (Ext v4 v5) := Lib.hid (by rw [hv5]; exact hEa.then_al _)
        have HCv5 := Lib.hid (HCv4.out.trans HNv5.out)
        have HBs4 : Hid (v5.heap[ps4]? = some (.cells #[.int .i64 s4.kind, .string s4.name, .int .i64 s4.sort, .slice qs4 s4.kids.length rs4] 24)) := Lib.hid (by rw [hv5, hps4]; exact hs_new)
        have HTs4 : Hid (TmW v5 Any qs4 rs4 s4) := Lib.hid (by rw [hv5]; exact (hTa.any).ext (Ext.alloc _ _))
        have hls4 := hTa.len
        have hcs4 := hTa.cap
        unfold maxLen at hcs4
        go_upto_region 17 with fail
        rw [← hv5, ← hps4]
        clear hv5 hps4 hEa hTa f0 f1 f2 f3 cx0 cx1 cx2 cx3
        have ax0 : v5.cell? ⟨pa, 0, none⟩ = some (.int .i64 a.kind) := by rw [cellc (hs_ext HCv5.out HPA.out)]; rfl
        have ax1 : v5.cell? ⟨pa, 1, none⟩ = some (.string a.name) := by rw [cellc (hs_ext HCv5.out HPA.out)]; rfl
        have ax2 : v5.cell? ⟨pa, 2, none⟩ = some (.int .i64 a.sort) := by rw [cellc (hs_ext HCv5.out HPA.out)]; rfl
        have ax3 : v5.cell? ⟨pa, 3, none⟩ = some (.slice aa a.kids.length ca) := by rw [cellc (hs_ext HCv5.out HPA.out)]; rfl
        have g0 : v5.cell? ⟨ps3, 0, none⟩ = some (.int .i64 s3.kind) := by rw [cellc (hs_ext HNv5.out HBs3.out)]; rfl
        have g1 : v5.cell? ⟨ps3, 1, none⟩ = some (.string s3.name) := by rw [cellc (hs_ext HNv5.out HBs3.out)]; rfl
        have g2 : v5.cell? ⟨ps3, 2, none⟩ = some (.int .i64 s3.sort) := by rw [cellc (hs_ext HNv5.out HBs3.out)]; rfl
        have g3 : v5.cell? ⟨ps3, 3, none⟩ = some (.slice qs3 s3.kids.length rs3) := by rw [cellc (hs_ext HNv5.out HBs3.out)]; rfl
        obtain ⟨s5, hs5⟩ : ∃ x, x = sumR [a, s3] := ⟨_, rfl⟩
        obtain ⟨es5, hes5⟩ : ∃ x, x = errSum [a, s3] := ⟨_, rfl⟩
        have hcon := PAdd_new (w := v5) (s := a) (t := s3) (by have h1 := HSZ.out; have h2 := HS7.out; omega) (HTA.out.ext HCv5.out) (HTs3.out.ext HNv5.out)
        rw [← hs5, ← hes5] at hcon
        have Hs5 := Lib.hid hs5
        have HEs5 := Lib.hid hes5
        have HCA4 := Lib.hid hcon
        clear hcon hs5 hes5
        go_wp2_with fail
        refine HCA4.out.mono ?_
        rintro e v6a ⟨u, rfl, hEa, qs5, rs5, rfl, hTa⟩
        obtain ⟨ps5, hps5⟩ : ∃ p, p = v6a.heap.size := ⟨_, rfl⟩
        obtain ⟨v6, hv6⟩ : ∃ w', w' = v6a.alloc (.cells #[.int .i64 s5.kind, .string s5.name, .int .i64 s5.sort, .slice qs5 s5.kids.length rs5] 24) := ⟨_, rfl⟩
        have HNv6 : Hid (Ext v5 v6) := Lib.hid (by rw [hv6]; exact hEa.then_al _)
        have HCv6 := Lib.hid (HCv5.out.trans HNv6.out)
        have HBs5 : Hid (v6.heap[ps5]? = some (.cells #[.int .i64 s5.kind, .string s5.name, .int .i64 s5.sort, .slice qs5 s5.kids.length rs5] 24)) := Lib.hid (by rw [hv6, hps5]; exact hs_new)
        have HTs5 : Hid (TmW v6 Any qs5 rs5 s5) := Lib.hid (by rw [hv6]; exact (hTa.any).ext (Ext.alloc _ _))
        have hls5 := hTa.len
        have hcs5 := hTa.cap
        unfold maxLen at hcs5
        go_upto_region 18 with fail
        rw [← hv6, ← hps5]
        clear hv6 hps5 hEa hTa g0 g1 g2 g3 ax0 ax1 ax2 ax3
        obtain ⟨rfl, rfl⟩ : es5 = es4 ∧ s5 = s4 := by
          have h := add_assoc_err (c := c) HVA.out.1 HVA.out.2.2 HEQ.out.2.1 HEQ.out.2.2
          rw [← Hs1.out, ← Hs3.out] at h
          rw [HEs4.out, HEs5.out, Hs4.out, Hs5.out]
          exact h
        have ax0 : v6.cell? ⟨pa, 0, none⟩ = some (.int .i64 a.kind) := by rw [cellc (hs_ext HCv6.out HPA.out)]; rfl
        have ax1 : v6.cell? ⟨pa, 1, none⟩ = some (.string a.name) := by rw [cellc (hs_ext HCv6.out HPA.out)]; rfl
        have ax2 : v6.cell? ⟨pa, 2, none⟩ = some (.int .i64 a.sort) := by rw [cellc (hs_ext HCv6.out HPA.out)]; rfl
        have ax3 : v6.cell? ⟨pa, 3, none⟩ = some (.slice aa a.kids.length ca) := by rw [cellc (hs_ext HCv6.out HPA.out)]; rfl
        obtain ⟨s6, hs6⟩ : ∃ x, x = sumR [a, a] := ⟨_, rfl⟩
        obtain ⟨es6, hes6⟩ : ∃ x, x = errSum [a, a] := ⟨_, rfl⟩
        have hcon := PAdd_new (w := v6) (s := a) (t := a) (by have h1 := HSZ.out; omega) (HTA.out.ext HCv6.out) (HTA.out.ext HCv6.out)
        rw [← hs6, ← hes6] at hcon
        have Hs6 := Lib.hid hs6
        have HEs6 := Lib.hid hes6
        have HCA5 := Lib.hid hcon
        clear hcon hs6 hes6
        go_wp2_with fail
        refine HCA5.out.mono ?_
        rintro e v7a ⟨u, rfl, hEa, qs6, rs6, rfl, hTa⟩
        obtain ⟨ps6, hps6⟩ : ∃ p, p = v7a.heap.size := ⟨_, rfl⟩
        obtain ⟨v7, hv7⟩ : ∃ w', w' = v7a.alloc (.cells #[.int .i64 s6.kind, .string s6.name, .int .i64 s6.sort, .slice qs6 s6.kids.length rs6] 24) := ⟨_, rfl⟩
        have HNv7 : Hid (Ext v6 v7) := Lib.hid (by rw [hv7]; exact hEa.then_al _)
        have HCv7 := Lib.hid (HCv6.out.trans HNv7.out)
        have HBs6 : Hid (v7.heap[ps6]? = some (.cells #[.int .i64 s6.kind, .string s6.name, .int .i64 s6.sort, .slice qs6 s6.kids.length rs6] 24)) := Lib.hid (by rw [hv7, hps6]; exact hs_new)
        have HTs6 : Hid (TmW v7 Any qs6 rs6 s6) := Lib.hid (by rw [hv7]; exact (hTa.any).ext (Ext.alloc _ _))
        have hls6 := hTa.len
        have hcs6 := hTa.cap
        unfold maxLen at hcs6
        go_upto_region 19 with fail
        rw [← hv7, ← hps6]
        clear hv7 hps6 hEa hTa ax0 ax1 ax2 ax3
        have HZA : Hid (es6 = 0 ∧ s6 = appTm zeroN []) := Lib.hid (by rw [HEs6.out, Hs6.out]; exact add_self HVA.out.1)
        have hz6 : es6 = 0 := HZA.out.1
        subst hz6
        have HNN := Lib.hid (HNv5.out.trans (HNv6.out.trans HNv7.out))
        have HT7 := Lib.hid (HT4.out.ext HNN.out)
        have HB7 := Lib.hid (hs_ext HNN.out HB4.out)

        have f0 : v7.drew.cell? ⟨ps1, 0, none⟩ = some (.int .i64 s2.kind) := by rw [cellc (w := v7.drew) HB7.out]; rfl
        have f1 : v7.drew.cell? ⟨ps1, 1, none⟩ = some (.string s2.name) := by rw [cellc (w := v7.drew) HB7.out]; rfl
        have f2 : v7.drew.cell? ⟨ps1, 2, none⟩ = some (.int .i64 s2.sort) := by rw [cellc (w := v7.drew) HB7.out]; rfl
        have f3 : v7.drew.cell? ⟨ps1, 3, none⟩ = some (.slice qs1 s2.kids.length rs1) := by rw [cellc (w := v7.drew) HB7.out]; rfl
        have f0z : (v7.alloc (.cells #[.int .i64 0, .string ⟨#[]⟩, .int .i64 0, .slice none 0 0] 24)).drew.cell? _ = _ := cs_al f0
        have f1z : (v7.alloc (.cells #[.int .i64 0, .string ⟨#[]⟩, .int .i64 0, .slice none 0 0] 24)).drew.cell? _ = _ := cs_al f1
        have f2z : (v7.alloc (.cells #[.int .i64 0, .string ⟨#[]⟩, .int .i64 0, .slice none 0 0] 24)).drew.cell? _ = _ := cs_al f2
        have f3z : (v7.alloc (.cells #[.int .i64 0, .string ⟨#[]⟩, .int .i64 0, .slice none 0 0] 24)).drew.cell? _ = _ := cs_al f3
        obtain ⟨tz, htz⟩ : ∃ t, t = appTm zeroN [] := ⟨_, rfl⟩
        have HTZ := Lib.hid htz
        have happ := fun (w' : World) => (App_any (w := w') (S := Any) (n := zeroN) (L := []) (a := none) (cap := 0) (by unfold maxLen; decide) (by simp) LsT.nil)
        rw [← htz] at happ
        have HAPP : Hid (∀ w' : World, Calls Try.prog 23 #[.string ⟨#[122, 101, 114, 111]⟩, .slice none 0 0] w' fun e w'' => ∃ u, e = .returned u ∧ Ext w' w'' ∧ IsS w'' (NewS Any w'.heap.size) u tz) := Lib.hid happ
        have hadd : ∀ (w' : World) za zc, Ext v7 w' → TmW w' Any za zc tz → Calls Try.prog 21 #[.agg #[.int .i64 s2.kind, .string s2.name, .int .i64 s2.sort, .slice qs1 s2.kids.length rs1], .agg #[.int .i64 tz.kind, .string tz.name, .int .i64 tz.sort, .slice za tz.kids.length zc]] w' fun e w'' => ∃ u, e = .returned (.tuple #[u, .int .i64 0]) ∧ Ext w' w'' ∧ IsS w'' (fun c => w'.heap.size ≤ c) u s2 := by
          intro w' za zc hE hz
          have h := PAdd_new (w := w') (s := s2) (t := tz) (by have := HS6.out; rw [HTZ.out, show sizeT (appTm zeroN []) = 1 by decide +kernel]; omega) (HT7.out.ext hE) hz
          have h2 := xadd_zero HEQ.out.1
          rw [← Hs2.out, ← HTZ.out] at h2
          rw [h2.1, h2.2] at h
          exact h
        have HADD := Lib.hid hadd
        clear hadd happ htz
        go_cut [21, 22] from 99 to 103 (fun v21 v22 wx => ∃ pb sa sc, v21 = .pointer (some ⟨pb, 0, none⟩) ∧ v22 = .int .i64 0 ∧ Ext v7 wx ∧ wx.heap[pb]? = some (.cells #[.int .i64 s2.kind, .string s2.name, .int .i64 s2.sort, .slice sa s2.kids.length sc] 24) ∧ TmW wx Any sa sc s2)
        case first =>
          go_region_law (first
            | (go_simp
               go_at_call 23
               refine (HAPP.out _).mono ?_
               rintro e w8 ⟨u, rfl, hE8, za, zc, rfl, hZ8⟩
               have HE8 : Hid (Ext v7 w8) := Lib.hid (Ext.trans (by repeat (first | exact Ext.refl _ | exact Ext.alloc _ _ | apply Ext.then_dr | apply Ext.then_drN | apply Ext.then_drN2 | (refine Ext.then_al ?_ _))) hE8)
               have HZ8 := Lib.hid hZ8.any
               try (have kb : w8.heap[v7.heap.size]? = some (.cells #[.int .i64 0, .string ⟨#[]⟩, .int .i64 0, .slice none 0 0] 24) := hs_ext hE8 hs_new
                    have KB8 := Lib.hid kb
                    clear kb)
               first
                 | (have f0 := cs_ext hE8 f0
                    have f1 := cs_ext hE8 f1
                    have f2 := cs_ext hE8 f2
                    have f3 := cs_ext hE8 f3
                    have f0a : (w8.alloc (.cells #[.int .i64 0, .string ⟨#[]⟩, .int .i64 0, .slice none 0 0] 24)).cell? _ = _ := cs_al f0
                    have f1a : (w8.alloc (.cells #[.int .i64 0, .string ⟨#[]⟩, .int .i64 0, .slice none 0 0] 24)).cell? _ = _ := cs_al f1
                    have f2a : (w8.alloc (.cells #[.int .i64 0, .string ⟨#[]⟩, .int .i64 0, .slice none 0 0] 24)).cell? _ = _ := cs_al f2
                    have f3a : (w8.alloc (.cells #[.int .i64 0, .string ⟨#[]⟩, .int .i64 0, .slice none 0 0] 24)).cell? _ = _ := cs_al f3)
                 | (have f0 := cs_ext hE8 f0z
                    have f1 := cs_ext hE8 f1z
                    have f2 := cs_ext hE8 f2z
                    have f3 := cs_ext hE8 f3z)
               clear hE8 hZ8)
            | (go_simp
               go_at_call 21
               refine (HADD.out _ _ _ (by first | exact HE8.out | exact HE8.out.then_al _) (by first | exact HZ8.out | exact HZ8.out.ext (Ext.alloc _ _))).mono ?_
               rintro e w9 ⟨u, rfl, hE9, sa, sc, rfl, hT9⟩
               have HE9 : Hid (Ext v7 w9) := Lib.hid (Ext.trans (by first | exact HE8.out | exact HE8.out.then_al _) hE9)
               have HT9 := Lib.hid hT9.any
               first
                 | (have kb : w9.heap[v7.heap.size]? = some (.cells #[.int .i64 0, .string ⟨#[]⟩, .int .i64 0, .slice none 0 0] 24) := hs_ext hE9 KB8.out
                    have hlt := lt_of_get' KB8.out
                    have HTN : Hid (TmW w9 (fun c => c ≠ v7.heap.size) sa sc s2) := Lib.hid (hT9.wide (fun c hc _ => by omega))
                    have k0 : w9.cell? ⟨v7.heap.size, 0, none⟩ = some (.int .i64 0) := by rw [cellc kb]; rfl
                    have k1 : w9.cell? ⟨v7.heap.size, 1, none⟩ = some (.string ⟨#[]⟩) := by rw [cellc kb]; rfl
                    have k2 : w9.cell? ⟨v7.heap.size, 2, none⟩ = some (.int .i64 0) := by rw [cellc kb]; rfl
                    have k3 : w9.cell? ⟨v7.heap.size, 3, none⟩ = some (.slice none 0 0) := by rw [cellc kb]; rfl
                    have m0 : w9.frozen? ⟨v7.heap.size, 0, none⟩ = false := frozenc kb
                    have m1 : w9.frozen? ⟨v7.heap.size, 1, none⟩ = false := frozenc kb
                    have m2 : w9.frozen? ⟨v7.heap.size, 2, none⟩ = false := frozenc kb
                    have m3 : w9.frozen? ⟨v7.heap.size, 3, none⟩ = false := frozenc kb
                    have KB := Lib.hid kb
                    clear kb hlt)
                 | (have kb : w9.heap[w8.heap.size]? = some (.cells #[.int .i64 0, .string ⟨#[]⟩, .int .i64 0, .slice none 0 0] 24) := hs_ext hE9 hs_new
                    have HTN : Hid (TmW w9 (fun c => c ≠ w8.heap.size) sa sc s2) := Lib.hid (hT9.wide (fun c hc _ => by simp only [World.size_alloc] at hc; omega))
                    have k0 : w9.cell? ⟨w8.heap.size, 0, none⟩ = some (.int .i64 0) := by rw [cellc kb]; rfl
                    have k1 : w9.cell? ⟨w8.heap.size, 1, none⟩ = some (.string ⟨#[]⟩) := by rw [cellc kb]; rfl
                    have k2 : w9.cell? ⟨w8.heap.size, 2, none⟩ = some (.int .i64 0) := by rw [cellc kb]; rfl
                    have k3 : w9.cell? ⟨w8.heap.size, 3, none⟩ = some (.slice none 0 0) := by rw [cellc kb]; rfl
                    have m0 : w9.frozen? ⟨w8.heap.size, 0, none⟩ = false := frozenc kb
                    have m1 : w9.frozen? ⟨w8.heap.size, 1, none⟩ = false := frozenc kb
                    have m2 : w9.frozen? ⟨w8.heap.size, 2, none⟩ = false := frozenc kb
                    have m3 : w9.frozen? ⟨w8.heap.size, 3, none⟩ = false := frozenc kb
                    have KB := Lib.hid kb
                    clear kb)
                 | skip
               clear hE9 hT9))
          all_goals
            go_wp2_with fail
            go_meet
            first
              | exact ⟨_, _, _, rfl, rfl, HE9.out.then_al _, hs_new, HT9.out.ext (Ext.alloc _ _)⟩
              | exact ⟨_, _, _, rfl, rfl, ext_set4 HE9.out (Nat.le_refl _), heap_set4 KB.out, tm_set4 HTN.out⟩
              | exact ⟨_, _, _, rfl, rfl, ext_set4 HE9.out HE8.out.size, heap_set4 KB.out, tm_set4 HTN.out⟩
        case rest =>
          obtain ⟨pn, na, nc, rfl, rfl, hEc, hN, hTN⟩ := hcut
          have HEC := Lib.hid hEc
          clear f0 f1 f2 f3 f0z f1z f2z f3z
          have d0 : wc.cell? ⟨ps4, 0, none⟩ = some (.int .i64 s5.kind) := by rw [cellc (hs_ext (HNv6.out.trans (HNv7.out.trans hEc)) HBs4.out)]; rfl
          have d1 : wc.cell? ⟨ps4, 1, none⟩ = some (.string s5.name) := by rw [cellc (hs_ext (HNv6.out.trans (HNv7.out.trans hEc)) HBs4.out)]; rfl
          have d2 : wc.cell? ⟨ps4, 2, none⟩ = some (.int .i64 s5.sort) := by rw [cellc (hs_ext (HNv6.out.trans (HNv7.out.trans hEc)) HBs4.out)]; rfl
          have d3 : wc.cell? ⟨ps4, 3, none⟩ = some (.slice qs4 s5.kids.length rs4) := by rw [cellc (hs_ext (HNv6.out.trans (HNv7.out.trans hEc)) HBs4.out)]; rfl
          have e0 : wc.cell? ⟨ps5, 0, none⟩ = some (.int .i64 s5.kind) := by rw [cellc (hs_ext (HNv7.out.trans hEc) HBs5.out)]; rfl
          have e1 : wc.cell? ⟨ps5, 1, none⟩ = some (.string s5.name) := by rw [cellc (hs_ext (HNv7.out.trans hEc) HBs5.out)]; rfl
          have e2 : wc.cell? ⟨ps5, 2, none⟩ = some (.int .i64 s5.sort) := by rw [cellc (hs_ext (HNv7.out.trans hEc) HBs5.out)]; rfl
          have e3 : wc.cell? ⟨ps5, 3, none⟩ = some (.slice qs5 s5.kids.length rs5) := by rw [cellc (hs_ext (HNv7.out.trans hEc) HBs5.out)]; rfl
          have g0 : wc.cell? ⟨ps6, 0, none⟩ = some (.int .i64 s6.kind) := by rw [cellc (hs_ext hEc HBs6.out)]; rfl
          have g1 : wc.cell? ⟨ps6, 1, none⟩ = some (.string s6.name) := by rw [cellc (hs_ext hEc HBs6.out)]; rfl
          have g2 : wc.cell? ⟨ps6, 2, none⟩ = some (.int .i64 s6.sort) := by rw [cellc (hs_ext hEc HBs6.out)]; rfl
          have g3 : wc.cell? ⟨ps6, 3, none⟩ = some (.slice qs6 s6.kids.length rs6) := by rw [cellc (hs_ext hEc HBs6.out)]; rfl
          have n0 : wc.cell? ⟨pn, 0, none⟩ = some (.int .i64 s2.kind) := by rw [cellc hN]; rfl
          have n1 : wc.cell? ⟨pn, 1, none⟩ = some (.string s2.name) := by rw [cellc hN]; rfl
          have n2 : wc.cell? ⟨pn, 2, none⟩ = some (.int .i64 s2.sort) := by rw [cellc hN]; rfl
          have n3 : wc.cell? ⟨pn, 3, none⟩ = some (.slice na s2.kids.length nc) := by rw [cellc hN]; rfl
          have f0 : wc.cell? ⟨ps1, 0, none⟩ = some (.int .i64 s2.kind) := by rw [cellc (hs_ext hEc HB7.out)]; rfl
          have f1 : wc.cell? ⟨ps1, 1, none⟩ = some (.string s2.name) := by rw [cellc (hs_ext hEc HB7.out)]; rfl
          have f2 : wc.cell? ⟨ps1, 2, none⟩ = some (.int .i64 s2.sort) := by rw [cellc (hs_ext hEc HB7.out)]; rfl
          have f3 : wc.cell? ⟨ps1, 3, none⟩ = some (.slice qs1 s2.kids.length rs1) := by rw [cellc (hs_ext hEc HB7.out)]; rfl
          have HTA5 := Lib.hid (HTs4.out.ext (HNv6.out.trans (HNv7.out.trans hEc)))
          have HTB5 := Lib.hid (HTs5.out.ext (HNv7.out.trans hEc))
          have HTA6 := Lib.hid (HTs6.out.ext hEc)
          have HTN2 := Lib.hid hTN
          have HT9 := Lib.hid (HT7.out.ext hEc)
          have HS5 : Hid (sizeT s5 ≤ 2000) := Lib.hid (by have h1 := HSZ.out; have h3 := HS7.out; have h2 := HS2.out [a, s3]; rw [← Hs5.out] at h2; simp only [sizeL] at h2; omega)
          have hsa := fun (w' : World) (hE : Ext wc w') => RSame_any (w := w') (by have := HS5.out; omega) (by have := HS5.out; omega) (HTA5.out.ext hE) (HTB5.out.ext hE)
          rw [show decide (s5 = s5) = true by simp] at hsa
          have HSAME1 := Lib.hid hsa
          have hsb := fun (w' : World) (hE : Ext wc w') => RSame_any (w := w') (by have := HS6.out; omega) (by have := HS6.out; omega) (HTN2.out.ext hE) (HT9.out.ext hE)
          rw [show decide (s2 = s2) = true by simp] at hsb
          have HSAME2 := Lib.hid hsb
          have h6z : s6 = tz := HZA.out.2.trans HTZ.out.symm
          have h6s : sizeT s6 ≤ 1000000 := by rw [HZA.out.2, show sizeT (appTm zeroN []) = 1 by decide +kernel]; omega
          have HSAME3 : Hid (∀ (w' : World) za zc, Ext wc w' → TmW w' Any za zc tz → Calls Try.prog 22 #[.agg #[.int .i64 s6.kind, .string s6.name, .int .i64 s6.sort, .slice qs6 s6.kids.length rs6], .agg #[.int .i64 tz.kind, .string tz.name, .int .i64 tz.sort, .slice za tz.kids.length zc]] w' fun e w'' => e = .returned (.bool true) ∧ Ext w' w'') := Lib.hid (fun w' za zc hE hz => by
            have h := RSame_any (w := w') (s := s6) (t := tz) h6s (by rw [← h6z]; exact h6s) (HTA6.out.ext hE) hz
            rw [show decide (s6 = tz) = true from decide_eq_true h6z] at h
            exact h)
          have e5 : (es5 == es5) = true := by simp
          clear hEc hN hTN hsa hsb h6z h6s
          go_upto_region 20 with fail
          refine wp_region_reg 26 false (by kernel_rfl) (by kernel_rfl) ?_
          refine reg_value (fun _ => rfl) ?_ (fun g w' vs hM hE hP => ?_) ?_
          rotate_left
          · (clear hP hM; have zz0 := cs_ext hE d0; have zz1 := cs_ext hE d1; have zz2 := cs_ext hE d2; have zz3 := cs_ext hE d3; have zz4 := cs_ext hE e0; have zz5 := cs_ext hE e1; have zz6 := cs_ext hE e2; have zz7 := cs_ext hE e3; have zz8 := cs_ext hE g0; have zz9 := cs_ext hE g1; have zz10 := cs_ext hE g2; have zz11 := cs_ext hE g3; have zz12 := cs_ext hE n0; have zz13 := cs_ext hE n1; have zz14 := cs_ext hE n2; have zz15 := cs_ext hE n3; have zz16 := cs_ext hE f0; have zz17 := cs_ext hE f1; have zz18 := cs_ext hE f2; have zz19 := cs_ext hE f3; go_simp; first | done | rfl)
          refine reg_value (fun _ => rfl) ?_ (fun g w' vs hM hE hP => ?_) ?_
          rotate_left
          · (clear hP hM; have zz0 := cs_ext hE d0; have zz1 := cs_ext hE d1; have zz2 := cs_ext hE d2; have zz3 := cs_ext hE d3; have zz4 := cs_ext hE e0; have zz5 := cs_ext hE e1; have zz6 := cs_ext hE e2; have zz7 := cs_ext hE e3; have zz8 := cs_ext hE g0; have zz9 := cs_ext hE g1; have zz10 := cs_ext hE g2; have zz11 := cs_ext hE g3; have zz12 := cs_ext hE n0; have zz13 := cs_ext hE n1; have zz14 := cs_ext hE n2; have zz15 := cs_ext hE n3; have zz16 := cs_ext hE f0; have zz17 := cs_ext hE f1; have zz18 := cs_ext hE f2; have zz19 := cs_ext hE f3; go_simp; first | done | rfl)
          refine reg_value (fun _ => rfl) ?_ (fun g w' vs hM hE hP => ?_) ?_
          rotate_left
          · (clear hP hM; have zz0 := cs_ext hE d0; have zz1 := cs_ext hE d1; have zz2 := cs_ext hE d2; have zz3 := cs_ext hE d3; have zz4 := cs_ext hE e0; have zz5 := cs_ext hE e1; have zz6 := cs_ext hE e2; have zz7 := cs_ext hE e3; have zz8 := cs_ext hE g0; have zz9 := cs_ext hE g1; have zz10 := cs_ext hE g2; have zz11 := cs_ext hE g3; have zz12 := cs_ext hE n0; have zz13 := cs_ext hE n1; have zz14 := cs_ext hE n2; have zz15 := cs_ext hE n3; have zz16 := cs_ext hE f0; have zz17 := cs_ext hE f1; have zz18 := cs_ext hE f2; have zz19 := cs_ext hE f3; go_simp; first | done | rfl)
          refine reg_value (fun _ => rfl) ?_ (fun g w' vs hM hE hP => ?_) ?_
          rotate_left
          · (clear hP hM; have zz0 := cs_ext hE d0; have zz1 := cs_ext hE d1; have zz2 := cs_ext hE d2; have zz3 := cs_ext hE d3; have zz4 := cs_ext hE e0; have zz5 := cs_ext hE e1; have zz6 := cs_ext hE e2; have zz7 := cs_ext hE e3; have zz8 := cs_ext hE g0; have zz9 := cs_ext hE g1; have zz10 := cs_ext hE g2; have zz11 := cs_ext hE g3; have zz12 := cs_ext hE n0; have zz13 := cs_ext hE n1; have zz14 := cs_ext hE n2; have zz15 := cs_ext hE n3; have zz16 := cs_ext hE f0; have zz17 := cs_ext hE f1; have zz18 := cs_ext hE f2; have zz19 := cs_ext hE f3; go_simp; first | done | rfl)
          refine reg_value (fun g => by go_simp) ?_ (fun g w' vs hM hE hP => ?_) ?_
          rotate_left
          · (clear hP hM; have zz0 := cs_ext hE d0; have zz1 := cs_ext hE d1; have zz2 := cs_ext hE d2; have zz3 := cs_ext hE d3; have zz4 := cs_ext hE e0; have zz5 := cs_ext hE e1; have zz6 := cs_ext hE e2; have zz7 := cs_ext hE e3; have zz8 := cs_ext hE g0; have zz9 := cs_ext hE g1; have zz10 := cs_ext hE g2; have zz11 := cs_ext hE g3; have zz12 := cs_ext hE n0; have zz13 := cs_ext hE n1; have zz14 := cs_ext hE n2; have zz15 := cs_ext hE n3; have zz16 := cs_ext hE f0; have zz17 := cs_ext hE f1; have zz18 := cs_ext hE f2; have zz19 := cs_ext hE f3; go_simp; first | done | rfl)
          refine reg_value (fun g => by go_simp) ?_ (fun g w' vs hM hE hP => ?_) ?_
          rotate_left
          · (clear hP hM; have zz0 := cs_ext hE d0; have zz1 := cs_ext hE d1; have zz2 := cs_ext hE d2; have zz3 := cs_ext hE d3; have zz4 := cs_ext hE e0; have zz5 := cs_ext hE e1; have zz6 := cs_ext hE e2; have zz7 := cs_ext hE e3; have zz8 := cs_ext hE g0; have zz9 := cs_ext hE g1; have zz10 := cs_ext hE g2; have zz11 := cs_ext hE g3; have zz12 := cs_ext hE n0; have zz13 := cs_ext hE n1; have zz14 := cs_ext hE n2; have zz15 := cs_ext hE n3; have zz16 := cs_ext hE f0; have zz17 := cs_ext hE f1; have zz18 := cs_ext hE f2; have zz19 := cs_ext hE f3; go_simp; first | done | rfl)
          refine reg_const (fun g => by go_simp) 22 ?_ (fun g w' vs hM hE hP => ?_) ?_
          rotate_left
          · (clear hP hM; have zz0 := cs_ext hE d0; have zz1 := cs_ext hE d1; have zz2 := cs_ext hE d2; have zz3 := cs_ext hE d3; have zz4 := cs_ext hE e0; have zz5 := cs_ext hE e1; have zz6 := cs_ext hE e2; have zz7 := cs_ext hE e3; have zz8 := cs_ext hE g0; have zz9 := cs_ext hE g1; have zz10 := cs_ext hE g2; have zz11 := cs_ext hE g3; have zz12 := cs_ext hE n0; have zz13 := cs_ext hE n1; have zz14 := cs_ext hE n2; have zz15 := cs_ext hE n3; have zz16 := cs_ext hE f0; have zz17 := cs_ext hE f1; have zz18 := cs_ext hE f2; have zz19 := cs_ext hE f3; go_simp; first | done | exact ⟨rfl, rfl⟩ | rfl)
          apply Exists.intro
          refine And.intro (fun g w' vs hM hE hP => ?_) ?_
          · exact HSAME1.out _ hE
          refine reg_value (fun _ => rfl) ?_ (fun g w' vs hM hE hP => ?_) ?_
          rotate_left
          · (clear hP hM; have zz0 := cs_ext hE d0; have zz1 := cs_ext hE d1; have zz2 := cs_ext hE d2; have zz3 := cs_ext hE d3; have zz4 := cs_ext hE e0; have zz5 := cs_ext hE e1; have zz6 := cs_ext hE e2; have zz7 := cs_ext hE e3; have zz8 := cs_ext hE g0; have zz9 := cs_ext hE g1; have zz10 := cs_ext hE g2; have zz11 := cs_ext hE g3; have zz12 := cs_ext hE n0; have zz13 := cs_ext hE n1; have zz14 := cs_ext hE n2; have zz15 := cs_ext hE n3; have zz16 := cs_ext hE f0; have zz17 := cs_ext hE f1; have zz18 := cs_ext hE f2; have zz19 := cs_ext hE f3; go_simp; first | done | rfl)
          refine reg_value (fun _ => rfl) ?_ (fun g w' vs hM hE hP => ?_) ?_
          rotate_left
          · (clear hP hM; have zz0 := cs_ext hE d0; have zz1 := cs_ext hE d1; have zz2 := cs_ext hE d2; have zz3 := cs_ext hE d3; have zz4 := cs_ext hE e0; have zz5 := cs_ext hE e1; have zz6 := cs_ext hE e2; have zz7 := cs_ext hE e3; have zz8 := cs_ext hE g0; have zz9 := cs_ext hE g1; have zz10 := cs_ext hE g2; have zz11 := cs_ext hE g3; have zz12 := cs_ext hE n0; have zz13 := cs_ext hE n1; have zz14 := cs_ext hE n2; have zz15 := cs_ext hE n3; have zz16 := cs_ext hE f0; have zz17 := cs_ext hE f1; have zz18 := cs_ext hE f2; have zz19 := cs_ext hE f3; go_simp; first | done | rfl)
          refine reg_value (fun g => by go_simp) ?_ (fun g w' vs hM hE hP => ?_) ?_
          rotate_left
          · (clear hP hM; have zz0 := cs_ext hE d0; have zz1 := cs_ext hE d1; have zz2 := cs_ext hE d2; have zz3 := cs_ext hE d3; have zz4 := cs_ext hE e0; have zz5 := cs_ext hE e1; have zz6 := cs_ext hE e2; have zz7 := cs_ext hE e3; have zz8 := cs_ext hE g0; have zz9 := cs_ext hE g1; have zz10 := cs_ext hE g2; have zz11 := cs_ext hE g3; have zz12 := cs_ext hE n0; have zz13 := cs_ext hE n1; have zz14 := cs_ext hE n2; have zz15 := cs_ext hE n3; have zz16 := cs_ext hE f0; have zz17 := cs_ext hE f1; have zz18 := cs_ext hE f2; have zz19 := cs_ext hE f3; go_simp; first | done | rfl)
          refine reg_value (fun g => by go_simp) ?_ (fun g w' vs hM hE hP => ?_) ?_
          rotate_left
          · (clear hP hM; have zz0 := cs_ext hE d0; have zz1 := cs_ext hE d1; have zz2 := cs_ext hE d2; have zz3 := cs_ext hE d3; have zz4 := cs_ext hE e0; have zz5 := cs_ext hE e1; have zz6 := cs_ext hE e2; have zz7 := cs_ext hE e3; have zz8 := cs_ext hE g0; have zz9 := cs_ext hE g1; have zz10 := cs_ext hE g2; have zz11 := cs_ext hE g3; have zz12 := cs_ext hE n0; have zz13 := cs_ext hE n1; have zz14 := cs_ext hE n2; have zz15 := cs_ext hE n3; have zz16 := cs_ext hE f0; have zz17 := cs_ext hE f1; have zz18 := cs_ext hE f2; have zz19 := cs_ext hE f3; go_simp; first | done | rfl)
          refine reg_value (fun _ => rfl) ?_ (fun g w' vs hM hE hP => ?_) ?_
          rotate_left
          · (clear hP hM; have zz0 := cs_ext hE d0; have zz1 := cs_ext hE d1; have zz2 := cs_ext hE d2; have zz3 := cs_ext hE d3; have zz4 := cs_ext hE e0; have zz5 := cs_ext hE e1; have zz6 := cs_ext hE e2; have zz7 := cs_ext hE e3; have zz8 := cs_ext hE g0; have zz9 := cs_ext hE g1; have zz10 := cs_ext hE g2; have zz11 := cs_ext hE g3; have zz12 := cs_ext hE n0; have zz13 := cs_ext hE n1; have zz14 := cs_ext hE n2; have zz15 := cs_ext hE n3; have zz16 := cs_ext hE f0; have zz17 := cs_ext hE f1; have zz18 := cs_ext hE f2; have zz19 := cs_ext hE f3; go_simp; first | done | rfl)
          refine reg_value (fun _ => rfl) ?_ (fun g w' vs hM hE hP => ?_) ?_
          rotate_left
          · (clear hP hM; have zz0 := cs_ext hE d0; have zz1 := cs_ext hE d1; have zz2 := cs_ext hE d2; have zz3 := cs_ext hE d3; have zz4 := cs_ext hE e0; have zz5 := cs_ext hE e1; have zz6 := cs_ext hE e2; have zz7 := cs_ext hE e3; have zz8 := cs_ext hE g0; have zz9 := cs_ext hE g1; have zz10 := cs_ext hE g2; have zz11 := cs_ext hE g3; have zz12 := cs_ext hE n0; have zz13 := cs_ext hE n1; have zz14 := cs_ext hE n2; have zz15 := cs_ext hE n3; have zz16 := cs_ext hE f0; have zz17 := cs_ext hE f1; have zz18 := cs_ext hE f2; have zz19 := cs_ext hE f3; go_simp; first | done | rfl)
          refine reg_value (fun g => by go_simp) ?_ (fun g w' vs hM hE hP => ?_) ?_
          rotate_left
          · (clear hP hM; have zz0 := cs_ext hE d0; have zz1 := cs_ext hE d1; have zz2 := cs_ext hE d2; have zz3 := cs_ext hE d3; have zz4 := cs_ext hE e0; have zz5 := cs_ext hE e1; have zz6 := cs_ext hE e2; have zz7 := cs_ext hE e3; have zz8 := cs_ext hE g0; have zz9 := cs_ext hE g1; have zz10 := cs_ext hE g2; have zz11 := cs_ext hE g3; have zz12 := cs_ext hE n0; have zz13 := cs_ext hE n1; have zz14 := cs_ext hE n2; have zz15 := cs_ext hE n3; have zz16 := cs_ext hE f0; have zz17 := cs_ext hE f1; have zz18 := cs_ext hE f2; have zz19 := cs_ext hE f3; go_simp; first | done | rfl)
          refine reg_call (fun g => by go_simp) 23 (fun g => #[.string ⟨#[122, 101, 114, 111]⟩, .slice none 0 0]) (fun g w' m hM hE hP => ?_) (fun u w'' => IsT w'' u tz) ⟨fun u a b h hE => h.ext hE, (fun h => nomatch h), (fun h => absurd rfl h)⟩ (fun g w' m hM hE hP => ?_) ?_
          · (clear hP hM; go_simp)
          · exact (HAPP.out w').mono (fun e w'' ⟨u, h1, h2, h3⟩ => ⟨u, h1, h2, h3.any⟩)
          refine reg_const (fun g => by go_simp) 22 (fun g => #[.agg #[.int .i64 s6.kind, .string s6.name, .int .i64 s6.sort, .slice qs6 s6.kids.length rs6], (g 14).v]) (fun g w' m hM hE hP => ?_) ⟨.bool true, fun g w' m hM hE hP => ?_, ?_⟩
          · (clear hP hM; go_simp)
          · obtain ⟨za, zc, hu, hz⟩ := hP _ List.mem_cons_self (anc_of 3 (by kernel_rfl))
            have hu : (g 14).v = _ := hu
            rw [hu]
            exact HSAME3.out _ _ _ hE hz
          refine reg_value (fun _ => rfl) ?_ (fun g w' vs hM hE hP => ?_) ?_
          rotate_left
          · (clear hP hM; have zz0 := cs_ext hE d0; have zz1 := cs_ext hE d1; have zz2 := cs_ext hE d2; have zz3 := cs_ext hE d3; have zz4 := cs_ext hE e0; have zz5 := cs_ext hE e1; have zz6 := cs_ext hE e2; have zz7 := cs_ext hE e3; have zz8 := cs_ext hE g0; have zz9 := cs_ext hE g1; have zz10 := cs_ext hE g2; have zz11 := cs_ext hE g3; have zz12 := cs_ext hE n0; have zz13 := cs_ext hE n1; have zz14 := cs_ext hE n2; have zz15 := cs_ext hE n3; have zz16 := cs_ext hE f0; have zz17 := cs_ext hE f1; have zz18 := cs_ext hE f2; have zz19 := cs_ext hE f3; go_simp; first | done | rfl)
          refine reg_value (fun _ => rfl) ?_ (fun g w' vs hM hE hP => ?_) ?_
          rotate_left
          · (clear hP hM; have zz0 := cs_ext hE d0; have zz1 := cs_ext hE d1; have zz2 := cs_ext hE d2; have zz3 := cs_ext hE d3; have zz4 := cs_ext hE e0; have zz5 := cs_ext hE e1; have zz6 := cs_ext hE e2; have zz7 := cs_ext hE e3; have zz8 := cs_ext hE g0; have zz9 := cs_ext hE g1; have zz10 := cs_ext hE g2; have zz11 := cs_ext hE g3; have zz12 := cs_ext hE n0; have zz13 := cs_ext hE n1; have zz14 := cs_ext hE n2; have zz15 := cs_ext hE n3; have zz16 := cs_ext hE f0; have zz17 := cs_ext hE f1; have zz18 := cs_ext hE f2; have zz19 := cs_ext hE f3; go_simp; first | done | rfl)
          refine reg_value (fun g => by go_simp) ?_ (fun g w' vs hM hE hP => ?_) ?_
          rotate_left
          · (clear hP hM; have zz0 := cs_ext hE d0; have zz1 := cs_ext hE d1; have zz2 := cs_ext hE d2; have zz3 := cs_ext hE d3; have zz4 := cs_ext hE e0; have zz5 := cs_ext hE e1; have zz6 := cs_ext hE e2; have zz7 := cs_ext hE e3; have zz8 := cs_ext hE g0; have zz9 := cs_ext hE g1; have zz10 := cs_ext hE g2; have zz11 := cs_ext hE g3; have zz12 := cs_ext hE n0; have zz13 := cs_ext hE n1; have zz14 := cs_ext hE n2; have zz15 := cs_ext hE n3; have zz16 := cs_ext hE f0; have zz17 := cs_ext hE f1; have zz18 := cs_ext hE f2; have zz19 := cs_ext hE f3; go_simp; first | done | rfl)
          refine reg_value (fun g => by go_simp) ?_ (fun g w' vs hM hE hP => ?_) ?_
          rotate_left
          · (clear hP hM; have zz0 := cs_ext hE d0; have zz1 := cs_ext hE d1; have zz2 := cs_ext hE d2; have zz3 := cs_ext hE d3; have zz4 := cs_ext hE e0; have zz5 := cs_ext hE e1; have zz6 := cs_ext hE e2; have zz7 := cs_ext hE e3; have zz8 := cs_ext hE g0; have zz9 := cs_ext hE g1; have zz10 := cs_ext hE g2; have zz11 := cs_ext hE g3; have zz12 := cs_ext hE n0; have zz13 := cs_ext hE n1; have zz14 := cs_ext hE n2; have zz15 := cs_ext hE n3; have zz16 := cs_ext hE f0; have zz17 := cs_ext hE f1; have zz18 := cs_ext hE f2; have zz19 := cs_ext hE f3; go_simp; first | done | rfl)
          refine reg_value (fun _ => rfl) ?_ (fun g w' vs hM hE hP => ?_) ?_
          rotate_left
          · (clear hP hM; have zz0 := cs_ext hE d0; have zz1 := cs_ext hE d1; have zz2 := cs_ext hE d2; have zz3 := cs_ext hE d3; have zz4 := cs_ext hE e0; have zz5 := cs_ext hE e1; have zz6 := cs_ext hE e2; have zz7 := cs_ext hE e3; have zz8 := cs_ext hE g0; have zz9 := cs_ext hE g1; have zz10 := cs_ext hE g2; have zz11 := cs_ext hE g3; have zz12 := cs_ext hE n0; have zz13 := cs_ext hE n1; have zz14 := cs_ext hE n2; have zz15 := cs_ext hE n3; have zz16 := cs_ext hE f0; have zz17 := cs_ext hE f1; have zz18 := cs_ext hE f2; have zz19 := cs_ext hE f3; go_simp; first | done | rfl)
          refine reg_value (fun _ => rfl) ?_ (fun g w' vs hM hE hP => ?_) ?_
          rotate_left
          · (clear hP hM; have zz0 := cs_ext hE d0; have zz1 := cs_ext hE d1; have zz2 := cs_ext hE d2; have zz3 := cs_ext hE d3; have zz4 := cs_ext hE e0; have zz5 := cs_ext hE e1; have zz6 := cs_ext hE e2; have zz7 := cs_ext hE e3; have zz8 := cs_ext hE g0; have zz9 := cs_ext hE g1; have zz10 := cs_ext hE g2; have zz11 := cs_ext hE g3; have zz12 := cs_ext hE n0; have zz13 := cs_ext hE n1; have zz14 := cs_ext hE n2; have zz15 := cs_ext hE n3; have zz16 := cs_ext hE f0; have zz17 := cs_ext hE f1; have zz18 := cs_ext hE f2; have zz19 := cs_ext hE f3; go_simp; first | done | rfl)
          refine reg_value (fun g => by go_simp) ?_ (fun g w' vs hM hE hP => ?_) ?_
          rotate_left
          · (clear hP hM; have zz0 := cs_ext hE d0; have zz1 := cs_ext hE d1; have zz2 := cs_ext hE d2; have zz3 := cs_ext hE d3; have zz4 := cs_ext hE e0; have zz5 := cs_ext hE e1; have zz6 := cs_ext hE e2; have zz7 := cs_ext hE e3; have zz8 := cs_ext hE g0; have zz9 := cs_ext hE g1; have zz10 := cs_ext hE g2; have zz11 := cs_ext hE g3; have zz12 := cs_ext hE n0; have zz13 := cs_ext hE n1; have zz14 := cs_ext hE n2; have zz15 := cs_ext hE n3; have zz16 := cs_ext hE f0; have zz17 := cs_ext hE f1; have zz18 := cs_ext hE f2; have zz19 := cs_ext hE f3; go_simp; first | done | rfl)
          refine reg_value (fun g => by go_simp) ?_ (fun g w' vs hM hE hP => ?_) ?_
          rotate_left
          · (clear hP hM; have zz0 := cs_ext hE d0; have zz1 := cs_ext hE d1; have zz2 := cs_ext hE d2; have zz3 := cs_ext hE d3; have zz4 := cs_ext hE e0; have zz5 := cs_ext hE e1; have zz6 := cs_ext hE e2; have zz7 := cs_ext hE e3; have zz8 := cs_ext hE g0; have zz9 := cs_ext hE g1; have zz10 := cs_ext hE g2; have zz11 := cs_ext hE g3; have zz12 := cs_ext hE n0; have zz13 := cs_ext hE n1; have zz14 := cs_ext hE n2; have zz15 := cs_ext hE n3; have zz16 := cs_ext hE f0; have zz17 := cs_ext hE f1; have zz18 := cs_ext hE f2; have zz19 := cs_ext hE f3; go_simp; first | done | rfl)
          refine reg_const (fun g => by go_simp) 22 ?_ (fun g w' vs hM hE hP => ?_) ?_
          rotate_left
          · (clear hP hM; have zz0 := cs_ext hE d0; have zz1 := cs_ext hE d1; have zz2 := cs_ext hE d2; have zz3 := cs_ext hE d3; have zz4 := cs_ext hE e0; have zz5 := cs_ext hE e1; have zz6 := cs_ext hE e2; have zz7 := cs_ext hE e3; have zz8 := cs_ext hE g0; have zz9 := cs_ext hE g1; have zz10 := cs_ext hE g2; have zz11 := cs_ext hE g3; have zz12 := cs_ext hE n0; have zz13 := cs_ext hE n1; have zz14 := cs_ext hE n2; have zz15 := cs_ext hE n3; have zz16 := cs_ext hE f0; have zz17 := cs_ext hE f1; have zz18 := cs_ext hE f2; have zz19 := cs_ext hE f3; go_simp; first | done | exact ⟨rfl, rfl⟩ | rfl)
          apply Exists.intro
          refine And.intro (fun g w' vs hM hE hP => ?_) ?_
          · exact HSAME2.out _ hE
          refine reg_value (fun _ => rfl) ?_ (fun g w' vs hM hE hP => ?_) ?_
          rotate_left
          · (clear hP hM; have zz0 := cs_ext hE d0; have zz1 := cs_ext hE d1; have zz2 := cs_ext hE d2; have zz3 := cs_ext hE d3; have zz4 := cs_ext hE e0; have zz5 := cs_ext hE e1; have zz6 := cs_ext hE e2; have zz7 := cs_ext hE e3; have zz8 := cs_ext hE g0; have zz9 := cs_ext hE g1; have zz10 := cs_ext hE g2; have zz11 := cs_ext hE g3; have zz12 := cs_ext hE n0; have zz13 := cs_ext hE n1; have zz14 := cs_ext hE n2; have zz15 := cs_ext hE n3; have zz16 := cs_ext hE f0; have zz17 := cs_ext hE f1; have zz18 := cs_ext hE f2; have zz19 := cs_ext hE f3; go_simp; first | done | rfl)
          intro gg wz hE9 hF hQ
          simp only [List.drop_succ_cons, List.drop_zero, Act.put, List.setIfInBounds_toArray, List.set_cons_succ, List.set_cons_zero]
          clear hF hQ
          have HE9 := Lib.hid (HEC.out.trans hE9)
          clear hE9
          go_wp2_with fail
          go_ret
          exact ⟨rfl, HFIN.out _ (HCv7.out.trans HE9.out)⟩

end Go.Proofs.Ytckgjebcehbkfaa
