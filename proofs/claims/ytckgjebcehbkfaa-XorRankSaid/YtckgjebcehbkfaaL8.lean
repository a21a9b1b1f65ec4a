/- The walk of the law XorRank. -/
import Derived.Test.YtckgjebcehbkfaaL2
import Derived.Test.YtckgjebcehbkfaaL7
import Derived.Test.YtckgjebcehbkfaaZ8
import Derived.Test.YtckgjebcehbkfaaZ9
namespace Go.Proofs.Ytckgjebcehbkfaa
open Go Go.RowKit
set_option linter.unusedVariables false
set_option linter.unusedSimpArgs false

theorem sizeL_mul {m : Nat} : ∀ N : List Tm, (∀ y ∈ N, sizeT y ≤ m) → sizeL N ≤ N.length * m
  | [], _ => by simp [sizeL]
  | y :: N, h => by
    have h1 := sizeL_mul N (fun z hz => h z (by simp [hz]))
    have h2 := h y (by simp)
    rw [sizeL, List.length_cons, Nat.add_mul]
    omega

set_option maxRecDepth 100000 in
set_option maxHeartbeats 4000000 in
theorem law_rank {w : World} {S : Nat → Prop} {a : Option Addr} {cap : Nat} {L : List Tm} (hL : LsT w S (.slice a L.length cap) L) :
    Calls Try.prog 7 #[.slice a L.length cap] w fun e w' => e = .returned (.bool true) ∧ Ext w w' := by
  obtain ⟨-, hl, hc⟩ := hL.len
  unfold maxLen at hc
  have HLW := Lib.hid hL.below
  have HAW := Lib.hid (awake_any)
  clear hL
  go_enter Try.func7, Try.ntmps7
  go_wp2_with fail
  refine (HAW.out _).mono ?_
  rintro e w1 ⟨rfl, hE1⟩
  have hcon := few_any (w := w1) (HLW.out.ext hE1)
  obtain ⟨fw, hfw⟩ : ∃ fw, fw = fewT L 20 300 := ⟨_, rfl⟩
  rw [← hfw] at hcon
  have HFW := Lib.hid hfw
  have HCON := Lib.hid hcon
  have HE1 := Lib.hid hE1
  clear hcon hfw hE1
  go_wp2_with fail
  refine HCON.out.mono ?_
  rintro e w2 ⟨rfl, hE2⟩
  have HE2 := Lib.hid (HE1.out.trans hE2)
  clear hE2
  cases fw with
  | false =>
    go_wp2_with fail
    refine (HAW.out _).mono ?_
    rintro e w4 ⟨rfl, hE4⟩
    go_wp2_with fail
    go_ret
    exact ⟨rfl, HE2.out.trans hE4⟩
  | true =>
    have HSZ : Hid (L.length ≤ 20 ∧ sizeL L ≤ 300) := Lib.hid (few_one HFW.out.symm)
    have hl20 : L.length ≤ 20 := HSZ.out.1
    have hcon := sClone_any (w := w2) (by omega) (fun c hc => Nat.lt_of_lt_of_le hc HE2.out.size) (HLW.out.ext HE2.out)
    have HCON2 := Lib.hid hcon
    clear hcon
    go_wp2_with fail
    refine HCON2.out.mono ?_
    rintro e w3 ⟨u, rfl, hE3, hO3⟩
    obtain ⟨ua, uc, rfl, hul, huc, -⟩ := id hO3.ls
    unfold maxLen at huc
    have hcon := PRank_any (w := w3) (L := L) (by have := HSZ.out.2; omega) hO3.ls
    have HCON3 := Lib.hid hcon
    have HE3 := Lib.hid (HE2.out.trans hE3)
    clear hcon hO3 hE3
    go_wp2_with fail
    refine HCON3.out.mono ?_
    rintro e w4 ⟨er, B, rfl, hE4, her, hB0, hB⟩
    have HE4 := Lib.hid (HE3.out.trans hE4)
    have HER := Lib.hid her
    have HB0 := Lib.hid hB0
    have HB := Lib.hid hB
    have hcon := sClone_any (w := w4) (by omega) (fun c hc => Nat.lt_of_lt_of_le hc HE4.out.size) (HLW.out.ext HE4.out)
    have HCON4 := Lib.hid hcon
    clear hcon hE4 her hB0 hB
    go_wp2_with fail
    refine HCON4.out.mono ?_
    rintro e w5 ⟨u, rfl, hE5, hO5⟩
    obtain ⟨va, vc, rfl, hvl, hvc, -⟩ := id hO5.ls
    unfold maxLen at hvc
    have hcon := PBasis_any (w := w5) (L := L) (by have := HSZ.out.2; omega) hO5.ls
    have HCON5 := Lib.hid hcon
    have HE5 := Lib.hid (HE4.out.trans hE5)
    clear hcon hO5 hE5
    go_wp2_with fail
    refine HCON5.out.mono ?_
    rintro e w6 ⟨u6, er2, B2, rfl, hE6, hI6, her2, hB20, hB2⟩
    have HE6 := Lib.hid (HE5.out.trans hE6)
    have HI6 := Lib.hid hI6
    have HER2 := Lib.hid her2
    have HB20 := Lib.hid hB20
    have HB2 := Lib.hid hB2
    have hcon := RBasis_any (w := w6) (L := L) (by have := HSZ.out.2; omega) (HLW.out.ext HE6.out)
    have HCON6 := Lib.hid hcon
    clear hcon hE6 hI6 her2 hB20 hB2
    go_wp2_with fail
    refine HCON6.out.mono ?_
    rintro e w7 ⟨u7, er3, B3, rfl, hE7, hI7, her3, hB30, hB3⟩
    have he2 : er2 = er3 := by rw [HER2.out, her3]
    have he1 : er = er3 := by rw [HER.out, her3]
    have hb : B = B3 ∧ B2 = B3 := by
      by_cases hz : er3 = 0
      · exact ⟨(HB.out (by rw [he1]; exact hz)).eq (hB3 hz), (HB2.out (by rw [he2]; exact hz)).eq (hB3 hz)⟩
      · rw [HB0.out (by rw [he1]; exact hz), HB20.out (by rw [he2]; exact hz), hB30 hz]; exact ⟨rfl, rfl⟩
    have HB30 := Lib.hid hB30
    have HB3 := Lib.hid hB3
    have HER3 := Lib.hid her3
    have HE7 := Lib.hid (HE6.out.trans hE7)
    have HI7 := Lib.hid hI7
    have HI67 := Lib.hid (HI6.out.ext hE7)
    have HEQ := Lib.hid hb
    rw [he1, he2, hb.1]
    clear he1 he2 hb hB30 hB3 her3 hE7 hI7
    have h67 := HI67.out
    rw [HEQ.out.2] at h67
    have h77 : LsI w7 u7 (B3.map (fun k : Nat => (k : Int))) := HI7.out
    obtain ⟨ia, ic, hu6, hic1, hic2, -⟩ := id h67
    obtain ⟨ja, jc, hu7, hjc1, hjc2, -⟩ := id h77
    subst hu6
    subst hu7
    unfold maxLen at hic2 hjc2
    have hcon := iEqual_any h67 h77
    rw [decide_eq_true rfl, List.length_map] at hcon
    rw [List.length_map] at hic1 hjc1 ⊢
    have HCON7 := Lib.hid hcon
    have H77 := Lib.hid h77
    have e1 : (er3 != er3) = false := by simp
    clear hcon h67 h77
    go_wp2_with fail
    refine HCON7.out.mono ?_
    rintro e w8 ⟨rfl, hE8⟩
    have HE8 := Lib.hid (HE7.out.trans hE8)
    have HB8 := Lib.hid (H77.out.ext hE8)
    clear hE8
    go_upto_region 8 with fail
    have HBL : Hid (∀ b ∈ B3, b < L.length) := Lib.hid (fun b hb => by
      by_cases hz : er3 = 0
      · exact (((HB3.out hz).2 b).1 hb).1
      · rw [HB30.out hz] at hb; simp at hb)
    have HBN : Hid (B3.length ≤ 20) := Lib.hid (by
      have h := okL_len (N := L.length) (C := B3) (by
        refine ⟨HBL.out, ?_⟩
        by_cases hz : er3 = 0
        · exact (HB3.out hz).1
        · rw [HB30.out hz]; exact List.Pairwise.nil)
      omega)
    go_wp2_with fail
    go_loopw [9, 11, 62] (fun ov _ kv wr => Hid (∃ k : Nat, kv = .int .i64 k ∧ k ≤ B3.length ∧ OwnT wr w8.heap.size (fun c => c < w.heap.size) ov ((B3.take k).filterMap (fun j => L[j]?)) ∧ Ext w8 wr)) (fun _ _ kv _ => B3.length - (intOf kv).toNat)
    case atStart => exact Lib.hid ⟨0, rfl, by omega, by simpa using OwnT.nil, Ext.refl _⟩
    case round =>
      obtain ⟨k, rfl, hk, hO, hE⟩ := hrel.out
      have HO := Lib.hid hO
      have HE := Lib.hid hE
      obtain ⟨M, hM⟩ : ∃ M, M = (B3.take k).filterMap (fun j => L[j]?) := ⟨_, rfl⟩
      have HM := Lib.hid hM
      clear hrel hO hE hM
      by_cases hlt : k < B3.length
      · obtain ⟨n, hn⟩ : ∃ n, B3[k]? = some n := ⟨_, List.getElem?_eq_getElem hlt⟩
        have hnL := HBL.out n (List.mem_of_getElem? hn)
        obtain ⟨x, hx⟩ : ∃ x, L[n]? = some x := ⟨_, List.getElem?_eq_getElem hnL⟩
        obtain ⟨b2, off2, hia, hcn⟩ := (HB8.out.ext HE.out).ints k (n : Int) (by rw [List.getElem?_map, hn]; rfl)
        subst hia
        obtain ⟨b, off, a2, cap2, hka, y0, y1, y2, y3, hTx⟩ := (HLW.out.ext (HE8.out.trans HE.out)).ts.at hx
        subst hka
        have hcx := hTx.cap
        have hlx := hTx.len
        unfold maxLen at hcx
        obtain ⟨w12, hw12⟩ : ∃ w', w' = wr.alloc (.cells #[.int .i64 x.kind, .string x.name, .int .i64 x.sort, .slice a2 x.kids.length cap2] 24) := ⟨_, rfl⟩
        have hE12 : Ext wr w12 := by rw [hw12]; exact Ext.alloc _ _
        have hO12 := HO.out.ext hE12
        have hone : LsT w12 (fun c => c < w.heap.size) (.slice (some ⟨wr.heap.size, 0, none⟩) 1 1) [x] := one_ls (by rw [hw12]; exact hs_new) (hTx.ext hE12)
        have hsz : w8.heap.size ≤ w12.heap.size := (HE.out.trans hE12).size
        have hoff : ∀ c, c < w.heap.size → u9.ownBlock ≠ some c := fun c hc e => by have := (HO.out.lt c e).1; have := HE8.out.size; omega
        have hml : ((B3.take k).filterMap (fun j => L[j]?)).length ≤ 1000000 := by have h1 := List.length_filterMap_le (fun j => L[j]?) (B3.take k); have h2 := List.length_take_le k B3; have := HBN.out; omega
        have HSU : Hid ((B3.take (k + 1)).filterMap (fun j => L[j]?) = (B3.take k).filterMap (fun j => L[j]?) ++ [x]) := Lib.hid (by rw [List.take_add_one, hn]; simp [hx])
        have HE12 := Lib.hid (HE.out.trans hE12)
        have HLT := Lib.hid hO12.lt
        rw [hw12] at hO12 hone hsz
        have HW12 := Lib.hid hw12
        have hn20 : n < 1000000 := by omega
        clear hw12 hE12 hTx hn hx
        go_wp2_with (at_builtin; (refine wpList_appT rfl (.tmp 66) (.tmp 71) rfl rfl rfl hO12 hsz hoff hml (X := [x]) (by simp) hone ?_); intro v13 w13 o13 g13 k13
                     rw [← HW12.out] at g13
                     have HP : Hid (OwnT w13 w8.heap.size (fun c => c < w.heap.size) v13 ((B3.take (k + 1)).filterMap (fun j => L[j]?)) ∧ Ext w8 w13) := Lib.hid ⟨by rw [HSU.out]; exact o13, HE12.out.grown g13 (fun q hq => (HLT.out q hq).1)⟩
                     clear o13 g13 k13 hO12 hone)
        go_roundw
        case rel => exact Lib.hid ⟨k + 1, by go_num, by omega, HP.out.1, HP.out.2⟩
        case measure => first | (simp [intOf]; done) | (simp [intOf]; omega)
      · have HEND : Hid (k = B3.length) := Lib.hid (by omega)
        obtain ⟨ma, mc, hu9, hmc1, hmc2, -⟩ := id HO.out.ls
        subst hu9
        unfold maxLen at hmc2
        obtain ⟨N, hN⟩ : ∃ N, N = (B3.take k).filterMap (fun j => L[j]?) := ⟨_, rfl⟩
        rw [← hN] at hmc1 ⊢
        have HN := Lib.hid hN
        clear hN
        obtain ⟨wo, rfl⟩ : ∃ wo, wo = wr := ⟨_, rfl⟩
        go_wp2_with fail
        go_loopw [12, 13, 14] (fun iv _ _ wr => Hid (∃ i : Nat, iv = .int .i64 i ∧ i ≤ L.length ∧ Ext wo wr)) (fun iv _ _ _ => L.length - (intOf iv).toNat)
        case atStart => exact Lib.hid ⟨0, rfl, by omega, Ext.refl _⟩
        case round =>
          obtain ⟨i, rfl, hi, hE9⟩ := hrel.out
          have HEW := Lib.hid hE9
          have HE9 := Lib.hid ((HE8.out.trans HE.out).trans hE9)
          clear hrel hE9
          by_cases hlt : i < L.length
          · by_cases hz : er3 = 0
            · have e2 : (er3 == 0) = true := by simp [hz]
              obtain ⟨x, hx⟩ : ∃ x, L[i]? = some x := ⟨_, List.getElem?_eq_getElem hlt⟩
              have hnm : ∀ y ∈ N, y ∈ L := fun y hy => by
                rw [HN.out] at hy
                obtain ⟨j, -, hj⟩ := List.mem_filterMap.1 hy
                exact List.mem_of_getElem? hj
              have hsp : InSpan N x := basis_spans (HB3.out hz) (fun j y hj hy => by
                rw [HN.out, List.take_of_length_le (by have := HEND.out; omega)]
                exact List.mem_filterMap.2 ⟨j, hj, hy⟩) i x hx
              have hnl : N.length ≤ 20 := by
                rw [HN.out]
                have h1 := List.length_filterMap_le (fun j => L[j]?) (B3.take k); have h2 := List.length_take_le k B3; have := HBN.out; omega
              have hr : rightS N [x] = 0 := by
                have h0 : rightS L [] = 0 := by rw [← HER3.out, hz]
                have h1 := (rightS_zero.1 h0).2
                have h2 : rightS (N ++ [x]) [] = 0 := rightS_zero.2 ⟨by simp; omega, fun y hy => by
                  rcases List.mem_append.1 hy with hy | hy
                  · exact h1 y (hnm y hy)
                  · simp at hy; subst hy; exact h1 _ (List.mem_of_getElem? hx)⟩
                unfold rightS at h2 ⊢
                rw [if_neg (by simp; omega), List.append_nil] at h2
                rw [if_neg (by omega)]
                exact h2
              obtain ⟨b, off, a2, cap2, hka, y0, y1, y2, y3, hTx⟩ := (HLW.out.ext HE9.out).ts.at hx
              subst hka
              have hcx := hTx.cap
              have hlx := hTx.len
              unfold maxLen at hcx
              have hzz : sizeL N + sizeT x ≤ 80000 := by
                have h3 : ∀ y ∈ L, sizeT y ≤ 300 := fun y hy => by obtain ⟨j, hj⟩ := List.mem_iff_getElem?.1 hy; have := sizeL_get hj; have := HSZ.out.2; omega
                have h4 := sizeL_mul (m := 300) N (fun y hy => h3 y (hnm y hy))
                have h5 := h3 x (List.mem_of_getElem? hx)
                omega
              have HTX := Lib.hid hTx
              have HSP := Lib.hid hsp
              have HR := Lib.hid hr
              have HNL := Lib.hid hnl
              have HZZ := Lib.hid hzz
              clear hx hnm hsp hr hnl hTx hz hzz
              go_upto_region 17 with fail
              have hNL : LsT wr (fun c => c < w.heap.size) (.slice ma N.length mc) N := by
                have h := (HO.out.ls).ext (show Ext wo wr from HEW.out)
                rwa [← HN.out] at h
              have HNLS := Lib.hid hNL
              clear hNL
              refine wp_region_reg 12 false (by kernel_rfl) (by kernel_rfl) ?_
              refine reg_value (fun _ => rfl) ?_ (fun g w' vs hM hE hP => ?_) ?_
              rotate_left
              · (clear hP hM; have zz0 := cs_ext hE y0; have zz1 := cs_ext hE y1; have zz2 := cs_ext hE y2; have zz3 := cs_ext hE y3; go_simp; first | done | rfl)
              refine reg_call (fun _ => rfl) 17 ?_ (fun g w' m hM hE hP => ?_) (fun u w'' => OwnT w'' wr.heap.size (fun c => c < w.heap.size) u N) ⟨fun u a b h hE => h.ext hE, (fun h => nomatch h), (fun h => absurd rfl h)⟩ (fun g w' m hM hE hP => ?_) ?_
              rotate_left
              · (clear hP hM; go_simp; first | done | exact ⟨rfl, rfl⟩ | rfl)
              · exact (sClone_any (by have := HNL.out; omega) (fun c hc => Nat.lt_of_lt_of_le hc (HE9.out.trans hE).size) (HNLS.out.ext hE)).mono (fun e w'' ⟨u, h1, h2, h3⟩ => ⟨u, h1, h2, h3.low hE.size⟩)
              refine reg_value (fun _ => rfl) ?_ (fun g w' vs hM hE hP => ?_) ?_
              rotate_left
              · (clear hP hM; have zz0 := cs_ext hE y0; have zz1 := cs_ext hE y1; have zz2 := cs_ext hE y2; have zz3 := cs_ext hE y3; go_simp; first | done | rfl)
              refine reg_value (fun _ => rfl) ?_ (fun g w' vs hM hE hP => ?_) ?_
              rotate_left
              · (clear hP hM; have zz0 := cs_ext hE y0; have zz1 := cs_ext hE y1; have zz2 := cs_ext hE y2; have zz3 := cs_ext hE y3; go_simp; first | done | rfl)
              refine reg_value (fun _ => rfl) ?_ (fun g w' vs hM hE hP => ?_) ?_
              rotate_left
              · (clear hP hM; have zz0 := cs_ext hE y0; have zz1 := cs_ext hE y1; have zz2 := cs_ext hE y2; have zz3 := cs_ext hE y3; go_simp; first | done | rfl)
              refine reg_value (fun _ => rfl) ?_ (fun g w' vs hM hE hP => ?_) ?_
              rotate_left
              · (clear hP hM; have zz0 := cs_ext hE y0; have zz1 := cs_ext hE y1; have zz2 := cs_ext hE y2; have zz3 := cs_ext hE y3; go_simp; first | done | rfl)
              refine reg_call (fun _ => rfl) 31 (fun g => #[(g 1).v, .agg #[.int .i64 x.kind, .string x.name, .int .i64 x.sort, .slice a2 x.kids.length cap2]]) (fun g w' m hM hE hP => ?_) (fun u w'' => ∃ v, u = .tuple #[v, .int .i64 0]) ⟨fun u a b h hE => h, (fun h => nomatch h), (fun h => absurd rfl h)⟩ (fun g w' m hM hE hP => ?_) ?_
              · (clear hP hM; go_simp)
              · have h1 := (hP _ List.mem_cons_self (anc_of 3 (by kernel_rfl)))
                have h1 : OwnT w' wr.heap.size (fun c => c < w.heap.size) (g 1).v N := h1
                obtain ⟨ua, uc, hu, -⟩ := id h1.ls
                have h1 := h1.ls
                rw [hu] at h1
                rw [hu]
                exact (PSpan_any HZZ.out h1 (HTX.out.ext hE)).mono (fun e w'' ⟨u, er, C, h1, h2, h3, h4⟩ => ⟨_, h1, h2, u, by
                  rcases h4 with ⟨k1, -⟩ | ⟨-, ⟨-, k2, -⟩ | ⟨k1, -⟩⟩
                  · exact absurd HR.out k1
                  · rw [k2]
                  · exact absurd HSP.out k1⟩)
              refine reg_value (fun _ => rfl) ?_ (fun g w' vs hM hE hP => ?_) ?_
              rotate_left
              · (clear hP hM; have zz0 := cs_ext hE y0; have zz1 := cs_ext hE y1; have zz2 := cs_ext hE y2; have zz3 := cs_ext hE y3; go_simp; first | done | rfl)
              refine reg_value (fun _ => rfl) (fun g => tupAt (g 6).v 0) (fun g w' vs hM hE hP => ?_) ?_
              · obtain ⟨u, hu⟩ := hP _ List.mem_cons_self (anc_of 3 (by kernel_rfl))
                have hu : (g 6).v = _ := hu
                clear hP hM
                go_simp
                first | done | simp [tupAt, hu]
              refine reg_value (fun _ => rfl) (fun g => tupAt (g 6).v 1) (fun g w' vs hM hE hP => ?_) ?_
              · obtain ⟨u, hu⟩ := hP _ List.mem_cons_self (anc_of 3 (by kernel_rfl))
                have hu : (g 6).v = _ := hu
                clear hP hM
                go_simp
                first | done | simp [tupAt, hu]
              refine reg_value (fun _ => rfl) ?_ (fun g w' vs hM hE hP => ?_) ?_
              rotate_left
              · (clear hP hM; have zz0 := cs_ext hE y0; have zz1 := cs_ext hE y1; have zz2 := cs_ext hE y2; have zz3 := cs_ext hE y3; go_simp; first | done | rfl)
              refine reg_value (fun _ => rfl) ?_ (fun g w' vs hM hE hP => ?_) ?_
              rotate_left
              · (clear hP hM; have zz0 := cs_ext hE y0; have zz1 := cs_ext hE y1; have zz2 := cs_ext hE y2; have zz3 := cs_ext hE y3; go_simp; first | done | rfl)
              intro g wy hEY hF hQ
              simp only [List.drop_succ_cons, List.drop_zero, Act.put, List.setIfInBounds_toArray, List.set_cons_succ, List.set_cons_zero]
              obtain ⟨u2, hu⟩ := hQ _ List.mem_cons_self
              have hu : (g 6).v = _ := hu
              rw [hu, show tupAt (.tuple #[u2, .int .i64 0]) 0 = u2 from rfl, show tupAt (.tuple #[u2, .int .i64 0]) 1 = .int .i64 0 from rfl]
              have HEY := Lib.hid (HEW.out.trans hEY)
              clear hu hF hQ hEY y0 y1 y2 y3
              go_wp2_with fail
              go_roundw
              case rel => exact Lib.hid ⟨i + 1, by go_num, by omega, HEY.out⟩
              case measure => first | (simp [intOf]; done) | (simp [intOf]; omega)
            · have e2 : (er3 == 0) = false := by simp [hz]
              clear hz
              go_wp2_with fail
              go_ret
              exact ⟨rfl, HE9.out⟩
          · go_wp2_with fail
            go_ret
            exact ⟨rfl, HE9.out⟩

end Go.Proofs.Ytckgjebcehbkfaa
