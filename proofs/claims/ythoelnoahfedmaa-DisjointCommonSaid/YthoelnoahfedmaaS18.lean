/- The reference's pairs: the walk. -/
import Derived.Test.YthoelnoahfedmaaS17
namespace Go.Proofs.Ythoelnoahfedmaa
open Go Go.RowKit
open Go.Maps (Keyed)
set_option linter.unusedVariables false
set_option linter.unusedSimpArgs false

set_option maxRecDepth 100000 in
set_option maxHeartbeats 2400000 in
theorem pairs_any {w : World} {B : Nat} {tb toff : Nat} {t : List Fmt} {cap i j : Nat} {fm gm : Fmt} (hT : TabA w B (some ⟨tb, toff, none⟩) t) (hB : B ≤ w.heap.size) (hi : t[i]? = some fm) (hj : t[j]? = some gm) (hVf : VFmt t fm) (hVg : VFmt t gm) :
    Calls Try.prog 38 #[.slice (some ⟨tb, toff, none⟩) t.length cap, .int .i64 i, .int .i64 j] w fun e w' => ∃ v er, e = .returned (.tuple #[v, .int .i64 er]) ∧ Ext w w' ∧ PairsR w w' (stP t fm.fields gm.fields) v er := by
  have hlf : fm.fields.length ≤ 100 := by have := hVf.le; omega
  have hlg : gm.fields.length ≤ 100 := by have := hVg.le; omega
  obtain ⟨f, hf⟩ : ∃ f, f = stP t fm.fields gm.fields := ⟨_, rfl⟩
  rw [← hf]
  have HFF := Lib.hid hf
  have hS1 := fun (w' : World) (hE : Ext w w') (s : Int) (c : Nat) (hs : s ≤ 9223372036854775807) (hc : c ≤ 255) => Step_any (cap := cap) s c hc hs (hT.ext hB hE) (by have := hE.size; omega) hi hVf
  have hS2 := fun (w' : World) (hE : Ext w w') (s : Int) (c : Nat) (hs : s ≤ 9223372036854775807) (hc : c ≤ 255) => Step_any (cap := cap) s c hc hs (hT.ext hB hE) (by have := hE.size; omega) hj hVg
  have HS1 := Lib.hid hS1
  have HS2 := Lib.hid hS2
  clear hf hS1 hS2 hT hi hj
  go_enter Try.func38, Try.ntmps38
  go_upto_region 2 with fail
  obtain ⟨w1, hw1⟩ : ∃ w1, w1 = w.alloc (Obj.cells #[Value.int .i64 0, Value.int .i64 0] 53) := ⟨_, rfl⟩
  have hE1 : Ext w w1 := by rw [hw1]; exact Ext.alloc w _
  have s0 : w1.cell? ⟨w.heap.size, 0, none⟩ = some (.int .i64 0) := by rw [hw1]; exact cs_new rfl
  have s1 : w1.cell? ⟨w.heap.size, 1, none⟩ = some (.int .i64 0) := by rw [hw1]; exact cs_new rfl
  rw [← hw1]
  clear hw1
  have hmk : (Instr.makeMap 94 none).run Try.prog w1 = .ok (.map (some w1.heap.size)) (w1.alloc (.map #[] 0)) := rfl
  obtain ⟨zk, hzk⟩ : ∃ zk : P64, zk.1 = (0, 0) := ⟨⟨(0, 0), by unfold I64; omega, by unfold I64; omega⟩, rfl⟩
  have hzk2 : encP zk = .agg #[.int .i64 0, .int .i64 0] := by simp [encP, hzk]
  obtain ⟨ob, hup, hFm⟩ := (MapK.made (enc := encP) w1).update law53 key53 encP_inj Try.underlying94 zk (.bool true)
  have hF0 := hFm (fun x => inB [(0, 0)] x.1) (by simp [inB, hzk]) (fun y hy => by
    have : y.1 ≠ (0, 0) := fun h => hy (Subtype.ext (h.trans hzk.symm))
    simp [inB, this])
  rw [hzk2] at hup
  have hE2 : Ext w1 (ChangeMaps.setBlock (w1.alloc (.map #[] 0)) w1.heap.size ob) := (Ext.alloc w1 _).turned (Nat.le_refl _)
  have hs2 : w1.heap.size < (ChangeMaps.setBlock (w1.alloc (.map #[] 0)) w1.heap.size ob).heap.size := by rw [turned_size]; simp
  generalize hw2 : ChangeMaps.setBlock (w1.alloc (.map #[] 0)) w1.heap.size ob = w2 at *
  obtain ⟨mb, hmb⟩ : ∃ mb, mb = w1.heap.size := ⟨_, rfl⟩
  have hmb2 : w.heap.size ≤ mb := by rw [hmb]; exact hE1.size
  rw [← hmb] at hmk hup hF0 hs2
  have q0 := cs_ext hE2 s0
  have q1 := cs_ext hE2 s1
  have r0 := cs_al (o := .map #[] 0) s0
  have r1 := cs_al (o := .map #[] 0) s1
  have hR0 : RGen w (w2.alloc (.cells #[.int .i64 0, .int .i64 0, .int .i64 (-1), .int .u8 0] 80)) mb (.slice (some ⟨w2.heap.size, 0, none⟩) 1 1) [⟨(0, 0), -1, 0⟩] [(0, 0)] :=
    ⟨⟨rfl, .inr ⟨w2.heap.size, 1, _, rfl, (hE1.trans hE2).size, hs_new, by simp, by unfold maxLen; omega, rfl, rfl⟩⟩, ⟨_, hF0.al _⟩, by simp [Value.ownBlock]; omega, hmb2, (hE1.trans hE2).then_al _⟩
  have HR0 := Lib.hid hR0
  clear hR0 hFm hF0 hw2 hE2 hzk hzk2 hs2 hmb hE1 hmb2
  go_wp2_with fail
  clear hmk hup q0 q1 s0 s1 r0 r1
  go_loopw [10, 11, 12, 13] (fun lv kv _ _ wr => ∃ (k : Nat) (R : List Rch), kv = .int .i64 k ∧ RGen w wr mb lv R (lev f (0, 0) k) ∧ R.map (·.p) = lev f (0, 0) k ∧ k ≤ (lev f (0, 0) k).length ∧ (lev f (0, 0) k).length ≤ 20000) (fun _ kv _ _ _ => 20001 - (intOf kv).toNat)
  case atStart => exact ⟨0, _, rfl, HR0.out, rfl, by simp, by simp [lev]⟩
  case round =>
    obtain ⟨k, R, rfl, hS, hRL, hk, hL⟩ := hrel
    have hlen : R.length = (lev f (0, 0) k).length := by rw [← hRL]; simp
    by_cases hlt : k < (lev f (0, 0) k).length
    · obtain ⟨x, hx⟩ : ∃ x, (lev f (0, 0) k)[k]? = some x := ⟨_, List.getElem?_eq_getElem hlt⟩
      obtain ⟨hx1, hx2⟩ : x.1 ≤ 9223372036854775807 ∧ x.2 ≤ 9223372036854775807 := by
        have hx' := hx
        rw [HFF.out] at hx'
        have h := levP_small (t := t) hlf hlg x (List.mem_of_getElem? hx')
        omega
      have hOver : ∀ c, c ≤ 256 → 20000 < (rowS f (lev f (0, 0) k) x c).length → Over f (0, 0) := fun c hc h => over_of_row hx hc h
      have hnext : lev f (0, 0) (k + 1) = rowS f (lev f (0, 0) k) x 256 := lev_succ hx
      obtain ⟨gR, capR, rfl, hcR, -⟩ := row2_slice hS.own (by omega)
      have hkR : k < R.length := by omega
      have HOVER := Lib.hid hOver
      have HNEXT := Lib.hid hnext
      have HX := Lib.hid hx
      have HS := Lib.hid hS
      have HRL := Lib.hid hRL
      have HLEN := Lib.hid hlen
      clear hOver hnext hx hS hRL hlen
      generalize hLL : lev f (0, 0) k = L at *
      have HLL := Lib.hid hLL
      clear hLL
      have e1 : decide ((k : Int) < (R.length : Int)) = true := decide_eq_true (by omega)
      go_wp2_with fail
      go_loopw [10, 12, 13] (fun lv2 cv _ wr2 => ∃ (c : Nat) (R2 : List Rch), cv = .int .i64 c ∧ c ≤ 256 ∧ RGen w wr2 mb lv2 R2 (rowS f L x c) ∧ R2.map (·.p) = rowS f L x c ∧ (rowS f L x c).length ≤ 20000 + c) (fun _ cv _ _ => 256 - (intOf cv).toNat)
      case atStart => exact ⟨0, R, rfl, by omega, HS.out, HRL.out, by rw [rowS_zero]; omega⟩
      case round =>
        obtain ⟨c, R2, rfl, hc, hS2, hRL2, hLc⟩ := hrel
        have hlen2 : L.length ≤ (rowS f L x c).length := (rowS_pre (f := f) (L := L) (x := x) (c := c)).length_le
        have hlR2 : R2.length = (rowS f L x c).length := by rw [← hRL2]; simp
        obtain ⟨gR2, capR2, rfl, hcR2, hcm2, -, hgl2⟩ := row2_slice hS2.own (by omega)
        by_cases hc2 : c < 256
        · have e2 : decide ((c : Int) < 256) = true := decide_eq_true (by omega)
          obtain ⟨y, hy⟩ : ∃ y, R2[k]? = some y := ⟨_, List.getElem?_eq_getElem (by omega)⟩
          have hyx : y.p = x := by
            have h1 := pre_get (rowS_pre (f := f) (L := L) (x := x) (c := c)) HX.out
            rw [← hRL2] at h1
            simp [hy] at h1
            exact h1
          have hy0 : wr.cell? ⟨gR2, k * 4, none⟩ = some (.int .i64 x.1) := by
            obtain ⟨g', c', e, -, -, -, hcc⟩ := rowN_at (n := 4) (f := encR) (fun _ => rfl) hS2.own hy
            cases e
            have := hcc 0 _ rfl
            rw [hyx] at this
            exact this
          have hy1 : wr.cell? ⟨gR2, k * 4 + 1, none⟩ = some (.int .i64 x.2) := by
            obtain ⟨g', c', e, -, -, -, hcc⟩ := rowN_at (n := 4) (f := encR) (fun _ => rfl) hS2.own hy
            cases e
            have := hcc 1 _ rfl
            rw [hyx] at this
            exact this
          have hkR2 : k < R2.length := by omega
          obtain ⟨n1, hn1⟩ : ∃ n1, n1 = rStep t fm.fields x.1 c := ⟨_, rfl⟩
          obtain ⟨n2, hn2⟩ : ∃ n2, n2 = rStep t gm.fields x.2 c := ⟨_, rfl⟩
          have hcon1 := fun (w' : World) (hE : Ext w w') => HS1.out w' hE x.1 c hx1 (by omega)
          have hcon2 := fun (w' : World) (hE : Ext w w') => HS2.out w' hE x.2 c hx2 (by omega)
          rw [← hn1] at hcon1
          rw [← hn2] at hcon2
          have HN1 := Lib.hid hn1
          have HN2 := Lib.hid hn2
          have HCON1 := Lib.hid hcon1
          have HCON2 := Lib.hid hcon2
          have HSR := Lib.hid hS2
          have HRL2 := Lib.hid hRL2
          have HLR2 := Lib.hid hlR2
          have hwc : IntKind.u8.wrap (c : Int) = (c : Int) := IntWalk.u8_in _ (by omega)
          clear hn1 hn2 hcon1 hcon2 hS2 hRL2 hlR2 hy hyx
          go_wp2_with fail
          refine wp_region_reg 24 false (by kernel_rfl) (by kernel_rfl) ?_
          refine reg_value (fun _ => rfl) ?_ (fun g w' vs hM hE hP => ?_) ?_
          rotate_left
          · (clear hP hM; have zz0 := cs_ext hE hy0; have zz1 := cs_ext hE hy1; go_simp; first | done | rfl)
          refine reg_value (fun _ => rfl) ?_ (fun g w' vs hM hE hP => ?_) ?_
          rotate_left
          · (clear hP hM; have zz0 := cs_ext hE hy0; have zz1 := cs_ext hE hy1; go_simp; first | done | rfl)
          refine reg_value (fun _ => rfl) ?_ (fun g w' vs hM hE hP => ?_) ?_
          rotate_left
          · (clear hP hM; have zz0 := cs_ext hE hy0; have zz1 := cs_ext hE hy1; go_simp; first | done | rfl)
          refine reg_value (fun _ => rfl) ?_ (fun g w' vs hM hE hP => ?_) ?_
          rotate_left
          · (clear hP hM; have zz0 := cs_ext hE hy0; have zz1 := cs_ext hE hy1; go_simp; first | done | rfl)
          refine reg_value (fun _ => rfl) ?_ (fun g w' vs hM hE hP => ?_) ?_
          rotate_left
          · (clear hP hM; have zz0 := cs_ext hE hy0; have zz1 := cs_ext hE hy1; go_simp; first | done | rfl)
          refine reg_value (fun _ => rfl) ?_ (fun g w' vs hM hE hP => ?_) ?_
          rotate_left
          · (clear hP hM; have zz0 := cs_ext hE hy0; have zz1 := cs_ext hE hy1; go_simp; first | done | rfl)
          refine reg_value (fun _ => rfl) ?_ (fun g w' vs hM hE hP => ?_) ?_
          rotate_left
          · (clear hP hM; have zz0 := cs_ext hE hy0; have zz1 := cs_ext hE hy1; go_simp; first | done | rfl)
          refine reg_value (fun _ => rfl) ?_ (fun g w' vs hM hE hP => ?_) ?_
          rotate_left
          · (clear hP hM; have zz0 := cs_ext hE hy0; have zz1 := cs_ext hE hy1; go_simp; first | done | rfl)
          refine reg_value (fun _ => rfl) ?_ (fun g w' vs hM hE hP => ?_) ?_
          rotate_left
          · (clear hP hM; have zz0 := cs_ext hE hy0; have zz1 := cs_ext hE hy1; go_simp; first | done | rfl)
          refine reg_value (fun _ => rfl) ?_ (fun g w' vs hM hE hP => ?_) ?_
          rotate_left
          · (clear hP hM; have zz0 := cs_ext hE hy0; have zz1 := cs_ext hE hy1; go_simp; first | done | rfl)
          refine reg_const (fun _ => rfl) 35 ?_ (fun g w' vs hM hE hP => ?_) ?_
          rotate_left
          · (clear hP hM; have zz0 := cs_ext hE hy0; have zz1 := cs_ext hE hy1; go_simp; first | done | exact ⟨rfl, rfl⟩ | rfl)
          apply Exists.intro
          refine And.intro (fun g w' vs hM hE hP => ?_) ?_
          · exact HCON1.out _ (HSR.out.ext.trans hE)
          refine reg_value (fun _ => rfl) ?_ (fun g w' vs hM hE hP => ?_) ?_
          rotate_left
          · (clear hP hM; have zz0 := cs_ext hE hy0; have zz1 := cs_ext hE hy1; go_simp; first | done | rfl)
          refine reg_value (fun _ => rfl) ?_ (fun g w' vs hM hE hP => ?_) ?_
          rotate_left
          · (clear hP hM; have zz0 := cs_ext hE hy0; have zz1 := cs_ext hE hy1; go_simp; first | done | rfl)
          refine reg_value (fun _ => rfl) ?_ (fun g w' vs hM hE hP => ?_) ?_
          rotate_left
          · (clear hP hM; have zz0 := cs_ext hE hy0; have zz1 := cs_ext hE hy1; go_simp; first | done | rfl)
          refine reg_value (fun _ => rfl) ?_ (fun g w' vs hM hE hP => ?_) ?_
          rotate_left
          · (clear hP hM; have zz0 := cs_ext hE hy0; have zz1 := cs_ext hE hy1; go_simp; first | done | rfl)
          refine reg_value (fun _ => rfl) ?_ (fun g w' vs hM hE hP => ?_) ?_
          rotate_left
          · (clear hP hM; have zz0 := cs_ext hE hy0; have zz1 := cs_ext hE hy1; go_simp; first | done | rfl)
          refine reg_value (fun _ => rfl) ?_ (fun g w' vs hM hE hP => ?_) ?_
          rotate_left
          · (clear hP hM; have zz0 := cs_ext hE hy0; have zz1 := cs_ext hE hy1; go_simp; first | done | rfl)
          refine reg_value (fun _ => rfl) ?_ (fun g w' vs hM hE hP => ?_) ?_
          rotate_left
          · (clear hP hM; have zz0 := cs_ext hE hy0; have zz1 := cs_ext hE hy1; go_simp; first | done | rfl)
          refine reg_value (fun _ => rfl) ?_ (fun g w' vs hM hE hP => ?_) ?_
          rotate_left
          · (clear hP hM; have zz0 := cs_ext hE hy0; have zz1 := cs_ext hE hy1; go_simp; first | done | rfl)
          refine reg_value (fun _ => rfl) ?_ (fun g w' vs hM hE hP => ?_) ?_
          rotate_left
          · (clear hP hM; have zz0 := cs_ext hE hy0; have zz1 := cs_ext hE hy1; go_simp; first | done | rfl)
          refine reg_value (fun _ => rfl) ?_ (fun g w' vs hM hE hP => ?_) ?_
          rotate_left
          · (clear hP hM; have zz0 := cs_ext hE hy0; have zz1 := cs_ext hE hy1; go_simp; first | done | rfl)
          refine reg_const (fun _ => rfl) 35 ?_ (fun g w' vs hM hE hP => ?_) ?_
          rotate_left
          · (clear hP hM; have zz0 := cs_ext hE hy0; have zz1 := cs_ext hE hy1; go_simp; first | done | exact ⟨rfl, rfl⟩ | rfl)
          apply Exists.intro
          refine And.intro (fun g w' vs hM hE hP => ?_) ?_
          · exact HCON2.out _ (HSR.out.ext.trans hE)
          refine reg_value (fun _ => rfl) ?_ (fun g w' vs hM hE hP => ?_) ?_
          rotate_left
          · (clear hP hM; have zz0 := cs_ext hE hy0; have zz1 := cs_ext hE hy1; go_simp; first | done | rfl)
          refine reg_fresh (fun _ => rfl) (fun n => .pointer (some ⟨n, 0, none⟩)) ?_ (fun g w' vs hM hE hP => ?_) ?_
          rotate_left
          · (clear hP hM; have zz0 := cs_ext hE hy0; have zz1 := cs_ext hE hy1; go_simp; first | done | rfl | exact ⟨rfl, rfl⟩)
          intro g wz hE hF hQ
          simp only [List.drop_succ_cons, List.drop_zero, Act.put, List.setIfInBounds_toArray, List.set_cons_succ, List.set_cons_zero]
          obtain ⟨-, hF, -⟩ := hF
          obtain ⟨hg, hge⟩ := hF _ List.mem_cons_self
          simp at hg hge
          clear hF hQ hy0 hy1
          refine wpList_store_all rfl 53 (.tmp 13) (.tmp 53) rfl (g 23).n _ rfl rfl 53 _ hg (by kernel_rfl) rfl (by simp [Value.oneCell']) ?_
          obtain ⟨nb, hnb⟩ : ∃ nb, nb = (g 23).n := ⟨_, rfl⟩
          obtain ⟨w3, hw3⟩ : ∃ w3, w3 = wz.setRow nb #[.int .i64 n1, .int .i64 n2] := ⟨_, rfl⟩
          rw [← hnb] at hg hge ⊢
          rw [← hw3]
          have hE3 : Ext wr w3 := by rw [hw3]; exact hE.setRow hge _
          have hnbc : w3.heap[nb]? = some (.cells #[.int .i64 n1, .int .i64 n2] 53) := by rw [hw3]; exact setRow_heap _ _ _ _ _ _ hg
          clear hw3 hg hE hnb
          have hS3 := HSR.out.next hE3
          have m0 : w3.cell? ⟨nb, 0, none⟩ = some (.int .i64 n1) := by rw [cellc hnbc]; rfl
          have m1 : w3.cell? ⟨nb, 1, none⟩ = some (.int .i64 n2) := by rw [cellc hnbc]; rfl
          have HNBC := Lib.hid hnbc
          have HSUC : Hid (rowS f L x (c + 1) = tick f x (rowS f L x c) c) := Lib.hid rowS_succ
          have HF1 : Hid (∀ z, f z = stP t fm.fields gm.fields z) := Lib.hid (fun z => by rw [HFF.out])
          have HS3 := Lib.hid hS3
          clear hnbc hE3 hS3
          by_cases h1 : n1 < 0
          · have HR : Hid (rowS f L x (c + 1) = rowS f L x c) := Lib.hid (by
              rw [HSUC.out, tick_none]
              rw [HF1.out, stP, ← HN1.out, ← HN2.out, if_pos (.inl h1)])
            have e3 : decide (0 ≤ n1) = false := decide_eq_false (by omega)
            go_wp2_with fail
            go_roundw
            case rel => exact ⟨c + 1, R2, by go_num, by omega, by rw [HR.out]; exact HS3.out, by rw [HR.out]; exact HRL2.out, by rw [HR.out]; omega⟩
            case measure => simp [intOf]; omega
          have e3 : decide (0 ≤ n1) = true := decide_eq_true (by omega)
          by_cases h2 : n2 < 0
          · have HR : Hid (rowS f L x (c + 1) = rowS f L x c) := Lib.hid (by
              rw [HSUC.out, tick_none]
              rw [HF1.out, stP, ← HN1.out, ← HN2.out, if_pos (.inr h2)])
            have e4 : decide (0 ≤ n2) = false := decide_eq_false (by omega)
            go_wp2_with fail
            go_roundw
            case rel => exact ⟨c + 1, R2, by go_num, by omega, by rw [HR.out]; exact HS3.out, by rw [HR.out]; exact HRL2.out, by rw [HR.out]; omega⟩
            case measure => simp [intOf]; omega
          have e4 : decide (0 ≤ n2) = true := decide_eq_true (by omega)
          have HSTEP : Hid (f x c = some (n1, n2)) := Lib.hid (by rw [HF1.out, stP, ← HN1.out, ← HN2.out, if_neg (by omega)])
          have hn1l : n1 ≤ 40000000 := by rw [HN1.out]; exact rStep_le hlf (by omega)
          have hn2l : n2 ≤ 40000000 := by rw [HN2.out]; exact rStep_le hlg (by omega)
          obtain ⟨nk, hnk⟩ : ∃ nk : P64, nk.1 = (n1, n2) := ⟨⟨(n1, n2), ⟨by omega, by omega⟩, by omega, by omega⟩, rfl⟩
          have hkey : encP nk = .agg #[.int .i64 n1, .int .i64 n2] := by simp [encP, hnk]
          have hlk := HS3.out.look nk
          rw [hkey, hnk] at hlk
          by_cases hmem : (n1, n2) ∈ rowS f L x c
          · have HR : Hid (rowS f L x (c + 1) = rowS f L x c) := Lib.hid (by rw [HSUC.out, tick_old HSTEP.out hmem])
            rw [decide_eq_true hmem] at hlk
            clear hmem hnk hkey
            go_wp2_with fail
            go_roundw
            case rel => exact ⟨c + 1, R2, by go_num, by omega, by rw [HR.out]; exact HS3.out, by rw [HR.out]; exact HRL2.out, by rw [HR.out]; omega⟩
            case measure => simp [intOf]; omega
          · have HR : Hid (rowS f L x (c + 1) = rowS f L x c ++ [(n1, n2)]) := Lib.hid (by rw [HSUC.out, tick_new HSTEP.out hmem])
            rw [decide_eq_false hmem] at hlk
            obtain ⟨w4, hup, hS4, hoth⟩ := HS3.out.put nk
            rw [hkey] at hup
            rw [hnk] at hS4
            have hnm : nb ≠ mb := fun e => by
              obtain ⟨n, es, cl, hm, -⟩ := HS3.out.map
              have h3 := HNBC.out
              rw [e, hm] at h3; cases h3
            have hnb4 : w4.heap[nb]? = some (.cells #[.int .i64 n1, .int .i64 n2] 53) := by rw [hoth nb hnm]; exact HNBC.out
            have p0 : w4.cell? ⟨nb, 0, none⟩ = some (.int .i64 n1) := by rw [cellc hnb4]; rfl
            have p1 : w4.cell? ⟨nb, 1, none⟩ = some (.int .i64 n2) := by rw [cellc hnb4]; rfl
            have hO4 := ownsRow_ext hS4.own (Ext.alloc w4 (.cells #[.int .i64 n1, .int .i64 n2, .int .i64 k, .int .u8 c] 80))
            have hS4' := hS4.next (Ext.alloc w4 (.cells #[.int .i64 n1, .int .i64 n2, .int .i64 k, .int .u8 c] 80))
            have hz4 := hS4.ext.size
            have HS4' := Lib.hid hS4'
            have hRl : R2.length ≤ 30000 := by rw [HLR2.out]; omega
            clear hmem hnk hkey hS4 hS4' hoth hnb4 hnm
            obtain ⟨j0, hj0, hj1, hj2, hj3⟩ := info_parts inf80
            go_wp2_with (first
              | (at_builtin; refine wpList_append_own_at _ rfl _ _ 76 rfl w.heap.size 80 j0 (.agg #[.int .i64 0, .int .i64 0, .int .i64 0, .int .u8 0]) 4 32 Try.underlying76 hj0 hj1 hj2 hj3 rfl (by decide) _ _ _ rfl hO4 ⟨w4.heap.size, 0, none⟩ 1 1 [.int .i64 n1, .int .i64 n2, .int .i64 k, .int .u8 c] rfl rfl (cells_four hs_new) (fun u hu => by simp at hu; rcases hu with rfl | rfl | rfl | rfl <;> rfl) (by unfold maxLen; omega) (by omega) (by simp; omega) ?_; intro v5 w5 hown5 hgrow5 hnil5 hat5
                 have HS5 := Lib.hid (HS4'.out.grow (x := ⟨(n1, n2), k, c⟩) hown5 hgrow5 hat5)
                 clear hown5 hgrow5 hnil5 hat5 hO4))
            go_roundw
            case rel => exact ⟨c + 1, R2 ++ [⟨(n1, n2), k, c⟩], by go_num, by omega, by rw [HR.out]; exact HS5.out, by rw [HR.out, List.map_append, HRL2.out]; rfl, by rw [HR.out]; simp; omega⟩
            case measure => simp [intOf]; omega
        · have hc3 : c = 256 := by omega
          subst hc3
          have HSR := Lib.hid hS2
          have HRL2 := Lib.hid hRL2
          have HLR2 := Lib.hid hlR2
          by_cases hbig : 20000 < (rowS f L x 256).length
          · have hb2 : 20000 < R2.length := by omega
            have e4 : decide ((20000 : Int) < (R2.length : Int)) = true := decide_eq_true (by omega)
            have HO : Hid (Over f (0, 0)) := Lib.hid (HOVER.out 256 (by omega) hbig)
            clear hS2 hRL2 hlR2 hbig
            go_wp2_with fail
            go_ret2
            exact ⟨_, _, rfl, HSR.out.ext, .inl ⟨HO.out, rfl, rfl⟩⟩
          · have hb2 : ¬ 20000 < R2.length := by omega
            have e4 : decide ((20000 : Int) < (R2.length : Int)) = false := decide_eq_false (by omega)
            clear hS2 hRL2 hlR2
            have hbig' : (rowS f L x 256).length ≤ 20000 := by omega
            clear hbig
            go_wp2_with fail
            go_roundw
            case rel => exact ⟨k + 1, R2, by go_num, by rw [HNEXT.out]; exact HSR.out, by rw [HNEXT.out]; exact HRL2.out, by rw [HNEXT.out]; omega, by rw [HNEXT.out]; omega⟩
            case measure => simp [intOf]; omega
    · have HFull : Hid (Full f (0, 0) (lev f (0, 0) k)) := ⟨k, rfl, by omega⟩
      have hkR : R.length ≤ k := by omega
      obtain ⟨gR, capR, rfl, hcR, -⟩ := row2_slice hS.own (by rw [hlen]; exact lev_pos)
      have HS := Lib.hid hS
      have HRL := Lib.hid hRL
      have HRLn : Hid (R.length ≤ 20000) := Lib.hid (by omega)
      have e1 : decide ((k : Int) < (R.length : Int)) = false := decide_eq_false (by omega)
      clear hS hRL hlen
      go_wp2_with fail
      go_ret2
      exact ⟨_, _, rfl, HS.out.ext, .inr ⟨R, by rw [HRL.out]; exact HFull.out, HRLn.out, rfl, HS.out.own⟩⟩

end Go.Proofs.Ythoelnoahfedmaa
