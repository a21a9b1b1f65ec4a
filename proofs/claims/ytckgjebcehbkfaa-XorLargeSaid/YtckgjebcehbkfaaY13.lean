/- Contracts: the program's Refute. -/
import Derived.Test.YtckgjebcehbkfaaZ7
import Derived.Test.YtckgjebcehbkfaaG7
namespace Go.Proofs.Ytckgjebcehbkfaa
open Go Go.RowKit
open Go.Maps (Keyed)
set_option linter.unusedVariables false
set_option linter.unusedSimpArgs false

theorem sizeL_erase : ∀ {M : List Tm} {x : Tm}, x ∈ M → sizeL M = sizeT x + sizeL (M.erase x)
  | [], x, h => by simp at h
  | y :: M, x, h => by
    by_cases e : y = x
    · subst e; rw [List.erase_cons_head, sizeL]
    · rcases List.mem_cons.1 h with h | h
      · exact absurd h.symm e
      · rw [List.erase_cons_tail (by simpa using e), sizeL, sizeL, sizeL_erase h]; omega
theorem nodup_sizeL : ∀ {P M : List Tm}, P.Nodup → (∀ x ∈ P, x ∈ M) → sizeL P ≤ sizeL M
  | [], M, _, _ => by simp [sizeL]
  | x :: P, M, hn, hs => by
    have hn' := List.nodup_cons.1 hn
    have ih := nodup_sizeL (P := P) (M := M.erase x) hn'.2 (fun y hy => (List.mem_erase_of_ne (fun e => hn'.1 (by rw [← e]; exact hy))).2 (hs y (by simp [hy])))
    rw [sizeL_erase (hs x (by simp)), sizeL]
    omega
theorem allS_sizeL : ∀ X : List Tm, sizeL (allS X) ≤ sizeL X
  | [] => by simp [allS, sizeL]
  | x :: X => by
    have h1 := allS_sizeL X
    have h2 := sumT_sizeL x
    unfold allS at *
    rw [List.flatMap_cons, sizeL_append, sizeL]
    omega

set_option maxRecDepth 100000 in
set_option maxHeartbeats 4000000 in
theorem PRefute_any {w : World} {S S' : Nat → Prop} {a a' : Option Addr} {cap cap' : Nat} {L : List Tm} {t : Tm} (hz : sizeL L + sizeT t ≤ 80000) (hL : LsT w S (.slice a L.length cap) L) (hT : TmW w S' a' cap' t) :
    Calls Try.prog 35 #[.slice a L.length cap, .agg #[.int .i64 t.kind, .string t.name, .int .i64 t.sort, .slice a' t.kids.length cap']] w fun e w' => ∃ u er P, e = .returned (.tuple #[u, .int .i64 er]) ∧ Ext w w' ∧ LsT w' Any u P ∧ RefuteR L t P er ∧ sizeL P ≤ sizeL L + sizeT t := by
  obtain ⟨-, hl, hc⟩ := hL.len
  have hl' := hT.len
  have hc' := hT.cap
  unfold maxLen at hc hc'
  have hll := len_size L
  have hn80 : L.length ≤ 80000 := by omega
  obtain ⟨bx, hbx⟩ : ∃ bx, bx = w.heap.size := ⟨_, rfl⟩
  obtain ⟨w1, hw1⟩ : ∃ w1, w1 = w.alloc (.cells #[.int .i64 t.kind, .string t.name, .int .i64 t.sort, .slice a' t.kids.length cap'] 24) := ⟨_, rfl⟩
  have HE1 : Hid (Ext w w1) := Lib.hid (by rw [hw1]; exact Ext.alloc w _)
  have HBX : Hid (w1.heap[bx]? = some (.cells #[.int .i64 t.kind, .string t.name, .int .i64 t.sort, .slice a' t.kids.length cap'] 24)) := Lib.hid (by rw [hw1, hbx]; exact hs_new)
  have HLW := Lib.hid (hL.below.ext HE1.out)
  have HTW := Lib.hid (hT.below.ext HE1.out)
  have hcon := right_any (w := w1.alloc (.cells #[.int .i64 t.kind, .string t.name, .int .i64 t.sort, .slice a' t.kids.length cap'] 24)) (L := L) (M := [t]) (a' := some ⟨w1.heap.size, 0, none⟩) (cap' := 1) (fun x hx => by obtain ⟨i, hi⟩ := List.mem_iff_getElem?.1 hx; have := sizeL_get hi; omega) (fun x h => by simp at h; subst h; omega) (by simp) (HLW.out.ext (Ext.alloc _ _)) (one_ls hs_new (HTW.out.ext (Ext.alloc _ _)))
  obtain ⟨er, her⟩ : ∃ er, er = rightS L [t] := ⟨_, rfl⟩
  have HER := Lib.hid her
  rw [← her] at hcon
  have HCON := Lib.hid hcon
  have HZ := Lib.hid hz
  have b0 : w1.cell? ⟨bx, 0, none⟩ = some (.int .i64 t.kind) := by rw [cellc HBX.out]; rfl
  have b1 : w1.cell? ⟨bx, 1, none⟩ = some (.string t.name) := by rw [cellc HBX.out]; rfl
  have b2 : w1.cell? ⟨bx, 2, none⟩ = some (.int .i64 t.sort) := by rw [cellc HBX.out]; rfl
  have b3 : w1.cell? ⟨bx, 3, none⟩ = some (.slice a' t.kids.length cap') := by rw [cellc HBX.out]; rfl
  clear her hcon hL hT hz
  go_enter Try.func35, Try.ntmps35
  go_upto_region 1 with fail
  rw [← hw1, ← hbx]
  clear hw1 hbx
  go_wp2_with fail
  refine HCON.out.mono ?_
  rintro e w3 ⟨rfl, hE3⟩
  have HE3 : Hid (Ext w1 w3) := Lib.hid ((Ext.alloc _ _).trans hE3)
  have HBX3 := Lib.hid (hs_ext HE3.out HBX.out)
  clear hE3 b0 b1 b2 b3
  by_cases hz : er = 0
  case neg =>
    have e1 : (er != 0) = true := by simp [hz]
    have HZ0 := Lib.hid hz
    clear hz
    go_wp2_with fail
    go_ret2
    exact ⟨_, er, [], rfl, HE1.out.trans HE3.out, LsT.nil, .inl ⟨by rw [← HER.out]; exact HZ0.out, HER.out, rfl⟩, by simp [sizeL]⟩
  have e1 : (er != 0) = false := by simp [hz]
  have HR0 : Hid (rightS L [t] = 0) := Lib.hid (by rw [← HER.out, hz])
  clear hz
  have b0 : w3.cell? ⟨bx, 0, none⟩ = some (.int .i64 t.kind) := by rw [cellc HBX3.out]; rfl
  have b1 : w3.cell? ⟨bx, 1, none⟩ = some (.string t.name) := by rw [cellc HBX3.out]; rfl
  have b2 : w3.cell? ⟨bx, 2, none⟩ = some (.int .i64 t.sort) := by rw [cellc HBX3.out]; rfl
  have b3 : w3.cell? ⟨bx, 3, none⟩ = some (.slice a' t.kids.length cap') := by rw [cellc HBX3.out]; rfl
  have hcon := eliminate_any (w := w3) HZ.out (HLW.out.ext HE3.out) (HTW.out.ext HE3.out)
  have HCON2 := Lib.hid hcon
  clear hcon
  go_wp2_with fail
  refine HCON2.out.mono ?_
  rintro e w4 ⟨sb, rfl, hE4, mr, mc, v, K, bv, B, F, G, hB, hKA, hKM, hK8⟩
  obtain ⟨ka, kc, hkv, hkl, hkc, -⟩ := id hB.own.ls
  unfold maxLen at hkc
  subst hkv
  have HB := Lib.hid hB
  have HKA := Lib.hid hKA
  have HKM := Lib.hid hKM
  have HE4 := Lib.hid (HE3.out.trans hE4)
  have b0 := cs_ext hE4 b0
  have b1 := cs_ext hE4 b1
  have b2 := cs_ext hE4 b2
  have b3 := cs_ext hE4 b3
  have hcon := row_any (w := w4) (t := t) hB.sys (fun y hy => by
      obtain ⟨x, hx, hy⟩ := List.mem_flatMap.1 ((hKM y).1 hy)
      have := sumT_size x y hy
      obtain ⟨i, hi⟩ := List.mem_iff_getElem?.1 hx
      have h1 := sizeL_get hi
      have h2 := HZ.out
      rw [sizeL_append, sizeL, sizeL] at h1
      omega) (by have := HZ.out; omega) (by omega) hKA hB.own.ls (HTW.out.ext HE4.out) (fun y hy => (hKM y).2 (List.mem_flatMap.2 ⟨t, by simp, hy⟩))
  have HCON3 := Lib.hid hcon
  clear hcon hB hKA hKM hE4
  go_wp2_with fail
  refine HCON3.out.mono ?_
  rintro e w5 ⟨g, ws, rfl, hE5, hg5, hB5, hl5, hv5⟩
  have HB5 := Lib.hid (HB.out.next hE5)
  have hcon := reduce_any (w := w5) (T := fun c => c < w4.heap.size) HB5.out.sys (by omega) (by omega)
    ⟨by have := lt_of_get' HB.out.sys; omega, by have := HB.out.rows.map.lt; omega, by have := HB.out.chos.map.lt; omega⟩ (fun c hc e => by have hc' : c < w4.heap.size := hc; omega) hB5 hl5
    ((HB.out.rows.weak (T' := fun c => c < w4.heap.size) (fun c _ h => h)).ext hE5) ((HB.out.chos.weak (T' := fun c => c < w4.heap.size) (fun c _ h => h)).ext hE5) HB.out.dom
  have hred : redS F G (bitL ws) K.length = (red (vecs F) id (rowB K (sumT t)) K.length, chs (vecs F) (vecs G) id (rowB K (sumT t)) K.length) := by rw [redS_eq F G HB.out.dom, funext hv5]
  rw [hred] at hcon
  have HCON4 := Lib.hid hcon
  have HE5 := Lib.hid hE5
  have HG5 := Lib.hid hg5
  have HL5 := Lib.hid hl5
  clear hcon hred hE5 hg5 hB5 hl5 hv5 b0 b1 b2 b3
  go_wp2_with fail
  refine HCON4.out.mono ?_
  rintro e w6 ⟨gc, ws', cs, rfl, hg6, hgc6, hB6, hl6, hC6, hlc6, hv6, hvc6⟩
  have hE6 : Ext w4 w6 := HE5.out.grown hg6 (fun q hq => by cases hq; exact HG5.out)
  have HB6 := Lib.hid (HB.out.next hE6)
  have hs0 : w6.cell? ⟨sb, 0, none⟩ = some (.slice ka K.length kc) := by rw [cellc HB6.out.sys]; rfl
  have hcon := first_any (n := K.length) hB6 (by rw [hl6, HL5.out]; omega) (by rw [hl6, HL5.out]; omega)
  rw [hl6] at hcon
  have HCON5 := Lib.hid hcon
  have HE6 := Lib.hid (HE4.out.trans hE6)
  have HC6 := Lib.hid hC6
  have HLC6 := Lib.hid hlc6
  have HV6 := Lib.hid hv6
  have HVC6 := Lib.hid hvc6
  clear hcon hg6 hgc6 hB6 hl6 hC6 hlc6 hv6 hvc6 hE6
  go_wp2_with fail
  refine HCON5.out.mono ?_
  rintro e w7 ⟨r, rfl, rfl, hr⟩
  rcases hr with ⟨rfl, hr⟩ | ⟨od, rfl, hcK, hc1, hcf⟩
  case inl =>
    have HRZ : Hid (red (vecs F) id (rowB K (sumT t)) K.length = zv) := Lib.hid (funext (fun j => by
      by_cases hj : j < K.length
      · have := HV6.out j; rw [hr j hj] at this; exact this.symm
      · exact red_out (fun c r hr => HB.out.zero c r hr j (.inr (by omega))) (by unfold rowB; rw [List.getElem?_eq_none (by omega)]) _))
    have HSP : Hid (InSpan L t) := Lib.hid ((span_cols HKM.out).1 ((HB.out.plain.span _).2 HRZ.out))
    clear hr
    go_wp2_with fail
    go_ret2
    exact ⟨_, 5, [], rfl, HE1.out.trans HE6.out, LsT.nil, .inr ⟨HR0.out, .inl ⟨HSP.out, rfl, rfl⟩⟩, by simp [sizeL]⟩
  have HOD : Hid (red (vecs F) id (rowB K (sumT t)) K.length od = true) := Lib.hid (by rw [← HV6.out]; exact hc1)
  have HNS : Hid (¬ InSpan L t) := Lib.hid (fun h => by
    have h2 := (HB.out.plain.span _).1 ((span_cols HKM.out).2 h)
    have h3 := HOD.out
    rw [h2] at h3
    cases h3)
  have HRO : Hid (vecs F od = none) := Lib.hid (by
    cases h : vecs F od with
    | none => rfl
    | some r => have := red_pivot HB.out.plain.ech (rowB K (sumT t)) K.length od hcK (by rw [h]; rfl); rw [id_eq, HOD.out] at this; cases this)
  obtain ⟨d, hdd⟩ : ∃ d : Nat, d = K.length / 64 := ⟨_, rfl⟩
  have hdq : ((K.length : Int)) / 64 = (d : Int) := by omega
  have hd6 : d ≤ 20000 := by omega
  obtain ⟨gi, hgi⟩ : ∃ gi, gi = w6.heap.size := ⟨_, rfl⟩
  obtain ⟨w7, hw7⟩ : ∃ w7, w7 = w6.alloc (.cells ((List.replicate (d + 1) 0).map encW).toArray 106) := ⟨_, rfl⟩
  have hmk : (Instr.makeSlice 80 (.int .i64 ((d : Int) + 1)) (.int .i64 ((d : Int) + 1))).run Try.prog w6 = .ok (.slice (some ⟨gi, 0, none⟩) (d + 1 : Nat) (d + 1 : Nat)) w7 := by rw [hw7, hgi]; exact run_makeBits w6 (d + 1) (by omega)
  have hB7 : BitW w7 gi (List.replicate (d + 1) 0) := by rw [hw7, hgi]; exact BitW.zero w6 _
  have hE7 : Ext w6 w7 := by rw [hw7]; exact Ext.alloc _ _
  have hcon := flip_any (i := od) hB7 (by rw [List.length_replicate]; omega) (by rw [List.length_replicate]; omega)
  rw [List.length_replicate] at hcon
  have HCON6 := Lib.hid hcon
  have HE7 := Lib.hid hE7
  have HDD := Lib.hid hdd
  have HGI : Hid (w6.heap.size ≤ gi) := Lib.hid (by omega)
  have HB7 := Lib.hid (HB6.out.next hE7)
  have t0 : w7.cell? ⟨sb, 0, none⟩ = some (.slice ka K.length kc) := by rw [cellc HB7.out.sys]; rfl
  clear hc1 hcf hdd hgi hw7 hB7 hE7 hcon
  go_wp2_with fail
  refine HCON6.out.mono ?_
  rintro e w8 ⟨rfl, hg8, ins, hB8, hl8, hv8⟩
  have HE8 : Hid (Ext w6 w8) := Lib.hid (HE7.out.grown hg8 (fun q hq => by cases hq; exact HGI.out))
  have HB8 := Lib.hid (HB6.out.next HE8.out)
  have t0 : w8.cell? ⟨sb, 0, none⟩ = some (.slice ka K.length kc) := by rw [cellc HB8.out.sys]; rfl
  have HI8 : Hid (RefI (vecs F) od K.length K.length (bitL ins)) := Lib.hid (RefI.start (fun d r h => HB.out.plain.top d r h) (fun j => by rw [hv8 j, bitL_zero]; simp))
  have HBW8 := Lib.hid hB8
  have HL8 := Lib.hid hl8
  clear hg8 hB8 hl8 hv8 HCON HCON2 HCON3 HCON4 HCON5 HCON6 HV6 HVC6 HC6 HLC6 HB7 HE5 HG5 HL5 HBX HBX3 HLW HTW HE3 HB5 HE4 HER 
  go_wp2_with fail
  go_loopw [12, 13, 14, 15, 16, 84] (fun cv _ _ _ _ _ wr => Hid (∃ (c : Int) (is : List Nat), cv = .int .i64 c ∧ -1 ≤ c ∧ c < K.length ∧ Ext w6 wr ∧ BitW wr gi is ∧ is.length = d + 1 ∧ RefI (vecs F) od K.length (c + 1).toNat (bitL is))) (fun cv _ _ _ _ _ _ => (intOf cv + 1).toNat)
  case atStart => exact Lib.hid ⟨(K.length : Int) - 1, ins, rfl, by omega, by omega, HE8.out, HBW8.out, HL8.out, by rw [show ((K.length : Int) - 1 + 1).toNat = K.length by omega]; exact HI8.out⟩
  case round =>
    obtain ⟨c, is, rfl, hc1, hc2, hE, hBW, hln, hI⟩ := hrel.out
    have HE := Lib.hid hE
    have HBW := Lib.hid hBW
    have HLN := Lib.hid hln
    have HI := Lib.hid hI
    have HBR := Lib.hid (HB6.out.next hE)
    clear hE hBW hln hI hrel t0
    have t0 : wr.cell? ⟨sb, 0, none⟩ = some (.slice ka K.length kc) := by rw [cellc HBR.out.sys]; rfl
    by_cases h0 : 0 ≤ c
    · obtain ⟨n, rfl⟩ := Int.eq_ofNat_of_zero_le h0
      have hI := HI.out
      rw [show ((n : Int) + 1).toNat = n + 1 by omega] at hI
      have HI2 := Lib.hid hI
      have hn6 : n < 1000000 := by omega
      have hnK : n < K.length := by omega
      have t2 : wr.cell? ⟨sb, 2, none⟩ = some (.map (some mr)) := by rw [cellc HBR.out.sys]; rfl
      clear hI
      cases hFk : F ⟨n, hn6⟩ with
      | none =>
        have HV : Hid (vecs F n = none) := Lib.hid (by have := vecs_at (F := F) ⟨n, hn6⟩; rw [hFk] at this; exact this)
        have hq : Option.map bitsV (F ⟨n, hn6⟩) = none := by rw [hFk]; rfl
        have HQ := Lib.hid hq
        clear hFk hq
        go_wp2_with (refine wpList_lookB rfl (.tmp 72) (.tmp 73) true rfl HBR.out.rows.map rfl ⟨n, hn6⟩ rfl HQ.out ?_; rw [if_pos rfl]; simp only [Option.getD_none, Option.isSome_none])
        go_roundw
        case rel => exact Lib.hid ⟨(n : Int) - 1, is, by go_num, by omega, by omega, HE.out, HBW.out, HLN.out, by rw [show ((n : Int) - 1 + 1).toNat = n by omega]; exact HI2.out.nil HV.out⟩
        case measure => first | (simp [intOf]; done) | (simp [intOf]; omega)
      | some r =>
        obtain ⟨rg, rws⟩ := r
        have hq : Option.map bitsV (F ⟨n, hn6⟩) = some (.slice (some ⟨rg, 0, none⟩) rws.length rws.length) := by rw [hFk]; rfl
        have HV : Hid (vecs F n = some (bitL rws)) := Lib.hid (by have := vecs_at (F := F) ⟨n, hn6⟩; rw [hFk] at this; exact this)
        obtain ⟨hr1, hr2, -⟩ := HBR.out.rows.bits _ _ hFk
        have hr2 : rws.length = d + 1 := by rw [HDD.out]; exact hr2
        rw [hr2] at hq
        have HQ := Lib.hid hq
        have HR1 := Lib.hid hr1
        have HR2 := Lib.hid hr2
        clear hFk hq hr1 hr2
        go_wp2_with (refine wpList_lookB rfl (.tmp 72) (.tmp 73) true rfl HBR.out.rows.map rfl ⟨n, hn6⟩ rfl HQ.out ?_; rw [if_pos rfl]; simp only [Option.getD_some, Option.isSome_some])
        go_loop [15, 16, 84] (fun ev _ jv => ∃ j : Nat, jv = .int .i64 j ∧ j ≤ K.length ∧ ev = .bool (!dotx (bitL rws) (bitL is) n j)) (fun _ _ jv => K.length - (intOf jv).toNat)
        case atStart => exact ⟨0, rfl, by omega, rfl⟩
        case round =>
          obtain ⟨j, rfl, hj, rfl⟩ := hrel
          by_cases hlt : j < K.length
          · obtain ⟨q, hq⟩ : ∃ q, q = dotx (bitL rws) (bitL is) n j := ⟨_, rfl⟩
            have HQ2 := Lib.hid hq
            rw [← hq]
            clear hq
            by_cases hjn : j = n
            · have e1 : ((j : Int) != (n : Int)) = false := by simp [hjn]
              have HX : Hid (dotx (bitL rws) (bitL is) n (j + 1) = q) := Lib.hid (by show (dotx _ _ n j != _) = q; rw [← HQ2.out]; simp [hjn])
              clear hjn
              go_wp2_with fail
              go_round
              case rel => exact ⟨j + 1, by go_num, by omega, by rw [HX.out]⟩
              case measure => first | (simp [intOf]; done) | (simp [intOf]; omega)
            · have e1 : ((j : Int) != (n : Int)) = true := by simp; omega
              have hcon := has_any (i := j) HR1.out (by rw [HR2.out]; omega) (by rw [HR2.out]; omega)
              obtain ⟨o1, ho1⟩ : ∃ o, o = bitL rws j := ⟨_, rfl⟩
              rw [← ho1, HR2.out] at hcon
              have hcon2 := has_any (i := j) HBW.out (by rw [HLN.out]; omega) (by rw [HLN.out]; omega)
              obtain ⟨o2, ho2⟩ : ∃ o, o = bitL is j := ⟨_, rfl⟩
              rw [← ho2, HLN.out] at hcon2
              have HX : Hid (dotx (bitL rws) (bitL is) n (j + 1) = (q != (o1 && o2))) := Lib.hid (by show (dotx _ _ n j != _) = _; rw [← HQ2.out, ← ho1, ← ho2]; simp [hjn])
              have HCONA := Lib.hid hcon
              have HCONB := Lib.hid hcon2
              clear hcon hcon2 ho1 ho2 hjn
              go_wp2_with fail
              refine HCONA.out.mono ?_
              rintro e w9 ⟨rfl, rfl⟩
              cases o1 with
              | false =>
                go_wp2_with fail
                go_round
                case rel => exact ⟨j + 1, by go_num, by omega, by rw [HX.out]; simp⟩
                case measure => first | (simp [intOf]; done) | (simp [intOf]; omega)
              | true =>
                go_wp2_with fail
                refine HCONB.out.mono ?_
                rintro e w9 ⟨rfl, rfl⟩
                cases o2 with
                | false =>
                  go_wp2_with fail
                  go_round
                  case rel => exact ⟨j + 1, by go_num, by omega, by rw [HX.out]; simp⟩
                  case measure => first | (simp [intOf]; done) | (simp [intOf]; omega)
                | true =>
                  go_wp2_with fail
                  go_round
                  case rel => exact ⟨j + 1, by go_num, by omega, by rw [HX.out]; simp⟩
                  case measure => first | (simp [intOf]; done) | (simp [intOf]; omega)
          · have HJ : Hid (j = K.length) := Lib.hid (by omega)
            obtain ⟨q, hq⟩ : ∃ q, q = dotx (bitL rws) (bitL is) n j := ⟨_, rfl⟩
            have HQ2 : Hid (dot (bitL rws) (bitL is) K.length = q) := Lib.hid (by rw [← dotx_dot (HI2.out.bit HRO.out HV.out), ← HJ.out, hq])
            rw [← hq]
            clear hq
            cases q with
            | false =>
              go_wp2_with fail
              go_roundw
              case rel => exact Lib.hid ⟨(n : Int) - 1, is, by go_num, by omega, by omega, HE.out, HBW.out, HLN.out, by rw [show ((n : Int) - 1 + 1).toNat = n by omega]; exact HI2.out.keep HV.out HQ2.out⟩
              case measure => first | (simp [intOf]; done) | (simp [intOf]; omega)
            | true =>
              have hcon := flip_any (i := n) HBW.out (by rw [HLN.out]; omega) (by rw [HLN.out]; omega)
              rw [HLN.out] at hcon
              have HCONA := Lib.hid hcon
              clear hcon
              go_wp2_with fail
              refine HCONA.out.mono ?_
              rintro e w9 ⟨rfl, hg9, is', hB9, hl9, hv9⟩
              have HE9 : Hid (Ext w6 w9) := Lib.hid (HE.out.grown hg9 (fun q hq => by cases hq; exact HGI.out))
              have HB9 := Lib.hid hB9
              have HL9 := Lib.hid hl9
              have HI9 := Lib.hid (HI2.out.flip HB.out.plain.ech HRO.out HV.out hnK HQ2.out hv9)
              clear hg9 hB9 hl9 hv9
              go_wp2_with fail
              go_roundw
              case rel => exact Lib.hid ⟨(n : Int) - 1, is', by go_num, by omega, by omega, HE9.out, HB9.out, HL9.out, by rw [show ((n : Int) - 1 + 1).toNat = n by omega]; exact HI9.out⟩
              case measure => first | (simp [intOf]; done) | (simp [intOf]; omega)
    · have hI := HI.out
      rw [show (c + 1).toNat = 0 by omega] at hI
      have HI0 := Lib.hid hI
      have hcz : ¬ 0 ≤ c := h0
      clear hI
      obtain ⟨bb, hbb⟩ : ∃ bb, bb = bitL is := ⟨_, rfl⟩
      have HBB := Lib.hid hbb
      have HSIZ : Hid (∀ j, j ≤ K.length → sizeL (pickK K bb j) ≤ sizeL L + sizeT t) := Lib.hid (fun j hj => by
        have h1 := nodup_sizeL (P := pickK K bb j) (M := allS (L ++ [t])) (asc_nodup (pickK_asc HKA.out bb j hj)) (fun x hx => by
          obtain ⟨i, -, -, hi⟩ := pickK_mem.1 hx
          exact (HKM.out x).1 (List.mem_of_getElem? hi))
        have h2 := allS_sizeL (L ++ [t])
        rw [sizeL_append, sizeL, sizeL] at h2
        have := HZ.out
        omega)
      clear hbb
      obtain ⟨wo, rfl⟩ : ∃ wo, wo = wr := ⟨_, rfl⟩
      go_wp2_with fail
      go_loopw [17, 18, 19, 113] (fun ov _ _ jv wr => Hid (∃ j : Nat, jv = .int .i64 j ∧ j ≤ K.length ∧ OwnT wr wo.heap.size (fun c => c < w3.heap.size) ov (pickK K bb j) ∧ Ext wo wr)) (fun _ _ _ jv _ => K.length - (intOf jv).toNat)
      case atStart => exact Lib.hid ⟨0, rfl, by omega, OwnT.nil, Ext.refl _⟩
      case round =>
        obtain ⟨j, rfl, hj, hO, hE3⟩ := hrel.out
        have HO := Lib.hid hO
        have HE3 := Lib.hid hE3
        have HBR3 := Lib.hid (HBR.out.next hE3)
        have HW3 : Hid (w3.heap.size ≤ wo.heap.size) := Lib.hid HBR.out.ext.size
        clear hrel hO hE3 t0
        by_cases hlt : j < K.length
        · obtain ⟨x, hx⟩ : ∃ x, K[j]? = some x := ⟨_, List.getElem?_eq_getElem hlt⟩
          obtain ⟨ka', kc', hkk, -, -, hts⟩ := id HBR3.out.own.ls
          cases hkk
          obtain ⟨b, off, a2, cap2, hka, y0, y1, y2, y3, hTx⟩ := hts.at hx
          clear hts
          subst hka
          have hcx := hTx.cap
          have hlx := hTx.len
          unfold maxLen at hcx
          have HTX := Lib.hid hTx
          have HX := Lib.hid hx
          clear hx hTx
          obtain ⟨q, hq⟩ : ∃ q, q = wr.heap.size := ⟨_, rfl⟩
          obtain ⟨w10, hw10⟩ : ∃ w', w' = wr.alloc (.cells #[.int .i64 x.kind, .string x.name, .int .i64 x.sort, .slice a2 x.kids.length cap2] 24) := ⟨_, rfl⟩
          have x0 : w10.cell? ⟨q, 0, none⟩ = some (.int .i64 x.kind) := by rw [hw10, hq]; exact cs_new rfl
          have x1 : w10.cell? ⟨q, 1, none⟩ = some (.string x.name) := by rw [hw10, hq]; exact cs_new rfl
          have x2 : w10.cell? ⟨q, 2, none⟩ = some (.int .i64 x.sort) := by rw [hw10, hq]; exact cs_new rfl
          have x3 : w10.cell? ⟨q, 3, none⟩ = some (.slice a2 x.kids.length cap2) := by rw [hw10, hq]; exact cs_new rfl
          have HE10 : Hid (Ext wr w10) := Lib.hid (by rw [hw10]; exact Ext.alloc _ _)
          have hcon := has_any (i := j) (HBW.out.ext (HE3.out.trans HE10.out)) (by rw [HLN.out]; omega) (by rw [HLN.out]; omega)
          rw [HLN.out, ← HBB.out] at hcon
          obtain ⟨o, ho⟩ : ∃ o, o = bb j := ⟨_, rfl⟩
          rw [← ho] at hcon
          have HOO := Lib.hid ho
          have HCONC := Lib.hid hcon
          clear hcon ho
          go_upto_region 29 with fail
          rw [← hw10, ← hq]
          clear hw10 hq y0 y1 y2 y3
          go_wp2_with fail
          refine HCONC.out.mono ?_
          rintro e w11 ⟨rfl, rfl⟩
          cases o with
          | false =>
            go_wp2_with fail
            go_roundw
            case rel => exact Lib.hid ⟨j + 1, by go_num, by omega, by rw [pickK_succ HX.out, ← HOO.out]; simp; exact HO.out.ext HE10.out, HE3.out.trans HE10.out⟩
            case measure => first | (simp [intOf]; done) | (simp [intOf]; omega)
          | true =>
            obtain ⟨w12, hw12⟩ : ∃ w', w' = w10.alloc (.cells #[.int .i64 x.kind, .string x.name, .int .i64 x.sort, .slice a2 x.kids.length cap2] 24) := ⟨_, rfl⟩
            have hE12 : Ext wr w12 := by rw [hw12]; exact HE10.out.then_al _
            have hO12 := HO.out.ext hE12
            have hone : LsT w12 (fun c => c < w3.heap.size) (.slice (some ⟨w10.heap.size, 0, none⟩) 1 1) [x] := one_ls (by rw [hw12]; exact hs_new) (HTX.out.ext hE12)
            have hsz : wo.heap.size ≤ w12.heap.size := (HE3.out.trans hE12).size
            have hoff : ∀ c, c < w3.heap.size → u17.ownBlock ≠ some c := fun c hc e => by have := (HO.out.lt c e).1; have := HW3.out; omega
            have hl1 : (pickK K bb j).length ≤ 1000000 := by have := len_size (pickK K bb j); have := HSIZ.out j hj; have := HZ.out; omega
            have HE12 := Lib.hid hE12
            have HLT12 := Lib.hid HO.out.lt
            clear hE12
            rw [hw12] at hO12 hone hsz
            have HW12 := Lib.hid hw12
            clear hw12
            go_wp2_with (at_builtin; (refine wpList_appT rfl (.tmp 121) (.tmp 123) rfl rfl rfl hO12 hsz hoff hl1 (X := [x]) (by simp) hone ?_); intro v13 w13 o13 g13 k13
                         have HP : Hid (OwnT w13 wo.heap.size (fun c => c < w3.heap.size) v13 (pickK K bb (j + 1)) ∧ Ext wo w13) := Lib.hid ⟨by rw [pickK_succ HX.out, ← HOO.out]; exact o13, by rw [← HW12.out] at g13; exact (HE3.out.trans HE12.out).grown g13 (fun q hq => (HLT12.out q hq).1)⟩
                         clear o13 g13 k13 hO12 hone)
            go_roundw
            case rel => exact Lib.hid ⟨j + 1, by go_num, by omega, HP.out.1, HP.out.2⟩
            case measure => first | (simp [intOf]; done) | (simp [intOf]; omega)
        · obtain ⟨oa, oc, ho, -, hoc, -⟩ := id HO.out.ls
          subst ho
          unfold maxLen at hoc
          have hcon := own_any 80000 wr _ oa oc (pickK K bb j) (Nat.le_trans (HSIZ.out j hj) HZ.out) (by omega) HO.out.ls
          have HCONC := Lib.hid hcon
          have HJ : Hid (j = K.length) := Lib.hid (by omega)
          clear hcon
          go_wp2_with fail
          refine HCONC.out.mono ?_
          rintro e w11 ⟨u, rfl, hE11, hO11⟩
          have HE11 := Lib.hid (((HE1.out.trans HE6.out).trans HE.out).trans (HE3.out.trans hE11))
          have HO11 := Lib.hid hO11.ls
          clear hE11 hO11
          go_wp2_with fail
          go_ret2
          refine ⟨_, 0, _, rfl, HE11.out, HO11.out.wide (fun _ _ _ => trivial), .inr ⟨HR0.out, .inr ⟨HNS.out, rfl, fun hl => ?_⟩⟩, HSIZ.out j hj⟩
          rw [HJ.out]
          refine refute_plain HKA.out HKM.out HB.out.plain (fun l hn hl => HB.out.rows.map.count hn hl) HR0.out HOD.out hcK ?_ hl
          rw [HBB.out]
          exact HI0.out

end Go.Proofs.Ytckgjebcehbkfaa
