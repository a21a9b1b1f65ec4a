/- Contracts: the reference's rows. -/
import Derived.Test.YtckgjebcehbkfaaU5
namespace Go.Proofs.Ytckgjebcehbkfaa
open Go Go.RowKit
set_option linter.unusedVariables false
set_option linter.unusedSimpArgs false

theorem redR_size {M : List Tm} {rows : List (List Tm)} {x : List Tm} (hr : ∀ r ∈ rows, Asc r) (hs : ∀ r ∈ rows, ∀ y ∈ r, y ∈ M) (hx : Asc x) (hxs : ∀ y ∈ x, y ∈ M) (k : Nat) : sizeL (redR (rows.take k) x) ≤ sizeL M :=
  nodup_sizeL (asc_nodup (redR_asc (fun r h => hr r (List.mem_of_mem_take h)) hx)) (redR_sub (P := (· ∈ M)) (fun r h => hr r (List.mem_of_mem_take h)) (fun r h => hs r (List.mem_of_mem_take h)) hx hxs)
theorem OwnT.tyb {w : World} {base n cap : Nat} {S : Nat → Prop} {a : Option Addr} {P : List Tm} (h : OwnT w base S (.slice a n cap) P) : TyB w 24 a := fun b o q e => by
  obtain ⟨E, hE1, h2, -⟩ := h
  rcases h2.2 with ⟨h3, -⟩ | ⟨g, cap2, cur, h3, h4, h5, -⟩
  · simp only [Value.slice.injEq] at h3; rw [h3.1] at e; cases e
  · simp only [Value.slice.injEq] at h3; rw [h3.1] at e; cases e; exact ⟨cur, h5⟩
theorem one_int {w : World} {g n : Nat} (h : w.heap[g]? = some (.cells #[.int .i64 n] 3)) (hn : n ≤ 1000000) : LsI w (.slice (some ⟨g, 0, none⟩) 1 1) (intL [n]) := by
  refine ⟨some ⟨g, 0, none⟩, 1, rfl, by simp [intL], by unfold maxLen; omega, fun i x hi => ?_, fun x hx => ?_⟩
  · cases i with
    | zero => simp [intL] at hi; subst hi; exact ⟨g, 0, rfl, by rw [cellc h]; rfl⟩
    | succ i => simp [intL] at hi
  · simp [intL] at hx; subst hx; unfold I64; omega

/-- rows under way -/
structure RowsS (w wr : World) (ov bv : Value) (L : List Tm) (i : Nat) (E : List RE) (B : List Nat) : Prop where
  own : OwnR wr w.heap.size (fun c => c < w.heap.size) ov E
  bas : OwnN wr w.heap.size bv B
  ext : Ext w wr
  sys : RefS L i (E.map (·.p)) B
  ok : ∀ e ∈ E, okL L.length e.f
  sep : ∀ e ∈ E, ∀ b o q, e.fa = some ⟨b, o, q⟩ → bv.ownBlock ≠ some b
  blen : B.length ≤ i
section
variable {w wr w' : World} {ov bv v' : Value} {L : List Tm} {i : Nat} {E : List RE} {B : List Nat} {r : RE}
theorem RowsS.next (h : RowsS w wr ov bv L i E B) (hE : Ext wr w') : RowsS w w' ov bv L i E B := ⟨h.own.ext hE, h.bas.ext hE, h.ext.trans hE, h.sys, h.ok, h.sep, h.blen⟩
theorem RowsS.basKeep (h : RowsS w wr ov bv L i E B) (hg : wr.grownBy w' ov.ownBlock) : OwnN w' w.heap.size bv B := by
  refine h.bas.keep (fun g hg1 => ?_)
  obtain ⟨cur, hc⟩ := h.bas.block hg1
  refine hg.block g (lt_of_get' hc) (fun e => ?_)
  obtain ⟨cur', hc'⟩ := h.own.block e.symm
  exact ty_ne hc hc' (by decide) rfl
theorem ownR_keep {base : Nat} {S : Nat → Prop} (h : OwnR wr base S ov E) (hb : OwnN wr base bv B) (hsep : ∀ e ∈ E, ∀ b o q, e.fa = some ⟨b, o, q⟩ → bv.ownBlock ≠ some b) (hS : ∀ c, S c → c < base) (hbs : base ≤ wr.heap.size) (hg : wr.grownBy w' bv.ownBlock) : OwnR w' base S ov E := by
  have hty : ∀ (b : Nat) (cur : Array Value) (T : TypeId), wr.heap[b]? = some (.cells cur T) → T ≠ 3 → w'.heap[b]? = wr.heap[b]? := fun b cur T hc hT => hg.block b (lt_of_get' hc) (fun e => by
    obtain ⟨cur', hc'⟩ := hb.block e.symm
    exact ty_ne hc hc' hT rfl)
  refine ⟨ownsRow_same h.1 (fun g hg1 => ?_), fun x hx => ?_⟩
  · obtain ⟨cur, hc⟩ := h.block hg1
    exact hty g cur _ hc (by decide)
  · have hw := h.2 x hx
    exact hw.hold (fun b cur hc => hty b cur _ hc (by decide)) (fun b o q e => hg.block b (hw.tf.lt e) (fun e2 => hsep x hx b o q e e2.symm)) (fun c hc => by
      have h1 := hS c hc
      exact hg.block c (by omega) (fun e => by have := (hb.lt c e.symm).1; omega))
end

set_option maxRecDepth 100000 in
set_option maxHeartbeats 4000000 in
theorem rrows_any {w : World} {S : Nat → Prop} {a : Option Addr} {cap : Nat} {L : List Tm} (hz : sizeL L ≤ 1000) (hL : LsT w S (.slice a L.length cap) L) :
    Calls Try.prog 60 #[.slice a L.length cap] w fun e w' => ∃ ov bv E B, e = .returned (.tuple #[ov, bv]) ∧ RowsS w w' ov bv L L.length E B := by
  obtain ⟨-, hl, hc⟩ := hL.len
  unfold maxLen at hc
  have hll := len_size L
  have HLW := Lib.hid hL.below
  have HZ := Lib.hid hz
  have hl1 : L.length ≤ 1000 := by omega
  clear hL hz hll
  go_enter Try.func60, Try.ntmps60
  go_wp2_with fail
  go_loopw [4, 5, 6, 7] (fun ov bv iv _ wr => Hid (∃ (i : Nat) (E : List RE) (B : List Nat), iv = .int .i64 i ∧ i ≤ L.length ∧ RowsS w wr ov bv L i E B)) (fun _ _ iv _ _ => L.length - (intOf iv).toNat)
  case atStart => exact Lib.hid ⟨0, [], [], rfl, by omega, OwnR.nil, OwnN.nil, Ext.refl _, RefS.zero L, by simp, by simp, by simp⟩
  case round =>
    obtain ⟨i, E, B, rfl, hi, hI⟩ := hrel.out
    have HI := Lib.hid hI
    obtain ⟨oa, oc, hov, hol, hoc⟩ := hI.own.slice
    unfold maxLen at hoc
    subst hov
    clear hrel hI
    by_cases hlt : i < L.length
    · obtain ⟨x, hx⟩ : ∃ x, L[i]? = some x := ⟨_, List.getElem?_eq_getElem hlt⟩
      have hsx := sizeL_get hx
      obtain ⟨b, off, a2, cap2, rfl, y0, y1, y2, y3, hTx⟩ := (HLW.out.ext HI.out.ext).ts.at hx
      have hcx := hTx.cap
      have hlx := hTx.len
      unfold maxLen at hcx
      have hcon := RSummands_any 1000 wr (fun c => c < w.heap.size) a2 cap2 x (by have := HZ.out; omega) (by omega) (fun c hc => by have := HI.out.ext.size; have hc' : c < w.heap.size := hc; omega) hTx
      have HX := Lib.hid hx
      have HCON := Lib.hid hcon
      clear hcon hTx hx hsx
      go_wp2_with fail
      refine HCON.out.mono ?_
      rintro e w3 ⟨u, rfl, hE3, hO3⟩
      obtain ⟨ua, uc, hu, hul, huc, -⟩ := id hO3.ls
      unfold maxLen at huc
      subst hu
      obtain ⟨w4, hw4⟩ : ∃ w4, w4 = w3.alloc (.cells #[.int .i64 (i : Nat)] 3) := ⟨_, rfl⟩
      have hE4 : Ext w3 w4 := by rw [hw4]; exact Ext.alloc _ _
      have HI4 := Lib.hid (HI.out.next (hE3.trans hE4))
      have hbl : ∀ b, u5.ownBlock = some b → b < w3.heap.size := fun b e => by have := (HI.out.bas.lt b e).2; have := hE3.size; omega
      have HBL := Lib.hid hbl
      have hsub : ∀ y ∈ sumT x, y ∈ allS L := fun y hy => List.mem_flatMap.2 ⟨x, List.mem_of_getElem? HX.out, hy⟩
      have hall := allS_sizeL L
      have hrow : ∀ e ∈ E, sizeL e.p ≤ 1000 := fun e he => by
        have hm : e.p ∈ E.map (·.p) := List.mem_map.2 ⟨e, he, rfl⟩
        have := nodup_sizeL (asc_nodup (HI.out.sys.asc _ hm)) (HI.out.sys.sub _ hm)
        have := HZ.out
        omega
      have hcon := rreduce_any (w := w4) (lo := w3.heap.size) (N := L.length) (e0 := { p := sumT x, f := [i], a := ua, cap := uc, fa := some ⟨w3.heap.size, 0, none⟩, fcap := 1 })
        HI4.out.own (fun c hc => by have := HI4.out.ext.size; have hc' : c < w.heap.size := hc; omega) (fun e he => HI.out.sys.ne _ (List.mem_map.2 ⟨e, he, rfl⟩)) HI.out.ok (by omega) (fun e he => HI.out.sys.asc _ (List.mem_map.2 ⟨e, he, rfl⟩)) hrow
        (fun k => Nat.le_trans (redR_size (M := allS L) HI.out.sys.asc HI.out.sys.sub (sumT_asc x) hsub k) (Nat.le_trans hall HZ.out))
        ⟨(hO3.ext hE4).ls, one_int (by rw [hw4]; exact hs_new) (by omega), (hO3.ext hE4).tyb, fun b o q e => by cases e; exact ⟨_, by rw [hw4]; exact hs_new⟩⟩ (sumT_asc x) (okL_one hlt)
        hE4.size (fun b o q e => by cases e; exact Nat.le_refl _)
      have HCON2 := Lib.hid hcon
      clear hcon hbl hsub hall hrow hO3 hE3 hE4 y0 y1 y2 y3
      go_wp2_with ((refine wpList_buildR rfl [_, _] rfl [(0, .slice ua (sumT x).length uc), (1, .slice (some ⟨w3.heap.size, 0, none⟩) 1 1)] rfl (built_row _ _ _ _ _ _) ?_); try rw [← hw4])
      rw [← hw4]
      clear hw4
      refine HCON2.out.mono ?_
      rintro e w5 ⟨r, h5, hE5, hW5, hok5, hq5, hn5⟩
      unfold RE.pv RE.fv at h5
      subst h5
      have hp5 : r.p = redR (E.map (·.p)) (sumT x) := hq5
      clear hq5
      obtain ⟨-, hr1, hr2⟩ := hW5.p.len
      obtain ⟨-, hr3, hr4⟩ := hW5.f.len
      rw [show (intL r.f).length = r.f.length by unfold intL; rw [List.length_map]] at hr3
      unfold maxLen at hr2 hr4
      obtain ⟨p7, hp7⟩ : ∃ p, p = w5.heap.size := ⟨_, rfl⟩
      obtain ⟨w6, hw6⟩ : ∃ w', w' = w5.alloc (.cells #[.slice r.a r.p.length r.cap, .slice r.fa r.f.length r.fcap] 89) := ⟨_, rfl⟩
      have hE6 : Ext w5 w6 := by rw [hw6]; exact Ext.alloc _ _
      have HI6 := Lib.hid (HI4.out.next (hE5.trans hE6))
      have HW6 := Lib.hid (hW5.ext hE6)
      have HOK6 := Lib.hid hok5
      have HP6 := Lib.hid hp5
      have HN6 : Hid (∀ b o q, r.fa = some ⟨b, o, q⟩ → u5.ownBlock ≠ some b) := Lib.hid (fun b o q e e2 => by have := hn5 b o q e; have := HBL.out b e2; omega)
      have x0 : w6.cell? ⟨p7, 0, none⟩ = some (.slice r.a r.p.length r.cap) := by rw [hw6, hp7]; exact cs_new rfl
      have x1 : w6.cell? ⟨p7, 1, none⟩ = some (.slice r.fa r.f.length r.fcap) := by rw [hw6, hp7]; exact cs_new rfl
      clear hE5 hE6 hW5 hok5 hn5 hp5
      go_upto_region 7 with fail
      rw [← hw6, ← hp7]
      clear hw6 hp7
      by_cases hpn : 0 < r.p.length
      · have HNE : Hid (redR (E.map (·.p)) (sumT x) ≠ []) := Lib.hid (fun e => by rw [← HP6.out] at e; rw [e] at hpn; simp at hpn)
        obtain ⟨w7, hw7⟩ : ∃ w', w' = w6.alloc (.cells #[.slice r.a r.p.length r.cap, .slice r.fa r.f.length r.fcap] 89) := ⟨_, rfl⟩
        have hE7 : Ext w6 w7 := by rw [hw7]; exact Ext.alloc _ _
        have hI7 := HI6.out.next hE7
        have HI7 := Lib.hid hI7
        have hOA := hI7.own
        have hszA := hI7.ext.size
        have hBL : E.length ≤ 1000000 := by have := HI6.out.sys.len; rw [List.length_map] at this; omega
        have hcA : w7.cell? ⟨w6.heap.size, 0, none⟩ = some r.pv := by rw [hw7]; exact cs_new rfl
        have hcB : w7.cell? ⟨w6.heap.size, 1, none⟩ = some r.fv := by rw [hw7]; exact cs_new rfl
        have hWA := HW6.out.ext hE7
        have HE7 := Lib.hid hE7
        clear hI7 hE7
        go_upto_region 8 with fail
        rw [hw7] at hOA hszA hcA hcB hWA
        have HW7 := Lib.hid hw7
        clear hw7
        go_upto_region 9 with (at_builtin; (refine wpList_appR rfl (.tmp 28) (.tmp 30) rfl rfl rfl hOA hszA hBL hcA hcB hWA (fun c hc => hc) ?_); intro v8 w8 o8 g8 k8
                               rw [← HW7.out] at g8
                               have HO8 := Lib.hid o8
                               have HB8 := Lib.hid (HI7.out.basKeep g8)
                               have HE8 : Hid (Ext w w8) := Lib.hid (HI7.out.ext.grown g8 (fun q hq => (HI7.out.own.lt q hq).1))
                               clear o8 g8 k8 hOA hszA hcA hcB hWA)
        obtain ⟨w9, hw9⟩ : ∃ w', w' = w8.alloc (.cells #[.int .i64 (i : Nat)] 3) := ⟨_, rfl⟩
        have hE9 : Ext w8 w9 := by rw [hw9]; exact Ext.alloc _ _
        have hOB := HB8.out.ext hE9
        have hszB : w.heap.size ≤ w9.heap.size := (HE8.out.trans hE9).size
        have hBB : B.length ≤ 1000000 := by have := HI6.out.blen; omega
        have HO9 := Lib.hid (HO8.out.ext hE9)
        have HB9 := Lib.hid (HB8.out.ext hE9)
        have HE9 := Lib.hid (HE8.out.trans hE9)
        have hsep : ∀ e ∈ E ++ [r], ∀ b o q, e.fa = some ⟨b, o, q⟩ → u5.ownBlock ≠ some b := fun e he => by
          rcases List.mem_append.1 he with he | he
          · exact HI6.out.sep e he
          · simp at he; subst he; exact HN6.out
        have HSEP := Lib.hid hsep
        rw [hw9] at hOB hszB
        have HW9 := Lib.hid hw9
        clear hw9 hE9 hsep x0 x1
        go_wp2_with (at_builtin; (refine wpList_appN rfl (.tmp 32) (.tmp 34) rfl rfl rfl hOB hszB hBB (x := i) (cs_new rfl) ?_); intro v10 w10 o10 g10 k10
                     rw [← HW9.out] at g10 k10
                     have HR10 : Hid (RowsS w w10 v8 v10 L (i + 1) (E ++ [r]) (B ++ [i])) := Lib.hid ⟨ownR_keep HO9.out HB9.out HSEP.out (fun c hc => hc) HE9.out.size g10, o10, HE9.out.grown g10 (fun q hq => (HB9.out.lt q hq).1), by
                         rw [List.map_append, List.map_cons, List.map_nil, HP6.out]
                         exact HI6.out.sys.add HX.out HNE.out, fun e he => by
                         rcases List.mem_append.1 he with he | he
                         · exact HI6.out.ok e he
                         · simp at he; subst he; exact HOK6.out, fun e he b o q e1 e2 => by
                         rcases k10 with k | k
                         · rw [k] at e2; exact HSEP.out e he b o q e1 e2
                         · rw [k] at e2
                           have := (HO9.out.2 e he).tf.lt e1
                           simp only [Option.some.injEq] at e2
                           omega, by have := HI6.out.blen; simp; omega⟩
                     clear o10 g10 k10 hOB)
        go_roundw
        case rel => exact Lib.hid ⟨i + 1, _, _, by go_num, by omega, HR10.out⟩
        case measure => first | (simp [intOf]; done) | (simp [intOf]; omega)
      · have HNE : Hid (redR (E.map (·.p)) (sumT x) = []) := Lib.hid (by rw [← HP6.out]; exact List.length_eq_zero_iff.1 (by omega))
        go_wp2_with fail
        go_roundw
        case rel => exact Lib.hid ⟨i + 1, E, B, by go_num, by omega, HI6.out.own, HI6.out.bas, HI6.out.ext, HI6.out.sys.skip HX.out HNE.out, HI6.out.ok, HI6.out.sep, by have := HI6.out.blen; omega⟩
        case measure => first | (simp [intOf]; done) | (simp [intOf]; omega)
    · go_wp2_with fail
      have hend : i = L.length := by omega
      subst hend
      go_ret2
      exact ⟨_, _, E, B, rfl, HI.out⟩

end Go.Proofs.Ytckgjebcehbkfaa
