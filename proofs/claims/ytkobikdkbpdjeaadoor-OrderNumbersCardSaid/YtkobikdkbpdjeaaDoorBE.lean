/- Contracts: weights of nodes. -/
import Derived.Test.YtkobikdkbpdjeaaDoorBD
namespace Go.Proofs.YtkobikdkbpdjeaaDoor
open Go Go.RowKit
set_option linter.unusedVariables false
set_option linter.unusedSimpArgs false

/-- the weights lie beside a forest -/
structure SW (w : World) (B fb ib mb : Nat) (l : List ByteArray) (lv nv : Value) (N : List Nd) (S : Nat → Prop) (wa : Option Addr) (wc : Nat) (W : List Int) : Prop where
 fw : FW w B fb ib mb l lv nv N S
 ws : LsG elI w (fun c => c < B) (.slice wa W.length wc) W
 len : W.length = l.length
 rng : ∀ v ∈ W, 0 ≤ v ∧ v ≤ 1000
section
variable {w w' : World} {B fb ib mb : Nat} {l : List ByteArray} {lv nv : Value} {N : List Nd} {S : Nat → Prop} {wa : Option Addr} {wc : Nat} {W : List Int}
theorem SW.ext (h : SW w B fb ib mb l lv nv N S wa wc W) (hE : Ext w w') : SW w' B fb ib mb l lv nv N S wa wc W := ⟨h.fw.ext hE, h.ws.ext hE, h.len, h.rng⟩
theorem rnk_hi : ∀ (l : List ByteArray) (s : ByteArray), rnk l s < l.length
 | [], s => by simp [rnk]
 | x :: l, s => by rw [rnk, List.length_cons]; have := rnk_hi l s; push_cast; split <;> (try split) <;> omega
/-- the weight of a node's symbol -/
theorem SW.at (h : SW w B fb ib mb l lv nv N S wa wc W) {x : Nd} (hx : x ∈ N) (hk : x.t.kind ≠ 1) : ∃ r : Nat, x.r = (r : Int) ∧ r < W.length ∧ W[r]? = some (wAt l W x.t.name) := by
 have h1 := h.fw.grown.rank x hx
 have h2 := h.fw.grown.kn x hx
 have h3 := rnk_hi l x.t.name
 have h4 : 0 ≤ x.r := by rcases h2 with h2 | h2 <;> first | exact absurd h2 hk | exact h2
 have hlt : x.r.toNat < W.length := by rw [h.len]; omega
 refine ⟨x.r.toNat, by omega, hlt, ?_⟩
 unfold wAt
 rw [← h1, List.getElem?_eq_getElem hlt]
 rfl
/-- weights are bounded -/
theorem wAt_rng (hW : ∀ v ∈ W, 0 ≤ v ∧ v ≤ 1000) (n : ByteArray) : 0 ≤ wAt l W n ∧ wAt l W n ≤ 1000 := by
 unfold wAt
 cases h : W[(rnk l n).toNat]? with
 | none => simp
 | some v => have := hW v (List.mem_of_getElem? h); simpa using this
mutual
theorem wgt_rng (hW : ∀ v ∈ W, 0 ≤ v ∧ v ≤ 1000) : ∀ t : Tm, 0 ≤ wgt l W t ∧ wgt l W t ≤ 1000 * sizeT t
 | .mk k n s ks => by
   rw [wgt, sizeT]
   have h1 := wAt_rng (l := l) hW n
   have h2 := wgtL_rng hW ks
   push_cast
   split <;> omega
theorem wgtL_rng (hW : ∀ v ∈ W, 0 ≤ v ∧ v ≤ 1000) : ∀ t : List Tm, 0 ≤ wgtL l W t ∧ wgtL l W t ≤ 1000 * sizeL t
 | [] => by simp [wgtL, sizeL]
 | t :: ks => by
   rw [wgtL, sizeL]
   have h1 := wgt_rng hW t
   have h2 := wgtL_rng hW ks
   push_cast
   omega
end
theorem wgtL_take {L : List Tm} {k : Nat} {x : Tm} (h : L[k]? = some x) : wgtL l W (L.take (k + 1)) = wgtL l W (L.take k) + wgt l W x := by
 have key : ∀ (A : List Tm) (x : Tm), wgtL l W (A ++ [x]) = wgtL l W A + wgt l W x := by
  intro A x
  induction A with
  | nil => simp [wgtL]
  | cons y A ih => rw [List.cons_append, wgtL, wgtL, ih]; omega
 rw [List.take_add_one, h, Option.toList_some, key]
theorem wgtL_take_le (hW : ∀ v ∈ W, 0 ≤ v ∧ v ≤ 1000) (L : List Tm) (k : Nat) : 0 ≤ wgtL l W (L.take k) ∧ wgtL l W (L.take k) ≤ 1000 * sizeL L := by
 have h1 := wgtL_rng (l := l) hW (L.take k)
 have h2 := sizeL_take_le L k
 omega
end

set_option maxRecDepth 100000 in
set_option maxHeartbeats 4000000 in
theorem weight_any (n : Nat) : ∀ (w : World) (B fb ib mb : Nat) (l : List ByteArray) (lv nv : Value) (N : List Nd) (S : Nat → Prop) (wa : Option Addr) (wc : Nat) (W : List Int) (i : Nat) (x : Nd), sizeT x.t ≤ n → n ≤ 100000 → SW w B fb ib mb l lv nv N S wa wc W → N.length ≤ 1000 → N[i]? = some x →
 Calls Tryd.prog 50 #[.agg #[.pointer (some ⟨fb, 0, none⟩), .slice wa W.length wc], .int .i64 i] w fun e w' => e = .returned (.int .i64 (wgt l W x.t)) ∧ Ext w w' := by
 induction n with
 | zero => intro w B fb ib mb l lv nv N S wa wc W i x hn; have := sizeT_kids x.t; omega
 | succ n ih =>
   intro w B fb ib mb l lv nv N S wa wc W i x hn hn6 hSW hN hx
   obtain ⟨na, nc, rfl, hn1, hn2⟩ := hSW.fw.row.slice
   unfold maxLen at hn2
   have hwl := hSW.ws.len
   obtain ⟨-, hwl1, hwl2⟩ := hwl
   unfold maxLen at hwl2
   obtain ⟨sx, w1, hsx, hw1, HB1, hE1⟩ := box_new w (.cells #[.pointer (some ⟨fb, 0, none⟩), .slice wa W.length wc] 60)
   have f1 : w1.cell? ⟨fb, 1, none⟩ = some (.slice na N.length nc) := cs_ext hE1 (by rw [cellc hSW.fw.blk]; rfl)
   have s0 : w1.cell? ⟨sx, 0, none⟩ = some (.pointer (some ⟨fb, 0, none⟩)) := by rw [cellc HB1.out]; rfl
   have s1 : w1.cell? ⟨sx, 1, none⟩ = some (.slice wa W.length wc) := by rw [cellc HB1.out]; rfl
   have HSW := Lib.hid (hSW.ext hE1)
   obtain ⟨nrb, nro, xa, xc, xk, xkc, rfl, x0, x1, x2, x3, x4, x5, -, hrI, hLx⟩ := HSW.out.fw.row.any.nAt hx
   have hi := (List.getElem?_eq_some_iff.1 hx).1
   have i1 : (i : Int) < (N.length : Int) := by omega
   have i2 : (0 : Int) ≤ (i : Int) := by omega
   obtain ⟨nb, w2, hnb, hw2, HB2, hE2⟩ := box_new w1 (.cells #[.int .i64 0, .string ⟨#[]⟩, .int .i64 0, .slice none 0 0, .int .i64 0, .slice none 0 0] 67)
   have HE1 := Lib.hid hE1
   have HE2 := Lib.hid hE2
   have HX := Lib.hid hx
   have HLX := Lib.hid hLx
   have HNB : Hid (nb = w1.heap.size) := Lib.hid hnb
   have hxkc := hLx.len.2
   unfold maxLen at hxkc
   clear hSW hE1 hx hLx hE2 hi
   go_enter Tryd.func50, Tryd.ntmps50
   go_upto_region 1 with fail
   rw [← hw1, ← hsx]
   clear hw1 hsx
   go_upto_region 2 with (
    rw [← hnb, ← hw2]
    refine wpList_storeN rfl (.tmp 5) (.tmp 16) rfl (g := nb) rfl (k := x.t.kind) (s := x.t.sort) (n := x.t.name) (ka := xa) (kl := x.t.kids.length) (kc := xc) (r := x.r) (ks := xk) (sl := x.ks.length) (sc := xkc) rfl HB2.out rfl ?_
    intro w3 c3 q3 e3 z3
    have HE3 := Lib.hid (e3 w1 HE2.out (Nat.le_of_eq HNB.out.symm))
    obtain ⟨n0, n1, n2, n3, n4, n5⟩ := box6 c3
    clear c3 q3 e3 z3 hnb hw2)
   have HSW3 := Lib.hid (HSW.out.ext HE3.out)
   have HE03 := Lib.hid (HE1.out.trans HE3.out)
   have HTM := Lib.hid (HSW.out.fw.grown.tm x (List.mem_of_getElem? HX.out))
   by_cases hk1 : x.t.kind = 1
   · have HK := Lib.hid (HTM.out.2.2.2.2 hk1)
     have HW1 : Hid (wgt l W x.t = 1) := Lib.hid (by rw [wgt_kids, if_pos hk1, HK.out]; rfl)
     go_wp2_with fail
     go_ret
     exact ⟨by rw [HW1.out]; rfl, HE03.out⟩
   · obtain ⟨r, hr, hrl, hwr⟩ := HSW.out.at (List.mem_of_getElem? HX.out) hk1
     obtain ⟨wb, wo, rfl, v0, hvI⟩ := HSW3.out.ws.iAt hwr
     have r1 : (r : Int) < (W.length : Int) := by omega
     have r2 : (0 : Int) ≤ (r : Int) := by omega
     have HWG : Hid (wgt l W x.t = wAt l W x.t.name + wgtL l W x.t.kids) := Lib.hid (by rw [wgt_kids, if_neg hk1])
     rw [hr] at n4
     have s0 := cs_ext HE3.out s0
     have s1 := cs_ext HE3.out s1
     have HXL := Lib.hid (HSW.out.fw.grown.len x (List.mem_of_getElem? HX.out))
     have HR := Lib.hid HSW.out.rng
     have hz := sizeT_kids x.t
     obtain ⟨va, hva⟩ : ∃ va, va = wAt l W x.t.name := ⟨_, rfl⟩
     have HVA := Lib.hid hva
     have hvr := wAt_rng (l := l) HR.out x.t.name
     rw [← hva] at v0 hvr HWG
     have hd1 : (x.t.kind == 1) = false := by simp [hk1]
     clear hr hrl hwr hvI hva
     go_wp2_with fail
     go_loopw [6, 30] (fun sv kv wr => ∃ (j : Nat) (sm : Int), kv = .int .i64 j ∧ sv = .int .i64 sm ∧ j ≤ x.ks.length ∧ Hid (sm = va + wgtL l W (x.t.kids.take j)) ∧ Hid (Ext w3 wr)) (fun _ kv _ => x.ks.length - (intOf kv).toNat)
     case atStart => exact ⟨0, va, rfl, rfl, by omega, Lib.hid (by simp [wgtL]), Lib.hid (Ext.refl _)⟩
     case round =>
      clear n0 n1 n2 n3 n4 n5 v0 x0 x1 x2 x3 x4 x5 f1
      obtain ⟨j, sm, rfl, rfl, hj, HSM, HE⟩ := hrel
      by_cases hlt : j < x.ks.length
      · obtain ⟨m0, hm0⟩ : ∃ m0, x.ks[j]? = some m0 := ⟨_, List.getElem?_eq_getElem hlt⟩
        obtain ⟨m, z, rfl, hmi, hz', hzk⟩ := HSW.out.fw.grown.kid i x HX.out j m0 hm0
        obtain ⟨kb, ko, rfl, c0, -⟩ := ((HLX.out.ext HE3.out).ext HE.out).iAt hm0
        have s0 := cs_ext HE.out s0
        have s1 := cs_ext HE.out s1
        have hsz := size_kid (List.mem_of_getElem? hzk)
        have HC := Lib.hid (ih wr B fb ib mb l lv _ N S _ wc W m z (by omega) (by omega) (HSW3.out.ext HE.out) hN hz')
        have HT := Lib.hid (wgtL_take (l := l) (W := W) hzk)
        have hb1 := wgtL_take_le (l := l) HR.out x.t.kids j
        have hb2 := wgt_rng (l := l) HR.out z.t
        obtain ⟨gz, hgz⟩ : ∃ gz, gz = wgt l W z.t := ⟨_, rfl⟩
        rw [← hgz] at HC HT hb2
        have hsm := HSM.out
        have hw64 : -9223372036854775808 ≤ sm + gz ∧ sm + gz ≤ 9223372036854775807 := by omega
        have HW6 := Lib.hid hw64
        clear hm0 hmi hz' hzk hsz hgz hsm hb1 hb2
        go_wp2_with fail
        refine HC.out.mono ?_
        rintro e w5 ⟨rfl, hE5⟩
        have HE5 := Lib.hid (HE.out.trans hE5)
        clear hE5
        go_wp2_with fail
        go_roundw
        case rel => exact ⟨j + 1, sm + gz, by go_num, by go_num, by omega, Lib.hid (by rw [HT.out, HSM.out]; omega), HE5⟩
        case measure => simp [intOf]; omega
      · have hje : j = x.ks.length := by omega
        subst hje
        go_wp2_with fail
        go_ret
        exact ⟨by rw [HWG.out, HSM.out, HXL.out, List.take_length]; rfl, HE03.out.trans HE.out⟩

end Go.Proofs.YtkobikdkbpdjeaaDoor
