/- Contracts: variables counted. -/
import Derived.Test.YtkobikdkbpdjeaaDoorBE
import Derived.Maps.RangeWalk
import Derived.Maps.OwnOps
import Derived.Maps.Views
namespace Go.Proofs.YtkobikdkbpdjeaaDoor
open Go Go.RowKit Go.Maps
set_option linter.unusedVariables false
set_option linter.unusedSimpArgs false

/-- how often a node that is a variable occurs -/
def occ (N : List Nd) (t : Tm) (m : Int) : Int := if 0 ≤ m then (match N[m.toNat]? with | some y => if y.t.kind = 1 then cnt y.t t else 0 | none => 0) else 0
def occL (N : List Nd) (L : List Tm) (m : Int) : Int := if 0 ≤ m then (match N[m.toNat]? with | some y => if y.t.kind = 1 then cntL y.t L else 0 | none => 0) else 0
/-- the map in block cb holds the counts c -/
def CK (w : World) (cb K : Nat) (c : Int → Int) : Prop := ∃ (D : DataW Unit) (n : Nat), n ≤ K ∧ w.ownsMap Tryd.prog 3 (plainElem Tryd.prog 3) cb n D ∧ ∀ m : Int, I64 m → D.atKey (.int .i64 m) (.lit (.int .i64 0)) = .lit (.int .i64 (c m))
theorem lawI : Keyed Tryd.prog 3 := int_keyed Tryd.underlying3
section
variable {w w' : World} {B fb ib mb cb K : Nat} {l : List ByteArray} {lv nv : Value} {N : List Nd} {S : Nat → Prop} {wa : Option Addr} {wc : Nat} {W : List Int} {c : Int → Int}
theorem CK.map (h : CK w cb K c) : ∃ es clock, w.heap[cb]? = some (.map es clock) := let ⟨_, _, _, ⟨es, clock, h, _⟩, _⟩ := h; ⟨es, clock, h⟩
theorem CK.lt (h : CK w cb K c) : cb < w.heap.size := let ⟨_, _, _, h, _⟩ := h; h.lt
theorem CK.ext (h : CK w cb K c) (hE : Ext w w') : CK w' cb K c := by
 obtain ⟨D, n, h1, ⟨es, clock, hb, h2⟩, h3⟩ := h
 exact ⟨D, n, h1, ⟨es, clock, (hE.block (lt_of_get' hb)).trans hb, h2⟩, h3⟩
theorem CK.mono {K' : Nat} (h : CK w cb K c) (hk : K ≤ K') : CK w cb K' c := let ⟨D, n, h1, h2⟩ := h; ⟨D, n, Nat.le_trans h1 hk, h2⟩
theorem CK.congr {c' : Int → Int} (h : CK w cb K c) (hc : ∀ m, c m = c' m) : CK w cb K c' := let ⟨D, n, h1, h2, h3⟩ := h; ⟨D, n, h1, h2, fun m hm => by rw [h3 m hm, hc m]⟩
theorem SW.count (h : SW w B fb ib mb l lv nv N S wa wc W) (hm : ∃ es clock, w.heap[cb]? = some (.map es clock)) (hi : cb ≠ ib) (hB : B ≤ cb) (hg : KFr w w' cb) : SW w' B fb ib mb l lv nv N S wa wc W := by
 obtain ⟨es, clock, hm⟩ := hm
 refine ⟨h.fw.keep hg.size fun c hc h' => hg.block c hc (fun e => ?_), h.ws.keep (fun c hc hlt => hg.block c hlt (by omega)) (fun _ h _ => h) hg.size, h.len, h.rng⟩
 subst e
 rcases h' with h' | h' | h' | h' | h'
 · omega
 · subst h'; rw [h.fw.blk] at hm; simp at hm
 · exact hi h'
 · obtain ⟨cur, e1⟩ := h.fw.row.block h'
   rw [hm] at e1; simp at e1
 · obtain ⟨cur, e1⟩ := h.fw.typ c h' hB
   rw [hm] at e1; simp at e1
theorem occ_kids (N : List Nd) (t : Tm) (m : Int) : occ N t m = (if 0 ≤ m then (match N[m.toNat]? with | some y => if y.t.kind = 1 ∧ t = y.t then 1 else 0 | none => 0) else 0) + occL N t.kids m := by
 unfold occ occL
 split
 · cases N[m.toNat]? with
   | none => rfl
   | some y =>
     simp only
     by_cases h : y.t.kind = 1
     · simp only [h, if_true, true_and]; rw [cnt_kids]
     · simp [h]
 · rfl
theorem occL_nil (N : List Nd) (m : Int) : occL N [] m = 0 := by
 unfold occL
 split
 · cases N[m.toNat]? with
   | none => rfl
   | some y => simp only; split <;> simp [cntL]
 · rfl
theorem occL_take {L : List Tm} {k : Nat} {x : Tm} (h : L[k]? = some x) (m : Int) : occL N (L.take (k + 1)) m = occL N (L.take k) m + occ N x m := by
 have key : ∀ (z : Tm) (A : List Tm) (x : Tm), cntL z (A ++ [x]) = cntL z A + cnt z x := by
  intro z A x
  induction A with
  | nil => simp [cntL]
  | cons y A ih => rw [List.cons_append, cntL, cntL, ih]; omega
 rw [List.take_add_one, h, Option.toList_some]
 unfold occL occ
 split
 · cases N[m.toNat]? with
   | none => rfl
   | some y => simp only; split <;> simp [key]
 · rfl
mutual
theorem cnt_hi (z : Tm) : ∀ t : Tm, cnt z t ≤ sizeT t
 | .mk k n s ks => by
   rw [cnt, sizeT]
   have := cntL_hi z ks
   push_cast
   split <;> omega
theorem cntL_hi (z : Tm) : ∀ t : List Tm, cntL z t ≤ sizeL t
 | [] => by simp [cntL, sizeL]
 | t :: ks => by
   rw [cntL, sizeL]
   have := cnt_hi z t; have := cntL_hi z ks
   push_cast; omega
end
theorem occ_rng (N : List Nd) (t : Tm) (m : Int) : 0 ≤ occ N t m ∧ occ N t m ≤ sizeT t := by
 unfold occ
 split
 · cases N[m.toNat]? with
   | none => simp
   | some y =>
     simp only
     split
     · exact ⟨cnt_lo _ _, cnt_hi _ _⟩
     · simp
 · simp
theorem occL_rng (N : List Nd) (t : List Tm) (m : Int) : 0 ≤ occL N t m ∧ occL N t m ≤ sizeL t := by
 unfold occL
 split
 · cases N[m.toNat]? with
   | none => simp
   | some y =>
     simp only
     split
     · exact ⟨cntL_lo _ _, cntL_hi _ _⟩
     · simp
 · simp
theorem occ_head (hG : Grown l N) {i : Nat} {x : Nd} (hx : N[i]? = some x) (m : Int) : occ N x.t m - occL N x.t.kids m = if x.t.kind = 1 ∧ m = (i : Int) then 1 else 0 := by
 rw [occ_kids]
 by_cases h : x.t.kind = 1 ∧ m = (i : Int)
 · obtain ⟨h1, rfl⟩ := h
   simp [hx, h1]
 · rw [if_neg h]
   split
   · rename_i h0
     cases hy : N[m.toNat]? with
     | none => simp
     | some y =>
       simp only
       rw [if_neg (fun h2 => h ⟨by rw [h2.2]; exact h2.1, by have := hG.once i m.toNat x y hx hy h2.2; omega⟩)]
       omega
   · omega
/-- one is added -/
theorem CK.put {D : DataW Unit} {n : Nat} {i v : Int} (hn : n + 1 ≤ K) (h : w.ownsMap Tryd.prog 3 (plainElem Tryd.prog 3) cb (n + 1) (D.put (.int .i64 i) (.lit (.int .i64 v)))) (hD : IsMap D) (hi : I64 i) (hc : ∀ m : Int, I64 m → D.atKey (.int .i64 m) (.lit (.int .i64 0)) = .lit (.int .i64 (c m))) : CK w cb K (fun m => if m = i then v else c m) := by
 refine ⟨_, n + 1, hn, h, fun m hm => ?_⟩
 by_cases e : m = i
 · subst e
   rw [atKey_put_same (k := .int .i64 m) hD trivial]
   simp
 · rw [atKey_put_other (fun h => e (by cases h; rfl)), hc m hm]
   simp [e]
end

set_option maxRecDepth 100000 in
set_option maxHeartbeats 8000000 in
theorem count_any (n : Nat) : ∀ (w : World) (B fb ib mb : Nat) (l : List ByteArray) (lv nv : Value) (N : List Nd) (S : Nat → Prop) (wa : Option Addr) (wc : Nat) (W : List Int) (cb K : Nat) (c : Int → Int) (C d : Int) (i : Nat) (x : Nd), sizeT x.t ≤ n → n ≤ 100000 → SW w B fb ib mb l lv nv N S wa wc W → N.length ≤ 1000 → N[i]? = some x →
 CK w cb K c → K + sizeT x.t ≤ 1000000 → cb ≠ ib → B ≤ cb → (∀ m, -C ≤ c m ∧ c m ≤ C) → 0 ≤ C → C + sizeT x.t ≤ 1000000 → d = 1 ∨ d = -1 →
 Calls Tryd.prog 61 #[.agg #[.pointer (some ⟨fb, 0, none⟩), .slice wa W.length wc], .int .i64 i, .map (some cb), .int .i64 d] w fun e w' => e = .returned (.tuple #[]) ∧ KFr w w' cb ∧ CK w' cb (K + sizeT x.t) (fun m => c m + d * occ N x.t m) := by
 induction n with
 | zero => intro w B fb ib mb l lv nv N S wa wc W cb K c C d i x hn; have := sizeT_kids x.t; omega
 | succ n ih =>
   intro w B fb ib mb l lv nv N S wa wc W cb K c C d i x hn hn6 hSW hN hx hCK hK6 hci hcB hC hC0 hC6 hd
   obtain ⟨na, nc, rfl, hn1, hn2⟩ := hSW.fw.row.slice
   unfold maxLen at hn2
   obtain ⟨sx, w1, hsx, hw1, HB1, hE1⟩ := box_new w (.cells #[.pointer (some ⟨fb, 0, none⟩), .slice wa W.length wc] 60)
   have f1 : w1.cell? ⟨fb, 1, none⟩ = some (.slice na N.length nc) := cs_ext hE1 (by rw [cellc hSW.fw.blk]; rfl)
   have s0 : w1.cell? ⟨sx, 0, none⟩ = some (.pointer (some ⟨fb, 0, none⟩)) := by rw [cellc HB1.out]; rfl
   have s1 : w1.cell? ⟨sx, 1, none⟩ = some (.slice wa W.length wc) := by rw [cellc HB1.out]; rfl
   have HSW := Lib.hid (hSW.ext hE1)
   obtain ⟨nrb, nro, xa, xc, xk, xkc, rfl, x0, x1, x2, x3, x4, x5, -, hrI, hLx⟩ := HSW.out.fw.row.any.nAt hx
   have hi := (List.getElem?_eq_some_iff.1 hx).1
   have i1 : (i : Int) < (N.length : Int) := by omega
   have i2 : (0 : Int) ≤ (i : Int) := by omega
   have HI64 : Hid (I64 (i : Int)) := Lib.hid (by unfold I64; omega)
   have HE1 := Lib.hid hE1
   have HX := Lib.hid hx
   have HSX : Hid (sx = w.heap.size) := Lib.hid hsx
   have HCK := Lib.hid (hCK.ext hE1)
   have HCL : Hid (cb < w.heap.size) := Lib.hid hCK.lt
   have HCC := Lib.hid hC
   have HCI := Lib.hid hci
   have hxkc := hLx.len.2
   unfold maxLen at hxkc
   have HTM := Lib.hid (HSW.out.fw.grown.tm x (List.mem_of_getElem? HX.out))
   have HXL := Lib.hid (HSW.out.fw.grown.len x (List.mem_of_getElem? HX.out))
   have HD := Lib.hid hd
   clear hSW hE1 hx hLx hi hC hci hd
   go_enter Tryd.func61, Tryd.ntmps61
   go_upto_region 1 with fail
   rw [← hw1, ← hsx]
   clear hw1 hsx
   have HHD : Hid (∀ m : Int, occ N x.t m - occL N x.t.kids m = if x.t.kind = 1 ∧ m = (i : Int) then 1 else 0) := Lib.hid (occ_head HSW.out.fw.grown HX.out)
   by_cases hk1 : x.t.kind = 1
   · obtain ⟨D, n0, hn0, hown, hat0⟩ := HCK.out
     have hkey : keyOf Tryd.prog 3 (.int .i64 (i : Int)) = some (.int .i64 (i : Int)) := keyOf_int_mk Tryd.underlying3 (WalkArith.wf_i64 HI64.out)
     have hdI : d = 1 ∨ d = -1 := HD.out
     go_upto_region 3 with (first
      | (at_lookup
         refine wpList_lookup_own_int _ rfl _ _ 96 rfl 3 3 .i64 lawI Tryd.underlying96 Tryd.underlying3 (Tryd.zeroValue3 _) cb n0 _ rfl hown _ _ rfl hkey ?_
         intro c0 hat hwc
         have hc0 : c0 = c (i : Int) := (by have h := hat0 _ HI64.out; rw [hat] at h; simpa using h)
         have hr : -9223372036854775808 ≤ c0 + d ∧ c0 + d ≤ 9223372036854775807 := (by have := HCC.out (i : Int); omega)
         have HC0 := Lib.hid hc0
         clear hc0)
      | (at_mapUpdate
         refine wpList_mapUpdate_own _ rfl _ _ _ 96 rfl 3 3 lawI Tryd.underlying96 _ cb n0 _ rfl hown (by unfold maxLen; omega) _ _ _ rfl rfl hkey _ [] (plainElem_int Tryd.underlying3 (WalkArith.wf_i64 hr)) ?_
         intro w3 hown3 hg3
         have HCK3 := Lib.hid (CK.put (K := K + 1) (by omega) hown3 hown.isMap HI64.out hat0)
         have HKF : Hid (KFr w1 w3 cb) := Lib.hid ⟨hg3.os, hg3.tape, hg3.output, hg3.size, fun c hc hne => hg3.block c hc (fun e => hne (by cases e; rfl))⟩))
     obtain ⟨c1, hc1⟩ : ∃ c1 : Int → Int, c1 = fun m => if m = (i : Int) then c0 + d else c m := ⟨_, rfl⟩
     rw [← hc1] at HCK3
     have HC1 : Hid (∀ m, c1 m = c m + d * (occ N x.t m - occL N x.t.kids m)) := Lib.hid (fun m => by
      rw [HHD.out m, hc1]
      simp only [hk1, true_and]
      by_cases e : m = (i : Int)
      · subst e; simp [HC0.out]
      · simp [e])
     clear hat hwc hr hg3 hown3 hown hat0 hkey hdI hc1 f1 s0 s1 x0 x1 x2 x3 x4 x5 hk1
     have HSW3 := Lib.hid (HSW.out.count HCK.out.map HCI.out hcB HKF.out)
     obtain ⟨g0, f1, g2, g3⟩ := box4r HSW3.out.fw.blk
     have hsx3 := HKF.out.hs HB1.out (by have := HSX.out; have := HCL.out; omega)
     have s0 : w3.cell? ⟨sx, 0, none⟩ = some (.pointer (some ⟨fb, 0, none⟩)) := by rw [cellc hsx3]; rfl
     have s1 : w3.cell? ⟨sx, 1, none⟩ = some (.slice wa W.length wc) := by rw [cellc hsx3]; rfl
     have HSX3 := Lib.hid hsx3
     obtain ⟨nrb', nro', xa', xc', xk, xkc, e, x0, x1, x2, x3, x4, x5, -, -, hLx⟩ := (HSW3.out.fw.row.ls (S' := fun c => c ≠ cb) (fun c hc _ e => by
      subst e
      obtain ⟨es, cl, hm⟩ := HCK3.out.map
      obtain ⟨cur, e1⟩ := HSW3.out.fw.typ _ hc hcB
      rw [hm] at e1; simp at e1) (fun g hg _ _ e => by
      subst e
      obtain ⟨es, cl, hm⟩ := HCK3.out.map
      obtain ⟨cur, e1⟩ := HSW3.out.fw.row.block hg
      rw [hm] at e1; simp at e1)).nAt HX.out
     cases e
     have hxkc := hLx.len.2
     unfold maxLen at hxkc
     have HLX := Lib.hid hLx
     have hsz := sizeT_kids x.t
     clear g0 g2 g3 hsx3 hLx
     go_wp2_with fail
     go_loopw [36] (fun kv wr => ∃ j : Nat, kv = .int .i64 j ∧ j ≤ x.ks.length ∧ Hid (KFr w3 wr cb ∧ CK wr cb (K + 1 + sizeL (x.t.kids.take j)) (fun m => c1 m + d * occL N (x.t.kids.take j) m))) (fun kv _ => x.ks.length - (intOf kv).toNat)
     case atStart => exact ⟨0, rfl, by omega, Lib.hid ⟨KFr.refl w3, (HCK3.out.mono (by simp)).congr (fun m => by rw [List.take_zero, occL_nil]; omega)⟩⟩
     case round =>
      clear s0 s1 f1 x0 x1 x2 x3 x4 x5
      obtain ⟨j, rfl, hj, HR⟩ := hrel
      by_cases hlt : j < x.ks.length
      · obtain ⟨m0, hm0⟩ : ∃ m0, x.ks[j]? = some m0 := ⟨_, List.getElem?_eq_getElem hlt⟩
        obtain ⟨m, z, rfl, hmi, hz', hzk⟩ := HSW.out.fw.grown.kid i x HX.out j m0 hm0
        obtain ⟨kb, ko, rfl, c0k, -⟩ := ((HLX.out.hold (fun c hc hlt => HR.out.1.block c hlt hc) (fun _ h _ => h))).iAt hm0
        have hsxr := HR.out.1.hs HSX3.out (by have := HSX.out; have := HCL.out; omega)
        have s0 : wr.cell? ⟨sx, 0, none⟩ = some (.pointer (some ⟨fb, 0, none⟩)) := by rw [cellc hsxr]; rfl
        have s1 : wr.cell? ⟨sx, 1, none⟩ = some (.slice wa W.length wc) := by rw [cellc hsxr]; rfl
        have hkz := size_kid (List.mem_of_getElem? hzk)
        have hst := sizeL_take' hzk
        have hsl := sizeL_take_le x.t.kids (j + 1)
        have HC := Lib.hid (ih wr B fb ib mb l lv _ N S wa wc W cb (K + 1 + sizeL (x.t.kids.take j)) _ (C + 1 + sizeL (x.t.kids.take j)) d m z (by omega) (by omega) (HSW3.out.count HCK3.out.map HCI.out hcB HR.out.1) hN hz' HR.out.2 (by omega) HCI.out hcB (fun q => by
         have h1 := HCC.out q
         have h2 := HC1.out q
         have h3 := HHD.out q
         have h4 := occL_rng N (x.t.kids.take j) q
         rcases HD.out with h5 | h5 <;> rw [h5] at h2 ⊢ <;> split at h3 <;> omega) (by omega) (by omega) HD.out)
        have HT := Lib.hid (And.intro hst (fun q => occL_take (N := N) hzk q))
        clear hm0 hmi hz' hzk hkz hst hsl hsxr
        go_wp2_with fail
        refine HC.out.mono ?_
        rintro e w5 ⟨rfl, k5, c5⟩
        have HK5 := Lib.hid (HR.out.1.trans k5)
        have HC5 := Lib.hid c5
        clear k5 c5
        go_wp2_with fail
        go_roundw
        case rel => exact ⟨j + 1, by go_num, by omega, Lib.hid ⟨HK5.out, (HC5.out.mono (by rw [HT.out.1]; omega)).congr (fun q => by rw [HT.out.2 q, Int.mul_add]; omega)⟩⟩
        case measure => simp [intOf]; omega
      · have hje : j = x.ks.length := by omega
        subst hje
        go_wp2_with fail
        go_end0
        refine ⟨rfl, ((KFr.ext HE1.out).trans HKF.out).trans HR.out.1, (HR.out.2.mono (by rw [HXL.out, List.take_length]; omega)).congr (fun q => ?_)⟩
        have h1 := HC1.out q
        rw [HXL.out, List.take_length, h1, Int.mul_sub]
        omega
   · have hd1 : (x.t.kind == 1) = false := by simp [hk1]
     go_upto_region 3 with fail
     obtain ⟨c1, hc1⟩ : ∃ c1 : Int → Int, c1 = c := ⟨_, rfl⟩
     obtain ⟨w3, hw3⟩ : ∃ w3, w3 = w1 := ⟨_, rfl⟩
     have HCK3 : Hid (CK w3 cb (K + 1) c1) := Lib.hid (by rw [hw3, hc1]; exact HCK.out.mono (by omega))
     have HKF : Hid (KFr w1 w3 cb) := Lib.hid (by rw [hw3]; exact KFr.refl _)
     have HC1 : Hid (∀ m, c1 m = c m + d * (occ N x.t m - occL N x.t.kids m)) := Lib.hid (fun m => by
      rw [HHD.out m, hc1]
      simp [hk1])
     rw [← hw3]
     clear hc1 hw3 f1 s0 s1 x0 x1 x2 x3 x4 x5 hk1
     have HSW3 := Lib.hid (HSW.out.count HCK.out.map HCI.out hcB HKF.out)
     obtain ⟨g0, f1, g2, g3⟩ := box4r HSW3.out.fw.blk
     have hsx3 := HKF.out.hs HB1.out (by have := HSX.out; have := HCL.out; omega)
     have s0 : w3.cell? ⟨sx, 0, none⟩ = some (.pointer (some ⟨fb, 0, none⟩)) := by rw [cellc hsx3]; rfl
     have s1 : w3.cell? ⟨sx, 1, none⟩ = some (.slice wa W.length wc) := by rw [cellc hsx3]; rfl
     have HSX3 := Lib.hid hsx3
     obtain ⟨nrb', nro', xa', xc', xk, xkc, e, x0, x1, x2, x3, x4, x5, -, -, hLx⟩ := (HSW3.out.fw.row.ls (S' := fun c => c ≠ cb) (fun c hc _ e => by
      subst e
      obtain ⟨es, cl, hm⟩ := HCK3.out.map
      obtain ⟨cur, e1⟩ := HSW3.out.fw.typ _ hc hcB
      rw [hm] at e1; simp at e1) (fun g hg _ _ e => by
      subst e
      obtain ⟨es, cl, hm⟩ := HCK3.out.map
      obtain ⟨cur, e1⟩ := HSW3.out.fw.row.block hg
      rw [hm] at e1; simp at e1)).nAt HX.out
     cases e
     have hxkc := hLx.len.2
     unfold maxLen at hxkc
     have HLX := Lib.hid hLx
     have hsz := sizeT_kids x.t
     clear g0 g2 g3 hsx3 hLx
     go_wp2_with fail
     go_loopw [36] (fun kv wr => ∃ j : Nat, kv = .int .i64 j ∧ j ≤ x.ks.length ∧ Hid (KFr w3 wr cb ∧ CK wr cb (K + 1 + sizeL (x.t.kids.take j)) (fun m => c1 m + d * occL N (x.t.kids.take j) m))) (fun kv _ => x.ks.length - (intOf kv).toNat)
     case atStart => exact ⟨0, rfl, by omega, Lib.hid ⟨KFr.refl w3, (HCK3.out.mono (by simp)).congr (fun m => by rw [List.take_zero, occL_nil]; omega)⟩⟩
     case round =>
      clear s0 s1 f1 x0 x1 x2 x3 x4 x5
      obtain ⟨j, rfl, hj, HR⟩ := hrel
      by_cases hlt : j < x.ks.length
      · obtain ⟨m0, hm0⟩ : ∃ m0, x.ks[j]? = some m0 := ⟨_, List.getElem?_eq_getElem hlt⟩
        obtain ⟨m, z, rfl, hmi, hz', hzk⟩ := HSW.out.fw.grown.kid i x HX.out j m0 hm0
        obtain ⟨kb, ko, rfl, c0k, -⟩ := ((HLX.out.hold (fun c hc hlt => HR.out.1.block c hlt hc) (fun _ h _ => h))).iAt hm0
        have hsxr := HR.out.1.hs HSX3.out (by have := HSX.out; have := HCL.out; omega)
        have s0 : wr.cell? ⟨sx, 0, none⟩ = some (.pointer (some ⟨fb, 0, none⟩)) := by rw [cellc hsxr]; rfl
        have s1 : wr.cell? ⟨sx, 1, none⟩ = some (.slice wa W.length wc) := by rw [cellc hsxr]; rfl
        have hkz := size_kid (List.mem_of_getElem? hzk)
        have hst := sizeL_take' hzk
        have hsl := sizeL_take_le x.t.kids (j + 1)
        have HC := Lib.hid (ih wr B fb ib mb l lv _ N S wa wc W cb (K + 1 + sizeL (x.t.kids.take j)) _ (C + 1 + sizeL (x.t.kids.take j)) d m z (by omega) (by omega) (HSW3.out.count HCK3.out.map HCI.out hcB HR.out.1) hN hz' HR.out.2 (by omega) HCI.out hcB (fun q => by
         have h1 := HCC.out q
         have h2 := HC1.out q
         have h3 := HHD.out q
         have h4 := occL_rng N (x.t.kids.take j) q
         rcases HD.out with h5 | h5 <;> rw [h5] at h2 ⊢ <;> split at h3 <;> omega) (by omega) (by omega) HD.out)
        have HT := Lib.hid (And.intro hst (fun q => occL_take (N := N) hzk q))
        clear hm0 hmi hz' hzk hkz hst hsl hsxr
        go_wp2_with fail
        refine HC.out.mono ?_
        rintro e w5 ⟨rfl, k5, c5⟩
        have HK5 := Lib.hid (HR.out.1.trans k5)
        have HC5 := Lib.hid c5
        clear k5 c5
        go_wp2_with fail
        go_roundw
        case rel => exact ⟨j + 1, by go_num, by omega, Lib.hid ⟨HK5.out, (HC5.out.mono (by rw [HT.out.1]; omega)).congr (fun q => by rw [HT.out.2 q, Int.mul_add]; omega)⟩⟩
        case measure => simp [intOf]; omega
      · have hje : j = x.ks.length := by omega
        subst hje
        go_wp2_with fail
        go_end0
        refine ⟨rfl, ((KFr.ext HE1.out).trans HKF.out).trans HR.out.1, (HR.out.2.mono (by rw [HXL.out, List.take_length]; omega)).congr (fun q => ?_)⟩
        have h1 := HC1.out q
        rw [HXL.out, List.take_length, h1, Int.mul_sub]
        omega

end Go.Proofs.YtkobikdkbpdjeaaDoor
