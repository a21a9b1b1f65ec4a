/- Contracts: Check of both. -/
import Derived.Test.YtckgjebcehbkfaaG8
import Derived.Test.YtckgjebcehbkfaaG4
namespace Go.Proofs.Ytckgjebcehbkfaa
open Go Go.RowKit
set_option linter.unusedVariables false
set_option linter.unusedSimpArgs false

/-- the numbers C lie one behind the other at address a -/
def IntsA (w : World) (a : Option Addr) (C : List Int) : Prop := ∀ (i : Nat) x, C[i]? = some x → ∃ b off, a = some ⟨b, off, none⟩ ∧ w.cell? ⟨b, off + i, none⟩ = some (.int .i64 x)
theorem IntsA.ext {w w' : World} {a : Option Addr} {C : List Int} (h : IntsA w a C) (hE : Ext w w') : IntsA w' a C := fun i x hi =>
  let ⟨b, off, e, hc⟩ := h i x hi
  ⟨b, off, e, cs_ext hE hc⟩
/-- the slice v reads as the numbers C -/
def LsI (w : World) (v : Value) (C : List Int) : Prop := ∃ a cap, v = .slice a C.length cap ∧ C.length ≤ cap ∧ cap ≤ maxLen ∧ IntsA w a C ∧ ∀ x ∈ C, I64 x
theorem LsI.ext {w w' : World} {v : Value} {C : List Int} (h : LsI w v C) (hE : Ext w w') : LsI w' v C :=
  let ⟨a, cap, e, h1, h2, h3, h4⟩ := h
  ⟨a, cap, e, h1, h2, h3.ext hE, h4⟩
theorem LsI.ints {w : World} {a : Option Addr} {n cap : Nat} {C : List Int} (h : LsI w (.slice a n cap) C) : IntsA w a C := by
  obtain ⟨a', cap', e, -, -, h, -⟩ := h
  cases e
  exact h
theorem LsI.len {w : World} {a : Option Addr} {n cap : Nat} {C : List Int} (h : LsI w (.slice a n cap) C) : n = C.length ∧ C.length ≤ cap ∧ cap ≤ maxLen := by
  obtain ⟨a', cap', e, h1, h2, -⟩ := h
  cases e
  exact ⟨rfl, h1, h2⟩
theorem LsI.i64 {w : World} {v : Value} {C : List Int} (h : LsI w v C) : ∀ x ∈ C, I64 x := let ⟨_, _, _, _, _, _, h⟩ := h; h

/-- indices in range, ascending -/
def okC (n : Nat) (C : List Int) : Prop := (∀ x ∈ C, 0 ≤ x ∧ x < n) ∧ C.Pairwise (· < ·)
instance (n : Nat) (C : List Int) : Decidable (okC n C) := by unfold okC; infer_instance
/-- the elements that are chosen -/
def selS (L : List Tm) (C : List Int) : List Tm := C.filterMap (fun k => L[k.toNat]?)
def chkS (L : List Tm) (t : Tm) (C : List Int) : Bool := decide (rightS L [t] = 0) && decide (okC L.length C) && decide (sumL (selS L C) [] = sumT t)
theorem okC_nil {n : Nat} : okC n [] := ⟨by simp, by simp⟩
theorem int_take {C : List Int} {k : Nat} {x : Int} (h : C[k]? = some x) : C.take (k + 1) = C.take k ++ [x] := by rw [List.take_add_one, h]; rfl
theorem okC_first {n : Nat} {C : List Int} {x : Int} (h : C[0]? = some x) (h0 : 0 ≤ x) (hn : x < n) : okC n (C.take 1) := by
  rw [int_take h]
  exact ⟨by simp; omega, by simp⟩
theorem okC_next {n : Nat} {C : List Int} {m : Nat} {x y : Int} (h : okC n (C.take (m + 1))) (hy : C[m]? = some y) (hx : C[m + 1]? = some x) (h0 : 0 ≤ x) (hn : x < n) (hlt : y < x) : okC n (C.take (m + 1 + 1)) := by
  rw [int_take hx]
  refine ⟨fun z hz => ?_, ?_⟩
  · rcases List.mem_append.1 hz with hz | hz
    · exact h.1 z hz
    · simp at hz; subst hz; exact ⟨h0, hn⟩
  · rw [int_take hy] at h ⊢
    have hp := h.2
    refine List.pairwise_append.2 ⟨hp, by simp, fun a ha b hb => ?_⟩
    simp at hb
    subst hb
    rcases List.mem_append.1 ha with ha | ha
    · have := (List.pairwise_append.1 hp).2.2 a ha y (by simp); omega
    · simp at ha; omega
theorem okC_bad {n : Nat} {C : List Int} {k : Nat} {x : Int} (hx : C[k]? = some x) (h : x < 0 ∨ n ≤ x) : ¬ okC n C := fun hok => by
  have := hok.1 x (List.mem_of_getElem? hx)
  omega
theorem okC_bad2 {n : Nat} {C : List Int} {m : Nat} {x y : Int} (hy : C[m]? = some y) (hx : C[m + 1]? = some x) (h : x ≤ y) : ¬ okC n C := fun hok => by
  obtain ⟨h1, rfl⟩ := List.getElem?_eq_some_iff.1 hy
  obtain ⟨h2, rfl⟩ := List.getElem?_eq_some_iff.1 hx
  have := List.pairwise_iff_getElem.1 hok.2 m (m + 1) h1 h2 (by omega)
  omega
theorem selS_take {L : List Tm} {C : List Int} {k : Nat} {x : Int} {t : Tm} (hx : C[k]? = some x) (ht : L[x.toNat]? = some t) : selS L (C.take (k + 1)) = selS L (C.take k) ++ [t] := by
  unfold selS
  rw [int_take hx, List.filterMap_append]
  simp [ht]
theorem selS_mem {L : List Tm} {C : List Int} {t : Tm} (h : t ∈ selS L C) : t ∈ L := by
  unfold selS at h
  obtain ⟨k, -, hk⟩ := List.mem_filterMap.1 h
  exact List.mem_of_getElem? hk
theorem selS_len {L : List Tm} {C : List Int} : (selS L C).length ≤ C.length := List.length_filterMap_le _ _
theorem selS_size {L : List Tm} {C : List Int} (hC : C.length ≤ 200) (hL : ∀ x ∈ L, sizeT x ≤ 300) : sizeL (selS L C) ≤ 60000 := by
  have h1 := sizeL_le_mul (L := selS L C) (n := 300) (fun y hy => hL y (selS_mem hy))
  have h2 := selS_len (L := L) (C := C)
  have : (selS L C).length * 300 ≤ 200 * 300 := Nat.mul_le_mul_right _ (by omega)
  omega
theorem sumL_snoc {L acc : List Tm} {t : Tm} : sumL (L ++ [t]) acc = plusS (sumL L acc) (sumT t) := by rw [sumL_append]; simp [sumL]
theorem plusS_self (A : List Tm) : plusS A A = [] := by
  induction A with
  | nil => simp [plusS]
  | cons x A ih => rw [plusS, (cmpT_zero x x).2 rfl]; simpa using ih
theorem plusS_empty {A B : List Tm} (hA : Asc A) (hB : Asc B) : plusS A B = [] ↔ A = B := by
  constructor
  · intro h
    refine asc_eq hA hB (fun x => ?_)
    have := plusS_mem A B hA hB x
    rw [h] at this
    simpa using this
  · rintro rfl; exact plusS_self A
theorem sel_facts {L : List Tm} {C : List Int} (hC : C.length ≤ 200) (hL : ∀ x ∈ L, sizeT x ≤ 300) (k : Nat) : (sumL (selS L (C.take k)) []).length ≤ 60000 ∧ Asc (sumL (selS L (C.take k)) []) ∧ ∀ y ∈ sumL (selS L (C.take k)) [], sizeT y ≤ 60000 := by
  have h1 := selS_size (L := L) (C := C.take k) (by rw [List.length_take]; omega) hL
  refine ⟨by have := sumL_len (selS L (C.take k)) []; simp at this; omega, sumL_asc _ _ (by simp), fun y hy => ?_⟩
  rcases sumL_size _ _ y hy with h | h
  · simp at h
  · omega

set_option maxRecDepth 100000 in
set_option maxHeartbeats 4000000 in
theorem PCheck_any {w : World} {S S' : Nat → Prop} {a a' a'' : Option Addr} {cap cap' cap'' : Nat} {L : List Tm} {t : Tm} {C : List Int} (hL3 : ∀ x ∈ L, sizeT x ≤ 300) (ht3 : sizeT t ≤ 300) (hll : L.length ≤ 1000000) (hC2 : C.length ≤ 200) (hL : LsT w S (.slice a L.length cap) L) (hT : TmW w S' a' cap' t) (hC : LsI w (.slice a'' C.length cap'') C) :
    Calls Try.prog 32 #[.slice a L.length cap, .agg #[.int .i64 t.kind, .string t.name, .int .i64 t.sort, .slice a' t.kids.length cap'], .slice a'' C.length cap''] w fun e w' => e = .returned (.bool (chkS L t C)) ∧ Ext w w' := by
  have hl' := hT.len
  have hc' := hT.cap
  obtain ⟨-, hl1, hc1⟩ := hL.len
  obtain ⟨-, hl2, hc2⟩ := hC.len
  unfold maxLen at hc' hc1 hc2
  obtain ⟨bx, hbx⟩ : ∃ bx, bx = w.heap.size := ⟨_, rfl⟩
  obtain ⟨w1, hw1⟩ : ∃ w1, w1 = w.alloc (.cells #[.int .i64 t.kind, .string t.name, .int .i64 t.sort, .slice a' t.kids.length cap'] 24) := ⟨_, rfl⟩
  have h0 : w1.heap[bx]? = some (.cells #[.int .i64 t.kind, .string t.name, .int .i64 t.sort, .slice a' t.kids.length cap'] 24) := by rw [hw1, hbx]; exact hs_new
  have hE1 : Ext w w1 := by rw [hw1]; exact Ext.alloc w _
  have b0 : w1.cell? ⟨bx, 0, none⟩ = some (.int .i64 t.kind) := by rw [cellc h0]; rfl
  have b1 : w1.cell? ⟨bx, 1, none⟩ = some (.string t.name) := by rw [cellc h0]; rfl
  have b2 : w1.cell? ⟨bx, 2, none⟩ = some (.int .i64 t.sort) := by rw [cellc h0]; rfl
  have b3 : w1.cell? ⟨bx, 3, none⟩ = some (.slice a' t.kids.length cap') := by rw [cellc h0]; rfl
  have hcon := right_any (w := w1.alloc (.cells #[.int .i64 t.kind, .string t.name, .int .i64 t.sort, .slice a' t.kids.length cap'] 24)) (M := [t]) (fun x hx => by have := hL3 x hx; omega) (fun x hx => by simp at hx; subst hx; omega) (by simp) (hL.any.ext (hE1.then_al _)) (one_ls (a := a') (cap := cap') hs_new (hT.any.ext (hE1.then_al _)))
  obtain ⟨er, her⟩ : ∃ er, er = rightS L [t] := ⟨_, rfl⟩
  rw [← her] at hcon
  have HR : Hid (chkS L t C = (decide (er = 0) && decide (okC L.length C) && decide (sumL (selS L C) [] = sumT t))) := Lib.hid (by rw [chkS, her])
  have HCON := Lib.hid hcon
  have HL := Lib.hid (hL.below.ext hE1)
  have HT := Lib.hid (hT.below.ext hE1)
  have HC := Lib.hid (hC.ints.ext hE1)
  have HCI := Lib.hid hC.i64
  have HE1 := Lib.hid hE1
  have H0 := Lib.hid h0
  have HL3 := Lib.hid hL3
  have HSF := Lib.hid (sel_facts hC2 hL3)
  have HHI : Hid (okC L.length C → chkS L t C = true → True) := Lib.hid (fun _ _ => trivial)
  have hc200 : C.length ≤ 200 := hC2
  clear hL hT hC hE1 h0 hL3 hcon her hC2 HHI
  go_enter Try.func32, Try.ntmps32
  go_upto_region 1 with fail
  rw [← hw1, ← hbx]
  clear hw1 hbx
  go_wp2_with fail
  refine HCON.out.mono ?_
  rintro e w2 ⟨rfl, hE2⟩
  have hE2 := (Ext.alloc w1 _).trans hE2
  have HE2 := Lib.hid hE2
  clear hE2 b0 b1 b2 b3
  by_cases hz : er = 0
  case neg =>
    have e1 : (er != 0) = true := by simp [hz]
    have HRR : Hid (chkS L t C = false) := Lib.hid (by rw [HR.out, decide_eq_false hz]; rfl)
    clear hz
    go_wp2_with fail
    go_ret
    exact ⟨rb HRR.out.symm, HE1.out.trans HE2.out⟩
  have e1 : (er != 0) = false := by simp [hz]
  have HRE : Hid (chkS L t C = (decide (okC L.length C) && decide (sumL (selS L C) [] = sumT t))) := Lib.hid (by rw [HR.out, decide_eq_true hz]; simp)
  clear hz
  have HBAD : Hid (¬ okC L.length C → chkS L t C = false) := Lib.hid (fun h => by rw [HRE.out, decide_eq_false h]; rfl)
  go_wp2_with fail
  go_loopw [7, 8, 9, 17] (fun ov _ _ kv wr => ∃ k : Nat, kv = .int .i64 k ∧ k ≤ C.length ∧ okC L.length (C.take k) ∧ OwnT wr w1.heap.size (fun c => c < w.heap.size) ov (sumL (selS L (C.take k)) []) ∧ Ext w1 wr) (fun _ _ _ kv _ => C.length - (intOf kv).toNat)
  case atStart => exact ⟨0, rfl, by omega, by simp; exact okC_nil, by simp [selS, sumL]; exact OwnT.nil, HE2.out⟩
  case round =>
    obtain ⟨k, rfl, hk, hok, hO, hE⟩ := hrel
    have HOK := Lib.hid hok
    have HO := Lib.hid hO
    have HE := Lib.hid hE
    obtain ⟨oa, oc, ho, -, -, -⟩ := id hO.ls
    subst ho
    clear hok hO hE
    by_cases hlt : k < C.length
    · obtain ⟨x, hx⟩ : ∃ x, C[k]? = some x := ⟨_, List.getElem?_eq_getElem hlt⟩
      obtain ⟨cb, co, rfl, x0⟩ := (HC.out.ext HE.out) k x hx
      have hxi := HCI.out x (List.mem_of_getElem? hx)
      unfold I64 at hxi
      obtain ⟨hxi1, hxi2⟩ := hxi
      have HX := Lib.hid hx
      clear hx
      rcases (by omega : x < 0 ∨ (0 ≤ x ∧ (L.length : Int) ≤ x) ∨ (0 ≤ x ∧ x < L.length)) with hb | ⟨hb1, hb2⟩ | ⟨hg1, hg2⟩
      · have d1 : decide (x < 0) = true := decide_eq_true hb
        have HRR : Hid (chkS L t C = false) := Lib.hid (HBAD.out (okC_bad HX.out (.inl hb)))
        go_wp2_with fail
        go_ret
        exact ⟨rb HRR.out.symm, HE1.out.trans HE.out⟩
      · have d1 : decide (x < 0) = false := decide_eq_false (by omega)
        have d1' : ¬ x < 0 := by omega
        have d2 : decide ((L.length : Int) ≤ x) = true := decide_eq_true hb2
        have HRR : Hid (chkS L t C = false) := Lib.hid (HBAD.out (okC_bad HX.out (.inr hb2)))
        go_wp2_with fail
        go_ret
        exact ⟨rb HRR.out.symm, HE1.out.trans HE.out⟩
      · have d1 : decide (x < 0) = false := decide_eq_false (by omega)
        have d1' : ¬ x < 0 := by omega
        have d2 : decide ((L.length : Int) ≤ x) = false := decide_eq_false (by omega)
        have d2' : ¬ (L.length : Int) ≤ x := by omega
        by_cases hk0 : k = 0
        · have HK0 := Lib.hid hk0
          have d3 : decide ((0 : Int) < k) = false := decide_eq_false (by omega)
          have d4 : ¬ 0 < k := by omega
          clear hk0
          have HNEXT : Hid (okC L.length (C.take (k + 1))) := Lib.hid (by have := HX.out; have e := HK0.out; subst e; exact okC_first this hg1 hg2)
          obtain ⟨p, hp⟩ : ∃ p : Nat, x = p := ⟨x.toNat, by omega⟩
          subst hp
          have hpl : p < L.length := by omega
          obtain ⟨s, hs⟩ : ∃ s, L[p]? = some s := ⟨_, List.getElem?_eq_getElem hpl⟩
          obtain ⟨xb, xo, xa, xc, rfl, s0, s1, s2, s3, hTs⟩ := (HL.out.ext HE.out).ts.at hs
          have hs6 := HL3.out s (List.mem_of_getElem? hs)
          have HSEL : Hid (sumL (selS L (C.take (k + 1))) [] = plusS (sumL (selS L (C.take k)) []) (sumT s)) := Lib.hid (by rw [selS_take HX.out (by simpa using hs), sumL_snoc])
          have hsm := HSF.out k
          have HBS : Hid ((sumT s).length ≤ 300 ∧ Asc (sumT s) ∧ ∀ y ∈ sumT s, sizeT y ≤ 300) := Lib.hid ⟨by have := sumT_len s; omega, sumT_asc s, fun y hy => by have := sumT_size s y hy; omega⟩
          have hcon := summands_any 90000 wr _ xa xc s (by omega) (Nat.le_refl _) (fun c hc => Nat.lt_of_lt_of_le hc (HE1.out.trans HE.out).size) hTs
          obtain ⟨P, hP⟩ : ∃ P, P = sumL (selS L (C.take k)) [] := ⟨_, rfl⟩
          obtain ⟨Q, hQ⟩ : ∃ Q, Q = sumT s := ⟨_, rfl⟩
          rw [← hP] at HO hsm HSEL
          simp only [← hP]
          rw [← hQ] at hcon HSEL HBS
          have HSM2 := Lib.hid hsm
          have HCON4 := Lib.hid hcon
          clear hs hTs hcon hP hQ hsm hs6
          go_wp2_with fail
          refine HCON4.out.mono ?_
          rintro e w4 ⟨u, rfl, hE4, hO4⟩
          obtain ⟨ua, uc, hu, -, -, -⟩ := id hO4.ls
          subst hu
          have hcp := plus_any (fun y hy => by have := HSM2.out.2.2 y hy; omega) (fun y hy => by have := HBS.out.2.2 y hy; omega) (by have := HSM2.out.1; have := HBS.out.1; omega) (fun c hc => Nat.lt_of_lt_of_le hc ((HE1.out.trans HE.out).trans hE4).size) (HO.out.ext hE4).ls hO4.ls
          have HE4 := Lib.hid (HE.out.trans hE4)
          have HCP := Lib.hid hcp
          clear hE4 hO4 hcp
          go_wp2_with fail
          refine HCP.out.mono ?_
          rintro e w5 ⟨u, rfl, hE5, hO5⟩
          have HE5 := Lib.hid (HE4.out.trans hE5)
          have HO5 := Lib.hid (hO5.low HE4.out.size)
          clear hE5 hO5
          go_wp2_with fail
          go_roundw
          case rel => exact ⟨k + 1, by go_num, by omega, HNEXT.out, by rw [HSEL.out]; exact HO5.out, HE5.out⟩
          case measure => simp [intOf]; omega
        · obtain ⟨m, rfl⟩ : ∃ m, k = m + 1 := ⟨k - 1, by omega⟩
          obtain ⟨y, hy⟩ : ∃ y, C[m]? = some y := ⟨_, List.getElem?_eq_getElem (by omega)⟩
          obtain ⟨cb', co', hce, y0⟩ := (HC.out.ext HE.out) m y hy
          cases hce
          have hyi := HCI.out y (List.mem_of_getElem? hy)
          unfold I64 at hyi
          obtain ⟨hyi1, hyi2⟩ := hyi
          have HY := Lib.hid hy
          have d3 : decide ((0 : Int) < (m : Int) + 1) = true := decide_eq_true (by omega)
          have d4 : 0 < m + 1 := by omega
          have hm1 : ((m : Int) + 1).toNat = m + 1 := by omega
          have hwr1 : IntKind.i64.wrap (m : Int) = m := by rw [IntKind.wrap_i64]; omega
          have hmlt : m < C.length := by omega
          have hmltz : (m : Int) < C.length := by omega
          have hm0 : (0 : Int) ≤ (m : Int) + 1 := by omega
          have hmlt2 : (m : Int) + 1 < C.length := by omega
          clear hy hk0
          by_cases hyx : x ≤ y
          · have d5 : decide (x ≤ y) = true := decide_eq_true hyx
            have HRR : Hid (chkS L t C = false) := Lib.hid (HBAD.out (okC_bad2 HY.out HX.out hyx))
            go_wp2_with fail
            go_ret
            exact ⟨rb HRR.out.symm, HE1.out.trans HE.out⟩
          · have d5 : decide (x ≤ y) = false := decide_eq_false hyx
            have d5' : ¬ x ≤ y := hyx
            have HNEXT : Hid (okC L.length (C.take (m + 1 + 1))) := Lib.hid (okC_next HOK.out HY.out HX.out hg1 hg2 (by omega))
            obtain ⟨p, hp⟩ : ∃ p : Nat, x = p := ⟨x.toNat, by omega⟩
            subst hp
            have hpl : p < L.length := by omega
            obtain ⟨s, hs⟩ : ∃ s, L[p]? = some s := ⟨_, List.getElem?_eq_getElem hpl⟩
            obtain ⟨xb, xo, xa, xc, rfl, s0, s1, s2, s3, hTs⟩ := (HL.out.ext HE.out).ts.at hs
            have hs6 := HL3.out s (List.mem_of_getElem? hs)
            have HSEL : Hid (sumL (selS L (C.take (m + 1 + 1))) [] = plusS (sumL (selS L (C.take (m + 1))) []) (sumT s)) := Lib.hid (by rw [selS_take HX.out (by simpa using hs), sumL_snoc])
            have hsm := HSF.out (m + 1)
            have HBS : Hid ((sumT s).length ≤ 300 ∧ Asc (sumT s) ∧ ∀ y ∈ sumT s, sizeT y ≤ 300) := Lib.hid ⟨by have := sumT_len s; omega, sumT_asc s, fun y hy => by have := sumT_size s y hy; omega⟩
            have hcon := summands_any 90000 wr _ xa xc s (by omega) (Nat.le_refl _) (fun c hc => Nat.lt_of_lt_of_le hc (HE1.out.trans HE.out).size) hTs
            obtain ⟨P, hP⟩ : ∃ P, P = sumL (selS L (C.take (m + 1))) [] := ⟨_, rfl⟩
            obtain ⟨Q, hQ⟩ : ∃ Q, Q = sumT s := ⟨_, rfl⟩
            rw [← hP] at HO hsm HSEL
            simp only [← hP]
            rw [← hQ] at hcon HSEL HBS
            have HSM2 := Lib.hid hsm
            have HCON4 := Lib.hid hcon
            clear hs hTs hcon hP hQ hsm hs6
            go_wp2_with fail
            refine HCON4.out.mono ?_
            rintro e w4 ⟨u, rfl, hE4, hO4⟩
            obtain ⟨ua, uc, hu, -, -, -⟩ := id hO4.ls
            subst hu
            have hcp := plus_any (fun y hy => by have := HSM2.out.2.2 y hy; omega) (fun y hy => by have := HBS.out.2.2 y hy; omega) (by have := HSM2.out.1; have := HBS.out.1; omega) (fun c hc => Nat.lt_of_lt_of_le hc ((HE1.out.trans HE.out).trans hE4).size) (HO.out.ext hE4).ls hO4.ls
            have HE4 := Lib.hid (HE.out.trans hE4)
            have HCP := Lib.hid hcp
            clear hE4 hO4 hcp
            go_wp2_with fail
            refine HCP.out.mono ?_
            rintro e w5 ⟨u, rfl, hE5, hO5⟩
            have HE5 := Lib.hid (HE4.out.trans hE5)
            have HO5 := Lib.hid (hO5.low HE4.out.size)
            clear hE5 hO5
            go_wp2_with fail
            go_roundw
            case rel => exact ⟨m + 1 + 1, by go_num, by omega, HNEXT.out, by rw [HSEL.out]; exact HO5.out, HE5.out⟩
            case measure => simp [intOf]; omega
    · have HTK : Hid (C.take k = C) := Lib.hid (List.take_of_length_le (by omega))
      have HRF : Hid (chkS L t C = decide (sumL (selS L C) [] = sumT t)) := Lib.hid (by rw [HRE.out, decide_eq_true (HTK.out ▸ HOK.out)]; rfl)
      have hO := HO.out
      have hsm := HSF.out k
      rw [HTK.out] at hO hsm
      simp only [HTK.out]
      have h0 := hs_ext HE.out H0.out
      have b0 : wr.cell? ⟨bx, 0, none⟩ = some (.int .i64 t.kind) := by rw [cellc h0]; rfl
      have b1 : wr.cell? ⟨bx, 1, none⟩ = some (.string t.name) := by rw [cellc h0]; rfl
      have b2 : wr.cell? ⟨bx, 2, none⟩ = some (.int .i64 t.sort) := by rw [cellc h0]; rfl
      have b3 : wr.cell? ⟨bx, 3, none⟩ = some (.slice a' t.kids.length cap') := by rw [cellc h0]; rfl
      have hcon := summands_any 90000 wr _ a' cap' t (by omega) (Nat.le_refl _) (fun c hc => Nat.lt_of_lt_of_le hc (HE1.out.trans HE.out).size) (HT.out.ext HE.out)
      have HBS : Hid ((sumT t).length ≤ 300 ∧ Asc (sumT t) ∧ ∀ y ∈ sumT t, sizeT y ≤ 300) := Lib.hid ⟨by have := sumT_len t; omega, sumT_asc t, fun y hy => by have := sumT_size t y hy; omega⟩
      obtain ⟨P, hP⟩ : ∃ P, P = sumL (selS L C) [] := ⟨_, rfl⟩
      obtain ⟨Q, hQ⟩ : ∃ Q, Q = sumT t := ⟨_, rfl⟩
      rw [← hP] at hO hsm HRF
      simp only [← hP]
      rw [← hQ] at hcon HRF HBS
      have HSM2 := Lib.hid hsm
      have HO := Lib.hid hO
      have HCON4 := Lib.hid hcon
      clear hcon hP hQ hsm hO h0
      go_wp2_with fail
      refine HCON4.out.mono ?_
      rintro e w4 ⟨u, rfl, hE4, hO4⟩
      obtain ⟨ua, uc, hu, -, -, -⟩ := id hO4.ls
      subst hu
      have HE4 := Lib.hid (HE1.out.trans (HE.out.trans hE4))
      have hcp := plus_any (fun y hy => by have := HSM2.out.2.2 y hy; omega) (fun y hy => by have := HBS.out.2.2 y hy; omega) (by have := HSM2.out.1; have := HBS.out.1; omega) (fun c hc => Nat.lt_of_lt_of_le hc ((HE1.out.trans HE.out).trans hE4).size) (HO.out.ext hE4).ls hO4.ls
      have HCP := Lib.hid hcp
      clear hE4 hO4 hcp
      go_wp2_with fail
      refine HCP.out.mono ?_
      rintro e w5 ⟨u, rfl, hE5, hO5⟩
      obtain ⟨va, vc, hv, -, -, -⟩ := id hO5.ls
      subst hv
      have HE5 := Lib.hid (HE4.out.trans hE5)
      have HLZ : Hid ((((plusS P Q).length : Int) == 0) = decide (P = Q)) := Lib.hid (by rw [Bool.eq_iff_iff, beq_iff_eq, decide_eq_true_eq, ← plusS_empty HSM2.out.2.1 HBS.out.2.1, ← List.length_eq_zero_iff]; omega)
      clear hE5 hO5
      go_wp2_with fail
      go_ret
      exact ⟨rb (by rw [HRF.out, ← HLZ.out]), HE5.out⟩

set_option maxRecDepth 100000 in
set_option maxHeartbeats 4000000 in
theorem RCheck_any {w : World} {S S' : Nat → Prop} {a a' a'' : Option Addr} {cap cap' cap'' : Nat} {L : List Tm} {t : Tm} {C : List Int} (hL3 : ∀ x ∈ L, sizeT x ≤ 300) (ht3 : sizeT t ≤ 300) (hll : L.length ≤ 1000000) (hC2 : C.length ≤ 200) (hL : LsT w S (.slice a L.length cap) L) (hT : TmW w S' a' cap' t) (hC : LsI w (.slice a'' C.length cap'') C) :
    Calls Try.prog 34 #[.slice a L.length cap, .agg #[.int .i64 t.kind, .string t.name, .int .i64 t.sort, .slice a' t.kids.length cap'], .slice a'' C.length cap''] w fun e w' => e = .returned (.bool (chkS L t C)) ∧ Ext w w' := by
  have hl' := hT.len
  have hc' := hT.cap
  obtain ⟨-, hl1, hc1⟩ := hL.len
  obtain ⟨-, hl2, hc2⟩ := hC.len
  unfold maxLen at hc' hc1 hc2
  obtain ⟨bx, hbx⟩ : ∃ bx, bx = w.heap.size := ⟨_, rfl⟩
  obtain ⟨w1, hw1⟩ : ∃ w1, w1 = w.alloc (.cells #[.int .i64 t.kind, .string t.name, .int .i64 t.sort, .slice a' t.kids.length cap'] 24) := ⟨_, rfl⟩
  have h0 : w1.heap[bx]? = some (.cells #[.int .i64 t.kind, .string t.name, .int .i64 t.sort, .slice a' t.kids.length cap'] 24) := by rw [hw1, hbx]; exact hs_new
  have hE1 : Ext w w1 := by rw [hw1]; exact Ext.alloc w _
  have b0 : w1.cell? ⟨bx, 0, none⟩ = some (.int .i64 t.kind) := by rw [cellc h0]; rfl
  have b1 : w1.cell? ⟨bx, 1, none⟩ = some (.string t.name) := by rw [cellc h0]; rfl
  have b2 : w1.cell? ⟨bx, 2, none⟩ = some (.int .i64 t.sort) := by rw [cellc h0]; rfl
  have b3 : w1.cell? ⟨bx, 3, none⟩ = some (.slice a' t.kids.length cap') := by rw [cellc h0]; rfl
  have hcon := rvalid_any (fun x hx => by have := hL3 x hx; omega) (by omega) (hL.ext hE1) (hT.ext hE1)
  obtain ⟨er, her⟩ : ∃ er, er = rightS L [t] := ⟨_, rfl⟩
  rw [← her] at hcon
  have HR : Hid (chkS L t C = (decide (er = 0) && decide (okC L.length C) && decide (sumL (selS L C) [] = sumT t))) := Lib.hid (by rw [chkS, her])
  have HCON := Lib.hid hcon
  have HL := Lib.hid (hL.below.ext hE1)
  have HT := Lib.hid (hT.below.ext hE1)
  have HC := Lib.hid (hC.ints.ext hE1)
  have HCI := Lib.hid hC.i64
  have HE1 := Lib.hid hE1
  have H0 := Lib.hid h0
  have HL3 := Lib.hid hL3
  have HSF := Lib.hid (sel_facts hC2 hL3)
  have HHI : Hid (okC L.length C → chkS L t C = true → True) := Lib.hid (fun _ _ => trivial)
  have hc200 : C.length ≤ 200 := hC2
  clear hL hT hC hE1 h0 hL3 hcon her hC2 HHI
  go_enter Try.func34, Try.ntmps34
  go_upto_region 1 with fail
  rw [← hw1, ← hbx]
  clear hw1 hbx
  go_wp2_with fail
  refine HCON.out.mono ?_
  rintro e w2 ⟨rfl, hE2⟩
  have HE2 := Lib.hid hE2
  clear hE2 b0 b1 b2 b3
  by_cases hz : er = 0
  case neg =>
    have e1 : (er != 0) = true := by simp [hz]
    have HRR : Hid (chkS L t C = false) := Lib.hid (by rw [HR.out, decide_eq_false hz]; rfl)
    clear hz
    go_wp2_with fail
    go_ret
    exact ⟨rb HRR.out.symm, HE1.out.trans HE2.out⟩
  have e1 : (er != 0) = false := by simp [hz]
  have HRE : Hid (chkS L t C = (decide (okC L.length C) && decide (sumL (selS L C) [] = sumT t))) := Lib.hid (by rw [HR.out, decide_eq_true hz]; simp)
  clear hz
  have HBAD : Hid (¬ okC L.length C → chkS L t C = false) := Lib.hid (fun h => by rw [HRE.out, decide_eq_false h]; rfl)
  go_wp2_with fail
  go_loopw [7, 8] (fun ov kv wr => ∃ k : Nat, kv = .int .i64 k ∧ k ≤ C.length ∧ okC L.length (C.take k) ∧ OwnT wr w1.heap.size (fun c => c < w.heap.size) ov (sumL (selS L (C.take k)) []) ∧ Ext w1 wr) (fun _ kv _ => C.length - (intOf kv).toNat)
  case atStart => exact ⟨0, rfl, by omega, by simp; exact okC_nil, by simp [selS, sumL]; exact OwnT.nil, HE2.out⟩
  case round =>
    obtain ⟨k, rfl, hk, hok, hO, hE⟩ := hrel
    have HOK := Lib.hid hok
    have HO := Lib.hid hO
    have HE := Lib.hid hE
    obtain ⟨oa, oc, ho, -, -, -⟩ := id hO.ls
    subst ho
    clear hok hO hE
    by_cases hlt : k < C.length
    · obtain ⟨x, hx⟩ : ∃ x, C[k]? = some x := ⟨_, List.getElem?_eq_getElem hlt⟩
      obtain ⟨cb, co, rfl, x0⟩ := (HC.out.ext HE.out) k x hx
      have hxi := HCI.out x (List.mem_of_getElem? hx)
      unfold I64 at hxi
      obtain ⟨hxi1, hxi2⟩ := hxi
      have HX := Lib.hid hx
      clear hx
      rcases (by omega : x < 0 ∨ (0 ≤ x ∧ (L.length : Int) ≤ x) ∨ (0 ≤ x ∧ x < L.length)) with hb | ⟨hb1, hb2⟩ | ⟨hg1, hg2⟩
      · have d1 : decide (x < 0) = true := decide_eq_true hb
        have HRR : Hid (chkS L t C = false) := Lib.hid (HBAD.out (okC_bad HX.out (.inl hb)))
        go_wp2_with fail
        refine wp_region_reg 30 false (by kernel_rfl) (by kernel_rfl) ?_
        refine reg_value (fun _ => rfl) ?_ (fun g w' vs hM hE hP => ?_) ?_
        rotate_left
        · (clear hP hM; have zz0 := cs_ext hE x0; go_simp; first | done | rfl)
        refine reg_value (fun _ => rfl) ?_ (fun g w' vs hM hE hP => ?_) ?_
        rotate_left
        · (clear hP hM; have zz0 := cs_ext hE x0; go_simp; first | done | rfl)
        refine reg_value (fun _ => rfl) ?_ (fun g w' vs hM hE hP => ?_) ?_
        rotate_left
        · (clear hP hM; have zz0 := cs_ext hE x0; go_simp; first | done | rfl)
        refine reg_value (fun _ => rfl) ?_ (fun g w' vs hM hE hP => ?_) ?_
        rotate_left
        · (clear hP hM; have zz0 := cs_ext hE x0; go_simp; first | done | rfl)
        refine reg_value (fun _ => rfl) ?_ (fun g w' vs hM hE hP => ?_) ?_
        rotate_left
        · (clear hP hM; have zz0 := cs_ext hE x0; go_simp; first | done | rfl)
        refine reg_value (fun _ => rfl) ?_ (fun g w' vs hM hE hP => ?_) ?_
        rotate_left
        · (clear hP hM; have zz0 := cs_ext hE x0; go_simp; first | done | rfl)
        refine reg_skip (fun g => by go_simp; first | done | (intro h; cases h) | simp [undef]) ?_
        refine reg_skip (fun g => by go_simp; first | done | (intro h; cases h) | simp [undef]) ?_
        refine reg_skip (fun g => by go_simp; first | done | (intro h; cases h) | simp [undef]) ?_
        refine reg_skip (fun g => by go_simp; first | done | (intro h; cases h) | simp [undef]) ?_
        refine reg_skip (fun g => by go_simp; first | done | (intro h; cases h) | simp [undef]) ?_
        refine reg_skip (fun g => by go_simp; first | done | (intro h; cases h) | simp [undef]) ?_
        refine reg_skip (fun g => by go_simp; first | done | (intro h; cases h) | simp [undef]) ?_
        refine reg_value (fun _ => rfl) ?_ (fun g w' vs hM hE hP => ?_) ?_
        rotate_left
        · (clear hP hM; have zz0 := cs_ext hE x0; go_simp; first | done | rfl)
        refine reg_value (fun _ => rfl) ?_ (fun g w' vs hM hE hP => ?_) ?_
        rotate_left
        · (clear hP hM; have zz0 := cs_ext hE x0; go_simp; first | done | rfl)
        refine reg_skip (fun g => by go_simp; first | done | (intro h; cases h) | simp [undef]) ?_
        refine reg_skip (fun g => by go_simp; first | done | (intro h; cases h) | simp [undef]) ?_
        refine reg_skip (fun g => by go_simp; first | done | (intro h; cases h) | simp [undef]) ?_
        refine reg_skip (fun g => by go_simp; first | done | (intro h; cases h) | simp [undef]) ?_
        refine reg_skip (fun g => by go_simp; first | done | (intro h; cases h) | simp [undef]) ?_
        refine reg_skip (fun g => by go_simp; first | done | (intro h; cases h) | simp [undef]) ?_
        refine reg_skip (fun g => by go_simp; first | done | (intro h; cases h) | simp [undef]) ?_
        refine reg_skip (fun g => by go_simp; first | done | (intro h; cases h) | simp [undef]) ?_
        refine reg_skip (fun g => by go_simp; first | done | (intro h; cases h) | simp [undef]) ?_
        refine reg_skip (fun g => by go_simp; first | done | (intro h; cases h) | simp [undef]) ?_
        refine reg_skip (fun g => by go_simp; first | done | (intro h; cases h) | simp [undef]) ?_
        refine reg_skip (fun g => by go_simp; first | done | (intro h; cases h) | simp [undef]) ?_
        refine reg_skip (fun g => by go_simp; first | done | (intro h; cases h) | simp [undef]) ?_
        refine reg_skip (fun g => by go_simp; first | done | (intro h; cases h) | simp [undef]) ?_
        refine reg_value (fun _ => rfl) ?_ (fun g w' vs hM hE hP => ?_) ?_
        rotate_left
        · (clear hP hM; have zz0 := cs_ext hE x0; go_simp; first | done | rfl)
        intro g wz hE2 hF hQ
        simp only [List.drop_succ_cons, List.drop_zero, Act.put, List.setIfInBounds_toArray, List.set_cons_succ, List.set_cons_zero]
        clear hF hQ
        go_wp2_with fail
        go_ret
        exact ⟨rb HRR.out.symm, HE1.out.trans (HE.out.trans hE2)⟩
      · have d1 : decide (x < 0) = false := decide_eq_false (by omega)
        have d1' : ¬ x < 0 := by omega
        have d2 : decide ((L.length : Int) ≤ x) = true := decide_eq_true hb2
        have HRR : Hid (chkS L t C = false) := Lib.hid (HBAD.out (okC_bad HX.out (.inr hb2)))
        go_wp2_with fail
        refine wp_region_reg 30 false (by kernel_rfl) (by kernel_rfl) ?_
        refine reg_value (fun _ => rfl) ?_ (fun g w' vs hM hE hP => ?_) ?_
        rotate_left
        · (clear hP hM; have zz0 := cs_ext hE x0; go_simp; first | done | rfl)
        refine reg_value (fun _ => rfl) ?_ (fun g w' vs hM hE hP => ?_) ?_
        rotate_left
        · (clear hP hM; have zz0 := cs_ext hE x0; go_simp; first | done | rfl)
        refine reg_value (fun _ => rfl) ?_ (fun g w' vs hM hE hP => ?_) ?_
        rotate_left
        · (clear hP hM; have zz0 := cs_ext hE x0; go_simp; first | done | rfl)
        refine reg_value (fun _ => rfl) ?_ (fun g w' vs hM hE hP => ?_) ?_
        rotate_left
        · (clear hP hM; have zz0 := cs_ext hE x0; go_simp; first | done | rfl)
        refine reg_value (fun _ => rfl) ?_ (fun g w' vs hM hE hP => ?_) ?_
        rotate_left
        · (clear hP hM; have zz0 := cs_ext hE x0; go_simp; first | done | rfl)
        refine reg_value (fun _ => rfl) ?_ (fun g w' vs hM hE hP => ?_) ?_
        rotate_left
        · (clear hP hM; have zz0 := cs_ext hE x0; go_simp; first | done | rfl)
        refine reg_value (fun g => by go_simp) ?_ (fun g w' vs hM hE hP => ?_) ?_
        rotate_left
        · (clear hP hM; have zz0 := cs_ext hE x0; go_simp; first | done | rfl)
        refine reg_value (fun g => by go_simp) ?_ (fun g w' vs hM hE hP => ?_) ?_
        rotate_left
        · (clear hP hM; have zz0 := cs_ext hE x0; go_simp; first | done | rfl)
        refine reg_value (fun g => by go_simp) ?_ (fun g w' vs hM hE hP => ?_) ?_
        rotate_left
        · (clear hP hM; have zz0 := cs_ext hE x0; go_simp; first | done | rfl)
        refine reg_value (fun g => by go_simp) ?_ (fun g w' vs hM hE hP => ?_) ?_
        rotate_left
        · (clear hP hM; have zz0 := cs_ext hE x0; go_simp; first | done | rfl)
        refine reg_value (fun g => by go_simp) ?_ (fun g w' vs hM hE hP => ?_) ?_
        rotate_left
        · (clear hP hM; have zz0 := cs_ext hE x0; go_simp; first | done | rfl)
        refine reg_value (fun g => by go_simp) ?_ (fun g w' vs hM hE hP => ?_) ?_
        rotate_left
        · (clear hP hM; have zz0 := cs_ext hE x0; go_simp; first | done | rfl)
        refine reg_value (fun g => by go_simp) ?_ (fun g w' vs hM hE hP => ?_) ?_
        rotate_left
        · (clear hP hM; have zz0 := cs_ext hE x0; go_simp; first | done | rfl)
        refine reg_value (fun _ => rfl) ?_ (fun g w' vs hM hE hP => ?_) ?_
        rotate_left
        · (clear hP hM; have zz0 := cs_ext hE x0; go_simp; first | done | rfl)
        refine reg_value (fun _ => rfl) ?_ (fun g w' vs hM hE hP => ?_) ?_
        rotate_left
        · (clear hP hM; have zz0 := cs_ext hE x0; go_simp; first | done | rfl)
        refine reg_skip (fun g => by go_simp; first | done | (intro h; cases h) | simp [undef]) ?_
        refine reg_skip (fun g => by go_simp; first | done | (intro h; cases h) | simp [undef]) ?_
        refine reg_skip (fun g => by go_simp; first | done | (intro h; cases h) | simp [undef]) ?_
        refine reg_skip (fun g => by go_simp; first | done | (intro h; cases h) | simp [undef]) ?_
        refine reg_skip (fun g => by go_simp; first | done | (intro h; cases h) | simp [undef]) ?_
        refine reg_skip (fun g => by go_simp; first | done | (intro h; cases h) | simp [undef]) ?_
        refine reg_skip (fun g => by go_simp; first | done | (intro h; cases h) | simp [undef]) ?_
        refine reg_skip (fun g => by go_simp; first | done | (intro h; cases h) | simp [undef]) ?_
        refine reg_skip (fun g => by go_simp; first | done | (intro h; cases h) | simp [undef]) ?_
        refine reg_skip (fun g => by go_simp; first | done | (intro h; cases h) | simp [undef]) ?_
        refine reg_skip (fun g => by go_simp; first | done | (intro h; cases h) | simp [undef]) ?_
        refine reg_skip (fun g => by go_simp; first | done | (intro h; cases h) | simp [undef]) ?_
        refine reg_skip (fun g => by go_simp; first | done | (intro h; cases h) | simp [undef]) ?_
        refine reg_skip (fun g => by go_simp; first | done | (intro h; cases h) | simp [undef]) ?_
        refine reg_value (fun _ => rfl) ?_ (fun g w' vs hM hE hP => ?_) ?_
        rotate_left
        · (clear hP hM; have zz0 := cs_ext hE x0; go_simp; first | done | rfl)
        intro g wz hE2 hF hQ
        simp only [List.drop_succ_cons, List.drop_zero, Act.put, List.setIfInBounds_toArray, List.set_cons_succ, List.set_cons_zero]
        clear hF hQ
        go_wp2_with fail
        go_ret
        exact ⟨rb HRR.out.symm, HE1.out.trans (HE.out.trans hE2)⟩
      · have d1 : decide (x < 0) = false := decide_eq_false (by omega)
        have d1' : ¬ x < 0 := by omega
        have d2 : decide ((L.length : Int) ≤ x) = false := decide_eq_false (by omega)
        have d2' : ¬ (L.length : Int) ≤ x := by omega
        by_cases hk0 : k = 0
        · have HK0 := Lib.hid hk0
          have d3 : decide ((0 : Int) < k) = false := decide_eq_false (by omega)
          have d4 : ¬ 0 < k := by omega
          clear hk0
          have HNEXT : Hid (okC L.length (C.take (k + 1))) := Lib.hid (by have := HX.out; have e := HK0.out; subst e; exact okC_first this hg1 hg2)
          go_wp2_with fail
          refine wp_region_reg 30 false (by kernel_rfl) (by kernel_rfl) ?_
          refine reg_value (fun _ => rfl) ?_ (fun g w' vs hM hE hP => ?_) ?_
          rotate_left
          · (clear hP hM; have zz0 := cs_ext hE x0; go_simp; first | done | rfl)
          refine reg_value (fun _ => rfl) ?_ (fun g w' vs hM hE hP => ?_) ?_
          rotate_left
          · (clear hP hM; have zz0 := cs_ext hE x0; go_simp; first | done | rfl)
          refine reg_value (fun _ => rfl) ?_ (fun g w' vs hM hE hP => ?_) ?_
          rotate_left
          · (clear hP hM; have zz0 := cs_ext hE x0; go_simp; first | done | rfl)
          refine reg_value (fun _ => rfl) ?_ (fun g w' vs hM hE hP => ?_) ?_
          rotate_left
          · (clear hP hM; have zz0 := cs_ext hE x0; go_simp; first | done | rfl)
          refine reg_value (fun _ => rfl) ?_ (fun g w' vs hM hE hP => ?_) ?_
          rotate_left
          · (clear hP hM; have zz0 := cs_ext hE x0; go_simp; first | done | rfl)
          refine reg_value (fun _ => rfl) ?_ (fun g w' vs hM hE hP => ?_) ?_
          rotate_left
          · (clear hP hM; have zz0 := cs_ext hE x0; go_simp; first | done | rfl)
          refine reg_value (fun g => by go_simp) ?_ (fun g w' vs hM hE hP => ?_) ?_
          rotate_left
          · (clear hP hM; have zz0 := cs_ext hE x0; go_simp; first | done | rfl)
          refine reg_value (fun g => by go_simp) ?_ (fun g w' vs hM hE hP => ?_) ?_
          rotate_left
          · (clear hP hM; have zz0 := cs_ext hE x0; go_simp; first | done | rfl)
          refine reg_value (fun g => by go_simp) ?_ (fun g w' vs hM hE hP => ?_) ?_
          rotate_left
          · (clear hP hM; have zz0 := cs_ext hE x0; go_simp; first | done | rfl)
          refine reg_value (fun g => by go_simp) ?_ (fun g w' vs hM hE hP => ?_) ?_
          rotate_left
          · (clear hP hM; have zz0 := cs_ext hE x0; go_simp; first | done | rfl)
          refine reg_value (fun g => by go_simp) ?_ (fun g w' vs hM hE hP => ?_) ?_
          rotate_left
          · (clear hP hM; have zz0 := cs_ext hE x0; go_simp; first | done | rfl)
          refine reg_value (fun g => by go_simp) ?_ (fun g w' vs hM hE hP => ?_) ?_
          rotate_left
          · (clear hP hM; have zz0 := cs_ext hE x0; go_simp; first | done | rfl)
          refine reg_value (fun g => by go_simp) ?_ (fun g w' vs hM hE hP => ?_) ?_
          rotate_left
          · (clear hP hM; have zz0 := cs_ext hE x0; go_simp; first | done | rfl)
          refine reg_value (fun _ => rfl) ?_ (fun g w' vs hM hE hP => ?_) ?_
          rotate_left
          · (clear hP hM; have zz0 := cs_ext hE x0; go_simp; first | done | rfl)
          refine reg_value (fun _ => rfl) ?_ (fun g w' vs hM hE hP => ?_) ?_
          rotate_left
          · (clear hP hM; have zz0 := cs_ext hE x0; go_simp; first | done | rfl)
          refine reg_value (fun g => by go_simp) ?_ (fun g w' vs hM hE hP => ?_) ?_
          rotate_left
          · (clear hP hM; have zz0 := cs_ext hE x0; go_simp; first | done | rfl)
          refine reg_value (fun g => by go_simp) ?_ (fun g w' vs hM hE hP => ?_) ?_
          rotate_left
          · (clear hP hM; have zz0 := cs_ext hE x0; go_simp; first | done | rfl)
          refine reg_value (fun g => by go_simp) ?_ (fun g w' vs hM hE hP => ?_) ?_
          rotate_left
          · (clear hP hM; have zz0 := cs_ext hE x0; go_simp; first | done | rfl)
          refine reg_skip (fun g => by go_simp; first | done | (intro h; cases h) | simp [undef]) ?_
          refine reg_skip (fun g => by go_simp; first | done | (intro h; cases h) | simp [undef]) ?_
          refine reg_skip (fun g => by go_simp; first | done | (intro h; cases h) | simp [undef]) ?_
          refine reg_skip (fun g => by go_simp; first | done | (intro h; cases h) | simp [undef]) ?_
          refine reg_skip (fun g => by go_simp; first | done | (intro h; cases h) | simp [undef]) ?_
          refine reg_skip (fun g => by go_simp; first | done | (intro h; cases h) | simp [undef]) ?_
          refine reg_skip (fun g => by go_simp; first | done | (intro h; cases h) | simp [undef]) ?_
          refine reg_skip (fun g => by go_simp; first | done | (intro h; cases h) | simp [undef]) ?_
          refine reg_skip (fun g => by go_simp; first | done | (intro h; cases h) | simp [undef]) ?_
          refine reg_skip (fun g => by go_simp; first | done | (intro h; cases h) | simp [undef]) ?_
          refine reg_value (fun g => by go_simp) ?_ (fun g w' vs hM hE hP => ?_) ?_
          rotate_left
          · (clear hP hM; have zz0 := cs_ext hE x0; go_simp; first | done | rfl)
          refine reg_value (fun _ => rfl) ?_ (fun g w' vs hM hE hP => ?_) ?_
          rotate_left
          · (clear hP hM; have zz0 := cs_ext hE x0; go_simp; first | done | rfl)
          intro g wz hE2 hF hQ
          simp only [List.drop_succ_cons, List.drop_zero, Act.put, List.setIfInBounds_toArray, List.set_cons_succ, List.set_cons_zero]
          have HO := Lib.hid (HO.out.ext hE2)
          have x0 := cs_ext hE2 x0
          have HE := Lib.hid (HE.out.trans hE2)
          clear hE2 hF hQ
          obtain ⟨wr, hwr⟩ : ∃ wr, wr = wz := ⟨_, rfl⟩
          rw [← hwr] at HO HE x0 ⊢
          clear hwr
          obtain ⟨p, hp⟩ : ∃ p : Nat, x = p := ⟨x.toNat, by omega⟩
          subst hp
          have hpl : p < L.length := by omega
          obtain ⟨s, hs⟩ : ∃ s, L[p]? = some s := ⟨_, List.getElem?_eq_getElem hpl⟩
          obtain ⟨xb, xo, xa, xc, rfl, s0, s1, s2, s3, hTs⟩ := (HL.out.ext HE.out).ts.at hs
          have hs6 := HL3.out s (List.mem_of_getElem? hs)
          have HSEL : Hid (sumL (selS L (C.take (k + 1))) [] = plusS (sumL (selS L (C.take k)) []) (sumT s)) := Lib.hid (by rw [selS_take HX.out (by simpa using hs), sumL_snoc])
          have hsm := HSF.out k
          have HBS : Hid ((sumT s).length ≤ 300 ∧ Asc (sumT s) ∧ ∀ y ∈ sumT s, sizeT y ≤ 300) := Lib.hid ⟨by have := sumT_len s; omega, sumT_asc s, fun y hy => by have := sumT_size s y hy; omega⟩
          have hcon := RSummands_any 30000 wr _ xa xc s (by omega) (Nat.le_refl _) (fun c hc => Nat.lt_of_lt_of_le hc (HE1.out.trans HE.out).size) hTs
          obtain ⟨P, hP⟩ : ∃ P, P = sumL (selS L (C.take k)) [] := ⟨_, rfl⟩
          obtain ⟨Q, hQ⟩ : ∃ Q, Q = sumT s := ⟨_, rfl⟩
          rw [← hP] at HO hsm HSEL
          simp only [← hP]
          rw [← hQ] at hcon HSEL HBS
          have HSM2 := Lib.hid hsm
          have HCON4 := Lib.hid hcon
          clear hs hTs hcon hP hQ hsm hs6
          go_wp2_with fail
          refine HCON4.out.mono ?_
          rintro e w4 ⟨u, rfl, hE4, hO4⟩
          obtain ⟨ua, uc, hu, -, -, -⟩ := id hO4.ls
          subst hu
          have hcp := RPlus_any (fun y hy => by have := HSM2.out.2.2 y hy; omega) (fun y hy => by have := HBS.out.2.2 y hy; omega) (by have := HSM2.out.1; have := HBS.out.1; omega) HSM2.out.2.1 HBS.out.2.1 (fun c hc => Nat.lt_of_lt_of_le hc ((HE1.out.trans HE.out).trans hE4).size) (HO.out.ext hE4).ls hO4.ls
          have HE4 := Lib.hid (HE.out.trans hE4)
          have HCP := Lib.hid hcp
          clear hE4 hO4 hcp
          go_wp2_with fail
          refine HCP.out.mono ?_
          rintro e w5 ⟨u, rfl, hE5, hO5⟩
          have HE5 := Lib.hid (HE4.out.trans hE5)
          have HO5 := Lib.hid (hO5.low HE4.out.size)
          clear hE5 hO5
          go_wp2_with fail
          go_roundw
          case rel => exact ⟨k + 1, by go_num, by omega, HNEXT.out, by rw [HSEL.out]; exact HO5.out, HE5.out⟩
          case measure => simp [intOf]; omega
        · obtain ⟨m, rfl⟩ : ∃ m, k = m + 1 := ⟨k - 1, by omega⟩
          obtain ⟨y, hy⟩ : ∃ y, C[m]? = some y := ⟨_, List.getElem?_eq_getElem (by omega)⟩
          obtain ⟨cb', co', hce, y0⟩ := (HC.out.ext HE.out) m y hy
          cases hce
          have hyi := HCI.out y (List.mem_of_getElem? hy)
          unfold I64 at hyi
          obtain ⟨hyi1, hyi2⟩ := hyi
          have HY := Lib.hid hy
          have d3 : decide ((0 : Int) < (m : Int) + 1) = true := decide_eq_true (by omega)
          have d4 : 0 < m + 1 := by omega
          have hm1 : ((m : Int) + 1).toNat = m + 1 := by omega
          have hwr1 : IntKind.i64.wrap (m : Int) = m := by rw [IntKind.wrap_i64]; omega
          have hmlt : m < C.length := by omega
          have hmltz : (m : Int) < C.length := by omega
          have hm0 : (0 : Int) ≤ (m : Int) + 1 := by omega
          have hmlt2 : (m : Int) + 1 < C.length := by omega
          clear hy hk0
          by_cases hyx : x ≤ y
          · have d5 : decide (x ≤ y) = true := decide_eq_true hyx
            have HRR : Hid (chkS L t C = false) := Lib.hid (HBAD.out (okC_bad2 HY.out HX.out hyx))
            go_wp2_with fail
            refine wp_region_reg 30 false (by kernel_rfl) (by kernel_rfl) ?_
            refine reg_value (fun _ => rfl) ?_ (fun g w' vs hM hE hP => ?_) ?_
            rotate_left
            · (clear hP hM; have zz0 := cs_ext hE x0; have zz1 := cs_ext hE y0; go_simp; first | done | rfl)
            refine reg_value (fun _ => rfl) ?_ (fun g w' vs hM hE hP => ?_) ?_
            rotate_left
            · (clear hP hM; have zz0 := cs_ext hE x0; have zz1 := cs_ext hE y0; go_simp; first | done | rfl)
            refine reg_value (fun _ => rfl) ?_ (fun g w' vs hM hE hP => ?_) ?_
            rotate_left
            · (clear hP hM; have zz0 := cs_ext hE x0; have zz1 := cs_ext hE y0; go_simp; first | done | rfl)
            refine reg_value (fun _ => rfl) ?_ (fun g w' vs hM hE hP => ?_) ?_
            rotate_left
            · (clear hP hM; have zz0 := cs_ext hE x0; have zz1 := cs_ext hE y0; go_simp; first | done | rfl)
            refine reg_value (fun _ => rfl) ?_ (fun g w' vs hM hE hP => ?_) ?_
            rotate_left
            · (clear hP hM; have zz0 := cs_ext hE x0; have zz1 := cs_ext hE y0; go_simp; first | done | rfl)
            refine reg_value (fun _ => rfl) ?_ (fun g w' vs hM hE hP => ?_) ?_
            rotate_left
            · (clear hP hM; have zz0 := cs_ext hE x0; have zz1 := cs_ext hE y0; go_simp; first | done | rfl)
            refine reg_value (fun g => by go_simp) ?_ (fun g w' vs hM hE hP => ?_) ?_
            rotate_left
            · (clear hP hM; have zz0 := cs_ext hE x0; have zz1 := cs_ext hE y0; go_simp; first | done | rfl)
            refine reg_value (fun g => by go_simp) ?_ (fun g w' vs hM hE hP => ?_) ?_
            rotate_left
            · (clear hP hM; have zz0 := cs_ext hE x0; have zz1 := cs_ext hE y0; go_simp; first | done | rfl)
            refine reg_value (fun g => by go_simp) ?_ (fun g w' vs hM hE hP => ?_) ?_
            rotate_left
            · (clear hP hM; have zz0 := cs_ext hE x0; have zz1 := cs_ext hE y0; go_simp; first | done | rfl)
            refine reg_value (fun g => by go_simp) ?_ (fun g w' vs hM hE hP => ?_) ?_
            rotate_left
            · (clear hP hM; have zz0 := cs_ext hE x0; have zz1 := cs_ext hE y0; go_simp; first | done | rfl)
            refine reg_value (fun g => by go_simp) ?_ (fun g w' vs hM hE hP => ?_) ?_
            rotate_left
            · (clear hP hM; have zz0 := cs_ext hE x0; have zz1 := cs_ext hE y0; go_simp; first | done | rfl)
            refine reg_value (fun g => by go_simp) ?_ (fun g w' vs hM hE hP => ?_) ?_
            rotate_left
            · (clear hP hM; have zz0 := cs_ext hE x0; have zz1 := cs_ext hE y0; go_simp; first | done | rfl)
            refine reg_value (fun g => by go_simp) ?_ (fun g w' vs hM hE hP => ?_) ?_
            rotate_left
            · (clear hP hM; have zz0 := cs_ext hE x0; have zz1 := cs_ext hE y0; go_simp; first | done | rfl)
            refine reg_value (fun _ => rfl) ?_ (fun g w' vs hM hE hP => ?_) ?_
            rotate_left
            · (clear hP hM; have zz0 := cs_ext hE x0; have zz1 := cs_ext hE y0; go_simp; first | done | rfl)
            refine reg_value (fun _ => rfl) ?_ (fun g w' vs hM hE hP => ?_) ?_
            rotate_left
            · (clear hP hM; have zz0 := cs_ext hE x0; have zz1 := cs_ext hE y0; go_simp; first | done | rfl)
            refine reg_value (fun g => by go_simp) ?_ (fun g w' vs hM hE hP => ?_) ?_
            rotate_left
            · (clear hP hM; have zz0 := cs_ext hE x0; have zz1 := cs_ext hE y0; go_simp; first | done | rfl)
            refine reg_value (fun g => by go_simp) ?_ (fun g w' vs hM hE hP => ?_) ?_
            rotate_left
            · (clear hP hM; have zz0 := cs_ext hE x0; have zz1 := cs_ext hE y0; go_simp; first | done | rfl)
            refine reg_value (fun g => by go_simp) ?_ (fun g w' vs hM hE hP => ?_) ?_
            rotate_left
            · (clear hP hM; have zz0 := cs_ext hE x0; have zz1 := cs_ext hE y0; go_simp; first | done | rfl)
            refine reg_value (fun g => by go_simp) ?_ (fun g w' vs hM hE hP => ?_) ?_
            rotate_left
            · (clear hP hM; have zz0 := cs_ext hE x0; have zz1 := cs_ext hE y0; go_simp; first | done | rfl)
            refine reg_value (fun g => by go_simp) ?_ (fun g w' vs hM hE hP => ?_) ?_
            rotate_left
            · (clear hP hM; have zz0 := cs_ext hE x0; have zz1 := cs_ext hE y0; go_simp; first | done | rfl)
            refine reg_value (fun g => by go_simp) ?_ (fun g w' vs hM hE hP => ?_) ?_
            rotate_left
            · (clear hP hM; have zz0 := cs_ext hE x0; have zz1 := cs_ext hE y0; go_simp; first | done | rfl)
            refine reg_value (fun g => by go_simp) ?_ (fun g w' vs hM hE hP => ?_) ?_
            rotate_left
            · (clear hP hM; have zz0 := cs_ext hE x0; have zz1 := cs_ext hE y0; go_simp; first | done | rfl)
            refine reg_value (fun g => by go_simp) ?_ (fun g w' vs hM hE hP => ?_) ?_
            rotate_left
            · (clear hP hM; have zz0 := cs_ext hE x0; have zz1 := cs_ext hE y0; go_simp; first | done | rfl)
            refine reg_value (fun g => by go_simp) ?_ (fun g w' vs hM hE hP => ?_) ?_
            rotate_left
            · (clear hP hM; have zz0 := cs_ext hE x0; have zz1 := cs_ext hE y0; go_simp; first | done | rfl)
            refine reg_value (fun g => by go_simp) ?_ (fun g w' vs hM hE hP => ?_) ?_
            rotate_left
            · (clear hP hM; have zz0 := cs_ext hE x0; have zz1 := cs_ext hE y0; go_simp; first | done | rfl)
            refine reg_value (fun g => by go_simp) ?_ (fun g w' vs hM hE hP => ?_) ?_
            rotate_left
            · (clear hP hM; have zz0 := cs_ext hE x0; have zz1 := cs_ext hE y0; go_simp; first | done | rfl)
            refine reg_value (fun g => by go_simp) ?_ (fun g w' vs hM hE hP => ?_) ?_
            rotate_left
            · (clear hP hM; have zz0 := cs_ext hE x0; have zz1 := cs_ext hE y0; go_simp; first | done | rfl)
            refine reg_value (fun g => by go_simp) ?_ (fun g w' vs hM hE hP => ?_) ?_
            rotate_left
            · (clear hP hM; have zz0 := cs_ext hE x0; have zz1 := cs_ext hE y0; go_simp; first | done | rfl)
            refine reg_value (fun g => by go_simp) ?_ (fun g w' vs hM hE hP => ?_) ?_
            rotate_left
            · (clear hP hM; have zz0 := cs_ext hE x0; have zz1 := cs_ext hE y0; go_simp; first | done | rfl)
            refine reg_value (fun _ => rfl) ?_ (fun g w' vs hM hE hP => ?_) ?_
            rotate_left
            · (clear hP hM; have zz0 := cs_ext hE x0; have zz1 := cs_ext hE y0; go_simp; first | done | rfl)
            intro g wz hE2 hF hQ
            simp only [List.drop_succ_cons, List.drop_zero, Act.put, List.setIfInBounds_toArray, List.set_cons_succ, List.set_cons_zero]
            clear hF hQ
            go_wp2_with fail
            go_ret
            exact ⟨rb HRR.out.symm, HE1.out.trans (HE.out.trans hE2)⟩
          · have d5 : decide (x ≤ y) = false := decide_eq_false hyx
            have d5' : ¬ x ≤ y := hyx
            have HNEXT : Hid (okC L.length (C.take (m + 1 + 1))) := Lib.hid (okC_next HOK.out HY.out HX.out hg1 hg2 (by omega))
            go_wp2_with fail
            refine wp_region_reg 30 false (by kernel_rfl) (by kernel_rfl) ?_
            refine reg_value (fun _ => rfl) ?_ (fun g w' vs hM hE hP => ?_) ?_
            rotate_left
            · (clear hP hM; have zz0 := cs_ext hE x0; have zz1 := cs_ext hE y0; go_simp; first | done | rfl)
            refine reg_value (fun _ => rfl) ?_ (fun g w' vs hM hE hP => ?_) ?_
            rotate_left
            · (clear hP hM; have zz0 := cs_ext hE x0; have zz1 := cs_ext hE y0; go_simp; first | done | rfl)
            refine reg_value (fun _ => rfl) ?_ (fun g w' vs hM hE hP => ?_) ?_
            rotate_left
            · (clear hP hM; have zz0 := cs_ext hE x0; have zz1 := cs_ext hE y0; go_simp; first | done | rfl)
            refine reg_value (fun _ => rfl) ?_ (fun g w' vs hM hE hP => ?_) ?_
            rotate_left
            · (clear hP hM; have zz0 := cs_ext hE x0; have zz1 := cs_ext hE y0; go_simp; first | done | rfl)
            refine reg_value (fun _ => rfl) ?_ (fun g w' vs hM hE hP => ?_) ?_
            rotate_left
            · (clear hP hM; have zz0 := cs_ext hE x0; have zz1 := cs_ext hE y0; go_simp; first | done | rfl)
            refine reg_value (fun _ => rfl) ?_ (fun g w' vs hM hE hP => ?_) ?_
            rotate_left
            · (clear hP hM; have zz0 := cs_ext hE x0; have zz1 := cs_ext hE y0; go_simp; first | done | rfl)
            refine reg_value (fun g => by go_simp) ?_ (fun g w' vs hM hE hP => ?_) ?_
            rotate_left
            · (clear hP hM; have zz0 := cs_ext hE x0; have zz1 := cs_ext hE y0; go_simp; first | done | rfl)
            refine reg_value (fun g => by go_simp) ?_ (fun g w' vs hM hE hP => ?_) ?_
            rotate_left
            · (clear hP hM; have zz0 := cs_ext hE x0; have zz1 := cs_ext hE y0; go_simp; first | done | rfl)
            refine reg_value (fun g => by go_simp) ?_ (fun g w' vs hM hE hP => ?_) ?_
            rotate_left
            · (clear hP hM; have zz0 := cs_ext hE x0; have zz1 := cs_ext hE y0; go_simp; first | done | rfl)
            refine reg_value (fun g => by go_simp) ?_ (fun g w' vs hM hE hP => ?_) ?_
            rotate_left
            · (clear hP hM; have zz0 := cs_ext hE x0; have zz1 := cs_ext hE y0; go_simp; first | done | rfl)
            refine reg_value (fun g => by go_simp) ?_ (fun g w' vs hM hE hP => ?_) ?_
            rotate_left
            · (clear hP hM; have zz0 := cs_ext hE x0; have zz1 := cs_ext hE y0; go_simp; first | done | rfl)
            refine reg_value (fun g => by go_simp) ?_ (fun g w' vs hM hE hP => ?_) ?_
            rotate_left
            · (clear hP hM; have zz0 := cs_ext hE x0; have zz1 := cs_ext hE y0; go_simp; first | done | rfl)
            refine reg_value (fun g => by go_simp) ?_ (fun g w' vs hM hE hP => ?_) ?_
            rotate_left
            · (clear hP hM; have zz0 := cs_ext hE x0; have zz1 := cs_ext hE y0; go_simp; first | done | rfl)
            refine reg_value (fun _ => rfl) ?_ (fun g w' vs hM hE hP => ?_) ?_
            rotate_left
            · (clear hP hM; have zz0 := cs_ext hE x0; have zz1 := cs_ext hE y0; go_simp; first | done | rfl)
            refine reg_value (fun _ => rfl) ?_ (fun g w' vs hM hE hP => ?_) ?_
            rotate_left
            · (clear hP hM; have zz0 := cs_ext hE x0; have zz1 := cs_ext hE y0; go_simp; first | done | rfl)
            refine reg_value (fun g => by go_simp) ?_ (fun g w' vs hM hE hP => ?_) ?_
            rotate_left
            · (clear hP hM; have zz0 := cs_ext hE x0; have zz1 := cs_ext hE y0; go_simp; first | done | rfl)
            refine reg_value (fun g => by go_simp) ?_ (fun g w' vs hM hE hP => ?_) ?_
            rotate_left
            · (clear hP hM; have zz0 := cs_ext hE x0; have zz1 := cs_ext hE y0; go_simp; first | done | rfl)
            refine reg_value (fun g => by go_simp) ?_ (fun g w' vs hM hE hP => ?_) ?_
            rotate_left
            · (clear hP hM; have zz0 := cs_ext hE x0; have zz1 := cs_ext hE y0; go_simp; first | done | rfl)
            refine reg_value (fun g => by go_simp) ?_ (fun g w' vs hM hE hP => ?_) ?_
            rotate_left
            · (clear hP hM; have zz0 := cs_ext hE x0; have zz1 := cs_ext hE y0; go_simp; first | done | rfl)
            refine reg_value (fun g => by go_simp) ?_ (fun g w' vs hM hE hP => ?_) ?_
            rotate_left
            · (clear hP hM; have zz0 := cs_ext hE x0; have zz1 := cs_ext hE y0; go_simp; first | done | rfl)
            refine reg_value (fun g => by go_simp) ?_ (fun g w' vs hM hE hP => ?_) ?_
            rotate_left
            · (clear hP hM; have zz0 := cs_ext hE x0; have zz1 := cs_ext hE y0; go_simp; first | done | rfl)
            refine reg_value (fun g => by go_simp) ?_ (fun g w' vs hM hE hP => ?_) ?_
            rotate_left
            · (clear hP hM; have zz0 := cs_ext hE x0; have zz1 := cs_ext hE y0; go_simp; first | done | rfl)
            refine reg_value (fun g => by go_simp) ?_ (fun g w' vs hM hE hP => ?_) ?_
            rotate_left
            · (clear hP hM; have zz0 := cs_ext hE x0; have zz1 := cs_ext hE y0; go_simp; first | done | rfl)
            refine reg_value (fun g => by go_simp) ?_ (fun g w' vs hM hE hP => ?_) ?_
            rotate_left
            · (clear hP hM; have zz0 := cs_ext hE x0; have zz1 := cs_ext hE y0; go_simp; first | done | rfl)
            refine reg_value (fun g => by go_simp) ?_ (fun g w' vs hM hE hP => ?_) ?_
            rotate_left
            · (clear hP hM; have zz0 := cs_ext hE x0; have zz1 := cs_ext hE y0; go_simp; first | done | rfl)
            refine reg_value (fun g => by go_simp) ?_ (fun g w' vs hM hE hP => ?_) ?_
            rotate_left
            · (clear hP hM; have zz0 := cs_ext hE x0; have zz1 := cs_ext hE y0; go_simp; first | done | rfl)
            refine reg_value (fun g => by go_simp) ?_ (fun g w' vs hM hE hP => ?_) ?_
            rotate_left
            · (clear hP hM; have zz0 := cs_ext hE x0; have zz1 := cs_ext hE y0; go_simp; first | done | rfl)
            refine reg_value (fun g => by go_simp) ?_ (fun g w' vs hM hE hP => ?_) ?_
            rotate_left
            · (clear hP hM; have zz0 := cs_ext hE x0; have zz1 := cs_ext hE y0; go_simp; first | done | rfl)
            refine reg_value (fun g => by go_simp) ?_ (fun g w' vs hM hE hP => ?_) ?_
            rotate_left
            · (clear hP hM; have zz0 := cs_ext hE x0; have zz1 := cs_ext hE y0; go_simp; first | done | rfl)
            refine reg_value (fun _ => rfl) ?_ (fun g w' vs hM hE hP => ?_) ?_
            rotate_left
            · (clear hP hM; have zz0 := cs_ext hE x0; have zz1 := cs_ext hE y0; go_simp; first | done | rfl)
            intro g wz hE2 hF hQ
            simp only [List.drop_succ_cons, List.drop_zero, Act.put, List.setIfInBounds_toArray, List.set_cons_succ, List.set_cons_zero]
            have HO := Lib.hid (HO.out.ext hE2)
            have x0 := cs_ext hE2 x0
            have HE := Lib.hid (HE.out.trans hE2)
            clear hE2 hF hQ
            obtain ⟨wr, hwr⟩ : ∃ wr, wr = wz := ⟨_, rfl⟩
            rw [← hwr] at HO HE x0 ⊢
            clear hwr
            obtain ⟨p, hp⟩ : ∃ p : Nat, x = p := ⟨x.toNat, by omega⟩
            subst hp
            have hpl : p < L.length := by omega
            obtain ⟨s, hs⟩ : ∃ s, L[p]? = some s := ⟨_, List.getElem?_eq_getElem hpl⟩
            obtain ⟨xb, xo, xa, xc, rfl, s0, s1, s2, s3, hTs⟩ := (HL.out.ext HE.out).ts.at hs
            have hs6 := HL3.out s (List.mem_of_getElem? hs)
            have HSEL : Hid (sumL (selS L (C.take (m + 1 + 1))) [] = plusS (sumL (selS L (C.take (m + 1))) []) (sumT s)) := Lib.hid (by rw [selS_take HX.out (by simpa using hs), sumL_snoc])
            have hsm := HSF.out (m + 1)
            have HBS : Hid ((sumT s).length ≤ 300 ∧ Asc (sumT s) ∧ ∀ y ∈ sumT s, sizeT y ≤ 300) := Lib.hid ⟨by have := sumT_len s; omega, sumT_asc s, fun y hy => by have := sumT_size s y hy; omega⟩
            have hcon := RSummands_any 30000 wr _ xa xc s (by omega) (Nat.le_refl _) (fun c hc => Nat.lt_of_lt_of_le hc (HE1.out.trans HE.out).size) hTs
            obtain ⟨P, hP⟩ : ∃ P, P = sumL (selS L (C.take (m + 1))) [] := ⟨_, rfl⟩
            obtain ⟨Q, hQ⟩ : ∃ Q, Q = sumT s := ⟨_, rfl⟩
            rw [← hP] at HO hsm HSEL
            simp only [← hP]
            rw [← hQ] at hcon HSEL HBS
            have HSM2 := Lib.hid hsm
            have HCON4 := Lib.hid hcon
            clear hs hTs hcon hP hQ hsm hs6
            go_wp2_with fail
            refine HCON4.out.mono ?_
            rintro e w4 ⟨u, rfl, hE4, hO4⟩
            obtain ⟨ua, uc, hu, -, -, -⟩ := id hO4.ls
            subst hu
            have hcp := RPlus_any (fun y hy => by have := HSM2.out.2.2 y hy; omega) (fun y hy => by have := HBS.out.2.2 y hy; omega) (by have := HSM2.out.1; have := HBS.out.1; omega) HSM2.out.2.1 HBS.out.2.1 (fun c hc => Nat.lt_of_lt_of_le hc ((HE1.out.trans HE.out).trans hE4).size) (HO.out.ext hE4).ls hO4.ls
            have HE4 := Lib.hid (HE.out.trans hE4)
            have HCP := Lib.hid hcp
            clear hE4 hO4 hcp
            go_wp2_with fail
            refine HCP.out.mono ?_
            rintro e w5 ⟨u, rfl, hE5, hO5⟩
            have HE5 := Lib.hid (HE4.out.trans hE5)
            have HO5 := Lib.hid (hO5.low HE4.out.size)
            clear hE5 hO5
            go_wp2_with fail
            go_roundw
            case rel => exact ⟨m + 1 + 1, by go_num, by omega, HNEXT.out, by rw [HSEL.out]; exact HO5.out, HE5.out⟩
            case measure => simp [intOf]; omega
    · have HTK : Hid (C.take k = C) := Lib.hid (List.take_of_length_le (by omega))
      have HRF : Hid (chkS L t C = decide (sumL (selS L C) [] = sumT t)) := Lib.hid (by rw [HRE.out, decide_eq_true (HTK.out ▸ HOK.out)]; rfl)
      have hO := HO.out
      have hsm := HSF.out k
      rw [HTK.out] at hO hsm
      simp only [HTK.out]
      have h0 := hs_ext HE.out H0.out
      have b0 : wr.cell? ⟨bx, 0, none⟩ = some (.int .i64 t.kind) := by rw [cellc h0]; rfl
      have b1 : wr.cell? ⟨bx, 1, none⟩ = some (.string t.name) := by rw [cellc h0]; rfl
      have b2 : wr.cell? ⟨bx, 2, none⟩ = some (.int .i64 t.sort) := by rw [cellc h0]; rfl
      have b3 : wr.cell? ⟨bx, 3, none⟩ = some (.slice a' t.kids.length cap') := by rw [cellc h0]; rfl
      have hcon := RSummands_any 30000 wr _ a' cap' t (by omega) (Nat.le_refl _) (fun c hc => Nat.lt_of_lt_of_le hc (HE1.out.trans HE.out).size) (HT.out.ext HE.out)
      have HBS : Hid ((sumT t).length ≤ 300 ∧ Asc (sumT t) ∧ ∀ y ∈ sumT t, sizeT y ≤ 300) := Lib.hid ⟨by have := sumT_len t; omega, sumT_asc t, fun y hy => by have := sumT_size t y hy; omega⟩
      obtain ⟨P, hP⟩ : ∃ P, P = sumL (selS L C) [] := ⟨_, rfl⟩
      obtain ⟨Q, hQ⟩ : ∃ Q, Q = sumT t := ⟨_, rfl⟩
      rw [← hP] at hO hsm HRF
      simp only [← hP]
      rw [← hQ] at hcon HRF HBS
      have HSM2 := Lib.hid hsm
      have HO := Lib.hid hO
      have HCON4 := Lib.hid hcon
      clear hcon hP hQ hsm hO h0
      go_wp2_with fail
      refine HCON4.out.mono ?_
      rintro e w4 ⟨u, rfl, hE4, hO4⟩
      obtain ⟨ua, uc, hu, -, -, -⟩ := id hO4.ls
      subst hu
      have HE4 := Lib.hid (HE1.out.trans (HE.out.trans hE4))
      have hcp := RLists_any (fun y hy => by have := HSM2.out.2.2 y hy; omega) (fun y hy => by have := HBS.out.2.2 y hy; omega) (HO.out.ext hE4).ls hO4.ls
      have HCP := Lib.hid hcp
      clear hE4 hO4 hcp
      go_wp2_with fail
      refine HCP.out.mono ?_
      rintro e w5 ⟨rfl, hE5⟩
      have HE5 := Lib.hid (HE4.out.trans hE5)
      clear hE5
      go_wp2_with fail
      go_ret
      exact ⟨rb HRF.out.symm, HE5.out⟩

end Go.Proofs.Ytckgjebcehbkfaa
