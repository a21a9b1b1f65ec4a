/- The walk of the law XorAccepts. -/
import Derived.Test.YtckgjebcehbkfaaL2
import Derived.Test.YtckgjebcehbkfaaY13
namespace Go.Proofs.Ytckgjebcehbkfaa
open Go Go.RowKit
set_option linter.unusedVariables false
set_option linter.unusedSimpArgs false

/-- what an extract takes from a tuple -/
def tupAt (v : Value) (i : Nat) : Value := match v with
  | .tuple vs => vs.getD i undef
  | _ => undef
theorem chkS_len {L : List Tm} {t : Tm} {C : List Int} (h : chkS L t C = true) : C.length ≤ L.length := by
  unfold chkS at h
  simp only [Bool.and_eq_true, decide_eq_true_eq] at h
  rw [okC_eq h.1.2, List.length_map]
  exact sel_len _ _

set_option maxRecDepth 100000 in
set_option maxHeartbeats 4000000 in
theorem law_accepts {w : World} {S S' : Nat → Prop} {a a' : Option Addr} {cap cap' : Nat} {L : List Tm} {t : Tm} (hL : LsT w S (.slice a L.length cap) L) (hT : TmW w S' a' cap' t) (hft : Fits (L.length + 1)) :
    Calls Try.prog 10 #[.slice a L.length cap, .agg #[.int .i64 t.kind, .string t.name, .int .i64 t.sort, .slice a' t.kids.length cap']] w fun e w' => e = .returned (.bool true) ∧ Ext w w' := by
  obtain ⟨-, hl, hc⟩ := hL.len
  have hl' := hT.len
  have hc' := hT.cap
  unfold maxLen at hc hc'
  obtain ⟨bx, hbx⟩ : ∃ bx, bx = w.heap.size := ⟨_, rfl⟩
  obtain ⟨w1, hw1⟩ : ∃ w1, w1 = w.alloc (.cells #[.int .i64 t.kind, .string t.name, .int .i64 t.sort, .slice a' t.kids.length cap'] 24) := ⟨_, rfl⟩
  have HE1 : Hid (Ext w w1) := Lib.hid (by rw [hw1]; exact Ext.alloc w _)
  have HBX : Hid (w1.heap[bx]? = some (.cells #[.int .i64 t.kind, .string t.name, .int .i64 t.sort, .slice a' t.kids.length cap'] 24)) := Lib.hid (by rw [hw1, hbx]; exact hs_new)
  have HTW := Lib.hid (hT.below.ext HE1.out)
  have HLW := Lib.hid (hL.below.ext HE1.out)
  have HAW := Lib.hid (awake_any)
  have HFT := Lib.hid hft
  have b0 : w1.cell? ⟨bx, 0, none⟩ = some (.int .i64 t.kind) := by rw [cellc HBX.out]; rfl
  have b1 : w1.cell? ⟨bx, 1, none⟩ = some (.string t.name) := by rw [cellc HBX.out]; rfl
  have b2 : w1.cell? ⟨bx, 2, none⟩ = some (.int .i64 t.sort) := by rw [cellc HBX.out]; rfl
  have b3 : w1.cell? ⟨bx, 3, none⟩ = some (.slice a' t.kids.length cap') := by rw [cellc HBX.out]; rfl
  clear hT hL hft
  go_enter Try.func10, Try.ntmps10
  go_upto_region 1 with fail
  rw [← hw1, ← hbx]
  clear hw1 hbx
  refine wp_region_reg 7 false (by kernel_rfl) (by kernel_rfl) ?_
  refine reg_const (fun _ => rfl) 12 ?_ (fun g w' vs hM hE hP => ?_) ?_
  rotate_left
  · (clear hP hM; have zz0 := cs_ext hE b0; have zz1 := cs_ext hE b1; have zz2 := cs_ext hE b2; have zz3 := cs_ext hE b3; go_simp; first | done | exact ⟨rfl, rfl⟩ | rfl)
  apply Exists.intro
  refine And.intro (fun g w' vs hM hE hP => ?_) ?_
  · exact HAW.out _
  refine reg_value (fun _ => rfl) ?_ (fun g w' vs hM hE hP => ?_) ?_
  rotate_left
  · (clear hP hM; have zz0 := cs_ext hE b0; have zz1 := cs_ext hE b1; have zz2 := cs_ext hE b2; have zz3 := cs_ext hE b3; go_simp; first | done | rfl)
  refine reg_value (fun _ => rfl) ?_ (fun g w' vs hM hE hP => ?_) ?_
  rotate_left
  · (clear hP hM; have zz0 := cs_ext hE b0; have zz1 := cs_ext hE b1; have zz2 := cs_ext hE b2; have zz3 := cs_ext hE b3; go_simp; first | done | rfl)
  refine reg_value (fun g => by go_simp) ?_ (fun g w' vs hM hE hP => ?_) ?_
  rotate_left
  · (clear hP hM; have zz0 := cs_ext hE b0; have zz1 := cs_ext hE b1; have zz2 := cs_ext hE b2; have zz3 := cs_ext hE b3; go_simp; first | done | rfl)
  refine reg_call (fun g => by go_simp) 17 ?_ (fun g w' m hM hE hP => ?_) (fun u w'' => OwnT w'' w1.heap.size (fun c => c < w.heap.size) u L) ⟨fun u a b h hE => h.ext hE, (fun h => nomatch h), (fun h => absurd rfl h)⟩ (fun g w' m hM hE hP => ?_) ?_
  rotate_left
  · (clear hP hM; go_simp; first | done | exact ⟨rfl, rfl⟩ | rfl)
  · exact (sClone_big (by have := HFT.out; unfold Fits at *; omega) (fun c hc => Nat.lt_of_lt_of_le hc (HE1.out.trans hE).size) (HLW.out.ext hE)).mono (fun e w'' ⟨u, h1, h2, h3⟩ => ⟨u, h1, h2, h3.low hE.size⟩)
  refine reg_value (fun g => by go_simp) ?_ (fun g w' vs hM hE hP => ?_) ?_
  rotate_left
  · (clear hP hM; have zz0 := cs_ext hE b0; have zz1 := cs_ext hE b1; have zz2 := cs_ext hE b2; have zz3 := cs_ext hE b3; go_simp; first | done | rfl)
  refine reg_fresh (fun g => by go_simp) (fun n => .slice (some ⟨n, 0, none⟩) 1 1) (fun _ => .cells #[.int .i64 t.kind, .string t.name, .int .i64 t.sort, .slice a' t.kids.length cap'] 24) (fun g w' m hM hE hP => ?_) ?_
  · (clear hP hM; have zz1 := cs_ext hE b0; have zz2 := cs_ext hE b1; have zz3 := cs_ext hE b2; have zz4 := cs_ext hE b3; go_simp)
  intro g w5 hE5 hF hQ
  simp only [List.drop_succ_cons, List.drop_zero, Act.put, List.setIfInBounds_toArray, List.set_cons_succ, List.set_cons_zero]
  have hO5 : OwnT w5 w1.heap.size (fun c => c < w.heap.size) (g 4).v L := hQ _ List.mem_cons_self
  have hf : w5.heap[(g 6).n]? = some (.cells #[.int .i64 t.kind, .string t.name, .int .i64 t.sort, .slice a' t.kids.length cap'] 24) := (hF.2.1 _ List.mem_cons_self).1
  obtain ⟨u, hu⟩ : ∃ u, u = (g 4).v := ⟨_, rfl⟩
  obtain ⟨fb, hfb⟩ : ∃ fb, fb = (g 6).n := ⟨_, rfl⟩
  rw [← hu] at hO5 ⊢
  rw [← hfb] at hf ⊢
  have hone : LsT w5 (fun c => c < w.heap.size) (.slice (some ⟨fb, 0, none⟩) 1 1) [t] := one_ls hf (HTW.out.ext hE5)
  have hoff : ∀ c, c < w.heap.size → u.ownBlock ≠ some c := fun c hc e => by have := (hO5.lt c e).1; have := HE1.out.size; omega
  have hsz : w1.heap.size ≤ w5.heap.size := hE5.size
  have HE5 := Lib.hid hE5
  obtain ⟨X, hX⟩ : ∃ X, X = L ++ [t] := ⟨_, rfl⟩
  have HX := Lib.hid hX
  have hxl : X.length = L.length + 1 := by rw [hX]; simp
  have HXL := Lib.hid hxl
  obtain ⟨b, hb⟩ : ∃ b, b = fewT X 20 300 := ⟨_, rfl⟩
  have HB := Lib.hid hb
  clear hf hu hfb hF hQ hE5 hX hxl hb b0 b1 b2 b3
  refine wpList_appTg (by go_simp) (.tmp 13) (.tmp 15) rfl rfl rfl hO5 hsz hoff (X := [t]) HFT.out hone ?_
  intro u' w6 o6 g6 k6
  have HE6 : Hid (Ext w1 w6) := Lib.hid (HE5.out.grown g6 (fun q hq => (hO5.lt q hq).1))
  rw [← HX.out] at o6
  obtain ⟨ua, uc, hu, hl1, hl2, hts⟩ := id o6.ls
  unfold maxLen at hl2
  have HLS : Hid (LsT w6 (fun c => c < w.heap.size) (.slice ua X.length uc) X) := Lib.hid ⟨ua, uc, rfl, hl1, hl2, hts⟩
  subst hu
  clear o6 g6 k6 hO5 hone hoff hts
  go_wp2_with fail
  have hcon := few_any (w := w6) HLS.out
  rw [← HB.out] at hcon
  refine hcon.mono ?_
  clear hcon
  rintro e w7 ⟨rfl, hE7⟩
  have HE7 := Lib.hid (HE6.out.trans hE7)
  clear hE7
  have HFIN : Hid (∀ w8, Ext w1 w8 → ∀ e w', (e = Ending.returned (Value.bool true) ∧ Ext w8 w') → (e = Ending.returned (Value.bool true) ∧ Ext w w')) := Lib.hid (fun w8 h e w' h2 => ⟨h2.1, (HE1.out.trans h).trans h2.2⟩)
  cases b with
  | false =>
    have HEB := HE7
    go_wp2_with fail
    refine (HAW.out _).mono ?_
    rintro e w9 ⟨rfl, hE9⟩
    go_wp2_with fail
    go_ret
    exact HFIN.out _ HEB.out _ _ ⟨rfl, hE9⟩
  | true =>
    have h1 := few_one HB.out.symm
    rw [HX.out, sizeL_append, sizeL, sizeL] at h1
    have HS : Hid ((∀ x ∈ L, sizeT x ≤ 300) ∧ sizeT t ≤ 300 ∧ L.length ≤ 20 ∧ sizeL L + sizeT t ≤ 300) := Lib.hid ⟨fun x hx => by obtain ⟨i, hi⟩ := List.mem_iff_getElem?.1 hx; have := sizeL_get hi; omega, by omega, by have := h1.1; simp at this; omega, by omega⟩
    have h8 := hs_ext HE7.out HBX.out
    have b0 : w7.cell? ⟨bx, 0, none⟩ = some (.int .i64 t.kind) := by rw [cellc h8]; rfl
    have b1 : w7.cell? ⟨bx, 1, none⟩ = some (.string t.name) := by rw [cellc h8]; rfl
    have b2 : w7.cell? ⟨bx, 2, none⟩ = some (.int .i64 t.sort) := by rw [cellc h8]; rfl
    have b3 : w7.cell? ⟨bx, 3, none⟩ = some (.slice a' t.kids.length cap') := by rw [cellc h8]; rfl
    have HL8 := Lib.hid (HLW.out.ext HE7.out)
    have HT8 := Lib.hid (HTW.out.ext HE7.out)
    clear h1 h8 hsz HXL HB HX HLS HE5 HE6
    go_upto_region 3 with fail
    refine wp_region_reg 9 false (by kernel_rfl) (by kernel_rfl) ?_
    refine reg_value (fun _ => rfl) ?_ (fun g w' vs hM hE hP => ?_) ?_
    rotate_left
    · (clear hP hM; have zz0 := cs_ext hE b0; have zz1 := cs_ext hE b1; have zz2 := cs_ext hE b2; have zz3 := cs_ext hE b3; go_simp; first | done | rfl)
    refine reg_call (fun _ => rfl) 17 ?_ (fun g w' m hM hE hP => ?_) (fun u w'' => OwnT w'' w7.heap.size (fun c => c < w.heap.size) u L) ⟨fun u a b h hE => h.ext hE, (fun h => nomatch h), (fun h => absurd rfl h)⟩ (fun g w' m hM hE hP => ?_) ?_
    rotate_left
    · (clear hP hM; go_simp; first | done | exact ⟨rfl, rfl⟩ | rfl)
    · exact (sClone_any (by have := HS.out.2.2.1; omega) (fun c hc => Nat.lt_of_lt_of_le hc ((HE1.out.trans HE7.out).trans hE).size) (HL8.out.ext hE)).mono (fun e w'' ⟨u, h1, h2, h3⟩ => ⟨u, h1, h2, h3.low hE.size⟩)
    refine reg_value (fun _ => rfl) ?_ (fun g w' vs hM hE hP => ?_) ?_
    rotate_left
    · (clear hP hM; have zz0 := cs_ext hE b0; have zz1 := cs_ext hE b1; have zz2 := cs_ext hE b2; have zz3 := cs_ext hE b3; go_simp; first | done | rfl)
    refine reg_call (fun _ => rfl) 31 (fun g => #[(g 1).v, .agg #[.int .i64 t.kind, .string t.name, .int .i64 t.sort, .slice a' t.kids.length cap']]) (fun g w' m hM hE hP => ?_) (fun u w'' => ∃ v er C, u = .tuple #[v, .int .i64 er] ∧ LsI w'' v C ∧ SpanR L t C er) ⟨fun u a b h hE => (let ⟨v, er, C, e, h1, h2⟩ := h; ⟨v, er, C, e, h1.ext hE, h2⟩), (fun h => nomatch h), (fun h => absurd rfl h)⟩ (fun g w' m hM hE hP => ?_) ?_
    · (clear hP hM; go_simp)
    · have h1 := (hP _ List.mem_cons_self (anc_of 3 (by kernel_rfl)))
      have h1 : OwnT w' w7.heap.size (fun c => c < w.heap.size) (g 1).v L := h1
      obtain ⟨ua, uc, hu, -⟩ := id h1.ls
      have h1 := h1.ls
      rw [hu] at h1
      rw [hu]
      exact (PSpan_any (by have := HS.out.2.2.2; omega) h1 (HT8.out.ext hE)).mono (fun e w'' ⟨u, er, C, h1, h2, h3, h4⟩ => ⟨_, h1, h2, u, er, C, rfl, h3, h4⟩)
    refine reg_value (fun _ => rfl) ?_ (fun g w' vs hM hE hP => ?_) ?_
    rotate_left
    · (clear hP hM; have zz0 := cs_ext hE b0; have zz1 := cs_ext hE b1; have zz2 := cs_ext hE b2; have zz3 := cs_ext hE b3; go_simp; first | done | rfl)
    refine reg_value (fun _ => rfl) (fun g => tupAt (g 3).v 0) (fun g w' vs hM hE hP => ?_) ?_
    · obtain ⟨u, er, C, hu, -, -⟩ := hP _ List.mem_cons_self (anc_of 3 (by kernel_rfl))
      have hu : (g 3).v = _ := hu
      clear hP hM
      go_simp
      first | done | simp [tupAt, hu]
    refine reg_value (fun _ => rfl) (fun g => tupAt (g 3).v 1) (fun g w' vs hM hE hP => ?_) ?_
    · obtain ⟨u, er, C, hu, -, -⟩ := hP _ List.mem_cons_self (anc_of 3 (by kernel_rfl))
      have hu : (g 3).v = _ := hu
      clear hP hM
      go_simp
      first | done | simp [tupAt, hu]
    refine reg_value (fun _ => rfl) ?_ (fun g w' vs hM hE hP => ?_) ?_
    rotate_left
    · (clear hP hM; have zz0 := cs_ext hE b0; have zz1 := cs_ext hE b1; have zz2 := cs_ext hE b2; have zz3 := cs_ext hE b3; go_simp; first | done | rfl)
    refine reg_value (fun _ => rfl) ?_ (fun g w' vs hM hE hP => ?_) ?_
    rotate_left
    · (clear hP hM; have zz0 := cs_ext hE b0; have zz1 := cs_ext hE b1; have zz2 := cs_ext hE b2; have zz3 := cs_ext hE b3; go_simp; first | done | rfl)
    intro g w8 hE8 hF hQ
    simp only [List.drop_succ_cons, List.drop_zero, Act.put, List.setIfInBounds_toArray, List.set_cons_succ, List.set_cons_zero]
    obtain ⟨u, er, C, hu, hC, hR⟩ := hQ _ List.mem_cons_self
    have hu : (g 3).v = _ := hu
    rw [hu, show tupAt (.tuple #[u, .int .i64 er]) 0 = u from rfl, show tupAt (.tuple #[u, .int .i64 er]) 1 = .int .i64 er from rfl]
    have HC8 := Lib.hid hC
    have HSR := Lib.hid hR
    have HE8 := Lib.hid (HE7.out.trans hE8)
    have b0 := cs_ext hE8 b0
    have b1 := cs_ext hE8 b1
    have b2 := cs_ext hE8 b2
    have b3 := cs_ext hE8 b3
    have HL9 := Lib.hid (HL8.out.ext hE8)
    have HT9 := Lib.hid (HT8.out.ext hE8)
    clear hu hF hQ hC hR hE8
    by_cases hz : er = 0
    · have e1 : (er == 0) = true := by simp [hz]
      have hck : chkS L t C = true := by
        rcases HSR.out with ⟨h1, h2, -⟩ | ⟨-, ⟨-, -, h2⟩ | ⟨-, h2, -⟩⟩
        · exact absurd (h2.symm.trans hz) h1
        · exact h2
        · rw [h2] at hz; cases hz
      obtain ⟨ca, cc, hcv, hcl, hcc, hci, hc64⟩ := id HC8.out
      subst hcv
      unfold maxLen at hcc
      have hcon := PCheck_any (w := w8) (L := L) (t := t) (C := C) HS.out.1 HS.out.2.1 (by have := HS.out.2.2.1; omega) (by have := chkS_len hck; have := HS.out.2.2.1; omega) HL9.out HT9.out HC8.out
      rw [hck] at hcon
      have HCONP := Lib.hid hcon
      clear hcon hz hck hci hc64
      go_wp2_with fail
      refine HCONP.out.mono ?_
      rintro e wz ⟨rfl, hEZ⟩
      have b0 := cs_ext hEZ b0
      have b1 := cs_ext hEZ b1
      have b2 := cs_ext hEZ b2
      have b3 := cs_ext hEZ b3
      have HEZ := Lib.hid (HE8.out.trans hEZ)
      have HLZ := Lib.hid (HL9.out.ext hEZ)
      have HTZ := Lib.hid (HT9.out.ext hEZ)
      clear hEZ
      go_upto_region 6 with fail
      refine wp_region_reg 9 false (by kernel_rfl) (by kernel_rfl) ?_
      refine reg_value (fun _ => rfl) ?_ (fun g w' vs hM hE hP => ?_) ?_
      rotate_left
      · (clear hP hM; have zz0 := cs_ext hE b0; have zz1 := cs_ext hE b1; have zz2 := cs_ext hE b2; have zz3 := cs_ext hE b3; go_simp; first | done | rfl)
      refine reg_call (fun _ => rfl) 17 ?_ (fun g w' m hM hE hP => ?_) (fun u w'' => OwnT w'' wz.heap.size (fun c => c < w.heap.size) u L) ⟨fun u a b h hE => h.ext hE, (fun h => nomatch h), (fun h => absurd rfl h)⟩ (fun g w' m hM hE hP => ?_) ?_
      rotate_left
      · (clear hP hM; go_simp; first | done | exact ⟨rfl, rfl⟩ | rfl)
      · exact (sClone_any (by have := HS.out.2.2.1; omega) (fun c hc => Nat.lt_of_lt_of_le hc ((HE1.out.trans HEZ.out).trans hE).size) (HLZ.out.ext hE)).mono (fun e w'' ⟨u, h1, h2, h3⟩ => ⟨u, h1, h2, h3.low hE.size⟩)
      refine reg_value (fun _ => rfl) ?_ (fun g w' vs hM hE hP => ?_) ?_
      rotate_left
      · (clear hP hM; have zz0 := cs_ext hE b0; have zz1 := cs_ext hE b1; have zz2 := cs_ext hE b2; have zz3 := cs_ext hE b3; go_simp; first | done | rfl)
      refine reg_call (fun _ => rfl) 35 (fun g => #[(g 1).v, .agg #[.int .i64 t.kind, .string t.name, .int .i64 t.sort, .slice a' t.kids.length cap']]) (fun g w' m hM hE hP => ?_) (fun u w'' => ∃ v er P, u = .tuple #[v, .int .i64 er] ∧ LsT w'' Any v P ∧ RefuteR L t P er ∧ sizeL P ≤ sizeL L + sizeT t) ⟨fun u a b h hE => (let ⟨v, er, P, e, h1, h2⟩ := h; ⟨v, er, P, e, h1.ext hE, h2⟩), (fun h => nomatch h), (fun h => absurd rfl h)⟩ (fun g w' m hM hE hP => ?_) ?_
      · (clear hP hM; go_simp)
      · have h1 := (hP _ List.mem_cons_self (anc_of 3 (by kernel_rfl)))
        have h1 : OwnT w' wz.heap.size (fun c => c < w.heap.size) (g 1).v L := h1
        obtain ⟨ua, uc, hu, -⟩ := id h1.ls
        have h1 := h1.ls
        rw [hu] at h1
        rw [hu]
        exact (PRefute_any (by have := HS.out.2.2.2; omega) h1 (HTZ.out.ext hE)).mono (fun e w'' ⟨u, er, P, h1, h2, h3, h4⟩ => ⟨_, h1, h2, u, er, P, rfl, h3, h4⟩)
      refine reg_value (fun _ => rfl) ?_ (fun g w' vs hM hE hP => ?_) ?_
      rotate_left
      · (clear hP hM; have zz0 := cs_ext hE b0; have zz1 := cs_ext hE b1; have zz2 := cs_ext hE b2; have zz3 := cs_ext hE b3; go_simp; first | done | rfl)
      refine reg_value (fun _ => rfl) (fun g => tupAt (g 3).v 0) (fun g w' vs hM hE hP => ?_) ?_
      · obtain ⟨u2, er2, P, hu, -, -⟩ := hP _ List.mem_cons_self (anc_of 3 (by kernel_rfl))
        have hu : (g 3).v = _ := hu
        clear hP hM
        go_simp
        first | done | simp [tupAt, hu]
      refine reg_value (fun _ => rfl) (fun g => tupAt (g 3).v 1) (fun g w' vs hM hE hP => ?_) ?_
      · obtain ⟨u2, er2, P, hu, -, -⟩ := hP _ List.mem_cons_self (anc_of 3 (by kernel_rfl))
        have hu : (g 3).v = _ := hu
        clear hP hM
        go_simp
        first | done | simp [tupAt, hu]
      refine reg_value (fun _ => rfl) ?_ (fun g w' vs hM hE hP => ?_) ?_
      rotate_left
      · (clear hP hM; have zz0 := cs_ext hE b0; have zz1 := cs_ext hE b1; have zz2 := cs_ext hE b2; have zz3 := cs_ext hE b3; go_simp; first | done | rfl)
      refine reg_value (fun _ => rfl) ?_ (fun g w' vs hM hE hP => ?_) ?_
      rotate_left
      · (clear hP hM; have zz0 := cs_ext hE b0; have zz1 := cs_ext hE b1; have zz2 := cs_ext hE b2; have zz3 := cs_ext hE b3; go_simp; first | done | rfl)
      intro g wy hEY hF hQ
      simp only [List.drop_succ_cons, List.drop_zero, Act.put, List.setIfInBounds_toArray, List.set_cons_succ, List.set_cons_zero]
      obtain ⟨u2, er2, P, hu, hP, hR, hsp⟩ := hQ _ List.mem_cons_self
      have hu : (g 3).v = _ := hu
      rw [hu, show tupAt (.tuple #[u2, .int .i64 er2]) 0 = u2 from rfl, show tupAt (.tuple #[u2, .int .i64 er2]) 1 = .int .i64 er2 from rfl]
      obtain ⟨pa, pc, hpv, hpl, hpc, hpt⟩ := hP
      have hP : LsT wy Any (.slice pa P.length pc) P := ⟨pa, pc, rfl, hpl, hpc, hpt⟩
      unfold maxLen at hpc
      subst hpv
      have HPY := Lib.hid hP
      have HRR := Lib.hid hR
      have HSP := Lib.hid hsp
      have HEY := Lib.hid (HEZ.out.trans hEY)
      have b0 := cs_ext hEY b0
      have b1 := cs_ext hEY b1
      have b2 := cs_ext hEY b2
      have b3 := cs_ext hEY b3
      have HLY := Lib.hid (HLZ.out.ext hEY)
      have HTY := Lib.hid (HTZ.out.ext hEY)
      clear hu hF hQ hP hR hEY hsp hpt
      by_cases hz2 : er2 = 0
      · have e2 : (er2 != 0) = false := by simp [hz2]
        have hcr : crS L t P = true := by
          rcases HRR.out with ⟨h1, h2, -⟩ | ⟨-, ⟨-, h2, -⟩ | ⟨-, -, h2⟩⟩
          · exact absurd (h2.symm.trans hz2) h1
          · rw [h2] at hz2; cases hz2
          · exact h2 (by have := HS.out.2.2.1; omega)
        have hcon := PCheckRefute_any (w := wy) (L := L) (R := P) (t := t) (fun x hx => by have := HS.out.1 x hx; omega) (fun x hx => by obtain ⟨i, hi⟩ := List.mem_iff_getElem?.1 hx; have := sizeL_get hi; have := HSP.out; have := HS.out.2.2.2; omega) (by have := HS.out.2.1; omega) (by have := HS.out.2.2.1; omega) (by have := len_size P; have := HSP.out; have := HS.out.2.2.2; omega) HLY.out HTY.out HPY.out
        rw [hcr] at hcon
        have HCONQ := Lib.hid hcon
        clear hcon hcr hz2
        go_wp2_with fail
        refine HCONQ.out.mono ?_
        rintro e wx ⟨rfl, hEX⟩
        have HEX := Lib.hid (HEY.out.trans hEX)
        clear hEX
        go_wp2_with fail
        go_ret
        exact ⟨rfl, HE1.out.trans HEX.out⟩
      · have e2 : (er2 != 0) = true := by simp [hz2]
        clear hz2
        go_wp2_with fail
        go_ret
        exact ⟨rfl, HE1.out.trans HEY.out⟩
    · have e1 : (er == 0) = false := by simp [hz]
      clear hz
      obtain ⟨wz, hwz⟩ : ∃ wz, wz = w8 := ⟨_, rfl⟩
      subst hwz
      have HEZ := HE8
      have HLZ := HL9
      have HTZ := HT9
      go_upto_region 6 with fail
      refine wp_region_reg 9 false (by kernel_rfl) (by kernel_rfl) ?_
      refine reg_value (fun _ => rfl) ?_ (fun g w' vs hM hE hP => ?_) ?_
      rotate_left
      · (clear hP hM; have zz0 := cs_ext hE b0; have zz1 := cs_ext hE b1; have zz2 := cs_ext hE b2; have zz3 := cs_ext hE b3; go_simp; first | done | rfl)
      refine reg_call (fun _ => rfl) 17 ?_ (fun g w' m hM hE hP => ?_) (fun u w'' => OwnT w'' wz.heap.size (fun c => c < w.heap.size) u L) ⟨fun u a b h hE => h.ext hE, (fun h => nomatch h), (fun h => absurd rfl h)⟩ (fun g w' m hM hE hP => ?_) ?_
      rotate_left
      · (clear hP hM; go_simp; first | done | exact ⟨rfl, rfl⟩ | rfl)
      · exact (sClone_any (by have := HS.out.2.2.1; omega) (fun c hc => Nat.lt_of_lt_of_le hc ((HE1.out.trans HEZ.out).trans hE).size) (HLZ.out.ext hE)).mono (fun e w'' ⟨u, h1, h2, h3⟩ => ⟨u, h1, h2, h3.low hE.size⟩)
      refine reg_value (fun _ => rfl) ?_ (fun g w' vs hM hE hP => ?_) ?_
      rotate_left
      · (clear hP hM; have zz0 := cs_ext hE b0; have zz1 := cs_ext hE b1; have zz2 := cs_ext hE b2; have zz3 := cs_ext hE b3; go_simp; first | done | rfl)
      refine reg_call (fun _ => rfl) 35 (fun g => #[(g 1).v, .agg #[.int .i64 t.kind, .string t.name, .int .i64 t.sort, .slice a' t.kids.length cap']]) (fun g w' m hM hE hP => ?_) (fun u w'' => ∃ v er P, u = .tuple #[v, .int .i64 er] ∧ LsT w'' Any v P ∧ RefuteR L t P er ∧ sizeL P ≤ sizeL L + sizeT t) ⟨fun u a b h hE => (let ⟨v, er, P, e, h1, h2⟩ := h; ⟨v, er, P, e, h1.ext hE, h2⟩), (fun h => nomatch h), (fun h => absurd rfl h)⟩ (fun g w' m hM hE hP => ?_) ?_
      · (clear hP hM; go_simp)
      · have h1 := (hP _ List.mem_cons_self (anc_of 3 (by kernel_rfl)))
        have h1 : OwnT w' wz.heap.size (fun c => c < w.heap.size) (g 1).v L := h1
        obtain ⟨ua, uc, hu, -⟩ := id h1.ls
        have h1 := h1.ls
        rw [hu] at h1
        rw [hu]
        exact (PRefute_any (by have := HS.out.2.2.2; omega) h1 (HTZ.out.ext hE)).mono (fun e w'' ⟨u, er, P, h1, h2, h3, h4⟩ => ⟨_, h1, h2, u, er, P, rfl, h3, h4⟩)
      refine reg_value (fun _ => rfl) ?_ (fun g w' vs hM hE hP => ?_) ?_
      rotate_left
      · (clear hP hM; have zz0 := cs_ext hE b0; have zz1 := cs_ext hE b1; have zz2 := cs_ext hE b2; have zz3 := cs_ext hE b3; go_simp; first | done | rfl)
      refine reg_value (fun _ => rfl) (fun g => tupAt (g 3).v 0) (fun g w' vs hM hE hP => ?_) ?_
      · obtain ⟨u2, er2, P, hu, -, -⟩ := hP _ List.mem_cons_self (anc_of 3 (by kernel_rfl))
        have hu : (g 3).v = _ := hu
        clear hP hM
        go_simp
        first | done | simp [tupAt, hu]
      refine reg_value (fun _ => rfl) (fun g => tupAt (g 3).v 1) (fun g w' vs hM hE hP => ?_) ?_
      · obtain ⟨u2, er2, P, hu, -, -⟩ := hP _ List.mem_cons_self (anc_of 3 (by kernel_rfl))
        have hu : (g 3).v = _ := hu
        clear hP hM
        go_simp
        first | done | simp [tupAt, hu]
      refine reg_value (fun _ => rfl) ?_ (fun g w' vs hM hE hP => ?_) ?_
      rotate_left
      · (clear hP hM; have zz0 := cs_ext hE b0; have zz1 := cs_ext hE b1; have zz2 := cs_ext hE b2; have zz3 := cs_ext hE b3; go_simp; first | done | rfl)
      refine reg_value (fun _ => rfl) ?_ (fun g w' vs hM hE hP => ?_) ?_
      rotate_left
      · (clear hP hM; have zz0 := cs_ext hE b0; have zz1 := cs_ext hE b1; have zz2 := cs_ext hE b2; have zz3 := cs_ext hE b3; go_simp; first | done | rfl)
      intro g wy hEY hF hQ
      simp only [List.drop_succ_cons, List.drop_zero, Act.put, List.setIfInBounds_toArray, List.set_cons_succ, List.set_cons_zero]
      obtain ⟨u2, er2, P, hu, hP, hR, hsp⟩ := hQ _ List.mem_cons_self
      have hu : (g 3).v = _ := hu
      rw [hu, show tupAt (.tuple #[u2, .int .i64 er2]) 0 = u2 from rfl, show tupAt (.tuple #[u2, .int .i64 er2]) 1 = .int .i64 er2 from rfl]
      obtain ⟨pa, pc, hpv, hpl, hpc, hpt⟩ := hP
      have hP : LsT wy Any (.slice pa P.length pc) P := ⟨pa, pc, rfl, hpl, hpc, hpt⟩
      unfold maxLen at hpc
      subst hpv
      have HPY := Lib.hid hP
      have HRR := Lib.hid hR
      have HSP := Lib.hid hsp
      have HEY := Lib.hid (HEZ.out.trans hEY)
      have b0 := cs_ext hEY b0
      have b1 := cs_ext hEY b1
      have b2 := cs_ext hEY b2
      have b3 := cs_ext hEY b3
      have HLY := Lib.hid (HLZ.out.ext hEY)
      have HTY := Lib.hid (HTZ.out.ext hEY)
      clear hu hF hQ hP hR hEY hsp hpt
      by_cases hz2 : er2 = 0
      · have e2 : (er2 != 0) = false := by simp [hz2]
        have hcr : crS L t P = true := by
          rcases HRR.out with ⟨h1, h2, -⟩ | ⟨-, ⟨-, h2, -⟩ | ⟨-, -, h2⟩⟩
          · exact absurd (h2.symm.trans hz2) h1
          · rw [h2] at hz2; cases hz2
          · exact h2 (by have := HS.out.2.2.1; omega)
        have hcon := PCheckRefute_any (w := wy) (L := L) (R := P) (t := t) (fun x hx => by have := HS.out.1 x hx; omega) (fun x hx => by obtain ⟨i, hi⟩ := List.mem_iff_getElem?.1 hx; have := sizeL_get hi; have := HSP.out; have := HS.out.2.2.2; omega) (by have := HS.out.2.1; omega) (by have := HS.out.2.2.1; omega) (by have := len_size P; have := HSP.out; have := HS.out.2.2.2; omega) HLY.out HTY.out HPY.out
        rw [hcr] at hcon
        have HCONQ := Lib.hid hcon
        clear hcon hcr hz2
        go_wp2_with fail
        refine HCONQ.out.mono ?_
        rintro e wx ⟨rfl, hEX⟩
        have HEX := Lib.hid (HEY.out.trans hEX)
        clear hEX
        go_wp2_with fail
        go_ret
        exact ⟨rfl, HE1.out.trans HEX.out⟩
      · have e2 : (er2 != 0) = true := by simp [hz2]
        clear hz2
        go_wp2_with fail
        go_ret
        exact ⟨rfl, HE1.out.trans HEY.out⟩

end Go.Proofs.Ytckgjebcehbkfaa
