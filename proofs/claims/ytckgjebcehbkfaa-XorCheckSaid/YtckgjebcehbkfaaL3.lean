/- The walk of the law XorCheck. -/
import Derived.Test.YtckgjebcehbkfaaL2
import Derived.Test.YtckgjebcehbkfaaX27
namespace Go.Proofs.Ytckgjebcehbkfaa
open Go Go.RowKit
set_option linter.unusedVariables false
set_option linter.unusedSimpArgs false

set_option maxRecDepth 100000 in
set_option maxHeartbeats 4000000 in
theorem law_check {w : World} {S S' : Nat → Prop} {a a' a'' : Option Addr} {cap cap' cap'' : Nat} {L : List Tm} {t : Tm} {C : List Int} (hL : LsT w S (.slice a L.length cap) L) (hT : TmW w S' a' cap' t) (hC : LsI w (.slice a'' C.length cap'') C) (hft : Fits (L.length + 1)) :
    Calls Try.prog 8 #[.slice a L.length cap, .agg #[.int .i64 t.kind, .string t.name, .int .i64 t.sort, .slice a' t.kids.length cap'], .slice a'' C.length cap''] w fun e w' => e = .returned (.bool true) ∧ Ext w w' := by
  obtain ⟨-, hl, hc⟩ := hL.len
  obtain ⟨-, hl2, hc2⟩ := hC.len
  have hl' := hT.len
  have hc' := hT.cap
  unfold maxLen at hc hc2 hc'
  obtain ⟨bx, hbx⟩ : ∃ bx, bx = w.heap.size := ⟨_, rfl⟩
  obtain ⟨w1, hw1⟩ : ∃ w1, w1 = w.alloc (.cells #[.int .i64 t.kind, .string t.name, .int .i64 t.sort, .slice a' t.kids.length cap'] 24) := ⟨_, rfl⟩
  have HE1 : Hid (Ext w w1) := Lib.hid (by rw [hw1]; exact Ext.alloc w _)
  have HBX : Hid (w1.heap[bx]? = some (.cells #[.int .i64 t.kind, .string t.name, .int .i64 t.sort, .slice a' t.kids.length cap'] 24)) := Lib.hid (by rw [hw1, hbx]; exact hs_new)
  have HTW := Lib.hid (hT.below.ext HE1.out)
  have HLW := Lib.hid (hL.below.ext HE1.out)
  have HCW := Lib.hid (hC.ext HE1.out)
  have HAW := Lib.hid (awake_any)
  have HFT := Lib.hid hft
  have b0 : w1.cell? ⟨bx, 0, none⟩ = some (.int .i64 t.kind) := by rw [cellc HBX.out]; rfl
  have b1 : w1.cell? ⟨bx, 1, none⟩ = some (.string t.name) := by rw [cellc HBX.out]; rfl
  have b2 : w1.cell? ⟨bx, 2, none⟩ = some (.int .i64 t.sort) := by rw [cellc HBX.out]; rfl
  have b3 : w1.cell? ⟨bx, 3, none⟩ = some (.slice a' t.kids.length cap') := by rw [cellc HBX.out]; rfl
  clear hT hL hC hft
  go_enter Try.func8, Try.ntmps8
  go_upto_region 1 with fail
  rw [← hw1, ← hbx]
  clear hw1 hbx
  refine wp_region_reg 7 false (by kernel_rfl) (by kernel_rfl) ?_
  refine reg_const (fun _ => rfl) 12 ?_ (fun g w' vs hM hE hP => ?_) ?_
  rotate_left
  · (clear hP hM; have zz0 := cs_ext hE b0; have zz1 := cs_ext hE b1; have zz2 := cs_ext hE b2; have zz3 := cs_ext hE b3; go_simp; first | done | exact ⟨rfl, rfl⟩ | rfl)
  apply Exists.intro
  refine And.intro (fun g w' vs hM hE hP => ?_) ?_
  · exact HAW.out _
  refine reg_value (fun _ => rfl) ?_ (fun g w' vs hM hE hP => ?_) ?_
  rotate_left
  · (clear hP hM; have zz0 := cs_ext hE b0; have zz1 := cs_ext hE b1; have zz2 := cs_ext hE b2; have zz3 := cs_ext hE b3; go_simp; first | done | rfl)
  refine reg_value (fun _ => rfl) ?_ (fun g w' vs hM hE hP => ?_) ?_
  rotate_left
  · (clear hP hM; have zz0 := cs_ext hE b0; have zz1 := cs_ext hE b1; have zz2 := cs_ext hE b2; have zz3 := cs_ext hE b3; go_simp; first | done | rfl)
  refine reg_value (fun g => by go_simp) ?_ (fun g w' vs hM hE hP => ?_) ?_
  rotate_left
  · (clear hP hM; have zz0 := cs_ext hE b0; have zz1 := cs_ext hE b1; have zz2 := cs_ext hE b2; have zz3 := cs_ext hE b3; go_simp; first | done | rfl)
  refine reg_call (fun g => by go_simp) 17 ?_ (fun g w' m hM hE hP => ?_) (fun u w'' => OwnT w'' w1.heap.size (fun c => c < w.heap.size) u L) ⟨fun u a b h hE => h.ext hE, (fun h => nomatch h), (fun h => absurd rfl h)⟩ (fun g w' m hM hE hP => ?_) ?_
  rotate_left
  · (clear hP hM; go_simp; first | done | exact ⟨rfl, rfl⟩ | rfl)
  · exact (sClone_big (by have := HFT.out; unfold Fits at *; omega) (fun c hc => Nat.lt_of_lt_of_le hc (HE1.out.trans hE).size) (HLW.out.ext hE)).mono (fun e w'' ⟨u, h1, h2, h3⟩ => ⟨u, h1, h2, h3.low hE.size⟩)
  refine reg_value (fun g => by go_simp) ?_ (fun g w' vs hM hE hP => ?_) ?_
  rotate_left
  · (clear hP hM; have zz0 := cs_ext hE b0; have zz1 := cs_ext hE b1; have zz2 := cs_ext hE b2; have zz3 := cs_ext hE b3; go_simp; first | done | rfl)
  refine reg_fresh (fun g => by go_simp) (fun n => .slice (some ⟨n, 0, none⟩) 1 1) (fun _ => .cells #[.int .i64 t.kind, .string t.name, .int .i64 t.sort, .slice a' t.kids.length cap'] 24) (fun g w' m hM hE hP => ?_) ?_
  · (clear hP hM; have zz1 := cs_ext hE b0; have zz2 := cs_ext hE b1; have zz3 := cs_ext hE b2; have zz4 := cs_ext hE b3; go_simp)
  intro g w5 hE5 hF hQ
  simp only [List.drop_succ_cons, List.drop_zero, Act.put, List.setIfInBounds_toArray, List.set_cons_succ, List.set_cons_zero]
  have hO5 : OwnT w5 w1.heap.size (fun c => c < w.heap.size) (g 4).v L := hQ _ List.mem_cons_self
  have hf : w5.heap[(g 6).n]? = some (.cells #[.int .i64 t.kind, .string t.name, .int .i64 t.sort, .slice a' t.kids.length cap'] 24) := (hF.2.1 _ List.mem_cons_self).1
  obtain ⟨u, hu⟩ : ∃ u, u = (g 4).v := ⟨_, rfl⟩
  obtain ⟨fb, hfb⟩ : ∃ fb, fb = (g 6).n := ⟨_, rfl⟩
  rw [← hu] at hO5 ⊢
  rw [← hfb] at hf ⊢
  have hone : LsT w5 (fun c => c < w.heap.size) (.slice (some ⟨fb, 0, none⟩) 1 1) [t] := one_ls hf (HTW.out.ext hE5)
  have hoff : ∀ c, c < w.heap.size → u.ownBlock ≠ some c := fun c hc e => by have := (hO5.lt c e).1; have := HE1.out.size; omega
  have hsz : w1.heap.size ≤ w5.heap.size := hE5.size
  have HE5 := Lib.hid hE5
  obtain ⟨X, hX⟩ : ∃ X, X = L ++ [t] := ⟨_, rfl⟩
  have HX := Lib.hid hX
  have hxl : X.length = L.length + 1 := by rw [hX]; simp
  have HXL := Lib.hid hxl
  obtain ⟨b, hb⟩ : ∃ b, b = fewT X 20 300 := ⟨_, rfl⟩
  have HB := Lib.hid hb
  clear hf hu hfb hF hQ hE5 hX hxl hb b0 b1 b2 b3
  refine wpList_appTg (by go_simp) (.tmp 11) (.tmp 13) rfl rfl rfl hO5 hsz hoff (X := [t]) HFT.out hone ?_
  intro u' w6 o6 g6 k6
  have HE6 : Hid (Ext w1 w6) := Lib.hid (HE5.out.grown g6 (fun q hq => (hO5.lt q hq).1))
  rw [← HX.out] at o6
  obtain ⟨ua, uc, hu, hl1, hl2, hts⟩ := id o6.ls
  unfold maxLen at hl2
  have HLS : Hid (LsT w6 (fun c => c < w.heap.size) (.slice ua X.length uc) X) := Lib.hid ⟨ua, uc, rfl, hl1, hl2, hts⟩
  subst hu
  clear o6 g6 k6 hO5 hone hoff hts
  go_wp2_with fail
  have hcon := few_any (w := w6) HLS.out
  rw [← HB.out] at hcon
  refine hcon.mono ?_
  clear hcon
  rintro e w7 ⟨rfl, hE7⟩
  have HE7 := Lib.hid (HE6.out.trans hE7)
  clear hE7
  have HFIN : Hid (∀ w8, Ext w1 w8 → ∀ e w', (e = Ending.returned (Value.bool true) ∧ Ext w8 w') → (e = Ending.returned (Value.bool true) ∧ Ext w w')) := Lib.hid (fun w8 h e w' h2 => ⟨h2.1, (HE1.out.trans h).trans h2.2⟩)
  cases b with
  | false =>
    have HEB := HE7
    go_wp2_with fail
    refine (HAW.out _).mono ?_
    rintro e w9 ⟨rfl, hE9⟩
    go_wp2_with fail
    go_ret
    exact HFIN.out _ HEB.out _ _ ⟨rfl, hE9⟩
  | true =>
    have HEB := HE7
    by_cases h30 : 30 < C.length
    · have h30z : (30 : Int) < C.length := by omega
      go_wp2_with fail
      refine (HAW.out _).mono ?_
      rintro e w9 ⟨rfl, hE9⟩
      go_wp2_with fail
      go_ret
      exact HFIN.out _ HEB.out _ _ ⟨rfl, hE9⟩
    · have h30z : ¬ (30 : Int) < C.length := by omega
      have h1 := few_one HB.out.symm
      rw [HX.out, sizeL_append, sizeL, sizeL] at h1
      have HS : Hid ((∀ x ∈ L, sizeT x ≤ 300)  ∧ sizeT t ≤ 300 ∧ L.length ≤ 20) := Lib.hid ⟨fun x hx => by obtain ⟨i, hi⟩ := List.mem_iff_getElem?.1 hx; have := sizeL_get hi; omega, by omega, by have := h1.1; simp at this; omega⟩
      have h8 := hs_ext HEB.out HBX.out
      have b0 : w7.cell? ⟨bx, 0, none⟩ = some (.int .i64 t.kind) := by rw [cellc h8]; rfl
      have b1 : w7.cell? ⟨bx, 1, none⟩ = some (.string t.name) := by rw [cellc h8]; rfl
      have b2 : w7.cell? ⟨bx, 2, none⟩ = some (.int .i64 t.sort) := by rw [cellc h8]; rfl
      have b3 : w7.cell? ⟨bx, 3, none⟩ = some (.slice a' t.kids.length cap') := by rw [cellc h8]; rfl
      have HL8 := Lib.hid (HLW.out.ext HEB.out)
      have HC8 := Lib.hid (HCW.out.ext HEB.out)
      have HT8 := Lib.hid (HTW.out.ext HEB.out)
      obtain ⟨o, ho⟩ : ∃ o, o = chkS L t C := ⟨_, rfl⟩
      have HO := Lib.hid ho
      have hrc := fun (w' : World) (hE : Ext w7 w') => RCheck_any (w := w') HS.out.1 HS.out.2.1 (by have := HS.out.2.2; omega) (by omega) (HL8.out.ext hE) (HT8.out.ext hE) (HC8.out.ext hE)
      rw [← ho] at hrc
      have HRC := Lib.hid hrc
      have e1 : (o == o) = true := by simp
      clear h1 h8 ho hsz hrc
      go_upto_region 3 with fail
      refine wp_region_reg 11 false (by kernel_rfl) (by kernel_rfl) ?_
      refine reg_value (fun _ => rfl) ?_ (fun g w' vs hM hE hP => ?_) ?_
      rotate_left
      · (clear hP hM; have zz0 := cs_ext hE b0; have zz1 := cs_ext hE b1; have zz2 := cs_ext hE b2; have zz3 := cs_ext hE b3; go_simp; first | done | rfl)
      refine reg_call (fun _ => rfl) 17 ?_ (fun g w' m hM hE hP => ?_) (fun u w'' => OwnT w'' w7.heap.size (fun c => c < w.heap.size) u L) ⟨fun u a b h hE => h.ext hE, (fun h => nomatch h), (fun h => absurd rfl h)⟩ (fun g w' m hM hE hP => ?_) ?_
      rotate_left
      · (clear hP hM; go_simp; first | done | exact ⟨rfl, rfl⟩ | rfl)
      · exact (sClone_any (by have := HS.out.2.2; omega) (fun c hc => Nat.lt_of_lt_of_le hc ((HE1.out.trans HEB.out).trans hE).size) (HL8.out.ext hE)).mono (fun e w'' ⟨u, h1, h2, h3⟩ => ⟨u, h1, h2, h3.low hE.size⟩)
      refine reg_value (fun _ => rfl) ?_ (fun g w' vs hM hE hP => ?_) ?_
      rotate_left
      · (clear hP hM; have zz0 := cs_ext hE b0; have zz1 := cs_ext hE b1; have zz2 := cs_ext hE b2; have zz3 := cs_ext hE b3; go_simp; first | done | rfl)
      refine reg_value (fun _ => rfl) ?_ (fun g w' vs hM hE hP => ?_) ?_
      rotate_left
      · (clear hP hM; have zz0 := cs_ext hE b0; have zz1 := cs_ext hE b1; have zz2 := cs_ext hE b2; have zz3 := cs_ext hE b3; go_simp; first | done | rfl)
      refine reg_call (fun _ => rfl) 33 ?_ (fun g w' m hM hE hP => ?_) (fun u w'' => LsI w'' u C) ⟨fun u a b h hE => h.ext hE, (fun h => nomatch h), (fun h => absurd rfl h)⟩ (fun g w' m hM hE hP => ?_) ?_
      rotate_left
      · (clear hP hM; go_simp; first | done | exact ⟨rfl, rfl⟩ | rfl)
      · exact iClone_any (by omega) (HC8.out.ext hE)
      refine reg_const (fun _ => rfl) 32 (fun g => #[(g 1).v, .agg #[.int .i64 t.kind, .string t.name, .int .i64 t.sort, .slice a' t.kids.length cap'], (g 4).v]) (fun g w' m hM hE hP => ?_) ⟨.bool o, fun g w' m hM hE hP => ?_, ?_⟩
      · (clear hP hM; go_simp)
      · have h1 := (hP _ (List.mem_cons_of_mem _ List.mem_cons_self) (anc_of 3 (by kernel_rfl)))
        have h2 := (hP _ List.mem_cons_self (anc_of 3 (by kernel_rfl)))
        have h1 : OwnT w' w7.heap.size (fun c => c < w.heap.size) (g 1).v L := h1
        have h2 : LsI w' (g 4).v C := h2
        obtain ⟨ua, uc, hu, -⟩ := id h1.ls
        obtain ⟨va, vc, hv, -⟩ := id h2
        have h1 := h1.ls
        rw [hu] at h1
        rw [hv] at h2
        rw [hu, hv, HO.out]
        exact PCheck_any HS.out.1 HS.out.2.1 (by have := HS.out.2.2; omega) (by omega) h1 (HT8.out.ext hE) h2
      refine reg_value (fun _ => rfl) ?_ (fun g w' vs hM hE hP => ?_) ?_
      rotate_left
      · (clear hP hM; have zz0 := cs_ext hE b0; have zz1 := cs_ext hE b1; have zz2 := cs_ext hE b2; have zz3 := cs_ext hE b3; go_simp; first | done | rfl)
      refine reg_value (fun _ => rfl) ?_ (fun g w' vs hM hE hP => ?_) ?_
      rotate_left
      · (clear hP hM; have zz0 := cs_ext hE b0; have zz1 := cs_ext hE b1; have zz2 := cs_ext hE b2; have zz3 := cs_ext hE b3; go_simp; first | done | rfl)
      refine reg_value (fun _ => rfl) ?_ (fun g w' vs hM hE hP => ?_) ?_
      rotate_left
      · (clear hP hM; have zz0 := cs_ext hE b0; have zz1 := cs_ext hE b1; have zz2 := cs_ext hE b2; have zz3 := cs_ext hE b3; go_simp; first | done | rfl)
      refine reg_const (fun _ => rfl) 34 ?_ (fun g w' vs hM hE hP => ?_) ?_
      rotate_left
      · (clear hP hM; have zz0 := cs_ext hE b0; have zz1 := cs_ext hE b1; have zz2 := cs_ext hE b2; have zz3 := cs_ext hE b3; go_simp; first | done | exact ⟨rfl, rfl⟩ | rfl)
      apply Exists.intro
      refine And.intro (fun g w' vs hM hE hP => ?_) ?_
      · exact HRC.out _ hE
      refine reg_value (fun _ => rfl) ?_ (fun g w' vs hM hE hP => ?_) ?_
      rotate_left
      · (clear hP hM; have zz0 := cs_ext hE b0; have zz1 := cs_ext hE b1; have zz2 := cs_ext hE b2; have zz3 := cs_ext hE b3; go_simp; first | done | rfl)
      intro g w9 hE9 hF hQ
      simp only [List.drop_succ_cons, List.drop_zero, Act.put, List.setIfInBounds_toArray, List.set_cons_succ, List.set_cons_zero]
      clear hF hQ
      have HE9 := Lib.hid (HEB.out.trans hE9)
      clear hE9 b0 b1 b2 b3
      go_wp2_with fail
      go_ret
      exact ⟨rfl, HE1.out.trans HE9.out⟩

end Go.Proofs.Ytckgjebcehbkfaa
