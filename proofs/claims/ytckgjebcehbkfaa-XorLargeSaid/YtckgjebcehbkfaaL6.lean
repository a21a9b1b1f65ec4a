/- The walk of the law XorLarge. -/
import Derived.Test.YtckgjebcehbkfaaL7
import Derived.Test.YtckgjebcehbkfaaZ10
import Derived.Test.YtckgjebcehbkfaaQ3
import Derived.Test.YtckgjebcehbkfaaQ1
namespace Go.Proofs.Ytckgjebcehbkfaa
open Go Go.RowKit
set_option linter.unusedVariables false
set_option linter.unusedSimpArgs false

theorem tmA_size : sizeT tmA = 1 := by decide +kernel

set_option maxRecDepth 100000 in
set_option maxHeartbeats 4000000 in
theorem law_large {w : World} {n : Nat} (hn : n < 65536) :
    Calls Try.prog 11 #[.int .u16 n] w fun e w' => e = .returned (.bool true) ∧ Ext w w' := by
  have HAW := Lib.hid (awake_any)
  go_enter Try.func11, Try.ntmps11
  go_wp2_with fail
  refine (HAW.out _).mono ?_
  rintro e w1 ⟨rfl, hE1⟩
  have HE1 := Lib.hid hE1
  clear hE1
  go_wp2_with fail
  refine (Atom_any (n := ⟨#[97]⟩) (k := 0) (by unfold maxLen; decide) (by unfold I64; omega)).mono ?_
  rintro e w2 ⟨rfl, hE2⟩
  obtain ⟨p3, hp3⟩ : ∃ p, p = w2.heap.size := ⟨_, rfl⟩
  obtain ⟨w3, hw3⟩ : ∃ w3, w3 = w2.alloc (.cells #[.int .i64 2, .string ⟨#[97]⟩, .int .i64 0, .slice none 0 0] 24) := ⟨_, rfl⟩
  have HE3 : Hid (Ext w w3) := Lib.hid (by rw [hw3]; exact (HE1.out.trans hE2).then_al _)
  have HB3 : Hid (w3.heap[p3]? = some (.cells #[.int .i64 2, .string ⟨#[97]⟩, .int .i64 0, .slice none 0 0] 24)) := Lib.hid (by rw [hw3, hp3]; exact hs_new)
  have b0 : w3.cell? ⟨p3, 0, none⟩ = some (.int .i64 2) := by rw [cellc HB3.out]; rfl
  have b1 : w3.cell? ⟨p3, 1, none⟩ = some (.string ⟨#[97]⟩) := by rw [cellc HB3.out]; rfl
  have b2 : w3.cell? ⟨p3, 2, none⟩ = some (.int .i64 0) := by rw [cellc HB3.out]; rfl
  have b3 : w3.cell? ⟨p3, 3, none⟩ = some (.slice none 0 0) := by rw [cellc HB3.out]; rfl
  clear hE2
  go_upto_region 5 with fail
  rw [← hw3, ← hp3]
  clear hw3 hp3
  obtain ⟨g4, hg4⟩ : ∃ g, g = w3.heap.size := ⟨_, rfl⟩
  obtain ⟨w4, hw4⟩ : ∃ w4, w4 = w3.alloc (.cells #[.int .i64 2, .string ⟨#[97]⟩, .int .i64 0, .slice none 0 0] 24) := ⟨_, rfl⟩
  have HB4 : Hid (w4.heap[g4]? = some (.cells #[.int .i64 2, .string ⟨#[97]⟩, .int .i64 0, .slice none 0 0] 24)) := Lib.hid (by rw [hw4, hg4]; exact hs_new)
  have HE4 : Hid (Ext w3 w4) := Lib.hid (by rw [hw4]; exact Ext.alloc _ _)
  go_wp2_with fail
  rw [← hw4, ← hg4]
  obtain ⟨k, hk⟩ : ∃ k : Nat, (195 : Int) + (n : Int) % 12 = (k : Int) := ⟨195 + n % 12, by omega⟩
  rw [hk]
  have hk1 : 195 ≤ k := by omega
  have hk2 : k ≤ 206 := by omega
  refine (Repeat_any (e := ⟨tmA, none, 0⟩) (k := k) (S := Any) (by omega) HB4.out rfl tmA_w).mono ?_
  clear hk hg4 hw4
  rintro e w5 ⟨u, rfl, hE5, hL5⟩
  have hL5 : LsT w5 Any u (manyA k) := hL5
  obtain ⟨ua, uc, hu, hul, huc, -⟩ := id hL5
  rw [List.length_replicate] at hu hul
  subst hu
  unfold maxLen at huc
  have HL5 := Lib.hid hL5.below
  have HE5 : Hid (Ext w3 w5) := Lib.hid (HE4.out.trans hE5)
  have HB5 : Hid (w5.heap[p3]? = some (.cells #[.int .i64 2, .string ⟨#[97]⟩, .int .i64 0, .slice none 0 0] 24)) := Lib.hid (hs_ext HE5.out HB3.out)
  have HEW5 := Lib.hid (HE3.out.trans HE5.out)
  have HCL : Hid (∀ w', Ext w5 w' → Calls Try.prog 17 #[.slice ua k uc] w' fun e w'' => ∃ u, e = .returned u ∧ Ext w' w'' ∧ OwnT w'' w'.heap.size (fun c => c < w5.heap.size) u (manyA k)) := Lib.hid (fun w' hE => by
    have h := sClone_any (w := w') (L := manyA k) (a := ua) (cap := uc) (by rw [List.length_replicate]; omega) (fun c hc => Nat.lt_of_lt_of_le hc hE.size) (by rw [List.length_replicate]; exact HL5.out.ext hE)
    rw [List.length_replicate] at h
    exact h)
  have HSUM : Hid (∀ w' a cap S, LsT w' S (.slice a k cap) (manyA k) → Calls Try.prog 24 #[.slice a k cap] w' fun e w'' => ∃ u, e = .returned (.tuple #[u, .int .i64 (errSum (manyA k))]) ∧ Ext w' w'' ∧ IsS w'' (fun c => w'.heap.size ≤ c) u (sumR (manyA k))) := Lib.hid (fun w' a cap S h => by
    have h2 := PSum_any (w := w') (L := manyA k) (a := a) (cap := cap) (S := S) (by rw [sizeL_many]; omega) (by rw [List.length_replicate]; exact h)
    rw [List.length_replicate] at h2
    exact h2)
  have HRANK : Hid (∀ w' a cap S, LsT w' S (.slice a k cap) (manyA k) → Calls Try.prog 27 #[.slice a k cap] w' fun e w'' => ∃ er B, e = .returned (.tuple #[.int .i64 (B.length : Nat), .int .i64 er]) ∧ Ext w' w'' ∧ er = rightS (manyA k) [] ∧ (er ≠ 0 → B = []) ∧ (er = 0 → BasisR (manyA k) B)) := Lib.hid (fun w' a cap S h => by
    have h2 := PRank_any (w := w') (L := manyA k) (a := a) (cap := cap) (S := S) (by rw [sizeL_many]; omega) (by rw [List.length_replicate]; exact h)
    rw [List.length_replicate] at h2
    exact h2)
  have HSPAN : Hid (∀ w' a cap S, LsT w' S (.slice a k cap) (manyA k) → Calls Try.prog 31 #[.slice a k cap, .agg #[.int .i64 2, .string ⟨#[97]⟩, .int .i64 0, .slice none 0 0]] w' fun e w'' => ∃ u er C, e = .returned (.tuple #[u, .int .i64 er]) ∧ Ext w' w'' ∧ LsI w'' u C ∧ SpanR (manyA k) tmA C er) := Lib.hid (fun w' a cap S h => by
    have h2 := PSpan_any (w := w') (L := manyA k) (t := tmA) (a := a) (cap := cap) (S := S) (S' := Any) (a' := none) (cap' := 0) (by rw [sizeL_many, tmA_size]; omega) (by rw [List.length_replicate]; exact h) tmA_w
    rw [List.length_replicate] at h2
    exact h2)
  have HCHK : Hid (∀ w' ca cc, Ext w5 w' → LsI w' (.slice ca 1 cc) [3] → Calls Try.prog 32 #[.slice ua k uc, .agg #[.int .i64 2, .string ⟨#[97]⟩, .int .i64 0, .slice none 0 0], .slice ca 1 cc] w' fun e w'' => e = .returned (.bool (chkS (manyA k) tmA [3])) ∧ Ext w' w'') := Lib.hid (fun w' ca cc hE h => by
    have h2 := PCheck_any (w := w') (L := manyA k) (t := tmA) (C := [3]) (a := ua) (cap := uc) (S := fun c => c < w5.heap.size) (S' := Any) (a' := none) (cap' := 0) (a'' := ca) (cap'' := cc) (fun x hx => by rw [(List.mem_replicate.1 hx).2, tmA_size]; omega) (by rw [tmA_size]; omega) (by rw [List.length_replicate]; omega) (by simp) (by rw [List.length_replicate]; exact HL5.out.ext hE) tmA_w h
    rw [List.length_replicate] at h2
    exact h2)
  clear hL5 hE5 b0 b1 b2 b3
  by_cases hbig : 200 < k
  · have HES : Hid (errSum (manyA k) = 3) := Lib.hid (by rw [errSum_many, if_pos hbig])
    have HRS : Hid (rightS (manyA k) [] = 3) := Lib.hid (by rw [right_many (by rw [validL]), if_pos hbig])
    have HBL : Hid (∀ (B : List Nat) (er : Int), er = 3 → (er ≠ 0 → B = []) → (er = 0 → BasisR (manyA k) B) → B.length ≤ 1000) := Lib.hid (fun B er he h _ => by rw [h (by omega)]; simp)
    have HSE : Hid (∀ C er, SpanR (manyA k) tmA C er → er = 3) := Lib.hid (fun C er h => by
      have h1 : rightS (manyA k) [tmA] = 3 := by rw [right_many validL_A, if_pos hbig]
      rcases h with ⟨-, h2, -⟩ | ⟨h2, -⟩
      · rw [h2, h1]
      · rw [h1] at h2; cases h2)
    go_wp2_with fail
    refine (HCL.out _ (Ext.refl _)).mono ?_
    rintro e w6 ⟨u, rfl, hE6, hO6⟩
    obtain ⟨va, vc, hv, hvl, hvc, -⟩ := id hO6.ls
    rw [List.length_replicate] at hv hvl
    subst hv
    unfold maxLen at hvc
    have HCON := Lib.hid (HSUM.out _ _ _ _ hO6.ls)
    have HE6 := Lib.hid hE6
    clear hO6 hE6
    obtain ⟨s, hs⟩ : ∃ s, s = sumR (manyA k) := ⟨_, rfl⟩
    have HSS := Lib.hid hs
    rw [HES.out, ← hs] at HCON
    clear hs
    go_wp2_with fail
    refine HCON.out.mono ?_
    rintro e w7 ⟨u, rfl, hE7, sa, sc, rfl, hT7⟩
    obtain ⟨p8, hp8⟩ : ∃ p, p = w7.heap.size := ⟨_, rfl⟩
    obtain ⟨w8, hw8⟩ : ∃ w', w' = w7.alloc (.cells #[.int .i64 s.kind, .string s.name, .int .i64 s.sort, .slice sa s.kids.length sc] 24) := ⟨_, rfl⟩
    have HE8 : Hid (Ext w5 w8) := Lib.hid (by rw [hw8]; exact (HE6.out.trans hE7).then_al _)
    have HB8 : Hid (w8.heap[p8]? = some (.cells #[.int .i64 s.kind, .string s.name, .int .i64 s.sort, .slice sa s.kids.length sc] 24)) := Lib.hid (by rw [hw8, hp8]; exact hs_new)
    have HT8 : Hid (TmW w8 Any sa sc s) := Lib.hid (by rw [hw8]; exact hT7.any.ext (Ext.alloc _ _))
    have hlq := hT7.len
    have hcq := hT7.cap
    unfold maxLen at hcq
    clear hE7 hT7
    go_upto_region 10 with fail
    rw [← hw8, ← hp8]
    clear hw8 hp8
    go_wp2_with fail
    refine (HCL.out _ HE8.out).mono ?_
    rintro e w9 ⟨u, rfl, hE9, hO9⟩
    obtain ⟨ra, rc, hv, hrl, hrc, -⟩ := id hO9.ls
    rw [List.length_replicate] at hv hrl
    subst hv
    unfold maxLen at hrc
    have HCON := Lib.hid (HRANK.out _ _ _ _ hO9.ls)
    have HE9 := Lib.hid hE9
    clear hO9 hE9
    go_wp2_with fail
    refine HCON.out.mono ?_
    rintro e w10 ⟨er, B, rfl, hE10, hB1, hB2, hB3⟩
    rw [HRS.out] at hB1
    have hbl : B.length ≤ 1000 := HBL.out B er hB1 hB2 hB3
    subst hB1
    have HBR := Lib.hid hB3
    have HF10 := Lib.hid (HE9.out.trans hE10)
    have HE10 := Lib.hid (HE8.out.trans HF10.out)
    have h3 := hs_ext HE10.out HB5.out
    have b0 : w10.cell? ⟨p3, 0, none⟩ = some (.int .i64 2) := by rw [cellc h3]; rfl
    have b1 : w10.cell? ⟨p3, 1, none⟩ = some (.string ⟨#[97]⟩) := by rw [cellc h3]; rfl
    have b2 : w10.cell? ⟨p3, 2, none⟩ = some (.int .i64 0) := by rw [cellc h3]; rfl
    have b3 : w10.cell? ⟨p3, 3, none⟩ = some (.slice none 0 0) := by rw [cellc h3]; rfl
    clear h3 hB2 hB3 hE10
    go_upto_region 11 with fail
    refine wp_region_reg 9 false (by kernel_rfl) (by kernel_rfl) ?_
    refine reg_value (fun _ => rfl) ?_ (fun g w' vs hM hE hP => ?_) ?_
    rotate_left
    · (clear hP hM; have zz0 := cs_ext hE b0; have zz1 := cs_ext hE b1; have zz2 := cs_ext hE b2; have zz3 := cs_ext hE b3; go_simp; first | done | rfl)
    refine reg_call (fun _ => rfl) 17 ?_ (fun g w' m hM hE hP => ?_) (fun u w'' => OwnT w'' w10.heap.size (fun c => c < w5.heap.size) u (manyA k)) ⟨fun u a b h hE => h.ext hE, (fun h => nomatch h), (fun h => absurd rfl h)⟩ (fun g w' m hM hE hP => ?_) ?_
    rotate_left
    · (clear hP hM; go_simp; first | done | exact ⟨rfl, rfl⟩ | rfl)
    · exact (HCL.out _ (HE10.out.trans hE)).mono (fun e w'' ⟨u, h1, h2, h3⟩ => ⟨u, h1, h2, h3.low hE.size⟩)
    refine reg_value (fun _ => rfl) ?_ (fun g w' vs hM hE hP => ?_) ?_
    rotate_left
    · (clear hP hM; have zz0 := cs_ext hE b0; have zz1 := cs_ext hE b1; have zz2 := cs_ext hE b2; have zz3 := cs_ext hE b3; go_simp; first | done | rfl)
    refine reg_call (fun _ => rfl) 31 (fun g => #[(g 1).v, .agg #[.int .i64 2, .string ⟨#[97]⟩, .int .i64 0, .slice none 0 0]]) (fun g w' m hM hE hP => ?_) (fun u w'' => ∃ v er C, u = .tuple #[v, .int .i64 er] ∧ LsI w'' v C ∧ SpanR (manyA k) tmA C er) ⟨fun u a b h hE => (let ⟨v, er, C, e, h1, h2⟩ := h; ⟨v, er, C, e, h1.ext hE, h2⟩), (fun h => nomatch h), (fun h => absurd rfl h)⟩ (fun g w' m hM hE hP => ?_) ?_
    · (clear hP hM; go_simp)
    · have h1 := (hP _ List.mem_cons_self (anc_of 3 (by kernel_rfl)))
      have h1 : OwnT w' w10.heap.size (fun c => c < w5.heap.size) (g 1).v (manyA k) := h1
      obtain ⟨xa, xc, hu, -⟩ := id h1.ls
      rw [List.length_replicate] at hu
      have h1 := h1.ls
      rw [hu] at h1
      rw [hu]
      exact (HSPAN.out _ _ _ _ h1).mono (fun e w'' ⟨u, er, C, h1, h2, h3, h4⟩ => ⟨_, h1, h2, u, er, C, rfl, h3, h4⟩)
    refine reg_value (fun _ => rfl) ?_ (fun g w' vs hM hE hP => ?_) ?_
    rotate_left
    · (clear hP hM; have zz0 := cs_ext hE b0; have zz1 := cs_ext hE b1; have zz2 := cs_ext hE b2; have zz3 := cs_ext hE b3; go_simp; first | done | rfl)
    refine reg_value (fun _ => rfl) (fun g => tupAt (g 3).v 0) (fun g w' vs hM hE hP => ?_) ?_
    · obtain ⟨u, er, C, hu, -, -⟩ := hP _ List.mem_cons_self (anc_of 3 (by kernel_rfl))
      have hu : (g 3).v = _ := hu
      clear hP hM
      go_simp
      first | done | simp [tupAt, hu]
    refine reg_value (fun _ => rfl) (fun g => tupAt (g 3).v 1) (fun g w' vs hM hE hP => ?_) ?_
    · obtain ⟨u, er, C, hu, -, -⟩ := hP _ List.mem_cons_self (anc_of 3 (by kernel_rfl))
      have hu : (g 3).v = _ := hu
      clear hP hM
      go_simp
      first | done | simp [tupAt, hu]
    refine reg_value (fun _ => rfl) ?_ (fun g w' vs hM hE hP => ?_) ?_
    rotate_left
    · (clear hP hM; have zz0 := cs_ext hE b0; have zz1 := cs_ext hE b1; have zz2 := cs_ext hE b2; have zz3 := cs_ext hE b3; go_simp; first | done | rfl)
    refine reg_value (fun _ => rfl) ?_ (fun g w' vs hM hE hP => ?_) ?_
    rotate_left
    · (clear hP hM; have zz0 := cs_ext hE b0; have zz1 := cs_ext hE b1; have zz2 := cs_ext hE b2; have zz3 := cs_ext hE b3; go_simp; first | done | rfl)
    intro g w11 hE11 hF hQ
    simp only [List.drop_succ_cons, List.drop_zero, Act.put, List.setIfInBounds_toArray, List.set_cons_succ, List.set_cons_zero]
    obtain ⟨u, er, C, hu, hC, hR⟩ := hQ _ List.mem_cons_self
    have hu : (g 3).v = _ := hu
    rw [hu, show tupAt (.tuple #[u, .int .i64 er]) 0 = u from rfl, show tupAt (.tuple #[u, .int .i64 er]) 1 = .int .i64 er from rfl]
    have her := HSE.out _ _ hR
    subst her
    have HE11 := Lib.hid (HE10.out.trans hE11)
    have HG11 := Lib.hid (HF10.out.trans hE11)
    have b0 := cs_ext hE11 b0
    have b1 := cs_ext hE11 b1
    have b2 := cs_ext hE11 b2
    have b3 := cs_ext hE11 b3
    clear hu hF hQ hC hR hE11
    have HCV : Hid (chkS (manyA k) tmA [3] = false) := Lib.hid (by rw [chk_many (by omega)]; exact decide_eq_false (by omega))
    obtain ⟨fb, hfb⟩ : ∃ fb, fb = w11.heap.size := ⟨_, rfl⟩
    obtain ⟨w12, hw12⟩ : ∃ w', w' = w11.alloc (.cells #[.int .i64 3] 3) := ⟨_, rfl⟩
    have HE12 : Hid (Ext w11 w12) := Lib.hid (by rw [hw12]; exact Ext.alloc _ _)
    have HLI : Hid (LsI w12 (.slice (some ⟨fb, 0, none⟩) 1 1) [3]) := Lib.hid (by
      rw [hw12, hfb]
      exact ⟨_, 1, rfl, by simp, by unfold maxLen; omega, fun i z hi => ⟨w11.heap.size, 0, rfl, by
        match i, hi with
        | 0, hi => cases hi; rw [cellc hs_new]; rfl⟩, fun z hz => by simp at hz; subst hz; unfold I64; omega⟩)
    go_wp2_with fail
    rw [← hw12, ← hfb]
    clear hw12 hfb
    refine (HCHK.out _ _ _ (HE11.out.trans HE12.out) HLI.out).mono ?_
    rw [HCV.out]
    rintro e w13 ⟨rfl, hE13⟩
    have HE13 := Lib.hid ((HG11.out.trans HE12.out).trans hE13)
    have h3 := hs_ext (HE12.out.trans hE13) (hs_ext HE11.out HB5.out)
    have b0 : w13.cell? ⟨p3, 0, none⟩ = some (.int .i64 2) := by rw [cellc h3]; rfl
    have b1 : w13.cell? ⟨p3, 1, none⟩ = some (.string ⟨#[97]⟩) := by rw [cellc h3]; rfl
    have b2 : w13.cell? ⟨p3, 2, none⟩ = some (.int .i64 0) := by rw [cellc h3]; rfl
    have b3 : w13.cell? ⟨p3, 3, none⟩ = some (.slice none 0 0) := by rw [cellc h3]; rfl
    clear hE13 h3
    go_wp2_with fail
    refine wp_region_reg 16 false (by kernel_rfl) (by kernel_rfl) ?_
    refine reg_value (fun _ => rfl) ?_ (fun g w' vs hM hE hP => ?_) ?_
    rotate_left
    · (clear hP hM; go_simp; first | done | rfl)
    refine reg_value (fun _ => rfl) ?_ (fun g w' vs hM hE hP => ?_) ?_
    rotate_left
    · (clear hP hM; go_simp; first | done | rfl)
    refine reg_value (fun _ => rfl) ?_ (fun g w' vs hM hE hP => ?_) ?_
    rotate_left
    · (clear hP hM; go_simp; first | done | rfl)
    refine reg_skip (fun g => by go_simp; first | done | (intro h; cases h) | simp [undef]) ?_
    refine reg_skip (fun g => by go_simp; first | done | (intro h; cases h) | simp [undef]) ?_
    refine reg_skip (fun g => by go_simp; first | done | (intro h; cases h) | simp [undef]) ?_
    refine reg_skip (fun g => by go_simp; first | done | (intro h; cases h) | simp [undef]) ?_
    refine reg_skip (fun g => by go_simp; first | done | (intro h; cases h) | simp [undef]) ?_
    refine reg_skip (fun g => by go_simp; first | done | (intro h; cases h) | simp [undef]) ?_
    refine reg_skip (fun g => by go_simp; first | done | (intro h; cases h) | simp [undef]) ?_
    refine reg_skip (fun g => by go_simp; first | done | (intro h; cases h) | simp [undef]) ?_
    refine reg_skip (fun g => by go_simp; first | done | (intro h; cases h) | simp [undef]) ?_
    refine reg_skip (fun g => by go_simp; first | done | (intro h; cases h) | simp [undef]) ?_
    refine reg_skip (fun g => by go_simp; first | done | (intro h; cases h) | simp [undef]) ?_
    refine reg_skip (fun g => by go_simp; first | done | (intro h; cases h) | simp [undef]) ?_
    refine reg_value (fun _ => rfl) ?_ (fun g w' vs hM hE hP => ?_) ?_
    rotate_left
    · (clear hP hM; go_simp; first | done | rfl)
    intro g w14 hE14 hF hQ
    simp only [List.drop_succ_cons, List.drop_zero, Act.put, List.setIfInBounds_toArray, List.set_cons_succ, List.set_cons_zero]
    have HE14 := Lib.hid hE14
    clear hF hQ hE14
    go_wp2_with fail
    go_ret
    exact ⟨rfl, (((HEW5.out.trans HE8.out).trans HE13.out).trans HE14.out)⟩
  · have HES : Hid (errSum (manyA k) = 0) := Lib.hid (by rw [errSum_many, if_neg hbig])
    have HRS : Hid (rightS (manyA k) [] = 0) := Lib.hid (by rw [right_many (by rw [validL]), if_neg hbig])
    have HBL : Hid (∀ (B : List Nat) (er : Int), er = 0 → (er ≠ 0 → B = []) → (er = 0 → BasisR (manyA k) B) → B.length ≤ 1000) := Lib.hid (fun B er he _ h => by rw [basis_many (by omega) (h he)]; decide)
    have HSE : Hid (∀ C er, SpanR (manyA k) tmA C er → er = 0) := Lib.hid (fun C er h => by
      have h1 : rightS (manyA k) [tmA] = 0 := by rw [right_many validL_A, if_neg hbig]
      rcases h with ⟨h2, -, -⟩ | ⟨-, ⟨-, h2, -⟩ | ⟨h2, -, -⟩⟩
      · exact absurd h1 h2
      · exact h2
      · exact absurd (span_many (by omega)) h2)
    go_wp2_with fail
    refine (HCL.out _ (Ext.refl _)).mono ?_
    rintro e w6 ⟨u, rfl, hE6, hO6⟩
    obtain ⟨va, vc, hv, hvl, hvc, -⟩ := id hO6.ls
    rw [List.length_replicate] at hv hvl
    subst hv
    unfold maxLen at hvc
    have HCON := Lib.hid (HSUM.out _ _ _ _ hO6.ls)
    have HE6 := Lib.hid hE6
    clear hO6 hE6
    obtain ⟨s, hs⟩ : ∃ s, s = sumR (manyA k) := ⟨_, rfl⟩
    have HSS := Lib.hid hs
    rw [HES.out, ← hs] at HCON
    clear hs
    go_wp2_with fail
    refine HCON.out.mono ?_
    rintro e w7 ⟨u, rfl, hE7, sa, sc, rfl, hT7⟩
    obtain ⟨p8, hp8⟩ : ∃ p, p = w7.heap.size := ⟨_, rfl⟩
    obtain ⟨w8, hw8⟩ : ∃ w', w' = w7.alloc (.cells #[.int .i64 s.kind, .string s.name, .int .i64 s.sort, .slice sa s.kids.length sc] 24) := ⟨_, rfl⟩
    have HE8 : Hid (Ext w5 w8) := Lib.hid (by rw [hw8]; exact (HE6.out.trans hE7).then_al _)
    have HB8 : Hid (w8.heap[p8]? = some (.cells #[.int .i64 s.kind, .string s.name, .int .i64 s.sort, .slice sa s.kids.length sc] 24)) := Lib.hid (by rw [hw8, hp8]; exact hs_new)
    have HT8 : Hid (TmW w8 Any sa sc s) := Lib.hid (by rw [hw8]; exact hT7.any.ext (Ext.alloc _ _))
    have hlq := hT7.len
    have hcq := hT7.cap
    unfold maxLen at hcq
    clear hE7 hT7
    go_upto_region 10 with fail
    rw [← hw8, ← hp8]
    clear hw8 hp8
    go_wp2_with fail
    refine (HCL.out _ HE8.out).mono ?_
    rintro e w9 ⟨u, rfl, hE9, hO9⟩
    obtain ⟨ra, rc, hv, hrl, hrc, -⟩ := id hO9.ls
    rw [List.length_replicate] at hv hrl
    subst hv
    unfold maxLen at hrc
    have HCON := Lib.hid (HRANK.out _ _ _ _ hO9.ls)
    have HE9 := Lib.hid hE9
    clear hO9 hE9
    go_wp2_with fail
    refine HCON.out.mono ?_
    rintro e w10 ⟨er, B, rfl, hE10, hB1, hB2, hB3⟩
    rw [HRS.out] at hB1
    have hbl : B.length ≤ 1000 := HBL.out B er hB1 hB2 hB3
    subst hB1
    have HBR := Lib.hid hB3
    have HF10 := Lib.hid (HE9.out.trans hE10)
    have HE10 := Lib.hid (HE8.out.trans HF10.out)
    have h3 := hs_ext HE10.out HB5.out
    have b0 : w10.cell? ⟨p3, 0, none⟩ = some (.int .i64 2) := by rw [cellc h3]; rfl
    have b1 : w10.cell? ⟨p3, 1, none⟩ = some (.string ⟨#[97]⟩) := by rw [cellc h3]; rfl
    have b2 : w10.cell? ⟨p3, 2, none⟩ = some (.int .i64 0) := by rw [cellc h3]; rfl
    have b3 : w10.cell? ⟨p3, 3, none⟩ = some (.slice none 0 0) := by rw [cellc h3]; rfl
    clear h3 hB2 hB3 hE10
    go_upto_region 11 with fail
    refine wp_region_reg 9 false (by kernel_rfl) (by kernel_rfl) ?_
    refine reg_value (fun _ => rfl) ?_ (fun g w' vs hM hE hP => ?_) ?_
    rotate_left
    · (clear hP hM; have zz0 := cs_ext hE b0; have zz1 := cs_ext hE b1; have zz2 := cs_ext hE b2; have zz3 := cs_ext hE b3; go_simp; first | done | rfl)
    refine reg_call (fun _ => rfl) 17 ?_ (fun g w' m hM hE hP => ?_) (fun u w'' => OwnT w'' w10.heap.size (fun c => c < w5.heap.size) u (manyA k)) ⟨fun u a b h hE => h.ext hE, (fun h => nomatch h), (fun h => absurd rfl h)⟩ (fun g w' m hM hE hP => ?_) ?_
    rotate_left
    · (clear hP hM; go_simp; first | done | exact ⟨rfl, rfl⟩ | rfl)
    · exact (HCL.out _ (HE10.out.trans hE)).mono (fun e w'' ⟨u, h1, h2, h3⟩ => ⟨u, h1, h2, h3.low hE.size⟩)
    refine reg_value (fun _ => rfl) ?_ (fun g w' vs hM hE hP => ?_) ?_
    rotate_left
    · (clear hP hM; have zz0 := cs_ext hE b0; have zz1 := cs_ext hE b1; have zz2 := cs_ext hE b2; have zz3 := cs_ext hE b3; go_simp; first | done | rfl)
    refine reg_call (fun _ => rfl) 31 (fun g => #[(g 1).v, .agg #[.int .i64 2, .string ⟨#[97]⟩, .int .i64 0, .slice none 0 0]]) (fun g w' m hM hE hP => ?_) (fun u w'' => ∃ v er C, u = .tuple #[v, .int .i64 er] ∧ LsI w'' v C ∧ SpanR (manyA k) tmA C er) ⟨fun u a b h hE => (let ⟨v, er, C, e, h1, h2⟩ := h; ⟨v, er, C, e, h1.ext hE, h2⟩), (fun h => nomatch h), (fun h => absurd rfl h)⟩ (fun g w' m hM hE hP => ?_) ?_
    · (clear hP hM; go_simp)
    · have h1 := (hP _ List.mem_cons_self (anc_of 3 (by kernel_rfl)))
      have h1 : OwnT w' w10.heap.size (fun c => c < w5.heap.size) (g 1).v (manyA k) := h1
      obtain ⟨xa, xc, hu, -⟩ := id h1.ls
      rw [List.length_replicate] at hu
      have h1 := h1.ls
      rw [hu] at h1
      rw [hu]
      exact (HSPAN.out _ _ _ _ h1).mono (fun e w'' ⟨u, er, C, h1, h2, h3, h4⟩ => ⟨_, h1, h2, u, er, C, rfl, h3, h4⟩)
    refine reg_value (fun _ => rfl) ?_ (fun g w' vs hM hE hP => ?_) ?_
    rotate_left
    · (clear hP hM; have zz0 := cs_ext hE b0; have zz1 := cs_ext hE b1; have zz2 := cs_ext hE b2; have zz3 := cs_ext hE b3; go_simp; first | done | rfl)
    refine reg_value (fun _ => rfl) (fun g => tupAt (g 3).v 0) (fun g w' vs hM hE hP => ?_) ?_
    · obtain ⟨u, er, C, hu, -, -⟩ := hP _ List.mem_cons_self (anc_of 3 (by kernel_rfl))
      have hu : (g 3).v = _ := hu
      clear hP hM
      go_simp
      first | done | simp [tupAt, hu]
    refine reg_value (fun _ => rfl) (fun g => tupAt (g 3).v 1) (fun g w' vs hM hE hP => ?_) ?_
    · obtain ⟨u, er, C, hu, -, -⟩ := hP _ List.mem_cons_self (anc_of 3 (by kernel_rfl))
      have hu : (g 3).v = _ := hu
      clear hP hM
      go_simp
      first | done | simp [tupAt, hu]
    refine reg_value (fun _ => rfl) ?_ (fun g w' vs hM hE hP => ?_) ?_
    rotate_left
    · (clear hP hM; have zz0 := cs_ext hE b0; have zz1 := cs_ext hE b1; have zz2 := cs_ext hE b2; have zz3 := cs_ext hE b3; go_simp; first | done | rfl)
    refine reg_value (fun _ => rfl) ?_ (fun g w' vs hM hE hP => ?_) ?_
    rotate_left
    · (clear hP hM; have zz0 := cs_ext hE b0; have zz1 := cs_ext hE b1; have zz2 := cs_ext hE b2; have zz3 := cs_ext hE b3; go_simp; first | done | rfl)
    intro g w11 hE11 hF hQ
    simp only [List.drop_succ_cons, List.drop_zero, Act.put, List.setIfInBounds_toArray, List.set_cons_succ, List.set_cons_zero]
    obtain ⟨u, er, C, hu, hC, hR⟩ := hQ _ List.mem_cons_self
    have hu : (g 3).v = _ := hu
    rw [hu, show tupAt (.tuple #[u, .int .i64 er]) 0 = u from rfl, show tupAt (.tuple #[u, .int .i64 er]) 1 = .int .i64 er from rfl]
    have her := HSE.out _ _ hR
    subst her
    have HE11 := Lib.hid (HE10.out.trans hE11)
    have HG11 := Lib.hid (HF10.out.trans hE11)
    have b0 := cs_ext hE11 b0
    have b1 := cs_ext hE11 b1
    have b2 := cs_ext hE11 b2
    have b3 := cs_ext hE11 b3
    clear hu hF hQ hC hR hE11
    have HCV : Hid (chkS (manyA k) tmA [3] = true) := Lib.hid (by rw [chk_many (by omega)]; exact decide_eq_true (by omega))
    obtain ⟨fb, hfb⟩ : ∃ fb, fb = w11.heap.size := ⟨_, rfl⟩
    obtain ⟨w12, hw12⟩ : ∃ w', w' = w11.alloc (.cells #[.int .i64 3] 3) := ⟨_, rfl⟩
    have HE12 : Hid (Ext w11 w12) := Lib.hid (by rw [hw12]; exact Ext.alloc _ _)
    have HLI : Hid (LsI w12 (.slice (some ⟨fb, 0, none⟩) 1 1) [3]) := Lib.hid (by
      rw [hw12, hfb]
      exact ⟨_, 1, rfl, by simp, by unfold maxLen; omega, fun i z hi => ⟨w11.heap.size, 0, rfl, by
        match i, hi with
        | 0, hi => cases hi; rw [cellc hs_new]; rfl⟩, fun z hz => by simp at hz; subst hz; unfold I64; omega⟩)
    go_wp2_with fail
    rw [← hw12, ← hfb]
    clear hw12 hfb
    refine (HCHK.out _ _ _ (HE11.out.trans HE12.out) HLI.out).mono ?_
    rw [HCV.out]
    rintro e w13 ⟨rfl, hE13⟩
    have HE13 := Lib.hid ((HG11.out.trans HE12.out).trans hE13)
    have h3 := hs_ext (HE12.out.trans hE13) (hs_ext HE11.out HB5.out)
    have b0 : w13.cell? ⟨p3, 0, none⟩ = some (.int .i64 2) := by rw [cellc h3]; rfl
    have b1 : w13.cell? ⟨p3, 1, none⟩ = some (.string ⟨#[97]⟩) := by rw [cellc h3]; rfl
    have b2 : w13.cell? ⟨p3, 2, none⟩ = some (.int .i64 0) := by rw [cellc h3]; rfl
    have b3 : w13.cell? ⟨p3, 3, none⟩ = some (.slice none 0 0) := by rw [cellc h3]; rfl
    clear hE13 h3
    have hb1 : B.length = 1 := basis_many (by omega) (HBR.out (by simp))
    rw [hb1]
    have HST : Hid (s = termOf (manyA (k % 2))) := Lib.hid (by
      rw [HSS.out]
      unfold sumR
      rw [HES.out, if_pos rfl, (sum_many k).1]
      rcases Nat.mod_two_eq_zero_or_one k with h | h
      · rw [h]; rfl
      · rw [h]; rfl)
    have h8 := hs_ext HE13.out HB8.out
    have c0 : w13.cell? ⟨p8, 0, none⟩ = some (.int .i64 s.kind) := by rw [cellc h8]; rfl
    have c1 : w13.cell? ⟨p8, 1, none⟩ = some (.string s.name) := by rw [cellc h8]; rfl
    have c2 : w13.cell? ⟨p8, 2, none⟩ = some (.int .i64 s.sort) := by rw [cellc h8]; rfl
    have c3 : w13.cell? ⟨p8, 3, none⟩ = some (.slice sa s.kids.length sc) := by rw [cellc h8]; rfl
    have hsz : sizeT s ≤ 1000000 := by
      have h1 := sumR_size (manyA k)
      rw [← HSS.out, sizeL_many] at h1
      omega
    have HSZ := Lib.hid hsz
    have HTS : Hid (TmW w13 Any sa sc s) := Lib.hid (HT8.out.ext HE13.out)
    clear h8 hb1 hbl hsz
    go_wp2_with fail
    refine wp_region_reg 16 false (by kernel_rfl) (by kernel_rfl) ?_
    refine reg_value (fun _ => rfl) ?_ (fun g w' vs hM hE hP => ?_) ?_
    rotate_left
    · (clear hP hM; have zz0 := cs_ext hE b0; have zz1 := cs_ext hE b1; have zz2 := cs_ext hE b2; have zz3 := cs_ext hE b3; have zz4 := cs_ext hE c0; have zz5 := cs_ext hE c1; have zz6 := cs_ext hE c2; have zz7 := cs_ext hE c3; go_simp; first | done | rfl)
    refine reg_value (fun _ => rfl) ?_ (fun g w' vs hM hE hP => ?_) ?_
    rotate_left
    · (clear hP hM; have zz0 := cs_ext hE b0; have zz1 := cs_ext hE b1; have zz2 := cs_ext hE b2; have zz3 := cs_ext hE b3; have zz4 := cs_ext hE c0; have zz5 := cs_ext hE c1; have zz6 := cs_ext hE c2; have zz7 := cs_ext hE c3; go_simp; first | done | rfl)
    refine reg_value (fun _ => rfl) ?_ (fun g w' vs hM hE hP => ?_) ?_
    rotate_left
    · (clear hP hM; have zz0 := cs_ext hE b0; have zz1 := cs_ext hE b1; have zz2 := cs_ext hE b2; have zz3 := cs_ext hE b3; have zz4 := cs_ext hE c0; have zz5 := cs_ext hE c1; have zz6 := cs_ext hE c2; have zz7 := cs_ext hE c3; go_simp; first | done | rfl)
    refine reg_value (fun g => by go_simp) ?_ (fun g w' vs hM hE hP => ?_) ?_
    rotate_left
    · (clear hP hM; have zz0 := cs_ext hE b0; have zz1 := cs_ext hE b1; have zz2 := cs_ext hE b2; have zz3 := cs_ext hE b3; have zz4 := cs_ext hE c0; have zz5 := cs_ext hE c1; have zz6 := cs_ext hE c2; have zz7 := cs_ext hE c3; go_simp; first | done | rfl)
    refine reg_value (fun g => by go_simp) ?_ (fun g w' vs hM hE hP => ?_) ?_
    rotate_left
    · (clear hP hM; have zz0 := cs_ext hE b0; have zz1 := cs_ext hE b1; have zz2 := cs_ext hE b2; have zz3 := cs_ext hE b3; have zz4 := cs_ext hE c0; have zz5 := cs_ext hE c1; have zz6 := cs_ext hE c2; have zz7 := cs_ext hE c3; go_simp; first | done | rfl)
    refine reg_value (fun g => by go_simp) ?_ (fun g w' vs hM hE hP => ?_) ?_
    rotate_left
    · (clear hP hM; have zz0 := cs_ext hE b0; have zz1 := cs_ext hE b1; have zz2 := cs_ext hE b2; have zz3 := cs_ext hE b3; have zz4 := cs_ext hE c0; have zz5 := cs_ext hE c1; have zz6 := cs_ext hE c2; have zz7 := cs_ext hE c3; go_simp; first | done | rfl)
    refine reg_value (fun g => by go_simp) ?_ (fun g w' vs hM hE hP => ?_) ?_
    rotate_left
    · (clear hP hM; have zz0 := cs_ext hE b0; have zz1 := cs_ext hE b1; have zz2 := cs_ext hE b2; have zz3 := cs_ext hE b3; have zz4 := cs_ext hE c0; have zz5 := cs_ext hE c1; have zz6 := cs_ext hE c2; have zz7 := cs_ext hE c3; go_simp; first | done | rfl)
    refine reg_value (fun g => by go_simp) ?_ (fun g w' vs hM hE hP => ?_) ?_
    rotate_left
    · (clear hP hM; have zz0 := cs_ext hE b0; have zz1 := cs_ext hE b1; have zz2 := cs_ext hE b2; have zz3 := cs_ext hE b3; have zz4 := cs_ext hE c0; have zz5 := cs_ext hE c1; have zz6 := cs_ext hE c2; have zz7 := cs_ext hE c3; go_simp; first | done | rfl)
    refine reg_upon (fun g => by go_simp) (fun v w'' => ∃ fb, v = .slice (some ⟨fb, 0, none⟩) 1 1 ∧ w''.heap[fb]? = some (.cells #[.int .i64 2, .string ⟨#[97]⟩, .int .i64 0, .slice none 0 0] 24)) ⟨fun u a b ⟨fb, h1, h2⟩ hE => ⟨fb, h1, hs_ext hE h2⟩, (fun h => nomatch h), (fun h => absurd rfl h)⟩ (fun g w' m hM hE hP => ?_) ?_
    · clear hM hP
      go_simp
      exact ⟨Ext.alloc _ _, _, rfl, hs_new⟩
    refine reg_value (fun g => by go_simp) ?_ (fun g w' vs hM hE hP => ?_) ?_
    rotate_left
    · (clear hP hM; have zz0 := cs_ext hE b0; have zz1 := cs_ext hE b1; have zz2 := cs_ext hE b2; have zz3 := cs_ext hE b3; have zz4 := cs_ext hE c0; have zz5 := cs_ext hE c1; have zz6 := cs_ext hE c2; have zz7 := cs_ext hE c3; go_simp; first | done | rfl)
    refine reg_value (fun g => by go_simp) ?_ (fun g w' vs hM hE hP => ?_) ?_
    rotate_left
    · (clear hP hM; have zz0 := cs_ext hE b0; have zz1 := cs_ext hE b1; have zz2 := cs_ext hE b2; have zz3 := cs_ext hE b3; have zz4 := cs_ext hE c0; have zz5 := cs_ext hE c1; have zz6 := cs_ext hE c2; have zz7 := cs_ext hE c3; go_simp; first | done | rfl)
    refine reg_call (fun g => by go_simp) 38 (fun g => #[(g 8).v, .int .i64 ((k : Int) % 2)]) (fun g w' m hM hE hP => ?_) (fun u w'' => LsT w'' Any u (manyA (k % 2))) ⟨fun u a b h hE => h.ext hE, (fun h => nomatch h), (fun h => absurd rfl h)⟩ (fun g w' m hM hE hP => ?_) ?_
    · clear hM hP
      go_simp
      first | done | exact Int.tmod_eq_emod_of_nonneg (by omega)
    · obtain ⟨fb, hv, hb⟩ := hP _ List.mem_cons_self (anc_of 3 (by kernel_rfl))
      have hv : (g 8).v = _ := hv
      rw [hv]
      exact (Repeat_any (e := ⟨tmA, none, 0⟩) (k := k % 2) (S := Any) (by omega) hb rfl tmA_w)
    refine reg_call (fun g => by go_simp) 39 (fun g => #[(g 11).v]) (fun g w' m hM hE hP => ?_) (fun u w'' => IsT w'' u s) ⟨fun u a b h hE => h.ext hE, (fun h => nomatch h), (fun h => absurd rfl h)⟩ (fun g w' m hM hE hP => ?_) ?_
    · clear hM hP
      go_simp
    · have h1 := hP _ List.mem_cons_self (anc_of 3 (by kernel_rfl))
      have h1 : LsT w' Any (g 11).v (manyA (k % 2)) := h1
      obtain ⟨xa, xc, hu, -⟩ := id h1
      rw [hu] at h1
      rw [hu]
      refine (RTerm_any (by rw [List.length_replicate]; omega) h1).mono (fun e w'' ⟨u, h1, h2, h3⟩ => ⟨u, h1, h2, ?_⟩)
      rw [HST.out]
      exact h3.any
    refine reg_const (fun g => by go_simp) 22 (fun g => #[.agg #[.int .i64 s.kind, .string s.name, .int .i64 s.sort, .slice sa s.kids.length sc], (g 12).v]) (fun g w' m hM hE hP => ?_) ⟨.bool true, fun g w' m hM hE hP => ?_, ?_⟩
    · (clear hP hM; have zz0 := cs_ext hE c0; have zz1 := cs_ext hE c1; have zz2 := cs_ext hE c2; have zz3 := cs_ext hE c3; go_simp)
    · obtain ⟨za, zc, hu, hz⟩ := hP _ List.mem_cons_self (anc_of 3 (by kernel_rfl))
      have hu : (g 12).v = _ := hu
      rw [hu]
      have h := RSame_any (w := w') (s := s) (t := s) HSZ.out HSZ.out (HTS.out.ext hE) hz
      rw [show decide (s = s) = true from decide_eq_true rfl] at h
      exact h
    refine reg_value (fun g => by go_simp) ?_ (fun g w' vs hM hE hP => ?_) ?_
    rotate_left
    · (clear hP hM; have zz0 := cs_ext hE b0; have zz1 := cs_ext hE b1; have zz2 := cs_ext hE b2; have zz3 := cs_ext hE b3; have zz4 := cs_ext hE c0; have zz5 := cs_ext hE c1; have zz6 := cs_ext hE c2; have zz7 := cs_ext hE c3; go_simp; first | done | rfl)
    refine reg_value (fun _ => rfl) ?_ (fun g w' vs hM hE hP => ?_) ?_
    rotate_left
    · (clear hP hM; have zz0 := cs_ext hE b0; have zz1 := cs_ext hE b1; have zz2 := cs_ext hE b2; have zz3 := cs_ext hE b3; have zz4 := cs_ext hE c0; have zz5 := cs_ext hE c1; have zz6 := cs_ext hE c2; have zz7 := cs_ext hE c3; go_simp; first | done | rfl)
    intro g w14 hE14 hF hQ
    simp only [List.drop_succ_cons, List.drop_zero, Act.put, List.setIfInBounds_toArray, List.set_cons_succ, List.set_cons_zero]
    have HE14 := Lib.hid hE14
    clear hF hQ hE14
    go_wp2_with fail
    go_ret
    exact ⟨rfl, (((HEW5.out.trans HE8.out).trans HE13.out).trans HE14.out)⟩

theorem law_large16 {w : World} {n : Int} (hw : (Lit.int .u16 n).wf = true) :
    Calls Try.prog 11 #[.int .u16 n] w fun e w' => e = .returned (.bool true) ∧ Ext w w' := by
  simp [Lit.wf, IntKind.min, IntKind.max, IntKind.signed, IntKind.bits] at hw
  obtain ⟨m, rfl⟩ : ∃ m : Nat, n = (m : Int) := ⟨n.toNat, by omega⟩
  exact law_large (by omega)

end Go.Proofs.Ytckgjebcehbkfaa
