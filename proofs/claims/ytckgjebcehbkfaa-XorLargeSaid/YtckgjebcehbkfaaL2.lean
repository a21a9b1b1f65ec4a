/- The walk of the law XorCheckRefute. -/
import Derived.Test.YtckgjebcehbkfaaL1
namespace Go.Proofs.Ytckgjebcehbkfaa
open Go Go.RowKit
set_option linter.unusedVariables false
set_option linter.unusedSimpArgs false

theorem wpList_wanted {P : Program} {ops : Array Oper} {Q : Exit → Act → World → Prop} {a : Act} {w : World} {rest : List Oper} {o : Oper} (hw : Region.wanted o (yielded ops a.tmps) = true)
    (h : ∀ K : Act → World → Prop, (∀ a w, wpList P ops Q rest a w → K a w) → o.wp P a w K Q) : wpList P ops Q (o :: rest) a w :=
  wpList_step fun K hK => by rw [if_pos hw]; exact h K hK
/-- what fits into memory -/
abbrev Fits (n : Nat) : Prop := n * 56 ≤ 140737488355328
theorem bytesT : Try.prog.bytesOf 24 = 56 := by kernel_rfl
theorem fits_of {H : Type} {L : List Tm} {d : DataW H} (h : L = [] ∨ ∃ es sp, d = .slice es sp ∧ es.length = L.length) (hs : ∀ es sp, d = .slice es sp → (es.length + sp.length) * Try.prog.bytesOf 24 ≤ reachBytes) : Fits (L.length + 1) := by
  unfold Fits
  have hr : reachBytes = 140737488351232 := rfl
  rcases h with rfl | ⟨es, sp, e, hl⟩
  · simp
  · have := hs es sp e
    rw [bytesT, hr] at this
    omega
/-- append to a row of our own, of any size that fits -/
theorem appTb {w : World} {base : Nat} {S : Nat → Prop} {v : Value} {L X : List Tm} {x : Value} {ty : TypeId} (h : OwnT w base S v L) (hb : base ≤ w.heap.size) (hS : ∀ c, S c → v.ownBlock ≠ some c) (hl : Fits (L.length + X.length)) (hx : LsT w S x X) :
    ∃ v' w', (Builtin.append_ #[22, 22] ty #[v, x]).run Try.prog w = .ok v' w' ∧ OwnT w' base S v' (L ++ X) ∧ w.grownBy w' v.ownBlock ∧ (v'.ownBlock = v.ownBlock ∨ v'.ownBlock = some w.heap.size) := by
  unfold Fits at hl
  obtain ⟨i0, hi0, hi1, hi2, hi3⟩ := info_parts infT
  obtain ⟨E, rfl, h2, h3⟩ := h
  obtain ⟨xa, xc, rfl, hx1, hx2, hxs⟩ := hx
  obtain ⟨F, rfl, f1, f2⟩ := hxs.entries
  simp only [List.length_map] at *
  cases xa with
  | none =>
    have hF : F = [] := by
      cases F with
      | nil => rfl
      | cons y F => obtain ⟨b, off, e, -⟩ := f2 0 y rfl; cases e
    subst hF
    refine ⟨v, w, append_of_nil Try.underlying22 hi0 h2, ?_, ⟨rfl, rfl, rfl, Nat.le_refl _, fun _ _ _ => rfl⟩, .inl rfl⟩
    simp only [List.map_nil, List.append_nil]
    exact ⟨E, rfl, h2, h3⟩
  | some ad =>
    have hcells : ∀ j u, (F.flatMap encE)[j]? = some u → w.cell? (ad.add j) = some u := by
      intro j u hu
      cases F with
      | nil => simp at hu
      | cons y F =>
        obtain ⟨b, off, e, -⟩ := f2 0 y rfl
        cases e
        exact entries_flat f2 j u hu
    obtain ⟨v', w', hr, r1, r2, r3, r4⟩ := run_append_own_at (P := Try.prog) w base 22 ty 24 i0 (.agg #[.int .i64 0, .string ⟨#[]⟩, .int .i64 0, .slice none 0 0]) 4 56 Try.underlying22 hi0 hi1 hi2 hi3 rfl (by decide)
      v E.length (E.flatMap encE) h2 ad F.length xc (F.flatMap encE) (flatE_len encE_len F) hcells (encE_one F) (by unfold maxLen; omega) (by omega) hb
    have hk : ∀ c, S c → c < w.heap.size → w'.heap[c]? = w.heap[c]? := fun c hc hlt => r2.block c hlt (fun e => hS c hc e.symm)
    refine ⟨v', w', hr, ⟨E ++ F, by rw [List.map_append], by rw [List.length_append, List.flatMap_append]; exact r1, fun e he => ?_⟩, r2, r4⟩
    rcases List.mem_append.1 he with he | he
    · exact (h3 e he).keep hk (fun _ h _ => h)
    · exact (f1 e he).keep hk (fun _ h _ => h)
/-- append under a guard that is met -/
theorem wpList_appTg {ops : Array Oper} {rest : List Oper} {o : Oper} {a : Act} {w : World} {Q : Exit → Act → World → Prop} (hw : Region.wanted o (yielded ops a.tmps) = true) (s y : Operand)
    (ho : o.op = .call { callee := .builtin .append, args := #[s, y], argTypes := #[22, 22] }) {base : Nat} {S : Nat → Prop} {v x : Value} {L X : List Tm} (hs : a.eval s = v) (hy : a.eval y = x)
    (h : OwnT w base S v L) (hb : base ≤ w.heap.size) (hS : ∀ c, S c → v.ownBlock ≠ some c) (hl : Fits (L.length + X.length)) (hx : LsT w S x X)
    (hK : ∀ v' w', OwnT w' base S v' (L ++ X) → w.grownBy w' v.ownBlock → (v'.ownBlock = v.ownBlock ∨ v'.ownBlock = some w.heap.size) → wpList Try.prog ops Q rest (a.put o.dst v') w') :
    wpList Try.prog ops Q (o :: rest) a w := by
  refine wpList_wanted hw fun K hK' => ?_
  obtain ⟨v', w', hr, h1, h2, h3⟩ := appTb (ty := o.type) h hb hS hl hx
  unfold Oper.wp execOp
  simp only [ho, resolve, invoke, builtin, Sem.run_bind, Sem.run_pure, Result.andThen_ok, List.map_toArray, List.map_cons, List.map_nil, hs, hy, hr]
  exact hK' _ _ (hK v' w' h1 h2 h3)

set_option maxRecDepth 100000 in
set_option maxHeartbeats 1000000 in
theorem sClone_big {w : World} {S : Nat → Prop} {a : Option Addr} {cap : Nat} {L : List Tm} (hll : Fits L.length) (hS : ∀ c, S c → c < w.heap.size) (hL : LsT w S (.slice a L.length cap) L) :
    Calls Try.prog 17 #[.slice a L.length cap] w fun e w' => ∃ u, e = .returned u ∧ Ext w w' ∧ OwnT w' w.heap.size S u L := by
  cases a with
  | none =>
    have hL0 : L = [] := by
      cases L with
      | nil => rfl
      | cons x L => obtain ⟨b, off, e⟩ := hL.some_of; cases e
    subst hL0
    exact sClone_any (by simp) hS hL
  | some ad =>
    have hsz : w.heap.size ≤ (w.alloc (.cells #[] 24)).heap.size := by simp
    have hO0 : OwnT (w.alloc (.cells #[] 24)) w.heap.size S (.slice (some ⟨w.heap.size, 0, none⟩) 0 0) [] := own_empty (Nat.le_refl _)
    have hoff := hO0.off hS
    have hL0 := hL.ext (Ext.alloc w (.cells #[] 24))
    have HE0 : Hid (Ext w (w.alloc (.cells #[] 24))) := Lib.hid (Ext.alloc w _)
    have HLL : Hid (Fits (([] : List Tm).length + L.length)) := Lib.hid (by simpa using hll)
    clear hL hS hll
    have q22 : ∀ (w : World) (a : Option Addr) (n c n' c' : Nat), (binOp .eql 22 (.slice a n c) (.slice none n' c')).run Try.prog w = .ok (.bool a.isNone) w := fun w a n c n' c' => Lib.run_eql_slice_nil w _ _ a n c n' c' Try.underlying22
    go_enter Try.func17, Try.ntmps17
    go_wp2_with (at_builtin; (refine wpList_appTg rfl (.tmp 5) (.tmp 6) rfl rfl rfl hO0 hsz hoff HLL.out hL0 ?_); intro v5 w5 o5 g5 k5
                 have HO5 : Hid (OwnT w5 w.heap.size S v5 L) := Lib.hid o5
                 have HE5 := Lib.hid (HE0.out.grownT hO0 g5)
                 clear o5 g5 k5 hO0 hL0 hoff)
    go_ret
    exact ⟨_, rfl, HE5.out, HO5.out⟩

set_option maxRecDepth 100000 in
set_option maxHeartbeats 4000000 in
theorem law_checkRefute {w : World} {S S' S'' : Nat → Prop} {a a' a'' : Option Addr} {cap cap' cap'' : Nat} {L R : List Tm} {t : Tm} (hL : LsT w S (.slice a L.length cap) L) (hT : TmW w S' a' cap' t) (hR : LsT w S'' (.slice a'' R.length cap'') R) (hft : Fits (L.length + 1)) :
    Calls Try.prog 4 #[.slice a L.length cap, .agg #[.int .i64 t.kind, .string t.name, .int .i64 t.sort, .slice a' t.kids.length cap'], .slice a'' R.length cap''] w fun e w' => e = .returned (.bool true) ∧ Ext w w' := by
  obtain ⟨-, hl, hc⟩ := hL.len
  obtain ⟨-, hl2, hc2⟩ := hR.len
  have hl' := hT.len
  have hc' := hT.cap
  unfold maxLen at hc hc2 hc'
  obtain ⟨bx, hbx⟩ : ∃ bx, bx = w.heap.size := ⟨_, rfl⟩
  obtain ⟨w1, hw1⟩ : ∃ w1, w1 = w.alloc (.cells #[.int .i64 t.kind, .string t.name, .int .i64 t.sort, .slice a' t.kids.length cap'] 24) := ⟨_, rfl⟩
  have HE1 : Hid (Ext w w1) := Lib.hid (by rw [hw1]; exact Ext.alloc w _)
  have HBX : Hid (w1.heap[bx]? = some (.cells #[.int .i64 t.kind, .string t.name, .int .i64 t.sort, .slice a' t.kids.length cap'] 24)) := Lib.hid (by rw [hw1, hbx]; exact hs_new)
  have HTW := Lib.hid (hT.below.ext HE1.out)
  have HLW := Lib.hid (hL.below.ext HE1.out)
  have HRW := Lib.hid (hR.below.ext HE1.out)
  have HAW := Lib.hid (awake_any)
  have HFT := Lib.hid hft
  have b0 : w1.cell? ⟨bx, 0, none⟩ = some (.int .i64 t.kind) := by rw [cellc HBX.out]; rfl
  have b1 : w1.cell? ⟨bx, 1, none⟩ = some (.string t.name) := by rw [cellc HBX.out]; rfl
  have b2 : w1.cell? ⟨bx, 2, none⟩ = some (.int .i64 t.sort) := by rw [cellc HBX.out]; rfl
  have b3 : w1.cell? ⟨bx, 3, none⟩ = some (.slice a' t.kids.length cap') := by rw [cellc HBX.out]; rfl
  clear hT hL hR hft
  go_enter Try.func4, Try.ntmps4
  go_upto_region 1 with fail
  rw [← hw1, ← hbx]
  clear hw1 hbx
  refine wp_region_reg 7 false (by kernel_rfl) (by kernel_rfl) ?_
  refine reg_const (fun _ => rfl) 12 ?_ (fun g w' vs hM hE hP => ?_) ?_
  rotate_left
  · (clear hP hM; have zz0 := cs_ext hE b0; have zz1 := cs_ext hE b1; have zz2 := cs_ext hE b2; have zz3 := cs_ext hE b3; go_simp; first | done | exact ⟨rfl, rfl⟩ | rfl)
  apply Exists.intro
  refine And.intro (fun g w' vs hM hE hP => ?_) ?_
  · exact HAW.out _
  refine reg_value (fun _ => rfl) ?_ (fun g w' vs hM hE hP => ?_) ?_
  rotate_left
  · (clear hP hM; have zz0 := cs_ext hE b0; have zz1 := cs_ext hE b1; have zz2 := cs_ext hE b2; have zz3 := cs_ext hE b3; go_simp; first | done | rfl)
  refine reg_value (fun _ => rfl) ?_ (fun g w' vs hM hE hP => ?_) ?_
  rotate_left
  · (clear hP hM; have zz0 := cs_ext hE b0; have zz1 := cs_ext hE b1; have zz2 := cs_ext hE b2; have zz3 := cs_ext hE b3; go_simp; first | done | rfl)
  refine reg_value (fun g => by go_simp) ?_ (fun g w' vs hM hE hP => ?_) ?_
  rotate_left
  · (clear hP hM; have zz0 := cs_ext hE b0; have zz1 := cs_ext hE b1; have zz2 := cs_ext hE b2; have zz3 := cs_ext hE b3; go_simp; first | done | rfl)
  refine reg_call (fun g => by go_simp) 17 ?_ (fun g w' m hM hE hP => ?_) (fun u w'' => OwnT w'' w1.heap.size (fun c => c < w.heap.size) u L) ⟨fun u a b h hE => h.ext hE, (fun h => nomatch h), (fun h => absurd rfl h)⟩ (fun g w' m hM hE hP => ?_) ?_
  rotate_left
  · (clear hP hM; go_simp; first | done | exact ⟨rfl, rfl⟩ | rfl)
  · exact (sClone_big (by have := HFT.out; unfold Fits at *; omega) (fun c hc => Nat.lt_of_lt_of_le hc (HE1.out.trans hE).size) (HLW.out.ext hE)).mono (fun e w'' ⟨u, h1, h2, h3⟩ => ⟨u, h1, h2, h3.low hE.size⟩)
  refine reg_value (fun g => by go_simp) ?_ (fun g w' vs hM hE hP => ?_) ?_
  rotate_left
  · (clear hP hM; have zz0 := cs_ext hE b0; have zz1 := cs_ext hE b1; have zz2 := cs_ext hE b2; have zz3 := cs_ext hE b3; go_simp; first | done | rfl)
  refine reg_fresh (fun g => by go_simp) (fun n => .slice (some ⟨n, 0, none⟩) 1 1) (fun _ => .cells #[.int .i64 t.kind, .string t.name, .int .i64 t.sort, .slice a' t.kids.length cap'] 24) (fun g w' m hM hE hP => ?_) ?_
  · (clear hP hM; have zz1 := cs_ext hE b0; have zz2 := cs_ext hE b1; have zz3 := cs_ext hE b2; have zz4 := cs_ext hE b3; go_simp)
  intro g w5 hE5 hF hQ
  simp only [List.drop_succ_cons, List.drop_zero, Act.put, List.setIfInBounds_toArray, List.set_cons_succ, List.set_cons_zero]
  have hO5 : OwnT w5 w1.heap.size (fun c => c < w.heap.size) (g 4).v L := hQ _ List.mem_cons_self
  have hf : w5.heap[(g 6).n]? = some (.cells #[.int .i64 t.kind, .string t.name, .int .i64 t.sort, .slice a' t.kids.length cap'] 24) := (hF.2.1 _ List.mem_cons_self).1
  obtain ⟨u, hu⟩ : ∃ u, u = (g 4).v := ⟨_, rfl⟩
  obtain ⟨fb, hfb⟩ : ∃ fb, fb = (g 6).n := ⟨_, rfl⟩
  rw [← hu] at hO5 ⊢
  rw [← hfb] at hf ⊢
  have hone : LsT w5 (fun c => c < w.heap.size) (.slice (some ⟨fb, 0, none⟩) 1 1) [t] := one_ls hf (HTW.out.ext hE5)
  have hoff : ∀ c, c < w.heap.size → u.ownBlock ≠ some c := fun c hc e => by have := (hO5.lt c e).1; have := HE1.out.size; omega
  have hsz : w1.heap.size ≤ w5.heap.size := hE5.size
  have HE5 := Lib.hid hE5
  obtain ⟨X, hX⟩ : ∃ X, X = L ++ [t] := ⟨_, rfl⟩
  have HX := Lib.hid hX
  have hxl : X.length = L.length + 1 := by rw [hX]; simp
  have HXL := Lib.hid hxl
  obtain ⟨b, hb⟩ : ∃ b, b = fewT X 20 300 := ⟨_, rfl⟩
  have HB := Lib.hid hb
  clear hf hu hfb hF hQ hE5 hX hxl hb b0 b1 b2 b3
  refine wpList_appTg (by go_simp) (.tmp 11) (.tmp 13) rfl rfl rfl hO5 hsz hoff (X := [t]) HFT.out hone ?_
  intro u' w6 o6 g6 k6
  have HE6 : Hid (Ext w1 w6) := Lib.hid (HE5.out.grown g6 (fun q hq => (hO5.lt q hq).1))
  rw [← HX.out] at o6
  obtain ⟨ua, uc, hu, hl1, hl2, hts⟩ := id o6.ls
  unfold maxLen at hl2
  have HLS : Hid (LsT w6 (fun c => c < w.heap.size) (.slice ua X.length uc) X) := Lib.hid ⟨ua, uc, rfl, hl1, hl2, hts⟩
  subst hu
  clear o6 g6 k6 hO5 hone hoff hts
  go_wp2_with fail
  have hcon := few_any (w := w6) HLS.out
  rw [← HB.out] at hcon
  refine hcon.mono ?_
  clear hcon
  rintro e w7 ⟨rfl, hE7⟩
  have HE7 := Lib.hid (HE6.out.trans hE7)
  clear hE7
  have HFIN : Hid (∀ w8, Ext w1 w8 → ∀ e w', (e = Ending.returned (Value.bool true) ∧ Ext w8 w') → (e = Ending.returned (Value.bool true) ∧ Ext w w')) := Lib.hid (fun w8 h e w' h2 => ⟨h2.1, (HE1.out.trans h).trans h2.2⟩)
  cases b with
  | false =>
    have HEB := HE7
    go_wp2_with fail
    refine (HAW.out _).mono ?_
    rintro e w9 ⟨rfl, hE9⟩
    go_wp2_with fail
    go_ret
    exact HFIN.out _ HEB.out _ _ ⟨rfl, hE9⟩
  | true =>
    have hcon := few_any (w := w7) (HRW.out.ext HE7.out)
    obtain ⟨b2, hb2⟩ : ∃ b2, b2 = fewT R 20 300 := ⟨_, rfl⟩
    have HB2 := Lib.hid hb2
    rw [← hb2] at hcon
    have HCON := Lib.hid hcon
    clear hcon hb2
    go_wp2_with fail
    refine HCON.out.mono ?_
    rintro e w8 ⟨rfl, hE8⟩
    have HEB := Lib.hid (HE7.out.trans hE8)
    clear hE8
    cases b2 with
    | false =>
      go_wp2_with fail
      refine (HAW.out _).mono ?_
      rintro e w9 ⟨rfl, hE9⟩
      go_wp2_with fail
      go_ret
      exact HFIN.out _ HEB.out _ _ ⟨rfl, hE9⟩
    | true =>
      have h1 := few_one HB.out.symm
      have h2 := few_one HB2.out.symm
      rw [HX.out, sizeL_append, sizeL, sizeL] at h1
      have HS : Hid ((∀ x ∈ L, sizeT x ≤ 300) ∧ (∀ x ∈ R, sizeT x ≤ 300) ∧ sizeT t ≤ 300 ∧ L.length ≤ 20 ∧ R.length ≤ 20) := Lib.hid ⟨fun x hx => by obtain ⟨i, hi⟩ := List.mem_iff_getElem?.1 hx; have := sizeL_get hi; omega, fun x hx => by obtain ⟨i, hi⟩ := List.mem_iff_getElem?.1 hx; have := sizeL_get hi; omega, by omega, by have := h1.1; simp at this; omega, h2.1⟩
      have h8 := hs_ext HEB.out HBX.out
      have b0 : w8.cell? ⟨bx, 0, none⟩ = some (.int .i64 t.kind) := by rw [cellc h8]; rfl
      have b1 : w8.cell? ⟨bx, 1, none⟩ = some (.string t.name) := by rw [cellc h8]; rfl
      have b2 : w8.cell? ⟨bx, 2, none⟩ = some (.int .i64 t.sort) := by rw [cellc h8]; rfl
      have b3 : w8.cell? ⟨bx, 3, none⟩ = some (.slice a' t.kids.length cap') := by rw [cellc h8]; rfl
      have HL8 := Lib.hid (HLW.out.ext HEB.out)
      have HR8 := Lib.hid (HRW.out.ext HEB.out)
      have HT8 := Lib.hid (HTW.out.ext HEB.out)
      obtain ⟨o, ho⟩ : ∃ o, o = crS L t R := ⟨_, rfl⟩
      have HO := Lib.hid ho
      have hrc := fun (w' : World) (hE : Ext w8 w') => RCheckRefute_any (w := w') (fun x hx => by have := HS.out.1 x hx; omega) (fun x hx => by have := HS.out.2.1 x hx; omega) (by have := HS.out.2.2.1; omega) (by have := HS.out.2.2.2.1; omega) (by have := HS.out.2.2.2.2; omega) (HL8.out.ext hE) (HT8.out.ext hE) (HR8.out.ext hE)
      rw [← ho] at hrc
      have HRC := Lib.hid hrc
      have e1 : (o == o) = true := by simp
      clear h1 h2 h8 ho hsz hrc
      go_upto_region 3 with fail
      refine wp_region_reg 11 false (by kernel_rfl) (by kernel_rfl) ?_
      refine reg_value (fun _ => rfl) ?_ (fun g w' vs hM hE hP => ?_) ?_
      rotate_left
      · (clear hP hM; have zz0 := cs_ext hE b0; have zz1 := cs_ext hE b1; have zz2 := cs_ext hE b2; have zz3 := cs_ext hE b3; go_simp; first | done | rfl)
      refine reg_call (fun _ => rfl) 17 ?_ (fun g w' m hM hE hP => ?_) (fun u w'' => OwnT w'' w8.heap.size (fun c => c < w.heap.size) u L) ⟨fun u a b h hE => h.ext hE, (fun h => nomatch h), (fun h => absurd rfl h)⟩ (fun g w' m hM hE hP => ?_) ?_
      rotate_left
      · (clear hP hM; go_simp; first | done | exact ⟨rfl, rfl⟩ | rfl)
      · exact (sClone_any (by have := HS.out.2.2.2.1; omega) (fun c hc => Nat.lt_of_lt_of_le hc ((HE1.out.trans HEB.out).trans hE).size) (HL8.out.ext hE)).mono (fun e w'' ⟨u, h1, h2, h3⟩ => ⟨u, h1, h2, h3.low hE.size⟩)
      refine reg_value (fun _ => rfl) ?_ (fun g w' vs hM hE hP => ?_) ?_
      rotate_left
      · (clear hP hM; have zz0 := cs_ext hE b0; have zz1 := cs_ext hE b1; have zz2 := cs_ext hE b2; have zz3 := cs_ext hE b3; go_simp; first | done | rfl)
      refine reg_value (fun _ => rfl) ?_ (fun g w' vs hM hE hP => ?_) ?_
      rotate_left
      · (clear hP hM; have zz0 := cs_ext hE b0; have zz1 := cs_ext hE b1; have zz2 := cs_ext hE b2; have zz3 := cs_ext hE b3; go_simp; first | done | rfl)
      refine reg_call (fun _ => rfl) 17 ?_ (fun g w' m hM hE hP => ?_) (fun u w'' => OwnT w'' w8.heap.size (fun c => c < w.heap.size) u R) ⟨fun u a b h hE => h.ext hE, (fun h => nomatch h), (fun h => absurd rfl h)⟩ (fun g w' m hM hE hP => ?_) ?_
      rotate_left
      · (clear hP hM; go_simp; first | done | exact ⟨rfl, rfl⟩ | rfl)
      · exact (sClone_any (by have := HS.out.2.2.2.2; omega) (fun c hc => Nat.lt_of_lt_of_le hc ((HE1.out.trans HEB.out).trans hE).size) (HR8.out.ext hE)).mono (fun e w'' ⟨u, h1, h2, h3⟩ => ⟨u, h1, h2, h3.low hE.size⟩)
      refine reg_const (fun _ => rfl) 18 (fun g => #[(g 1).v, .agg #[.int .i64 t.kind, .string t.name, .int .i64 t.sort, .slice a' t.kids.length cap'], (g 4).v]) (fun g w' m hM hE hP => ?_) ⟨.bool o, fun g w' m hM hE hP => ?_, ?_⟩
      · (clear hP hM; go_simp)
      · have h1 := (hP _ (List.mem_cons_of_mem _ List.mem_cons_self) (anc_of 3 (by kernel_rfl)))
        have h2 := (hP _ List.mem_cons_self (anc_of 3 (by kernel_rfl)))
        have h1 : OwnT w' w8.heap.size (fun c => c < w.heap.size) (g 1).v L := h1
        have h2 : OwnT w' w8.heap.size (fun c => c < w.heap.size) (g 4).v R := h2
        obtain ⟨ua, uc, hu, -⟩ := id h1.ls
        obtain ⟨va, vc, hv, -⟩ := id h2.ls
        have h1 := h1.ls
        have h2 := h2.ls
        rw [hu] at h1
        rw [hv] at h2
        rw [hu, hv, HO.out]
        exact PCheckRefute_any (fun x hx => by have := HS.out.1 x hx; omega) (fun x hx => by have := HS.out.2.1 x hx; omega) (by have := HS.out.2.2.1; omega) (by have := HS.out.2.2.2.1; omega) (by have := HS.out.2.2.2.2; omega) h1 (HT8.out.ext hE) h2
      refine reg_value (fun _ => rfl) ?_ (fun g w' vs hM hE hP => ?_) ?_
      rotate_left
      · (clear hP hM; have zz0 := cs_ext hE b0; have zz1 := cs_ext hE b1; have zz2 := cs_ext hE b2; have zz3 := cs_ext hE b3; go_simp; first | done | rfl)
      refine reg_value (fun _ => rfl) ?_ (fun g w' vs hM hE hP => ?_) ?_
      rotate_left
      · (clear hP hM; have zz0 := cs_ext hE b0; have zz1 := cs_ext hE b1; have zz2 := cs_ext hE b2; have zz3 := cs_ext hE b3; go_simp; first | done | rfl)
      refine reg_value (fun _ => rfl) ?_ (fun g w' vs hM hE hP => ?_) ?_
      rotate_left
      · (clear hP hM; have zz0 := cs_ext hE b0; have zz1 := cs_ext hE b1; have zz2 := cs_ext hE b2; have zz3 := cs_ext hE b3; go_simp; first | done | rfl)
      refine reg_const (fun _ => rfl) 19 ?_ (fun g w' vs hM hE hP => ?_) ?_
      rotate_left
      · (clear hP hM; have zz0 := cs_ext hE b0; have zz1 := cs_ext hE b1; have zz2 := cs_ext hE b2; have zz3 := cs_ext hE b3; go_simp; first | done | exact ⟨rfl, rfl⟩ | rfl)
      apply Exists.intro
      refine And.intro (fun g w' vs hM hE hP => ?_) ?_
      · exact HRC.out _ hE
      refine reg_value (fun _ => rfl) ?_ (fun g w' vs hM hE hP => ?_) ?_
      rotate_left
      · (clear hP hM; have zz0 := cs_ext hE b0; have zz1 := cs_ext hE b1; have zz2 := cs_ext hE b2; have zz3 := cs_ext hE b3; go_simp; first | done | rfl)
      intro g w9 hE9 hF hQ
      simp only [List.drop_succ_cons, List.drop_zero, Act.put, List.setIfInBounds_toArray, List.set_cons_succ, List.set_cons_zero]
      clear hF hQ
      have HE9 := Lib.hid (HEB.out.trans hE9)
      clear hE9 b0 b1 b2 b3
      go_wp2_with fail
      go_ret
      exact ⟨rfl, HE1.out.trans HE9.out⟩

end Go.Proofs.Ytckgjebcehbkfaa
