/- Sorted: merging. -/
import Derived.Test.YthoelnoahfedmaaS26
import Derived.Test.YthoelnoahfedmaaS21
import Derived.Deep.RegionLaw
namespace Go.Proofs.Ythoelnoahfedmaa
open Go Go.RowKit
set_option linter.unusedVariables false
set_option linter.unusedSimpArgs false

/-- a slice that reads as the pairs L -/
def SliP (w : World) (v : Value) (L : List (Int × Int)) : Prop := ∃ b off cap, v = .slice (some ⟨b, off, none⟩) L.length cap ∧ L.length ≤ cap ∧ cap ≤ maxLen ∧ ∀ (k : Nat) (x : Int × Int), L[k]? = some x → w.cell? ⟨b, off + k * 2, none⟩ = some (.int .i64 x.1) ∧ w.cell? ⟨b, off + k * 2 + 1, none⟩ = some (.int .i64 x.2)
theorem SliP.ext {w w' : World} {v : Value} {L : List (Int × Int)} (h : SliP w v L) (hE : Ext w w') : SliP w' v L :=
  let ⟨b, off, cap, e, h1, h2, h3⟩ := h
  ⟨b, off, cap, e, h1, h2, fun k x hk => ⟨cs_ext hE (h3 k x hk).1, cs_ext hE (h3 k x hk).2⟩⟩
theorem SliP.pairs {w : World} {b off n cap : Nat} {L : List (Int × Int)} (h : SliP w (.slice (some ⟨b, off, none⟩) n cap) L) : PairsA w (some ⟨b, off, none⟩) L := by
  obtain ⟨b', off', cap', e, -, -, h3⟩ := h
  cases e
  exact fun k x hk => ⟨b, off, rfl, h3 k x hk⟩
theorem SliP.of {w : World} {a : Option Addr} {cap : Nat} {L : List (Int × Int)} (h : PairsA w a L) (hne : L ≠ []) (h1 : L.length ≤ cap) (h2 : cap ≤ maxLen) : SliP w (.slice a L.length cap) L := by
  obtain ⟨x, hx⟩ : ∃ x, L[0]? = some x := ⟨_, List.getElem?_eq_getElem (List.length_pos_iff.2 hne)⟩
  obtain ⟨b, off, rfl, -, -⟩ := h 0 x hx
  refine ⟨b, off, cap, rfl, h1, h2, fun k x hk => ?_⟩
  obtain ⟨b', off', e, h3⟩ := h k x hk
  cases e
  exact h3
theorem SliP.of_own {w : World} {base : Nat} {v : Value} {L : List (Int × Int)} (h : w.ownsRow base 53 2 v L.length (flatP L)) (hne : L ≠ []) : SliP w v L := by
  obtain ⟨g, cap, rfl, h1, h2, -, -⟩ := row2_slice h (List.length_pos_iff.2 hne)
  obtain ⟨a, cap', e, hp⟩ := PairsA.own h
  cases e
  exact SliP.of hp hne h1 h2
theorem SliP.take {w : World} {b off n cap m : Nat} {L : List (Int × Int)} (h : SliP w (.slice (some ⟨b, off, none⟩) n cap) L) (hm : m ≤ L.length) : SliP w (.slice (some ⟨b, off, none⟩) m cap) (L.take m) := by
  obtain ⟨b', off', cap', e, h1, h2, h3⟩ := h
  cases e
  refine ⟨b, off, cap, by rw [List.length_take, Nat.min_eq_left hm], by rw [List.length_take]; omega, h2, fun k x hk => ?_⟩
  rw [List.getElem?_take] at hk
  split at hk
  · exact h3 k x hk
  · cases hk
theorem SliP.drop {w : World} {b off n cap m : Nat} {L : List (Int × Int)} (h : SliP w (.slice (some ⟨b, off, none⟩) n cap) L) (hm : m ≤ L.length) : SliP w (.slice (some ⟨b, off + m * 2, none⟩) (n - m) (cap - m)) (L.drop m) := by
  obtain ⟨b', off', cap', e, h1, h2, h3⟩ := h
  cases e
  refine ⟨b, off + m * 2, cap - m, by rw [List.length_drop], by rw [List.length_drop]; omega, by omega, fun k x hk => ?_⟩
  rw [List.getElem?_drop] at hk
  have := h3 _ x hk
  rwa [show off + (m + k) * 2 = off + m * 2 + k * 2 by omega] at this
theorem SliP.nil {w : World} {b off : Nat} : SliP w (.slice (some ⟨b, off, none⟩) 0 0) [] := ⟨b, off, 0, rfl, Nat.le_refl _, by unfold maxLen; omega, fun k x hk => by simp at hk⟩

theorem app53 {wr : World} {base : Nat} {ov : Value} {O : List (Int × Int)} (h : wr.ownsRow base 53 2 ov O.length (flatP O)) (hb : base ≤ wr.heap.size) (hl : O.length ≤ 30000) {X : List (Int × Int)} (hX : X.length ≤ 30000) {b off cap : Nat} (hs : SliP wr (.slice (some ⟨b, off, none⟩) X.length cap) X) {ty : TypeId} :
    ∃ v' w', (Builtin.append_ #[48, 48] ty #[ov, .slice (some ⟨b, off, none⟩) X.length cap]).run Try.prog wr = .ok v' w' ∧ w'.ownsRow base 53 2 v' (O ++ X).length (flatP (O ++ X)) ∧ wr.grownBy w' ov.ownBlock := by
  obtain ⟨j0, hj0, hj1, hj2, hj3⟩ := info_parts inf53
  obtain ⟨v', w', hr, h1, h2, -⟩ := run_append_own_at (P := Try.prog) wr base 48 ty 53 j0 (.agg #[.int .i64 0, .int .i64 0]) 2 16 Try.underlying48 hj0 hj1 hj2 hj3 rfl (by decide) ov O.length (flatP O) h ⟨b, off, none⟩ X.length cap (flatP X) (flatP_len X) hs.pairs.flat (flatP_one X) (by unfold maxLen; omega) (by omega) hb
  refine ⟨v', w', hr, ?_, h2⟩
  rw [List.length_append]
  simpa [flatP] using h1
theorem wpList_app53 {ops : Array Oper} {rest : List Oper} {o : Oper} {a : Act} {w : World} {Q : Exit → Act → World → Prop} (hgd : o.guard = none) (s y : Operand)
    (ho : o.op = .call { callee := .builtin .append, args := #[s, y], argTypes := #[48, 48] }) {base : Nat} {v : Value} {O X : List (Int × Int)} (hs : a.eval s = v) (h : w.ownsRow base 53 2 v O.length (flatP O)) (hb : base ≤ w.heap.size) (hl : O.length ≤ 30000) (hX : X.length ≤ 30000) {b f c : Nat} (hy : a.eval y = .slice (some ⟨b, f, none⟩) X.length c) (hx : SliP w (.slice (some ⟨b, f, none⟩) X.length c) X)
    (hK : ∀ v' w', w'.ownsRow base 53 2 v' (O ++ X).length (flatP (O ++ X)) → w.grownBy w' v.ownBlock → wpList Try.prog ops Q rest (a.put o.dst v') w') :
    wpList Try.prog ops Q (o :: rest) a w := by
  refine wpList_plain hgd fun K hK' => ?_
  obtain ⟨v', w', hr, h1, h2⟩ := app53 (ty := o.type) h hb hl hX hx
  unfold Oper.wp execOp
  simp only [ho, resolve, invoke, builtin, Sem.run_bind, Sem.run_pure, Result.andThen_ok, List.map_toArray, List.map_cons, List.map_nil, hs, hy, hr]
  exact hK' _ _ (hK v' w' h1 h2)
theorem one_sli {w : World} {fb : Nat} {x : Int × Int} (hfb : w.heap[fb]? = some (.cells #[.int .i64 x.1, .int .i64 x.2] 53)) : SliP w (.slice (some ⟨fb, 0, none⟩) 1 1) [x] :=
  ⟨fb, 0, 1, rfl, Nat.le_refl _, by unfold maxLen; omega, fun k y hk => by
    match k, hk with
    | 0, hk => cases hk; exact ⟨by simp [World.cell?, hfb], by simp [World.cell?, hfb]⟩⟩
theorem app53_act {wr : World} {base : Nat} {ov : Value} {O : List (Int × Int)} (h : wr.ownsRow base 53 2 ov O.length (flatP O)) (hb : base ≤ wr.heap.size) (hl : O.length ≤ 30000) {x : Int × Int} {fb B : Nat} (hfb : wr.heap[fb]? = some (.cells #[.int .i64 x.1, .int .i64 x.2] 53))
    {o : Oper} {a : Act} {s y : Operand} (ho : o.op = .call { callee := .builtin .append, args := #[s, y], argTypes := #[48, 48] }) (hs : a.eval s = ov) (hy : a.eval y = .slice (some ⟨fb, 0, none⟩) 1 1) (hB : ∀ k, ov.ownBlock = some k → k < B) {R : Value → World → Prop}
    (hR : ∀ v' w', w'.ownsRow base 53 2 v' (O ++ [x]).length (flatP (O ++ [x])) → wr.grownBy w' ov.ownBlock → R v' w') :
    ∃ x v w', (execOp a.eval o).run Try.prog wr = .ok x w' ∧ (x = .value v ∨ x = .skip ∧ v = undef) ∧ ActExt B wr w' ∧ R v w' := by
  obtain ⟨v', w', hr, h1, h2⟩ := app53 (X := [x]) (ty := o.type) h hb hl (by simp) (one_sli hfb)
  refine ⟨.value v', v', w', ?_, .inl rfl, ⟨h2.size, fun b hb hb2 => h2.block b hb2 (fun e => by have := hB b e.symm; omega)⟩, hR v' w' h1 h2⟩
  have hr' : (Builtin.append_ #[48, 48] o.type #[ov, .slice (some ⟨fb, 0, none⟩) 1 1]).run Try.prog wr = .ok v' w' := hr
  unfold execOp
  simp only [ho, resolve, invoke, builtin, Sem.run_bind, Sem.run_pure, Result.andThen_ok, List.map_toArray, List.map_cons, List.map_nil, hs, hy, hr']

theorem step_app53 {ops : Array Oper} {o : Oper} {a : Act} {w : World} {K : Act → World → Prop} {Q : Exit → Act → World → Prop} {E : Prop} (hgd : o.guard = none) (s y : Operand)
    (ho : o.op = .call { callee := .builtin .append, args := #[s, y], argTypes := #[48, 48] }) {base : Nat} {v : Value} {O : List (Int × Int)} (hs : a.eval s = v) (h : w.ownsRow base 53 2 v O.length (flatP O)) (hb : base ≤ w.heap.size) (hl : O.length ≤ 30000) {x : Int × Int} {f : Nat} (hy : a.eval y = .slice (some ⟨f, 0, none⟩) 1 1) (hx : w.heap[f]? = some (.cells #[.int .i64 x.1, .int .i64 x.2] 53))
    (hK : ∀ v' w', w'.ownsRow base 53 2 v' (O ++ [x]).length (flatP (O ++ [x])) → w.grownBy w' v.ownBlock → K (a.put o.dst v') w') :
    if Region.wanted o (yielded ops a.tmps) = true then Oper.wp Try.prog o a w K Q else E := by
  have hw : Region.wanted o (yielded ops a.tmps) = true := by simp [Region.wanted, hgd]
  rw [if_pos hw]
  obtain ⟨v', w', hr, h1, h2⟩ := app53 (X := [x]) (ty := o.type) h hb hl (by simp) (one_sli hx)
  have hr' : (Builtin.append_ #[48, 48] o.type #[v, .slice (some ⟨f, 0, none⟩) 1 1]).run Try.prog w = .ok v' w' := hr
  unfold Oper.wp
  simp [execOp, ho, resolve, invoke, builtin, hs, hy, hr', Result.andThen]
  exact hK v' w' h1 h2

/-- the state of the merge -/
structure MrgI (W0 wr : World) (ov av bv : Value) (M O A B : List (Int × Int)) : Prop where
  own : wr.ownsRow W0.heap.size 53 2 ov O.length (flatP O)
  ext : Ext W0 wr
  a : SliP W0 av A
  b : SliP W0 bv B
  perm : (O ++ (A ++ B)).Perm M
  so : O.Pairwise ltP
  sa : A.Pairwise ltP
  sb : B.Pairwise ltP
  oa : ∀ x ∈ O, ∀ y ∈ A, ltP x y
  ob : ∀ x ∈ O, ∀ y ∈ B, ltP x y
section
variable {W0 wr w' : World} {ov av bv v' t : Value} {M O A B : List (Int × Int)} {x y : Int × Int}
theorem MrgI.next (h : MrgI W0 wr ov av bv M O A B) (hE : Ext wr w') : MrgI W0 w' ov av bv M O A B := ⟨ownsRow_ext h.own hE, h.ext.trans hE, h.a, h.b, h.perm, h.so, h.sa, h.sb, h.oa, h.ob⟩
theorem MrgI.takeB (h : MrgI W0 wr ov av bv M O (x :: A) (y :: B)) (hlt : ltP y x) (hO : w'.ownsRow W0.heap.size 53 2 v' (O ++ [y]).length (flatP (O ++ [y]))) (hE : Ext W0 w') (ht : SliP W0 t B) : MrgI W0 w' v' av t M (O ++ [y]) (x :: A) B := by
  have h1 := List.pairwise_cons.1 h.sb
  have h2 := List.pairwise_cons.1 h.sa
  refine ⟨hO, hE, h.a, ht, ?_, ?_, h.sa, h1.2, ?_, ?_⟩
  · refine List.Perm.trans ?_ h.perm
    rw [List.append_assoc]
    refine List.Perm.append_left _ ?_
    exact (List.perm_middle (l₁ := x :: A) (l₂ := B) (a := y)).symm
  · exact List.pairwise_append.2 ⟨h.so, by simp, fun a ha b hb => by simp at hb; subst hb; exact h.ob a ha _ (by simp)⟩
  · intro a ha b hb
    rcases List.mem_append.1 ha with ha | ha
    · exact h.oa a ha b hb
    · simp at ha
      subst ha
      rcases List.mem_cons.1 hb with rfl | hb
      · exact hlt
      · exact ltP_trans hlt (h2.1 b hb)
  · intro a ha b hb
    rcases List.mem_append.1 ha with ha | ha
    · exact h.ob a ha b (by simp [hb])
    · simp at ha
      subst ha
      exact h1.1 b hb
theorem MrgI.takeA (h : MrgI W0 wr ov av bv M O (x :: A) (y :: B)) (hlt : ltP x y) (hO : w'.ownsRow W0.heap.size 53 2 v' (O ++ [x]).length (flatP (O ++ [x]))) (hE : Ext W0 w') (ht : SliP W0 t A) : MrgI W0 w' v' t bv M (O ++ [x]) A (y :: B) := by
  have h1 := List.pairwise_cons.1 h.sb
  have h2 := List.pairwise_cons.1 h.sa
  refine ⟨hO, hE, ht, h.b, ?_, ?_, h2.2, h.sb, ?_, ?_⟩
  · refine List.Perm.trans ?_ h.perm
    rw [List.append_assoc]
    exact List.Perm.append_left _ (List.Perm.refl _)
  · exact List.pairwise_append.2 ⟨h.so, by simp, fun a ha b hb => by simp at hb; subst hb; exact h.oa a ha _ (by simp)⟩
  · intro a ha b hb
    rcases List.mem_append.1 ha with ha | ha
    · exact h.oa a ha b (by simp [hb])
    · simp at ha
      subst ha
      exact h2.1 b hb
  · intro a ha b hb
    rcases List.mem_append.1 ha with ha | ha
    · exact h.ob a ha b hb
    · simp at ha
      subst ha
      rcases List.mem_cons.1 hb with rfl | hb
      · exact hlt
      · exact ltP_trans hlt (h1.1 b hb)
theorem MrgI.ne (h : MrgI W0 wr ov av bv M O (x :: A) (y :: B)) (hM : M.Nodup) : x ≠ y := by
  have h1 := h.perm.nodup_iff.2 hM
  have h2 := (List.nodup_append.1 (List.nodup_append.1 h1).2.1).2.2
  exact h2 x (by simp) y (by simp)
theorem MrgI.sorted (h : MrgI W0 wr ov av bv M O A B) (he : A = [] ∨ B = []) : (O ++ (A ++ B)).Pairwise ltP := by
  refine List.pairwise_append.2 ⟨h.so, ?_, fun a ha b hb => ?_⟩
  · rcases he with rfl | rfl
    · exact h.sb
    · rw [List.append_nil]; exact h.sa
  · rcases List.mem_append.1 hb with hb | hb
    · exact h.oa a ha b hb
    · exact h.ob a ha b hb
theorem MrgI.len (h : MrgI W0 wr ov av bv M O A B) : O.length + A.length + B.length = M.length := by
  have := h.perm.length_eq
  simp only [List.length_append] at this
  omega
end

/-- the head is cut off -/
def cutV (v : Value) : Value := match v with | .slice (some ⟨b, off, f⟩) n cap => .slice (if cap = 1 then some ⟨b, off, f⟩ else some ⟨b, off + 2, f⟩) (n - 1) (cap - 1) | _ => v
theorem SliP.tail {w : World} {b off cap : Nat} {x : Int × Int} {L : List (Int × Int)} (h : SliP w (.slice (some ⟨b, off, none⟩) (L.length + 1) cap) (x :: L)) : SliP w (.slice (if cap = 1 then some ⟨b, off, none⟩ else some ⟨b, off + 2, none⟩) L.length (cap - 1)) L := by
  split
  · rename_i e
    subst e
    obtain ⟨b', off', cap', e, h1, h2, h3⟩ := h
    cases e
    cases L with
    | nil => exact SliP.nil
    | cons y L => simp at h1
  · have := h.drop (m := 1) (by simp)
    simpa using this
theorem SliP.head {w : World} {b off n cap : Nat} {x : Int × Int} {L : List (Int × Int)} (h : SliP w (.slice (some ⟨b, off, none⟩) n cap) (x :: L)) : w.cell? ⟨b, off, none⟩ = some (.int .i64 x.1) ∧ w.cell? ⟨b, off + 1, none⟩ = some (.int .i64 x.2) := by
  obtain ⟨b', off', cap', e, h1, h2, h3⟩ := h
  cases e
  have := h3 0 x rfl
  simpa using this

/-- what Sorted answers -/
def SortR (w : World) (L : List (Int × Int)) (u : Value) (w' : World) : Prop := ∃ L', SliP w' u L' ∧ L'.Perm L ∧ L'.Pairwise ltP

def lenOf (v : Value) : Nat := match v with | .slice _ n _ => n | _ => 0


set_option maxRecDepth 100000 in
set_option maxHeartbeats 3200000 in
theorem Sorted_any (n : Nat) : ∀ {w : World} {v : Value} {L : List (Int × Int)}, L.length ≤ n → L.length ≤ 20000 → L ≠ [] → L.Nodup → SliP w v L →
    Calls Try.prog 49 #[v] w fun e w' => ∃ u, e = .returned u ∧ Ext w w' ∧ SortR w L u w' := by
  induction n with
  | zero => intro w v L h _ hne; exact absurd (List.length_eq_zero_iff.1 (by omega)) hne
  | succ n ih =>
    intro w v L hn hl hne hnd hs
    obtain ⟨b, off, cap, rfl, hc, hm, hcells⟩ := id hs
    unfold maxLen at hm
    have hpos := List.length_pos_iff.2 hne
    by_cases h2 : L.length < 2
    · have e1 : decide ((L.length : Int) < 2) = true := decide_eq_true (by omega)
      have HR : Hid (SortR w L (.slice (some ⟨b, off, none⟩) L.length cap) w) := Lib.hid ⟨L, hs, List.Perm.refl _, by
        obtain ⟨x, rfl⟩ := List.length_eq_one_iff.1 (show L.length = 1 by omega)
        simp⟩
      clear hs hcells ih hnd hne
      go_enter Try.func49, Try.ntmps49
      go_wp2_with fail
      go_ret
      exact ⟨_, rfl, Ext.refl _, HR.out⟩
    · have e1 : decide ((L.length : Int) < 2) = false := decide_eq_false (by omega)
      obtain ⟨h, hh⟩ : ∃ h, h = L.length / 2 := ⟨_, rfl⟩
      have hh2 : (L.length : Int) / 2 = (h : Int) := by omega
      have hh3 : IntKind.i64.wrap (h : Int) = (h : Int) := IntWalk.i64_in _ (by omega)
      have hh4 : Int.tdiv (L.length : Int) 2 = (h : Int) := by rw [Int.tdiv_eq_ediv_of_nonneg (by omega)]; exact hh2
      have hhl : h ≤ L.length := by omega
      have hcne : ¬ cap = h := by omega
      have hlcap : h ≤ cap := by omega
      have hl1 : (L.take h).length = h := by rw [List.length_take]; omega
      have hl2 : (L.drop h).length = L.length - h := List.length_drop
      have HA := Lib.hid (fun (w' : World) (hE : Ext w w') => ih (w := w') (v := .slice (some ⟨b, off, none⟩) h cap) (L := L.take h) (by omega) (by omega) (fun e => by rw [e] at hl1; simp at hl1; omega) (List.Nodup.sublist (List.take_sublist _ _) hnd) ((hs.take hhl).ext hE))
      have HB := Lib.hid (fun (w' : World) (hE : Ext w w') => ih (w := w') (v := .slice (some ⟨b, off + h * 2, none⟩) (L.length - h) (cap - h)) (L := L.drop h) (by omega) (by omega) (fun e => by rw [e] at hl2; simp at hl2; omega) (List.Nodup.sublist (List.drop_sublist _ _) hnd) ((hs.drop hhl).ext hE))
      have HND := Lib.hid hnd
      have HPP : Hid (L.take h ++ L.drop h = L) := Lib.hid (List.take_append_drop h L)
      have HH := Lib.hid hh
      clear hs hcells ih hnd hne hl1 hl2 hh
      go_enter Try.func49, Try.ntmps49
      go_upto_region 3 with fail
      refine wp_region_reg 12 false (by kernel_rfl) (by kernel_rfl) ?_
      refine reg_value (fun _ => rfl) ?_ (fun g w' vs hM hE hP => ?_) ?_
      rotate_left
      · (clear hP hM; go_simp; first | done | rfl)
      refine reg_value (fun _ => rfl) ?_ (fun g w' vs hM hE hP => ?_) ?_
      rotate_left
      · (clear hP hM; go_simp; first | done | rfl)
      refine reg_value (fun _ => rfl) ?_ (fun g w' vs hM hE hP => ?_) ?_
      rotate_left
      · (clear hP hM; go_simp; first | done | rfl)
      refine reg_value (fun _ => rfl) ?_ (fun g w' vs hM hE hP => ?_) ?_
      rotate_left
      · (clear hP hM; go_simp; first | done | rfl)
      refine reg_value (fun _ => rfl) ?_ (fun g w' vs hM hE hP => ?_) ?_
      rotate_left
      · (clear hP hM; go_simp; first | done | rfl)
      refine reg_call (fun _ => rfl) 49 ?_ (fun g w' m hM hE hP => ?_) (fun u w'' => SortR w (L.take h) u w'') ⟨fun u a b h hE => let ⟨L', h1, h2⟩ := h; ⟨L', h1.ext hE, h2⟩, (fun h => nomatch h), (fun h => absurd rfl h)⟩ (fun g w' m hM hE hP => ?_) ?_
      rotate_left
      · (clear hP hM; go_simp; first | done | exact ⟨rfl, rfl⟩ | rfl)
      · exact (HA.out w' hE).mono (fun e w'' h => h)
      refine reg_value (fun _ => rfl) ?_ (fun g w' vs hM hE hP => ?_) ?_
      rotate_left
      · (clear hP hM; go_simp; first | done | rfl)
      refine reg_value (fun _ => rfl) ?_ (fun g w' vs hM hE hP => ?_) ?_
      rotate_left
      · (clear hP hM; go_simp; first | done | rfl)
      refine reg_value (fun _ => rfl) ?_ (fun g w' vs hM hE hP => ?_) ?_
      rotate_left
      · (clear hP hM; go_simp; first | done | rfl)
      refine reg_value (fun _ => rfl) ?_ (fun g w' vs hM hE hP => ?_) ?_
      rotate_left
      · (clear hP hM; go_simp; first | done | rfl)
      refine reg_value (fun _ => rfl) ?_ (fun g w' vs hM hE hP => ?_) ?_
      rotate_left
      · (clear hP hM; go_simp; first | done | rfl)
      refine reg_call (fun _ => rfl) 49 ?_ (fun g w' m hM hE hP => ?_) (fun u w'' => SortR w (L.drop h) u w'') ⟨fun u a b h hE => let ⟨L', h1, h2⟩ := h; ⟨L', h1.ext hE, h2⟩, (fun h => nomatch h), (fun h => absurd rfl h)⟩ (fun g w' m hM hE hP => ?_) ?_
      rotate_left
      · (clear hP hM; go_simp; first | done | exact ⟨rfl, rfl⟩ | rfl)
      · exact (HB.out w' hE).mono (fun e w'' h => h)
      intro g W0 hE2 hF hQ
      simp only [List.drop_succ_cons, List.drop_zero, Act.put, List.setIfInBounds_toArray, List.set_cons_succ, List.set_cons_zero]
      obtain ⟨B0, hB0, pB, sB⟩ := hQ _ List.mem_cons_self
      obtain ⟨A0, hA0, pA, sA⟩ := hQ _ (List.mem_cons_of_mem _ List.mem_cons_self)
      simp only at hB0 hA0
      obtain ⟨av, hav⟩ : ∃ av, av = (g 5).v := ⟨_, rfl⟩
      obtain ⟨bv, hbv⟩ : ∃ bv, bv = (g 11).v := ⟨_, rfl⟩
      rw [← hav] at hA0
      rw [← hbv] at hB0
      simp only [← hav, ← hbv]
      have HE2 := Lib.hid hE2
      have HM : Hid (MrgI W0 W0 (.slice none 0 0) av bv (A0 ++ B0) [] A0 B0) := Lib.hid ⟨World.ownsRow_nil _ _ _ _, Ext.refl _, hA0, hB0, List.Perm.refl _, by simp, sA, sB, by simp, by simp⟩
      have HPE : Hid ((A0 ++ B0).Perm L) := Lib.hid (by rw [← HPP.out]; exact pA.append pB)
      clear hav hbv hQ hF hE2 hA0 hB0 pA pB sA sB
      go_wp2_with fail
      go_loopw [3, 4, 5] (fun av bv ov wr => ∃ O A B, MrgI W0 wr ov av bv (A0 ++ B0) O A B) (fun av bv _ _ => lenOf av + lenOf bv)
      case atStart => exact ⟨_, _, _, HM.out⟩
      case round =>
        obtain ⟨O, A, B, hI⟩ := hrel
        have hln := hI.len
        have hlL : (A0 ++ B0).length = L.length := HPE.out.length_eq
        obtain ⟨ab, ao, ac, rfl, ac1, ac2, acs⟩ := id hI.a
        obtain ⟨bb, bo, bc, rfl, bc1, bc2, bcs⟩ := id hI.b
        unfold maxLen at ac2 bc2
        have hO3 : O.length ≤ 30000 := by omega
        have hOA : (O ++ A).length ≤ 30000 := by rw [List.length_append]; omega
        have HI := Lib.hid hI
        by_cases hend : A = [] ∨ B = []
        · have HEND := Lib.hid hend
          have HSO := Lib.hid (hI.sorted hend)
          have hA3 : A.length ≤ 30000 := by omega
          have hB3 : B.length ≤ 30000 := by omega
          have hAs := hI.a.ext hI.ext
          have hOw := hI.own
          have hsz := hI.ext.size
          have HFIN : Hid (∀ w1 w2 v1 v2, wr.grownBy w1 u5.ownBlock → w1.ownsRow W0.heap.size 53 2 v1 (O ++ A).length (flatP (O ++ A)) → w1.grownBy w2 v1.ownBlock → w2.ownsRow W0.heap.size 53 2 v2 ((O ++ A) ++ B).length (flatP ((O ++ A) ++ B)) → Ext w w2 ∧ SortR w L v2 w2) := Lib.hid (fun w1 w2 v1 v2 g1 o1 g2 o2 => by
            have hE1 : Ext W0 w1 := hI.ext.grown g1 (fun k hk => (hOw.lt k hk).1)
            have hE2 : Ext W0 w2 := hE1.grown g2 (fun k hk => (o1.lt k hk).1)
            rw [List.append_assoc] at o2
            refine ⟨HE2.out.trans hE2, _, SliP.of_own o2 (fun e => ?_), hI.perm.trans HPE.out, HSO.out⟩
            have := hI.perm.length_eq
            rw [e] at this
            simp at this hlL
            omega)
          clear hI ac1 ac2 acs bc1 bc2 bcs hend hln
          skip
          have HMID : Hid (∀ w1 v1, wr.grownBy w1 u5.ownBlock → w1.ownsRow W0.heap.size 53 2 v1 (O ++ A).length (flatP (O ++ A)) → W0.heap.size ≤ w1.heap.size ∧ SliP w1 (.slice (some ⟨bb, bo, none⟩) B.length bc) B) := Lib.hid (fun w1 v1 g1 o1 => by
            have hE1 : Ext W0 w1 := HI.out.ext.grown g1 (fun k hk => (HI.out.own.lt k hk).1)
            exact ⟨hE1.size, HI.out.b.ext hE1⟩)
          by_cases hA0 : A.length = 0
          · have e5 : decide (0 < (A.length : Int)) = false := decide_eq_false (by omega)
            have e6 : ¬ 0 < A.length := by omega
            skip
            go_wp2_with (first
              | (at_builtin; refine wpList_app53 rfl (.tmp 53) (.tmp 54) rfl (X := A) (b := ab) (f := ao) (c := ac) rfl hOw hsz hO3 hA3 rfl hAs ?_; intro v1 w1 o1 g1
                 have O1 := Lib.hid o1
                 have G1 := Lib.hid g1
                 have hM := HMID.out w1 v1 g1 o1
                 obtain ⟨m1, m2⟩ := hM
                 clear o1 g1)
              | (at_builtin; refine wpList_app53 rfl (.tmp 55) (.tmp 56) rfl (O := O ++ A) (X := B) (b := bb) (f := bo) (c := bc) rfl O1.out m1 hOA hB3 rfl m2 ?_; intro v2 w2 o2 g2
                 have HF := Lib.hid (HFIN.out _ _ _ _ G1.out O1.out g2 o2)
                 clear o2 g2))
            go_ret
            exact ⟨_, rfl, HF.out.1, HF.out.2⟩
          · have hB0 : B.length = 0 := by
              rcases HEND.out with rfl | rfl
              · exact absurd rfl hA0
              · rfl
            have e5 : decide (0 < (A.length : Int)) = true := decide_eq_true (by omega)
            have e5' : decide (0 < (B.length : Int)) = false := decide_eq_false (by omega)
            have e6 : 0 < A.length := by omega
            have e6' : ¬ 0 < B.length := by omega
            clear hB0
            skip
            go_wp2_with (first
              | (at_builtin; refine wpList_app53 rfl (.tmp 53) (.tmp 54) rfl (X := A) (b := ab) (f := ao) (c := ac) rfl hOw hsz hO3 hA3 rfl hAs ?_; intro v1 w1 o1 g1
                 have O1 := Lib.hid o1
                 have G1 := Lib.hid g1
                 have hM := HMID.out w1 v1 g1 o1
                 obtain ⟨m1, m2⟩ := hM
                 clear o1 g1)
              | (at_builtin; refine wpList_app53 rfl (.tmp 55) (.tmp 56) rfl (O := O ++ A) (X := B) (b := bb) (f := bo) (c := bc) rfl O1.out m1 hOA hB3 rfl m2 ?_; intro v2 w2 o2 g2
                 have HF := Lib.hid (HFIN.out _ _ _ _ G1.out O1.out g2 o2)
                 clear o2 g2))
            go_ret
            exact ⟨_, rfl, HF.out.1, HF.out.2⟩
        · obtain ⟨x, A', rfl⟩ : ∃ x A', A = x :: A' := by cases A with | nil => exact absurd (.inl rfl) hend | cons x A' => exact ⟨_, _, rfl⟩
          obtain ⟨y, B', rfl⟩ : ∃ y B', B = y :: B' := by cases B with | nil => exact absurd (.inr rfl) hend | cons y B' => exact ⟨_, _, rfl⟩
          simp only [List.length_cons] at *
          have hxy := hI.ne (HPE.out.nodup_iff.2 HND.out)
          obtain ⟨p0, p1⟩ := hI.a.head
          obtain ⟨q0, q1⟩ := hI.b.head
          have P0 := Lib.hid p0
          have P1 := Lib.hid p1
          have Q0 := Lib.hid q0
          have Q1 := Lib.hid q1
          have x0 := cs_ext hI.ext p0
          have x1 := cs_ext hI.ext p1
          have y0 := cs_ext hI.ext q0
          have y1 := cs_ext hI.ext q1
          obtain ⟨o, ho⟩ : ∃ o, o = decide (ordS y.1 y.2 x.1 x.2 < 0) := ⟨_, rfl⟩
          have hcon := fun (w' : World) => less_any y.1 y.2 x.1 x.2 w'
          rw [← ho] at hcon
          have HO := Lib.hid ho
          have HXY := Lib.hid hxy
          have HC := Lib.hid hcon
          have e5 : decide (0 < (A'.length : Int) + 1) = true := decide_eq_true (by omega)
          have e6 : decide (0 < (B'.length : Int) + 1) = true := decide_eq_true (by omega)
          have e7 : 0 < A'.length + 1 := by omega
          have e8 : 0 < B'.length + 1 := by omega
          have e9 : (1 : Int) ≤ (A'.length : Int) + 1 := by omega
          have e10 : (1 : Int) ≤ (B'.length : Int) + 1 := by omega
          have HTA := Lib.hid hI.a.tail
          have HTB := Lib.hid hI.b.tail
          clear hI ac2 acs bc2 bcs hend hxy p0 p1 q0 q1 ho hcon
          go_wp2_with fail
          refine wp_region_reg 7 false (by kernel_rfl) (by kernel_rfl) ?_
          refine reg_value (fun _ => rfl) ?_ (fun g w' vs hM hE hP => ?_) ?_
          rotate_left
          · (clear hP hM; have zz0 := cs_ext hE x0; have zz1 := cs_ext hE x1; have zz2 := cs_ext hE y0; have zz3 := cs_ext hE y1; go_simp; first | done | rfl)
          refine reg_value (fun _ => rfl) ?_ (fun g w' vs hM hE hP => ?_) ?_
          rotate_left
          · (clear hP hM; have zz0 := cs_ext hE x0; have zz1 := cs_ext hE x1; have zz2 := cs_ext hE y0; have zz3 := cs_ext hE y1; go_simp; first | done | rfl)
          refine reg_value (fun _ => rfl) ?_ (fun g w' vs hM hE hP => ?_) ?_
          rotate_left
          · (clear hP hM; have zz0 := cs_ext hE x0; have zz1 := cs_ext hE x1; have zz2 := cs_ext hE y0; have zz3 := cs_ext hE y1; go_simp; first | done | rfl)
          refine reg_value (fun _ => rfl) ?_ (fun g w' vs hM hE hP => ?_) ?_
          rotate_left
          · (clear hP hM; have zz0 := cs_ext hE x0; have zz1 := cs_ext hE x1; have zz2 := cs_ext hE y0; have zz3 := cs_ext hE y1; go_simp; first | done | rfl)
          refine reg_value (fun _ => rfl) ?_ (fun g w' vs hM hE hP => ?_) ?_
          rotate_left
          · (clear hP hM; have zz0 := cs_ext hE x0; have zz1 := cs_ext hE x1; have zz2 := cs_ext hE y0; have zz3 := cs_ext hE y1; go_simp; first | done | rfl)
          refine reg_value (fun _ => rfl) ?_ (fun g w' vs hM hE hP => ?_) ?_
          rotate_left
          · (clear hP hM; have zz0 := cs_ext hE x0; have zz1 := cs_ext hE x1; have zz2 := cs_ext hE y0; have zz3 := cs_ext hE y1; go_simp; first | done | rfl)
          refine reg_const (fun _ => rfl) 55 ?_ (fun g w' vs hM hE hP => ?_) ?_
          rotate_left
          · (clear hP hM; have zz0 := cs_ext hE x0; have zz1 := cs_ext hE x1; have zz2 := cs_ext hE y0; have zz3 := cs_ext hE y1; go_simp; first | done | exact ⟨rfl, rfl⟩ | rfl)
          apply Exists.intro
          refine And.intro (fun g w' vs hM hE hP => ?_) ?_
          · exact HC.out w'
          intro g wz hE2 hF hQ
          simp only [List.drop_succ_cons, List.drop_zero, Act.put, List.setIfInBounds_toArray, List.set_cons_succ, List.set_cons_zero]
          have HEZ := Lib.hid hE2
          have HI := Lib.hid (HI.out.next hE2)
          clear hE2 hF hQ x0 x1 y0 y1
          have x0 : wz.drew.cell? ⟨ab, ao, none⟩ = some (.int .i64 x.1) := cs_ext HI.out.ext.then_dr P0.out
          have x1 : wz.drew.cell? ⟨ab, ao + 1, none⟩ = some (.int .i64 x.2) := cs_ext HI.out.ext.then_dr P1.out
          have y0 : wz.drew.cell? ⟨bb, bo, none⟩ = some (.int .i64 y.1) := cs_ext HI.out.ext.then_dr Q0.out
          have y1 : wz.drew.cell? ⟨bb, bo + 1, none⟩ = some (.int .i64 y.2) := cs_ext HI.out.ext.then_dr Q1.out
          cases o
          · have HLT : Hid (ltP x y) := Lib.hid (by
              rcases ltP_total (x := x) (y := y) with h | h | h
              · exact h
              · exact absurd h HXY.out
              · have := of_decide_eq_false HO.out.symm
                exact absurd (ord_lt.2 h) this)
            go_upto_region 8 with fail
            go_region_law (refine step_app53 rfl (.tmp 45) (.tmp 49) rfl rfl (ownsRow_ext HI.out.own (by repeat (first | exact Ext.refl _ | exact Ext.alloc _ _ | apply Ext.then_dr | apply Ext.then_drN | apply Ext.then_drN2 | (refine Ext.then_al ?_ _)))) (Nat.le_trans HI.out.ext.size (Ext.size (by repeat (first | exact Ext.refl _ | exact Ext.alloc _ _ | apply Ext.then_dr | apply Ext.then_drN | apply Ext.then_drN2 | (refine Ext.then_al ?_ _))))) (by omega) (x := x) rfl hs_new ?_; intro v' w' h2 h3; have hE3 := Lib.hid ((HI.out.ext.trans (by repeat (first | exact Ext.refl _ | exact Ext.alloc _ _ | apply Ext.then_dr | apply Ext.then_drN | apply Ext.then_drN2 | (refine Ext.then_al ?_ _)))).grown h3 (fun k hk => (HI.out.own.lt k hk).1)); have H2 := Lib.hid h2; clear h2 h3)
            go_wp2_with fail
            · have e : ac = 1 := by assumption
              have HTT : SliP W0 (.slice (some ⟨ab, ao, none⟩) A'.length 0) A' := by have h := HTA.out; rw [if_pos e, e] at h; exact h
              go_roundw
              case rel => exact ⟨_, _, _, ⟨_, _, _, HI.out.takeA HLT.out H2.out hE3.out HTT⟩, rfl, rfl, rfl⟩
              case measure => simp [lenOf]
            · have e : ¬ ac = 1 := by assumption
              have HTT : SliP W0 (.slice (some ⟨ab, ao + 2, none⟩) A'.length (ac - 1)) A' := by have h := HTA.out; rw [if_neg e] at h; exact h
              go_roundw
              case rel => exact ⟨_, _, _, ⟨_, _, _, HI.out.takeA HLT.out H2.out hE3.out HTT⟩, rfl, rfl, rfl⟩
              case measure => simp [lenOf]
          · have HLT : Hid (ltP y x) := Lib.hid (ord_lt.1 (of_decide_eq_true HO.out.symm))
            go_upto_region 7 with fail
            go_region_law (refine step_app53 rfl (.tmp 37) (.tmp 41) rfl rfl (ownsRow_ext HI.out.own (by repeat (first | exact Ext.refl _ | exact Ext.alloc _ _ | apply Ext.then_dr | apply Ext.then_drN | apply Ext.then_drN2 | (refine Ext.then_al ?_ _)))) (Nat.le_trans HI.out.ext.size (Ext.size (by repeat (first | exact Ext.refl _ | exact Ext.alloc _ _ | apply Ext.then_dr | apply Ext.then_drN | apply Ext.then_drN2 | (refine Ext.then_al ?_ _))))) (by omega) (x := y) rfl hs_new ?_; intro v' w' h2 h3; have hE3 := Lib.hid ((HI.out.ext.trans (by repeat (first | exact Ext.refl _ | exact Ext.alloc _ _ | apply Ext.then_dr | apply Ext.then_drN | apply Ext.then_drN2 | (refine Ext.then_al ?_ _)))).grown h3 (fun k hk => (HI.out.own.lt k hk).1)); have H2 := Lib.hid h2; clear h2 h3)
            go_wp2_with fail
            · have e : bc = 1 := by assumption
              have HTT : SliP W0 (.slice (some ⟨bb, bo, none⟩) B'.length 0) B' := by have h := HTB.out; rw [if_pos e, e] at h; exact h
              go_roundw
              case rel => exact ⟨_, _, _, ⟨_, _, _, HI.out.takeB HLT.out H2.out hE3.out HTT⟩, rfl, rfl, rfl⟩
              case measure => simp [lenOf]
            · have e : ¬ bc = 1 := by assumption
              have HTT : SliP W0 (.slice (some ⟨bb, bo + 2, none⟩) B'.length (bc - 1)) B' := by have h := HTB.out; rw [if_neg e] at h; exact h
              go_roundw
              case rel => exact ⟨_, _, _, ⟨_, _, _, HI.out.takeB HLT.out H2.out hE3.out HTT⟩, rfl, rfl, rfl⟩
              case measure => simp [lenOf]

end Go.Proofs.Ythoelnoahfedmaa
