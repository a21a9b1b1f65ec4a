/- Contracts: the reference's rows. -/
import Derived.Test.YtckgjebcehbkfaaU4
namespace Go.Proofs.Ytckgjebcehbkfaa
open Go Go.RowKit
set_option linter.unusedVariables false
set_option linter.unusedSimpArgs false

theorem infR : (Try.prog.info? 89).map (fun i => (i.zero, i.size, i.bytes)) = some (some (.agg #[.slice none 0 0, .slice none 0 0]), 2, 48) := by kernel_rfl
theorem built_row (a fa : Option Addr) (n c fn fc : Nat) : Try.prog.built 89 [(0, .slice a n c), (1, .slice fa fn fc)] = some #[.slice a n c, .slice fa fn fc] := by kernel_rfl
theorem built_row1 (a : Option Addr) (n c : Nat) : Try.prog.built 89 [(0, .slice a n c)] = some #[.slice a n c, .slice none 0 0] := by kernel_rfl
theorem wpList_buildR {ops : Array Oper} {rest : List Oper} {o : Oper} {a : Act} {w : World} {Q : Exit → Act → World → Prop} (hg : o.guard = none) (parts : List (Nat × Operand)) (ho : o.op = .build 89 parts.toArray) (vals : List (Nat × Value)) (hv : parts.map (fun p => (p.1, a.eval p.2)) = vals) {cells : Array Value}
    (hb : Try.prog.built 89 vals = some cells) (h : wpList Try.prog ops Q rest (a.put o.dst (.agg cells)) w) : wpList Try.prog ops Q (o :: rest) a w := by
  have e : (parts.toArray.map fun (i, x) => (i, a.eval x)).toList = vals := by rw [← hv]; simp
  refine wpList_build hg 89 parts.toArray ho (by rw [e, hb]; rfl) ?_
  rw [e, hb]
  exact h
section
variable {w w' : World} {S S' : Nat → Prop} {base bx : Nat} {v : Value} {E : List RE} {e : RE}
theorem OwnR.block (h : OwnR w base S v E) {g : Nat} (hg : v.ownBlock = some g) : ∃ cur, w.heap[g]? = some (.cells cur 89) := by
  rcases h.1.2 with ⟨rfl, -⟩ | ⟨g', cap, cur, rfl, -, hc, -⟩
  · cases hg
  · cases hg; exact ⟨cur, hc⟩
/-- a row stays while blocks that hold terms and numbers of it stay -/
theorem ReW.hold (h : ReW w S e) (h1 : ∀ (b : Nat) (cur : Array Value), w.heap[b]? = some (.cells cur 24) → w'.heap[b]? = w.heap[b]?) (h2 : ∀ b o q, e.fa = some ⟨b, o, q⟩ → w'.heap[b]? = w.heap[b]?) (hS : ∀ c, S c → w'.heap[c]? = w.heap[c]?) : ReW w' S e := by
  have hp : ∀ b o q, e.a = some ⟨b, o, q⟩ → w'.heap[b]? = w.heap[b]? := fun b o q he => let ⟨cur, hc⟩ := h.tp b o q he; h1 b cur hc
  exact ⟨LsT.hold h.p hp hS, LsI.hold h.f h2, h.tp.hold hp, h.tf.hold h2⟩
theorem ty_ne {w : World} {b g : Nat} {c c' : Array Value} {T T' : TypeId} (h : w.heap[b]? = some (.cells c T)) (h' : w.heap[g]? = some (.cells c' T')) (hT : T ≠ T') : b ≠ g := fun e => by
  subst e
  rw [h] at h'
  simp only [Option.some.injEq, Obj.cells.injEq] at h'
  exact hT h'.2.1
end

/-- append of one row -/
theorem wpList_appR {ops : Array Oper} {rest : List Oper} {o : Oper} {a : Act} {w : World} {Q : Exit → Act → World → Prop} (hgd : o.guard = none) (s y : Operand)
    (ho : o.op = .call { callee := .builtin .append, args := #[s, y], argTypes := #[76, 76] }) {base : Nat} {S : Nat → Prop} {v : Value} {E : List RE} {fb : Nat} {e : RE} (hs : a.eval s = v) (hy : a.eval y = .slice (some ⟨fb, 0, none⟩) 1 1)
    (h : OwnR w base S v E) (hb : base ≤ w.heap.size) (hl : E.length ≤ 1000000) (c0 : w.cell? ⟨fb, 0, none⟩ = some e.pv) (c1 : w.cell? ⟨fb, 1, none⟩ = some e.fv) (he : ReW w S e) (hS : ∀ c, S c → c < base)
    (hK : ∀ v' w', OwnR w' base S v' (E ++ [e]) → w.grownBy w' v.ownBlock → (v'.ownBlock = v.ownBlock ∨ v'.ownBlock = some w.heap.size) → wpList Try.prog ops Q rest (a.put o.dst v') w') :
    wpList Try.prog ops Q (o :: rest) a w := by
  refine wpList_plain hgd fun K hK' => ?_
  obtain ⟨i0, hi0, hi1, hi2, hi3⟩ := info_parts infR
  obtain ⟨v', w', hr, r1, r2, r3, r4⟩ := run_append_own_at (P := Try.prog) w base 76 o.type 89 i0 (.agg #[.slice none 0 0, .slice none 0 0]) 2 48 Try.underlying76 hi0 hi1 hi2 hi3 rfl (by decide)
    v E.length (E.flatMap encR) h.1 ⟨fb, 0, none⟩ 1 1 [e.pv, e.fv] rfl (fun j u hu => by
      match j, hu with
      | 0, hu => cases hu; rw [add_none]; exact c0
      | 1, hu => cases hu; rw [add_none]; exact c1) (fun u hu => by simp at hu; rcases hu with rfl | rfl <;> rfl) (by unfold maxLen; omega) (by omega) hb
  unfold Oper.wp execOp
  simp only [ho, resolve, invoke, builtin, Sem.run_bind, Sem.run_pure, Result.andThen_ok, List.map_toArray, List.map_cons, List.map_nil, hs, hy, hr]
  have hk : ∀ x : RE, ReW w S x → ReW w' S x := fun x hx => by
    have hty : ∀ (b : Nat) (cur : Array Value) (T : TypeId), w.heap[b]? = some (.cells cur T) → T ≠ 89 → w'.heap[b]? = w.heap[b]? := fun b cur T hc hT => r2.block b (lt_of_get' hc) (fun e => by
      obtain ⟨cur', hc'⟩ := h.block e.symm
      exact ty_ne hc hc' hT rfl)
    refine hx.hold (fun b cur hc => hty b cur _ hc (by decide)) (fun b o q e => let ⟨cur, hc⟩ := hx.tf b o q e; hty b cur _ hc (by decide)) (fun c hc => ?_)
    have h1 := hS c hc
    exact r2.block c (by omega) (fun e => by have := (h.lt c e.symm).1; omega)
  refine hK' _ _ (hK v' w' ⟨by rw [List.length_append, List.flatMap_append]; exact r1, fun x hx => ?_⟩ r2 r4)
  rcases List.mem_append.1 hx with hx | hx
  · exact hk x (h.2 x hx)
  · simp at hx; subst hx; exact hk _ he

end Go.Proofs.Ytckgjebcehbkfaa
