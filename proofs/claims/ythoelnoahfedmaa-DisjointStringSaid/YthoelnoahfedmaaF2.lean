/- A claim (two numbers and a list of pairs) among the arguments of a row. -/
import Derived.Test.YthoelnoahfedmaaE0
import Derived.Lib.SmallJoins
import Derived.ChangeMaps5
namespace Go.Proofs.Ythoelnoahfedmaa
open Go Go.RowKit Go.ChangeShapes Go.WideShapes Go.ChangeAt Go.Deep
set_option linter.unusedVariables false
set_option linter.unusedSimpArgs false

theorem read56 : Try.prog.readableRec 56 = true := by kernel_rfl
theorem row56 : (56 : TypeId) < Try.prog.types.size := of_decide_eq_true (by kernel_rfl)
theorem read9 : Try.prog.readableRec 9 = true := by kernel_rfl
theorem row9 : (9 : TypeId) < Try.prog.types.size := of_decide_eq_true (by kernel_rfl)
theorem c56 : Try.prog.cellsOf 56 = 3 := by kernel_rfl

section
variable {H : Type} {enc : TypeId × Value → H} {W : World}
set_option maxRecDepth 100000 in
theorem open_pairs {fuel : Nat} {cs : List Value} {x : DataW H × List MemPlace} (h : DataW.trod enc Try.prog W 0 (fun _ => true) true fuel 48 cs = some x) :
    ∃ a cap L, cs = [.slice a (List.length L) cap] ∧ PairsA W a L ∧ L.length ≤ 9223372036854775807 ∧ ∀ x ∈ L, I64 x.1 ∧ I64 x.2 := by
  rcases open_slice_fields (fs := _) Try.underlying48 Try.underlying53 (by kernel_rfl) (by kernel_rfl) h with ⟨rfl, rfl⟩ | ⟨a, len, cap, m, D, Pl, rfl, -, hlc, hcm, hm, -, hel⟩
  · exact ⟨none, 0, [], rfl, fun k x hk => by simp at hk, by simp, by simp⟩
  · have hm' : m = cap := by rw [hm]; rfl
    subst hm'
    have key : ∀ i, i < len → ∃ f : Int × Int, (∃ b off, some a = some (⟨b, off, none⟩ : Addr) ∧ W.cell? ⟨b, off + i * 2, none⟩ = some (.int .i64 f.1) ∧ W.cell? ⟨b, off + i * 2 + 1, none⟩ = some (.int .i64 f.2)) ∧ I64 f.1 ∧ I64 f.2 := by
      intro i hi
      obtain ⟨ys, n, -, -, -, hf⟩ := hel i (by omega)
      obtain ⟨ys0, n0, -, -, -, hf0⟩ := hel 0 (by omega)
      obtain ⟨v, y, hc, -, -⟩ := hf0 0 _ rfl
      rw [Nat.zero_mul, Nat.zero_add, add_zero] at hc
      have hs := spot_none hc
      obtain ⟨v0, y0, c0, -, t0⟩ := hf 0 _ rfl
      obtain ⟨v1, y1, c1, -, t1⟩ := hf 1 _ rfl
      obtain ⟨n0, e0, -, w0⟩ := DataW.trod_int Try.underlying3 t0
      obtain ⟨n1, e1, -, w1⟩ := DataW.trod_int Try.underlying3 t1
      cases e0; cases e1
      rw [add_plain hs] at c0 c1
      refine ⟨(n0, n1), ⟨a.block, a.off, by obtain ⟨b, o, s⟩ := a; simp only at hs; subst hs; rfl, c0, c1⟩, wf_I64 w0, wf_I64 w1⟩
    obtain ⟨F, hl, hF⟩ := list_choose len key
    unfold maxLen at hcm
    refine ⟨some a, m, F, by rw [hl], fun k x hk => (hF k x hk).1, by omega, fun x hx => ?_⟩
    obtain ⟨k, hk⟩ := List.mem_iff_getElem?.1 hx
    exact (hF k x hk).2
set_option maxRecDepth 100000 in
theorem open_claim {v : Value} {d : DataW H} {p : List MemPlace} {r : Reach} {b0 : Nat} (hv : Value.okWide Try.prog W r b0 56 v) (h : DataW.Trod enc Try.prog W 0 (fun _ => true) true 56 v d p) :
    ∃ i j a cap L, v = .agg #[.int .i64 i, .int .i64 j, .slice a (List.length L) cap] ∧ PairsA W a L ∧ L.length ≤ 9223372036854775807 ∧ ∀ x ∈ L, I64 x.1 ∧ I64 x.2 := by
  obtain ⟨v0, v1, v2, y0, y1, y2, n, rfl, -, -, h0, h1, h2⟩ := Joins.open_agg3 Try.underlying56 (by kernel_rfl) c56 hv h
  obtain ⟨i, e0, -, -⟩ := DataW.trod_int Try.underlying3 h0
  obtain ⟨j, e1, -, -⟩ := DataW.trod_int Try.underlying3 h1
  obtain ⟨a, cap, L, e2, hA, hl, hI⟩ := open_pairs h2
  cases e0; cases e1; cases e2
  exact ⟨i, j, a, cap, L, rfl, hA, hl, hI⟩
end

end Go.Proofs.Ythoelnoahfedmaa
