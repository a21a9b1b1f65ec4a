/- DisjointString: for every table, claim and string the law returns true and leaves its arguments as they were. -/
import Derived.Test.YthoelnoahfedmaaF2
import Derived.Test.YthoelnoahfedmaaS27
namespace Go.Proofs.Ythoelnoahfedmaa
open Go Go.RowKit Go.ChangeShapes Go.WideShapes Go.ChangeAt Go.Deep
set_option linter.unusedVariables false
set_option linter.unusedSimpArgs false

set_option maxRecDepth 100000 in
theorem disjointString_lifted (os : Os) (started : os.Started) (H : Type) (enc : TypeId × Value → H) :
    ReturnsInHanded {} Try.checked os 9 .any (Rows.disjointStringSpec.pre6 enc Try.prog Try.f9 Rows.disjointStringRow.domain false) (Rows.disjointStringSpec.post enc Try.prog Try.f9 false true false false) := by
  refine returnsInHanded_of_change (C := Try.checked) own started (by kernel_rfl) Try.func9
    (ChangeSpec.witness6 (enc := enc) (C := Try.checked) false ⟨#[], #[.slice none 0 0, .agg #[.int .i64 0, .int .i64 0, .slice none 0 0], .string ⟨#[]⟩], []⟩ 8 (by kernel_rfl) (by kernel_rfl) (by kernel_rfl) (by kernel_rfl)) ?_
  intro W base args ds gs before hval0 hW hcnd _
  have hval : ∀ (j : Nat) t v, Try.f9.params[j]? = some t → args[j]? = some v → Value.okWide Try.prog W .any base t v := hval0
  have hW' := hW
  have hlt := hW.lt
  obtain ⟨p, q, hA0, hV, rfl, hfz, hnd⟩ := hW
  have hA : DataW.TrodAll enc Try.prog W 0 (fun _ => true) true Try.f9.params.toList args.toList ds p := hA0
  rw [Try.params9] at hA hval
  obtain ⟨v0, vs0, d0, ds0, p0, q0, hargs, rfl, rfl, h0, r0⟩ := trodAll_cons hA
  obtain ⟨v1, vs1, d1, ds1, p1, q1, rfl, rfl, rfl, h1, r1⟩ := trodAll_cons r0
  obtain ⟨v2, vs2, d2, ds2, p2, q2, rfl, rfl, rfl, h2, r2⟩ := trodAll_cons r1
  obtain ⟨rfl, rfl, rfl⟩ := trodAll_nil r2
  obtain rfl : args = #[v0, v1, v2] := by cases args; simp_all
  obtain ⟨rfl, rfl⟩ := trodVars_none hV
  obtain ⟨a, cap, t, rfl, hT0, hc01, hc02⟩ := open_tab (hval 0 22 v0 rfl rfl) h0
  obtain ⟨ci1, cj1, ca1, ccap1, cL1, rfl, hA1, hl1, hI1⟩ := open_claim (hval 1 56 v1 rfl rfl) h1
  obtain ⟨s2, rfl, rfl, rfl, hs2⟩ := ChangeMaps.open_string Try.underlying9 (hval 2 9 v2 rfl rfl) h2
  clear hA0 hval0
  simp only [List.append_nil] at hW' hlt
  refine (law_string hT0 hc01 hc02 hA1 hl1 hI1 hs2).mono fun e W' ⟨he, hb⟩ => ?_
  subst he
  refine ⟨_, rfl, post_of_below (pa := p0 ++ p1) (pv := []) hW' (fun _ _ _ => trodAll_cons_mk (shut_bool Try.underlying4 _) trodAll_mk0) (fun sp hsp => ?_) (fun _ _ => rfl) (by simp) hb (ok_one (by kernel_rfl) rfl (okWide_bool_mk Try.underlying4 _))⟩
  have g0 := WideElems.Trod_stays (sp' := sp) laidOut read22 row22 h0 (fun x hx => hb.same (hlt x (by simp [hx]))) (fun x hx => hsp x (by simp [hx]))
  have g1 := WideElems.Trod_stays (sp' := sp) laidOut read56 row56 h1 (fun x hx => hb.same (hlt x (by simp [hx]))) (fun x hx => hsp x (by simp [hx]))
  have g2 := WideElems.Trod_stays (W' := W') (sp' := sp) laidOut read9 row9 h2 (fun x hx => by cases hx) (fun x hx => by cases hx)
  have := (trodAll_cons_mk g0 (trodAll_cons_mk g1 (trodAll_cons_mk g2 trodAll_mk0)))
  simp only [List.append_nil, List.nil_append] at this
  exact this

theorem disjointString_over : Rows.disjointStringRow.holds Try.pinned (OpenSpec.ofChange Rows.disjointStringSpec) :=
  OpenClaim.holds_of_wide 9 Try.f9 rfl rfl rfl rfl rfl rfl rfl ⟨rfl, rfl, rfl, rfl, rfl⟩ rfl rfl rfl rfl rfl (by kernel_rfl) Try.func9 (by kernel_rfl)
    (of_decide_eq_true (by kernel_rfl)) (by unfold Func.isWrapper; first | (rw [if_pos (by decide +kernel)]; kernel_rfl) | (rw [if_neg (by decide +kernel)]; exact ⟨rfl, rfl⟩))
    (fun os started H enc _ => disjointString_lifted os started H enc)

theorem disjointString_holds : Rows.DisjointStringSaid := disjointString_over

#print axioms disjointString_holds

end Go.Proofs.Ythoelnoahfedmaa
