/- RewriteValid: for every list of rules the law returns true and leaves its argument as it was. -/
import Derived.Test.YtpfnlbaloaohgaaA2
import Derived.Test.YtpfnlbaloaohgaaF2
import Derived.SizedLaws
namespace Go.Proofs.Ytpfnlbaloaohgaa
open Go Go.RowKit Go.ChangeShapes Go.WideShapes Go.ChangeAt Go.Deep
set_option linter.unusedVariables false
set_option linter.unusedSimpArgs false

set_option maxRecDepth 100000 in
theorem rewriteValid_lifted (os : Os) (started : os.Started) (H : Type) (enc : TypeId × Value → H) :
    ReturnsInHanded {} Try.checked os 3 .any (Rows.rewriteValidSpec.pre6 enc Try.prog Try.f3 Rows.rewriteValidRow.domain false) (Rows.rewriteValidSpec.post enc Try.prog Try.f3 false true false false) := by
  refine returnsInHanded_of_change_sized (C := Try.checked) ownK started (by kernel_rfl) Try.func3
    (ChangeSpec.witness6 (enc := enc) (C := Try.checked) false ⟨#[], #[.slice none 0 0], []⟩ 8 (by kernel_rfl) (by kernel_rfl) (by kernel_rfl) (by kernel_rfl)) ?_
  intro W base args ds gs before hval0 hW hcnd hsz _
  have hval : ∀ (j : Nat) t v, Try.f3.params[j]? = some t → args[j]? = some v → Value.okWide Try.prog W .any base t v := hval0
  have hW' := hW
  have hlt := hW.lt
  obtain ⟨p, q, hA0, hV, rfl, hfz, hnd⟩ := hW
  have hA : DataW.TrodAll enc Try.prog W 0 (fun _ => true) true Try.f3.params.toList args.toList ds p := hA0
  rw [Try.params3] at hA hval
  obtain ⟨v0, vs0, d0, ds0, p0, q0, hargs, rfl, rfl, h0, r0⟩ := trodAll_cons hA
  obtain ⟨rfl, rfl, rfl⟩ := trodAll_nil r0
  obtain rfl : args = #[v0] := by cases args; simp_all
  obtain ⟨rfl, rfl⟩ := trodVars_none hV
  obtain ⟨a0, cap0, L0, rfl, hL0, hln0⟩ := open_rules h0 (hval 0 22 v0 rfl rfl)
  have hft0 : FitsR (L0.length + 1) := fits_rules hln0 (fun es sp e => sized_slice hsz (j := 0) (t := 22) (by rw [Try.params3]; rfl) (by rw [e]; rfl) Try.underlying22)
  clear hA0 hval0
  simp only [List.append_nil] at hW' hlt
  refine (law_valid hL0 hft0).mono fun e W' ⟨he, hb⟩ => ?_
  subst he
  refine ⟨_, rfl, post_of_below (pa := p0) (pv := []) hW' (fun _ _ _ => trodAll_cons_mk (shut_bool Try.underlying4 _) trodAll_mk0) (fun sp hsp => ?_) (fun _ _ => rfl) (by simp) hb (ok_one (by kernel_rfl) rfl (okWide_bool_mk Try.underlying4 _))⟩
  have g0 := WideElems.Trod_stays (sp' := sp) laidOut readRs rowRs h0 (fun x hx => hb.same (hlt x (by simp [hx]))) (fun x hx => hsp x (by simp [hx]))
  have := (trodAll_cons_mk g0 trodAll_mk0)
  simp only [List.append_nil, List.nil_append] at this
  exact this

theorem rewriteValid_over : Rows.rewriteValidRow.holds Try.pinned (OpenSpec.ofChange Rows.rewriteValidSpec) :=
  OpenClaim.holds_of_wide 3 Try.f3 rfl rfl rfl rfl rfl rfl rfl ⟨rfl, rfl, rfl, rfl, rfl⟩ rfl rfl rfl rfl rfl (by kernel_rfl) Try.func3 (by kernel_rfl)
    (of_decide_eq_true (by kernel_rfl)) (by unfold Func.isWrapper; first | (rw [if_pos (by decide +kernel)]; kernel_rfl) | (rw [if_neg (by decide +kernel)]; exact ⟨rfl, rfl⟩))
    (fun os started H enc _ => rewriteValid_lifted os started H enc)

theorem rewriteValid_holds : Rows.RewriteValidSaid := rewriteValid_over

#print axioms rewriteValid_holds

end Go.Proofs.Ytpfnlbaloaohgaa
