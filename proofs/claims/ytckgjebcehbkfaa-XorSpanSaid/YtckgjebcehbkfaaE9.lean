/- XorSpan: for every list and term the law returns true and leaves its arguments as they were -/
import Derived.Test.YtckgjebcehbkfaaF1
import Derived.Test.YtckgjebcehbkfaaL9
import Derived.SizedLaws
namespace Go.Proofs.Ytckgjebcehbkfaa
open Go Go.RowKit Go.ChangeShapes Go.WideShapes Go.ChangeAt Go.Deep
set_option linter.unusedVariables false
set_option linter.unusedSimpArgs false

set_option maxRecDepth 100000 in
theorem xorSpan_lifted (os : Os) (started : os.Started) (H : Type) (enc : TypeId × Value → H) :
    ReturnsInHanded {} Try.checked os 9 .any (Rows.xorSpanSpec.pre6 enc Try.prog Try.f9 Rows.xorSpanRow.domain false) (Rows.xorSpanSpec.post enc Try.prog Try.f9 false true false false) := by
  refine returnsInHanded_of_change_sized (C := Try.checked) ownK started (by kernel_rfl) Try.func9
    (ChangeSpec.witness6 (enc := enc) (C := Try.checked) false ⟨#[], #[.slice none 0 0, .agg #[.int .i64 0, .string ⟨#[]⟩, .int .i64 0, .slice none 0 0]], []⟩ 8 (by kernel_rfl) (by kernel_rfl) (by kernel_rfl) (by kernel_rfl)) ?_
  intro W base args ds gs before hval0 hW hcnd hsz _
  have hval : ∀ (j : Nat) t v, Try.f9.params[j]? = some t → args[j]? = some v → Value.okWide Try.prog W .any base t v := hval0
  have hW' := hW
  have hlt := hW.lt
  obtain ⟨p, q, hA0, hV, rfl, hfz, hnd⟩ := hW
  have hA : DataW.TrodAll enc Try.prog W 0 (fun _ => true) true Try.f9.params.toList args.toList ds p := hA0
  rw [Try.params9] at hA hval
  obtain ⟨v0, vs0, d0, ds0, p0, q0, hargs, rfl, rfl, h0, r0⟩ := trodAll_cons hA
  obtain ⟨v1, vs1, d1, ds1, p1, q1, rfl, rfl, rfl, h1, r1⟩ := trodAll_cons r0
  obtain ⟨rfl, rfl, rfl⟩ := trodAll_nil r1
  obtain rfl : args = #[v0, v1] := by cases args; simp_all
  obtain ⟨rfl, rfl⟩ := trodVars_none hV
  obtain ⟨a0, cap0, L0, rfl, hL0, hln0⟩ := open_list_len h0 (hval 0 22 v0 rfl rfl)
  have hft0 : Fits (L0.length + 1) := fits_of hln0 (fun es sp e => sized_slice hsz (j := 0) (t := 22) (by rw [Try.params9]; rfl) (by rw [e]; rfl) Try.underlying22)
  obtain ⟨t1, a1, cap1, rfl, hT1⟩ := open_term h1 (hval 1 24 v1 rfl rfl)
  clear hA0 hval0
  simp only [List.append_nil] at hW' hlt
  refine (law_span hL0 hT1 hft0).mono fun e W' ⟨he, hb⟩ => ?_
  subst he
  refine ⟨_, rfl, post_of_below (pa := p0 ++ p1) (pv := []) hW' (fun _ _ _ => trodAll_cons_mk (shut_bool Try.underlying4 _) trodAll_mk0) (fun sp hsp => ?_) (fun _ _ => rfl) (by simp) hb (ok_one (by kernel_rfl) rfl (okWide_bool_mk Try.underlying4 _))⟩
  have g0 := WideElems.Trod_stays (sp' := sp) laidOut readTs rowTs h0 (fun x hx => hb.same (hlt x (by simp [hx]))) (fun x hx => hsp x (by simp [hx]))
  have g1 := WideElems.Trod_stays (sp' := sp) laidOut readT rowT h1 (fun x hx => hb.same (hlt x (by simp [hx]))) (fun x hx => hsp x (by simp [hx]))
  have := (trodAll_cons_mk g0 (trodAll_cons_mk g1 trodAll_mk0))
  simp only [List.append_nil, List.nil_append] at this
  exact this

theorem xorSpan_over : Rows.xorSpanRow.holds Try.pinned (OpenSpec.ofChange Rows.xorSpanSpec) :=
  OpenClaim.holds_of_wide 9 Try.f9 rfl rfl rfl rfl rfl rfl rfl ⟨rfl, rfl, rfl, rfl, rfl⟩ rfl rfl rfl rfl rfl (by kernel_rfl) Try.func9 (by kernel_rfl)
    (of_decide_eq_true (by kernel_rfl)) (by unfold Func.isWrapper; first | (rw [if_pos (by decide +kernel)]; kernel_rfl) | (rw [if_neg (by decide +kernel)]; exact ⟨rfl, rfl⟩))
    (fun os started H enc _ => xorSpan_lifted os started H enc)

theorem xorSpan_holds : Rows.XorSpanSaid := xorSpan_over

#print axioms xorSpan_holds

end Go.Proofs.Ytckgjebcehbkfaa
