/- RewriteNormal: for all bytes, every term and every fuel the law returns true and leaves its arguments as they were. -/
import Derived.Test.YtpfnlbaloaohgaaGreatA5
import Derived.Test.YtpfnlbaloaohgaaGreatF2
namespace Go.Proofs.YtpfnlbaloaohgaaGreat
open Go Go.RowKit Go.ChangeShapes Go.WideShapes Go.ChangeAt Go.Deep
set_option linter.unusedVariables false
set_option linter.unusedSimpArgs false

set_option maxRecDepth 100000 in
theorem rewriteNormal_lifted (os : Os) (started : os.Started) (H : Type) (enc : TypeId × Value → H) :
 ReturnsInHanded {} Tryz.checked os 7 .any (Rows.rewriteNormalSpec.pre6 enc Tryz.prog Tryz.f7 Rows.rewriteNormalRow.domain false) (Rows.rewriteNormalSpec.post enc Tryz.prog Tryz.f7 false true false false) := by
 refine returnsInHanded_of_change (C := Tryz.checked) ownK started (by kernel_rfl) Tryz.func7
  (ChangeSpec.witness6 (enc := enc) (C := Tryz.checked) false ⟨#[], #[.slice none 0 0, .agg #[.int .i64 0, .string ⟨#[]⟩, .int .i64 0, .slice none 0 0], .int .i64 0], []⟩ 8 (by kernel_rfl) (by kernel_rfl) (by kernel_rfl) (by kernel_rfl)) ?_
 intro W base args ds gs before hval0 hW hcnd _
 have hval : ∀ (j : Nat) t v, Tryz.f7.params[j]? = some t → args[j]? = some v → Value.okWide Tryz.prog W .any base t v := hval0
 have hW' := hW
 have hlt := hW.lt
 obtain ⟨p, q, hA0, hV, rfl, hfz, hnd⟩ := hW
 have hA : DataW.TrodAll enc Tryz.prog W 0 (fun _ => true) true Tryz.f7.params.toList args.toList ds p := hA0
 rw [Tryz.params7] at hA hval
 obtain ⟨v0, vs0, d0, ds0, p0, q0, hargs, rfl, rfl, h0, r0⟩ := trodAll_cons hA
 obtain ⟨v1, vs1, d1, ds1, p1, q1, rfl, rfl, rfl, h1, r1⟩ := trodAll_cons r0
 obtain ⟨v2, vs2, d2, ds2, p2, q2, rfl, rfl, rfl, h2, r2⟩ := trodAll_cons r1
 obtain ⟨rfl, rfl, rfl⟩ := trodAll_nil r2
 obtain rfl : args = #[v0, v1, v2] := by cases args; simp_all
 obtain ⟨rfl, rfl⟩ := trodVars_none hV
 obtain ⟨a0, cap0, L0, rfl, hL0⟩ := open_bytes h0 (hval 0 42 v0 rfl rfl)
 obtain ⟨t1, a1, cap1, rfl, hT1⟩ := open_term h1 (hval 1 25 v1 rfl rfl)
 obtain ⟨a2, rfl, rfl, rfl, w2⟩ := open_int Tryz.underlying3 (hval 2 3 v2 rfl rfl) h2
 clear hA0 hval0
 simp only [List.append_nil] at hW' hlt
 refine (law_normal hL0 hT1 (wf_I64 w2)).mono fun e W' ⟨he, hb⟩ => ?_
 subst he
 refine ⟨_, rfl, post_of_below (pa := p0 ++ p1) (pv := []) hW' (fun _ _ _ => trodAll_cons_mk (shut_bool Tryz.underlying4 _) trodAll_mk0) (fun sp hsp => ?_) (fun _ _ => rfl) (by simp) hb (ok_one (by kernel_rfl) rfl (okWide_bool_mk Tryz.underlying4 _))⟩
 have g0 := WideElems.Trod_stays (sp' := sp) laidOut readBs rowBs h0 (fun x hx => hb.same (hlt x (by simp [hx]))) (fun x hx => hsp x (by simp [hx]))
 have g1 := WideElems.Trod_stays (sp' := sp) laidOut readT rowT h1 (fun x hx => hb.same (hlt x (by simp [hx]))) (fun x hx => hsp x (by simp [hx]))
 have := (trodAll_cons_mk g0 (trodAll_cons_mk g1 (trodAll_cons_mk (shut_int (enc := enc) (P := Tryz.prog) (w := W') (base := 0) (spare := sp) (held := true) Tryz.underlying3 w2) trodAll_mk0)))
 simp only [List.append_nil, List.nil_append] at this
 exact this

theorem rewriteNormal_over : Rows.rewriteNormalRow.holds Tryz.pinned (OpenSpec.ofChange Rows.rewriteNormalSpec) :=
 OpenClaim.holds_of_wide 7 Tryz.f7 rfl rfl rfl rfl rfl rfl rfl ⟨rfl, rfl, rfl, rfl, rfl⟩ rfl rfl rfl rfl rfl (by kernel_rfl) Tryz.func7 (by kernel_rfl)
  (of_decide_eq_true (by kernel_rfl)) (by unfold Func.isWrapper; first | (rw [if_pos (by decide +kernel)]; kernel_rfl) | (rw [if_neg (by decide +kernel)]; exact ⟨rfl, rfl⟩))
  (fun os started H enc _ => rewriteNormal_lifted os started H enc)

theorem rewriteNormal_holds : Rows.RewriteNormalSaid := rewriteNormal_over

#print axioms rewriteNormal_holds

end Go.Proofs.YtpfnlbaloaohgaaGreat
