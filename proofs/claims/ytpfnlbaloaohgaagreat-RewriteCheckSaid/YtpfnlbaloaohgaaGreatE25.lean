/- RewriteCheck: for all bytes, every term and all choices the law returns true and leaves its arguments as they were. -/
import Derived.Test.YtpfnlbaloaohgaaGreatA6
import Derived.Test.YtpfnlbaloaohgaaGreatF2
namespace Go.Proofs.YtpfnlbaloaohgaaGreat
open Go Go.RowKit Go.ChangeShapes Go.WideShapes Go.ChangeAt Go.Deep
set_option linter.unusedVariables false
set_option linter.unusedSimpArgs false

set_option maxRecDepth 100000 in
theorem rewriteCheck_lifted (os : Os) (started : os.Started) (H : Type) (enc : TypeId × Value → H) :
 ReturnsInHanded {} Tryz.checked os 5 .any (Rows.rewriteCheckSpec.pre6 enc Tryz.prog Tryz.f5 Rows.rewriteCheckRow.domain false) (Rows.rewriteCheckSpec.post enc Tryz.prog Tryz.f5 false true false false) := by
 refine returnsInHanded_of_change (C := Tryz.checked) ownK started (by kernel_rfl) Tryz.func5
  (ChangeSpec.witness6 (enc := enc) (C := Tryz.checked) false ⟨#[], #[.slice none 0 0, .agg #[.int .i64 0, .string ⟨#[]⟩, .int .i64 0, .slice none 0 0], .slice none 0 0], []⟩ 8 (by kernel_rfl) (by kernel_rfl) (by kernel_rfl) (by kernel_rfl)) ?_
 intro W base args ds gs before hval0 hW hcnd _
 have hval : ∀ (j : Nat) t v, Tryz.f5.params[j]? = some t → args[j]? = some v → Value.okWide Tryz.prog W .any base t v := hval0
 have hW' := hW
 have hlt := hW.lt
 obtain ⟨p, q, hA0, hV, rfl, hfz, hnd⟩ := hW
 have hA : DataW.TrodAll enc Tryz.prog W 0 (fun _ => true) true Tryz.f5.params.toList args.toList ds p := hA0
 rw [Tryz.params5] at hA hval
 obtain ⟨v0, vs0, d0, ds0, p0, q0, hargs, rfl, rfl, h0, r0⟩ := trodAll_cons hA
 obtain ⟨v1, vs1, d1, ds1, p1, q1, rfl, rfl, rfl, h1, r1⟩ := trodAll_cons r0
 obtain ⟨v2, vs2, d2, ds2, p2, q2, rfl, rfl, rfl, h2, r2⟩ := trodAll_cons r1
 obtain ⟨rfl, rfl, rfl⟩ := trodAll_nil r2
 obtain rfl : args = #[v0, v1, v2] := by cases args; simp_all
 obtain ⟨rfl, rfl⟩ := trodVars_none hV
 obtain ⟨a0, cap0, L0, rfl, hL0⟩ := open_bytes h0 (hval 0 42 v0 rfl rfl)
 obtain ⟨t1, a1, cap1, rfl, hT1⟩ := open_term h1 (hval 1 25 v1 rfl rfl)
 obtain ⟨a2, cap2, L2, rfl, hL2⟩ := open_bytes h2 (hval 2 42 v2 rfl rfl)
 clear hA0 hval0
 simp only [List.append_nil] at hW' hlt
 refine (law_trace hL0 hT1 hL2).mono fun e W' ⟨he, hb⟩ => ?_
 subst he
 refine ⟨_, rfl, post_of_below (pa := p0 ++ (p1 ++ p2)) (pv := []) hW' (fun _ _ _ => trodAll_cons_mk (shut_bool Tryz.underlying4 _) trodAll_mk0) (fun sp hsp => ?_) (fun _ _ => rfl) (by simp) hb (ok_one (by kernel_rfl) rfl (okWide_bool_mk Tryz.underlying4 _))⟩
 have g0 := WideElems.Trod_stays (sp' := sp) laidOut readBs rowBs h0 (fun x hx => hb.same (hlt x (by simp [hx]))) (fun x hx => hsp x (by simp [hx]))
 have g1 := WideElems.Trod_stays (sp' := sp) laidOut readT rowT h1 (fun x hx => hb.same (hlt x (by simp [hx]))) (fun x hx => hsp x (by simp [hx]))
 have g2 := WideElems.Trod_stays (sp' := sp) laidOut readBs rowBs h2 (fun x hx => hb.same (hlt x (by simp [hx]))) (fun x hx => hsp x (by simp [hx]))
 have := (trodAll_cons_mk g0 (trodAll_cons_mk g1 (trodAll_cons_mk g2 trodAll_mk0)))
 simp only [List.append_nil, List.nil_append] at this
 exact this

theorem rewriteCheck_over : Rows.rewriteCheckRow.holds Tryz.pinned (OpenSpec.ofChange Rows.rewriteCheckSpec) :=
 OpenClaim.holds_of_wide 5 Tryz.f5 rfl rfl rfl rfl rfl rfl rfl ⟨rfl, rfl, rfl, rfl, rfl⟩ rfl rfl rfl rfl rfl (by kernel_rfl) Tryz.func5 (by kernel_rfl)
  (of_decide_eq_true (by kernel_rfl)) (by unfold Func.isWrapper; first | (rw [if_pos (by decide +kernel)]; kernel_rfl) | (rw [if_neg (by decide +kernel)]; exact ⟨rfl, rfl⟩))
  (fun os started H enc _ => rewriteCheck_lifted os started H enc)

theorem rewriteCheck_holds : Rows.RewriteCheckSaid := rewriteCheck_over

#print axioms rewriteCheck_holds

end Go.Proofs.YtpfnlbaloaohgaaGreat
