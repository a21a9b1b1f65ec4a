/- RewriteStable: for all bytes, every term and every draft of a substitution the law returns true and leaves its arguments as they were. -/
import Derived.Test.YtpfnlbaloaohgaaA9
import Derived.Test.YtpfnlbaloaohgaaF3
namespace Go.Proofs.Ytpfnlbaloaohgaa
open Go Go.RowKit Go.ChangeShapes Go.WideShapes Go.ChangeAt Go.Deep
set_option linter.unusedVariables false
set_option linter.unusedSimpArgs false

set_option maxRecDepth 100000 in
theorem rewriteStable_lifted (os : Os) (started : os.Started) (H : Type) (enc : TypeId × Value → H) :
 ReturnsInHanded {} Try.checked os 4 .any (Rows.rewriteStableSpec.pre6 enc Try.prog Try.f4 Rows.rewriteStableRow.domain false) (Rows.rewriteStableSpec.post enc Try.prog Try.f4 false true false false) := by
 refine returnsInHanded_of_change (C := Try.checked) ownK started (by kernel_rfl) Try.func4
  (ChangeSpec.witness6 (enc := enc) (C := Try.checked) false ⟨#[], #[.slice none 0 0, .agg #[.int .i64 0, .string ⟨#[]⟩, .int .i64 0, .slice none 0 0], .agg #[.slice none 0 0, .slice none 0 0, .slice none 0 0, .int .u8 0]], []⟩ 8 (by kernel_rfl) (by kernel_rfl) (by kernel_rfl) (by kernel_rfl)) ?_
 intro W base args ds gs before hval0 hW hcnd _
 have hval : ∀ (j : Nat) t v, Try.f4.params[j]? = some t → args[j]? = some v → Value.okWide Try.prog W .any base t v := hval0
 have hW' := hW
 have hlt := hW.lt
 obtain ⟨p, q, hA0, hV, rfl, hfz, hnd⟩ := hW
 have hA : DataW.TrodAll enc Try.prog W 0 (fun _ => true) true Try.f4.params.toList args.toList ds p := hA0
 rw [Try.params4] at hA hval
 obtain ⟨v0, vs0, d0, ds0, p0, q0, hargs, rfl, rfl, h0, r0⟩ := trodAll_cons hA
 obtain ⟨v1, vs1, d1, ds1, p1, q1, rfl, rfl, rfl, h1, r1⟩ := trodAll_cons r0
 obtain ⟨v2, vs2, d2, ds2, p2, q2, rfl, rfl, rfl, h2, r2⟩ := trodAll_cons r1
 obtain ⟨rfl, rfl, rfl⟩ := trodAll_nil r2
 obtain rfl : args = #[v0, v1, v2] := by cases args; simp_all
 obtain ⟨rfl, rfl⟩ := trodVars_none hV
 obtain ⟨a0, cap0, L0, rfl, hL0⟩ := open_bytes h0 (hval 0 28 v0 rfl rfl)
 obtain ⟨t1, a1, cap1, rfl, hT1⟩ := open_term h1 (hval 1 31 v1 rfl rfl)
 obtain ⟨X2, Y2, Z2, n2, xa2, xc2, ya2, yc2, za2, zc2, rfl, hn2, hX2, hY2, hZ2⟩ := open_draft h2 (hval 2 33 v2 rfl rfl)
 clear hA0 hval0
 simp only [List.append_nil] at hW' hlt
 refine (law_stable hL0 hT1 hn2 hX2 hY2 hZ2).mono fun e W' ⟨he, hb⟩ => ?_
 subst he
 refine ⟨_, rfl, post_of_below (pa := p0 ++ (p1 ++ p2)) (pv := []) hW' (fun _ _ _ => trodAll_cons_mk (shut_bool Try.underlying4 _) trodAll_mk0) (fun sp hsp => ?_) (fun _ _ => rfl) (by simp) hb (ok_one (by kernel_rfl) rfl (okWide_bool_mk Try.underlying4 _))⟩
 have g0 := WideElems.Trod_stays (sp' := sp) laidOut readBs rowBs h0 (fun x hx => hb.same (hlt x (by simp [hx]))) (fun x hx => hsp x (by simp [hx]))
 have g1 := WideElems.Trod_stays (sp' := sp) laidOut readT rowT h1 (fun x hx => hb.same (hlt x (by simp [hx]))) (fun x hx => hsp x (by simp [hx]))
 have g2 := WideElems.Trod_stays (sp' := sp) laidOut readD rowD h2 (fun x hx => hb.same (hlt x (by simp [hx]))) (fun x hx => hsp x (by simp [hx]))
 have := (trodAll_cons_mk g0 (trodAll_cons_mk g1 (trodAll_cons_mk g2 trodAll_mk0)))
 simp only [List.append_nil, List.nil_append] at this
 exact this

theorem rewriteStable_over : Rows.rewriteStableRow.holds Try.pinned (OpenSpec.ofChange Rows.rewriteStableSpec) :=
 OpenClaim.holds_of_wide 4 Try.f4 rfl rfl rfl rfl rfl rfl rfl ⟨rfl, rfl, rfl, rfl, rfl⟩ rfl rfl rfl rfl rfl (by kernel_rfl) Try.func4 (by kernel_rfl)
  (of_decide_eq_true (by kernel_rfl)) (by unfold Func.isWrapper; first | (rw [if_pos (by decide +kernel)]; kernel_rfl) | (rw [if_neg (by decide +kernel)]; exact ⟨rfl, rfl⟩))
  (fun os started H enc _ => rewriteStable_lifted os started H enc)

theorem rewriteStable_holds : Rows.RewriteStableSaid := rewriteStable_over

#print axioms rewriteStable_holds

end Go.Proofs.Ytpfnlbaloaohgaa
