/- OrderNumbers: for all lists of numbers the law returns true and leaves its arguments as they were. -/
import Derived.Test.YtkobikdkbpdjeaaDoorDD
import Derived.Test.YtkobikdkbpdjeaaDoorF5
import Derived.SizedLaws
import Derived.Handed
import Derived.LaidLaws
import Derived.SevenTiedAt
import Derived.Test.YtkobikdkbpdjeaaDoorCards
import Derived.Test.YtkobikdkbpdjeaaDoorTie
namespace Go.Proofs.YtkobikdkbpdjeaaDoor
open Go Go.RowKit Go.ChangeShapes Go.WideShapes Go.ChangeAt Go.Deep
set_option linter.unusedVariables false
set_option linter.unusedSimpArgs false

set_option maxRecDepth 100000 in
theorem orderNumbers_lifted (os : Os) (started : os.Started) (H : Type) (enc : TypeId × Value → H) :
 ReturnsInHanded {} Tryd.checked os 4 .any (fun w args => (Rows.orderNumbersSpec.pre enc Tryd.prog Tryd.f4 [] false w args ∧ laidMetH Tryd.prog laid4 w) ∧ sizedMet enc Tryd.prog Tryd.f4 (OpenSpec.ofChange Rows.orderNumbersSpec) false w args) (Rows.orderNumbersSpec.post enc Tryd.prog Tryd.f4 false true false false) := by
 refine returnsInHanded_of_change_and (C := Tryd.checked) (X := fun w _ => laidMetH Tryd.prog laid4 w) (fun _ _ _ hh h => h.of_heap hh) ownK started (by kernel_rfl) Tryd.func4
  (ChangeSpec.witness_shaped (enc := enc) (C := Tryd.checked) (os := os) (X := fun w _ => laidMetH Tryd.prog laid4 w) false (World.doorLaid Tryd.prog 4000 os) #[.slice none 0 0, .slice none 0 0, .slice none 0 0] 8 rfl (World.shaped_of_RefB (by kernel_rfl) (by kernel_rfl)) (by kernel_rfl) (by kernel_rfl) (by kernel_rfl) (door_met os _)) ?_
 intro W base args ds gs before hval0 hW hcnd hsz hLaid _
 have hWd := laid_words hLaid
 have hval : ∀ (j : Nat) t v, Tryd.f4.params[j]? = some t → args[j]? = some v → Value.okWide Tryd.prog W .any base t v := hval0
 have hW' := hW
 have hlt := hW.lt
 obtain ⟨p, q, hA0, hV, rfl, hfz, hnd⟩ := hW
 have hA : DataW.TrodAll enc Tryd.prog W 0 (fun _ => true) true Tryd.f4.params.toList args.toList ds p := hA0
 rw [Tryd.params4] at hA hval
 obtain ⟨v0, vs0, d0, ds0, p0, q0, hargs, rfl, rfl, h0, r0⟩ := trodAll_cons hA
 obtain ⟨v1, vs1, d1, ds1, p1, q1, rfl, rfl, rfl, h1, r1⟩ := trodAll_cons r0
 obtain ⟨v2, vs2, d2, ds2, p2, q2, rfl, rfl, rfl, h2, r2⟩ := trodAll_cons r1
 obtain ⟨rfl, rfl, rfl⟩ := trodAll_nil r2
 obtain rfl : args = #[v0, v1, v2] := by cases args; simp_all
 obtain ⟨rfl, rfl⟩ := trodVars_none hV
 obtain ⟨a0, cap0, C0, rfl, hN0⟩ := open_ints h0 (hval 0 23 v0 rfl rfl)
 obtain ⟨a1, cap1, C1, rfl, hN1⟩ := open_ints h1 (hval 1 23 v1 rfl rfl)
 obtain ⟨a2, cap2, C2, rfl, hN2⟩ := open_ints h2 (hval 2 23 v2 rfl rfl)
 clear hA0 hval0
 simp only [List.append_nil] at hW' hlt
 refine (law_numbers hWd hN0 hN1 hN2).mono fun e W' ⟨he, hb⟩ => ?_
 subst he
 refine ⟨_, rfl, post_of_below (pa := p0 ++ (p1 ++ p2)) (pv := []) hW' (fun _ _ _ => trodAll_cons_mk (shut_bool Tryd.underlying4 _) trodAll_mk0) (fun sp hsp => ?_) (fun _ _ => rfl) (by simp) hb (ok_one (by kernel_rfl) rfl (okWide_bool_mk Tryd.underlying4 _))⟩
 have g0 := WideElems.Trod_stays (sp' := sp) laidOut readIs rowIs h0 (fun x hx => hb.same (hlt x (by simp [hx]))) (fun x hx => hsp x (by simp [hx]))
 have g1 := WideElems.Trod_stays (sp' := sp) laidOut readIs rowIs h1 (fun x hx => hb.same (hlt x (by simp [hx]))) (fun x hx => hsp x (by simp [hx]))
 have g2 := WideElems.Trod_stays (sp' := sp) laidOut readIs rowIs h2 (fun x hx => hb.same (hlt x (by simp [hx]))) (fun x hx => hsp x (by simp [hx]))
 have := (trodAll_cons_mk g0 (trodAll_cons_mk g1 (trodAll_cons_mk g2 trodAll_mk0)))
 simp only [List.append_nil, List.nil_append] at this
 exact this

theorem orderNumbers_over : Rows.OrderNumbersSaid :=
 OpenClaim.holds_of_wide 4 Tryd.f4 rfl rfl rfl rfl rfl rfl rfl ⟨rfl, rfl, rfl, rfl, rfl⟩ rfl rfl rfl rfl rfl (by kernel_rfl) Tryd.func4 (by kernel_rfl)
  (of_decide_eq_true (by kernel_rfl)) (by unfold Func.isWrapper; first | (rw [if_pos (by decide +kernel)]; kernel_rfl) | (rw [if_neg (by decide +kernel)]; exact ⟨rfl, rfl⟩))
  (fun os started H enc _ => orderNumbers_lifted os started H enc)

set_option maxRecDepth 100000 in
theorem orderNumbers_holds : Rows.OrderNumbersCardSaid :=
 Claim7.holds_tied_plain_at .later [] [.data, .data, .data, .widerDeep] true (true, "c73671ab6dff83df5f108c61861ef730f12d89bfa58c6695907f5422c66729ae") false
  orderNumbers_over (fun _ h => by cases h) (by kernel_rfl) (fun _ h => by cases h) orderNumbers_row_tie rfl ⟨rfl, rfl⟩ (by kernel_rfl) rfl
  (fun f fn hf hfn => by
    obtain rfl : f = 4 := Option.some.inj ((show Tryd.prog.funcNamed "sealring/sealringlaw04.OrderNumbers" = some 4 by kernel_rfl).symm.trans hf) |>.symm
    obtain rfl : fn = Tryd.f4 := (Option.some.inj (Tryd.func4.symm.trans hfn)).symm
    exact ⟨by kernel_rfl, fun j t ht => by
     rw [Tryd.params4] at ht
     have hm : t ∈ [23, 23, 23] := by simpa using Array.mem_of_getElem? ht
     have hall : ([23, 23, 23].all fun u => !Tryd.prog.wantsStandIn u) = true := by kernel_rfl
     exact (show Tryd.prog.wantsStandIn t = false by simpa using List.all_eq_true.1 hall t hm)⟩)
  (by kernel_rfl)

#print axioms orderNumbers_holds

end Go.Proofs.YtkobikdkbpdjeaaDoor
