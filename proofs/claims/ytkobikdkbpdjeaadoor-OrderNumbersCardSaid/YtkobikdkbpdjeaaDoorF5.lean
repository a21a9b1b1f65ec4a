/- What the listed package-level variables give: the words of the sorts; a world that fits. -/
import Derived.Test.YtkobikdkbpdjeaaDoorF4
import Derived.LaidMore
import Derived.Stop.Joined
import Derived.MakeChecks
import Derived.LaidLaws
namespace Go.Proofs.YtkobikdkbpdjeaaDoor
open Go Go.RowKit Go.ChangeShapes Go.WideShapes Go.ChangeAt Go.Deep
set_option linter.unusedVariables false
set_option linter.unusedSimpArgs false
set_option maxRecDepth 100000

def laid4 : List (String × DataW Unit) := [("math/bits.deBruijn32tab", Rows.laid_math_bits_deBruijn32tab), ("math/bits.deBruijn64tab", Rows.laid_math_bits_deBruijn64tab), ("internal/strconv.uint64pow10", Rows.laid_internal_strconv_uint64pow10), ("sealring/term.words", Rows.laid_sealring_term_words)]
theorem gWords : Tryd.prog.globalNamed "sealring/term.words" = some 0 := by kernel_rfl
theorem tWords : (Tryd.prog.globals[0]?).map (·.type) = some 22 := by kernel_rfl

/-- the door's own heap meets the condition -/
theorem door_met (os : Os) (args : Array Value) : laidMetH Tryd.prog laid4 ((World.doorLaid Tryd.prog 4000 os).forCall (fun _ _ => 0) ⟨#[], args, []⟩).memory :=
 laidMetH_of_parts3 (fuel := 8) (laidMet_of_run' 8 (by kernel_rfl) (by kernel_rfl)) (by kernel_rfl) (by kernel_rfl)

theorem laid_words {W : World} (h : laidMetH Tryd.prog laid4 W) : Words W := by
 rw [MakeChecks.laidMetH_plain _ _ _ (by kernel_rfl)] at h
 obtain ⟨ps, ⟨g0, t0, cs0, f0, p0, q0, hg0, ht0, hv0, hd0, ⟨g1, t1, cs1, f1, p1, q1, hg1, ht1, hv1, hd1, ⟨g2, t2, cs2, f2, p2, q2, hg2, ht2, hv2, hd2, ⟨g3, t3, cs3, f3, p3, q3, hg3, ht3, hv3, hd3, _, _⟩, _⟩, _⟩, _⟩, _, _⟩ := h
 clear hd0 hd1 hd2 ht0 ht1 ht2 hv0 hv1 hv2 hg0 hg1 hg2
 obtain rfl := Option.some.inj (gWords.symm.trans hg3)
 obtain rfl := Option.some.inj (tWords.symm.trans ht3)
 rcases DataW.trod_slice Tryd.underlying22 hd3 with ⟨-, hx⟩ | ⟨a, len, cap, elems, rest, n, hn, hcs, hx, -, -, -, hlen, hel, -, -⟩
 · simp [Rows.laid_sealring_term_words] at hx
 · have hcell := World.var?_cell hg3 hv3 0
   rw [Array.eq_one_of_toList hcs] at hcell
   simp only [Rows.laid_sealring_term_words, Prod.mk.injEq, DataW.slice.injEq] at hx
   have hl6 : len = 6 := by
    have := congrArg List.length hx.1.1
    simp at this
    omega
   subst hl6
   rw [show Tryd.prog.cellsOf 9 = 1 from by kernel_rfl] at hel
   have h1 := hel 0 (by omega)
   rw [List.getElem?_eq_getElem (show 0 < elems.length by omega)] at h1
   obtain ⟨cs', hcc, ht⟩ := Option.bind_eq_some_iff.1 h1
   obtain ⟨-, hl, hat⟩ := World.cells?_some hcc
   obtain ⟨m, e, e2, w⟩ := DataW.trod_string Tryd.underlying9 ht
   subst e
   have hc := hat 0 (by simp)
   rw [Nat.zero_mul, add_zero, add_zero] at hc
   have hs := spot_none (hc.trans (List.getElem?_eq_getElem (by simp)))
   have hm : m.data.toList = [97, 110, 121] := by
    have h2 := congrArg (·[0]?) hx.1.1
    simp only [List.getElem?_map, List.getElem?_eq_getElem (show 0 < elems.length by omega), e2] at h2
    simp at h2
    exact h2.symm
   have hmm : m = ⟨#[97, 110, 121]⟩ := by
    obtain ⟨⟨l⟩⟩ := m
    simp at hm
    subst hm
    rfl
   subst hmm
   obtain ⟨b, o, sp⟩ := a
   simp only at hs
   subst hs
   refine ⟨b, o, cap, ?_, hc⟩
   simpa using hcell
theorem wf_u8 {n : Int} (h : (Lit.int .u8 n).wf = true) : 0 ≤ n ∧ n < 256 := by
 simp [Lit.wf, IntKind.min, IntKind.max, IntKind.signed, IntKind.bits] at h
 omega
end Go.Proofs.YtkobikdkbpdjeaaDoor
