/- Contracts: BinarySearchFunc on ascending terms; the closure of CheckRefute. Contracts: the program's CheckRefute. Contracts: the reference's CheckRefute. -/
import Derived.Test.YtfaienbdebjfcaaGreatG6
import Derived.Test.YtfaienbdebjfcaaGreatG5
import Derived.Test.YtfaienbdebjfcaaGreatG7
import Derived.Test.YtfaienbdebjfcaaGreatG4
namespace Go.Proofs.YtfaienbdebjfcaaGreat
open Go Go.RowKit
set_option linter.unusedVariables false
set_option linter.unusedSimpArgs false

theorem cmp_lt {x y : Tm} : cmpT x y < 0 ↔ ltT x y := Iff.rfl
theorem asc_get {L : List Tm} (h : Asc L) {i j : Nat} {x y : Tm} (hi : L[i]? = some x) (hj : L[j]? = some y) (hij : i < j) : ltT x y := by
 obtain ⟨h1, rfl⟩ := List.getElem?_eq_some_iff.1 hi
 obtain ⟨h2, rfl⟩ := List.getElem?_eq_some_iff.1 hj
 exact List.pairwise_iff_getElem.1 h i j h1 h2 hij

/-- how many summands are in a list -/
def cntS (L R : List Tm) : Nat := (L.filter (fun x => decide (x ∈ R))).length
theorem cntS_take {L R : List Tm} {k : Nat} {x : Tm} (h : L[k]? = some x) : cntS (L.take (k + 1)) R = cntS (L.take k) R + (if x ∈ R then 1 else 0) := by
 unfold cntS
 rw [filter_take h, List.length_append]
 by_cases hx : x ∈ R <;> simp [hx]
theorem cntS_le (L R : List Tm) : cntS L R ≤ L.length := List.length_filter_le _ _
def oddS (t : Tm) (R : List Tm) : Bool := decide (cntS (sumT t) R % 2 = 1)

/-- what CheckRefute answers -/
def crS (L : List Tm) (t : Tm) (R : List Tm) : Bool := decide (rightS L [t] = 0) && decide (R.length ≤ 200) && decide (Asc R) && oddS t R && !(L.any (fun x => oddS x R))
theorem asc_adj {R : List Tm} (h : ∀ (q : Nat) x y, R[q]? = some x → R[q + 1]? = some y → ltT x y) : Asc R := by
 induction R with
 | nil => exact List.Pairwise.nil
 | cons x R ih =>
   have h' : Asc R := ih (fun q a b ha hb => h (q + 1) a b (by simpa using ha) (by simpa using hb))
   refine List.pairwise_cons.2 ⟨fun z hz => ?_, h'⟩
   cases R with
   | nil => simp at hz
   | cons y R =>
     have hxy := h 0 x y rfl rfl
     rcases List.mem_cons.1 hz with rfl | hz
     · exact hxy
     · exact ltT_trans hxy ((List.pairwise_cons.1 h').1 z hz)

end Go.Proofs.YtfaienbdebjfcaaGreat
