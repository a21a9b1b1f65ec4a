/- The walk of the law RewriteValid. -/
import Derived.Test.YtpfnlbaloaohgaaA1
import Derived.Test.YtpfnlbaloaohgaaN37
import Derived.Test.YtpfnlbaloaohgaaH9
namespace Go.Proofs.Ytpfnlbaloaohgaa
open Go Go.RowKit
set_option linter.unusedVariables false
set_option linter.unusedSimpArgs false

/-- how many rules a row of arguments can hold -/
abbrev FitsR (n : Nat) : Prop := n * 112 ≤ 140737488355328
theorem small_few {R : List (Tm × Tm)} {n m : Int} (hm : m ≤ 1000) (h : fewT (sidesR R) n m = true) : smallR R := by
  have h1 := (few_size h).2
  intro r hr
  obtain ⟨i, hi⟩ := List.mem_iff_getElem?.1 hr
  have key : ∀ (l : List (Tm × Tm)), r ∈ l → sizeT r.1 + sizeT r.2 ≤ sizeL (sidesR l) := by
    intro l
    induction l with
    | nil => intro h; simp at h
    | cons q l ih =>
      intro h
      have e : sidesR (q :: l) = q.1 :: q.2 :: sidesR l := rfl
      rw [e, sizeL, sizeL]
      rcases List.mem_cons.1 h with rfl | h
      · omega
      · have := ih h; omega
  have := key R hr
  omega

set_option maxRecDepth 100000 in
set_option maxHeartbeats 4000000 in
theorem law_valid {w : World} {S : Nat → Prop} {a : Option Addr} {cap : Nat} {R : List (Tm × Tm)} (hL : LsG elP w S (.slice a R.length cap) R) (hz : FitsR (R.length + 1)) :
    Calls Try.prog 3 #[.slice a R.length cap] w fun e w' => e = .returned (.bool true) ∧ Ext w w' := by
  obtain ⟨-, hll, hlc⟩ := hL.len
  unfold maxLen at hlc
  have HL := Lib.hid hL
  have HZ := Lib.hid hz
  have HCA := Lib.hid (fun w' => awake5 (w := w'))
  obtain ⟨o, ho⟩ : ∃ o, o = fewT (sidesR R) (2 * 45) 300 := ⟨_, rfl⟩
  have HCF := Lib.hid (fun w' (hE : Ext w w') => by
    have h := RFewR_any (w := w') (n := 45) (m := 300) (by omega) (by omega) (by omega) (by omega) hz (hL.ext hE)
    rw [← ho] at h
    exact h)
  have HO := Lib.hid ho
  clear hL hz ho
  go_enter Try.func3, Try.ntmps3
  go_wp2_with fail
  refine (HCA.out _).mono ?_
  rintro e w1 ⟨rfl, hE1⟩
  have HE1 := Lib.hid hE1
  clear hE1
  go_wp2_with fail
  refine (HCF.out _ HE1.out).mono ?_
  rintro e w2 ⟨rfl, hE2⟩
  have HE2 := Lib.hid (HE1.out.trans hE2)
  clear hE2
  cases o with
  | false =>
    go_wp2_with fail
    refine (HCA.out _).mono ?_
    rintro e w3 ⟨rfl, hE3⟩
    have HE3 := Lib.hid (HE2.out.trans hE3)
    clear hE3
    go_wp2_with fail
    go_ret
    exact ⟨rfl, HE3.out⟩
  | true =>
    have HS : Hid (smallR R) := Lib.hid (small_few (by omega) HO.out.symm)
    have HC1 := Lib.hid (PRules_any HS.out (HL.out.ext HE2.out))
    have HC2 := Lib.hid (fun w' (hE : Ext w w') => RRules_any HS.out (HL.out.ext hE))
    obtain ⟨z, hz⟩ : ∃ z, z = rulesE R := ⟨_, rfl⟩
    rw [← hz] at HC1 HC2
    clear hz
    go_wp2_with fail
    refine HC1.out.mono ?_
    rintro e w3 ⟨rfl, hE3⟩
    have HE3 := Lib.hid (HE2.out.trans hE3)
    clear hE3
    go_wp2_with fail
    refine (HC2.out _ HE3.out).mono ?_
    rintro e w4 ⟨rfl, hE4⟩
    have HE4 := Lib.hid (HE3.out.trans hE4)
    clear hE4
    go_wp2_with fail
    go_ret
    exact ⟨rb (by simp), HE4.out⟩

end Go.Proofs.Ytpfnlbaloaohgaa
