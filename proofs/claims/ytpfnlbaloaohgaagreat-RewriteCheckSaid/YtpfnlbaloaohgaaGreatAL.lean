/- Lemmas for the walks of the laws: results of steps, normal forms and joins. -/
import Derived.Test.YtpfnlbaloaohgaaGreatA3
import Derived.Test.YtpfnlbaloaohgaaGreatH17
import Derived.Test.YtpfnlbaloaohgaaGreatH10
import Derived.Test.YtpfnlbaloaohgaaGreatR11
namespace Go.Proofs.YtpfnlbaloaohgaaGreat
open Go Go.RowKit
set_option linter.unusedVariables false
set_option linter.unusedSimpArgs false

theorem stepP_zero {R : List Rl} {t : Tm} {r : Rdx} (h : (stepP R t r).1 ≠ 0) : (stepP R t r).2 = zeroTm := by
 unfold stepP at h ⊢
 split
 · rfl
 · rename_i rl hr
   rw [hr] at h
   simp only at h
   split
   · rfl
   · rename_i u hu
     rw [hu] at h
     simp only at h
     split
     · rfl
     · rename_i h1
       rw [if_neg h1] at h
       split
       · rfl
       · rename_i h2
         rw [if_neg h2] at h
         split
         · rfl
         · rename_i y hy
           rw [hy] at h
           simp only at h
           split
           · rfl
           · rename_i h3
             rw [if_neg h3] at h
             exact absurd rfl h
theorem applyP_zero {R : List Rl} {t : Tm} {r : Rdx} (h : (applyP R t r).1 ≠ 0) : (applyP R t r).2 = zeroTm := by
 unfold applyP at h ⊢
 split
 · rfl
 · rename_i h1
   rw [if_neg h1] at h
   exact stepP_zero h
theorem applyP_ok {R : List Rl} {t : Tm} {r : Rdx} (h : (applyP R t r).1 = 0) : validT (applyP R t r).2 = 0 := by
 unfold applyP at h ⊢
 split at h
 · rename_i h1; exact absurd h h1
 · rename_i h1
   rw [if_neg h1]
   exact stepP_ok h
theorem errR_tm {w : World} {S : Nat → Prop} {v : Value} {er : Int} {Q : Int × Tm} (h : errR w S v er Q.2 Q.1) (hz : Q.1 ≠ 0 → Q.2 = zeroTm) (he : Q.1 = 0 → errT Q.2 = 0) : er = Q.1 ∧ resZ Any Q.2 v w := by
 obtain ⟨rfl, h0, h1⟩ := h
 refine ⟨rfl, ?_⟩
 by_cases hq : Q.1 = 0
 · obtain ⟨a, c, rfl, hT⟩ := h0 hq
   exact ⟨a, c, rfl, TmW.z hT.any (he hq)⟩
 · rw [h1 hq, hz hq]
   exact ⟨none, 0, rfl, TmZ_zero⟩
theorem normF_zero {R : List Rl} : ∀ (n : Nat) (u : Tm) (T : List Rdx), (normF R n u T).1 ≠ 0 → (normF R n u T).2 = (zeroTm, [])
 | 0, u, T, h => by
   cases hf : firstP R u with
   | none => rw [normF_none hf] at h; exact absurd rfl h
   | some q => rw [normF_fuel hf]
 | n + 1, u, T, h => by
   cases hf : firstP R u with
   | none => rw [normF_none hf] at h; exact absurd rfl h
   | some q =>
     by_cases hs : (stepP R u q).1 = 0
     · rw [normF_step hf hs (by omega), Nat.add_sub_cancel] at h ⊢
       exact normF_zero n _ _ h
     · rw [normF_err hf hs (by omega)]
theorem normP_zero {R : List Rl} {t : Tm} {fuel : Int} (h : (normP R t fuel).1 ≠ 0) : (normP R t fuel).2 = (zeroTm, []) := by
 unfold normP at h ⊢
 split
 · rfl
 · rename_i h0
   rw [if_neg h0] at h
   split
   · rename_i h1
     rw [if_pos h1] at h
     exact normF_zero _ _ _ h
   · rfl
theorem normR_res {w : World} {S : Nat → Prop} {v tv : Value} {er : Int} {Q : Int × Tm × List Rdx} (h : normR w S v tv er Q) (hz : Q.1 ≠ 0 → Q.2 = (zeroTm, [])) : er = Q.1 ∧ IsS w Any v Q.2.1 ∧ LsG elX w Any tv Q.2.2 := by
 obtain ⟨rfl, h0, h1⟩ := h
 refine ⟨rfl, ?_⟩
 by_cases hq : Q.1 = 0
 · obtain ⟨⟨a, c, rfl, hT⟩, hL⟩ := h0 hq
   exact ⟨⟨a, c, rfl, hT.any⟩, hL.any⟩
 · obtain ⟨e1, e2⟩ := h1 hq
   rw [e1, e2, hz hq]
   exact ⟨⟨none, 0, rfl, TmZ_zero.tm⟩, LsG.nil⟩
theorem rulesOf_small (C : List Nat) : smallR (rulesOf C) := by
 intro r hr
 unfold rulesOf at hr
 obtain ⟨c, -, rfl⟩ := List.mem_map.1 hr
 have := ruleN_ok (c % 12) (Nat.mod_lt _ (by omega))
 omega
theorem rulesOf_len (C : List Nat) : (rulesOf C).length ≤ 5 := by unfold rulesOf; rw [List.length_map, List.length_take]; omega
theorem joinsP_zero {R : List Rl} {t u : Tm} {fuel : Int} (h : (joinsP R t u fuel).1 ≠ 0) : (joinsP R t u fuel).2 = zeroJ := by
 unfold joinsP at h ⊢
 split
 · rfl
 · rename_i h0
   rw [if_neg h0] at h
   split
   · rfl
   · rename_i h1
     rw [if_neg h1] at h
     split
     · rfl
     · rename_i h2
       rw [if_neg h2] at h
       exact absurd rfl h
theorem joinsP_valid {R : List Rl} {t u : Tm} {fuel : Int} (h : (joinsP R t u fuel).1 = 0) : validT (joinsP R t u fuel).2.2.2 = 0 := by
 unfold joinsP at h ⊢
 split at h
 · rename_i h0; exact absurd h h0
 · rename_i h0
   rw [if_neg h0]
   split at h
   · rename_i h1; exact absurd h h1
   · rename_i h1
     rw [if_neg h1]
     split at h
     · simp at h
     · rename_i h2
       rw [if_neg h2]
       exact normP_valid (Classical.not_not.1 h0)
theorem joinsP_size (R : List Rl) (t u : Tm) (fuel : Int) : sizeT (joinsP R t u fuel).2.2.2 ≤ 400 := by
 by_cases h : (joinsP R t u fuel).1 = 0
 · exact sizeT_valid (joinsP_valid h)
 · rw [joinsP_zero h]; decide
theorem joinR_res {w : World} {S : Nat → Prop} {v : Value} {er : Int} {Q : Int × Jn} (h : joinR w S v er Q) (hz : Q.1 ≠ 0 → Q.2 = zeroJ) : er = Q.1 ∧ joinV w Any v Q.2 := by
 obtain ⟨rfl, h0, h1⟩ := h
 refine ⟨rfl, ?_⟩
 by_cases hq : Q.1 = 0
 · obtain ⟨la, lc, ra, rc, ja, jc, e, h3, h4, h5⟩ := h0 hq
   exact ⟨la, lc, ra, rc, ja, jc, e, h3.any, h4.any, h5.any⟩
 · rw [h1 hq, hz hq]
   exact ⟨none, 0, none, 0, none, 0, rfl, LsG.nil, LsG.nil, TmZ_zero.tm⟩
theorem few_two {t u : Tm} {n m : Int} (h : fewT [t, u] n m = true) : (sizeT t : Int) ≤ m ∧ (sizeT u : Int) ≤ m := by
 have h1 := (few_size h).2
 simp only [sizeL] at h1
 omega
/-- two terms that the call has laid one behind the other -/
theorem two_ts {w : World} {fb : Nat} {t u : Tm} {ta ua : Option Addr} {tc uc : Nat} (hb : w.heap[fb]? = some (.cells #[.int .i64 t.kind, .string t.name, .int .i64 t.sort, .slice ta t.kids.length tc, .int .i64 u.kind, .string u.name, .int .i64 u.sort, .slice ua u.kids.length uc] 25)) (hT : TmW w Any ta tc t) (hU : TmW w Any ua uc u) : TsA w Any (some ⟨fb, 0, none⟩) [t, u] := by
 have h : LsG elT w Any (.slice (some ⟨fb, 0, none⟩) 2 2) [t, u] := cells_lsG (E := elT) (P := [(t, encE ⟨t, ta, tc⟩), (u, encE ⟨u, ua, uc⟩)]) hb rfl rfl rfl (by unfold maxLen; simp) trivial (fun p hp => by
  simp at hp
  rcases hp with rfl | rfl
  · exact ⟨ta, tc, rfl, hT⟩
  · exact ⟨ua, uc, rfl, hU⟩)
 exact h.t.ts
/-- the six cells of a join -/
theorem box6 {w : World} {g T : Nat} {a b c d e f : Value} (h : w.heap[g]? = some (.cells #[a, b, c, d, e, f] T)) : w.cell? ⟨g, 0, none⟩ = some a ∧ w.cell? ⟨g, 1, none⟩ = some b ∧ w.cell? ⟨g, 2, none⟩ = some c ∧ w.cell? ⟨g, 3, none⟩ = some d ∧ w.cell? ⟨g, 4, none⟩ = some e ∧ w.cell? ⟨g, 5, none⟩ = some f := by
 refine ⟨?_, ?_, ?_, ?_, ?_, ?_⟩ <;> (rw [cellc h]; rfl)

end Go.Proofs.YtpfnlbaloaohgaaGreat
