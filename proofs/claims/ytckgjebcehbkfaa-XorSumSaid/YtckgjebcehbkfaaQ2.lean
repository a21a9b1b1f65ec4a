/- Contracts: Go's Reverse of lists of terms. -/
import Derived.Test.YtckgjebcehbkfaaYR
import Derived.Test.YtckgjebcehbkfaaG7
namespace Go.Proofs.Ytckgjebcehbkfaa
open Go Go.RowKit Go.Sort Go.Proofs Go.Shelf
set_option linter.unusedVariables false
set_option linter.unusedSimpArgs false

theorem reverse_own {w : World} {base : Nat} {S : Nat → Prop} {v : Value} {L : List Tm} (hO : OwnT w base S v L) (hS : ∀ c, S c → v.ownBlock ≠ some c) (hl : L.length ≤ 1000000000) :
    Calls Try.prog 26 #[v] w fun e w' => e = .returned (.tuple #[]) ∧ OwnT w' base S v L.reverse ∧ w.grownBy w' v.ownBlock := by
  obtain ⟨E, rfl, hR, hT⟩ := hO
  by_cases hE : E = []
  · subst hE
    have hv : ∃ p cap, v = .slice p 0 cap := by
      rcases hR.2 with ⟨h, -⟩ | ⟨g', cap', cur, h, -⟩
      · exact ⟨_, _, h⟩
      · exact ⟨_, _, h⟩
    obtain ⟨p, cap, hv⟩ := hv
    rw [hv]
    have hcon := AnyQ.slices_Reverse_empty revT p cap w
    change Calls Try.prog 26 _ _ _ at hcon
    refine hcon.mono ?_
    rintro e w' ⟨rfl, rfl⟩
    rw [← hv]
    exact ⟨rfl, ⟨[], rfl, hR, by simp⟩, rfl, rfl, rfl, Nat.le_refl _, fun _ _ _ => rfl⟩
  · have hpos : 0 < E.length := List.length_pos_iff.2 hE
    obtain ⟨g, cap, rfl, -, -, -, -⟩ := row2_slice hR hpos
    obtain ⟨hH, hlt, hbs, hW⟩ := onw_holds encE_len hR rfl
    have hsz : E.toArray.size = E.length := by simp
    have hcon := AnyQ.slices_Reverse revT 4 Try.isAgg24 Try.sizeOf24 encE encE_len (fun x u hu => encE_one [x] u (by simpa using hu)) g 0 cap E.toArray w hH (by rw [hsz]; rw [List.length_map] at hl; omega)
    rw [hsz] at hcon
    change Calls Try.prog 26 _ _ _ at hcon
    refine hcon.mono ?_
    rintro e w' ⟨rfl, m, rfl⟩
    have hd : E.toArray.reverse.size = E.length := by simp
    obtain ⟨r1, r2⟩ := hW m E.toArray.reverse #[] hd
    have hg : sortWorldK encE 4 w g 0 m E.toArray.reverse #[] = putRowK encE 4 (Sort.ahead w m) g 0 E.toArray.reverse := by
      unfold sortWorldK
      exact Go.Sort.grow_empty _
    rw [hg] at r1 r2
    have hdl : E.toArray.reverse.toList = E.reverse := by simp
    rw [hdl] at r1
    refine ⟨rfl, ⟨E.reverse, by rw [List.map_reverse], by rw [List.length_reverse]; exact r1, fun e he => ?_⟩, r2⟩
    exact (hT e (List.mem_reverse.1 he)).keep (fun c h1 h2 => r2.block c h2 (fun e => hS c h1 e.symm)) (fun _ h _ => h)

end Go.Proofs.Ytckgjebcehbkfaa
