/- Plain law and memory: redexes of a term; the number of a redex written over. -/
import Derived.Test.YtpfnlbaloaohgaaGreatH17
import Derived.Test.YtpfnlbaloaohgaaGreatH10
namespace Go.Proofs.YtpfnlbaloaohgaaGreat
open Go Go.RowKit
set_option linter.unusedVariables false
set_option linter.unusedSimpArgs false

theorem fitI_rule (R : List Rl) (u : Tm) (p : List Int) : ∀ n, ∀ r ∈ fitI R u p n, ∃ k : Nat, r.1 = k ∧ k < R.length
 | 0, r, h => by simp [fitI] at h
 | n + 1, r, h => by
   rw [fitI] at h
   rcases List.mem_append.1 h with h | h
   · exact fitI_rule R u p n r h
   · split at h
     · rename_i x hx
       split at h
       · simp at h; subst h; exact ⟨n, rfl, (List.getElem?_eq_some_iff.1 hx).1⟩
       · simp at h
     · simp at h
theorem redP_rule {R : List Rl} {t : Tm} {r : Rdx} (h : r ∈ redP R t) : ∃ k : Nat, r.1 = k ∧ k < R.length := by
 unfold redP at h
 split at h
 · simp at h
 · obtain ⟨p, -, h⟩ := List.mem_flatMap.1 h
   unfold redAt at h
   split at h
   · exact fitI_rule _ _ _ _ r h
   · simp at h
theorem redP_bad {R : List Rl} {t : Tm} (h : validT t ≠ 0) : redP R t = [] := by
 unfold redP
 rw [if_pos (fun e => h (orE_split e).2)]
theorem checkL_append (R : List Rl) : ∀ (L : List Rdx) (r : Rdx) (t u : Tm), checkL R L t = some u → (stepP R u r).1 = 0 → checkL R (L ++ [r]) t = some (stepP R u r).2
 | [], r, t, u, h, hs => by
   rw [checkL] at h
   cases h
   rw [List.nil_append, checkL, if_neg (by simpa using hs), checkL]
 | x :: L, r, t, u, h, hs => by
   rw [checkL] at h
   split at h
   · cases h
   · rename_i h1
     rw [List.cons_append, checkL, if_neg h1]
     exact checkL_append R L r _ u h hs
theorem OwnG.setFst {w : World} {base : Nat} {T : TypeId} {S : Nat → Prop} {g n cap k : Nat} {q : Rdx} {z : Int} {L : List Rdx} (h : OwnG elX w base T S (.slice (some ⟨g, 0, none⟩) n cap) L) (hk : L[k]? = some q) (hz : I64 z) (hS : ∀ c, S c → c ≠ g) :
 LsG elX (w.setCell ⟨g, k * 2, none⟩ (.int .i64 z)) Any (.slice (some ⟨g, 0, none⟩) n cap) (L.set k (z, q.2)) := by
 obtain ⟨a, c, e, hl, hc⟩ := h.slice
 cases e
 obtain ⟨cur, hcur⟩ := h.block (g := g) rfl
 have hg := heap_setCell_same w g (k * 2) _ _ (.int .i64 z) hcur
 have hklt := (List.getElem?_eq_some_iff.1 hk).1
 have hgl : g < (w.setCell ⟨g, k * 2, none⟩ (.int .i64 z)).heap.size := lt_of_get' hg
 have hother : ∀ c, S c → c < w.heap.size → (w.setCell ⟨g, k * 2, none⟩ (.int .i64 z)).heap[c]? = w.heap[c]? := fun c hc _ => heap_setCell_other _ _ _ _ (hS c hc)
 refine ⟨_, _, by rw [List.length_set], by rw [List.length_set]; exact hl, hc, fun i x hi => ?_⟩
 rw [List.getElem?_set] at hi
 by_cases hik : k = i
 · subst hik
   rw [if_pos rfl, if_pos hklt] at hi
   cases hi
   obtain ⟨g', cap', cs, e, hb, hlt, ⟨v, rfl, h64, hP⟩, hcs⟩ := h.at hk
   cases e
   have h0 : w.cell? ⟨g, k * 2, none⟩ = _ := hcs 0 _ rfl
   have h1 : w.cell? ⟨g, k * 2 + 1, none⟩ = _ := hcs 1 _ rfl
   rw [cellc hcur] at h0 h1
   have hks := (Array.getElem?_eq_some_iff.1 h0).1
   refine ⟨g, 0, [.int .i64 z, v], rfl, trivial, hgl, ⟨v, rfl, hz, hP.hold hother (fun _ _ _ => trivial)⟩, fun j u hu => ?_⟩
   match j, hu with
   | 0, hu =>
     simp at hu; subst hu
     show (w.setCell ⟨g, k * 2, none⟩ (.int .i64 z)).cell? ⟨g, 0 + k * 2 + 0, none⟩ = _
     rw [cellc hg, Array.getElem?_setIfInBounds, if_pos (by omega), if_pos hks]
   | 1, hu =>
     simp at hu; subst hu
     show (w.setCell ⟨g, k * 2, none⟩ (.int .i64 z)).cell? ⟨g, 0 + k * 2 + 1, none⟩ = _
     rw [cellc hg, Array.getElem?_setIfInBounds, if_neg (by omega), Nat.zero_add]
     exact h1
   | j + 2, hu => simp at hu
 · rw [if_neg hik] at hi
   obtain ⟨g', cap', cs, e, hb, hlt, ⟨v, rfl, h64, hP⟩, hcs⟩ := h.at hi
   cases e
   refine ⟨g, 0, _, rfl, trivial, hgl, ⟨v, rfl, h64, hP.hold hother (fun _ _ _ => trivial)⟩, fun j u hu => ?_⟩
   have h0 : w.cell? ⟨g, i * 2 + j, none⟩ = _ := hcs j u hu
   rw [cellc hcur] at h0
   show (w.setCell ⟨g, k * 2, none⟩ (.int .i64 z)).cell? ⟨g, 0 + i * 2 + j, none⟩ = _
   have hj : j < 2 := (List.getElem?_eq_some_iff.1 hu).1
   rw [cellc hg, Array.getElem?_setIfInBounds, if_neg (by omega), Nat.zero_add]
   exact h0

end Go.Proofs.YtpfnlbaloaohgaaGreat
