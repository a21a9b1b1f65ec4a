/- Plain law: the strings of a format are those of its values. Plain law: a string belongs to a format exactly if it is that of a value. Plain law: what PrefixFree answers, in words of values. -/
import Derived.Test.YtfaienbdebjfcaaGreatGV
import Derived.Test.YtfaienbdebjfcaaGreatGW
namespace Go.Proofs.YtfaienbdebjfcaaGreat
open Go Go.RowKit
set_option linter.unusedVariables false
set_option linter.unusedSimpArgs false
set_option maxRecDepth 100000

/-- a byte within a field that is no nested one and no rest: none, it is refused; some none, the field is done -/
def pk (x : Fld) (r b : Nat) : Option (Option Nat) :=
 if x.kind = 1 then (if r < x.bytes.size ∧ (x.bytes.data.toList.getD r 0).toNat = b then (if r + 1 = x.bytes.size then some none else some (some (r + 1))) else none)
 else if x.kind = 2 then (if (r : Int) < x.n then (if (r : Int) + 1 = x.n then some none else some (some (r + 1))) else none)
 else if x.kind = 4 then (if r = 0 ∧ x.low ≤ b ∧ b ≤ x.high then some none else none)
 else if x.kind = 3 then (if r = 0 then (if b = 0 then some none else if (b : Int) ≤ x.n then some (some b) else none) else if (r : Int) ≤ x.n then (if r = 1 then some none else some (some (r - 1))) else none)
 else none
/-- the bytes take a field from r on -/
def Comp (x : Fld) : Nat → List Nat → Prop
 | _, [] => False
 | r, b :: l => match pk x r b with | none => False | some none => l = [] | some (some q) => Comp x q l
/-- fields of the four plain kinds -/
def P4 (x : Fld) : Prop := x.kind = 1 ∧ 1 ≤ x.bytes.size ∧ x.bytes.size ≤ 8 ∨ x.kind = 2 ∧ 1 ≤ x.n ∧ x.n ≤ 15 ∨ x.kind = 3 ∧ 0 ≤ x.n ∧ x.n ≤ 15 ∨ x.kind = 4 ∧ 0 ≤ x.low ∧ x.low ≤ x.high ∧ x.high ≤ 255
def stOf (f : Nat) : Option (Option Nat) → Int
 | none => -1
 | some none => stS (f + 1) 0
 | some (some q) => stS f q
theorem pk_step {x : Fld} {f r b : Nat} (h : P4 x) (hr : plainK x r = true) : stepK x f r b = stOf f (pk x r b) := by
 unfold plainK at hr
 unfold stepK pk cntD lftS stOf
 rcases h with h | h | h | h
 · rw [if_pos h.1] at hr ⊢
   rw [if_pos h.1]
   have hr2 : r < x.bytes.size := by simpa using hr
   by_cases hb : (x.bytes.data.toList.getD r 0).toNat = b
   · rw [if_pos hb, if_pos (show r < x.bytes.size ∧ _ from ⟨hr2, hb⟩)]
     by_cases he : r + 1 = x.bytes.size
     · have he2 : (r : Int) + 1 = (x.bytes.size : Int) := by omega
       rw [if_pos he2, if_pos he]
     · have he2 : ¬ (r : Int) + 1 = (x.bytes.size : Int) := by omega
       rw [if_neg he2, if_neg he]; rfl
   · rw [if_neg hb, if_neg (show ¬ (r < x.bytes.size ∧ _) from fun e => hb e.2)]
 · have h1 : x.kind ≠ 1 := by omega
   rw [if_neg h1, if_pos h.1] at hr ⊢
   rw [if_neg h1, if_pos h.1]
   have hr2 : (r : Int) < x.n := by simpa using hr
   rw [if_pos hr2]
   by_cases he : (r : Int) + 1 = x.n
   · rw [if_pos he, if_pos he]
   · rw [if_neg he, if_neg he]; rfl
 · have h1 : x.kind ≠ 1 := by omega
   have h2 : x.kind ≠ 2 := by omega
   have h4 : x.kind ≠ 4 := by omega
   rw [if_neg h1, if_neg h2, if_neg h4, if_pos h.1] at hr ⊢
   rw [if_neg h1, if_neg h2, if_neg h4, if_pos h.1]
   have hr2 : (r : Int) ≤ x.n := by simpa using hr
   by_cases h0 : r = 0
   · rw [if_neg (by omega), if_pos h0]
     by_cases hb : b = 0
     · rw [if_pos hb, if_pos hb]
     · rw [if_neg hb, if_neg hb]
       by_cases hn : (b : Int) ≤ x.n
       · rw [if_pos hn, if_pos hn]
       · rw [if_neg hn, if_neg hn]
   · rw [if_pos (by omega), if_neg h0, if_pos hr2]
     by_cases h1 : r = 1
     · rw [if_pos (by omega), if_pos h1]
     · rw [if_neg (by omega), if_neg h1]
       show stS f ((r : Int) - 1) = stS f ((r - 1 : Nat) : Int)
       unfold stS; omega
 · have h1 : x.kind ≠ 1 := by omega
   have h2 : x.kind ≠ 2 := by omega
   rw [if_neg h1, if_neg h2, if_pos h.1] at hr ⊢
   rw [if_neg h1, if_neg h2, if_pos h.1]
   have hr2 : r = 0 := by simpa using hr
   by_cases hb : x.low ≤ b ∧ b ≤ x.high
   · rw [if_pos hb, if_pos ⟨hr2, hb⟩]
   · rw [if_neg hb, if_neg (fun e => hb e.2)]
theorem pk_out {x : Fld} {r b : Nat} (h : P4 x) (hr : plainK x r = false) : pk x r b = none := by
 unfold plainK at hr
 unfold pk
 rcases h with h | h | h | h
 · rw [if_pos h.1] at hr ⊢
   rw [if_neg (fun e => by simp at hr; omega)]
 · have h1 : x.kind ≠ 1 := by omega
   rw [if_neg h1, if_pos h.1] at hr ⊢
   rw [if_neg (fun e => by simp at hr; omega)]
 · have h1 : x.kind ≠ 1 := by omega
   have h2 : x.kind ≠ 2 := by omega
   have h4 : x.kind ≠ 4 := by omega
   rw [if_neg h1, if_neg h2, if_neg h4, if_pos h.1] at hr ⊢
   have hr2 : x.n < (r : Int) := by simpa using hr
   rw [if_neg (by omega), if_neg (by omega)]
 · have h1 : x.kind ≠ 1 := by omega
   have h2 : x.kind ≠ 2 := by omega
   rw [if_neg h1, if_neg h2, if_pos h.1] at hr ⊢
   rw [if_neg (fun e => by simp at hr; omega)]
theorem pk_next {x : Fld} {r b q : Nat} (h : P4 x) (hp : pk x r b = some (some q)) : plainK x q = true ∧ q ≤ 15 := by
 unfold pk at hp
 unfold plainK
 rcases h with h | h | h | h
 · rw [if_pos h.1] at hp ⊢
   split at hp
   · split at hp
     · cases hp
     · cases hp; exact ⟨by simp; omega, by omega⟩
   · cases hp
 · have h1 : x.kind ≠ 1 := by omega
   rw [if_neg h1, if_pos h.1] at hp ⊢
   split at hp
   · split at hp
     · cases hp
     · cases hp; exact ⟨by simp; omega, by omega⟩
   · cases hp
 · have h1 : x.kind ≠ 1 := by omega
   have h2 : x.kind ≠ 2 := by omega
   have h4 : x.kind ≠ 4 := by omega
   rw [if_neg h1, if_neg h2, if_neg h4, if_pos h.1] at hp ⊢
   split at hp
   · split at hp
     · cases hp
     · split at hp
       · cases hp; exact ⟨by simp; omega, by omega⟩
       · cases hp
   · split at hp
     · split at hp
       · cases hp
       · cases hp; exact ⟨by simp; omega, by omega⟩
     · cases hp
 · have h1 : x.kind ≠ 1 := by omega
   have h2 : x.kind ≠ 2 := by omega
   rw [if_neg h1, if_neg h2, if_pos h.1] at hp
   split at hp <;> cases hp
theorem p4_kind {x : Fld} (h : P4 x) : x.kind ≠ 5 ∧ x.kind ≠ 6 := by rcases h with h | h | h | h <;> (have := h.1; omega)
section
variable {t : List Fmt} {F : List Fld} {x : Fld} {k : Nat}
theorem st_parts {k r : Nat} (hr : r < 1024) : ((stS k r / 262144).toNat = k ∧ (stS k r / 256 % 1024).toNat = r ∧ stS k r % 256 = 0) ∧ 0 ≤ stS k r ∧ stS k r / 256 % 1024 = r := by unfold stS; omega
theorem stF_p4 (hx : F[k]? = some x) (h : P4 x) {r b : Nat} (hr : r ≤ 15) : rStep t F (stS k r) b = stOf k (pk x r b) := by
 obtain ⟨⟨e1, e2, e3⟩, e4, e5⟩ := st_parts (k := k) (r := r) (by omega)
 have hk := (List.getElem?_eq_some_iff.1 hx).1
 have hp : plainS F k r = plainK x r := by unfold plainS; rw [if_neg (by omega), hx]
 unfold rStep
 rw [if_neg (by omega), e1, hx]
 simp only []
 rw [if_neg (p4_kind h).1, e2, hp]
 cases hK : plainK x r with
 | false => rw [if_pos (.inr rfl), pk_out h hK]; rfl
 | true => rw [if_neg (by rintro (e | e); exact e e3; cases e), pk_step h hK]
theorem stOf_lt {f : Nat} {o : Option (Option Nat)} : stOf f o < 0 ↔ o = none := by
 cases o with
 | none => exact ⟨fun _ => rfl, fun _ => by show (-1 : Int) < 0; omega⟩
 | some o => cases o <;> exact ⟨fun h => by unfold stOf stS at h; simp only at h; omega, fun h => by cases h⟩
theorem acc_in {s : Int} (hx : F[(s / 262144).toNat]? = some x) (h6 : x.kind ≠ 6) : rAcc F s = false := by
 have hk := (List.getElem?_eq_some_iff.1 hx).1
 unfold rAcc
 split
 · rfl
 · rw [if_neg (by omega), hx]; simp [h6]
theorem run_fld (hx : F[k]? = some x) (h : P4 x) {y : Int} (hy : rAcc F y = true) : ∀ (l : List Nat) (r : Nat), r ≤ 15 → runF (stF t F) (stS k r) l = some y → ∃ l1 l2, l = l1 ++ l2 ∧ Comp x r l1 ∧ runF (stF t F) (stS (k + 1) 0) l2 = some y
 | [], r, hr, hrun => by
   simp only [runF, Option.some.injEq] at hrun
   have e := st_parts (k := k) (r := r) (by omega)
   rw [← hrun, acc_in (by rw [e.1.1]; exact hx) (p4_kind h).2] at hy
   cases hy
 | b :: l, r, hr, hrun => by
   obtain ⟨z, h1, h2⟩ := run_head hrun
   obtain ⟨rfl, hn⟩ := stF_inv h1
   rw [stF_p4 hx h hr] at hn h2
   rw [stOf_lt] at hn
   cases hp : pk x r b with
   | none => exact absurd hp hn
   | some o =>
     rw [hp] at h2
     cases o with
     | none => exact ⟨[b], l, rfl, by unfold Comp; rw [hp], h2⟩
     | some q =>
       obtain ⟨l1, l2, e, c, u⟩ := run_fld hx h hy l q (pk_next h hp).2 h2
       exact ⟨b :: l1, l2, by rw [e]; rfl, by unfold Comp; rw [hp]; exact c, u⟩
theorem fld_run (hx : F[k]? = some x) (h : P4 x) (l2 : List Nat) : ∀ (l1 : List Nat) (r : Nat), r ≤ 15 → Comp x r l1 → runF (stF t F) (stS k r) (l1 ++ l2) = runF (stF t F) (stS (k + 1) 0) l2
 | [], r, hr, hc => by unfold Comp at hc; exact hc.elim
 | b :: l1, r, hr, hc => by
   unfold Comp at hc
   rw [List.cons_append, runF]
   unfold stF
   rw [stF_p4 hx h hr]
   cases hp : pk x r b with
   | none => rw [hp] at hc; exact hc.elim
   | some o =>
     rw [if_neg (by rw [stOf_lt]; intro e; cases e)]
     rw [hp] at hc
     cases o with
     | none => simp only at hc; subst hc; rfl
     | some q => exact fld_run hx h l2 l1 q (pk_next h hp).2 hc
/-- the rest -/
theorem stF_rest (hx : F[k]? = some x) (h : x.kind = 6) {r b : Nat} (hr : r < 1024) (hh : (r : Int) ≤ x.high) : rStep t F (stS k r) b = if (r : Int) < x.high then stS k (r + 1 : Nat) else -1 := by
 obtain ⟨⟨e1, e2, e3⟩, e4, e5⟩ := st_parts (k := k) (r := r) hr
 have hk := (List.getElem?_eq_some_iff.1 hx).1
 have hp : plainS F k r = true := by unfold plainS plainK; rw [if_neg (by omega), hx]; simp [h, hh]
 unfold rStep
 rw [if_neg (by omega), e1, hx]
 simp only []
 rw [if_neg (by omega), e2, hp, if_neg (by rintro (e | e); exact e e3; cases e)]
 unfold stepK
 rw [if_neg (by omega), if_neg (by omega), if_neg (by omega), if_neg (by omega)]
 rfl
theorem run_rest (hx : F[k]? = some x) (h : x.kind = 6) (hh : x.high ≤ 1000) {y : Int} : ∀ (l : List Nat) (r : Nat), (r : Int) ≤ x.high → runF (stF t F) (stS k r) l = some y → ((r + l.length : Nat) : Int) ≤ x.high ∧ y = stS k ((r + l.length : Nat) : Int)
 | [], r, hr, hrun => by
   simp only [runF, Option.some.injEq] at hrun
   exact ⟨hr, hrun.symm⟩
 | b :: l, r, hr, hrun => by
   obtain ⟨z, h1, h2⟩ := run_head hrun
   obtain ⟨rfl, hn⟩ := stF_inv h1
   rw [stF_rest hx h (by omega) hr] at hn h2
   by_cases hlt : (r : Int) < x.high
   · rw [if_pos hlt] at h2
     obtain ⟨g1, g2⟩ := run_rest hx h hh l (r + 1) (by omega) h2
     rw [List.length_cons, show r + (l.length + 1) = r + 1 + l.length by omega]
     exact ⟨g1, g2⟩
   · rw [if_neg hlt] at hn; omega
theorem rest_run (hx : F[k]? = some x) (h : x.kind = 6) (hh : x.high ≤ 1000) : ∀ (l : List Nat) (r : Nat), ((r + l.length : Nat) : Int) ≤ x.high → runF (stF t F) (stS k r) l = some (stS k ((r + l.length : Nat) : Int))
 | [], r, hr => rfl
 | b :: l, r, hr => by
   rw [List.length_cons] at hr ⊢
   rw [runF]
   unfold stF
   have hlt : (r : Int) < x.high := by omega
   rw [stF_rest hx h (by omega) (by omega), if_pos hlt, if_neg (by unfold stS; omega)]
   rw [show r + (l.length + 1) = r + 1 + l.length by omega]
   exact rest_run hx h hh l (r + 1) (by omega)
theorem acc_rest (hx : F[k]? = some x) (h : x.kind = 6) {r : Nat} (hr : r < 1024) : rAcc F (stS k r) = (decide (x.low ≤ r) && decide ((r : Int) ≤ x.high)) := by
 obtain ⟨⟨e1, e2, e3⟩, e4, e5⟩ := st_parts (k := k) (r := r) hr
 have hk := (List.getElem?_eq_some_iff.1 hx).1
 unfold rAcc
 rw [if_neg (by rintro (e | e); omega; exact e e3), e1, if_neg (by omega), hx]
 simp [h, e5]
/-- the end -/
theorem run_end {y : Int} {l : List Nat} (h : runF (stF t F) (stS F.length 0) l = some y) : l = [] := by
 cases l with
 | nil => rfl
 | cons b l =>
   obtain ⟨z, h1, -⟩ := run_head h
   obtain ⟨-, hn⟩ := stF_inv h1
   exfalso; apply hn
   obtain ⟨⟨e1, -⟩, e4, -⟩ := st_parts (k := F.length) (r := 0) (by omega)
   unfold rStep
   have e0 : stS (F.length : Int) 0 = stS (F.length : Int) ((0 : Nat) : Int) := rfl
   rw [e0, if_neg (by omega), e1, List.getElem?_eq_none (Nat.le_refl _)]
   simp
theorem acc_end : rAcc F (stS F.length 0) = noRest F := by
 have e0 : stS (F.length : Int) 0 = stS (F.length : Int) ((0 : Nat) : Int) := rfl
 obtain ⟨⟨e1, e2, e3⟩, e4, e5⟩ := st_parts (k := F.length) (r := 0) (by omega)
 rw [e0]
 unfold rAcc
 rw [if_neg (by rintro (e | e); omega; exact e e3), e1, if_pos rfl, e5]
 simp
end
/-- the bytes take plain fields -/
def CompL : List Fld → List Nat → Prop
 | [], l => l = []
 | x :: G, l => ∃ l1 l2, l = l1 ++ l2 ∧ Comp x 0 l1 ∧ CompL G l2
def CompAt (G : List Fld) (g rr : Nat) (l : List Nat) : Prop := ∃ y l1 l2, G[g]? = some y ∧ l = l1 ++ l2 ∧ Comp y rr l1 ∧ CompL (G.drop (g + 1)) l2
theorem Comp.ne {x : Fld} {r : Nat} {l : List Nat} (h : Comp x r l) : l ≠ [] := by rintro rfl; exact h
theorem compAt_L {G : List Fld} {g : Nat} {l : List Nat} (hg : g < G.length) : CompAt G g 0 l ↔ CompL (G.drop g) l := by
 rw [List.drop_eq_getElem_cons hg]
 constructor
 · rintro ⟨y, l1, l2, e1, e2, e3, e4⟩
   rw [List.getElem?_eq_getElem hg] at e1
   cases e1
   exact ⟨l1, l2, e2, e3, e4⟩
 · rintro ⟨l1, l2, e2, e3, e4⟩
   exact ⟨_, l1, l2, List.getElem?_eq_getElem hg, e2, e3, e4⟩
section
variable {t : List Fmt} {F G : List Fld} {x : Fld} {k : Nat}
/-- a state within a nested format: r bytes are left, field g, at rr -/
def ns (k r g rr : Nat) : Int := stS k r + ((g : Int) * 32 + rr)
def nsOf (k r g n : Nat) : Option (Option Nat) → Int
 | none => -1
 | some none => if r = 1 then (if g + 1 = n then stS (k + 1) 0 else -1) else if g + 1 = n then -1 else ns k (r - 1) (g + 1) 0
 | some (some q) => if r = 1 then -1 else ns k (r - 1) g q
theorem nsOf_n {k r g n : Nat} : nsOf k r g n (some none) = if r = 1 then (if g + 1 = n then stS (k + 1) 0 else -1) else if g + 1 = n then -1 else ns k (r - 1) (g + 1) 0 := rfl
theorem nsOf_s {k r g n q : Nat} : nsOf k r g n (some (some q)) = if r = 1 then -1 else ns k (r - 1) g q := rfl
theorem ns_step (hx : F[k]? = some x) (h5 : x.kind = 5) (hG : (t.getD x.n.toNat default).fields = G) (hP : ∀ y ∈ G, P4 y) (hl : G.length ≤ 6) {r g rr b : Nat} {y : Fld} (hy : G[g]? = some y) (hr : 1 ≤ r ∧ r ≤ 255) (hrr : rr ≤ 15) : rStep t F (ns k r g rr) b = nsOf k r g G.length (pk y rr b) := by
 have hg := (List.getElem?_eq_some_iff.1 hy).1
 have hy4 : P4 y := hP y (List.mem_of_getElem? hy)
 have e1 : (ns k r g rr / 262144).toNat = k ∧ (ns k r g rr / 256 % 1024).toNat = r ∧ (ns k r g rr % 256).toNat = g * 32 + rr ∧ 0 ≤ ns k r g rr := by unfold ns stS; omega
 obtain ⟨e1, e2, e3, e4⟩ := e1
 have e5 : (g * 32 + rr) / 32 = g := by omega
 have e6 : (g * 32 + rr) % 32 = rr := by omega
 unfold rStep
 rw [if_neg (by omega), e1, hx]
 simp only []
 rw [if_pos h5, e2, e3]
 unfold rNest
 rw [hG, e5, e6, if_neg (by omega)]
 have hp : plainS G g rr = plainK y rr := by unfold plainS; rw [if_neg (by omega), hy]
 rw [hp, hy]
 cases hK : plainK y rr with
 | false => rw [if_pos (.inr (.inl rfl)), pk_out hy4 hK]; rfl
 | true =>
   rw [if_neg (by rintro (e | e | e); omega; cases e; omega)]
   simp only []
   rw [pk_step hy4 hK]
   cases hpk : pk y rr b with
   | none => rfl
   | some o =>
     cases o with
     | none =>
       have f1 : stOf g (some none) / 262144 = (g : Int) + 1 := by show stS (g + 1) 0 / 262144 = _; unfold stS; omega
       have f2 : stOf g (some none) / 256 % 1024 = 0 := by show stS (g + 1) 0 / 256 % 1024 = _; unfold stS; omega
       rw [if_neg (by rw [stOf_lt]; intro e; cases e), f1, f2]
       rw [nsOf_n]
       by_cases hr1 : r = 1
       · rw [if_pos hr1, if_pos hr1]
         by_cases hgn : g + 1 = G.length
         · rw [if_neg (by omega), if_pos hgn]
         · rw [if_pos (by omega), if_neg hgn]
       · rw [if_neg hr1, if_neg hr1]
         by_cases hgn : g + 1 = G.length
         · rw [if_pos (by omega), if_pos hgn]
         · rw [if_neg (by omega), if_neg hgn]
           unfold ns stS; omega
     | some q =>
       have hq := (pk_next hy4 hpk).2
       have f1 : stOf g (some (some q)) / 262144 = (g : Int) := by show stS g q / 262144 = _; unfold stS; omega
       have f2 : stOf g (some (some q)) / 256 % 1024 = q := by show stS g q / 256 % 1024 = _; unfold stS; omega
       rw [if_neg (by rw [stOf_lt]; intro e; cases e), f1, f2]
       rw [nsOf_s]
       by_cases hr1 : r = 1
       · rw [if_pos hr1, if_pos hr1, if_pos (by omega)]
       · rw [if_neg hr1, if_neg hr1, if_neg (by omega)]
         unfold ns stS; omega
theorem run_ns (hx : F[k]? = some x) (h5 : x.kind = 5) (hG : (t.getD x.n.toNat default).fields = G) (hP : ∀ y ∈ G, P4 y) (hl : G.length ≤ 6) {y : Int} (hy : rAcc F y = true) : ∀ (l : List Nat) (r g rr : Nat), 1 ≤ r → r ≤ 255 → rr ≤ 15 → g < G.length → runF (stF t F) (ns k r g rr) l = some y → ∃ l1 l2, l = l1 ++ l2 ∧ l1.length = r ∧ CompAt G g rr l1 ∧ runF (stF t F) (stS (k + 1) 0) l2 = some y
 | [], r, g, rr, h1, h2, h3, h4, hrun => by
   simp only [runF, Option.some.injEq] at hrun
   have e1 : (ns k r g rr / 262144).toNat = k := by unfold ns stS; omega
   rw [← hrun, acc_in (by rw [e1]; exact hx) (by omega)] at hy
   cases hy
 | b :: l, r, g, rr, h1, h2, h3, h4, hrun => by
   obtain ⟨z, g1, g2⟩ := run_head hrun
   obtain ⟨rfl, hn⟩ := stF_inv g1
   obtain ⟨fy, hfy⟩ : ∃ fy, G[g]? = some fy := ⟨_, List.getElem?_eq_getElem h4⟩
   have hf4 : P4 fy := hP fy (List.mem_of_getElem? hfy)
   rw [ns_step hx h5 hG hP hl hfy ⟨h1, h2⟩ h3] at hn g2
   cases hp : pk fy rr b with
   | none => rw [hp] at hn; exact absurd (show (-1 : Int) < 0 by omega) hn
   | some o =>
     rw [hp] at hn g2
     cases o with
     | none =>
       rw [nsOf_n] at hn g2
       by_cases hr1 : r = 1
       · rw [if_pos hr1] at hn g2
         by_cases hgn : g + 1 = G.length
         · rw [if_pos hgn] at g2
           refine ⟨[b], l, rfl, by rw [hr1]; rfl, ⟨fy, [b], [], hfy, rfl, by unfold Comp; rw [hp], ?_⟩, g2⟩
           rw [List.drop_of_length_le (by omega)]
           rfl
         · rw [if_neg hgn] at hn; omega
       · rw [if_neg hr1] at hn g2
         by_cases hgn : g + 1 = G.length
         · rw [if_pos hgn] at hn; omega
         · rw [if_neg hgn] at g2
           obtain ⟨l1, l2, e1, e2, e3, e4⟩ := run_ns hx h5 hG hP hl hy l (r - 1) (g + 1) 0 (by omega) (by omega) (by omega) (by omega) g2
           refine ⟨b :: l1, l2, by rw [e1]; rfl, by rw [List.length_cons]; omega, ⟨fy, [b], l1, hfy, rfl, by unfold Comp; rw [hp], ?_⟩, e4⟩
           exact (compAt_L (by omega)).1 e3
     | some q =>
       rw [nsOf_s] at hn g2
       by_cases hr1 : r = 1
       · rw [if_pos hr1] at hn; omega
       · rw [if_neg hr1] at g2
         obtain ⟨l1, l2, e1, e2, ⟨fy', p1, p2, e3, e5, e6, e7⟩, e4⟩ := run_ns hx h5 hG hP hl hy l (r - 1) g q (by omega) (by omega) (pk_next hf4 hp).2 h4 g2
         rw [hfy] at e3
         cases e3
         exact ⟨b :: l1, l2, by rw [e1]; rfl, by rw [List.length_cons]; omega, ⟨fy, b :: p1, p2, hfy, by rw [e5]; rfl, by unfold Comp; rw [hp]; exact e6, e7⟩, e4⟩
theorem ns_run (hx : F[k]? = some x) (h5 : x.kind = 5) (hG : (t.getD x.n.toNat default).fields = G) (hP : ∀ y ∈ G, P4 y) (hl : G.length ≤ 6) (l2 : List Nat) : ∀ (l1 : List Nat) (r g rr : Nat), l1.length = r → r ≤ 255 → rr ≤ 15 → CompAt G g rr l1 → runF (stF t F) (ns k r g rr) (l1 ++ l2) = runF (stF t F) (stS (k + 1) 0) l2
 | [], r, g, rr, h1, h2, h3, hc => by
   obtain ⟨y, p1, p2, e1, e2, e3, e4⟩ := hc
   have := e3.ne
   cases p1 with
   | nil => exact absurd rfl this
   | cons => cases e2
 | b :: l1, r, g, rr, h1, h2, h3, hc => by
   obtain ⟨fy, p1, p2, hfy, e2, e3, e4⟩ := hc
   have hg := (List.getElem?_eq_some_iff.1 hfy).1
   have hf4 : P4 fy := hP fy (List.mem_of_getElem? hfy)
   rw [List.length_cons] at h1
   rw [List.cons_append, runF]
   unfold stF
   rw [ns_step hx h5 hG hP hl hfy ⟨by omega, h2⟩ h3]
   cases p1 with
   | nil => exact absurd rfl e3.ne
   | cons b' p1 =>
     rw [List.cons_append] at e2
     have e9 : l1 = p1 ++ p2 := (List.cons.inj e2).2
     obtain rfl : b = b' := (List.cons.inj e2).1
     clear e2
     have e2 := e9
     clear e9
     unfold Comp at e3
     cases hp : pk fy rr b with
     | none => rw [hp] at e3; exact e3.elim
     | some o =>
       rw [hp] at e3
       cases o with
       | none =>
         simp only at e3
         subst e3
         simp only [List.nil_append] at e2
         subst e2
         by_cases hgn : g + 1 = G.length
         · rw [List.drop_of_length_le (by omega)] at e4
           have e5 : l1 = [] := e4
           subst e5
           have hr1 : r = 1 := by simp at h1; omega
           have hv : nsOf k r g G.length (some none) = stS (k + 1) 0 := by rw [nsOf_n, if_pos hr1, if_pos hgn]
           rw [hv, if_neg (by unfold stS; omega)]
           rfl
         · have hc2 := (compAt_L (show g + 1 < G.length by omega)).2 e4
           have hl1 : l1 ≠ [] := by
            obtain ⟨_, q1, q2, -, e, c, -⟩ := hc2
            have := c.ne
            rw [e]
            simp [this]
           have hpos : 0 < l1.length := List.length_pos_iff.2 hl1
           have hv : nsOf k r g G.length (some none) = ns k (r - 1) (g + 1) 0 := by rw [nsOf_n, if_neg (by omega), if_neg hgn]
           rw [hv, if_neg (by unfold ns stS; omega)]
           exact ns_run hx h5 hG hP hl l2 l1 (r - 1) (g + 1) 0 (by omega) (by omega) (by omega) hc2
       | some q =>
         have hpos : 0 < p1.length := List.length_pos_iff.2 (Comp.ne e3)
         have hl1 : l1.length = p1.length + p2.length := by rw [e2, List.length_append]
         have hv : nsOf k r g G.length (some (some q)) = ns k (r - 1) g q := by rw [nsOf_s, if_neg (by omega)]
         rw [hv, if_neg (by unfold ns stS; omega)]
         exact ns_run hx h5 hG hP hl l2 l1 (r - 1) g q (by omega) (by omega) (pk_next hf4 hp).2 ⟨fy, p1, p2, hfy, e2, e3, e4⟩
theorem nest_start (hx : F[k]? = some x) (h5 : x.kind = 5) {b : Nat} : rStep t F (stS k 0) b = if b = 0 then -1 else stS k b := by
 obtain ⟨⟨e1, e2, e3⟩, e4, e5⟩ := st_parts (k := k) (r := 0) (by omega)
 have e0 : stS (k : Int) 0 = stS (k : Int) ((0 : Nat) : Int) := rfl
 unfold rStep
 rw [e0, if_neg (by omega), e1, hx]
 simp only []
 rw [if_pos h5, e2, e3]
 unfold rNest
 rw [if_pos rfl]
 by_cases hb : b = 0
 · rw [if_pos (.inr hb), if_pos hb]
 · rw [if_neg (by rintro (e | e); exact e rfl; exact hb e), if_neg hb]
end
end Go.Proofs.YtfaienbdebjfcaaGreat

namespace Go.Proofs.YtfaienbdebjfcaaGreat
open Go Go.RowKit
set_option linter.unusedVariables false
set_option linter.unusedSimpArgs false
set_option maxRecDepth 100000

def NL (l : List UInt8) : List Nat := l.map (·.toNat)
theorem NL_app {a b : List UInt8} : NL (a ++ b) = NL a ++ NL b := List.map_append
theorem NL_len {a : List UInt8} : (NL a).length = a.length := List.length_map ..
theorem NL_inj {a b : List UInt8} (h : NL a = NL b) : a = b := by
 refine (List.map_inj_right fun x y e => UInt8.toNat_inj.1 e).1 h
theorem NL_bytes {l : List Nat} (h : ∀ b ∈ l, b < 256) : NL (bytesN l).data.toList = l := bytesN_L h
theorem bytesN_sz {l : List Nat} : (bytesN l).size = l.length := by simp [bytesN, ByteArray.size]
theorem ba_len (b : ByteArray) : b.data.toList.length = b.size := by rw [Array.length_toList]; rfl
theorem drop_getD {b : ByteArray} {r : Nat} (h : r < b.size) : b.data.toList.drop r = b.data.toList.getD r 0 :: b.data.toList.drop (r + 1) := by
 rw [List.drop_eq_getElem_cons (by rw [ba_len]; exact h), List.getD_eq_getElem?_getD, List.getElem?_eq_getElem (by rw [ba_len]; exact h)]
 rfl
section
variable {x : Fld}
theorem comp1 (h : x.kind = 1) : ∀ (l : List Nat) (r : Nat), Comp x r l → r < x.bytes.size ∧ l = NL (x.bytes.data.toList.drop r)
 | [], r, hc => hc.elim
 | b :: l, r, hc => by
   unfold Comp pk at hc
   rw [if_pos h] at hc
   by_cases hb : r < x.bytes.size ∧ (x.bytes.data.toList.getD r 0).toNat = b
   · rw [if_pos hb] at hc
     have hd := drop_getD hb.1
     refine ⟨hb.1, ?_⟩
     rw [hd]
     show b :: l = (x.bytes.data.toList.getD r 0).toNat :: NL (x.bytes.data.toList.drop (r + 1))
     rw [hb.2]
     by_cases he : r + 1 = x.bytes.size
     · rw [if_pos he] at hc
       simp only at hc
       rw [hc, List.drop_of_length_le (by rw [ba_len]; omega)]
       rfl
     · rw [if_neg he] at hc
       rw [← (comp1 h l (r + 1) hc).2]
   · rw [if_neg hb] at hc
     exact hc.elim
theorem comp1' (h : x.kind = 1) : ∀ (n r : Nat), x.bytes.size - r = n → r < x.bytes.size → Comp x r (NL (x.bytes.data.toList.drop r)) := by
 intro n
 induction n with
 | zero => intro r h1 h2; omega
 | succ n ih =>
   intro r h1 h2
   have hd := drop_getD h2
   rw [hd]
   show Comp x r ((x.bytes.data.toList.getD r 0).toNat :: NL (x.bytes.data.toList.drop (r + 1)))
   unfold Comp pk
   rw [if_pos h, if_pos ⟨h2, rfl⟩]
   by_cases he : r + 1 = x.bytes.size
   · rw [if_pos he]
     simp only []
     rw [List.drop_of_length_le (by rw [ba_len]; omega)]
     rfl
   · rw [if_neg he]
     exact ih (r + 1) (by omega) (by omega)
theorem comp2 (h : x.kind = 2) : ∀ (l : List Nat) (r : Nat), Comp x r l → ((r + l.length : Nat) : Int) = x.n
 | [], r, hc => hc.elim
 | b :: l, r, hc => by
   unfold Comp pk at hc
   rw [if_neg (by omega), if_pos h] at hc
   by_cases h1 : (r : Int) < x.n
   · rw [if_pos h1] at hc
     by_cases h2 : (r : Int) + 1 = x.n
     · rw [if_pos h2] at hc
       simp only at hc
       subst hc
       simp
       exact h2
     · rw [if_neg h2] at hc
       have := comp2 h l (r + 1) hc
       rw [List.length_cons]
       omega
   · rw [if_neg h1] at hc
     exact hc.elim
theorem comp2' (h : x.kind = 2) : ∀ (l : List Nat) (r : Nat), l ≠ [] → ((r + l.length : Nat) : Int) = x.n → Comp x r l
 | [], r, h1, h2 => absurd rfl h1
 | b :: l, r, h1, h2 => by
   rw [List.length_cons] at h2
   unfold Comp pk
   have h3 : (r : Int) < x.n := by omega
   rw [if_neg (by omega), if_pos h, if_pos h3]
   by_cases h4 : (r : Int) + 1 = x.n
   · rw [if_pos h4]
     simp only []
     exact List.length_eq_zero_iff.1 (by omega)
   · rw [if_neg h4]
     exact comp2' h l (r + 1) (fun e => by subst e; simp at h2; omega) (by omega)
theorem comp3 (h : x.kind = 3) : ∀ (l : List Nat) (r : Nat), 1 ≤ r → Comp x r l → l.length = r ∧ (r : Int) ≤ x.n
 | [], r, hr, hc => hc.elim
 | b :: l, r, hr, hc => by
   unfold Comp pk at hc
   rw [if_neg (by omega), if_neg (by omega), if_neg (by omega), if_pos h, if_neg (by omega)] at hc
   by_cases h1 : (r : Int) ≤ x.n
   · rw [if_pos h1] at hc
     by_cases h2 : r = 1
     · rw [if_pos h2] at hc
       simp only at hc
       subst hc
       exact ⟨by rw [h2]; rfl, h1⟩
     · rw [if_neg h2] at hc
       have := comp3 h l (r - 1) (by omega) hc
       rw [List.length_cons]
       exact ⟨by omega, h1⟩
   · rw [if_neg h1] at hc
     exact hc.elim
theorem comp3' (h : x.kind = 3) : ∀ (l : List Nat) (r : Nat), 1 ≤ r → l.length = r → (r : Int) ≤ x.n → Comp x r l
 | [], r, h1, h2, h3 => by simp at h2; omega
 | b :: l, r, h1, h2, h3 => by
   rw [List.length_cons] at h2
   unfold Comp pk
   rw [if_neg (by omega), if_neg (by omega), if_neg (by omega), if_pos h, if_neg (by omega), if_pos h3]
   by_cases h4 : r = 1
   · rw [if_pos h4]
     simp only []
     exact List.length_eq_zero_iff.1 (by omega)
   · rw [if_neg h4]
     exact comp3' h l (r - 1) (by omega) (by omega) (by omega)
theorem comp_dec (h : P4 x) {l : List Nat} (hl : ∀ b ∈ l, b < 256) (hc : Comp x 0 l) : ∃ v, ValP x v ∧ l = NL (encP1 x v) := by
 rcases h with h | h | h | h
 · have h1 := (comp1 h.1 l 0 hc).2
   exact ⟨zeroVl, .inl ⟨h.1, rfl⟩, by unfold encP1; rw [if_pos h.1, h1]; rfl⟩
 · have h1 := comp2 h.1 l 0 hc
   refine ⟨.mk (bytesN l) 0 [], .inr (.inl ⟨h.1, ?_, rfl⟩), ?_⟩
   · show ((bytesN l).size : Int) = x.n
     rw [bytesN_sz]; omega
   · unfold encP1
     rw [if_neg (by omega), if_neg (by omega), if_neg (by omega)]
     exact (NL_bytes hl).symm
 · cases l with
   | nil => exact hc.elim
   | cons b l =>
     have key : l.length = b ∧ (b : Int) ≤ x.n := by
      unfold Comp pk at hc
      rw [if_neg (by omega), if_neg (by omega), if_neg (by omega), if_pos h.1, if_pos rfl] at hc
      by_cases hb : b = 0
      · rw [if_pos hb] at hc
        simp only at hc
        subst hc
        exact ⟨hb.symm, by omega⟩
      · rw [if_neg hb] at hc
        by_cases hn : (b : Int) ≤ x.n
        · rw [if_pos hn] at hc
          exact comp3 h.1 l b (by omega) hc
        · rw [if_neg hn] at hc
          exact hc.elim
     have hl2 : ∀ b ∈ l, b < 256 := fun b hb => hl b (by simp [hb])
     refine ⟨.mk (bytesN l) 0 [], .inr (.inr (.inl ⟨h.1, ?_, rfl⟩)), ?_⟩
     · show ((bytesN l).size : Int) ≤ x.n
       rw [bytesN_sz]; omega
     · unfold encP1
       rw [if_neg (by omega), if_pos h.1]
       show b :: l = ((bytesN l).size.toUInt8).toNat :: NL (bytesN l).data.toList
       rw [NL_bytes hl2, bytesN_sz]
       congr 1
       have : b < 256 := hl b (by simp)
       simp [Nat.toUInt8]
       omega
 · cases l with
   | nil => exact hc.elim
   | cons b l =>
     unfold Comp pk at hc
     rw [if_neg (by omega), if_neg (by omega), if_pos h.1] at hc
     by_cases hb : x.low ≤ b ∧ (b : Int) ≤ x.high
     · rw [if_pos ⟨rfl, hb⟩] at hc
       simp only at hc
       subst hc
       refine ⟨.mk ⟨#[]⟩ b [], .inr (.inr (.inr (.inl ⟨h.1, hb.1, hb.2, rfl⟩))), ?_⟩
       unfold encP1
       rw [if_neg (by omega), if_neg (by omega), if_pos h.1]
       show [b] = [((b : Int).toNat.toUInt8).toNat]
       have : b < 256 := hl b (by simp)
       congr 1
       simp [Nat.toUInt8]
       omega
     · rw [if_neg (fun e => hb e.2)] at hc
       exact hc.elim
theorem comp_enc (h : P4 x) {v : Vl} (hv : ValP x v) : Comp x 0 (NL (encP1 x v)) := by
 rcases h with h | h | h | h
 · have e : encP1 x v = x.bytes.data.toList := by unfold encP1; rw [if_pos h.1]
   rw [e]
   exact comp1' h.1 _ 0 rfl (by omega)
 · have e : encP1 x v = v.bytes.data.toList := by unfold encP1; rw [if_neg (by omega), if_neg (by omega), if_neg (by omega)]
   have hs : (v.bytes.size : Int) = x.n := by
    rcases hv with g | g | g | g | g <;> first | exact g.2.1 | (exfalso; have := g.1; omega)
   rw [e]
   have hl : (NL v.bytes.data.toList).length = v.bytes.size := by rw [NL_len, ba_len]
   exact comp2' h.1 _ 0 (fun e => by rw [e] at hl; simp at hl; omega) (by rw [hl]; omega)
 · have e : encP1 x v = v.bytes.size.toUInt8 :: v.bytes.data.toList := by unfold encP1; rw [if_neg (by omega), if_pos h.1]
   have hs : (v.bytes.size : Int) ≤ x.n := by
    rcases hv with g | g | g | g | g <;> first | exact g.2.1 | (exfalso; have := g.1; omega)
   rw [e]
   show Comp x 0 ((v.bytes.size.toUInt8).toNat :: NL v.bytes.data.toList)
   have hl : (NL v.bytes.data.toList).length = v.bytes.size := by rw [NL_len, ba_len]
   have hb : (v.bytes.size.toUInt8).toNat = v.bytes.size := by simp [Nat.toUInt8]; omega
   rw [hb]
   unfold Comp pk
   rw [if_neg (by omega), if_neg (by omega), if_neg (by omega), if_pos h.1, if_pos rfl]
   by_cases h0 : v.bytes.size = 0
   · rw [if_pos h0]
     simp only []
     exact List.length_eq_zero_iff.1 (by omega)
   · rw [if_neg h0, if_pos hs]
     exact comp3' h.1 _ _ (by omega) hl hs
 · have e : encP1 x v = [v.num.toNat.toUInt8] := by unfold encP1; rw [if_neg (by omega), if_neg (by omega), if_pos h.1]
   have hs : x.low ≤ v.num ∧ v.num ≤ x.high := by
    rcases hv with g | g | g | g | g <;> first | exact ⟨g.2.1, g.2.2.1⟩ | (exfalso; have := g.1; omega)
   rw [e]
   show Comp x 0 [(v.num.toNat.toUInt8).toNat]
   have hb : (v.num.toNat.toUInt8).toNat = v.num.toNat := by simp [Nat.toUInt8]; omega
   rw [hb]
   unfold Comp pk
   rw [if_neg (by omega), if_neg (by omega), if_pos h.1, if_pos ⟨rfl, by omega, by omega⟩]
theorem compL_dec : ∀ {G : List Fld} {l : List Nat}, (∀ y ∈ G, P4 y) → (∀ b ∈ l, b < 256) → CompL G l → ∃ X, ValsP G X ∧ l = NL (encPs G X)
 | [], l, _, _, hc => ⟨[], ⟨rfl, fun k f x h => by simp at h⟩, hc⟩
 | x :: G, l, h4, hl, ⟨l1, l2, e, c1, c2⟩ => by
   subst e
   obtain ⟨v, hv, e1⟩ := comp_dec (h4 x (by simp)) (fun b hb => hl b (by simp [hb])) c1
   obtain ⟨X, hX, e2⟩ := compL_dec (fun y hy => h4 y (by simp [hy])) (fun b hb => hl b (by simp [hb])) c2
   refine ⟨v :: X, ⟨by simp [hX.1], fun k f y hk hy => ?_⟩, ?_⟩
   · cases k with
     | zero => simp at hk hy; subst hk; subst hy; exact hv
     | succ k => exact hX.2 k f y (by simpa using hk) (by simpa using hy)
   · rw [encPs, NL_app, e1, e2]
theorem compL_enc : ∀ {G : List Fld} {X : List Vl}, (∀ y ∈ G, P4 y) → ValsP G X → CompL G (NL (encPs G X))
 | [], X, _, _ => by cases X <;> rfl
 | x :: G, [], _, h => by have := h.1; simp at this
 | x :: G, v :: X, h4, h => by
   rw [encPs, NL_app]
   exact ⟨_, _, rfl, comp_enc (h4 x (by simp)) (h.2 0 x v rfl rfl), compL_enc (fun y hy => h4 y (by simp [hy])) ⟨by have := h.1; simpa using this, fun k f y hk hy => h.2 (k + 1) f y (by simpa using hk) (by simpa using hy)⟩⟩
end
theorem VPlain.p4 {gm : Fmt} (h : VPlain gm) : ∀ y ∈ gm.fields, P4 y := by
 intro y hy
 obtain ⟨k, hk⟩ := List.mem_iff_getElem?.1 hy
 rcases h.fld k y hk with h | h | h | h
 · exact .inl h
 · exact .inr (.inl h)
 · exact .inr (.inr (.inl h))
 · exact .inr (.inr (.inr h))
section
variable {t : List Fmt} {fm : Fmt} {x : Fld} {k : Nat}
theorem nest_dec {gm : Fmt} {j : Nat} (hx : fm.fields[k]? = some x) (h5 : x.kind = 5) (hn : x.n = j) (hg : t[j]? = some gm) (hV : VPlain gm) {y : Int} (hy : rAcc fm.fields y = true) {l : List Nat} (hl : ∀ b ∈ l, b < 256) (hr : runF (stF t fm.fields) (stS k 0) l = some y) :
 ∃ v l2, ValF t x v ∧ l = NL (encF1 t x v) ++ l2 ∧ runF (stF t fm.fields) (stS (k + 1) 0) l2 = some y := by
 have hG : (t.getD x.n.toNat default).fields = gm.fields := by rw [hn, Int.toNat_natCast, List.getD_eq_getElem?_getD, hg]; rfl
 cases l with
 | nil =>
   simp only [runF, Option.some.injEq] at hr
   have e := st_parts (k := k) (r := 0) (by omega)
   rw [← hr, acc_in (s := stS k 0) (by have := e.1.1; rw [show stS (k : Int) 0 = stS (k : Int) ((0 : Nat) : Int) from rfl, this]; exact hx) (by omega)] at hy
   cases hy
 | cons b l =>
   obtain ⟨z, h1, h2⟩ := run_head hr
   obtain ⟨rfl, hnn⟩ := stF_inv h1
   rw [nest_start hx h5] at hnn h2
   by_cases hb : b = 0
   · rw [if_pos hb] at hnn; omega
   · rw [if_neg hb] at h2
     have hb2 : b < 256 := hl b (by simp)
     have e : stS (k : Int) (b : Int) = ns k b 0 0 := by unfold ns; simp
     rw [e] at h2
     obtain ⟨l1, l2, e1, e2, e3, e4⟩ := run_ns hx h5 hG hV.p4 hV.le hy l b 0 0 (by omega) (by omega) (by omega) (List.length_pos_iff.2 hV.ne) h2
     subst e1
     have e5 := (compAt_L (List.length_pos_iff.2 hV.ne)).1 e3
     rw [List.drop_zero] at e5
     obtain ⟨X, hX, e6⟩ := compL_dec hV.p4 (fun c hc => hl c (by simp [hc])) e5
     refine ⟨.mk ⟨#[]⟩ 0 X, l2, .inr ⟨h5, j, gm, hn, hg, rfl, hX⟩, ?_, e4⟩
     unfold encF1
     rw [if_pos h5, hG]
     show b :: (l1 ++ l2) = ((encPs gm.fields X).length.toUInt8.toNat :: NL (encPs gm.fields X)) ++ l2
     rw [← e6, List.cons_append]
     congr 1
     rw [← NL_len (a := encPs gm.fields X), ← e6, e2]
     simp [Nat.toUInt8]
     omega
theorem compL_ne : ∀ {G : List Fld} {l : List Nat}, G ≠ [] → CompL G l → l ≠ []
 | [], l, h, _ => absurd rfl h
 | x :: G, l, _, ⟨l1, l2, e, c, _⟩ => by subst e; intro e; exact c.ne (List.append_eq_nil_iff.1 e).1
theorem nest_enc {gm : Fmt} {j : Nat} (hx : fm.fields[k]? = some x) (h5 : x.kind = 5) (hn : x.n = j) (hg : t[j]? = some gm) (hV : VPlain gm) {v : Vl} (hv : ValF t x v) (hl : (encF1 t x v).length ≤ 256) (l2 : List Nat) :
 runF (stF t fm.fields) (stS k 0) (NL (encF1 t x v) ++ l2) = runF (stF t fm.fields) (stS (k + 1) 0) l2 := by
 have hG : (t.getD x.n.toNat default).fields = gm.fields := by rw [hn, Int.toNat_natCast, List.getD_eq_getElem?_getD, hg]; rfl
 have hX : ValsP gm.fields v.kids := by
  rcases hv with g | ⟨-, j', gm', e1, e2, e3, e4⟩
  · exfalso
    rcases g with g | g | g | g | g <;> (have := g.1; omega)
  · rw [hn] at e1
    have : j = j' := by omega
    subst this
    rw [hg] at e2
    cases e2
    exact e4
 unfold encF1 at hl ⊢
 rw [if_pos h5, hG] at hl ⊢
 rw [List.length_cons] at hl
 have hc := compL_enc hV.p4 hX
 have hne := compL_ne hV.ne hc
 have hpos : 0 < (encPs gm.fields v.kids).length := by rw [← NL_len]; exact List.length_pos_iff.2 hne
 show runF (stF t fm.fields) (stS k 0) ((encPs gm.fields v.kids).length.toUInt8.toNat :: (NL (encPs gm.fields v.kids) ++ l2)) = _
 have hb : (encPs gm.fields v.kids).length.toUInt8.toNat = (encPs gm.fields v.kids).length := by simp [Nat.toUInt8]; omega
 rw [hb, runF]
 have hst : stF t fm.fields (stS k 0) (encPs gm.fields v.kids).length = some (ns k (encPs gm.fields v.kids).length 0 0) := by
  unfold stF
  have e : stS (k : Int) ((encPs gm.fields v.kids).length : Int) = ns k (encPs gm.fields v.kids).length 0 0 := by unfold ns; simp
  have hz : ¬ (encPs gm.fields v.kids).length = 0 := by omega
  rw [nest_start hx h5, if_neg hz, e, if_neg (by unfold ns stS; omega)]
 rw [hst]
 refine ns_run hx h5 hG hV.p4 hV.le l2 (NL (encPs gm.fields v.kids)) _ 0 0 NL_len (by omega) (by omega) ?_
 exact (compAt_L (List.length_pos_iff.2 hV.ne)).2 (by rw [List.drop_zero]; exact hc)
theorem VFmt.cases (h : VFmt t fm) (hx : fm.fields[k]? = some x) : P4 x ∨ (x.kind = 6 ∧ k + 1 = fm.fields.length ∧ 0 ≤ x.low ∧ x.low ≤ x.high ∧ x.high ≤ 1000) ∨ (x.kind = 5 ∧ ∃ j : Nat, x.n = j ∧ ∃ gm, t[j]? = some gm ∧ VPlain gm) := by
 rcases h.fld k x hx with h | h | h | h | h | h
 · exact .inl (.inl h)
 · exact .inl (.inr (.inl h))
 · exact .inl (.inr (.inr (.inl h)))
 · exact .inl (.inr (.inr (.inr h)))
 · exact .inr (.inl h)
 · exact .inr (.inr h)
theorem valf_p4 {v : Vl} (h : P4 x) (hv : ValF t x v) : ValP x v := by
 rcases hv with h1 | h1
 · exact h1
 · exact absurd h1.1 (p4_kind h).1
theorem valsF_cons {x : Fld} {F : List Fld} {v : Vl} {X : List Vl} : ValsF t (x :: F) (v :: X) ↔ ValF t x v ∧ ValsF t F X := by
 constructor
 · intro h
   exact ⟨h.2 0 x v rfl rfl, by have := h.1; simpa using this, fun k f y hk hy => h.2 (k + 1) f y (by simpa using hk) (by simpa using hy)⟩
 · rintro ⟨h1, h2⟩
   refine ⟨by simp [h2.1], fun k f y hk hy => ?_⟩
   cases k with
   | zero => simp at hk hy; subst hk; subst hy; exact h1
   | succ k => exact h2.2 k f y (by simpa using hk) (by simpa using hy)
theorem fields_dec (h : VFmt t fm) {y : Int} (hy : rAcc fm.fields y = true) : ∀ (n k : Nat) (l : List Nat), fm.fields.length - k = n → k ≤ fm.fields.length → (∀ b ∈ l, b < 256) → runF (stF t fm.fields) (stS k 0) l = some y → ∃ X, ValsF t (fm.fields.drop k) X ∧ l = NL (encFs t (fm.fields.drop k) X) := by
 intro n
 induction n with
 | zero =>
   intro k l h1 h2 hl hr
   have hk : k = fm.fields.length := by omega
   subst hk
   have := run_end hr
   subst this
   rw [List.drop_of_length_le (Nat.le_refl _)]
   exact ⟨[], ⟨rfl, fun k f x h => by simp at h⟩, rfl⟩
 | succ n ih =>
   intro k l h1 h2 hl hr
   obtain ⟨x, hx⟩ : ∃ x, fm.fields[k]? = some x := ⟨_, List.getElem?_eq_getElem (by omega)⟩
   have hd : fm.fields.drop k = x :: fm.fields.drop (k + 1) := by
    obtain ⟨hk, e⟩ := List.getElem?_eq_some_iff.1 hx
    rw [List.drop_eq_getElem_cons hk, e]
   rw [hd]
   rcases h.cases hx with h4 | ⟨h6, hlast, hb1, hb2, hb3⟩ | ⟨h5, j, hj, gm, hgm, hV⟩
   · obtain ⟨l1, l2, e1, e2, e3⟩ := run_fld hx h4 hy l 0 (by omega) hr
     subst e1
     obtain ⟨v, hv, e4⟩ := comp_dec h4 (fun b hb => hl b (by simp [hb])) e2
     obtain ⟨X, hX, e5⟩ := ih (k + 1) l2 (by omega) (by omega) (fun b hb => hl b (by simp [hb])) e3
     refine ⟨v :: X, valsF_cons.2 ⟨.inl hv, hX⟩, ?_⟩
     rw [encFs, NL_app, encF1_p (p4_kind h4).1, ← e4, ← e5]
   · obtain ⟨g1, g2⟩ := run_rest hx h6 hb3 l 0 (by show (0 : Int) ≤ _; omega) hr
     rw [Nat.zero_add] at g1 g2
     rw [g2, acc_rest hx h6 (by omega)] at hy
     have hlow : x.low ≤ (l.length : Int) := by simp at hy; exact hy.1
     rw [hlast, List.drop_of_length_le (Nat.le_refl _)]
     refine ⟨[.mk (bytesN l) 0 []], valsF_cons.2 ⟨.inl (.inr (.inr (.inr (.inr ⟨h6, ?_, ?_, rfl⟩)))), ⟨rfl, fun k f x h => by simp at h⟩⟩, ?_⟩
     · show x.low ≤ ((bytesN l).size : Int)
       rw [bytesN_sz]; exact hlow
     · show ((bytesN l).size : Int) ≤ x.high
       rw [bytesN_sz]; exact g1
     · rw [encFs, NL_app, encF1_p (by omega)]
       unfold encP1
       rw [if_neg (by omega), if_neg (by omega), if_neg (by omega)]
       show l = NL (bytesN l).data.toList ++ []
       rw [NL_bytes hl, List.append_nil]
   · obtain ⟨v, l2, hv, e1, e3⟩ := nest_dec hx h5 hj hgm hV hy hl hr
     subst e1
     obtain ⟨X, hX, e5⟩ := ih (k + 1) l2 (by omega) (by omega) (fun b hb => hl b (by simp [hb])) e3
     refine ⟨v :: X, valsF_cons.2 ⟨hv, hX⟩, ?_⟩
     rw [encFs, NL_app, ← e5]
theorem noRest_last (hx : fm.fields[k]? = some x) (hk : k + 1 = fm.fields.length) (h6 : x.kind ≠ 6) : noRest fm.fields = true := by
 unfold noRest
 rw [List.getLast?_eq_getElem?, show fm.fields.length - 1 = k by omega, hx]
 simp [h6]
theorem fields_enc (h : VFmt t fm) (hlen : ∀ (k : Nat) x v, fm.fields[k]? = some x → ValF t x v → x.kind = 5 → (encF1 t x v).length ≤ 256) : ∀ (n k : Nat) (X : List Vl), fm.fields.length - k = n → (k < fm.fields.length ∨ k = fm.fields.length ∧ noRest fm.fields = true) → ValsF t (fm.fields.drop k) X → ∃ y, runF (stF t fm.fields) (stS k 0) (NL (encFs t (fm.fields.drop k) X)) = some y ∧ rAcc fm.fields y = true := by
 intro n
 induction n with
 | zero =>
   intro k X h1 h2 hX
   obtain ⟨hk, hr⟩ : k = fm.fields.length ∧ noRest fm.fields = true := by rcases h2 with h2 | h2; omega; exact h2
   subst hk
   rw [List.drop_of_length_le (Nat.le_refl _)]
   refine ⟨stS fm.fields.length 0, by cases X <;> rfl, by rw [acc_end]; exact hr⟩
 | succ n ih =>
   intro k X h1 h2 hX
   obtain ⟨x, hx⟩ : ∃ x, fm.fields[k]? = some x := ⟨_, List.getElem?_eq_getElem (by omega)⟩
   have hd : fm.fields.drop k = x :: fm.fields.drop (k + 1) := by
    obtain ⟨hk, e⟩ := List.getElem?_eq_some_iff.1 hx
    rw [List.drop_eq_getElem_cons hk, e]
   rw [hd] at hX ⊢
   have hnext : x.kind ≠ 6 → (k + 1 < fm.fields.length ∨ k + 1 = fm.fields.length ∧ noRest fm.fields = true) := fun h6 => by
    by_cases hl : k + 1 = fm.fields.length
    · exact .inr ⟨hl, noRest_last hx hl h6⟩
    · exact .inl (by omega)
   cases X with
   | nil => have := hX.1; simp at this
   | cons v X =>
     obtain ⟨hv, hX⟩ := valsF_cons.1 hX
     rw [encFs, NL_app]
     rcases h.cases hx with h4 | ⟨h6, hlast, hb1, hb2, hb3⟩ | ⟨h5, j, hj, gm, hgm, hV⟩
     · rw [encF1_p (p4_kind h4).1, show stS (k : Int) 0 = stS (k : Int) ((0 : Nat) : Int) from rfl, fld_run hx h4 _ _ 0 (by omega) (comp_enc h4 (valf_p4 h4 hv))]
       exact ih (k + 1) X (by omega) (hnext (p4_kind h4).2) hX
     · have hvb : x.low ≤ (v.bytes.size : Int) ∧ (v.bytes.size : Int) ≤ x.high := by
        rcases hv with (g | g | g | g | g) | g <;> first | exact ⟨g.2.1, g.2.2.1⟩ | (exfalso; have := g.1; omega)
       have e1 : encF1 t x v = v.bytes.data.toList := by
        rw [encF1_p (by omega)]
        unfold encP1
        rw [if_neg (by omega), if_neg (by omega), if_neg (by omega)]
       have e2 : NL (encFs t (fm.fields.drop (k + 1)) X) = [] := by
        rw [hlast, List.drop_of_length_le (Nat.le_refl _)]
        cases X <;> rfl
       have e3 : (NL v.bytes.data.toList).length = v.bytes.size := by rw [NL_len, ba_len]
       rw [e1, e2, List.append_nil]
       have hr := rest_run (t := t) hx h6 hb3 (NL v.bytes.data.toList) 0 (by rw [e3]; omega)
       rw [Nat.zero_add, e3] at hr
       refine ⟨_, hr, ?_⟩
       rw [acc_rest hx h6 (by omega)]
       simp [hvb]
     · rw [nest_enc hx h5 hj hgm hV hv (hlen k x v hx hv h5)]
       exact ih (k + 1) X (by omega) (hnext (by omega)) hX
theorem bel_dec (h : VFmt t fm) {s : ByteArray} (hb : belS t fm.fields s = true) : ∃ X, ValsF t fm.fields X ∧ s.data.toList = encFs t fm.fields X := by
 obtain ⟨y, hr, ha⟩ := bel_run hb
 obtain ⟨X, hX, e⟩ := fields_dec h ha _ 0 (bytesL s) rfl (Nat.zero_le _) (bytesL_lt s) hr
 rw [List.drop_zero] at hX e
 exact ⟨X, hX, NL_inj e⟩
theorem bel_enc (h : VFmt t fm) (hlen : ∀ (k : Nat) x v, fm.fields[k]? = some x → ValF t x v → x.kind = 5 → (encF1 t x v).length ≤ 256) {X : List Vl} (hX : ValsF t fm.fields X) : ∃ y, runF (stF t fm.fields) 0 (NL (encFs t fm.fields X)) = some y ∧ rAcc fm.fields y = true := by
 have := fields_enc h hlen _ 0 X rfl (.inl (List.length_pos_iff.2 h.ne)) (by rw [List.drop_zero]; exact hX)
 rw [List.drop_zero] at this
 exact this
end
end Go.Proofs.YtfaienbdebjfcaaGreat

namespace Go.Proofs.YtfaienbdebjfcaaGreat
open Go Go.RowKit
set_option linter.unusedVariables false
set_option linter.unusedSimpArgs false
set_option maxRecDepth 100000

theorem nested_len {t : List Fmt} (hv : validF t = 0) {f : Fld} {x : Vl} (hg : FGd t f) (hx : ValF t f x) (h5 : f.kind = 5) : (encF1 t f x).length ≤ 97 := by
 obtain ⟨k, g, h1, h2, h3, h4, h6, h7⟩ := nest_get hv hg h5
 have hk : ValsP g.fields x.kids := by
  rcases hx with (h | h | h | h | h) | ⟨-, j, gm, e1, e2, -, e4⟩
  iterate 5 (exact absurd h.1 (by omega))
  have : j = k := by omega
  subst this
  rw [h2] at e2
  cases e2
  exact e4
 have hl := encPs_len h7 (fun y hy => (h4 y hy).2) hk
 unfold encF1; rw [if_pos h5, h3, List.length_cons]; omega
theorem fld_len {t : List Fmt} (hv : validF t = 0) {i : Nat} {fm : Fmt} (hi : t[i]? = some fm) (k : Nat) (x : Fld) (v : Vl) (hx : fm.fields[k]? = some x) (hval : ValF t x v) (h5 : x.kind = 5) : (encF1 t x v).length ≤ 256 :=
 Nat.le_trans (nested_len hv (fields_gd hv hi x (List.mem_of_getElem? hx)) hval h5) (by omega)
theorem stF_pair {t : List Fmt} {F : List Fld} {l : List Nat} {y : Int} (h : runF (stF t F) 0 l = some y) : runF (stP t F F) (0, 0) l = some (y, y) := pair_run l (0, 0) y y h h
/-- two strings that PrefixFree returns -/
theorem pre_found {t : List Fmt} {fm : Fmt} {L : List (Int × Int)} {Ws : List (Nat × Nat)} {s1 s2 : ByteArray} (hF : Full (stP t fm.fields fm.fields) (0, 0) L) (hW : Ways (stP t fm.fields fm.fields) L Ws)
 (h : ContR (stF t fm.fields) (stF t fm.fields) (rAcc fm.fields) (rAcc fm.fields) L Ws true s1 s2 0) : belS t fm.fields s1 = true ∧ belS t fm.fields s2 = true ∧ ∃ r : List UInt8, r ≠ [] ∧ s2.data.toList = s1.data.toList ++ r := by
 rcases h with ⟨-, k, p, l, hk, ha, e1, e2, hne, hl, -, y, hr, hy⟩ | ⟨h, -⟩
 · have h0 : L[0]? = some (0, 0) := by obtain ⟨q, rfl, -⟩ := hF; exact lev_start
   have hkl := (List.getElem?_eq_some_iff.1 hk).1
   have hlw : L.length = Ws.length := hW.1.symm
   obtain ⟨g1, g2, -⟩ := hW.path h0 Ws.length k p (by omega) hk
   obtain ⟨path, hp⟩ : ∃ path, path = (pathR Ws Ws.length k).reverse := ⟨_, rfl⟩
   rw [← hp] at g1 e1 e2
   have hpl : ∀ b ∈ path, b < 256 := fun b hb => g2 b (by rw [hp] at hb; exact List.mem_reverse.1 hb)
   obtain ⟨q1, q2⟩ := run_pair path (0, 0) p g1
   have hall : ∀ b ∈ path ++ l, b < 256 := fun b hb => by
    rcases List.mem_append.1 hb with hb | hb
    · exact hpl b hb
    · exact hl b hb
   refine ⟨?_, ?_, l.map UInt8.ofNat, by simp; exact hne rfl, ?_⟩
   · unfold belS
     rw [e1, bytesN_L hpl, q1]
     exact ha
   · unfold belS
     rw [e2, bytesN_L hall, runF_append, q2]
     show (match runF (stF t fm.fields) p.2 l with | some y => rAcc fm.fields y | none => false) = true
     rw [hr]
     exact hy
   · rw [e1, e2]
     simp [bytesN]
 · omega
/-- no string of the format begins another one: the rest, if there is one, has one length -/
theorem safe_rest {t : List Fmt} (hv : validF t = 0) {i : Nat} {fm : Fmt} (hi : t[i]? = some fm) {L : List (Int × Int)} (hF : Full (stP t fm.fields fm.fields) (0, 0) L)
 (h : ∀ p ∈ L, rAcc fm.fields p.1 = true → NoOn (stF t fm.fields) (rAcc fm.fields) p.2 true) {X : List Vl} (hX : ValsF t fm.fields X) {j : Nat} {f : Fld} (hf : fm.fields[j]? = some f) (h6 : f.kind = 6) : f.low = f.high := by
 have hVF := valid_VFmt hv hi
 have hlast := rest_last hv hi hf h6
 obtain ⟨hb1, hb2, hb3⟩ : 0 ≤ f.low ∧ f.low ≤ f.high ∧ f.high ≤ 1000 := by
  rcases hVF.cases hf with h | h | h
  · exact absurd h6 (p4_kind h).2
  · exact h.2.2
  · exact absurd h.1 (by omega)
 by_cases hlt : f.low = f.high
 · exact hlt
 exfalso
 obtain ⟨z, hz⟩ : ∃ z : Nat → Vl, z = fun n => .mk ⟨(List.replicate n (0 : UInt8)).toArray⟩ 0 [] := ⟨_, rfl⟩
 have hzs : ∀ n, (z n).bytes.data.toList = List.replicate n (0 : UInt8) := fun n => by rw [hz]; rfl
 have hzn : ∀ n, (z n).bytes.size = n := fun n => by rw [← ba_len, hzs, List.length_replicate]
 have hXl := hX.1
 have key : ∀ n : Nat, f.low ≤ (n : Int) → (n : Int) ≤ f.high → ∃ y, runF (stF t fm.fields) 0 (NL (encFs t (fm.fields.take j) (X.take j)) ++ NL (List.replicate n 0)) = some y ∧ rAcc fm.fields y = true := by
  intro n hn1 hn2
  have hVn : ValsF t fm.fields (X.set j (z n)) := by
   refine ⟨by rw [List.length_set]; exact hXl, fun k g x hg hx => ?_⟩
   by_cases hk : k = j
   · subst hk
     rw [hf] at hg
     cases hg
     rw [List.getElem?_set_self (by omega)] at hx
     cases hx
     refine .inl (.inr (.inr (.inr (.inr ⟨h6, by rw [hzn]; exact hn1, by rw [hzn]; exact hn2, ?_⟩))))
     rw [hz]; rfl
   · rw [List.getElem?_set_ne (by omega)] at hx
     exact hX.2 k g x hg hx
  have h2 := bel_enc hVF (fld_len hv hi) hVn
  have e : encFs t fm.fields (X.set j (z n)) = encFs t (fm.fields.take j) (X.take j) ++ List.replicate n 0 := by
   have h1 := encFs_take (t := t) hf (show (X.set j (z n))[j]? = some (z n) by rw [List.getElem?_set_self (by omega)])
   rw [List.take_of_length_le (by omega), List.take_of_length_le (by rw [List.length_set]; omega)] at h1
   rw [h1, List.take_set_of_le (by omega)]
   congr 1
   rw [encF1_p (by omega)]
   unfold encP1
   rw [if_neg (by omega), if_neg (by omega), if_neg (by omega), hzs]
  rw [e, NL_app] at h2
  exact h2
 obtain ⟨m, hm⟩ : ∃ m : Nat, f.low = (m : Int) := ⟨f.low.toNat, by omega⟩
 obtain ⟨y1, r1, a1⟩ := key m (by omega) (by omega)
 obtain ⟨y2, r2, a2⟩ := key (m + 1) (by omega) (by omega)
 have hb : ∀ b ∈ NL (encFs t (fm.fields.take j) (X.take j)) ++ NL (List.replicate m 0), b < 256 := by
  intro b hb
  rw [← NL_app] at hb
  obtain ⟨c, -, rfl⟩ := List.mem_map.1 hb
  exact UInt8.toNat_lt c
 have hin := hF.run _ (0, 0) (y1, y1) hF.start hb (stF_pair r1)
 have e2 : NL (List.replicate (m + 1) 0) = NL (List.replicate m 0) ++ [0] := by
  rw [List.replicate_succ', NL_app]; rfl
 rw [e2, ← List.append_assoc, runF_append, r1] at r2
 have := h _ hin a1 [0] (by simp) (by simp) y2 r2
 rw [a2] at this
 cases this
theorem bndT_from (t : List Fmt) : ∀ (L : List Fld) (p : Int × Int), L.foldl (fun p x => addP p (bndF t x)) p = addP p (bndT t L)
 | [], p => by simp [bndT, addP]
 | x :: L, p => by
   have h1 := bndT_from t L (addP (0, 0) (bndF t x))
   rw [List.foldl_cons, bndT_from t L]
   unfold bndT at h1 ⊢
   rw [List.foldl_cons, h1]
   simp only [addP]
   ext <;> simp <;> omega
theorem bndT_cons (t : List Fmt) (x : Fld) (L : List Fld) : bndT t (x :: L) = addP (bndF t x) (bndT t L) := by
 have := bndT_from t L (addP (0, 0) (bndF t x))
 unfold bndT at this ⊢
 rw [List.foldl_cons, this]
 simp [addP]
theorem bndL_from : ∀ (L : List Fld) (p : Int × Int), L.foldl (fun p x => addP p (bnd0 x)) p = addP p (bndL L)
 | [], p => by simp [bndL, addP]
 | x :: L, p => by
   have h1 := bndL_from L (addP (0, 0) (bnd0 x))
   rw [List.foldl_cons, bndL_from L]
   unfold bndL at h1 ⊢
   rw [List.foldl_cons, h1]
   simp only [addP]
   ext <;> simp <;> omega
theorem bndL_cons (x : Fld) (L : List Fld) : bndL (x :: L) = addP (bnd0 x) (bndL L) := by
 have := bndL_from L (addP (0, 0) (bnd0 x))
 unfold bndL at this ⊢
 rw [List.foldl_cons, this]
 simp [addP]
theorem enc_bnd0 {f : Fld} {x : Vl} (h : ValP f x) : (bnd0 f).1 ≤ ((encP1 f x).length : Int) ∧ ((encP1 f x).length : Int) ≤ (bnd0 f).2 := by
 unfold bnd0 encP1
 rcases h with h | h | h | h | h
 · rw [if_pos h.1, if_pos h.1, ba_len]; exact ⟨Int.le_refl _, Int.le_refl _⟩
 · rw [if_neg (by omega), if_pos h.1, if_neg (by omega), if_neg (by omega), if_neg (by omega), ba_len]
   show f.n ≤ _ ∧ _ ≤ f.n
   omega
 · rw [if_neg (by omega), if_neg (by omega), if_pos h.1, if_neg (by omega), if_pos h.1, List.length_cons, ba_len]
   show (1 : Int) ≤ _ ∧ _ ≤ 1 + f.n
   omega
 · rw [if_neg (by omega), if_neg (by omega), if_neg (by omega), if_neg (by omega), if_neg (by omega), if_neg (by omega), if_pos h.1]
   simp
 · rw [if_neg (by omega), if_neg (by omega), if_neg (by omega), if_pos h.1, if_neg (by omega), if_neg (by omega), if_neg (by omega), ba_len]
   exact ⟨h.2.1, h.2.2.1⟩
theorem encPs_bnd : ∀ {F : List Fld} {X : List Vl}, ValsP F X → (bndL F).1 ≤ ((encPs F X).length : Int) ∧ ((encPs F X).length : Int) ≤ (bndL F).2
 | [], X, _ => by cases X <;> simp [encPs, bndL]
 | f :: F, [], h => by have := h.1; simp at this
 | f :: F, x :: X, h => by
   have h1 := enc_bnd0 (h.2 0 f x rfl rfl)
   have h2 := encPs_bnd (F := F) (X := X) ⟨by have := h.1; simpa using this, fun k g y hg hy => h.2 (k + 1) g y (by simpa using hg) (by simpa using hy)⟩
   rw [encPs, List.length_append, bndL_cons]
   simp only [addP]
   omega
theorem enc_bndF {t : List Fmt} {f : Fld} {x : Vl} (h : ValF t f x) : (bndF t f).1 ≤ ((encF1 t f x).length : Int) ∧ ((encF1 t f x).length : Int) ≤ (bndF t f).2 := by
 rcases h with h | ⟨h5, j, gm, e1, e2, e3, e4⟩
 · have h5 : f.kind ≠ 5 := by rcases h with h | h | h | h | h <;> (have := h.1; omega)
   unfold bndF
   rw [if_neg h5, encF1_p h5]
   exact enc_bnd0 h
 · have hG : (t.getD f.n.toNat default).fields = gm.fields := by rw [e1, Int.toNat_natCast, List.getD_eq_getElem?_getD, e2]; rfl
   unfold bndF encF1
   rw [if_pos h5, if_pos h5, hG, List.length_cons]
   have := encPs_bnd e4
   simp only [addP]
   omega
theorem encFs_bnd {t : List Fmt} : ∀ {F : List Fld} {X : List Vl}, ValsF t F X → (bndT t F).1 ≤ ((encFs t F X).length : Int) ∧ ((encFs t F X).length : Int) ≤ (bndT t F).2
 | [], X, _ => by cases X <;> simp [encFs, bndT]
 | f :: F, [], h => by have := h.1; simp at this
 | f :: F, x :: X, h => by
   obtain ⟨h1, h2⟩ := valsF_cons.1 h
   have h3 := enc_bndF h1
   have h4 := encFs_bnd h2
   rw [encFs, List.length_append, bndT_cons]
   simp only [addP]
   omega
end Go.Proofs.YtfaienbdebjfcaaGreat
