/- The states of the walk of live. -/
import Derived.Test.YthoelnoahfedmaaS28
namespace Go.Proofs.Ythoelnoahfedmaa
open Go Go.RowKit
open Go.Maps (Keyed)
set_option linter.unusedVariables false
set_option linter.unusedSimpArgs false

/-- the backward search at n, the first k predecessors done -/
abbrev LiveK (f : Int → Nat → Option Int) (acc : Int → Bool) (more : Bool) (L O T B : List Int) (n k : Int) (j : Nat) : Prop := LiveI f acc more L O T (fun a m => a = n → m ∈ B.take j)

section
variable {f : Int → Nat → Option Int} {acc : Int → Bool} {more : Bool} {L O T B : List Int} {n m : Int} {j : Nat} {D D' : Int → Int → Prop}
theorem LiveI.pop (h : LiveI f acc more L O (n :: T) (fun _ _ => True)) : LiveI f acc more L O T (fun a m => a = n → m ∈ B.take 0) := by
  refine ⟨h.sub, h.live, fun x hx => h.todo x (by simp [hx]), fun a ha hc => ?_, h.zero⟩
  by_cases e : a = n
  · subst e
    exact .inr fun m hm b hb hf => .inr (fun hd => by simpa using hd rfl)
  · rcases h.closed a ha hc with h1 | h1
    · rcases List.mem_cons.1 h1 with h1 | h1
      · exact absurd h1 e
      · exact .inl h1
    · exact .inr fun m hm b hb hf => by
        rcases h1 m hm b hb hf with h2 | h2
        · exact .inl h2
        · exact absurd trivial h2
theorem LiveI.old (h : LiveI f acc more L O T (fun a m => a = n → m ∈ B.take j)) (hj : B[j]? = some m) (hm : m ∈ O) : LiveI f acc more L O T (fun a m => a = n → m ∈ B.take (j + 1)) := by
  refine ⟨h.sub, h.live, h.todo, fun a ha hc => ?_, h.zero⟩
  rcases h.closed a ha hc with h1 | h1
  · exact .inl h1
  · refine .inr fun z hz b hb hf => ?_
    by_cases hzm : z = m
    · subst hzm; exact .inl hm
    · rcases h1 z hz b hb hf with h2 | h2
      · exact .inl h2
      · refine .inr fun hd => h2 fun e => ?_
        have := hd e
        rw [List.take_add_one, hj] at this
        simp only [Option.toList_some, List.mem_append, List.mem_singleton] at this
        exact this.resolve_right hzm
theorem LiveI.new (h : LiveI f acc more L O T (fun a m => a = n → m ∈ B.take j)) (hj : B[j]? = some m) (hmL : m ∈ L) (hl : LiveS f acc more m) (hl0 : LiveS f acc false m) : LiveI f acc more L (O ++ [m]) (T ++ [m]) (fun a m => a = n → m ∈ B.take (j + 1)) := by
  refine ⟨fun x hx => ?_, fun x hx => ?_, fun x hx => ?_, fun a ha hc => ?_, fun e a ha hc => by simp [h.zero e a ha hc]⟩
  · rcases List.mem_append.1 hx with hx | hx
    · exact h.sub x hx
    · simp at hx; subst hx; exact hmL
  · rcases List.mem_append.1 hx with hx | hx
    · exact h.live x hx
    · simp at hx; subst hx; exact hl
  · rcases List.mem_append.1 hx with hx | hx
    · exact h.todo x hx
    · simp at hx; subst hx; exact ⟨hmL, hl0⟩
  · by_cases ham : a = m
    · subst ham; exact .inl (by simp)
    · have hc' : acc a = true ∨ a ∈ O := hc.imp id fun h => by simpa [ham] using h
      rcases h.closed a ha hc' with h1 | h1
      · exact .inl (by simp [h1])
      · refine .inr fun z hz b hb hf => ?_
        by_cases hzm : z = m
        · subst hzm; exact .inl (by simp)
        · rcases h1 z hz b hb hf with h2 | h2
          · exact .inl (by simp [h2])
          · refine .inr fun hd => h2 fun e => ?_
            have := hd e
            rw [List.take_add_one, hj] at this
            simp only [Option.toList_some, List.mem_append, List.mem_singleton] at this
            exact this.resolve_right hzm
theorem LiveI.done (h : LiveI f acc more L O T (fun a m => a = n → m ∈ B.take j)) (hj : B.length ≤ j) (hB : ∀ m ∈ L, ∀ b < 256, f m b = some n → m ∈ B) : LiveI f acc more L O T (fun _ _ => True) := by
  refine ⟨h.sub, h.live, h.todo, fun a ha hc => ?_, h.zero⟩
  rcases h.closed a ha hc with h1 | h1
  · exact .inl h1
  · refine .inr fun z hz b hb hf => ?_
    rcases h1 z hz b hb hf with h2 | h2
    · exact .inl h2
    · exact absurd (fun e => by rw [List.take_of_length_le hj]; subst e; exact hB z hz b hb hf) h2
theorem LiveI.start : LiveI f acc more L (if more then [] else L.filter acc) (L.filter acc) (fun _ _ => True) := by
  have h0 : ∀ x ∈ L.filter acc, x ∈ L ∧ LiveS f acc false x := fun x hx => by
    rw [List.mem_filter] at hx
    exact ⟨hx.1, [], by simp, by simp, x, rfl, hx.2⟩
  have hO : ∀ x ∈ (if more then [] else L.filter acc), x ∈ L.filter acc ∧ more = false := fun x hx => by
    cases more <;> simp at hx ⊢
    exact hx
  refine ⟨fun x hx => (h0 x (hO x hx).1).1, fun x hx => ?_, h0, fun a ha hc => .inl ?_, fun e a ha hc => ?_⟩
  · have := hO x hx
    rw [this.2]
    exact (h0 x this.1).2
  · rcases hc with hc | hc
    · exact List.mem_filter.2 ⟨ha, hc⟩
    · exact (hO a hc).1
  · subst e
    simp only [Bool.false_eq_true, if_false]
    exact List.mem_filter.2 ⟨ha, hc⟩
end

/-- what the map of predecessors holds when k rows and c bytes of row k have been walked -/
def BackS (f : Int → Nat → Option Int) (L : List Int) (k : Nat) (x : Int) (c : Nat) (G : Int → List Int) : Prop :=
  (∀ n, (G n).length ≤ 256 * k + c) ∧ ∀ n m, m ∈ G n ↔ (∃ i, i < k ∧ L[i]? = some m ∧ ∃ b < 256, f m b = some n) ∨ (m = x ∧ ∃ b < c, f x b = some n)

section
variable {f : Int → Nat → Option Int} {L L' : List Int} {k c : Nat} {x n : Int} {G : Int → List Int}
theorem BackS.start {x : Int} : BackS f L 0 x 0 (fun _ => []) := ⟨fun n => by simp, fun n m => by simp⟩
theorem BackS.pre (h : BackS f L k x c G) (hL : ∀ i, i < k → L'[i]? = L[i]?) : BackS f L' k x c G := ⟨h.1, fun n m => by
  rw [h.2]
  constructor
  · rintro (⟨i, h1, h2⟩ | h)
    · exact .inl ⟨i, h1, by rw [hL i h1]; exact h2⟩
    · exact .inr h
  · rintro (⟨i, h1, h2⟩ | h)
    · exact .inl ⟨i, h1, by rw [← hL i h1]; exact h2⟩
    · exact .inr h⟩
theorem BackS.none (h : BackS f L k x c G) (hf : f x c = none) : BackS f L k x (c + 1) G := ⟨fun n => by have := h.1 n; omega, fun n m => by
  rw [h.2]
  refine or_congr Iff.rfl (and_congr Iff.rfl ⟨fun ⟨b, h1, h2⟩ => ⟨b, by omega, h2⟩, fun ⟨b, h1, h2⟩ => ?_⟩)
  by_cases e : b = c
  · subst e; rw [hf] at h2; cases h2
  · exact ⟨b, by omega, h2⟩⟩
theorem BackS.old (h : BackS f L k x c G) (hf : f x c = some n) (hx : x ∈ G n) : BackS f L k x (c + 1) G := ⟨fun n => by have := h.1 n; omega, fun n' m => by
  constructor
  · intro hm
    rcases (h.2 n' m).1 hm with h1 | ⟨h1, b, h2, h3⟩
    · exact .inl h1
    · exact .inr ⟨h1, b, by omega, h3⟩
  · rintro (h1 | ⟨h1, b, h2, h3⟩)
    · exact (h.2 n' m).2 (.inl h1)
    · by_cases e : b = c
      · subst e
        rw [hf] at h3
        cases h3
        rw [h1]; exact hx
      · exact (h.2 n' m).2 (.inr ⟨h1, b, by omega, h3⟩)⟩
theorem BackS.new (h : BackS f L k x c G) (hf : f x c = some n) : BackS f L k x (c + 1) (fun z => if z = n then G n ++ [x] else G z) := ⟨fun z => by
  have h1 := h.1 n
  have h2 := h.1 z
  show (if z = n then G n ++ [x] else G z).length ≤ _
  split
  · simp; omega
  · omega, fun z m => by
  show m ∈ (if z = n then G n ++ [x] else G z) ↔ _
  constructor
  · intro hm
    split at hm
    · rename_i e
      subst e
      rcases List.mem_append.1 hm with hm | hm
      · rcases (h.2 z m).1 hm with h1 | ⟨h1, b, h2, h3⟩
        · exact .inl h1
        · exact .inr ⟨h1, b, by omega, h3⟩
      · simp at hm
        exact .inr ⟨hm, c, by omega, hf⟩
    · rcases (h.2 z m).1 hm with h1 | ⟨h1, b, h2, h3⟩
      · exact .inl h1
      · exact .inr ⟨h1, b, by omega, h3⟩
  · rintro (h1 | ⟨h1, b, h2, h3⟩)
    · have := (h.2 z m).2 (.inl h1)
      split
      · rename_i e; subst e; simp [this]
      · exact this
    · by_cases e : b = c
      · subst e
        rw [hf] at h3
        cases h3
        rw [if_pos rfl, h1]; simp
      · have := (h.2 z m).2 (.inr ⟨h1, b, by omega, h3⟩)
        split
        · rename_i e; subst e; simp [this]
        · exact this⟩
theorem BackS.row (h : BackS f L k x 256 G) (hx : L[k]? = some x) {y : Int} : BackS f L (k + 1) y 0 G := ⟨fun n => by have := h.1 n; omega, fun n m => by
  rw [h.2]
  constructor
  · rintro (⟨i, h1, h2⟩ | ⟨rfl, b, h2, h3⟩)
    · exact .inl ⟨i, by omega, h2⟩
    · exact .inl ⟨k, by omega, hx, b, h2, h3⟩
  · rintro (⟨i, h1, h2, b, h3, h4⟩ | ⟨-, b, h2, -⟩)
    · by_cases e : i = k
      · subst e
        rw [hx] at h2
        cases h2
        exact .inr ⟨rfl, b, h3, h4⟩
      · exact .inl ⟨i, by omega, h2, b, h3, h4⟩
    · omega⟩
theorem BackS.first (h : BackS f L k x 0 G) {y : Int} : BackS f L k y 0 G := ⟨h.1, fun n m => by
  rw [h.2]
  constructor
  · rintro (h1 | ⟨-, b, h2, -⟩)
    · exact .inl h1
    · omega
  · rintro (h1 | ⟨-, b, h2, -⟩)
    · exact .inl h1
    · omega⟩
theorem BackS.whole (h : BackS f L k x 0 G) (hk : L.length ≤ k) (n m : Int) : m ∈ G n ↔ m ∈ L ∧ ∃ b < 256, f m b = some n := by
  rw [h.2]
  constructor
  · rintro (⟨i, h1, h2, h3⟩ | ⟨-, b, h2, -⟩)
    · exact ⟨List.mem_of_getElem? h2, h3⟩
    · omega
  · rintro ⟨h1, h2⟩
    obtain ⟨i, hi⟩ := List.mem_iff_getElem?.1 h1
    exact .inl ⟨i, by have := (List.getElem?_eq_some_iff.1 hi).1; omega, hi, h2⟩
end

/-- the state of the first search -/
structure LvA (w wr : World) (mb bb : Nat) (lv : Value) (L : List Int) (G : Int → List Int) : Prop where
  s : Srch w wr mb lv L
  g : BackG wr w.heap.size bb G (fun k => k = mb ∨ lv.ownBlock = some k)
  ne : mb ≠ bb
  bbge : w.heap.size ≤ bb
  apart : lv.ownBlock ≠ some bb
theorem LvA.next {w wr w' : World} {mb bb : Nat} {lv : Value} {L : List Int} {G : Int → List Int} (h : LvA w wr mb bb lv L G) (hE : Ext wr w') : LvA w w' mb bb lv L G :=
  ⟨h.s.next hE, h.g.ext hE, h.ne, h.bbge, h.apart⟩
theorem Srch.other {w wr w' : World} {mb : Nat} {lv : Value} {L : List Int} (h : Srch w wr mb lv L) (hm : w'.heap[mb]? = wr.heap[mb]?) (hl : ∀ g, lv.ownBlock = some g → w'.heap[g]? = wr.heap[g]?) (hE : Ext w w') : Srch w w' mb lv L :=
  ⟨ownsRow_same h.own hl, let ⟨n, h'⟩ := h.map; ⟨n, h'.same hm⟩, h.apart, h.mb, hE⟩
/-- back[n] = append(back[n], x) -/
theorem LvA.back {w wr : World} {mb bb : Nat} {lv : Value} {L : List Int} {G : Int → List Int} (h : LvA w wr mb bb lv L G) {n x : Int} (hn : I64 n) : ∃ v, (Instr.lookup 111 (.map (some bb)) (.int .i64 n) false).run Try.prog wr = .ok v wr ∧ QOwn wr w.heap.size v (G n) ∧
    ∀ (wz : World) (o : Obj) (w1 : World) (v' : Value), Ext wr wz → (wz.alloc o).grownBy w1 v.ownBlock → QOwn w1 w.heap.size v' (G n ++ [x]) → (v'.ownBlock = v.ownBlock ∨ ∃ k, v'.ownBlock = some k ∧ (wz.alloc o).heap.size ≤ k) →
      ∃ w2, (Instr.mapUpdate 111 (.map (some bb)) (.int .i64 n) v').run Try.prog w1 = .ok () w2 ∧ LvA w w2 mb bb lv L (fun z => if z = n then G n ++ [x] else G z) := by
  obtain ⟨v, h1, h2, h3, h4⟩ := h.g.look hn
  refine ⟨v, h1, h2, fun wz o w1 v' hE hg hq hat => ?_⟩
  have hblk : ∀ k, k < wr.heap.size → v.ownBlock ≠ some k → w1.heap[k]? = wr.heap[k]? := fun k hk hne => by
    rw [hg.block k (by have := hE.size; simp; omega) (fun e => hne e.symm), (Ext.alloc wz o).block (by have := hE.size; omega)]
    exact hE.block hk
  have hlvlt : ∀ k, lv.ownBlock = some k → k < wr.heap.size := fun k hk => (h.s.own.lt k hk).2
  have hmlt : mb < wr.heap.size := by obtain ⟨n, hM⟩ := h.s.map; exact hM.lt
  have hzs := hE.size
  obtain ⟨w2, h5, h6, h7, h8⟩ := h4 w1 v' x hblk hq (hat.imp id fun ⟨k, e, hk⟩ => ⟨k, e, by simp at hk; omega, fun hap => by
    simp at hk
    rcases hap with e' | e'
    · omega
    · have := hlvlt k e'; omega⟩)
  have hm1 : ∀ k, k < wr.heap.size → (k = mb ∨ lv.ownBlock = some k) → w1.heap[k]? = wr.heap[k]? := fun k hk hc => hblk k hk (fun e => (h3 k e).2 hc)
  refine ⟨w2, h5, ?_, h6, h.ne, h.bbge, h.apart⟩
  refine h.s.other ?_ (fun g hgo => ?_) ?_
  · rw [h7 mb h.ne]; exact hm1 mb hmlt (.inl rfl)
  · rw [h7 g (fun e => h.apart (by rw [hgo, e]))]; exact hm1 g (hlvlt g hgo) (.inr hgo)
  · exact h8 w (((h.s.ext.trans hE).then_al o).grown hg (fun k hk => (h2.lt k hk).1)) h.bbge
theorem LvA.look {w wr : World} {mb bb : Nat} {lv : Value} {L : List Int} {G : Int → List Int} (h : LvA w wr mb bb lv L G) {n : Int} (hn : I64 n) : (Instr.lookup 72 (.map (some mb)) (.int .i64 n) false).run Try.prog wr = .ok (.bool (decide (n ∈ L))) wr := h.s.look hn
/-- a new state: into the map, then on the list -/
theorem LvA.push {w wr : World} {mb bb : Nat} {lv : Value} {L : List Int} {G : Int → List Int} (h : LvA w wr mb bb lv L G) {n : Int} (hn : I64 n) : ∃ w4, (Instr.mapUpdate 72 (.map (some mb)) (.int .i64 n) (.bool true)).run Try.prog wr = .ok () w4 ∧ w4.ownsRow w.heap.size 3 1 lv L.length (L.map encI) ∧ w.heap.size ≤ w4.heap.size ∧
    ∀ (o : Obj) (w5 : World) (v' : Value), w5.ownsRow w.heap.size 3 1 v' (L.length + 1) (L.map encI ++ [.int .i64 n]) → (w4.alloc o).grownBy w5 lv.ownBlock → (v'.ownBlock = lv.ownBlock ∨ v'.ownBlock = some (w4.alloc o).heap.size) → LvA w w5 mb bb v' (L ++ [n]) G := by
  have hlvlt : ∀ k, lv.ownBlock = some k → k < wr.heap.size := fun k hk => (h.s.own.lt k hk).2
  obtain ⟨n0, hM⟩ := h.s.map
  have hmlt := hM.lt
  obtain ⟨ob, hup, hF⟩ := hM.update law3 key3 encN_inj Try.underlying72 ⟨n, hn⟩ (.bool true)
  have hE4 : Ext w (ChangeMaps.setBlock wr mb ob) := h.s.ext.turned h.s.mb
  have hM4 := hF (fun x => inB (L ++ [n]) x.1) inB_new (fun y hy => inB_other (fun e => hy (Subtype.ext e)))
  have hO4 : (ChangeMaps.setBlock wr mb ob).ownsRow w.heap.size 3 1 lv L.length (L.map encI) := ownsRow_same h.s.own fun g hg => turned_block (fun e => h.s.apart (by rw [hg, e]))
  refine ⟨_, hup, hO4, hE4.size, fun o w5 v' hown hg hat => ?_⟩
  have hsz : (ChangeMaps.setBlock wr mb ob).heap.size = wr.heap.size := turned_size
  have hS5 := Srch.push hE4 hM4 h.s.apart (fun k hk => (h.s.own.lt k hk).1) h.s.mb hown hg hat
  have hg' : (ChangeMaps.setBlock wr mb ob).grownBy w5 lv.ownBlock := (World.grownBy_alloc _ o _).trans hg
  refine ⟨hS5, h.g.same (fun k hk hap => ?_) (fun e => ?_) (fun k hk hap => ?_), h.ne, h.bbge, ?_⟩
  · rw [hg'.block k (by rw [hsz]; exact hk) (fun e => hap (.inr e.symm))]
    exact turned_block (fun e => hap (.inl e))
  · rcases e with e | e
    · exact h.ne e.symm
    · exact h.apart e
  · rcases hap with e | e
    · exact .inl e
    · rcases hat with e' | e'
      · exact .inr (by rw [← e']; exact e)
      · rw [e'] at e
        cases e
        simp [hsz] at hk
        omega
  · rcases hat with e' | e'
    · rw [e']; exact h.apart
    · rw [e']
      have := h.g.lt
      simp [hsz]
      omega

/-- the state of the backward search -/
structure LvC (wA wr : World) (ob : Nat) (tv : Value) (O T : List Int) : Prop where
  map : ∃ n, MapK encN wr ob n (fun x => inB O x.1)
  q : QOwn wr wA.heap.size tv T
  apart : tv.ownBlock ≠ some ob
  ob : wA.heap.size ≤ ob
  ext : Ext wA wr
section
variable {wA wr : World} {ob : Nat} {tv : Value} {O T : List Int}
theorem LvC.next (h : LvC wA wr ob tv O T) {w' : World} (hE : Ext wr w') : LvC wA w' ob tv O T :=
  ⟨let ⟨n, h'⟩ := h.map; ⟨n, h'.ext hE⟩, h.q.ext hE, h.apart, h.ob, h.ext.trans hE⟩
theorem LvC.made : LvC wA (wA.alloc (.map #[] 0)) wA.heap.size (.slice none 0 0) [] [] :=
  ⟨⟨0, by have h := MapK.made (enc := encN) wA; have e : (fun x : N64 => inB ([] : List Int) x.1) = fun _ => none := by funext x; simp [inB]
          rw [e]; exact h⟩, .inl ⟨rfl, rfl⟩, by simp [Value.ownBlock], Nat.le_refl _, Ext.alloc wA _⟩
theorem LvC.look (h : LvC wA wr ob tv O T) {n : Int} (hn : I64 n) : (Instr.lookup 72 (.map (some ob)) (.int .i64 n) false).run Try.prog wr = .ok (.bool (decide (n ∈ O))) wr := by
  obtain ⟨n', hM⟩ := h.map
  have := hM.look law3 key3 Try.underlying72 (zero4 wr) ⟨n, hn⟩ false
  simp only [inB_val] at this
  exact this
theorem LvC.put (h : LvC wA wr ob tv O T) {n : Int} (hn : I64 n) : ∃ w4, (Instr.mapUpdate 72 (.map (some ob)) (.int .i64 n) (.bool true)).run Try.prog wr = .ok () w4 ∧ LvC wA w4 ob tv (O ++ [n]) T := by
  obtain ⟨n', hM⟩ := h.map
  obtain ⟨b, hup, hF⟩ := hM.update law3 key3 encN_inj Try.underlying72 ⟨n, hn⟩ (.bool true)
  exact ⟨_, hup, ⟨n' + 1, hF _ inB_new (fun y hy => inB_other (fun e => hy (Subtype.ext e)))⟩, h.q.same (fun g hg => turned_block (fun e => h.apart (by rw [hg, e]))), h.apart, h.ob, h.ext.turned h.ob⟩
theorem LvC.grow (h : LvC wA wr ob tv O T) {o : Obj} {w5 : World} {v' : Value} {n : Int} (hq : QOwn w5 wA.heap.size v' (T ++ [n])) (hg : (wr.alloc o).grownBy w5 tv.ownBlock) (hat : v'.ownBlock = tv.ownBlock ∨ ∃ k, v'.ownBlock = some k ∧ (wr.alloc o).heap.size ≤ k) : LvC wA w5 ob v' O (T ++ [n]) := by
  have hg' : wr.grownBy w5 tv.ownBlock := (World.grownBy_alloc wr o _).trans hg
  obtain ⟨n', hM⟩ := h.map
  refine ⟨⟨n', hM.same (hg'.block ob hM.lt (fun e => h.apart e.symm))⟩, hq, ?_, h.ob, h.ext.grown hg' (fun k hk => (h.q.lt k hk).1)⟩
  rcases hat with e | ⟨k, e, hk⟩
  · rw [e]; exact h.apart
  · rw [e]
    have := hM.lt
    simp at hk
    simp
    omega
end

theorem LvA.start (w : World) : ∃ wm mb, (Instr.makeMap 72 none).run Try.prog (w.alloc (.cells #[.int .i64 0] 3)) = .ok (.map (some mb)) wm ∧ ∃ w2, (Instr.mapUpdate 72 (.map (some mb)) (.int .i64 0) (.bool true)).run Try.prog wm = .ok () w2 ∧
    ∃ bb w3, (Instr.makeMap 111 none).run Try.prog w2 = .ok (.map (some bb)) w3 ∧ LvA w w3 mb bb (.slice (some ⟨w.heap.size, 0, none⟩) 1 1) [0] (fun _ => []) := by
  obtain ⟨w1, hw1⟩ : ∃ w1, w1 = w.alloc (.cells #[.int .i64 0] 3) := ⟨_, rfl⟩
  have hE1 : Ext w w1 := by rw [hw1]; exact Ext.alloc w _
  have hs1 : w1.heap.size = w.heap.size + 1 := by rw [hw1]; simp
  have hb1 : w1.heap[w.heap.size]? = some (.cells #[.int .i64 0] 3 (0, 0)) := by rw [hw1]; exact hs_new
  rw [← hw1]
  obtain ⟨ob, hup, hF⟩ := (MapK.made (enc := encN) w1).update law3 key3 encN_inj Try.underlying72 ⟨0, by unfold I64; omega⟩ (.bool true)
  have hF0 := hF (fun x => inB [0] x.1) (by simp [inB]) (fun y hy => by
    have : y.1 ≠ 0 := fun h => hy (Subtype.ext h)
    simp [inB, this])
  have hE2 : Ext w (ChangeMaps.setBlock (w1.alloc (.map #[] 0)) w1.heap.size ob) := (hE1.then_al _).turned hE1.size
  have hs2 : (ChangeMaps.setBlock (w1.alloc (.map #[] 0)) w1.heap.size ob).heap.size = w.heap.size + 2 := by rw [turned_size]; simp [hs1]
  have hb2 : (ChangeMaps.setBlock (w1.alloc (.map #[] 0)) w1.heap.size ob).heap[w.heap.size]? = some (.cells #[.int .i64 0] 3 (0, 0)) := by
    rw [turned_block (by omega)]
    exact hs_al hb1
  refine ⟨_, w1.heap.size, rfl, _, hup, _, _, rfl, ⟨⟨⟨rfl, .inr ⟨w.heap.size, 1, #[.int .i64 0], rfl, Nat.le_refl _, hs_al hb2, by simp, by unfold maxLen; omega, rfl, rfl⟩⟩, ⟨_, hF0.al _⟩, by simp [Value.ownBlock, hs1], hE1.size, hE2.then_al _⟩, BackG.made, ?_, ?_, ?_⟩⟩
  · rw [hs2, hs1]; omega
  · rw [hs2]; omega
  · simp [Value.ownBlock, hs2]

theorem nodup_small {O : List Int} (h : O.Nodup) (hs : ∀ x ∈ O, 0 ≤ x ∧ x ≤ 40000000) : O.length ≤ 40000001 := nodup_lt 40000001 _ h (fun x hx => by have := hs x hx; omega)

end Go.Proofs.Ythoelnoahfedmaa
