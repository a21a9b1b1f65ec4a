/- Laws: a queue that is cut at its head; a map of lists that the call made; which states are live. -/
import Derived.Test.YthoelnoahfedmaaP1
import Derived.ArgAppend
namespace Go.Proofs.Ythoelnoahfedmaa
open Go Go.RowKit
open Go.Maps (Keyed)
set_option linter.unusedVariables false
set_option linter.unusedSimpArgs false

/-- a slice of ours, perhaps cut at its head, reads as xs -/
def QOwn (w : World) (base : Nat) (v : Value) (xs : List Int) : Prop :=
  (v = .slice none 0 0 ∧ xs = []) ∨ ∃ g off cap cur, v = .slice (some ⟨g, off, none⟩) xs.length cap ∧ base ≤ g ∧ w.heap[g]? = some (.cells cur 3 (0, 0)) ∧ xs.length ≤ cap ∧ cap ≤ maxLen ∧ off + cap ≤ cur.size ∧ ∀ (j : Nat) x, xs[j]? = some x → cur[off + j]? = some (.int .i64 x)

theorem QOwn.same {w w' : World} {base : Nat} {v : Value} {xs : List Int} (h : QOwn w base v xs) (hb : ∀ g, v.ownBlock = some g → w'.heap[g]? = w.heap[g]?) : QOwn w' base v xs := by
  rcases h with h | ⟨g, off, cap, cur, rfl, h1, h2, h3⟩
  · exact .inl h
  · exact .inr ⟨g, off, cap, cur, rfl, h1, (hb g rfl).trans h2, h3⟩
theorem QOwn.lt {w : World} {base : Nat} {v : Value} {xs : List Int} (h : QOwn w base v xs) (g : Nat) (hg : v.ownBlock = some g) : base ≤ g ∧ g < w.heap.size := by
  rcases h with ⟨rfl, -⟩ | ⟨g', off, cap, cur, rfl, h1, h2, h3⟩
  · cases hg
  · cases hg; exact ⟨h1, (Array.getElem?_eq_some_iff.1 h2).1⟩
theorem QOwn.ext {w w' : World} {base : Nat} {v : Value} {xs : List Int} (h : QOwn w base v xs) (hE : Ext w w') : QOwn w' base v xs := h.same fun g hg => hE.block (h.lt g hg).2
theorem QOwn.of_row {w : World} {base n : Nat} {v : Value} {xs : List Int} (h : w.ownsRow base 3 1 v n (xs.map encI)) : QOwn w base v xs := by
  have hl := h.1
  rw [List.length_map, Nat.mul_one] at hl
  rcases h.2 with ⟨rfl, h0⟩ | ⟨g, cap, cur, rfl, h1, h2, h3, h4, h5, h6⟩
  · exact .inl ⟨rfl, List.length_eq_zero_iff.1 (by omega)⟩
  · refine .inr ⟨g, 0, cap, cur, by rw [hl], h1, h2, by omega, h4, by omega, fun j x hj => ?_⟩
    have hjl := (List.getElem?_eq_some_iff.1 hj).1
    have e : (cur.toList.take (n * 1))[j]? = some (encI x) := by rw [h6]; simp [hj]
    rw [List.getElem?_take_of_lt (by omega)] at e
    rw [Nat.zero_add]
    simpa [encI] using e
theorem QOwn.slice {w : World} {base : Nat} {v : Value} {xs : List Int} (h : QOwn w base v xs) : ∃ a cap, v = .slice a xs.length cap ∧ xs.length ≤ cap := by
  rcases h with ⟨rfl, rfl⟩ | ⟨g, off, cap, cur, rfl, -, -, h3, -⟩
  · exact ⟨_, _, rfl, Nat.le_refl _⟩
  · exact ⟨_, _, rfl, h3⟩
theorem QOwn.at {w : World} {base : Nat} {v : Value} {xs : List Int} {j : Nat} {x : Int} (h : QOwn w base v xs) (hj : xs[j]? = some x) : ∃ g off cap, v = .slice (some ⟨g, off, none⟩) xs.length cap ∧ xs.length ≤ cap ∧ cap ≤ maxLen ∧ w.cell? ⟨g, off + j, none⟩ = some (.int .i64 x) := by
  rcases h with ⟨rfl, rfl⟩ | ⟨g, off, cap, cur, rfl, h1, h2, h3, h4, h5, h6⟩
  · simp at hj
  · exact ⟨g, off, cap, rfl, h3, h4, by rw [cellc h2]; exact h6 j x hj⟩
/-- the head is cut off -/
theorem QOwn.tail {w : World} {base g off cap : Nat} {x : Int} {xs : List Int} (h : QOwn w base (.slice (some ⟨g, off, none⟩) (xs.length + 1) cap) (x :: xs)) : QOwn w base (.slice (some ⟨g, off + 1, none⟩) xs.length (cap - 1)) xs := by
  rcases h with ⟨e, -⟩ | ⟨g', off', cap', cur, e, h1, h2, h3, h4, h5, h6⟩
  · cases e
  · simp only [List.length_cons] at e h3
    cases e
    refine .inr ⟨g, off + 1, cap - 1, cur, rfl, h1, h2, by omega, by omega, by omega, fun j y hj => ?_⟩
    have := h6 (j + 1) y (by simpa using hj)
    rwa [show off + (j + 1) = off + 1 + j by omega] at this
/-- the head is cut off, at a slice without capacity behind it -/
theorem QOwn.tail1 {w : World} {base g off : Nat} {x : Int} (h : QOwn w base (.slice (some ⟨g, off, none⟩) 1 1) [x]) : QOwn w base (.slice (some ⟨g, off, none⟩) 0 0) [] := by
  rcases h with ⟨e, -⟩ | ⟨g', off', cap', cur, e, h1, h2, h3, h4, h5, h6⟩
  · cases e
  · cases e
    exact .inr ⟨g, off, 0, cur, rfl, h1, h2, Nat.le_refl _, by unfold maxLen; omega, by omega, by simp⟩

theorem run_append_q {w : World} {base : Nat} {v : Value} {xs : List Int} {ty : TypeId} (h : QOwn w base v xs) (hb : base ≤ w.heap.size) (hl : xs.length ≤ 10000000000000) {x : Int} {b o c : Nat} (hx : w.cell? ⟨b, o, none⟩ = some (.int .i64 x)) :
    ∃ v' w', (Builtin.append_ #[58, 58] ty #[v, .slice (some ⟨b, o, none⟩) 1 c]).run Try.prog w = .ok v' w' ∧ QOwn w' base v' (xs ++ [x]) ∧ w.grownBy w' v.ownBlock ∧ (v'.ownBlock = v.ownBlock ∨ ∃ k, v'.ownBlock = some k ∧ w.heap.size ≤ k) := by
  obtain ⟨i0, hi, hz0, hz1, hz2⟩ := info_parts inf3
  have hnews : ∀ (j : Nat) (u : Value), ([Value.int .i64 x] : List Value)[j]? = some u → w.cell? ((⟨b, o, none⟩ : Addr).add j) = some u := fun j u hj => by
    match j, hj with
    | 0, hj => cases hj; simpa [Addr.add] using hx
  have one : ∀ u ∈ ([Value.int .i64 x] : List Value), u.oneCell' = true := fun u hu => by simp at hu; subst hu; rfl
  rcases h with ⟨rfl, rfl⟩ | ⟨g, off, cap, cur, rfl, h1, h2, h3, h4, h5, h6⟩
  · obtain ⟨v', w', hr, h1, h2, h3, h4⟩ := run_append_own_at (P := Try.prog) w base 58 ty 3 i0 (.int .i64 0) 1 8 Try.underlying58 hi hz0 hz1 hz2 rfl (by decide) (.slice none 0 0) 0 [] (World.ownsRow_nil _ _ _ _) ⟨b, o, none⟩ 1 c [.int .i64 x] rfl hnews one (by unfold maxLen; omega) (by omega) hb
    exact ⟨v', w', hr, .of_row (n := 1) (by simpa [encI] using h1), h2, h4.imp id fun e => ⟨_, e, Nat.le_refl _⟩⟩
  · by_cases hroom : xs.length + 1 ≤ cap
    · have hlt := (Array.getElem?_eq_some_iff.1 h2).1
      have hr := run_append_room_cells (P := Try.prog) w 58 ty 3 i0 Try.underlying58 hi g off xs.length cap ⟨b, o, none⟩ 1 c [.int .i64 x] (by rw [hz1]; rfl) hnews one hroom
        (fun j hj => by
          rw [hz1]
          simp at hj
          subst hj
          rw [cellc h2, Nat.mul_one, Nat.add_zero, Array.getElem?_eq_getElem (by omega)]
          rfl)
        (fun j hj => by
          unfold World.frozen?
          simp only [h2]
          simp)
      rw [hz1, Nat.mul_one] at hr
      refine ⟨_, _, hr, ?_, ⟨rfl, rfl, rfl, by simp [World.setCells, World.setCell], fun k _ hk => Below.heap_setCell _ _ _ k (fun e => hk (by rw [e]; rfl))⟩, .inl rfl⟩
      refine .inr ⟨g, off, cap, cur.setIfInBounds (off + xs.length) (.int .i64 x), by simp, h1, heap_setCell_same w g _ cur 3 _ h2, by simp; omega, h4, by simpa using h5, fun j y hj => ?_⟩
      rw [Array.getElem?_setIfInBounds]
      by_cases hjl : j < xs.length
      · rw [if_neg (by omega)]
        rw [List.getElem?_append_left hjl] at hj
        exact h6 j y hj
      · have hjl2 := (List.getElem?_eq_some_iff.1 hj).1
        simp at hjl2
        have : j = xs.length := by omega
        subst this
        rw [if_pos rfl, if_pos (by omega)]
        simp at hj
        subst hj
        rfl
    · obtain ⟨v', w', hr, h7, h8⟩ := run_append_arg_grows (P := Try.prog) w 58 ty 3 i0 (.int .i64 0) 1 8 Try.underlying58 hi hz0 hz1 hz2 rfl (by decide) ⟨g, off, none⟩ xs.length cap (xs.map encI) (by simp)
        (fun j u hj => by
          simp only [List.getElem?_map, Option.map_eq_some_iff] at hj
          obtain ⟨y, hy, rfl⟩ := hj
          rw [Addr.add_lit, cellc h2]
          exact h6 j y hy)
        ⟨b, o, none⟩ 1 c [.int .i64 x] rfl hnews (by omega) (by unfold maxLen; omega) (by omega)
      have e : xs.map encI ++ [.int .i64 x] = (xs ++ [x]).map encI := by simp [encI]
      rw [e] at h7
      refine ⟨v', w', hr, ?_, ⟨h8.os, h8.tape, h8.output, h8.size, fun k hk _ => h8.block k hk (by simp)⟩, ?_⟩
      · have hq := QOwn.of_row h7
        rcases hq with ⟨rfl, h0⟩ | ⟨g', off', cap', cur', rfl, k1, k2⟩
        · simp at h0
        · exact .inr ⟨g', off', cap', cur', rfl, Nat.le_trans hb k1, k2⟩
      · rcases h7.2 with ⟨rfl, h0⟩ | ⟨g', cap', cur', rfl, k1, k2, -⟩
        · simp at h0
        · exact .inr ⟨g', rfl, k1⟩

theorem wpList_append_q {ops : Array Oper} {rest : List Oper} {o : Oper} {a : Act} {w : World} {Q : Exit → Act → World → Prop} (hgd : o.guard = none) (s y : Operand)
    (ho : o.op = .call { callee := .builtin .append, args := #[s, y], argTypes := #[58, 58] }) {base : Nat} {v : Value} {xs : List Int} (hs : a.eval s = v) (h : QOwn w base v xs) (hb : base ≤ w.heap.size) (hl : xs.length ≤ 10000000000000) {x : Int} {b f c : Nat} (hy : a.eval y = .slice (some ⟨b, f, none⟩) 1 c) (hx : w.cell? ⟨b, f, none⟩ = some (.int .i64 x))
    (hK : ∀ v' w', QOwn w' base v' (xs ++ [x]) → w.grownBy w' v.ownBlock → (v'.ownBlock = v.ownBlock ∨ ∃ k, v'.ownBlock = some k ∧ w.heap.size ≤ k) → wpList Try.prog ops Q rest (a.put o.dst v') w') :
    wpList Try.prog ops Q (o :: rest) a w := by
  refine wpList_plain hgd fun K hK' => ?_
  obtain ⟨v', w', hr, h1, h2, h3⟩ := run_append_q (ty := o.type) h hb hl hx (c := c)
  unfold Oper.wp execOp
  simp only [ho, resolve, invoke, builtin, Sem.run_bind, Sem.run_pure, Result.andThen_ok, List.map_toArray, List.map_cons, List.map_nil, hs, hy, hr]
  exact hK' _ _ (hK v' w' h1 h2 h3)

theorem zero58 (w : World) : (zeroValue 58).run Try.prog w = .ok (.slice none 0 0) w := by kernel_rfl

/-- a map of lists that the call made: G is what it holds, m and r are blocks that none of its lists lie in -/
structure BackG (w : World) (base bb : Nat) (G : Int → List Int) (apart : Nat → Prop) : Prop where
  at_ : ∃ (n : Nat) (V : N64 → Option Value), MapK encN w bb n V ∧ (∀ x, QOwn w base ((V x).getD (.slice none 0 0)) (G x.1)) ∧
    (∀ x y k, x ≠ y → ((V x).getD (.slice none 0 0)).ownBlock = some k → ((V y).getD (.slice none 0 0)).ownBlock ≠ some k) ∧
    ∀ x k, ((V x).getD (.slice none 0 0)).ownBlock = some k → k ≠ bb ∧ ¬ apart k

theorem BackG.made {w : World} {base : Nat} {apart : Nat → Prop} : BackG (w.alloc (.map #[] 0)) base w.heap.size (fun _ => []) apart :=
  ⟨0, fun _ => none, MapK.made w, fun x => .inl ⟨rfl, rfl⟩, fun x y k _ h => by simp [Value.ownBlock] at h, fun x k h => by simp [Value.ownBlock] at h⟩
theorem BackG.lt {w : World} {base bb : Nat} {G : Int → List Int} {ap : Nat → Prop} (h : BackG w base bb G ap) : bb < w.heap.size := by
  obtain ⟨n, V, h1, -⟩ := h.at_
  exact h1.lt
/-- other blocks than its own may change -/
theorem BackG.same {w w' : World} {base bb : Nat} {G : Int → List Int} {ap ap' : Nat → Prop} (h : BackG w base bb G ap) (hb : ∀ k, k < w.heap.size → ¬ ap k → w'.heap[k]? = w.heap[k]?) (hbb : ¬ ap bb) (hap : ∀ k, k < w.heap.size → ap' k → ap k) : BackG w' base bb G ap' := by
  obtain ⟨n, V, h1, h2, h3, h4⟩ := h.at_
  exact ⟨n, V, h1.same (hb _ h1.lt hbb), fun x => (h2 x).same fun g hg => hb g ((h2 x).lt g hg).2 (h4 x g hg).2, h3, fun x k hk => ⟨(h4 x k hk).1, fun h => (h4 x k hk).2 (hap k ((h2 x).lt k hk).2 h)⟩⟩
theorem BackG.ext {w w' : World} {base bb : Nat} {G : Int → List Int} {ap : Nat → Prop} (h : BackG w base bb G ap) (hE : Ext w w') : BackG w' base bb G ap := by
  obtain ⟨n, V, h1, h2, h3, h4⟩ := h.at_
  exact ⟨n, V, h1.ext hE, fun x => (h2 x).ext hE, h3, h4⟩
theorem BackG.look {w : World} {base bb : Nat} {G : Int → List Int} {ap : Nat → Prop} (h : BackG w base bb G ap) {x : Int} (hx : I64 x) : ∃ v, (Instr.lookup 111 (.map (some bb)) (.int .i64 x) false).run Try.prog w = .ok v w ∧ QOwn w base v (G x) ∧ (∀ k, v.ownBlock = some k → k ≠ bb ∧ ¬ ap k) ∧
    ∀ (w1 : World) (v' : Value) (y : Int), (∀ k, k < w.heap.size → v.ownBlock ≠ some k → w1.heap[k]? = w.heap[k]?) → QOwn w1 base v' (G x ++ [y]) → (v'.ownBlock = v.ownBlock ∨ ∃ k, v'.ownBlock = some k ∧ w.heap.size ≤ k ∧ ¬ ap k) →
      ∃ w2, (Instr.mapUpdate 111 (.map (some bb)) (.int .i64 x) v').run Try.prog w1 = .ok () w2 ∧ BackG w2 base bb (fun z => if z = x then G x ++ [y] else G z) ap ∧ (∀ k, k ≠ bb → w2.heap[k]? = w1.heap[k]?) ∧ ∀ W : World, Ext W w1 → W.heap.size ≤ bb → Ext W w2 := by
  obtain ⟨n, V, h1, h2, h3, h4⟩ := h.at_
  have hl := h1.look law3 key3 Try.underlying111 (zero58 w) ⟨x, hx⟩ false
  simp only [Bool.false_eq_true, if_false] at hl
  refine ⟨_, hl, h2 ⟨x, hx⟩, h4 ⟨x, hx⟩, fun w1 v' y hblk hq hat => ?_⟩
  have hM1 : MapK encN w1 bb n V := h1.same (hblk bb h1.lt (fun e => (h4 _ _ e).1 rfl))
  obtain ⟨ob, hup, hF⟩ := hM1.update law3 key3 encN_inj Try.underlying111 ⟨x, hx⟩ v'
  have hM2 := hF (fun z => if z = ⟨x, hx⟩ then some v' else V z) (if_pos rfl) (fun z hz => if_neg hz)
  have hvk : ∀ k, v'.ownBlock = some k → k ≠ bb ∧ ¬ ap k := fun k hk => by
    rcases hat with e | ⟨k', e, h5, h6⟩
    · rw [e] at hk; exact h4 _ k hk
    · rw [e] at hk
      cases hk
      exact ⟨by have := h1.lt; omega, h6⟩
  have hother : ∀ z, z ≠ ⟨x, hx⟩ → QOwn (ChangeMaps.setBlock w1 bb ob) base ((V z).getD (.slice none 0 0)) (G z.1) := fun z hz => by
    refine (h2 z).same fun g hg' => ?_
    rw [turned_block (h4 z g hg').1]
    exact hblk g ((h2 z).lt g hg').2 (fun e => h3 ⟨x, hx⟩ z g (fun e => hz e.symm) e hg')
  have hvz : ∀ z k, z ≠ ⟨x, hx⟩ → ((V z).getD (.slice none 0 0)).ownBlock = some k → v'.ownBlock ≠ some k := fun z k hz hk e => by
    rcases hat with e' | ⟨k', e', h5, -⟩
    · rw [e'] at e; exact h3 ⟨x, hx⟩ z k (fun e => hz e.symm) e hk
    · rw [e'] at e
      cases e
      have := ((h2 z).lt k hk).2
      omega
  refine ⟨_, hup, ⟨n + 1, _, hM2, fun z => ?_, fun z z' k hzz hk => ?_, fun z k hk => ?_⟩, fun k hk => turned_block hk, fun W hE hW => hE.turned hW⟩
  · by_cases hz : z = ⟨x, hx⟩
    · subst hz
      simp only [if_true, Option.getD_some]
      exact hq.same fun g hg' => turned_block (hvk g hg').1
    · have hz' : z.1 ≠ x := fun e => hz (Subtype.ext e)
      simp only [if_neg hz, if_neg hz']
      exact hother z hz
  · by_cases hz : z = ⟨x, hx⟩
    · subst hz
      simp only [if_true, Option.getD_some] at hk
      simp only [if_neg (fun e : z' = _ => hzz e.symm)]
      exact fun e => hvz z' k (fun e => hzz e.symm) e hk
    · simp only [if_neg hz] at hk
      by_cases hz' : z' = ⟨x, hx⟩
      · subst hz'
        simp only [if_true, Option.getD_some]
        exact hvz z k hz hk
      · simp only [if_neg hz']
        exact h3 z z' k hzz hk
  · by_cases hz : z = ⟨x, hx⟩
    · subst hz
      simp only [if_true, Option.getD_some] at hk
      exact hvk k hk
    · simp only [if_neg hz] at hk
      exact h4 z k hk

/-- from a state a string (of at least one byte, if more) leads to one that accepts -/
def LiveS (f : Int → Nat → Option Int) (acc : Int → Bool) (more : Bool) (x : Int) : Prop := ∃ r : List Nat, (more = true → r ≠ []) ∧ (∀ b ∈ r, b < 256) ∧ ∃ y, runF f x r = some y ∧ acc y = true

theorem LiveS.step {f : Int → Nat → Option Int} {acc : Int → Bool} {more : Bool} {m n : Int} {b : Nat} (hb : b < 256) (h : f m b = some n) (hn : LiveS f acc false n) : LiveS f acc more m := by
  obtain ⟨r, -, h2, y, h3, h4⟩ := hn
  exact ⟨b :: r, fun _ => by simp, fun c hc => by rcases List.mem_cons.1 hc with rfl | hc; exact hb; exact h2 c hc, y, by simp [runF, h, h3], h4⟩

/-- what the backward search keeps: O is what has been found, T what is still to do -/
structure LiveI (f : Int → Nat → Option Int) (acc : Int → Bool) (more : Bool) (L O T : List Int) (done : Int → Int → Prop) : Prop where
  sub : ∀ x ∈ O, x ∈ L
  live : ∀ x ∈ O, LiveS f acc more x
  todo : ∀ x ∈ T, x ∈ L ∧ LiveS f acc false x
  closed : ∀ n ∈ L, acc n = true ∨ n ∈ O → n ∈ T ∨ ∀ m ∈ L, ∀ b < 256, f m b = some n → m ∈ O ∨ ¬ done n m
  zero : more = false → ∀ n ∈ L, acc n = true → n ∈ O

theorem live_end {f : Int → Nat → Option Int} {acc : Int → Bool} {more : Bool} {L O : List Int} (h : LiveI f acc more L O [] (fun _ _ => True)) (hc : ∀ p ∈ L, ∀ c < 256, ∀ n, f p c = some n → n ∈ L) : ∀ x ∈ L, x ∈ O ↔ LiveS f acc more x := by
  have key : ∀ (r : List Nat) (x y : Int), x ∈ L → (∀ b ∈ r, b < 256) → r ≠ [] → runF f x r = some y → acc y = true → x ∈ O := by
    intro r
    induction r with
    | nil => intro x y _ _ hne; exact absurd rfl hne
    | cons b r ih =>
      intro x y hx hb _ hr ha
      obtain ⟨n, h1, h2⟩ := run_head hr
      have hn := hc x hx b (hb b (by simp)) n h1
      have hno : acc n = true ∨ n ∈ O := by
        by_cases hr0 : r = []
        · subst hr0; simp [runF] at h2; subst h2; exact .inl ha
        · exact .inr (ih n y hn (fun c hc => hb c (by simp [hc])) hr0 h2 ha)
      rcases h.closed n hn hno with h3 | h3
      · simp at h3
      · rcases h3 x hx b (hb b (by simp)) h1 with h4 | h4
        · exact h4
        · exact absurd trivial h4
  intro x hx
  refine ⟨h.live x, fun hl => ?_⟩
  obtain ⟨r, h1, h2, y, h3, h4⟩ := hl
  by_cases hr : r = []
  · subst hr
    simp [runF] at h3
    subst h3
    cases more with
    | true => exact absurd rfl (h1 rfl)
    | false => exact h.zero rfl x hx h4
  · exact key r x y hx h2 hr h3 h4

end Go.Proofs.Ythoelnoahfedmaa
