/- The state of a search through the states of one format. -/
import Derived.Test.YthoelnoahfedmaaS9
namespace Go.Proofs.Ythoelnoahfedmaa
open Go Go.RowKit
open Go.Maps (Keyed)
set_option linter.unusedVariables false
set_option linter.unusedSimpArgs false

theorem nodup_lt : ∀ (N : Nat) (l : List Int), l.Nodup → (∀ x ∈ l, 0 ≤ x ∧ x < N) → l.length ≤ N
  | 0, l, _, hb => by
    cases l with
    | nil => simp
    | cons x l => have := hb x (by simp); omega
  | N + 1, l, h, hb => by
    have h1 := nodup_lt N (l.erase (N : Int)) (h.erase _) (fun x hx => by
      have := hb x (List.mem_of_mem_erase hx)
      have hne : x ≠ (N : Int) := fun e => by subst e; exact h.not_mem_erase hx
      omega)
    have := List.le_length_erase (a := (N : Int)) (l := l)
    omega

structure AGen (w wr : World) (mb : Nat) (sv wv : Value) (L : List Int) (W : List (Nat × Nat)) (Lm : List Int) : Prop where
  own : wr.ownsRow w.heap.size 3 1 sv L.length (L.map encI)
  ways : wr.ownsRow w.heap.size 106 2 wv W.length (flatW W)
  map : ∃ n, MapK encN wr mb n (fun x => inB Lm x.1)
  a1 : sv.ownBlock ≠ some mb
  a2 : wv.ownBlock ≠ some mb
  a3 : sv.ownBlock ≠ wv.ownBlock
  mb : w.heap.size ≤ mb
  ext : Ext w wr
abbrev ASrch (w wr : World) (mb : Nat) (sv wv : Value) (L : List Int) (W : List (Nat × Nat)) : Prop := AGen w wr mb sv wv L W L

theorem AGen.next {w wr w' : World} {mb : Nat} {sv wv : Value} {L Lm : List Int} {W : List (Nat × Nat)} (h : AGen w wr mb sv wv L W Lm) (hE : Ext wr w') : AGen w w' mb sv wv L W Lm :=
  ⟨ownsRow_ext h.own hE, ownsRow_ext h.ways hE, let ⟨n, h'⟩ := h.map; ⟨n, h'.ext hE⟩, h.a1, h.a2, h.a3, h.mb, h.ext.trans hE⟩
theorem AGen.at {w wr : World} {mb : Nat} {sv wv : Value} {L Lm : List Int} {W : List (Nat × Nat)} {k : Nat} {x : Int} (h : AGen w wr mb sv wv L W Lm) (hk : L[k]? = some x) :
    ∃ g cap, sv = .slice (some ⟨g, 0, none⟩) L.length cap ∧ wr.cell? ⟨g, k, none⟩ = some (.int .i64 x) := by
  have hlt := (List.getElem?_eq_some_iff.1 hk).1
  rcases h.own.2 with ⟨-, h0⟩ | ⟨g, cap, cur, rfl, -⟩
  · omega
  · refine ⟨g, cap, rfl, ?_⟩
    have h0 := h.own.cells (g := g) rfl k _ (ints_get hk)
    by_cases hk0 : k = 0
    · subst hk0; simpa [Addr.add] using h0
    · simpa [Addr.add, hk0] using h0
theorem AGen.start {w w2 : World} {mb n : Nat} {s : Int} {g1 g2 : Nat} (hE : Ext w w2) (hM : MapK encN w2 mb n (fun x => inB [s] x.1)) (h1 : w.heap.size ≤ mb) (c1 : w2.heap[g1]? = some (.cells #[.int .i64 s] 3)) (c2 : w2.heap[g2]? = some (.cells #[.int .i64 0, .int .u8 0] 106))
    (b1 : w.heap.size ≤ g1) (b2 : w.heap.size ≤ g2) (n1 : g1 ≠ mb) (n2 : g2 ≠ mb) (n3 : g1 ≠ g2) : ASrch w w2 mb (.slice (some ⟨g1, 0, none⟩) 1 1) (.slice (some ⟨g2, 0, none⟩) 1 1) [s] [(0, 0)] :=
  ⟨⟨rfl, .inr ⟨g1, 1, _, rfl, b1, c1, by simp, by unfold maxLen; omega, rfl, rfl⟩⟩, ⟨rfl, .inr ⟨g2, 1, _, rfl, b2, c2, by simp, by unfold maxLen; omega, rfl, rfl⟩⟩, ⟨n, hM⟩, by simp [Value.ownBlock]; omega, by simp [Value.ownBlock]; omega, by simp [Value.ownBlock]; omega, h1, hE⟩
theorem AGen.put {w wr : World} {mb : Nat} {sv wv : Value} {L Lm : List Int} {W : List (Nat × Nat)} {nv : Int} (h : AGen w wr mb sv wv L W Lm) (hn : I64 nv) : ∃ w4, (Instr.mapUpdate 72 (.map (some mb)) (.int .i64 nv) (.bool true)).run Try.prog wr = .ok () w4 ∧ AGen w w4 mb sv wv L W (Lm ++ [nv]) := by
  obtain ⟨n, hM⟩ := h.map
  obtain ⟨ob, hup, hF⟩ := hM.update law3 key3 encN_inj Try.underlying72 ⟨nv, hn⟩ (.bool true)
  exact ⟨_, hup, ownsRow_same h.own (fun g hg => turned_block (fun e => h.a1 (by rw [hg, e]))), ownsRow_same h.ways (fun g hg => turned_block (fun e => h.a2 (by rw [hg, e]))), ⟨n + 1, hF _ inB_new (fun y hy => inB_other (fun e => hy (Subtype.ext e)))⟩, h.a1, h.a2, h.a3, h.mb, h.ext.turned h.mb⟩
theorem AGen.look {w wr : World} {mb : Nat} {sv wv : Value} {L Lm : List Int} {W : List (Nat × Nat)} {nv : Int} (h : AGen w wr mb sv wv L W Lm) (hn : I64 nv) : (Instr.lookup 72 (.map (some mb)) (.int .i64 nv) false).run Try.prog wr = .ok (.bool (decide (nv ∈ Lm))) wr := by
  obtain ⟨n, hM⟩ := h.map
  have := hM.look law3 key3 Try.underlying72 (zero4 wr) ⟨nv, hn⟩ false
  simp only [inB_val] at this
  exact this
theorem AGen.grow1 {w wr w' : World} {mb : Nat} {sv wv v' : Value} {L Lm : List Int} {W : List (Nat × Nat)} {nv : Int} (h : AGen w wr mb sv wv L W Lm) (hown : w'.ownsRow w.heap.size 3 1 v' (L.length + 1) (L.map encI ++ [.int .i64 nv])) (hg : wr.grownBy w' sv.ownBlock) (hat : v'.ownBlock = sv.ownBlock ∨ v'.ownBlock = some wr.heap.size) :
    AGen w w' mb v' wv (L ++ [nv]) W Lm := by
  obtain ⟨n, hM⟩ := h.map
  have hml := hM.lt
  have hwl := h.ways.lt
  refine ⟨by simpa [encI] using hown, ownsRow_same h.ways (fun g hg' => hg.block g (hwl g hg').2 (fun e => h.a3 (by rw [← e, hg']))), ⟨n, hM.same (hg.block mb hml (fun e => h.a1 e.symm))⟩, ?_, h.a2, ?_, h.mb, h.ext.grown hg (fun k hk => (h.own.lt k hk).1)⟩
  · rcases hat with e | e
    · rw [e]; exact h.a1
    · rw [e]; simp; omega
  · rcases hat with e | e
    · rw [e]; exact h.a3
    · rw [e]; intro e2; have := (hwl _ e2.symm).2; omega
theorem AGen.grow2 {w wr w' : World} {mb : Nat} {sv wv v' : Value} {L Lm : List Int} {W : List (Nat × Nat)} {q : Nat × Nat} (h : AGen w wr mb sv wv L W Lm) (hown : w'.ownsRow w.heap.size 106 2 v' (W.length + 1) (flatW W ++ [.int .i64 q.1, .int .u8 q.2])) (hg : wr.grownBy w' wv.ownBlock) (hat : v'.ownBlock = wv.ownBlock ∨ v'.ownBlock = some wr.heap.size) :
    AGen w w' mb sv v' L (W ++ [q]) Lm := by
  obtain ⟨n, hM⟩ := h.map
  have hml := hM.lt
  have hsl := h.own.lt
  refine ⟨ownsRow_same h.own (fun g hg' => hg.block g (hsl g hg').2 (fun e => h.a3 (by rw [← e, hg']))), by rw [flatW_snoc]; simpa using hown, ⟨n, hM.same (hg.block mb hml (fun e => h.a2 e.symm))⟩, h.a1, ?_, ?_, h.mb, h.ext.grown hg (fun k hk => (h.ways.lt k hk).1)⟩
  · rcases hat with e | e
    · rw [e]; exact h.a2
    · rw [e]; simp; omega
  · rcases hat with e | e
    · rw [e]; exact h.a3
    · rw [e]; intro e2; have := (hsl _ e2).2; omega

/-- all states found from a small one are small -/
theorem levF_small {t : List Fmt} {F : List Fld} (hF : F.length ≤ 100) {s : Int} (hs : 0 ≤ s ∧ s ≤ 40000000) {k : Nat} : ∀ x ∈ lev (stF t F) s k, 0 ≤ x ∧ x ≤ 40000000 := by
  have tk : ∀ (L : List Int) (x : Int) (b : Nat), b ≤ 255 → (∀ y ∈ L, 0 ≤ y ∧ y ≤ 40000000) → ∀ y ∈ tick (stF t F) x L b, 0 ≤ y ∧ y ≤ 40000000 := by
    intro L x b hb hL y hy
    unfold tick at hy
    split at hy
    · exact hL y hy
    · rename_i n hn
      split at hy
      · exact hL y hy
      · rcases List.mem_append.1 hy with hy | hy
        · exact hL y hy
        · simp at hy
          subst hy
          unfold stF at hn
          split at hn
          · cases hn
          · cases hn
            exact ⟨by omega, rStep_le hF hb⟩
  have rw' : ∀ (L : List Int) (x : Int) (c : Nat), c ≤ 256 → (∀ y ∈ L, 0 ≤ y ∧ y ≤ 40000000) → ∀ y ∈ rowS (stF t F) L x c, 0 ≤ y ∧ y ≤ 40000000 := by
    intro L x c
    induction c with
    | zero => intro _ h; exact h
    | succ c ih => intro hc h; rw [rowS_succ]; exact tk _ _ _ (by omega) (ih (by omega) h)
  induction k with
  | zero => simp [lev]; exact hs
  | succ k ih =>
    cases h : (lev (stF t F) s k)[k]? with
    | none => rw [lev_stuck h]; exact ih
    | some x => rw [lev_succ h]; exact rw' _ _ _ (by omega) ih
theorem levF_len {t : List Fmt} {F : List Fld} (hF : F.length ≤ 100) {s : Int} (hs : 0 ≤ s ∧ s ≤ 40000000) {k : Nat} : (lev (stF t F) s k).length ≤ 40000001 :=
  nodup_lt 40000001 _ lev_nodup (fun x hx => by have := levF_small hF hs x hx; omega)
theorem rowF_len {t : List Fmt} {F : List Fld} (hF : F.length ≤ 100) {s : Int} (hs : 0 ≤ s ∧ s ≤ 40000000) {k c : Nat} {x : Int} (hx : (lev (stF t F) s k)[k]? = some x) (hc : c ≤ 256) : (rowS (stF t F) (lev (stF t F) s k) x c).length ≤ 40000001 := by
  have h1 := levF_len hF hs (t := t) (k := k + 1)
  rw [lev_succ hx] at h1
  have h2 := (rowS_mono (f := stF t F) (L := lev (stF t F) s k) (x := x) hc).length_le
  omega

/-- what on answers -/
def OnR (f : Int → Nat → Option Int) (acc : Int → Bool) (s0 : Int) (more : Bool) (s : ByteArray) (ok : Bool) : Prop :=
  (ok = true ∧ ∃ l : List Nat, s = bytesN l ∧ (∀ b ∈ l, b < 256) ∧ (more = true → l ≠ []) ∧ l.length ≤ 50000000 ∧ ∃ y, runF f s0 l = some y ∧ acc y = true) ∨
  (ok = false ∧ s = ByteArray.empty ∧ ∀ l : List Nat, (∀ b ∈ l, b < 256) → (more = true → l ≠ []) → ∀ y, runF f s0 l = some y → acc y = false)

theorem on_none {f : Int → Nat → Option Int} {acc : Int → Bool} {s0 : Int} {more : Bool} {L : List Int} (hF : Full f s0 L) (h0 : more = false → acc s0 = false) (hall : ∀ x ∈ L, ∀ b < 256, ∀ n, f x b = some n → acc n = false) :
    ∀ l : List Nat, (∀ b ∈ l, b < 256) → (more = true → l ≠ []) → ∀ y, runF f s0 l = some y → acc y = false := by
  intro l hl hm y hy
  rcases List.eq_nil_or_concat l with rfl | ⟨l', b, rfl⟩
  · simp [runF] at hy
    subst hy
    exact h0 (by cases more <;> simp_all)
  · rw [List.concat_eq_append] at *
    rw [runF_append] at hy
    cases hz : runF f s0 l' with
    | none => rw [hz] at hy; cases hy
    | some z =>
      rw [hz] at hy
      have hzL := hF.run l' s0 z hF.start (fun c hc => hl c (by simp [hc])) hz
      have hb : f z b = some y := by
        simp only [Option.bind_some, runF] at hy
        cases hfz : f z b with
        | none => rw [hfz] at hy; cases hy
        | some n => rw [hfz] at hy; simpa using hy
      exact hall z hzL b (hl b (by simp)) y hb

/-- a cell of an older world, while a row of ours grows -/
theorem row_keep {w6 wr w5 : World} {o : Obj} {v x : Value} {b i : Nat} (hE : Ext w6 wr) (hg : (wr.alloc o).grownBy w5 v.ownBlock) (hl : ∀ k, v.ownBlock = some k → w6.heap.size ≤ k) (hc : w6.cell? ⟨b, i, none⟩ = some x) : w5.cell? ⟨b, i, none⟩ = some x :=
  cs_ext ((hE.then_al _).grown hg hl) hc

end Go.Proofs.Ythoelnoahfedmaa
