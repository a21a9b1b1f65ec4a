/- The state of a search through the states of one format. on: the walk. -/
import Derived.Test.YthoelnoahfedmaaG10
namespace Go.Proofs.Ythoelnoahfedmaa
open Go Go.RowKit
open Go.Maps (Keyed)
set_option linter.unusedVariables false
set_option linter.unusedSimpArgs false

theorem nodup_lt : ∀ (N : Nat) (l : List Int), l.Nodup → (∀ x ∈ l, 0 ≤ x ∧ x < N) → l.length ≤ N
  | 0, l, _, hb => by
    cases l with
    | nil => simp
    | cons x l => have := hb x (by simp); omega
  | N + 1, l, h, hb => by
    have h1 := nodup_lt N (l.erase (N : Int)) (h.erase _) (fun x hx => by
      have := hb x (List.mem_of_mem_erase hx)
      have hne : x ≠ (N : Int) := fun e => by subst e; exact h.not_mem_erase hx
      omega)
    have := List.le_length_erase (a := (N : Int)) (l := l)
    omega

structure AGen (w wr : World) (mb : Nat) (sv wv : Value) (L : List Int) (W : List (Nat × Nat)) (Lm : List Int) : Prop where
  own : wr.ownsRow w.heap.size 3 1 sv L.length (L.map encI)
  ways : wr.ownsRow w.heap.size 106 2 wv W.length (flatW W)
  map : ∃ n, MapK encN wr mb n (fun x => inB Lm x.1)
  a1 : sv.ownBlock ≠ some mb
  a2 : wv.ownBlock ≠ some mb
  a3 : sv.ownBlock ≠ wv.ownBlock
  mb : w.heap.size ≤ mb
  ext : Ext w wr
abbrev ASrch (w wr : World) (mb : Nat) (sv wv : Value) (L : List Int) (W : List (Nat × Nat)) : Prop := AGen w wr mb sv wv L W L

theorem AGen.next {w wr w' : World} {mb : Nat} {sv wv : Value} {L Lm : List Int} {W : List (Nat × Nat)} (h : AGen w wr mb sv wv L W Lm) (hE : Ext wr w') : AGen w w' mb sv wv L W Lm :=
  ⟨ownsRow_ext h.own hE, ownsRow_ext h.ways hE, let ⟨n, h'⟩ := h.map; ⟨n, h'.ext hE⟩, h.a1, h.a2, h.a3, h.mb, h.ext.trans hE⟩
theorem AGen.at {w wr : World} {mb : Nat} {sv wv : Value} {L Lm : List Int} {W : List (Nat × Nat)} {k : Nat} {x : Int} (h : AGen w wr mb sv wv L W Lm) (hk : L[k]? = some x) :
    ∃ g cap, sv = .slice (some ⟨g, 0, none⟩) L.length cap ∧ wr.cell? ⟨g, k, none⟩ = some (.int .i64 x) := by
  have hlt := (List.getElem?_eq_some_iff.1 hk).1
  rcases h.own.2 with ⟨-, h0⟩ | ⟨g, cap, cur, rfl, -⟩
  · omega
  · refine ⟨g, cap, rfl, ?_⟩
    have h0 := h.own.cells (g := g) rfl k _ (ints_get hk)
    by_cases hk0 : k = 0
    · subst hk0; simpa [Addr.add] using h0
    · simpa [Addr.add, hk0] using h0
theorem AGen.start {w w2 : World} {mb n : Nat} {s : Int} {g1 g2 : Nat} (hE : Ext w w2) (hM : MapK encN w2 mb n (fun x => inB [s] x.1)) (h1 : w.heap.size ≤ mb) (c1 : w2.heap[g1]? = some (.cells #[.int .i64 s] 3)) (c2 : w2.heap[g2]? = some (.cells #[.int .i64 0, .int .u8 0] 106))
    (b1 : w.heap.size ≤ g1) (b2 : w.heap.size ≤ g2) (n1 : g1 ≠ mb) (n2 : g2 ≠ mb) (n3 : g1 ≠ g2) : ASrch w w2 mb (.slice (some ⟨g1, 0, none⟩) 1 1) (.slice (some ⟨g2, 0, none⟩) 1 1) [s] [(0, 0)] :=
  ⟨⟨rfl, .inr ⟨g1, 1, _, rfl, b1, c1, by simp, by unfold maxLen; omega, rfl, rfl⟩⟩, ⟨rfl, .inr ⟨g2, 1, _, rfl, b2, c2, by simp, by unfold maxLen; omega, rfl, rfl⟩⟩, ⟨n, hM⟩, by simp [Value.ownBlock]; omega, by simp [Value.ownBlock]; omega, by simp [Value.ownBlock]; omega, h1, hE⟩
theorem AGen.put {w wr : World} {mb : Nat} {sv wv : Value} {L Lm : List Int} {W : List (Nat × Nat)} {nv : Int} (h : AGen w wr mb sv wv L W Lm) (hn : I64 nv) : ∃ w4, (Instr.mapUpdate 72 (.map (some mb)) (.int .i64 nv) (.bool true)).run Try.prog wr = .ok () w4 ∧ AGen w w4 mb sv wv L W (Lm ++ [nv]) := by
  obtain ⟨n, hM⟩ := h.map
  obtain ⟨ob, hup, hF⟩ := hM.update law3 key3 encN_inj Try.underlying72 ⟨nv, hn⟩ (.bool true)
  exact ⟨_, hup, ownsRow_same h.own (fun g hg => turned_block (fun e => h.a1 (by rw [hg, e]))), ownsRow_same h.ways (fun g hg => turned_block (fun e => h.a2 (by rw [hg, e]))), ⟨n + 1, hF _ inB_new (fun y hy => inB_other (fun e => hy (Subtype.ext e)))⟩, h.a1, h.a2, h.a3, h.mb, h.ext.turned h.mb⟩
theorem AGen.look {w wr : World} {mb : Nat} {sv wv : Value} {L Lm : List Int} {W : List (Nat × Nat)} {nv : Int} (h : AGen w wr mb sv wv L W Lm) (hn : I64 nv) : (Instr.lookup 72 (.map (some mb)) (.int .i64 nv) false).run Try.prog wr = .ok (.bool (decide (nv ∈ Lm))) wr := by
  obtain ⟨n, hM⟩ := h.map
  have := hM.look law3 key3 Try.underlying72 (zero4 wr) ⟨nv, hn⟩ false
  simp only [inB_val] at this
  exact this
theorem AGen.grow1 {w wr w' : World} {mb : Nat} {sv wv v' : Value} {L Lm : List Int} {W : List (Nat × Nat)} {nv : Int} (h : AGen w wr mb sv wv L W Lm) (hown : w'.ownsRow w.heap.size 3 1 v' (L.length + 1) (L.map encI ++ [.int .i64 nv])) (hg : wr.grownBy w' sv.ownBlock) (hat : v'.ownBlock = sv.ownBlock ∨ v'.ownBlock = some wr.heap.size) :
    AGen w w' mb v' wv (L ++ [nv]) W Lm := by
  obtain ⟨n, hM⟩ := h.map
  have hml := hM.lt
  have hwl := h.ways.lt
  refine ⟨by simpa [encI] using hown, ownsRow_same h.ways (fun g hg' => hg.block g (hwl g hg').2 (fun e => h.a3 (by rw [← e, hg']))), ⟨n, hM.same (hg.block mb hml (fun e => h.a1 e.symm))⟩, ?_, h.a2, ?_, h.mb, h.ext.grown hg (fun k hk => (h.own.lt k hk).1)⟩
  · rcases hat with e | e
    · rw [e]; exact h.a1
    · rw [e]; simp; omega
  · rcases hat with e | e
    · rw [e]; exact h.a3
    · rw [e]; intro e2; have := (hwl _ e2.symm).2; omega
theorem AGen.grow2 {w wr w' : World} {mb : Nat} {sv wv v' : Value} {L Lm : List Int} {W : List (Nat × Nat)} {q : Nat × Nat} (h : AGen w wr mb sv wv L W Lm) (hown : w'.ownsRow w.heap.size 106 2 v' (W.length + 1) (flatW W ++ [.int .i64 q.1, .int .u8 q.2])) (hg : wr.grownBy w' wv.ownBlock) (hat : v'.ownBlock = wv.ownBlock ∨ v'.ownBlock = some wr.heap.size) :
    AGen w w' mb sv v' L (W ++ [q]) Lm := by
  obtain ⟨n, hM⟩ := h.map
  have hml := hM.lt
  have hsl := h.own.lt
  refine ⟨ownsRow_same h.own (fun g hg' => hg.block g (hsl g hg').2 (fun e => h.a3 (by rw [← e, hg']))), by rw [flatW_snoc]; simpa using hown, ⟨n, hM.same (hg.block mb hml (fun e => h.a2 e.symm))⟩, h.a1, ?_, ?_, h.mb, h.ext.grown hg (fun k hk => (h.ways.lt k hk).1)⟩
  · rcases hat with e | e
    · rw [e]; exact h.a2
    · rw [e]; simp; omega
  · rcases hat with e | e
    · rw [e]; exact h.a3
    · rw [e]; intro e2; have := (hsl _ e2).2; omega

/-- all states found from a small one are small -/
theorem levF_small {t : List Fmt} {F : List Fld} (hF : F.length ≤ 100) {s : Int} (hs : 0 ≤ s ∧ s ≤ 40000000) {k : Nat} : ∀ x ∈ lev (stF t F) s k, 0 ≤ x ∧ x ≤ 40000000 := by
  have tk : ∀ (L : List Int) (x : Int) (b : Nat), b ≤ 255 → (∀ y ∈ L, 0 ≤ y ∧ y ≤ 40000000) → ∀ y ∈ tick (stF t F) x L b, 0 ≤ y ∧ y ≤ 40000000 := by
    intro L x b hb hL y hy
    unfold tick at hy
    split at hy
    · exact hL y hy
    · rename_i n hn
      split at hy
      · exact hL y hy
      · rcases List.mem_append.1 hy with hy | hy
        · exact hL y hy
        · simp at hy
          subst hy
          unfold stF at hn
          split at hn
          · cases hn
          · cases hn
            exact ⟨by omega, rStep_le hF hb⟩
  have rw' : ∀ (L : List Int) (x : Int) (c : Nat), c ≤ 256 → (∀ y ∈ L, 0 ≤ y ∧ y ≤ 40000000) → ∀ y ∈ rowS (stF t F) L x c, 0 ≤ y ∧ y ≤ 40000000 := by
    intro L x c
    induction c with
    | zero => intro _ h; exact h
    | succ c ih => intro hc h; rw [rowS_succ]; exact tk _ _ _ (by omega) (ih (by omega) h)
  induction k with
  | zero => simp [lev]; exact hs
  | succ k ih =>
    cases h : (lev (stF t F) s k)[k]? with
    | none => rw [lev_stuck h]; exact ih
    | some x => rw [lev_succ h]; exact rw' _ _ _ (by omega) ih
theorem levF_len {t : List Fmt} {F : List Fld} (hF : F.length ≤ 100) {s : Int} (hs : 0 ≤ s ∧ s ≤ 40000000) {k : Nat} : (lev (stF t F) s k).length ≤ 40000001 :=
  nodup_lt 40000001 _ lev_nodup (fun x hx => by have := levF_small hF hs x hx; omega)
theorem rowF_len {t : List Fmt} {F : List Fld} (hF : F.length ≤ 100) {s : Int} (hs : 0 ≤ s ∧ s ≤ 40000000) {k c : Nat} {x : Int} (hx : (lev (stF t F) s k)[k]? = some x) (hc : c ≤ 256) : (rowS (stF t F) (lev (stF t F) s k) x c).length ≤ 40000001 := by
  have h1 := levF_len hF hs (t := t) (k := k + 1)
  rw [lev_succ hx] at h1
  have h2 := (rowS_mono (f := stF t F) (L := lev (stF t F) s k) (x := x) hc).length_le
  omega

/-- what on answers -/
def OnR (f : Int → Nat → Option Int) (acc : Int → Bool) (s0 : Int) (more : Bool) (s : ByteArray) (ok : Bool) : Prop :=
  (ok = true ∧ ∃ l : List Nat, s = bytesN l ∧ (∀ b ∈ l, b < 256) ∧ (more = true → l ≠ []) ∧ l.length ≤ 50000000 ∧ ∃ y, runF f s0 l = some y ∧ acc y = true) ∨
  (ok = false ∧ s = ByteArray.empty ∧ ∀ l : List Nat, (∀ b ∈ l, b < 256) → (more = true → l ≠ []) → ∀ y, runF f s0 l = some y → acc y = false)

theorem on_none {f : Int → Nat → Option Int} {acc : Int → Bool} {s0 : Int} {more : Bool} {L : List Int} (hF : Full f s0 L) (h0 : more = false → acc s0 = false) (hall : ∀ x ∈ L, ∀ b < 256, ∀ n, f x b = some n → acc n = false) :
    ∀ l : List Nat, (∀ b ∈ l, b < 256) → (more = true → l ≠ []) → ∀ y, runF f s0 l = some y → acc y = false := by
  intro l hl hm y hy
  rcases List.eq_nil_or_concat l with rfl | ⟨l', b, rfl⟩
  · simp [runF] at hy
    subst hy
    exact h0 (by cases more <;> simp_all)
  · rw [List.concat_eq_append] at *
    rw [runF_append] at hy
    cases hz : runF f s0 l' with
    | none => rw [hz] at hy; cases hy
    | some z =>
      rw [hz] at hy
      have hzL := hF.run l' s0 z hF.start (fun c hc => hl c (by simp [hc])) hz
      have hb : f z b = some y := by
        simp only [Option.bind_some, runF] at hy
        cases hfz : f z b with
        | none => rw [hfz] at hy; cases hy
        | some n => rw [hfz] at hy; simpa using hy
      exact hall z hzL b (hl b (by simp)) y hb

/-- a cell of an older world, while a row of ours grows -/
theorem row_keep {w6 wr w5 : World} {o : Obj} {v x : Value} {b i : Nat} (hE : Ext w6 wr) (hg : (wr.alloc o).grownBy w5 v.ownBlock) (hl : ∀ k, v.ownBlock = some k → w6.heap.size ≤ k) (hc : w6.cell? ⟨b, i, none⟩ = some x) : w5.cell? ⟨b, i, none⟩ = some x :=
  cs_ext ((hE.then_al _).grown hg hl) hc

end Go.Proofs.Ythoelnoahfedmaa

namespace Go.Proofs.Ythoelnoahfedmaa
open Go Go.RowKit
open Go.Maps (Keyed)
set_option linter.unusedVariables false
set_option linter.unusedSimpArgs false

set_option maxRecDepth 100000 in
set_option maxHeartbeats 2400000 in
theorem on_any {w : World} {B : Nat} {a : Option Addr} {t : List Fmt} {cap i : Nat} {fm : Fmt} {s0 : Int} {more : Bool} (hs0 : 0 ≤ s0 ∧ s0 ≤ 40000000) (hT : TabA w B a t) (hB : B ≤ w.heap.size) (hi : t[i]? = some fm) (hV : VFmt t fm) :
    Calls Try.prog 65 #[.agg #[.slice a t.length cap, .int .i64 i], .int .i64 s0, .bool more] w fun e w' => ∃ s ok, e = .returned (.tuple #[.string s, .bool ok]) ∧ Ext w w' ∧ OnR (stF t fm.fields) (rAcc fm.fields) s0 more s ok := by
  obtain ⟨tb, toff, rfl, -⟩ := hT.2 (ne_nil_of_get hi)
  have hle : fm.fields.length ≤ 100 := by have := hV.le; omega
  have hcS := fun (w' : World) (hE : Ext w w') (s : Int) (c : Nat) (hs : s ≤ 9223372036854775807) (hc : c ≤ 255) => stepV (cap := cap) s c hc hs (hT.ext hB hE) (by have := hE.size; omega) hi hV
  have hcA := fun (w' : World) (hE : Ext w w') (s : Int) (hs : s ≤ 9223372036854775807) => acceptsV (cap := cap) s hs (hT.ext hB hE) (by have := hE.size; omega) hi hV
  have HCS := Lib.hid hcS
  have HCA := Lib.hid hcA
  obtain ⟨b0, hb0⟩ : ∃ b0, b0 = rAcc fm.fields s0 := ⟨_, rfl⟩
  have HB0 := Lib.hid hb0
  obtain ⟨hs1, hs2⟩ := hs0
  have HI := Lib.hid hi
  clear hcS hcA hb0 hi
  go_enter Try.func65, Try.ntmps65
  have HM0 : Hid (b0 = false → more = false → rAcc fm.fields s0 = false) := fun h _ => by rw [← HB0.out, h]
  have HM1 : Hid (more = true → more = false → rAcc fm.fields s0 = false) := fun h h' => by rw [h] at h'; cases h'
  go_upto_region 1 with fail
  obtain ⟨w1, hw1⟩ : ∃ w1, w1 = w.alloc (Obj.cells #[Value.slice (some ⟨tb, toff, none⟩) t.length cap, Value.int IntKind.i64 i] 67) := ⟨_, rfl⟩
  obtain ⟨ab, hab⟩ : ∃ ab, ab = w.heap.size := ⟨_, rfl⟩
  have k0 : w1.cell? ⟨ab, 0, none⟩ = some (.slice (some ⟨tb, toff, none⟩) t.length cap) := by rw [hw1, hab]; exact cs_new rfl
  have k1 : w1.cell? ⟨ab, 1, none⟩ = some (.int .i64 i) := by rw [hw1, hab]; exact cs_new rfl
  have hE1 : Ext w w1 := by rw [hw1]; exact Ext.alloc w _
  rw [← hw1, ← hab]
  have HE1 := Lib.hid hE1
  have K0 := Lib.hid k0
  have K1 := Lib.hid k1
  clear hw1 hab
  cases more
  · go_wp2_with fail
    refine (HCA.out _ hE1 s0 (by omega)).mono ?_
    rw [← HB0.out]
    rintro e w2 ⟨rfl, hE12⟩
    have hE2 := hE1.trans hE12
    clear k0 k1
    cases b0
    · have HM : Hid (false = false → rAcc fm.fields s0 = false) := Lib.hid (by intro h; have := HM0.out; simp at this; exact this)
      go_upto_region 4 with fail
      obtain ⟨w3, hw3⟩ : ∃ w3, w3 = (w2.alloc (Obj.cells #[Value.int IntKind.i64 s0] 3)).alloc (Obj.cells #[Value.int IntKind.i64 0, Value.int IntKind.u8 0] 106) := ⟨_, rfl⟩
      rw [← hw3]
      have hE3 : Ext w w3 := by rw [hw3]; exact (hE2.then_al _).then_al _
      have hE13 : Ext w1 w3 := by rw [hw3]; exact (hE12.then_al _).then_al _
      have q1 : w3.heap[w2.heap.size]? = some (.cells #[.int .i64 s0] 3) := by rw [hw3]; exact hs_al hs_new
      have q2 : w3.heap[w2.heap.size + 1]? = some (.cells #[.int .i64 0, .int .u8 0] 106) := by rw [hw3]; have h := hs_new (w := w2.alloc (.cells #[.int .i64 s0] 3)) (o := .cells #[.int .i64 0, .int .u8 0] 106); rwa [World.size_alloc] at h
      have hsz3 : w3.heap.size = w2.heap.size + 2 := by rw [hw3]; simp
      have hsz2 := hE12.size
      obtain ⟨g1, hg1⟩ : ∃ g1, g1 = w2.heap.size := ⟨_, rfl⟩
      rw [← hg1] at q1 q2 hsz3 hsz2 ⊢
      clear hg1
      have hmk : (Instr.makeMap 72 none).run Try.prog w3 = .ok (.map (some w3.heap.size)) (w3.alloc (.map #[] 0)) := rfl
      obtain ⟨ob, hup, hF⟩ := (MapK.made (enc := encN) w3).update law3 key3 encN_inj Try.underlying72 ⟨s0, by unfold I64; omega⟩ (.bool true)
      have hF0 := hF (fun x => inB [s0] x.1) (by simp [inB]) (fun y hy => by
        have : y.1 ≠ s0 := fun h => hy (Subtype.ext h)
        simp [inB, this])
      simp only [encN] at hup
      have hE4 : Ext w3 (ChangeMaps.setBlock (w3.alloc (.map #[] 0)) w3.heap.size ob) := ((Ext.alloc w3 _)).turned (Nat.le_refl _)
      generalize hw4 : ChangeMaps.setBlock (w3.alloc (.map #[] 0)) w3.heap.size ob = w4 at *
      obtain ⟨mb, hmbv⟩ : ∃ mb, mb = w3.heap.size := ⟨_, rfl⟩
      have hS0 : ASrch w1 w4 mb (.slice (some ⟨g1, 0, none⟩) 1 1) (.slice (some ⟨g1 + 1, 0, none⟩) 1 1) [s0] [(0, 0)] :=
        AGen.start (hE13.trans hE4) (by rw [hmbv]; exact hF0) (by omega) (hs_ext hE4 q1) (hs_ext hE4 q2) hsz2 (by omega) (by omega) (by omega) (by omega)
      rw [← hmbv] at hmk hup
      have HS0 := Lib.hid hS0
      have HMBV := Lib.hid hmbv
      clear hS0 q1 q2 hw3 hF hF0 hw4 hE2 hE12 hsz3 hsz2 hE4 hE3 hE13 hmbv
      go_wp2_with fail
      clear hmk hup
      obtain ⟨f, hf⟩ : ∃ f, f = stF t fm.fields := ⟨_, rfl⟩
      obtain ⟨acc, hacc⟩ : ∃ acc, acc = rAcc fm.fields := ⟨_, rfl⟩
      have HF := Lib.hid hf
      have HACC := Lib.hid hacc
      clear hf hacc
      go_loopw [8, 9, 11, 12, 13, 14, 15, 36] (fun sv wv iv _ _ _ _ _ wr => ∃ (k : Nat) (Ws : List (Nat × Nat)), iv = .int .i64 k ∧ ASrch w1 wr mb sv wv (lev f s0 k) Ws ∧ Ways f (lev f s0 k) Ws ∧ k ≤ (lev f s0 k).length ∧
        (∀ (k' : Nat) (x : Int), k' < k → (lev f s0 k)[k']? = some x → ∀ b < 256, ∀ n, f x b = some n → acc n = false)) (fun _ _ iv _ _ _ _ _ _ => 40000002 - (intOf iv).toNat)
      case atStart => exact ⟨0, _, rfl, HS0.out, Ways.one, by simp, fun k' x h => by omega⟩
      case round =>
        obtain ⟨k, Ws, rfl, hS, hW, hk, hall⟩ := hrel
        have hlen : (lev f s0 k).length ≤ 40000001 := by rw [HF.out]; exact levF_len hle ⟨hs1, hs2⟩
        have HALL := Lib.hid hall
        have HW := Lib.hid hW
        clear hall hW
        by_cases hlt : k < (lev f s0 k).length
        · obtain ⟨x, hx⟩ : ∃ x, (lev f s0 k)[k]? = some x := ⟨_, List.getElem?_eq_getElem hlt⟩
          have hxs : 0 ≤ x ∧ x ≤ 40000000 := by
            have hx' := hx
            rw [HF.out] at hx'
            exact levF_small hle ⟨hs1, hs2⟩ x (List.mem_of_getElem? hx')
          obtain ⟨hx0, hx4⟩ := hxs
          obtain ⟨gS, capS, rfl, -⟩ := hS.at hx
          have HX := Lib.hid hx
          have HS := Lib.hid hS
          clear hx hS
          have hrl : Hid (∀ c, c ≤ 256 → (rowS f (lev f s0 k) x c).length ≤ 40000001) := Lib.hid (fun c hc => by
            have hx' := HX.out
            rw [HF.out] at hx' ⊢
            exact rowF_len hle ⟨hs1, hs2⟩ hx' hc)
          have HNEXT : Hid (lev f s0 (k + 1) = rowS f (lev f s0 k) x 256) := Lib.hid (lev_succ HX.out)
          have e1 : decide ((k : Int) < ((lev f s0 k).length : Int)) = true := decide_eq_true (by omega)
          generalize hLL : lev f s0 k = L at *
          have HLL := Lib.hid hLL
          clear hLL
          go_wp2_with fail
          go_loopw [8, 9, 12, 13, 14, 15, 36] (fun sv wv _ _ _ _ cv wr2 => ∃ (c : Nat) (Ws2 : List (Nat × Nat)), cv = .int .i64 c ∧ c ≤ 256 ∧ ASrch w1 wr2 mb sv wv (rowS f L x c) Ws2 ∧ Ways f (rowS f L x c) Ws2 ∧ (∀ b < c, ∀ n, f x b = some n → acc n = false)) (fun _ _ _ _ _ _ cv _ => 256 - (intOf cv).toNat)
          case atStart => exact ⟨0, _, rfl, by omega, HS.out, HW.out, fun b h => by omega⟩
          case round =>
            obtain ⟨c, Ws2, rfl, hc, hS2, hW2, hall2⟩ := hrel
            have HALL2 := Lib.hid hall2
            have HW2 := Lib.hid hW2
            clear hall2 hW2
            by_cases hc2 : c < 256
            · have e2 : decide ((c : Int) < 256) = true := decide_eq_true (by omega)
              obtain ⟨gS2, capS2, rfl, y0⟩ := hS2.at (pre_get rowS_pre HX.out)
              obtain ⟨gW2, capW2, rfl, hwc2, hwm2, -, hgwl⟩ := row2_slice hS2.ways (by rw [HW2.out.1]; have := (rowS_pre (f := f) (L := L) (x := x) (c := c)).length_le; omega)
              have hlen2 : L.length ≤ (rowS f L x c).length := (rowS_pre (f := f) (L := L) (x := x) (c := c)).length_le
              have hlen3 := hrl.out c hc
              have hkr : k < (rowS f L x c).length := by omega
              obtain ⟨nv, hnv⟩ : ∃ nv, nv = rStep t fm.fields x c := ⟨_, rfl⟩
              have hcon := fun (w' : World) (h : Ext w w') => HCS.out w' h x c (by omega) (by omega)
              rw [← hnv] at hcon
              have HCON := Lib.hid hcon
              have hn40 : nv ≤ 40000000 := by rw [hnv]; exact rStep_le hle (by omega)
              have HNV := Lib.hid hnv
              have hwc : IntKind.u8.wrap (c : Int) = (c : Int) := IntWalk.u8_in _ (by omega)
              have k0 := cs_ext hS2.ext K0.out
              have k1 := cs_ext hS2.ext K1.out
              have hWl2 : Ws2.length ≤ 40000001 := by rw [HW2.out.1]; exact hlen3
              have HS2 := Lib.hid hS2
              clear hcon hnv hS2
              go_wp2_with fail
              refine wp_region_reg 9 false (by kernel_rfl) (by kernel_rfl) ?_
              refine reg_value (fun _ => rfl) ?_ (fun g w' vs hM hE hP => ?_) ?_
              rotate_left
              · (clear hP hM; have zz0 := cs_ext hE k0; have zz1 := cs_ext hE k1; have zz2 := cs_ext hE y0; go_simp; first | done | rfl)
              refine reg_value (fun _ => rfl) ?_ (fun g w' vs hM hE hP => ?_) ?_
              rotate_left
              · (clear hP hM; have zz0 := cs_ext hE k0; have zz1 := cs_ext hE k1; have zz2 := cs_ext hE y0; go_simp; first | done | rfl)
              refine reg_value (fun _ => rfl) ?_ (fun g w' vs hM hE hP => ?_) ?_
              rotate_left
              · (clear hP hM; have zz0 := cs_ext hE k0; have zz1 := cs_ext hE k1; have zz2 := cs_ext hE y0; go_simp; first | done | rfl)
              refine reg_value (fun _ => rfl) ?_ (fun g w' vs hM hE hP => ?_) ?_
              rotate_left
              · (clear hP hM; have zz0 := cs_ext hE k0; have zz1 := cs_ext hE k1; have zz2 := cs_ext hE y0; go_simp; first | done | rfl)
              refine reg_value (fun _ => rfl) ?_ (fun g w' vs hM hE hP => ?_) ?_
              rotate_left
              · (clear hP hM; have zz0 := cs_ext hE k0; have zz1 := cs_ext hE k1; have zz2 := cs_ext hE y0; go_simp; first | done | rfl)
              refine reg_value (fun _ => rfl) ?_ (fun g w' vs hM hE hP => ?_) ?_
              rotate_left
              · (clear hP hM; have zz0 := cs_ext hE k0; have zz1 := cs_ext hE k1; have zz2 := cs_ext hE y0; go_simp; first | done | rfl)
              refine reg_value (fun _ => rfl) ?_ (fun g w' vs hM hE hP => ?_) ?_
              rotate_left
              · (clear hP hM; have zz0 := cs_ext hE k0; have zz1 := cs_ext hE k1; have zz2 := cs_ext hE y0; go_simp; first | done | rfl)
              refine reg_const (fun _ => rfl) 54 ?_ (fun g w' vs hM hE hP => ?_) ?_
              rotate_left
              · (clear hP hM; have zz0 := cs_ext hE k0; have zz1 := cs_ext hE k1; have zz2 := cs_ext hE y0; go_simp; first | done | exact ⟨rfl, rfl⟩ | rfl)
              apply Exists.intro
              refine And.intro (fun g w' vs hM hE hP => ?_) ?_
              · exact HCON.out _ (HE1.out.trans (HS2.out.ext.trans hE))
              refine reg_value (fun _ => rfl) ?_ (fun g w' vs hM hE hP => ?_) ?_
              rotate_left
              · (clear hP hM; have zz0 := cs_ext hE k0; have zz1 := cs_ext hE k1; have zz2 := cs_ext hE y0; go_simp; first | done | rfl)
              intro g wz hE5 hF5 hQ5
              simp only [List.drop_succ_cons, List.drop_zero, Act.put, List.setIfInBounds_toArray, List.set_cons_succ, List.set_cons_zero]
              clear hF5 hQ5 k0 k1 y0
              have HS5 := Lib.hid (HS2.out.next hE5)
              have HSUC : Hid (rowS f L x (c + 1) = tick f x (rowS f L x c) c) := Lib.hid rowS_succ
              clear hE5
              by_cases hneg : nv < 0
              · have hf0 : f x c = none := by rw [HF.out, stF, ← HNV.out, if_pos hneg]
                have HR : Hid (rowS f L x (c + 1) = rowS f L x c) := Lib.hid (by rw [HSUC.out, tick_none hf0])
                have HF0 := Lib.hid hf0
                have e3 : decide (nv < 0) = true := decide_eq_true hneg
                clear hf0
                go_wp2_with fail
                go_roundw
                case rel => exact ⟨c + 1, Ws2, by go_num, by omega, by rw [HR.out]; exact HS5.out, by rw [HR.out]; exact HW2.out, fun b hb n hn => by
                  rcases Nat.lt_or_ge b c with h | h
                  · exact HALL2.out b h n hn
                  · have : b = c := by omega
                    subst this
                    rw [HF0.out] at hn; cases hn⟩
                case measure => simp [intOf]; omega
              · have hf0 : f x c = some nv := by rw [HF.out, stF, ← HNV.out, if_neg hneg]
                have e3 : decide (nv < 0) = false := decide_eq_false hneg
                have HF0 := Lib.hid hf0
                have k0 := cs_ext HS5.out.ext K0.out
                have k1 := cs_ext HS5.out.ext K1.out
                obtain ⟨b1, hb1⟩ : ∃ b1, b1 = acc nv := ⟨_, rfl⟩
                have hc3 := HCA.out wz (HE1.out.trans HS5.out.ext) nv (by omega)
                rw [← HACC.out, ← hb1] at hc3
                have HB1 := Lib.hid hb1
                have HC3 := Lib.hid hc3
                clear hf0 hb1 hc3
                go_wp2_with fail
                refine HC3.out.mono ?_
                rintro e w6 ⟨rfl, hE6⟩
                have hS6 := HS5.out.next hE6
                clear k0 k1 hE6
                cases b1
                · have hI : I64 nv := ⟨by omega, by omega⟩
                  have hlk := hS6.look hI
                  have HNA : Hid (∀ b < c + 1, ∀ n, f x b = some n → acc n = false) := Lib.hid (fun b hb n hn => by
                    rcases Nat.lt_or_ge b c with h | h
                    · exact HALL2.out b h n hn
                    · have : b = c := by omega
                      subst this
                      rw [HF0.out] at hn; cases hn; exact HB1.out.symm)
                  by_cases hmem : nv ∈ rowS f L x c
                  · have HR : Hid (rowS f L x (c + 1) = rowS f L x c) := Lib.hid (by rw [HSUC.out, tick_old HF0.out hmem])
                    rw [decide_eq_true hmem] at hlk
                    have HS6 := Lib.hid hS6
                    clear hS6 hmem
                    go_wp2_with fail
                    go_roundw
                    case rel => exact ⟨c + 1, Ws2, by go_num, by omega, by rw [HR.out]; exact HS6.out, by rw [HR.out]; exact HW2.out, HNA.out⟩
                    case measure => simp [intOf]; omega
                  · have HR : Hid (rowS f L x (c + 1) = rowS f L x c ++ [nv]) := Lib.hid (by rw [HSUC.out, tick_new HF0.out hmem])
                    rw [decide_eq_false hmem] at hlk
                    obtain ⟨w7, hup, hS7⟩ := hS6.put hI
                    have hO1 := ownsRow_ext hS7.own (Ext.alloc w7 (.cells #[.int .i64 nv] 3))
                    have hS7' := hS7.next (Ext.alloc w7 (.cells #[.int .i64 nv] 3))
                    have hz7 := hS7.ext.size
                    have HWN := Lib.hid (HW2.out.push (pre_get rowS_pre HX.out) hc2 HF0.out)
                    have HS7' := Lib.hid hS7'
                    have HS6 := Lib.hid hS6
                    clear hS6 hS7 hS7' hmem
                    obtain ⟨i0, hi0, hz0, hz1, hz2⟩ := info_parts inf3
                    obtain ⟨j0, hj0, hj1, hj2, hj3⟩ := info_parts inf106
                    go_wp2_with (first
                      | (at_builtin; refine wpList_append_own_at _ rfl _ _ 58 rfl w1.heap.size 3 i0 (.int .i64 0) 1 8 Try.underlying58 hi0 hz0 hz1 hz2 rfl (by decide) _ _ _ rfl hO1 ⟨w7.heap.size, 0, none⟩ 1 1 [.int .i64 nv] rfl rfl (cell_one_new _ _ _) (fun x hx => by simp at hx; subst hx; rfl) (by unfold maxLen; omega) (by omega) (by simp; omega) ?_; intro v8 w8 hown8 hgrow8 hnil8 hat8
                         have hS8 := HS7'.out.grow1 hown8 hgrow8 hat8
                         have HS8 := Lib.hid hS8
                         have HG8 := Lib.hid hgrow8
                         clear hown8 hgrow8 hnil8 hat8 hS8 hO1)
                      | (at_builtin
                         have hO2 := ownsRow_ext HS8.out.ways (Ext.alloc w8 (.cells #[.int .i64 k, .int .u8 c] 106))
                         have hz8 := HS8.out.ext.size
                         refine wpList_append_own_at _ rfl _ _ 68 rfl w1.heap.size 106 j0 (.agg #[.int .i64 0, .int .u8 0]) 2 16 Try.underlying68 hj0 hj1 hj2 hj3 rfl (by decide) _ _ _ rfl hO2 ⟨w8.heap.size, 0, none⟩ 1 1 [.int .i64 k, .int .u8 c] rfl rfl (cells_two hs_new) (fun u hu => by simp at hu; rcases hu with rfl | rfl <;> rfl) (by unfold maxLen; omega) (by omega) (by simp; omega) ?_; intro v9 w9 hown9 hgrow9 hnil9 hat9
                         have hS9 := (HS8.out.next (Ext.alloc w8 (.cells #[.int .i64 k, .int .u8 c] 106))).grow2 (q := (k, c)) hown9 hgrow9 hat9
                         have HS9 := Lib.hid hS9
                         clear hown9 hgrow9 hnil9 hat9 hS9 hO2 hz8))
                    go_roundw
                    case rel => exact ⟨c + 1, _, by go_num, by omega, by rw [HR.out]; exact HS9.out, by rw [HR.out]; exact HWN.out, HNA.out⟩
                    case measure => simp [intOf]; omega
                · have hcells : ∀ (i p b : Nat), Ws2[i]? = some (p, b) → w6.cell? ⟨gW2, i * 2, none⟩ = some (.int .i64 p) ∧ w6.cell? ⟨gW2, i * 2 + 1, none⟩ = some (.int .u8 b) := fun i p b hi => by
                    obtain ⟨g', c', e, -, -, -, hc⟩ := row2_at (f := encW2) (fun _ => rfl) hS6.ways hi
                    cases e
                    exact ⟨hc 0 _ rfl, hc 1 _ rfl⟩
                  have hz6 := hS6.ext.size
                  have HC := Lib.hid hcells
                  have HS6 := Lib.hid hS6
                  have HOK := Lib.hid HW2.out.ok
                  have HWL : Hid (Ws2.length = (rowS f L x c).length) := HW2.out.1
                  have hkW : k < Ws2.length := by rw [HWL.out]; exact hkr
                  have hWm : Ws2.length ≤ 9223372036854775807 := by omega
                  have HO0 : Hid ((w6.alloc (.cells #[.int .u8 c] 5)).ownsRow w6.heap.size 5 1 (.slice (some ⟨w6.heap.size, 0, none⟩) 1 1) 1 [Value.int .u8 c]) := Lib.hid ⟨rfl, .inr ⟨w6.heap.size, 1, #[.int .u8 c], rfl, Nat.le_refl _, hs_new, by simp, by unfold maxLen; omega, rfl, rfl⟩⟩
                  clear hcells hS6
                  go_wp2_with fail
                  go_loopw [14, 15] (fun ov kv wr3 => ∃ (i' : Nat) (ol : List Nat), kv = .int .i64 i' ∧ i' < Ws2.length ∧ wr3.ownsRow w6.heap.size 5 1 ov ol.length (ol.map encN8) ∧ ol ++ pathR Ws2 Ws2.length i' = c :: pathR Ws2 Ws2.length k ∧ ol.length + i' ≤ k + 1 ∧ (∀ b ∈ ol, b < 256) ∧ Ext w6 wr3) (fun _ kv _ => (intOf kv).toNat)
                  case atStart => exact ⟨k, [c], rfl, hkW, HO0.out, rfl, by simp; omega, by simp; omega, Ext.alloc _ _⟩
                  case round =>
                    obtain ⟨i', ol, rfl, hi', hO, hP, hLn, hA, hE⟩ := hrel
                    by_cases hpos : 0 < i'
                    · have e4 : decide (0 < (i' : Int)) = true := decide_eq_true (by omega)
                      obtain ⟨⟨p, b⟩, hpb⟩ : ∃ x, Ws2[i']? = some x := ⟨_, List.getElem?_eq_getElem hi'⟩
                      obtain ⟨v0, v1⟩ := HC.out i' p b hpb
                      obtain ⟨hp1, hb1⟩ := HOK.out i' p b hpos hpb
                      have hstep := pathR_step HOK.out hpos hpb
                      have k1 := cs_ext hE v1
                      have hO4' := ownsRow_ext hO (Ext.alloc wr (.cells #[.int .u8 b] 5))
                      have hlb := fun k hk => (hO.lt k hk).1
                      have hsz4 := hE.size
                      have HEE := Lib.hid hE
                      have HP := Lib.hid hP
                      have HST := Lib.hid hstep
                      have HA := Lib.hid hA
                      have V0 := Lib.hid v0
                      have HPB := Lib.hid hpb
                      have HLB := Lib.hid hlb
                      clear hE hP hstep hA v0 v1 hpb hO hlb
                      obtain ⟨i0, hi0, hz0, hz1, hz2⟩ := info_parts inf5
                      go_wp2_with (first
                        | (at_builtin; refine wpList_append_own_at _ rfl _ _ 104 rfl w6.heap.size 5 i0 (.int .u8 0) 1 1 Try.underlying104 hi0 hz0 hz1 hz2 rfl (by decide) _ _ _ rfl hO4' ⟨wr.heap.size, 0, none⟩ 1 1 [.int .u8 b] rfl rfl (cell_one_new _ _ _) (fun x hx => by simp at hx; subst hx; rfl) (by unfold maxLen; omega) (by omega) (by simp; omega) ?_; intro v' w5 hown' hgrow5 hnil5 hat5
                           have HG5 := Lib.hid hgrow5
                           have HO5 := Lib.hid hown'
                           clear hown' hgrow5 hnil5 hat5 hO4'
                           have y0 := row_keep HEE.out HG5.out HLB.out V0.out))
                      go_roundw
                      case rel => exact ⟨p, ol ++ [b], rfl, by omega, by simpa [encN8] using HO5.out, by rw [← HP.out, HST.out]; simp, by simp; omega, fun c hc => by
                        rcases List.mem_append.1 hc with h | h
                        · exact HA.out c h
                        · simp at h; omega, (HEE.out.then_al _).grown HG5.out HLB.out⟩
                      case measure => simp [intOf]; omega
                    · have hi0 : i' = 0 := by omega
                      subst hi0
                      have hol : ol = c :: pathR Ws2 Ws2.length k := by rw [← hP, pathR_zero, List.append_nil]
                      have e4 : decide (0 < ((0 : Nat) : Int)) = false := by simp
                      have HO := Lib.hid hO
                      have HEE := Lib.hid hE
                      have HOL := Lib.hid hol
                      have HLN : Hid (ol.length ≤ 40000010) := Lib.hid (by omega)
                      have HA := Lib.hid hA
                      have HLB := Lib.hid (fun k hk => (hO.lt k hk).1)
                      clear hO hP hol hA hE
                      go_wp2_with fail
                      refine (reverse_any HO.out).mono ?_
                      rintro e w10 ⟨rfl, hO2, hG⟩
                      have hcv := bytes_back hO2 (fun b hb => HA.out b (by simpa using hb))
                      have HE10 : Hid (Ext w w10) := Lib.hid (HE1.out.trans (HS6.out.ext.trans (HEE.out.grown hG HLB.out)))
                      clear hO2 hG
                      go_wp2_with fail
                      go_ret2
                      refine ⟨_, _, rfl, HE10.out, .inl ⟨rfl, _, rfl, fun b hb => HA.out b (by simpa using hb), fun _ => by rw [HOL.out]; simp, by have := HLN.out; rw [HOL.out] at this; rw [List.length_reverse, HOL.out]; omega, nv, ?_, by rw [← HACC.out]; exact HB1.out.symm⟩⟩
                      rw [HOL.out, List.reverse_cons, runF_append]
                      obtain ⟨r1, -, -⟩ := HW2.out.path (s := s0) (pre_get rowS_pre (by rw [← HLL.out]; exact lev_start)) Ws2.length k x (by omega) (pre_get rowS_pre HX.out)
                      rw [← HF.out, r1]
                      simp [runF, HF0.out]
            · have hc3 : c = 256 := by omega
              subst hc3
              have HS2 := Lib.hid hS2
              clear hS2
              have hlen2 : L.length ≤ (rowS f L x 256).length := (rowS_pre (f := f) (L := L) (x := x) (c := 256)).length_le
              go_wp2_with fail
              go_roundw
              case rel => exact ⟨k + 1, Ws2, by go_num, by rw [HNEXT.out]; exact HS2.out, by rw [HNEXT.out]; exact HW2.out, by rw [HNEXT.out]; omega, fun k' y h hy => by
                rw [HNEXT.out] at hy
                rcases Nat.lt_or_ge k' k with h' | h'
                · have hkl : k' < L.length := by omega
                  have e := pre_get (rowS_pre (f := f) (L := L) (x := x) (c := 256)) (List.getElem?_eq_getElem hkl)
                  rw [hy] at e
                  exact HALL.out k' y h' (by rw [List.getElem?_eq_getElem hkl]; exact e.symm)
                · have : k' = k := by omega
                  subst this
                  have e := pre_get (rowS_pre (f := f) (L := L) (x := x) (c := 256)) HX.out
                  rw [hy] at e; cases e
                  exact HALL2.out⟩
              case measure => simp [intOf]; omega
        · have HFull : Hid (Full f s0 (lev f s0 k)) := ⟨k, rfl, by omega⟩
          have HEX := Lib.hid (HE1.out.trans hS.ext)
          obtain ⟨gS, capS, hsv, -⟩ := hS.at lev_start
          subst hsv
          have e1 : decide ((k : Int) < ((lev f s0 k).length : Int)) = false := decide_eq_false (by omega)
          generalize hLL : lev f s0 k = L at *
          clear hS hLL
          have HLE : Hid (L.length ≤ k) := Lib.hid (by omega)
          go_wp2_with fail
          go_ret2
          refine ⟨_, _, rfl, HEX.out, .inr ⟨rfl, rfl, ?_⟩⟩
          rw [← HF.out, ← HACC.out]
          refine on_none HFull.out (by rw [HACC.out]; intro h; exact HM.out (by first | exact trivial | exact h)) (fun y hy b hb n hn => ?_)
          obtain ⟨k', hk'⟩ := List.mem_iff_getElem?.1 hy
          exact HALL.out k' y (by have := (List.getElem?_eq_some_iff.1 hk').1; have := HLE.out; omega) hk' b hb n hn
    · have HB2 := Lib.hid hE2
      clear hE2 hE12
      go_wp2_with fail
      go_ret2
      exact ⟨_, _, rfl, HB2.out, .inl ⟨rfl, [], rfl, by simp, by simp, by simp, s0, rfl, HB0.out.symm⟩⟩
  · have HM : Hid (true = false → rAcc fm.fields s0 = false) := Lib.hid (fun h => nomatch h)
    obtain ⟨w2, hw2⟩ : ∃ w2, w2 = w1 := ⟨_, rfl⟩
    rw [← hw2]
    have hE12 : Ext w1 w2 := by rw [hw2]; exact Ext.refl _
    have hE2 := hE1.trans hE12
    clear hw2 k0 k1
    go_upto_region 4 with fail
    obtain ⟨w3, hw3⟩ : ∃ w3, w3 = (w2.alloc (Obj.cells #[Value.int IntKind.i64 s0] 3)).alloc (Obj.cells #[Value.int IntKind.i64 0, Value.int IntKind.u8 0] 106) := ⟨_, rfl⟩
    rw [← hw3]
    have hE3 : Ext w w3 := by rw [hw3]; exact (hE2.then_al _).then_al _
    have hE13 : Ext w1 w3 := by rw [hw3]; exact (hE12.then_al _).then_al _
    have q1 : w3.heap[w2.heap.size]? = some (.cells #[.int .i64 s0] 3) := by rw [hw3]; exact hs_al hs_new
    have q2 : w3.heap[w2.heap.size + 1]? = some (.cells #[.int .i64 0, .int .u8 0] 106) := by rw [hw3]; have h := hs_new (w := w2.alloc (.cells #[.int .i64 s0] 3)) (o := .cells #[.int .i64 0, .int .u8 0] 106); rwa [World.size_alloc] at h
    have hsz3 : w3.heap.size = w2.heap.size + 2 := by rw [hw3]; simp
    have hsz2 := hE12.size
    obtain ⟨g1, hg1⟩ : ∃ g1, g1 = w2.heap.size := ⟨_, rfl⟩
    rw [← hg1] at q1 q2 hsz3 hsz2 ⊢
    clear hg1
    have hmk : (Instr.makeMap 72 none).run Try.prog w3 = .ok (.map (some w3.heap.size)) (w3.alloc (.map #[] 0)) := rfl
    obtain ⟨ob, hup, hF⟩ := (MapK.made (enc := encN) w3).update law3 key3 encN_inj Try.underlying72 ⟨s0, by unfold I64; omega⟩ (.bool true)
    have hF0 := hF (fun x => inB [s0] x.1) (by simp [inB]) (fun y hy => by
      have : y.1 ≠ s0 := fun h => hy (Subtype.ext h)
      simp [inB, this])
    simp only [encN] at hup
    have hE4 : Ext w3 (ChangeMaps.setBlock (w3.alloc (.map #[] 0)) w3.heap.size ob) := ((Ext.alloc w3 _)).turned (Nat.le_refl _)
    generalize hw4 : ChangeMaps.setBlock (w3.alloc (.map #[] 0)) w3.heap.size ob = w4 at *
    obtain ⟨mb, hmbv⟩ : ∃ mb, mb = w3.heap.size := ⟨_, rfl⟩
    have hS0 : ASrch w1 w4 mb (.slice (some ⟨g1, 0, none⟩) 1 1) (.slice (some ⟨g1 + 1, 0, none⟩) 1 1) [s0] [(0, 0)] :=
      AGen.start (hE13.trans hE4) (by rw [hmbv]; exact hF0) (by omega) (hs_ext hE4 q1) (hs_ext hE4 q2) hsz2 (by omega) (by omega) (by omega) (by omega)
    rw [← hmbv] at hmk hup
    have HS0 := Lib.hid hS0
    have HMBV := Lib.hid hmbv
    clear hS0 q1 q2 hw3 hF hF0 hw4 hE2 hE12 hsz3 hsz2 hE4 hE3 hE13 hmbv
    go_wp2_with fail
    clear hmk hup
    obtain ⟨f, hf⟩ : ∃ f, f = stF t fm.fields := ⟨_, rfl⟩
    obtain ⟨acc, hacc⟩ : ∃ acc, acc = rAcc fm.fields := ⟨_, rfl⟩
    have HF := Lib.hid hf
    have HACC := Lib.hid hacc
    clear hf hacc
    go_loopw [8, 9, 11, 12, 13, 14, 15, 36] (fun sv wv iv _ _ _ _ _ wr => ∃ (k : Nat) (Ws : List (Nat × Nat)), iv = .int .i64 k ∧ ASrch w1 wr mb sv wv (lev f s0 k) Ws ∧ Ways f (lev f s0 k) Ws ∧ k ≤ (lev f s0 k).length ∧
      (∀ (k' : Nat) (x : Int), k' < k → (lev f s0 k)[k']? = some x → ∀ b < 256, ∀ n, f x b = some n → acc n = false)) (fun _ _ iv _ _ _ _ _ _ => 40000002 - (intOf iv).toNat)
    case atStart => exact ⟨0, _, rfl, HS0.out, Ways.one, by simp, fun k' x h => by omega⟩
    case round =>
      obtain ⟨k, Ws, rfl, hS, hW, hk, hall⟩ := hrel
      have hlen : (lev f s0 k).length ≤ 40000001 := by rw [HF.out]; exact levF_len hle ⟨hs1, hs2⟩
      have HALL := Lib.hid hall
      have HW := Lib.hid hW
      clear hall hW
      by_cases hlt : k < (lev f s0 k).length
      · obtain ⟨x, hx⟩ : ∃ x, (lev f s0 k)[k]? = some x := ⟨_, List.getElem?_eq_getElem hlt⟩
        have hxs : 0 ≤ x ∧ x ≤ 40000000 := by
          have hx' := hx
          rw [HF.out] at hx'
          exact levF_small hle ⟨hs1, hs2⟩ x (List.mem_of_getElem? hx')
        obtain ⟨hx0, hx4⟩ := hxs
        obtain ⟨gS, capS, rfl, -⟩ := hS.at hx
        have HX := Lib.hid hx
        have HS := Lib.hid hS
        clear hx hS
        have hrl : Hid (∀ c, c ≤ 256 → (rowS f (lev f s0 k) x c).length ≤ 40000001) := Lib.hid (fun c hc => by
          have hx' := HX.out
          rw [HF.out] at hx' ⊢
          exact rowF_len hle ⟨hs1, hs2⟩ hx' hc)
        have HNEXT : Hid (lev f s0 (k + 1) = rowS f (lev f s0 k) x 256) := Lib.hid (lev_succ HX.out)
        have e1 : decide ((k : Int) < ((lev f s0 k).length : Int)) = true := decide_eq_true (by omega)
        generalize hLL : lev f s0 k = L at *
        have HLL := Lib.hid hLL
        clear hLL
        go_wp2_with fail
        go_loopw [8, 9, 12, 13, 14, 15, 36] (fun sv wv _ _ _ _ cv wr2 => ∃ (c : Nat) (Ws2 : List (Nat × Nat)), cv = .int .i64 c ∧ c ≤ 256 ∧ ASrch w1 wr2 mb sv wv (rowS f L x c) Ws2 ∧ Ways f (rowS f L x c) Ws2 ∧ (∀ b < c, ∀ n, f x b = some n → acc n = false)) (fun _ _ _ _ _ _ cv _ => 256 - (intOf cv).toNat)
        case atStart => exact ⟨0, _, rfl, by omega, HS.out, HW.out, fun b h => by omega⟩
        case round =>
          obtain ⟨c, Ws2, rfl, hc, hS2, hW2, hall2⟩ := hrel
          have HALL2 := Lib.hid hall2
          have HW2 := Lib.hid hW2
          clear hall2 hW2
          by_cases hc2 : c < 256
          · have e2 : decide ((c : Int) < 256) = true := decide_eq_true (by omega)
            obtain ⟨gS2, capS2, rfl, y0⟩ := hS2.at (pre_get rowS_pre HX.out)
            obtain ⟨gW2, capW2, rfl, hwc2, hwm2, -, hgwl⟩ := row2_slice hS2.ways (by rw [HW2.out.1]; have := (rowS_pre (f := f) (L := L) (x := x) (c := c)).length_le; omega)
            have hlen2 : L.length ≤ (rowS f L x c).length := (rowS_pre (f := f) (L := L) (x := x) (c := c)).length_le
            have hlen3 := hrl.out c hc
            have hkr : k < (rowS f L x c).length := by omega
            obtain ⟨nv, hnv⟩ : ∃ nv, nv = rStep t fm.fields x c := ⟨_, rfl⟩
            have hcon := fun (w' : World) (h : Ext w w') => HCS.out w' h x c (by omega) (by omega)
            rw [← hnv] at hcon
            have HCON := Lib.hid hcon
            have hn40 : nv ≤ 40000000 := by rw [hnv]; exact rStep_le hle (by omega)
            have HNV := Lib.hid hnv
            have hwc : IntKind.u8.wrap (c : Int) = (c : Int) := IntWalk.u8_in _ (by omega)
            have k0 := cs_ext hS2.ext K0.out
            have k1 := cs_ext hS2.ext K1.out
            have hWl2 : Ws2.length ≤ 40000001 := by rw [HW2.out.1]; exact hlen3
            have HS2 := Lib.hid hS2
            clear hcon hnv hS2
            go_wp2_with fail
            refine wp_region_reg 9 false (by kernel_rfl) (by kernel_rfl) ?_
            refine reg_value (fun _ => rfl) ?_ (fun g w' vs hM hE hP => ?_) ?_
            rotate_left
            · (clear hP hM; have zz0 := cs_ext hE k0; have zz1 := cs_ext hE k1; have zz2 := cs_ext hE y0; go_simp; first | done | rfl)
            refine reg_value (fun _ => rfl) ?_ (fun g w' vs hM hE hP => ?_) ?_
            rotate_left
            · (clear hP hM; have zz0 := cs_ext hE k0; have zz1 := cs_ext hE k1; have zz2 := cs_ext hE y0; go_simp; first | done | rfl)
            refine reg_value (fun _ => rfl) ?_ (fun g w' vs hM hE hP => ?_) ?_
            rotate_left
            · (clear hP hM; have zz0 := cs_ext hE k0; have zz1 := cs_ext hE k1; have zz2 := cs_ext hE y0; go_simp; first | done | rfl)
            refine reg_value (fun _ => rfl) ?_ (fun g w' vs hM hE hP => ?_) ?_
            rotate_left
            · (clear hP hM; have zz0 := cs_ext hE k0; have zz1 := cs_ext hE k1; have zz2 := cs_ext hE y0; go_simp; first | done | rfl)
            refine reg_value (fun _ => rfl) ?_ (fun g w' vs hM hE hP => ?_) ?_
            rotate_left
            · (clear hP hM; have zz0 := cs_ext hE k0; have zz1 := cs_ext hE k1; have zz2 := cs_ext hE y0; go_simp; first | done | rfl)
            refine reg_value (fun _ => rfl) ?_ (fun g w' vs hM hE hP => ?_) ?_
            rotate_left
            · (clear hP hM; have zz0 := cs_ext hE k0; have zz1 := cs_ext hE k1; have zz2 := cs_ext hE y0; go_simp; first | done | rfl)
            refine reg_value (fun _ => rfl) ?_ (fun g w' vs hM hE hP => ?_) ?_
            rotate_left
            · (clear hP hM; have zz0 := cs_ext hE k0; have zz1 := cs_ext hE k1; have zz2 := cs_ext hE y0; go_simp; first | done | rfl)
            refine reg_const (fun _ => rfl) 54 ?_ (fun g w' vs hM hE hP => ?_) ?_
            rotate_left
            · (clear hP hM; have zz0 := cs_ext hE k0; have zz1 := cs_ext hE k1; have zz2 := cs_ext hE y0; go_simp; first | done | exact ⟨rfl, rfl⟩ | rfl)
            apply Exists.intro
            refine And.intro (fun g w' vs hM hE hP => ?_) ?_
            · exact HCON.out _ (HE1.out.trans (HS2.out.ext.trans hE))
            refine reg_value (fun _ => rfl) ?_ (fun g w' vs hM hE hP => ?_) ?_
            rotate_left
            · (clear hP hM; have zz0 := cs_ext hE k0; have zz1 := cs_ext hE k1; have zz2 := cs_ext hE y0; go_simp; first | done | rfl)
            intro g wz hE5 hF5 hQ5
            simp only [List.drop_succ_cons, List.drop_zero, Act.put, List.setIfInBounds_toArray, List.set_cons_succ, List.set_cons_zero]
            clear hF5 hQ5 k0 k1 y0
            have HS5 := Lib.hid (HS2.out.next hE5)
            have HSUC : Hid (rowS f L x (c + 1) = tick f x (rowS f L x c) c) := Lib.hid rowS_succ
            clear hE5
            by_cases hneg : nv < 0
            · have hf0 : f x c = none := by rw [HF.out, stF, ← HNV.out, if_pos hneg]
              have HR : Hid (rowS f L x (c + 1) = rowS f L x c) := Lib.hid (by rw [HSUC.out, tick_none hf0])
              have HF0 := Lib.hid hf0
              have e3 : decide (nv < 0) = true := decide_eq_true hneg
              clear hf0
              go_wp2_with fail
              go_roundw
              case rel => exact ⟨c + 1, Ws2, by go_num, by omega, by rw [HR.out]; exact HS5.out, by rw [HR.out]; exact HW2.out, fun b hb n hn => by
                rcases Nat.lt_or_ge b c with h | h
                · exact HALL2.out b h n hn
                · have : b = c := by omega
                  subst this
                  rw [HF0.out] at hn; cases hn⟩
              case measure => simp [intOf]; omega
            · have hf0 : f x c = some nv := by rw [HF.out, stF, ← HNV.out, if_neg hneg]
              have e3 : decide (nv < 0) = false := decide_eq_false hneg
              have HF0 := Lib.hid hf0
              have k0 := cs_ext HS5.out.ext K0.out
              have k1 := cs_ext HS5.out.ext K1.out
              obtain ⟨b1, hb1⟩ : ∃ b1, b1 = acc nv := ⟨_, rfl⟩
              have hc3 := HCA.out wz (HE1.out.trans HS5.out.ext) nv (by omega)
              rw [← HACC.out, ← hb1] at hc3
              have HB1 := Lib.hid hb1
              have HC3 := Lib.hid hc3
              clear hf0 hb1 hc3
              go_wp2_with fail
              refine HC3.out.mono ?_
              rintro e w6 ⟨rfl, hE6⟩
              have hS6 := HS5.out.next hE6
              clear k0 k1 hE6
              cases b1
              · have hI : I64 nv := ⟨by omega, by omega⟩
                have hlk := hS6.look hI
                have HNA : Hid (∀ b < c + 1, ∀ n, f x b = some n → acc n = false) := Lib.hid (fun b hb n hn => by
                  rcases Nat.lt_or_ge b c with h | h
                  · exact HALL2.out b h n hn
                  · have : b = c := by omega
                    subst this
                    rw [HF0.out] at hn; cases hn; exact HB1.out.symm)
                by_cases hmem : nv ∈ rowS f L x c
                · have HR : Hid (rowS f L x (c + 1) = rowS f L x c) := Lib.hid (by rw [HSUC.out, tick_old HF0.out hmem])
                  rw [decide_eq_true hmem] at hlk
                  have HS6 := Lib.hid hS6
                  clear hS6 hmem
                  go_wp2_with fail
                  go_roundw
                  case rel => exact ⟨c + 1, Ws2, by go_num, by omega, by rw [HR.out]; exact HS6.out, by rw [HR.out]; exact HW2.out, HNA.out⟩
                  case measure => simp [intOf]; omega
                · have HR : Hid (rowS f L x (c + 1) = rowS f L x c ++ [nv]) := Lib.hid (by rw [HSUC.out, tick_new HF0.out hmem])
                  rw [decide_eq_false hmem] at hlk
                  obtain ⟨w7, hup, hS7⟩ := hS6.put hI
                  have hO1 := ownsRow_ext hS7.own (Ext.alloc w7 (.cells #[.int .i64 nv] 3))
                  have hS7' := hS7.next (Ext.alloc w7 (.cells #[.int .i64 nv] 3))
                  have hz7 := hS7.ext.size
                  have HWN := Lib.hid (HW2.out.push (pre_get rowS_pre HX.out) hc2 HF0.out)
                  have HS7' := Lib.hid hS7'
                  have HS6 := Lib.hid hS6
                  clear hS6 hS7 hS7' hmem
                  obtain ⟨i0, hi0, hz0, hz1, hz2⟩ := info_parts inf3
                  obtain ⟨j0, hj0, hj1, hj2, hj3⟩ := info_parts inf106
                  go_wp2_with (first
                    | (at_builtin; refine wpList_append_own_at _ rfl _ _ 58 rfl w1.heap.size 3 i0 (.int .i64 0) 1 8 Try.underlying58 hi0 hz0 hz1 hz2 rfl (by decide) _ _ _ rfl hO1 ⟨w7.heap.size, 0, none⟩ 1 1 [.int .i64 nv] rfl rfl (cell_one_new _ _ _) (fun x hx => by simp at hx; subst hx; rfl) (by unfold maxLen; omega) (by omega) (by simp; omega) ?_; intro v8 w8 hown8 hgrow8 hnil8 hat8
                       have hS8 := HS7'.out.grow1 hown8 hgrow8 hat8
                       have HS8 := Lib.hid hS8
                       have HG8 := Lib.hid hgrow8
                       clear hown8 hgrow8 hnil8 hat8 hS8 hO1)
                    | (at_builtin
                       have hO2 := ownsRow_ext HS8.out.ways (Ext.alloc w8 (.cells #[.int .i64 k, .int .u8 c] 106))
                       have hz8 := HS8.out.ext.size
                       refine wpList_append_own_at _ rfl _ _ 68 rfl w1.heap.size 106 j0 (.agg #[.int .i64 0, .int .u8 0]) 2 16 Try.underlying68 hj0 hj1 hj2 hj3 rfl (by decide) _ _ _ rfl hO2 ⟨w8.heap.size, 0, none⟩ 1 1 [.int .i64 k, .int .u8 c] rfl rfl (cells_two hs_new) (fun u hu => by simp at hu; rcases hu with rfl | rfl <;> rfl) (by unfold maxLen; omega) (by omega) (by simp; omega) ?_; intro v9 w9 hown9 hgrow9 hnil9 hat9
                       have hS9 := (HS8.out.next (Ext.alloc w8 (.cells #[.int .i64 k, .int .u8 c] 106))).grow2 (q := (k, c)) hown9 hgrow9 hat9
                       have HS9 := Lib.hid hS9
                       clear hown9 hgrow9 hnil9 hat9 hS9 hO2 hz8))
                  go_roundw
                  case rel => exact ⟨c + 1, _, by go_num, by omega, by rw [HR.out]; exact HS9.out, by rw [HR.out]; exact HWN.out, HNA.out⟩
                  case measure => simp [intOf]; omega
              · have hcells : ∀ (i p b : Nat), Ws2[i]? = some (p, b) → w6.cell? ⟨gW2, i * 2, none⟩ = some (.int .i64 p) ∧ w6.cell? ⟨gW2, i * 2 + 1, none⟩ = some (.int .u8 b) := fun i p b hi => by
                  obtain ⟨g', c', e, -, -, -, hc⟩ := row2_at (f := encW2) (fun _ => rfl) hS6.ways hi
                  cases e
                  exact ⟨hc 0 _ rfl, hc 1 _ rfl⟩
                have hz6 := hS6.ext.size
                have HC := Lib.hid hcells
                have HS6 := Lib.hid hS6
                have HOK := Lib.hid HW2.out.ok
                have HWL : Hid (Ws2.length = (rowS f L x c).length) := HW2.out.1
                have hkW : k < Ws2.length := by rw [HWL.out]; exact hkr
                have hWm : Ws2.length ≤ 9223372036854775807 := by omega
                have HO0 : Hid ((w6.alloc (.cells #[.int .u8 c] 5)).ownsRow w6.heap.size 5 1 (.slice (some ⟨w6.heap.size, 0, none⟩) 1 1) 1 [Value.int .u8 c]) := Lib.hid ⟨rfl, .inr ⟨w6.heap.size, 1, #[.int .u8 c], rfl, Nat.le_refl _, hs_new, by simp, by unfold maxLen; omega, rfl, rfl⟩⟩
                clear hcells hS6
                go_wp2_with fail
                go_loopw [14, 15] (fun ov kv wr3 => ∃ (i' : Nat) (ol : List Nat), kv = .int .i64 i' ∧ i' < Ws2.length ∧ wr3.ownsRow w6.heap.size 5 1 ov ol.length (ol.map encN8) ∧ ol ++ pathR Ws2 Ws2.length i' = c :: pathR Ws2 Ws2.length k ∧ ol.length + i' ≤ k + 1 ∧ (∀ b ∈ ol, b < 256) ∧ Ext w6 wr3) (fun _ kv _ => (intOf kv).toNat)
                case atStart => exact ⟨k, [c], rfl, hkW, HO0.out, rfl, by simp; omega, by simp; omega, Ext.alloc _ _⟩
                case round =>
                  obtain ⟨i', ol, rfl, hi', hO, hP, hLn, hA, hE⟩ := hrel
                  by_cases hpos : 0 < i'
                  · have e4 : decide (0 < (i' : Int)) = true := decide_eq_true (by omega)
                    obtain ⟨⟨p, b⟩, hpb⟩ : ∃ x, Ws2[i']? = some x := ⟨_, List.getElem?_eq_getElem hi'⟩
                    obtain ⟨v0, v1⟩ := HC.out i' p b hpb
                    obtain ⟨hp1, hb1⟩ := HOK.out i' p b hpos hpb
                    have hstep := pathR_step HOK.out hpos hpb
                    have k1 := cs_ext hE v1
                    have hO4' := ownsRow_ext hO (Ext.alloc wr (.cells #[.int .u8 b] 5))
                    have hlb := fun k hk => (hO.lt k hk).1
                    have hsz4 := hE.size
                    have HEE := Lib.hid hE
                    have HP := Lib.hid hP
                    have HST := Lib.hid hstep
                    have HA := Lib.hid hA
                    have V0 := Lib.hid v0
                    have HPB := Lib.hid hpb
                    have HLB := Lib.hid hlb
                    clear hE hP hstep hA v0 v1 hpb hO hlb
                    obtain ⟨i0, hi0, hz0, hz1, hz2⟩ := info_parts inf5
                    go_wp2_with (first
                      | (at_builtin; refine wpList_append_own_at _ rfl _ _ 104 rfl w6.heap.size 5 i0 (.int .u8 0) 1 1 Try.underlying104 hi0 hz0 hz1 hz2 rfl (by decide) _ _ _ rfl hO4' ⟨wr.heap.size, 0, none⟩ 1 1 [.int .u8 b] rfl rfl (cell_one_new _ _ _) (fun x hx => by simp at hx; subst hx; rfl) (by unfold maxLen; omega) (by omega) (by simp; omega) ?_; intro v' w5 hown' hgrow5 hnil5 hat5
                         have HG5 := Lib.hid hgrow5
                         have HO5 := Lib.hid hown'
                         clear hown' hgrow5 hnil5 hat5 hO4'
                         have y0 := row_keep HEE.out HG5.out HLB.out V0.out))
                    go_roundw
                    case rel => exact ⟨p, ol ++ [b], rfl, by omega, by simpa [encN8] using HO5.out, by rw [← HP.out, HST.out]; simp, by simp; omega, fun c hc => by
                      rcases List.mem_append.1 hc with h | h
                      · exact HA.out c h
                      · simp at h; omega, (HEE.out.then_al _).grown HG5.out HLB.out⟩
                    case measure => simp [intOf]; omega
                  · have hi0 : i' = 0 := by omega
                    subst hi0
                    have hol : ol = c :: pathR Ws2 Ws2.length k := by rw [← hP, pathR_zero, List.append_nil]
                    have e4 : decide (0 < ((0 : Nat) : Int)) = false := by simp
                    have HO := Lib.hid hO
                    have HEE := Lib.hid hE
                    have HOL := Lib.hid hol
                    have HLN : Hid (ol.length ≤ 40000010) := Lib.hid (by omega)
                    have HA := Lib.hid hA
                    have HLB := Lib.hid (fun k hk => (hO.lt k hk).1)
                    clear hO hP hol hA hE
                    go_wp2_with fail
                    refine (reverse_any HO.out).mono ?_
                    rintro e w10 ⟨rfl, hO2, hG⟩
                    have hcv := bytes_back hO2 (fun b hb => HA.out b (by simpa using hb))
                    have HE10 : Hid (Ext w w10) := Lib.hid (HE1.out.trans (HS6.out.ext.trans (HEE.out.grown hG HLB.out)))
                    clear hO2 hG
                    go_wp2_with fail
                    go_ret2
                    refine ⟨_, _, rfl, HE10.out, .inl ⟨rfl, _, rfl, fun b hb => HA.out b (by simpa using hb), fun _ => by rw [HOL.out]; simp, by have := HLN.out; rw [HOL.out] at this; rw [List.length_reverse, HOL.out]; omega, nv, ?_, by rw [← HACC.out]; exact HB1.out.symm⟩⟩
                    rw [HOL.out, List.reverse_cons, runF_append]
                    obtain ⟨r1, -, -⟩ := HW2.out.path (s := s0) (pre_get rowS_pre (by rw [← HLL.out]; exact lev_start)) Ws2.length k x (by omega) (pre_get rowS_pre HX.out)
                    rw [← HF.out, r1]
                    simp [runF, HF0.out]
          · have hc3 : c = 256 := by omega
            subst hc3
            have HS2 := Lib.hid hS2
            clear hS2
            have hlen2 : L.length ≤ (rowS f L x 256).length := (rowS_pre (f := f) (L := L) (x := x) (c := 256)).length_le
            go_wp2_with fail
            go_roundw
            case rel => exact ⟨k + 1, Ws2, by go_num, by rw [HNEXT.out]; exact HS2.out, by rw [HNEXT.out]; exact HW2.out, by rw [HNEXT.out]; omega, fun k' y h hy => by
              rw [HNEXT.out] at hy
              rcases Nat.lt_or_ge k' k with h' | h'
              · have hkl : k' < L.length := by omega
                have e := pre_get (rowS_pre (f := f) (L := L) (x := x) (c := 256)) (List.getElem?_eq_getElem hkl)
                rw [hy] at e
                exact HALL.out k' y h' (by rw [List.getElem?_eq_getElem hkl]; exact e.symm)
              · have : k' = k := by omega
                subst this
                have e := pre_get (rowS_pre (f := f) (L := L) (x := x) (c := 256)) HX.out
                rw [hy] at e; cases e
                exact HALL2.out⟩
            case measure => simp [intOf]; omega
      · have HFull : Hid (Full f s0 (lev f s0 k)) := ⟨k, rfl, by omega⟩
        have HEX := Lib.hid (HE1.out.trans hS.ext)
        obtain ⟨gS, capS, hsv, -⟩ := hS.at lev_start
        subst hsv
        have e1 : decide ((k : Int) < ((lev f s0 k).length : Int)) = false := decide_eq_false (by omega)
        generalize hLL : lev f s0 k = L at *
        clear hS hLL
        have HLE : Hid (L.length ≤ k) := Lib.hid (by omega)
        go_wp2_with fail
        go_ret2
        refine ⟨_, _, rfl, HEX.out, .inr ⟨rfl, rfl, ?_⟩⟩
        rw [← HF.out, ← HACC.out]
        refine on_none HFull.out (by rw [HACC.out]; intro h; exact HM.out (by first | exact trivial | exact h)) (fun y hy b hb n hn => ?_)
        obtain ⟨k', hk'⟩ := List.mem_iff_getElem?.1 hy
        exact HALL.out k' y (by have := (List.getElem?_eq_some_iff.1 hk').1; have := HLE.out; omega) hk' b hb n hn

end Go.Proofs.Ythoelnoahfedmaa
