/- Contracts: on, continued, PrefixFree. -/
import Derived.Test.YtfaienbdebjfcaaGreatGO
namespace Go.Proofs.YtfaienbdebjfcaaGreat
open Go Go.RowKit
open Go.Maps (Keyed)
set_option linter.unusedVariables false
set_option linter.unusedSimpArgs false
set_option linter.unusedSectionVars false

theorem nodup_lt : ∀ (N : Nat) (l : List Int), l.Nodup → (∀ x ∈ l, 0 ≤ x ∧ x < N) → l.length ≤ N
 | 0, l, _, hb => by
   cases l with
   | nil => simp
   | cons x l => have := hb x (by simp); omega
 | N + 1, l, h, hb => by
   have h1 := nodup_lt N (l.erase (N : Int)) (h.erase _) (fun x hx => by
    have := hb x (List.mem_of_mem_erase hx)
    have hne : x ≠ (N : Int) := fun e => by subst e; exact h.not_mem_erase hx
    omega)
   have := List.le_length_erase (a := (N : Int)) (l := l)
   omega

structure AGen (w wr : World) (mb : Nat) (sv wv : Value) (L : List Int) (W : List (Nat × Nat)) (Lm : List Int) : Prop where
 own : wr.ownsRow w.heap.size 3 1 sv L.length (L.map encI)
 ways : wr.ownsRow w.heap.size 185 2 wv W.length (flatW W)
 map : ∃ n, MapK encN wr mb n (fun x => inB Lm x.1)
 a1 : sv.ownBlock ≠ some mb
 a2 : wv.ownBlock ≠ some mb
 a3 : sv.ownBlock ≠ wv.ownBlock
 mb : w.heap.size ≤ mb
 ext : Ext w wr
abbrev ASrch (w wr : World) (mb : Nat) (sv wv : Value) (L : List Int) (W : List (Nat × Nat)) : Prop := AGen w wr mb sv wv L W L

theorem AGen.next {w wr w' : World} {mb : Nat} {sv wv : Value} {L Lm : List Int} {W : List (Nat × Nat)} (h : AGen w wr mb sv wv L W Lm) (hE : Ext wr w') : AGen w w' mb sv wv L W Lm :=
 ⟨ownsRow_ext h.own hE, ownsRow_ext h.ways hE, let ⟨n, h'⟩ := h.map; ⟨n, h'.ext hE⟩, h.a1, h.a2, h.a3, h.mb, h.ext.trans hE⟩
theorem AGen.at {w wr : World} {mb : Nat} {sv wv : Value} {L Lm : List Int} {W : List (Nat × Nat)} {k : Nat} {x : Int} (h : AGen w wr mb sv wv L W Lm) (hk : L[k]? = some x) :
 ∃ g cap, sv = .slice (some ⟨g, 0, none⟩) L.length cap ∧ wr.cell? ⟨g, k, none⟩ = some (.int .i64 x) := by
 have hlt := (List.getElem?_eq_some_iff.1 hk).1
 rcases h.own.2 with ⟨-, h0⟩ | ⟨g, cap, cur, rfl, -⟩
 · omega
 · refine ⟨g, cap, rfl, ?_⟩
   have h0 := h.own.cells (g := g) rfl k _ (ints_get hk)
   by_cases hk0 : k = 0
   · subst hk0; simpa [Addr.add] using h0
   · simpa [Addr.add, hk0] using h0
theorem AGen.start {w w2 : World} {mb n : Nat} {s : Int} {g1 g2 : Nat} (hE : Ext w w2) (hM : MapK encN w2 mb n (fun x => inB [s] x.1)) (h1 : w.heap.size ≤ mb) (c1 : w2.heap[g1]? = some (.cells #[.int .i64 s] 3)) (c2 : w2.heap[g2]? = some (.cells #[.int .i64 0, .int .u8 0] 185))
 (b1 : w.heap.size ≤ g1) (b2 : w.heap.size ≤ g2) (n1 : g1 ≠ mb) (n2 : g2 ≠ mb) (n3 : g1 ≠ g2) : ASrch w w2 mb (.slice (some ⟨g1, 0, none⟩) 1 1) (.slice (some ⟨g2, 0, none⟩) 1 1) [s] [(0, 0)] :=
 ⟨⟨rfl, .inr ⟨g1, 1, _, rfl, b1, c1, by simp, by unfold maxLen; omega, rfl, rfl⟩⟩, ⟨rfl, .inr ⟨g2, 1, _, rfl, b2, c2, by simp, by unfold maxLen; omega, rfl, rfl⟩⟩, ⟨n, hM⟩, by simp [Value.ownBlock]; omega, by simp [Value.ownBlock]; omega, by simp [Value.ownBlock]; omega, h1, hE⟩
theorem AGen.put {w wr : World} {mb : Nat} {sv wv : Value} {L Lm : List Int} {W : List (Nat × Nat)} {nv : Int} (h : AGen w wr mb sv wv L W Lm) (hn : I64 nv) : ∃ w4, (Instr.mapUpdate 136 (.map (some mb)) (.int .i64 nv) (.bool true)).run Tryz.prog wr = .ok () w4 ∧ AGen w w4 mb sv wv L W (Lm ++ [nv]) := by
 obtain ⟨n, hM⟩ := h.map
 obtain ⟨ob, hup, hF⟩ := hM.update law3 key3 encN_inj Tryz.underlying136 ⟨nv, hn⟩ (.bool true)
 exact ⟨_, hup, ownsRow_same h.own (fun g hg => turned_block (fun e => h.a1 (by rw [hg, e]))), ownsRow_same h.ways (fun g hg => turned_block (fun e => h.a2 (by rw [hg, e]))), ⟨n + 1, hF _ inB_new (fun y hy => inB_other (fun e => hy (Subtype.ext e)))⟩, h.a1, h.a2, h.a3, h.mb, h.ext.turned h.mb⟩
theorem AGen.look {w wr : World} {mb : Nat} {sv wv : Value} {L Lm : List Int} {W : List (Nat × Nat)} {nv : Int} (h : AGen w wr mb sv wv L W Lm) (hn : I64 nv) : (Instr.lookup 136 (.map (some mb)) (.int .i64 nv) false).run Tryz.prog wr = .ok (.bool (decide (nv ∈ Lm))) wr := by
 obtain ⟨n, hM⟩ := h.map
 have := hM.look law3 key3 Tryz.underlying136 (zero4 wr) ⟨nv, hn⟩ false
 simp only [inB_val] at this
 exact this
theorem AGen.grow1 {w wr w' : World} {mb : Nat} {sv wv v' : Value} {L Lm : List Int} {W : List (Nat × Nat)} {nv : Int} (h : AGen w wr mb sv wv L W Lm) (hown : w'.ownsRow w.heap.size 3 1 v' (L.length + 1) (L.map encI ++ [.int .i64 nv])) (hg : wr.grownBy w' sv.ownBlock) (hat : v'.ownBlock = sv.ownBlock ∨ v'.ownBlock = some wr.heap.size) :
 AGen w w' mb v' wv (L ++ [nv]) W Lm := by
 obtain ⟨n, hM⟩ := h.map
 have hml := hM.lt
 have hwl := h.ways.lt
 refine ⟨by simpa [encI] using hown, ownsRow_same h.ways (fun g hg' => hg.block g (hwl g hg').2 (fun e => h.a3 (by rw [← e, hg']))), ⟨n, hM.same (hg.block mb hml (fun e => h.a1 e.symm))⟩, ?_, h.a2, ?_, h.mb, h.ext.grown hg (fun k hk => (h.own.lt k hk).1)⟩
 · rcases hat with e | e
   · rw [e]; exact h.a1
   · rw [e]; simp; omega
 · rcases hat with e | e
   · rw [e]; exact h.a3
   · rw [e]; intro e2; have := (hwl _ e2.symm).2; omega
theorem AGen.grow2 {w wr w' : World} {mb : Nat} {sv wv v' : Value} {L Lm : List Int} {W : List (Nat × Nat)} {q : Nat × Nat} (h : AGen w wr mb sv wv L W Lm) (hown : w'.ownsRow w.heap.size 185 2 v' (W.length + 1) (flatW W ++ [.int .i64 q.1, .int .u8 q.2])) (hg : wr.grownBy w' wv.ownBlock) (hat : v'.ownBlock = wv.ownBlock ∨ v'.ownBlock = some wr.heap.size) :
 AGen w w' mb sv v' L (W ++ [q]) Lm := by
 obtain ⟨n, hM⟩ := h.map
 have hml := hM.lt
 have hsl := h.own.lt
 refine ⟨ownsRow_same h.own (fun g hg' => hg.block g (hsl g hg').2 (fun e => h.a3 (by rw [← e, hg']))), by rw [flatW_snoc]; simpa using hown, ⟨n, hM.same (hg.block mb hml (fun e => h.a2 e.symm))⟩, h.a1, ?_, ?_, h.mb, h.ext.grown hg (fun k hk => (h.ways.lt k hk).1)⟩
 · rcases hat with e | e
   · rw [e]; exact h.a2
   · rw [e]; simp; omega
 · rcases hat with e | e
   · rw [e]; exact h.a3
   · rw [e]; intro e2; have := (hsl _ e2).2; omega

/-- all states found from a small one are small -/
theorem levF_small {t : List Fmt} {F : List Fld} (hF : F.length ≤ 100) {s : Int} (hs : 0 ≤ s ∧ s ≤ 40000000) {k : Nat} : ∀ x ∈ lev (stF t F) s k, 0 ≤ x ∧ x ≤ 40000000 := by
 have tk : ∀ (L : List Int) (x : Int) (b : Nat), b ≤ 255 → (∀ y ∈ L, 0 ≤ y ∧ y ≤ 40000000) → ∀ y ∈ tick (stF t F) x L b, 0 ≤ y ∧ y ≤ 40000000 := by
  intro L x b hb hL y hy
  unfold tick at hy
  split at hy
  · exact hL y hy
  · rename_i n hn
    split at hy
    · exact hL y hy
    · rcases List.mem_append.1 hy with hy | hy
      · exact hL y hy
      · simp at hy
        subst hy
        unfold stF at hn
        split at hn
        · cases hn
        · cases hn
          exact ⟨by omega, rStep_le hF hb⟩
 have rw' : ∀ (L : List Int) (x : Int) (c : Nat), c ≤ 256 → (∀ y ∈ L, 0 ≤ y ∧ y ≤ 40000000) → ∀ y ∈ rowS (stF t F) L x c, 0 ≤ y ∧ y ≤ 40000000 := by
  intro L x c
  induction c with
  | zero => intro _ h; exact h
  | succ c ih => intro hc h; rw [rowS_succ]; exact tk _ _ _ (by omega) (ih (by omega) h)
 induction k with
 | zero => simp [lev]; exact hs
 | succ k ih =>
   cases h : (lev (stF t F) s k)[k]? with
   | none => rw [lev_stuck h]; exact ih
   | some x => rw [lev_succ h]; exact rw' _ _ _ (by omega) ih
theorem levF_len {t : List Fmt} {F : List Fld} (hF : F.length ≤ 100) {s : Int} (hs : 0 ≤ s ∧ s ≤ 40000000) {k : Nat} : (lev (stF t F) s k).length ≤ 40000001 :=
 nodup_lt 40000001 _ lev_nodup (fun x hx => by have := levF_small hF hs x hx; omega)
theorem rowF_len {t : List Fmt} {F : List Fld} (hF : F.length ≤ 100) {s : Int} (hs : 0 ≤ s ∧ s ≤ 40000000) {k c : Nat} {x : Int} (hx : (lev (stF t F) s k)[k]? = some x) (hc : c ≤ 256) : (rowS (stF t F) (lev (stF t F) s k) x c).length ≤ 40000001 := by
 have h1 := levF_len hF hs (t := t) (k := k + 1)
 rw [lev_succ hx] at h1
 have h2 := (rowS_mono (f := stF t F) (L := lev (stF t F) s k) (x := x) hc).length_le
 omega

/-- what on answers -/
def OnR (f : Int → Nat → Option Int) (acc : Int → Bool) (s0 : Int) (more : Bool) (s : ByteArray) (ok : Bool) : Prop :=
 (ok = true ∧ ∃ l : List Nat, s = bytesN l ∧ (∀ b ∈ l, b < 256) ∧ (more = true → l ≠ []) ∧ l.length ≤ 50000000 ∧ ∃ y, runF f s0 l = some y ∧ acc y = true) ∨
 (ok = false ∧ s = ByteArray.empty ∧ ∀ l : List Nat, (∀ b ∈ l, b < 256) → (more = true → l ≠ []) → ∀ y, runF f s0 l = some y → acc y = false)

theorem on_none {f : Int → Nat → Option Int} {acc : Int → Bool} {s0 : Int} {more : Bool} {L : List Int} (hF : Full f s0 L) (h0 : more = false → acc s0 = false) (hall : ∀ x ∈ L, ∀ b < 256, ∀ n, f x b = some n → acc n = false) :
 ∀ l : List Nat, (∀ b ∈ l, b < 256) → (more = true → l ≠ []) → ∀ y, runF f s0 l = some y → acc y = false := by
 intro l hl hm y hy
 rcases List.eq_nil_or_concat l with rfl | ⟨l', b, rfl⟩
 · simp [runF] at hy
   subst hy
   exact h0 (by cases more <;> simp_all)
 · rw [List.concat_eq_append] at *
   rw [runF_append] at hy
   cases hz : runF f s0 l' with
   | none => rw [hz] at hy; cases hy
   | some z =>
     rw [hz] at hy
     have hzL := hF.run l' s0 z hF.start (fun c hc => hl c (by simp [hc])) hz
     have hb : f z b = some y := by
      simp only [Option.bind_some, runF] at hy
      cases hfz : f z b with
      | none => rw [hfz] at hy; cases hy
      | some n => rw [hfz] at hy; simpa using hy
     exact hall z hzL b (hl b (by simp)) y hb

/-- a cell of an older world, while a row of ours grows -/
theorem row_keep {w6 wr w5 : World} {o : Obj} {v x : Value} {b i : Nat} (hE : Ext w6 wr) (hg : (wr.alloc o).grownBy w5 v.ownBlock) (hl : ∀ k, v.ownBlock = some k → w6.heap.size ≤ k) (hc : w6.cell? ⟨b, i, none⟩ = some x) : w5.cell? ⟨b, i, none⟩ = some x :=
 cs_ext ((hE.then_al _).grown hg hl) hc

set_option maxRecDepth 100000 in
set_option maxHeartbeats 2400000 in
theorem on_any {w : World} {B : Nat} {a : Option Addr} {t : List Fmt} {cap i : Nat} {fm : Fmt} {s0 : Int} {more : Bool} (hs0 : 0 ≤ s0 ∧ s0 ≤ 40000000) (hT : TabA w B a t) (hB : B ≤ w.heap.size) (hi : t[i]? = some fm) (hV : VFmt t fm) :
 Calls Tryz.prog 70 #[.agg #[.slice a t.length cap, .int .i64 i], .int .i64 s0, .bool more] w fun e w' => ∃ s ok, e = .returned (.tuple #[.string s, .bool ok]) ∧ Ext w w' ∧ OnR (stF t fm.fields) (rAcc fm.fields) s0 more s ok := by
 obtain ⟨tb, toff, rfl, -⟩ := hT.2 (ne_nil_of_get hi)
 have hle : fm.fields.length ≤ 100 := by have := hV.le; omega
 have hcS := fun (w' : World) (hE : Ext w w') (s : Int) (c : Nat) (hs : s ≤ 9223372036854775807) (hc : c ≤ 255) => stepV (cap := cap) s c hc hs (hT.ext hB hE) (by have := hE.size; omega) hi hV
 have hcA := fun (w' : World) (hE : Ext w w') (s : Int) (hs : s ≤ 9223372036854775807) => acceptsV (cap := cap) s hs (hT.ext hB hE) (by have := hE.size; omega) hi hV
 have HCS := Lib.hid hcS
 have HCA := Lib.hid hcA
 obtain ⟨b0, hb0⟩ : ∃ b0, b0 = rAcc fm.fields s0 := ⟨_, rfl⟩
 have HB0 := Lib.hid hb0
 obtain ⟨hs1, hs2⟩ := hs0
 have HI := Lib.hid hi
 clear hcS hcA hb0 hi
 go_enter Tryz.func70, Tryz.ntmps70
 have HM0 : Hid (b0 = false → more = false → rAcc fm.fields s0 = false) := fun h _ => by rw [← HB0.out, h]
 have HM1 : Hid (more = true → more = false → rAcc fm.fields s0 = false) := fun h h' => by rw [h] at h'; cases h'
 go_upto_region 1 with fail
 obtain ⟨w1, hw1⟩ : ∃ w1, w1 = w.alloc (Obj.cells #[Value.slice (some ⟨tb, toff, none⟩) t.length cap, Value.int IntKind.i64 i] 132) := ⟨_, rfl⟩
 obtain ⟨ab, hab⟩ : ∃ ab, ab = w.heap.size := ⟨_, rfl⟩
 have k0 : w1.cell? ⟨ab, 0, none⟩ = some (.slice (some ⟨tb, toff, none⟩) t.length cap) := by rw [hw1, hab]; exact cs_new rfl
 have k1 : w1.cell? ⟨ab, 1, none⟩ = some (.int .i64 i) := by rw [hw1, hab]; exact cs_new rfl
 have hE1 : Ext w w1 := by rw [hw1]; exact Ext.alloc w _
 rw [← hw1, ← hab]
 have HE1 := Lib.hid hE1
 have K0 := Lib.hid k0
 have K1 := Lib.hid k1
 clear hw1 hab
 cases more
 · go_wp2_with fail
   refine (HCA.out _ hE1 s0 (by omega)).mono ?_
   rw [← HB0.out]
   rintro e w2 ⟨rfl, hE12⟩
   have hE2 := hE1.trans hE12
   clear k0 k1
   cases b0
   · have HM : Hid (false = false → rAcc fm.fields s0 = false) := Lib.hid (by intro h; have := HM0.out; simp at this; exact this)
     go_upto_region 4 with fail
     obtain ⟨w3, hw3⟩ : ∃ w3, w3 = (w2.alloc (Obj.cells #[Value.int IntKind.i64 s0] 3)).alloc (Obj.cells #[Value.int IntKind.i64 0, Value.int IntKind.u8 0] 185) := ⟨_, rfl⟩
     rw [← hw3]
     have hE3 : Ext w w3 := by rw [hw3]; exact (hE2.then_al _).then_al _
     have hE13 : Ext w1 w3 := by rw [hw3]; exact (hE12.then_al _).then_al _
     have q1 : w3.heap[w2.heap.size]? = some (.cells #[.int .i64 s0] 3) := by rw [hw3]; exact hs_al hs_new
     have q2 : w3.heap[w2.heap.size + 1]? = some (.cells #[.int .i64 0, .int .u8 0] 185) := by rw [hw3]; have h := hs_new (w := w2.alloc (.cells #[.int .i64 s0] 3)) (o := .cells #[.int .i64 0, .int .u8 0] 185); rwa [World.size_alloc] at h
     have hsz3 : w3.heap.size = w2.heap.size + 2 := by rw [hw3]; simp
     have hsz2 := hE12.size
     obtain ⟨g1, hg1⟩ : ∃ g1, g1 = w2.heap.size := ⟨_, rfl⟩
     rw [← hg1] at q1 q2 hsz3 hsz2 ⊢
     clear hg1
     have hmk : (Instr.makeMap 136 none).run Tryz.prog w3 = .ok (.map (some w3.heap.size)) (w3.alloc (.map #[] 0)) := rfl
     obtain ⟨ob, hup, hF⟩ := (MapK.made (enc := encN) w3).update law3 key3 encN_inj Tryz.underlying136 ⟨s0, by unfold I64; omega⟩ (.bool true)
     have hF0 := hF (fun x => inB [s0] x.1) (by simp [inB]) (fun y hy => by
      have : y.1 ≠ s0 := fun h => hy (Subtype.ext h)
      simp [inB, this])
     simp only [encN] at hup
     have hE4 : Ext w3 (ChangeMaps.setBlock (w3.alloc (.map #[] 0)) w3.heap.size ob) := ((Ext.alloc w3 _)).turned (Nat.le_refl _)
     generalize hw4 : ChangeMaps.setBlock (w3.alloc (.map #[] 0)) w3.heap.size ob = w4 at *
     obtain ⟨mb, hmbv⟩ : ∃ mb, mb = w3.heap.size := ⟨_, rfl⟩
     have hS0 : ASrch w1 w4 mb (.slice (some ⟨g1, 0, none⟩) 1 1) (.slice (some ⟨g1 + 1, 0, none⟩) 1 1) [s0] [(0, 0)] :=
      AGen.start (hE13.trans hE4) (by rw [hmbv]; exact hF0) (by omega) (hs_ext hE4 q1) (hs_ext hE4 q2) hsz2 (by omega) (by omega) (by omega) (by omega)
     rw [← hmbv] at hmk hup
     have HS0 := Lib.hid hS0
     have HMBV := Lib.hid hmbv
     clear hS0 q1 q2 hw3 hF hF0 hw4 hE2 hE12 hsz3 hsz2 hE4 hE3 hE13 hmbv
     go_wp2_with fail
     clear hmk hup
     obtain ⟨f, hf⟩ : ∃ f, f = stF t fm.fields := ⟨_, rfl⟩
     obtain ⟨acc, hacc⟩ : ∃ acc, acc = rAcc fm.fields := ⟨_, rfl⟩
     have HF := Lib.hid hf
     have HACC := Lib.hid hacc
     clear hf hacc
     go_loopw [8, 9, 11, 12, 13, 14, 15, 36] (fun sv wv iv _ _ _ _ _ wr => ∃ (k : Nat) (Ws : List (Nat × Nat)), iv = .int .i64 k ∧ ASrch w1 wr mb sv wv (lev f s0 k) Ws ∧ Ways f (lev f s0 k) Ws ∧ k ≤ (lev f s0 k).length ∧
      (∀ (k' : Nat) (x : Int), k' < k → (lev f s0 k)[k']? = some x → ∀ b < 256, ∀ n, f x b = some n → acc n = false)) (fun _ _ iv _ _ _ _ _ _ => 40000002 - (intOf iv).toNat)
     case atStart => exact ⟨0, _, rfl, HS0.out, Ways.one, by simp, fun k' x h => by omega⟩
     case round =>
      obtain ⟨k, Ws, rfl, hS, hW, hk, hall⟩ := hrel
      have hlen : (lev f s0 k).length ≤ 40000001 := by rw [HF.out]; exact levF_len hle ⟨hs1, hs2⟩
      have HALL := Lib.hid hall
      have HW := Lib.hid hW
      clear hall hW
      by_cases hlt : k < (lev f s0 k).length
      · obtain ⟨x, hx⟩ : ∃ x, (lev f s0 k)[k]? = some x := ⟨_, List.getElem?_eq_getElem hlt⟩
        have hxs : 0 ≤ x ∧ x ≤ 40000000 := by
         have hx' := hx
         rw [HF.out] at hx'
         exact levF_small hle ⟨hs1, hs2⟩ x (List.mem_of_getElem? hx')
        obtain ⟨hx0, hx4⟩ := hxs
        obtain ⟨gS, capS, rfl, -⟩ := hS.at hx
        have HX := Lib.hid hx
        have HS := Lib.hid hS
        clear hx hS
        have hrl : Hid (∀ c, c ≤ 256 → (rowS f (lev f s0 k) x c).length ≤ 40000001) := Lib.hid (fun c hc => by
         have hx' := HX.out
         rw [HF.out] at hx' ⊢
         exact rowF_len hle ⟨hs1, hs2⟩ hx' hc)
        have HNEXT : Hid (lev f s0 (k + 1) = rowS f (lev f s0 k) x 256) := Lib.hid (lev_succ HX.out)
        have e1 : decide ((k : Int) < ((lev f s0 k).length : Int)) = true := decide_eq_true (by omega)
        generalize hLL : lev f s0 k = L at *
        have HLL := Lib.hid hLL
        clear hLL
        go_wp2_with fail
        go_loopw [8, 9, 12, 13, 14, 15, 36] (fun sv wv _ _ _ _ cv wr2 => ∃ (c : Nat) (Ws2 : List (Nat × Nat)), cv = .int .i64 c ∧ c ≤ 256 ∧ ASrch w1 wr2 mb sv wv (rowS f L x c) Ws2 ∧ Ways f (rowS f L x c) Ws2 ∧ (∀ b < c, ∀ n, f x b = some n → acc n = false)) (fun _ _ _ _ _ _ cv _ => 256 - (intOf cv).toNat)
        case atStart => exact ⟨0, _, rfl, by omega, HS.out, HW.out, fun b h => by omega⟩
        case round =>
         obtain ⟨c, Ws2, rfl, hc, hS2, hW2, hall2⟩ := hrel
         have HALL2 := Lib.hid hall2
         have HW2 := Lib.hid hW2
         clear hall2 hW2
         by_cases hc2 : c < 256
         · have e2 : decide ((c : Int) < 256) = true := decide_eq_true (by omega)
           obtain ⟨gS2, capS2, rfl, y0⟩ := hS2.at (pre_get rowS_pre HX.out)
           obtain ⟨gW2, capW2, rfl, hwc2, hwm2, -, hgwl⟩ := row2_slice hS2.ways (by rw [HW2.out.1]; have := (rowS_pre (f := f) (L := L) (x := x) (c := c)).length_le; omega)
           have hlen2 : L.length ≤ (rowS f L x c).length := (rowS_pre (f := f) (L := L) (x := x) (c := c)).length_le
           have hlen3 := hrl.out c hc
           have hkr : k < (rowS f L x c).length := by omega
           obtain ⟨nv, hnv⟩ : ∃ nv, nv = rStep t fm.fields x c := ⟨_, rfl⟩
           have hcon := fun (w' : World) (h : Ext w w') => HCS.out w' h x c (by omega) (by omega)
           rw [← hnv] at hcon
           have HCON := Lib.hid hcon
           have hn40 : nv ≤ 40000000 := by rw [hnv]; exact rStep_le hle (by omega)
           have HNV := Lib.hid hnv
           have hwc : IntKind.u8.wrap (c : Int) = (c : Int) := IntWalk.u8_in _ (by omega)
           have k0 := cs_ext hS2.ext K0.out
           have k1 := cs_ext hS2.ext K1.out
           have hWl2 : Ws2.length ≤ 40000001 := by rw [HW2.out.1]; exact hlen3
           have HS2 := Lib.hid hS2
           clear hcon hnv hS2
           go_wp2_with fail
           have HFCT := Lib.hid (And.intro k0 (And.intro k1 y0))
           refine wp_region_reg 9 false (by kernel_rfl) (by kernel_rfl) ?_
           refine reg_value (fun _ => rfl) ?_ (fun g w' vs hM hE hP => ?_) ?_
           rotate_left
           · (clear hP hM; have ⟨z0, z1, z2⟩ := cs_e3 hE HFCT.out; go_simp; first | done | rfl)
           refine reg_value (fun _ => rfl) ?_ (fun g w' vs hM hE hP => ?_) ?_
           rotate_left
           · (clear hP hM; have ⟨z0, z1, z2⟩ := cs_e3 hE HFCT.out; go_simp; first | done | rfl)
           refine reg_value (fun _ => rfl) ?_ (fun g w' vs hM hE hP => ?_) ?_
           rotate_left
           · (clear hP hM; have ⟨z0, z1, z2⟩ := cs_e3 hE HFCT.out; go_simp; first | done | rfl)
           refine reg_value (fun _ => rfl) ?_ (fun g w' vs hM hE hP => ?_) ?_
           rotate_left
           · (clear hP hM; have ⟨z0, z1, z2⟩ := cs_e3 hE HFCT.out; go_simp; first | done | rfl)
           refine reg_value (fun _ => rfl) ?_ (fun g w' vs hM hE hP => ?_) ?_
           rotate_left
           · (clear hP hM; have ⟨z0, z1, z2⟩ := cs_e3 hE HFCT.out; go_simp; first | done | rfl)
           refine reg_value (fun _ => rfl) ?_ (fun g w' vs hM hE hP => ?_) ?_
           rotate_left
           · (clear hP hM; have ⟨z0, z1, z2⟩ := cs_e3 hE HFCT.out; go_simp; first | done | rfl)
           refine reg_value (fun _ => rfl) ?_ (fun g w' vs hM hE hP => ?_) ?_
           rotate_left
           · (clear hP hM; have ⟨z0, z1, z2⟩ := cs_e3 hE HFCT.out; go_simp; first | done | rfl)
           refine reg_const (fun _ => rfl) 98 ?_ (fun g w' vs hM hE hP => ?_) ?_
           rotate_left
           · (clear hP hM; have ⟨z0, z1, z2⟩ := cs_e3 hE HFCT.out; go_simp; first | done | exact ⟨rfl, rfl⟩ | rfl)
           apply Exists.intro
           refine And.intro (fun g w' vs hM hE hP => ?_) ?_
           · exact HCON.out _ (HE1.out.trans (HS2.out.ext.trans hE))
           refine reg_value (fun _ => rfl) ?_ (fun g w' vs hM hE hP => ?_) ?_
           rotate_left
           · (clear hP hM; have ⟨z0, z1, z2⟩ := cs_e3 hE HFCT.out; go_simp; first | done | rfl)
           intro g wz hE5 hF5 hQ5
           simp only [List.drop_succ_cons, List.drop_zero, Act.put, List.setIfInBounds_toArray, List.set_cons_succ, List.set_cons_zero]
           clear hF5 hQ5 k0 k1 y0
           have HS5 := Lib.hid (HS2.out.next hE5)
           have HSUC : Hid (rowS f L x (c + 1) = tick f x (rowS f L x c) c) := Lib.hid rowS_succ
           clear hE5
           by_cases hneg : nv < 0
           · have hf0 : f x c = none := by rw [HF.out, stF, ← HNV.out, if_pos hneg]
             have HR : Hid (rowS f L x (c + 1) = rowS f L x c) := Lib.hid (by rw [HSUC.out, tick_none hf0])
             have HF0 := Lib.hid hf0
             have e3 : decide (nv < 0) = true := decide_eq_true hneg
             clear hf0
             go_wp2_with fail
             go_roundw
             case rel => exact ⟨c + 1, Ws2, by go_num, by omega, by rw [HR.out]; exact HS5.out, by rw [HR.out]; exact HW2.out, fun b hb n hn => by
               rcases Nat.lt_or_ge b c with h | h
               · exact HALL2.out b h n hn
               · have : b = c := by omega
                 subst this
                 rw [HF0.out] at hn; cases hn⟩
             case measure => simp [intOf]; omega
           · have hf0 : f x c = some nv := by rw [HF.out, stF, ← HNV.out, if_neg hneg]
             have e3 : decide (nv < 0) = false := decide_eq_false hneg
             have HF0 := Lib.hid hf0
             have k0 := cs_ext HS5.out.ext K0.out
             have k1 := cs_ext HS5.out.ext K1.out
             obtain ⟨b1, hb1⟩ : ∃ b1, b1 = acc nv := ⟨_, rfl⟩
             have hc3 := HCA.out wz (HE1.out.trans HS5.out.ext) nv (by omega)
             rw [← HACC.out, ← hb1] at hc3
             have HB1 := Lib.hid hb1
             have HC3 := Lib.hid hc3
             clear hf0 hb1 hc3
             go_wp2_with fail
             refine HC3.out.mono ?_
             rintro e w6 ⟨rfl, hE6⟩
             have hS6 := HS5.out.next hE6
             clear k0 k1 hE6
             cases b1
             · have hI : I64 nv := ⟨by omega, by omega⟩
               have hlk := hS6.look hI
               have HNA : Hid (∀ b < c + 1, ∀ n, f x b = some n → acc n = false) := Lib.hid (fun b hb n hn => by
                rcases Nat.lt_or_ge b c with h | h
                · exact HALL2.out b h n hn
                · have : b = c := by omega
                  subst this
                  rw [HF0.out] at hn; cases hn; exact HB1.out.symm)
               by_cases hmem : nv ∈ rowS f L x c
               · have HR : Hid (rowS f L x (c + 1) = rowS f L x c) := Lib.hid (by rw [HSUC.out, tick_old HF0.out hmem])
                 rw [decide_eq_true hmem] at hlk
                 have HS6 := Lib.hid hS6
                 clear hS6 hmem
                 go_wp2_with fail
                 go_roundw
                 case rel => exact ⟨c + 1, Ws2, by go_num, by omega, by rw [HR.out]; exact HS6.out, by rw [HR.out]; exact HW2.out, HNA.out⟩
                 case measure => simp [intOf]; omega
               · have HR : Hid (rowS f L x (c + 1) = rowS f L x c ++ [nv]) := Lib.hid (by rw [HSUC.out, tick_new HF0.out hmem])
                 rw [decide_eq_false hmem] at hlk
                 obtain ⟨w7, hup, hS7⟩ := hS6.put hI
                 have hO1 := ownsRow_ext hS7.own (Ext.alloc w7 (.cells #[.int .i64 nv] 3))
                 have hS7' := hS7.next (Ext.alloc w7 (.cells #[.int .i64 nv] 3))
                 have hz7 := hS7.ext.size
                 have HWN := Lib.hid (HW2.out.push (pre_get rowS_pre HX.out) hc2 HF0.out)
                 have HS7' := Lib.hid hS7'
                 have HS6 := Lib.hid hS6
                 clear hS6 hS7 hS7' hmem
                 obtain ⟨i0, hi0, hz0, hz1, hz2⟩ := info_parts inf3
                 obtain ⟨j0, hj0, hj1, hj2, hj3⟩ := info_parts inf106
                 go_wp2_with (first
                  | (at_builtin; refine wpList_append_own_at _ rfl _ _ 68 rfl w1.heap.size 3 i0 (.int .i64 0) 1 8 Tryz.underlying68 hi0 hz0 hz1 hz2 rfl (by decide) _ _ _ rfl hO1 ⟨w7.heap.size, 0, none⟩ 1 1 [.int .i64 nv] rfl rfl (cell_one_new _ _ _) (fun x hx => by simp at hx; subst hx; rfl) (by unfold maxLen; omega) (by omega) (by simp; omega) ?_; intro v8 w8 hown8 hgrow8 hnil8 hat8
                     have hS8 := HS7'.out.grow1 hown8 hgrow8 hat8
                     have HS8 := Lib.hid hS8
                     have HG8 := Lib.hid hgrow8
                     clear hown8 hgrow8 hnil8 hat8 hS8 hO1)
                  | (at_builtin
                     have hO2 := ownsRow_ext HS8.out.ways (Ext.alloc w8 (.cells #[.int .i64 k, .int .u8 c] 185))
                     have hz8 := HS8.out.ext.size
                     refine wpList_append_own_at _ rfl _ _ 138 rfl w1.heap.size 185 j0 (.agg #[.int .i64 0, .int .u8 0]) 2 16 Tryz.underlying138 hj0 hj1 hj2 hj3 rfl (by decide) _ _ _ rfl hO2 ⟨w8.heap.size, 0, none⟩ 1 1 [.int .i64 k, .int .u8 c] rfl rfl (cells_two hs_new) (fun u hu => by simp at hu; rcases hu with rfl | rfl <;> rfl) (by unfold maxLen; omega) (by omega) (by simp; omega) ?_; intro v9 w9 hown9 hgrow9 hnil9 hat9
                     have hS9 := (HS8.out.next (Ext.alloc w8 (.cells #[.int .i64 k, .int .u8 c] 185))).grow2 (q := (k, c)) hown9 hgrow9 hat9
                     have HS9 := Lib.hid hS9
                     clear hown9 hgrow9 hnil9 hat9 hS9 hO2 hz8))
                 go_roundw
                 case rel => exact ⟨c + 1, _, by go_num, by omega, by rw [HR.out]; exact HS9.out, by rw [HR.out]; exact HWN.out, HNA.out⟩
                 case measure => simp [intOf]; omega
             · have hcells : ∀ (i p b : Nat), Ws2[i]? = some (p, b) → w6.cell? ⟨gW2, i * 2, none⟩ = some (.int .i64 p) ∧ w6.cell? ⟨gW2, i * 2 + 1, none⟩ = some (.int .u8 b) := fun i p b hi => by
                obtain ⟨g', c', e, -, -, -, hc⟩ := row2_at (f := encW2) (fun _ => rfl) hS6.ways hi
                cases e
                exact ⟨hc 0 _ rfl, hc 1 _ rfl⟩
               have hz6 := hS6.ext.size
               have HC := Lib.hid hcells
               have HS6 := Lib.hid hS6
               have HOK := Lib.hid HW2.out.ok
               have HWL : Hid (Ws2.length = (rowS f L x c).length) := HW2.out.1
               have hkW : k < Ws2.length := by rw [HWL.out]; exact hkr
               have hWm : Ws2.length ≤ 9223372036854775807 := by omega
               have HO0 : Hid ((w6.alloc (.cells #[.int .u8 c] 5)).ownsRow w6.heap.size 5 1 (.slice (some ⟨w6.heap.size, 0, none⟩) 1 1) 1 [Value.int .u8 c]) := Lib.hid ⟨rfl, .inr ⟨w6.heap.size, 1, #[.int .u8 c], rfl, Nat.le_refl _, hs_new, by simp, by unfold maxLen; omega, rfl, rfl⟩⟩
               clear hcells hS6
               go_wp2_with fail
               go_loopw [14, 15] (fun ov kv wr3 => ∃ (i' : Nat) (ol : List Nat), kv = .int .i64 i' ∧ i' < Ws2.length ∧ wr3.ownsRow w6.heap.size 5 1 ov ol.length (ol.map encN8) ∧ ol ++ pathR Ws2 Ws2.length i' = c :: pathR Ws2 Ws2.length k ∧ ol.length + i' ≤ k + 1 ∧ (∀ b ∈ ol, b < 256) ∧ Ext w6 wr3) (fun _ kv _ => (intOf kv).toNat)
               case atStart => exact ⟨k, [c], rfl, hkW, HO0.out, rfl, by simp; omega, by simp; omega, Ext.alloc _ _⟩
               case round =>
                obtain ⟨i', ol, rfl, hi', hO, hP, hLn, hA, hE⟩ := hrel
                by_cases hpos : 0 < i'
                · have e4 : decide (0 < (i' : Int)) = true := decide_eq_true (by omega)
                  obtain ⟨⟨p, b⟩, hpb⟩ : ∃ x, Ws2[i']? = some x := ⟨_, List.getElem?_eq_getElem hi'⟩
                  obtain ⟨v0, v1⟩ := HC.out i' p b hpb
                  obtain ⟨hp1, hb1⟩ := HOK.out i' p b hpos hpb
                  have hstep := pathR_step HOK.out hpos hpb
                  have k1 := cs_ext hE v1
                  have hO4' := ownsRow_ext hO (Ext.alloc wr (.cells #[.int .u8 b] 5))
                  have hlb := fun k hk => (hO.lt k hk).1
                  have hsz4 := hE.size
                  have HEE := Lib.hid hE
                  have HP := Lib.hid hP
                  have HST := Lib.hid hstep
                  have HA := Lib.hid hA
                  have V0 := Lib.hid v0
                  have HPB := Lib.hid hpb
                  have HLB := Lib.hid hlb
                  clear hE hP hstep hA v0 v1 hpb hO hlb
                  obtain ⟨i0, hi0, hz0, hz1, hz2⟩ := info_parts inf5
                  go_wp2_with (first
                   | (at_builtin; refine wpList_append_own_at _ rfl _ _ 23 rfl w6.heap.size 5 i0 (.int .u8 0) 1 1 Tryz.underlying23 hi0 hz0 hz1 hz2 rfl (by decide) _ _ _ rfl hO4' ⟨wr.heap.size, 0, none⟩ 1 1 [.int .u8 b] rfl rfl (cell_one_new _ _ _) (fun x hx => by simp at hx; subst hx; rfl) (by unfold maxLen; omega) (by omega) (by simp; omega) ?_; intro v' w5 hown' hgrow5 hnil5 hat5
                      have HG5 := Lib.hid hgrow5
                      have HO5 := Lib.hid hown'
                      clear hown' hgrow5 hnil5 hat5 hO4'
                      have y0 := row_keep HEE.out HG5.out HLB.out V0.out))
                  go_roundw
                  case rel => exact ⟨p, ol ++ [b], rfl, by omega, by simpa [encN8] using HO5.out, by rw [← HP.out, HST.out]; simp, by simp; omega, fun c hc => by
                    rcases List.mem_append.1 hc with h | h
                    · exact HA.out c h
                    · simp at h; omega, (HEE.out.then_al _).grown HG5.out HLB.out⟩
                  case measure => simp [intOf]; omega
                · have hi0 : i' = 0 := by omega
                  subst hi0
                  have hol : ol = c :: pathR Ws2 Ws2.length k := by rw [← hP, pathR_zero, List.append_nil]
                  have e4 : decide (0 < ((0 : Nat) : Int)) = false := by simp
                  have HO := Lib.hid hO
                  have HEE := Lib.hid hE
                  have HOL := Lib.hid hol
                  have HLN : Hid (ol.length ≤ 40000010) := Lib.hid (by omega)
                  have HA := Lib.hid hA
                  have HLB := Lib.hid (fun k hk => (hO.lt k hk).1)
                  clear hO hP hol hA hE
                  go_wp2_with fail
                  refine (reverse_any HO.out).mono ?_
                  rintro e w10 ⟨rfl, hO2, hG⟩
                  have hcv := bytes_back hO2 (fun b hb => HA.out b (by simpa using hb))
                  have HE10 : Hid (Ext w w10) := Lib.hid (HE1.out.trans (HS6.out.ext.trans (HEE.out.grown hG HLB.out)))
                  clear hO2 hG
                  go_wp2_with fail
                  go_ret2
                  refine ⟨_, _, rfl, HE10.out, .inl ⟨rfl, _, rfl, fun b hb => HA.out b (by simpa using hb), fun _ => by rw [HOL.out]; simp, by have := HLN.out; rw [HOL.out] at this; rw [List.length_reverse, HOL.out]; omega, nv, ?_, by rw [← HACC.out]; exact HB1.out.symm⟩⟩
                  rw [HOL.out, List.reverse_cons, runF_append]
                  obtain ⟨r1, -, -⟩ := HW2.out.path (s := s0) (pre_get rowS_pre (by rw [← HLL.out]; exact lev_start)) Ws2.length k x (by omega) (pre_get rowS_pre HX.out)
                  rw [← HF.out, r1]
                  simp [runF, HF0.out]
         · have hc3 : c = 256 := by omega
           subst hc3
           have HS2 := Lib.hid hS2
           clear hS2
           have hlen2 : L.length ≤ (rowS f L x 256).length := (rowS_pre (f := f) (L := L) (x := x) (c := 256)).length_le
           go_wp2_with fail
           go_roundw
           case rel => exact ⟨k + 1, Ws2, by go_num, by rw [HNEXT.out]; exact HS2.out, by rw [HNEXT.out]; exact HW2.out, by rw [HNEXT.out]; omega, fun k' y h hy => by
             rw [HNEXT.out] at hy
             rcases Nat.lt_or_ge k' k with h' | h'
             · have hkl : k' < L.length := by omega
               have e := pre_get (rowS_pre (f := f) (L := L) (x := x) (c := 256)) (List.getElem?_eq_getElem hkl)
               rw [hy] at e
               exact HALL.out k' y h' (by rw [List.getElem?_eq_getElem hkl]; exact e.symm)
             · have : k' = k := by omega
               subst this
               have e := pre_get (rowS_pre (f := f) (L := L) (x := x) (c := 256)) HX.out
               rw [hy] at e; cases e
               exact HALL2.out⟩
           case measure => simp [intOf]; omega
      · have HFull : Hid (Full f s0 (lev f s0 k)) := ⟨k, rfl, by omega⟩
        have HEX := Lib.hid (HE1.out.trans hS.ext)
        obtain ⟨gS, capS, hsv, -⟩ := hS.at lev_start
        subst hsv
        have e1 : decide ((k : Int) < ((lev f s0 k).length : Int)) = false := decide_eq_false (by omega)
        generalize hLL : lev f s0 k = L at *
        clear hS hLL
        have HLE : Hid (L.length ≤ k) := Lib.hid (by omega)
        go_wp2_with fail
        go_ret2
        refine ⟨_, _, rfl, HEX.out, .inr ⟨rfl, rfl, ?_⟩⟩
        rw [← HF.out, ← HACC.out]
        refine on_none HFull.out (by rw [HACC.out]; intro h; exact HM.out (by first | exact trivial | exact h)) (fun y hy b hb n hn => ?_)
        obtain ⟨k', hk'⟩ := List.mem_iff_getElem?.1 hy
        exact HALL.out k' y (by have := (List.getElem?_eq_some_iff.1 hk').1; have := HLE.out; omega) hk' b hb n hn
   · have HB2 := Lib.hid hE2
     clear hE2 hE12
     go_wp2_with fail
     go_ret2
     exact ⟨_, _, rfl, HB2.out, .inl ⟨rfl, [], rfl, by simp, by simp, by simp, s0, rfl, HB0.out.symm⟩⟩
 · have HM : Hid (true = false → rAcc fm.fields s0 = false) := Lib.hid (fun h => nomatch h)
   obtain ⟨w2, hw2⟩ : ∃ w2, w2 = w1 := ⟨_, rfl⟩
   rw [← hw2]
   have hE12 : Ext w1 w2 := by rw [hw2]; exact Ext.refl _
   have hE2 := hE1.trans hE12
   clear hw2 k0 k1
   go_upto_region 4 with fail
   obtain ⟨w3, hw3⟩ : ∃ w3, w3 = (w2.alloc (Obj.cells #[Value.int IntKind.i64 s0] 3)).alloc (Obj.cells #[Value.int IntKind.i64 0, Value.int IntKind.u8 0] 185) := ⟨_, rfl⟩
   rw [← hw3]
   have hE3 : Ext w w3 := by rw [hw3]; exact (hE2.then_al _).then_al _
   have hE13 : Ext w1 w3 := by rw [hw3]; exact (hE12.then_al _).then_al _
   have q1 : w3.heap[w2.heap.size]? = some (.cells #[.int .i64 s0] 3) := by rw [hw3]; exact hs_al hs_new
   have q2 : w3.heap[w2.heap.size + 1]? = some (.cells #[.int .i64 0, .int .u8 0] 185) := by rw [hw3]; have h := hs_new (w := w2.alloc (.cells #[.int .i64 s0] 3)) (o := .cells #[.int .i64 0, .int .u8 0] 185); rwa [World.size_alloc] at h
   have hsz3 : w3.heap.size = w2.heap.size + 2 := by rw [hw3]; simp
   have hsz2 := hE12.size
   obtain ⟨g1, hg1⟩ : ∃ g1, g1 = w2.heap.size := ⟨_, rfl⟩
   rw [← hg1] at q1 q2 hsz3 hsz2 ⊢
   clear hg1
   have hmk : (Instr.makeMap 136 none).run Tryz.prog w3 = .ok (.map (some w3.heap.size)) (w3.alloc (.map #[] 0)) := rfl
   obtain ⟨ob, hup, hF⟩ := (MapK.made (enc := encN) w3).update law3 key3 encN_inj Tryz.underlying136 ⟨s0, by unfold I64; omega⟩ (.bool true)
   have hF0 := hF (fun x => inB [s0] x.1) (by simp [inB]) (fun y hy => by
    have : y.1 ≠ s0 := fun h => hy (Subtype.ext h)
    simp [inB, this])
   simp only [encN] at hup
   have hE4 : Ext w3 (ChangeMaps.setBlock (w3.alloc (.map #[] 0)) w3.heap.size ob) := ((Ext.alloc w3 _)).turned (Nat.le_refl _)
   generalize hw4 : ChangeMaps.setBlock (w3.alloc (.map #[] 0)) w3.heap.size ob = w4 at *
   obtain ⟨mb, hmbv⟩ : ∃ mb, mb = w3.heap.size := ⟨_, rfl⟩
   have hS0 : ASrch w1 w4 mb (.slice (some ⟨g1, 0, none⟩) 1 1) (.slice (some ⟨g1 + 1, 0, none⟩) 1 1) [s0] [(0, 0)] :=
    AGen.start (hE13.trans hE4) (by rw [hmbv]; exact hF0) (by omega) (hs_ext hE4 q1) (hs_ext hE4 q2) hsz2 (by omega) (by omega) (by omega) (by omega)
   rw [← hmbv] at hmk hup
   have HS0 := Lib.hid hS0
   have HMBV := Lib.hid hmbv
   clear hS0 q1 q2 hw3 hF hF0 hw4 hE2 hE12 hsz3 hsz2 hE4 hE3 hE13 hmbv
   go_wp2_with fail
   clear hmk hup
   obtain ⟨f, hf⟩ : ∃ f, f = stF t fm.fields := ⟨_, rfl⟩
   obtain ⟨acc, hacc⟩ : ∃ acc, acc = rAcc fm.fields := ⟨_, rfl⟩
   have HF := Lib.hid hf
   have HACC := Lib.hid hacc
   clear hf hacc
   go_loopw [8, 9, 11, 12, 13, 14, 15, 36] (fun sv wv iv _ _ _ _ _ wr => ∃ (k : Nat) (Ws : List (Nat × Nat)), iv = .int .i64 k ∧ ASrch w1 wr mb sv wv (lev f s0 k) Ws ∧ Ways f (lev f s0 k) Ws ∧ k ≤ (lev f s0 k).length ∧
    (∀ (k' : Nat) (x : Int), k' < k → (lev f s0 k)[k']? = some x → ∀ b < 256, ∀ n, f x b = some n → acc n = false)) (fun _ _ iv _ _ _ _ _ _ => 40000002 - (intOf iv).toNat)
   case atStart => exact ⟨0, _, rfl, HS0.out, Ways.one, by simp, fun k' x h => by omega⟩
   case round =>
    obtain ⟨k, Ws, rfl, hS, hW, hk, hall⟩ := hrel
    have hlen : (lev f s0 k).length ≤ 40000001 := by rw [HF.out]; exact levF_len hle ⟨hs1, hs2⟩
    have HALL := Lib.hid hall
    have HW := Lib.hid hW
    clear hall hW
    by_cases hlt : k < (lev f s0 k).length
    · obtain ⟨x, hx⟩ : ∃ x, (lev f s0 k)[k]? = some x := ⟨_, List.getElem?_eq_getElem hlt⟩
      have hxs : 0 ≤ x ∧ x ≤ 40000000 := by
       have hx' := hx
       rw [HF.out] at hx'
       exact levF_small hle ⟨hs1, hs2⟩ x (List.mem_of_getElem? hx')
      obtain ⟨hx0, hx4⟩ := hxs
      obtain ⟨gS, capS, rfl, -⟩ := hS.at hx
      have HX := Lib.hid hx
      have HS := Lib.hid hS
      clear hx hS
      have hrl : Hid (∀ c, c ≤ 256 → (rowS f (lev f s0 k) x c).length ≤ 40000001) := Lib.hid (fun c hc => by
       have hx' := HX.out
       rw [HF.out] at hx' ⊢
       exact rowF_len hle ⟨hs1, hs2⟩ hx' hc)
      have HNEXT : Hid (lev f s0 (k + 1) = rowS f (lev f s0 k) x 256) := Lib.hid (lev_succ HX.out)
      have e1 : decide ((k : Int) < ((lev f s0 k).length : Int)) = true := decide_eq_true (by omega)
      generalize hLL : lev f s0 k = L at *
      have HLL := Lib.hid hLL
      clear hLL
      go_wp2_with fail
      go_loopw [8, 9, 12, 13, 14, 15, 36] (fun sv wv _ _ _ _ cv wr2 => ∃ (c : Nat) (Ws2 : List (Nat × Nat)), cv = .int .i64 c ∧ c ≤ 256 ∧ ASrch w1 wr2 mb sv wv (rowS f L x c) Ws2 ∧ Ways f (rowS f L x c) Ws2 ∧ (∀ b < c, ∀ n, f x b = some n → acc n = false)) (fun _ _ _ _ _ _ cv _ => 256 - (intOf cv).toNat)
      case atStart => exact ⟨0, _, rfl, by omega, HS.out, HW.out, fun b h => by omega⟩
      case round =>
       obtain ⟨c, Ws2, rfl, hc, hS2, hW2, hall2⟩ := hrel
       have HALL2 := Lib.hid hall2
       have HW2 := Lib.hid hW2
       clear hall2 hW2
       by_cases hc2 : c < 256
       · have e2 : decide ((c : Int) < 256) = true := decide_eq_true (by omega)
         obtain ⟨gS2, capS2, rfl, y0⟩ := hS2.at (pre_get rowS_pre HX.out)
         obtain ⟨gW2, capW2, rfl, hwc2, hwm2, -, hgwl⟩ := row2_slice hS2.ways (by rw [HW2.out.1]; have := (rowS_pre (f := f) (L := L) (x := x) (c := c)).length_le; omega)
         have hlen2 : L.length ≤ (rowS f L x c).length := (rowS_pre (f := f) (L := L) (x := x) (c := c)).length_le
         have hlen3 := hrl.out c hc
         have hkr : k < (rowS f L x c).length := by omega
         obtain ⟨nv, hnv⟩ : ∃ nv, nv = rStep t fm.fields x c := ⟨_, rfl⟩
         have hcon := fun (w' : World) (h : Ext w w') => HCS.out w' h x c (by omega) (by omega)
         rw [← hnv] at hcon
         have HCON := Lib.hid hcon
         have hn40 : nv ≤ 40000000 := by rw [hnv]; exact rStep_le hle (by omega)
         have HNV := Lib.hid hnv
         have hwc : IntKind.u8.wrap (c : Int) = (c : Int) := IntWalk.u8_in _ (by omega)
         have k0 := cs_ext hS2.ext K0.out
         have k1 := cs_ext hS2.ext K1.out
         have hWl2 : Ws2.length ≤ 40000001 := by rw [HW2.out.1]; exact hlen3
         have HS2 := Lib.hid hS2
         clear hcon hnv hS2
         go_wp2_with fail
         have HFCT := Lib.hid (And.intro k0 (And.intro k1 y0))
         refine wp_region_reg 9 false (by kernel_rfl) (by kernel_rfl) ?_
         refine reg_value (fun _ => rfl) ?_ (fun g w' vs hM hE hP => ?_) ?_
         rotate_left
         · (clear hP hM; have ⟨z0, z1, z2⟩ := cs_e3 hE HFCT.out; go_simp; first | done | rfl)
         refine reg_value (fun _ => rfl) ?_ (fun g w' vs hM hE hP => ?_) ?_
         rotate_left
         · (clear hP hM; have ⟨z0, z1, z2⟩ := cs_e3 hE HFCT.out; go_simp; first | done | rfl)
         refine reg_value (fun _ => rfl) ?_ (fun g w' vs hM hE hP => ?_) ?_
         rotate_left
         · (clear hP hM; have ⟨z0, z1, z2⟩ := cs_e3 hE HFCT.out; go_simp; first | done | rfl)
         refine reg_value (fun _ => rfl) ?_ (fun g w' vs hM hE hP => ?_) ?_
         rotate_left
         · (clear hP hM; have ⟨z0, z1, z2⟩ := cs_e3 hE HFCT.out; go_simp; first | done | rfl)
         refine reg_value (fun _ => rfl) ?_ (fun g w' vs hM hE hP => ?_) ?_
         rotate_left
         · (clear hP hM; have ⟨z0, z1, z2⟩ := cs_e3 hE HFCT.out; go_simp; first | done | rfl)
         refine reg_value (fun _ => rfl) ?_ (fun g w' vs hM hE hP => ?_) ?_
         rotate_left
         · (clear hP hM; have ⟨z0, z1, z2⟩ := cs_e3 hE HFCT.out; go_simp; first | done | rfl)
         refine reg_value (fun _ => rfl) ?_ (fun g w' vs hM hE hP => ?_) ?_
         rotate_left
         · (clear hP hM; have ⟨z0, z1, z2⟩ := cs_e3 hE HFCT.out; go_simp; first | done | rfl)
         refine reg_const (fun _ => rfl) 98 ?_ (fun g w' vs hM hE hP => ?_) ?_
         rotate_left
         · (clear hP hM; have ⟨z0, z1, z2⟩ := cs_e3 hE HFCT.out; go_simp; first | done | exact ⟨rfl, rfl⟩ | rfl)
         apply Exists.intro
         refine And.intro (fun g w' vs hM hE hP => ?_) ?_
         · exact HCON.out _ (HE1.out.trans (HS2.out.ext.trans hE))
         refine reg_value (fun _ => rfl) ?_ (fun g w' vs hM hE hP => ?_) ?_
         rotate_left
         · (clear hP hM; have ⟨z0, z1, z2⟩ := cs_e3 hE HFCT.out; go_simp; first | done | rfl)
         intro g wz hE5 hF5 hQ5
         simp only [List.drop_succ_cons, List.drop_zero, Act.put, List.setIfInBounds_toArray, List.set_cons_succ, List.set_cons_zero]
         clear hF5 hQ5 k0 k1 y0
         have HS5 := Lib.hid (HS2.out.next hE5)
         have HSUC : Hid (rowS f L x (c + 1) = tick f x (rowS f L x c) c) := Lib.hid rowS_succ
         clear hE5
         by_cases hneg : nv < 0
         · have hf0 : f x c = none := by rw [HF.out, stF, ← HNV.out, if_pos hneg]
           have HR : Hid (rowS f L x (c + 1) = rowS f L x c) := Lib.hid (by rw [HSUC.out, tick_none hf0])
           have HF0 := Lib.hid hf0
           have e3 : decide (nv < 0) = true := decide_eq_true hneg
           clear hf0
           go_wp2_with fail
           go_roundw
           case rel => exact ⟨c + 1, Ws2, by go_num, by omega, by rw [HR.out]; exact HS5.out, by rw [HR.out]; exact HW2.out, fun b hb n hn => by
             rcases Nat.lt_or_ge b c with h | h
             · exact HALL2.out b h n hn
             · have : b = c := by omega
               subst this
               rw [HF0.out] at hn; cases hn⟩
           case measure => simp [intOf]; omega
         · have hf0 : f x c = some nv := by rw [HF.out, stF, ← HNV.out, if_neg hneg]
           have e3 : decide (nv < 0) = false := decide_eq_false hneg
           have HF0 := Lib.hid hf0
           have k0 := cs_ext HS5.out.ext K0.out
           have k1 := cs_ext HS5.out.ext K1.out
           obtain ⟨b1, hb1⟩ : ∃ b1, b1 = acc nv := ⟨_, rfl⟩
           have hc3 := HCA.out wz (HE1.out.trans HS5.out.ext) nv (by omega)
           rw [← HACC.out, ← hb1] at hc3
           have HB1 := Lib.hid hb1
           have HC3 := Lib.hid hc3
           clear hf0 hb1 hc3
           go_wp2_with fail
           refine HC3.out.mono ?_
           rintro e w6 ⟨rfl, hE6⟩
           have hS6 := HS5.out.next hE6
           clear k0 k1 hE6
           cases b1
           · have hI : I64 nv := ⟨by omega, by omega⟩
             have hlk := hS6.look hI
             have HNA : Hid (∀ b < c + 1, ∀ n, f x b = some n → acc n = false) := Lib.hid (fun b hb n hn => by
              rcases Nat.lt_or_ge b c with h | h
              · exact HALL2.out b h n hn
              · have : b = c := by omega
                subst this
                rw [HF0.out] at hn; cases hn; exact HB1.out.symm)
             by_cases hmem : nv ∈ rowS f L x c
             · have HR : Hid (rowS f L x (c + 1) = rowS f L x c) := Lib.hid (by rw [HSUC.out, tick_old HF0.out hmem])
               rw [decide_eq_true hmem] at hlk
               have HS6 := Lib.hid hS6
               clear hS6 hmem
               go_wp2_with fail
               go_roundw
               case rel => exact ⟨c + 1, Ws2, by go_num, by omega, by rw [HR.out]; exact HS6.out, by rw [HR.out]; exact HW2.out, HNA.out⟩
               case measure => simp [intOf]; omega
             · have HR : Hid (rowS f L x (c + 1) = rowS f L x c ++ [nv]) := Lib.hid (by rw [HSUC.out, tick_new HF0.out hmem])
               rw [decide_eq_false hmem] at hlk
               obtain ⟨w7, hup, hS7⟩ := hS6.put hI
               have hO1 := ownsRow_ext hS7.own (Ext.alloc w7 (.cells #[.int .i64 nv] 3))
               have hS7' := hS7.next (Ext.alloc w7 (.cells #[.int .i64 nv] 3))
               have hz7 := hS7.ext.size
               have HWN := Lib.hid (HW2.out.push (pre_get rowS_pre HX.out) hc2 HF0.out)
               have HS7' := Lib.hid hS7'
               have HS6 := Lib.hid hS6
               clear hS6 hS7 hS7' hmem
               obtain ⟨i0, hi0, hz0, hz1, hz2⟩ := info_parts inf3
               obtain ⟨j0, hj0, hj1, hj2, hj3⟩ := info_parts inf106
               go_wp2_with (first
                | (at_builtin; refine wpList_append_own_at _ rfl _ _ 68 rfl w1.heap.size 3 i0 (.int .i64 0) 1 8 Tryz.underlying68 hi0 hz0 hz1 hz2 rfl (by decide) _ _ _ rfl hO1 ⟨w7.heap.size, 0, none⟩ 1 1 [.int .i64 nv] rfl rfl (cell_one_new _ _ _) (fun x hx => by simp at hx; subst hx; rfl) (by unfold maxLen; omega) (by omega) (by simp; omega) ?_; intro v8 w8 hown8 hgrow8 hnil8 hat8
                   have hS8 := HS7'.out.grow1 hown8 hgrow8 hat8
                   have HS8 := Lib.hid hS8
                   have HG8 := Lib.hid hgrow8
                   clear hown8 hgrow8 hnil8 hat8 hS8 hO1)
                | (at_builtin
                   have hO2 := ownsRow_ext HS8.out.ways (Ext.alloc w8 (.cells #[.int .i64 k, .int .u8 c] 185))
                   have hz8 := HS8.out.ext.size
                   refine wpList_append_own_at _ rfl _ _ 138 rfl w1.heap.size 185 j0 (.agg #[.int .i64 0, .int .u8 0]) 2 16 Tryz.underlying138 hj0 hj1 hj2 hj3 rfl (by decide) _ _ _ rfl hO2 ⟨w8.heap.size, 0, none⟩ 1 1 [.int .i64 k, .int .u8 c] rfl rfl (cells_two hs_new) (fun u hu => by simp at hu; rcases hu with rfl | rfl <;> rfl) (by unfold maxLen; omega) (by omega) (by simp; omega) ?_; intro v9 w9 hown9 hgrow9 hnil9 hat9
                   have hS9 := (HS8.out.next (Ext.alloc w8 (.cells #[.int .i64 k, .int .u8 c] 185))).grow2 (q := (k, c)) hown9 hgrow9 hat9
                   have HS9 := Lib.hid hS9
                   clear hown9 hgrow9 hnil9 hat9 hS9 hO2 hz8))
               go_roundw
               case rel => exact ⟨c + 1, _, by go_num, by omega, by rw [HR.out]; exact HS9.out, by rw [HR.out]; exact HWN.out, HNA.out⟩
               case measure => simp [intOf]; omega
           · have hcells : ∀ (i p b : Nat), Ws2[i]? = some (p, b) → w6.cell? ⟨gW2, i * 2, none⟩ = some (.int .i64 p) ∧ w6.cell? ⟨gW2, i * 2 + 1, none⟩ = some (.int .u8 b) := fun i p b hi => by
              obtain ⟨g', c', e, -, -, -, hc⟩ := row2_at (f := encW2) (fun _ => rfl) hS6.ways hi
              cases e
              exact ⟨hc 0 _ rfl, hc 1 _ rfl⟩
             have hz6 := hS6.ext.size
             have HC := Lib.hid hcells
             have HS6 := Lib.hid hS6
             have HOK := Lib.hid HW2.out.ok
             have HWL : Hid (Ws2.length = (rowS f L x c).length) := HW2.out.1
             have hkW : k < Ws2.length := by rw [HWL.out]; exact hkr
             have hWm : Ws2.length ≤ 9223372036854775807 := by omega
             have HO0 : Hid ((w6.alloc (.cells #[.int .u8 c] 5)).ownsRow w6.heap.size 5 1 (.slice (some ⟨w6.heap.size, 0, none⟩) 1 1) 1 [Value.int .u8 c]) := Lib.hid ⟨rfl, .inr ⟨w6.heap.size, 1, #[.int .u8 c], rfl, Nat.le_refl _, hs_new, by simp, by unfold maxLen; omega, rfl, rfl⟩⟩
             clear hcells hS6
             go_wp2_with fail
             go_loopw [14, 15] (fun ov kv wr3 => ∃ (i' : Nat) (ol : List Nat), kv = .int .i64 i' ∧ i' < Ws2.length ∧ wr3.ownsRow w6.heap.size 5 1 ov ol.length (ol.map encN8) ∧ ol ++ pathR Ws2 Ws2.length i' = c :: pathR Ws2 Ws2.length k ∧ ol.length + i' ≤ k + 1 ∧ (∀ b ∈ ol, b < 256) ∧ Ext w6 wr3) (fun _ kv _ => (intOf kv).toNat)
             case atStart => exact ⟨k, [c], rfl, hkW, HO0.out, rfl, by simp; omega, by simp; omega, Ext.alloc _ _⟩
             case round =>
              obtain ⟨i', ol, rfl, hi', hO, hP, hLn, hA, hE⟩ := hrel
              by_cases hpos : 0 < i'
              · have e4 : decide (0 < (i' : Int)) = true := decide_eq_true (by omega)
                obtain ⟨⟨p, b⟩, hpb⟩ : ∃ x, Ws2[i']? = some x := ⟨_, List.getElem?_eq_getElem hi'⟩
                obtain ⟨v0, v1⟩ := HC.out i' p b hpb
                obtain ⟨hp1, hb1⟩ := HOK.out i' p b hpos hpb
                have hstep := pathR_step HOK.out hpos hpb
                have k1 := cs_ext hE v1
                have hO4' := ownsRow_ext hO (Ext.alloc wr (.cells #[.int .u8 b] 5))
                have hlb := fun k hk => (hO.lt k hk).1
                have hsz4 := hE.size
                have HEE := Lib.hid hE
                have HP := Lib.hid hP
                have HST := Lib.hid hstep
                have HA := Lib.hid hA
                have V0 := Lib.hid v0
                have HPB := Lib.hid hpb
                have HLB := Lib.hid hlb
                clear hE hP hstep hA v0 v1 hpb hO hlb
                obtain ⟨i0, hi0, hz0, hz1, hz2⟩ := info_parts inf5
                go_wp2_with (first
                 | (at_builtin; refine wpList_append_own_at _ rfl _ _ 23 rfl w6.heap.size 5 i0 (.int .u8 0) 1 1 Tryz.underlying23 hi0 hz0 hz1 hz2 rfl (by decide) _ _ _ rfl hO4' ⟨wr.heap.size, 0, none⟩ 1 1 [.int .u8 b] rfl rfl (cell_one_new _ _ _) (fun x hx => by simp at hx; subst hx; rfl) (by unfold maxLen; omega) (by omega) (by simp; omega) ?_; intro v' w5 hown' hgrow5 hnil5 hat5
                    have HG5 := Lib.hid hgrow5
                    have HO5 := Lib.hid hown'
                    clear hown' hgrow5 hnil5 hat5 hO4'
                    have y0 := row_keep HEE.out HG5.out HLB.out V0.out))
                go_roundw
                case rel => exact ⟨p, ol ++ [b], rfl, by omega, by simpa [encN8] using HO5.out, by rw [← HP.out, HST.out]; simp, by simp; omega, fun c hc => by
                  rcases List.mem_append.1 hc with h | h
                  · exact HA.out c h
                  · simp at h; omega, (HEE.out.then_al _).grown HG5.out HLB.out⟩
                case measure => simp [intOf]; omega
              · have hi0 : i' = 0 := by omega
                subst hi0
                have hol : ol = c :: pathR Ws2 Ws2.length k := by rw [← hP, pathR_zero, List.append_nil]
                have e4 : decide (0 < ((0 : Nat) : Int)) = false := by simp
                have HO := Lib.hid hO
                have HEE := Lib.hid hE
                have HOL := Lib.hid hol
                have HLN : Hid (ol.length ≤ 40000010) := Lib.hid (by omega)
                have HA := Lib.hid hA
                have HLB := Lib.hid (fun k hk => (hO.lt k hk).1)
                clear hO hP hol hA hE
                go_wp2_with fail
                refine (reverse_any HO.out).mono ?_
                rintro e w10 ⟨rfl, hO2, hG⟩
                have hcv := bytes_back hO2 (fun b hb => HA.out b (by simpa using hb))
                have HE10 : Hid (Ext w w10) := Lib.hid (HE1.out.trans (HS6.out.ext.trans (HEE.out.grown hG HLB.out)))
                clear hO2 hG
                go_wp2_with fail
                go_ret2
                refine ⟨_, _, rfl, HE10.out, .inl ⟨rfl, _, rfl, fun b hb => HA.out b (by simpa using hb), fun _ => by rw [HOL.out]; simp, by have := HLN.out; rw [HOL.out] at this; rw [List.length_reverse, HOL.out]; omega, nv, ?_, by rw [← HACC.out]; exact HB1.out.symm⟩⟩
                rw [HOL.out, List.reverse_cons, runF_append]
                obtain ⟨r1, -, -⟩ := HW2.out.path (s := s0) (pre_get rowS_pre (by rw [← HLL.out]; exact lev_start)) Ws2.length k x (by omega) (pre_get rowS_pre HX.out)
                rw [← HF.out, r1]
                simp [runF, HF0.out]
       · have hc3 : c = 256 := by omega
         subst hc3
         have HS2 := Lib.hid hS2
         clear hS2
         have hlen2 : L.length ≤ (rowS f L x 256).length := (rowS_pre (f := f) (L := L) (x := x) (c := 256)).length_le
         go_wp2_with fail
         go_roundw
         case rel => exact ⟨k + 1, Ws2, by go_num, by rw [HNEXT.out]; exact HS2.out, by rw [HNEXT.out]; exact HW2.out, by rw [HNEXT.out]; omega, fun k' y h hy => by
           rw [HNEXT.out] at hy
           rcases Nat.lt_or_ge k' k with h' | h'
           · have hkl : k' < L.length := by omega
             have e := pre_get (rowS_pre (f := f) (L := L) (x := x) (c := 256)) (List.getElem?_eq_getElem hkl)
             rw [hy] at e
             exact HALL.out k' y h' (by rw [List.getElem?_eq_getElem hkl]; exact e.symm)
           · have : k' = k := by omega
             subst this
             have e := pre_get (rowS_pre (f := f) (L := L) (x := x) (c := 256)) HX.out
             rw [hy] at e; cases e
             exact HALL2.out⟩
         case measure => simp [intOf]; omega
    · have HFull : Hid (Full f s0 (lev f s0 k)) := ⟨k, rfl, by omega⟩
      have HEX := Lib.hid (HE1.out.trans hS.ext)
      obtain ⟨gS, capS, hsv, -⟩ := hS.at lev_start
      subst hsv
      have e1 : decide ((k : Int) < ((lev f s0 k).length : Int)) = false := decide_eq_false (by omega)
      generalize hLL : lev f s0 k = L at *
      clear hS hLL
      have HLE : Hid (L.length ≤ k) := Lib.hid (by omega)
      go_wp2_with fail
      go_ret2
      refine ⟨_, _, rfl, HEX.out, .inr ⟨rfl, rfl, ?_⟩⟩
      rw [← HF.out, ← HACC.out]
      refine on_none HFull.out (by rw [HACC.out]; intro h; exact HM.out (by first | exact trivial | exact h)) (fun y hy b hb n hn => ?_)
      obtain ⟨k', hk'⟩ := List.mem_iff_getElem?.1 hy
      exact HALL.out k' y (by have := (List.getElem?_eq_some_iff.1 hk').1; have := HLE.out; omega) hk' b hb n hn

def tget (v : Value) (i : Nat) : Value := match v with | .tuple vs => vs.getD i undef | _ => undef

/-- from a state no string (of at least one byte, if more) leads to one that accepts -/
def NoOn (f : Int → Nat → Option Int) (acc : Int → Bool) (s0 : Int) (more : Bool) : Prop :=
 ∀ l : List Nat, (∀ b ∈ l, b < 256) → (more = true → l ≠ []) → ∀ y, runF f s0 l = some y → acc y = false

/-- what continued answers -/
def ContR (f g : Int → Nat → Option Int) (accF accG : Int → Bool) (L : List (Int × Int)) (Ws : List (Nat × Nat)) (more : Bool) (s1 s2 : ByteArray) (er : Int) : Prop :=
 (er = 0 ∧ ∃ (k : Nat) (p : Int × Int) (l : List Nat), L[k]? = some p ∧ accF p.1 = true ∧ s1 = bytesN (pathR Ws Ws.length k).reverse ∧ s2 = bytesN ((pathR Ws Ws.length k).reverse ++ l) ∧ (more = true → l ≠ []) ∧ (∀ b ∈ l, b < 256) ∧ l.length ≤ 50000000 ∧ ∃ y, runF g p.2 l = some y ∧ accG y = true) ∨
 (er = 15 ∧ s1 = ByteArray.empty ∧ s2 = ByteArray.empty ∧ ∀ p ∈ L, accF p.1 = true → NoOn g accG p.2 more)

theorem bytesN_size (l : List Nat) : (bytesN l).size = l.length := by simp [bytesN, ByteArray.size]

theorem bytesN_append (a b : List Nat) : bytesN a ++ bytesN b = bytesN (a ++ b) := by
 apply ByteArray.ext
 simp [bytesN]

set_option maxRecDepth 100000 in
set_option maxHeartbeats 2400000 in
theorem continued_any {w0 w : World} {B : Nat} {tb toff : Nat} {t : List Fmt} {cap i j gs mb : Nat} {fm gm : Fmt} {pv wv : Value} {L : List (Int × Int)} {Ws : List (Nat × Nat)} {more : Bool} (hT : TabA w B (some ⟨tb, toff, none⟩) t) (hB : B ≤ w.heap.size) (hfm : t[i]? = some fm) (hgm : t[j]? = some gm) (hVf : VFmt t fm) (hVg : VFmt t gm)
 (hS : PSrch w0 w (.slice (some ⟨tb, toff, none⟩) t.length cap) i j gs mb pv wv L Ws) (hF : Full (stP t fm.fields gm.fields) (0, 0) L) (hL : L.length ≤ 20000) (hW : Ways (stP t fm.fields gm.fields) L Ws) :
 Calls Tryz.prog 42 #[.pointer (some ⟨gs, 0, none⟩), .bool more] w fun e w' => ∃ s1 s2 er, e = .returned (.tuple #[.string s1, .string s2, .int .i64 er]) ∧ Ext w w' ∧ ContR (stF t fm.fields) (stF t gm.fields) (rAcc fm.fields) (rAcc gm.fields) L Ws more s1 s2 er := by
 have hLs : ∀ x ∈ L, 0 ≤ x.1 ∧ x.1 ≤ 40000000 ∧ 0 ≤ x.2 ∧ x.2 ≤ 40000000 := fun x hx => by
  obtain ⟨k, rfl, -⟩ := hF
  exact levP_small (by have := hVf.le; omega) (by have := hVg.le; omega) x hx
 have hpos : 0 < L.length := List.length_pos_of_mem hF.start
 obtain ⟨gp, pcap, rfl, hpc, -⟩ := row2_slice hS.pairs hpos
 obtain ⟨z0, z1, z2, z3, z4, z5, z6⟩ := hS.cells
 have hcells : ∀ (k : Nat) (x : Int × Int), L[k]? = some x → w.cell? ⟨gp, k * 2, none⟩ = some (.int .i64 x.1) ∧ w.cell? ⟨gp, k * 2 + 1, none⟩ = some (.int .i64 x.2) := fun k x hk => by
  obtain ⟨g', c', e, -, -, -, hc⟩ := row2_at (f := encP2) (fun _ => rfl) hS.pairs hk
  cases e
  exact ⟨hc 0 _ rfl, hc 1 _ rfl⟩
 have hcA := fun (w' : World) (hE : Ext w w') (s : Int) (hs : s ≤ 9223372036854775807) => acceptsV (cap := cap) s hs (hT.ext hB hE) (by have := hE.size; omega) hfm hVf
 have hcO := fun (w' : World) (hE : Ext w w') (s : Int) (hs : 0 ≤ s ∧ s ≤ 40000000) => on_any (cap := cap) (more := more) hs (hT.ext hB hE) (by have := hE.size; omega) hgm hVg
 have HCA := Lib.hid hcA
 have HCO := Lib.hid hcO
 have HW := Lib.hid hW
 have HS := Lib.hid hS
 have HC := Lib.hid hcells
 have HLS := Lib.hid hLs
 have Z0 := Lib.hid z0
 have Z1 := Lib.hid z1
 have Z2 := Lib.hid z2
 have Z3 := Lib.hid z3
 have HPOS := Lib.hid hpos
 have HL0 : Hid (L[0]? = some (0, 0)) := by obtain ⟨k, rfl, -⟩ := hF; exact lev_start
 obtain ⟨accF, haF⟩ : ∃ f, f = rAcc fm.fields := ⟨_, rfl⟩
 obtain ⟨accG, haG⟩ : ∃ f, f = rAcc gm.fields := ⟨_, rfl⟩
 obtain ⟨fF, hfF⟩ : ∃ f, f = stF t fm.fields := ⟨_, rfl⟩
 obtain ⟨fG, hfG⟩ : ∃ f, f = stF t gm.fields := ⟨_, rfl⟩
 rw [← haF, ← haG, ← hfF, ← hfG]
 have HAF := Lib.hid haF
 have HAG := Lib.hid haG
 have HFG := Lib.hid hfG
 clear hcA hcO hW hS hcells hLs z0 z1 z2 z3 z5 z6 haF haG hfF hfG hT hfm hgm hVf hVg hF hpos
 have hmk : (Instr.makeMap 136 none).run Tryz.prog w = .ok (.map (some w.heap.size)) (w.alloc (.map #[] 0)) := rfl
 obtain ⟨mt, hmt⟩ : ∃ mt, mt = w.heap.size := ⟨_, rfl⟩
 obtain ⟨w1, hw1⟩ : ∃ w1, w1 = w.alloc (.map #[] 0) := ⟨_, rfl⟩
 have hM0 : MapK encN w1 mt 0 (fun x => inB [] x.1) := by rw [hmt, hw1]; simpa [inB] using MapK.made (enc := encN) w
 have hE1 : Ext w w1 := by rw [hw1]; exact Ext.alloc w _
 rw [← hmt, ← hw1] at hmk
 have HMT := Lib.hid hmt
 have HM0 := Lib.hid hM0
 have HE1 := Lib.hid hE1
 have k4 := cs_ext hE1 z4
 clear hmt hw1 hM0 hE1 z4
 go_enter Tryz.func42, Tryz.ntmps42
 go_wp2_with fail
 clear hmk k4
 go_loopw [8, 9, 10, 11, 12, 19] (fun _ _ _ _ _ kv wr => ∃ (k : Nat) (T : List Int) (n : Nat), kv = .int .i64 k ∧ k ≤ L.length ∧ MapK encN wr mt n (fun x => inB T x.1) ∧ (∀ q ∈ T, NoOn fG accG q more) ∧
  (∀ (k' : Nat) (x : Int × Int), k' < k → L[k']? = some x → accF x.1 = true → NoOn fG accG x.2 more) ∧ Ext w wr) (fun _ _ _ _ _ kv _ => L.length - (intOf kv).toNat)
 case atStart => exact ⟨0, [], 0, rfl, by omega, HM0.out, by simp, fun k' x h => by omega, HE1.out⟩
 case round =>
  obtain ⟨k, T, mn, rfl, hk, hM, hTn, hall, hE⟩ := hrel
  have HALL := Lib.hid hall
  have HTN := Lib.hid hTn
  have HM := Lib.hid hM
  clear hall hTn hM
  by_cases hlt : k < L.length
  · obtain ⟨x, hx⟩ : ∃ x, L[k]? = some x := ⟨_, List.getElem?_eq_getElem hlt⟩
    obtain ⟨y0, y1⟩ := HC.out k x hx
    have y0 := cs_ext hE y0
    have y1 := cs_ext hE y1
    obtain ⟨xs1, xs2, xs3, xs4⟩ := HLS.out x (List.mem_of_getElem? hx)
    have HX := Lib.hid hx; clear hx
    obtain ⟨b1, hb1⟩ : ∃ b1, b1 = accF x.1 := ⟨_, rfl⟩
    have hc1 := fun (w' : World) (h : Ext w w') => HCA.out w' h x.1 (by omega)
    rw [← HAF.out, ← hb1] at hc1
    have HB1 := Lib.hid hb1
    have HC1 := Lib.hid hc1
    clear hc1 hb1
    have HE := Lib.hid hE
    go_wp2_with fail
    obtain ⟨wq, hwq⟩ : ∃ wq, wq = wr.alloc (Obj.cells #[Value.int IntKind.i64 x.1, Value.int IntKind.i64 x.2] 143) := ⟨_, rfl⟩
    obtain ⟨xb, hxb⟩ : ∃ xb, xb = wr.heap.size := ⟨_, rfl⟩
    have m0 : wq.cell? ⟨xb, 0, none⟩ = some (.int .i64 x.1) := by rw [hwq, hxb]; exact cs_new rfl
    have m1 : wq.cell? ⟨xb, 1, none⟩ = some (.int .i64 x.2) := by rw [hwq, hxb]; exact cs_new rfl
    have hEq : Ext w wq := by rw [hwq]; exact HE.out.then_al _
    have hMq : MapK encN wq mt mn (fun x => inB T x.1) := by rw [hwq]; exact HM.out.al _
    have hxmt : xb ≠ mt := by have := HM.out.lt; omega
    rw [← hwq, ← hxb]
    have k0 := cs_ext hEq Z0.out
    have k1 := cs_ext hEq Z1.out
    have HEQ := Lib.hid hEq
    have HMQ := Lib.hid hMq
    clear hwq hxb hEq y0 y1 hE hMq
    have SKIP : ∀ (wz : World), MapK encN wz mt mn (fun x => inB T x.1) → Ext w wz → (accF x.1 = true → NoOn fG accG x.2 more) → ∃ (k1 : Nat) (T : List Int) (n : Nat), Value.int .i64 ((k : Int) + 1) = .int .i64 k1 ∧ k1 ≤ L.length ∧ MapK encN wz mt n (fun x => inB T x.1) ∧ (∀ q ∈ T, NoOn fG accG q more) ∧
     (∀ (k' : Nat) (x : Int × Int), k' < k1 → L[k']? = some x → accF x.1 = true → NoOn fG accG x.2 more) ∧ Ext w wz :=
     fun wz h1 h2 h3 => ⟨k + 1, T, mn, by go_num, by omega, h1, HTN.out, fun k' y h hy => by
      rcases Nat.lt_or_ge k' k with h' | h'
      · exact HALL.out k' y h' hy
      · have : k' = k := by omega
        subst this
        rw [HX.out] at hy; cases hy; exact h3, h2⟩
    have HSKIP := Lib.hid SKIP
    clear SKIP
    cases b1
    · have HFCT := Lib.hid (And.intro k0 (And.intro k1 (And.intro m0 m1)))
      refine wp_region_reg 14 false (by kernel_rfl) (by kernel_rfl) ?_
      refine reg_value (fun _ => rfl) ?_ (fun g w' vs hM hE hP => ?_) ?_
      rotate_left
      · (clear hP hM; have ⟨z0, z1, z2, z3⟩ := cs_e4 hE HFCT.out; go_simp; first | done | rfl)
      refine reg_value (fun _ => rfl) ?_ (fun g w' vs hM hE hP => ?_) ?_
      rotate_left
      · (clear hP hM; have ⟨z0, z1, z2, z3⟩ := cs_e4 hE HFCT.out; go_simp; first | done | rfl)
      refine reg_value (fun _ => rfl) ?_ (fun g w' vs hM hE hP => ?_) ?_
      rotate_left
      · (clear hP hM; have ⟨z0, z1, z2, z3⟩ := cs_e4 hE HFCT.out; go_simp; first | done | rfl)
      refine reg_value (fun _ => rfl) ?_ (fun g w' vs hM hE hP => ?_) ?_
      rotate_left
      · (clear hP hM; have ⟨z0, z1, z2, z3⟩ := cs_e4 hE HFCT.out; go_simp; first | done | rfl)
      refine reg_value (fun _ => rfl) ?_ (fun g w' vs hM hE hP => ?_) ?_
      rotate_left
      · (clear hP hM; have ⟨z0, z1, z2, z3⟩ := cs_e4 hE HFCT.out; go_simp; first | done | rfl)
      refine reg_value (fun _ => rfl) ?_ (fun g w' vs hM hE hP => ?_) ?_
      rotate_left
      · (clear hP hM; have ⟨z0, z1, z2, z3⟩ := cs_e4 hE HFCT.out; go_simp; first | done | rfl)
      refine reg_const (fun _ => rfl) 69 ?_ (fun g w' vs hM hE hP => ?_) ?_
      rotate_left
      · (clear hP hM; have ⟨z0, z1, z2, z3⟩ := cs_e4 hE HFCT.out; go_simp; first | done | exact ⟨rfl, rfl⟩ | rfl)
      apply Exists.intro
      refine And.intro (fun g w' vs hM hE hP => ?_) ?_
      · exact HC1.out _ (HEQ.out.trans hE)
      refine reg_value (fun _ => rfl) ?_ (fun g w' vs hM hE hP => ?_) ?_
      rotate_left
      · (clear hP hM; have ⟨z0, z1, z2, z3⟩ := cs_e4 hE HFCT.out; go_simp; first | done | rfl)
      refine reg_value (fun _ => rfl) ?_ (fun g w' vs hM hE hP => ?_) ?_
      rotate_left
      · (clear hP hM; have ⟨z0, z1, z2, z3⟩ := cs_e4 hE HFCT.out; go_simp; first | done | rfl)
      refine reg_skip (fun g => by go_simp; first | done | (intro h; cases h) | simp [undef]) ?_
      refine reg_skip (fun g => by go_simp; first | done | (intro h; cases h) | simp [undef]) ?_
      refine reg_skip (fun g => by go_simp; first | done | (intro h; cases h) | simp [undef]) ?_
      refine reg_skip (fun g => by go_simp; first | done | (intro h; cases h) | simp [undef]) ?_
      refine reg_value (fun _ => rfl) ?_ (fun g w' vs hM hE hP => ?_) ?_
      rotate_left
      · (clear hP hM; have ⟨z0, z1, z2, z3⟩ := cs_e4 hE HFCT.out; go_simp; first | done | rfl)
      intro g wz hE2 hF hQ
      simp only [List.drop_succ_cons, List.drop_zero, Act.put, List.setIfInBounds_toArray, List.set_cons_succ, List.set_cons_zero]
      clear hF hQ k0 k1 m0 m1
      have HR := Lib.hid (HSKIP.out wz (HMQ.out.ext hE2) (HEQ.out.trans hE2) (fun h => by rw [← HB1.out] at h; cases h))
      clear hE2
      go_wp2_with fail
      go_roundw
      case rel => exact HR.out
      case measure => simp [intOf]; omega
    · obtain ⟨kn, hkn⟩ : ∃ kn, kn = decide (x.2 ∈ T) := ⟨_, rfl⟩
      have hlk := fun (w' : World) (h : Ext wq w') => (HMQ.out.ext h).look law3 key3 Tryz.underlying136 (zero4 w') ⟨x.2, by unfold I64; omega⟩ false
      simp only [inB_val, encN] at hlk
      rw [← hkn] at hlk
      have HLK := Lib.hid hlk
      have HKN := Lib.hid hkn
      clear hlk hkn
      have HFCT := Lib.hid (And.intro k0 (And.intro k1 (And.intro m0 m1)))
      refine wp_region_reg 14 false (by kernel_rfl) (by kernel_rfl) ?_
      refine reg_value (fun _ => rfl) ?_ (fun g w' vs hM hE hP => ?_) ?_
      rotate_left
      · (clear hP hM; have ⟨z0, z1, z2, z3⟩ := cs_e4 hE HFCT.out; go_simp; first | done | rfl)
      refine reg_value (fun _ => rfl) ?_ (fun g w' vs hM hE hP => ?_) ?_
      rotate_left
      · (clear hP hM; have ⟨z0, z1, z2, z3⟩ := cs_e4 hE HFCT.out; go_simp; first | done | rfl)
      refine reg_value (fun _ => rfl) ?_ (fun g w' vs hM hE hP => ?_) ?_
      rotate_left
      · (clear hP hM; have ⟨z0, z1, z2, z3⟩ := cs_e4 hE HFCT.out; go_simp; first | done | rfl)
      refine reg_value (fun _ => rfl) ?_ (fun g w' vs hM hE hP => ?_) ?_
      rotate_left
      · (clear hP hM; have ⟨z0, z1, z2, z3⟩ := cs_e4 hE HFCT.out; go_simp; first | done | rfl)
      refine reg_value (fun _ => rfl) ?_ (fun g w' vs hM hE hP => ?_) ?_
      rotate_left
      · (clear hP hM; have ⟨z0, z1, z2, z3⟩ := cs_e4 hE HFCT.out; go_simp; first | done | rfl)
      refine reg_value (fun _ => rfl) ?_ (fun g w' vs hM hE hP => ?_) ?_
      rotate_left
      · (clear hP hM; have ⟨z0, z1, z2, z3⟩ := cs_e4 hE HFCT.out; go_simp; first | done | rfl)
      refine reg_const (fun _ => rfl) 69 ?_ (fun g w' vs hM hE hP => ?_) ?_
      rotate_left
      · (clear hP hM; have ⟨z0, z1, z2, z3⟩ := cs_e4 hE HFCT.out; go_simp; first | done | exact ⟨rfl, rfl⟩ | rfl)
      apply Exists.intro
      refine And.intro (fun g w' vs hM hE hP => ?_) ?_
      · exact HC1.out _ (HEQ.out.trans hE)
      refine reg_value (fun _ => rfl) ?_ (fun g w' vs hM hE hP => ?_) ?_
      rotate_left
      · (clear hP hM; have ⟨z0, z1, z2, z3⟩ := cs_e4 hE HFCT.out; go_simp; first | done | rfl)
      refine reg_value (fun _ => rfl) ?_ (fun g w' vs hM hE hP => ?_) ?_
      rotate_left
      · (clear hP hM; have ⟨z0, z1, z2, z3⟩ := cs_e4 hE HFCT.out; go_simp; first | done | rfl)
      refine reg_value (fun g => by go_simp) ?_ (fun g w' vs hM hE hP => ?_) ?_
      rotate_left
      · (clear hP hM; have ⟨z0, z1, z2, z3⟩ := cs_e4 hE HFCT.out; go_simp; first | done | rfl)
      refine reg_value (fun g => by go_simp) ?_ (fun g w' vs hM hE hP => ?_) ?_
      rotate_left
      · (clear hP hM; have ⟨z0, z1, z2, z3⟩ := cs_e4 hE HFCT.out; go_simp; first | done | rfl)
      refine reg_value (fun g => by go_simp) ?_ (fun g w' vs hM hE hP => ?_) ?_
      rotate_left
      · (clear hP hM; have ⟨z0, z1, z2, z3⟩ := cs_e4 hE HFCT.out; go_simp; first | done | rfl)
      refine reg_value (fun g => by go_simp) (fun _ => .bool kn) (fun g w' m hM hE hP => ?_) ?_
      · have hl := HLK.out w' hE
        clear hM hP
        go_simp
      refine reg_value (fun _ => rfl) ?_ (fun g w' vs hM hE hP => ?_) ?_
      rotate_left
      · (clear hP hM; have ⟨z0, z1, z2, z3⟩ := cs_e4 hE HFCT.out; go_simp; first | done | rfl)
      intro g wz hE2 hF hQ
      simp only [List.drop_succ_cons, List.drop_zero, Act.put, List.setIfInBounds_toArray, List.set_cons_succ, List.set_cons_zero]
      clear hF hQ k0 k1
      have m1 := cs_ext hE2 m1
      have hMz := HMQ.out.ext hE2
      have HEZ := Lib.hid (HEQ.out.trans hE2)
      clear hE2 m0
      cases kn
      · obtain ⟨ob, hup, hFm⟩ := hMz.update law3 key3 encN_inj Tryz.underlying136 ⟨x.2, by unfold I64; omega⟩ (.bool true)
        have hM2 := hFm (fun y => inB (T ++ [x.2]) y.1) inB_new (fun y hy => inB_other (fun e => hy (Subtype.ext e)))
        simp only [encN] at hup
        obtain ⟨w2, hw2⟩ : ∃ w2, w2 = ChangeMaps.setBlock wz mt ob := ⟨_, rfl⟩
        rw [← hw2] at hup hM2
        have hE2 : Ext w w2 := by rw [hw2]; exact HEZ.out.turned (by rw [HMT.out]; exact Nat.le_refl _)
        have m2 : w2.cell? ⟨xb, 1, none⟩ = some (.int .i64 x.2) := by rw [hw2]; rw [World.cell?_of_block (a := ⟨xb, 1, none⟩) (turned_block hxmt)]; exact m1
        have HM2 := Lib.hid hM2
        have HE2 := Lib.hid hE2
        clear hw2 hM2 hE2 hMz hFm
        go_wp2_with fail
        clear hup m1
        have k2 := cs_ext HE2.out Z2.out
        have k3 := cs_ext HE2.out Z3.out
        have HFCT := Lib.hid (And.intro k2 (And.intro k3 m2))
        refine wp_region_reg 13 false (by kernel_rfl) (by kernel_rfl) ?_
        refine reg_value (fun _ => rfl) ?_ (fun g w' vs hM hE hP => ?_) ?_
        rotate_left
        · (clear hP hM; have ⟨z0, z1, z2⟩ := cs_e3 hE HFCT.out; go_simp; first | done | rfl)
        refine reg_value (fun _ => rfl) ?_ (fun g w' vs hM hE hP => ?_) ?_
        rotate_left
        · (clear hP hM; have ⟨z0, z1, z2⟩ := cs_e3 hE HFCT.out; go_simp; first | done | rfl)
        refine reg_value (fun _ => rfl) ?_ (fun g w' vs hM hE hP => ?_) ?_
        rotate_left
        · (clear hP hM; have ⟨z0, z1, z2⟩ := cs_e3 hE HFCT.out; go_simp; first | done | rfl)
        refine reg_value (fun _ => rfl) ?_ (fun g w' vs hM hE hP => ?_) ?_
        rotate_left
        · (clear hP hM; have ⟨z0, z1, z2⟩ := cs_e3 hE HFCT.out; go_simp; first | done | rfl)
        refine reg_value (fun _ => rfl) ?_ (fun g w' vs hM hE hP => ?_) ?_
        rotate_left
        · (clear hP hM; have ⟨z0, z1, z2⟩ := cs_e3 hE HFCT.out; go_simp; first | done | rfl)
        refine reg_value (fun _ => rfl) ?_ (fun g w' vs hM hE hP => ?_) ?_
        rotate_left
        · (clear hP hM; have ⟨z0, z1, z2⟩ := cs_e3 hE HFCT.out; go_simp; first | done | rfl)
        refine reg_value (fun _ => rfl) ?_ (fun g w' vs hM hE hP => ?_) ?_
        rotate_left
        · (clear hP hM; have ⟨z0, z1, z2⟩ := cs_e3 hE HFCT.out; go_simp; first | done | rfl)
        refine reg_call (fun _ => rfl) 70 ?_ (fun g w' m hM hE hP => ?_) (fun u _ => ∃ s ok, u = .tuple #[.string s, .bool ok] ∧ OnR fG accG x.2 more s ok) ⟨fun u a b h _ => h, (fun h => nomatch h), (fun h => absurd rfl h)⟩ (fun g w' m hM hE hP => ?_) ?_
        rotate_left
        · (clear hP hM; have zz0 := cs_ext hE k2; have zz1 := cs_ext hE k3; have zz2 := cs_ext hE m2; go_simp; first | done | exact ⟨rfl, rfl⟩ | rfl)
        · refine (HCO.out w' (HE2.out.trans hE) x.2 ⟨xs3, xs4⟩).mono ?_
          rintro e w'' ⟨s, ok, rfl, h1, h2⟩
          exact ⟨_, rfl, h1, s, ok, rfl, by rw [HFG.out, HAG.out]; exact h2⟩
        refine reg_value (fun _ => rfl) ?_ (fun g w' vs hM hE hP => ?_) ?_
        rotate_left
        · (clear hP hM; have ⟨z0, z1, z2⟩ := cs_e3 hE HFCT.out; go_simp; first | done | rfl)
        refine reg_value (fun _ => rfl) (fun g => tget (g 7).v 0) (fun g w' m hM hE hP => ?_) ?_
        · obtain ⟨s, ok, hv, -⟩ := hP _ List.mem_cons_self (anc_of 3 (by kernel_rfl))
          simp only at hv
          clear hM hP
          rw [hv]
          go_simp
          rfl
        refine reg_value (fun _ => rfl) (fun g => tget (g 7).v 1) (fun g w' m hM hE hP => ?_) ?_
        · obtain ⟨s, ok, hv, -⟩ := hP _ List.mem_cons_self (anc_of 3 (by kernel_rfl))
          simp only at hv
          clear hM hP
          rw [hv]
          go_simp
          rfl
        refine reg_value (fun _ => rfl) ?_ (fun g w' vs hM hE hP => ?_) ?_
        rotate_left
        · (clear hP hM; have ⟨z0, z1, z2⟩ := cs_e3 hE HFCT.out; go_simp; first | done | rfl)
        refine reg_value (fun _ => rfl) ?_ (fun g w' vs hM hE hP => ?_) ?_
        rotate_left
        · (clear hP hM; have ⟨z0, z1, z2⟩ := cs_e3 hE HFCT.out; go_simp; first | done | rfl)
        intro g wy hE3 hF hQ
        simp only [List.drop_succ_cons, List.drop_zero, Act.put, List.setIfInBounds_toArray, List.set_cons_succ, List.set_cons_zero]
        clear hF k2 k3
        obtain ⟨sr, ok, hv, hOn⟩ := hQ _ List.mem_cons_self
        simp only at hv
        simp only [hv, tget]
        have HE3 := Lib.hid hE3
        have HON := Lib.hid hOn
        clear hQ hE3 hOn hv m2
        cases ok
        · have HR : Hid (∃ (k1 : Nat) (T : List Int) (n : Nat), Value.int .i64 ((k : Int) + 1) = .int .i64 k1 ∧ k1 ≤ L.length ∧ MapK encN wy mt n (fun x => inB T x.1) ∧ (∀ q ∈ T, NoOn fG accG q more) ∧
           (∀ (k' : Nat) (x : Int × Int), k' < k1 → L[k']? = some x → accF x.1 = true → NoOn fG accG x.2 more) ∧ Ext w wy) := by
           have hno : NoOn fG accG x.2 more := by
            rcases HON.out with ⟨h, -⟩ | ⟨-, -, h⟩
            · cases h
            · exact h
           exact ⟨k + 1, T ++ [x.2], mn + 1, by go_num, by omega, HM2.out.ext HE3.out, fun q hq => by
            rcases List.mem_append.1 hq with h | h
            · exact HTN.out q h
            · simp at h; subst h; exact hno, fun k' y h hy => by
            rcases Nat.lt_or_ge k' k with h' | h'
            · exact HALL.out k' y h' hy
            · have : k' = k := by omega
              subst this
              rw [HX.out] at hy; cases hy; exact fun _ => hno, HE2.out.trans HE3.out⟩
          go_wp2_with fail
          go_roundw
          case rel => exact HR.out
          case measure => simp [intOf]; omega
        · have HE4 := Lib.hid (HE2.out.trans HE3.out)
          have hcon3 := text_any (k := k) (hs_ext HE4.out HS.out.st) (ownsRow_ext HS.out.ways HE4.out) HW.out.ok (by rw [HW.out.1]; omega) (by omega)
          have HC3 := Lib.hid hcon3
          clear hcon3
          have hcat : (bytesN (pathR Ws Ws.length k).reverse).size + sr.size ≤ 9223372036854775807 := by
           obtain ⟨-, -, r3⟩ := HW.out.path (s := (0, 0)) HL0.out Ws.length k x (by rw [HW.out.1]; omega) HX.out
           rw [bytesN_size, List.length_reverse]
           rcases HON.out with ⟨-, l, rfl, hl1, hl2, hl3, -⟩ | ⟨h, -⟩
           · rw [bytesN_size]; omega
           · cases h
          go_wp2_with fail
          refine HC3.out.mono ?_
          rintro e w4 ⟨rfl, hE5⟩
          have HE5 := Lib.hid (HE4.out.trans hE5)
          clear hE5
          go_wp2_with fail
          go_ret3
          rcases HON.out with ⟨-, l, rfl, hl1, hl2, hl5, y, hy1, hy2⟩ | ⟨h, -⟩
          · exact ⟨_, _, _, rfl, HE5.out, .inl ⟨rfl, k, x, l, HX.out, HB1.out.symm, rfl, bytesN_append _ _, hl2, hl1, hl5, y, hy1, hy2⟩⟩
          · cases h
      · have HR := Lib.hid (HSKIP.out wz hMz HEZ.out (fun h => HTN.out x.2 (of_decide_eq_true HKN.out.symm)))
        clear hMz m1
        go_wp2_with fail
        go_roundw
        case rel => exact HR.out
        case measure => simp [intOf]; omega
  · have HKL : Hid (L.length ≤ k) := Lib.hid (by omega)
    have HE := Lib.hid hE
    clear hE
    go_wp2_with fail
    go_ret3
    exact ⟨_, _, _, rfl, HE.out, .inr ⟨rfl, rfl, rfl, fun p hp => by
     obtain ⟨k', hk'⟩ := List.mem_iff_getElem?.1 hp
     exact HALL.out k' p (by have := (List.getElem?_eq_some_iff.1 hk').1; have := HKL.out; omega) hk'⟩⟩

/-- what PrefixFree and Begins answer -/
def BegR (t : List Fmt) (i j : Int) (more : Bool) (s1 s2 : ByteArray) (er : Int) : Prop :=
 (errS t [i, j] ≠ 0 ∧ s1 = ByteArray.empty ∧ s2 = ByteArray.empty ∧ er = errS t [i, j]) ∨ (errS t [i, j] = 0 ∧ ∃ (i' j' : Nat) (fm gm : Fmt), i = i' ∧ j = j' ∧ t[i']? = some fm ∧ t[j']? = some gm ∧ VFmt t fm ∧ VFmt t gm ∧
   ((Over (stP t fm.fields gm.fields) (0, 0) ∧ s1 = ByteArray.empty ∧ s2 = ByteArray.empty ∧ er = 3) ∨ ∃ L Ws, Full (stP t fm.fields gm.fields) (0, 0) L ∧ L.length ≤ 20000 ∧ Ways (stP t fm.fields gm.fields) L Ws ∧
     ContR (stF t fm.fields) (stF t gm.fields) (rAcc fm.fields) (rAcc gm.fields) L Ws more s1 s2 er))

set_option maxRecDepth 100000 in
set_option maxHeartbeats 1000000 in
theorem PrefixFree_any {w : World} {B : Nat} {a : Option Addr} {t : List Fmt} {cap : Nat} {i : Int} (hT : TabA w B a t) (hB : B ≤ w.heap.size) (hcap : t.length ≤ cap) (hcap2 : cap ≤ 9223372036854775807) :
 Calls Tryz.prog 11 #[.slice a t.length cap, .int .i64 i] w fun e w' => ∃ s1 s2 er, e = .returned (.tuple #[.string s1, .string s2, .int .i64 er]) ∧ Ext w w' ∧ BegR t i i true s1 s2 er := by
 have hcon := product_any (i := i) (j := i) hT hB hcap hcap2
 go_enter Tryz.func11, Tryz.ntmps11
 go_wp2_with fail
 refine hcon.mono ?_
 rintro e w1 ⟨p, er, rfl, hb1, hP⟩
 have HB := Lib.hid hb1
 rcases hP with ⟨he, rfl, her⟩ | ⟨he, i', j', fm, gm, hi, hj, hfm, hgm, hVf, hVg, hR⟩
 · have e1 : (er == 0) = false := beq_eq_false_iff_ne.2 (by rw [her]; exact he)
   have HE := Lib.hid he
   have HER := Lib.hid her
   clear he her
   go_wp2_with fail
   go_ret3
   exact ⟨_, _, _, rfl, HB.out, .inl ⟨HE.out, rfl, rfl, HER.out⟩⟩
 · have HHE := Lib.hid he
   have HHI := Lib.hid hi
   have HHJ := Lib.hid hj
   have HFM := Lib.hid hfm
   have HGM := Lib.hid hgm
   rcases hR with ⟨hO, rfl, rfl⟩ | ⟨gs, mb, pv, wv, L, Ws, hF, hL, hW, rfl, rfl, hS⟩
   · have HO := Lib.hid hO
     clear he hi hj hfm hgm hO
     go_wp2_with fail
     go_ret3
     exact ⟨_, _, _, rfl, HB.out, .inr ⟨HHE.out, i', j', fm, gm, HHI.out, HHJ.out, HFM.out, HGM.out, hVf, hVg, .inl ⟨HO.out, rfl, rfl, rfl⟩⟩⟩
   · obtain ⟨tb, toff, rfl, -⟩ := hT.2 (ne_nil_of_get hfm)
     have hcon2 := continued_any (cap := cap) (more := true) (hT.ext hB hb1) (by have := hb1.size; omega) hfm hgm hVf hVg hS hF hL hW
     have HC := Lib.hid hcon2
     have HF := Lib.hid hF
     have HL := Lib.hid hL
     have HW := Lib.hid hW
     clear he hi hj hfm hgm hF hL hW hS hcon2 hb1 hcon
     go_wp2_with fail
     refine HC.out.mono ?_
     rintro e w2 ⟨s1, s2, er, rfl, hb2, hR⟩
     have HR := Lib.hid hR
     have HB2 := Lib.hid hb2
     clear hR hb2
     go_wp2_with fail
     go_ret3
     exact ⟨_, _, _, rfl, HB.out.trans HB2.out, .inr ⟨HHE.out, i', j', fm, gm, HHI.out, HHJ.out, HFM.out, HGM.out, hVf, hVg, .inr ⟨L, Ws, HF.out, HL.out, HW.out, HR.out⟩⟩⟩

end Go.Proofs.YtfaienbdebjfcaaGreat
