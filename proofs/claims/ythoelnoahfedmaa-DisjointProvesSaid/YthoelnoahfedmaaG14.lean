/- Belongs; rows of four cells. The reference's pairs: the walk. Exists. DisjointCommon: the walk of the law. -/
import Derived.Test.YthoelnoahfedmaaG13
namespace Go.Proofs.Ythoelnoahfedmaa
open Go Go.RowKit
set_option linter.unusedVariables false
set_option linter.unusedSimpArgs false

theorem stepK_ge (x : Fld) {f r b : Nat} : -1 ≤ stepK x f r b := by
  unfold stepK cntS lftS stS
  (repeat' split) <;> omega
theorem rStep_ge {t : List Fmt} {F : List Fld} {s : Int} {b : Nat} : -1 ≤ rStep t F s b := by
  unfold rStep
  split
  · omega
  · split
    · omega
    · rename_i x hx
      split
      · unfold rNest
        split
        · split
          · omega
          · unfold stS; omega
        · split
          · omega
          · split
            · omega
            · rename_i y hy
              have hk := stepK_ge y (f := (s % 256).toNat / 32) (r := (s % 256).toNat % 32) (b := b)
              generalize stepK y ((s % 256).toNat / 32) ((s % 256).toNat % 32) b = v at *
              (repeat' split) <;> (first | omega | (unfold stS at *; omega))
      · split
        · omega
        · exact stepK_ge x

def bytesL (s : ByteArray) : List Nat := s.data.toList.map (·.toNat)
/-- whether a string belongs to a format -/
def belS (t : List Fmt) (F : List Fld) (s : ByteArray) : Bool := match runF (stF t F) 0 (bytesL s) with | some y => rAcc F y | none => false

theorem bytesL_len (s : ByteArray) : (bytesL s).length = s.size := by
  rw [bytesL, List.length_map, Array.length_toList]
  rfl
theorem bytesL_get {s : ByteArray} {k : Nat} (h : k < s.size) : (bytesL s)[k]? = some (s[k].toNat) := by
  have h' : k < s.data.size := h
  rw [bytesL, List.getElem?_map, Array.getElem?_toList, Array.getElem?_eq_getElem h']
  rfl
theorem bytesL_lt (s : ByteArray) : ∀ b ∈ bytesL s, b < 256 := by
  intro b hb
  simp [bytesL] at hb
  obtain ⟨c, -, rfl⟩ := hb
  exact c.toNat_lt
theorem bytesN_L {l : List Nat} (h : ∀ b ∈ l, b < 256) : bytesL (bytesN l) = l := by
  simp only [bytesL, bytesN, List.map_map]
  rw [List.map_congr_left (g := id) (fun b hb => by have := h b hb; simp; omega)]
  simp

set_option maxRecDepth 100000 in
set_option maxHeartbeats 1000000 in
theorem Belongs_any {w : World} {B : Nat} {a : Option Addr} {t : List Fmt} {cap i : Nat} {fm : Fmt} {s : ByteArray} (hs : s.size ≤ maxLen) (hT : TabA w B a t) (hB : B ≤ w.heap.size) (hi : t[i]? = some fm) (hV : VFmt t fm) :
    Calls Try.prog 17 #[.slice a t.length cap, .int .i64 i, .string s] w fun e w' => e = .returned (.bool (belS t fm.fields s)) ∧ Ext w w' := by
  unfold maxLen at hs
  have hle : fm.fields.length ≤ 100 := by have := hV.le; omega
  have hcS := fun (w' : World) (hE : Ext w w') (x : Int) (c : Nat) (hx : x ≤ 9223372036854775807) (hc : c ≤ 255) => Step_any (cap := cap) x c hc hx (hT.ext hB hE) (by have := hE.size; omega) hi hV
  have hcA := fun (w' : World) (hE : Ext w w') (x : Int) (h1 : x ≤ 9223372036854775807) (h2 : -9223372036854775808 ≤ x) => Accepts_any (cap := cap) x h1 h2 (hT.ext hB hE) (by have := hE.size; omega) hi hV.ne hle
  have HCS := Lib.hid hcS
  have HCA := Lib.hid hcA
  obtain ⟨f, hf⟩ : ∃ f, f = stF t fm.fields := ⟨_, rfl⟩
  have HF := Lib.hid hf
  have HBEL : Hid (belS t fm.fields s = match runF f 0 (bytesL s) with | some y => rAcc fm.fields y | none => false) := Lib.hid (by rw [hf]; rfl)
  clear hcS hcA hf hi
  go_enter Try.func17, Try.ntmps17
  go_wp2_with fail
  go_loopw [7, 8] (fun av kv wr => ∃ (k : Nat) (x : Int), av = .int .i64 x ∧ kv = .int .i64 k ∧ k ≤ s.size ∧ -1 ≤ x ∧ x ≤ 40000000 ∧ (0 ≤ x → runF f 0 ((bytesL s).take k) = some x) ∧ (x < 0 → runF f 0 ((bytesL s).take k) = none) ∧ Ext w wr) (fun _ kv _ => s.size - (intOf kv).toNat)
  case atStart => exact ⟨0, 0, rfl, rfl, by omega, by omega, by omega, fun _ => rfl, fun h => by omega, Ext.refl _⟩
  case round =>
    obtain ⟨k, x, rfl, rfl, hk, hx1, hx2, h1, h2, hE⟩ := hrel
    have H1 := Lib.hid h1
    have H2 := Lib.hid h2
    have HE := Lib.hid hE
    clear h1 h2 hE
    by_cases hlt : k < s.size
    · by_cases hneg : x < 0
      · have e1 : decide (0 ≤ x) = false := decide_eq_false (by omega)
        have HR : Hid (belS t fm.fields s = rAcc fm.fields x) := Lib.hid (by
          rw [HBEL.out, ← List.take_append_drop k (bytesL s), runF_append, H2.out hneg]
          simp [rAcc, hneg])
        go_wp2_with fail
        refine (HCA.out _ HE.out x (by omega) (by omega)).mono ?_
        rintro e w2 ⟨rfl, hE2⟩
        have HE2 := Lib.hid (HE.out.trans hE2)
        clear hE2
        go_wp2_with fail
        go_ret
        exact ⟨rb HR.out.symm, HE2.out⟩
      · have e1 : decide (0 ≤ x) = true := decide_eq_true (by omega)
        obtain ⟨nv, hnv⟩ : ∃ nv, nv = rStep t fm.fields x (s[k].toNat) := ⟨_, rfl⟩
        have hb := s[k].toNat_lt
        have hcon := HCS.out wr HE.out x (s[k].toNat) (by omega) (by omega)
        rw [← hnv] at hcon
        have hn1 : -1 ≤ nv := by rw [hnv]; exact rStep_ge
        have hn2 : nv ≤ 40000000 := by rw [hnv]; exact rStep_le hle (by omega)
        have HTK : Hid ((bytesL s).take (k + 1) = (bytesL s).take k ++ [s[k].toNat]) := Lib.hid (by
          rw [List.take_add_one, bytesL_get hlt]; rfl)
        have HRUN : Hid (runF f 0 ((bytesL s).take (k + 1)) = if nv < 0 then none else some nv) := Lib.hid (by
          rw [HTK.out, runF_append, H1.out (by omega)]
          simp only [Option.bind_some, runF, HF.out, stF, ← hnv]
          by_cases h : nv < 0
          · simp [h]
          · simp [h])
        have HCON := Lib.hid hcon
        clear hnv hcon hb
        go_wp2_with fail
        refine HCON.out.mono ?_
        rintro e w2 ⟨rfl, hE2⟩
        have HE2 := Lib.hid (HE.out.trans hE2)
        clear hE2
        go_wp2_with fail
        go_roundw
        case rel => exact ⟨k + 1, nv, rfl, by go_num, by omega, hn1, hn2, fun h => by rw [HRUN.out, if_neg (by omega)], fun h => by rw [HRUN.out, if_pos h], HE2.out⟩
        case measure => simp [intOf]; omega
    · have hk2 : k = s.size := by omega
      have HR : Hid (belS t fm.fields s = rAcc fm.fields x) := Lib.hid (by
        have h3 : (bytesL s).take k = bytesL s := List.take_of_length_le (by rw [bytesL_len]; omega)
        rw [HBEL.out]
        by_cases h : x < 0
        · have := H2.out h
          rw [h3] at this
          rw [this]
          simp [rAcc, h]
        · have := H1.out (by omega)
          rw [h3] at this
          rw [this])
      clear hk2
      go_wp2_with fail
      refine (HCA.out _ HE.out x (by omega) (by omega)).mono ?_
      rintro e w2 ⟨rfl, hE2⟩
      have HE2 := Lib.hid (HE.out.trans hE2)
      clear hE2
      go_wp2_with fail
      go_ret
      exact ⟨rb HR.out.symm, HE2.out⟩

/-- lists of values, n cells each -/
theorem flatN_get {α : Type} {n : Nat} {f : α → List Value} (hf : ∀ x, (f x).length = n) : ∀ (L : List α) (k j : Nat) (x : α), L[k]? = some x → j < n → (L.flatMap f)[k * n + j]? = (f x)[j]?
  | [], k, j, x, h, _ => by simp at h
  | y :: L, 0, j, x, h, hj => by
    simp only [List.getElem?_cons_zero, Option.some.injEq] at h
    subst h
    rw [List.flatMap_cons, List.getElem?_append_left (by rw [hf]; omega)]
    simp
  | y :: L, k + 1, j, x, h, hj => by
    simp only [List.getElem?_cons_succ] at h
    have e : (k + 1) * n + j = n + (k * n + j) := by rw [Nat.add_mul]; omega
    rw [List.flatMap_cons, List.getElem?_append_right (by rw [hf, e]; omega), hf, e, show n + (k * n + j) - n = k * n + j by omega]
    exact flatN_get hf L k j x h hj
theorem rowN_at {w : World} {base e n : Nat} {v : Value} {α : Type} {f : α → List Value} (hf : ∀ x, (f x).length = n) {L : List α} {k : Nat} {x : α} (h : w.ownsRow base e n v L.length (L.flatMap f)) (hk : L[k]? = some x) :
    ∃ g cap, v = .slice (some ⟨g, 0, none⟩) L.length cap ∧ L.length ≤ cap ∧ base ≤ g ∧ g < w.heap.size ∧ ∀ j u, (f x)[j]? = some u → w.cell? ⟨g, k * n + j, none⟩ = some u := by
  have hlt := (List.getElem?_eq_some_iff.1 hk).1
  rcases h.2 with ⟨-, h0⟩ | ⟨g, cap, cur, rfl, h1, h2, h3, -⟩
  · omega
  · refine ⟨g, cap, rfl, h3, h1, (Array.getElem?_eq_some_iff.1 h2).1, fun j u hu => ?_⟩
    have hj : j < n := by have := (List.getElem?_eq_some_iff.1 hu).1; rw [hf] at this; exact this
    have h0 := h.cells (g := g) rfl (k * n + j) u (by rw [flatN_get hf L k j x hk hj]; exact hu)
    by_cases hk0 : k * n + j = 0
    · rw [hk0] at h0 ⊢
      simpa [Addr.add] using h0
    · rw [Addr.add, if_neg hk0, Nat.zero_add] at h0
      exact h0

/-- how a pair was reached -/
structure Rch where
  p : Int × Int
  at_ : Int
  by_ : Nat
def encR (x : Rch) : List Value := [.int .i64 x.p.1, .int .i64 x.p.2, .int .i64 x.at_, .int .u8 x.by_]
def flatR (L : List Rch) : List Value := L.flatMap encR
theorem inf80 : (Try.prog.info? 80).map (fun i => (i.zero, i.size, i.bytes)) = some (some (.agg #[.int .i64 0, .int .i64 0, .int .i64 0, .int .u8 0]), 4, 32) := by kernel_rfl

/-- the list and the map of the reference's search -/
structure RGen (w wr : World) (mb : Nat) (lv : Value) (R : List Rch) (Lm : List (Int × Int)) : Prop where
  own : wr.ownsRow w.heap.size 80 4 lv R.length (flatR R)
  map : ∃ n, MapK encP wr mb n (fun x => inB Lm x.1)
  apart : lv.ownBlock ≠ some mb
  mb : w.heap.size ≤ mb
  ext : Ext w wr
theorem RGen.next {w wr w' : World} {mb : Nat} {lv : Value} {R : List Rch} {Lm : List (Int × Int)} (h : RGen w wr mb lv R Lm) (hE : Ext wr w') : RGen w w' mb lv R Lm :=
  ⟨ownsRow_ext h.own hE, let ⟨n, h'⟩ := h.map; ⟨n, h'.ext hE⟩, h.apart, h.mb, h.ext.trans hE⟩
theorem RGen.put {w wr : World} {mb : Nat} {lv : Value} {R : List Rch} {Lm : List (Int × Int)} (h : RGen w wr mb lv R Lm) (nk : P64) : ∃ w4, (Instr.mapUpdate 94 (.map (some mb)) (encP nk) (.bool true)).run Try.prog wr = .ok () w4 ∧ RGen w w4 mb lv R (Lm ++ [nk.1]) ∧ ∀ b, b ≠ mb → w4.heap[b]? = wr.heap[b]? := by
  obtain ⟨n, hM⟩ := h.map
  obtain ⟨ob, hup, hF⟩ := hM.update law53 key53 encP_inj Try.underlying94 nk (.bool true)
  exact ⟨_, hup, ⟨ownsRow_same h.own (fun g hg => turned_block (fun e => h.apart (by rw [hg, e]))), ⟨n + 1, hF _ inB_new (fun y hy => inB_other (fun e => hy (Subtype.ext e)))⟩, h.apart, h.mb, h.ext.turned h.mb⟩, fun b hb => turned_block hb⟩
theorem RGen.look {w wr : World} {mb : Nat} {lv : Value} {R : List Rch} {Lm : List (Int × Int)} (h : RGen w wr mb lv R Lm) (nk : P64) : (Instr.lookup 94 (.map (some mb)) (encP nk) false).run Try.prog wr = .ok (.bool (decide (nk.1 ∈ Lm))) wr := by
  obtain ⟨n, hM⟩ := h.map
  have := hM.look law53 key53 Try.underlying94 (zero4 wr) nk false
  simp only [inB_val, Bool.false_eq_true, if_false] at this
  rw [this]
  congr
theorem RGen.grow {w wr w' : World} {mb : Nat} {lv v' : Value} {R : List Rch} {Lm : List (Int × Int)} {x : Rch} (h : RGen w wr mb lv R Lm) (hown : w'.ownsRow w.heap.size 80 4 v' (R.length + 1) (flatR R ++ encR x)) (hg : wr.grownBy w' lv.ownBlock) (hat : v'.ownBlock = lv.ownBlock ∨ v'.ownBlock = some wr.heap.size) :
    RGen w w' mb v' (R ++ [x]) Lm := by
  obtain ⟨n, hM⟩ := h.map
  have hml := hM.lt
  refine ⟨by simpa [flatR] using hown, ⟨n, hM.same (hg.block mb hml (fun e => h.apart e.symm))⟩, ?_, h.mb, h.ext.grown hg (fun k hk => (h.own.lt k hk).1)⟩
  rcases hat with e | e
  · rw [e]; exact h.apart
  · rw [e]; simp; omega
theorem cells_four {w : World} {b : Nat} {x y z u : Value} {T : TypeId} (h : w.heap[b]? = some (.cells #[x, y, z, u] T)) : ∀ j q, [x, y, z, u][j]? = some q → w.cell? ((⟨b, 0, none⟩ : Addr).add j) = some q := by
  intro j q hj
  have hc : w.cell? ⟨b, j, none⟩ = some q := by rw [cellc h]; simpa using hj
  unfold Addr.add
  split
  · rename_i h0; subst h0; exact hc
  · simpa using hc

/-- what the reference's pairs answers -/
def PairsR (w w' : World) (f : Int × Int → Nat → Option (Int × Int)) (v : Value) (er : Int) : Prop :=
  (Over f (0, 0) ∧ v = .slice none 0 0 ∧ er = 3) ∨ ∃ R : List Rch, Full f (0, 0) (R.map (·.p)) ∧ R.length ≤ 20000 ∧ er = 0 ∧ w'.ownsRow w.heap.size 80 4 v R.length (flatR R)

end Go.Proofs.Ythoelnoahfedmaa

namespace Go.Proofs.Ythoelnoahfedmaa
open Go Go.RowKit
open Go.Maps (Keyed)
set_option linter.unusedVariables false
set_option linter.unusedSimpArgs false

set_option maxRecDepth 100000 in
set_option maxHeartbeats 2400000 in
theorem pairs_any {w : World} {B : Nat} {tb toff : Nat} {t : List Fmt} {cap i j : Nat} {fm gm : Fmt} (hT : TabA w B (some ⟨tb, toff, none⟩) t) (hB : B ≤ w.heap.size) (hi : t[i]? = some fm) (hj : t[j]? = some gm) (hVf : VFmt t fm) (hVg : VFmt t gm) :
    Calls Try.prog 38 #[.slice (some ⟨tb, toff, none⟩) t.length cap, .int .i64 i, .int .i64 j] w fun e w' => ∃ v er, e = .returned (.tuple #[v, .int .i64 er]) ∧ Ext w w' ∧ PairsR w w' (stP t fm.fields gm.fields) v er := by
  have hlf : fm.fields.length ≤ 100 := by have := hVf.le; omega
  have hlg : gm.fields.length ≤ 100 := by have := hVg.le; omega
  obtain ⟨f, hf⟩ : ∃ f, f = stP t fm.fields gm.fields := ⟨_, rfl⟩
  rw [← hf]
  have HFF := Lib.hid hf
  have hS1 := fun (w' : World) (hE : Ext w w') (s : Int) (c : Nat) (hs : s ≤ 9223372036854775807) (hc : c ≤ 255) => Step_any (cap := cap) s c hc hs (hT.ext hB hE) (by have := hE.size; omega) hi hVf
  have hS2 := fun (w' : World) (hE : Ext w w') (s : Int) (c : Nat) (hs : s ≤ 9223372036854775807) (hc : c ≤ 255) => Step_any (cap := cap) s c hc hs (hT.ext hB hE) (by have := hE.size; omega) hj hVg
  have HS1 := Lib.hid hS1
  have HS2 := Lib.hid hS2
  clear hf hS1 hS2 hT hi hj
  go_enter Try.func38, Try.ntmps38
  go_upto_region 2 with fail
  obtain ⟨w1, hw1⟩ : ∃ w1, w1 = w.alloc (Obj.cells #[Value.int .i64 0, Value.int .i64 0] 53) := ⟨_, rfl⟩
  have hE1 : Ext w w1 := by rw [hw1]; exact Ext.alloc w _
  have s0 : w1.cell? ⟨w.heap.size, 0, none⟩ = some (.int .i64 0) := by rw [hw1]; exact cs_new rfl
  have s1 : w1.cell? ⟨w.heap.size, 1, none⟩ = some (.int .i64 0) := by rw [hw1]; exact cs_new rfl
  rw [← hw1]
  clear hw1
  have hmk : (Instr.makeMap 94 none).run Try.prog w1 = .ok (.map (some w1.heap.size)) (w1.alloc (.map #[] 0)) := rfl
  obtain ⟨zk, hzk⟩ : ∃ zk : P64, zk.1 = (0, 0) := ⟨⟨(0, 0), by unfold I64; omega, by unfold I64; omega⟩, rfl⟩
  have hzk2 : encP zk = .agg #[.int .i64 0, .int .i64 0] := by simp [encP, hzk]
  obtain ⟨ob, hup, hFm⟩ := (MapK.made (enc := encP) w1).update law53 key53 encP_inj Try.underlying94 zk (.bool true)
  have hF0 := hFm (fun x => inB [(0, 0)] x.1) (by simp [inB, hzk]) (fun y hy => by
    have : y.1 ≠ (0, 0) := fun h => hy (Subtype.ext (h.trans hzk.symm))
    simp [inB, this])
  rw [hzk2] at hup
  have hE2 : Ext w1 (ChangeMaps.setBlock (w1.alloc (.map #[] 0)) w1.heap.size ob) := (Ext.alloc w1 _).turned (Nat.le_refl _)
  have hs2 : w1.heap.size < (ChangeMaps.setBlock (w1.alloc (.map #[] 0)) w1.heap.size ob).heap.size := by rw [turned_size]; simp
  generalize hw2 : ChangeMaps.setBlock (w1.alloc (.map #[] 0)) w1.heap.size ob = w2 at *
  obtain ⟨mb, hmb⟩ : ∃ mb, mb = w1.heap.size := ⟨_, rfl⟩
  have hmb2 : w.heap.size ≤ mb := by rw [hmb]; exact hE1.size
  rw [← hmb] at hmk hup hF0 hs2
  have q0 := cs_ext hE2 s0
  have q1 := cs_ext hE2 s1
  have r0 := cs_al (o := .map #[] 0) s0
  have r1 := cs_al (o := .map #[] 0) s1
  have hR0 : RGen w (w2.alloc (.cells #[.int .i64 0, .int .i64 0, .int .i64 (-1), .int .u8 0] 80)) mb (.slice (some ⟨w2.heap.size, 0, none⟩) 1 1) [⟨(0, 0), -1, 0⟩] [(0, 0)] :=
    ⟨⟨rfl, .inr ⟨w2.heap.size, 1, _, rfl, (hE1.trans hE2).size, hs_new, by simp, by unfold maxLen; omega, rfl, rfl⟩⟩, ⟨_, hF0.al _⟩, by simp [Value.ownBlock]; omega, hmb2, (hE1.trans hE2).then_al _⟩
  have HR0 := Lib.hid hR0
  clear hR0 hFm hF0 hw2 hE2 hzk hzk2 hs2 hmb hE1 hmb2
  go_wp2_with fail
  clear hmk hup q0 q1 s0 s1 r0 r1
  go_loopw [10, 11, 12, 13] (fun lv kv _ _ wr => ∃ (k : Nat) (R : List Rch), kv = .int .i64 k ∧ RGen w wr mb lv R (lev f (0, 0) k) ∧ R.map (·.p) = lev f (0, 0) k ∧ k ≤ (lev f (0, 0) k).length ∧ (lev f (0, 0) k).length ≤ 20000) (fun _ kv _ _ _ => 20001 - (intOf kv).toNat)
  case atStart => exact ⟨0, _, rfl, HR0.out, rfl, by simp, by simp [lev]⟩
  case round =>
    obtain ⟨k, R, rfl, hS, hRL, hk, hL⟩ := hrel
    have hlen : R.length = (lev f (0, 0) k).length := by rw [← hRL]; simp
    by_cases hlt : k < (lev f (0, 0) k).length
    · obtain ⟨x, hx⟩ : ∃ x, (lev f (0, 0) k)[k]? = some x := ⟨_, List.getElem?_eq_getElem hlt⟩
      obtain ⟨hx1, hx2⟩ : x.1 ≤ 9223372036854775807 ∧ x.2 ≤ 9223372036854775807 := by
        have hx' := hx
        rw [HFF.out] at hx'
        have h := levP_small (t := t) hlf hlg x (List.mem_of_getElem? hx')
        omega
      have hOver : ∀ c, c ≤ 256 → 20000 < (rowS f (lev f (0, 0) k) x c).length → Over f (0, 0) := fun c hc h => over_of_row hx hc h
      have hnext : lev f (0, 0) (k + 1) = rowS f (lev f (0, 0) k) x 256 := lev_succ hx
      obtain ⟨gR, capR, rfl, hcR, -⟩ := row2_slice hS.own (by omega)
      have hkR : k < R.length := by omega
      have HOVER := Lib.hid hOver
      have HNEXT := Lib.hid hnext
      have HX := Lib.hid hx
      have HS := Lib.hid hS
      have HRL := Lib.hid hRL
      have HLEN := Lib.hid hlen
      clear hOver hnext hx hS hRL hlen
      generalize hLL : lev f (0, 0) k = L at *
      have HLL := Lib.hid hLL
      clear hLL
      have e1 : decide ((k : Int) < (R.length : Int)) = true := decide_eq_true (by omega)
      go_wp2_with fail
      go_loopw [10, 12, 13] (fun lv2 cv _ wr2 => ∃ (c : Nat) (R2 : List Rch), cv = .int .i64 c ∧ c ≤ 256 ∧ RGen w wr2 mb lv2 R2 (rowS f L x c) ∧ R2.map (·.p) = rowS f L x c ∧ (rowS f L x c).length ≤ 20000 + c) (fun _ cv _ _ => 256 - (intOf cv).toNat)
      case atStart => exact ⟨0, R, rfl, by omega, HS.out, HRL.out, by rw [rowS_zero]; omega⟩
      case round =>
        obtain ⟨c, R2, rfl, hc, hS2, hRL2, hLc⟩ := hrel
        have hlen2 : L.length ≤ (rowS f L x c).length := (rowS_pre (f := f) (L := L) (x := x) (c := c)).length_le
        have hlR2 : R2.length = (rowS f L x c).length := by rw [← hRL2]; simp
        obtain ⟨gR2, capR2, rfl, hcR2, hcm2, -, hgl2⟩ := row2_slice hS2.own (by omega)
        by_cases hc2 : c < 256
        · have e2 : decide ((c : Int) < 256) = true := decide_eq_true (by omega)
          obtain ⟨y, hy⟩ : ∃ y, R2[k]? = some y := ⟨_, List.getElem?_eq_getElem (by omega)⟩
          have hyx : y.p = x := by
            have h1 := pre_get (rowS_pre (f := f) (L := L) (x := x) (c := c)) HX.out
            rw [← hRL2] at h1
            simp [hy] at h1
            exact h1
          have hy0 : wr.cell? ⟨gR2, k * 4, none⟩ = some (.int .i64 x.1) := by
            obtain ⟨g', c', e, -, -, -, hcc⟩ := rowN_at (n := 4) (f := encR) (fun _ => rfl) hS2.own hy
            cases e
            have := hcc 0 _ rfl
            rw [hyx] at this
            exact this
          have hy1 : wr.cell? ⟨gR2, k * 4 + 1, none⟩ = some (.int .i64 x.2) := by
            obtain ⟨g', c', e, -, -, -, hcc⟩ := rowN_at (n := 4) (f := encR) (fun _ => rfl) hS2.own hy
            cases e
            have := hcc 1 _ rfl
            rw [hyx] at this
            exact this
          have hkR2 : k < R2.length := by omega
          obtain ⟨n1, hn1⟩ : ∃ n1, n1 = rStep t fm.fields x.1 c := ⟨_, rfl⟩
          obtain ⟨n2, hn2⟩ : ∃ n2, n2 = rStep t gm.fields x.2 c := ⟨_, rfl⟩
          have hcon1 := fun (w' : World) (hE : Ext w w') => HS1.out w' hE x.1 c hx1 (by omega)
          have hcon2 := fun (w' : World) (hE : Ext w w') => HS2.out w' hE x.2 c hx2 (by omega)
          rw [← hn1] at hcon1
          rw [← hn2] at hcon2
          have HN1 := Lib.hid hn1
          have HN2 := Lib.hid hn2
          have HCON1 := Lib.hid hcon1
          have HCON2 := Lib.hid hcon2
          have HSR := Lib.hid hS2
          have HRL2 := Lib.hid hRL2
          have HLR2 := Lib.hid hlR2
          have hwc : IntKind.u8.wrap (c : Int) = (c : Int) := IntWalk.u8_in _ (by omega)
          clear hn1 hn2 hcon1 hcon2 hS2 hRL2 hlR2 hy hyx
          go_wp2_with fail
          refine wp_region_reg 24 false (by kernel_rfl) (by kernel_rfl) ?_
          refine reg_value (fun _ => rfl) ?_ (fun g w' vs hM hE hP => ?_) ?_
          rotate_left
          · (clear hP hM; have zz0 := cs_ext hE hy0; have zz1 := cs_ext hE hy1; go_simp; first | done | rfl)
          refine reg_value (fun _ => rfl) ?_ (fun g w' vs hM hE hP => ?_) ?_
          rotate_left
          · (clear hP hM; have zz0 := cs_ext hE hy0; have zz1 := cs_ext hE hy1; go_simp; first | done | rfl)
          refine reg_value (fun _ => rfl) ?_ (fun g w' vs hM hE hP => ?_) ?_
          rotate_left
          · (clear hP hM; have zz0 := cs_ext hE hy0; have zz1 := cs_ext hE hy1; go_simp; first | done | rfl)
          refine reg_value (fun _ => rfl) ?_ (fun g w' vs hM hE hP => ?_) ?_
          rotate_left
          · (clear hP hM; have zz0 := cs_ext hE hy0; have zz1 := cs_ext hE hy1; go_simp; first | done | rfl)
          refine reg_value (fun _ => rfl) ?_ (fun g w' vs hM hE hP => ?_) ?_
          rotate_left
          · (clear hP hM; have zz0 := cs_ext hE hy0; have zz1 := cs_ext hE hy1; go_simp; first | done | rfl)
          refine reg_value (fun _ => rfl) ?_ (fun g w' vs hM hE hP => ?_) ?_
          rotate_left
          · (clear hP hM; have zz0 := cs_ext hE hy0; have zz1 := cs_ext hE hy1; go_simp; first | done | rfl)
          refine reg_value (fun _ => rfl) ?_ (fun g w' vs hM hE hP => ?_) ?_
          rotate_left
          · (clear hP hM; have zz0 := cs_ext hE hy0; have zz1 := cs_ext hE hy1; go_simp; first | done | rfl)
          refine reg_value (fun _ => rfl) ?_ (fun g w' vs hM hE hP => ?_) ?_
          rotate_left
          · (clear hP hM; have zz0 := cs_ext hE hy0; have zz1 := cs_ext hE hy1; go_simp; first | done | rfl)
          refine reg_value (fun _ => rfl) ?_ (fun g w' vs hM hE hP => ?_) ?_
          rotate_left
          · (clear hP hM; have zz0 := cs_ext hE hy0; have zz1 := cs_ext hE hy1; go_simp; first | done | rfl)
          refine reg_value (fun _ => rfl) ?_ (fun g w' vs hM hE hP => ?_) ?_
          rotate_left
          · (clear hP hM; have zz0 := cs_ext hE hy0; have zz1 := cs_ext hE hy1; go_simp; first | done | rfl)
          refine reg_const (fun _ => rfl) 35 ?_ (fun g w' vs hM hE hP => ?_) ?_
          rotate_left
          · (clear hP hM; have zz0 := cs_ext hE hy0; have zz1 := cs_ext hE hy1; go_simp; first | done | exact ⟨rfl, rfl⟩ | rfl)
          apply Exists.intro
          refine And.intro (fun g w' vs hM hE hP => ?_) ?_
          · exact HCON1.out _ (HSR.out.ext.trans hE)
          refine reg_value (fun _ => rfl) ?_ (fun g w' vs hM hE hP => ?_) ?_
          rotate_left
          · (clear hP hM; have zz0 := cs_ext hE hy0; have zz1 := cs_ext hE hy1; go_simp; first | done | rfl)
          refine reg_value (fun _ => rfl) ?_ (fun g w' vs hM hE hP => ?_) ?_
          rotate_left
          · (clear hP hM; have zz0 := cs_ext hE hy0; have zz1 := cs_ext hE hy1; go_simp; first | done | rfl)
          refine reg_value (fun _ => rfl) ?_ (fun g w' vs hM hE hP => ?_) ?_
          rotate_left
          · (clear hP hM; have zz0 := cs_ext hE hy0; have zz1 := cs_ext hE hy1; go_simp; first | done | rfl)
          refine reg_value (fun _ => rfl) ?_ (fun g w' vs hM hE hP => ?_) ?_
          rotate_left
          · (clear hP hM; have zz0 := cs_ext hE hy0; have zz1 := cs_ext hE hy1; go_simp; first | done | rfl)
          refine reg_value (fun _ => rfl) ?_ (fun g w' vs hM hE hP => ?_) ?_
          rotate_left
          · (clear hP hM; have zz0 := cs_ext hE hy0; have zz1 := cs_ext hE hy1; go_simp; first | done | rfl)
          refine reg_value (fun _ => rfl) ?_ (fun g w' vs hM hE hP => ?_) ?_
          rotate_left
          · (clear hP hM; have zz0 := cs_ext hE hy0; have zz1 := cs_ext hE hy1; go_simp; first | done | rfl)
          refine reg_value (fun _ => rfl) ?_ (fun g w' vs hM hE hP => ?_) ?_
          rotate_left
          · (clear hP hM; have zz0 := cs_ext hE hy0; have zz1 := cs_ext hE hy1; go_simp; first | done | rfl)
          refine reg_value (fun _ => rfl) ?_ (fun g w' vs hM hE hP => ?_) ?_
          rotate_left
          · (clear hP hM; have zz0 := cs_ext hE hy0; have zz1 := cs_ext hE hy1; go_simp; first | done | rfl)
          refine reg_value (fun _ => rfl) ?_ (fun g w' vs hM hE hP => ?_) ?_
          rotate_left
          · (clear hP hM; have zz0 := cs_ext hE hy0; have zz1 := cs_ext hE hy1; go_simp; first | done | rfl)
          refine reg_value (fun _ => rfl) ?_ (fun g w' vs hM hE hP => ?_) ?_
          rotate_left
          · (clear hP hM; have zz0 := cs_ext hE hy0; have zz1 := cs_ext hE hy1; go_simp; first | done | rfl)
          refine reg_const (fun _ => rfl) 35 ?_ (fun g w' vs hM hE hP => ?_) ?_
          rotate_left
          · (clear hP hM; have zz0 := cs_ext hE hy0; have zz1 := cs_ext hE hy1; go_simp; first | done | exact ⟨rfl, rfl⟩ | rfl)
          apply Exists.intro
          refine And.intro (fun g w' vs hM hE hP => ?_) ?_
          · exact HCON2.out _ (HSR.out.ext.trans hE)
          refine reg_value (fun _ => rfl) ?_ (fun g w' vs hM hE hP => ?_) ?_
          rotate_left
          · (clear hP hM; have zz0 := cs_ext hE hy0; have zz1 := cs_ext hE hy1; go_simp; first | done | rfl)
          refine reg_fresh (fun _ => rfl) (fun n => .pointer (some ⟨n, 0, none⟩)) ?_ (fun g w' vs hM hE hP => ?_) ?_
          rotate_left
          · (clear hP hM; have zz0 := cs_ext hE hy0; have zz1 := cs_ext hE hy1; go_simp; first | done | rfl | exact ⟨rfl, rfl⟩)
          intro g wz hE hF hQ
          simp only [List.drop_succ_cons, List.drop_zero, Act.put, List.setIfInBounds_toArray, List.set_cons_succ, List.set_cons_zero]
          obtain ⟨-, hF, -⟩ := hF
          obtain ⟨hg, hge⟩ := hF _ List.mem_cons_self
          simp at hg hge
          clear hF hQ hy0 hy1
          refine wpList_store_all rfl 53 (.tmp 13) (.tmp 53) rfl (g 23).n _ rfl rfl 53 _ hg (by kernel_rfl) rfl (by simp [Value.oneCell']) ?_
          obtain ⟨nb, hnb⟩ : ∃ nb, nb = (g 23).n := ⟨_, rfl⟩
          obtain ⟨w3, hw3⟩ : ∃ w3, w3 = wz.setRow nb #[.int .i64 n1, .int .i64 n2] := ⟨_, rfl⟩
          rw [← hnb] at hg hge ⊢
          rw [← hw3]
          have hE3 : Ext wr w3 := by rw [hw3]; exact hE.setRow hge _
          have hnbc : w3.heap[nb]? = some (.cells #[.int .i64 n1, .int .i64 n2] 53) := by rw [hw3]; exact setRow_heap _ _ _ _ _ _ hg
          clear hw3 hg hE hnb
          have hS3 := HSR.out.next hE3
          have m0 : w3.cell? ⟨nb, 0, none⟩ = some (.int .i64 n1) := by rw [cellc hnbc]; rfl
          have m1 : w3.cell? ⟨nb, 1, none⟩ = some (.int .i64 n2) := by rw [cellc hnbc]; rfl
          have HNBC := Lib.hid hnbc
          have HSUC : Hid (rowS f L x (c + 1) = tick f x (rowS f L x c) c) := Lib.hid rowS_succ
          have HF1 : Hid (∀ z, f z = stP t fm.fields gm.fields z) := Lib.hid (fun z => by rw [HFF.out])
          have HS3 := Lib.hid hS3
          clear hnbc hE3 hS3
          by_cases h1 : n1 < 0
          · have HR : Hid (rowS f L x (c + 1) = rowS f L x c) := Lib.hid (by
              rw [HSUC.out, tick_none]
              rw [HF1.out, stP, ← HN1.out, ← HN2.out, if_pos (.inl h1)])
            have e3 : decide (0 ≤ n1) = false := decide_eq_false (by omega)
            go_wp2_with fail
            go_roundw
            case rel => exact ⟨c + 1, R2, by go_num, by omega, by rw [HR.out]; exact HS3.out, by rw [HR.out]; exact HRL2.out, by rw [HR.out]; omega⟩
            case measure => simp [intOf]; omega
          have e3 : decide (0 ≤ n1) = true := decide_eq_true (by omega)
          by_cases h2 : n2 < 0
          · have HR : Hid (rowS f L x (c + 1) = rowS f L x c) := Lib.hid (by
              rw [HSUC.out, tick_none]
              rw [HF1.out, stP, ← HN1.out, ← HN2.out, if_pos (.inr h2)])
            have e4 : decide (0 ≤ n2) = false := decide_eq_false (by omega)
            go_wp2_with fail
            go_roundw
            case rel => exact ⟨c + 1, R2, by go_num, by omega, by rw [HR.out]; exact HS3.out, by rw [HR.out]; exact HRL2.out, by rw [HR.out]; omega⟩
            case measure => simp [intOf]; omega
          have e4 : decide (0 ≤ n2) = true := decide_eq_true (by omega)
          have HSTEP : Hid (f x c = some (n1, n2)) := Lib.hid (by rw [HF1.out, stP, ← HN1.out, ← HN2.out, if_neg (by omega)])
          have hn1l : n1 ≤ 40000000 := by rw [HN1.out]; exact rStep_le hlf (by omega)
          have hn2l : n2 ≤ 40000000 := by rw [HN2.out]; exact rStep_le hlg (by omega)
          obtain ⟨nk, hnk⟩ : ∃ nk : P64, nk.1 = (n1, n2) := ⟨⟨(n1, n2), ⟨by omega, by omega⟩, by omega, by omega⟩, rfl⟩
          have hkey : encP nk = .agg #[.int .i64 n1, .int .i64 n2] := by simp [encP, hnk]
          have hlk := HS3.out.look nk
          rw [hkey, hnk] at hlk
          by_cases hmem : (n1, n2) ∈ rowS f L x c
          · have HR : Hid (rowS f L x (c + 1) = rowS f L x c) := Lib.hid (by rw [HSUC.out, tick_old HSTEP.out hmem])
            rw [decide_eq_true hmem] at hlk
            clear hmem hnk hkey
            go_wp2_with fail
            go_roundw
            case rel => exact ⟨c + 1, R2, by go_num, by omega, by rw [HR.out]; exact HS3.out, by rw [HR.out]; exact HRL2.out, by rw [HR.out]; omega⟩
            case measure => simp [intOf]; omega
          · have HR : Hid (rowS f L x (c + 1) = rowS f L x c ++ [(n1, n2)]) := Lib.hid (by rw [HSUC.out, tick_new HSTEP.out hmem])
            rw [decide_eq_false hmem] at hlk
            obtain ⟨w4, hup, hS4, hoth⟩ := HS3.out.put nk
            rw [hkey] at hup
            rw [hnk] at hS4
            have hnm : nb ≠ mb := fun e => by
              obtain ⟨n, es, cl, hm, -⟩ := HS3.out.map
              have h3 := HNBC.out
              rw [e, hm] at h3; cases h3
            have hnb4 : w4.heap[nb]? = some (.cells #[.int .i64 n1, .int .i64 n2] 53) := by rw [hoth nb hnm]; exact HNBC.out
            have p0 : w4.cell? ⟨nb, 0, none⟩ = some (.int .i64 n1) := by rw [cellc hnb4]; rfl
            have p1 : w4.cell? ⟨nb, 1, none⟩ = some (.int .i64 n2) := by rw [cellc hnb4]; rfl
            have hO4 := ownsRow_ext hS4.own (Ext.alloc w4 (.cells #[.int .i64 n1, .int .i64 n2, .int .i64 k, .int .u8 c] 80))
            have hS4' := hS4.next (Ext.alloc w4 (.cells #[.int .i64 n1, .int .i64 n2, .int .i64 k, .int .u8 c] 80))
            have hz4 := hS4.ext.size
            have HS4' := Lib.hid hS4'
            have hRl : R2.length ≤ 30000 := by rw [HLR2.out]; omega
            clear hmem hnk hkey hS4 hS4' hoth hnb4 hnm
            obtain ⟨j0, hj0, hj1, hj2, hj3⟩ := info_parts inf80
            go_wp2_with (first
              | (at_builtin; refine wpList_append_own_at _ rfl _ _ 76 rfl w.heap.size 80 j0 (.agg #[.int .i64 0, .int .i64 0, .int .i64 0, .int .u8 0]) 4 32 Try.underlying76 hj0 hj1 hj2 hj3 rfl (by decide) _ _ _ rfl hO4 ⟨w4.heap.size, 0, none⟩ 1 1 [.int .i64 n1, .int .i64 n2, .int .i64 k, .int .u8 c] rfl rfl (cells_four hs_new) (fun u hu => by simp at hu; rcases hu with rfl | rfl | rfl | rfl <;> rfl) (by unfold maxLen; omega) (by omega) (by simp; omega) ?_; intro v5 w5 hown5 hgrow5 hnil5 hat5
                 have HS5 := Lib.hid (HS4'.out.grow (x := ⟨(n1, n2), k, c⟩) hown5 hgrow5 hat5)
                 clear hown5 hgrow5 hnil5 hat5 hO4))
            go_roundw
            case rel => exact ⟨c + 1, R2 ++ [⟨(n1, n2), k, c⟩], by go_num, by omega, by rw [HR.out]; exact HS5.out, by rw [HR.out, List.map_append, HRL2.out]; rfl, by rw [HR.out]; simp; omega⟩
            case measure => simp [intOf]; omega
        · have hc3 : c = 256 := by omega
          subst hc3
          have HSR := Lib.hid hS2
          have HRL2 := Lib.hid hRL2
          have HLR2 := Lib.hid hlR2
          by_cases hbig : 20000 < (rowS f L x 256).length
          · have hb2 : 20000 < R2.length := by omega
            have e4 : decide ((20000 : Int) < (R2.length : Int)) = true := decide_eq_true (by omega)
            have HO : Hid (Over f (0, 0)) := Lib.hid (HOVER.out 256 (by omega) hbig)
            clear hS2 hRL2 hlR2 hbig
            go_wp2_with fail
            go_ret2
            exact ⟨_, _, rfl, HSR.out.ext, .inl ⟨HO.out, rfl, rfl⟩⟩
          · have hb2 : ¬ 20000 < R2.length := by omega
            have e4 : decide ((20000 : Int) < (R2.length : Int)) = false := decide_eq_false (by omega)
            clear hS2 hRL2 hlR2
            have hbig' : (rowS f L x 256).length ≤ 20000 := by omega
            clear hbig
            go_wp2_with fail
            go_roundw
            case rel => exact ⟨k + 1, R2, by go_num, by rw [HNEXT.out]; exact HSR.out, by rw [HNEXT.out]; exact HRL2.out, by rw [HNEXT.out]; omega, by rw [HNEXT.out]; omega⟩
            case measure => simp [intOf]; omega
    · have HFull : Hid (Full f (0, 0) (lev f (0, 0) k)) := ⟨k, rfl, by omega⟩
      have hkR : R.length ≤ k := by omega
      obtain ⟨gR, capR, rfl, hcR, -⟩ := row2_slice hS.own (by rw [hlen]; exact lev_pos)
      have HS := Lib.hid hS
      have HRL := Lib.hid hRL
      have HRLn : Hid (R.length ≤ 20000) := Lib.hid (by omega)
      have e1 : decide ((k : Int) < (R.length : Int)) = false := decide_eq_false (by omega)
      clear hS hRL hlen
      go_wp2_with fail
      go_ret2
      exact ⟨_, _, rfl, HS.out.ext, .inr ⟨R, by rw [HRL.out]; exact HFull.out, HRLn.out, rfl, HS.out.own⟩⟩

end Go.Proofs.Ythoelnoahfedmaa

namespace Go.Proofs.Ythoelnoahfedmaa
open Go Go.RowKit
set_option linter.unusedVariables false
set_option linter.unusedSimpArgs false

/-- what Exists answers -/
def ExistsR (t : List Fmt) (i j : Int) (b : Bool) (er : Int) : Prop :=
  (errS t [i, j] ≠ 0 ∧ b = false ∧ er = errS t [i, j]) ∨ (errS t [i, j] = 0 ∧ ∃ (i' j' : Nat) (fm gm : Fmt), i = i' ∧ j = j' ∧ t[i']? = some fm ∧ t[j']? = some gm ∧ VFmt t fm ∧ VFmt t gm ∧
    ((Over (stP t fm.fields gm.fields) (0, 0) ∧ b = false ∧ er = 3) ∨ ∃ L, Full (stP t fm.fields gm.fields) (0, 0) L ∧ L.length ≤ 20000 ∧ er = 0 ∧ ((b = true ∧ ∃ p ∈ L, bothS fm.fields gm.fields p = true) ∨ (b = false ∧ ∀ p ∈ L, bothS fm.fields gm.fields p = false))))

theorem ints_two {w : World} {i j : Int} : IntsA (w.alloc (.cells #[.int .i64 i, .int .i64 j] 3)) (some ⟨w.heap.size, 0, none⟩) [i, j] := fun k x hk => by
  match k, hk with
  | 0, hk => cases hk; exact ⟨_, _, rfl, cs_new rfl⟩
  | 1, hk => cases hk; exact ⟨_, _, rfl, cs_new rfl⟩

set_option maxRecDepth 100000 in
set_option maxHeartbeats 1600000 in
theorem Exists_any {w : World} {B : Nat} {a : Option Addr} {t : List Fmt} {cap : Nat} {i j : Int} (hT : TabA w B a t) (hB : B ≤ w.heap.size) (hcap : t.length ≤ cap) (hcap2 : cap ≤ 9223372036854775807) :
    Calls Try.prog 16 #[.slice a t.length cap, .int .i64 i, .int .i64 j] w fun e w' => ∃ b er, e = .returned (.tuple #[.bool b, .int .i64 er]) ∧ Ext w w' ∧ ExistsR t i j b er := by
  obtain ⟨v0, hv0⟩ : ∃ v0, v0 = errS t [i, j] := ⟨_, rfl⟩
  have HV0 := Lib.hid hv0
  have hcon := Error_any (la := some ⟨w.heap.size, 0, none⟩) (lcap := 2) (l := [i, j]) (hT.alloc hB (.cells #[.int .i64 i, .int .i64 j] 3)) (by simp; omega) hcap hcap2 ints_two (by simp)
  rw [← hv0] at hcon
  clear hv0
  go_enter Try.func16, Try.ntmps16
  go_wp2_with fail
  refine hcon.mono ?_
  rintro e w1 ⟨rfl, hb0⟩
  have hb1 : Ext w w1 := hb0.al
  clear hb0
  by_cases hz : v0 = 0
  · subst hz
    obtain ⟨hv, hix⟩ := errS_zero HV0.out.symm
    obtain ⟨h0i, hit⟩ := hix i (by simp)
    obtain ⟨h0j, hjt⟩ := hix j (by simp)
    obtain ⟨i', rfl⟩ : ∃ i' : Nat, i = i' := ⟨i.toNat, by omega⟩
    obtain ⟨j', rfl⟩ : ∃ j' : Nat, j = j' := ⟨j.toNat, by omega⟩
    obtain ⟨fm, hfm⟩ : ∃ fm, t[i']? = some fm := ⟨_, List.getElem?_eq_getElem (by omega)⟩
    obtain ⟨gm, hgm⟩ : ∃ gm, t[j']? = some gm := ⟨_, List.getElem?_eq_getElem (by omega)⟩
    have hVf := valid_VFmt hv hfm
    have hVg := valid_VFmt hv hgm
    obtain ⟨tb, toff, rfl, -⟩ := hT.2 (ne_nil_of_get hfm)
    have hcon2 := pairs_any (w := w1) (cap := cap) (hT.ext hB hb1) (by have := hb1.size; omega) hfm hgm hVf hVg
    have hfin : ∀ b er, ((Over (stP t fm.fields gm.fields) (0, 0) ∧ b = false ∧ er = 3) ∨ ∃ L, Full (stP t fm.fields gm.fields) (0, 0) L ∧ L.length ≤ 20000 ∧ er = 0 ∧ ((b = true ∧ ∃ p ∈ L, bothS fm.fields gm.fields p = true) ∨ (b = false ∧ ∀ p ∈ L, bothS fm.fields gm.fields p = false))) → ExistsR t i' j' b er :=
      fun b er h => .inr ⟨HV0.out.symm, i', j', fm, gm, rfl, rfl, hfm, hgm, hVf, hVg, h⟩
    have hcA := fun (w' : World) (hE : Ext w w') (s : Int) (h1 : s ≤ 9223372036854775807) (h2 : -9223372036854775808 ≤ s) => Accepts_any (cap := cap) s h1 h2 (hT.ext hB hE) (by have := hE.size; omega) hfm hVf.ne (by have := hVf.le; omega)
    have hcB := fun (w' : World) (hE : Ext w w') (s : Int) (h1 : s ≤ 9223372036854775807) (h2 : -9223372036854775808 ≤ s) => Accepts_any (cap := cap) s h1 h2 (hT.ext hB hE) (by have := hE.size; omega) hgm hVg.ne (by have := hVg.le; omega)
    have hsm : ∀ L, Full (stP t fm.fields gm.fields) (0, 0) L → ∀ x ∈ L, 0 ≤ x.1 ∧ x.1 ≤ 40000000 ∧ 0 ≤ x.2 ∧ x.2 ≤ 40000000 := fun L hL x hx => by
      obtain ⟨k, rfl, -⟩ := hL
      exact levP_small (by have := hVf.le; omega) (by have := hVg.le; omega) x hx
    have HFIN := Lib.hid hfin
    have HCA := Lib.hid hcA
    have HCB := Lib.hid hcB
    have HC2 := Lib.hid hcon2
    have HB1 := Lib.hid hb1
    clear hfin hcA hcB hcon2 hb1 hcon hv hix hfm hgm hT hVf hVg
    go_wp2_with fail
    refine HC2.out.mono ?_
    rintro e w2 ⟨v, er, rfl, hE2, hP⟩
    have HB2 := Lib.hid (HB1.out.trans hE2)
    clear hE2
    rcases hP with ⟨hO, rfl, rfl⟩ | ⟨R, hF, hL, rfl, hO⟩
    · have HO := Lib.hid hO
      clear hO hsm
      go_wp2_with fail
      go_ret2
      exact ⟨_, _, rfl, HB2.out, HFIN.out _ _ (.inl ⟨HO.out, rfl, rfl⟩)⟩
    · have hRs := hsm _ hF
      have hpos : 0 < R.length := by have := List.length_pos_of_mem hF.start; simpa using this
      obtain ⟨gR, capR, rfl, hcR, -⟩ := row2_slice hO hpos
      have hcells : ∀ (k : Nat) (x : Rch), R[k]? = some x → w2.cell? ⟨gR, k * 4, none⟩ = some (.int .i64 x.p.1) ∧ w2.cell? ⟨gR, k * 4 + 1, none⟩ = some (.int .i64 x.p.2) := fun k x hk => by
        obtain ⟨g', c', e, -, -, -, hc⟩ := rowN_at (n := 4) (f := encR) (fun _ => rfl) hO hk
        cases e
        exact ⟨hc 0 _ rfl, hc 1 _ rfl⟩
      have HF := Lib.hid hF
      have HC := Lib.hid hcells
      have HRS := Lib.hid hRs
      clear hF hcells hRs hO hsm hpos
      go_wp2_with fail
      go_loopw [11] (fun kv wr => ∃ k : Nat, kv = .int .i64 k ∧ k ≤ R.length ∧ (∀ (k' : Nat) (x : Rch), k' < k → R[k']? = some x → bothS fm.fields gm.fields x.p = false) ∧ Ext w2 wr) (fun kv _ => R.length - (intOf kv).toNat)
      case atStart => exact ⟨0, rfl, by omega, fun k' x h => by omega, Ext.refl _⟩
      case round =>
        obtain ⟨k, rfl, hk, hall, hE⟩ := hrel
        have HALL := Lib.hid hall
        clear hall
        by_cases hlt : k < R.length
        · obtain ⟨x, hx⟩ : ∃ x, R[k]? = some x := ⟨_, List.getElem?_eq_getElem hlt⟩
          obtain ⟨y0, y1⟩ := HC.out k x hx
          have y0 := cs_ext hE y0
          have hxs := HRS.out x.p (List.mem_map.2 ⟨x, List.mem_of_getElem? hx, rfl⟩)
          obtain ⟨b1, hb1⟩ : ∃ b1, b1 = rAcc fm.fields x.p.1 := ⟨_, rfl⟩
          obtain ⟨b2, hb2⟩ : ∃ b2, b2 = rAcc gm.fields x.p.2 := ⟨_, rfl⟩
          have hc1 := HCA.out wr (HB2.out.trans hE) x.p.1 (by omega) (by omega)
          have hc2 := fun (w' : World) (h : Ext w w') => HCB.out w' h x.p.2 (by omega) (by omega)
          rw [← hb1] at hc1
          rw [← hb2] at hc2
          have HBO : Hid (bothS fm.fields gm.fields x.p = (b1 && b2)) := Lib.hid (by rw [bothS, ← hb1, ← hb2])
          have HX := Lib.hid hx
          have HE := Lib.hid hE
          have HC1 := Lib.hid hc1
          have HC2' := Lib.hid hc2
          have Y1 := Lib.hid y1
          clear hx hE hc1 hc2 hb1 hb2 y1
          have NEXT : ∀ wz : World, Ext w2 wz → bothS fm.fields gm.fields x.p = false → ∃ k1 : Nat, Value.int .i64 ((k : Int) + 1) = .int .i64 k1 ∧ k1 ≤ R.length ∧ (∀ (k' : Nat) (x : Rch), k' < k1 → R[k']? = some x → bothS fm.fields gm.fields x.p = false) ∧ Ext w2 wz :=
            fun wz h1 h2 => ⟨k + 1, by go_num, by omega, fun k' y h hy => by
              rcases Nat.lt_or_ge k' k with h' | h'
              · exact HALL.out k' y h' hy
              · have : k' = k := by omega
                subst this
                rw [HX.out] at hy; cases hy; exact h2, h1⟩
          have HNEXT := Lib.hid NEXT
          clear NEXT
          go_wp2_with fail
          refine HC1.out.mono ?_
          rintro e w3 ⟨rfl, hE3⟩
          have HE3 := Lib.hid (HE.out.trans hE3)
          clear y0 hE3
          have y1 := cs_ext HE3.out Y1.out
          cases b1
          · have HR := Lib.hid (HNEXT.out w3 HE3.out (by rw [HBO.out]; rfl))
            clear y1
            go_wp2_with fail
            go_roundw
            case rel => exact HR.out
            case measure => simp [intOf]; omega
          · go_wp2_with fail
            refine (HC2'.out _ (HB2.out.trans HE3.out)).mono ?_
            rintro e w4 ⟨rfl, hE4⟩
            have HE4 := Lib.hid (HE3.out.trans hE4)
            clear y1 hE4
            cases b2
            · have HR := Lib.hid (HNEXT.out w4 HE4.out (by rw [HBO.out]; rfl))
              go_wp2_with fail
              go_roundw
              case rel => exact HR.out
              case measure => simp [intOf]; omega
            · go_wp2_with fail
              go_ret2
              exact ⟨_, _, rfl, HB2.out.trans HE4.out, HFIN.out _ _ (.inr ⟨_, HF.out, by simpa using hL, rfl, .inl ⟨rfl, x.p, List.mem_map.2 ⟨x, List.mem_of_getElem? HX.out, rfl⟩, by rw [HBO.out]; rfl⟩⟩)⟩
        · have HNO : Hid (∀ p ∈ R.map (·.p), bothS fm.fields gm.fields p = false) := Lib.hid (fun p hp => by
            obtain ⟨y, hy, rfl⟩ := List.mem_map.1 hp
            obtain ⟨k', hk'⟩ := List.mem_iff_getElem?.1 hy
            exact HALL.out k' y (by have := (List.getElem?_eq_some_iff.1 hk').1; omega) hk')
          have HE := Lib.hid hE
          clear hE
          go_wp2_with fail
          go_ret2
          exact ⟨_, _, rfl, HB2.out.trans HE.out, HFIN.out _ _ (.inr ⟨_, HF.out, by simpa using hL, rfl, .inr ⟨rfl, HNO.out⟩⟩)⟩
  · have e1 : (v0 == 0) = false := beq_eq_false_iff_ne.2 hz
    have HB1 := Lib.hid hb1
    clear hb1 hcon
    go_wp2_with fail
    go_ret2
    exact ⟨_, _, rfl, HB1.out, .inl ⟨by rw [← HV0.out]; exact hz, rfl, HV0.out⟩⟩

end Go.Proofs.Ythoelnoahfedmaa

namespace Go.Proofs.Ythoelnoahfedmaa
open Go Go.RowKit
set_option linter.unusedVariables false
set_option linter.unusedSimpArgs false

theorem run_pair {t : List Fmt} {F G : List Fld} : ∀ (l : List Nat) (x y : Int × Int), runF (stP t F G) x l = some y → runF (stF t F) x.1 l = some y.1 ∧ runF (stF t G) x.2 l = some y.2
  | [], x, y, h => by simp [runF] at h; subst h; exact ⟨rfl, rfl⟩
  | b :: l, x, y, h => by
    obtain ⟨z, h1, h2⟩ := run_head h
    unfold stP at h1
    split at h1
    · cases h1
    · rename_i hn
      simp only [not_or] at hn
      cases h1
      obtain ⟨h3, h4⟩ := run_pair l _ y h2
      simp only [runF, stF, if_neg hn.1, if_neg hn.2, Option.bind_some]
      exact ⟨h3, h4⟩
theorem bel_path {t : List Fmt} {F G : List Fld} {l : List Nat} {p : Int × Int} (hl : ∀ b ∈ l, b < 256) (h : runF (stP t F G) (0, 0) l = some p) (hp : bothS F G p = true) : belS t F (bytesN l) = true ∧ belS t G (bytesN l) = true := by
  obtain ⟨h1, h2⟩ := run_pair l _ _ h
  unfold bothS at hp
  rw [Bool.and_eq_true] at hp
  unfold belS
  rw [bytesN_L hl, h1, h2]
  exact hp

/-- how the two answers fit -/
inductive ComFit (t : List Fmt) (i j : Int) (s : ByteArray) (er : Int) (b : Bool) (fr : Int) : Prop
  | bad (hf : fr ≠ 0) (he : er = fr) (hs : s = { data := #[] }) (hb : b = false)
  | no (hf : fr = 0) (he : er = 15) (hs : s = { data := #[] }) (hb : b = false)
  | yes (hf : fr = 0) (he : er = 0) (hb : b = true) (i' j' : Nat) (fm gm : Fmt) (hi : i = i') (hj : j = j') (hfm : t[i']? = some fm) (hgm : t[j']? = some gm) (hVf : VFmt t fm) (hVg : VFmt t gm) (hs : s.size ≤ 20000) (h1 : belS t fm.fields s = true) (h2 : belS t gm.fields s = true)

theorem com_fit {t : List Fmt} {i j : Int} {s : ByteArray} {er : Int} {b : Bool} {fr : Int} (h : CommonR t i j s er) (k : ExistsR t i j b fr) : ComFit t i j s er b fr := by
  rcases h with ⟨h1, h2, h3⟩ | ⟨h1, i', j', fm, gm, hi, hj, hfm, hgm, hVf, hVg, h⟩ <;> rcases k with ⟨k1, k2, k3⟩ | ⟨k1, i2, j2, fm2, gm2, hi2, hj2, hfm2, hgm2, -, -, k⟩
  · exact .bad (by rw [k3]; exact k1) (by rw [h3, k3]) (by rw [h2]; rfl) k2
  · exact absurd k1 h1
  · exact absurd h1 k1
  · have e1 : i2 = i' := by omega
    have e2 : j2 = j' := by omega
    subst e1 e2
    rw [hfm] at hfm2
    rw [hgm] at hgm2
    cases hfm2
    cases hgm2
    rcases h with ⟨h2, h3, h4⟩ | ⟨L, Ws, hF, hL, hW, h⟩ <;> rcases k with ⟨k2, k3, k4⟩ | ⟨L', kF, kL, k4, k⟩
    · exact .bad (by rw [k4]; omega) (by rw [h4, k4]) (by rw [h3]; rfl) k3
    · exact absurd h2 (kF.not_over kL)
    · exact absurd k2 (hF.not_over hL)
    · have e := kF.unique hF
      subst e
      rcases h with ⟨kk, p, hk, hp, h5, h6⟩ | ⟨h5, h6, h7⟩ <;> rcases k with ⟨k5, p', hp', hp2⟩ | ⟨k5, k6⟩
      · have h0 : L'[0]? = some (0, 0) := by obtain ⟨k, rfl, -⟩ := hF; exact lev_start
        have hlt := (List.getElem?_eq_some_iff.1 hk).1
        obtain ⟨r1, r2, r3⟩ := hW.path h0 Ws.length kk p (by rw [hW.1]; omega) hk
        obtain ⟨b1, b2⟩ := bel_path (fun b hb => r2 b (by simpa using hb)) r1 hp
        exact .yes k4 h5 k5 i2 j2 fm gm hi hj hfm hgm hVf hVg (by rw [h6, bytesN_size, List.length_reverse]; omega) (by rw [h6]; exact b1) (by rw [h6]; exact b2)
      · exact absurd hp (by rw [k6 p (List.mem_of_getElem? hk)]; simp)
      · exact absurd hp2 (by rw [h5 p' hp']; simp)
      · exact .no k4 h7 (by rw [h6]; rfl) k5

set_option maxRecDepth 100000 in
set_option maxHeartbeats 1600000 in
theorem law_common {w : World} {a : Option Addr} {t : List Fmt} {cap : Nat} {i j : Int} (hT : TabA w w.heap.size a t) (hcap : t.length ≤ cap) (hcap2 : cap ≤ 9223372036854775807) :
    Calls Try.prog 4 #[.slice a t.length cap, .int .i64 i, .int .i64 j] w fun e w' => e = .returned (.bool true) ∧ Ext w w' := by
  have hconF := fun (w' : World) (hE : Ext w w') => Few_any (cap := cap) (hT.ext (Nat.le_refl _) hE) hE.size
  have hconS := fun (w' : World) (hE : Ext w w') => Common_any (i := i) (j := j) (hT.ext (Nat.le_refl _) hE) hE.size hcap hcap2
  have hconR := fun (w' : World) (hE : Ext w w') => Exists_any (i := i) (j := j) (hT.ext (Nat.le_refl _) hE) hE.size hcap hcap2
  have HF := Lib.hid hconF
  have HS := Lib.hid hconS
  have HR := Lib.hid hconR
  have HT := Lib.hid hT
  clear hconF hconS hconR hT
  go_enter Try.func4, Try.ntmps4
  go_wp2_with fail
  refine awake_any.mono ?_
  rintro e w1 ⟨rfl, hE1⟩
  obtain ⟨few, hfew⟩ : ∃ b, b = fewS t := ⟨_, rfl⟩
  have HFW := Lib.hid hfew
  have H1 := Lib.hid hE1
  clear hfew hE1
  go_wp2_with fail
  refine (HF.out _ H1.out).mono ?_
  rintro e w2 ⟨rfl, hE2⟩
  rw [← HFW.out]
  have H2 := Lib.hid (H1.out.trans hE2)
  clear hE2
  cases few
  · go_wp2_with fail
    refine awake_any.mono ?_
    rintro e w3 ⟨rfl, hE3⟩
    have H3 := Lib.hid (H2.out.trans hE3)
    clear hE3
    go_wp2_with fail
    go_ret
    exact ⟨rfl, H3.out⟩
  · go_wp2_with fail
    refine (HS.out _ H2.out).mono ?_
    rintro e w3 ⟨s, er, rfl, hE3, hR3⟩
    have H3 := Lib.hid (H2.out.trans hE3)
    have HR3 := Lib.hid hR3
    clear hE3 hR3
    go_wp2_with fail
    refine (HR.out _ H3.out).mono ?_
    rintro e w4 ⟨b, fr, rfl, hE4, hR4⟩
    have H4 := Lib.hid (H3.out.trans hE4)
    have hfit := com_fit HR3.out hR4
    clear hE4 hR4
    rcases hfit with ⟨hf, rfl, rfl, rfl⟩ | ⟨rfl, rfl, rfl, rfl⟩ | ⟨rfl, rfl, rfl, i', j', fm, gm, rfl, rfl, hfm, hgm, hVf, hVg, hs, b1, b2⟩
    · have e1 : (er == 0) = false := beq_eq_false_iff_ne.2 hf
      have e2 : ¬ er = 0 := hf
      clear hf
      go_wp2_with fail
      go_ret
      exact ⟨rfl, H4.out⟩
    · go_wp2_with fail
      go_ret
      exact ⟨rfl, H4.out⟩
    · have hc1 := Belongs_any (cap := cap) (s := s) (by unfold maxLen; omega) (HT.out.ext (Nat.le_refl _) H4.out) H4.out.size hfm hVf
      have hc2 := fun (w' : World) (hE : Ext w w') => Belongs_any (cap := cap) (s := s) (by unfold maxLen; omega) (HT.out.ext (Nat.le_refl _) hE) hE.size hgm hVg
      rw [b1] at hc1
      rw [b2] at hc2
      have HC1 := Lib.hid hc1
      have HC2 := Lib.hid hc2
      clear hc1 hc2 hfm hgm b1 b2
      go_wp2_with fail
      refine HC1.out.mono ?_
      rintro e w5 ⟨rfl, hE5⟩
      have H5 := Lib.hid (H4.out.trans hE5)
      clear hE5
      go_wp2_with fail
      refine (HC2.out _ H5.out).mono ?_
      rintro e w6 ⟨rfl, hE6⟩
      have H6 := Lib.hid (H5.out.trans hE6)
      clear hE6
      go_wp2_with fail
      go_ret
      exact ⟨rfl, H6.out⟩

end Go.Proofs.Ythoelnoahfedmaa
