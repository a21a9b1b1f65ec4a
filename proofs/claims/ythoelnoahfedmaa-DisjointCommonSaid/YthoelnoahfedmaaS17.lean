/- Belongs; rows of four cells. -/
import Derived.Test.YthoelnoahfedmaaS16
namespace Go.Proofs.Ythoelnoahfedmaa
open Go Go.RowKit
set_option linter.unusedVariables false
set_option linter.unusedSimpArgs false

theorem stepK_ge (x : Fld) {f r b : Nat} : -1 ≤ stepK x f r b := by
  unfold stepK cntS lftS stS
  (repeat' split) <;> omega
theorem rStep_ge {t : List Fmt} {F : List Fld} {s : Int} {b : Nat} : -1 ≤ rStep t F s b := by
  unfold rStep
  split
  · omega
  · split
    · omega
    · rename_i x hx
      split
      · unfold rNest
        split
        · split
          · omega
          · unfold stS; omega
        · split
          · omega
          · split
            · omega
            · rename_i y hy
              have hk := stepK_ge y (f := (s % 256).toNat / 32) (r := (s % 256).toNat % 32) (b := b)
              generalize stepK y ((s % 256).toNat / 32) ((s % 256).toNat % 32) b = v at *
              (repeat' split) <;> (first | omega | (unfold stS at *; omega))
      · split
        · omega
        · exact stepK_ge x

def bytesL (s : ByteArray) : List Nat := s.data.toList.map (·.toNat)
/-- whether a string belongs to a format -/
def belS (t : List Fmt) (F : List Fld) (s : ByteArray) : Bool := match runF (stF t F) 0 (bytesL s) with | some y => rAcc F y | none => false

theorem bytesL_len (s : ByteArray) : (bytesL s).length = s.size := by
  rw [bytesL, List.length_map, Array.length_toList]
  rfl
theorem bytesL_get {s : ByteArray} {k : Nat} (h : k < s.size) : (bytesL s)[k]? = some (s[k].toNat) := by
  have h' : k < s.data.size := h
  rw [bytesL, List.getElem?_map, Array.getElem?_toList, Array.getElem?_eq_getElem h']
  rfl
theorem bytesL_lt (s : ByteArray) : ∀ b ∈ bytesL s, b < 256 := by
  intro b hb
  simp [bytesL] at hb
  obtain ⟨c, -, rfl⟩ := hb
  exact c.toNat_lt
theorem bytesN_L {l : List Nat} (h : ∀ b ∈ l, b < 256) : bytesL (bytesN l) = l := by
  simp only [bytesL, bytesN, List.map_map]
  rw [List.map_congr_left (g := id) (fun b hb => by have := h b hb; simp; omega)]
  simp

set_option maxRecDepth 100000 in
set_option maxHeartbeats 1000000 in
theorem Belongs_any {w : World} {B : Nat} {a : Option Addr} {t : List Fmt} {cap i : Nat} {fm : Fmt} {s : ByteArray} (hs : s.size ≤ maxLen) (hT : TabA w B a t) (hB : B ≤ w.heap.size) (hi : t[i]? = some fm) (hV : VFmt t fm) :
    Calls Try.prog 17 #[.slice a t.length cap, .int .i64 i, .string s] w fun e w' => e = .returned (.bool (belS t fm.fields s)) ∧ Ext w w' := by
  unfold maxLen at hs
  have hle : fm.fields.length ≤ 100 := by have := hV.le; omega
  have hcS := fun (w' : World) (hE : Ext w w') (x : Int) (c : Nat) (hx : x ≤ 9223372036854775807) (hc : c ≤ 255) => Step_any (cap := cap) x c hc hx (hT.ext hB hE) (by have := hE.size; omega) hi hV
  have hcA := fun (w' : World) (hE : Ext w w') (x : Int) (h1 : x ≤ 9223372036854775807) (h2 : -9223372036854775808 ≤ x) => Accepts_any (cap := cap) x h1 h2 (hT.ext hB hE) (by have := hE.size; omega) hi hV.ne hle
  have HCS := Lib.hid hcS
  have HCA := Lib.hid hcA
  obtain ⟨f, hf⟩ : ∃ f, f = stF t fm.fields := ⟨_, rfl⟩
  have HF := Lib.hid hf
  have HBEL : Hid (belS t fm.fields s = match runF f 0 (bytesL s) with | some y => rAcc fm.fields y | none => false) := Lib.hid (by rw [hf]; rfl)
  clear hcS hcA hf hi
  go_enter Try.func17, Try.ntmps17
  go_wp2_with fail
  go_loopw [7, 8] (fun av kv wr => ∃ (k : Nat) (x : Int), av = .int .i64 x ∧ kv = .int .i64 k ∧ k ≤ s.size ∧ -1 ≤ x ∧ x ≤ 40000000 ∧ (0 ≤ x → runF f 0 ((bytesL s).take k) = some x) ∧ (x < 0 → runF f 0 ((bytesL s).take k) = none) ∧ Ext w wr) (fun _ kv _ => s.size - (intOf kv).toNat)
  case atStart => exact ⟨0, 0, rfl, rfl, by omega, by omega, by omega, fun _ => rfl, fun h => by omega, Ext.refl _⟩
  case round =>
    obtain ⟨k, x, rfl, rfl, hk, hx1, hx2, h1, h2, hE⟩ := hrel
    have H1 := Lib.hid h1
    have H2 := Lib.hid h2
    have HE := Lib.hid hE
    clear h1 h2 hE
    by_cases hlt : k < s.size
    · by_cases hneg : x < 0
      · have e1 : decide (0 ≤ x) = false := decide_eq_false (by omega)
        have HR : Hid (belS t fm.fields s = rAcc fm.fields x) := Lib.hid (by
          rw [HBEL.out, ← List.take_append_drop k (bytesL s), runF_append, H2.out hneg]
          simp [rAcc, hneg])
        go_wp2_with fail
        refine (HCA.out _ HE.out x (by omega) (by omega)).mono ?_
        rintro e w2 ⟨rfl, hE2⟩
        have HE2 := Lib.hid (HE.out.trans hE2)
        clear hE2
        go_wp2_with fail
        go_ret
        exact ⟨rb HR.out.symm, HE2.out⟩
      · have e1 : decide (0 ≤ x) = true := decide_eq_true (by omega)
        obtain ⟨nv, hnv⟩ : ∃ nv, nv = rStep t fm.fields x (s[k].toNat) := ⟨_, rfl⟩
        have hb := s[k].toNat_lt
        have hcon := HCS.out wr HE.out x (s[k].toNat) (by omega) (by omega)
        rw [← hnv] at hcon
        have hn1 : -1 ≤ nv := by rw [hnv]; exact rStep_ge
        have hn2 : nv ≤ 40000000 := by rw [hnv]; exact rStep_le hle (by omega)
        have HTK : Hid ((bytesL s).take (k + 1) = (bytesL s).take k ++ [s[k].toNat]) := Lib.hid (by
          rw [List.take_add_one, bytesL_get hlt]; rfl)
        have HRUN : Hid (runF f 0 ((bytesL s).take (k + 1)) = if nv < 0 then none else some nv) := Lib.hid (by
          rw [HTK.out, runF_append, H1.out (by omega)]
          simp only [Option.bind_some, runF, HF.out, stF, ← hnv]
          by_cases h : nv < 0
          · simp [h]
          · simp [h])
        have HCON := Lib.hid hcon
        clear hnv hcon hb
        go_wp2_with fail
        refine HCON.out.mono ?_
        rintro e w2 ⟨rfl, hE2⟩
        have HE2 := Lib.hid (HE.out.trans hE2)
        clear hE2
        go_wp2_with fail
        go_roundw
        case rel => exact ⟨k + 1, nv, rfl, by go_num, by omega, hn1, hn2, fun h => by rw [HRUN.out, if_neg (by omega)], fun h => by rw [HRUN.out, if_pos h], HE2.out⟩
        case measure => simp [intOf]; omega
    · have hk2 : k = s.size := by omega
      have HR : Hid (belS t fm.fields s = rAcc fm.fields x) := Lib.hid (by
        have h3 : (bytesL s).take k = bytesL s := List.take_of_length_le (by rw [bytesL_len]; omega)
        rw [HBEL.out]
        by_cases h : x < 0
        · have := H2.out h
          rw [h3] at this
          rw [this]
          simp [rAcc, h]
        · have := H1.out (by omega)
          rw [h3] at this
          rw [this])
      clear hk2
      go_wp2_with fail
      refine (HCA.out _ HE.out x (by omega) (by omega)).mono ?_
      rintro e w2 ⟨rfl, hE2⟩
      have HE2 := Lib.hid (HE.out.trans hE2)
      clear hE2
      go_wp2_with fail
      go_ret
      exact ⟨rb HR.out.symm, HE2.out⟩

/-- lists of values, n cells each -/
theorem flatN_get {α : Type} {n : Nat} {f : α → List Value} (hf : ∀ x, (f x).length = n) : ∀ (L : List α) (k j : Nat) (x : α), L[k]? = some x → j < n → (L.flatMap f)[k * n + j]? = (f x)[j]?
  | [], k, j, x, h, _ => by simp at h
  | y :: L, 0, j, x, h, hj => by
    simp only [List.getElem?_cons_zero, Option.some.injEq] at h
    subst h
    rw [List.flatMap_cons, List.getElem?_append_left (by rw [hf]; omega)]
    simp
  | y :: L, k + 1, j, x, h, hj => by
    simp only [List.getElem?_cons_succ] at h
    have e : (k + 1) * n + j = n + (k * n + j) := by rw [Nat.add_mul]; omega
    rw [List.flatMap_cons, List.getElem?_append_right (by rw [hf, e]; omega), hf, e, show n + (k * n + j) - n = k * n + j by omega]
    exact flatN_get hf L k j x h hj
theorem rowN_at {w : World} {base e n : Nat} {v : Value} {α : Type} {f : α → List Value} (hf : ∀ x, (f x).length = n) {L : List α} {k : Nat} {x : α} (h : w.ownsRow base e n v L.length (L.flatMap f)) (hk : L[k]? = some x) :
    ∃ g cap, v = .slice (some ⟨g, 0, none⟩) L.length cap ∧ L.length ≤ cap ∧ base ≤ g ∧ g < w.heap.size ∧ ∀ j u, (f x)[j]? = some u → w.cell? ⟨g, k * n + j, none⟩ = some u := by
  have hlt := (List.getElem?_eq_some_iff.1 hk).1
  rcases h.2 with ⟨-, h0⟩ | ⟨g, cap, cur, rfl, h1, h2, h3, -⟩
  · omega
  · refine ⟨g, cap, rfl, h3, h1, (Array.getElem?_eq_some_iff.1 h2).1, fun j u hu => ?_⟩
    have hj : j < n := by have := (List.getElem?_eq_some_iff.1 hu).1; rw [hf] at this; exact this
    have h0 := h.cells (g := g) rfl (k * n + j) u (by rw [flatN_get hf L k j x hk hj]; exact hu)
    by_cases hk0 : k * n + j = 0
    · rw [hk0] at h0 ⊢
      simpa [Addr.add] using h0
    · rw [Addr.add, if_neg hk0, Nat.zero_add] at h0
      exact h0

/-- how a pair was reached -/
structure Rch where
  p : Int × Int
  at_ : Int
  by_ : Nat
def encR (x : Rch) : List Value := [.int .i64 x.p.1, .int .i64 x.p.2, .int .i64 x.at_, .int .u8 x.by_]
def flatR (L : List Rch) : List Value := L.flatMap encR
theorem inf80 : (Try.prog.info? 80).map (fun i => (i.zero, i.size, i.bytes)) = some (some (.agg #[.int .i64 0, .int .i64 0, .int .i64 0, .int .u8 0]), 4, 32) := by kernel_rfl

/-- the list and the map of the reference's search -/
structure RGen (w wr : World) (mb : Nat) (lv : Value) (R : List Rch) (Lm : List (Int × Int)) : Prop where
  own : wr.ownsRow w.heap.size 80 4 lv R.length (flatR R)
  map : ∃ n, MapK encP wr mb n (fun x => inB Lm x.1)
  apart : lv.ownBlock ≠ some mb
  mb : w.heap.size ≤ mb
  ext : Ext w wr
theorem RGen.next {w wr w' : World} {mb : Nat} {lv : Value} {R : List Rch} {Lm : List (Int × Int)} (h : RGen w wr mb lv R Lm) (hE : Ext wr w') : RGen w w' mb lv R Lm :=
  ⟨ownsRow_ext h.own hE, let ⟨n, h'⟩ := h.map; ⟨n, h'.ext hE⟩, h.apart, h.mb, h.ext.trans hE⟩
theorem RGen.put {w wr : World} {mb : Nat} {lv : Value} {R : List Rch} {Lm : List (Int × Int)} (h : RGen w wr mb lv R Lm) (nk : P64) : ∃ w4, (Instr.mapUpdate 94 (.map (some mb)) (encP nk) (.bool true)).run Try.prog wr = .ok () w4 ∧ RGen w w4 mb lv R (Lm ++ [nk.1]) ∧ ∀ b, b ≠ mb → w4.heap[b]? = wr.heap[b]? := by
  obtain ⟨n, hM⟩ := h.map
  obtain ⟨ob, hup, hF⟩ := hM.update law53 key53 encP_inj Try.underlying94 nk (.bool true)
  exact ⟨_, hup, ⟨ownsRow_same h.own (fun g hg => turned_block (fun e => h.apart (by rw [hg, e]))), ⟨n + 1, hF _ inB_new (fun y hy => inB_other (fun e => hy (Subtype.ext e)))⟩, h.apart, h.mb, h.ext.turned h.mb⟩, fun b hb => turned_block hb⟩
theorem RGen.look {w wr : World} {mb : Nat} {lv : Value} {R : List Rch} {Lm : List (Int × Int)} (h : RGen w wr mb lv R Lm) (nk : P64) : (Instr.lookup 94 (.map (some mb)) (encP nk) false).run Try.prog wr = .ok (.bool (decide (nk.1 ∈ Lm))) wr := by
  obtain ⟨n, hM⟩ := h.map
  have := hM.look law53 key53 Try.underlying94 (zero4 wr) nk false
  simp only [inB_val, Bool.false_eq_true, if_false] at this
  rw [this]
  congr
theorem RGen.grow {w wr w' : World} {mb : Nat} {lv v' : Value} {R : List Rch} {Lm : List (Int × Int)} {x : Rch} (h : RGen w wr mb lv R Lm) (hown : w'.ownsRow w.heap.size 80 4 v' (R.length + 1) (flatR R ++ encR x)) (hg : wr.grownBy w' lv.ownBlock) (hat : v'.ownBlock = lv.ownBlock ∨ v'.ownBlock = some wr.heap.size) :
    RGen w w' mb v' (R ++ [x]) Lm := by
  obtain ⟨n, hM⟩ := h.map
  have hml := hM.lt
  refine ⟨by simpa [flatR] using hown, ⟨n, hM.same (hg.block mb hml (fun e => h.apart e.symm))⟩, ?_, h.mb, h.ext.grown hg (fun k hk => (h.own.lt k hk).1)⟩
  rcases hat with e | e
  · rw [e]; exact h.apart
  · rw [e]; simp; omega
theorem cells_four {w : World} {b : Nat} {x y z u : Value} {T : TypeId} (h : w.heap[b]? = some (.cells #[x, y, z, u] T)) : ∀ j q, [x, y, z, u][j]? = some q → w.cell? ((⟨b, 0, none⟩ : Addr).add j) = some q := by
  intro j q hj
  have hc : w.cell? ⟨b, j, none⟩ = some q := by rw [cellc h]; simpa using hj
  unfold Addr.add
  split
  · rename_i h0; subst h0; exact hc
  · simpa using hc

/-- what the reference's pairs answers -/
def PairsR (w w' : World) (f : Int × Int → Nat → Option (Int × Int)) (v : Value) (er : Int) : Prop :=
  (Over f (0, 0) ∧ v = .slice none 0 0 ∧ er = 3) ∨ ∃ R : List Rch, Full f (0, 0) (R.map (·.p)) ∧ R.length ≤ 20000 ∧ er = 0 ∧ w'.ownsRow w.heap.size 80 4 v R.length (flatR R)

end Go.Proofs.Ythoelnoahfedmaa
