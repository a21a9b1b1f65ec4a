/- Tables of formats in memory. Contracts: names of formats. Contracts of fields; plain law of tables. The contract of the program's one. The contract of the program's Valid. Plain law of tables: valid fields, bounds, numbers of strings. -/
import Derived.Test.YtfaienbdebjfcaaGreatG2
import Derived.Test.YtfaienbdebjfcaaGreatG1
import Derived.Deep.QuietTactic
import Derived.BigQuiet
namespace Go.Proofs.YtfaienbdebjfcaaGreat
open Go Go.RowKit
set_option linter.unusedVariables false
set_option linter.unusedSimpArgs false
structure Fld where
 kind : Int
 bytes : ByteArray
 n : Int
 low : Int
 high : Int
 deriving Inhabited

structure Fmt where
 name : ByteArray
 fields : List Fld
 deriving Inhabited

structure Fld.Wf (f : Fld) : Prop where
 kind : I64 f.kind
 n : I64 f.n
 low : I64 f.low
 high : I64 f.high
 bytes : f.bytes.size ≤ maxLen

structure FldAt (w : World) (b off : Nat) (f : Fld) : Prop where
 kind : w.cell? ⟨b, off, none⟩ = some (.int .i64 f.kind)
 bytes : w.cell? ⟨b, off + 1, none⟩ = some (.string f.bytes)
 n : w.cell? ⟨b, off + 2, none⟩ = some (.int .i64 f.n)
 low : w.cell? ⟨b, off + 3, none⟩ = some (.int .i64 f.low)
 high : w.cell? ⟨b, off + 4, none⟩ = some (.int .i64 f.high)
 wf : f.Wf

theorem FldAt.same {w w' : World} {b off : Nat} {f : Fld} (h : FldAt w b off f) (hb : w'.heap[b]? = w.heap[b]?) : FldAt w' b off f := by
 have e : ∀ o, w'.cell? ⟨b, o, none⟩ = w.cell? ⟨b, o, none⟩ := fun o => World.cell?_of_block (a := ⟨b, o, none⟩) hb
 exact ⟨by rw [e]; exact h.kind, by rw [e]; exact h.bytes, by rw [e]; exact h.n, by rw [e]; exact h.low, by rw [e]; exact h.high, h.wf⟩

/-- the fields l lie at address a, in a block below B -/
def FldsA (w : World) (B : Nat) (a : Option Addr) (l : List Fld) : Prop :=
 l.length ≤ maxLen ∧ (l ≠ [] → ∃ b off, a = some ⟨b, off, none⟩ ∧ b < B ∧ ∀ i f, l[i]? = some f → FldAt w b (off + i * 5) f)

theorem FldsA.below {w w' : World} {B B' : Nat} {a : Option Addr} {l : List Fld} (h : FldsA w B a l) (hb : Below B' w w') (hB : B ≤ B') : FldsA w' B a l :=
 ⟨h.1, fun hne => let ⟨b, off, ha, hlt, hf⟩ := h.2 hne; ⟨b, off, ha, hlt, fun i f hi => (hf i f hi).same (hb.block b (Nat.lt_of_lt_of_le hlt hB))⟩⟩

structure FmtAt (w : World) (B : Nat) (b off : Nat) (f : Fmt) : Prop where
 name : w.cell? ⟨b, off, none⟩ = some (.string f.name)
 fields : ∃ a cap, w.cell? ⟨b, off + 1, none⟩ = some (.slice a f.fields.length cap) ∧ FldsA w B a f.fields
 wf : f.name.size ≤ maxLen

/-- the table t lies at address a, all of it in blocks below B -/
def TabA (w : World) (B : Nat) (a : Option Addr) (t : List Fmt) : Prop :=
 t.length ≤ maxLen ∧ (t ≠ [] → ∃ b off, a = some ⟨b, off, none⟩ ∧ b < B ∧ ∀ i f, t[i]? = some f → FmtAt w B b (off + i * 2) f)

theorem TabA.below {w w' : World} {B B' : Nat} {a : Option Addr} {t : List Fmt} (h : TabA w B a t) (hb : Below B' w w') (hB : B ≤ B') : TabA w' B a t :=
 ⟨h.1, fun hne => let ⟨b, off, ha, hlt, hf⟩ := h.2 hne; ⟨b, off, ha, hlt, fun i f hi => by
  have hblk := hb.block b (Nat.lt_of_lt_of_le hlt hB)
  obtain ⟨h1, ⟨a', cap, h2, h3⟩, h4⟩ := hf i f hi
  have e : ∀ o, w'.cell? ⟨b, o, none⟩ = w.cell? ⟨b, o, none⟩ := fun o => World.cell?_of_block (a := ⟨b, o, none⟩) hblk
  exact ⟨by rw [e]; exact h1, ⟨a', cap, by rw [e]; exact h2, h3.below hb hB⟩, h4⟩⟩⟩

theorem TabA.alloc {w : World} {B : Nat} {a : Option Addr} {t : List Fmt} (h : TabA w B a t) (hB : B ≤ w.heap.size) (o : Obj) : TabA (w.alloc o) B a t :=
 h.below ((Below.refl B w).alloc hB o) (Nat.le_refl _)

theorem FldsA.alloc {w : World} {B : Nat} {a : Option Addr} {l : List Fld} (h : FldsA w B a l) (hB : B ≤ w.heap.size) (o : Obj) : FldsA (w.alloc o) B a l :=
 h.below ((Below.refl B w).alloc hB o) (Nat.le_refl _)

theorem TabA.ext {w w' : World} {B : Nat} {a : Option Addr} {t : List Fmt} (h : TabA w B a t) (hB : B ≤ w.heap.size) (hb : Ext w w') : TabA w' B a t :=
 h.below hb hB
theorem FldsA.ext {w w' : World} {B : Nat} {a : Option Addr} {t : List Fld} (h : FldsA w B a t) (hB : B ≤ w.heap.size) (hb : Ext w w') : FldsA w' B a t :=
 h.below hb hB

def fokB (i : Nat) (c : UInt8) : Bool := letterB c || (i != 0 && (c.toNat == 95 || digitB c))
def fnameOk (s : ByteArray) : Bool := decide (0 < s.size ∧ s.size ≤ 24 ∧ ∀ i (h : i < s.size), fokB i s[i] = true)

theorem fnameOk_false {s : ByteArray} {k : Nat} (h : k < s.size) (hf : fokB k s[k] = false) : false = fnameOk s := by
 symm
 simp only [fnameOk, decide_eq_false_iff_not]
 rintro ⟨-, -, hall⟩
 rw [hall k h] at hf
 cases hf
theorem fnameOk_all {s : ByteArray} (hall : ∀ i (h : i < s.size), i < s.size → fokB i s[i] = true) : fnameOk s = decide (0 < s.size ∧ s.size ≤ 24) := by
 rw [fnameOk, Bool.eq_iff_iff, decide_eq_true_iff, decide_eq_true_iff]
 exact ⟨fun h => ⟨h.1, h.2.1⟩, fun h => ⟨h.1, h.2, fun i hi => hall i hi hi⟩⟩

set_option maxHeartbeats 1000000 in
theorem fisName_any (s : ByteArray) (w : World) (hs : s.size ≤ maxLen) :
 Calls Tryz.prog 61 #[.string s] w fun e w' => e = .returned (.bool (fnameOk s)) ∧ w = w' := by
 unfold maxLen at hs
 go_enter Tryz.func61, Tryz.ntmps61
 go_wp2
 go_loop [3, 4, 5, 8] (fun _ _ _ i => ∃ k : Nat, k ≤ s.size ∧ i = .int .i64 k ∧ ∀ j (h : j < s.size), j < k → fokB j s[j] = true) (fun _ _ _ i => s.size - (intOf i).toNat)
 case atStart => exact ⟨0, Nat.zero_le _, rfl, fun j h hj => by omega⟩
 case round =>
  obtain ⟨k, hk, rfl, hall⟩ := hrel
  have HALL := Lib.hid hall; clear hall
  by_cases hlt : k < s.size
  · have hb := s[k].toNat_lt
    by_cases hl : 97 ≤ s[k].toNat ∧ s[k].toNat ≤ 122 ∨ 65 ≤ s[k].toNat ∧ s[k].toNat ≤ 90
    · have HOK : Hid (fokB k s[k] = true) := by
       show _ = _
       simp [fokB, letterB]; omega
      rcases hl with ⟨l1, l2⟩ | ⟨l1, l2⟩
      · go_wp2
        all_goals
         go_round
         case rel => exact ⟨k + 1, by omega, by go_num, fun j h hj => by
           rcases Nat.lt_or_ge j k with h' | h'
           · exact HALL.out j h h'
           · have : j = k := by omega
             subst this
             exact HOK.out⟩
         case measure => simp [intOf]; omega
      · go_wp2
        all_goals
         go_round
         case rel => exact ⟨k + 1, by omega, by go_num, fun j h hj => by
           rcases Nat.lt_or_ge j k with h' | h'
           · exact HALL.out j h h'
           · have : j = k := by omega
             subst this
             exact HOK.out⟩
         case measure => simp [intOf]; omega
    · by_cases hk0 : k = 0
      · subst hk0
        have HOK : Hid (fokB 0 s[0] = false) := by
         show _ = _
         simp [fokB, letterB]; omega
        rcases (by omega : s[0].toNat < 65 ∨ 90 < s[0].toNat ∧ s[0].toNat < 97 ∨ 122 < s[0].toNat) with hc | ⟨hc, hc'⟩ | hc
        · have f0 : decide ((97 : Int) ≤ ((s[0].toNat : Nat) : Int)) = false := decide_eq_false (by omega)
          have f1 : decide (((s[0].toNat : Nat) : Int) ≤ 122) = true := decide_eq_true (by omega)
          have f2 : decide ((65 : Int) ≤ ((s[0].toNat : Nat) : Int)) = false := decide_eq_false (by omega)
          have f3 : decide (((s[0].toNat : Nat) : Int) ≤ 90) = true := decide_eq_true (by omega)
          go_wp2
          all_goals go_ret
          all_goals exact ⟨rb (fnameOk_false hlt HOK.out), rfl⟩
        · have f0 : decide ((97 : Int) ≤ ((s[0].toNat : Nat) : Int)) = false := decide_eq_false (by omega)
          have f1 : decide (((s[0].toNat : Nat) : Int) ≤ 122) = true := decide_eq_true (by omega)
          have f2 : decide ((65 : Int) ≤ ((s[0].toNat : Nat) : Int)) = true := decide_eq_true (by omega)
          have f3 : decide (((s[0].toNat : Nat) : Int) ≤ 90) = false := decide_eq_false (by omega)
          go_wp2
          all_goals go_ret
          all_goals exact ⟨rb (fnameOk_false hlt HOK.out), rfl⟩
        · have f0 : decide ((97 : Int) ≤ ((s[0].toNat : Nat) : Int)) = true := decide_eq_true (by omega)
          have f1 : decide (((s[0].toNat : Nat) : Int) ≤ 122) = false := decide_eq_false (by omega)
          have f2 : decide ((65 : Int) ≤ ((s[0].toNat : Nat) : Int)) = true := decide_eq_true (by omega)
          have f3 : decide (((s[0].toNat : Nat) : Int) ≤ 90) = false := decide_eq_false (by omega)
          go_wp2
          all_goals go_ret
          all_goals exact ⟨rb (fnameOk_false hlt HOK.out), rfl⟩
      · have e1 : ((k : Int) == 0) = false := beq_eq_false_iff_ne.2 (by omega)
        by_cases h95 : s[k].toNat = 95
        · have e2 : (((s[k].toNat : Nat) : Int) != 95) = false := by simp; omega
          have HOK : Hid (fokB k s[k] = true) := by
           show _ = _
           simp [fokB, hk0, h95]
          have hn : ¬ (97 ≤ s[k].toNat) := by omega
          have hn2 : ¬ (s[k].toNat ≤ 90) := by omega
          have H95 := Lib.hid h95; clear h95
          go_wp2
          all_goals
           go_round
           case rel => exact ⟨k + 1, by omega, by go_num, fun j h hj => by
             rcases Nat.lt_or_ge j k with h' | h'
             · exact HALL.out j h h'
             · have : j = k := by omega
               subst this
               exact HOK.out⟩
           case measure => simp [intOf]; omega
        · have e2 : (((s[k].toNat : Nat) : Int) != 95) = true := bne_iff_ne.2 (by omega)
          by_cases hd : 48 ≤ s[k].toNat ∧ s[k].toNat ≤ 57
          · have HOK : Hid (fokB k s[k] = true) := by
             show _ = _
             simp [fokB, digitB, hk0, hd]
            obtain ⟨d1, d2⟩ := hd
            go_wp2
            all_goals
             go_round
             case rel => exact ⟨k + 1, by omega, by go_num, fun j h hj => by
               rcases Nat.lt_or_ge j k with h' | h'
               · exact HALL.out j h h'
               · have : j = k := by omega
                 subst this
                 exact HOK.out⟩
             case measure => simp [intOf]; omega
          · have HOK : Hid (fokB k s[k] = false) := by
             show _ = _
             simp [fokB, digitB, letterB, h95]; omega
            rcases (by omega : s[k].toNat < 65 ∨ 90 < s[k].toNat ∧ s[k].toNat < 97 ∨ 122 < s[k].toNat) with hc | ⟨hc, hc'⟩ | hc
            · have f0 : decide ((97 : Int) ≤ ((s[k].toNat : Nat) : Int)) = false := decide_eq_false (by omega)
              have f1 : decide (((s[k].toNat : Nat) : Int) ≤ 122) = true := decide_eq_true (by omega)
              have f2 : decide ((65 : Int) ≤ ((s[k].toNat : Nat) : Int)) = false := decide_eq_false (by omega)
              have f3 : decide (((s[k].toNat : Nat) : Int) ≤ 90) = true := decide_eq_true (by omega)
              go_wp2
              all_goals go_ret
              all_goals exact ⟨rb (fnameOk_false hlt HOK.out), rfl⟩
            · have f0 : decide ((97 : Int) ≤ ((s[k].toNat : Nat) : Int)) = false := decide_eq_false (by omega)
              have f1 : decide (((s[k].toNat : Nat) : Int) ≤ 122) = true := decide_eq_true (by omega)
              have f2 : decide ((65 : Int) ≤ ((s[k].toNat : Nat) : Int)) = true := decide_eq_true (by omega)
              have f3 : decide (((s[k].toNat : Nat) : Int) ≤ 90) = false := decide_eq_false (by omega)
              go_wp2
              all_goals go_ret
              all_goals exact ⟨rb (fnameOk_false hlt HOK.out), rfl⟩
            · have f0 : decide ((97 : Int) ≤ ((s[k].toNat : Nat) : Int)) = true := decide_eq_true (by omega)
              have f1 : decide (((s[k].toNat : Nat) : Int) ≤ 122) = false := decide_eq_false (by omega)
              have f2 : decide ((65 : Int) ≤ ((s[k].toNat : Nat) : Int)) = true := decide_eq_true (by omega)
              have f3 : decide (((s[k].toNat : Nat) : Int) ≤ 90) = false := decide_eq_false (by omega)
              go_wp2
              all_goals go_ret
              all_goals exact ⟨rb (fnameOk_false hlt HOK.out), rfl⟩
  · have hks : k = s.size := by omega
    subst hks
    go_wp2
    all_goals go_ret
    all_goals exact ⟨rb (by rw [fnameOk_all HALL.out, Bool.eq_iff_iff]; simp; try omega), rfl⟩

theorem ba_eq {a b : ByteArray} (h : a = b) : (a == b) = true := (MapKept.bytes_beq a b).2 h
theorem ba_ne {a b : ByteArray} (h : a ≠ b) : (a == b) = false := by
 cases e : a == b
 · rfl
 · exact absurd ((MapKept.bytes_beq a b).1 e) h

theorem FldsA.get' {w : World} {B : Nat} {fa : Option Addr} {F : List Fld} (hF : FldsA w B fa F) {k : Nat} {x : Fld} (hx : F[k]? = some x) : ∃ fb foff, fa = some ⟨fb, foff, none⟩ ∧ fb < B ∧ FldAt w fb (foff + k * 5) x := by
 obtain ⟨fb, foff, h1, h2, h3⟩ := hF.2 (ne_nil_of_get hx)
 exact ⟨fb, foff, h1, h2, h3 k x hx⟩
theorem TabA.at' {w : World} {B : Nat} {a : Option Addr} {t : List Fmt} {i : Nat} {fm : Fmt} (hT : TabA w B a t) (hi : t[i]? = some fm) :
 ∃ tb toff fa fcap, a = some ⟨tb, toff, none⟩ ∧ tb < B ∧ w.cell? ⟨tb, toff + i * 2, none⟩ = some (.string fm.name) ∧ w.cell? ⟨tb, toff + i * 2 + 1, none⟩ = some (.slice fa fm.fields.length fcap) ∧ FldsA w B fa fm.fields ∧ fm.name.size ≤ maxLen := by
 obtain ⟨-, hT⟩ := hT
 obtain ⟨b, off, rfl, hb, hT⟩ := hT (ne_nil_of_get hi)
 obtain ⟨hn, ⟨fa, fcap, hc, hF⟩, hw⟩ := hT i fm hi
 exact ⟨b, off, fa, fcap, rfl, hb, hn, hc, hF, hw⟩

theorem TabA.take {w : World} {B : Nat} {a : Option Addr} {t : List Fmt} (hT : TabA w B a t) (i : Nat) : TabA w B a (t.take i) := by
 refine ⟨Nat.le_trans (List.length_take_le' i t) hT.1, fun hne => ?_⟩
 obtain ⟨b, off, h1, h2, h3⟩ := hT.2 (by intro e; subst e; simp at hne)
 refine ⟨b, off, h1, h2, fun k f hk => h3 k f ?_⟩
 rw [List.getElem?_take] at hk
 split at hk
 · exact hk
 · cases hk

/-- the index of the format with a name, or -1 -/
def findS (t : List Fmt) (nm : ByteArray) : Int := match t.findIdx? (fun f => f.name == nm) with | some i => i | none => -1

theorem findS_at {t : List Fmt} {nm : ByteArray} {k : Nat} {f : Fmt} (hk : t[k]? = some f) (he : f.name = nm) (hall : ∀ (j : Nat) (f : Fmt), j < k → t[j]? = some f → f.name ≠ nm) : findS t nm = k := by
 have : t.findIdx? (fun f => f.name == nm) = some k := by
  rw [List.findIdx?_eq_some_iff_getElem]
  have hlt := lt_of_get hk
  refine ⟨hlt, ?_, fun j hj => ?_⟩
  · rw [List.getElem?_eq_getElem hlt] at hk
    cases hk
    exact ba_eq he
  · have := hall j t[j] hj (List.getElem?_eq_getElem (by omega))
    simp [ba_ne this]
 simp [findS, this]
theorem findS_none {t : List Fmt} {nm : ByteArray} (hall : ∀ (j : Nat) (f : Fmt), t[j]? = some f → f.name ≠ nm) : findS t nm = -1 := by
 have : t.findIdx? (fun f => f.name == nm) = none := by
  rw [List.findIdx?_eq_none_iff]
  intro x hx
  obtain ⟨j, hj⟩ := List.mem_iff_getElem?.1 hx
  simp [ba_ne (hall j x hj)]
 simp [findS, this]

set_option maxHeartbeats 1000000 in
theorem findex_any {w : World} {B : Nat} {a : Option Addr} {t : List Fmt} {cap : Nat} (nm : ByteArray) (hT : TabA w B a t) (hB : B ≤ w.heap.size) :
 Calls Tryz.prog 62 #[.slice a t.length cap, .string nm] w fun e w' => e = .returned (.int .i64 (findS t nm)) ∧ Ext w w' := by
 have hn63 := hT.1
 unfold maxLen at hn63
 go_enter Tryz.func62, Tryz.ntmps62
 go_wp2_with fail
 go_loopw [5, 6, 9] (fun _ _ i wr => ∃ k : Nat, k ≤ t.length ∧ i = .int .i64 k ∧ Ext w wr ∧ ∀ j f, j < k → t[j]? = some f → f.name ≠ nm) (fun _ _ i _ => t.length - (intOf i).toNat)
 case atStart => exact ⟨0, Nat.zero_le _, rfl, Ext.refl _, fun j f h hj => by omega⟩
 case round =>
  obtain ⟨k, hk, rfl, hE, hall⟩ := hrel
  have HALL := Lib.hid hall; clear hall
  by_cases hlt : k < t.length
  · obtain ⟨f, hf⟩ : ∃ f, t[k]? = some f := ⟨_, List.getElem?_eq_getElem hlt⟩
    obtain ⟨tb, toff, fa, fcap, rfl, htb, htn, htc, -, -⟩ := (hT.ext hB hE).at' hf
    have HF := Lib.hid hf; clear hf
    have htb' : tb < wr.heap.size := by have := hE.size; omega
    by_cases he : f.name = nm
    · have e1 : (f.name == nm) = true := ba_eq he
      have e1' : (f.name.toList == nm.toList) = true := by rw [← beq_toListBytes]; exact e1
      have HE := Lib.hid he; clear he
      go_wp2_with fail
      go_ret
      exact ⟨ri (findS_at HF.out HE.out HALL.out).symm, hE.then_al _⟩
    · have e1 : (f.name == nm) = false := ba_ne he
      have e1' : (f.name.toList == nm.toList) = false := by rw [← beq_toListBytes]; exact e1
      have HE := Lib.hid he; clear he
      go_wp2_with fail
      go_roundw
      case rel => exact ⟨k + 1, by omega, by go_num, hE.then_al _, fun j f' hj hf' => by
        rcases Nat.lt_or_ge j k with h' | h'
        · exact HALL.out j f' h' hf'
        · have : j = k := by omega
          subst this
          have := HF.out
          rw [this] at hf'
          cases hf'
          exact HE.out⟩
      case measure => simp [intOf]; omega
  · go_wp2_with fail
    go_ret
    exact ⟨ri (findS_none (fun j f hf => HALL.out j f (by have := lt_of_get hf; omega) hf)).symm, hE⟩

theorem Ext.then_drN2 {w w' : World} {n : Nat} (h : Ext w w') : Ext w (w'.drewN n) := h.trans ⟨rfl, rfl, rfl, Nat.le_refl _, fun _ _ => rfl⟩

theorem kind7 (k : Int) : k = 1 ∨ k = 2 ∨ k = 3 ∨ k = 4 ∨ k = 5 ∨ k = 6 ∨ (((k == 1) = false ∧ (k == 2) = false ∧ (k == 3) = false ∧ (k == 4) = false ∧ (k == 5) = false ∧ (k == 6) = false) ∧ k ≠ 1 ∧ k ≠ 2 ∧ k ≠ 3 ∧ k ≠ 4 ∧ k ≠ 5 ∧ k ≠ 6) := by
 by_cases h1 : k = 1
 · exact .inl h1
 by_cases h2 : k = 2
 · exact .inr (.inl h2)
 by_cases h3 : k = 3
 · exact .inr (.inr (.inl h3))
 by_cases h4 : k = 4
 · exact .inr (.inr (.inr (.inl h4)))
 by_cases h5 : k = 5
 · exact .inr (.inr (.inr (.inr (.inl h5))))
 by_cases h6 : k = 6
 · exact .inr (.inr (.inr (.inr (.inr (.inl h6)))))
 · exact .inr (.inr (.inr (.inr (.inr (.inr ⟨⟨by simp [h1], by simp [h2], by simp [h3], by simp [h4], by simp [h5], by simp [h6]⟩, h1, h2, h3, h4, h5, h6⟩)))))

def shapeS (f : Fld) : Bool :=
 if f.kind = 1 then decide (f.n = 0 ∧ f.low = 0 ∧ f.high = 0)
 else if f.kind = 2 ∨ f.kind = 3 ∨ f.kind = 5 then decide (f.bytes.toList = [] ∧ f.low = 0 ∧ f.high = 0)
 else if f.kind = 4 ∨ f.kind = 6 then decide (f.bytes.toList = [] ∧ f.n = 0)
 else false

def rangesS (f : Fld) (last : Bool) : Bool :=
 if f.kind = 1 then decide (1 ≤ f.bytes.size ∧ f.bytes.size ≤ 8)
 else if f.kind = 2 then decide (1 ≤ f.n ∧ f.n ≤ 15)
 else if f.kind = 3 then decide (0 ≤ f.n ∧ f.n ≤ 15)
 else if f.kind = 4 then decide (0 ≤ f.low ∧ f.low ≤ f.high ∧ f.high ≤ 255)
 else if f.kind = 6 then decide (last = true ∧ 0 ≤ f.low ∧ f.low ≤ f.high ∧ f.high ≤ 1000)
 else true

/-- no nested field, no rest -/
def plain17 (F : List Fld) : Bool := decide (∀ x ∈ F, x.kind ≠ 5 ∧ x.kind ≠ 6)

set_option maxRecDepth 100000 in
set_option maxHeartbeats 1000000 in
theorem plain17_any {w : World} {B : Nat} {fa : Option Addr} {F : List Fld} {nm : ByteArray} {fcap : Nat} (hF : FldsA w B fa F) (hB : B ≤ w.heap.size) :
 Calls Tryz.prog 79 #[.agg #[.string nm, .slice fa F.length fcap]] w fun e w' => e = .returned (.bool (plain17 F)) ∧ Ext w w' := by
 have hn63 := hF.1
 unfold maxLen at hn63
 go_enter Tryz.func79, Tryz.ntmps79
 go_wp2_with fail
 go_loop [3] (fun i => ∃ k : Nat, k ≤ F.length ∧ i = .int .i64 k ∧ ∀ (j : Nat) (x : Fld), j < k → F[j]? = some x → x.kind ≠ 5 ∧ x.kind ≠ 6) (fun i => F.length - (intOf i).toNat)
 case atStart => exact ⟨0, Nat.zero_le _, rfl, fun j f h hj => by omega⟩
 case round =>
  obtain ⟨k, hk, rfl, hall⟩ := hrel
  have HALL := Lib.hid hall; clear hall
  by_cases hlt : k < F.length
  · obtain ⟨x, hx⟩ : ∃ f, F[k]? = some f := ⟨_, List.getElem?_eq_getElem hlt⟩
    obtain ⟨fb, foff, rfl, hfb, hc⟩ := hF.get' hx
    have c0 := hc.kind
    have hfb' : fb < w.heap.size := by omega
    clear hc
    have HX := Lib.hid hx; clear hx
    by_cases h5 : x.kind = 5
    · have e5 : (x.kind == 5) = true := by simp [h5]
      have H5 := Lib.hid h5; clear h5
      go_wp2_with fail
      go_ret
      exact ⟨rb (by symm; rw [plain17, decide_eq_false_iff_not]; intro h; exact (h x (List.mem_of_getElem? HX.out)).1 H5.out), (by repeat (first | exact Ext.refl _ | exact Ext.alloc _ _ | apply Ext.then_dr | apply Ext.then_drN | apply Ext.then_drN2 | (refine Ext.then_al ?_ _)))⟩
    · have e5 : (x.kind == 5) = false := by simp [h5]
      have H5 := Lib.hid h5; clear h5
      by_cases h6 : x.kind = 6
      · have e6 : (x.kind == 6) = true := by simp [h6]
        have H6 := Lib.hid h6; clear h6
        go_wp2_with fail
        go_ret
        exact ⟨rb (by symm; rw [plain17, decide_eq_false_iff_not]; intro h; exact (h x (List.mem_of_getElem? HX.out)).2 H6.out), (by repeat (first | exact Ext.refl _ | exact Ext.alloc _ _ | apply Ext.then_dr | apply Ext.then_drN | apply Ext.then_drN2 | (refine Ext.then_al ?_ _)))⟩
      · have e6 : (x.kind == 6) = false := by simp [h6]
        have H6 := Lib.hid h6; clear h6
        go_wp2_with fail
        go_round
        case rel => exact ⟨k + 1, by omega, by go_num, fun j x' hj hx' => by
          rcases Nat.lt_or_ge j k with h' | h'
          · exact HALL.out j x' h' hx'
          · have : j = k := by omega
            subst this
            have := HX.out
            rw [this] at hx'
            cases hx'
            exact ⟨H5.out, H6.out⟩⟩
        case measure => simp [intOf]; omega
  · go_wp2_with fail
    go_ret
    exact ⟨rb (by symm; rw [plain17, decide_eq_true_iff]; intro x hx; obtain ⟨j, hj⟩ := List.mem_iff_getElem?.1 hx; exact HALL.out j x (by have := lt_of_get hj; omega) hj), (by repeat (first | exact Ext.refl _ | exact Ext.alloc _ _ | apply Ext.then_dr | apply Ext.then_drN | apply Ext.then_drN2 | (refine Ext.then_al ?_ _)))⟩

def fieldErr (t : List Fmt) (f : Fld) (last : Bool) : Int :=
 if shapeS f = false then 1
 else if rangesS f last = false then 7
 else if f.kind ≠ 5 then 0
 else if f.n < 0 ∨ (t.length : Int) ≤ f.n then 4
 else if plain17 (t.getD f.n.toNat default).fields = false then 10
 else 0

/-- the first number that is not 0, or 0 -/
def errFrom (g : Nat → Int) (n : Nat) : Int := (((List.range n).map g).find? (· != 0)).getD 0

theorem err_zero {g : Nat → Int} {n : Nat} (h : ∀ j, j < n → g j = 0) : errFrom g n = 0 := by
 have : ((List.range n).map g).find? (· != 0) = none := by
  rw [List.find?_eq_none]
  intro x hx
  obtain ⟨j, hj, rfl⟩ := List.mem_map.1 hx
  simp [h j (List.mem_range.1 hj)]
 rw [errFrom, this]; rfl
theorem err_at {g : Nat → Int} {n k : Nat} (hk : k < n) (hne : g k ≠ 0) (h : ∀ j, j < k → g j = 0) : errFrom g n = g k := by
 induction n with
 | zero => omega
 | succ n ih =>
   rw [errFrom, List.range_succ, List.map_append, List.find?_append]
   by_cases hkn : k < n
   · have := ih hkn
     unfold errFrom at this
     cases hf : ((List.range n).map g).find? (· != 0) with
     | none => rw [hf] at this; exact absurd this.symm hne
     | some x => rw [hf] at this; simpa using this
   · have hkn : k = n := by omega
     subst hkn
     have : ((List.range k).map g).find? (· != 0) = none := by
      rw [List.find?_eq_none]
      intro x hx
      obtain ⟨j, hj, rfl⟩ := List.mem_map.1 hx
      simp [h j (List.mem_range.1 hj)]
     rw [this]
     simp [hne]

def fldE (t : List Fmt) (F : List Fld) (i k : Nat) : Int := match F[k]? with | some x => fieldErr (t.take i) x (decide (k + 1 = F.length)) | none => 0
def fmtErr (t : List Fmt) (i : Nat) (fm : Fmt) : Int :=
 if fnameOk fm.name = false then 2 else if 0 ≤ findS (t.take i) fm.name then 5 else if fm.fields.length = 0 then 8 else if 6 < fm.fields.length then 3
 else errFrom (fldE t fm.fields i) fm.fields.length
def fmtE (t : List Fmt) (i : Nat) : Int := match t[i]? with | some fm => fmtErr t i fm | none => 0
def validF (t : List Fmt) : Int := if 8 < t.length then 3 else errFrom (fmtE t) t.length

theorem fmtE_at {t : List Fmt} {i : Nat} {fm : Fmt} (h : t[i]? = some fm) : fmtE t i = fmtErr t i fm := by simp [fmtE, h]
theorem fldE_at {t : List Fmt} {F : List Fld} {i k : Nat} {x : Fld} (h : F[k]? = some x) : fldE t F i k = fieldErr (t.take i) x (decide (k + 1 = F.length)) := by simp [fldE, h]

theorem fall_succ {g : Nat → Int} {k : Nat} (h : ∀ j, j < k → g j = 0) (hk : g k = 0) : ∀ j, j < k + 1 → g j = 0 := fun j hj => by
 rcases Nat.lt_or_ge j k with h' | h'
 · exact h j h'
 · have : j = k := by omega
   rw [this]; exact hk

theorem fe_shape {t : List Fmt} {f : Fld} {last : Bool} (h : shapeS f = false) : fieldErr t f last = 1 := by rw [fieldErr, if_pos h]
theorem fe_range {t : List Fmt} {f : Fld} {last : Bool} (h : shapeS f = true) (h2 : rangesS f last = false) : fieldErr t f last = 7 := by rw [fieldErr, if_neg (by simp [h]), if_pos h2]
theorem fe_ok {t : List Fmt} {f : Fld} {last : Bool} (h : shapeS f = true) (h2 : rangesS f last = true) (h5 : f.kind ≠ 5) : fieldErr t f last = 0 := by rw [fieldErr, if_neg (by simp [h]), if_neg (by simp [h2]), if_pos h5]

set_option maxRecDepth 100000 in
set_option maxHeartbeats 4000000 in
theorem one_1 {w : World} {a : Option Addr} {t : List Fmt} {cap : Nat} (f : Fld) (last : Bool) (hk : f.kind = 1) :
 Calls Tryz.prog 63 #[.slice a t.length cap, .agg #[.int .i64 f.kind, .string f.bytes, .int .i64 f.n, .int .i64 f.low, .int .i64 f.high], .bool last] w fun e w' => e = .returned (.int .i64 (fieldErr t f last)) ∧ Ext w w' := by
 have HS : Hid (shapeS f = decide (f.n = 0 ∧ f.low = 0 ∧ f.high = 0)) := by show _ = _; simp [shapeS, hk]
 have HG : Hid (rangesS f last = decide (1 ≤ f.bytes.size ∧ f.bytes.size ≤ 8)) := by show _ = _; simp [rangesS, hk]
 have HK : Hid (f.kind ≠ 5) := by show _ ≠ _; omega
 obtain ⟨res, hres⟩ : ∃ res, res = fieldErr t f last := ⟨_, rfl⟩
 rw [← hres]
 have HRES := Lib.hid hres; clear hres
 by_cases p0 : ((f.bytes.size : Nat) : Int) ≤ 8
 all_goals first | have e0 := decide_eq_true p0 | have e0 := decide_eq_false p0
 all_goals
  go_enter Tryz.func63, Tryz.ntmps63
  go_wp2_with fail
  all_goals go_ret
  all_goals first
   | exact ⟨ri (by rw [HRES.out]; exact (fe_ok (by rw [HS.out]; exact decide_eq_true (by first | omega | exact ⟨hbz, by omega⟩ | exact ⟨hbz, by omega, by omega⟩)) (by rw [HG.out]; first | exact decide_eq_true (by first | omega | exact ⟨rfl, by omega⟩) | (simp; omega)) HK.out).symm), (by repeat (first | exact Ext.refl _ | exact Ext.alloc _ _ | apply Ext.then_dr | apply Ext.then_drN | apply Ext.then_drN2 | (refine Ext.then_al ?_ _)))⟩
   | exact ⟨ri (by rw [HRES.out]; exact (fe_range (by rw [HS.out]; exact decide_eq_true (by first | omega | exact ⟨hbz, by omega⟩ | exact ⟨hbz, by omega, by omega⟩)) (by rw [HG.out]; first | exact decide_eq_false (by first | omega | exact fun h => absurd h.1 (by decide) | exact fun h => absurd h.2 (by omega)) | (simp; done) | (simp; omega))).symm), (by repeat (first | exact Ext.refl _ | exact Ext.alloc _ _ | apply Ext.then_dr | apply Ext.then_drN | apply Ext.then_drN2 | (refine Ext.then_al ?_ _)))⟩
   | exact ⟨ri (by rw [HRES.out]; exact (fe_shape (by rw [HS.out]; exact decide_eq_false (by first | omega | exact fun h => hbz h.1 | exact fun h => absurd h.2 (by omega)))).symm), (by repeat (first | exact Ext.refl _ | exact Ext.alloc _ _ | apply Ext.then_dr | apply Ext.then_drN | apply Ext.then_drN2 | (refine Ext.then_al ?_ _)))⟩
   | (exfalso; rename_i hh; simp only [Bool.not_eq_false', decide_eq_true_eq, Bool.not_eq_true', decide_eq_false_iff_not] at hh; omega)
   | (exfalso; rename_i hh _; simp only [Bool.not_eq_false', decide_eq_true_eq, Bool.not_eq_true', decide_eq_false_iff_not] at hh; omega)
   | (exfalso; rename_i hh _ _; simp only [Bool.not_eq_false', decide_eq_true_eq, Bool.not_eq_true', decide_eq_false_iff_not] at hh; omega)

set_option maxRecDepth 100000 in
set_option maxHeartbeats 4000000 in
theorem one_2 {w : World} {a : Option Addr} {t : List Fmt} {cap : Nat} (f : Fld) (last : Bool) (hk : f.kind = 2) :
 Calls Tryz.prog 63 #[.slice a t.length cap, .agg #[.int .i64 f.kind, .string f.bytes, .int .i64 f.n, .int .i64 f.low, .int .i64 f.high], .bool last] w fun e w' => e = .returned (.int .i64 (fieldErr t f last)) ∧ Ext w w' := by
 have HS : Hid (shapeS f = decide (f.bytes.toList = [] ∧ f.low = 0 ∧ f.high = 0)) := by show _ = _; simp [shapeS, hk]
 have HG : Hid (rangesS f last = decide (1 ≤ f.n ∧ f.n ≤ 15)) := by show _ = _; simp [rangesS, hk]
 have HK : Hid (f.kind ≠ 5) := by show _ ≠ _; omega
 obtain ⟨res, hres⟩ : ∃ res, res = fieldErr t f last := ⟨_, rfl⟩
 rw [← hres]
 have HRES := Lib.hid hres; clear hres
 by_cases p0 : f.n ≤ 15
 all_goals first | have e0 := decide_eq_true p0 | have e0 := decide_eq_false p0
 all_goals by_cases hbz : f.bytes.toList = []
 all_goals
  go_enter Tryz.func63, Tryz.ntmps63
  go_wp2_with fail
  all_goals go_ret
  all_goals first
   | exact ⟨ri (by rw [HRES.out]; exact (fe_ok (by rw [HS.out]; exact decide_eq_true (by first | omega | exact ⟨hbz, by omega⟩ | exact ⟨hbz, by omega, by omega⟩)) (by rw [HG.out]; first | exact decide_eq_true (by first | omega | exact ⟨rfl, by omega⟩) | (simp; omega)) HK.out).symm), (by repeat (first | exact Ext.refl _ | exact Ext.alloc _ _ | apply Ext.then_dr | apply Ext.then_drN | apply Ext.then_drN2 | (refine Ext.then_al ?_ _)))⟩
   | exact ⟨ri (by rw [HRES.out]; exact (fe_range (by rw [HS.out]; exact decide_eq_true (by first | omega | exact ⟨hbz, by omega⟩ | exact ⟨hbz, by omega, by omega⟩)) (by rw [HG.out]; first | exact decide_eq_false (by first | omega | exact fun h => absurd h.1 (by decide) | exact fun h => absurd h.2 (by omega)) | (simp; done) | (simp; omega))).symm), (by repeat (first | exact Ext.refl _ | exact Ext.alloc _ _ | apply Ext.then_dr | apply Ext.then_drN | apply Ext.then_drN2 | (refine Ext.then_al ?_ _)))⟩
   | exact ⟨ri (by rw [HRES.out]; exact (fe_shape (by rw [HS.out]; exact decide_eq_false (by first | omega | exact fun h => hbz h.1 | exact fun h => absurd h.2 (by omega)))).symm), (by repeat (first | exact Ext.refl _ | exact Ext.alloc _ _ | apply Ext.then_dr | apply Ext.then_drN | apply Ext.then_drN2 | (refine Ext.then_al ?_ _)))⟩
   | (exfalso; rename_i hh; simp only [Bool.not_eq_false', decide_eq_true_eq, Bool.not_eq_true', decide_eq_false_iff_not] at hh; omega)
   | (exfalso; rename_i hh _; simp only [Bool.not_eq_false', decide_eq_true_eq, Bool.not_eq_true', decide_eq_false_iff_not] at hh; omega)
   | (exfalso; rename_i hh _ _; simp only [Bool.not_eq_false', decide_eq_true_eq, Bool.not_eq_true', decide_eq_false_iff_not] at hh; omega)

set_option maxRecDepth 100000 in
set_option maxHeartbeats 4000000 in
theorem one_3 {w : World} {a : Option Addr} {t : List Fmt} {cap : Nat} (f : Fld) (last : Bool) (hk : f.kind = 3) :
 Calls Tryz.prog 63 #[.slice a t.length cap, .agg #[.int .i64 f.kind, .string f.bytes, .int .i64 f.n, .int .i64 f.low, .int .i64 f.high], .bool last] w fun e w' => e = .returned (.int .i64 (fieldErr t f last)) ∧ Ext w w' := by
 have HS : Hid (shapeS f = decide (f.bytes.toList = [] ∧ f.low = 0 ∧ f.high = 0)) := by show _ = _; simp [shapeS, hk]
 have HG : Hid (rangesS f last = decide (0 ≤ f.n ∧ f.n ≤ 15)) := by show _ = _; simp [rangesS, hk]
 have HK : Hid (f.kind ≠ 5) := by show _ ≠ _; omega
 obtain ⟨res, hres⟩ : ∃ res, res = fieldErr t f last := ⟨_, rfl⟩
 rw [← hres]
 have HRES := Lib.hid hres; clear hres
 by_cases p0 : f.n ≤ 15
 all_goals first | have e0 := decide_eq_true p0 | have e0 := decide_eq_false p0
 all_goals by_cases hbz : f.bytes.toList = []
 all_goals
  go_enter Tryz.func63, Tryz.ntmps63
  go_wp2_with fail
  all_goals go_ret
  all_goals first
   | exact ⟨ri (by rw [HRES.out]; exact (fe_ok (by rw [HS.out]; exact decide_eq_true (by first | omega | exact ⟨hbz, by omega⟩ | exact ⟨hbz, by omega, by omega⟩)) (by rw [HG.out]; first | exact decide_eq_true (by first | omega | exact ⟨rfl, by omega⟩) | (simp; omega)) HK.out).symm), (by repeat (first | exact Ext.refl _ | exact Ext.alloc _ _ | apply Ext.then_dr | apply Ext.then_drN | apply Ext.then_drN2 | (refine Ext.then_al ?_ _)))⟩
   | exact ⟨ri (by rw [HRES.out]; exact (fe_range (by rw [HS.out]; exact decide_eq_true (by first | omega | exact ⟨hbz, by omega⟩ | exact ⟨hbz, by omega, by omega⟩)) (by rw [HG.out]; first | exact decide_eq_false (by first | omega | exact fun h => absurd h.1 (by decide) | exact fun h => absurd h.2 (by omega)) | (simp; done) | (simp; omega))).symm), (by repeat (first | exact Ext.refl _ | exact Ext.alloc _ _ | apply Ext.then_dr | apply Ext.then_drN | apply Ext.then_drN2 | (refine Ext.then_al ?_ _)))⟩
   | exact ⟨ri (by rw [HRES.out]; exact (fe_shape (by rw [HS.out]; exact decide_eq_false (by first | omega | exact fun h => hbz h.1 | exact fun h => absurd h.2 (by omega)))).symm), (by repeat (first | exact Ext.refl _ | exact Ext.alloc _ _ | apply Ext.then_dr | apply Ext.then_drN | apply Ext.then_drN2 | (refine Ext.then_al ?_ _)))⟩
   | (exfalso; rename_i hh; simp only [Bool.not_eq_false', decide_eq_true_eq, Bool.not_eq_true', decide_eq_false_iff_not] at hh; omega)
   | (exfalso; rename_i hh _; simp only [Bool.not_eq_false', decide_eq_true_eq, Bool.not_eq_true', decide_eq_false_iff_not] at hh; omega)
   | (exfalso; rename_i hh _ _; simp only [Bool.not_eq_false', decide_eq_true_eq, Bool.not_eq_true', decide_eq_false_iff_not] at hh; omega)

set_option maxRecDepth 100000 in
set_option maxHeartbeats 4000000 in
theorem one_4 {w : World} {a : Option Addr} {t : List Fmt} {cap : Nat} (f : Fld) (last : Bool) (hk : f.kind = 4) :
 Calls Tryz.prog 63 #[.slice a t.length cap, .agg #[.int .i64 f.kind, .string f.bytes, .int .i64 f.n, .int .i64 f.low, .int .i64 f.high], .bool last] w fun e w' => e = .returned (.int .i64 (fieldErr t f last)) ∧ Ext w w' := by
 have HS : Hid (shapeS f = decide (f.bytes.toList = [] ∧ f.n = 0)) := by show _ = _; simp [shapeS, hk]
 have HG : Hid (rangesS f last = decide (0 ≤ f.low ∧ f.low ≤ f.high ∧ f.high ≤ 255)) := by show _ = _; simp [rangesS, hk]
 have HK : Hid (f.kind ≠ 5) := by show _ ≠ _; omega
 obtain ⟨res, hres⟩ : ∃ res, res = fieldErr t f last := ⟨_, rfl⟩
 rw [← hres]
 have HRES := Lib.hid hres; clear hres
 by_cases p0 : f.low ≤ f.high
 all_goals first | have e0 := decide_eq_true p0 | have e0 := decide_eq_false p0
 all_goals by_cases p1 : f.high ≤ 255
 all_goals first | have e1 := decide_eq_true p1 | have e1 := decide_eq_false p1
 all_goals by_cases hbz : f.bytes.toList = []
 all_goals
  go_enter Tryz.func63, Tryz.ntmps63
  go_wp2_with fail
  go_region
  all_goals go_wp2_with fail
  all_goals go_ret
  all_goals first
   | exact ⟨ri (by rw [HRES.out]; exact (fe_ok (by rw [HS.out]; exact decide_eq_true (by first | omega | exact ⟨hbz, by omega⟩ | exact ⟨hbz, by omega, by omega⟩)) (by rw [HG.out]; first | exact decide_eq_true (by first | omega | exact ⟨rfl, by omega⟩) | (simp; omega)) HK.out).symm), (by repeat (first | exact Ext.refl _ | exact Ext.alloc _ _ | apply Ext.then_dr | apply Ext.then_drN | apply Ext.then_drN2 | (refine Ext.then_al ?_ _)))⟩
   | exact ⟨ri (by rw [HRES.out]; exact (fe_range (by rw [HS.out]; exact decide_eq_true (by first | omega | exact ⟨hbz, by omega⟩ | exact ⟨hbz, by omega, by omega⟩)) (by rw [HG.out]; first | exact decide_eq_false (by first | omega | exact fun h => absurd h.1 (by decide) | exact fun h => absurd h.2 (by omega)) | (simp; done) | (simp; omega))).symm), (by repeat (first | exact Ext.refl _ | exact Ext.alloc _ _ | apply Ext.then_dr | apply Ext.then_drN | apply Ext.then_drN2 | (refine Ext.then_al ?_ _)))⟩
   | exact ⟨ri (by rw [HRES.out]; exact (fe_shape (by rw [HS.out]; exact decide_eq_false (by first | omega | exact fun h => hbz h.1 | exact fun h => absurd h.2 (by omega)))).symm), (by repeat (first | exact Ext.refl _ | exact Ext.alloc _ _ | apply Ext.then_dr | apply Ext.then_drN | apply Ext.then_drN2 | (refine Ext.then_al ?_ _)))⟩
   | (exfalso; rename_i hh; simp only [Bool.not_eq_false', decide_eq_true_eq, Bool.not_eq_true', decide_eq_false_iff_not] at hh; omega)
   | (exfalso; rename_i hh _; simp only [Bool.not_eq_false', decide_eq_true_eq, Bool.not_eq_true', decide_eq_false_iff_not] at hh; omega)
   | (exfalso; rename_i hh _ _; simp only [Bool.not_eq_false', decide_eq_true_eq, Bool.not_eq_true', decide_eq_false_iff_not] at hh; omega)

set_option maxRecDepth 100000 in
set_option maxHeartbeats 4000000 in
theorem one_6 {w : World} {a : Option Addr} {t : List Fmt} {cap : Nat} (f : Fld) (last : Bool) (hk : f.kind = 6) :
 Calls Tryz.prog 63 #[.slice a t.length cap, .agg #[.int .i64 f.kind, .string f.bytes, .int .i64 f.n, .int .i64 f.low, .int .i64 f.high], .bool last] w fun e w' => e = .returned (.int .i64 (fieldErr t f last)) ∧ Ext w w' := by
 have HS : Hid (shapeS f = decide (f.bytes.toList = [] ∧ f.n = 0)) := by show _ = _; simp [shapeS, hk]
 have HG : Hid (rangesS f last = decide (last = true ∧ 0 ≤ f.low ∧ f.low ≤ f.high ∧ f.high ≤ 1000)) := by show _ = _; simp [rangesS, hk]
 have HK : Hid (f.kind ≠ 5) := by show _ ≠ _; omega
 obtain ⟨res, hres⟩ : ∃ res, res = fieldErr t f last := ⟨_, rfl⟩
 rw [← hres]
 have HRES := Lib.hid hres; clear hres
 by_cases p0 : f.low ≤ f.high
 all_goals first | have e0 := decide_eq_true p0 | have e0 := decide_eq_false p0
 all_goals by_cases p1 : f.high ≤ 1000
 all_goals first | have e1 := decide_eq_true p1 | have e1 := decide_eq_false p1
 all_goals by_cases hbz : f.bytes.toList = []
 all_goals cases last
 all_goals
  go_enter Tryz.func63, Tryz.ntmps63
  go_wp2_with fail
  go_region
  all_goals go_wp2_with fail
  all_goals go_ret
  all_goals first
   | exact ⟨ri (by rw [HRES.out]; exact (fe_ok (by rw [HS.out]; exact decide_eq_true (by first | omega | exact ⟨hbz, by omega⟩ | exact ⟨hbz, by omega, by omega⟩)) (by rw [HG.out]; first | exact decide_eq_true (by first | omega | exact ⟨rfl, by omega⟩) | (simp; omega)) HK.out).symm), (by repeat (first | exact Ext.refl _ | exact Ext.alloc _ _ | apply Ext.then_dr | apply Ext.then_drN | apply Ext.then_drN2 | (refine Ext.then_al ?_ _)))⟩
   | exact ⟨ri (by rw [HRES.out]; exact (fe_range (by rw [HS.out]; exact decide_eq_true (by first | omega | exact ⟨hbz, by omega⟩ | exact ⟨hbz, by omega, by omega⟩)) (by rw [HG.out]; first | exact decide_eq_false (by first | omega | exact fun h => absurd h.1 (by decide) | exact fun h => absurd h.2 (by omega)) | (simp; done) | (simp; omega))).symm), (by repeat (first | exact Ext.refl _ | exact Ext.alloc _ _ | apply Ext.then_dr | apply Ext.then_drN | apply Ext.then_drN2 | (refine Ext.then_al ?_ _)))⟩
   | exact ⟨ri (by rw [HRES.out]; exact (fe_shape (by rw [HS.out]; exact decide_eq_false (by first | omega | exact fun h => hbz h.1 | exact fun h => absurd h.2 (by omega)))).symm), (by repeat (first | exact Ext.refl _ | exact Ext.alloc _ _ | apply Ext.then_dr | apply Ext.then_drN | apply Ext.then_drN2 | (refine Ext.then_al ?_ _)))⟩
   | (exfalso; rename_i hh; simp only [Bool.not_eq_false', decide_eq_true_eq, Bool.not_eq_true', decide_eq_false_iff_not] at hh; omega)
   | (exfalso; rename_i hh _; simp only [Bool.not_eq_false', decide_eq_true_eq, Bool.not_eq_true', decide_eq_false_iff_not] at hh; omega)
   | (exfalso; rename_i hh _ _; simp only [Bool.not_eq_false', decide_eq_true_eq, Bool.not_eq_true', decide_eq_false_iff_not] at hh; omega)

set_option maxRecDepth 100000 in
set_option maxHeartbeats 4000000 in
theorem one_other {w : World} {a : Option Addr} {t : List Fmt} {cap : Nat} (f : Fld) (last : Bool) (k1 : (f.kind == 1) = false) (k2 : (f.kind == 2) = false) (k3 : (f.kind == 3) = false) (k4 : (f.kind == 4) = false) (k5 : (f.kind == 5) = false) (k6 : (f.kind == 6) = false)
 (hn : f.kind ≠ 1 ∧ f.kind ≠ 2 ∧ f.kind ≠ 3 ∧ f.kind ≠ 4 ∧ f.kind ≠ 5 ∧ f.kind ≠ 6) :
 Calls Tryz.prog 63 #[.slice a t.length cap, .agg #[.int .i64 f.kind, .string f.bytes, .int .i64 f.n, .int .i64 f.low, .int .i64 f.high], .bool last] w fun e w' => e = .returned (.int .i64 (fieldErr t f last)) ∧ Ext w w' := by
 have HS : Hid (shapeS f = false) := by
  show _ = _
  obtain ⟨h1, h2, h3, h4, h5, h6⟩ := hn
  simp [shapeS, h1, h2, h3, h4, h5, h6]
 clear hn
 obtain ⟨res, hres⟩ : ∃ res, res = fieldErr t f last := ⟨_, rfl⟩
 rw [← hres]
 have HRES := Lib.hid hres; clear hres
 go_enter Tryz.func63, Tryz.ntmps63
 go_wp2_with fail
 go_ret
 exact ⟨ri (by rw [HRES.out]; exact (fe_shape HS.out).symm), (by repeat (first | exact Ext.refl _ | exact Ext.alloc _ _ | apply Ext.then_dr | apply Ext.then_drN | apply Ext.then_drN2 | (refine Ext.then_al ?_ _)))⟩

set_option maxRecDepth 100000 in
set_option maxHeartbeats 4000000 in
theorem one_5 {w : World} {B : Nat} {a : Option Addr} {t : List Fmt} {cap : Nat} (f : Fld) (last : Bool) (hk : f.kind = 5) (hT : TabA w B a t) (hB : B ≤ w.heap.size) :
 Calls Tryz.prog 63 #[.slice a t.length cap, .agg #[.int .i64 f.kind, .string f.bytes, .int .i64 f.n, .int .i64 f.low, .int .i64 f.high], .bool last] w fun e w' => e = .returned (.int .i64 (fieldErr t f last)) ∧ Ext w w' := by
 have hn63 := hT.1
 unfold maxLen at hn63
 have HS : Hid (shapeS f = decide (f.bytes.toList = [] ∧ f.low = 0 ∧ f.high = 0)) := by show _ = _; simp [shapeS, hk]
 have HG : Hid (rangesS f last = true) := by show _ = _; simp [rangesS, hk]
 have HKK : Hid (f.kind = 5) := hk
 obtain ⟨res, hres⟩ : ∃ res, res = fieldErr t f last := ⟨_, rfl⟩
 rw [← hres]
 have HRES := Lib.hid hres; clear hres
 by_cases hs : f.bytes.toList = [] ∧ f.low = 0 ∧ f.high = 0
 · have HST : Hid (shapeS f = true) := by show _ = _; rw [HS.out]; exact decide_eq_true hs
   obtain ⟨hbz, hl0, hh0⟩ := hs
   by_cases hneg : f.n < 0
   · have HR : Hid (res = 4) := by
      show _ = _
      rw [HRES.out, fieldErr, if_neg (by simp [HST.out]), if_neg (by simp [HG.out]), if_neg (by simp [HKK.out]), if_pos (Or.inl hneg)]
     go_enter Tryz.func63, Tryz.ntmps63
     go_wp2_with fail
     go_ret
     exact ⟨ri HR.out.symm, (by repeat (first | exact Ext.refl _ | exact Ext.alloc _ _ | apply Ext.then_dr | apply Ext.then_drN | apply Ext.then_drN2 | (refine Ext.then_al ?_ _)))⟩
   · obtain ⟨j, hj⟩ : ∃ j : Nat, f.n = j := ⟨f.n.toNat, by omega⟩
     by_cases hge : t.length ≤ j
     · have HR : Hid (res = 4) := by
        show _ = _
        rw [HRES.out, fieldErr, if_neg (by simp [HST.out]), if_neg (by simp [HG.out]), if_neg (by simp [HKK.out]), if_pos (Or.inr (by omega))]
       go_enter Tryz.func63, Tryz.ntmps63
       go_wp2_with fail
       go_ret
       exact ⟨ri HR.out.symm, (by repeat (first | exact Ext.refl _ | exact Ext.alloc _ _ | apply Ext.then_dr | apply Ext.then_drN | apply Ext.then_drN2 | (refine Ext.then_al ?_ _)))⟩
     · obtain ⟨gm, hgm⟩ : ∃ g, t[j]? = some g := ⟨_, List.getElem?_eq_getElem (by omega)⟩
       obtain ⟨tb, toff, ga, gcap, rfl, htb, htn, htc, hG, -⟩ := hT.at' hgm
       have HR : Hid (res = if plain17 gm.fields = false then 10 else 0) := by
        show _ = _
        have hgd : (t.getD f.n.toNat default).fields = gm.fields := by simp [hj, hgm]
        rw [HRES.out, fieldErr, if_neg (by simp [HST.out]), if_neg (by simp [HG.out]), if_neg (by simp [HKK.out]), if_neg (by omega), hgd]
       have hjl := lt_of_get hgm
       clear hgm
       have htb' : tb < w.heap.size := by omega
       have hGl := hG.1
       unfold maxLen at hGl
       go_enter Tryz.func63, Tryz.ntmps63
       go_wp2_with fail
       go_loopw [10, 140] (fun _ i wr => ∃ k : Nat, k ≤ gm.fields.length ∧ i = .int .i64 k ∧ Ext w wr ∧ ∀ (j : Nat) (x : Fld), j < k → gm.fields[j]? = some x → x.kind ≠ 5 ∧ x.kind ≠ 6) (fun _ i _ => gm.fields.length - (intOf i).toNat)
       case atStart => exact ⟨0, Nat.zero_le _, rfl, (by repeat (first | exact Ext.refl _ | exact Ext.alloc _ _ | apply Ext.then_dr | apply Ext.then_drN | apply Ext.then_drN2 | (refine Ext.then_al ?_ _))), fun j f h hj => by omega⟩
       case round =>
        obtain ⟨k, hk', rfl, hE, hall⟩ := hrel
        have HALL := Lib.hid hall; clear hall
        by_cases hlt : k < gm.fields.length
        · obtain ⟨x, hx⟩ : ∃ f, gm.fields[k]? = some f := ⟨_, List.getElem?_eq_getElem hlt⟩
          obtain ⟨fb, foff, rfl, hfb, hc⟩ := (hG.ext hB hE).get' hx
          obtain ⟨c0, c1, c2, c3, c4, cw⟩ := hc
          have hfb' : fb < wr.heap.size := by have := hE.size; omega
          have HX := Lib.hid hx; clear hx
          by_cases h5 : x.kind = 5
          · have e5 : (x.kind == 5) = true := by simp [h5]
            have H5 := Lib.hid h5; clear h5
            go_wp2_with fail
            go_ret
            exact ⟨ri (by rw [HR.out, if_pos]; rw [plain17, decide_eq_false_iff_not]; intro h; exact (h x (List.mem_of_getElem? HX.out)).1 H5.out), hE.trans (by repeat (first | exact Ext.refl _ | exact Ext.alloc _ _ | apply Ext.then_dr | apply Ext.then_drN | apply Ext.then_drN2 | (refine Ext.then_al ?_ _)))⟩
          · have e5 : (x.kind == 5) = false := by simp [h5]
            have H5 := Lib.hid h5; clear h5
            by_cases h6 : x.kind = 6
            · have e6 : (x.kind == 6) = true := by simp [h6]
              have H6 := Lib.hid h6; clear h6
              go_wp2_with fail
              go_ret
              exact ⟨ri (by rw [HR.out, if_pos]; rw [plain17, decide_eq_false_iff_not]; intro h; exact (h x (List.mem_of_getElem? HX.out)).2 H6.out), hE.trans (by repeat (first | exact Ext.refl _ | exact Ext.alloc _ _ | apply Ext.then_dr | apply Ext.then_drN | apply Ext.then_drN2 | (refine Ext.then_al ?_ _)))⟩
            · have e6 : (x.kind == 6) = false := by simp [h6]
              have H6 := Lib.hid h6; clear h6
              go_wp2_with fail
              go_roundw
              case rel => exact ⟨k + 1, by omega, by go_num, hE.trans (by repeat (first | exact Ext.refl _ | exact Ext.alloc _ _ | apply Ext.then_dr | apply Ext.then_drN | apply Ext.then_drN2 | (refine Ext.then_al ?_ _))), fun j x' hj hx' => by
                rcases Nat.lt_or_ge j k with h' | h'
                · exact HALL.out j x' h' hx'
                · have : j = k := by omega
                  subst this
                  have := HX.out
                  rw [this] at hx'
                  cases hx'
                  exact ⟨H5.out, H6.out⟩⟩
              case measure => simp [intOf]; omega
        · go_wp2_with fail
          go_ret
          exact ⟨ri (by rw [HR.out, if_neg]; simp only [Bool.not_eq_false]; rw [plain17, decide_eq_true_iff]; intro x hx; obtain ⟨j, hj⟩ := List.mem_iff_getElem?.1 hx; exact HALL.out j x (by have := lt_of_get hj; omega) hj), hE⟩
 · have HSF : Hid (shapeS f = false) := by show _ = _; rw [HS.out]; exact decide_eq_false hs
   by_cases hbz : f.bytes.toList = []
   · have hs2 : ¬ (f.low = 0 ∧ f.high = 0) := fun h => hs ⟨hbz, h⟩
     clear hs
     by_cases hl0 : f.low = 0
     · have hh0 : ¬ f.high = 0 := fun h => hs2 ⟨hl0, h⟩
       have hh0' : ¬ 0 = f.high := by omega
       clear hs2 hh0
       go_enter Tryz.func63, Tryz.ntmps63
       go_wp2_with fail
       go_ret
       exact ⟨ri (by rw [HRES.out]; exact (fe_shape HSF.out).symm), (by repeat (first | exact Ext.refl _ | exact Ext.alloc _ _ | apply Ext.then_dr | apply Ext.then_drN | apply Ext.then_drN2 | (refine Ext.then_al ?_ _)))⟩
     · have hl0' : ¬ 0 = f.low := by omega
       clear hs2 hl0
       go_enter Tryz.func63, Tryz.ntmps63
       go_wp2_with fail
       go_ret
       exact ⟨ri (by rw [HRES.out]; exact (fe_shape HSF.out).symm), (by repeat (first | exact Ext.refl _ | exact Ext.alloc _ _ | apply Ext.then_dr | apply Ext.then_drN | apply Ext.then_drN2 | (refine Ext.then_al ?_ _)))⟩
   · clear hs
     go_enter Tryz.func63, Tryz.ntmps63
     go_wp2_with fail
     go_ret
     exact ⟨ri (by rw [HRES.out]; exact (fe_shape HSF.out).symm), (by repeat (first | exact Ext.refl _ | exact Ext.alloc _ _ | apply Ext.then_dr | apply Ext.then_drN | apply Ext.then_drN2 | (refine Ext.then_al ?_ _)))⟩

theorem one_any {w : World} {B : Nat} {a : Option Addr} {t : List Fmt} {cap : Nat} (f : Fld) (last : Bool) (hT : TabA w B a t) (hB : B ≤ w.heap.size) :
 Calls Tryz.prog 63 #[.slice a t.length cap, .agg #[.int .i64 f.kind, .string f.bytes, .int .i64 f.n, .int .i64 f.low, .int .i64 f.high], .bool last] w fun e w' => e = .returned (.int .i64 (fieldErr t f last)) ∧ Ext w w' := by
 rcases kind7 f.kind with hk | hk | hk | hk | hk | hk | ⟨⟨k1, k2, k3, k4, k5, k6⟩, hn⟩
 · exact one_1 f last hk
 · exact one_2 f last hk
 · exact one_3 f last hk
 · exact one_4 f last hk
 · exact one_5 f last hk hT hB
 · exact one_6 f last hk
 · exact one_other f last k1 k2 k3 k4 k5 k6 hn

set_option maxRecDepth 100000 in
set_option maxHeartbeats 4000000 in
theorem FValid_any {w : World} {B : Nat} {a : Option Addr} {t : List Fmt} {cap : Nat} (hT : TabA w B a t) (hB : B ≤ w.heap.size) (hcap : t.length ≤ cap) (hcap2 : cap ≤ 9223372036854775807) :
 Calls Tryz.prog 38 #[.slice a t.length cap] w fun e w' => e = .returned (.int .i64 (validF t)) ∧ Ext w w' := by
 by_cases h8 : 8 < t.length
 · have e1 : decide ((8 : Int) < (t.length : Int)) = true := decide_eq_true (by omega)
   have HR : Hid (validF t = 3) := by show _ = _; rw [validF, if_pos h8]
   go_enter Tryz.func38, Tryz.ntmps38
   go_wp2_with fail
   go_ret
   exact ⟨ri HR.out.symm, Ext.refl _⟩
 · have e1 : decide ((8 : Int) < (t.length : Int)) = false := decide_eq_false (by omega)
   have HR : Hid (validF t = errFrom (fmtE t) t.length) := by show _ = _; rw [validF, if_neg h8]
   obtain ⟨res, hres⟩ : ∃ res, res = validF t := ⟨_, rfl⟩
   rw [← hres]
   have HRES := Lib.hid hres; clear hres
   go_enter Tryz.func38, Tryz.ntmps38
   go_wp2_with fail
   go_loopw [3, 4, 5, 6, 7, 13, 44] (fun _ _ _ _ _ i _ wr => ∃ m : Nat, m ≤ t.length ∧ i = .int .i64 m ∧ Ext w wr ∧ ∀ j, j < m → fmtE t j = 0) (fun _ _ _ _ _ i _ _ => t.length - (intOf i).toNat)
   case atStart => exact ⟨0, Nat.zero_le _, rfl, Ext.refl _, fun j h => by omega⟩
   case round =>
    obtain ⟨m, hm, rfl, hE, hall⟩ := hrel
    have HALL := Lib.hid hall; clear hall
    have hBr : B ≤ wr.heap.size := by have := hE.size; omega
    have hTr := hT.ext hB hE
    by_cases hlt : m < t.length
    · obtain ⟨fm, hf⟩ : ∃ f, t[m]? = some f := ⟨_, List.getElem?_eq_getElem hlt⟩
      obtain ⟨tb, toff, fa, fcap, rfl, htb, htn, htc, hF, hnl⟩ := hTr.at' hf
      have htb' : tb < wr.heap.size := by omega
      have hF := hF.alloc hBr (Obj.cells #[Value.string fm.name, Value.slice fa fm.fields.length fcap] 56)
      have HF := Lib.hid hf; clear hf
      have HFE : Hid (fmtE t m = fmtErr t m fm) := fmtE_at HF.out
      have htk : (t.take m).length = m := by rw [List.length_take]; omega
      have hTk := hTr.take m
      by_cases hnm : fnameOk fm.name = false
      · have HFF : Hid (fmtErr t m fm = 2) := by show _ = _; rw [fmtErr, if_pos hnm]
        have HNM := Lib.hid hnm; clear hnm
        go_wp2_with fail
        refine (fisName_any fm.name _ hnl).mono ?_
        rw [HNM.out]
        rintro e w' ⟨rfl, rfl⟩
        go_wp2_with fail
        go_ret
        exact ⟨ri (by rw [HRES.out, HR.out, err_at hlt (by rw [HFE.out, HFF.out]; decide) HALL.out, HFE.out, HFF.out]), hE.then_al _⟩
      · have hnm' : fnameOk fm.name = true := by simpa using hnm
        have hNM := Lib.hid hnm'
        clear hnm hnm'
        have hlt' : (m : Int) < (t.length : Int) := by omega
        have hcp' : (m : Int) ≤ (cap : Int) := by omega
        have hm0' : (0 : Int) ≤ (m : Int) := by omega
        generalize hfv : findS (t.take m) fm.name = fv at *
        have HFV := Lib.hid hfv
        by_cases hfd : 0 ≤ fv
        · have e2 : decide ((0 : Int) ≤ fv) = true := decide_eq_true hfd
          have HFF : Hid (fmtErr t m fm = 5) := by show _ = _; rw [fmtErr, if_neg (by simp [hNM.out]), hfv, if_pos hfd]
          clear hfv
          go_wp2_with fail
          refine (fisName_any fm.name _ hnl).mono ?_
          rw [hNM.out]
          rintro e w' ⟨rfl, rfl⟩
          go_wp2_with fail
          have b0 : (wr.alloc (Obj.cells #[Value.string fm.name, Value.slice fa fm.fields.length fcap] 56)).cell? ⟨wr.heap.size, 0, none⟩ = some (.string fm.name) := cs_new rfl
          have b1 : (wr.alloc (Obj.cells #[Value.string fm.name, Value.slice fa fm.fields.length fcap] 56)).cell? ⟨wr.heap.size, 1, none⟩ = some (.slice fa fm.fields.length fcap) := cs_new rfl
          have HFCT := Lib.hid (And.intro b0 b1)
          refine wp_region_calm 8 (fun w' => Ext (wr.alloc (Obj.cells #[Value.string fm.name, Value.slice fa fm.fields.length fcap] 56)) w') (by kernel_rfl) (by kernel_rfl) (fun _ _ h hE => h.trans hE) (Ext.drew _) ?_
          refine calm_value (fun _ => rfl) ?_ (fun g w' hE => ?_) ?_
          rotate_left
          · (have ⟨z0, z1⟩ := cs_e2 hE HFCT.out; go_simp; first | done | rfl)
          refine calm_value (fun _ => rfl) ?_ (fun g w' hE => ?_) ?_
          rotate_left
          · (have ⟨z0, z1⟩ := cs_e2 hE HFCT.out; go_simp; first | done | rfl)
          refine calm_value (fun _ => rfl) ?_ (fun g w' hE => ?_) ?_
          rotate_left
          · (have ⟨z0, z1⟩ := cs_e2 hE HFCT.out; go_simp; first | done | rfl)
          refine calm_value (fun _ => rfl) ?_ (fun g w' hE => ?_) ?_
          rotate_left
          · (have ⟨z0, z1⟩ := cs_e2 hE HFCT.out; go_simp; first | done | rfl)
          refine calm_value (fun _ => rfl) ?_ (fun g w' hE => ?_) ?_
          rotate_left
          · (have ⟨z0, z1⟩ := cs_e2 hE HFCT.out; go_simp; first | done | rfl)
          refine calm_call' (fun _ => rfl) 62 ?_ (fun g w' hE => ?_) ?_
          rotate_left
          · (have ⟨z0, z1⟩ := cs_e2 hE HFCT.out; go_simp; first | done | exact ⟨rfl, rfl⟩ | rfl)
          apply Exists.intro
          refine And.intro (fun w' hE => ?_) ?_
          · (have h := findex_any (cap := cap) fm.name ((hTk.alloc hBr _).ext (by simp; omega) hE) (by have := hE.size; simp at this; omega); rw [htk, HFV.out] at h; exact h)
          refine calm_value (fun _ => rfl) ?_ (fun g w' hE => ?_) ?_
          rotate_left
          · (have ⟨z0, z1⟩ := cs_e2 hE HFCT.out; go_simp; first | done | rfl)
          refine calm_value (fun _ => rfl) ?_ (fun g w' hE => ?_) ?_
          rotate_left
          · (have ⟨z0, z1⟩ := cs_e2 hE HFCT.out; go_simp; first | done | rfl)
          intro gg wz hEz hFz
          simp only [List.drop_succ_cons, List.drop_zero, Act.put, List.setIfInBounds_toArray, List.set_cons_succ, List.set_cons_zero]
          have hEw : Ext w wz := (hE.then_al _).trans hEz
          have z0 := cs_ext hEz b0
          have z1 := cs_ext hEz b1
          go_wp2_with fail
          go_ret
          exact ⟨ri (by rw [HRES.out, HR.out, err_at hlt (by rw [HFE.out, HFF.out]; decide) HALL.out, HFE.out, HFF.out]), hEw⟩
        · have e2 : decide ((0 : Int) ≤ fv) = false := decide_eq_false hfd
          by_cases hz : fm.fields.length = 0
          · have e3 : ((fm.fields.length : Int) == 0) = true := beq_iff_eq.2 (by omega)
            have HFF : Hid (fmtErr t m fm = 8) := by show _ = _; rw [fmtErr, if_neg (by simp [hNM.out]), hfv, if_neg hfd, if_pos hz]
            have HZ := Lib.hid hz; clear hz
            clear hfv
            go_wp2_with fail
            refine (fisName_any fm.name _ hnl).mono ?_
            rw [hNM.out]
            rintro e w' ⟨rfl, rfl⟩
            go_wp2_with fail
            have b0 : (wr.alloc (Obj.cells #[Value.string fm.name, Value.slice fa fm.fields.length fcap] 56)).cell? ⟨wr.heap.size, 0, none⟩ = some (.string fm.name) := cs_new rfl
            have b1 : (wr.alloc (Obj.cells #[Value.string fm.name, Value.slice fa fm.fields.length fcap] 56)).cell? ⟨wr.heap.size, 1, none⟩ = some (.slice fa fm.fields.length fcap) := cs_new rfl
            have HFCT := Lib.hid (And.intro b0 b1)
            refine wp_region_calm 8 (fun w' => Ext (wr.alloc (Obj.cells #[Value.string fm.name, Value.slice fa fm.fields.length fcap] 56)) w') (by kernel_rfl) (by kernel_rfl) (fun _ _ h hE => h.trans hE) (Ext.drew _) ?_
            refine calm_value (fun _ => rfl) ?_ (fun g w' hE => ?_) ?_
            rotate_left
            · (have ⟨z0, z1⟩ := cs_e2 hE HFCT.out; go_simp; first | done | rfl)
            refine calm_value (fun _ => rfl) ?_ (fun g w' hE => ?_) ?_
            rotate_left
            · (have ⟨z0, z1⟩ := cs_e2 hE HFCT.out; go_simp; first | done | rfl)
            refine calm_value (fun _ => rfl) ?_ (fun g w' hE => ?_) ?_
            rotate_left
            · (have ⟨z0, z1⟩ := cs_e2 hE HFCT.out; go_simp; first | done | rfl)
            refine calm_value (fun _ => rfl) ?_ (fun g w' hE => ?_) ?_
            rotate_left
            · (have ⟨z0, z1⟩ := cs_e2 hE HFCT.out; go_simp; first | done | rfl)
            refine calm_value (fun _ => rfl) ?_ (fun g w' hE => ?_) ?_
            rotate_left
            · (have ⟨z0, z1⟩ := cs_e2 hE HFCT.out; go_simp; first | done | rfl)
            refine calm_call' (fun _ => rfl) 62 ?_ (fun g w' hE => ?_) ?_
            rotate_left
            · (have ⟨z0, z1⟩ := cs_e2 hE HFCT.out; go_simp; first | done | exact ⟨rfl, rfl⟩ | rfl)
            apply Exists.intro
            refine And.intro (fun w' hE => ?_) ?_
            · (have h := findex_any (cap := cap) fm.name ((hTk.alloc hBr _).ext (by simp; omega) hE) (by have := hE.size; simp at this; omega); rw [htk, HFV.out] at h; exact h)
            refine calm_value (fun _ => rfl) ?_ (fun g w' hE => ?_) ?_
            rotate_left
            · (have ⟨z0, z1⟩ := cs_e2 hE HFCT.out; go_simp; first | done | rfl)
            refine calm_value (fun _ => rfl) ?_ (fun g w' hE => ?_) ?_
            rotate_left
            · (have ⟨z0, z1⟩ := cs_e2 hE HFCT.out; go_simp; first | done | rfl)
            intro gg wz hEz hFz
            simp only [List.drop_succ_cons, List.drop_zero, Act.put, List.setIfInBounds_toArray, List.set_cons_succ, List.set_cons_zero]
            have hEw : Ext w wz := (hE.then_al _).trans hEz
            have z0 := cs_ext hEz b0
            have z1 := cs_ext hEz b1
            go_wp2_with fail
            go_ret
            exact ⟨ri (by rw [HRES.out, HR.out, err_at hlt (by rw [HFE.out, HFF.out]; decide) HALL.out, HFE.out, HFF.out]), hEw⟩
          · have e3 : ((fm.fields.length : Int) == 0) = false := beq_eq_false_iff_ne.2 (by omega)
            by_cases h6 : 6 < fm.fields.length
            · have e4 : decide ((6 : Int) < (fm.fields.length : Int)) = true := decide_eq_true (by omega)
              have HFF : Hid (fmtErr t m fm = 3) := by show _ = _; rw [fmtErr, if_neg (by simp [hNM.out]), hfv, if_neg hfd, if_neg hz, if_pos h6]
              clear hfv
              go_wp2_with fail
              refine (fisName_any fm.name _ hnl).mono ?_
              rw [hNM.out]
              rintro e w' ⟨rfl, rfl⟩
              go_wp2_with fail
              have b0 : (wr.alloc (Obj.cells #[Value.string fm.name, Value.slice fa fm.fields.length fcap] 56)).cell? ⟨wr.heap.size, 0, none⟩ = some (.string fm.name) := cs_new rfl
              have b1 : (wr.alloc (Obj.cells #[Value.string fm.name, Value.slice fa fm.fields.length fcap] 56)).cell? ⟨wr.heap.size, 1, none⟩ = some (.slice fa fm.fields.length fcap) := cs_new rfl
              have HFCT := Lib.hid (And.intro b0 b1)
              refine wp_region_calm 8 (fun w' => Ext (wr.alloc (Obj.cells #[Value.string fm.name, Value.slice fa fm.fields.length fcap] 56)) w') (by kernel_rfl) (by kernel_rfl) (fun _ _ h hE => h.trans hE) (Ext.drew _) ?_
              refine calm_value (fun _ => rfl) ?_ (fun g w' hE => ?_) ?_
              rotate_left
              · (have ⟨z0, z1⟩ := cs_e2 hE HFCT.out; go_simp; first | done | rfl)
              refine calm_value (fun _ => rfl) ?_ (fun g w' hE => ?_) ?_
              rotate_left
              · (have ⟨z0, z1⟩ := cs_e2 hE HFCT.out; go_simp; first | done | rfl)
              refine calm_value (fun _ => rfl) ?_ (fun g w' hE => ?_) ?_
              rotate_left
              · (have ⟨z0, z1⟩ := cs_e2 hE HFCT.out; go_simp; first | done | rfl)
              refine calm_value (fun _ => rfl) ?_ (fun g w' hE => ?_) ?_
              rotate_left
              · (have ⟨z0, z1⟩ := cs_e2 hE HFCT.out; go_simp; first | done | rfl)
              refine calm_value (fun _ => rfl) ?_ (fun g w' hE => ?_) ?_
              rotate_left
              · (have ⟨z0, z1⟩ := cs_e2 hE HFCT.out; go_simp; first | done | rfl)
              refine calm_call' (fun _ => rfl) 62 ?_ (fun g w' hE => ?_) ?_
              rotate_left
              · (have ⟨z0, z1⟩ := cs_e2 hE HFCT.out; go_simp; first | done | exact ⟨rfl, rfl⟩ | rfl)
              apply Exists.intro
              refine And.intro (fun w' hE => ?_) ?_
              · (have h := findex_any (cap := cap) fm.name ((hTk.alloc hBr _).ext (by simp; omega) hE) (by have := hE.size; simp at this; omega); rw [htk, HFV.out] at h; exact h)
              refine calm_value (fun _ => rfl) ?_ (fun g w' hE => ?_) ?_
              rotate_left
              · (have ⟨z0, z1⟩ := cs_e2 hE HFCT.out; go_simp; first | done | rfl)
              refine calm_value (fun _ => rfl) ?_ (fun g w' hE => ?_) ?_
              rotate_left
              · (have ⟨z0, z1⟩ := cs_e2 hE HFCT.out; go_simp; first | done | rfl)
              intro gg wz hEz hFz
              simp only [List.drop_succ_cons, List.drop_zero, Act.put, List.setIfInBounds_toArray, List.set_cons_succ, List.set_cons_zero]
              have hEw : Ext w wz := (hE.then_al _).trans hEz
              have z0 := cs_ext hEz b0
              have z1 := cs_ext hEz b1
              have hl6 := hF.1
              unfold maxLen at hl6
              go_wp2_with fail
              go_ret
              exact ⟨ri (by rw [HRES.out, HR.out, err_at hlt (by rw [HFE.out, HFF.out]; decide) HALL.out, HFE.out, HFF.out]), hEw⟩
            · have e4 : decide ((6 : Int) < (fm.fields.length : Int)) = false := decide_eq_false (by omega)
              have HFF : Hid (fmtErr t m fm = errFrom (fldE t fm.fields m) fm.fields.length) := by show _ = _; rw [fmtErr, if_neg (by simp [hNM.out]), hfv, if_neg hfd, if_neg hz, if_neg h6]
              clear hfv
              have hw1 : IntKind.i64.wrap ((fm.fields.length : Int) - 1) = (fm.fields.length : Int) - 1 := IntWalk.i64_in _ (by omega)
              have HW1 := Lib.hid hw1; clear hw1
              go_wp2_with fail
              refine (fisName_any fm.name _ hnl).mono ?_
              rw [hNM.out]
              rintro e w' ⟨rfl, rfl⟩
              go_wp2_with fail
              have b0 : (wr.alloc (Obj.cells #[Value.string fm.name, Value.slice fa fm.fields.length fcap] 56)).cell? ⟨wr.heap.size, 0, none⟩ = some (.string fm.name) := cs_new rfl
              have b1 : (wr.alloc (Obj.cells #[Value.string fm.name, Value.slice fa fm.fields.length fcap] 56)).cell? ⟨wr.heap.size, 1, none⟩ = some (.slice fa fm.fields.length fcap) := cs_new rfl
              have HFCT := Lib.hid (And.intro b0 b1)
              refine wp_region_calm 8 (fun w' => Ext (wr.alloc (Obj.cells #[Value.string fm.name, Value.slice fa fm.fields.length fcap] 56)) w') (by kernel_rfl) (by kernel_rfl) (fun _ _ h hE => h.trans hE) (Ext.drew _) ?_
              refine calm_value (fun _ => rfl) ?_ (fun g w' hE => ?_) ?_
              rotate_left
              · (have ⟨z0, z1⟩ := cs_e2 hE HFCT.out; go_simp; first | done | rfl)
              refine calm_value (fun _ => rfl) ?_ (fun g w' hE => ?_) ?_
              rotate_left
              · (have ⟨z0, z1⟩ := cs_e2 hE HFCT.out; go_simp; first | done | rfl)
              refine calm_value (fun _ => rfl) ?_ (fun g w' hE => ?_) ?_
              rotate_left
              · (have ⟨z0, z1⟩ := cs_e2 hE HFCT.out; go_simp; first | done | rfl)
              refine calm_value (fun _ => rfl) ?_ (fun g w' hE => ?_) ?_
              rotate_left
              · (have ⟨z0, z1⟩ := cs_e2 hE HFCT.out; go_simp; first | done | rfl)
              refine calm_value (fun _ => rfl) ?_ (fun g w' hE => ?_) ?_
              rotate_left
              · (have ⟨z0, z1⟩ := cs_e2 hE HFCT.out; go_simp; first | done | rfl)
              refine calm_call' (fun _ => rfl) 62 ?_ (fun g w' hE => ?_) ?_
              rotate_left
              · (have ⟨z0, z1⟩ := cs_e2 hE HFCT.out; go_simp; first | done | exact ⟨rfl, rfl⟩ | rfl)
              apply Exists.intro
              refine And.intro (fun w' hE => ?_) ?_
              · (have h := findex_any (cap := cap) fm.name ((hTk.alloc hBr _).ext (by simp; omega) hE) (by have := hE.size; simp at this; omega); rw [htk, HFV.out] at h; exact h)
              refine calm_value (fun _ => rfl) ?_ (fun g w' hE => ?_) ?_
              rotate_left
              · (have ⟨z0, z1⟩ := cs_e2 hE HFCT.out; go_simp; first | done | rfl)
              refine calm_value (fun _ => rfl) ?_ (fun g w' hE => ?_) ?_
              rotate_left
              · (have ⟨z0, z1⟩ := cs_e2 hE HFCT.out; go_simp; first | done | rfl)
              intro gg wz hEz hFz
              simp only [List.drop_succ_cons, List.drop_zero, Act.put, List.setIfInBounds_toArray, List.set_cons_succ, List.set_cons_zero]
              have hEw : Ext w wz := (hE.then_al _).trans hEz
              have z0 := cs_ext hEz b0
              have z1 := cs_ext hEz b1
              go_wp2_with fail
              go_loopw [5, 6, 7, 44] (fun _ _ _ i wr => ∃ q : Nat, q ≤ fm.fields.length ∧ i = .int .i64 q ∧ Ext wz wr ∧ ∀ j, j < q → fldE t fm.fields m j = 0) (fun _ _ _ i _ => fm.fields.length - (intOf i).toNat)
              case atStart => exact ⟨0, Nat.zero_le _, rfl, Ext.refl _, fun j h => by omega⟩
              case round =>
               obtain ⟨q, hq, rfl, hE2, hall2⟩ := hrel
               have HALL2 := Lib.hid hall2; clear hall2
               have hEq := hEw.trans hE2
               have hBq : B ≤ wr.heap.size := by have := hEq.size; omega
               have hTq := hT.ext hB hEq
               by_cases hlq : q < fm.fields.length
               · obtain ⟨x, hx⟩ : ∃ f, fm.fields[q]? = some f := ⟨_, List.getElem?_eq_getElem hlq⟩
                 obtain ⟨fb, foff, hfa, hfb, hc⟩ := (hF.ext (by simp; omega) (hEz.trans hE2)).get' hx
                 subst hfa
                 obtain ⟨c0, c1, c2, c3, c4, cw⟩ := hc
                 have HX := Lib.hid hx; clear hx
                 have hfb' : fb < wr.heap.size := by omega
                 have hlq' : (q : Int) < (fm.fields.length : Int) := by omega
                 have hq0' : (0 : Int) ≤ (q : Int) := by omega
                 have d3 := cs_al (o := Obj.cells #[Value.int IntKind.i64 x.kind, Value.string x.bytes, Value.int IntKind.i64 x.n, Value.int IntKind.i64 x.low, Value.int IntKind.i64 x.high] 59) (cs_ext hE2 z1)
                 have x0 : (wr.alloc (Obj.cells #[Value.int IntKind.i64 x.kind, Value.string x.bytes, Value.int IntKind.i64 x.n, Value.int IntKind.i64 x.low, Value.int IntKind.i64 x.high] 59)).cell? ⟨wr.heap.size, 0, none⟩ = some (.int .i64 x.kind) := cs_new rfl
                 have x1 : (wr.alloc (Obj.cells #[Value.int IntKind.i64 x.kind, Value.string x.bytes, Value.int IntKind.i64 x.n, Value.int IntKind.i64 x.low, Value.int IntKind.i64 x.high] 59)).cell? ⟨wr.heap.size, 1, none⟩ = some (.string x.bytes) := cs_new rfl
                 have x2 : (wr.alloc (Obj.cells #[Value.int IntKind.i64 x.kind, Value.string x.bytes, Value.int IntKind.i64 x.n, Value.int IntKind.i64 x.low, Value.int IntKind.i64 x.high] 59)).cell? ⟨wr.heap.size, 2, none⟩ = some (.int .i64 x.n) := cs_new rfl
                 have x3 : (wr.alloc (Obj.cells #[Value.int IntKind.i64 x.kind, Value.string x.bytes, Value.int IntKind.i64 x.n, Value.int IntKind.i64 x.low, Value.int IntKind.i64 x.high] 59)).cell? ⟨wr.heap.size, 3, none⟩ = some (.int .i64 x.low) := cs_new rfl
                 have x4 : (wr.alloc (Obj.cells #[Value.int IntKind.i64 x.kind, Value.string x.bytes, Value.int IntKind.i64 x.n, Value.int IntKind.i64 x.low, Value.int IntKind.i64 x.high] 59)).cell? ⟨wr.heap.size, 4, none⟩ = some (.int .i64 x.high) := cs_new rfl
                 have hlast : ((q : Int) == (fm.fields.length : Int) - 1) = decide (q + 1 = fm.fields.length) := by rw [Bool.eq_iff_iff]; simp; omega
                 have HXE : Hid (fldE t fm.fields m q = fieldErr (t.take m) x (decide (q + 1 = fm.fields.length))) := fldE_at HX.out
                 generalize hev : fieldErr (t.take m) x (decide (q + 1 = fm.fields.length)) = ev at HXE
                 have HEV := Lib.hid hev; clear hev
                 generalize hld : decide (q + 1 = fm.fields.length) = ld at hlast HEV
                 go_wp2_with fail
                 have hw1 := HW1.out
                 have HFCT := Lib.hid (And.intro d3 (And.intro x0 (And.intro x1 (And.intro x2 (And.intro x3 x4)))))
                 refine wp_region_calm 12 (fun w' => Ext (wr.alloc (Obj.cells #[Value.int IntKind.i64 x.kind, Value.string x.bytes, Value.int IntKind.i64 x.n, Value.int IntKind.i64 x.low, Value.int IntKind.i64 x.high] 59)) w') (by kernel_rfl) (by kernel_rfl) (fun _ _ h hE => h.trans hE) (Ext.drew _) ?_
                 refine calm_value (fun _ => rfl) ?_ (fun g w' hE => ?_) ?_
                 rotate_left
                 · (have ⟨z0, z1, z2, z3, z4, z5⟩ := cs_e6 hE HFCT.out; go_simp; first | done | rfl)
                 refine calm_value (fun _ => rfl) ?_ (fun g w' hE => ?_) ?_
                 rotate_left
                 · (have ⟨z0, z1, z2, z3, z4, z5⟩ := cs_e6 hE HFCT.out; go_simp; first | done | rfl)
                 refine calm_value (fun _ => rfl) ?_ (fun g w' hE => ?_) ?_
                 rotate_left
                 · (have ⟨z0, z1, z2, z3, z4, z5⟩ := cs_e6 hE HFCT.out; go_simp; first | done | rfl)
                 refine calm_value (fun _ => rfl) ?_ (fun g w' hE => ?_) ?_
                 rotate_left
                 · (have ⟨z0, z1, z2, z3, z4, z5⟩ := cs_e6 hE HFCT.out; go_simp; first | done | rfl)
                 refine calm_value (fun _ => rfl) ?_ (fun g w' hE => ?_) ?_
                 rotate_left
                 · (have ⟨z0, z1, z2, z3, z4, z5⟩ := cs_e6 hE HFCT.out; go_simp; first | done | rfl)
                 refine calm_value (fun _ => rfl) ?_ (fun g w' hE => ?_) ?_
                 rotate_left
                 · (have ⟨z0, z1, z2, z3, z4, z5⟩ := cs_e6 hE HFCT.out; go_simp; first | done | rfl)
                 refine calm_value (fun _ => rfl) ?_ (fun g w' hE => ?_) ?_
                 rotate_left
                 · (have ⟨z0, z1, z2, z3, z4, z5⟩ := cs_e6 hE HFCT.out; go_simp; first | done | rfl)
                 refine calm_value (fun _ => rfl) ?_ (fun g w' hE => ?_) ?_
                 rotate_left
                 · (have ⟨z0, z1, z2, z3, z4, z5⟩ := cs_e6 hE HFCT.out; go_simp; first | done | rfl)
                 refine calm_value (fun _ => rfl) ?_ (fun g w' hE => ?_) ?_
                 rotate_left
                 · (have ⟨z0, z1, z2, z3, z4, z5⟩ := cs_e6 hE HFCT.out; go_simp; first | done | rfl)
                 refine calm_value (fun _ => rfl) ?_ (fun g w' hE => ?_) ?_
                 rotate_left
                 · (have ⟨z0, z1, z2, z3, z4, z5⟩ := cs_e6 hE HFCT.out; go_simp; first | done | rfl)
                 refine calm_call' (fun _ => rfl) 63 ?_ (fun g w' hE => ?_) ?_
                 rotate_left
                 · (have ⟨z0, z1, z2, z3, z4, z5⟩ := cs_e6 hE HFCT.out; go_simp; first | done | exact ⟨rfl, rfl⟩ | rfl)
                 apply Exists.intro
                 refine And.intro (fun w' hE => ?_) ?_
                 · (have h := one_any (cap := cap) x ld (((hTq.take m).alloc hBq _).ext (by simp; omega) hE) (by have := hE.size; simp at this; omega); rw [htk, HEV.out] at h; exact h)
                 refine calm_value (fun _ => rfl) ?_ (fun g w' hE => ?_) ?_
                 rotate_left
                 · (have ⟨z0, z1, z2, z3, z4, z5⟩ := cs_e6 hE HFCT.out; go_simp; first | done | rfl)
                 intro g3 wy hEy hFy
                 simp only [List.drop_succ_cons, List.drop_zero, Act.put, List.setIfInBounds_toArray, List.set_cons_succ, List.set_cons_zero]
                 clear hw1 hlast
                 by_cases hev0 : ev = 0
                 · have e5 : (ev != 0) = false := by simp [hev0]
                   have HEV0 := Lib.hid hev0; clear hev0
                   go_wp2_with fail
                   go_roundw
                   case rel => exact ⟨q + 1, by omega, by go_num, (hE2.then_al _).trans hEy, fall_succ HALL2.out (by rw [HXE.out, HEV0.out])⟩
                   case measure => simp [intOf]; omega
                 · have e5 : (ev != 0) = true := by simp [hev0]
                   have HEV0 := Lib.hid hev0; clear hev0
                   go_wp2_with fail
                   go_ret
                   have HA : errFrom (fldE t fm.fields m) fm.fields.length = ev := by rw [err_at hlq (by rw [HXE.out]; exact HEV0.out) HALL2.out, HXE.out]
                   exact ⟨ri (by rw [HRES.out, HR.out, err_at hlt (by rw [HFE.out, HFF.out, HA]; exact HEV0.out) HALL.out, HFE.out, HFF.out, HA]), (hEq.then_al _).trans hEy⟩
               · go_wp2_with fail
                 go_roundw
                 case rel => exact ⟨m + 1, by omega, by go_num, hEq, fall_succ HALL.out (by rw [HFE.out, HFF.out, err_zero (fun j hj => HALL2.out j (by omega))])⟩
                 case measure => simp [intOf]; omega
    · go_wp2_with fail
      go_ret
      exact ⟨ri (by rw [HRES.out, HR.out, err_zero (fun j hj => HALL.out j (by omega))]), hE⟩

/-- what a field without an error is -/
def FOk (t : List Fmt) (f : Fld) (last : Bool) : Prop :=
 f.kind = 1 ∧ 1 ≤ f.bytes.size ∧ f.bytes.size ≤ 8 ∨ f.kind = 2 ∧ 1 ≤ f.n ∧ f.n ≤ 15 ∨ f.kind = 3 ∧ 0 ≤ f.n ∧ f.n ≤ 15 ∨
 f.kind = 4 ∧ 0 ≤ f.low ∧ f.low ≤ f.high ∧ f.high ≤ 255 ∨ f.kind = 5 ∧ (∃ (k : Nat) (g : Fmt), f.n = (k : Int) ∧ t[k]? = some g ∧ ∀ x ∈ g.fields, x.kind ≠ 5 ∧ x.kind ≠ 6) ∨
 f.kind = 6 ∧ last = true ∧ 0 ≤ f.low ∧ f.low ≤ f.high ∧ f.high ≤ 1000
theorem fieldErr_ok {t : List Fmt} {f : Fld} {last : Bool} (h : fieldErr t f last = 0) : FOk t f last := by
 unfold fieldErr at h
 by_cases h1 : shapeS f = false
 · rw [if_pos h1] at h; omega
 rw [if_neg h1] at h
 by_cases h2 : rangesS f last = false
 · rw [if_pos h2] at h; omega
 rw [if_neg h2] at h
 rw [Bool.not_eq_false] at h1 h2
 unfold FOk
 unfold shapeS at h1
 unfold rangesS at h2
 by_cases k1 : f.kind = 1
 · rw [if_pos k1, decide_eq_true_eq] at h2
   exact .inl ⟨k1, h2⟩
 rw [if_neg k1] at h1 h2
 by_cases k2 : f.kind = 2
 · rw [if_pos k2, decide_eq_true_eq] at h2
   exact .inr (.inl ⟨k2, h2⟩)
 rw [if_neg k2] at h2
 by_cases k3 : f.kind = 3
 · rw [if_pos k3, decide_eq_true_eq] at h2
   exact .inr (.inr (.inl ⟨k3, h2⟩))
 rw [if_neg k3] at h2
 by_cases k4 : f.kind = 4
 · rw [if_pos k4, decide_eq_true_eq] at h2
   exact .inr (.inr (.inr (.inl ⟨k4, h2⟩)))
 rw [if_neg k4] at h2
 by_cases k6 : f.kind = 6
 · rw [if_pos k6, decide_eq_true_eq] at h2
   exact .inr (.inr (.inr (.inr (.inr ⟨k6, h2⟩))))
 by_cases k5 : f.kind = 5
 · rw [if_neg (by simp [k5])] at h
   by_cases h3 : f.n < 0 ∨ (t.length : Int) ≤ f.n
   · rw [if_pos h3] at h; omega
   rw [if_neg h3] at h
   by_cases h4 : plain17 (t.getD f.n.toNat default).fields = false
   · rw [if_pos h4] at h; omega
   rw [Bool.not_eq_false] at h4
   have hlt : f.n.toNat < t.length := by
    have h3' := not_or.1 h3
    omega
   refine .inr (.inr (.inr (.inr (.inl ⟨k5, f.n.toNat, t[f.n.toNat], by have h3' := not_or.1 h3; omega, List.getElem?_eq_getElem hlt, ?_⟩))))
   unfold plain17 at h4
   rw [decide_eq_true_eq] at h4
   intro x hx
   refine h4 x ?_
   rwa [List.getD_eq_getElem?_getD, List.getElem?_eq_getElem hlt]
 · rw [if_neg (by omega), if_neg (by omega)] at h1; cases h1
theorem errFrom_zero {g : Nat → Int} {n : Nat} (h : errFrom g n = 0) : ∀ j, j < n → g j = 0 := by
 intro j hj
 refine Classical.byContradiction fun hne => ?_
 have key : ∃ k, k < n ∧ g k ≠ 0 ∧ ∀ i, i < k → g i = 0 := by
  clear h
  induction n with
  | zero => omega
  | succ n ih =>
    by_cases hex : ∃ i, i < n ∧ g i ≠ 0
    · obtain ⟨i, hi, hgi⟩ := hex
      have : ∀ m, m ≤ n → (∃ i, i < m ∧ g i ≠ 0) → ∃ k, k < m ∧ g k ≠ 0 ∧ ∀ i, i < k → g i = 0 := by
       intro m
       induction m with
       | zero => rintro - ⟨i, hi, -⟩; omega
       | succ m ih2 =>
         rintro hm ⟨i, hi, hgi⟩
         by_cases h2 : ∃ i, i < m ∧ g i ≠ 0
         · obtain ⟨k, h3, h4⟩ := ih2 (by omega) h2
           exact ⟨k, by omega, h4⟩
         · have : i = m := by
            rcases Nat.lt_or_ge i m with h3 | h3
            · exact absurd ⟨i, h3, hgi⟩ h2
            · omega
           subst this
           exact ⟨i, hi, hgi, fun q hq => Classical.byContradiction fun h3 => h2 ⟨q, hq, h3⟩⟩
      obtain ⟨k, h3, h4⟩ := this n (Nat.le_refl _) ⟨i, hi, hgi⟩
      exact ⟨k, by omega, h4⟩
    · have : j = n := by
       rcases Nat.lt_or_ge j n with h3 | h3
       · exact absurd ⟨j, h3, hne⟩ hex
       · omega
      subst this
      exact ⟨j, by omega, hne, fun q hq => Classical.byContradiction fun h3 => hex ⟨q, hq, h3⟩⟩
 obtain ⟨k, h1, h2, h3⟩ := key
 rw [err_at h1 h2 h3] at h
 exact h2 h
/-- what a format of a table without errors is -/
theorem valid_at {t : List Fmt} (h : validF t = 0) {i : Nat} {fm : Fmt} (hi : t[i]? = some fm) : fm.fields ≠ [] ∧ fm.fields.length ≤ 6 ∧ ∀ (k : Nat) x, fm.fields[k]? = some x → FOk (t.take i) x (decide (k + 1 = fm.fields.length)) := by
 unfold validF at h
 by_cases h8 : 8 < t.length
 · rw [if_pos h8] at h; omega
 rw [if_neg h8] at h
 have h1 := errFrom_zero h i (List.getElem?_eq_some_iff.1 hi).1
 rw [fmtE_at hi] at h1
 unfold fmtErr at h1
 by_cases a1 : fnameOk fm.name = false
 · rw [if_pos a1] at h1; omega
 rw [if_neg a1] at h1
 by_cases a2 : 0 ≤ findS (t.take i) fm.name
 · rw [if_pos a2] at h1; omega
 rw [if_neg a2] at h1
 by_cases a3 : fm.fields.length = 0
 · rw [if_pos a3] at h1; omega
 rw [if_neg a3] at h1
 by_cases a4 : 6 < fm.fields.length
 · rw [if_pos a4] at h1; omega
 rw [if_neg a4] at h1
 refine ⟨fun e => a3 (by rw [e]; rfl), by omega, fun k x hx => fieldErr_ok ?_⟩
 have h2 := errFrom_zero h1 k (List.getElem?_eq_some_iff.1 hx).1
 rwa [fldE_at hx] at h2
theorem valid_len {t : List Fmt} (h : validF t = 0) : t.length ≤ 8 := by
 unfold validF at h
 by_cases h8 : 8 < t.length
 · rw [if_pos h8] at h; omega
 · omega
/-- a further format -/
theorem valid_snoc {t : List Fmt} {fm : Fmt} (h : validF t = 0) (h8 : t.length < 8) (hn : fnameOk fm.name = true) (hf : findS t fm.name = -1) (h0 : fm.fields ≠ []) (h6 : fm.fields.length ≤ 6) (hx : ∀ (k : Nat) x, fm.fields[k]? = some x → fieldErr t x (decide (k + 1 = fm.fields.length)) = 0) : validF (t ++ [fm]) = 0 := by
 have ht := h
 unfold validF at ht ⊢
 rw [if_neg (by omega)] at ht
 rw [if_neg (by rw [List.length_append, List.length_singleton]; omega)]
 have hz := errFrom_zero ht
 refine err_zero fun j hj => ?_
 rw [List.length_append, List.length_singleton] at hj
 rcases Nat.lt_or_ge j t.length with hl | hl
 · have := hz j hl
   unfold fmtE at this ⊢
   rw [List.getElem?_append_left hl]
   cases hg : t[j]? with
   | none => rfl
   | some g =>
     rw [hg] at this
     have e : (t ++ [fm]).take j = t.take j := by rw [List.take_append_of_le_length (by omega)]
     have e2 : fldE (t ++ [fm]) g.fields j = fldE t g.fields j := by
      funext k
      unfold fldE
      rw [e]
     unfold fmtErr at this ⊢
     simp only at this ⊢
     rw [e, e2]
     exact this
 · have hj2 : j = t.length := by omega
   subst hj2
   have hg : (t ++ [fm])[t.length]? = some fm := by simp
   rw [fmtE_at hg]
   have e : (t ++ [fm]).take t.length = t := by simp
   have h0' : ¬ fm.fields.length = 0 := fun e => h0 (List.eq_nil_of_length_eq_zero e)
   unfold fmtErr
   rw [if_neg (by rw [hn]; simp), e, hf, if_neg (by omega), if_neg h0', if_neg (by omega)]
   refine err_zero fun k hk => ?_
   unfold fldE
   cases hk2 : fm.fields[k]? with
   | none => rfl
   | some x =>
     simp only [e]
     exact hx k x hk2

/-- the bounds of a field that is not nested -/
def bnd0 (f : Fld) : Int × Int :=
 if f.kind = 1 then (f.bytes.size, f.bytes.size) else if f.kind = 2 then (f.n, f.n) else if f.kind = 3 then (1, 1 + f.n) else if f.kind = 6 then (f.low, f.high) else (1, 1)
def addP (p q : Int × Int) : Int × Int := (p.1 + q.1, p.2 + q.2)
def bndL (L : List Fld) : Int × Int := L.foldl (fun p x => addP p (bnd0 x)) (0, 0)
def bndF (t : List Fmt) (f : Fld) : Int × Int := if f.kind = 5 then addP (1, 1) (bndL (t.getD f.n.toNat default).fields) else bnd0 f
def bndT (t : List Fmt) (L : List Fld) : Int × Int := L.foldl (fun p x => addP p (bndF t x)) (0, 0)
theorem bndL_step {L : List Fld} {k : Nat} {x : Fld} (h : L[k]? = some x) : bndL (L.take (k + 1)) = addP (bndL (L.take k)) (bnd0 x) := by
 unfold bndL; rw [List.take_add_one, h, Option.toList_some, List.foldl_append]; rfl
theorem bndT_step {t : List Fmt} {L : List Fld} {k : Nat} {x : Fld} (h : L[k]? = some x) : bndT t (L.take (k + 1)) = addP (bndT t (L.take k)) (bndF t x) := by
 unfold bndT; rw [List.take_add_one, h, Option.toList_some, List.foldl_append]; rfl
/-- numbers of strings, as far as the law asks -/
structure CRel (n : Nat) (b : Int × Int) (c : List Int) : Prop where
 len : c.length = n + 1
 cap : ∀ v ∈ c, 0 ≤ v ∧ v ≤ 4611686018427387905
 sup : ∀ (k : Nat) v, c[k]? = some v → v ≠ 0 → b.1 ≤ k ∧ (k : Int) ≤ b.2
 low : ∀ (k : Nat) v, c[k]? = some v → (k : Int) = b.1 → v ≠ 0
end Go.Proofs.YtfaienbdebjfcaaGreat
