/- Contracts: the program's names, sizes, order. Contracts: the program's sizes and order. Contracts: a copy of a term. -/
import Derived.Test.YtkobikdkbpdjeaaDoorG2
import Derived.Lib.Bytealg
import Derived.Laws.Externs
import Derived.OwnWalk
import Derived.Test.YtkobikdkbpdjeaaDoorG1
import Derived.Test.YtkobikdkbpdjeaaDoorG4
namespace Go.Proofs.YtkobikdkbpdjeaaDoor
open Go Go.RowKit
set_option linter.unusedVariables false
set_option linter.unusedSimpArgs false

/-- a byte that can stand in a name -/
def partB (c : UInt8) : Bool := decide (97 ≤ c.toNat ∧ c.toNat ≤ 122 ∨ 65 ≤ c.toNat ∧ c.toNat ≤ 90 ∨ 48 ≤ c.toNat ∧ c.toNat ≤ 57 ∨ c.toNat = 95 ∨ c.toNat = 35)

set_option maxHeartbeats 1000000 in
theorem part_any (c : UInt8) (w : World) :
 Calls Tryd.prog 83 #[.int .u8 c.toNat] w fun e w' => e = .returned (.bool (partB c)) ∧ w = w' := by
 have hc := c.toNat_lt
 rcases (by omega : c.toNat < 48 ∧ c.toNat ≠ 35 ∨ c.toNat = 35 ∨ (48 ≤ c.toNat ∧ c.toNat ≤ 57) ∨ (57 < c.toNat ∧ c.toNat < 65) ∨ (65 ≤ c.toNat ∧ c.toNat ≤ 90) ∨ (90 < c.toNat ∧ c.toNat < 97 ∧ c.toNat ≠ 95) ∨ c.toNat = 95 ∨ (97 ≤ c.toNat ∧ c.toNat ≤ 122) ∨ 122 < c.toNat) with ⟨h1, h2⟩ | h | ⟨h1, h2⟩ | ⟨h1, h2⟩ | ⟨h1, h2⟩ | ⟨h1, h2, h3⟩ | h | ⟨h1, h2⟩ | h1
 all_goals
  have HR : Hid (partB c = decide (97 ≤ c.toNat ∧ c.toNat ≤ 122 ∨ 65 ≤ c.toNat ∧ c.toNat ≤ 90 ∨ 48 ≤ c.toNat ∧ c.toNat ≤ 57 ∨ c.toNat = 95 ∨ c.toNat = 35)) := Lib.hid rfl
  go_enter Tryd.func83, Tryd.ntmps83
  go_wp2
  all_goals go_ret
  all_goals exact ⟨rb (by rw [HR.out, Bool.eq_iff_iff]; simp; omega), rfl⟩

theorem part_okB {c : UInt8} {i : Nat} (hi : i ≠ 0) : okB i c = partB c := by
 have : (i != 0) = true := by simp [hi]
 rw [okB, this, Bool.eq_iff_iff]
 simp [letterB, digitB, partB]
 omega

set_option maxRecDepth 100000 in
set_option maxHeartbeats 2000000 in
theorem PIsName_any (s : ByteArray) (w : World) (hs : s.size ≤ maxLen) :
 Calls Tryd.prog 75 #[.string s] w fun e w' => e = .returned (.bool (nameOk s)) ∧ w = w' := by
 unfold maxLen at hs
 by_cases h0 : s.size = 0
 · have HR : Hid (false = nameOk s) := Lib.hid (by symm; simp only [nameOk, decide_eq_false_iff_not]; omega)
   have e1 : s.toList = [] := by
    have : s = ⟨#[]⟩ := by
     obtain ⟨⟨l⟩⟩ := s
     have : l.length = 0 := h0
     rw [List.length_eq_zero_iff.1 this]
    rw [this, ByteArray.toList_eq]
   clear h0
   go_enter Tryd.func75, Tryd.ntmps75
   go_wp2
   go_ret
   exact ⟨rb HR.out, rfl⟩
 · have e1 : ¬ s.toList = [] := by
    intro e
    have := congrArg List.length e
    rw [ByteArray.toList_eq] at this
    exact h0 (by simpa using this)
   have e1' : (s.toList == []) = false := beq_eq_false_iff_ne.2 e1
   have hpos : 0 < s.size := by omega
   have hposz : (0 : Int) < s.size := by omega
   by_cases h24 : 24 < s.size
   · have h24z : (24 : Int) < s.size := by omega
     have HR : Hid (false = nameOk s) := Lib.hid (by symm; simp only [nameOk, decide_eq_false_iff_not]; omega)
     clear h0
     go_enter Tryd.func75, Tryd.ntmps75
     go_wp2
     go_ret
     exact ⟨rb HR.out, rfl⟩
   · have h24z : ¬ (24 : Int) < s.size := by omega
     have hb := s[0].toNat_lt
     have hcon := fun w' => part_any s[0] w'
     obtain ⟨p, hp⟩ : ∃ p, p = partB s[0] := ⟨_, rfl⟩
     rw [← hp] at hcon
     have HCON := Lib.hid hcon
     have HP := Lib.hid hp
     clear hcon hp h0
     by_cases hl : letterB s[0] = true
     · have HL := Lib.hid hl
       have hlt : (65 ≤ s[0].toNat ∧ s[0].toNat ≤ 90) ∨ (97 ≤ s[0].toNat ∧ s[0].toNat ≤ 122) := by simp [letterB] at hl; omega
       have hpt : p = true := by rw [HP.out]; simp [partB]; omega
       subst hpt
       have f1 : ¬ s[0].toNat ≤ 57 := by omega
       have f2 : (((s[0].toNat : Nat) : Int) == 95) = false := beq_eq_false_iff_ne.2 (by omega)
       have f3 : (((s[0].toNat : Nat) : Int) == 35) = false := beq_eq_false_iff_ne.2 (by omega)
       have f4 : decide (((s[0].toNat : Nat) : Int) ≤ 57) = false := decide_eq_false (by omega)
       have f5 : decide ((48 : Int) ≤ ((s[0].toNat : Nat) : Int)) = true := decide_eq_true (by omega)
       clear hl hlt
       go_enter Tryd.func75, Tryd.ntmps75
       go_wp2_with fail
       refine (HCON.out _).mono ?_
       rintro e w1 ⟨rfl, rfl⟩
       go_wp2_with fail
       go_loop [3, 39] (fun _ i => ∃ k : Nat, k ≤ s.size ∧ i = .int .i64 k ∧ ∀ j (h : j < s.size), j < k → okB j s[j] = true) (fun _ i => s.size - (intOf i).toNat)
       case atStart => exact ⟨0, Nat.zero_le _, rfl, fun j h hj => by omega⟩
       case round =>
        obtain ⟨k, hk, rfl, hall⟩ := hrel
        have HALL := Lib.hid hall; clear hall
        by_cases hlt : k < s.size
        · have hltz : (k : Int) < s.size := by omega
          have hbk := s[k].toNat_lt
          have hcl := fun w' => part_any s[k] w'
          obtain ⟨d, hd⟩ : ∃ d, d = partB s[k] := ⟨_, rfl⟩
          rw [← hd] at hcl
          have HCL := Lib.hid hcl
          have HOK : Hid (d = okB k s[k]) := Lib.hid (by
           by_cases h0 : k = 0
           · subst h0
             rw [hd, okB0, HL.out, ← HP.out]
           · rw [part_okB h0, hd])
          clear hcl hd
          go_wp2_with fail
          refine (HCL.out _).mono ?_
          rintro e w2 ⟨rfl, rfl⟩
          cases d with
          | true =>
            go_wp2_with fail
            go_round
            case rel => exact ⟨k + 1, by omega, by go_num, fun j h hj => by
              rcases Nat.lt_or_ge j k with h' | h'
              · exact HALL.out j h h'
              · have : j = k := by omega
                subst this
                exact HOK.out.symm⟩
            case measure => simp [intOf]; omega
          | false =>
            have HR : Hid (false = nameOk s) := Lib.hid (nameOk_false hlt HOK.out.symm)
            go_wp2_with fail
            go_ret
            exact ⟨rb HR.out, rfl⟩
        · have HR : Hid (true = nameOk s) := Lib.hid (by symm; simp only [nameOk, decide_eq_true_eq]; exact ⟨by omega, by omega, fun i h => HALL.out i h (by omega)⟩)
          go_wp2_with fail
          go_ret
          exact ⟨rb HR.out, rfl⟩
     · have hl' : letterB s[0] = false := by simpa using hl
       have HR : Hid (false = nameOk s) := Lib.hid (nameOk_false hpos (by rw [okB0]; exact hl'))
       have hnl : ¬ (97 ≤ s[0].toNat ∧ s[0].toNat ≤ 122 ∨ 65 ≤ s[0].toNat ∧ s[0].toNat ≤ 90) := by simpa [letterB] using hl'
       clear hl hl'
       cases p with
       | false =>
         clear hnl
         go_enter Tryd.func75, Tryd.ntmps75
         go_wp2_with fail
         refine (HCON.out _).mono ?_
         rintro e w1 ⟨rfl, rfl⟩
         go_wp2_with fail
         go_ret
         exact ⟨rb HR.out, rfl⟩
       | true =>
         have hpp : (48 ≤ s[0].toNat ∧ s[0].toNat ≤ 57) ∨ s[0].toNat = 95 ∨ s[0].toNat = 35 := by
          have := HP.out.symm
          simp [partB] at this
          omega
         clear hnl
         rcases hpp with ⟨q1, q2⟩ | q | q
         · go_enter Tryd.func75, Tryd.ntmps75
           go_wp2_with fail
           refine (HCON.out _).mono ?_
           rintro e w1 ⟨rfl, rfl⟩
           go_wp2_with fail
           go_ret
           exact ⟨rb HR.out, rfl⟩
         · have f5 : (((s[0].toNat : Nat) : Int) == 95) = true := by simp [q]
           have f4 : decide (((s[0].toNat : Nat) : Int) ≤ 57) = false := decide_eq_false (by omega)
           have f6 : decide ((48 : Int) ≤ ((s[0].toNat : Nat) : Int)) = true := decide_eq_true (by omega)
           have q1 : ¬ s[0].toNat ≤ 57 := by omega
           clear q
           go_enter Tryd.func75, Tryd.ntmps75
           go_wp2_with fail
           refine (HCON.out _).mono ?_
           rintro e w1 ⟨rfl, rfl⟩
           go_wp2_with fail
           go_ret
           exact ⟨rb HR.out, rfl⟩
         · have f5 : (((s[0].toNat : Nat) : Int) == 35) = true := by simp [q]
           have f4 : (((s[0].toNat : Nat) : Int) == 95) = false := beq_eq_false_iff_ne.2 (by omega)
           have f6 : decide ((48 : Int) ≤ ((s[0].toNat : Nat) : Int)) = false := decide_eq_false (by omega)
           have q1 : ¬ 48 ≤ s[0].toNat := by omega
           clear q
           go_enter Tryd.func75, Tryd.ntmps75
           go_wp2_with fail
           refine (HCON.out _).mono ?_
           rintro e w1 ⟨rfl, rfl⟩
           go_wp2_with fail
           go_ret
           exact ⟨rb HR.out, rfl⟩

theorem nameC_cmp (a b : ByteArray) : nameC a b = Lib.compareBytes a.data.toList b.data.toList := by
 unfold nameC
 rw [ByteArray.toList_eq, ByteArray.toList_eq]
 generalize a.data.toList = l
 generalize b.data.toList = m
 induction l generalizing m with
 | nil => cases m <;> simp [Op.bytesLess, Lib.compareBytes]
 | cons x l ih =>
   cases m with
   | nil => simp [Op.bytesLess, Lib.compareBytes]
   | cons y m =>
     have := ih m
     simp only [Op.bytesLess, Lib.compareBytes, Bool.or_eq_true, decide_eq_true_eq, Bool.and_eq_true, beq_iff_eq]
     by_cases h1 : x < y
     · simp [h1]
     · by_cases h2 : y < x
       · have h3 : ¬ x = y := fun e => by subst e; exact h1 h2
         simp [h1, h2, h3]
       · have h3 : x = y := by
          rcases UInt8.lt_or_lt_of_ne (a := x) (b := y) |> fun f => Classical.em (x = y) with h | h
          · exact h
          · rcases UInt8.lt_or_lt_of_ne h with h | h
            · exact absurd h h1
            · exact absurd h h2
         subst h3
         simp only [h1, false_or, true_and, if_false]
         exact this

theorem cellc {w : World} {b o : Nat} {c : Array Value} {T : TypeId} {fr : Nat × Nat} (h : w.heap[b]? = some (.cells c T fr)) : w.cell? ⟨b, o, none⟩ = c[o]? := by simp [World.cell?, h]
theorem frozenc {w : World} {b o : Nat} {c : Array Value} {T : TypeId} (h : w.heap[b]? = some (.cells c T)) : w.frozen? ⟨b, o, none⟩ = false := by simp [World.frozen?, h]
theorem Ext.setCell {w w' : World} (h : Ext w w') {b o : Nat} (hb : w.heap.size ≤ b) (v : Value) : Ext w (w'.setCell ⟨b, o, none⟩ v) := Below.setCell h (p := ⟨b, o, none⟩) hb v
/-- the cells of a struct value -/
def aggC (v : Value) : Array Value := match v with | .agg cs => cs | _ => #[]

/-- the copy under way: the block bx holds its fields, the row kv its kids -/
structure CloneI (w wr : World) (bx : Nat) (k : Int) (n : ByteArray) (s : Int) (kv : Value) (O : List Tm) : Prop where
 own : OwnT wr (bx + 2) (fun c => bx + 2 ≤ c ∧ kv.ownBlock ≠ some c) kv O
 blk : wr.heap[bx]? = some (.cells #[.int .i64 k, .string n, .int .i64 s, kv] 38)
 res : wr.heap[bx + 1]? = some (.cells #[.int .i64 0, .string ⟨#[]⟩, .int .i64 0, .slice none 0 0] 38)
 ext : Ext w wr
theorem CloneI.next {w wr w' : World} {bx : Nat} {k s : Int} {n : ByteArray} {kv : Value} {O : List Tm} (h : CloneI w wr bx k n s kv O) (hE : Ext wr w') : CloneI w w' bx k n s kv O :=
 ⟨h.own.ext hE, hs_ext hE h.blk, hs_ext hE h.res, h.ext.trans hE⟩
theorem CloneI.put {w wr w' : World} {bx : Nat} {k s : Int} {n : ByteArray} {kv v' : Value} {O O' : List Tm} (h : CloneI w wr bx k n s kv O) (hb : w.heap.size ≤ bx)
 (hO : OwnT w' (bx + 2) (fun c => (bx + 2 ≤ c ∧ kv.ownBlock ≠ some c) ∧ c < wr.heap.size) v' O') (hg : wr.grownBy w' kv.ownBlock) (hat : v'.ownBlock = kv.ownBlock ∨ v'.ownBlock = some wr.heap.size) :
 CloneI w (w'.setCell ⟨bx, 3, none⟩ v') bx k n s v' O' := by
 have hk := h.own.lt
 have hk' := hO.lt
 have n1 : bx < wr.heap.size := lt_of_get' h.blk
 have n2 : bx + 1 < wr.heap.size := lt_of_get' h.res
 have b1 : w'.heap[bx]? = some (.cells #[.int .i64 k, .string n, .int .i64 s, kv] 38) := by rw [hg.block bx n1 (fun e => by have := (hk bx e.symm).1; omega)]; exact h.blk
 have b2 : w'.heap[bx + 1]? = some (.cells #[.int .i64 0, .string ⟨#[]⟩, .int .i64 0, .slice none 0 0] 38) := by rw [hg.block _ n2 (fun e => by have := (hk _ e.symm).1; omega)]; exact h.res
 have hE : Ext w w' := h.ext.grown hg (fun q hq => by have := (hk q hq).1; omega)
 refine ⟨?_, ?_, ?_, hE.setCell hb v'⟩
 · refine (hO.keep (w' := w'.setCell ⟨bx, 3, none⟩ v') (fun q hq => heap_setCell_other _ _ _ _ (by have := (hk' q hq).1; show q ≠ bx; omega)) (fun c hc hlt => heap_setCell_other _ _ _ _ (by show c ≠ bx; omega))).wide (fun c hc _ => ⟨hc.1.1, fun e => ?_⟩)
   rcases hat with h1 | h1
   · exact hc.1.2 (by rw [← h1]; exact e)
   · rw [h1] at e
     simp only [Option.some.injEq] at e
     omega
 · have := heap_setCell_same w' bx 3 _ _ v' b1
   rw [this]
   simp
 · rw [heap_setCell_other _ _ _ _ (by show bx + 1 ≠ bx; omega)]
   exact b2

theorem CloneI.after {w wr w' : World} {bx : Nat} {k s : Int} {n : ByteArray} {kv : Value} {O : List Tm} (h : CloneI w wr bx k n s kv O) (hg : wr.grownBy w' kv.ownBlock) : w'.heap[bx]? = some (.cells #[.int .i64 k, .string n, .int .i64 s, kv] 38) := by
 rw [hg.block bx (lt_of_get' h.blk) (fun e => by have := (h.own.lt bx e.symm).1; omega)]; exact h.blk

end Go.Proofs.YtkobikdkbpdjeaaDoor
