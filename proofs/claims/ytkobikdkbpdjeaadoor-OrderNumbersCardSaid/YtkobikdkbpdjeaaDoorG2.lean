/- Contracts: the reference's names, sizes, levels. Contracts: the reference's errors and budgets. Contracts: the reference's errors of terms, budgets, order. Contracts: the reference's order of terms. Lists of terms in memory; rows of our own that hold terms; append. -/
import Derived.Test.YtkobikdkbpdjeaaDoorProg
import Derived.Test.YtkobikdkbpdjeaaDoorG1
import Derived.Deep.Cut
import Derived.Deep.DeepCutAuto
import Derived.Deep.QuietTactic
import Derived.BigQuiet
import Derived.Outline
import Derived.Laws.Cover1
namespace Go.Proofs.YtkobikdkbpdjeaaDoor
open Go Go.RowKit
set_option linter.unusedVariables false
set_option linter.unusedSimpArgs false

theorem letter_any (c : UInt8) (w : World) :
 Calls Tryd.prog 40 #[.int .u8 c.toNat] w fun e w' => e = .returned (.bool (letterB c)) ∧ w = w' := by
 go_enter Tryd.func40, Tryd.ntmps40
 go_wp2
 all_goals go_ret
 all_goals exact ⟨rb (by rw [Bool.eq_iff_iff]; simp [letterB]; omega), rfl⟩

theorem digit_any (c : UInt8) (w : World) :
 Calls Tryd.prog 41 #[.int .u8 c.toNat] w fun e w' => e = .returned (.bool (digitB c)) ∧ w = w' := by
 go_enter Tryd.func41, Tryd.ntmps41
 go_wp2
 all_goals go_ret
 all_goals exact ⟨rb (by rw [Bool.eq_iff_iff]; simp [digitB]; omega), rfl⟩

theorem sizeL_take {l : List Tm} {i : Nat} {x : Tm} (h : l[i]? = some x) : sizeL (l.take (i + 1)) = sizeL (l.take i) + sizeT x := by
 rw [List.take_add_one, h, sizeL_append]
 simp [sizeL]
theorem sizeL_take_le (l : List Tm) (i : Nat) : sizeL (l.take i) ≤ sizeL l := by
 have := sizeL_append (l.take i) (l.drop i)
 rw [List.take_append_drop] at this
 omega

theorem depthL_take {l : List Tm} {i : Nat} {x : Tm} (h : l[i]? = some x) : depthL (l.take (i + 1)) = max (depthL (l.take i)) (depthT x) := by
 induction l generalizing i with
 | nil => simp at h
 | cons y l ih =>
   cases i with
   | zero => simp at h; subst h; simp [depthL]
   | succ i => simp at h; simp only [List.take_succ_cons, depthL]; rw [ih h]; omega

theorem nameOk_false {s : ByteArray} {k : Nat} (h : k < s.size) (hf : okB k s[k] = false) : false = nameOk s := by
 symm
 simp only [nameOk, decide_eq_false_iff_not]
 rintro ⟨-, -, hall⟩
 rw [hall k h] at hf
 cases hf
theorem okB0 {c : UInt8} : okB 0 c = letterB c := by simp [okB]

set_option maxHeartbeats 1000000 in
theorem RIsName_any (s : ByteArray) (w : World) (hs : s.size ≤ maxLen) :
 Calls Tryd.prog 27 #[.string s] w fun e w' => e = .returned (.bool (nameOk s)) ∧ w = w' := by
 unfold maxLen at hs
 by_cases h0 : s.size = 0
 · have HR : Hid (false = nameOk s) := Lib.hid (by symm; simp only [nameOk, decide_eq_false_iff_not]; omega)
   have e1 : ((s.size : Int) == 0) = true := by simp [h0]
   clear h0
   go_enter Tryd.func27, Tryd.ntmps27
   go_wp2
   go_ret
   exact ⟨rb HR.out, rfl⟩
 · have e1 : ((s.size : Int) == 0) = false := by simp [h0]
   have hpos : 0 < s.size := by omega
   have hposz : (0 : Int) < s.size := by omega
   by_cases h24 : 24 < s.size
   · have HR : Hid (false = nameOk s) := Lib.hid (by symm; simp only [nameOk, decide_eq_false_iff_not]; omega)
     clear h0
     go_enter Tryd.func27, Tryd.ntmps27
     go_wp2
     go_ret
     exact ⟨rb HR.out, rfl⟩
   · by_cases hl : letterB s[0] = true
     · have HL := Lib.hid hl
       have hcon := fun w' => letter_any s[0] w'
       rw [hl] at hcon
       have HCON := Lib.hid hcon
       clear hl h0 hcon
       go_enter Tryd.func27, Tryd.ntmps27
       go_wp2_with fail
       refine (HCON.out _).mono ?_
       rintro e w1 ⟨rfl, rfl⟩
       go_wp2_with fail
       go_loop [3] (fun i => ∃ k : Nat, k ≤ s.size ∧ i = .int .i64 k ∧ ∀ j (h : j < s.size), j < k → okB j s[j] = true) (fun i => s.size - (intOf i).toNat)
       case atStart => exact ⟨0, Nat.zero_le _, rfl, fun j h hj => by omega⟩
       case round =>
        obtain ⟨k, hk, rfl, hall⟩ := hrel
        have HALL := Lib.hid hall; clear hall
        by_cases hlt : k < s.size
        · have hltz : (k : Int) < s.size := by omega
          have hstep : okB k s[k] = true → Hid (∀ j (h : j < s.size), j < k + 1 → okB j s[j] = true) := fun hok => Lib.hid (fun j h hj => by
           rcases Nat.lt_or_ge j k with h' | h'
           · exact HALL.out j h h'
           · have : j = k := by omega
             subst this
             exact hok)
          have HSTEP := Lib.hid hstep
          have hb := s[k].toNat_lt
          have hk0 : letterB s[k] = false → k ≠ 0 := fun h e => by subst e; rw [HL.out] at h; cases h
          obtain ⟨l, hl⟩ : ∃ l, l = letterB s[k] := ⟨_, rfl⟩
          obtain ⟨d, hd⟩ : ∃ d, d = digitB s[k] := ⟨_, rfl⟩
          have hcl := fun w' => letter_any s[k] w'
          have hcd := fun w' => digit_any s[k] w'
          rw [← hl] at hcl
          rw [← hd] at hcd
          have HCL := Lib.hid hcl
          have HCD := Lib.hid hcd
          have HL2 := Lib.hid hl
          have HD2 := Lib.hid hd
          have HK0 := Lib.hid hk0
          clear hcl hcd hl hd hk0 hstep
          cases l with
          | true =>
            have hn := HSTEP.out (by simp [okB, ← HL2.out])
            go_wp2_with fail
            refine (HCL.out _).mono ?_
            rintro e w2 ⟨rfl, rfl⟩
            go_wp2_with fail
            go_round
            case rel => exact ⟨k + 1, by omega, by go_num, hn.out⟩
            case measure => simp [intOf]; omega
          | false =>
            cases d with
            | true =>
              have hn := HSTEP.out (by simp [okB, ← HL2.out, ← HD2.out, HK0.out HL2.out.symm])
              go_wp2_with fail
              refine (HCL.out _).mono ?_
              rintro e w2 ⟨rfl, rfl⟩
              go_wp2_with fail
              refine (HCD.out _).mono ?_
              rintro e w3 ⟨rfl, rfl⟩
              go_wp2_with fail
              go_round
              case rel => exact ⟨k + 1, by omega, by go_num, hn.out⟩
              case measure => simp [intOf]; omega
            | false =>
              by_cases h95 : s[k].toNat = 95
              · have hn := HSTEP.out (by simp [okB, h95, HK0.out HL2.out.symm])
                have e2 : (((s[k].toNat : Nat) : Int) != 95) = false := by simp; omega
                clear h95
                go_wp2_with fail
                refine (HCL.out _).mono ?_
                rintro e w2 ⟨rfl, rfl⟩
                go_wp2_with fail
                refine (HCD.out _).mono ?_
                rintro e w3 ⟨rfl, rfl⟩
                go_wp2_with fail
                go_round
                case rel => exact ⟨k + 1, by omega, by go_num, hn.out⟩
                case measure => simp [intOf]; omega
              · have e2 : (((s[k].toNat : Nat) : Int) != 95) = true := by simp; omega
                by_cases h35 : s[k].toNat = 35
                · have hn := HSTEP.out (by simp [okB, h35, HK0.out HL2.out.symm])
                  have e3 : (((s[k].toNat : Nat) : Int) != 35) = false := by simp; omega
                  clear h95 h35
                  go_wp2_with fail
                  refine (HCL.out _).mono ?_
                  rintro e w2 ⟨rfl, rfl⟩
                  go_wp2_with fail
                  refine (HCD.out _).mono ?_
                  rintro e w3 ⟨rfl, rfl⟩
                  go_wp2_with fail
                  go_round
                  case rel => exact ⟨k + 1, by omega, by go_num, hn.out⟩
                  case measure => simp [intOf]; omega
                · have e3 : (((s[k].toNat : Nat) : Int) != 35) = true := by simp; omega
                  have HR : Hid (false = nameOk s) := Lib.hid (nameOk_false hlt (by simp [okB, h95, h35, ← HL2.out, ← HD2.out]))
                  clear h95 h35
                  go_wp2_with fail
                  refine (HCL.out _).mono ?_
                  rintro e w2 ⟨rfl, rfl⟩
                  go_wp2_with fail
                  refine (HCD.out _).mono ?_
                  rintro e w3 ⟨rfl, rfl⟩
                  go_wp2_with fail
                  go_ret
                  exact ⟨rb HR.out, rfl⟩
        · have HR : Hid (true = nameOk s) := Lib.hid (by symm; simp only [nameOk, decide_eq_true_eq]; exact ⟨by omega, by omega, fun i h => HALL.out i h (by omega)⟩)
          go_wp2_with fail
          go_ret
          exact ⟨rb HR.out, rfl⟩
     · have hl' : letterB s[0] = false := by simpa using hl
       have HR : Hid (false = nameOk s) := Lib.hid (nameOk_false hpos (by rw [okB0]; exact hl'))
       have hcon := fun w' => letter_any s[0] w'
       rw [hl'] at hcon
       have HCON := Lib.hid hcon
       clear hl h0 hl' hcon
       go_enter Tryd.func27, Tryd.ntmps27
       go_wp2_with fail
       refine (HCON.out _).mono ?_
       rintro e w1 ⟨rfl, rfl⟩
       go_wp2_with fail
       go_ret
       exact ⟨rb HR.out, rfl⟩

/-- the first error of a list, by places -/
theorem errL_take {l : List Tm} {i : Nat} {x : Tm} (h : l[i]? = some x) : errL (l.take (i + 1)) = orE (errL (l.take i)) (errT x) := by
 induction l generalizing i with
 | nil => simp at h
 | cons y l ih =>
   cases i with
   | zero => simp at h; subst h; simp only [Nat.zero_add, List.take_succ_cons, List.take_zero, errL]; unfold orE; (repeat' split) <;> simp_all
   | succ i =>
     simp at h
     simp only [List.take_succ_cons, errL]
     rw [ih h]
     unfold orE; (repeat' split) <;> simp_all
theorem errL_split (l m : List Tm) : errL (l ++ m) = orE (errL l) (errL m) := by
 induction l with
 | nil => simp [errL, orE]
 | cons y l ih => simp only [List.cons_append, errL, ih]; unfold orE; (repeat' split) <;> simp_all
theorem errL_at {l : List Tm} {i : Nat} {x : Tm} (h : l[i]? = some x) (h0 : errL (l.take i) = 0) : errL l = orE (errT x) (errL (l.drop (i + 1))) := by
 have := errL_split (l.take (i + 1)) (l.drop (i + 1))
 rw [List.take_append_drop, errL_take h, h0] at this
 rw [this]
 simp [orE]

theorem budL_take {l : List Tm} {i : Nat} {x : Tm} {m : Int} (h : l[i]? = some x) (h0 : 0 ≤ budL (l.take i) m) : budL (l.take (i + 1)) m = if budT x (budL (l.take i) m) < 0 then -1 else budT x (budL (l.take i) m) := by
 induction l generalizing i m with
 | nil => simp at h
 | cons y l ih =>
   cases i with
   | zero => simp at h; subst h; simp [budL]
   | succ i =>
     simp at h
     simp only [List.take_succ_cons, budL] at h0 ⊢
     split at h0
     · omega
     · rename_i hn
       rw [if_neg hn, if_neg hn, ih h h0]
theorem budL_split (l l' : List Tm) (m : Int) : budL (l ++ l') m = if budL l m < 0 then (if 0 ≤ m ∨ l ≠ [] then -1 else budL l' m) else budL l' (budL l m) := by
 induction l generalizing m with
 | nil => simp only [List.nil_append, budL]; (repeat' split) <;> simp_all <;> omega
 | cons y l ih =>
   simp only [List.cons_append, budL]
   split
   · simp
   · rename_i hn
     rw [ih]
     split
     · rename_i h2
       rw [if_pos (.inl (by omega)), if_pos (.inr (by simp))]
     · rfl
theorem budL_neg {l : List Tm} {i : Nat} {m : Int} (hm : 0 ≤ m) (h : budL (l.take i) m < 0) : budL l m = -1 := by
 have := budL_split (l.take i) (l.drop i) m
 rw [List.take_append_drop, if_pos h, if_pos (.inl hm)] at this
 exact this
mutual
theorem budT_ge : ∀ (t : Tm) (m : Int), -1 ≤ m → -1 ≤ budT t m ∧ budT t m ≤ m
 | .mk _ n _ l, m, hm => by
   rw [budT]
   split
   · omega
   · have := budL_ge l (m - 1) (by omega); omega
theorem budL_ge : ∀ (l : List Tm) (m : Int), -1 ≤ m → -1 ≤ budL l m ∧ budL l m ≤ m
 | [], m, h => by simp [budL]; omega
 | t :: l, m, h => by
   rw [budL]
   have := budT_ge t m h
   split
   · omega
   · have := budL_ge l _ this.1; omega
end
theorem budT_eq (t : Tm) (m : Int) : budT t m = if m ≤ 0 ∨ 40 < t.name.size then -1 else budL t.kids (m - 1) := by cases t; rw [budT]; rfl

theorem cmpL_take {l l' : List Tm} {i : Nat} {x y : Tm} (h : l[i]? = some x) (h' : l'[i]? = some y) : cmpL (l.take (i + 1)) (l'.take (i + 1)) = orE (cmpL (l.take i) (l'.take i)) (cmpT x y) := by
 induction l generalizing i l' with
 | nil => simp at h
 | cons z l ih =>
   cases l' with
   | nil => simp at h'
   | cons z' l' =>
     cases i with
     | zero => simp at h h'; subst h h'; simp only [Nat.zero_add, List.take_succ_cons, List.take_zero, cmpL]; unfold orE; (repeat' split) <;> simp_all
     | succ i =>
       simp at h h'
       simp only [List.take_succ_cons, cmpL]
       rw [ih h h']
       unfold orE; (repeat' split) <;> simp_all
theorem cmpL_split {l l' m m' : List Tm} (hl : l.length = l'.length) : cmpL (l ++ m) (l' ++ m') = orE (cmpL l l') (cmpL m m') := by
 induction l generalizing l' with
 | nil => cases l' with
   | nil => simp [cmpL, orE]
   | cons y l' => simp at hl
 | cons x l ih => cases l' with
   | nil => simp at hl
   | cons y l' =>
     simp only [List.cons_append, cmpL]
     rw [ih (by simpa using hl)]
     unfold orE; (repeat' split) <;> simp_all
theorem cmpL_at {l l' : List Tm} {i : Nat} {x y : Tm} (hl : l.length = l'.length) (h : l[i]? = some x) (h' : l'[i]? = some y) (h0 : cmpL (l.take i) (l'.take i) = 0) (hn : cmpT x y ≠ 0) : cmpL l l' = cmpT x y := by
 have := cmpL_split (l := l.take (i + 1)) (l' := l'.take (i + 1)) (m := l.drop (i + 1)) (m' := l'.drop (i + 1)) (by simp [hl])
 rw [List.take_append_drop, List.take_append_drop, cmpL_take h h', h0] at this
 rw [this]
 simp [orE, hn]
theorem cmpT_parts (s t : Tm) : cmpT s t = orE (sgn (sizeT s : Int) (sizeT t : Int)) (orE (sgn s.kind t.kind) (orE (nameC s.name t.name) (orE (sgn s.sort t.sort) (orE (sgn (s.kids.length : Int) (t.kids.length : Int)) (cmpL s.kids t.kids))))) := by
 cases s; cases t
 rw [cmpT, sizeT, sizeT]
 rfl
theorem cmpT_I64 : ∀ n : Nat, ∀ s t : Tm, sizeT s ≤ n → -1 ≤ cmpT s t ∧ cmpT s t ≤ 1 := by
 have ho : ∀ a b : Int, (-1 ≤ a ∧ a ≤ 1) → (-1 ≤ b ∧ b ≤ 1) → -1 ≤ orE a b ∧ orE a b ≤ 1 := fun a b h k => by unfold orE; split <;> assumption
 have hs : ∀ a b : Int, -1 ≤ sgn a b ∧ sgn a b ≤ 1 := fun a b => by unfold sgn; (repeat' split) <;> omega
 have hm : ∀ a b : ByteArray, -1 ≤ nameC a b ∧ nameC a b ≤ 1 := fun a b => by unfold nameC; (repeat' split) <;> omega
 intro n
 induction n with
 | zero => intro s t h; have := sizeT_kids s; omega
 | succ n ih =>
   intro s t h
   rw [cmpT_parts]
   refine ho _ _ (hs _ _) (ho _ _ (hs _ _) (ho _ _ (hm _ _) (ho _ _ (hs _ _) (ho _ _ (hs _ _) ?_))))
   have hk : sizeL s.kids ≤ n := by have := sizeT_kids s; omega
   generalize s.kids = l at hk
   generalize t.kids = l'
   induction l generalizing l' with
   | nil => simp [cmpL]
   | cons x l ih2 =>
     rw [sizeL] at hk
     cases l' with
     | nil => simp [cmpL]
     | cons y l' => rw [cmpL]; exact ho _ _ (ih x y (by omega)) (ih2 (by omega) l')

/-- a term with the place and the room of its kids -/
structure TE where
 t : Tm
 a : Option Addr
 cap : Nat
instance : Inhabited TE := ⟨⟨default, none, 0⟩⟩
def encE (e : TE) : List Value := [.int .i64 e.t.kind, .string e.t.name, .int .i64 e.t.sort, .slice e.a e.t.kids.length e.cap]
theorem encE_len (e : TE) : (encE e).length = 4 := rfl
theorem encE_one (L : List TE) : ∀ u ∈ L.flatMap encE, u.oneCell' = true := by
 intro u hu
 obtain ⟨e, -, he⟩ := List.mem_flatMap.1 hu
 simp [encE] at he
 rcases he with rfl | rfl | rfl | rfl <;> rfl
/-- the slice v reads as the terms L -/
def LsT (w : World) (S : Nat → Prop) (v : Value) (L : List Tm) : Prop := ∃ a cap, v = .slice a L.length cap ∧ L.length ≤ cap ∧ cap ≤ maxLen ∧ TsA w S a L
/-- the row v of our own holds the terms L -/
def OwnT (w : World) (base : Nat) (S : Nat → Prop) (v : Value) (L : List Tm) : Prop :=
 ∃ E : List TE, E.map (·.t) = L ∧ w.ownsRow base 38 4 v E.length (E.flatMap encE) ∧ ∀ e ∈ E, TmW w S e.a e.cap e.t

section
variable {w w' : World} {S S' : Nat → Prop} {base : Nat} {v v' : Value} {L L' : List Tm} {a : Option Addr}
theorem LsT.ext (h : LsT w S v L) (hE : Ext w w') : LsT w' S v L :=
 let ⟨a, cap, e, h1, h2, h3⟩ := h
 ⟨a, cap, e, h1, h2, h3.ext hE⟩
theorem LsT.wide (h : LsT w S v L) (hS : ∀ c, S c → c < w.heap.size → S' c) : LsT w S' v L :=
 let ⟨a, cap, e, h1, h2, h3⟩ := h
 ⟨a, cap, e, h1, h2, h3.wide hS⟩
theorem LsT.nil : LsT w S (.slice none 0 0) [] := ⟨none, 0, rfl, by simp, by unfold maxLen; omega, fun i t h => by simp at h⟩
theorem LsT.ts {n cap : Nat} (h : LsT w S (.slice a n cap) L) : TsA w S a L := by
 obtain ⟨a', cap', e, -, -, h⟩ := h
 cases e
 exact h
theorem LsT.len {n cap : Nat} (h : LsT w S (.slice a n cap) L) : n = L.length ∧ L.length ≤ cap ∧ cap ≤ maxLen := by
 obtain ⟨a', cap', e, h1, h2, -⟩ := h
 cases e
 exact ⟨rfl, h1, h2⟩
theorem TmW.ls {cap : Nat} {t : Tm} (h : TmW w S a cap t) : LsT w S (.slice a t.kids.length cap) t.kids := ⟨a, cap, rfl, h.len, h.cap, h.ts⟩
/-- the kids of a list that lies in S -/
theorem LsT.kids {n cap : Nat} (h : LsT w S (.slice a n cap) L) (hS : ∀ b o, a = some ⟨b, o, none⟩ → S b) : KidsA w S a L := by
 have ht := h.ts
 cases hL : L with
 | nil => exact ⟨0, 0, fun h => absurd rfl h, fun i t hi => by simp at hi⟩
 | cons x M =>
   obtain ⟨b, off, rfl, -⟩ := ht 0 x (by rw [hL]; rfl)
   refine ⟨b, off, fun _ => ⟨rfl, hS b off rfl⟩, fun i t hi => ?_⟩
   obtain ⟨b', off', e, h'⟩ := ht i t (by rw [hL]; exact hi)
   cases e
   exact h'

/-- a list read as entries -/
theorem TsA.entries (h : TsA w S a L) : ∃ E : List TE, E.map (·.t) = L ∧ (∀ e ∈ E, TmW w S e.a e.cap e.t) ∧ ∀ (i : Nat) e, E[i]? = some e → ∃ b off, a = some ⟨b, off, none⟩ ∧ ∀ j u, (encE e)[j]? = some u → w.cell? ⟨b, off + i * 4 + j, none⟩ = some u := by
 have key : ∀ n, n ≤ L.length → ∃ E : List TE, E.map (·.t) = L.take n ∧ (∀ e ∈ E, TmW w S e.a e.cap e.t) ∧ ∀ (i : Nat) e, E[i]? = some e → ∃ b off, a = some ⟨b, off, none⟩ ∧ ∀ j u, (encE e)[j]? = some u → w.cell? ⟨b, off + i * 4 + j, none⟩ = some u := by
  intro n
  induction n with
  | zero => intro _; exact ⟨[], by simp, by simp, by simp⟩
  | succ n ih =>
    intro hn
    obtain ⟨E, h1, h2, h3⟩ := ih (by omega)
    obtain ⟨x, hx⟩ : ∃ x, L[n]? = some x := ⟨_, List.getElem?_eq_getElem (by omega)⟩
    obtain ⟨b, off, a', cap', e, c0, c1, c2, c3, hW⟩ := h.at hx
    have hEl : E.length = n := by have := congrArg List.length h1; simp at this; omega
    refine ⟨E ++ [⟨x, a', cap'⟩], by rw [List.map_append, h1, List.take_add_one, hx]; rfl, fun y hy => ?_, fun i y hi => ?_⟩
    · rcases List.mem_append.1 hy with hy | hy
      · exact h2 y hy
      · simp at hy; subst hy; exact hW
    · by_cases hlt : i < n
      · rw [List.getElem?_append_left (by omega)] at hi
        exact h3 i y hi
      · have : i < (E ++ [(⟨x, a', cap'⟩ : TE)]).length := (List.getElem?_eq_some_iff.1 hi).1
        simp at this
        have : i = n := by omega
        subst this
        rw [List.getElem?_append_right (by omega), hEl] at hi
        simp at hi
        subst hi
        refine ⟨b, off, e, fun j u hu => ?_⟩
        match j, hu with
        | 0, hu => simp [encE] at hu; subst hu; exact c0
        | 1, hu => simp [encE] at hu; subst hu; exact c1
        | 2, hu => simp [encE] at hu; subst hu; exact c2
        | 3, hu => simp [encE] at hu; subst hu; exact c3
        | j + 4, hu => simp [encE] at hu
 obtain ⟨E, h1, h2⟩ := key L.length (Nat.le_refl _)
 exact ⟨E, by rw [h1, List.take_length], h2⟩
theorem add_none {b o j : Nat} : (⟨b, o, none⟩ : Addr).add j = ⟨b, o + j, none⟩ := by
 unfold Addr.add
 split
 · rename_i e; subst e; rfl
 · rfl
/-- cells of a row of entries -/
theorem entries_flat {b off : Nat} {E : List TE} (h : ∀ (i : Nat) e, E[i]? = some e → ∃ b' off', (some ⟨b, off, none⟩ : Option Addr) = some ⟨b', off', none⟩ ∧ ∀ j u, (encE e)[j]? = some u → w.cell? ⟨b', off' + i * 4 + j, none⟩ = some u) :
 ∀ j u, (E.flatMap encE)[j]? = some u → w.cell? ((⟨b, off, none⟩ : Addr).add j) = some u := by
 intro j u hu
 have hl : (E.flatMap encE).length = E.length * 4 := flatE_len encE_len E
 have hj : j < E.length * 4 := by rw [← hl]; exact (List.getElem?_eq_some_iff.1 hu).1
 obtain ⟨e, he⟩ : ∃ e, E[j / 4]? = some e := ⟨_, List.getElem?_eq_getElem (by omega)⟩
 have h1 := flatE_get encE_len E (j / 4) (j % 4) e he (by omega)
 rw [show j / 4 * 4 + j % 4 = j by omega, hu] at h1
 obtain ⟨b', off', e1, h2⟩ := h (j / 4) e he
 cases e1
 have h3 := h2 (j % 4) u h1.symm
 rw [add_none, show off + j = off + j / 4 * 4 + j % 4 by omega]
 exact h3

theorem OwnT.ext (h : OwnT w base S v L) (hE : Ext w w') : OwnT w' base S v L :=
 let ⟨E, h1, h2, h3⟩ := h
 ⟨E, h1, ownsRow_ext h2 hE, fun e he => (h3 e he).ext hE⟩
theorem OwnT.wide (h : OwnT w base S v L) (hS : ∀ c, S c → c < w.heap.size → S' c) : OwnT w base S' v L :=
 let ⟨E, h1, h2, h3⟩ := h
 ⟨E, h1, h2, fun e he => (h3 e he).wide hS⟩
theorem OwnT.nil : OwnT w base S (.slice none 0 0) [] := ⟨[], rfl, World.ownsRow_nil _ _ _ _, by simp⟩
theorem OwnT.lt (h : OwnT w base S v L) : ∀ k, v.ownBlock = some k → base ≤ k ∧ k < w.heap.size :=
 let ⟨_, _, h2, _⟩ := h
 h2.lt
theorem OwnT.keep (h : OwnT w base S v L) (h1 : ∀ g, v.ownBlock = some g → w'.heap[g]? = w.heap[g]?) (h2 : ∀ c, S c → c < w.heap.size → w'.heap[c]? = w.heap[c]?) : OwnT w' base S v L :=
 let ⟨E, e1, e2, e3⟩ := h
 ⟨E, e1, ownsRow_same e2 h1, fun e he => (e3 e he).keep h2 (fun _ h _ => h)⟩
theorem OwnT.ls (h : OwnT w base S v L) : LsT w S v L := by
 obtain ⟨E, rfl, h2, h3⟩ := h
 have hne : ∀ i t, (E.map (·.t))[i]? = some t → ∃ e : TE, E[i]? = some e ∧ e.t = t := fun i t hi => by
  rw [List.getElem?_map] at hi
  obtain ⟨e, he, h⟩ := Option.map_eq_some_iff.1 hi
  exact ⟨e, he, h⟩
 rcases h2.2 with ⟨rfl, h0⟩ | ⟨g, cap, cur, rfl, -, hg, hn, hc, -⟩
 · have : E = [] := List.length_eq_zero_iff.1 h0
   subst this
   exact LsT.nil
 · refine ⟨some ⟨g, 0, none⟩, cap, by rw [List.length_map], by rw [List.length_map]; exact hn, hc, fun i t hi => ?_⟩
   obtain ⟨e, he, rfl⟩ := hne i t hi
   obtain ⟨g', cap', e', -, -, -, hcell⟩ := rowN_at encE_len h2 he
   cases e'
   refine ⟨g, 0, rfl, ?_⟩
   have hW := h3 e (List.mem_of_getElem? he)
   rw [Nat.zero_add]
   exact TmAt.close (hcell 0 _ rfl) (hcell 1 _ rfl) (hcell 2 _ rfl) (hcell 3 _ rfl) hW

theorem info_parts {P : Program} {t : Nat} {z : Option Value} {a b : Nat} (h : (P.info? t).map (fun i => (i.zero, i.size, i.bytes)) = some (z, a, b)) : ∃ i, P.info? t = some i ∧ i.zero = z ∧ i.size = a ∧ i.bytes = b := by
 cases hi : P.info? t with
 | none => rw [hi] at h; cases h
 | some i =>
   rw [hi] at h
   simp at h
   exact ⟨i, rfl, h.1, h.2.1, h.2.2⟩
theorem infT : (Tryd.prog.info? 38).map (fun i => (i.zero, i.size, i.bytes)) = some (some (.agg #[.int .i64 0, .string ⟨#[]⟩, .int .i64 0, .slice none 0 0]), 4, 56) := by kernel_rfl

theorem append_of_nil {P : Program} {t ty e : TypeId} {i : TypeInfo} {size n c : Nat} {xs : List Value} (ht : P.underlying t = some (.slice e)) (hi : P.info? e = some i) (hown : w.ownsRow base e size v n xs) :
 (Builtin.append_ #[t, t] ty #[v, .slice none 0 c]).run P w = .ok v w := by
 have hu := hown.2
 clear hown
 rcases hu with ⟨h1, h2⟩ | ⟨g, cap, cur, h1, -, -, hnc, -⟩
 · subst h1 h2
   simp [Builtin.append_, run_underlying ht, sizeOf, typeInfo, hi, Builtin.lenOf, Builtin.firstCells]
 · subst h1
   simp [Builtin.append_, run_underlying ht, sizeOf, typeInfo, hi, Builtin.lenOf, Builtin.firstCells, hnc, storeCells]

/-- append to a row of our own -/
theorem appT {X : List Tm} {x : Value} {ty : TypeId} (h : OwnT w base S v L) (hb : base ≤ w.heap.size) (hS : ∀ c, S c → v.ownBlock ≠ some c) (hl : L.length ≤ 1000000) (hX : X.length ≤ 1000000) (hx : LsT w S x X) :
 ∃ v' w', (Builtin.append_ #[36, 36] ty #[v, x]).run Tryd.prog w = .ok v' w' ∧ OwnT w' base S v' (L ++ X) ∧ w.grownBy w' v.ownBlock ∧ (v'.ownBlock = v.ownBlock ∨ v'.ownBlock = some w.heap.size) := by
 obtain ⟨i0, hi0, hi1, hi2, hi3⟩ := info_parts infT
 obtain ⟨E, rfl, h2, h3⟩ := h
 obtain ⟨xa, xc, rfl, hx1, hx2, hxs⟩ := hx
 obtain ⟨F, rfl, f1, f2⟩ := hxs.entries
 simp only [List.length_map] at *
 cases xa with
 | none =>
   have hF : F = [] := by
    cases F with
    | nil => rfl
    | cons y F => obtain ⟨b, off, e, -⟩ := f2 0 y rfl; cases e
   subst hF
   refine ⟨v, w, append_of_nil Tryd.underlying36 hi0 h2, ?_, ⟨rfl, rfl, rfl, Nat.le_refl _, fun _ _ _ => rfl⟩, .inl rfl⟩
   simp only [List.map_nil, List.append_nil]
   exact ⟨E, rfl, h2, h3⟩
 | some ad =>
   have hcells : ∀ j u, (F.flatMap encE)[j]? = some u → w.cell? (ad.add j) = some u := by
    intro j u hu
    cases F with
    | nil => simp at hu
    | cons y F =>
      obtain ⟨b, off, e, -⟩ := f2 0 y rfl
      cases e
      exact entries_flat f2 j u hu
   obtain ⟨v', w', hr, r1, r2, r3, r4⟩ := run_append_own_at (P := Tryd.prog) w base 36 ty 38 i0 (.agg #[.int .i64 0, .string ⟨#[]⟩, .int .i64 0, .slice none 0 0]) 4 56 Tryd.underlying36 hi0 hi1 hi2 hi3 rfl (by decide)
    v E.length (E.flatMap encE) h2 ad F.length xc (F.flatMap encE) (flatE_len encE_len F) hcells (encE_one F) (by unfold maxLen; omega) (by omega) hb
   have hk : ∀ c, S c → c < w.heap.size → w'.heap[c]? = w.heap[c]? := fun c hc hlt => r2.block c hlt (fun e => hS c hc e.symm)
   refine ⟨v', w', hr, ⟨E ++ F, by rw [List.map_append], by rw [List.length_append, List.flatMap_append]; exact r1, fun e he => ?_⟩, r2, r4⟩
   rcases List.mem_append.1 he with he | he
   · exact (h3 e he).keep hk (fun _ h _ => h)
   · exact (f1 e he).keep hk (fun _ h _ => h)
end

theorem wpList_appT {ops : Array Oper} {rest : List Oper} {o : Oper} {a : Act} {w : World} {Q : Exit → Act → World → Prop} (hgd : o.guard = none) (s y : Operand)
 (ho : o.op = .call { callee := .builtin .append, args := #[s, y], argTypes := #[36, 36] }) {base : Nat} {S : Nat → Prop} {v x : Value} {L X : List Tm} (hs : a.eval s = v) (hy : a.eval y = x)
 (h : OwnT w base S v L) (hb : base ≤ w.heap.size) (hS : ∀ c, S c → v.ownBlock ≠ some c) (hl : L.length ≤ 1000000) (hX : X.length ≤ 1000000) (hx : LsT w S x X)
 (hK : ∀ v' w', OwnT w' base S v' (L ++ X) → w.grownBy w' v.ownBlock → (v'.ownBlock = v.ownBlock ∨ v'.ownBlock = some w.heap.size) → wpList Tryd.prog ops Q rest (a.put o.dst v') w') :
 wpList Tryd.prog ops Q (o :: rest) a w := by
 refine wpList_plain hgd fun K hK' => ?_
 obtain ⟨v', w', hr, h1, h2, h3⟩ := appT (ty := o.type) h hb hS hl hX hx
 unfold Oper.wp execOp
 simp only [ho, resolve, invoke, builtin, Sem.run_bind, Sem.run_pure, Result.andThen_ok, List.map_toArray, List.map_cons, List.map_nil, hs, hy, hr]
 exact hK' _ _ (hK v' w' h1 h2 h3)
theorem step_appT {ops : Array Oper} {o : Oper} {a : Act} {w : World} {K : Act → World → Prop} {Q : Exit → Act → World → Prop} {E : Prop} (hgd : o.guard = none) (s y : Operand)
 (ho : o.op = .call { callee := .builtin .append, args := #[s, y], argTypes := #[36, 36] }) {base : Nat} {S : Nat → Prop} {v x : Value} {L X : List Tm} (hs : a.eval s = v) (hy : a.eval y = x)
 (h : OwnT w base S v L) (hb : base ≤ w.heap.size) (hS : ∀ c, S c → v.ownBlock ≠ some c) (hl : L.length ≤ 1000000) (hX : X.length ≤ 1000000) (hx : LsT w S x X)
 (hK : ∀ v' w', OwnT w' base S v' (L ++ X) → w.grownBy w' v.ownBlock → (v'.ownBlock = v.ownBlock ∨ v'.ownBlock = some w.heap.size) → K (a.put o.dst v') w') :
 if Region.wanted o (yielded ops a.tmps) = true then Oper.wp Tryd.prog o a w K Q else E := by
 have hw : Region.wanted o (yielded ops a.tmps) = true := by simp [Region.wanted, hgd]
 rw [if_pos hw]
 obtain ⟨v', w', hr, h1, h2, h3⟩ := appT (ty := o.type) h hb hS hl hX hx
 unfold Oper.wp execOp
 simp only [ho, resolve, invoke, builtin, Sem.run_bind, Sem.run_pure, Result.andThen_ok, List.map_toArray, List.map_cons, List.map_nil, hs, hy, hr]
 exact hK v' w' h1 h2 h3

/-- the list of one term, in a block of its own -/
theorem one_ls {w : World} {S : Nat → Prop} {fb : Nat} {t : Tm} {a : Option Addr} {cap : Nat} (hfb : w.heap[fb]? = some (.cells #[.int .i64 t.kind, .string t.name, .int .i64 t.sort, .slice a t.kids.length cap] 38)) (hT : TmW w S a cap t) :
 LsT w S (.slice (some ⟨fb, 0, none⟩) 1 1) [t] :=
 ⟨some ⟨fb, 0, none⟩, 1, rfl, Nat.le_refl _, by unfold maxLen; omega, fun i x hi => by
  match i, hi with
  | 0, hi => cases hi; exact ⟨fb, 0, rfl, TmAt.close (by simp [World.cell?, hfb]) (by simp [World.cell?, hfb]) (by simp [World.cell?, hfb]) (by simp [World.cell?, hfb]) hT⟩⟩

/-- a part of a list -/
theorem LsT.drop {w : World} {S : Nat → Prop} {b off n cap m : Nat} {L : List Tm} (h : LsT w S (.slice (some ⟨b, off, none⟩) n cap) L) (hm : m ≤ L.length) : LsT w S (.slice (some ⟨b, off + m * 4, none⟩) (n - m) (cap - m)) (L.drop m) := by
 obtain ⟨a', cap', e, h1, h2, h3⟩ := h
 cases e
 refine ⟨_, cap - m, by rw [List.length_drop], by rw [List.length_drop]; omega, by omega, fun k x hk => ?_⟩
 rw [List.getElem?_drop] at hk
 obtain ⟨b', off', e, h4⟩ := h3 _ x hk
 cases e
 exact ⟨b, off + m * 4, rfl, by rwa [show off + (m + k) * 4 = off + m * 4 + k * 4 by omega] at h4⟩
theorem LsT.take {w : World} {S : Nat → Prop} {a : Option Addr} {n cap m : Nat} {L : List Tm} (h : LsT w S (.slice a n cap) L) (hm : m ≤ L.length) : LsT w S (.slice a m cap) (L.take m) := by
 obtain ⟨a', cap', e, h1, h2, h3⟩ := h
 cases e
 refine ⟨a, cap, by rw [List.length_take, Nat.min_eq_left hm], by rw [List.length_take]; omega, h2, fun k x hk => ?_⟩
 rw [List.getElem?_take] at hk
 split at hk
 · exact h3 k x hk
 · cases hk
theorem LsT.tail {w : World} {S : Nat → Prop} {b off cap : Nat} {x : Tm} {L : List Tm} (h : LsT w S (.slice (some ⟨b, off, none⟩) (L.length + 1) cap) (x :: L)) : LsT w S (.slice (if cap = 1 then some ⟨b, off, none⟩ else some ⟨b, off + 4, none⟩) L.length (cap - 1)) L := by
 have hd := h.drop (m := 1) (by simp)
 simp only [List.drop_succ_cons, List.drop_zero, Nat.add_sub_cancel, Nat.one_mul] at hd
 split
 · rename_i e
   subst e
   have hl := h.len.2.1
   have : L = [] := by simpa using hl
   subst this
   exact ⟨_, _, rfl, by simp, by unfold maxLen; omega, fun i t h => by simp at h⟩
 · exact hd
theorem LsT.some_of {w : World} {S : Nat → Prop} {a : Option Addr} {n cap : Nat} {x : Tm} {L : List Tm} (h : LsT w S (.slice a n cap) (x :: L)) : ∃ b off, a = some ⟨b, off, none⟩ := by
 obtain ⟨b, off, e, -⟩ := h.ts 0 x rfl
 exact ⟨b, off, e⟩

end Go.Proofs.YtkobikdkbpdjeaaDoor
