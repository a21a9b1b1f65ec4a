/- Contracts: the program's errors of terms. Contracts: the program's Valid, Replace. Contracts: a term replaced whole. Contracts: two ascending lists merged. Contracts: the program's summands. -/
import Derived.Test.YtfaienbdebjfcaaGreatG5
import Derived.Test.YtfaienbdebjfcaaGreatG4
import Derived.Test.YtfaienbdebjfcaaGreatG3
import Derived.Deep.RegionLaw
namespace Go.Proofs.YtfaienbdebjfcaaGreat
open Go Go.RowKit
set_option linter.unusedVariables false
set_option linter.unusedSimpArgs false

/-- only the blocks nb and db change, and new ones come -/
structure Two (nb db : Nat) (w w' : World) : Prop where
 os : w'.os = w.os
 tape : w'.tape = w.tape
 output : w'.output = w.output
 size : w.heap.size ≤ w'.heap.size
 block : ∀ k, k < w.heap.size → k ≠ nb → k ≠ db → w'.heap[k]? = w.heap[k]?
theorem Two.refl (nb db : Nat) (w : World) : Two nb db w w := ⟨rfl, rfl, rfl, Nat.le_refl _, fun _ _ _ _ => rfl⟩
theorem Two.trans {nb db : Nat} {a b c : World} (h : Two nb db a b) (k : Two nb db b c) : Two nb db a c :=
 ⟨k.os.trans h.os, k.tape.trans h.tape, k.output.trans h.output, Nat.le_trans h.size k.size, fun i h1 h2 h3 => (k.block i (Nat.lt_of_lt_of_le h1 h.size) h2 h3).trans (h.block i h1 h2 h3)⟩
theorem Two.alloc (nb db : Nat) (w : World) (o : Obj) : Two nb db w (w.alloc o) := ⟨rfl, rfl, rfl, (Ext.alloc w o).size, fun k hk _ _ => (Ext.alloc w o).block hk⟩
theorem Two.set {nb db b o : Nat} {w w' : World} (h : Two nb db w w') (hb : b = nb ∨ b = db) (v : Value) : Two nb db w (w'.setCell ⟨b, o, none⟩ v) :=
 h.trans ⟨rfl, rfl, rfl, by simp, fun k hk h1 h2 => heap_setCell_other _ _ _ _ (by show k ≠ b; rcases hb with rfl | rfl <;> assumption)⟩
theorem TmW.two {w w' : World} {S : Nat → Prop} {nb db : Nat} {a : Option Addr} {cap : Nat} {t : Tm} (h : TmW w S a cap t) (hE : Two nb db w w') (hS : ∀ c, S c → c ≠ nb ∧ c ≠ db) : TmW w' S a cap t :=
 h.keep (fun c hc hlt => hE.block c hlt (hS c hc).1 (hS c hc).2) (fun _ h _ => h)

/-- the counters hold N and D -/
structure Cnt (w : World) (nb db : Nat) (N D : Int) : Prop where
 n : w.heap[nb]? = some (.cells #[.int .i64 N] 3)
 d : w.heap[db]? = some (.cells #[.int .i64 D] 3)
theorem Cnt.al {w : World} {nb db : Nat} {N D : Int} (h : Cnt w nb db N D) (o : Obj) : Cnt (w.alloc o) nb db N D := ⟨hs_al h.n, hs_al h.d⟩

/-- what check answers -/
def ChkR (w : World) (nb db : Nat) (N D lv : Int) (t : Tm) (w' : World) : Prop :=
 ∃ N' D' : Int, Cnt w' nb db N' D' ∧ Two nb db w w' ∧ N ≤ N' ∧ N' ≤ N + sizeT t ∧ D ≤ D' ∧ D' ≤ max D (lv - 1 + depthT t) ∧ (errT t = 0 → N' = N + sizeT t ∧ D' = max D (lv - 1 + depthT t))
theorem depthL_take_le (l : List Tm) (i : Nat) : depthL (l.take i) ≤ depthL l := by
 induction l generalizing i with
 | nil => simp
 | cons x l ih =>
   cases i with
   | zero => simp [depthL]
   | succ i => have := ih i; simp only [List.take_succ_cons, depthL]; omega
theorem depthL_get {l : List Tm} {i : Nat} {x : Tm} (h : l[i]? = some x) : depthT x ≤ depthL l := by
 have h1 := depthL_take h
 have h2 := depthL_take_le l (i + 1)
 omega

set_option maxRecDepth 100000 in
set_option maxHeartbeats 4000000 in
theorem check_any (n : Nat) : ∀ (w : World) (S : Nat → Prop) (a : Option Addr) (cap : Nat) (t : Tm) (lv N D : Int) (nb db : Nat), sizeT t ≤ n → n ≤ 1000000 → 0 ≤ lv → lv + n ≤ 2000000 → 0 ≤ N → N + sizeT t ≤ 2000000 → 0 ≤ D → D ≤ 4000000 → nb ≠ db → (∀ c, S c → c ≠ nb ∧ c ≠ db) → Cnt w nb db N D → TmW w S a cap t →
 Calls Tryz.prog 92 #[.agg #[.int .i64 t.kind, .string t.name, .int .i64 t.sort, .slice a t.kids.length cap], .int .i64 lv, .pointer (some ⟨nb, 0, none⟩), .pointer (some ⟨db, 0, none⟩)] w fun e w' => e = .returned (.int .i64 (errT t)) ∧ ChkR w nb db N D lv t w' := by
 induction n with
 | zero => intro w S a cap t lv N D nb db hn; have := sizeT_kids t; omega
 | succ n ih =>
   intro w S a cap t lv N D nb db hn hn2 hlv hlv2 hN hN2 hD hD2 hnd hS hC hT
   have hl := hT.len
   have hc := hT.cap
   unfold maxLen at hc
   have hN1 : N + 1 ≤ 2000000 := by have := sizeT_kids t; omega
   have hnb := lt_of_get' hC.n
   have hdb := lt_of_get' hC.d
   obtain ⟨bx, hbx⟩ : ∃ bx, bx = w.heap.size := ⟨_, rfl⟩
   obtain ⟨w1, hw1⟩ : ∃ w1, w1 = w.alloc (.cells #[.int .i64 t.kind, .string t.name, .int .i64 t.sort, .slice a t.kids.length cap] 77) := ⟨_, rfl⟩
   have h0 : w1.heap[bx]? = some (.cells #[.int .i64 t.kind, .string t.name, .int .i64 t.sort, .slice a t.kids.length cap] 77) := by rw [hw1, hbx]; exact hs_new
   have hC1 : Cnt w1 nb db N D := by rw [hw1]; exact hC.al _
   have hW1 : Two nb db w w1 := by rw [hw1]; exact Two.alloc _ _ _ _
   have n0 : w1.cell? ⟨nb, 0, none⟩ = some (.int .i64 N) := by rw [cellc hC1.n]; rfl
   have nf : w1.frozen? ⟨nb, 0, none⟩ = false := frozenc hC1.n
   have d0 : w1.cell? ⟨db, 0, none⟩ = some (.int .i64 D) := by rw [cellc hC1.d]; rfl
   have df : w1.frozen? ⟨db, 0, none⟩ = false := frozenc hC1.d
   obtain ⟨D1, hD1⟩ : ∃ D1, D1 = max D lv := ⟨_, rfl⟩
   obtain ⟨w2, hw2⟩ : ∃ w2, w2 = (w1.setCell ⟨nb, 0, none⟩ (.int .i64 (N + 1))).setCell ⟨db, 0, none⟩ (.int .i64 D1) := ⟨_, rfl⟩
   have hC2 : Cnt w2 nb db (N + 1) D1 := by
    rw [hw2]
    have e1 : (w1.setCell ⟨nb, 0, none⟩ (.int .i64 (N + 1))).heap[db]? = some (.cells #[.int .i64 D] 3) := by rw [heap_setCell_other _ _ _ _ (by show db ≠ nb; omega)]; exact hC1.d
    constructor
    · rw [heap_setCell_other _ _ _ _ (by show nb ≠ db; omega), heap_setCell_same _ _ _ _ _ _ hC1.n]; simp
    · rw [heap_setCell_same _ _ _ _ _ _ e1]; simp
   have hW2 : Two nb db w w2 := by rw [hw2]; exact (hW1.set (.inl rfl) _).set (.inr rfl) _
   have h2 : w2.heap[bx]? = some (.cells #[.int .i64 t.kind, .string t.name, .int .i64 t.sort, .slice a t.kids.length cap] 77) := by
    rw [hw2, heap_setCell_other _ _ _ _ (by show bx ≠ db; omega), heap_setCell_other _ _ _ _ (by show bx ≠ nb; omega)]
    exact h0
   have b0 : w2.cell? ⟨bx, 0, none⟩ = some (.int .i64 t.kind) := by rw [cellc h2]; rfl
   have b1 : w2.cell? ⟨bx, 1, none⟩ = some (.string t.name) := by rw [cellc h2]; rfl
   have b2 : w2.cell? ⟨bx, 2, none⟩ = some (.int .i64 t.sort) := by rw [cellc h2]; rfl
   have b3 : w2.cell? ⟨bx, 3, none⟩ = some (.slice a t.kids.length cap) := by rw [cellc h2]; rfl
   have HT := Lib.hid hT
   obtain ⟨k, hk⟩ : ∃ k, k = t.kind := ⟨_, rfl⟩
   obtain ⟨sr, hsr⟩ : ∃ sr, sr = t.sort := ⟨_, rfl⟩
   obtain ⟨len, hlen⟩ : ∃ len, len = t.kids.length := ⟨_, rfl⟩
   obtain ⟨b, hb⟩ : ∃ b, b = nameOk t.name := ⟨_, rfl⟩
   have hcon := fun w' => PIsName_any t.name w' hT.name
   rw [← hb] at hcon
   have HCON := Lib.hid hcon
   have HB := Lib.hid hb
   have HER : Hid (errT t = orE (nodeE k t.name sr len) (errL t.kids)) := Lib.hid (by rw [errT_kids t, hk, hsr, hlen])
   have HK := Lib.hid (sizeT_kids t)
   have HDK := Lib.hid (depthT_kids t)
   have HN := Lib.hid hn
   have HN2 := Lib.hid hN2
   have HD1 := Lib.hid hD1
   have HC2 := Lib.hid hC2
   have HW2 := Lib.hid hW2
   have HS := Lib.hid hS
   have IH := Lib.hid ih
   have HBAD : Hid (errT t ≠ 0 → ChkR w nb db N D lv t w2) := Lib.hid (fun h => ⟨N + 1, D1, hC2, hW2, by omega, by have := sizeT_kids t; omega, by omega, by have := depthT_kids t; omega, fun e => absurd e h⟩)
   have hlenz : (len : Int) = t.kids.length := by rw [hlen]
   rw [← hlen] at b3 hl
   rw [← hk] at b0
   rw [← hsr] at b2
   rw [← hk, ← hsr, ← hlen] at hw1
   have HLEN := Lib.hid hlen
   have hlz : (0 : Int) ≤ len := by omega
   rw [← hk, ← hsr, ← hlen]
   clear hT hn ih h0 h2 hC hC1 hW1 hC2 hW2 hN2 hS hcon hb hk hsr hlen hlenz
   go_enter Tryz.func92, Tryz.ntmps92
   go_upto_region 1 with fail
   rw [← hw1, ← hbx]
   clear hw1 hbx
   go_upto_region 3 with fail
   rw [← HD1.out, ← hw2]
   clear hw2 n0 nf d0 df
   by_cases hbad : ¬ ((k = 1 ∨ k = 2) ∧ 0 ≤ sr ∧ sr ≤ 5 ∧ len = 0 ∨ k = 3 ∧ sr = 0)
   · have HR : Hid (errT t = 1) := Lib.hid (by rw [HER.out, nodeE, if_pos hbad]; rfl)
     have HRR := Lib.hid (HBAD.out (by rw [HR.out]; decide))
     have HBAD2 := Lib.hid hbad
     clear hbad
     rcases (by omega : k = 1 ∨ k = 2 ∨ k = 3 ∨ (k ≠ 1 ∧ k ≠ 2 ∧ k ≠ 3)) with rfl | rfl | rfl | ⟨h1, h2, h3⟩
     · have := HBAD2.out
       rcases (by omega : sr < 0 ∨ 5 < sr ∨ (0 ≤ sr ∧ sr ≤ 5)) with h | h | ⟨h, h'⟩
       · go_wp2; go_ret; exact ⟨ri HR.out.symm, HRR.out⟩
       · go_wp2; go_ret; exact ⟨ri HR.out.symm, HRR.out⟩
       · have hp : (0 : Int) < len := by omega
         have hp2 : 0 < len := by omega
         go_wp2; go_ret; exact ⟨ri HR.out.symm, HRR.out⟩
     · have := HBAD2.out
       rcases (by omega : sr < 0 ∨ 5 < sr ∨ (0 ≤ sr ∧ sr ≤ 5)) with h | h | ⟨h, h'⟩
       · go_wp2; go_ret; exact ⟨ri HR.out.symm, HRR.out⟩
       · go_wp2; go_ret; exact ⟨ri HR.out.symm, HRR.out⟩
       · have hp : (0 : Int) < len := by omega
         have hp2 : 0 < len := by omega
         go_wp2; go_ret; exact ⟨ri HR.out.symm, HRR.out⟩
     · have := HBAD2.out
       have hs : sr ≠ 0 := by omega
       have e2 : (sr != 0) = true := bne_iff_ne.2 hs
       go_wp2; go_ret; exact ⟨ri HR.out.symm, HRR.out⟩
     · have e1 : (k == 1) = false := beq_eq_false_iff_ne.2 h1
       have e2 : (k == 2) = false := beq_eq_false_iff_ne.2 h2
       have e3 : (k == 3) = false := beq_eq_false_iff_ne.2 h3
       go_wp2; go_ret; exact ⟨ri HR.out.symm, HRR.out⟩
   · have hgood : (k = 1 ∨ k = 2) ∧ 0 ≤ sr ∧ sr ≤ 5 ∧ len = 0 ∨ k = 3 ∧ sr = 0 := Classical.not_not.1 hbad
     have HR : Hid (errT t = orE (if b = false then 2 else if 8 < len then 3 else 0) (errL t.kids)) := Lib.hid (by rw [HER.out, nodeE, if_neg hbad, ← HB.out])
     clear hbad
     rcases hgood with ⟨rfl | rfl, h1, h2, hl0⟩ | ⟨rfl, rfl⟩
     · have hl0z : decide ((0 : Int) < len) = false := decide_eq_false (by omega)
       have hl0n : decide (0 < len) = false := decide_eq_false (by omega)
       have HL0 := Lib.hid hl0
       clear hl0
       skip
       cases b with
       | false =>
         have HRR : Hid (errT t = 2) := Lib.hid (by rw [HR.out]; rfl)
         have HRF := Lib.hid (HBAD.out (by rw [HRR.out]; decide))
         go_wp2_with fail
         refine (HCON.out _).mono ?_
         rintro e w3 ⟨rfl, rfl⟩
         go_wp2_with fail
         go_ret
         exact ⟨ri HRR.out.symm, HRF.out⟩
       | true =>
         by_cases h8 : 8 < len
         · have h8z : (8 : Int) < len := by omega
           have HRR : Hid (errT t = 3) := Lib.hid (by rw [HR.out, if_neg (by simp), if_pos h8]; rfl)
           have HRF := Lib.hid (HBAD.out (by rw [HRR.out]; decide))
           go_wp2_with fail
           refine (HCON.out _).mono ?_
           rintro e w3 ⟨rfl, rfl⟩
           go_wp2_with fail
           go_ret
           exact ⟨ri HRR.out.symm, HRF.out⟩
         · have h8z : ¬ (8 : Int) < len := by omega
           have HRE : Hid (errT t = errL t.kids) := Lib.hid (by rw [HR.out, if_neg (by simp), if_neg h8]; simp [orE])
           go_wp2_with fail
           refine (HCON.out _).mono ?_
           rintro e w3 ⟨rfl, rfl⟩
           go_wp2_with fail
           clear b0 b1 b2 b3
           go_loopw [10, 11, 59] (fun _ _ iv wr => ∃ (i : Nat) (Ni Di : Int), iv = .int .i64 i ∧ i ≤ len ∧ errL (t.kids.take i) = 0 ∧ Cnt wr nb db Ni Di ∧ Two nb db w2 wr ∧ Ni = N + 1 + sizeL (t.kids.take i) ∧ Di = max D1 (lv + depthL (t.kids.take i))) (fun _ _ iv _ => len - (intOf iv).toNat)
           case atStart => exact ⟨0, N + 1, D1, rfl, by omega, by simp [errL], HC2.out, Two.refl _ _ _, by simp [sizeL], by simp [depthL]; rw [HD1.out]; omega⟩
           case round =>
            obtain ⟨i, Ni, Di, rfl, hi, hz, hCi, hWi, hNi, hDi⟩ := hrel
            by_cases hlt : i < len
            · obtain ⟨x, hx⟩ : ∃ x, t.kids[i]? = some x := ⟨_, List.getElem?_eq_getElem (by rw [← HLEN.out]; exact hlt)⟩
              have HWi := Lib.hid (HW2.out.trans hWi)
              obtain ⟨xb, xo, xa, xc, rfl, x0, x1, x2, x3, hTx⟩ := (HT.out.two HWi.out HS.out).ts.at hx
              have hsx := sizeL_take hx
              have hsle := sizeL_take_le t.kids (i + 1)
              have hdle := depthL_take_le t.kids i
              have hdx := depthL_take hx
              have hdl2 := depthL_size t.kids
              have hk1 := HK.out
              have hk2 := HN.out
              have hk3 := HN2.out
              have hk4 := HD1.out
              have hcon := IH.out (wr.alloc (.cells #[.int .i64 x.kind, .string x.name, .int .i64 x.sort, .slice xa x.kids.length xc] 77)) S xa xc x (lv + 1) Ni Di nb db (by omega) (by omega) (by omega) (by omega) (by omega) (by omega) (by omega) (by omega) hnd HS.out (hCi.al _) (hTx.ext (Ext.alloc _ _))
              have hlv3 : lv + 1 ≤ 2000000 := by omega
              obtain ⟨z, hzz⟩ : ∃ z, z = errT x := ⟨_, rfl⟩
              rw [← hzz] at hcon
              have HCON2 := Lib.hid hcon
              have HX := Lib.hid hx
              have HZ := Lib.hid hz
              have HZZ := Lib.hid hzz
              have HNi := Lib.hid hNi
              have HDi := Lib.hid hDi
              have HWi2 := Lib.hid hWi
              have HSX := Lib.hid hsx
              have HDX := Lib.hid hdx
              clear hx hsx hsle hdle hdx hdl2 hk1 hk2 hk3 hk4 hcon hz hzz hNi hDi hWi hTx hCi
              go_wp2_with fail
              refine HCON2.out.mono ?_
              rintro e w4 ⟨rfl, hCh⟩
              have HCh := Lib.hid hCh
              clear hCh
              by_cases hz0 : z = 0
              · have e2 : (z != 0) = false := by simp [hz0]
                have HZ0 := Lib.hid hz0
                clear hz0
                go_wp2_with fail
                obtain ⟨N', D', q1, q2, q3, q4, q5, q6, q7⟩ := HCh.out
                obtain ⟨q8, q9⟩ := q7 (by rw [← HZZ.out]; exact HZ0.out)
                go_roundw
                case rel => exact ⟨i + 1, N', D', by go_num, by omega, by rw [errL_take HX.out, HZ.out, ← HZZ.out, HZ0.out]; rfl, q1, HWi2.out.trans ((Two.alloc _ _ _ _).trans q2), by rw [q8, HNi.out, HSX.out]; omega, by rw [q9, HDi.out, HDX.out]; omega⟩
                case measure => simp [intOf]; omega
              · have e2 : (z != 0) = true := by simp [hz0]
                have HRR : Hid (errT t = z) := Lib.hid (by rw [HRE.out, errL_at HX.out HZ.out, ← HZZ.out]; simp [orE, hz0])
                have HFIN : Hid (ChkR w nb db N D lv t w4) := Lib.hid (by
                 obtain ⟨N', D', q1, q2, q3, q4, q5, q6, q7⟩ := HCh.out
                 have hk1 := HK.out
                 have hk4 := HD1.out
                 have hk5 := HDK.out
                 have hk6 := HNi.out
                 have hk7 := HDi.out
                 have hk8 := HSX.out
                 have hk9 := HDX.out
                 have hsle := sizeL_take_le t.kids (i + 1)
                 have hdle := depthL_take_le t.kids (i + 1)
                 exact ⟨N', D', q1, HWi.out.trans ((Two.alloc _ _ _ _).trans q2), by omega, by omega, by omega, by omega, fun e => absurd (HRR.out ▸ e) hz0⟩)
                clear hz0
                go_wp2_with fail
                go_ret
                exact ⟨ri HRR.out.symm, HFIN.out⟩
            · have HTK : Hid (t.kids.take i = t.kids) := Lib.hid (List.take_of_length_le (by have := HLEN.out; omega))
              have HRR : Hid (errT t = 0) := Lib.hid (by rw [HRE.out, ← HTK.out]; exact hz)
              have HFIN : Hid (ChkR w nb db N D lv t wr) := Lib.hid (by
               rw [HTK.out] at hNi hDi
               have hk1 := HK.out
               have hk4 := HD1.out
               have hk5 := HDK.out
               exact ⟨Ni, Di, hCi, HW2.out.trans hWi, by omega, by omega, by omega, by omega, fun _ => ⟨by omega, by omega⟩⟩)
              clear hz hCi hWi hNi hDi
              go_wp2_with fail
              go_ret
              exact ⟨ri HRR.out.symm, HFIN.out⟩
     · have hl0z : decide ((0 : Int) < len) = false := decide_eq_false (by omega)
       have hl0n : decide (0 < len) = false := decide_eq_false (by omega)
       have HL0 := Lib.hid hl0
       clear hl0
       skip
       cases b with
       | false =>
         have HRR : Hid (errT t = 2) := Lib.hid (by rw [HR.out]; rfl)
         have HRF := Lib.hid (HBAD.out (by rw [HRR.out]; decide))
         go_wp2_with fail
         refine (HCON.out _).mono ?_
         rintro e w3 ⟨rfl, rfl⟩
         go_wp2_with fail
         go_ret
         exact ⟨ri HRR.out.symm, HRF.out⟩
       | true =>
         by_cases h8 : 8 < len
         · have h8z : (8 : Int) < len := by omega
           have HRR : Hid (errT t = 3) := Lib.hid (by rw [HR.out, if_neg (by simp), if_pos h8]; rfl)
           have HRF := Lib.hid (HBAD.out (by rw [HRR.out]; decide))
           go_wp2_with fail
           refine (HCON.out _).mono ?_
           rintro e w3 ⟨rfl, rfl⟩
           go_wp2_with fail
           go_ret
           exact ⟨ri HRR.out.symm, HRF.out⟩
         · have h8z : ¬ (8 : Int) < len := by omega
           have HRE : Hid (errT t = errL t.kids) := Lib.hid (by rw [HR.out, if_neg (by simp), if_neg h8]; simp [orE])
           go_wp2_with fail
           refine (HCON.out _).mono ?_
           rintro e w3 ⟨rfl, rfl⟩
           go_wp2_with fail
           clear b0 b1 b2 b3
           go_loopw [10, 11, 59] (fun _ _ iv wr => ∃ (i : Nat) (Ni Di : Int), iv = .int .i64 i ∧ i ≤ len ∧ errL (t.kids.take i) = 0 ∧ Cnt wr nb db Ni Di ∧ Two nb db w2 wr ∧ Ni = N + 1 + sizeL (t.kids.take i) ∧ Di = max D1 (lv + depthL (t.kids.take i))) (fun _ _ iv _ => len - (intOf iv).toNat)
           case atStart => exact ⟨0, N + 1, D1, rfl, by omega, by simp [errL], HC2.out, Two.refl _ _ _, by simp [sizeL], by simp [depthL]; rw [HD1.out]; omega⟩
           case round =>
            obtain ⟨i, Ni, Di, rfl, hi, hz, hCi, hWi, hNi, hDi⟩ := hrel
            by_cases hlt : i < len
            · obtain ⟨x, hx⟩ : ∃ x, t.kids[i]? = some x := ⟨_, List.getElem?_eq_getElem (by rw [← HLEN.out]; exact hlt)⟩
              have HWi := Lib.hid (HW2.out.trans hWi)
              obtain ⟨xb, xo, xa, xc, rfl, x0, x1, x2, x3, hTx⟩ := (HT.out.two HWi.out HS.out).ts.at hx
              have hsx := sizeL_take hx
              have hsle := sizeL_take_le t.kids (i + 1)
              have hdle := depthL_take_le t.kids i
              have hdx := depthL_take hx
              have hdl2 := depthL_size t.kids
              have hk1 := HK.out
              have hk2 := HN.out
              have hk3 := HN2.out
              have hk4 := HD1.out
              have hcon := IH.out (wr.alloc (.cells #[.int .i64 x.kind, .string x.name, .int .i64 x.sort, .slice xa x.kids.length xc] 77)) S xa xc x (lv + 1) Ni Di nb db (by omega) (by omega) (by omega) (by omega) (by omega) (by omega) (by omega) (by omega) hnd HS.out (hCi.al _) (hTx.ext (Ext.alloc _ _))
              have hlv3 : lv + 1 ≤ 2000000 := by omega
              obtain ⟨z, hzz⟩ : ∃ z, z = errT x := ⟨_, rfl⟩
              rw [← hzz] at hcon
              have HCON2 := Lib.hid hcon
              have HX := Lib.hid hx
              have HZ := Lib.hid hz
              have HZZ := Lib.hid hzz
              have HNi := Lib.hid hNi
              have HDi := Lib.hid hDi
              have HWi2 := Lib.hid hWi
              have HSX := Lib.hid hsx
              have HDX := Lib.hid hdx
              clear hx hsx hsle hdle hdx hdl2 hk1 hk2 hk3 hk4 hcon hz hzz hNi hDi hWi hTx hCi
              go_wp2_with fail
              refine HCON2.out.mono ?_
              rintro e w4 ⟨rfl, hCh⟩
              have HCh := Lib.hid hCh
              clear hCh
              by_cases hz0 : z = 0
              · have e2 : (z != 0) = false := by simp [hz0]
                have HZ0 := Lib.hid hz0
                clear hz0
                go_wp2_with fail
                obtain ⟨N', D', q1, q2, q3, q4, q5, q6, q7⟩ := HCh.out
                obtain ⟨q8, q9⟩ := q7 (by rw [← HZZ.out]; exact HZ0.out)
                go_roundw
                case rel => exact ⟨i + 1, N', D', by go_num, by omega, by rw [errL_take HX.out, HZ.out, ← HZZ.out, HZ0.out]; rfl, q1, HWi2.out.trans ((Two.alloc _ _ _ _).trans q2), by rw [q8, HNi.out, HSX.out]; omega, by rw [q9, HDi.out, HDX.out]; omega⟩
                case measure => simp [intOf]; omega
              · have e2 : (z != 0) = true := by simp [hz0]
                have HRR : Hid (errT t = z) := Lib.hid (by rw [HRE.out, errL_at HX.out HZ.out, ← HZZ.out]; simp [orE, hz0])
                have HFIN : Hid (ChkR w nb db N D lv t w4) := Lib.hid (by
                 obtain ⟨N', D', q1, q2, q3, q4, q5, q6, q7⟩ := HCh.out
                 have hk1 := HK.out
                 have hk4 := HD1.out
                 have hk5 := HDK.out
                 have hk6 := HNi.out
                 have hk7 := HDi.out
                 have hk8 := HSX.out
                 have hk9 := HDX.out
                 have hsle := sizeL_take_le t.kids (i + 1)
                 have hdle := depthL_take_le t.kids (i + 1)
                 exact ⟨N', D', q1, HWi.out.trans ((Two.alloc _ _ _ _).trans q2), by omega, by omega, by omega, by omega, fun e => absurd (HRR.out ▸ e) hz0⟩)
                clear hz0
                go_wp2_with fail
                go_ret
                exact ⟨ri HRR.out.symm, HFIN.out⟩
            · have HTK : Hid (t.kids.take i = t.kids) := Lib.hid (List.take_of_length_le (by have := HLEN.out; omega))
              have HRR : Hid (errT t = 0) := Lib.hid (by rw [HRE.out, ← HTK.out]; exact hz)
              have HFIN : Hid (ChkR w nb db N D lv t wr) := Lib.hid (by
               rw [HTK.out] at hNi hDi
               have hk1 := HK.out
               have hk4 := HD1.out
               have hk5 := HDK.out
               exact ⟨Ni, Di, hCi, HW2.out.trans hWi, by omega, by omega, by omega, by omega, fun _ => ⟨by omega, by omega⟩⟩)
              clear hz hCi hWi hNi hDi
              go_wp2_with fail
              go_ret
              exact ⟨ri HRR.out.symm, HFIN.out⟩
     · skip
       cases b with
       | false =>
         have HRR : Hid (errT t = 2) := Lib.hid (by rw [HR.out]; rfl)
         have HRF := Lib.hid (HBAD.out (by rw [HRR.out]; decide))
         go_wp2_with fail
         refine (HCON.out _).mono ?_
         rintro e w3 ⟨rfl, rfl⟩
         go_wp2_with fail
         go_ret
         exact ⟨ri HRR.out.symm, HRF.out⟩
       | true =>
         by_cases h8 : 8 < len
         · have h8z : (8 : Int) < len := by omega
           have HRR : Hid (errT t = 3) := Lib.hid (by rw [HR.out, if_neg (by simp), if_pos h8]; rfl)
           have HRF := Lib.hid (HBAD.out (by rw [HRR.out]; decide))
           go_wp2_with fail
           refine (HCON.out _).mono ?_
           rintro e w3 ⟨rfl, rfl⟩
           go_wp2_with fail
           go_ret
           exact ⟨ri HRR.out.symm, HRF.out⟩
         · have h8z : ¬ (8 : Int) < len := by omega
           have HRE : Hid (errT t = errL t.kids) := Lib.hid (by rw [HR.out, if_neg (by simp), if_neg h8]; simp [orE])
           go_wp2_with fail
           refine (HCON.out _).mono ?_
           rintro e w3 ⟨rfl, rfl⟩
           go_wp2_with fail
           clear b0 b1 b2 b3
           go_loopw [10, 11, 59] (fun _ _ iv wr => ∃ (i : Nat) (Ni Di : Int), iv = .int .i64 i ∧ i ≤ len ∧ errL (t.kids.take i) = 0 ∧ Cnt wr nb db Ni Di ∧ Two nb db w2 wr ∧ Ni = N + 1 + sizeL (t.kids.take i) ∧ Di = max D1 (lv + depthL (t.kids.take i))) (fun _ _ iv _ => len - (intOf iv).toNat)
           case atStart => exact ⟨0, N + 1, D1, rfl, by omega, by simp [errL], HC2.out, Two.refl _ _ _, by simp [sizeL], by simp [depthL]; rw [HD1.out]; omega⟩
           case round =>
            obtain ⟨i, Ni, Di, rfl, hi, hz, hCi, hWi, hNi, hDi⟩ := hrel
            by_cases hlt : i < len
            · obtain ⟨x, hx⟩ : ∃ x, t.kids[i]? = some x := ⟨_, List.getElem?_eq_getElem (by rw [← HLEN.out]; exact hlt)⟩
              have HWi := Lib.hid (HW2.out.trans hWi)
              obtain ⟨xb, xo, xa, xc, rfl, x0, x1, x2, x3, hTx⟩ := (HT.out.two HWi.out HS.out).ts.at hx
              have hsx := sizeL_take hx
              have hsle := sizeL_take_le t.kids (i + 1)
              have hdle := depthL_take_le t.kids i
              have hdx := depthL_take hx
              have hdl2 := depthL_size t.kids
              have hk1 := HK.out
              have hk2 := HN.out
              have hk3 := HN2.out
              have hk4 := HD1.out
              have hcon := IH.out (wr.alloc (.cells #[.int .i64 x.kind, .string x.name, .int .i64 x.sort, .slice xa x.kids.length xc] 77)) S xa xc x (lv + 1) Ni Di nb db (by omega) (by omega) (by omega) (by omega) (by omega) (by omega) (by omega) (by omega) hnd HS.out (hCi.al _) (hTx.ext (Ext.alloc _ _))
              have hlv3 : lv + 1 ≤ 2000000 := by omega
              obtain ⟨z, hzz⟩ : ∃ z, z = errT x := ⟨_, rfl⟩
              rw [← hzz] at hcon
              have HCON2 := Lib.hid hcon
              have HX := Lib.hid hx
              have HZ := Lib.hid hz
              have HZZ := Lib.hid hzz
              have HNi := Lib.hid hNi
              have HDi := Lib.hid hDi
              have HWi2 := Lib.hid hWi
              have HSX := Lib.hid hsx
              have HDX := Lib.hid hdx
              clear hx hsx hsle hdle hdx hdl2 hk1 hk2 hk3 hk4 hcon hz hzz hNi hDi hWi hTx hCi
              go_wp2_with fail
              refine HCON2.out.mono ?_
              rintro e w4 ⟨rfl, hCh⟩
              have HCh := Lib.hid hCh
              clear hCh
              by_cases hz0 : z = 0
              · have e2 : (z != 0) = false := by simp [hz0]
                have HZ0 := Lib.hid hz0
                clear hz0
                go_wp2_with fail
                obtain ⟨N', D', q1, q2, q3, q4, q5, q6, q7⟩ := HCh.out
                obtain ⟨q8, q9⟩ := q7 (by rw [← HZZ.out]; exact HZ0.out)
                go_roundw
                case rel => exact ⟨i + 1, N', D', by go_num, by omega, by rw [errL_take HX.out, HZ.out, ← HZZ.out, HZ0.out]; rfl, q1, HWi2.out.trans ((Two.alloc _ _ _ _).trans q2), by rw [q8, HNi.out, HSX.out]; omega, by rw [q9, HDi.out, HDX.out]; omega⟩
                case measure => simp [intOf]; omega
              · have e2 : (z != 0) = true := by simp [hz0]
                have HRR : Hid (errT t = z) := Lib.hid (by rw [HRE.out, errL_at HX.out HZ.out, ← HZZ.out]; simp [orE, hz0])
                have HFIN : Hid (ChkR w nb db N D lv t w4) := Lib.hid (by
                 obtain ⟨N', D', q1, q2, q3, q4, q5, q6, q7⟩ := HCh.out
                 have hk1 := HK.out
                 have hk4 := HD1.out
                 have hk5 := HDK.out
                 have hk6 := HNi.out
                 have hk7 := HDi.out
                 have hk8 := HSX.out
                 have hk9 := HDX.out
                 have hsle := sizeL_take_le t.kids (i + 1)
                 have hdle := depthL_take_le t.kids (i + 1)
                 exact ⟨N', D', q1, HWi.out.trans ((Two.alloc _ _ _ _).trans q2), by omega, by omega, by omega, by omega, fun e => absurd (HRR.out ▸ e) hz0⟩)
                clear hz0
                go_wp2_with fail
                go_ret
                exact ⟨ri HRR.out.symm, HFIN.out⟩
            · have HTK : Hid (t.kids.take i = t.kids) := Lib.hid (List.take_of_length_le (by have := HLEN.out; omega))
              have HRR : Hid (errT t = 0) := Lib.hid (by rw [HRE.out, ← HTK.out]; exact hz)
              have HFIN : Hid (ChkR w nb db N D lv t wr) := Lib.hid (by
               rw [HTK.out] at hNi hDi
               have hk1 := HK.out
               have hk4 := HD1.out
               have hk5 := HDK.out
               exact ⟨Ni, Di, hCi, HW2.out.trans hWi, by omega, by omega, by omega, by omega, fun _ => ⟨by omega, by omega⟩⟩)
              clear hz hCi hWi hNi hDi
              go_wp2_with fail
              go_ret
              exact ⟨ri HRR.out.symm, HFIN.out⟩

theorem Two.ext {nb db : Nat} {w w1 w' : World} (h : Ext w w1) (k : Two nb db w1 w') (hn : w.heap.size ≤ nb) (hd : w.heap.size ≤ db) : Ext w w' :=
 ⟨k.os.trans h.os, k.tape.trans h.tape, k.output.trans h.output, Nat.le_trans h.size k.size, fun i hi => (k.block i (Nat.lt_of_lt_of_le hi h.size) (by omega) (by omega)).trans (h.block hi)⟩

set_option maxRecDepth 100000 in
set_option maxHeartbeats 2000000 in
theorem PValid_any {w : World} {S : Nat → Prop} {a : Option Addr} {cap : Nat} {t : Tm} (hn : sizeT t ≤ 1000000) (hT : TmW w S a cap t) :
 Calls Tryz.prog 59 #[.agg #[.int .i64 t.kind, .string t.name, .int .i64 t.sort, .slice a t.kids.length cap]] w fun e w' => e = .returned (.int .i64 (validT t)) ∧ Ext w w' := by
 have hl := hT.len
 have hc := hT.cap
 unfold maxLen at hc
 obtain ⟨bx, hbx⟩ : ∃ bx, bx = w.heap.size := ⟨_, rfl⟩
 obtain ⟨w1, hw1⟩ : ∃ w1, w1 = w.alloc (.cells #[.int .i64 t.kind, .string t.name, .int .i64 t.sort, .slice a t.kids.length cap] 77) := ⟨_, rfl⟩
 have h0 : w1.heap[bx]? = some (.cells #[.int .i64 t.kind, .string t.name, .int .i64 t.sort, .slice a t.kids.length cap] 77) := by rw [hw1, hbx]; exact hs_new
 have hs1 : w1.heap.size = bx + 1 := by rw [hw1, hbx, World.size_alloc]
 have hE1 : Ext w w1 := by rw [hw1]; exact Ext.alloc w _
 obtain ⟨w3, hw3⟩ : ∃ w3, w3 = (w1.alloc (.cells #[.int .i64 0] 3)).alloc (.cells #[.int .i64 0] 3) := ⟨_, rfl⟩
 have hC : Cnt w3 (bx + 1) (bx + 1 + 1) 0 0 := by
  rw [hw3]
  constructor
  · rw [← hs1]; exact hs_al hs_new
  · have e : bx + 1 + 1 = (w1.alloc (.cells #[.int .i64 0] 3)).heap.size := by rw [World.size_alloc, hs1]
    rw [e]; exact hs_new
 have hE3 : Ext w1 w3 := by rw [hw3]; exact (Ext.alloc _ _).then_al _
 have h3 := hs_ext hE3 h0
 have b0 : w3.cell? ⟨bx, 0, none⟩ = some (.int .i64 t.kind) := by rw [cellc h3]; rfl
 have b1 : w3.cell? ⟨bx, 1, none⟩ = some (.string t.name) := by rw [cellc h3]; rfl
 have b2 : w3.cell? ⟨bx, 2, none⟩ = some (.int .i64 t.sort) := by rw [cellc h3]; rfl
 have b3 : w3.cell? ⟨bx, 3, none⟩ = some (.slice a t.kids.length cap) := by rw [cellc h3]; rfl
 have hT3 := ((hT.wide (S' := fun c => c < w.heap.size) (fun _ _ h => h)).ext (hE1.trans hE3))
 have hcon := check_any 1000000 w3 _ a cap t 1 0 0 (bx + 1) (bx + 1 + 1) hn (Nat.le_refl _) (by omega) (by omega) (by omega) (by omega) (by omega) (by omega) (by omega) (fun c hc => by omega) hC hT3
 obtain ⟨er, her⟩ : ∃ er, er = errT t := ⟨_, rfl⟩
 rw [← her] at hcon
 have HR : Hid (validT t = orE er (if 400 < sizeT t ∨ 40 < depthT t then 3 else 0)) := Lib.hid (by rw [validT, her])
 have HCON := Lib.hid hcon
 have HE1 := Lib.hid (hE1.trans hE3)
 have HER := Lib.hid her
 have HBX : Hid (bx = w.heap.size) := Lib.hid hbx
 have HS1 := Lib.hid hs1
 clear hT hT3 hcon her h0 hC hE1 hE3 h3
 go_enter Tryz.func59, Tryz.ntmps59
 go_upto_region 1 with fail
 rw [← hw1, ← hbx]
 clear hw1 hbx
 go_upto_region 2 with fail
 rw [← hw3]
 clear hw3 hs1
 go_wp2_with fail
 refine HCON.out.mono ?_
 rintro e w4 ⟨rfl, hR⟩
 have HCH := Lib.hid hR
 clear hR
 by_cases hz : er = 0
 · have e1 : (er != 0) = false := by simp [hz]
   obtain ⟨N', D', q1, q2, q3, q4, q5, q6, q7⟩ := HCH.out
   obtain ⟨q8, q9⟩ := q7 (by rw [← HER.out]; exact hz)
   have n0 : w4.cell? ⟨bx + 1, 0, none⟩ = some (.int .i64 N') := by rw [cellc q1.n]; rfl
   have d0 : w4.cell? ⟨bx + 1 + 1, 0, none⟩ = some (.int .i64 D') := by rw [cellc q1.d]; rfl
   have HE4 : Hid (Ext w w4) := Lib.hid (q2.ext HE1.out (by have := HBX.out; omega) (by have := HBX.out; omega))
   have HR2 : Hid (validT t = if 400 < N' ∨ 40 < D' then 3 else 0) := Lib.hid (by
    rw [HR.out, hz]
    have e1 : (400 < sizeT t ∨ 40 < depthT t) ↔ (400 < N' ∨ 40 < D') := by omega
    simp only [orE, if_true, e1])
   have HZ := Lib.hid hz
   clear hz q1 q2 q3 q4 q5 q6 q7 q8 q9 b0 b1 b2 b3
   by_cases h4 : 400 < N'
   · have HRR : Hid (validT t = 3) := Lib.hid (by rw [HR2.out, if_pos (.inl h4)])
     go_wp2_with fail
     go_ret
     exact ⟨ri HRR.out.symm, HE4.out⟩
   · by_cases h5 : 40 < D'
     · have HRR : Hid (validT t = 3) := Lib.hid (by rw [HR2.out, if_pos (.inr h5)])
       go_wp2_with fail
       go_ret
       exact ⟨ri HRR.out.symm, HE4.out⟩
     · have HRR : Hid (validT t = 0) := Lib.hid (by rw [HR2.out, if_neg (by omega)])
       go_wp2_with fail
       go_ret
       exact ⟨ri HRR.out.symm, HE4.out⟩
 · have e1 : (er != 0) = true := by simp [hz]
   have HRR : Hid (validT t = er) := Lib.hid (by rw [HR.out]; simp [orE, hz])
   have HE4 : Hid (Ext w w4) := Lib.hid (by
    obtain ⟨N', D', q1, q2, -⟩ := HCH.out
    exact q2.ext HE1.out (by have := HBX.out; omega) (by have := HBX.out; omega))
   clear hz
   go_wp2_with fail
   go_ret
   exact ⟨ri HRR.out.symm, HE4.out⟩

set_option maxRecDepth 100000 in
set_option maxHeartbeats 2000000 in
theorem replace_nil {w : World} {S S' : Nat → Prop} {a a' : Option Addr} {cap cap' : Nat} {t u : Tm} (hn : sizeT t ≤ 1000000) (hn' : sizeT u ≤ 1000000) (hT : TmW w S a cap t) (hU : TmW w S' a' cap' u) :
 Calls Tryz.prog 165 #[.agg #[.int .i64 t.kind, .string t.name, .int .i64 t.sort, .slice a t.kids.length cap], .slice none 0 0, .agg #[.int .i64 u.kind, .string u.name, .int .i64 u.sort, .slice a' u.kids.length cap']] w fun e w' => ∃ v, e = .returned (.tuple #[v, .int .i64 0]) ∧ Ext w w' ∧ IsS w' (fun c => w.heap.size ≤ c) v u := by
 have hl := hT.len
 have hc := hT.cap
 have hl' := hU.len
 have hc' := hU.cap
 unfold maxLen at hc hc'
 obtain ⟨bx, hbx⟩ : ∃ bx, bx = w.heap.size := ⟨_, rfl⟩
 obtain ⟨w0, hw0⟩ : ∃ w0, w0 = w.alloc (.cells #[.int .i64 t.kind, .string t.name, .int .i64 t.sort, .slice a t.kids.length cap] 77) := ⟨_, rfl⟩
 obtain ⟨w00, hw00⟩ : ∃ w00, w00 = w0.alloc (.cells #[.int .i64 u.kind, .string u.name, .int .i64 u.sort, .slice a' u.kids.length cap'] 77) := ⟨_, rfl⟩
 obtain ⟨w1, hw1⟩ : ∃ w1, w1 = w00.alloc (.cells #[.int .i64 0, .string ⟨#[]⟩, .int .i64 0, .slice none 0 0] 77) := ⟨_, rfl⟩
 have hs0 : bx + 1 = w0.heap.size := by rw [hw0, hbx, World.size_alloc]
 have hs00 : bx + 1 + 1 = w00.heap.size := by rw [hw00, World.size_alloc, hs0]
 have h0 : w1.heap[bx]? = some (.cells #[.int .i64 t.kind, .string t.name, .int .i64 t.sort, .slice a t.kids.length cap] 77) := by rw [hw1, hw00, hw0, hbx]; exact hs_al (hs_al hs_new)
 have h1 : w1.heap[bx + 1]? = some (.cells #[.int .i64 u.kind, .string u.name, .int .i64 u.sort, .slice a' u.kids.length cap'] 77) := by rw [hw1, hw00, hs0]; exact hs_al hs_new
 have h2 : w1.heap[bx + 1 + 1]? = some (.cells #[.int .i64 0, .string ⟨#[]⟩, .int .i64 0, .slice none 0 0] 77) := by rw [hw1, hs00]; exact hs_new
 have hE1 : Ext w w1 := by rw [hw1, hw00, hw0]; exact ((Ext.alloc w _).then_al _).then_al _
 have b0 : w1.cell? ⟨bx, 0, none⟩ = some (.int .i64 t.kind) := by rw [cellc h0]; rfl
 have b1 : w1.cell? ⟨bx, 1, none⟩ = some (.string t.name) := by rw [cellc h0]; rfl
 have b2 : w1.cell? ⟨bx, 2, none⟩ = some (.int .i64 t.sort) := by rw [cellc h0]; rfl
 have b3 : w1.cell? ⟨bx, 3, none⟩ = some (.slice a t.kids.length cap) := by rw [cellc h0]; rfl
 have hcon := clone_any 1000000 w1 S a cap t hn (Nat.le_refl _) (hT.ext hE1)
 have HU := Lib.hid (hU.ext hE1)
 have H1 := Lib.hid h1
 have H2 := Lib.hid h2
 have HE1 := Lib.hid hE1
 have HCON := Lib.hid hcon
 have HBX := Lib.hid hbx
 clear hT hU h0 h1 h2 hE1 hcon hs0 hs00
 go_enter Tryz.func165, Tryz.ntmps165
 go_upto_region 1 with fail
 rw [← hw0, ← hw00, ← hw1, ← hbx]
 clear hw0 hw00 hw1 hbx
 go_wp2_with fail
 refine HCON.out.mono ?_
 rintro e w2 ⟨v, rfl, hE2, va, vc, rfl, hV⟩
 obtain ⟨ob, hob⟩ : ∃ ob, ob = w2.heap.size := ⟨_, rfl⟩
 obtain ⟨w3, hw3⟩ : ∃ w3, w3 = w2.alloc (.cells #[.int .i64 t.kind, .string t.name, .int .i64 t.sort, .slice va t.kids.length vc] 77) := ⟨_, rfl⟩
 have h3 : w3.heap[ob]? = some (.cells #[.int .i64 t.kind, .string t.name, .int .i64 t.sort, .slice va t.kids.length vc] 77) := by rw [hw3, hob]; exact hs_new
 have hE3 : Ext w1 w3 := by rw [hw3]; exact hE2.then_al _
 have HE3 := Lib.hid hE3
 have HOB : Hid (bx + 1 + 1 < ob) := Lib.hid (by rw [hob]; exact Nat.lt_of_lt_of_le (lt_of_get' H2.out) hE2.size)
 have h1 := hs_ext hE3 H1.out
 have b0 : w3.cell? ⟨bx + 1, 0, none⟩ = some (.int .i64 u.kind) := by rw [cellc h1]; rfl
 have b1 : w3.cell? ⟨bx + 1, 1, none⟩ = some (.string u.name) := by rw [cellc h1]; rfl
 have b2 : w3.cell? ⟨bx + 1, 2, none⟩ = some (.int .i64 u.sort) := by rw [cellc h1]; rfl
 have b3 : w3.cell? ⟨bx + 1, 3, none⟩ = some (.slice a' u.kids.length cap') := by rw [cellc h1]; rfl
 have hcon2 := clone_any 1000000 w3 S' a' cap' u hn' (Nat.le_refl _) (HU.out.ext hE3)
 have HCON2 := Lib.hid hcon2
 have H3 := Lib.hid h3
 clear hE2 hV h3 hE3 h1 hcon2
 go_upto_region 2 with fail
 rw [← hw3, ← hob]
 clear hw3 hob
 go_wp2_with fail
 go_loop [9, 11, 16] (fun p _ i => p = .pointer (some ⟨ob, 0, none⟩) ∧ i = .int .i64 0) (fun _ _ _ => 0)
 case atStart => exact ⟨rfl, rfl⟩
 case round =>
  obtain ⟨rfl, rfl⟩ := hrel
  go_wp2_with fail
  refine HCON2.out.mono ?_
  rintro e w4 ⟨v2, rfl, hE4, ua, uc, rfl, hV⟩
  have H4 := Lib.hid (hs_ext hE4 H3.out)
  have HR4 := Lib.hid (hs_ext hE4 (hs_ext HE3.out H2.out))
  have HE4 := Lib.hid (HE1.out.trans (HE3.out.trans hE4))
  have HV : Hid (TmW w4 (fun c => w.heap.size ≤ c ∧ c ≠ ob ∧ c ≠ bx + 1 + 1) ua uc u) := Lib.hid (hV.wide (fun c hc _ => by
   have h1 := (HE1.out.trans HE3.out).size
   have h2 := lt_of_get' H3.out
   have h3 := HOB.out
   omega))
  clear hE4 hV
  go_wp2_with (first
   | ((refine wpList_storeT rfl (.tmp 42) (.tmp 41) rfl (g := ob) rfl (k := u.kind) (s := u.sort) (n := u.name) (ka := ua) (kl := u.kids.length) (kc := uc) rfl H4.out rfl ?_); intro w6 c6 q6 e6 z6
      have HG6 := Lib.hid c6
      have HE6 := Lib.hid (e6 w HE4.out (by have := HOB.out; have := HBX.out; omega))
      have HR6 : Hid (w6.heap[bx + 1 + 1]? = some (.cells #[.int .i64 0, .string ⟨#[]⟩, .int .i64 0, .slice none 0 0] 77)) := Lib.hid (by rw [q6 _ (by have := HOB.out; omega)]; exact HR4.out)
      have HV6 := Lib.hid (HV.out.keep (w' := w6) (fun c hc _ => q6 c hc.2.1) (fun _ h _ => h))
      have z0 : w6.cell? ⟨ob, 0, none⟩ = some (.int .i64 u.kind) := by rw [cellc c6]; rfl
      have z1 : w6.cell? ⟨ob, 1, none⟩ = some (.string u.name) := by rw [cellc c6]; rfl
      have z2 : w6.cell? ⟨ob, 2, none⟩ = some (.int .i64 u.sort) := by rw [cellc c6]; rfl
      have z3 : w6.cell? ⟨ob, 3, none⟩ = some (.slice ua u.kids.length uc) := by rw [cellc c6]; rfl
      clear c6 q6 e6 z6)
   | ((refine wpList_storeT rfl (.tmp 6) (.tmp 43) rfl (g := bx + 1 + 1) rfl (k := u.kind) (s := u.sort) (n := u.name) (ka := ua) (kl := u.kids.length) (kc := uc) rfl HR6.out rfl ?_); intro w7 c7 q7 e7 z7
      have HG7 := Lib.hid c7
      have HE7 := Lib.hid (e7 w HE6.out (by have := HBX.out; omega))
      have HV7 : Hid (TmW w7 (fun c => w.heap.size ≤ c) ua uc u) := Lib.hid (HV6.out.keep (w' := w7) (fun c hc _ => q7 c hc.2.2) (fun _ h _ => h.1))
      clear c7 q7 e7 z7))
  exact ret_term2 (g := bx + 1 + 1) rfl rfl HG7.out rfl ⟨_, rfl, HE7.out, ua, uc, rfl, HV7.out⟩

def lenOf (v : Value) : Nat := match v with | .slice _ n _ => n | _ => 0
theorem PCmp_any {w : World} {S S' : Nat → Prop} {a a' : Option Addr} {cap cap' : Nat} {s t : Tm} (hs6 : sizeT s ≤ 1000000) (ht6 : sizeT t ≤ 1000000) (hT : TmW w S a cap s) (hT' : TmW w S' a' cap' t) :
 Calls Tryz.prog 114 #[.agg #[.int .i64 s.kind, .string s.name, .int .i64 s.sort, .slice a s.kids.length cap], .agg #[.int .i64 t.kind, .string t.name, .int .i64 t.sort, .slice a' t.kids.length cap']] w fun e w' => e = .returned (.int .i64 (cmpT s t)) ∧ Ext w w' :=
 (PCompare_any 1000000 w S S' a a' cap cap' s t hs6 hs6 ht6 hT hT').mono fun e w' h => ⟨h.1, h.2.e⟩
theorem LsT.head {w : World} {S : Nat → Prop} {b off n cap : Nat} {x : Tm} {L : List Tm} (h : LsT w S (.slice (some ⟨b, off, none⟩) n cap) (x :: L)) :
 ∃ a' cap', w.cell? ⟨b, off, none⟩ = some (.int .i64 x.kind) ∧ w.cell? ⟨b, off + 1, none⟩ = some (.string x.name) ∧ w.cell? ⟨b, off + 2, none⟩ = some (.int .i64 x.sort) ∧ w.cell? ⟨b, off + 3, none⟩ = some (.slice a' x.kids.length cap') ∧ TmW w S a' cap' x := by
 obtain ⟨b', off', a', cap', e, h0, h1, h2, h3, h4⟩ := h.ts.at (i := 0) (t := x) rfl
 cases e
 rw [Nat.zero_mul, Nat.add_zero] at h0 h1 h2 h3
 exact ⟨a', cap', h0, h1, h2, h3, h4⟩
theorem plusS_end {A B : List Tm} (h : A = [] ∨ B = []) : plusS A B = A ++ B := by
 rcases h with rfl | rfl
 · simp [plusS]
 · rw [plusS_nil_right, List.append_nil]

/-- the merge under way -/
structure PlusI (w wr : World) (S : Nat → Prop) (av bv ov : Value) (R O A B : List Tm) : Prop where
 own : OwnT wr w.heap.size S ov O
 a : LsT w S av A
 b : LsT w S bv B
 sum : O ++ plusS A B = R
 ext : Ext w wr
 len : O.length + A.length + B.length ≤ 200000
theorem PlusI.next {w wr w' : World} {S : Nat → Prop} {av bv ov : Value} {R O A B : List Tm} (h : PlusI w wr S av bv ov R O A B) (hE : Ext wr w') : PlusI w w' S av bv ov R O A B :=
 ⟨h.own.ext hE, h.a, h.b, h.sum, h.ext.trans hE, h.len⟩

set_option maxRecDepth 100000 in
set_option maxHeartbeats 4000000 in
theorem plus_any {w : World} {S : Nat → Prop} {a a' : Option Addr} {cap cap' : Nat} {A B : List Tm} (hA6 : ∀ x ∈ A, sizeT x ≤ 1000000) (hB6 : ∀ x ∈ B, sizeT x ≤ 1000000) (hal : A.length + B.length ≤ 200000) (hS : ∀ c, S c → c < w.heap.size) (hA : LsT w S (.slice a A.length cap) A) (hB : LsT w S (.slice a' B.length cap') B) :
 Calls Tryz.prog 144 #[.slice a A.length cap, .slice a' B.length cap'] w fun e w' => ∃ u, e = .returned u ∧ Ext w w' ∧ OwnT w' w.heap.size S u (plusS A B) := by
 obtain ⟨R, hR⟩ : ∃ R, R = plusS A B := ⟨_, rfl⟩
 rw [← hR]
 have HI0 : Hid (PlusI w w S (.slice a A.length cap) (.slice a' B.length cap') (.slice none 0 0) R [] A B) := Lib.hid ⟨OwnT.nil, hA, hB, by rw [hR]; rfl, Ext.refl _, by simp; omega⟩
 have HS := Lib.hid hS
 have HA6 := Lib.hid hA6
 have HB6 := Lib.hid hB6
 have hsub : ∀ x ∈ R, sizeT x ≤ 1000000 := fun x hx => by
  rw [hR] at hx
  rcases plusS_sub _ _ x hx with h | h
  · exact hA6 x h
  · exact hB6 x h
 clear hA hB hR hS
 go_enter Tryz.func144, Tryz.ntmps144
 go_wp2_with fail
 go_loopw [0, 1, 5, 6] (fun av bv ov _ wr => ∃ O A1 B1, PlusI w wr S av bv ov R O A1 B1 ∧ (∀ x ∈ A1, sizeT x ≤ 1000000) ∧ (∀ x ∈ B1, sizeT x ≤ 1000000)) (fun av bv _ _ _ => lenOf av + lenOf bv)
 case atStart => exact ⟨_, _, _, HI0.out, HA6.out, HB6.out⟩
 case round =>
  obtain ⟨O, A1, B1, hI, hA1, hB1⟩ := hrel
  have HI := Lib.hid hI
  have HA1 := Lib.hid hA1
  have HB1 := Lib.hid hB1
  obtain ⟨aa, ac, rfl, ac1, ac2, -⟩ := id hI.a
  obtain ⟨ba, bc, rfl, bc1, bc2, -⟩ := id hI.b
  obtain ⟨oa, oc, hov, -, -, -⟩ := id hI.own.ls
  subst hov
  unfold maxLen at ac2 bc2
  have hlen := hI.len
  clear hI hA1 hB1 hA6 hB6 hsub
  by_cases hend : A1 = [] ∨ B1 = []
  · have HSUM : Hid ((O ++ A1) ++ B1 = R) := Lib.hid (by have := HI.out.sum; rw [plusS_end hend] at this; rw [List.append_assoc]; exact this)
    have hO := HI.out.own
    have hoff := hO.off HS.out
    have hsz := HI.out.ext.size
    have hAs := HI.out.a.ext HI.out.ext
    have hO3 : O.length ≤ 1000000 := by omega
    have hA3 : A1.length ≤ 1000000 := by omega
    have hOA : (O ++ A1).length ≤ 1000000 := by rw [List.length_append]; omega
    have hB3 : B1.length ≤ 1000000 := by omega
    have HEND := Lib.hid hend
    clear hend
    by_cases hA0 : 0 < A1.length
    · have hB0 : ¬ 0 < B1.length := by
       rcases HEND.out with h | h
       · rw [h] at hA0; simp at hA0
       · rw [h]; simp
      have e5 : decide ((0 : Int) < A1.length) = true := decide_eq_true (by omega)
      have e6 : decide ((0 : Int) < B1.length) = false := decide_eq_false (by omega)
      skip
      go_wp2_with (first
       | (at_builtin; (refine wpList_appT rfl (.tmp 48) (.tmp 49) rfl rfl rfl hO hsz hoff hO3 hA3 hAs ?_); intro v1 w1 o1 g1 k1
          have O1 := Lib.hid o1
          have E1 := Lib.hid (HI.out.ext.grownT hO g1)
          have hBs := HI.out.b.ext E1.out
          have hsz1 := E1.out.size
          have hoff1 := o1.off HS.out
          clear g1 k1 hO hoff hAs hsz)
       | (at_builtin; (refine wpList_appT rfl (.tmp 50) (.tmp 51) rfl rfl rfl o1 hsz1 hoff1 hOA hB3 hBs ?_); intro v2 w2 o2 g2 k2
          have O2 := Lib.hid o2
          have E2 := Lib.hid (E1.out.grownT o1 g2)
          clear g2 k2 o1 o2 hBs hoff1))
      go_ret
      exact ⟨_, rfl, E2.out, by have := O2.out; rw [HSUM.out] at this; exact this⟩
    · have e5 : decide ((0 : Int) < A1.length) = false := decide_eq_false (by omega)
      skip
      go_wp2_with (first
       | (at_builtin; (refine wpList_appT rfl (.tmp 48) (.tmp 49) rfl rfl rfl hO hsz hoff hO3 hA3 hAs ?_); intro v1 w1 o1 g1 k1
          have O1 := Lib.hid o1
          have E1 := Lib.hid (HI.out.ext.grownT hO g1)
          have hBs := HI.out.b.ext E1.out
          have hsz1 := E1.out.size
          have hoff1 := o1.off HS.out
          clear g1 k1 hO hoff hAs hsz)
       | (at_builtin; (refine wpList_appT rfl (.tmp 50) (.tmp 51) rfl rfl rfl o1 hsz1 hoff1 hOA hB3 hBs ?_); intro v2 w2 o2 g2 k2
          have O2 := Lib.hid o2
          have E2 := Lib.hid (E1.out.grownT o1 g2)
          clear g2 k2 o1 o2 hBs hoff1))
      go_ret
      exact ⟨_, rfl, E2.out, by have := O2.out; rw [HSUM.out] at this; exact this⟩
  · obtain ⟨x, A2, rfl⟩ : ∃ x A2, A1 = x :: A2 := by cases A1 with | nil => exact absurd (.inl rfl) hend | cons x A' => exact ⟨_, _, rfl⟩
    obtain ⟨y, B2, rfl⟩ : ∃ y B2, B1 = y :: B2 := by cases B1 with | nil => exact absurd (.inr rfl) hend | cons y B' => exact ⟨_, _, rfl⟩
    obtain ⟨ab, ao, rfl⟩ := HI.out.a.some_of
    obtain ⟨bb, bo, rfl⟩ := HI.out.b.some_of
    obtain ⟨xa, xc, x0, x1, x2, x3, hTx⟩ := HI.out.a.head
    obtain ⟨ya, yc, y0, y1, y2, y3, hTy⟩ := HI.out.b.head
    have X0 := Lib.hid x0
    have X1 := Lib.hid x1
    have X2 := Lib.hid x2
    have X3 := Lib.hid x3
    have Y0 := Lib.hid y0
    have Y1 := Lib.hid y1
    have Y2 := Lib.hid y2
    have Y3 := Lib.hid y3
    have x0 := cs_ext HI.out.ext X0.out
    have x1 := cs_ext HI.out.ext X1.out
    have x2 := cs_ext HI.out.ext X2.out
    have x3 := cs_ext HI.out.ext X3.out
    have y0 := cs_ext HI.out.ext Y0.out
    have y1 := cs_ext HI.out.ext Y1.out
    have y2 := cs_ext HI.out.ext Y2.out
    have y3 := cs_ext HI.out.ext Y3.out
    have hcon := fun (w' : World) (hE : Ext wr w') => PCmp_any (w := w') (HA1.out x (by simp)) (HB1.out y (by simp)) ((hTx.ext HI.out.ext).ext hE) ((hTy.ext HI.out.ext).ext hE)
    obtain ⟨o, ho⟩ : ∃ o, o = cmpT x y := ⟨_, rfl⟩
    rw [← ho] at hcon
    have HO := Lib.hid ho
    have HC := Lib.hid hcon
    have HTX := Lib.hid hTx
    have HTY := Lib.hid hTy
    have HTA := Lib.hid HI.out.a.tail
    have HTB := Lib.hid HI.out.b.tail
    simp only [List.length_cons] at *
    have e5 : decide (0 < (A2.length : Int) + 1) = true := decide_eq_true (by omega)
    have e6 : decide (0 < (B2.length : Int) + 1) = true := decide_eq_true (by omega)
    have e7 : 0 < A2.length + 1 := by omega
    have e8 : 0 < B2.length + 1 := by omega
    have e9 : (1 : Int) ≤ (A2.length : Int) + 1 := by omega
    have e10 : (1 : Int) ≤ (B2.length : Int) + 1 := by omega
    clear hend ho hcon hTx hTy
    go_wp2_with fail
    have HFCT := Lib.hid (And.intro x0 (And.intro x1 (And.intro x2 (And.intro x3 (And.intro y0 (And.intro y1 (And.intro y2 y3)))))))
    refine wp_region_reg 7 false (by kernel_rfl) (by kernel_rfl) ?_
    refine reg_value (fun _ => rfl) ?_ (fun g w' vs hM hE hP => ?_) ?_
    rotate_left
    · (clear hP hM; go_simp; first | done | rfl)
    refine reg_value (fun _ => rfl) ?_ (fun g w' vs hM hE hP => ?_) ?_
    rotate_left
    · (clear hP hM; go_simp; first | done | rfl)
    refine reg_value (fun _ => rfl) ?_ (fun g w' vs hM hE hP => ?_) ?_
    rotate_left
    · (clear hP hM; have ⟨z0, z1, z2, z3, z4, z5, z6, z7⟩ := cs_e8 hE HFCT.out; go_simp; first | done | rfl)
    refine reg_value (fun _ => rfl) ?_ (fun g w' vs hM hE hP => ?_) ?_
    rotate_left
    · (clear hP hM; go_simp; first | done | rfl)
    refine reg_value (fun _ => rfl) ?_ (fun g w' vs hM hE hP => ?_) ?_
    rotate_left
    · (clear hP hM; go_simp; first | done | rfl)
    refine reg_value (fun _ => rfl) ?_ (fun g w' vs hM hE hP => ?_) ?_
    rotate_left
    · (clear hP hM; have ⟨z0, z1, z2, z3, z4, z5, z6, z7⟩ := cs_e8 hE HFCT.out; go_simp; first | done | rfl)
    refine reg_const (fun _ => rfl) 114 ?_ (fun g w' vs hM hE hP => ?_) ?_
    rotate_left
    · (clear hP hM; have ⟨z0, z1, z2, z3, z4, z5, z6, z7⟩ := cs_e8 hE HFCT.out; go_simp; first | done | exact ⟨rfl, rfl⟩ | rfl)
    apply Exists.intro
    refine And.intro (fun g w' vs hM hE hP => ?_) ?_
    · exact HC.out _ hE
    intro g wz hE2 hF hQ
    simp only [List.drop_succ_cons, List.drop_zero, Act.put, List.setIfInBounds_toArray, List.set_cons_succ, List.set_cons_zero]
    have HI := Lib.hid (HI.out.next hE2)
    clear hE2 hF hQ x0 x1 x2 x3 y0 y1 y2 y3
    have hO3 : O.length ≤ 1000000 := by omega
    rcases (by omega : o < 0 ∨ 0 < o ∨ o = 0) with hlt | hlt | hlt
    · have x0 : wz.drew.cell? ⟨ab, ao, none⟩ = some (.int .i64 x.kind) := cs_ext HI.out.ext.then_dr X0.out
      have x1 : wz.drew.cell? ⟨ab, ao + 1, none⟩ = some (.string x.name) := cs_ext HI.out.ext.then_dr X1.out
      have x2 : wz.drew.cell? ⟨ab, ao + 2, none⟩ = some (.int .i64 x.sort) := cs_ext HI.out.ext.then_dr X2.out
      have x3 : wz.drew.cell? ⟨ab, ao + 3, none⟩ = some (.slice xa x.kids.length xc) := cs_ext HI.out.ext.then_dr X3.out
      have HSUM : Hid ((O ++ [x]) ++ plusS A2 (y :: B2) = R) := Lib.hid (by have h := HI.out.sum; rw [plusS, if_pos (by rw [← HO.out]; exact hlt)] at h; rw [← h]; simp)
      have HT2 := Lib.hid (HTX.out.ext HI.out.ext)
      go_upto_region 6 with fail
      go_region_law (refine step_appT rfl (.tmp 29) (.tmp 33) rfl rfl rfl (HI.out.own.ext (by repeat (first | exact Ext.refl _ | exact Ext.alloc _ _ | apply Ext.then_dr | apply Ext.then_drN | apply Ext.then_drN2 | (refine Ext.then_al ?_ _)))) (Nat.le_trans HI.out.ext.size (Ext.size (by repeat (first | exact Ext.refl _ | exact Ext.alloc _ _ | apply Ext.then_dr | apply Ext.then_drN | apply Ext.then_drN2 | (refine Ext.then_al ?_ _))))) (HI.out.own.off HS.out) hO3 (X := [x]) (by simp) (one_ls hs_new (HT2.out.ext (by repeat (first | exact Ext.refl _ | exact Ext.alloc _ _ | apply Ext.then_dr | apply Ext.then_drN | apply Ext.then_drN2 | (refine Ext.then_al ?_ _))))) ?_; intro v' w' h2 h3 h4; have hE3 := Lib.hid ((HI.out.ext.trans (by repeat (first | exact Ext.refl _ | exact Ext.alloc _ _ | apply Ext.then_dr | apply Ext.then_drN | apply Ext.then_drN2 | (refine Ext.then_al ?_ _)))).grown h3 (fun k hk => (HI.out.own.lt k hk).1)); have H2 := Lib.hid h2; clear h2 h3 h4)
      go_wp2_with fail
      · have e : ac = 1 := by assumption
        have HTT : LsT w S (.slice (some ⟨ab, ao, none⟩) A2.length 0) A2 := by have h := HTA.out; rw [if_pos e, e] at h; exact h
        go_roundw
        case rel => exact ⟨_, _, _, ⟨_, _, _, ⟨H2.out, HTT, HI.out.b, HSUM.out, hE3.out, by have := HI.out.len; simp at this ⊢; omega⟩, fun z hz => HA1.out z (by simp [hz]), HB1.out⟩, rfl, rfl, rfl⟩
        case measure => simp [lenOf]
      · have e : ¬ ac = 1 := by assumption
        have HTT : LsT w S (.slice (some ⟨ab, ao + 4, none⟩) A2.length (ac - 1)) A2 := by have h := HTA.out; rw [if_neg e] at h; exact h
        go_roundw
        case rel => exact ⟨_, _, _, ⟨_, _, _, ⟨H2.out, HTT, HI.out.b, HSUM.out, hE3.out, by have := HI.out.len; simp at this ⊢; omega⟩, fun z hz => HA1.out z (by simp [hz]), HB1.out⟩, rfl, rfl, rfl⟩
        case measure => simp [lenOf]
    · have y0 : wz.drew.cell? ⟨bb, bo, none⟩ = some (.int .i64 y.kind) := cs_ext HI.out.ext.then_dr Y0.out
      have y1 : wz.drew.cell? ⟨bb, bo + 1, none⟩ = some (.string y.name) := cs_ext HI.out.ext.then_dr Y1.out
      have y2 : wz.drew.cell? ⟨bb, bo + 2, none⟩ = some (.int .i64 y.sort) := cs_ext HI.out.ext.then_dr Y2.out
      have y3 : wz.drew.cell? ⟨bb, bo + 3, none⟩ = some (.slice ya y.kids.length yc) := cs_ext HI.out.ext.then_dr Y3.out
      have HSUM : Hid ((O ++ [y]) ++ plusS (x :: A2) B2 = R) := Lib.hid (by have h := HI.out.sum; rw [plusS, if_neg (by rw [← HO.out]; omega), if_pos (by rw [← HO.out]; exact hlt)] at h; rw [← h]; simp)
      have HT2 := Lib.hid (HTY.out.ext HI.out.ext)
      have hnlt : ¬ o < 0 := by omega
      go_upto_region 8 with fail
      go_region_law (refine step_appT rfl (.tmp 40) (.tmp 44) rfl rfl rfl (HI.out.own.ext (by repeat (first | exact Ext.refl _ | exact Ext.alloc _ _ | apply Ext.then_dr | apply Ext.then_drN | apply Ext.then_drN2 | (refine Ext.then_al ?_ _)))) (Nat.le_trans HI.out.ext.size (Ext.size (by repeat (first | exact Ext.refl _ | exact Ext.alloc _ _ | apply Ext.then_dr | apply Ext.then_drN | apply Ext.then_drN2 | (refine Ext.then_al ?_ _))))) (HI.out.own.off HS.out) hO3 (X := [y]) (by simp) (one_ls hs_new (HT2.out.ext (by repeat (first | exact Ext.refl _ | exact Ext.alloc _ _ | apply Ext.then_dr | apply Ext.then_drN | apply Ext.then_drN2 | (refine Ext.then_al ?_ _))))) ?_; intro v' w' h2 h3 h4; have hE3 := Lib.hid ((HI.out.ext.trans (by repeat (first | exact Ext.refl _ | exact Ext.alloc _ _ | apply Ext.then_dr | apply Ext.then_drN | apply Ext.then_drN2 | (refine Ext.then_al ?_ _)))).grown h3 (fun k hk => (HI.out.own.lt k hk).1)); have H2 := Lib.hid h2; clear h2 h3 h4)
      go_wp2_with fail
      · have e : bc = 1 := by assumption
        have HTT : LsT w S (.slice (some ⟨bb, bo, none⟩) B2.length 0) B2 := by have h := HTB.out; rw [if_pos e, e] at h; exact h
        go_roundw
        case rel => exact ⟨_, _, _, ⟨_, _, _, ⟨H2.out, HI.out.a, HTT, HSUM.out, hE3.out, by have := HI.out.len; simp at this ⊢; omega⟩, HA1.out, fun z hz => HB1.out z (by simp [hz])⟩, rfl, rfl, rfl⟩
        case measure => simp [lenOf]
      · have e : ¬ bc = 1 := by assumption
        have HTT : LsT w S (.slice (some ⟨bb, bo + 4, none⟩) B2.length (bc - 1)) B2 := by have h := HTB.out; rw [if_neg e] at h; exact h
        go_roundw
        case rel => exact ⟨_, _, _, ⟨_, _, _, ⟨H2.out, HI.out.a, HTT, HSUM.out, hE3.out, by have := HI.out.len; simp at this ⊢; omega⟩, HA1.out, fun z hz => HB1.out z (by simp [hz])⟩, rfl, rfl, rfl⟩
        case measure => simp [lenOf]
    · have HSUM : Hid (O ++ plusS A2 B2 = R) := Lib.hid (by have h := HI.out.sum; rw [plusS, if_neg (by rw [← HO.out]; omega), if_neg (by rw [← HO.out]; omega)] at h; exact h)
      have hn1 : ¬ o < 0 := by omega
      have hn2 : ¬ 0 < o := by omega
      have HLT := Lib.hid hlt
      clear hlt
      go_upto_region 4 with fail
      rcases (by omega : (ac = 1 ∧ bc = 1) ∨ (ac = 1 ∧ ¬ bc = 1) ∨ (¬ ac = 1 ∧ bc = 1) ∨ (¬ ac = 1 ∧ ¬ bc = 1)) with ⟨ca, cb⟩ | ⟨ca, cb⟩ | ⟨ca, cb⟩ | ⟨ca, cb⟩
      · have HTT : Hid (LsT w S (.slice (some ⟨ab, ao, none⟩) A2.length 0) A2) := Lib.hid (by have h := HTA.out; rw [if_pos ca, ca] at h; exact h)
        have HTU : Hid (LsT w S (.slice (some ⟨bb, bo, none⟩) B2.length 0) B2) := Lib.hid (by have h := HTB.out; rw [if_pos cb, cb] at h; exact h)
        have HI := Lib.hid (HI.out.next (Ext.drew wz))
        go_region
        go_wp2_with fail
        go_roundw
        case rel => exact ⟨_, _, _, ⟨HI.out.own, HTT.out, HTU.out, HSUM.out, HI.out.ext, by have := HI.out.len; simp at this ⊢; omega⟩, fun z hz => HA1.out z (by simp [hz]), fun z hz => HB1.out z (by simp [hz])⟩
        case measure => simp [lenOf]; omega
      · have HTT : Hid (LsT w S (.slice (some ⟨ab, ao, none⟩) A2.length 0) A2) := Lib.hid (by have h := HTA.out; rw [if_pos ca, ca] at h; exact h)
        have HTU : Hid (LsT w S (.slice (some ⟨bb, bo + 4, none⟩) B2.length (bc - 1)) B2) := Lib.hid (by have h := HTB.out; rw [if_neg cb] at h; exact h)
        have HI := Lib.hid (HI.out.next (Ext.drew wz))
        go_region
        go_wp2_with fail
        go_roundw
        case rel => exact ⟨_, _, _, ⟨HI.out.own, HTT.out, HTU.out, HSUM.out, HI.out.ext, by have := HI.out.len; simp at this ⊢; omega⟩, fun z hz => HA1.out z (by simp [hz]), fun z hz => HB1.out z (by simp [hz])⟩
        case measure => simp [lenOf]; omega
      · have HTT : Hid (LsT w S (.slice (some ⟨ab, ao + 4, none⟩) A2.length (ac - 1)) A2) := Lib.hid (by have h := HTA.out; rw [if_neg ca] at h; exact h)
        have HTU : Hid (LsT w S (.slice (some ⟨bb, bo, none⟩) B2.length 0) B2) := Lib.hid (by have h := HTB.out; rw [if_pos cb, cb] at h; exact h)
        have HI := Lib.hid (HI.out.next (Ext.drew wz))
        go_region
        go_wp2_with fail
        go_roundw
        case rel => exact ⟨_, _, _, ⟨HI.out.own, HTT.out, HTU.out, HSUM.out, HI.out.ext, by have := HI.out.len; simp at this ⊢; omega⟩, fun z hz => HA1.out z (by simp [hz]), fun z hz => HB1.out z (by simp [hz])⟩
        case measure => simp [lenOf]; omega
      · have HTT : Hid (LsT w S (.slice (some ⟨ab, ao + 4, none⟩) A2.length (ac - 1)) A2) := Lib.hid (by have h := HTA.out; rw [if_neg ca] at h; exact h)
        have HTU : Hid (LsT w S (.slice (some ⟨bb, bo + 4, none⟩) B2.length (bc - 1)) B2) := Lib.hid (by have h := HTB.out; rw [if_neg cb] at h; exact h)
        have HI := Lib.hid (HI.out.next (Ext.drew wz))
        go_region
        go_wp2_with fail
        go_roundw
        case rel => exact ⟨_, _, _, ⟨HI.out.own, HTT.out, HTU.out, HSUM.out, HI.out.ext, by have := HI.out.len; simp at this ⊢; omega⟩, fun z hz => HA1.out z (by simp [hz]), fun z hz => HB1.out z (by simp [hz])⟩
        case measure => simp [lenOf]; omega

set_option maxRecDepth 100000 in
set_option maxHeartbeats 4000000 in
theorem summands_any (n : Nat) : ∀ (w : World) (S : Nat → Prop) (a : Option Addr) (cap : Nat) (t : Tm), sizeT t ≤ n → n ≤ 90000 → (∀ c, S c → c < w.heap.size) → TmW w S a cap t →
 Calls Tryz.prog 145 #[.agg #[.int .i64 t.kind, .string t.name, .int .i64 t.sort, .slice a t.kids.length cap]] w fun e w' => ∃ u, e = .returned u ∧ Ext w w' ∧ OwnT w' w.heap.size S u (sumT t) := by
 induction n with
 | zero => intro w S a cap t hn; have := sizeT_kids t; omega
 | succ n ih =>
   intro w S a cap t hn hn2 hS hT
   have hl := hT.len
   have hc := hT.cap
   unfold maxLen at hc
   obtain ⟨bx, hbx⟩ : ∃ bx, bx = w.heap.size := ⟨_, rfl⟩
   obtain ⟨w1, hw1⟩ : ∃ w1, w1 = w.alloc (.cells #[.int .i64 t.kind, .string t.name, .int .i64 t.sort, .slice a t.kids.length cap] 77) := ⟨_, rfl⟩
   have b0 : w1.cell? ⟨bx, 0, none⟩ = some (.int .i64 t.kind) := by rw [hw1, hbx]; exact cs_new rfl
   have b1 : w1.cell? ⟨bx, 1, none⟩ = some (.string t.name) := by rw [hw1, hbx]; exact cs_new rfl
   have b2 : w1.cell? ⟨bx, 2, none⟩ = some (.int .i64 t.sort) := by rw [hw1, hbx]; exact cs_new rfl
   have b3 : w1.cell? ⟨bx, 3, none⟩ = some (.slice a t.kids.length cap) := by rw [hw1, hbx]; exact cs_new rfl
   have HE1 : Hid (Ext w w1) := Lib.hid (by rw [hw1]; exact Ext.alloc w _)
   have hT1 := hT.ext HE1.out
   have HONE : Hid (OwnT (w1.alloc (.cells #[.int .i64 t.kind, .string t.name, .int .i64 t.sort, .slice a t.kids.length cap] 77)) w.heap.size S (.slice (some ⟨w1.heap.size, 0, none⟩) 1 1) [t]) := Lib.hid (own_one HE1.out.size hT1)
   have HE2 : Hid (Ext w (w1.alloc (.cells #[.int .i64 t.kind, .string t.name, .int .i64 t.sort, .slice a t.kids.length cap] 77))) := Lib.hid (HE1.out.then_al _)
   have HT := Lib.hid hT1.ts
   have HK := Lib.hid (sizeT_kids t)
   have HN := Lib.hid hn
   have HS := Lib.hid hS
   have B3 := Lib.hid b3
   have IH := Lib.hid ih
   have hcases := sum_cases t
   clear hT hT1 hn ih hS
   go_enter Tryz.func145, Tryz.ntmps145
   go_upto_region 1 with fail
   rw [← hw1, ← hbx]
   clear hw1 hbx
   rcases hcases with ⟨hk, hr⟩ | ⟨hk, hz, hl0, hr⟩ | ⟨hk, hz, hl0, hr⟩ | ⟨hk, hz, hx, hr⟩ | ⟨hk, hz, hx, hr⟩
   · have HR := Lib.hid hr
     have e1 : (t.kind == 3) = false := by simp [hk]
     have e2 : (t.kind != 3) = true := by simp [hk]
     clear hr hk
     go_wp2_with fail
     go_ret
     exact ⟨_, rfl, HE2.out, by rw [HR.out]; exact HONE.out⟩
   · have HR := Lib.hid hr
     have e1 : (t.kind == 3) = true := by simp [hk]
     have e2 : (t.kind != 3) = false := by simp [hk]
     have e3 : ((t.kids.length : Int) == 0) = true := by simp [hl0]
     clear hr hk hl0
     go_wp2_with fail
     go_ret
     exact ⟨_, rfl, HE1.out, by rw [HR.out]; exact OwnT.nil⟩
   · have HR := Lib.hid hr
     have e1 : (t.kind == 3) = true := by simp [hk]
     have e2 : (t.kind != 3) = false := by simp [hk]
     have e3 : ((t.kids.length : Int) == 0) = false := beq_eq_false_iff_ne.2 (by omega)
     have e4 : (t.name.toList == [120, 111, 114]) = false := by rw [hz]; rfl
     clear hr hk hl0
     go_wp2_with fail
     go_ret
     exact ⟨_, rfl, HE2.out, by rw [HR.out]; exact HONE.out⟩
   · have HR := Lib.hid hr
     have e1 : (t.kind == 3) = true := by simp [hk]
     have e2 : (t.kind != 3) = false := by simp [hk]
     clear hr hk
     go_wp2_with fail
     go_loopw [3, 33] (fun ov kv wr => ∃ k : Nat, kv = .int .i64 k ∧ k ≤ t.kids.length ∧ OwnT wr w.heap.size S ov (sumL (t.kids.take k) []) ∧ Ext w1 wr) (fun _ kv _ => t.kids.length - (intOf kv).toNat)
     case atStart => exact ⟨0, rfl, by omega, by simp [sumL]; exact OwnT.nil, Ext.refl _⟩
     case round =>
      obtain ⟨k, rfl, hk, hO, hE⟩ := hrel
      have HO := Lib.hid hO
      have HE := Lib.hid hE
      clear hO hE b0 b1 b2 b3
      by_cases hlt : k < t.kids.length
      · obtain ⟨x, hx⟩ : ∃ x, t.kids[k]? = some x := ⟨_, List.getElem?_eq_getElem hlt⟩
        obtain ⟨xb, xo, xa, xc, rfl, x0, x1, x2, x3, hTx⟩ := (HT.out.ext HE.out).at hx
        have hsx := sizeL_get hx
        have hcon := IH.out (wr.alloc (.cells #[.int .i64 x.kind, .string x.name, .int .i64 x.sort, .slice xa x.kids.length xc] 77)) S xa xc x (by have := HK.out; have := HN.out; omega) (by omega) (fun c hc => Nat.lt_of_lt_of_le (HS.out c hc) ((HE1.out.trans HE.out).then_al _).size) (hTx.ext (Ext.alloc _ _))
        have HF := Lib.hid (sumL_take (acc := []) hx)
        have hl1 : (sumL (t.kids.take k) []).length ≤ 90000 := by
         have := sumL_len (t.kids.take k) []
         have := sizeL_take_le t.kids k
         have := HK.out
         have := HN.out
         simp at *
         omega
        have hl2 : (sumT x).length ≤ 90000 := by have := sumT_len x; have := HK.out; have := HN.out; omega
        have HAS : Hid (Asc (sumL (t.kids.take k) []) ∧ ∀ y ∈ sumL (t.kids.take k) [], sizeT y ≤ 1000000) := Lib.hid ⟨sumL_asc _ _ (by simp), fun y hy => by
         rcases sumL_size _ _ y hy with h | h
         · simp at h
         · have := sizeL_take_le t.kids k; have := HK.out; have := HN.out; omega⟩
        have HBS : Hid (Asc (sumT x) ∧ ∀ y ∈ sumT x, sizeT y ≤ 1000000) := Lib.hid ⟨sumT_asc x, fun y hy => by have := sumT_size x y hy; have := HK.out; have := HN.out; omega⟩
        obtain ⟨P, hP⟩ : ∃ P, P = sumL (t.kids.take k) [] := ⟨_, rfl⟩
        obtain ⟨Q, hQ⟩ : ∃ Q, Q = sumT x := ⟨_, rfl⟩
        rw [← hP] at HO hl1 HF HAS
        rw [← hQ] at hcon hl2 HF HBS
        obtain ⟨oa, oc, ho, -, -, -⟩ := id HO.out.ls
        subst ho
        have HCON := Lib.hid hcon
        clear hx hsx hTx hcon hP hQ
        go_wp2_with fail
        refine HCON.out.mono ?_
        rintro e w3 ⟨u, rfl, hE3, hO3⟩
        have hE3 := (Ext.alloc wr _).trans hE3
        obtain ⟨ua, uc, hu, -, -, -⟩ := id hO3.ls
        subst hu
        have hcp := plus_any HAS.out.2 HBS.out.2 (by omega) (fun c hc => Nat.lt_of_lt_of_le (HS.out c hc) ((HE1.out.trans HE.out).trans hE3).size) (HO.out.ext hE3).ls hO3.ls
        have HE3 := Lib.hid (HE.out.trans hE3)
        have HCP := Lib.hid hcp
        clear hE3 hO3 hcp
        go_wp2_with fail
        refine HCP.out.mono ?_
        rintro e w4 ⟨u, rfl, hE4, hO4⟩
        have HE4 := Lib.hid (HE3.out.trans hE4)
        have HO4 := Lib.hid (hO4.low (HE1.out.trans HE3.out).size)
        clear hE4 hO4
        go_wp2_with fail
        go_roundw
        case rel => exact ⟨k + 1, by go_num, by omega, by rw [HF.out]; exact HO4.out, HE4.out⟩
        case measure => simp [intOf]; omega
      · have HRR : Hid (sumT t = sumL (t.kids.take k) []) := Lib.hid (by rw [HR.out, List.take_of_length_le (by omega)])
        go_wp2_with fail
        go_ret
        exact ⟨_, rfl, HE1.out.trans HE.out, by rw [HRR.out]; exact HO.out⟩
   · have HR := Lib.hid hr
     have e1 : (t.kind == 3) = true := by simp [hk]
     have e2 : (t.kind != 3) = false := by simp [hk]
     have e4 : (t.name.toList == [120, 111, 114]) = false := beq_eq_false_iff_ne.2 hx
     clear hr hk
     go_wp2_with fail

     go_ret
     exact ⟨_, rfl, HE2.out, by rw [HR.out]; exact HONE.out⟩

end Go.Proofs.YtfaienbdebjfcaaGreat
