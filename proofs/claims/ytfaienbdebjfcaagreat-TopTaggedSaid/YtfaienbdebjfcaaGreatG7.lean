/- Contracts: Go's Clone and Concat of lists of terms. Contracts: the program's errors of lists. Contracts: copies of lists of terms. -/
import Derived.Test.YtfaienbdebjfcaaGreatG3
import Derived.Lib.AppendZeros
import Derived.Lib.SliceRun
import Derived.Test.YtfaienbdebjfcaaGreatG6
import Derived.Laws.MakeOwn
import Derived.Laws.CopyRow
namespace Go.Proofs.YtfaienbdebjfcaaGreat
open Go Go.RowKit
set_option linter.unusedVariables false
set_option linter.unusedSimpArgs false

set_option maxRecDepth 100000 in
set_option maxHeartbeats 1000000 in
theorem sClone_any {w : World} {S : Nat → Prop} {a : Option Addr} {cap : Nat} {L : List Tm} (hll : L.length ≤ 1000000) (hS : ∀ c, S c → c < w.heap.size) (hL : LsT w S (.slice a L.length cap) L) :
 Calls Tryz.prog 168 #[.slice a L.length cap] w fun e w' => ∃ u, e = .returned u ∧ Ext w w' ∧ OwnT w' w.heap.size S u L := by
 cases a with
 | none =>
   have hL0 : L = [] := by
    cases L with
    | nil => rfl
    | cons x L => obtain ⟨b, off, e⟩ := hL.some_of; cases e
   subst hL0
   have q22 : ∀ (w : World) (a : Option Addr) (n c n' c' : Nat), (binOp .eql 75 (.slice a n c) (.slice none n' c')).run Tryz.prog w = .ok (.bool a.isNone) w := fun w a n c n' c' => Lib.run_eql_slice_nil w _ _ a n c n' c' Tryz.underlying75
   go_enter Tryz.func168, Tryz.ntmps168
   go_wp2
   go_ret
   exact ⟨_, rfl, Ext.refl _, OwnT.nil⟩
 | some ad =>
   have hsz : w.heap.size ≤ (w.alloc (.cells #[] 77)).heap.size := by simp
   have hO0 : OwnT (w.alloc (.cells #[] 77)) w.heap.size S (.slice (some ⟨w.heap.size, 0, none⟩) 0 0) [] := own_empty (Nat.le_refl _)
   have hoff := hO0.off hS
   have hL0 := hL.ext (Ext.alloc w (.cells #[] 77))
   have HE0 : Hid (Ext w (w.alloc (.cells #[] 77))) := Lib.hid (Ext.alloc w _)
   clear hL hS
   have q22 : ∀ (w : World) (a : Option Addr) (n c n' c' : Nat), (binOp .eql 75 (.slice a n c) (.slice none n' c')).run Tryz.prog w = .ok (.bool a.isNone) w := fun w a n c n' c' => Lib.run_eql_slice_nil w _ _ a n c n' c' Tryz.underlying75
   go_enter Tryz.func168, Tryz.ntmps168
   go_wp2_with (at_builtin; (refine wpList_appT rfl (.tmp 5) (.tmp 6) rfl rfl rfl hO0 hsz hoff (by simp) (X := L) (by omega) hL0 ?_); intro v5 w5 o5 g5 k5
                have HO5 : Hid (OwnT w5 w.heap.size S v5 L) := Lib.hid o5
                have HE5 := Lib.hid (HE0.out.grownT hO0 g5)
                clear o5 g5 k5 hO0 hL0 hoff)
   go_ret
   exact ⟨_, rfl, HE5.out, HO5.out⟩

set_option maxRecDepth 100000 in
set_option maxHeartbeats 1000000 in
theorem grow_any {w : World} {S : Nat → Prop} {n : Nat} (hn : n ≤ 1000000) :
 Calls Tryz.prog 169 #[.slice none 0 0, .int .i64 n] w fun e w' => ∃ u, e = .returned u ∧ Ext w w' ∧ OwnT w' w.heap.size S u [] := by
 by_cases h0 : n = 0
 · subst h0
   go_enter Tryz.func169, Tryz.ntmps169
   go_wp2
   go_ret
   exact ⟨_, rfl, Ext.refl _, OwnT.nil⟩
 · obtain ⟨i0, hi0, hi1, hi2, hi3⟩ := info_parts infT
   have hpos : 0 < n := by omega
   have hr := Lib.run_append_nil_zeros (P := Tryz.prog) w 75 3 75 77 i0 _ .i64 .i64 Tryz.underlying75 Tryz.underlying3 hi0 hi1 n hpos (by rw [hi2]; omega) (by omega) (by rw [hi3]; omega)
   obtain ⟨c, hc⟩ : ∃ c, c = grownCap w n 0 77 := ⟨_, rfl⟩
   have hcn : n ≤ c := by rw [hc]; exact grownCap_ge w n 0 _
   have hcm : c ≤ maxLen := by rw [hc]; exact grownCap_le_maxLen w n 0 _ (by unfold maxLen; omega)
   rw [← hc] at hr
   obtain ⟨cur, hcur⟩ : ∃ cur, cur = Builtin.zeroCells (Value.agg #[.int .i64 0, .string ⟨#[]⟩, .int .i64 0, .slice none 0 0]).cells n ++ Builtin.zeroCells (Value.agg #[.int .i64 0, .string ⟨#[]⟩, .int .i64 0, .slice none 0 0]).cells (c - n) := ⟨_, rfl⟩
   rw [← hcur] at hr
   have hsz : cur.size = c * 4 := by
    rw [hcur, Array.size_append, size_zeroCells, size_zeroCells]
    show n * 4 + (c - n) * 4 = c * 4
    omega
   have HOWN : Hid (OwnT (w.drew.alloc (.cells cur 77)) w.heap.size S (.slice (some ⟨w.heap.size, 0, none⟩) 0 c) []) := Lib.hid ⟨[], rfl, World.ownsRow_made w.drew cur c (Nat.le_refl _) hcm hsz, by simp⟩
   have HR := Lib.hid hr
   have hcm2 : c ≤ 9223372036854775807 := hcm
   clear hr hc hcur hsz hcm hi0 hi1 hi2 hi3
   go_enter Tryz.func169, Tryz.ntmps169
   go_wp2_with (at_builtin; refine Lib.wpList_append_run _ rfl _ _ _ _ rfl _ _ rfl rfl _ _ HR.out ?_)
   go_ret
   exact ⟨_, rfl, (Ext.drew w).then_al _, HOWN.out⟩

/-- the parts that are joined so far -/
def joinN (A B : List Tm) (k : Nat) : List Tm := if k = 0 then [] else if k = 1 then A else A ++ B

set_option maxRecDepth 100000 in
set_option maxHeartbeats 2000000 in
theorem concat2_any {w : World} {S : Nat → Prop} {pb : Nat} {a a' : Option Addr} {cap cap' : Nat} {A B : List Tm} (hA6 : A.length ≤ 100000) (hB6 : B.length ≤ 100000) (hS : ∀ c, S c → c < w.heap.size) (hp : w.heap[pb]? = some (.cells #[.slice a A.length cap, .slice a' B.length cap'] 75)) (hA : LsT w S (.slice a A.length cap) A) (hB : LsT w S (.slice a' B.length cap') B) :
 Calls Tryz.prog 151 #[.slice (some ⟨pb, 0, none⟩) 2 2] w fun e w' => ∃ u, e = .returned u ∧ Ext w w' ∧ OwnT w' w.heap.size S u (A ++ B) := by
 have p0 : w.cell? ⟨pb, 0, none⟩ = some (.slice a A.length cap) := by simp [World.cell?, hp]
 have p1 : w.cell? ⟨pb, 1, none⟩ = some (.slice a' B.length cap') := by simp [World.cell?, hp]
 have hcg := grow_any (w := w) (S := S) (n := A.length + B.length) (by omega)
 have HG := Lib.hid hcg
 have HS := Lib.hid hS
 have HA := Lib.hid hA
 have HB := Lib.hid hB
 have P0 := Lib.hid p0
 have P1 := Lib.hid p1
 clear hcg hS hA hB hp
 go_enter Tryz.func151, Tryz.ntmps151
 go_wp2_with fail
 go_loop [3, 5, 11] (fun sv _ iv => ∃ k s : Nat, k ≤ 2 ∧ iv = .int .i64 k ∧ sv = .int .i64 s ∧ s = (joinN A B k).length) (fun _ _ iv => 2 - (intOf iv).toNat)
 case atStart => exact ⟨0, 0, by omega, rfl, rfl, rfl⟩
 case round =>
  obtain ⟨k, s, hk, rfl, rfl, hs⟩ := hrel
  rcases (by omega : k = 0 ∨ k = 1 ∨ k = 2) with rfl | rfl | rfl
  · have hs0 : s = 0 := hs
    subst hs0
    clear hs
    go_wp2_with fail
    go_round
    case rel => exact ⟨1, A.length, by omega, by go_num, by go_num, rfl⟩
    case measure => simp [intOf]
  · have hs0 : s = A.length := hs
    subst hs0
    clear hs
    go_wp2_with fail
    go_round
    case rel => exact ⟨2, A.length + B.length, by omega, by go_num, by go_num, by simp [joinN]⟩
    case measure => simp [intOf]
  · have hs0 : s = A.length + B.length := by rw [hs]; simp [joinN]
    subst hs0
    clear hs
    go_wp2_with fail
    refine HG.out.mono ?_
    rintro e w2 ⟨u, rfl, hE2, hO2⟩
    have HE2 := Lib.hid hE2
    have HO2 := Lib.hid hO2
    clear hE2 hO2
    go_wp2_with fail
    go_loopw [6, 8, 27] (fun ov _ iv wr => ∃ k : Nat, k ≤ 2 ∧ iv = .int .i64 k ∧ OwnT wr w.heap.size S ov (joinN A B k) ∧ Ext w wr) (fun _ _ iv _ => 2 - (intOf iv).toNat)
    case atStart => exact ⟨0, by omega, rfl, HO2.out, HE2.out⟩
    case round =>
     clear p0 p1
     obtain ⟨k, hk, rfl, hO, hE⟩ := hrel
     have p0 := cs_ext hE P0.out
     have p1 := cs_ext hE P1.out
     have hsz := hE.size
     have hoff := hO.off HS.out
     have hAs := HA.out.ext hE
     have hBs := HB.out.ext hE
     have HE := Lib.hid hE
     clear hE
     rcases (by omega : k = 0 ∨ k = 1 ∨ k = 2) with rfl | rfl | rfl
     · have hO : OwnT wr w.heap.size S u6 [] := hO
       go_wp2_with (at_builtin; (refine wpList_appT rfl (.tmp 31) (.tmp 32) rfl rfl rfl hO hsz hoff (by simp) (X := A) (by omega) hAs ?_); intro v5 w5 o5 g5 k5
                    have HO5 : Hid (OwnT w5 w.heap.size S v5 A) := Lib.hid o5
                    have HE5 := Lib.hid (HE.out.grownT hO g5)
                    clear o5 g5 k5 hO hAs hBs hoff)
       go_roundw
       case rel => exact ⟨1, by omega, by go_num, HO5.out, HE5.out⟩
       case measure => simp [intOf]
     · have hO : OwnT wr w.heap.size S u6 A := hO
       go_wp2_with (at_builtin; (refine wpList_appT rfl (.tmp 31) (.tmp 32) rfl rfl rfl hO hsz hoff (by omega) (X := B) (by omega) hBs ?_); intro v5 w5 o5 g5 k5
                    have HO5 : Hid (OwnT w5 w.heap.size S v5 (A ++ B)) := Lib.hid o5
                    have HE5 := Lib.hid (HE.out.grownT hO g5)
                    clear o5 g5 k5 hO hAs hBs hoff)
       go_roundw
       case rel => exact ⟨2, by omega, by go_num, HO5.out, HE5.out⟩
       case measure => simp [intOf]
     · have HO : Hid (OwnT wr w.heap.size S u6 (A ++ B)) := Lib.hid hO
       clear hO hAs hBs hoff
       go_wp2_with fail
       go_ret
       exact ⟨_, rfl, HE.out, HO.out⟩

set_option maxRecDepth 100000 in
set_option maxHeartbeats 1000000 in
theorem right_any {w : World} {S : Nat → Prop} {a a' : Option Addr} {cap cap' : Nat} {L M : List Tm} (hL6 : ∀ x ∈ L, sizeT x ≤ 1000000) (hM6 : ∀ x ∈ M, sizeT x ≤ 1000000) (hml : M.length ≤ 1000) (hL : LsT w S (.slice a L.length cap) L) (hM : LsT w S (.slice a' M.length cap') M) :
 Calls Tryz.prog 143 #[.slice a L.length cap, .slice a' M.length cap'] w fun e w' => e = .returned (.int .i64 (rightS L M)) ∧ Ext w w' := by
 by_cases h200 : 200 < L.length
 · have h200z : (200 : Int) < L.length := by omega
   have HR : Hid (rightS L M = 3) := Lib.hid (by rw [rightS, if_pos h200])
   go_enter Tryz.func143, Tryz.ntmps143
   go_wp2_with fail
   go_ret
   exact ⟨ri HR.out.symm, Ext.refl _⟩
 · have h200z : ¬ (200 : Int) < L.length := by omega
   have HR : Hid (rightS L M = validL (L ++ M)) := Lib.hid (by rw [rightS, if_neg h200])
   have hcon := concat2_any (w := w.alloc (.cells #[.slice a L.length cap, .slice a' M.length cap'] 75)) (S := fun c => c < w.heap.size) (pb := w.heap.size) (by omega) (by omega) (fun c hc => by simp; omega) hs_new (hL.below.ext (Ext.alloc _ _)) (hM.below.ext (Ext.alloc _ _))
   have HC := Lib.hid hcon
   have H6 : Hid (∀ x ∈ L ++ M, sizeT x ≤ 1000000) := Lib.hid (fun x hx => by
    rcases List.mem_append.1 hx with h | h
    · exact hL6 x h
    · exact hM6 x h)
   have hlm : (L ++ M).length ≤ 2000 := by rw [List.length_append]; omega
   obtain ⟨R, hR⟩ : ∃ R, R = L ++ M := ⟨_, rfl⟩
   rw [← hR] at HC H6 HR hlm
   clear hL hM hL6 hM6 hcon hR
   go_enter Tryz.func143, Tryz.ntmps143
   go_wp2_with fail
   refine HC.out.mono ?_
   rintro e w2 ⟨u, rfl, hE2, hO2⟩
   obtain ⟨ua, uc, hu, hl1, hl2, hts⟩ := id hO2.ls
   subst hu
   unfold maxLen at hl2
   have HE2 := Lib.hid ((Ext.alloc w _).trans hE2)
   have HTS := Lib.hid hts
   clear hE2 hO2 hts
   go_wp2_with fail
   go_loopw [6, 7, 16] (fun _ _ kv wr => ∃ k : Nat, kv = .int .i64 k ∧ k ≤ R.length ∧ validL (R.take k) = 0 ∧ Ext w2 wr) (fun _ _ kv _ => R.length - (intOf kv).toNat)
   case atStart => exact ⟨0, rfl, by omega, by simp [validL], Ext.refl _⟩
   case round =>
    obtain ⟨k, rfl, hk, hz, hE⟩ := hrel
    have HZ := Lib.hid hz
    have HE := Lib.hid hE
    clear hz hE
    by_cases hlt : k < R.length
    · obtain ⟨x, hx⟩ : ∃ x, R[k]? = some x := ⟨_, List.getElem?_eq_getElem hlt⟩
      obtain ⟨xb, xo, xa, xc, rfl, x0, x1, x2, x3, hTx⟩ := (HTS.out.ext HE.out).at hx
      have hcon := PValid_any (w := wr.alloc (.cells #[.int .i64 x.kind, .string x.name, .int .i64 x.sort, .slice xa x.kids.length xc] 77)) (H6.out x (List.mem_of_getElem? hx)) (hTx.ext (Ext.alloc _ _))
      obtain ⟨z, hzz⟩ : ∃ z, z = validT x := ⟨_, rfl⟩
      rw [← hzz] at hcon
      have HX := Lib.hid hx
      have HZZ := Lib.hid hzz
      have HCON := Lib.hid hcon
      clear hx hTx hzz hcon
      go_wp2_with fail
      refine HCON.out.mono ?_
      rintro e w3 ⟨rfl, hE3⟩
      have HE3 := Lib.hid (HE.out.trans ((Ext.alloc wr _).trans hE3))
      clear hE3
      by_cases hz0 : z = 0
      · have e6 : (z != 0) = false := by simp [hz0]
        have HZ0 := Lib.hid hz0
        clear hz0
        go_wp2_with fail
        go_roundw
        case rel => exact ⟨k + 1, by go_num, by omega, by rw [validL_take HX.out, HZ.out, ← HZZ.out, HZ0.out]; rfl, HE3.out⟩
        case measure => simp [intOf]; omega
      · have e6 : (z != 0) = true := by simp [hz0]
        have HRR : Hid (rightS L M = z) := Lib.hid (by rw [HR.out, validL_at HX.out HZ.out (by rw [← HZZ.out]; exact hz0), ← HZZ.out])
        clear hz0
        go_wp2_with fail
        go_ret
        exact ⟨ri HRR.out.symm, HE2.out.trans HE3.out⟩
    · have HRR : Hid (rightS L M = 0) := Lib.hid (by rw [HR.out, ← List.take_of_length_le (i := k) (l := R) (by omega)]; exact HZ.out)
      go_wp2_with fail
      go_ret
      exact ⟨ri HRR.out.symm, HE2.out.trans HE.out⟩

theorem wpList_storeAt {ops : Array Oper} {rest : List Oper} {o : Oper} {a : Act} {w : World} {Q : Exit → Act → World → Prop} (hgd : o.guard = none) (x y : Operand) (ho : o.op = .store 77 x y)
 {g off : Nat} (hx : a.eval x = .pointer (some ⟨g, off, none⟩)) {k s : Int} {n : ByteArray} {ka : Option Addr} {kl kc : Nat} (hy : a.eval y = .agg #[.int .i64 k, .string n, .int .i64 s, .slice ka kl kc])
 {cur : Array Value} (hg : w.heap[g]? = some (.cells cur 77)) (ho4 : off + 4 ≤ cur.size)
 (hK : ∀ w', w'.heap[g]? = some (.cells (cur.toList.take off ++ ([.int .i64 k, .string n, .int .i64 s, .slice ka kl kc] : List Value) ++ cur.toList.drop (off + 4)).toArray 77) → (∀ q, q ≠ g → w'.heap[q]? = w.heap[q]?) → (∀ W0, Ext W0 w → W0.heap.size ≤ g → Ext W0 w') → w'.heap.size = w.heap.size → wpList Tryz.prog ops Q rest (a.put o.dst undef) w') :
 wpList Tryz.prog ops Q (o :: rest) a w := by
 refine wpList_plain hgd fun K hK' => ?_
 have hr := run_storeCells_at (P := Tryz.prog) g off 77 [.int .i64 k, .string n, .int .i64 s, .slice ka kl kc] 0 cur w hg (by simpa using ho4) (by simp [Value.oneCell'])
 have hsz := sizT
 cases hq : Tryz.prog.info? 77 with
 | none => rw [hq] at hsz; cases hsz
 | some i0 =>
   have hs : i0.size = 4 := by rw [hq] at hsz; simpa using hsz
   have hv : (storeVar 77 ⟨g, off, none⟩ (.agg #[.int .i64 k, .string n, .int .i64 s, .slice ka kl kc])).run Tryz.prog w = .ok () (w.setRow g (cur.toList.take off ++ ([.int .i64 k, .string n, .int .i64 s, .slice ka kl kc] : List Value) ++ cur.toList.drop (off + 4)).toArray) := by
    simp only [Nat.add_zero, List.length_cons, List.length_nil] at hr
    simp [storeVar, sizeOf, typeInfo, hq, Value.cells, hs, hr]
   unfold Oper.wp execOp
   simp only [ho, hx, hy, Instr.storeAt, Instr.sureAddr, Sem.run_bind, Sem.run_pure, Result.andThen_ok, hv]
   exact hK' _ _ (hK _ (setRow_heap w g cur _ _ _ hg) (fun q hq => setRow_other w g q _ hq) (fun W0 h hg => h.setRow hg _) (size_setRow _ _ _))

/-- the row g holds E, and what is left -/
structure OwnI (w wr : World) (g n : Nat) (E : List TE) (rest : List Value) : Prop where
 row : wr.heap[g]? = some (.cells (E.flatMap encE ++ rest).toArray 77)
 len : rest.length + E.length * 4 = n * 4
 kids : ∀ e ∈ E, TmW wr (fun c => w.heap.size ≤ c ∧ c ≠ g) e.a e.cap e.t
 ext : Ext w wr
theorem OwnI.next {w wr w' : World} {g n : Nat} {E : List TE} {rest : List Value} (h : OwnI w wr g n E rest) (hE : Ext wr w') : OwnI w w' g n E rest :=
 ⟨hs_ext hE h.row, h.len, fun e he => (h.kids e he).ext hE, h.ext.trans hE⟩
theorem row_put {E : List TE} {x : Tm} {a a' : Option Addr} {c c' : Nat} {rest : List Value} : (((E ++ [(⟨x, a, c⟩ : TE)]).flatMap encE ++ rest).toArray).setIfInBounds (E.length * 4 + 3) (.slice a' x.kids.length c') = ((E ++ [(⟨x, a', c'⟩ : TE)]).flatMap encE ++ rest).toArray := by
 have hl := flatE_len encE_len E
 rw [List.setIfInBounds_toArray]
 congr 1
 simp only [List.flatMap_append, List.flatMap_cons, List.flatMap_nil, List.append_nil, List.append_assoc]
 rw [List.set_append_right _ _ (by omega), hl, show E.length * 4 + 3 - E.length * 4 = 3 by omega]
 rfl
theorem row_store {E : List TE} {x : Tm} {a : Option Addr} {c : Nat} {r0 r1 r2 r3 : Value} {rest : List Value} : ((E.flatMap encE ++ (r0 :: r1 :: r2 :: r3 :: rest)).toArray.toList.take (E.length * 4) ++ ([.int .i64 x.kind, .string x.name, .int .i64 x.sort, .slice a x.kids.length c] : List Value) ++ (E.flatMap encE ++ (r0 :: r1 :: r2 :: r3 :: rest)).toArray.toList.drop (E.length * 4 + 4)).toArray = ((E ++ [(⟨x, a, c⟩ : TE)]).flatMap encE ++ rest).toArray := by
 have hl := flatE_len encE_len E
 congr 1
 simp only [List.flatMap_append, List.flatMap_cons, List.flatMap_nil, List.append_nil]
 rw [← hl, List.take_left, ← List.drop_drop, List.drop_left]
 simp [encE]
theorem row_get {E : List TE} {x : Tm} {a : Option Addr} {c : Nat} {rest : List Value} : (((E ++ [(⟨x, a, c⟩ : TE)]).flatMap encE ++ rest).toArray)[E.length * 4 + 3]? = some (.slice a x.kids.length c) := by
 simp only [List.getElem?_toArray, List.flatMap_append, List.flatMap_cons, List.flatMap_nil, List.append_nil, List.append_assoc]
 have h1 := flatE_len encE_len E
 rw [List.getElem?_append_right (by omega), h1, show E.length * 4 + 3 - E.length * 4 = 3 by omega]
 rfl
theorem OwnI.last {w w6 w7 : World} {g n : Nat} {E : List TE} {x : Tm} {a a' : Option Addr} {c c' : Nat} {rest : List Value} (h : OwnI w w6 g n (E ++ [⟨x, a, c⟩]) rest) (hw7 : w7 = w6.setCell ⟨g, E.length * 4 + 3, none⟩ (.slice a' x.kids.length c')) (hg : w.heap.size ≤ g) (hT : TmW w6 (fun c => w.heap.size ≤ c ∧ c ≠ g) a' c' x) :
 OwnI w w7 g n (E ++ [⟨x, a', c'⟩]) rest := by
 have hk : ∀ c, c ≠ g → w7.heap[c]? = w6.heap[c]? := fun c hc => by rw [hw7]; exact heap_setCell_other _ _ _ _ hc
 refine ⟨?_, by have := h.len; simp at this ⊢; omega, fun e he => ?_, by rw [hw7]; exact h.ext.setCell hg _⟩
 · rw [hw7, heap_setCell_same _ _ _ _ _ _ h.row, row_put]
 · rcases List.mem_append.1 he with he | he
   · exact (h.kids e (by simp [he])).keep (fun c hc _ => hk c hc.2) (fun _ h _ => h)
   · simp at he
     subst he
     exact hT.keep (fun c hc _ => hk c hc.2) (fun _ h _ => h)
theorem OwnI.own {w wr : World} {g n : Nat} {E : List TE} (h : OwnI w wr g n E []) (hg : w.heap.size ≤ g) (hn : n ≤ 1000000) : E.length = n ∧ OwnT wr w.heap.size (fun c => w.heap.size ≤ c) (.slice (some ⟨g, 0, none⟩) n n) (E.map (·.t)) := by
 have hl := flatE_len encE_len E
 have hEn : E.length = n := by have := h.len; simp at this; omega
 refine ⟨hEn, E, rfl, ⟨hl, .inr ⟨g, n, _, by rw [hEn], hg, h.row, by omega, by unfold maxLen; omega, ?_, ?_⟩⟩, fun e he => (h.kids e he).wide (fun c hc _ => hc.1)⟩
 · simp only [List.append_nil, List.size_toArray]; omega
 · simp only [List.append_nil]; rw [← hl, List.take_length]

set_option maxRecDepth 100000 in
set_option maxHeartbeats 4000000 in
theorem own_any (n : Nat) : ∀ (w : World) (S : Nat → Prop) (a : Option Addr) (cap : Nat) (L : List Tm), sizeL L ≤ n → n ≤ 1000000 → LsT w S (.slice a L.length cap) L →
 Calls Tryz.prog 146 #[.slice a L.length cap] w fun e w' => ∃ u, e = .returned u ∧ Ext w w' ∧ OwnT w' w.heap.size (fun c => w.heap.size ≤ c) u L := by
 induction n using Nat.strongRecOn with
 | ind n ih =>
   intro w S a cap L hn hn2 hL
   have hll : L.length ≤ 1000000 := by have := len_size L; omega
   obtain ⟨-, hc1, hc2⟩ := hL.len
   unfold maxLen at hc2
   obtain ⟨i0, hi0, hi1, hi2, hi3⟩ := info_parts infT
   have hmk := run_makeSlice (P := Tryz.prog) w 75 77 i0 _ Tryz.underlying75 hi0 hi1 .i64 .i64 (L.length : Int) (L.length : Int) (by omega) (by omega) (by rw [hi2]; simp; omega) (by rw [hi3]; omega) (by omega)
   obtain ⟨g, hgg⟩ : ∃ g, g = w.heap.size := ⟨_, rfl⟩
   obtain ⟨rest0, hr0⟩ : ∃ rest0, rest0 = (madeCells (Value.agg #[.int .i64 0, .string ⟨#[]⟩, .int .i64 0, .slice none 0 0]).cells (L.length * 4)).toList := ⟨_, rfl⟩
   rw [hi2, Int.toNat_natCast, ← hgg] at hmk
   obtain ⟨w1, hw1⟩ : ∃ w1, w1 = w.alloc (.cells (madeCells (Value.agg #[.int .i64 0, .string ⟨#[]⟩, .int .i64 0, .slice none 0 0]).cells (L.length * 4)) 77) := ⟨_, rfl⟩
   rw [← hw1] at hmk
   have HI0 : Hid (OwnI w w1 g L.length [] rest0) := Lib.hid (by
    refine ⟨?_, by rw [hr0, Array.length_toList, size_madeCells]; simp, by simp, by rw [hw1]; exact Ext.alloc _ _⟩
    rw [hw1, hgg, hr0]
    simpa using hs_new)
   have HGG := Lib.hid hgg
   have HL := Lib.hid hL.below
   have HN := Lib.hid hn
   have HMK := Lib.hid hmk
   have IH := Lib.hid ih
   clear hL hn ih hr0 hi0 hi1 hi2 hi3 hw1 hgg hmk
   go_enter Tryz.func146, Tryz.ntmps146
   have hmk := HMK.out
   go_wp2_with fail
   clear hmk
   go_loopw [4, 5, 11, 16] (fun _ _ kv _ wr => ∃ (k : Nat) (E : List TE) (rest : List Value), kv = .int .i64 k ∧ k ≤ L.length ∧ E.length = k ∧ E.map (·.t) = L.take k ∧ OwnI w wr g L.length E rest) (fun _ _ kv _ _ => L.length - (intOf kv).toNat)
   case atStart => exact ⟨0, [], rest0, rfl, by omega, rfl, rfl, HI0.out⟩
   case round =>
    obtain ⟨k, E, rest, rfl, hk, hEl, hEm, hI⟩ := hrel
    by_cases hlt : k < L.length
    · obtain ⟨x, hx⟩ : ∃ x, L[k]? = some x := ⟨_, List.getElem?_eq_getElem hlt⟩
      obtain ⟨xb, xo, xa, xc, rfl, x0, x1, x2, x3, hTx⟩ := (HL.out.ext hI.ext).ts.at hx
      have hsx := sizeL_get hx
      have hkx := sizeT_kids x
      have hnn := HN.out
      have HTK : Hid (L.take (k + 1) = L.take k ++ [x]) := Lib.hid (by rw [List.take_add_one, hx]; rfl)
      obtain ⟨r0, r1, r2, r3, rest', rfl⟩ : ∃ r0 r1 r2 r3 rest', rest = r0 :: r1 :: r2 :: r3 :: rest' := by
       have hl := hI.len
       match rest, hl with
       | r0 :: r1 :: r2 :: r3 :: rest', _ => exact ⟨_, _, _, _, _, rfl⟩
       | [], hl => simp at hl; omega
       | [_], hl => simp at hl; omega
       | [_, _], hl => simp at hl; omega
       | [_, _, _], hl => simp at hl; omega
      obtain ⟨q, hq⟩ : ∃ q, q = wr.heap.size := ⟨_, rfl⟩
      obtain ⟨w3, hw3⟩ : ∃ w3, w3 = wr.alloc (.cells #[.int .i64 x.kind, .string x.name, .int .i64 x.sort, .slice xa x.kids.length xc] 77) := ⟨_, rfl⟩
      have hE3 : Ext wr w3 := by rw [hw3]; exact Ext.alloc _ _
      have h3 : w3.heap[q]? = some (.cells #[.int .i64 x.kind, .string x.name, .int .i64 x.sort, .slice xa x.kids.length xc] 77) := by rw [hw3, hq]; exact hs_new
      have z0 : w3.cell? ⟨q, 0, none⟩ = some (.int .i64 x.kind) := by rw [cellc h3]; rfl
      have z1 : w3.cell? ⟨q, 1, none⟩ = some (.string x.name) := by rw [cellc h3]; rfl
      have z2 : w3.cell? ⟨q, 2, none⟩ = some (.int .i64 x.sort) := by rw [cellc h3]; rfl
      have z3 : w3.cell? ⟨q, 3, none⟩ = some (.slice xa x.kids.length xc) := by rw [cellc h3]; rfl
      have hglt : g < wr.heap.size := lt_of_get' hI.row
      have HQ : Hid (g < q) := Lib.hid (by rw [hq]; exact hglt)
      have hcon := replace_nil (w := w3) (by omega) (by omega) (hTx.ext hE3) (hTx.ext hE3)
      have HI3 := Lib.hid (hI.next hE3)
      have HCON := Lib.hid hcon
      have H3 := Lib.hid h3
      have HTX := Lib.hid (hTx.ext hE3)
      have HSX : Hid (sizeL x.kids < n ∧ sizeL x.kids ≤ 1000000) := Lib.hid (by have := HN.out; omega)
      have HEL := Lib.hid hEl
      have HEM := Lib.hid hEm
      have hxl := hTx.len
      have hxm := hTx.cap
      unfold maxLen at hxm
      clear hx hsx hkx hnn hTx hI hE3 h3 hcon hEl hEm hglt
      go_upto_region 5 with fail
      rw [← hw3, ← hq]
      clear hw3 hq x0 x1 x2 x3
      go_wp2_with fail
      refine HCON.out.mono ?_
      rintro e w4 ⟨v, rfl, hE4, va, vc, rfl, hV⟩
      have HI4 := Lib.hid (HI3.out.next hE4)
      have HROW := Lib.hid HI4.out.row
      have HV := Lib.hid hV
      have H4 := Lib.hid (hs_ext hE4 H3.out)
      have HTX4 := Lib.hid (HTX.out.ext hE4)
      have hfit : k * 4 + 4 ≤ (E.flatMap encE ++ (r0 :: r1 :: r2 :: r3 :: rest')).toArray.size := by
       have h1 := flatE_len encE_len E
       rw [List.size_toArray, List.length_append, h1, HEL.out]
       simp only [List.length_cons]
       omega
      have HW3 : Hid (w3.heap.size ≤ w4.heap.size ∧ q < w3.heap.size) := Lib.hid ⟨hE4.size, lt_of_get' H3.out⟩
      clear hE4 hV z0 z1 z2 z3
      go_upto_region 6 with (first
       | ((refine wpList_storeAt rfl (.tmp 24) (.tmp 22) rfl (g := g) (off := k * 4) rfl (k := x.kind) (s := x.sort) (n := x.name) (ka := va) (kl := x.kids.length) (kc := vc) rfl HROW.out hfit ?_); intro w5 c5 q5 e5 s5
          have C5 := Lib.hid c5
          have Q5 := Lib.hid q5
          have E5 := Lib.hid e5
          have S5 := Lib.hid s5
          clear c5 q5 e5 s5))
      have HI5 : Hid (OwnI w w5 g L.length (E ++ [⟨x, va, vc⟩]) rest') := Lib.hid (by
       have h1 := HI4.out
       have h2 := HGG.out
       have h3 := HQ.out
       have h4 := HW3.out
       refine ⟨?_, by have := h1.len; simp at this ⊢; omega, fun e he => ?_, E5.out w h1.ext (by omega)⟩
       · have := C5.out
         rw [← HEL.out] at this
         rw [this, row_store]
       · rcases List.mem_append.1 he with he | he
         · exact (h1.kids e he).keep (fun c hc _ => Q5.out c hc.2) (fun _ h _ => h)
         · simp at he
           subst he
           exact ((HV.out.wide (S' := fun c => w.heap.size ≤ c ∧ c ≠ g) (fun c hc _ => by omega)).keep (fun c hc _ => Q5.out c hc.2) (fun _ h _ => h)))
      have H5 : Hid (w5.heap[q]? = some (.cells #[.int .i64 x.kind, .string x.name, .int .i64 x.sort, .slice xa x.kids.length xc] 77)) := Lib.hid (by rw [Q5.out q (by have := HQ.out; omega)]; exact H4.out)
      have HTX5 : Hid (TmW w5 (fun c => c < w.heap.size) xa xc x) := Lib.hid (HTX4.out.keep (fun c hc _ => Q5.out c (by have := HGG.out; omega)) (fun _ h _ => h))
      have z3 : w5.cell? ⟨q, 3, none⟩ = some (.slice xa x.kids.length xc) := by rw [cellc H5.out]; rfl
      have hcon := IH.out (sizeL x.kids) HSX.out.1 w5 _ xa xc x.kids (Nat.le_refl _) HSX.out.2 HTX5.out.ls
      have HCON2 := Lib.hid hcon
      clear hcon hfit
      go_wp2_with fail
      refine HCON2.out.mono ?_
      rintro e w6 ⟨u, rfl, hE6, hO6⟩
      obtain ⟨ua, uc, hu, -, -, -⟩ := id hO6.ls
      subst hu
      have HI6 := Lib.hid (HI5.out.next hE6)
      have HO6 := Lib.hid hO6
      have H6 := Lib.hid (hs_ext hE6 H5.out)
      have HW6 : Hid (q < w5.heap.size ∧ w5.heap.size ≤ w6.heap.size) := Lib.hid ⟨lt_of_get' H5.out, hE6.size⟩
      have k3 : w6.cell? ⟨g, k * 4 + 3, none⟩ = some (.slice va x.kids.length vc) := by rw [cellc HI6.out.row, ← HEL.out]; exact row_get
      have f3 : w6.frozen? ⟨g, k * 4 + 3, none⟩ = false := frozenc HI6.out.row
      clear hE6 hO6 z3
      obtain ⟨w7, hw7⟩ : ∃ w7, w7 = w6.setCell ⟨g, k * 4 + 3, none⟩ (.slice ua x.kids.length uc) := ⟨_, rfl⟩
      have HGW : Hid (w.heap.size ≤ g) := Lib.hid (by rw [HGG.out]; exact Nat.le_refl _)
      have HI7 : Hid (OwnI w w7 g L.length (E ++ [⟨x, ua, uc⟩]) rest') := Lib.hid (by
       have h2 := HGG.out
       have h3 := HQ.out
       have h6 := HW6.out
       refine HI6.out.last (by rw [hw7, HEL.out]) HGW.out ?_
       have hlt := HO6.out.lt
       have hx := HTX.out
       have hls := (HO6.out.ls.wide (S' := fun c => w.heap.size ≤ c ∧ c ≠ g) (fun c hc _ => by omega))
       have hks := hls.kids (fun b o e => by subst e; have := (hlt b rfl).1; omega)
       exact ⟨hx.kind, hx.sort, hx.name, hls.len.2.1, hls.len.2.2, hks⟩)
      have h7 : w7.heap[q]? = some (.cells #[.int .i64 x.kind, .string x.name, .int .i64 x.sort, .slice xa x.kids.length xc] 77) := by
       rw [hw7, heap_setCell_other _ _ _ _ (by have := HQ.out; show q ≠ g; omega)]; exact H6.out
      have z3 : w7.cell? ⟨q, 3, none⟩ = some (.slice xa x.kids.length xc) := by rw [cellc h7]; rfl
      have k4 : w7.cell? ⟨g, k * 4 + 3, none⟩ = some (.slice ua x.kids.length uc) := by rw [cellc HI7.out.row, ← HEL.out]; exact row_get
      have f4 : w7.frozen? ⟨g, k * 4 + 3, none⟩ = false := frozenc HI7.out.row
      go_upto_region 7 with fail
      rw [← hw7]
      clear hw7 h7 k3 f3
      by_cases h0 : x.kids.length = 0
      · have e0 : ((x.kids.length : Int) == 0) = true := by simp [h0]
        have H0 := Lib.hid h0
        clear h0
        obtain ⟨w8, hw8⟩ : ∃ w8, w8 = w7.setCell ⟨g, k * 4 + 3, none⟩ (.slice none 0 0) := ⟨_, rfl⟩
        have HI8 : Hid (OwnI w w8 g L.length (E ++ [⟨x, none, 0⟩]) rest') := Lib.hid (by
         have hx := HTX.out
         refine HI7.out.last (by rw [hw8, HEL.out, H0.out]) HGW.out ⟨hx.kind, hx.sort, hx.name, by rw [H0.out]; exact Nat.le_refl _, by unfold maxLen; omega, 0, 0, fun h => absurd (List.length_eq_zero_iff.1 H0.out) h, fun i t hi => by rw [List.length_eq_zero_iff.1 H0.out] at hi; simp at hi⟩)
        have HK8 : Hid (w8 = w7.setCell ⟨g, k * 4 + 3, none⟩ (.slice none 0 0)) := Lib.hid hw8
        clear hw8
        go_wp2_with fail
        go_roundw
        case rel => exact ⟨k + 1, E ++ [⟨x, none, 0⟩], rest', by go_num, by omega, by rw [List.length_append, HEL.out]; rfl, by rw [List.map_append, HEM.out, HTK.out]; rfl, by have := HI8.out; rw [HK8.out] at this; exact this⟩
        case measure => simp [intOf]; omega
      · have e0 : ((x.kids.length : Int) == 0) = false := beq_eq_false_iff_ne.2 (by omega)
        clear h0
        go_wp2_with fail
        go_roundw
        case rel => exact ⟨k + 1, E ++ [⟨x, ua, uc⟩], rest', by go_num, by omega, by rw [List.length_append, HEL.out]; rfl, by rw [List.map_append, HEM.out, HTK.out]; rfl, HI7.out⟩
        case measure => simp [intOf]; omega
    · have hkl : k = L.length := by omega
      have hr0 : rest = [] := by
       have := hI.len
       exact List.length_eq_zero_iff.1 (by omega)
      subst hr0
      have hO := hI.own (by rw [HGG.out]; exact Nat.le_refl _) hll
      rw [hEm, List.take_of_length_le (by omega)] at hO
      have HO := Lib.hid hO.2
      have HE := Lib.hid hI.ext
      clear hI hO hEl hEm
      go_wp2_with fail
      go_ret
      exact ⟨_, rfl, HE.out, HO.out⟩

end Go.Proofs.YtfaienbdebjfcaaGreat
