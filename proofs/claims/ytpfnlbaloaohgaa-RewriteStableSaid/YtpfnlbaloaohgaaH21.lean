/- Contracts: the reference's terms that bytes describe. Contracts: the reference's Grown. -/
import Derived.Test.YtpfnlbaloaohgaaH19
import Derived.Test.YtpfnlbaloaohgaaH9
import Derived.Test.YtpfnlbaloaohgaaG4
namespace Go.Proofs.Ytpfnlbaloaohgaa
open Go Go.RowKit
set_option linter.unusedVariables false
set_option linter.unusedSimpArgs false

/-- two terms that the call has laid one behind the other -/
theorem two_lsG {w : World} {S : Nat → Prop} {fb : Nat} {t u : Tm} {ta ua : Option Addr} {tc uc : Nat} (hb : w.heap[fb]? = some (.cells #[.int .i64 t.kind, .string t.name, .int .i64 t.sort, .slice ta t.kids.length tc, .int .i64 u.kind, .string u.name, .int .i64 u.sort, .slice ua u.kids.length uc] 31)) (hS : S fb) (hT : TmW w S ta tc t) (hU : TmW w S ua uc u) : LsG elT w S (.slice (some ⟨fb, 0, none⟩) 2 2) [t, u] :=
 cells_lsG (E := elT) (P := [(t, encE ⟨t, ta, tc⟩), (u, encE ⟨u, ua, uc⟩)]) hb rfl rfl rfl (by unfold maxLen; simp) hS (fun p hp => by
  simp at hp
  rcases hp with rfl | rfl
  · exact ⟨ta, tc, rfl, hT⟩
  · exact ⟨ua, uc, rfl, hU⟩)
theorem pow_pos2 (k : Nat) : 2 ≤ 2 ^ (k + 1) := by
 induction k with
 | zero => decide
 | succ k ih => rw [Nat.pow_succ]; omega
/-- a leaf has room enough -/
theorem leaf_room {k kd s : Int} {n : ByteArray} (m : Nat) : sizeT (.mk kd n s []) + 1 ≤ 2 ^ (m + 1) := by
 have := pow_pos2 m
 simp only [sizeT, sizeL]
 omega

set_option maxRecDepth 100000 in
set_option maxHeartbeats 8000000 in
theorem SNode_any (k : Nat) : ∀ (w : World) (S : Nat → Prop) (a : Option Addr) (cap : Nat) (C : List Nat) (p d : Nat), d + k = 5 → 1 ≤ d → p + 2 ^ (k + 1) ≤ 1000000 → LsG elB w S (.slice a C.length cap) C →
 Calls Try.prog 48 #[.slice a C.length cap, .int .i64 (p : Int), .int .i64 (d : Int)] w fun e w' => ∃ (v : Value) (t : Tm) (q : Nat), e = .returned (.tuple #[v, .int .i64 (q : Int)]) ∧ Ext w w' ∧ IsS w' (fun c => w.heap.size ≤ c) v t ∧ sizeT t + 1 ≤ 2 ^ (k + 1) ∧ q + 1 ≤ p + 2 ^ (k + 1) := by
 induction k with
 | zero =>
   intro w S a cap C p d hdk hd1 hp hC
   obtain ⟨-, hcl, hcc⟩ := hC.len
   unfold maxLen at hcc
   have hp : p ≤ 1000000 := Nat.le_trans (Nat.le_add_right _ _) hp
   obtain ⟨rx, w1, hrx, hw1, HBR, hE1⟩ := box_new w (.cells #[.int .i64 0, .string ⟨#[]⟩, .int .i64 0, .slice none 0 0] 31)
   have HC := Lib.hid (hC.ext hE1)
   have HE := Lib.hid hE1
   have HNB := Lib.hid hrx
   have HAT := Lib.hid (fun (n : ByteArray) (k : Int) (h : n.size ≤ maxLen) (h2 : I64 k) => Atom_any (w := w1) h h2)
   have HVA := Lib.hid (fun (n : ByteArray) (k : Int) (h : n.size ≤ maxLen) (h2 : I64 k) => SVar_any (w := w1) h h2)
   clear hC hE1
   have hd5 : d = 5 := by omega
   subst hd5
   clear hdk hd1
   go_enter Try.func48, Try.ntmps48
   go_upto_region 1 with fail
   rw [← hw1, ← hrx]
   clear hw1 hrx
   by_cases hlt : p < C.length
   · have hpz : (p : Int) < (C.length : Int) := by omega
     have hp0 : (0 : Int) ≤ (p : Int) := by omega
     obtain ⟨c, hc⟩ : ∃ c, C[p]? = some c := ⟨_, List.getElem?_eq_getElem hlt⟩
     obtain ⟨cb, co, hca, c0, hc256⟩ := HC.out.bAt hc
     subst hca
     clear hc
     go_upto_region 6 with fail
     have hm : (c : Int) % 6 = 0 ∨ (c : Int) % 6 = 1 ∨ (c : Int) % 6 = 2 ∨ (c : Int) % 6 = 3 ∨ (c : Int) % 6 = 4 ∨ (c : Int) % 6 = 5 := by omega
     rcases hm with hm | hm | hm | hm | hm | hm <;> rw [hm] <;> clear hm
     · skip
       go_wp2_with fail
       refine (HVA.out ⟨#[120]⟩ 0 (by unfold maxLen; decide) (by unfold I64; omega)).mono ?_
       rintro e w2 ⟨rfl, hE2⟩
       have HBR := Lib.hid (hs_ext hE2 HBR.out)
       have HE := Lib.hid (HE.out.trans hE2)
       clear hE2
       go_wp2_with (
        refine wpList_storeT rfl (.tmp 6) (.tmp 38) rfl (g := rx) rfl (k := 1) (s := 0) (n := ⟨#[120]⟩) (ka := none) (kl := 0) (kc := 0) rfl HBR.out rfl ?_
        intro w99 c6 q6 e6 z6
        have HG6 := Lib.hid c6
        have HEQ := Lib.hid (e6 w HE.out (Nat.le_of_eq HNB.out.symm))
        clear c6 q6 e6 z6)
       refine ret_term2 (g := rx) rfl rfl HG6.out rfl ⟨_, .mk 1 ⟨#[120]⟩ 0 [], p + 1, by rfl, HEQ.out, ⟨none, 0, rfl, tm_nil (by unfold I64; omega) (by unfold I64; omega) (by unfold maxLen; decide)⟩, leaf_room (k := 0) _, by have := pow_pos2 0; omega⟩
     · skip
       go_wp2_with fail
       refine (HVA.out ⟨#[121]⟩ 0 (by unfold maxLen; decide) (by unfold I64; omega)).mono ?_
       rintro e w2 ⟨rfl, hE2⟩
       have HBR := Lib.hid (hs_ext hE2 HBR.out)
       have HE := Lib.hid (HE.out.trans hE2)
       clear hE2
       go_wp2_with (
        refine wpList_storeT rfl (.tmp 6) (.tmp 38) rfl (g := rx) rfl (k := 1) (s := 0) (n := ⟨#[121]⟩) (ka := none) (kl := 0) (kc := 0) rfl HBR.out rfl ?_
        intro w99 c6 q6 e6 z6
        have HG6 := Lib.hid c6
        have HEQ := Lib.hid (e6 w HE.out (Nat.le_of_eq HNB.out.symm))
        clear c6 q6 e6 z6)
       refine ret_term2 (g := rx) rfl rfl HG6.out rfl ⟨_, .mk 1 ⟨#[121]⟩ 0 [], p + 1, by rfl, HEQ.out, ⟨none, 0, rfl, tm_nil (by unfold I64; omega) (by unfold I64; omega) (by unfold maxLen; decide)⟩, leaf_room (k := 0) _, by have := pow_pos2 0; omega⟩
     · skip
       go_wp2_with fail
       refine (HVA.out ⟨#[122]⟩ 0 (by unfold maxLen; decide) (by unfold I64; omega)).mono ?_
       rintro e w2 ⟨rfl, hE2⟩
       have HBR := Lib.hid (hs_ext hE2 HBR.out)
       have HE := Lib.hid (HE.out.trans hE2)
       clear hE2
       go_wp2_with (
        refine wpList_storeT rfl (.tmp 6) (.tmp 38) rfl (g := rx) rfl (k := 1) (s := 0) (n := ⟨#[122]⟩) (ka := none) (kl := 0) (kc := 0) rfl HBR.out rfl ?_
        intro w99 c6 q6 e6 z6
        have HG6 := Lib.hid c6
        have HEQ := Lib.hid (e6 w HE.out (Nat.le_of_eq HNB.out.symm))
        clear c6 q6 e6 z6)
       refine ret_term2 (g := rx) rfl rfl HG6.out rfl ⟨_, .mk 1 ⟨#[122]⟩ 0 [], p + 1, by rfl, HEQ.out, ⟨none, 0, rfl, tm_nil (by unfold I64; omega) (by unfold I64; omega) (by unfold maxLen; decide)⟩, leaf_room (k := 0) _, by have := pow_pos2 0; omega⟩
     · skip
       go_wp2_with fail
       refine (HAT.out ⟨#[97]⟩ 0 (by unfold maxLen; decide) (by unfold I64; omega)).mono ?_
       rintro e w2 ⟨rfl, hE2⟩
       have HBR := Lib.hid (hs_ext hE2 HBR.out)
       have HE := Lib.hid (HE.out.trans hE2)
       clear hE2
       go_wp2_with (
        refine wpList_storeT rfl (.tmp 6) (.tmp 43) rfl (g := rx) rfl (k := 2) (s := 0) (n := ⟨#[97]⟩) (ka := none) (kl := 0) (kc := 0) rfl HBR.out rfl ?_
        intro w99 c6 q6 e6 z6
        have HG6 := Lib.hid c6
        have HEQ := Lib.hid (e6 w HE.out (Nat.le_of_eq HNB.out.symm))
        clear c6 q6 e6 z6)
       refine ret_term2 (g := rx) rfl rfl HG6.out rfl ⟨_, .mk 2 ⟨#[97]⟩ 0 [], p + 1, by rfl, HEQ.out, ⟨none, 0, rfl, tm_nil (by unfold I64; omega) (by unfold I64; omega) (by unfold maxLen; decide)⟩, leaf_room (k := 0) _, by have := pow_pos2 0; omega⟩
     · skip
       go_wp2_with fail
       refine (HVA.out ⟨#[110]⟩ 2 (by unfold maxLen; decide) (by unfold I64; omega)).mono ?_
       rintro e w2 ⟨rfl, hE2⟩
       have HBR := Lib.hid (hs_ext hE2 HBR.out)
       have HE := Lib.hid (HE.out.trans hE2)
       clear hE2
       go_wp2_with (
        refine wpList_storeT rfl (.tmp 6) (.tmp 48) rfl (g := rx) rfl (k := 1) (s := 2) (n := ⟨#[110]⟩) (ka := none) (kl := 0) (kc := 0) rfl HBR.out rfl ?_
        intro w99 c6 q6 e6 z6
        have HG6 := Lib.hid c6
        have HEQ := Lib.hid (e6 w HE.out (Nat.le_of_eq HNB.out.symm))
        clear c6 q6 e6 z6)
       refine ret_term2 (g := rx) rfl rfl HG6.out rfl ⟨_, .mk 1 ⟨#[110]⟩ 2 [], p + 1, by rfl, HEQ.out, ⟨none, 0, rfl, tm_nil (by unfold I64; omega) (by unfold I64; omega) (by unfold maxLen; decide)⟩, leaf_room (k := 0) _, by have := pow_pos2 0; omega⟩
     · skip
       go_wp2_with fail
       refine (HAT.out ⟨#[109]⟩ 2 (by unfold maxLen; decide) (by unfold I64; omega)).mono ?_
       rintro e w2 ⟨rfl, hE2⟩
       have HBR := Lib.hid (hs_ext hE2 HBR.out)
       have HE := Lib.hid (HE.out.trans hE2)
       clear hE2
       go_wp2_with (
        refine wpList_storeT rfl (.tmp 6) (.tmp 53) rfl (g := rx) rfl (k := 2) (s := 2) (n := ⟨#[109]⟩) (ka := none) (kl := 0) (kc := 0) rfl HBR.out rfl ?_
        intro w99 c6 q6 e6 z6
        have HG6 := Lib.hid c6
        have HEQ := Lib.hid (e6 w HE.out (Nat.le_of_eq HNB.out.symm))
        clear c6 q6 e6 z6)
       refine ret_term2 (g := rx) rfl rfl HG6.out rfl ⟨_, .mk 2 ⟨#[109]⟩ 2 [], p + 1, by rfl, HEQ.out, ⟨none, 0, rfl, tm_nil (by unfold I64; omega) (by unfold I64; omega) (by unfold maxLen; decide)⟩, leaf_room (k := 0) _, by have := pow_pos2 0; omega⟩
   · have hpz : ¬ (p : Int) < (C.length : Int) := by omega
     go_wp2_with fail
     refine (HAT.out ⟨#[97]⟩ 0 (by unfold maxLen; decide) (by unfold I64; omega)).mono ?_
     rintro e w2 ⟨rfl, hE2⟩
     have HBR := Lib.hid (hs_ext hE2 HBR.out)
     have HE := Lib.hid (HE.out.trans hE2)
     clear hE2
     go_wp2_with (
      refine wpList_storeT rfl (.tmp 6) (.tmp 43) rfl (g := rx) rfl (k := 2) (s := 0) (n := ⟨#[97]⟩) (ka := none) (kl := 0) (kc := 0) rfl HBR.out rfl ?_
      intro w99 c6 q6 e6 z6
      have HG6 := Lib.hid c6
      have HEQ := Lib.hid (e6 w HE.out (Nat.le_of_eq HNB.out.symm))
      clear c6 q6 e6 z6)
     refine ret_term2 (g := rx) rfl rfl HG6.out rfl ⟨_, .mk 2 ⟨#[97]⟩ 0 [], p + 1, by rfl, HEQ.out, ⟨none, 0, rfl, tm_nil (by unfold I64; omega) (by unfold I64; omega) (by unfold maxLen; decide)⟩, leaf_room (k := 0) _, by have := pow_pos2 0; omega⟩
 | succ k ih =>
   intro w S a cap C p d hdk hd1 hp hC
   obtain ⟨-, hcl, hcc⟩ := hC.len
   unfold maxLen at hcc
   have hp9 : p ≤ 1000000 := Nat.le_trans (Nat.le_add_right _ _) hp
   obtain ⟨rx, w1, hrx, hw1, HBR, hE1⟩ := box_new w (.cells #[.int .i64 0, .string ⟨#[]⟩, .int .i64 0, .slice none 0 0] 31)
   have HC := Lib.hid (hC.ext hE1)
   have HE := Lib.hid hE1
   have HNB := Lib.hid hrx
   have HAT := Lib.hid (fun (n : ByteArray) (k : Int) (h : n.size ≤ maxLen) (h2 : I64 k) => Atom_any (w := w1) h h2)
   have HVA := Lib.hid (fun (n : ByteArray) (k : Int) (h : n.size ≤ maxLen) (h2 : I64 k) => SVar_any (w := w1) h h2)
   clear hC hE1
   have HPW : Hid (p + 2 ^ (k + 1 + 1) ≤ 1000000 ∧ 2 ^ (k + 1 + 1) = 2 ^ (k + 1) + 2 ^ (k + 1) ∧ 2 ≤ 2 ^ (k + 1)) := Lib.hid ⟨hp, by rw [Nat.pow_succ _ (k + 1)]; omega, pow_pos2 k⟩
   have HIH : Hid (∀ (w' : World) (q d' : Nat), Ext w1 w' → d' = d + 1 → q + 2 ^ (k + 1) ≤ 1000000 → _) := Lib.hid (fun w' q d' hE hd hq => ih w' S a cap C q d' (by omega) (by omega) hq (HC.out.ext hE))
   have hd4 : ¬ (5 : Int) ≤ (d : Int) := by omega
   have hd9 : d ≤ 5 := by omega
   clear ih hp hdk hd1
   go_enter Try.func48, Try.ntmps48
   go_upto_region 1 with fail
   rw [← hw1, ← hrx]
   clear hw1 hrx
   by_cases hlt : p < C.length
   · have hpz : (p : Int) < (C.length : Int) := by omega
     have hp0 : (0 : Int) ≤ (p : Int) := by omega
     obtain ⟨c, hc⟩ : ∃ c, C[p]? = some c := ⟨_, List.getElem?_eq_getElem hlt⟩
     obtain ⟨cb, co, hca, c0, hc256⟩ := HC.out.bAt hc
     subst hca
     clear hc
     go_upto_region 7 with fail
     have hm : (c : Int) % 8 = 0 ∨ (c : Int) % 8 = 1 ∨ (c : Int) % 8 = 2 ∨ (c : Int) % 8 = 3 ∨ (c : Int) % 8 = 4 ∨ (c : Int) % 8 = 5 ∨ (c : Int) % 8 = 6 ∨ (c : Int) % 8 = 7 := by omega
     rcases hm with hm | hm | hm | hm | hm | hm | hm | hm <;> rw [hm]
     · skip
       go_wp2_with fail
       refine (HVA.out ⟨#[120]⟩ 0 (by unfold maxLen; decide) (by unfold I64; omega)).mono ?_
       rintro e w2 ⟨rfl, hE2⟩
       have HBR := Lib.hid (hs_ext hE2 HBR.out)
       have HE := Lib.hid (HE.out.trans hE2)
       clear hE2
       go_wp2_with (
        refine wpList_storeT rfl (.tmp 6) (.tmp 38) rfl (g := rx) rfl (k := 1) (s := 0) (n := ⟨#[120]⟩) (ka := none) (kl := 0) (kc := 0) rfl HBR.out rfl ?_
        intro w99 c6 q6 e6 z6
        have HG6 := Lib.hid c6
        have HEQ := Lib.hid (e6 w HE.out (Nat.le_of_eq HNB.out.symm))
        clear c6 q6 e6 z6)
       refine ret_term2 (g := rx) rfl rfl HG6.out rfl ⟨_, .mk 1 ⟨#[120]⟩ 0 [], p + 1, by rfl, HEQ.out, ⟨none, 0, rfl, tm_nil (by unfold I64; omega) (by unfold I64; omega) (by unfold maxLen; decide)⟩, leaf_room (k := 0) _, by have := pow_pos2 (k+1); omega⟩
     · skip
       go_wp2_with fail
       refine (HVA.out ⟨#[121]⟩ 0 (by unfold maxLen; decide) (by unfold I64; omega)).mono ?_
       rintro e w2 ⟨rfl, hE2⟩
       have HBR := Lib.hid (hs_ext hE2 HBR.out)
       have HE := Lib.hid (HE.out.trans hE2)
       clear hE2
       go_wp2_with (
        refine wpList_storeT rfl (.tmp 6) (.tmp 38) rfl (g := rx) rfl (k := 1) (s := 0) (n := ⟨#[121]⟩) (ka := none) (kl := 0) (kc := 0) rfl HBR.out rfl ?_
        intro w99 c6 q6 e6 z6
        have HG6 := Lib.hid c6
        have HEQ := Lib.hid (e6 w HE.out (Nat.le_of_eq HNB.out.symm))
        clear c6 q6 e6 z6)
       refine ret_term2 (g := rx) rfl rfl HG6.out rfl ⟨_, .mk 1 ⟨#[121]⟩ 0 [], p + 1, by rfl, HEQ.out, ⟨none, 0, rfl, tm_nil (by unfold I64; omega) (by unfold I64; omega) (by unfold maxLen; decide)⟩, leaf_room (k := 0) _, by have := pow_pos2 (k+1); omega⟩
     · skip
       go_wp2_with fail
       refine (HVA.out ⟨#[122]⟩ 0 (by unfold maxLen; decide) (by unfold I64; omega)).mono ?_
       rintro e w2 ⟨rfl, hE2⟩
       have HBR := Lib.hid (hs_ext hE2 HBR.out)
       have HE := Lib.hid (HE.out.trans hE2)
       clear hE2
       go_wp2_with (
        refine wpList_storeT rfl (.tmp 6) (.tmp 38) rfl (g := rx) rfl (k := 1) (s := 0) (n := ⟨#[122]⟩) (ka := none) (kl := 0) (kc := 0) rfl HBR.out rfl ?_
        intro w99 c6 q6 e6 z6
        have HG6 := Lib.hid c6
        have HEQ := Lib.hid (e6 w HE.out (Nat.le_of_eq HNB.out.symm))
        clear c6 q6 e6 z6)
       refine ret_term2 (g := rx) rfl rfl HG6.out rfl ⟨_, .mk 1 ⟨#[122]⟩ 0 [], p + 1, by rfl, HEQ.out, ⟨none, 0, rfl, tm_nil (by unfold I64; omega) (by unfold I64; omega) (by unfold maxLen; decide)⟩, leaf_room (k := 0) _, by have := pow_pos2 (k+1); omega⟩
     · skip
       go_wp2_with fail
       refine (HAT.out ⟨#[97]⟩ 0 (by unfold maxLen; decide) (by unfold I64; omega)).mono ?_
       rintro e w2 ⟨rfl, hE2⟩
       have HBR := Lib.hid (hs_ext hE2 HBR.out)
       have HE := Lib.hid (HE.out.trans hE2)
       clear hE2
       go_wp2_with (
        refine wpList_storeT rfl (.tmp 6) (.tmp 43) rfl (g := rx) rfl (k := 2) (s := 0) (n := ⟨#[97]⟩) (ka := none) (kl := 0) (kc := 0) rfl HBR.out rfl ?_
        intro w99 c6 q6 e6 z6
        have HG6 := Lib.hid c6
        have HEQ := Lib.hid (e6 w HE.out (Nat.le_of_eq HNB.out.symm))
        clear c6 q6 e6 z6)
       refine ret_term2 (g := rx) rfl rfl HG6.out rfl ⟨_, .mk 2 ⟨#[97]⟩ 0 [], p + 1, by rfl, HEQ.out, ⟨none, 0, rfl, tm_nil (by unfold I64; omega) (by unfold I64; omega) (by unfold maxLen; decide)⟩, leaf_room (k := 0) _, by have := pow_pos2 (k+1); omega⟩
     · skip
       go_wp2_with fail
       refine (HVA.out ⟨#[110]⟩ 2 (by unfold maxLen; decide) (by unfold I64; omega)).mono ?_
       rintro e w2 ⟨rfl, hE2⟩
       have HBR := Lib.hid (hs_ext hE2 HBR.out)
       have HE := Lib.hid (HE.out.trans hE2)
       clear hE2
       go_wp2_with (
        refine wpList_storeT rfl (.tmp 6) (.tmp 48) rfl (g := rx) rfl (k := 1) (s := 2) (n := ⟨#[110]⟩) (ka := none) (kl := 0) (kc := 0) rfl HBR.out rfl ?_
        intro w99 c6 q6 e6 z6
        have HG6 := Lib.hid c6
        have HEQ := Lib.hid (e6 w HE.out (Nat.le_of_eq HNB.out.symm))
        clear c6 q6 e6 z6)
       refine ret_term2 (g := rx) rfl rfl HG6.out rfl ⟨_, .mk 1 ⟨#[110]⟩ 2 [], p + 1, by rfl, HEQ.out, ⟨none, 0, rfl, tm_nil (by unfold I64; omega) (by unfold I64; omega) (by unfold maxLen; decide)⟩, leaf_room (k := 0) _, by have := pow_pos2 (k+1); omega⟩
     · skip
       go_wp2_with fail
       refine (HAT.out ⟨#[109]⟩ 2 (by unfold maxLen; decide) (by unfold I64; omega)).mono ?_
       rintro e w2 ⟨rfl, hE2⟩
       have HBR := Lib.hid (hs_ext hE2 HBR.out)
       have HE := Lib.hid (HE.out.trans hE2)
       clear hE2
       go_wp2_with (
        refine wpList_storeT rfl (.tmp 6) (.tmp 53) rfl (g := rx) rfl (k := 2) (s := 2) (n := ⟨#[109]⟩) (ka := none) (kl := 0) (kc := 0) rfl HBR.out rfl ?_
        intro w99 c6 q6 e6 z6
        have HG6 := Lib.hid c6
        have HEQ := Lib.hid (e6 w HE.out (Nat.le_of_eq HNB.out.symm))
        clear c6 q6 e6 z6)
       refine ret_term2 (g := rx) rfl rfl HG6.out rfl ⟨_, .mk 2 ⟨#[109]⟩ 2 [], p + 1, by rfl, HEQ.out, ⟨none, 0, rfl, tm_nil (by unfold I64; omega) (by unfold I64; omega) (by unfold maxLen; decide)⟩, leaf_room (k := 0) _, by have := pow_pos2 (k+1); omega⟩
     · clear hm
       obtain ⟨p', hp'⟩ : ∃ p', p' = p + 1 := ⟨_, rfl⟩
       obtain ⟨d', hd'⟩ : ∃ d', d' = d + 1 := ⟨_, rfl⟩
       have HP' := Lib.hid hp'
       have HD' := Lib.hid hd'
       have hpz1 : (p : Int) + 1 = (p' : Int) := by omega
       have hdz1 : (d : Int) + 1 = (d' : Int) := by omega
       have hwp : IntKind.i64.wrap (p' : Int) = (p' : Int) := by rw [IntKind.wrap_i64]; omega
       have hwd : IntKind.i64.wrap (d' : Int) = (d' : Int) := by rw [IntKind.wrap_i64]; omega
       have HC1 := Lib.hid (HIH.out w1 p' d' (Ext.refl _) hd' (by have := HPW.out; omega))
       clear hp' hd'
       go_wp2_with fail
       refine HC1.out.mono ?_
       rintro e w2 ⟨v, t, q, rfl, hE2, ⟨xa, xc, rfl, hTx⟩, hsz, hq⟩
       obtain ⟨xx, w3, hxx, hw3, HBX, hE3⟩ := box_new w2 (.cells #[.int .i64 t.kind, .string t.name, .int .i64 t.sort, .slice xa t.kids.length xc] 31)
       have hlx := hTx.len
       have hcx := hTx.cap
       unfold maxLen at hcx
       have HW1 : Hid (rx < w1.heap.size ∧ w.heap.size ≤ w1.heap.size) := Lib.hid ⟨lt_of_get' HBR.out, HE.out.size⟩
       have HTX := Lib.hid (hTx.ext hE3)
       have HSZ := Lib.hid (And.intro hsz hq)
       have hE13 := hE2.trans hE3
       have HX13 := Lib.hid hE13
       obtain ⟨x0, x1, x2, x3⟩ := box4r (HBX.out)
       have HBR := Lib.hid (hs_ext hE13 HBR.out)
       have HE := Lib.hid (HE.out.trans hE13)
       clear hE2 hTx hE3 hE13 hsz hq
       go_upto_region 19 with fail
       rw [← hw3, ← hxx]
       clear hw3 hxx
       obtain ⟨fb, w4, hfb, hw4, HBF, hE4⟩ := box_new w3 (.cells #[.int .i64 t.kind, .string t.name, .int .i64 t.sort, .slice xa t.kids.length xc] 31)
       have hls : LsT w4 (fun c => w1.heap.size ≤ c) (.slice (some ⟨fb, 0, none⟩) 1 1) [t] := one_ls HBF.out (HTX.out.ext hE4)
       have hca := App_any (n := ⟨#[103]⟩) (L := [t]) (cap := 1) (by unfold maxLen; decide) (by simp) hls
       have HCA := Lib.hid hca
       have HX4 := Lib.hid hE4.size
       have HX3 := Lib.hid HX13.out.size
       have HBR := Lib.hid (hs_ext hE4 HBR.out)
       have HE := Lib.hid (HE.out.trans hE4)
       clear hls hca hE4
       go_wp2_with fail
       rw [← hw4, ← hfb]
       clear hw4 hfb
       refine HCA.out.mono ?_
       rintro e w5 ⟨v, rfl, hE5, ya, yc, rfl, hTy⟩
       have HTY := Lib.hid hTy
       have HBR := Lib.hid (hs_ext hE5 HBR.out)
       have HE := Lib.hid (HE.out.trans hE5)
       clear hE5 hTy
       go_wp2_with (
        refine wpList_storeT rfl (.tmp 6) (.tmp 69) rfl (g := rx) rfl (k := 3) (s := 0) (n := ⟨#[103]⟩) (ka := ya) (kl := 1) (kc := yc) rfl HBR.out rfl ?_
        intro w99 c6 q6 e6 z6
        have HG6 := Lib.hid c6
        have HQ6 := Lib.hid q6
        have HEQ := Lib.hid (e6 w HE.out (Nat.le_of_eq HNB.out.symm))
        clear c6 q6 e6 z6)
       refine ret_term2 (g := rx) rfl rfl HG6.out rfl ⟨_, appTm ⟨#[103]⟩ [t], q, rfl, HEQ.out, ⟨ya, yc, rfl, HTY.out.keep (fun c h _ => HQ6.out c (by have := HW1.out; have := HX4.out; have := HX3.out; rcases h with h | h <;> omega)) (fun c h _ => by have := HW1.out; have := HX4.out; have := HX3.out; rcases h with h | h <;> omega)⟩, by have := HSZ.out; have := HPW.out; simp only [appTm, sizeT, sizeL]; omega, by have := HSZ.out; have := HPW.out; have := HP'.out; omega⟩
     · clear hm
       obtain ⟨p', hp'⟩ : ∃ p', p' = p + 1 := ⟨_, rfl⟩
       obtain ⟨d', hd'⟩ : ∃ d', d' = d + 1 := ⟨_, rfl⟩
       have HP' := Lib.hid hp'
       have HD' := Lib.hid hd'
       have hpz1 : (p : Int) + 1 = (p' : Int) := by omega
       have hdz1 : (d : Int) + 1 = (d' : Int) := by omega
       have hwp : IntKind.i64.wrap (p' : Int) = (p' : Int) := by rw [IntKind.wrap_i64]; omega
       have hwd : IntKind.i64.wrap (d' : Int) = (d' : Int) := by rw [IntKind.wrap_i64]; omega
       have HC1 := Lib.hid (HIH.out w1 p' d' (Ext.refl _) hd' (by have := HPW.out; omega))
       clear hp' hd'
       go_wp2_with fail
       refine HC1.out.mono ?_
       rintro e w2 ⟨v, t, q, rfl, hE2, ⟨xa, xc, rfl, hTx⟩, hsz, hq⟩
       obtain ⟨xx, w3, hxx, hw3, HBX, hE3⟩ := box_new w2 (.cells #[.int .i64 t.kind, .string t.name, .int .i64 t.sort, .slice xa t.kids.length xc] 31)
       have hlx := hTx.len
       have hcx := hTx.cap
       unfold maxLen at hcx
       have HW1 : Hid (rx < w1.heap.size ∧ w.heap.size ≤ w1.heap.size) := Lib.hid ⟨lt_of_get' HBR.out, HE.out.size⟩
       have HTX := Lib.hid (hTx.ext hE3)
       have HSZ := Lib.hid (And.intro hsz hq)
       have hE13 := hE2.trans hE3
       have HX13 := Lib.hid hE13
       obtain ⟨x0, x1, x2, x3⟩ := box4r (HBX.out)
       have HBR := Lib.hid (hs_ext hE13 HBR.out)
       have HE := Lib.hid (HE.out.trans hE13)
       clear hE2 hTx hE3 hE13 hsz hq
       go_upto_region 21 with fail
       rw [← hw3, ← hxx]
       clear hw3 hxx
       have hq9 : q ≤ 1000000 := by have := HSZ.out; have := HPW.out; have := HP'.out; omega
       have HC2 := Lib.hid (HIH.out w3 q d' HX13.out HD'.out (by have := HSZ.out; have := HPW.out; have := HP'.out; omega))
       go_wp2_with fail
       refine HC2.out.mono ?_
       rintro e w5 ⟨v, u, q2, rfl, hE5, ⟨za, zc, rfl, hTz⟩, hsz2, hq2⟩
       obtain ⟨zx, w6, hzx, hw6, HBZ, hE6⟩ := box_new w5 (.cells #[.int .i64 u.kind, .string u.name, .int .i64 u.sort, .slice za u.kids.length zc] 31)
       have hlz := hTz.len
       have hcz := hTz.cap
       unfold maxLen at hcz
       have HX3 := Lib.hid HX13.out.size
       have hE36 := hE5.trans hE6
       have HTZ := Lib.hid ((hTz.ext hE6).wide (S' := fun c => w1.heap.size ≤ c) (fun c h _ => by have := HX3.out; omega))
       have HTX := Lib.hid (HTX.out.ext hE36)
       have HSZ2 := Lib.hid (And.intro hsz2 hq2)
       have HX6 := Lib.hid hE36.size
       obtain ⟨z0, z1, z2, z3⟩ := box4r (HBZ.out)
       obtain ⟨x0, x1, x2, x3⟩ := cs_e4 hE36 ⟨x0, x1, x2, x3⟩
       have HBR := Lib.hid (hs_ext hE36 HBR.out)
       have HE := Lib.hid (HE.out.trans hE36)
       clear hE5 hTz hE6 hE36 hsz2 hq2
       go_upto_region 22 with fail
       rw [← hw6, ← hzx]
       clear hw6 hzx
       obtain ⟨fb, w7, hfb, hw7, HBF, hE7⟩ := box_new w6 (.cells #[.int .i64 t.kind, .string t.name, .int .i64 t.sort, .slice xa t.kids.length xc, .int .i64 u.kind, .string u.name, .int .i64 u.sort, .slice za u.kids.length zc] 31)
       have hls : LsG elT w7 (fun c => w1.heap.size ≤ c) (.slice (some ⟨fb, 0, none⟩) 2 2) [t, u] := two_lsG HBF.out (by have := lt_of_get' HBF.out; have := HX3.out; have := HX6.out; have := hfb; omega) (HTX.out.ext hE7) (HTZ.out.ext hE7)
       have hca := App_any (n := ⟨#[102]⟩) (L := [t, u]) (cap := 2) (by unfold maxLen; decide) (by simp) hls.t
       have HCA := Lib.hid hca
       have HX4 := Lib.hid hE7.size
       have HBR := Lib.hid (hs_ext hE7 HBR.out)
       have HE := Lib.hid (HE.out.trans hE7)
       clear hls hca hE7
       go_wp2_with fail
       rw [← hw7, ← hfb]
       clear hw7 hfb
       refine HCA.out.mono ?_
       rintro e w8 ⟨v, rfl, hE5, ya, yc, rfl, hTy⟩
       have HTY := Lib.hid hTy
       have HBR := Lib.hid (hs_ext hE5 HBR.out)
       have HE := Lib.hid (HE.out.trans hE5)
       clear hE5 hTy
       go_wp2_with (
        refine wpList_storeT rfl (.tmp 6) (.tmp 91) rfl (g := rx) rfl (k := 3) (s := 0) (n := ⟨#[102]⟩) (ka := ya) (kl := 2) (kc := yc) rfl HBR.out rfl ?_
        intro w99 c6 q6 e6 z6
        have HG6 := Lib.hid c6
        have HQ6 := Lib.hid q6
        have HEQ := Lib.hid (e6 w HE.out (Nat.le_of_eq HNB.out.symm))
        clear c6 q6 e6 z6)
       refine ret_term2 (g := rx) rfl rfl HG6.out rfl ⟨_, appTm ⟨#[102]⟩ [t, u], q2, rfl, HEQ.out, ⟨ya, yc, rfl, HTY.out.keep (fun c h _ => HQ6.out c (by have := HW1.out; have := HX4.out; have := HX3.out; have := HX6.out; rcases h with h | h <;> omega)) (fun c h _ => by have := HW1.out; have := HX4.out; have := HX3.out; have := HX6.out; rcases h with h | h <;> omega)⟩, by have := HSZ.out; have := HSZ2.out; have := HPW.out; simp only [appTm, sizeT, sizeL]; omega, by have := HSZ.out; have := HSZ2.out; have := HPW.out; have := HP'.out; omega⟩
   · have hpz : ¬ (p : Int) < (C.length : Int) := by omega
     go_wp2_with fail
     refine (HAT.out ⟨#[97]⟩ 0 (by unfold maxLen; decide) (by unfold I64; omega)).mono ?_
     rintro e w2 ⟨rfl, hE2⟩
     have HBR := Lib.hid (hs_ext hE2 HBR.out)
     have HE := Lib.hid (HE.out.trans hE2)
     clear hE2
     go_wp2_with (
      refine wpList_storeT rfl (.tmp 6) (.tmp 43) rfl (g := rx) rfl (k := 2) (s := 0) (n := ⟨#[97]⟩) (ka := none) (kl := 0) (kc := 0) rfl HBR.out rfl ?_
      intro w99 c6 q6 e6 z6
      have HG6 := Lib.hid c6
      have HEQ := Lib.hid (e6 w HE.out (Nat.le_of_eq HNB.out.symm))
      clear c6 q6 e6 z6)
     refine ret_term2 (g := rx) rfl rfl HG6.out rfl ⟨_, .mk 2 ⟨#[97]⟩ 0 [], p + 1, by rfl, HEQ.out, ⟨none, 0, rfl, tm_nil (by unfold I64; omega) (by unfold I64; omega) (by unfold maxLen; decide)⟩, leaf_room (k := 0) _, by have := pow_pos2 (k+1); omega⟩

set_option maxRecDepth 100000 in
set_option maxHeartbeats 4000000 in
theorem SGrown_any {w : World} {S : Nat → Prop} {a : Option Addr} {cap : Nat} {C : List Nat} (hC : LsG elB w S (.slice a C.length cap) C) :
 Calls Try.prog 32 #[.slice a C.length cap] w fun e w' => ∃ (v : Value) (t : Tm), e = .returned v ∧ Ext w w' ∧ IsS w' (fun c => w.heap.size ≤ c) v t ∧ sizeT t ≤ 31 := by
 obtain ⟨-, hcl, hcc⟩ := hC.len
 unfold maxLen at hcc
 obtain ⟨rx, w1, hrx, hw1, HBR, hE1⟩ := box_new w (.cells #[.int .i64 0, .string ⟨#[]⟩, .int .i64 0, .slice none 0 0] 31)
 have hn := SNode_any 4 w1 S a cap C 0 1 (by omega) (by omega) (by decide) (hC.ext hE1)
 simp only [show ((0 : Nat) : Int) = 0 from rfl, show ((1 : Nat) : Int) = 1 from rfl] at hn
 have HN := Lib.hid hn
 have HE := Lib.hid hE1
 have HNB := Lib.hid hrx
 clear hC hE1 hn
 go_enter Try.func32, Try.ntmps32
 go_upto_region 1 with fail
 rw [← hw1, ← hrx]
 clear hw1 hrx
 go_wp2_with fail
 refine HN.out.mono ?_
 rintro e w2 ⟨v, t, q, rfl, hE2, ⟨xa, xc, rfl, hTx⟩, hsz, -⟩
 obtain ⟨xx, w3, hxx, hw3, HBX, hE3⟩ := box_new w2 (.cells #[.int .i64 t.kind, .string t.name, .int .i64 t.sort, .slice xa t.kids.length xc] 31)
 have hlx := hTx.len
 have hcx := hTx.cap
 unfold maxLen at hcx
 have HW1 : Hid (rx < w1.heap.size ∧ w.heap.size ≤ w1.heap.size) := Lib.hid ⟨lt_of_get' HBR.out, HE.out.size⟩
 have HTX := Lib.hid (hTx.ext hE3)
 have HSZ : Hid (sizeT t ≤ 31) := Lib.hid (by have h : (2 : Nat) ^ (4 + 1) = 32 := rfl; omega)
 have hE13 := hE2.trans hE3
 obtain ⟨x0, x1, x2, x3⟩ := box4r (HBX.out)
 have HBR := Lib.hid (hs_ext hE13 HBR.out)
 have HE := Lib.hid (HE.out.trans hE13)
 have HAT := Lib.hid (Atom_any (w := w3) (n := ⟨#[97]⟩) (k := 0) (by unfold maxLen; decide) (by unfold I64; omega))
 clear hE2 hTx hE3 hE13 hsz
 go_upto_region 2 with fail
 rw [← hw3, ← hxx]
 clear hw3 hxx
 by_cases h0 : C.length = 0
 · have e0 : ((C.length : Int) == 0) = true := by simp [h0]
   clear h0
   go_wp2_with fail
   refine HAT.out.mono ?_
   rintro e w4 ⟨rfl, hE4⟩
   have HBR := Lib.hid (hs_ext hE4 HBR.out)
   have HE := Lib.hid (HE.out.trans hE4)
   clear hE4
   go_wp2_with (
    refine wpList_storeT rfl (.tmp 2) (.tmp 13) rfl (g := rx) rfl (k := 2) (s := 0) (n := ⟨#[97]⟩) (ka := none) (kl := 0) (kc := 0) rfl HBR.out rfl ?_
    intro w99 c6 q6 e6 z6
    have HG6 := Lib.hid c6
    have HEQ := Lib.hid (e6 w HE.out (Nat.le_of_eq HNB.out.symm))
    clear c6 q6 e6 z6)
   exact ret_term (g := rx) rfl rfl HG6.out rfl ⟨_, .mk 2 ⟨#[97]⟩ 0 [], rfl, HEQ.out, ⟨none, 0, rfl, tm_nil (by unfold I64; omega) (by unfold I64; omega) (by unfold maxLen; decide)⟩, by decide⟩
 · have e0 : ((C.length : Int) == 0) = false := by simpa using h0
   clear h0
   go_wp2_with (
    refine wpList_storeT rfl (.tmp 2) (.tmp 14) rfl (g := rx) rfl (k := t.kind) (s := t.sort) (n := t.name) (ka := xa) (kl := t.kids.length) (kc := xc) rfl HBR.out rfl ?_
    intro w99 c6 q6 e6 z6
    have HG6 := Lib.hid c6
    have HQ6 := Lib.hid q6
    have HEQ := Lib.hid (e6 w HE.out (Nat.le_of_eq HNB.out.symm))
    clear c6 q6 e6 z6)
   exact ret_term (g := rx) rfl rfl HG6.out rfl ⟨_, t, rfl, HEQ.out, ⟨xa, xc, rfl, HTX.out.keep (fun c h _ => HQ6.out c (by have := HW1.out; omega)) (fun c h _ => by have := HW1.out; omega)⟩, HSZ.out⟩

end Go.Proofs.Ytpfnlbaloaohgaa
