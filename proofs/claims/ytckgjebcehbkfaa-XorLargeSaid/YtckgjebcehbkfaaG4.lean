/- Contracts: the reference's terms, sums, errors. Contracts: the reference's Term, valid, Parts, Sum. Contracts: the reference's Parts and Sum. -/
import Derived.Test.YtckgjebcehbkfaaG3
namespace Go.Proofs.Ytckgjebcehbkfaa
open Go Go.RowKit
set_option linter.unusedVariables false
set_option linter.unusedSimpArgs false

abbrev Any : Nat → Prop := fun _ => True
/-- the value v is the term t, its kids in S -/
def IsS (w : World) (S : Nat → Prop) (v : Value) (t : Tm) : Prop := ∃ a cap, v = .agg #[.int .i64 t.kind, .string t.name, .int .i64 t.sort, .slice a t.kids.length cap] ∧ TmW w S a cap t
abbrev IsT (w : World) (v : Value) (t : Tm) : Prop := IsS w Any v t
theorem IsS.ext {w w' : World} {S : Nat → Prop} {v : Value} {t : Tm} (h : IsS w S v t) (hE : Ext w w') : IsS w' S v t :=
  let ⟨a, cap, e, h⟩ := h
  ⟨a, cap, e, h.ext hE⟩
theorem IsS.any {w : World} {S : Nat → Prop} {v : Value} {t : Tm} (h : IsS w S v t) : IsT w v t :=
  let ⟨a, cap, e, h⟩ := h
  ⟨a, cap, e, h.wide (fun _ _ _ => trivial)⟩
/-- the blocks of S, and those from B on -/
def NewS (S : Nat → Prop) (B : Nat) : Nat → Prop := fun c => S c ∨ B ≤ c
theorem TmW.any {w : World} {S : Nat → Prop} {a : Option Addr} {cap : Nat} {t : Tm} (h : TmW w S a cap t) : TmW w Any a cap t := h.wide (fun _ _ _ => trivial)
theorem LsT.any {w : World} {S : Nat → Prop} {v : Value} {L : List Tm} (h : LsT w S v L) : LsT w Any v L := h.wide (fun _ _ _ => trivial)
/-- what lies in memory now lies below -/
theorem TmW.below {w : World} {S : Nat → Prop} {a : Option Addr} {cap : Nat} {t : Tm} (h : TmW w S a cap t) : TmW w (fun c => c < w.heap.size) a cap t := h.wide (fun _ _ h => h)
theorem LsT.below {w : World} {S : Nat → Prop} {v : Value} {L : List Tm} (h : LsT w S v L) : LsT w (fun c => c < w.heap.size) v L := h.wide (fun _ _ h => h)

theorem lt_of_get' {α : Type} {l : Array α} {i : Nat} {x : α} (h : l[i]? = some x) : i < l.size := (Array.getElem?_eq_some_iff.1 h).1

set_option maxHeartbeats 1000000 in
set_option maxRecDepth 100000 in
theorem App_any {w : World} {S : Nat → Prop} {n : ByteArray} {a : Option Addr} {cap : Nat} {L : List Tm} (hn : n.size ≤ maxLen) (hll : L.length ≤ 100000) (hL : LsT w S (.slice a L.length cap) L) :
    Calls Try.prog 23 #[.string n, .slice a L.length cap] w fun e w' => ∃ u, e = .returned u ∧ Ext w w' ∧ IsS w' (NewS S w.heap.size) u (appTm n L) := by
  obtain ⟨w1, hw1⟩ : ∃ w1, w1 = w.alloc (.cells #[.int .i64 0, .string ⟨#[]⟩, .int .i64 0, .slice none 0 0] 24) := ⟨_, rfl⟩
  have hE1 : Ext w w1 := by rw [hw1]; exact Ext.alloc _ _
  have hg : w1.heap[w.heap.size]? = some (.cells #[.int .i64 0, .string ⟨#[]⟩, .int .i64 0, .slice none 0 0] 24) := by rw [hw1]; exact hs_new
  obtain ⟨g, hgg⟩ : ∃ g, g = w.heap.size := ⟨_, rfl⟩
  rw [← hgg] at hg
  have hsz : w1.heap.size ≤ (w1.alloc (.cells #[] 24)).heap.size := by simp
  have hO0 : OwnT (w1.alloc (.cells #[] 24)) w1.heap.size (fun c => S c ∧ c < w.heap.size) (.slice (some ⟨w1.heap.size, 0, none⟩) 0 0) [] := own_empty (Nat.le_refl _)
  have hoff := hO0.off (fun c hc => Nat.lt_of_lt_of_le hc.2 hE1.size)
  have hL0 := ((hL.wide (S' := fun c => S c ∧ c < w.heap.size) (fun c h1 h2 => ⟨h1, h2⟩)).ext hE1).ext (Ext.alloc w1 (.cells #[] 24))
  have HG := Lib.hid hg
  have HE1 := Lib.hid hE1
  have HFIN : Hid (∀ v5 w5, OwnT w5 w1.heap.size (fun c => S c ∧ c < w.heap.size) v5 ([] ++ L) → ∃ va vc, v5 = .slice va L.length vc ∧ TmW w5 (fun c => c ≠ g ∧ NewS S w.heap.size c) va vc (appTm n L)) := Lib.hid (fun v5 w5 o5 => by
    have hlt := o5.lt
    obtain ⟨va, vc, hv, hlc, hcm, hts⟩ := (o5.wide (S' := fun c => c ≠ g ∧ NewS S w.heap.size c) (fun c hc _ => ⟨by omega, .inl hc.1⟩)).ls
    subst hv
    refine ⟨va, vc, rfl, (tm_app hn ⟨va, vc, rfl, hlc, hcm, hts⟩ (fun b o e => ?_)).2⟩
    subst e
    have h1 := (hlt b rfl).1
    have h2 := lt_of_get' hg
    have h3 := HE1.out.size
    exact ⟨by omega, .inr (by omega)⟩)
  clear hL hg hE1
  go_enter Try.func23, Try.ntmps23
  go_upto_region 1 with fail
  rw [← hw1, ← hgg]
  have HGG := Lib.hid hgg
  clear hw1 hgg
  go_wp2_with (first
    | (at_builtin; (refine wpList_appT rfl (.tmp 6) (.tmp 7) rfl rfl rfl hO0 hsz hoff (by simp) (X := L) (by omega) hL0 ?_); intro v5 w5 o5 g5 k5
       have HE5 : Hid (Ext w1 w5) := Lib.hid ((Ext.alloc w1 _).grownT hO0 g5)
       have HH := HFIN.out v5 w5 o5
       obtain ⟨va, vc, hv, hT5⟩ := HH
       have HT5 := Lib.hid hT5
       subst hv
       have HG5 := Lib.hid (hs_ext HE5.out HG.out)
       clear o5 g5 k5 hO0 hL0 hoff hT5)
    | (refine wpList_buildT rfl [_, _, _] rfl [(0, .int .i64 3), (1, .string n), (3, .slice va L.length vc)] rfl (built_kn _ _ _ _ _) ?_)
    | ((refine wpList_storeT rfl (.tmp 4) (.tmp 9) rfl (g := g) rfl (k := 3) (s := 0) (n := n) (ka := va) (kl := L.length) (kc := vc) rfl HG5.out rfl ?_); intro w6 c6 q6 e6 z6
       have HG6 := Lib.hid c6
       have HE6 := Lib.hid (e6 w (HE1.out.trans HE5.out) (Nat.le_of_eq HGG.out.symm))
       have HT6 := Lib.hid (HT5.out.keep (w' := w6) (fun c hc hlt => q6 c hc.1) (fun _ h _ => h.2) : TmW w6 (NewS S w.heap.size) va vc (appTm n L))
       clear c6 q6 e6 z6))
  refine ret_term (g := g) rfl rfl HG6.out rfl ⟨_, rfl, HE6.out, va, vc, rfl, HT6.out⟩


set_option maxHeartbeats 1000000 in
theorem Atom_any {w : World} {n : ByteArray} {k : Int} (hn : n.size ≤ maxLen) (hk : I64 k) :
    Calls Try.prog 37 #[.string n, .int .i64 k] w fun e w' => e = .returned (.agg #[.int .i64 2, .string n, .int .i64 k, .slice none 0 0]) ∧ Ext w w' := by
  obtain ⟨w1, hw1⟩ : ∃ w1, w1 = w.alloc (.cells #[.int .i64 0, .string ⟨#[]⟩, .int .i64 0, .slice none 0 0] 24) := ⟨_, rfl⟩
  have hE1 : Ext w w1 := by rw [hw1]; exact Ext.alloc _ _
  have hg : w1.heap[w.heap.size]? = some (.cells #[.int .i64 0, .string ⟨#[]⟩, .int .i64 0, .slice none 0 0] 24) := by rw [hw1]; exact hs_new
  obtain ⟨g, hgg⟩ : ∃ g, g = w.heap.size := ⟨_, rfl⟩
  rw [← hgg] at hg
  have HG := Lib.hid hg
  have HE1 := Lib.hid hE1
  clear hg hE1
  go_enter Try.func37, Try.ntmps37
  go_upto_region 1 with fail
  rw [← hw1, ← hgg]
  have HGG := Lib.hid hgg
  clear hw1 hgg
  go_wp2_with (first
    | (refine wpList_buildT rfl [_, _, _] rfl [(0, .int .i64 2), (1, .string n), (2, .int .i64 k)] rfl (built_ks _ _ _) ?_)
    | ((refine wpList_storeT rfl (.tmp 4) (.tmp 7) rfl (g := g) rfl (k := 2) (s := k) (n := n) (ka := none) (kl := 0) (kc := 0) rfl HG.out rfl ?_); intro w6 c6 q6 e6 z6
       have HG6 := Lib.hid c6
       have HE6 := Lib.hid (e6 w HE1.out (Nat.le_of_eq HGG.out.symm))
       clear c6 q6 e6 z6))
  exact ret_term (g := g) rfl rfl HG6.out rfl ⟨rfl, HE6.out⟩

theorem tm_nil {w : World} {S : Nat → Prop} {k s : Int} {n : ByteArray} (hk : I64 k) (hs : I64 s) (hn : n.size ≤ maxLen) : TmW w S none 0 (.mk k n s []) :=
  ⟨hk, hs, hn, Nat.le_refl _, by unfold maxLen; omega, 0, 0, fun h => absurd rfl h, fun i t h => by simp [Tm.kids] at h⟩

set_option maxHeartbeats 1000000 in
theorem zero_any {w : World} :
    Calls Try.prog 57 #[] w fun e w' => ∃ u, e = .returned u ∧ Ext w w' ∧ IsT w' u (appTm zeroN []) := by
  obtain ⟨w1, hw1⟩ : ∃ w1, w1 = w.alloc (.cells #[.int .i64 0, .string ⟨#[]⟩, .int .i64 0, .slice none 0 0] 24) := ⟨_, rfl⟩
  have hE1 : Ext w w1 := by rw [hw1]; exact Ext.alloc _ _
  have hg : w1.heap[w.heap.size]? = some (.cells #[.int .i64 0, .string ⟨#[]⟩, .int .i64 0, .slice none 0 0] 24) := by rw [hw1]; exact hs_new
  obtain ⟨g, hgg⟩ : ∃ g, g = w.heap.size := ⟨_, rfl⟩
  rw [← hgg] at hg
  have hcon := App_any (w := w1) (S := fun c => c < w.heap.size) (n := zeroN) (a := none) (cap := 0) (L := []) (by unfold maxLen; decide) (by simp) LsT.nil
  have HG := Lib.hid hg
  have HE1 := Lib.hid hE1
  have HCON := Lib.hid hcon
  clear hg hE1 hcon
  go_enter Try.func57, Try.ntmps57
  go_upto_region 1 with fail
  rw [← hw1, ← hgg]
  have HGG := Lib.hid hgg
  clear hw1 hgg
  go_wp2_with fail
  refine HCON.out.mono ?_
  rintro e w2 ⟨u, rfl, hE2, a, cap, rfl, hT⟩
  have HG2 := Lib.hid (hs_ext hE2 HG.out)
  have HE2 := Lib.hid (HE1.out.trans hE2)
  have HT := Lib.hid hT
  clear hE2 hT
  go_wp2_with ((refine wpList_storeT rfl (.tmp 0) (.tmp 1) rfl (g := g) rfl (k := (appTm zeroN []).kind) (s := (appTm zeroN []).sort) (n := (appTm zeroN []).name) (ka := a) (kl := (appTm zeroN []).kids.length) (kc := cap) rfl HG2.out rfl ?_); intro w6 c6 q6 e6 z6
               have HG6 := Lib.hid c6
               have HE6 := Lib.hid (e6 w HE2.out (Nat.le_of_eq HGG.out.symm))
               clear c6 q6 e6 z6)
  refine ret_term (g := g) rfl rfl HG6.out rfl ⟨_, rfl, HE6.out, a, cap, rfl, ?_⟩
  obtain ⟨t1, t2, t3, t4, t5, -⟩ := HT.out
  exact ⟨t1, t2, t3, t4, t5, 0, 0, fun h => absurd rfl h, fun i t h => by simp [appTm, Tm.kids] at h⟩

end Go.Proofs.Ytckgjebcehbkfaa

namespace Go.Proofs.Ytckgjebcehbkfaa
open Go Go.RowKit
set_option linter.unusedVariables false
set_option linter.unusedSimpArgs false

/-- the term with the summands L -/
def termOf : List Tm → Tm
  | [] => appTm zeroN []
  | [x] => x
  | x :: y :: L => appTm xorN (x :: y :: L)
def zT : Tm := .mk 0 ⟨#[]⟩ 0 []
theorem zeroN_valid : validT (appTm zeroN []) = 0 := by decide +kernel

set_option maxRecDepth 100000 in
set_option maxHeartbeats 1000000 in
theorem RTerm_any {w : World} {S : Nat → Prop} {a : Option Addr} {cap : Nat} {L : List Tm} (hll : L.length ≤ 100000) (hL : LsT w S (.slice a L.length cap) L) :
    Calls Try.prog 39 #[.slice a L.length cap] w fun e w' => ∃ u, e = .returned u ∧ Ext w w' ∧ IsS w' (NewS S w.heap.size) u (termOf L) := by
  obtain ⟨w1, hw1⟩ : ∃ w1, w1 = w.alloc (.cells #[.int .i64 0, .string ⟨#[]⟩, .int .i64 0, .slice none 0 0] 24) := ⟨_, rfl⟩
  have hE1 : Ext w w1 := by rw [hw1]; exact Ext.alloc _ _
  have hg : w1.heap[w.heap.size]? = some (.cells #[.int .i64 0, .string ⟨#[]⟩, .int .i64 0, .slice none 0 0] 24) := by rw [hw1]; exact hs_new
  obtain ⟨g, hgg⟩ : ∃ g, g = w.heap.size := ⟨_, rfl⟩
  rw [← hgg] at hg
  have HG := Lib.hid hg
  have HGG := Lib.hid hgg
  have HE1 := Lib.hid hE1
  match L, hll, hL with
  | [], hll, hL =>
    have hcon := App_any (w := w1) (S := fun c => c < w.heap.size) (n := zeroN) (a := none) (cap := 0) (L := []) (by unfold maxLen; decide) (by simp) LsT.nil
    have HCON := Lib.hid hcon
    clear hg hE1 hcon
    go_enter Try.func39, Try.ntmps39
    go_upto_region 1 with fail
    rw [← hw1, ← hgg]
    clear hw1 hgg
    go_wp2_with fail
    refine HCON.out.mono ?_
    rintro e w2 ⟨u, rfl, hE2, va, vc, rfl, hT⟩
    have HG2 := Lib.hid (hs_ext hE2 HG.out)
    have HE2 := Lib.hid (HE1.out.trans hE2)
    have HT := Lib.hid hT
    clear hE2 hT
    go_wp2_with ((refine wpList_storeT rfl (.tmp 2) (.tmp 6) rfl (g := g) rfl (k := (appTm zeroN []).kind) (s := (appTm zeroN []).sort) (n := (appTm zeroN []).name) (ka := va) (kl := (appTm zeroN []).kids.length) (kc := vc) rfl HG2.out rfl ?_); intro w6 c6 q6 e6 z6
                 have HG6 := Lib.hid c6
                 have HE6 := Lib.hid (e6 w HE2.out (Nat.le_of_eq HGG.out.symm))
                 clear c6 q6 e6 z6)
    refine ret_term (g := g) rfl rfl HG6.out rfl ⟨_, rfl, HE6.out, va, vc, rfl, ?_⟩
    obtain ⟨t1, t2, t3, t4, t5, -⟩ := HT.out
    exact ⟨t1, t2, t3, t4, t5, 0, 0, fun h => absurd rfl h, fun i t h => by simp [termOf, appTm, Tm.kids] at h⟩
  | [x], hll, hL =>
    obtain ⟨xb, xo, xa, xc, rfl, x0, x1, x2, x3, hTx⟩ := ((hL.wide (S' := fun c => S c ∧ c < w.heap.size) (fun c h1 h2 => ⟨h1, h2⟩)).ext hE1).ts.at (i := 0) (t := x) rfl
    rw [Nat.zero_mul, Nat.add_zero] at x0 x1 x2 x3
    have HTX := Lib.hid hTx
    have hcap : 1 ≤ cap := hL.len.2.1
    clear hg hE1 hL hTx
    go_enter Try.func39, Try.ntmps39
    go_upto_region 1 with fail
    rw [← hw1, ← hgg]
    clear hw1 hgg
    go_wp2_with ((refine wpList_storeT rfl (.tmp 2) (.tmp 12) rfl (g := g) rfl (k := x.kind) (s := x.sort) (n := x.name) (ka := xa) (kl := x.kids.length) (kc := xc) rfl HG.out rfl ?_); intro w6 c6 q6 e6 z6
                 have HG6 := Lib.hid c6
                 have HE6 := Lib.hid (e6 w HE1.out (Nat.le_of_eq HGG.out.symm))
                 have HT6 : Hid (TmW w6 (NewS S w.heap.size) xa xc x) := Lib.hid (HTX.out.keep (fun c hc hlt => q6 c (by have := HGG.out; omega)) (fun _ h _ => .inl h.1))
                 clear c6 q6 e6 z6)
    exact ret_term (g := g) rfl rfl HG6.out rfl ⟨_, rfl, HE6.out, xa, xc, rfl, HT6.out⟩
  | x :: y :: L', hll, hL =>
    obtain ⟨M, hM⟩ : ∃ M, M = x :: y :: L' := ⟨_, rfl⟩
    have HM : Hid (termOf (x :: y :: L') = appTm xorN M) := Lib.hid (by rw [hM]; rfl)
    have hM2 : 2 ≤ M.length := by rw [hM]; simp
    rw [← hM] at hll hL
    rw [HM.out]
    rw [← hM]
    have e1 : ((M.length : Int) == 0) = false := beq_eq_false_iff_ne.2 (by omega)
    have e2 : ((M.length : Int) == 1) = false := beq_eq_false_iff_ne.2 (by omega)
    have hsz : w1.heap.size ≤ (w1.alloc (.cells #[] 24)).heap.size := by simp
    have hO0 : OwnT (w1.alloc (.cells #[] 24)) w1.heap.size (fun c => S c ∧ c < w.heap.size) (.slice (some ⟨w1.heap.size, 0, none⟩) 0 0) [] := own_empty (Nat.le_refl _)
    have hoff := hO0.off (fun c hc => Nat.lt_of_lt_of_le hc.2 hE1.size)
    have hL0 := ((hL.wide (S' := fun c => S c ∧ c < w.heap.size) (fun c h1 h2 => ⟨h1, h2⟩)).ext hE1).ext (Ext.alloc w1 (.cells #[] 24))
    have hn : xorN.size ≤ maxLen := by unfold maxLen; decide
    have HFIN : Hid (∀ v5 w5, OwnT w5 w1.heap.size (fun c => S c ∧ c < w.heap.size) v5 ([] ++ M) → ∃ va vc, v5 = .slice va M.length vc ∧ TmW w5 (fun c => c ≠ g ∧ NewS S w.heap.size c) va vc (appTm xorN M)) := Lib.hid (fun v5 w5 o5 => by
      have hlt := o5.lt
      obtain ⟨va, vc, hv, hlc, hcm, hts⟩ := (o5.wide (S' := fun c => c ≠ g ∧ NewS S w.heap.size c) (fun c hc _ => ⟨by omega, .inl hc.1⟩)).ls
      subst hv
      refine ⟨va, vc, rfl, (tm_app hn ⟨va, vc, rfl, hlc, hcm, hts⟩ (fun b o e => ?_)).2⟩
      subst e
      have h1 := (hlt b rfl).1
      have h2 := lt_of_get' hg
      have h3 := HE1.out.size
      exact ⟨by omega, .inr (by omega)⟩)
    have hl1 := hL.len.2
    unfold maxLen at hl1
    obtain ⟨hcap1, hcap2⟩ := hl1
    clear hL hg hE1 hM HM
    go_enter Try.func39, Try.ntmps39
    go_upto_region 1 with fail
    rw [← hw1, ← hgg]
    clear hw1 hgg
    go_wp2_with (first
      | (at_builtin; (refine wpList_appT rfl (.tmp 13) (.tmp 14) rfl rfl rfl hO0 hsz hoff (by simp) (X := M) (by omega) hL0 ?_); intro v5 w5 o5 g5 k5
         have HE5 : Hid (Ext w1 w5) := Lib.hid ((Ext.alloc w1 _).grownT hO0 g5)
         have HH := HFIN.out v5 w5 o5
         obtain ⟨va, vc, hv, hT5⟩ := HH
         have HT5 := Lib.hid hT5
         subst hv
         have HG5 := Lib.hid (hs_ext HE5.out HG.out)
         clear o5 g5 k5 hO0 hL0 hoff hT5)
      | (refine wpList_buildT rfl [_, _, _] rfl [(0, .int .i64 3), (1, .string xorN), (3, .slice va M.length vc)] rfl (built_kn _ _ _ _ _) ?_)
      | ((refine wpList_storeT rfl (.tmp 2) (.tmp 16) rfl (g := g) rfl (k := 3) (s := 0) (n := xorN) (ka := va) (kl := M.length) (kc := vc) rfl HG5.out rfl ?_); intro w6 c6 q6 e6 z6
         have HG6 := Lib.hid c6
         have HE6 := Lib.hid (e6 w (HE1.out.trans HE5.out) (Nat.le_of_eq HGG.out.symm))
         have HT6 := Lib.hid (HT5.out.keep (w' := w6) (fun c hc hlt => q6 c hc.1) (fun _ h _ => h.2) : TmW w6 (NewS S w.heap.size) va vc (appTm xorN M))
         clear c6 q6 e6 z6))
    exact ret_term (g := g) rfl rfl HG6.out rfl ⟨_, rfl, HE6.out, va, vc, rfl, HT6.out⟩

theorem validL_append (L M : List Tm) : validL (L ++ M) = orE (validL L) (validL M) := by
  induction L with
  | nil => simp [validL, orE]
  | cons y l ih => simp only [List.cons_append, validL, ih]; unfold orE; (repeat' split) <;> simp_all
theorem validL_take {L : List Tm} {i : Nat} {x : Tm} (h : L[i]? = some x) : validL (L.take (i + 1)) = orE (validL (L.take i)) (validT x) := by
  rw [List.take_add_one, h, validL_append]
  simp [validL]
  unfold orE; (repeat' split) <;> simp_all
theorem validL_at {L : List Tm} {i : Nat} {x : Tm} (h : L[i]? = some x) (h0 : validL (L.take i) = 0) (hn : validT x ≠ 0) : validL L = validT x := by
  have := validL_append (L.take (i + 1)) (L.drop (i + 1))
  rw [List.take_append_drop, validL_take h, h0] at this
  rw [this]
  simp [orE, hn]
theorem validL_one (t : Tm) : validL [t] = validT t := by simp [validL, orE]; omega

set_option maxHeartbeats 1000000 in
theorem rvalid_any {w : World} {S S' : Nat → Prop} {a a' : Option Addr} {cap cap' : Nat} {L : List Tm} {t : Tm} (hL6 : ∀ x ∈ L, sizeT x ≤ 1000000) (ht6 : sizeT t ≤ 1000000) (hL : LsT w S (.slice a L.length cap) L) (hT : TmW w S' a' cap' t) :
    Calls Try.prog 49 #[.slice a L.length cap, .agg #[.int .i64 t.kind, .string t.name, .int .i64 t.sort, .slice a' t.kids.length cap']] w fun e w' => e = .returned (.int .i64 (rightS L [t])) ∧ Ext w w' := by
  obtain ⟨-, hl, hc⟩ := hL.len
  have hl' := hT.len
  have hc' := hT.cap
  unfold maxLen at hc hc'
  obtain ⟨bx, hbx⟩ : ∃ bx, bx = w.heap.size := ⟨_, rfl⟩
  obtain ⟨w1, hw1⟩ : ∃ w1, w1 = w.alloc (.cells #[.int .i64 t.kind, .string t.name, .int .i64 t.sort, .slice a' t.kids.length cap'] 24) := ⟨_, rfl⟩
  have b0 : w1.cell? ⟨bx, 0, none⟩ = some (.int .i64 t.kind) := by rw [hw1, hbx]; exact cs_new rfl
  have b1 : w1.cell? ⟨bx, 1, none⟩ = some (.string t.name) := by rw [hw1, hbx]; exact cs_new rfl
  have b2 : w1.cell? ⟨bx, 2, none⟩ = some (.int .i64 t.sort) := by rw [hw1, hbx]; exact cs_new rfl
  have b3 : w1.cell? ⟨bx, 3, none⟩ = some (.slice a' t.kids.length cap') := by rw [hw1, hbx]; exact cs_new rfl
  have HE1 : Hid (Ext w w1) := Lib.hid (by rw [hw1]; exact Ext.alloc w _)
  have HA := Lib.hid (hL.ts.ext HE1.out)
  have HT := Lib.hid (hT.ext HE1.out)
  have HL6 := Lib.hid hL6
  have B0 := Lib.hid b0
  have B1 := Lib.hid b1
  have B2 := Lib.hid b2
  have B3 := Lib.hid b3
  clear hL hL6 hT b0 b1 b2 b3
  by_cases h200 : 200 < L.length
  · have h200z : (200 : Int) < L.length := by omega
    have HR : Hid (rightS L [t] = 3) := Lib.hid (by rw [rightS, if_pos h200])
    go_enter Try.func49, Try.ntmps49
    go_upto_region 1 with fail
    rw [← hw1, ← hbx]
    clear hw1 hbx
    go_wp2_with fail
    go_ret
    exact ⟨ri HR.out.symm, HE1.out⟩
  · have h200z : ¬ (200 : Int) < L.length := by omega
    have HR : Hid (rightS L [t] = orE (validL L) (validT t)) := Lib.hid (by rw [rightS, if_neg h200, validL_append, validL_one])
    go_enter Try.func49, Try.ntmps49
    go_upto_region 1 with fail
    rw [← hw1, ← hbx]
    clear hw1 hbx
    go_wp2_with fail
    go_loopw [5, 6] (fun kv _ wr => ∃ k : Nat, kv = .int .i64 k ∧ k ≤ L.length ∧ validL (L.take k) = 0 ∧ Ext w1 wr) (fun kv _ _ => L.length - (intOf kv).toNat)
    case atStart => exact ⟨0, rfl, by omega, by simp [validL], Ext.refl _⟩
    case round =>
      obtain ⟨k, rfl, hk, hz, hE⟩ := hrel
      have HZ := Lib.hid hz
      have HE := Lib.hid hE
      have b0 := cs_ext hE B0.out
      have b1 := cs_ext hE B1.out
      have b2 := cs_ext hE B2.out
      have b3 := cs_ext hE B3.out
      clear hz hE
      by_cases hlt : k < L.length
      · obtain ⟨x, hx⟩ : ∃ x, L[k]? = some x := ⟨_, List.getElem?_eq_getElem hlt⟩
        obtain ⟨xb, xo, xa, xc, rfl, x0, x1, x2, x3, hTx⟩ := (HA.out.ext HE.out).at hx
        have hcon := RValid_any (HL6.out x (List.mem_of_getElem? hx)) hTx
        obtain ⟨z, hzz⟩ : ∃ z, z = validT x := ⟨_, rfl⟩
        rw [← hzz] at hcon
        have HX := Lib.hid hx
        have HZZ := Lib.hid hzz
        have HCON := Lib.hid hcon
        clear hx hTx hzz hcon b0 b1 b2 b3
        go_wp2_with fail
        refine HCON.out.mono ?_
        rintro e w2 ⟨rfl, hE2⟩
        have HE2 := Lib.hid (HE.out.trans hE2)
        clear hE2
        by_cases hz0 : z = 0
        · have e6 : (z != 0) = false := by simp [hz0]
          have HZ0 := Lib.hid hz0
          clear hz0
          go_wp2_with fail
          go_roundw
          case rel => exact ⟨k + 1, by go_num, by omega, by rw [validL_take HX.out, HZ.out, ← HZZ.out, HZ0.out]; rfl, HE2.out⟩
          case measure => simp [intOf]; omega
        · have e6 : (z != 0) = true := by simp [hz0]
          have HRR : Hid (rightS L [t] = z) := Lib.hid (by rw [HR.out, validL_at HX.out HZ.out (by rw [← HZZ.out]; exact hz0), ← HZZ.out]; simp [orE, hz0])
          clear hz0
          go_wp2_with fail
          go_ret
          exact ⟨ri HRR.out.symm, HE1.out.trans HE2.out⟩
      · have HV : Hid (rightS L [t] = validT t) := Lib.hid (by rw [HR.out, ← List.take_of_length_le (i := k) (l := L) (by omega), HZ.out]; simp [orE])
        have hcon := RValid_any ht6 (HT.out.ext HE.out)
        obtain ⟨z, hzz⟩ : ∃ z, z = validT t := ⟨_, rfl⟩
        rw [← hzz] at hcon HV
        have HCON := Lib.hid hcon
        clear hzz hcon
        go_wp2_with fail
        refine HCON.out.mono ?_
        rintro e w2 ⟨rfl, hE2⟩
        have HE2 := Lib.hid (HE.out.trans hE2)
        clear hE2
        go_wp2_with fail
        go_ret
        exact ⟨ri HV.out.symm, HE1.out.trans HE2.out⟩

end Go.Proofs.Ytckgjebcehbkfaa

namespace Go.Proofs.Ytckgjebcehbkfaa
open Go Go.RowKit
set_option linter.unusedVariables false
set_option linter.unusedSimpArgs false

/-- what Parts answers -/
def partsR (t : Tm) : List Tm := if validT t = 0 then sumT t else []
/-- the error of a sum -/
def errSum (L : List Tm) : Int := orE (rightS L []) (if validT (termOf (sumL L [])) = 0 then 0 else 3)
def sumR (L : List Tm) : Tm := if errSum L = 0 then termOf (sumL L []) else zT

set_option maxHeartbeats 1000000 in
theorem RParts_any {w : World} {S : Nat → Prop} {a : Option Addr} {cap : Nat} {t : Tm} (hn : sizeT t ≤ 30000) (hS : ∀ c, S c → c < w.heap.size) (hT : TmW w S a cap t) :
    Calls Try.prog 15 #[.agg #[.int .i64 t.kind, .string t.name, .int .i64 t.sort, .slice a t.kids.length cap]] w fun e w' => ∃ u, e = .returned (.tuple #[u, .int .i64 (validT t)]) ∧ Ext w w' ∧ LsT w' Any u (partsR t) := by
  have hl := hT.len
  have hc := hT.cap
  unfold maxLen at hc
  obtain ⟨bx, hbx⟩ : ∃ bx, bx = w.heap.size := ⟨_, rfl⟩
  obtain ⟨w1, hw1⟩ : ∃ w1, w1 = w.alloc (.cells #[.int .i64 t.kind, .string t.name, .int .i64 t.sort, .slice a t.kids.length cap] 24) := ⟨_, rfl⟩
  have b0 : w1.cell? ⟨bx, 0, none⟩ = some (.int .i64 t.kind) := by rw [hw1, hbx]; exact cs_new rfl
  have b1 : w1.cell? ⟨bx, 1, none⟩ = some (.string t.name) := by rw [hw1, hbx]; exact cs_new rfl
  have b2 : w1.cell? ⟨bx, 2, none⟩ = some (.int .i64 t.sort) := by rw [hw1, hbx]; exact cs_new rfl
  have b3 : w1.cell? ⟨bx, 3, none⟩ = some (.slice a t.kids.length cap) := by rw [hw1, hbx]; exact cs_new rfl
  have HE1 : Hid (Ext w w1) := Lib.hid (by rw [hw1]; exact Ext.alloc w _)
  have hT1 := hT.ext HE1.out
  have hc1 := RValid_any (by omega) hT1
  have hc2 := fun (w' : World) (hE : Ext w1 w') => RSummands_any 30000 w' S a cap t hn (Nat.le_refl _) (fun c hc => Nat.lt_of_lt_of_le (hS c hc) (HE1.out.trans hE).size) (hT1.ext hE)
  obtain ⟨er, her⟩ : ∃ er, er = validT t := ⟨_, rfl⟩
  rw [← her] at hc1
  rw [← her]
  have HR : Hid (partsR t = if er = 0 then sumT t else []) := Lib.hid (by rw [partsR, her])
  have HC1 := Lib.hid hc1
  have HC2 := Lib.hid hc2
  clear hT hT1 hc1 hc2 her hS
  go_enter Try.func15, Try.ntmps15
  go_upto_region 1 with fail
  rw [← hw1, ← hbx]
  clear hw1 hbx
  go_wp2_with fail
  refine HC1.out.mono ?_
  rintro e w2 ⟨rfl, hE2⟩
  have b0 := cs_ext hE2 b0
  have b1 := cs_ext hE2 b1
  have b2 := cs_ext hE2 b2
  have b3 := cs_ext hE2 b3
  have HE2 := Lib.hid hE2
  clear hE2
  by_cases hz : er = 0
  · have e1 : (er != 0) = false := by simp [hz]
    have HZ := Lib.hid hz
    clear hz
    go_wp2_with fail
    refine (HC2.out _ HE2.out).mono ?_
    rintro e w3 ⟨u, rfl, hE3, hO3⟩
    have HE3 := Lib.hid (HE2.out.trans hE3)
    have HO3 := Lib.hid hO3.ls.any
    clear hE3 hO3
    go_wp2_with fail
    go_ret2
    exact ⟨_, by rw [HZ.out]; rfl, HE1.out.trans HE3.out, by rw [HR.out, if_pos HZ.out]; exact HO3.out⟩
  · have e1 : (er != 0) = true := by simp [hz]
    have HZ := Lib.hid hz
    clear hz
    go_wp2_with fail
    go_ret2
    exact ⟨_, rfl, HE1.out.trans HE2.out, by rw [HR.out, if_neg HZ.out]; exact LsT.nil⟩

/-- the elements of a list are small, and few -/
theorem sumL_small {L : List Tm} {n : Nat} (h : sizeL L ≤ n) : ∀ k, (sumL (L.take k) []).length ≤ n ∧ Asc (sumL (L.take k) []) ∧ ∀ y ∈ sumL (L.take k) [], sizeT y ≤ n := fun k => by
  have h1 := sizeL_take_le L k
  refine ⟨by have := sumL_len (L.take k) []; simp at this; omega, sumL_asc _ _ (by simp), fun y hy => ?_⟩
  rcases sumL_size _ _ y hy with h | h
  · simp at h
  · omega
theorem termOf_size : ∀ P : List Tm, sizeT (termOf P) ≤ 1 + sizeL P
  | [] => by simp [termOf, appTm, sizeT, sizeL]
  | [x] => by simp [termOf, sizeL]
  | x :: y :: L => by rw [termOf, appTm, sizeT]; exact Nat.le_refl _
theorem sizeL_le_mul {L : List Tm} {n : Nat} (h : ∀ y ∈ L, sizeT y ≤ n) : sizeL L ≤ L.length * n := by
  induction L with
  | nil => simp [sizeL]
  | cons x L ih =>
    have h1 := h x (by simp)
    have h2 := ih (fun y hy => h y (by simp [hy]))
    rw [sizeL, List.length_cons, Nat.add_mul]
    omega

mutual
/-- sums are no larger than what is summed -/
theorem sumT_sizeL : ∀ t : Tm, sizeL (sumT t) ≤ sizeT t
  | .mk k n s l => by
    rw [sumT]
    split
    · simp [sizeL]
    · split
      · have := sumL_sizeL l []; simp [sizeL] at this; rw [sizeT]; omega
      · simp [sizeL]
theorem sumL_sizeL : ∀ (l acc : List Tm), sizeL (sumL l acc) ≤ sizeL acc + sizeL l
  | [], acc => by simp [sumL, sizeL]
  | t :: l, acc => by
    rw [sumL, sizeL]
    have h1 := sumL_sizeL l (plusS acc (sumT t))
    have h2 : ∀ a b : List Tm, sizeL (plusS a b) ≤ sizeL a + sizeL b := by
      intro a b
      induction a, b using plusS.induct with
      | case1 b => simp [plusS]
      | case2 x a => simp [plusS, sizeL]
      | case3 x a y b h ih => rw [plusS, if_pos h]; simp only [sizeL] at *; omega
      | case4 x a y b h h2 ih => rw [plusS, if_neg h, if_pos h2]; simp only [sizeL] at *; omega
      | case5 x a y b h h2 ih => rw [plusS, if_neg h, if_neg h2]; simp only [sizeL] at *; omega
    have h3 := h2 acc (sumT t)
    have h4 := sumT_sizeL t
    omega
end

theorem isT_z {w : World} : IsT w (.agg #[.int .i64 0, .string ⟨#[]⟩, .int .i64 0, .slice none 0 0]) zT := ⟨none, 0, rfl, tm_nil (by unfold I64; omega) (by unfold I64; omega) (by unfold maxLen; decide)⟩

set_option maxRecDepth 100000 in
set_option maxHeartbeats 2000000 in
theorem RSum_any {w : World} {S : Nat → Prop} {a : Option Addr} {cap : Nat} {L : List Tm} (hn : sizeL L ≤ 30000) (hS : ∀ c, S c → c < w.heap.size) (hL : LsT w S (.slice a L.length cap) L) :
    Calls Try.prog 25 #[.slice a L.length cap] w fun e w' => ∃ u, e = .returned (.tuple #[u, .int .i64 (errSum L)]) ∧ Ext w w' ∧ IsT w' u (sumR L) := by
  obtain ⟨-, hl, hc⟩ := hL.len
  unfold maxLen at hc
  have hlen := len_size L
  obtain ⟨w1, hw1⟩ : ∃ w1, w1 = w.alloc (.cells #[.int .i64 0, .string ⟨#[]⟩, .int .i64 0, .slice none 0 0] 24) := ⟨_, rfl⟩
  have hE1 : Ext w w1 := by rw [hw1]; exact Ext.alloc _ _
  have hg : w1.heap[w.heap.size]? = some (.cells #[.int .i64 0, .string ⟨#[]⟩, .int .i64 0, .slice none 0 0] 24) := by rw [hw1]; exact hs_new
  obtain ⟨g, hgg⟩ : ∃ g, g = w.heap.size := ⟨_, rfl⟩
  rw [← hgg] at hg
  have HG := Lib.hid hg
  have HGG := Lib.hid hgg
  have HE1 := Lib.hid hE1
  have hL6 : ∀ x ∈ L, sizeT x ≤ 30000 := fun x hx => by obtain ⟨i, hi⟩ := List.mem_iff_getElem?.1 hx; have := sizeL_get hi; omega
  have HL := Lib.hid (hL.ext hE1)
  have HS := Lib.hid hS
  have HL6 := Lib.hid hL6
  have HSM := Lib.hid (sumL_small hn)
  have HZS : Hid (sizeT (appTm zeroN []) ≤ 1000000) := Lib.hid (by decide +kernel)
  have HRZ : Hid (rightS L [appTm zeroN []] = rightS L []) := Lib.hid (by rw [rightS, rightS, validL_append, validL_one, zeroN_valid, List.append_nil]; unfold orE; (repeat' split) <;> simp_all)
  obtain ⟨er, her⟩ : ∃ er, er = rightS L [] := ⟨_, rfl⟩
  have HER := Lib.hid her
  clear hg hE1 hL hL6 hS her
  go_enter Try.func25, Try.ntmps25
  go_upto_region 1 with fail
  rw [← hw1, ← hgg]
  clear hw1 hgg
  go_wp2_with fail
  refine zero_any.mono ?_
  rintro e w2 ⟨u, rfl, hE2, va, vc, rfl, hT⟩
  have hcon := rvalid_any (fun x hx => by have := HL6.out x hx; omega) HZS.out (HL.out.ext hE2) hT
  rw [HRZ.out, ← HER.out] at hcon
  have HE2 := Lib.hid hE2
  have HCON := Lib.hid hcon
  clear hE2 hT hcon
  go_wp2_with fail
  refine HCON.out.mono ?_
  rintro e w3 ⟨rfl, hE3⟩
  have HE3 := Lib.hid (HE2.out.trans hE3)
  have HG3 := Lib.hid (hs_ext HE3.out HG.out)
  clear hE3
  by_cases hz : er = 0
  case neg =>
    have e1 : (er != 0) = true := by simp [hz]
    have HR : Hid (errSum L = er ∧ sumR L = zT) := Lib.hid (by
      have : errSum L = er := by rw [errSum, ← HER.out]; simp [orE, hz]
      exact ⟨this, by rw [sumR, this, if_neg hz]⟩)
    clear hz
    go_wp2_with (first
      | (refine wpList_buildT rfl [] rfl [] rfl built_none ?_)
      | ((refine wpList_storeT rfl (.tmp 2) (.tmp 13) rfl (g := g) rfl (k := 0) (s := 0) (n := ⟨#[]⟩) (ka := none) (kl := 0) (kc := 0) rfl HG3.out rfl ?_); intro w6 c6 q6 e6 z6
         have HG6 := Lib.hid c6
         have HE6 := Lib.hid (e6 w (HE1.out.trans HE3.out) (Nat.le_of_eq HGG.out.symm))
         clear c6 q6 e6 z6))
    exact ret_term2 (g := g) rfl rfl HG6.out rfl ⟨_, by rw [HR.out.1]; rfl, HE6.out, by rw [HR.out.2]; exact isT_z⟩
  have e1 : (er != 0) = false := by simp [hz]
  have HR0 : Hid (errSum L = if validT (termOf (sumL L [])) = 0 then 0 else 3) := Lib.hid (by rw [errSum, ← HER.out, hz]; simp [orE])
  clear hz
  go_wp2_with fail
  go_loopw [5, 6] (fun ov kv wr => ∃ k : Nat, kv = .int .i64 k ∧ k ≤ L.length ∧ OwnT wr w1.heap.size S ov (sumL (L.take k) []) ∧ Ext w1 wr) (fun _ kv _ => L.length - (intOf kv).toNat)
  case atStart => exact ⟨0, rfl, by omega, by simp [sumL]; exact OwnT.nil, HE3.out⟩
  case round =>
    obtain ⟨k, rfl, hk, hO, hE⟩ := hrel
    have HO := Lib.hid hO
    have HE := Lib.hid hE
    clear hO hE
    by_cases hlt : k < L.length
    · obtain ⟨x, hx⟩ : ∃ x, L[k]? = some x := ⟨_, List.getElem?_eq_getElem hlt⟩
      obtain ⟨xb, xo, xa, xc, rfl, x0, x1, x2, x3, hTx⟩ := (HL.out.ext HE.out).ts.at hx
      have hcon := RSummands_any 29000 wr S xa xc x
      have hx6 := HL6.out x (List.mem_of_getElem? hx)
      have hcon := RSummands_any 30000 wr S xa xc x hx6 (Nat.le_refl _) (fun c hc => Nat.lt_of_lt_of_le (HS.out c hc) (HE1.out.trans HE.out).size) hTx
      have HF := Lib.hid (sumL_take (acc := []) hx)
      have hsm := HSM.out k
      have HBS : Hid ((sumT x).length ≤ 30000 ∧ Asc (sumT x) ∧ ∀ y ∈ sumT x, sizeT y ≤ 30000) := Lib.hid ⟨by have := sumT_len x; omega, sumT_asc x, fun y hy => by have := sumT_size x y hy; omega⟩
      obtain ⟨P, hP⟩ : ∃ P, P = sumL (L.take k) [] := ⟨_, rfl⟩
      obtain ⟨Q, hQ⟩ : ∃ Q, Q = sumT x := ⟨_, rfl⟩
      rw [← hP] at HO hsm HF
      rw [← hQ] at hcon HF HBS
      obtain ⟨oa, oc, ho, -, -, -⟩ := id HO.out.ls
      subst ho
      have HSM2 := Lib.hid hsm
      have HCON := Lib.hid hcon
      clear hx hx6 hTx hcon hP hQ hsm
      go_wp2_with fail
      refine HCON.out.mono ?_
      rintro e w4 ⟨u, rfl, hE4, hO4⟩
      obtain ⟨ua, uc, hu, -, -, -⟩ := id hO4.ls
      subst hu
      have hcp := RPlus_any (fun y hy => by have := HSM2.out.2.2 y hy; omega) (fun y hy => by have := HBS.out.2.2 y hy; omega) (by have := HSM2.out.1; have := HBS.out.1; omega) HSM2.out.2.1 HBS.out.2.1 (fun c hc => Nat.lt_of_lt_of_le (HS.out c hc) ((HE1.out.trans HE.out).trans hE4).size) (HO.out.ext hE4).ls hO4.ls
      have HE4 := Lib.hid (HE.out.trans hE4)
      have HCP := Lib.hid hcp
      clear hE4 hO4 hcp
      go_wp2_with fail
      refine HCP.out.mono ?_
      rintro e w5 ⟨u, rfl, hE5, hO5⟩
      have HE5 := Lib.hid (HE4.out.trans hE5)
      have HO5 := Lib.hid (hO5.low HE4.out.size)
      clear hE5 hO5
      go_wp2_with fail
      go_roundw
      case rel => exact ⟨k + 1, by go_num, by omega, by rw [HF.out]; exact HO5.out, HE5.out⟩
      case measure => simp [intOf]; omega
    · have HLK : Hid (L.take k = L) := Lib.hid (List.take_of_length_le (by omega))
      have hO := HO.out
      have hsm := HSM.out k
      rw [HLK.out] at hO hsm
      obtain ⟨P, hP⟩ : ∃ P, P = sumL L [] := ⟨_, rfl⟩
      have HTZ : Hid (sizeT (termOf P) ≤ 1000000) := Lib.hid (by
        have h1 := termOf_size P
        have h2 := sumL_sizeL L []
        rw [hP] at *
        simp [sizeL] at h2
        omega)
      rw [← hP] at HR0 hO hsm
      obtain ⟨oa, oc, ho, -, -, -⟩ := id hO.ls
      subst ho
      have HCON := Lib.hid (RTerm_any (by omega) hO.ls)
      have HP := Lib.hid hP
      clear hO hsm hP
      go_wp2_with fail
      refine HCON.out.mono ?_
      rintro e w5 ⟨u, rfl, hE5, va, vc, rfl, hT5⟩
      obtain ⟨w6, hw6⟩ : ∃ w6, w6 = w5.alloc (.cells #[.int .i64 (termOf P).kind, .string (termOf P).name, .int .i64 (termOf P).sort, .slice va (termOf P).kids.length vc] 24) := ⟨_, rfl⟩
      have hgw : g < wr.heap.size := lt_of_get' (hs_ext HE.out HG.out)
      have hT6 : TmW w6 (fun c => c ≠ g) va vc (termOf P) := by
        rw [hw6]
        refine (hT5.ext (Ext.alloc _ _)).wide (fun c hc _ => ?_)
        rcases hc with hc | hc
        · have := HS.out c hc; have := HGG.out; omega
        · omega
      have hE6 : Ext w1 w6 := by rw [hw6]; exact (HE.out.trans hE5).then_al _
      obtain ⟨q, hq⟩ : ∃ q, q = w5.heap.size := ⟨_, rfl⟩
      have b0 : w6.cell? ⟨q, 0, none⟩ = some (.int .i64 (termOf P).kind) := by rw [hw6, hq]; exact cs_new rfl
      have b1 : w6.cell? ⟨q, 1, none⟩ = some (.string (termOf P).name) := by rw [hw6, hq]; exact cs_new rfl
      have b2 : w6.cell? ⟨q, 2, none⟩ = some (.int .i64 (termOf P).sort) := by rw [hw6, hq]; exact cs_new rfl
      have b3 : w6.cell? ⟨q, 3, none⟩ = some (.slice va (termOf P).kids.length vc) := by rw [hw6, hq]; exact cs_new rfl
      have hcon := RValid_any HTZ.out hT6
      obtain ⟨v, hv⟩ : ∃ v, v = validT (termOf P) := ⟨_, rfl⟩
      rw [← hv] at hcon HR0
      have HCON2 := Lib.hid hcon
      have HT6 := Lib.hid hT6
      have HE6 := Lib.hid hE6
      clear hE5 hT5 hT6 hE6 hcon hv
      go_upto_region 10 with fail
      rw [← hw6, ← hq]
      clear hw6 hq
      go_wp2_with fail
      refine HCON2.out.mono ?_
      rintro e w7 ⟨rfl, hE7⟩
      have HE7 := Lib.hid (HE6.out.trans hE7)
      have HG7 := Lib.hid (hs_ext HE7.out HG.out)
      have HT7 := Lib.hid (HT6.out.ext hE7)
      have b0 := cs_ext hE7 b0
      have b1 := cs_ext hE7 b1
      have b2 := cs_ext hE7 b2
      have b3 := cs_ext hE7 b3
      clear hE7
      by_cases hv0 : v = 0
      · have e2 : (v != 0) = false := by simp [hv0]
        have HR : Hid (errSum L = 0 ∧ sumR L = termOf P) := Lib.hid (by
          have : errSum L = 0 := by rw [HR0.out, if_pos hv0]
          exact ⟨this, by rw [sumR, if_pos this, HP.out]⟩)
        clear hv0
        go_wp2_with ((refine wpList_storeT rfl (.tmp 2) (.tmp 34) rfl (g := g) rfl (k := (termOf P).kind) (s := (termOf P).sort) (n := (termOf P).name) (ka := va) (kl := (termOf P).kids.length) (kc := vc) rfl HG7.out rfl ?_); intro w8 c8 q8 e8 z8
                     have HG8 := Lib.hid c8
                     have HE8 := Lib.hid (e8 w (HE1.out.trans HE7.out) (Nat.le_of_eq HGG.out.symm))
                     have HT8 : Hid (TmW w8 Any va vc (termOf P)) := Lib.hid (HT7.out.keep (fun c hc hlt => q8 c hc) (fun _ _ _ => trivial))
                     clear c8 q8 e8 z8)
        exact ret_term2 (g := g) rfl rfl HG8.out rfl ⟨_, by rw [HR.out.1]; rfl, HE8.out, va, vc, by rw [HR.out.2], by rw [HR.out.2]; exact HT8.out⟩
      · have e2 : (v != 0) = true := by simp [hv0]
        have HR : Hid (errSum L = 3 ∧ sumR L = zT) := Lib.hid (by
          have : errSum L = 3 := by rw [HR0.out, if_neg hv0]
          exact ⟨this, by rw [sumR, this]; rfl⟩)
        clear hv0
        go_wp2_with (first
          | (refine wpList_buildT rfl [] rfl [] rfl built_none ?_)
          | ((refine wpList_storeT rfl (.tmp 2) (.tmp 33) rfl (g := g) rfl (k := 0) (s := 0) (n := ⟨#[]⟩) (ka := none) (kl := 0) (kc := 0) rfl HG7.out rfl ?_); intro w8 c8 q8 e8 z8
             have HG8 := Lib.hid c8
             have HE8 := Lib.hid (e8 w (HE1.out.trans HE7.out) (Nat.le_of_eq HGG.out.symm))
             clear c8 q8 e8 z8))
        exact ret_term2 (g := g) rfl rfl HG8.out rfl ⟨_, by rw [HR.out.1]; rfl, HE8.out, by rw [HR.out.2]; exact isT_z⟩

end Go.Proofs.Ytckgjebcehbkfaa
