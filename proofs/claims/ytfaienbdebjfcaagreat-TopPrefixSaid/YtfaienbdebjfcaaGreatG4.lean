/- Contracts: the reference's terms, sums, errors. Contracts: the reference's Term, valid, Parts, Sum. Contracts: the reference's Parts and Sum. -/
import Derived.Test.YtfaienbdebjfcaaGreatG3
namespace Go.Proofs.YtfaienbdebjfcaaGreat
open Go Go.RowKit
set_option linter.unusedVariables false
set_option linter.unusedSimpArgs false

abbrev Any : Nat → Prop := fun _ => True
/-- the value v is the term t, its kids in S -/
def IsS (w : World) (S : Nat → Prop) (v : Value) (t : Tm) : Prop := ∃ a cap, v = .agg #[.int .i64 t.kind, .string t.name, .int .i64 t.sort, .slice a t.kids.length cap] ∧ TmW w S a cap t
abbrev IsT (w : World) (v : Value) (t : Tm) : Prop := IsS w Any v t
theorem IsS.ext {w w' : World} {S : Nat → Prop} {v : Value} {t : Tm} (h : IsS w S v t) (hE : Ext w w') : IsS w' S v t :=
 let ⟨a, cap, e, h⟩ := h
 ⟨a, cap, e, h.ext hE⟩
theorem IsS.any {w : World} {S : Nat → Prop} {v : Value} {t : Tm} (h : IsS w S v t) : IsT w v t :=
 let ⟨a, cap, e, h⟩ := h
 ⟨a, cap, e, h.wide (fun _ _ _ => trivial)⟩
/-- the blocks of S, and those from B on -/
def NewS (S : Nat → Prop) (B : Nat) : Nat → Prop := fun c => S c ∨ B ≤ c
theorem TmW.any {w : World} {S : Nat → Prop} {a : Option Addr} {cap : Nat} {t : Tm} (h : TmW w S a cap t) : TmW w Any a cap t := h.wide (fun _ _ _ => trivial)
theorem LsT.any {w : World} {S : Nat → Prop} {v : Value} {L : List Tm} (h : LsT w S v L) : LsT w Any v L := h.wide (fun _ _ _ => trivial)
/-- what lies in memory now lies below -/
theorem TmW.below {w : World} {S : Nat → Prop} {a : Option Addr} {cap : Nat} {t : Tm} (h : TmW w S a cap t) : TmW w (fun c => c < w.heap.size) a cap t := h.wide (fun _ _ h => h)
theorem LsT.below {w : World} {S : Nat → Prop} {v : Value} {L : List Tm} (h : LsT w S v L) : LsT w (fun c => c < w.heap.size) v L := h.wide (fun _ _ h => h)

theorem lt_of_get' {α : Type} {l : Array α} {i : Nat} {x : α} (h : l[i]? = some x) : i < l.size := (Array.getElem?_eq_some_iff.1 h).1

set_option maxHeartbeats 1000000 in
set_option maxRecDepth 100000 in
theorem App_any {w : World} {S : Nat → Prop} {n : ByteArray} {a : Option Addr} {cap : Nat} {L : List Tm} (hn : n.size ≤ maxLen) (hll : L.length ≤ 100000) (hL : LsT w S (.slice a L.length cap) L) :
 Calls Tryz.prog 31 #[.string n, .slice a L.length cap] w fun e w' => ∃ u, e = .returned u ∧ Ext w w' ∧ IsS w' (NewS S w.heap.size) u (appTm n L) := by
 obtain ⟨w1, hw1⟩ : ∃ w1, w1 = w.alloc (.cells #[.int .i64 0, .string ⟨#[]⟩, .int .i64 0, .slice none 0 0] 77) := ⟨_, rfl⟩
 have hE1 : Ext w w1 := by rw [hw1]; exact Ext.alloc _ _
 have hg : w1.heap[w.heap.size]? = some (.cells #[.int .i64 0, .string ⟨#[]⟩, .int .i64 0, .slice none 0 0] 77) := by rw [hw1]; exact hs_new
 obtain ⟨g, hgg⟩ : ∃ g, g = w.heap.size := ⟨_, rfl⟩
 rw [← hgg] at hg
 have hsz : w1.heap.size ≤ (w1.alloc (.cells #[] 77)).heap.size := by simp
 have hO0 : OwnT (w1.alloc (.cells #[] 77)) w1.heap.size (fun c => S c ∧ c < w.heap.size) (.slice (some ⟨w1.heap.size, 0, none⟩) 0 0) [] := own_empty (Nat.le_refl _)
 have hoff := hO0.off (fun c hc => Nat.lt_of_lt_of_le hc.2 hE1.size)
 have hL0 := ((hL.wide (S' := fun c => S c ∧ c < w.heap.size) (fun c h1 h2 => ⟨h1, h2⟩)).ext hE1).ext (Ext.alloc w1 (.cells #[] 77))
 have HG := Lib.hid hg
 have HE1 := Lib.hid hE1
 have HFIN : Hid (∀ v5 w5, OwnT w5 w1.heap.size (fun c => S c ∧ c < w.heap.size) v5 ([] ++ L) → ∃ va vc, v5 = .slice va L.length vc ∧ TmW w5 (fun c => c ≠ g ∧ NewS S w.heap.size c) va vc (appTm n L)) := Lib.hid (fun v5 w5 o5 => by
  have hlt := o5.lt
  obtain ⟨va, vc, hv, hlc, hcm, hts⟩ := (o5.wide (S' := fun c => c ≠ g ∧ NewS S w.heap.size c) (fun c hc _ => ⟨by omega, .inl hc.1⟩)).ls
  subst hv
  refine ⟨va, vc, rfl, (tm_app hn ⟨va, vc, rfl, hlc, hcm, hts⟩ (fun b o e => ?_)).2⟩
  subst e
  have h1 := (hlt b rfl).1
  have h2 := lt_of_get' hg
  have h3 := HE1.out.size
  exact ⟨by omega, .inr (by omega)⟩)
 clear hL hg hE1
 go_enter Tryz.func31, Tryz.ntmps31
 go_upto_region 1 with fail
 rw [← hw1, ← hgg]
 have HGG := Lib.hid hgg
 clear hw1 hgg
 go_wp2_with (first
  | (at_builtin; (refine wpList_appT rfl (.tmp 6) (.tmp 7) rfl rfl rfl hO0 hsz hoff (by simp) (X := L) (by omega) hL0 ?_); intro v5 w5 o5 g5 k5
     have HE5 : Hid (Ext w1 w5) := Lib.hid ((Ext.alloc w1 _).grownT hO0 g5)
     have HH := HFIN.out v5 w5 o5
     obtain ⟨va, vc, hv, hT5⟩ := HH
     have HT5 := Lib.hid hT5
     subst hv
     have HG5 := Lib.hid (hs_ext HE5.out HG.out)
     clear o5 g5 k5 hO0 hL0 hoff hT5)
  | (refine wpList_buildT rfl [_, _, _] rfl [(0, .int .i64 3), (1, .string n), (3, .slice va L.length vc)] rfl (built_kn _ _ _ _ _) ?_)
  | ((refine wpList_storeT rfl (.tmp 4) (.tmp 9) rfl (g := g) rfl (k := 3) (s := 0) (n := n) (ka := va) (kl := L.length) (kc := vc) rfl HG5.out rfl ?_); intro w6 c6 q6 e6 z6
     have HG6 := Lib.hid c6
     have HE6 := Lib.hid (e6 w (HE1.out.trans HE5.out) (Nat.le_of_eq HGG.out.symm))
     have HT6 := Lib.hid (HT5.out.keep (w' := w6) (fun c hc hlt => q6 c hc.1) (fun _ h _ => h.2) : TmW w6 (NewS S w.heap.size) va vc (appTm n L))
     clear c6 q6 e6 z6))
 refine ret_term (g := g) rfl rfl HG6.out rfl ⟨_, rfl, HE6.out, va, vc, rfl, HT6.out⟩

set_option maxHeartbeats 1000000 in
theorem Atom_any {w : World} {n : ByteArray} {k : Int} (hn : n.size ≤ maxLen) (hk : I64 k) :
 Calls Tryz.prog 32 #[.string n, .int .i64 k] w fun e w' => e = .returned (.agg #[.int .i64 2, .string n, .int .i64 k, .slice none 0 0]) ∧ Ext w w' := by
 obtain ⟨w1, hw1⟩ : ∃ w1, w1 = w.alloc (.cells #[.int .i64 0, .string ⟨#[]⟩, .int .i64 0, .slice none 0 0] 77) := ⟨_, rfl⟩
 have hE1 : Ext w w1 := by rw [hw1]; exact Ext.alloc _ _
 have hg : w1.heap[w.heap.size]? = some (.cells #[.int .i64 0, .string ⟨#[]⟩, .int .i64 0, .slice none 0 0] 77) := by rw [hw1]; exact hs_new
 obtain ⟨g, hgg⟩ : ∃ g, g = w.heap.size := ⟨_, rfl⟩
 rw [← hgg] at hg
 have HG := Lib.hid hg
 have HE1 := Lib.hid hE1
 clear hg hE1
 go_enter Tryz.func32, Tryz.ntmps32
 go_upto_region 1 with fail
 rw [← hw1, ← hgg]
 have HGG := Lib.hid hgg
 clear hw1 hgg
 go_wp2_with (first
  | (refine wpList_buildT rfl [_, _, _] rfl [(0, .int .i64 2), (1, .string n), (2, .int .i64 k)] rfl (built_ks _ _ _) ?_)
  | ((refine wpList_storeT rfl (.tmp 4) (.tmp 7) rfl (g := g) rfl (k := 2) (s := k) (n := n) (ka := none) (kl := 0) (kc := 0) rfl HG.out rfl ?_); intro w6 c6 q6 e6 z6
     have HG6 := Lib.hid c6
     have HE6 := Lib.hid (e6 w HE1.out (Nat.le_of_eq HGG.out.symm))
     clear c6 q6 e6 z6))
 exact ret_term (g := g) rfl rfl HG6.out rfl ⟨rfl, HE6.out⟩

theorem tm_nil {w : World} {S : Nat → Prop} {k s : Int} {n : ByteArray} (hk : I64 k) (hs : I64 s) (hn : n.size ≤ maxLen) : TmW w S none 0 (.mk k n s []) :=
 ⟨hk, hs, hn, Nat.le_refl _, by unfold maxLen; omega, 0, 0, fun h => absurd rfl h, fun i t h => by simp [Tm.kids] at h⟩

end Go.Proofs.YtfaienbdebjfcaaGreat
