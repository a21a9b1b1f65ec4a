/- Terms off the blocks that may be turned; rows of a few terms. -/
import Derived.Test.YtkobikdkbpdjeaaDoorG4
import Derived.Test.YtkobikdkbpdjeaaDoorH1
namespace Go.Proofs.YtkobikdkbpdjeaaDoor
open Go Go.RowKit
set_option linter.unusedVariables false
set_option linter.unusedSimpArgs false

mutual
/-- no kind is zero -/
def nzT : Tm → Bool | .mk k _ _ l => decide (k ≠ 0) && nzL l
def nzL : List Tm → Bool | [] => true | t :: l => nzT t && nzL l
end
theorem nzL_get : ∀ {L : List Tm} {i : Nat} {t : Tm}, L[i]? = some t → nzL L = true → nzT t = true
 | [], _, _, h, _ => by simp at h
 | x :: L, 0, t, h, hL => by
   simp at h; subst h
   rw [nzL, Bool.and_eq_true] at hL
   exact hL.1
 | x :: L, i + 1, t, h, hL => by
   rw [nzL, Bool.and_eq_true] at hL
   exact nzL_get (by simpa using h) hL.2
theorem nzT_kids {t : Tm} (h : nzT t = true) : nzL t.kids = true := by
 cases t
 rw [nzT, Bool.and_eq_true] at h
 exact h.2
theorem nzT_kind {t : Tm} (h : nzT t = true) : t.kind ≠ 0 := by
 cases t
 rw [nzT, Bool.and_eq_true] at h
 exact of_decide_eq_true h.1
/-- no block that may be turned -/
def Still (w : World) (c : Nat) : Prop := ∀ o, w.heap[c]? = some o → ¬ Turnable o
theorem still_of {w : World} {c o : Nat} {k : Int} {n : ByteArray} (h : w.cell? ⟨c, o, none⟩ = some (.int .i64 k)) (h1 : w.cell? ⟨c, o + 1, none⟩ = some (.string n)) (hk : k ≠ 0) : Still w c := by
 intro ob ho ht
 rcases ht with ⟨es, cl, rfl⟩ | rfl | rfl
 · simp [World.cell?, ho] at h
 · rw [cellc ho] at h
   match o, h with
   | 0, h => simp at h; exact hk h.symm
   | 1, h => simp at h
   | 2, h => simp at h; exact hk h.symm
   | 3, h => simp at h
   | o + 4, h => simp at h
 · rw [cellc ho] at h
   match o, h with
   | 0, h => simp at h; exact hk h.symm
   | 1, h => simp at h
   | 2, h => simp at h; exact hk h.symm
   | 3, h => simp at h
   | 4, h => simp at h; exact hk h.symm
   | 5, h => simp at h
   | o + 6, h => simp at h
theorem TmAt.still {w : World} {S : Nat → Prop} {b o : Nat} {t : Tm} (h : TmAt w S b o t) : nzT t = true → TmAt w (fun c => S c ∧ Still w c) b o t := by
 induction h with
 | @mk b o k n s l a cap ba oa h0 h1 h2 h3 hk hs hn hl hc ha kids ih =>
   intro he
   refine .mk h0 h1 h2 h3 hk hs hn hl hc (fun hne => ⟨(ha hne).1, (ha hne).2, ?_⟩) (fun i t hi => ih i t hi (nzL_get hi (nzT_kids he)))
   obtain ⟨x, hx⟩ := get0 hne
   obtain ⟨a', cap', c0, c1, -⟩ := (kids 0 x hx).open
   exact still_of c0 c1 (nzT_kind (nzL_get hx (nzT_kids he)))
/-- a term whose rows lie in blocks of Y that can't be turned -/
def TmZ (w : World) (Y : Nat → Prop) (a : Option Addr) (cap : Nat) (t : Tm) : Prop := TmW w (fun c => Y c ∧ Still w c) a cap t
section
variable {w w' : World} {Y : Nat → Prop} {a : Option Addr} {cap : Nat} {t : Tm}
theorem TmW.z (h : TmW w Y a cap t) (he : nzT t = true) : TmZ w Y a cap t := by
 refine ⟨h.kind, h.sort, h.name, h.len, h.cap, ?_⟩
 obtain ⟨ba, oa, ha, hk⟩ := h.kids
 refine ⟨ba, oa, fun hne => ⟨(ha hne).1, (ha hne).2, ?_⟩, fun i x hi => (hk i x hi).still (nzL_get hi (nzT_kids he))⟩
 obtain ⟨x, hx⟩ := get0 hne
 obtain ⟨a', cap', c0, c1, -⟩ := (hk 0 x hx).open
 exact still_of c0 c1 (nzT_kind (nzL_get hx (nzT_kids he)))
theorem TmZ.tm (h : TmZ w Y a cap t) : TmW w Y a cap t := TmW.wide h (fun _ h _ => h.1)
theorem TmZ.ext (h : TmZ w Y a cap t) (hE : Ext w w') : TmZ w' Y a cap t :=
 TmW.keep h (fun c _ hc => hE.block hc) (fun c h hc => ⟨h.1, fun o ho => h.2 o ((hE.block hc).symm.trans ho)⟩)
theorem TmZ.turn {b : Nat} {o o' : Obj} (h : TmZ w Y a cap t) (hb : w.heap[b]? = some o) (ho : Turnable o) : TmZ (ChangeMaps.setBlock w b o') Y a cap t := by
 have hne : ∀ c, Still w c → c ≠ b := fun c hc e => by subst e; exact hc o hb ho
 refine TmW.keep h (fun c h _ => reg_turned_block (hne c h.2)) (fun c h _ => ⟨h.1, fun x hx => h.2 x ?_⟩)
 rw [reg_turned_block (hne c h.2)] at hx
 exact hx
end
/-- a term as the result of a call, whatever is made or turned beside it -/
def resZ (Y : Nat → Prop) (t : Tm) (u : Value) (w : World) : Prop := ∃ a cap, u = .agg #[.int .i64 t.kind, .string t.name, .int .i64 t.sort, .slice a t.kids.length cap] ∧ TmZ w Y a cap t
theorem resZ.persist {tb : Bool} {B : Nat} {Y : Nat → Prop} {t : Tm} : Persist tb B [] (resZ Y t) :=
 ⟨fun u w w' ⟨a, c, e, h⟩ hE => ⟨a, c, e, h.ext hE⟩, fun _ u w b o o' ⟨a, c, e, h⟩ hb ho => ⟨a, c, e, h.turn hb ho⟩, fun h => absurd rfl h⟩
/-- a row that a region makes and that nothing turns -/
def rowZ (n : Nat) (o : Obj) (v : Value) (w : World) : Prop := ∃ fb, v = .slice (some ⟨fb, 0, none⟩) n n ∧ w.heap[fb]? = some o
theorem rowZ.persist {tb : Bool} {B n : Nat} {o : Obj} (ho : ¬ Turnable o) : Persist tb B [] (rowZ n o) :=
 ⟨fun u w w' ⟨fb, e, h⟩ hE => ⟨fb, e, hs_ext hE h⟩, fun _ u w b o1 o2 ⟨fb, e, h⟩ hb ht => ⟨fb, e, by rw [reg_turned_block (fun e => by subst e; rw [h] at hb; cases hb; exact ho ht)]; exact h⟩, fun h => absurd rfl h⟩
def aggOf (v : Value) : Array Value := match v with | .agg cs => cs | _ => #[]
theorem set4_turn {w : World} {g T : Nat} {a b c d : Value} (a' b' c' d' : Value) (h : w.heap[g]? = some (.cells #[a, b, c, d] T)) :
 (((w.setCell ⟨g, 0, none⟩ a').setCell ⟨g, 1, none⟩ b').setCell ⟨g, 2, none⟩ c').setCell ⟨g, 3, none⟩ d' = ChangeMaps.setBlock w g (.cells #[a', b', c', d'] T) := by
 have h1 := heap_setCell_same w g 0 _ _ a' h
 have h5 := heap_setCell_same _ g 1 _ _ b' h1
 have h6 := heap_setCell_same _ g 2 _ _ c' h5
 have h7 := heap_setCell_same _ g 3 _ _ d' h6
 have hlt := (Array.getElem?_eq_some_iff.1 h).1
 have hx : ((((w.setCell ⟨g, 0, none⟩ a').setCell ⟨g, 1, none⟩ b').setCell ⟨g, 2, none⟩ c').setCell ⟨g, 3, none⟩ d').heap = (ChangeMaps.setBlock w g (.cells #[a', b', c', d'] T)).heap := by
  apply Array.ext_getElem?
  intro i
  by_cases hi : i = g
  · subst hi
    rw [h7, reg_turned_same h]
    simp
  · rw [heap_setCell_other _ _ _ _ hi, heap_setCell_other _ _ _ _ hi, heap_setCell_other _ _ _ _ hi, heap_setCell_other _ _ _ _ hi, reg_turned_block hi]
 have hw : ∀ (A B : World), A.heap = B.heap → A.tape = B.tape → A.drawn = B.drawn → A.os = B.os → A.output = B.output → A = B := by
  intro A B e1 e2 e3 e4 e5
  cases A; cases B
  simp only at e1 e2 e3 e4 e5
  subst e1 e2 e3 e4 e5
  rfl
 exact hw _ _ hx rfl rfl rfl rfl
/-- a result stored into the term that the region made -/
theorem turn_store1 {w : World} {n T : Nat} {u : Value} {k s : Int} {nm : ByteArray} {a : Option Addr} {l c : Nat} {r : Result Next}
 (hz : w.heap[n]? = some (.cells #[.int .i64 0, .string ⟨#[]⟩, .int .i64 0, .slice none 0 0] T)) (hu : u = .agg #[.int .i64 k, .string nm, .int .i64 s, .slice a l c])
 (h : w.cell? ⟨n, 0, none⟩ = some (.int .i64 0) → w.cell? ⟨n, 1, none⟩ = some (.string ⟨#[]⟩) → w.cell? ⟨n, 2, none⟩ = some (.int .i64 0) → w.cell? ⟨n, 3, none⟩ = some (.slice none 0 0) → w.frozen? ⟨n, 0, none⟩ = false → w.frozen? ⟨n, 1, none⟩ = false → w.frozen? ⟨n, 2, none⟩ = false → w.frozen? ⟨n, 3, none⟩ = false →
   u = .agg #[.int .i64 k, .string nm, .int .i64 s, .slice a l c] → r = .ok .skip ((((w.setCell ⟨n, 0, none⟩ (.int .i64 k)).setCell ⟨n, 1, none⟩ (.string nm)).setCell ⟨n, 2, none⟩ (.int .i64 s)).setCell ⟨n, 3, none⟩ (.slice a l c))) :
 ∃ x, r = .ok x (ChangeMaps.setBlock w n (.cells (aggOf u) T)) ∧ (x = .value undef ∨ x = .skip) := by
 refine ⟨.skip, ?_, .inr rfl⟩
 rw [h ((cellc hz).trans rfl) ((cellc hz).trans rfl) ((cellc hz).trans rfl) ((cellc hz).trans rfl) (frozenc hz) (frozenc hz) (frozenc hz) (frozenc hz) hu, set4_turn _ _ _ _ hz, hu]
 rfl
/-- a block of terms reads as their list -/
theorem cells_ls {w : World} {S : Nat → Prop} {fb : Nat} {cs : Array Value} {E : List TE} (hb : w.heap[fb]? = some (.cells cs 38)) (he : cs = (E.flatMap encE).toArray) (hm : E.length ≤ 1000) (hT : ∀ e ∈ E, TmW w S e.a e.cap e.t) : LsT w S (.slice (some ⟨fb, 0, none⟩) E.length E.length) (E.map (·.t)) := by
 have hl := flatE_len encE_len E
 have h : OwnT w 0 S (.slice (some ⟨fb, 0, none⟩) E.length E.length) (E.map (·.t)) :=
  ⟨E, rfl, ⟨hl, .inr ⟨fb, E.length, cs, rfl, Nat.zero_le _, hb, Nat.le_refl _, by unfold maxLen; omega, by rw [he, List.size_toArray, hl], by rw [he, List.take_of_length_le (by simp only [hl]; omega)]⟩⟩, hT⟩
 exact h.ls
/-- an application of a row's terms -/
theorem AppR_any {w : World} {fb : Nat} {cs : Array Value} {n : ByteArray} {E : List TE} {t : Tm} (hn : n.size ≤ maxLen) (hb : w.heap[fb]? = some (.cells cs 38)) (he : cs = (E.flatMap encE).toArray) (hm : E.length ≤ 1000) (hT : ∀ e ∈ E, TmW w Any e.a e.cap e.t) (ht : t = appTm n (E.map (·.t))) (hz : nzT t = true) :
 Calls Tryd.prog 21 #[.string n, .slice (some ⟨fb, 0, none⟩) E.length E.length] w fun e w' => ∃ u, e = .returned u ∧ Ext w w' ∧ resZ Any t u w' := by
 have hl := cells_ls hb he hm hT
 have h := App_any (n := n) (L := E.map (·.t)) (cap := E.length) hn (by rw [List.length_map]; omega) (by rw [List.length_map]; exact hl)
 rw [List.length_map] at h
 refine h.mono ?_
 rintro e w' ⟨u, h1, h2, a, c, rfl, h3⟩
 rw [← ht] at h3
 exact ⟨_, h1, h2, a, c, by rw [ht], h3.any.z hz⟩
theorem hs_new1 {w : World} {o o' : Obj} : ((w.alloc o).alloc o').heap[w.heap.size + 1]? = some o' := by
 have h := hs_new (w := w.alloc o) (o := o')
 rw [World.size_alloc] at h
 exact h
set_option maxHeartbeats 1000000 in
theorem RVar_any {w : World} {n : ByteArray} {k : Int} (hn : n.size ≤ maxLen) (hk : I64 k) :
 Calls Tryd.prog 20 #[.string n, .int .i64 k] w fun e w' => e = .returned (.agg #[.int .i64 1, .string n, .int .i64 k, .slice none 0 0]) ∧ Ext w w' := by
 obtain ⟨g, w1, hgg, hw1, HG, hE1⟩ := box_new w (.cells #[.int .i64 0, .string ⟨#[]⟩, .int .i64 0, .slice none 0 0] 38)
 have HE1 := Lib.hid hE1
 have HGG := Lib.hid hgg
 clear hE1
 go_enter Tryd.func20, Tryd.ntmps20
 go_upto_region 1 with fail
 rw [← hw1, ← hgg]
 clear hw1 hgg
 go_wp2_with (first
  | (refine wpList_buildT rfl [_, _, _] rfl [(0, .int .i64 1), (1, .string n), (2, .int .i64 k)] rfl (built_ks _ _ _) ?_)
  | ((refine wpList_storeT rfl (.tmp 4) (.tmp 7) rfl (g := g) rfl (k := 1) (s := k) (n := n) (ka := none) (kl := 0) (kc := 0) rfl HG.out rfl ?_); intro w6 c6 q6 e6 z6
     have HG6 := Lib.hid c6
     have HE6 := Lib.hid (e6 w HE1.out (Nat.le_of_eq HGG.out.symm))
     clear c6 q6 e6 z6))
 exact ret_term (g := g) rfl rfl HG6.out rfl ⟨rfl, HE6.out⟩
end Go.Proofs.YtkobikdkbpdjeaaDoor
