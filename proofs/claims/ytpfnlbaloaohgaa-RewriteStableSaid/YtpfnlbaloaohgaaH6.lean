/- Plain law: substitutions. Contracts: the closure that replaces variables. Contracts: a substitution applied. Plain law: steps. -/
import Derived.Test.YtpfnlbaloaohgaaH5
import Derived.Laws.EntriesVeiled
namespace Go.Proofs.Ytpfnlbaloaohgaa
open Go
set_option linter.unusedVariables false
set_option linter.unusedSimpArgs false

mutual
/-- variables replaced by what is known of them -/
def putF (F : Bnd) : Tm → Tm | .mk k n s l => if k = 1 then (F (n, s)).getD (.mk k n s l) else .mk k n s (putFL F l)
def putFL (F : Bnd) : List Tm → List Tm | [] => [] | t :: l => putF F t :: putFL F l
end
theorem putF_eq (F : Bnd) (t : Tm) : putF F t = if t.kind = 1 then (F (t.name, t.sort)).getD t else .mk t.kind t.name t.sort (putFL F t.kids) := by cases t; rw [putF]; rfl
theorem putFL_map (F : Bnd) : ∀ l, putFL F l = l.map (putF F)
 | [] => rfl
 | t :: l => by rw [putFL, putFL_map F l]; rfl
theorem putFL_len (F : Bnd) (l : List Tm) : (putFL F l).length = l.length := by rw [putFL_map, List.length_map]
theorem putFL_take {F : Bnd} {l : List Tm} {i : Nat} {x : Tm} (h : l[i]? = some x) : putFL F (l.take (i + 1)) = putFL F (l.take i) ++ [putF F x] := by
 rw [putFL_map, putFL_map, List.take_add_one, h, List.map_append]; rfl
/-- sizes of instances -/
theorem sum_le (F : Bnd) (hF : ∀ k u, F k = some u → sizeT u ≤ 400) : (∀ t : Tm, sizeT (putF F t) ≤ 400 * sizeT t) := by
 have key : ∀ n, ∀ t : Tm, sizeT t ≤ n → sizeT (putF F t) ≤ 400 * sizeT t := by
  intro n
  induction n with
  | zero => intro t h; have := sizeT_kids t; omega
  | succ n ih =>
    intro t h
    rw [putF_eq]
    have hk := sizeT_kids t
    split
    · cases hu : F (t.name, t.sort) with
      | some u => have := hF _ u hu; simp only [Option.getD_some]; omega
      | none => simp only [Option.getD_none]; omega
    · rw [sizeT]
      have hl : ∀ l : List Tm, sizeL l ≤ n → sizeL (putFL F l) ≤ 400 * sizeL l := by
       intro l
       induction l with
       | nil => intro _; simp [putFL, sizeL]
       | cons x l ihl =>
         intro hx
         rw [sizeL] at hx
         rw [putFL, sizeL, sizeL]
         have h1 := ih x (by omega)
         have h2 := ihl (by omega)
         omega
      have := hl t.kids (by omega)
      omega
 intro t
 exact key _ t (Nat.le_refl _)

end Go.Proofs.Ytpfnlbaloaohgaa

namespace Go.Proofs.Ytpfnlbaloaohgaa
open Go Go.RowKit
set_option linter.unusedVariables false
set_option linter.unusedSimpArgs false

/-- the copy under way: the block bx holds its fields, the row kv its kids -/
structure PutI (w wr : World) (bx rx : Nat) (k : Int) (n : ByteArray) (s : Int) (kv : Value) (O : List Tm) : Prop where
 own : OwnT wr (bx + 1) (fun c => bx + 1 ≤ c ∧ kv.ownBlock ≠ some c) kv O
 blk : wr.heap[bx]? = some (.cells #[.int .i64 k, .string n, .int .i64 s, kv] 31)
 res : wr.heap[rx]? = some (.cells #[.int .i64 0, .string ⟨#[]⟩, .int .i64 0, .slice none 0 0] 31)
 ext : Ext w wr
theorem PutI.next {w wr w' : World} {bx rx : Nat} {k s : Int} {n : ByteArray} {kv : Value} {O : List Tm} (h : PutI w wr bx rx k n s kv O) (hE : Ext wr w') : PutI w w' bx rx k n s kv O :=
 ⟨h.own.ext hE, hs_ext hE h.blk, hs_ext hE h.res, h.ext.trans hE⟩
theorem PutI.put {w wr w' : World} {bx rx : Nat} {k s : Int} {n : ByteArray} {kv v' : Value} {O O' : List Tm} (h : PutI w wr bx rx k n s kv O) (hb : w.heap.size ≤ bx) (hrx : rx < bx)
 (hO : OwnT w' (bx + 1) (fun c => (bx + 1 ≤ c ∧ kv.ownBlock ≠ some c) ∧ c < wr.heap.size) v' O') (hg : wr.grownBy w' kv.ownBlock) (hat : v'.ownBlock = kv.ownBlock ∨ v'.ownBlock = some wr.heap.size) :
 PutI w (w'.setCell ⟨bx, 3, none⟩ v') bx rx k n s v' O' := by
 have hk := h.own.lt
 have hk' := hO.lt
 have n1 : bx < wr.heap.size := lt_of_get' h.blk
 have n2 : rx < wr.heap.size := lt_of_get' h.res
 have b1 : w'.heap[bx]? = some (.cells #[.int .i64 k, .string n, .int .i64 s, kv] 31) := by rw [hg.block bx n1 (fun e => by have := (hk bx e.symm).1; omega)]; exact h.blk
 have b2 : w'.heap[rx]? = some (.cells #[.int .i64 0, .string ⟨#[]⟩, .int .i64 0, .slice none 0 0] 31) := by rw [hg.block _ n2 (fun e => by have := (hk _ e.symm).1; omega)]; exact h.res
 have hE : Ext w w' := h.ext.grown hg (fun q hq => by have := (hk q hq).1; omega)
 refine ⟨?_, ?_, ?_, hE.setCell hb v'⟩
 · refine (hO.keep (w' := w'.setCell ⟨bx, 3, none⟩ v') (fun q hq => heap_setCell_other _ _ _ _ (by have := (hk' q hq).1; show q ≠ bx; omega)) (fun c hc hlt => heap_setCell_other _ _ _ _ (by show c ≠ bx; omega))).wide (fun c hc _ => ⟨hc.1.1, fun e => ?_⟩)
   rcases hat with h1 | h1
   · exact hc.1.2 (by rw [← h1]; exact e)
   · rw [h1] at e
     simp only [Option.some.injEq] at e
     omega
 · have := heap_setCell_same w' bx 3 _ _ v' b1
   rw [this]
   simp
 · rw [heap_setCell_other _ _ _ _ (by show rx ≠ bx; omega)]
   exact b2

theorem PutI.after {w wr w' : World} {bx rx : Nat} {k s : Int} {n : ByteArray} {kv : Value} {O : List Tm} (h : PutI w wr bx rx k n s kv O) (hg : wr.grownBy w' kv.ownBlock) : w'.heap[bx]? = some (.cells #[.int .i64 k, .string n, .int .i64 s, kv] 31) := by
 rw [hg.block bx (lt_of_get' h.blk) (fun e => by have := (h.own.lt bx e.symm).1; omega)]; exact h.blk

set_option maxRecDepth 100000 in
set_option maxHeartbeats 8000000 in
theorem put_any {w0 : World} {bb mb pb N : Nat} {Sm S : Nat → Prop} {F : Bnd} (hF : ∀ k u, F k = some u → sizeT u ≤ 400) (hbb : w0.heap[bb]? = some (.cells #[.map (some mb)] 106)) (hpb : w0.heap[pb]? = some (.cells #[.func (.func 75) #[] #[.pointer (some ⟨bb, 0, none⟩), .pointer (some ⟨pb, 0, none⟩)]] 87)) (hM : MapT w0 Sm mb N F) (n : Nat) :
 ∀ (w : World) (a : Option Addr) (cap : Nat) (t : Tm), sizeT t ≤ n → n ≤ 2000 → Ext w0 w → TmW w S a cap t →
 Calls Try.prog 75 #[.agg #[.int .i64 t.kind, .string t.name, .int .i64 t.sort, .slice a t.kids.length cap], .pointer (some ⟨bb, 0, none⟩), .pointer (some ⟨pb, 0, none⟩)] w fun e w' => ∃ u, e = .returned u ∧ Ext w w' ∧ IsS w' (fun c => w.heap.size ≤ c) u (putF F t) := by
 induction n with
 | zero => intro w a cap t hn; have := sizeT_kids t; omega
 | succ n ih =>
   intro w a cap t hn hn2 hE0 hT
   have hl := hT.len
   have hc := hT.cap
   unfold maxLen at hc
   obtain ⟨bx, w1, hbbx, hwbx, HBbx, hEbx⟩ := box_new w (.cells #[.int .i64 t.kind, .string t.name, .int .i64 t.sort, .slice a t.kids.length cap] 31)
   have hs1 : w1.heap.size = bx + 1 := by rw [hwbx, hbbx, World.size_alloc]
   obtain ⟨rx, hrx⟩ : ∃ zz9, zz9 = bx + 1 := ⟨_, rfl⟩
   obtain ⟨w2, hw2⟩ : ∃ zz9, zz9 = w1.alloc (.cells #[.int .i64 0, .string ⟨#[]⟩, .int .i64 0, .slice none 0 0] 31) := ⟨_, rfl⟩
   have hE2 : Ext w1 w2 := by rw [hw2]; exact Ext.alloc _ _
   have HBR : Hid (w2.heap[rx]? = some (.cells #[.int .i64 0, .string ⟨#[]⟩, .int .i64 0, .slice none 0 0] 31)) := Lib.hid (by rw [hw2, hrx, ← hs1]; exact hs_new)
   have hs2 : w2.heap.size = rx + 1 := by rw [hw2, World.size_alloc, hs1, hrx]
   have hEa := hEbx.trans hE2
   obtain ⟨b0, b1, b2, b3⟩ := box4r (hs_ext hE2 HBbx.out)
   have HB2 := Lib.hid (hs_ext hE2 HBbx.out)
   have HE2 := Lib.hid hEa
   have HNB : Hid (w.heap.size = bx ∧ rx = bx + 1 ∧ w2.heap.size = rx + 1) := Lib.hid ⟨hbbx.symm, hrx, hs2⟩
   have HT := Lib.hid (hT.ext hEa)
   have HTW := Lib.hid hT
   have HE0w := Lib.hid hE0
   have HPB0 := Lib.hid hpb
   have HN := Lib.hid (And.intro hn hn2)
   have HK := Lib.hid (sizeT_kids t)
   have HF := Lib.hid hF
   have HBB := Lib.hid (hs_ext (hE0.trans hEa) hbb)
   have HPB := Lib.hid (hs_ext (hE0.trans hEa) hpb)
   have HM := Lib.hid ((hM.keep (w' := w0) (S' := fun c => c < w0.heap.size) rfl (fun _ _ _ => rfl) (fun _ _ h => h)).ext (hE0.trans hEa))
   have HW0 : Hid (w0.heap.size ≤ w.heap.size) := Lib.hid hE0.size
   have HE0 := Lib.hid (hE0.trans hEa)
   have HNM : Hid (t.name.size ≤ maxLen ∧ I64 t.sort ∧ I64 t.kind) := Lib.hid ⟨hT.name, hT.sort, hT.kind⟩
   have IH := Lib.hid ih
   have m0 : w2.cell? ⟨bb, 0, none⟩ = some (.map (some mb)) := by rw [cellc HBB.out]; rfl
   have p0 : w2.cell? ⟨pb, 0, none⟩ = some (.func (.func 75) #[] #[.pointer (some ⟨bb, 0, none⟩), .pointer (some ⟨pb, 0, none⟩)]) := by rw [cellc HPB.out]; rfl
   obtain ⟨R, hR⟩ : ∃ R, R = putF F t := ⟨_, rfl⟩
   rw [← hR]
   rw [putF_eq] at hR
   have HR := Lib.hid hR
   clear hT hEbx hE2 hEa hs1 hs2 hR hn hn2 hE0 ih hF hbb hpb hM
   go_enter Try.func75, Try.ntmps75
   go_upto_region 1 with fail
   rw [← hwbx, ← hbbx, ← hw2, ← hrx]
   clear hwbx hbbx hw2 hrx
   by_cases hk : t.kind = 1
   · have e1 : (t.kind == 1) = true := by simp [hk]
     have HR2 : Hid (R = (F (t.name, t.sort)).getD t) := Lib.hid (by rw [HR.out, if_pos hk])
     clear hk
     cases hq : F (t.name, t.sort) with
     | some u =>
       have HRU : Hid (R = u) := Lib.hid (by rw [HR2.out, hq]; rfl)
       have HQ := Lib.hid hq
       have hu4 := HF.out _ _ hq
       clear hq
       go_upto_region 3 with (
        refine wpList_lookNm rfl _ _ _ rfl HM.out rfl t.name t.sort HNM.out.1 HNM.out.2.1 rfl (fun h => absurd h (by rw [HQ.out]; simp)) ?_
        intro u' ua uc hu hTu
        rw [HQ.out] at hu
        cases hu
        have HTU := Lib.hid hTu
        clear hTu)
       obtain ⟨ux, w3, hbux, hwux, HBux, hEux⟩ := box_new w2 (.cells #[.int .i64 u.kind, .string u.name, .int .i64 u.sort, .slice ua u.kids.length uc] 31)
       have HE3 := Lib.hid (HE2.out.trans hEux)
       have HR3 := Lib.hid (hs_ext hEux HBR.out)
       have HB3 := Lib.hid (hs_ext hEux HB2.out)
       have HTU3 := Lib.hid (HTU.out.ext hEux)
       have HUX : Hid (bx < ux ∧ rx < ux ∧ bx < w3.heap.size) := Lib.hid ⟨by have := HNB.out; omega, by have := HNB.out; omega, lt_of_get' (hs_ext hEux HB2.out)⟩
       clear hEux
       rw [← hwux, ← hbux]
       clear hwux hbux
       clear b0 b1 b2 b3
       obtain ⟨u0, u1, u2, u3⟩ := box4r (HBux.out)
       go_upto_region 5 with (
        refine wpList_storeT rfl (.tmp 3) (.tmp 26) rfl (g := bx) rfl (k := u.kind) (s := u.sort) (n := u.name) (ka := ua) (kl := u.kids.length) (kc := uc) rfl HB3.out rfl ?_
        intro w5 c5 q5 e5 z5
        have HG5 := Lib.hid c5
        have HE5 := Lib.hid (e5 w HE3.out (by have := HNB.out; omega))
        have HR5 : Hid (w5.heap[rx]? = some (.cells #[.int .i64 0, .string ⟨#[]⟩, .int .i64 0, .slice none 0 0] 31)) := Lib.hid (by rw [q5 rx (by have := HNB.out; omega)]; exact HR3.out)
        have HTU5 := Lib.hid (HTU3.out.keep (w' := w5) (fun c hc _ => q5 c (by have := HNB.out; have := HW0.out; omega)) (fun _ h _ => h))
        clear c5 q5 e5 z5)
       clear u0 u1 u2 u3
       obtain ⟨u0, u1, u2, u3⟩ := box4r (HG5.out)
       have HCR := Lib.hid (PReplace_any (w := w5) (p := []) (by omega) (by omega) HTU5.out (LsG.nil (S := Any)) HTU5.out)
       have hru : repT [] u u = some R := by rw [HRU.out]; rfl
       rw [hru] at HCR
       clear hru
       go_wp2_with fail
       refine HCR.out.mono ?_
       rintro e w6 ⟨v6, er, rfl, hE6, hA6⟩
       obtain ⟨rfl, va, vc, rfl, hT6⟩ : er = 0 ∧ IsS w6 (fun c => w5.heap.size ≤ c) v6 R := by
        rcases hA6 with ⟨x, e1, e2, e3⟩ | ⟨e1, -⟩
        · have e1 : R = x := Option.some.inj e1
          subst e1; exact ⟨e2, e3⟩
        · cases e1
       have HB6 := Lib.hid (hs_ext hE6 HR5.out)
       have HE6 := Lib.hid (HE5.out.trans hE6)
       have HT6 := Lib.hid (hT6.wide (S' := fun c => w.heap.size ≤ c ∧ c ≠ rx) (fun c hc _ => by have := HE5.out.size; have := lt_of_get' HR5.out; omega))
       clear hE6 hA6 hT6
       go_wp2_with (
        refine wpList_storeT rfl (.tmp 4) (.tmp 33) rfl (g := rx) rfl (k := R.kind) (s := R.sort) (n := R.name) (ka := va) (kl := R.kids.length) (kc := vc) rfl (hs_ext (Ext.alloc _ _) HB6.out) rfl ?_
        intro w7 c7 q7 e7 z7
        have HG7 := Lib.hid c7
        have HE7 := Lib.hid (e7 w (HE6.out.then_al _) (by have := HNB.out; omega))
        have HT7 : Hid (TmW w7 (fun c => w.heap.size ≤ c) va vc R) := Lib.hid ((HT6.out.ext (Ext.alloc _ _)).keep (fun c hc _ => q7 c hc.2) (fun c hc _ => hc.1))
        clear c7 q7 e7 z7)
       exact ret_term (g := rx) rfl rfl HG7.out rfl ⟨_, rfl, HE7.out, va, vc, rfl, HT7.out⟩
     | none =>
       have HRU : Hid (R = t) := Lib.hid (by rw [HR2.out, hq]; rfl)
       have HQ := Lib.hid hq
       clear hq
       go_upto_region 3 with (
        refine wpList_lookNm rfl _ _ _ rfl HM.out rfl t.name t.sort HNM.out.1 HNM.out.2.1 rfl ?_ (fun u' ua uc hu => absurd hu (by rw [HQ.out]; simp))
        intro _)
       obtain ⟨w5, hw5⟩ : ∃ zz9, zz9 = w2.alloc (.cells #[.int .i64 0, .string ⟨#[]⟩, .int .i64 0, .slice none 0 0] 31) := ⟨_, rfl⟩
       have hE5 : Ext w2 w5 := by rw [hw5]; exact Ext.alloc _ _
       rw [← hw5]
       clear hw5
       obtain ⟨b0, b1, b2, b3⟩ := cs_e4 hE5 ⟨b0, b1, b2, b3⟩
       have HE5 := Lib.hid (HE2.out.trans hE5)
       have HR5 := Lib.hid (hs_ext hE5 HBR.out)
       have HCR := Lib.hid (PReplace_any (w := w5) (p := []) (by have := HN.out; omega) (by have := HN.out; omega) (HT.out.ext hE5) (LsG.nil (S := Any)) (HT.out.ext hE5))
       have hru : repT [] t t = some R := by rw [HRU.out]; rfl
       rw [hru] at HCR
       clear hru hE5
       go_wp2_with fail
       refine HCR.out.mono ?_
       rintro e w6 ⟨v6, er, rfl, hE6, hA6⟩
       obtain ⟨rfl, va, vc, rfl, hT6⟩ : er = 0 ∧ IsS w6 (fun c => w5.heap.size ≤ c) v6 R := by
        rcases hA6 with ⟨x, e1, e2, e3⟩ | ⟨e1, -⟩
        · have e1 : R = x := Option.some.inj e1
          subst e1; exact ⟨e2, e3⟩
        · cases e1
       have HB6 := Lib.hid (hs_ext hE6 HR5.out)
       have HE6 := Lib.hid (HE5.out.trans hE6)
       have HT6 := Lib.hid (hT6.wide (S' := fun c => w.heap.size ≤ c ∧ c ≠ rx) (fun c hc _ => by have := HE5.out.size; have := lt_of_get' HR5.out; omega))
       clear hE6 hA6 hT6
       go_wp2_with (
        refine wpList_storeT rfl (.tmp 4) (.tmp 33) rfl (g := rx) rfl (k := R.kind) (s := R.sort) (n := R.name) (ka := va) (kl := R.kids.length) (kc := vc) rfl (hs_ext (Ext.alloc _ _) HB6.out) rfl ?_
        intro w7 c7 q7 e7 z7
        have HG7 := Lib.hid c7
        have HE7 := Lib.hid (e7 w (HE6.out.then_al _) (by have := HNB.out; omega))
        have HT7 : Hid (TmW w7 (fun c => w.heap.size ≤ c) va vc R) := Lib.hid ((HT6.out.ext (Ext.alloc _ _)).keep (fun c hc _ => q7 c hc.2) (fun c hc _ => hc.1))
        clear c7 q7 e7 z7)
       exact ret_term (g := rx) rfl rfl HG7.out rfl ⟨_, rfl, HE7.out, va, vc, rfl, HT7.out⟩
   · have e1 : (t.kind == 1) = false := by simp [hk]
     have HR2 : Hid (R = .mk t.kind t.name t.sort (putFL F t.kids)) := Lib.hid (by rw [HR.out, if_neg hk])
     clear hk
     obtain ⟨ox, hox⟩ : ∃ zz9, zz9 = rx + 1 := ⟨_, rfl⟩
     obtain ⟨w3, hw3⟩ : ∃ zz9, zz9 = w2.alloc (.cells #[.int .i64 t.kind, .string t.name, .int .i64 t.sort, .slice none 0 0] 31) := ⟨_, rfl⟩
     have hE3 : Ext w2 w3 := by rw [hw3]; exact Ext.alloc _ _
     have hs3 : w2.heap.size = ox := by have := HNB.out; omega
     have HI : Hid (PutI w w3 ox rx t.kind t.name t.sort (.slice none 0 0) []) := Lib.hid ⟨OwnT.nil, by rw [hw3, ← hs3]; exact hs_new, hs_ext hE3 HBR.out, HE2.out.trans hE3⟩
     have HOX : Hid (w.heap.size ≤ ox ∧ rx < ox ∧ w.heap.size ≤ rx) := Lib.hid (by have := HNB.out; omega)
     obtain ⟨b0, b1, b2, b3⟩ := cs_e4 hE3 ⟨b0, b1, b2, b3⟩
     go_upto_region 8 with (refine wpList_buildT rfl [_, _, _] rfl [(0, .int .i64 t.kind), (1, .string t.name), (2, .int .i64 t.sort)] rfl (built_ks _ _ _) ?_)
     rw [← hox, ← hw3]
     clear hE3 hs3 hw3 hox m0 p0
     go_wp2_with fail
     go_loopw [44] (fun iv wr => Hid (∃ (i : Nat) (kv : Value), iv = .int .i64 i ∧ i ≤ t.kids.length ∧ PutI w wr ox rx t.kind t.name t.sort kv (putFL F (t.kids.take i)))) (fun iv _ => t.kids.length - (intOf iv).toNat)
     case atStart => exact Lib.hid ⟨0, _, rfl, by omega, HI.out⟩
     case round =>
      obtain ⟨i, kv, rfl, hi, hI⟩ := hrel.out
      have HI2 := Lib.hid hI
      clear hI hrel b0 b1 b2 b3
      have hol : (putFL F (t.kids.take i)).length = i := by rw [putFL_len, List.length_take]; omega
      by_cases hlt : i < t.kids.length
      · obtain ⟨x, hx⟩ : ∃ x, t.kids[i]? = some x := ⟨_, List.getElem?_eq_getElem hlt⟩
        obtain ⟨b, off, a', cap', rfl, y0, y1, y2, y3, hTx⟩ := (HTW.out.ext HI2.out.ext).ts.at hx
        have hsx := sizeL_get hx
        have HTK := Lib.hid (putFL_take (F := F) hx)
        obtain ⟨Y, hY⟩ : ∃ Y, Y = putF F x := ⟨_, rfl⟩
        rw [← hY] at HTK
        have hcon := fun (w' : World) (hE : Ext wr w') => IH.out w' a' cap' x (by have := HK.out; have := HN.out; omega) (by have := HN.out; omega) (HE0w.out.trans (HI2.out.ext.trans hE)) (hTx.ext hE)
        simp only [← hY] at hcon
        have HCON := Lib.hid hcon
        obtain ⟨q, w3', hbq, hwq, HBq, hEq⟩ := box_new wr (.cells #[.int .i64 x.kind, .string x.name, .int .i64 x.sort, .slice a' x.kids.length cap'] 31)
        have HE3 := Lib.hid hEq
        have HI3 := Lib.hid (HI2.out.next hEq)
        obtain ⟨oa, oc, ho, -, hoc⟩ := HI3.out.own.slice
        rw [hol] at ho
        subst ho
        unfold maxLen at hoc
        have k3 : w3'.cell? ⟨ox, 3, none⟩ = some (.slice oa i oc) := by rw [cellc HI3.out.blk]; rfl
        have p0 : w3'.cell? ⟨pb, 0, none⟩ = some (.func (.func 75) #[] #[.pointer (some ⟨bb, 0, none⟩), .pointer (some ⟨pb, 0, none⟩)]) := by rw [cellc (hs_ext (HE0w.out.trans HI3.out.ext) HPB0.out)]; rfl
        have HOL := Lib.hid hol
        clear hx hsx hTx hcon hol hEq hY
        go_upto_region 11 with fail
        rw [← hwq, ← hbq]
        clear hwq hbq
        clear y0 y1 y2 y3
        obtain ⟨x0, x1, x2, x3⟩ := box4r (HBq.out)
        have HFCT := Lib.hid (And.intro k3 (And.intro p0 (And.intro x0 (And.intro x1 (And.intro x2 x3)))))
        refine wp_region_reg 6 false (by kernel_rfl) (by kernel_rfl) ?_
        refine reg_value (fun _ => rfl) ?_ (fun g w' vs hM hE hP => ?_) ?_
        rotate_left
        · (clear hP hM; have ⟨z0, z1, z2, z3, z4, z5⟩ := cs_e6 hE HFCT.out; go_simp; first | done | rfl)
        refine reg_value (fun _ => rfl) ?_ (fun g w' vs hM hE hP => ?_) ?_
        rotate_left
        · (clear hP hM; have ⟨z0, z1, z2, z3, z4, z5⟩ := cs_e6 hE HFCT.out; go_simp; first | done | rfl)
        refine reg_value (fun _ => rfl) ?_ (fun g w' vs hM hE hP => ?_) ?_
        rotate_left
        · (clear hP hM; have ⟨z0, z1, z2, z3, z4, z5⟩ := cs_e6 hE HFCT.out; go_simp; first | done | rfl)
        refine reg_value (fun _ => rfl) ?_ (fun g w' vs hM hE hP => ?_) ?_
        rotate_left
        · (clear hP hM; have ⟨z0, z1, z2, z3, z4, z5⟩ := cs_e6 hE HFCT.out; go_simp; first | done | rfl)
        refine reg_call (fun _ => rfl) 75 ?_ (fun g w' m hM hE hP => ?_) (fun u w'' => IsS w'' (fun c => w3'.heap.size ≤ c) u Y) ⟨fun u a b h hE => h.ext hE, (fun h => nomatch h), (fun h => absurd rfl h)⟩ (fun g w' m hM hE hP => ?_) ?_
        rotate_left
        · (clear hP hM; have zz1 := cs_ext hE x0; have zz2 := cs_ext hE x1; have zz3 := cs_ext hE x2; have zz4 := cs_ext hE x3; have zz5 := cs_ext hE p0; go_simp; first | done | exact ⟨rfl, rfl⟩ | rfl)
        · exact (HCON.out w' (HE3.out.trans hE)).mono (fun e w'' ⟨u, h1, h2, ua, uc, hu, h3⟩ => ⟨u, h1, h2, ua, uc, hu, h3.wide (fun c hc _ => Nat.le_trans hE.size hc)⟩)
        refine reg_fresh (fun _ => rfl) (fun n => .slice (some ⟨n, 0, none⟩) 1 1) (fun g => .cells (aggC (g 4).v) 31) (fun g w' m hM hE hP => ?_) ?_
        · obtain ⟨ua, uc, hu, -⟩ := hP _ List.mem_cons_self (anc_of 1 (by kernel_rfl))
          have hu : (g 4).v = _ := hu
          clear hP hM
          go_simp
          first | done | simp [aggC, hu]
        intro g w4 hE4 hF hQ
        simp only [List.drop_succ_cons, List.drop_zero, Act.put, List.setIfInBounds_toArray, List.set_cons_succ, List.set_cons_zero]
        obtain ⟨ua, uc, hu, hTu⟩ := hQ _ List.mem_cons_self
        have hu : (g 4).v = _ := hu
        have hf := (hF.2.1 _ List.mem_cons_self).1
        have hf : w4.heap[(g 5).n]? = some (.cells (aggC (g 4).v) 31) := hf
        rw [hu] at hf
        have hf : w4.heap[(g 5).n]? = some (.cells #[.int .i64 Y.kind, .string Y.name, .int .i64 Y.sort, .slice ua Y.kids.length uc] 31) := hf
        obtain ⟨fb, hfb⟩ : ∃ fb, fb = (g 5).n := ⟨_, rfl⟩
        rw [← hfb] at hf
        rw [← hfb, hu]
        have HI4 := Lib.hid (HI3.out.next hE4)
        have hkv := HI3.out.own.lt
        have n2 : ox < w3'.heap.size := lt_of_get' HI3.out.blk
        have hOw := HI4.out.own.wide (S' := fun c => (ox + 1 ≤ c ∧ (Value.slice oa i oc).ownBlock ≠ some c) ∧ c < w4.heap.size) (fun c h1 h2 => ⟨h1, h2⟩)
        have hone : LsT w4 (fun c => (ox + 1 ≤ c ∧ (Value.slice oa i oc).ownBlock ≠ some c) ∧ c < w4.heap.size) (.slice (some ⟨fb, 0, none⟩) 1 1) [Y] := one_ls hf (hTu.wide (fun c h1 h2 => ⟨⟨by omega, fun e => by have := (hkv c e).2; omega⟩, h2⟩))
        have hsz : ox + 1 ≤ w4.heap.size := by have := hE4.size; omega
        have hoff : ∀ c, (ox + 1 ≤ c ∧ (Value.slice oa i oc).ownBlock ≠ some c) ∧ c < w4.heap.size → (Value.slice oa i oc).ownBlock ≠ some c := fun c h => h.1.2
        have hl1 : (putFL F (t.kids.take i)).length ≤ 1000000 := by rw [HOL.out]; have := HK.out; have := HN.out; have := len_size t.kids; omega
        clear hf hTu hu hfb hF hQ hE4 hkv n2 k3 p0 x0 x1 x2 x3
        go_wp2_with (
         at_builtin
         refine wpList_appT rfl (.tmp 49) (.tmp 53) rfl rfl rfl hOw hsz hoff hl1 (X := [Y]) (by simp) hone ?_
         intro v5 w5 o5 g5 k5
         have hb5 := HI4.out.after g5
         obtain ⟨pa, pc, hp, -, hpc⟩ := o5.slice
         unfold maxLen at hpc
         have hl5 : (putFL F (t.kids.take i) ++ [Y]).length = i + 1 := by rw [List.length_append, HOL.out]; rfl
         rw [hl5] at hp
         have HP := Lib.hid (HI4.out.put HOX.out.1 HOX.out.2.1 o5 g5 k5)
         subst hp
         have z3 : w5.cell? ⟨ox, 3, none⟩ = some (.slice oa i oc) := by rw [cellc hb5]; rfl
         have f3 : w5.frozen? ⟨ox, 3, none⟩ = false := frozenc hb5
         clear o5 g5 k5 hb5 hOw hone)
        go_roundw
        case rel => exact Lib.hid ⟨i + 1, _, by go_num, by omega, by rw [HTK.out]; exact HP.out⟩
        case measure => simp [intOf]; omega
      · have HTK : Hid (putFL F (t.kids.take i) = putFL F t.kids) := Lib.hid (by rw [List.take_of_length_le (by omega)])
        obtain ⟨oa, oc, ho, -, hoc⟩ := HI2.out.own.slice
        rw [hol] at ho
        subst ho
        unfold maxLen at hoc
        have k0 : wr.cell? ⟨ox, 0, none⟩ = some (.int .i64 t.kind) := by rw [cellc HI2.out.blk]; rfl
        have k1 : wr.cell? ⟨ox, 1, none⟩ = some (.string t.name) := by rw [cellc HI2.out.blk]; rfl
        have k2 : wr.cell? ⟨ox, 2, none⟩ = some (.int .i64 t.sort) := by rw [cellc HI2.out.blk]; rfl
        have k3 : wr.cell? ⟨ox, 3, none⟩ = some (.slice oa i oc) := by rw [cellc HI2.out.blk]; rfl
        have HOL : Hid (i = (putFL F t.kids).length) := Lib.hid (by rw [putFL_len]; omega)
        clear hol
        go_wp2_with (
         refine wpList_storeT rfl (.tmp 4) (.tmp 57) rfl (g := rx) rfl (k := t.kind) (s := t.sort) (n := t.name) (ka := oa) (kl := i) (kc := oc) rfl HI2.out.res rfl ?_
         intro w6 c6 q6 e6 z6
         have HG6 := Lib.hid c6
         have HE6 := Lib.hid (e6 w HI2.out.ext HOX.out.2.2)
         have HQ6 := Lib.hid q6
         clear c6 q6 e6 z6)
        have hO6 := HI2.out.own.keep (w' := w6) (fun q hq => HQ6.out q (by have := (HI2.out.own.lt q hq).1; have := HOX.out; omega)) (fun c hc _ => HQ6.out c (by have := HOX.out; omega))
        rw [HTK.out] at hO6
        have hlt6 := hO6.lt
        obtain ⟨va, vc, hv, hlc, hcm, hts⟩ := (hO6.wide (S' := fun c => w.heap.size ≤ c) (fun c hc _ => by have := HOX.out; omega)).ls
        rw [← HOL.out] at hv
        cases hv
        have hfin : TmW w6 (fun c => w.heap.size ≤ c) oa oc (.mk t.kind t.name t.sort (putFL F t.kids)) := ⟨HNM.out.2.2, HNM.out.2.1, HNM.out.1, hlc, hcm, LsT.kids (n := (putFL F t.kids).length) ⟨oa, oc, rfl, hlc, hcm, hts⟩ (fun b o e => by
         subst e
         have := (hlt6 b rfl).1
         have := HOX.out
         omega)⟩
        refine ret_term (g := rx) rfl rfl HG6.out rfl ⟨_, rfl, HE6.out, oa, oc, ?_, by rw [HR2.out]; exact hfin⟩
        rw [HR2.out, HOL.out]
        rfl

/-- bindings, as what is known of names -/
def bndF (B : List (Tm × Tm)) : Bnd := B.foldl (fun F b => updT F (b.1.name, b.1.sort) b.2) (fun _ => none)
theorem bndF_take {B : List (Tm × Tm)} {k : Nat} {b : Tm × Tm} (h : B[k]? = some b) : bndF (B.take (k + 1)) = updT (bndF (B.take k)) (b.1.name, b.1.sort) b.2 := by
 unfold bndF
 rw [List.take_add_one, h, List.foldl_append]; rfl
theorem bndF_vals {P : Tm → Prop} : ∀ (B : List (Tm × Tm)) (F0 : Bnd), (∀ b ∈ B, P b.2) → (∀ k u, F0 k = some u → P u) → ∀ k u, B.foldl (fun F b => updT F (b.1.name, b.1.sort) b.2) F0 k = some u → P u
 | [], F0, _, h, k, u, e => h k u e
 | b :: B, F0, hB, h, k, u, e => by
   rw [List.foldl_cons] at e
   refine bndF_vals B _ (fun c hc => hB c (by simp [hc])) (fun k u e => ?_) k u e
   unfold updT at e
   split at e
   · cases e; exact hB b (by simp)
   · exact h k u e
theorem bndF_ok {P : Tm → Prop} {B : List (Tm × Tm)} (h : ∀ b ∈ B, P b.2) : ∀ k u, bndF B k = some u → P u := bndF_vals B _ h (fun k u e => by cases e)
/-- a term, or an error -/
def errR (w : World) (S : Nat → Prop) (v : Value) (er : Int) (x : Tm) (e : Int) : Prop := er = e ∧ (e = 0 → IsS w S v x) ∧ (e ≠ 0 → v = .agg #[.int .i64 0, .string ⟨#[]⟩, .int .i64 0, .slice none 0 0])
theorem run_mapNm (w : World) : (Instr.makeMap 106 none).run Try.prog w = .ok (.map (some w.heap.size)) (w.alloc (.map #[] 0)) := by
 simp [Instr.makeMap, run_underlying Try.underlying106, Result.andThen]

set_option maxRecDepth 100000 in
set_option maxHeartbeats 8000000 in
theorem applied_any {w : World} {S S' : Nat → Prop} {ba a : Option Addr} {bc cap : Nat} {B : List (Tm × Tm)} {t : Tm} (hB4 : ∀ b ∈ B, sizeT b.2 ≤ 400) (ht : sizeT t ≤ 400) (hB : LsG elP w S (.slice ba B.length bc) B) (hT : TmW w S' a cap t) :
 Calls Try.prog 55 #[.slice ba B.length bc, .agg #[.int .i64 t.kind, .string t.name, .int .i64 t.sort, .slice a t.kids.length cap]] w fun e w' => ∃ v er, e = .returned (.tuple #[v, .int .i64 er]) ∧ Ext w w' ∧ errR w' (fun c => w.heap.size ≤ c) v er (putF (bndF B) t) (validT (putF (bndF B) t)) := by
 obtain ⟨-, hbl, hbc⟩ := hB.len
 unfold maxLen at hbc
 obtain ⟨bx, w1, hbbx, hwbx, HBbx, hEbx⟩ := box_new w (.cells #[.int .i64 t.kind, .string t.name, .int .i64 t.sort, .slice a t.kids.length cap] 31)
 have hs1 : w1.heap.size = bx + 1 := by rw [hwbx, hbbx, World.size_alloc]
 obtain ⟨rx, hrx⟩ : ∃ zz9, zz9 = bx + 1 := ⟨_, rfl⟩
 obtain ⟨w2, hw2⟩ : ∃ zz9, zz9 = w1.alloc (.cells #[.int .i64 0, .string ⟨#[]⟩, .int .i64 0, .slice none 0 0] 31) := ⟨_, rfl⟩
 have hE2 : Ext w1 w2 := by rw [hw2]; exact Ext.alloc _ _
 have HBR : Hid (w2.heap[rx]? = some (.cells #[.int .i64 0, .string ⟨#[]⟩, .int .i64 0, .slice none 0 0] 31)) := Lib.hid (by rw [hw2, hrx, ← hs1]; exact hs_new)
 have hs2 : w2.heap.size = rx + 1 := by rw [hw2, World.size_alloc, hs1, hrx]
 obtain ⟨mb, hmb⟩ : ∃ zz9, zz9 = rx + 1 := ⟨_, rfl⟩
 obtain ⟨w3, hw3⟩ : ∃ zz9, zz9 = w2.alloc (.map #[] 0) := ⟨_, rfl⟩
 have hE3 : Ext w2 w3 := by rw [hw3]; exact Ext.alloc _ _
 have hs3 : w3.heap.size = mb + 1 := by rw [hw3, World.size_alloc, hs2, hmb]
 have hM3 : MapT w3 (fun c => c < w.heap.size) mb 0 (fun _ => none) := MapT.made (by rw [hw3, hmb, ← hs2]; exact hs_new)
 obtain ⟨yb, hyb⟩ : ∃ zz9, zz9 = mb + 1 := ⟨_, rfl⟩
 obtain ⟨w4, hw4⟩ : ∃ zz9, zz9 = w3.alloc (.cells #[.map (some mb)] 106) := ⟨_, rfl⟩
 have hE4 : Ext w3 w4 := by rw [hw4]; exact Ext.alloc _ _
 have HBY : Hid (w4.heap[yb]? = some (.cells #[.map (some mb)] 106)) := Lib.hid (by rw [hw4, hyb, ← hs3]; exact hs_new)
 have HM4 := Lib.hid (hM3.ext hE4)
 have hEa := ((hEbx.trans hE2).trans hE3).trans hE4
 have HE4 := Lib.hid hEa
 have HB4 := Lib.hid (hs_ext ((hE2.trans hE3).trans hE4) HBbx.out)
 have HR4 := Lib.hid (hs_ext (hE3.trans hE4) HBR.out)
 have HNB : Hid (w.heap.size = bx ∧ rx = bx + 1 ∧ mb = bx + 2 ∧ yb = bx + 3) := Lib.hid ⟨hbbx.symm, hrx, by omega, by omega⟩
 have HB := Lib.hid hB.below
 have HT := Lib.hid hT.below
 have HZ := Lib.hid (And.intro hB4 ht)
 have m0 : w4.cell? ⟨yb, 0, none⟩ = some (.map (some mb)) := by rw [cellc HBY.out]; rfl
 have hy2 : w2.heap.size + 1 = yb := by omega
 have hmm := run_mapNm w2
 obtain ⟨X, hX⟩ : ∃ X, X = putF (bndF B) t := ⟨_, rfl⟩
 rw [← hX]
 have HX := Lib.hid hX
 obtain ⟨o, ho⟩ : ∃ o, o = validT X := ⟨_, rfl⟩
 rw [← ho]
 have HOO := Lib.hid ho
 clear ho
 clear hB hT hEbx hE2 hE3 hE4 hEa hs1 hs3 hM3 hB4 ht hX
 go_enter Try.func55, Try.ntmps55
 go_upto_region 1 with fail
 rw [← hwbx, ← hbbx, ← hw2, ← hrx]
 clear hwbx hbbx hw2 hrx
 have HY2 := Lib.hid (And.intro hs2 hy2)
 clear hs2 hy2
 go_upto_region 2 with fail
 rw [HY2.out.1, ← hmb, ← hw3, ← hw4, ← hyb]
 clear hmb hw3 hw4 hyb hmm m0
 have hmf : ∀ (fn : Fn) (first cap : Array Value) (w : World), (Instr.makeFunc fn first cap).run Try.prog w = .ok (.func fn first cap) w := fun _ _ _ _ => rfl
 go_wp2_with fail
 go_loopw [15] (fun kv wr => Hid (∃ k : Nat, kv = .int .i64 k ∧ k ≤ B.length ∧ MapT wr (fun c => c < w.heap.size) mb k (bndF (B.take k)) ∧ w4.grownBy wr (some mb))) (fun kv _ => B.length - (intOf kv).toNat)
 case atStart => exact Lib.hid ⟨0, rfl, by omega, HM4.out, grown_self _ _⟩
 case round =>
  obtain ⟨k, rfl, hk, hM, hg⟩ := hrel.out
  have HM := Lib.hid hM
  have HG := Lib.hid hg
  have hold : ∀ c, c < w.heap.size → wr.heap[c]? = w.heap[c]? := fun c hc => by
   rw [hg.block c (Nat.lt_of_lt_of_le hc HE4.out.size) (fun e => by have := Option.some.inj e; have := HNB.out; omega), HE4.out.block hc]
  have HOLD := Lib.hid hold
  have hrow := HB.out.hold (w' := wr) (fun c hc _ => hold c hc) (fun _ h _ => h)
  have m0 : wr.cell? ⟨yb, 0, none⟩ = some (.map (some mb)) := by rw [cellc (hs_grown HBY.out hg (by have := HNB.out; omega))]; rfl
  have HROW := Lib.hid hrow
  clear hrel hM hg hold hrow
  by_cases hlt : k < B.length
  · obtain ⟨b, hb⟩ : ∃ b, B[k]? = some b := ⟨_, List.getElem?_eq_getElem hlt⟩
    obtain ⟨rb, ro, xa, xc, ya, yc, rfl, ⟨x0, x1, x2, x3⟩, ⟨y0, y1, y2, y3⟩, hTx, hTy⟩ := HROW.out.pAt hb
    have HBT := Lib.hid (bndF_take hb)
    obtain ⟨px, wa, hbpx, hwpx, HBpx, hEpx⟩ := box_new wr (.cells #[.int .i64 b.1.kind, .string b.1.name, .int .i64 b.1.sort, .slice xa b.1.kids.length xc, .int .i64 b.2.kind, .string b.2.name, .int .i64 b.2.sort, .slice ya b.2.kids.length yc] 81)
    have m0 := cs_ext hEpx m0
    have HTY := Lib.hid (hTy.ext hEpx)
    have HMa := Lib.hid (HM.out.ext hEpx)
    have hnm : b.1.name.size ≤ maxLen := hTx.name
    have hns : I64 b.1.sort := hTx.sort
    have HNM := Lib.hid (And.intro hnm hns)
    have HNE : Hid (∀ c, c < w.heap.size → c ≠ mb) := Lib.hid (fun c hc => by have := HNB.out; omega)
    have HEa := Lib.hid hEpx
    clear hb hTx hTy hnm hns hEpx
    go_upto_region 5 with fail
    rw [← hwpx, ← hbpx]
    clear hwpx hbpx
    clear x0 x1 x2 x3 y0 y1 y2 y3
    have z0 : wa.cell? ⟨px, 0, none⟩ = some (.int .i64 b.1.kind) := by rw [cellc (HBpx.out)]; rfl
    have z1 : wa.cell? ⟨px, 1, none⟩ = some (.string b.1.name) := by rw [cellc (HBpx.out)]; rfl
    have z2 : wa.cell? ⟨px, 2, none⟩ = some (.int .i64 b.1.sort) := by rw [cellc (HBpx.out)]; rfl
    have z3 : wa.cell? ⟨px, 3, none⟩ = some (.slice xa b.1.kids.length xc) := by rw [cellc (HBpx.out)]; rfl
    have z4 : wa.cell? ⟨px, 4, none⟩ = some (.int .i64 b.2.kind) := by rw [cellc (HBpx.out)]; rfl
    have z5 : wa.cell? ⟨px, 5, none⟩ = some (.string b.2.name) := by rw [cellc (HBpx.out)]; rfl
    have z6 : wa.cell? ⟨px, 6, none⟩ = some (.int .i64 b.2.sort) := by rw [cellc (HBpx.out)]; rfl
    have z7 : wa.cell? ⟨px, 7, none⟩ = some (.slice ya b.2.kids.length yc) := by rw [cellc (HBpx.out)]; rfl
    go_wp2_with (
     refine wpList_updNm rfl _ _ _ rfl HMa.out rfl b.1.name b.1.sort HNM.out.1 HNM.out.2 rfl rfl HTY.out HNE.out ?_
     intro ob hM7
     have HM7 := Lib.hid hM7
     have HG7 : Hid (World.grownBy w4 (ChangeMaps.setBlock wa mb ob) (some mb)) := Lib.hid (grown_trans (grown_ext HG.out HEa.out) grown_setBlock)
     clear hM7)
    go_roundw
    case rel => exact Lib.hid ⟨k + 1, by go_num, by omega, by rw [HBT.out]; exact HM7.out, HG7.out⟩
    case measure => simp [intOf]; omega
  · have HBF : Hid (bndF (B.take k) = bndF B) := Lib.hid (by rw [List.take_of_length_le (by omega)])
    obtain ⟨qb, hqb⟩ : ∃ zz9, zz9 = wr.heap.size := ⟨_, rfl⟩
    obtain ⟨w5, hw5⟩ : ∃ zz9, zz9 = wr.alloc (.cells #[.nilFunc] 87) := ⟨_, rfl⟩
    have hbn : w5.heap[qb]? = some (.cells #[.nilFunc] 87) := by rw [hw5, hqb]; exact hs_new
    have hE5 : Ext wr w5 := by rw [hw5]; exact Ext.alloc _ _
    have z0 : w5.cell? ⟨qb, 0, none⟩ = some .nilFunc := by rw [cellc hbn]; rfl
    have zf : w5.frozen? ⟨qb, 0, none⟩ = false := frozenc hbn
    obtain ⟨w6, hw6⟩ : ∃ zz9, zz9 = w5.setCell ⟨qb, 0, none⟩ (.func (.func 75) #[] #[.pointer (some ⟨yb, 0, none⟩), .pointer (some ⟨qb, 0, none⟩)]) := ⟨_, rfl⟩
    have hbq : w6.heap[qb]? = some (.cells #[(.func (.func 75) #[] #[.pointer (some ⟨yb, 0, none⟩), .pointer (some ⟨qb, 0, none⟩)])] 87) := by
     have h := heap_setCell_same w5 qb 0 _ _ (.func (.func 75) #[] #[.pointer (some ⟨yb, 0, none⟩), .pointer (some ⟨qb, 0, none⟩)]) hbn
     rw [hw6, h]; simp
    have hE6 : Ext wr w6 := by rw [hw6]; exact hE5.setCell (by omega) _
    have hEw : Ext w w6 := (HE4.out.grown HG.out (fun c hc => by cases hc; have := HNB.out; omega)).trans hE6
    have hby : w6.heap[yb]? = some (.cells #[.map (some mb)] 106) := hs_ext hE6 (hs_grown HBY.out HG.out (by have := HNB.out; omega))
    have hbr : w6.heap[rx]? = some (.cells #[.int .i64 0, .string ⟨#[]⟩, .int .i64 0, .slice none 0 0] 31) := hs_ext hE6 (hs_grown HR4.out HG.out (by have := HNB.out; omega))
    have hbb : w6.heap[bx]? = some (.cells #[.int .i64 t.kind, .string t.name, .int .i64 t.sort, .slice a t.kids.length cap] 31) := hs_ext hE6 (hs_grown HB4.out HG.out (by have := HNB.out; omega))
    have hM6 : MapT w6 (fun c => c < w.heap.size) mb k (bndF B) := by have h := HM.out.ext hE6; rwa [HBF.out] at h
    have hT6 : TmW w6 (fun c => c < w.heap.size) a cap t := HT.out.ext hEw
    have hcp := put_any (w0 := w6) (S := fun c => c < w.heap.size) (bndF_ok HZ.out.1) hby hbq hM6 400 w6 a cap t HZ.out.2 (by omega) (Ext.refl _) hT6
    rw [← HX.out] at hcp
    have HCP := Lib.hid hcp
    have HR6 := Lib.hid hbr
    have HE6 := Lib.hid hEw
    have HXZ : Hid (sizeT X ≤ 160000) := Lib.hid (by rw [HX.out]; have := sum_le (bndF B) (bndF_ok HZ.out.1) t; have := HZ.out.2; omega)
    clear hbn hE5 hE6 hEw hby hbr hM6 hT6 hcp
    go_upto_region 8 with fail
    rw [← hw5, ← hqb]
    clear hw5 hqb m0
    go_upto_region 9 with fail
    rw [← hw6]
    clear hw6 z0 zf
    have q0 : w6.cell? ⟨qb, 0, none⟩ = some (.func (.func 75) #[] #[.pointer (some ⟨yb, 0, none⟩), .pointer (some ⟨qb, 0, none⟩)]) := by rw [cellc hbq]; rfl
    obtain ⟨b0, b1, b2, b3⟩ := box4r (hbb)
    clear hbq hbb
    go_upto_region 10 with (
     go_at_call 75
     refine HCP.out.mono ?_
     rintro e w7 ⟨v7, rfl, hE7, xa, xc, rfl, hT7⟩
     have HE7 := Lib.hid (HE6.out.trans hE7)
     have HR7 := Lib.hid (hs_ext hE7 HR6.out)
     have HT7 := Lib.hid (hT7.wide (S' := fun c => w.heap.size ≤ c ∧ c ≠ rx) (fun c hc _ => by have := HE6.out.size; have := lt_of_get' HR6.out; omega))
     clear hE7 hT7)
    obtain ⟨ox, w8, hbox, hwox, HBox, hEox⟩ := box_new w7 (.cells #[.int .i64 X.kind, .string X.name, .int .i64 X.sort, .slice xa X.kids.length xc] 31)
    have HE8 := Lib.hid (HE7.out.trans hEox)
    have HR8 := Lib.hid (hs_ext hEox HR7.out)
    have HT8 := Lib.hid (HT7.out.ext hEox)
    rw [← hwox, ← hbox]
    clear hwox hbox
    clear hEox b0 b1 b2 b3 q0
    obtain ⟨x0, x1, x2, x3⟩ := box4r (HBox.out)
    have hcv := PValid_any (w := w8) (by have := HXZ.out; omega) HT8.out
    rw [← HOO.out] at hcv
    have HCV := Lib.hid hcv
    clear hcv
    go_wp2_with fail
    refine HCV.out.mono ?_
    rintro e w9 ⟨rfl, hE9⟩
    obtain ⟨x0, x1, x2, x3⟩ := cs_e4 hE9 ⟨x0, x1, x2, x3⟩
    have HE9 := Lib.hid (HE8.out.trans hE9)
    have HR9 := Lib.hid (hs_ext hE9 HR8.out)
    have HT9 := Lib.hid (HT8.out.ext hE9)
    clear hE9
    by_cases h0 : o = 0
    · have e0 : (o != 0) = false := by simp [h0]
      have H0 := Lib.hid h0
      clear h0
      go_wp2_with (
       refine wpList_storeT rfl (.tmp 4) (.tmp 40) rfl (g := rx) rfl (k := X.kind) (s := X.sort) (n := X.name) (ka := xa) (kl := X.kids.length) (kc := xc) rfl HR9.out rfl ?_
       intro w10 c6 q6 e6 z6
       have HG6 := Lib.hid c6
       have HE10 := Lib.hid (e6 w HE9.out (by have := HNB.out; omega))
       have HT10 : Hid (TmW w10 (fun c => w.heap.size ≤ c) xa xc X) := Lib.hid (HT9.out.keep (fun c hc _ => q6 c hc.2) (fun c hc _ => hc.1))
       clear c6 q6 e6 z6)
      exact ret_term2 (g := rx) rfl rfl HG6.out rfl ⟨_, _, rfl, HE10.out, H0.out.symm, fun _ => ⟨xa, xc, rfl, HT10.out⟩, fun h => absurd H0.out h⟩
    · have e0 : (o != 0) = true := by simp [h0]
      have H0 := Lib.hid h0
      clear h0
      go_wp2_with (first
       | (refine wpList_buildT rfl [] rfl [] rfl built_none ?_)
       | (refine wpList_storeT rfl (.tmp 4) (.tmp 38) rfl (g := rx) rfl (k := 0) (s := 0) (n := ⟨#[]⟩) (ka := none) (kl := 0) (kc := 0) rfl HR9.out rfl ?_
          intro w10 c6 q6 e6 z6
          have HG6 := Lib.hid c6
          have HE10 := Lib.hid (e6 w HE9.out (by have := HNB.out; omega))
          clear c6 q6 e6 z6))
      exact ret_term2 (g := rx) rfl rfl HG6.out rfl ⟨_, _, rfl, HE10.out, rfl, fun h => absurd h H0.out, fun _ => rfl⟩

end Go.Proofs.Ytpfnlbaloaohgaa

namespace Go.Proofs.Ytpfnlbaloaohgaa
open Go
set_option linter.unusedVariables false
set_option linter.unusedSimpArgs false

def ruleAt (R : List Rl) (k : Int) : Option Rl := if 0 ≤ k then R[k.toNat]? else none
/-- a redex of a term without an error, applied -/
def stepP (R : List Rl) (t : Tm) (r : Rdx) : Int × Tm :=
 match ruleAt R r.1 with
 | none => (7, zeroTm)
 | some rl => match atT r.2 t with
   | none => (7, zeroTm)
   | some u => if (matchP rl.1 u).1 ≠ 0 then (11, zeroTm) else
     if validT (putF (bndF (matchP rl.1 u).2) rl.2) ≠ 0 then (validT (putF (bndF (matchP rl.1 u).2) rl.2), zeroTm) else
     match repT r.2 t (putF (bndF (matchP rl.1 u).2) rl.2) with
     | none => (7, zeroTm)
     | some y => if validT y ≠ 0 then (validT y, zeroTm) else (0, y)
/-- a redex applied -/
def applyP (R : List Rl) (t : Tm) (r : Rdx) : Int × Tm := if orE (rulesE R) (validT t) ≠ 0 then (orE (rulesE R) (validT t), zeroTm) else stepP R t r
theorem matchP_ok {p t : Tm} : ∀ b ∈ (matchP p t).2, sizeT b.2 ≤ 400 := by
 intro b hb
 unfold matchP at hb
 split at hb
 · simp at hb
 · rename_i h0
   have h0 := Classical.not_not.1 h0
   split at hb
   · simp at hb
   · rename_i F hF
     unfold bindF at hb
     obtain ⟨x, -, rfl⟩ := List.mem_map.1 (List.mem_filter.1 hb).1
     exact getD_size (pmT_vals _ _ _ F hF (orE_split h0).2 (fun k u e => by cases e)) _
theorem stepP_ok {R : List Rl} {t : Tm} {r : Rdx} (h : (stepP R t r).1 = 0) : validT (stepP R t r).2 = 0 := by
 unfold stepP at h ⊢
 split at h
 · simp at h
 · rename_i rl hr
   split at h
   · simp at h
   · rename_i u hu
     split at h
     · simp at h
     · rename_i h1
       split at h
       · rename_i h2; exact absurd h h2
       · rename_i h2
         split at h
         · simp at h
         · rename_i y hy
           split at h
           · rename_i h3; exact absurd h h3
           · rename_i h3
             simp only [h1, h2, h3, if_false]
             exact Classical.not_not.1 h3

end Go.Proofs.Ytpfnlbaloaohgaa
