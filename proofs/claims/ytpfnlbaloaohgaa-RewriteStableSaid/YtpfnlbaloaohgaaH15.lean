/- Contracts: the reference's Get and Put. Contracts: the reference's Put. -/
import Derived.Test.YtpfnlbaloaohgaaH13
import Derived.Test.YtpfnlbaloaohgaaH6
import Derived.Test.YtpfnlbaloaohgaaH11
namespace Go.Proofs.Ytpfnlbaloaohgaa
open Go Go.RowKit
set_option linter.unusedVariables false
set_option linter.unusedSimpArgs false

theorem getB_drop {B : List (Tm × Tm)} {i : Nat} {b : Tm × Tm} {x : Tm} (h : B[i]? = some b) : getB (B.drop i) x = if b.1 = x then b.2 else getB (B.drop (i + 1)) x := by
 obtain ⟨h1, rfl⟩ := List.getElem?_eq_some_iff.1 h
 rw [List.drop_eq_getElem_cons h1, getB]

set_option maxRecDepth 100000 in
set_option maxHeartbeats 8000000 in
theorem RGet_any {w : World} {S : Nat → Prop} {sa a : Option Addr} {sc cap : Nat} {B : List (Tm × Tm)} {x : Tm} (hB6 : ∀ b ∈ B, sizeT b.1 ≤ 1000000) (hx6 : sizeT x ≤ 1000000) (hB : LsG elP w S (.slice sa B.length sc) B) (hX : TmW w S a cap x) (hS : ∀ c, S c → c < w.heap.size) :
 Calls Try.prog 50 #[.slice sa B.length sc, .agg #[.int .i64 x.kind, .string x.name, .int .i64 x.sort, .slice a x.kids.length cap]] w fun e w' => ∃ v, e = .returned v ∧ Ext w w' ∧ IsS w' S v (getB B x) := by
 obtain ⟨-, hbl, hbc⟩ := hB.len
 unfold maxLen at hbc
 obtain ⟨bx, w1, hbbx, hwbx, HBbx, hEbx⟩ := box_new w (.cells #[.int .i64 x.kind, .string x.name, .int .i64 x.sort, .slice a x.kids.length cap] 31)
 have hs1 : w1.heap.size = bx + 1 := by rw [hwbx, hbbx, World.size_alloc]
 obtain ⟨rx, hrx⟩ : ∃ zz9, zz9 = bx + 1 := ⟨_, rfl⟩
 obtain ⟨w2, hw2⟩ : ∃ zz9, zz9 = w1.alloc (.cells #[.int .i64 0, .string ⟨#[]⟩, .int .i64 0, .slice none 0 0] 31) := ⟨_, rfl⟩
 have hE2 : Ext w1 w2 := by rw [hw2]; exact Ext.alloc _ _
 have HBR : Hid (w2.heap[rx]? = some (.cells #[.int .i64 0, .string ⟨#[]⟩, .int .i64 0, .slice none 0 0] 31)) := Lib.hid (by rw [hw2, hrx, ← hs1]; exact hs_new)
 have hE := hEbx.trans hE2
 obtain ⟨b0, b1, b2, b3⟩ := box4r (hs_ext hE2 HBbx.out)
 have HE := Lib.hid hE
 have HNB : Hid (w.heap.size = bx ∧ rx = bx + 1) := Lib.hid ⟨hbbx.symm, hrx⟩
 have KB := Lib.hid (hB.ext hE)
 have HX := Lib.hid (hX.ext hE)
 have HS := Lib.hid (fun c (h : S c) => (show c ≠ rx from by have := hS c h; omega))
 have HZ := Lib.hid (And.intro hB6 hx6)
 obtain ⟨Z, hZ⟩ : ∃ Z, Z = getB B x := ⟨_, rfl⟩
 rw [← hZ]
 have HZZ := Lib.hid hZ
 clear hB hX hE hE2 hEbx hs1 hB6 hx6 hZ hS
 go_enter Try.func50, Try.ntmps50
 go_upto_region 1 with fail
 rw [← hwbx, ← hbbx, ← hw2, ← hrx]
 clear hwbx hbbx hw2 hrx
 go_wp2_with fail
 go_loopw [5] (fun iv wr => Hid (∃ i : Nat, iv = .int .i64 i ∧ i ≤ B.length ∧ getB (B.drop i) x = Z ∧ Ext w2 wr)) (fun iv _ => B.length - (intOf iv).toNat)
 case atStart => exact Lib.hid ⟨0, rfl, by omega, HZZ.out.symm, Ext.refl _⟩
 case round =>
  obtain ⟨i, rfl, hi, hg, hE⟩ := hrel.out
  have HG := Lib.hid hg
  have HER := Lib.hid hE
  obtain ⟨b0, b1, b2, b3⟩ := cs_e4 hE ⟨b0, b1, b2, b3⟩
  have HBR := Lib.hid (hs_ext hE HBR.out)
  have KB := Lib.hid (KB.out.ext hE)
  have HX := Lib.hid (HX.out.ext hE)
  have HE := Lib.hid (HE.out.trans hE)
  clear hrel hg hE
  by_cases hlt : i < B.length
  · obtain ⟨y, hy⟩ : ∃ y, B[i]? = some y := ⟨_, List.getElem?_eq_getElem hlt⟩
    obtain ⟨lb, lo, ya, yc, za, zc, rfl, ⟨y0, y1, y2, y3⟩, ⟨y4, y5, y6, y7⟩, hY1, hY2⟩ := KB.out.pAt hy
    have HS1 := Lib.hid (fun w' (hE : Ext wr w') => RSame_any (w := w') (HZ.out.1 y (List.mem_of_getElem? hy)) HZ.out.2 (hY1.ext hE) (HX.out.ext hE))
    have HGD := Lib.hid (getB_drop (x := x) hy)
    rw [HG.out] at HGD
    have HTY := Lib.hid hY2
    have hi0 : (0 : Int) ≤ (i : Int) := by omega
    have hi1 : (i : Int) < (B.length : Int) := by omega
    obtain ⟨f1, hf1⟩ : ∃ f, f = decide (y.1 = x) := ⟨_, rfl⟩
    rw [← hf1] at HS1
    have HF1 := Lib.hid hf1
    clear hy hY1 hY2 hf1
    go_upto_region 4 with fail
    have HFCT := Lib.hid (And.intro b0 (And.intro b1 (And.intro b2 (And.intro b3 (And.intro y0 (And.intro y1 (And.intro y2 (And.intro y3 (And.intro y4 (And.intro y5 (And.intro y6 y7)))))))))))
    refine wp_region_reg 7 false (by kernel_rfl) (by kernel_rfl) ?_
    refine reg_value (fun _ => rfl) ?_ (fun g w' vs hM hE hP => ?_) ?_
    rotate_left
    · (clear hP hM; go_simp; first | done | rfl)
    refine reg_value (fun _ => rfl) ?_ (fun g w' vs hM hE hP => ?_) ?_
    rotate_left
    · (clear hP hM; go_simp; first | done | rfl)
    refine reg_value (fun _ => rfl) ?_ (fun g w' vs hM hE hP => ?_) ?_
    rotate_left
    · (clear hP hM; go_simp; first | done | rfl)
    refine reg_value (fun _ => rfl) ?_ (fun g w' vs hM hE hP => ?_) ?_
    rotate_left
    · (clear hP hM; go_simp; first | done | rfl)
    refine reg_value (fun _ => rfl) ?_ (fun g w' vs hM hE hP => ?_) ?_
    rotate_left
    · (clear hP hM; have ⟨z0, z1, z2, z3, z4, z5, z6, z7, z8, z9, z10, z11⟩ := cs_e12 hE HFCT.out; go_simp; first | done | rfl)
    refine reg_value (fun _ => rfl) ?_ (fun g w' vs hM hE hP => ?_) ?_
    rotate_left
    · (clear hP hM; have ⟨z0, z1, z2, z3, z4, z5, z6, z7, z8, z9, z10, z11⟩ := cs_e12 hE HFCT.out; go_simp; first | done | rfl)
    refine reg_const (fun _ => rfl) 16 ?_ (fun g w' vs hM hE hP => ?_) ?_
    rotate_left
    · (clear hP hM; have ⟨z0, z1, z2, z3, z4, z5, z6, z7, z8, z9, z10, z11⟩ := cs_e12 hE HFCT.out; go_simp; first | done | exact ⟨rfl, rfl⟩ | rfl)
    apply Exists.intro
    refine And.intro (fun g w' vs hM hE hP => ?_) ?_
    · exact HS1.out w' hE
    intro g wz hE2 hF hQ
    simp only [List.drop_succ_cons, List.drop_zero, Act.put, List.setIfInBounds_toArray, List.set_cons_succ, List.set_cons_zero]
    obtain ⟨b0, b1, b2, b3, y0, y1, y2, y3, y4, y5, y6, y7⟩ := cs_e12 hE2 ⟨b0, b1, b2, b3, y0, y1, y2, y3, y4, y5, y6, y7⟩
    have HBR := Lib.hid (hs_ext hE2 HBR.out)
    have HTY := Lib.hid (HTY.out.ext hE2)
    have HE := Lib.hid (HE.out.trans hE2)
    have HER := Lib.hid (HER.out.trans hE2)
    clear hE2 hF hQ
    cases f1 with
    | false =>
      have HN : Hid (getB (B.drop (i + 1)) x = Z) := Lib.hid (by rw [HGD.out, if_neg (fun e => by have h := HF1.out; rw [e] at h; simp at h)])
      go_wp2_with fail
      go_roundw
      case rel => exact Lib.hid ⟨i + 1, by go_num, by omega, HN.out, HER.out⟩
      case measure => simp [intOf]; omega
    | true =>
      have HF : Hid (Z = y.2) := Lib.hid (by rw [HGD.out, if_pos (of_decide_eq_true HF1.out.symm)])
      go_wp2_with (
       refine wpList_storeT rfl (.tmp 4) (.tmp 23) rfl (g := rx) rfl (k := y.2.kind) (s := y.2.sort) (n := y.2.name) (ka := za) (kl := y.2.kids.length) (kc := zc) rfl HBR.out rfl ?_
       intro w6 c6 q6 e6 z6
       have HG6 := Lib.hid c6
       have HE6 := Lib.hid (e6 w HE.out (by have := HNB.out; omega))
       have HT6 := Lib.hid (HTY.out.keep (w' := w6) (fun c h _ => q6 c (HS.out c h)) (fun _ h _ => h))
       clear c6 q6 e6 z6)
      exact ret_term (g := rx) rfl rfl HG6.out rfl ⟨_, rfl, HE6.out, by rw [HF.out]; exact ⟨za, zc, rfl, HT6.out⟩⟩
  · have HF : Hid (Z = x) := Lib.hid (by rw [← HG.out, List.drop_of_length_le (by omega), getB])
    have hiz : ¬ ((i : Int) < (B.length : Int)) := by omega
    go_wp2_with (
     refine wpList_storeT rfl (.tmp 4) (.tmp 24) rfl (g := rx) rfl (k := x.kind) (s := x.sort) (n := x.name) (ka := a) (kl := x.kids.length) (kc := cap) rfl HBR.out rfl ?_
     intro w6 c6 q6 e6 z6
     have HG6 := Lib.hid c6
     have HE6 := Lib.hid (e6 w HE.out (by have := HNB.out; omega))
     have HT6 := Lib.hid (HX.out.keep (w' := w6) (fun c h _ => q6 c (HS.out c h)) (fun _ h _ => h))
     clear c6 q6 e6 z6)
    exact ret_term (g := rx) rfl rfl HG6.out rfl ⟨_, rfl, HE6.out, by rw [HF.out]; exact ⟨a, cap, rfl, HT6.out⟩⟩

theorem bset3 {w : World} {g T : Nat} {a b c d : Value} (v : Value) (h : w.heap[g]? = some (.cells #[a, b, c, d] T)) : (w.setCell ⟨g, 3, none⟩ v).heap[g]? = some (.cells #[a, b, c, v] T) := by have := heap_setCell_same w g 3 _ _ v h; simpa using this
/-- the copy under way, whose kids may lie below base -/
structure PutJ (w wr : World) (S : Nat → Prop) (bx rx : Nat) (k : Int) (n : ByteArray) (s : Int) (kv : Value) (O : List Tm) : Prop where
 own : OwnT wr (bx + 1) (fun c => (S c ∨ bx + 1 ≤ c) ∧ kv.ownBlock ≠ some c) kv O
 blk : wr.heap[bx]? = some (.cells #[.int .i64 k, .string n, .int .i64 s, kv] 31)
 res : wr.heap[rx]? = some (.cells #[.int .i64 0, .string ⟨#[]⟩, .int .i64 0, .slice none 0 0] 31)
 ext : Ext w wr
theorem PutJ.next {w wr w' : World} {S : Nat → Prop} {bx rx : Nat} {k s : Int} {n : ByteArray} {kv : Value} {O : List Tm} (h : PutJ w wr S bx rx k n s kv O) (hE : Ext wr w') : PutJ w w' S bx rx k n s kv O :=
 ⟨h.own.ext hE, hs_ext hE h.blk, hs_ext hE h.res, h.ext.trans hE⟩
theorem PutJ.put {w wr w' : World} {S : Nat → Prop} {bx rx : Nat} {k s : Int} {n : ByteArray} {kv v' : Value} {O O' : List Tm} (h : PutJ w wr S bx rx k n s kv O) (hb : w.heap.size ≤ bx) (hrx : rx < bx) (hbs : ∀ c, S c → c < bx)
 (hO : OwnT w' (bx + 1) (fun c => ((S c ∨ bx + 1 ≤ c) ∧ kv.ownBlock ≠ some c) ∧ c < wr.heap.size) v' O') (hg : wr.grownBy w' kv.ownBlock) (hat : v'.ownBlock = kv.ownBlock ∨ v'.ownBlock = some wr.heap.size) :
 PutJ w (w'.setCell ⟨bx, 3, none⟩ v') S bx rx k n s v' O' := by
 have hk := h.own.lt
 have hk' := hO.lt
 have n1 : bx < wr.heap.size := lt_of_get' h.blk
 have n2 : rx < wr.heap.size := lt_of_get' h.res
 have b1 : w'.heap[bx]? = some (.cells #[.int .i64 k, .string n, .int .i64 s, kv] 31) := by rw [hg.block bx n1 (fun e => by have := (hk bx e.symm).1; omega)]; exact h.blk
 have b2 : w'.heap[rx]? = some (.cells #[.int .i64 0, .string ⟨#[]⟩, .int .i64 0, .slice none 0 0] 31) := by rw [hg.block _ n2 (fun e => by have := (hk _ e.symm).1; omega)]; exact h.res
 have hE : Ext w w' := h.ext.grown hg (fun q hq => by have := (hk q hq).1; omega)
 refine ⟨?_, ?_, ?_, hE.setCell hb v'⟩
 · refine (hO.keep (w' := w'.setCell ⟨bx, 3, none⟩ v') (fun q hq => heap_setCell_other _ _ _ _ (by have := (hk' q hq).1; show q ≠ bx; omega)) (fun c hc hlt => heap_setCell_other _ _ _ _ (by show c ≠ bx; rcases hc.1.1 with h | h; (have := hbs c h; omega); omega))).wide (fun c hc _ => ⟨hc.1.1, fun e => ?_⟩)
   rcases hat with h1 | h1
   · exact hc.1.2 (by rw [← h1]; exact e)
   · rw [h1] at e
     simp only [Option.some.injEq] at e
     omega
 · have := heap_setCell_same w' bx 3 _ _ v' b1
   rw [this]
   simp
 · rw [heap_setCell_other _ _ _ _ (by show rx ≠ bx; omega)]
   exact b2
theorem PutJ.after {w wr w' : World} {S : Nat → Prop} {bx rx : Nat} {k s : Int} {n : ByteArray} {kv : Value} {O : List Tm} (h : PutJ w wr S bx rx k n s kv O) (hg : wr.grownBy w' kv.ownBlock) : w'.heap[bx]? = some (.cells #[.int .i64 k, .string n, .int .i64 s, kv] 31) := by
 rw [hg.block bx (lt_of_get' h.blk) (fun e => by have := (h.own.lt bx e.symm).1; omega)]; exact h.blk

set_option maxRecDepth 100000 in
set_option maxHeartbeats 16000000 in
theorem RPut_any (n : Nat) : ∀ (w : World) (S : Nat → Prop) (sa a : Option Addr) (sc cap : Nat) (B : List (Tm × Tm)) (t : Tm), sizeT t ≤ n → n ≤ 100000 → (∀ b ∈ B, sizeT b.1 ≤ 1000000) → (∀ c, S c → c < w.heap.size) → LsG elP w S (.slice sa B.length sc) B → TmW w S a cap t →
 Calls Try.prog 34 #[.slice sa B.length sc, .agg #[.int .i64 t.kind, .string t.name, .int .i64 t.sort, .slice a t.kids.length cap]] w fun e w' => ∃ v, e = .returned v ∧ Ext w w' ∧ IsS w' (fun c => S c ∨ w.heap.size ≤ c) v (putG B t) := by
 induction n with
 | zero => intro w S sa a sc cap B t hn; have := sizeT_kids t; omega
 | succ n ih =>
   intro w S sa a sc cap B t hn hn2 hB6 hbase hB hT
   obtain ⟨-, hbl, hbc⟩ := hB.len
   unfold maxLen at hbc
   have hkl := hT.len
   have hkc := hT.cap
   unfold maxLen at hkc
   obtain ⟨bx, w1, hbbx, hwbx, HBbx, hEbx⟩ := box_new w (.cells #[.int .i64 t.kind, .string t.name, .int .i64 t.sort, .slice a t.kids.length cap] 31)
   have hs1 : w1.heap.size = bx + 1 := by rw [hwbx, hbbx, World.size_alloc]
   obtain ⟨rx, hrx⟩ : ∃ zz9, zz9 = bx + 1 := ⟨_, rfl⟩
   obtain ⟨w2, hw2⟩ : ∃ zz9, zz9 = w1.alloc (.cells #[.int .i64 0, .string ⟨#[]⟩, .int .i64 0, .slice none 0 0] 31) := ⟨_, rfl⟩
   have hE2 : Ext w1 w2 := by rw [hw2]; exact Ext.alloc _ _
   have HBR : Hid (w2.heap[rx]? = some (.cells #[.int .i64 0, .string ⟨#[]⟩, .int .i64 0, .slice none 0 0] 31)) := Lib.hid (by rw [hw2, hrx, ← hs1]; exact hs_new)
   have hs2 : w2.heap.size = rx + 1 := by rw [hw2, World.size_alloc, hs1, hrx]
   have hEa := hEbx.trans hE2
   obtain ⟨b0, b1, b2, b3⟩ := box4r (hs_ext hE2 HBbx.out)
   have HB2 := Lib.hid (hs_ext hE2 HBbx.out)
   have HE2 := Lib.hid hEa
   have HNB : Hid (w.heap.size = bx ∧ rx = bx + 1 ∧ w2.heap.size = rx + 1 ∧ ∀ c, S c → c < w.heap.size) := Lib.hid ⟨hbbx.symm, hrx, hs2, hbase⟩
   have HT := Lib.hid (hT.ext hEa)
   have HTW := Lib.hid hT
   have KB := Lib.hid (hB.ext hEa)
   have KBW := Lib.hid hB
   have HN := Lib.hid (And.intro hn (And.intro hn2 hB6))
   have HK := Lib.hid (sizeT_kids t)
   have IH := Lib.hid ih
   obtain ⟨R, hR⟩ : ∃ R, R = putG B t := ⟨_, rfl⟩
   rw [← hR]
   rw [putG_eq] at hR
   have HR := Lib.hid hR
   have HNM : Hid (t.name.size ≤ maxLen ∧ I64 t.sort ∧ I64 t.kind) := Lib.hid ⟨hT.name, hT.sort, hT.kind⟩
   clear hT hEbx hE2 hEa hs1 hs2 hR hn hn2 ih hB hB6 hbase
   go_enter Try.func34, Try.ntmps34
   go_upto_region 1 with fail
   rw [← hwbx, ← hbbx, ← hw2, ← hrx]
   clear hwbx hbbx hw2 hrx
   by_cases hk : t.kind = 1
   · have e1 : (t.kind == 1) = true := by simp [hk]
     have HR2 : Hid (R = getB B t) := Lib.hid (by rw [HR.out, if_pos hk])
     have HCG := Lib.hid (RGet_any HN.out.2.2 (by have := HN.out; omega) KB.out HT.out (fun c h => by have := HNB.out.2.2.2 c h; have := HNB.out; omega))
     rw [← HR2.out] at HCG
     clear hk
     go_wp2_with fail
     refine HCG.out.mono ?_
     rintro e w3 ⟨v3, rfl, hE3, va, vc, rfl, hT3⟩
     have HBR := Lib.hid (hs_ext hE3 HBR.out)
     have HE3 := Lib.hid (HE2.out.trans hE3)
     have HT3 := Lib.hid hT3
     clear hE3 hT3
     go_wp2_with (
      refine wpList_storeT rfl (.tmp 4) (.tmp 12) rfl (g := rx) rfl (k := R.kind) (s := R.sort) (n := R.name) (ka := va) (kl := R.kids.length) (kc := vc) rfl HBR.out rfl ?_
      intro w6 c6 q6 e6 z6
      have HG6 := Lib.hid c6
      have HE6 := Lib.hid (e6 w HE3.out (by have := HNB.out; omega))
      have HT6 := Lib.hid (HT3.out.keep (w' := w6) (S' := fun c => S c ∨ w.heap.size ≤ c) (fun c h _ => q6 c (by have := HNB.out.2.2.2 c h; have := HNB.out; omega)) (fun _ h _ => .inl h))
      clear c6 q6 e6 z6)
     exact ret_term (g := rx) rfl rfl HG6.out rfl ⟨_, rfl, HE6.out, va, vc, rfl, HT6.out⟩
   · have e1 : (t.kind == 1) = false := by simp [hk]
     have HR2 : Hid (R = .mk t.kind t.name t.sort (putGL B t.kids)) := Lib.hid (by rw [HR.out, if_neg hk])
     clear hk
     obtain ⟨ox, hox⟩ : ∃ zz9, zz9 = rx + 1 := ⟨_, rfl⟩
     obtain ⟨w3, hw3⟩ : ∃ zz9, zz9 = w2.alloc (.cells #[.int .i64 t.kind, .string t.name, .int .i64 t.sort, .slice a t.kids.length cap] 31) := ⟨_, rfl⟩
     have hE3 : Ext w2 w3 := by rw [hw3]; exact Ext.alloc _ _
     have hs3 : w2.heap.size = ox := by have := HNB.out; omega
     have HO3 : Hid (w3.heap[ox]? = some (.cells #[.int .i64 t.kind, .string t.name, .int .i64 t.sort, .slice a t.kids.length cap] 31)) := Lib.hid (by rw [hw3, ← hs3]; exact hs_new)
     have HBR := Lib.hid (hs_ext hE3 HBR.out)
     have HB3 := Lib.hid (hs_ext hE3 HB2.out)
     have HE3 := Lib.hid (HE2.out.trans hE3)
     have HSZ3 : Hid (w3.heap.size = ox + 1) := Lib.hid (by rw [hw3, World.size_alloc, hs3])
     have HOX : Hid (w.heap.size ≤ ox ∧ rx < ox ∧ w.heap.size ≤ rx ∧ bx < rx ∧ ∀ c, S c → c < bx) := Lib.hid ⟨by have := HNB.out; omega, by have := HNB.out; omega, by have := HNB.out; omega, by have := HNB.out; omega, fun c h => by have := HNB.out.2.2.2 c h; have := HNB.out; omega⟩
     go_upto_region 4 with fail
     rw [← hox, ← hw3]
     clear hE3 hs3 hw3 hox
     have f3 : w3.frozen? ⟨ox, 3, none⟩ = false := frozenc HO3.out
     have o3 : w3.cell? ⟨ox, 3, none⟩ = some (.slice a t.kids.length cap) := by rw [cellc HO3.out]; rfl
     go_upto_region 5 with fail
     have hx5 := bset3 (.slice none 0 0) HO3.out
     have hr5 : (w3.setCell ⟨ox, 3, none⟩ (.slice none 0 0)).heap[rx]? = _ := (heap_setCell_other _ _ _ _ (by show rx ≠ ox; have := HOX.out; omega)).trans HBR.out
     have hb5 : (w3.setCell ⟨ox, 3, none⟩ (.slice none 0 0)).heap[bx]? = _ := (heap_setCell_other _ _ _ _ (by show bx ≠ ox; have := HOX.out; omega)).trans HB3.out
     have hE5 := HE3.out.setCell (b := ox) (o := 3) (by have := HOX.out; omega) (.slice none 0 0)
     generalize hw5 : World.setCell w3 _ _ = w5 at hx5 hr5 hb5 hE5 ⊢
     have HI : Hid (PutJ w w5 S ox rx t.kind t.name t.sort (.slice none 0 0) []) := Lib.hid ⟨OwnT.nil, hx5, hr5, hE5⟩
     have HB5 := Lib.hid hb5
     clear hx5 hr5 hb5 hE5 hw5 f3 o3 b0 b1 b2 b3
     go_wp2_with fail
     go_loopw [6] (fun iv wr => Hid (∃ (i : Nat) (kv : Value), iv = .int .i64 i ∧ i ≤ t.kids.length ∧ PutJ w wr S ox rx t.kind t.name t.sort kv (putGL B (t.kids.take i)) ∧ wr.heap[bx]? = some (.cells #[.int .i64 t.kind, .string t.name, .int .i64 t.sort, .slice a t.kids.length cap] 31))) (fun iv _ => t.kids.length - (intOf iv).toNat)
     case atStart => exact Lib.hid ⟨0, _, rfl, by omega, HI.out, HB5.out⟩
     case round =>
      obtain ⟨i, kv, rfl, hi, hI, hbx⟩ := hrel.out
      have HI2 := Lib.hid hI
      have HBB := Lib.hid hbx
      obtain ⟨b0, b1, b2, b3⟩ := box4r (HBB.out)
      clear hI hrel hbx
      have hol : (putGL B (t.kids.take i)).length = i := by rw [putGL_len, List.length_take]; omega
      obtain ⟨oa, oc, ho, -, hoc⟩ := HI2.out.own.slice
      rw [hol] at ho
      subst ho
      unfold maxLen at hoc
      have HOL := Lib.hid hol
      clear hol
      by_cases hlt : i < t.kids.length
      · obtain ⟨x, hx⟩ : ∃ x, t.kids[i]? = some x := ⟨_, List.getElem?_eq_getElem hlt⟩
        obtain ⟨xb, xo, a', cap', rfl, y0, y1, y2, y3, hTx⟩ := (HTW.out.ext HI2.out.ext).ts.at hx
        have hsx := sizeL_get hx
        have HTK := Lib.hid (putGL_take (B := B) hx)
        obtain ⟨Y, hY⟩ : ∃ Y, Y = putG B x := ⟨_, rfl⟩
        rw [← hY] at HTK
        have hcon := fun (w' : World) (hE : Ext wr w') => IH.out w' S sa a' sc cap' B x (by have := HK.out; have := HN.out; omega) (by have := HN.out; omega) HN.out.2.2 (fun c h => by have := HNB.out.2.2.2 c h; have := HI2.out.ext.size; have := hE.size; omega) (KBW.out.ext (HI2.out.ext.trans hE)) (hTx.ext hE)
        simp only [← hY] at hcon
        have HCON := Lib.hid hcon
        have k3 : wr.cell? ⟨ox, 3, none⟩ = some (.slice oa i oc) := by rw [cellc HI2.out.blk]; rfl
        have hi0 : (0 : Int) ≤ (i : Int) := by omega
        have hi1 : (i : Int) < (t.kids.length : Int) := by omega
        clear hx hsx hTx hcon hY
        go_upto_region 8 with fail
        have HFCT := Lib.hid (And.intro k3 (And.intro b0 (And.intro b1 (And.intro b2 (And.intro b3 (And.intro y0 (And.intro y1 (And.intro y2 y3))))))))
        refine wp_region_reg 10 false (by kernel_rfl) (by kernel_rfl) ?_
        refine reg_value (fun _ => rfl) ?_ (fun g w' vs hM hE hP => ?_) ?_
        rotate_left
        · (clear hP hM; have ⟨z0, z1, z2, z3, z4, z5, z6, z7, z8⟩ := cs_e9 hE HFCT.out; go_simp; first | done | rfl)
        refine reg_value (fun _ => rfl) ?_ (fun g w' vs hM hE hP => ?_) ?_
        rotate_left
        · (clear hP hM; have ⟨z0, z1, z2, z3, z4, z5, z6, z7, z8⟩ := cs_e9 hE HFCT.out; go_simp; first | done | rfl)
        refine reg_value (fun _ => rfl) ?_ (fun g w' vs hM hE hP => ?_) ?_
        rotate_left
        · (clear hP hM; have ⟨z0, z1, z2, z3, z4, z5, z6, z7, z8⟩ := cs_e9 hE HFCT.out; go_simp; first | done | rfl)
        refine reg_value (fun _ => rfl) ?_ (fun g w' vs hM hE hP => ?_) ?_
        rotate_left
        · (clear hP hM; have ⟨z0, z1, z2, z3, z4, z5, z6, z7, z8⟩ := cs_e9 hE HFCT.out; go_simp; first | done | rfl)
        refine reg_value (fun _ => rfl) ?_ (fun g w' vs hM hE hP => ?_) ?_
        rotate_left
        · (clear hP hM; have ⟨z0, z1, z2, z3, z4, z5, z6, z7, z8⟩ := cs_e9 hE HFCT.out; go_simp; first | done | rfl)
        refine reg_value (fun _ => rfl) ?_ (fun g w' vs hM hE hP => ?_) ?_
        rotate_left
        · (clear hP hM; have ⟨z0, z1, z2, z3, z4, z5, z6, z7, z8⟩ := cs_e9 hE HFCT.out; go_simp; first | done | rfl)
        refine reg_value (fun _ => rfl) ?_ (fun g w' vs hM hE hP => ?_) ?_
        rotate_left
        · (clear hP hM; have ⟨z0, z1, z2, z3, z4, z5, z6, z7, z8⟩ := cs_e9 hE HFCT.out; go_simp; first | done | rfl)
        refine reg_value (fun _ => rfl) ?_ (fun g w' vs hM hE hP => ?_) ?_
        rotate_left
        · (clear hP hM; have ⟨z0, z1, z2, z3, z4, z5, z6, z7, z8⟩ := cs_e9 hE HFCT.out; go_simp; first | done | rfl)
        refine reg_call (fun _ => rfl) 34 ?_ (fun g w' m hM hE hP => ?_) (fun u w'' => IsS w'' (fun c => S c ∨ wr.heap.size ≤ c) u Y) ⟨fun u a b h hE => h.ext hE, (fun h => nomatch h), (fun h => absurd rfl h)⟩ (fun g w' m hM hE hP => ?_) ?_
        rotate_left
        · (clear hP hM; have zz1 := cs_ext hE y0; have zz2 := cs_ext hE y1; have zz3 := cs_ext hE y2; have zz4 := cs_ext hE y3; have zz5 := cs_ext hE b3; go_simp; first | done | exact ⟨rfl, rfl⟩ | rfl)
        · exact (HCON.out w' hE).mono (fun e w'' ⟨u, h1, h2, ua, uc, hu, h3⟩ => ⟨u, h1, h2, ua, uc, hu, h3.wide (fun c hc _ => hc.imp id (fun hc => Nat.le_trans hE.size hc))⟩)
        refine reg_fresh (fun _ => rfl) (fun n => .slice (some ⟨n, 0, none⟩) 1 1) (fun g => .cells (aggC (g 8).v) 31) (fun g w' m hM hE hP => ?_) ?_
        · obtain ⟨ua, uc, hu, -⟩ := hP _ List.mem_cons_self (anc_of 1 (by kernel_rfl))
          have hu : (g 8).v = _ := hu
          clear hP hM
          go_simp
          first | done | simp [aggC, hu]
        intro g w4 hE4 hF hQ
        simp only [List.drop_succ_cons, List.drop_zero, Act.put, List.setIfInBounds_toArray, List.set_cons_succ, List.set_cons_zero]
        obtain ⟨ua, uc, hu, hTu⟩ := hQ _ List.mem_cons_self
        have hu : (g 8).v = _ := hu
        have hf := (hF.2.1 _ List.mem_cons_self).1
        have hf : w4.heap[(g 9).n]? = some (.cells (aggC (g 8).v) 31) := hf
        rw [hu] at hf
        have hf : w4.heap[(g 9).n]? = some (.cells #[.int .i64 Y.kind, .string Y.name, .int .i64 Y.sort, .slice ua Y.kids.length uc] 31) := hf
        obtain ⟨fb, hfb⟩ : ∃ fb, fb = (g 9).n := ⟨_, rfl⟩
        rw [← hfb] at hf
        rw [← hfb, hu]
        have HI4 := Lib.hid (HI2.out.next hE4)
        have HBB := Lib.hid (hs_ext hE4 HBB.out)
        have hkv := HI2.out.own.lt
        have n2 : ox < wr.heap.size := lt_of_get' HI2.out.blk
        have hOw := HI4.out.own.wide (S' := fun c => ((S c ∨ ox + 1 ≤ c) ∧ (Value.slice oa i oc).ownBlock ≠ some c) ∧ c < w4.heap.size) (fun c h1 h2 => ⟨h1, h2⟩)
        have hone : LsT w4 (fun c => ((S c ∨ ox + 1 ≤ c) ∧ (Value.slice oa i oc).ownBlock ≠ some c) ∧ c < w4.heap.size) (.slice (some ⟨fb, 0, none⟩) 1 1) [Y] := one_ls hf (hTu.wide (fun c h1 h2 => ⟨⟨h1.imp id (fun h => by omega), fun e => by have := (hkv c e); have := HOX.out; rcases h1 with h | h; (have := HOX.out.2.2.2.2 c h; omega); omega⟩, h2⟩))
        have hsz : ox + 1 ≤ w4.heap.size := by have := hE4.size; omega
        have hoff : ∀ c, ((S c ∨ ox + 1 ≤ c) ∧ (Value.slice oa i oc).ownBlock ≠ some c) ∧ c < w4.heap.size → (Value.slice oa i oc).ownBlock ≠ some c := fun c h => h.1.2
        have hl1 : (putGL B (t.kids.take i)).length ≤ 1000000 := by rw [HOL.out]; have := HK.out; have := HN.out; have := len_size t.kids; omega
        clear hf hTu hu hfb hF hQ hE4 hkv n2 k3 b0 b1 b2 b3 y0 y1 y2 y3
        go_wp2_with (
         at_builtin
         refine wpList_appT rfl (.tmp 23) (.tmp 31) rfl rfl rfl hOw hsz hoff hl1 (X := [Y]) (by simp) hone ?_
         intro v5 w5 o5 g5 k5
         have hb5 := HI4.out.after g5
         have hbb5 : w5.heap[bx]? = _ := (g5.block bx (lt_of_get' HBB.out) (fun e => by have := (HI4.out.own.lt bx e.symm).1; have := HOX.out; omega)).trans HBB.out
         obtain ⟨pa, pc, hp, -, hpc⟩ := o5.slice
         unfold maxLen at hpc
         have hl5 : (putGL B (t.kids.take i) ++ [Y]).length = i + 1 := by rw [List.length_append, HOL.out]; rfl
         rw [hl5] at hp
         have HP := Lib.hid (HI4.out.put HOX.out.1 HOX.out.2.1 (fun c h => by have := HOX.out.2.2.2.2 c h; have := HOX.out; omega) o5 g5 k5)
         have HBB5 := Lib.hid hbb5
         subst hp
         have z3 : w5.cell? ⟨ox, 3, none⟩ = some (.slice oa i oc) := by rw [cellc hb5]; rfl
         have f3 : w5.frozen? ⟨ox, 3, none⟩ = false := frozenc hb5
         clear o5 g5 k5 hb5 hbb5 hOw hone)
        go_roundw
        case rel => exact Lib.hid ⟨i + 1, _, by go_num, by omega, by rw [HTK.out]; exact HP.out, (heap_setCell_other _ _ _ _ (by show bx ≠ ox; have := HOX.out; omega)).trans HBB5.out⟩
        case measure => simp [intOf]; omega
      · have HTK : Hid (putGL B (t.kids.take i) = putGL B t.kids) := Lib.hid (by rw [List.take_of_length_le (by omega)])
        have k0 : wr.cell? ⟨ox, 0, none⟩ = some (.int .i64 t.kind) := by rw [cellc HI2.out.blk]; rfl
        have k1 : wr.cell? ⟨ox, 1, none⟩ = some (.string t.name) := by rw [cellc HI2.out.blk]; rfl
        have k2 : wr.cell? ⟨ox, 2, none⟩ = some (.int .i64 t.sort) := by rw [cellc HI2.out.blk]; rfl
        have k3 : wr.cell? ⟨ox, 3, none⟩ = some (.slice oa i oc) := by rw [cellc HI2.out.blk]; rfl
        have HOL2 : Hid (i = (putGL B t.kids).length) := Lib.hid (by rw [putGL_len]; omega)
        have hiz : ¬ ((i : Int) < (t.kids.length : Int)) := by omega
        go_wp2_with (
         refine wpList_storeT rfl (.tmp 4) (.tmp 34) rfl (g := rx) rfl (k := t.kind) (s := t.sort) (n := t.name) (ka := oa) (kl := i) (kc := oc) rfl HI2.out.res rfl ?_
         intro w6 c6 q6 e6 z6
         have HG6 := Lib.hid c6
         have HE6 := Lib.hid (e6 w HI2.out.ext HOX.out.2.2.1)
         have HQ6 := Lib.hid q6
         clear c6 q6 e6 z6)
        have hO6 := HI2.out.own.keep (w' := w6) (fun q hq => HQ6.out q (by have := (HI2.out.own.lt q hq).1; have := HOX.out; omega)) (fun c hc _ => HQ6.out c (by have := HOX.out; rcases hc.1 with h | h; (have := HOX.out.2.2.2.2 c h; omega); omega))
        rw [HTK.out] at hO6
        have hlt6 := hO6.lt
        obtain ⟨va, vc, hv, hlc, hcm, hts⟩ := (hO6.wide (S' := fun c => S c ∨ w.heap.size ≤ c) (fun c hc _ => hc.1.imp id (fun h => by have := HOX.out; omega))).ls
        rw [← HOL2.out] at hv
        cases hv
        have hfin : TmW w6 (fun c => S c ∨ w.heap.size ≤ c) oa oc (.mk t.kind t.name t.sort (putGL B t.kids)) := ⟨HNM.out.2.2, HNM.out.2.1, HNM.out.1, hlc, hcm, LsT.kids (n := (putGL B t.kids).length) ⟨oa, oc, rfl, hlc, hcm, hts⟩ (fun b o e => by
         subst e
         have := (hlt6 b rfl).1
         have := HOX.out
         exact .inr (by omega))⟩
        refine ret_term (g := rx) rfl rfl HG6.out rfl ⟨_, rfl, HE6.out, oa, oc, ?_, by rw [HR2.out]; exact hfin⟩
        rw [HR2.out, HOL2.out]
        rfl

end Go.Proofs.Ytpfnlbaloaohgaa
