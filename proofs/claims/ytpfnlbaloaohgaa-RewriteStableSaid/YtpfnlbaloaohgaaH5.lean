/- Plain law: rules. Contracts: positions; whether a list has a term. Contracts: the error of rules. Plain law: redexes. Contracts: redexes. -/
import Derived.Test.YtpfnlbaloaohgaaH3
import Derived.Test.YtpfnlbaloaohgaaN18
import Derived.Laws.EntriesVeiled
namespace Go.Proofs.Ytpfnlbaloaohgaa
open Go
set_option linter.unusedVariables false
set_option linter.unusedSimpArgs false

abbrev Rl := Tm × Tm
/-- the error of a rule -/
def ruleE (r : Rl) : Int := orE (validT r.1) (orE (validT r.2) (if r.1.kind = 1 then 1 else if ∀ x ∈ varsT r.2, x ∈ varsT r.1 then 0 else 13))
def rulesL : List Rl → Int | [] => 0 | r :: l => orE (ruleE r) (rulesL l)
/-- the error of rules -/
def rulesE (R : List Rl) : Int := if 40 < R.length then 3 else rulesL R
theorem rulesL_snoc (l : List Rl) (r : Rl) : rulesL (l ++ [r]) = orE (rulesL l) (ruleE r) := by
 induction l with
 | nil =>
   simp only [List.nil_append, rulesL, orE]
   split <;> simp_all
 | cons x l ih =>
   rw [List.cons_append, rulesL, rulesL, ih]
   unfold orE
   (repeat' split) <;> simp_all
theorem rulesL_take {l : List Rl} {i : Nat} {r : Rl} (h : l[i]? = some r) : rulesL (l.take (i + 1)) = orE (rulesL (l.take i)) (ruleE r) := by
 rw [List.take_add_one, h]; exact rulesL_snoc _ r
theorem rulesL_stop {l : List Rl} {i : Nat} {r : Rl} (h : l[i]? = some r) (h0 : rulesL (l.take i) = 0) (hr : ruleE r ≠ 0) : rulesL l = ruleE r := by
 have key : ∀ (a b : List Rl), rulesL a ≠ 0 → rulesL (a ++ b) = rulesL a := by
  intro a
  induction a with
  | nil => intro b h; exact absurd rfl h
  | cons x a ih =>
    intro b h
    rw [List.cons_append, rulesL, rulesL]
    rw [rulesL] at h
    by_cases hx : ruleE x = 0
    · have ha : rulesL a ≠ 0 := fun e => h (by rw [hx, e]; rfl)
      rw [ih b ha]
    · simp [orE, hx]
 have h1 := rulesL_take h
 rw [h0] at h1
 have h2 : orE 0 (ruleE r) = ruleE r := rfl
 rw [h2] at h1
 have h3 := key _ (l.drop (i + 1)) (by rw [h1]; exact hr)
 rw [List.take_append_drop, h1] at h3
 exact h3
theorem rulesL_get : ∀ {l : List Rl} {i : Nat} {r : Rl}, l[i]? = some r → rulesL l = 0 → ruleE r = 0
 | [], i, r, h, _ => by simp at h
 | x :: l, 0, r, h, he => by cases h; rw [rulesL] at he; exact (orE_split he).1
 | x :: l, i + 1, r, h, he => by rw [rulesL] at he; exact rulesL_get (l := l) (i := i) (by simpa using h) (orE_split he).2
theorem rulesE_get {R : List Rl} {i : Nat} {r : Rl} (h : R[i]? = some r) (he : rulesE R = 0) : ruleE r = 0 := by
 unfold rulesE at he
 split at he
 · omega
 · exact rulesL_get h he
theorem ruleE_iff {r : Rl} : ruleE r = 0 ↔ validT r.1 = 0 ∧ validT r.2 = 0 ∧ r.1.kind ≠ 1 ∧ ∀ x ∈ varsT r.2, x ∈ varsT r.1 := by
 unfold ruleE
 rw [orE_zero, orE_zero]
 constructor
 · rintro ⟨h1, h2, h3⟩
   split at h3
   · omega
   · split at h3
     · exact ⟨h1, h2, by assumption, by assumption⟩
     · omega
 · rintro ⟨h1, h2, h3, h4⟩
   exact ⟨h1, h2, by rw [if_neg h3, if_pos h4]⟩

end Go.Proofs.Ytpfnlbaloaohgaa

namespace Go.Proofs.Ytpfnlbaloaohgaa
open Go Go.RowKit
set_option linter.unusedVariables false
set_option linter.unusedSimpArgs false

theorem nil_lsG {α : Type} {E : Elm α} {w : World} {S : Nat → Prop} (b : Nat) : LsG E w S (.slice (some ⟨b, 0, none⟩) ([] : List α).length 0) [] := ⟨_, 0, rfl, by simp, by unfold maxLen; omega, fun i x h => by simp at h⟩
set_option maxRecDepth 100000 in
set_option maxHeartbeats 4000000 in
theorem PPositions_any {w : World} {S : Nat → Prop} {a : Option Addr} {cap : Nat} {t : Tm} (hn : sizeT t ≤ 400000) (hT : TmW w S a cap t) :
 Calls Try.prog 35 #[.agg #[.int .i64 t.kind, .string t.name, .int .i64 t.sort, .slice a t.kids.length cap]] w fun e w' => ∃ v, e = .returned v ∧ Ext w w' ∧ LsG (elL elI) w' (fun c => w.heap.size ≤ c) v (posT t) := by
 have hmf : ∀ (fn : Fn) (first cap : Array Value) (w : World), (Instr.makeFunc fn first cap).run Try.prog w = .ok (.func fn first cap) w := fun _ _ _ _ => rfl
 obtain ⟨bx, w1, hbbx, hwbx, HBbx, hEbx⟩ := box_new w (.cells #[.int .i64 t.kind, .string t.name, .int .i64 t.sort, .slice a t.kids.length cap] 31)
 have hs1 : w1.heap.size = bx + 1 := by rw [hwbx, hbbx, World.size_alloc]
 obtain ⟨ob, hob⟩ : ∃ zz9, zz9 = bx + 1 := ⟨_, rfl⟩
 obtain ⟨w2, hw2⟩ : ∃ zz9, zz9 = w1.alloc (.cells #[.slice none 0 0] 68) := ⟨_, rfl⟩
 have hbo : w2.heap[ob]? = some (.cells #[.slice none 0 0] 68) := by rw [hw2, hob, ← hs1]; exact hs_new
 have hE2 : Ext w1 w2 := by rw [hw2]; exact Ext.alloc _ _
 have hs2 : w2.heap.size = ob + 1 := by rw [hw2, World.size_alloc, hs1, hob]
 obtain ⟨vb, hvb⟩ : ∃ zz9, zz9 = ob + 1 := ⟨_, rfl⟩
 obtain ⟨w2b, hw2b⟩ : ∃ zz9, zz9 = w2.alloc (.cells #[.nilFunc] 85) := ⟨_, rfl⟩
 have hbn : w2b.heap[vb]? = some (.cells #[.nilFunc] 85) := by rw [hw2b, hvb, ← hs2]; exact hs_new
 have hE2b : Ext w2 w2b := by rw [hw2b]; exact Ext.alloc _ _
 have z0 : w2b.cell? ⟨vb, 0, none⟩ = some .nilFunc := by rw [cellc hbn]; rfl
 have zf : w2b.frozen? ⟨vb, 0, none⟩ = false := frozenc hbn
 have hov : ob < vb := by omega
 have hwo : w.heap.size ≤ ob := by omega
 obtain ⟨w3, hw3⟩ : ∃ zz9, zz9 = w2b.setCell ⟨vb, 0, none⟩ (.func (.func 51) #[] #[.pointer (some ⟨ob, 0, none⟩), .pointer (some ⟨vb, 0, none⟩)]) := ⟨_, rfl⟩
 have hbv : w3.heap[vb]? = some (.cells #[(.func (.func 51) #[] #[.pointer (some ⟨ob, 0, none⟩), .pointer (some ⟨vb, 0, none⟩)])] 85) := by
  have h := heap_setCell_same w2b vb 0 _ _ (.func (.func 51) #[] #[.pointer (some ⟨ob, 0, none⟩), .pointer (some ⟨vb, 0, none⟩)]) hbn
  rw [hw3, h]; simp
 have hE3 : Ext w w3 := by rw [hw3]; exact ((hEbx.trans hE2).trans hE2b).setCell (by omega) _
 have hbo3 : w3.heap[ob]? = some (.cells #[.slice none 0 0] 68) := by rw [hw3, heap_setCell_other _ _ _ _ (by show ob ≠ vb; omega)]; exact hs_ext hE2b hbo
 have hbb3 : w3.heap[bx]? = some (.cells #[.int .i64 t.kind, .string t.name, .int .i64 t.sort, .slice a t.kids.length cap] 31) := by rw [hw3, heap_setCell_other _ _ _ _ (by show bx ≠ vb; omega)]; exact hs_ext (hE2.trans hE2b) HBbx.out
 have hI : PosI w w3 ob vb (.slice none 0 0) [] := ⟨hE3, hbo3, hbv, OwnG.nil⟩
 have HNB := Lib.hid (And.intro hov hwo)
 have HI := Lib.hid hI
 have HT := Lib.hid hT.below
 have HN := Lib.hid hn
 obtain ⟨b0, b1, b2, b3⟩ := box4r (hbb3)
 have p0 : w3.cell? ⟨vb, 0, none⟩ = some (.func (.func 51) #[] #[.pointer (some ⟨ob, 0, none⟩), .pointer (some ⟨vb, 0, none⟩)]) := by rw [cellc hbv]; rfl
 clear hT hn hI hbo hbv hbn hbb3 hbo3 hE2 hE2b hE3 hs1 hs2 hEbx hov hwo
 go_enter Try.func35, Try.ntmps35
 go_upto_region 3 with fail
 rw [← hwbx, ← hbbx, ← hw2, ← hob, ← hw2b, ← hvb]
 clear hwbx hbbx hw2 hob hw2b hvb
 go_upto_region 4 with fail
 rw [← hw3]
 clear hw3 z0 zf
 go_upto_region 5 with (
  go_at_call 51
  refine (visit_any (S := fun c => c < w.heap.size) HNB.out.2 HNB.out.1 (fun c h => h) 400000 _ (.slice none 0 0) [] [] (fun c => c = w3.heap.size) a (some ⟨w3.heap.size, 0, none⟩) cap 0 t HN.out (by have := HN.out; simp; omega) (by have := HN.out; simp; omega) (HI.out.next (Ext.alloc _ _)) HT.out (nil_lsG _) (fun c hc => ⟨by have := lt_of_get' HI.out.oc; omega, fun e => by cases e⟩)).mono ?_
  rintro e w5 ⟨rfl, v5, hI5, hS5⟩
  have HI5 := Lib.hid hI5
  have o0 : w5.cell? ⟨ob, 0, none⟩ = some v5 := by rw [cellc hI5.oc]; rfl
  clear hI5 hS5)
 go_wp2_with fail
 go_ret
 have hp : preP [] (posT t) = posT t := by unfold preP; simp
 have hO := HI5.out.own
 rw [List.nil_append, hp] at hO
 exact ⟨_, rfl, HI5.out.ext, hO.ls (fun c h _ => by have := HNB.out; omega) (fun g _ h1 h2 => by have := HNB.out; omega)⟩

theorem PHas_any {w : World} {S S' : Nat → Prop} {a a' : Option Addr} {cap cap' : Nat} {L : List Tm} {t : Tm} (hL6 : ∀ x ∈ L, sizeT x ≤ 1000000) (ht6 : sizeT t ≤ 1000000) (hL : LsT w S (.slice a L.length cap) L) (hT : TmW w S' a' cap' t) :
 Calls Try.prog 23 #[.slice a L.length cap, .agg #[.int .i64 t.kind, .string t.name, .int .i64 t.sort, .slice a' t.kids.length cap']] w fun e w' => e = .returned (.bool (decide (t ∈ L))) ∧ Ext w w' := by
 obtain ⟨-, hll, hlc⟩ := hL.len
 unfold maxLen at hlc
 obtain ⟨bx, w1, hbbx, hwbx, HBbx, hEbx⟩ := box_new w (.cells #[.int .i64 t.kind, .string t.name, .int .i64 t.sort, .slice a' t.kids.length cap'] 31)
 have HL := Lib.hid (hL.ext hEbx)
 have HT := Lib.hid (hT.ext hEbx)
 have HE1 := Lib.hid hEbx
 have HL6 := Lib.hid hL6
 have HZ := Lib.hid ht6
 obtain ⟨R, hR⟩ : ∃ R, R = decide (t ∈ L) := ⟨_, rfl⟩
 rw [← hR]
 have HR := Lib.hid hR
 clear hL hT hEbx hL6 ht6 hR
 go_enter Try.func23, Try.ntmps23
 go_upto_region 1 with fail
 rw [← hwbx, ← hbbx]
 clear hwbx hbbx
 go_wp2_with fail
 go_loopw [9] (fun kv wr => Hid (∃ k : Nat, kv = .int .i64 k ∧ k ≤ L.length ∧ t ∉ L.take k ∧ Ext w1 wr)) (fun kv _ => L.length - (intOf kv).toNat)
 case atStart => exact Lib.hid ⟨0, rfl, by omega, by simp, Ext.refl _⟩
 case round =>
  obtain ⟨k, rfl, hk, hn, hE⟩ := hrel.out
  have HN := Lib.hid hn
  have HE := Lib.hid hE
  clear hrel hn hE
  by_cases hlt : k < L.length
  · obtain ⟨x, hx⟩ : ∃ x, L[k]? = some x := ⟨_, List.getElem?_eq_getElem hlt⟩
    obtain ⟨xb, xo, xa, xc, rfl, x0, x1, x2, x3, hTx⟩ := (HL.out.ext HE.out).ts.at hx
    obtain ⟨xx, wa, hbxx, hwxx, HBxx, hExx⟩ := box_new wr (.cells #[.int .i64 x.kind, .string x.name, .int .i64 x.sort, .slice xa x.kids.length xc] 31)
    have HEa := Lib.hid (HE.out.trans hExx)
    have HCC := Lib.hid (PCmp_any (HL6.out x (List.mem_of_getElem? hx)) HZ.out (hTx.ext hExx) (HT.out.ext HEa.out))
    have HX := Lib.hid hx
    clear hTx hx hExx
    go_upto_region 4 with fail
    rw [← hwxx, ← hbxx]
    clear hwxx hbxx
    clear x0 x1 x2 x3
    obtain ⟨x0, x1, x2, x3⟩ := box4r (HBxx.out)
    obtain ⟨b0, b1, b2, b3⟩ := box4r (hs_ext HEa.out HBbx.out)
    obtain ⟨o, ho⟩ : ∃ o, o = cmpT x t := ⟨_, rfl⟩
    rw [← ho] at HCC
    have HO := Lib.hid ho
    clear ho
    by_cases h0 : o = 0
    · have HRT : Hid (R = true) := Lib.hid (by
       have e : x = t := (cmpT_zero x t).1 (by rw [← HO.out]; exact h0)
       rw [HR.out, decide_eq_true_eq, ← e]
       exact List.mem_of_getElem? HX.out)
      have e0 : (o == 0) = true := by simp [h0]
      clear h0
      go_wp2_with fail
      refine HCC.out.mono ?_
      rintro e w5 ⟨rfl, hE5⟩
      have HE5 := Lib.hid (HEa.out.trans hE5)
      clear hE5
      go_wp2_with fail
      go_ret
      exact ⟨rb HRT.out.symm, HE1.out.trans HE5.out⟩
    · have HNX : Hid (t ∉ L.take (k + 1)) := Lib.hid (by
       rw [List.take_add_one, HX.out]
       simp only [Option.toList_some, List.mem_append, List.mem_singleton, not_or]
       exact ⟨HN.out, fun e => h0 (by rw [HO.out, e]; exact (cmpT_zero x x).2 rfl)⟩)
      have e0 : (o == 0) = false := by simp [h0]
      clear h0
      go_wp2_with fail
      refine HCC.out.mono ?_
      rintro e w5 ⟨rfl, hE5⟩
      have HE5 := Lib.hid (HEa.out.trans hE5)
      clear hE5
      go_wp2_with fail
      go_roundw
      case rel => exact Lib.hid ⟨k + 1, by go_num, by omega, HNX.out, HE5.out⟩
      case measure => simp [intOf]; omega
  · have HRT : Hid (R = false) := Lib.hid (by
     have h := HN.out
     rw [List.take_of_length_le (by omega)] at h
     rw [HR.out, decide_eq_false_iff_not]; exact h)
    go_wp2_with fail
    go_ret
    exact ⟨rb HRT.out.symm, HE1.out.trans HE.out⟩

def smallR (R : List Rl) : Prop := ∀ r ∈ R, sizeT r.1 ≤ 100000 ∧ sizeT r.2 ≤ 100000

set_option maxRecDepth 100000 in
set_option maxHeartbeats 8000000 in
theorem PRules_any {w : World} {S : Nat → Prop} {a : Option Addr} {cap : Nat} {R : List Rl} (hz : smallR R) (hL : LsG elP w S (.slice a R.length cap) R) :
 Calls Try.prog 7 #[.slice a R.length cap] w fun e w' => e = .returned (.int .i64 (rulesE R)) ∧ Ext w w' := by
 obtain ⟨-, hll, hlc⟩ := hL.len
 unfold maxLen at hlc
 have HL := Lib.hid hL.any
 have HZ := Lib.hid hz
 obtain ⟨E, hE⟩ : ∃ E, E = rulesE R := ⟨_, rfl⟩
 rw [← hE]
 unfold rulesE at hE
 have HEE := Lib.hid hE
 clear hL hz hE
 by_cases h40 : 40 < R.length
 · have HR : Hid (E = 3) := Lib.hid (by rw [HEE.out, if_pos h40])
   have e40 : decide ((40 : Int) < (R.length : Int)) = true := decide_eq_true (by omega)
   go_enter Try.func7, Try.ntmps7
   go_wp2_with fail
   go_ret
   exact ⟨ri HR.out.symm, Ext.refl _⟩
 · have HR : Hid (E = rulesL R) := Lib.hid (by rw [HEE.out, if_neg h40])
   have e40 : decide ((40 : Int) < (R.length : Int)) = false := decide_eq_false (by omega)
   go_enter Try.func7, Try.ntmps7
   go_wp2_with fail
   go_loopw [15] (fun kv wr => Hid (∃ k : Nat, kv = .int .i64 k ∧ k ≤ R.length ∧ rulesL (R.take k) = 0 ∧ Ext w wr)) (fun kv _ => R.length - (intOf kv).toNat)
   case atStart => exact Lib.hid ⟨0, rfl, by omega, by simp [rulesL], Ext.refl _⟩
   case round =>
    obtain ⟨k, rfl, hk, h0, hE⟩ := hrel.out
    have H0 := Lib.hid h0
    have HE := Lib.hid hE
    clear hrel h0 hE
    by_cases hlt : k < R.length
    · obtain ⟨r, hr⟩ : ∃ r, R[k]? = some r := ⟨_, List.getElem?_eq_getElem hlt⟩
      obtain ⟨rb, ro, xa, xc, ya, yc, rfl, ⟨x0, x1, x2, x3⟩, ⟨y0, y1, y2, y3⟩, hTx, hTy⟩ := (HL.out.ext HE.out).pAt hr
      have hsz := HZ.out r (List.mem_of_getElem? hr)
      have HSZ := Lib.hid hsz
      have HST := Lib.hid (fun (h : ruleE r ≠ 0) => rulesL_stop hr H0.out h)
      have HTK := Lib.hid (rulesL_take hr)
      obtain ⟨s, hs⟩ : ∃ s, s = r.1 := ⟨_, rfl⟩
      obtain ⟨t, ht⟩ : ∃ t, t = r.2 := ⟨_, rfl⟩
      have hre : ruleE r = orE (validT s) (orE (validT t) (if s.kind = 1 then 1 else if ∀ x ∈ varsT t, x ∈ varsT s then 0 else 13)) := by rw [hs, ht]; rfl
      rw [← hs] at x0 x1 x2 x3 hTx HSZ
      rw [← ht] at y0 y1 y2 y3 hTy HSZ
      have HRE := Lib.hid hre
      have hk1 : s.kids.length ≤ xc := hTx.len
      have hk2 := hTx.cap
      have hk3 : t.kids.length ≤ yc := hTy.len
      have hk4 := hTy.cap
      unfold maxLen at hk2 hk4
      obtain ⟨rx, wa, hbrx, hwrx, HBrx, hErx⟩ := box_new wr (.cells #[.int .i64 s.kind, .string s.name, .int .i64 s.sort, .slice xa s.kids.length xc, .int .i64 t.kind, .string t.name, .int .i64 t.sort, .slice ya t.kids.length yc] 55)
      have HTX := Lib.hid (hTx.ext hErx)
      have HTY := Lib.hid (hTy.ext hErx)
      have HEa := Lib.hid (HE.out.trans hErx)
      clear hr hsz hre hTx hTy hErx hs ht
      go_upto_region 6 with fail
      rw [← hwrx, ← hbrx]
      clear hwrx hbrx
      clear x0 x1 x2 x3 y0 y1 y2 y3
      have z0 : wa.cell? ⟨rx, 0, none⟩ = some (.int .i64 s.kind) := by rw [cellc (HBrx.out)]; rfl
      have z1 : wa.cell? ⟨rx, 1, none⟩ = some (.string s.name) := by rw [cellc (HBrx.out)]; rfl
      have z2 : wa.cell? ⟨rx, 2, none⟩ = some (.int .i64 s.sort) := by rw [cellc (HBrx.out)]; rfl
      have z3 : wa.cell? ⟨rx, 3, none⟩ = some (.slice xa s.kids.length xc) := by rw [cellc (HBrx.out)]; rfl
      have z4 : wa.cell? ⟨rx, 4, none⟩ = some (.int .i64 t.kind) := by rw [cellc (HBrx.out)]; rfl
      have z5 : wa.cell? ⟨rx, 5, none⟩ = some (.string t.name) := by rw [cellc (HBrx.out)]; rfl
      have z6 : wa.cell? ⟨rx, 6, none⟩ = some (.int .i64 t.sort) := by rw [cellc (HBrx.out)]; rfl
      have z7 : wa.cell? ⟨rx, 7, none⟩ = some (.slice ya t.kids.length yc) := by rw [cellc (HBrx.out)]; rfl
      obtain ⟨o1, ho1⟩ : ∃ o, o = validT s := ⟨_, rfl⟩
      obtain ⟨o2, ho2⟩ : ∃ o, o = validT t := ⟨_, rfl⟩
      have hc1 := PValid_any (w := wa) (by have := HSZ.out; omega) HTX.out
      rw [← ho1] at hc1
      have HC1 := Lib.hid hc1
      rw [← ho1, ← ho2] at HRE
      have HO := Lib.hid (And.intro ho1 ho2)
      clear hc1 ho1 ho2
      go_wp2_with fail
      refine HC1.out.mono ?_
      rintro e w5 ⟨rfl, hE5⟩
      obtain ⟨z0, z1, z2, z3, z4, z5, z6, z7⟩ := cs_e8 hE5 ⟨z0, z1, z2, z3, z4, z5, z6, z7⟩
      have HTX := Lib.hid (HTX.out.ext hE5)
      have HTY := Lib.hid (HTY.out.ext hE5)
      have HEa := Lib.hid (HEa.out.trans hE5)
      have HBrx := Lib.hid (hs_ext hE5 HBrx.out)
      clear hE5
      by_cases h1 : o1 = 0
      · have e1 : (o1 != 0) = false := by simp [h1]
        have hc2 := PValid_any (w := w5) (by have := HSZ.out; omega) HTY.out
        rw [← HO.out.2] at hc2
        have HC2 := Lib.hid hc2
        have H1 := Lib.hid h1
        clear hc2 h1
        go_wp2_with fail
        refine HC2.out.mono ?_
        rintro e w6 ⟨rfl, hE6⟩
        obtain ⟨z0, z1, z2, z3, z4, z5, z6, z7⟩ := cs_e8 hE6 ⟨z0, z1, z2, z3, z4, z5, z6, z7⟩
        have HTX := Lib.hid (HTX.out.ext hE6)
        have HTY := Lib.hid (HTY.out.ext hE6)
        have HEa := Lib.hid (HEa.out.trans hE6)
        have HBrx := Lib.hid (hs_ext hE6 HBrx.out)
        clear hE6
        by_cases h2 : o2 = 0
        · have e2 : (o2 != 0) = false := by simp [h2]
          have HRE2 : Hid (ruleE r = if s.kind = 1 then 1 else if ∀ x ∈ varsT t, x ∈ varsT s then 0 else 13) := Lib.hid (by rw [HRE.out, H1.out, h2]; rfl)
          clear h2
          by_cases h3 : s.kind = 1
          · have e3 : (s.kind == 1) = true := by simp [h3]
            have HRF : Hid (E = 1) := Lib.hid (by
             have e : ruleE r = 1 := by rw [HRE2.out, if_pos h3]
             rw [HR.out, HST.out (by rw [e]; decide), e])
            clear h3
            go_wp2_with fail
            go_ret
            exact ⟨ri HRF.out.symm, HEa.out⟩
          · have e3 : (s.kind == 1) = false := by simp [h3]
            have HRE3 : Hid (ruleE r = if ∀ x ∈ varsT t, x ∈ varsT s then 0 else 13) := Lib.hid (by rw [HRE2.out, if_neg h3])
            clear h3
            have HCV := Lib.hid (PVars_any (w := w6) (by have := HSZ.out; omega) HTX.out)
            have HVS : Hid ((varsT s).length ≤ 100000 ∧ (∀ x ∈ varsT s, sizeT x ≤ 1000000) ∧ (varsT t).length ≤ 100000 ∧ (∀ x ∈ varsT t, sizeT x ≤ 1000000)) := Lib.hid ⟨Nat.le_trans (varsT_len s) HSZ.out.1, fun x hx => by have := varsT_size hx; have := HSZ.out; omega, Nat.le_trans (varsT_len t) HSZ.out.2, fun x hx => by have := varsT_size hx; have := HSZ.out; omega⟩
            obtain ⟨VS, hVS⟩ : ∃ V, V = varsT s := ⟨_, rfl⟩
            obtain ⟨VT, hVT⟩ : ∃ V, V = varsT t := ⟨_, rfl⟩
            rw [← hVS, ← hVT] at HVS
            rw [← hVS] at HCV
            have hre3 := HRE3.out
            simp only [← hVS, ← hVT] at hre3
            have HRE4 := Lib.hid hre3
            have HVT := Lib.hid hVT
            clear hVS hre3 hVT
            go_wp2_with fail
            refine HCV.out.mono ?_
            rintro e w7 ⟨u7, rfl, hE7, hO7⟩
            obtain ⟨z0, z1, z2, z3, z4, z5, z6, z7⟩ := cs_e8 hE7 ⟨z0, z1, z2, z3, z4, z5, z6, z7⟩
            have HTY := Lib.hid (HTY.out.ext hE7)
            have HEa := Lib.hid (HEa.out.trans hE7)
            have HBrx := Lib.hid (hs_ext hE7 HBrx.out)
            obtain ⟨va, vc, hv, -, hvc⟩ := hO7.slice
            subst hv
            unfold maxLen at hvc
            have HVL := Lib.hid hO7.ls
            have hcv2 := PVars_any (w := w7) (by have := HSZ.out; omega) HTY.out
            rw [← HVT.out] at hcv2
            have HCV2 := Lib.hid hcv2
            clear hE7 hO7 hcv2
            go_wp2_with fail
            refine HCV2.out.mono ?_
            rintro e w8 ⟨u8, rfl, hE8, hO8⟩
            obtain ⟨z0, z1, z2, z3, z4, z5, z6, z7⟩ := cs_e8 hE8 ⟨z0, z1, z2, z3, z4, z5, z6, z7⟩
            have HEa := Lib.hid (HEa.out.trans hE8)
            have HVL := Lib.hid (HVL.out.ext hE8)
            obtain ⟨ta, tc, hv, -, htc⟩ := hO8.slice
            subst hv
            unfold maxLen at htc
            have HTL := Lib.hid hO8.ls
            have hVl := HVS.out.2.2.1
            clear hE8 hO8
            go_wp2_with fail
            go_loopw [42] (fun jv wj => Hid (∃ j : Nat, jv = .int .i64 j ∧ j ≤ VT.length ∧ (∀ x ∈ VT.take j, x ∈ VS) ∧ Ext w8 wj)) (fun jv _ => VT.length - (intOf jv).toNat)
            case atStart => exact Lib.hid ⟨0, rfl, by omega, by simp, Ext.refl _⟩
            case round =>
             obtain ⟨j, rfl, hj, hall, hEj⟩ := hrel.out
             have HALL := Lib.hid hall
             have HEJ := Lib.hid hEj
             clear hrel hall hEj
             by_cases hjl : j < VT.length
             · obtain ⟨x, hx⟩ : ∃ x, VT[j]? = some x := ⟨_, List.getElem?_eq_getElem hjl⟩
               obtain ⟨xb, xo, xa', xc', rfl, x0, x1, x2, x3, hTx⟩ := (HTL.out.ext HEJ.out).ts.at hx
               obtain ⟨bb, wb, hbbb, hwbb, HBbb, hEbb⟩ := box_new wr (.cells #[.int .i64 x.kind, .string x.name, .int .i64 x.sort, .slice xa' x.kids.length xc'] 31)
               have HEb := Lib.hid (HEJ.out.trans hEbb)
               have hch := PHas_any HVS.out.2.1 (HVS.out.2.2.2 x (List.mem_of_getElem? hx)) (HVL.out.ext HEb.out) (hTx.ext hEbb)
               obtain ⟨b, hb⟩ : ∃ b, b = decide (x ∈ VS) := ⟨_, rfl⟩
               rw [← hb] at hch
               have HCH := Lib.hid hch
               have HB := Lib.hid hb
               have HX := Lib.hid hx
               clear hTx hx hEbb hch hb
               go_upto_region 18 with fail
               rw [← hwbb, ← hbbb]
               clear hwbb hbbb
               clear x0 x1 x2 x3
               obtain ⟨x0, x1, x2, x3⟩ := box4r (HBbb.out)
               go_wp2_with fail
               refine HCH.out.mono ?_
               rintro e wc ⟨rfl, hEc⟩
               have HEc := Lib.hid (HEb.out.trans hEc)
               clear hEc
               cases b with
               | true =>
                 have HN : Hid (∀ y ∈ VT.take (j + 1), y ∈ VS) := Lib.hid (fun y hy => by
                  rw [List.take_add_one, HX.out] at hy
                  rcases List.mem_append.1 hy with hy | hy
                  · exact HALL.out y hy
                  · simp at hy; subst hy; exact of_decide_eq_true HB.out.symm)
                 go_wp2_with fail
                 go_roundw
                 case rel => exact Lib.hid ⟨j + 1, by go_num, by omega, HN.out, HEc.out⟩
                 case measure => simp [intOf]; omega
               | false =>
                 have HRF : Hid (E = 13) := Lib.hid (by
                  have e : ruleE r = 13 := by rw [HRE4.out, if_neg (fun h => absurd (h x (List.mem_of_getElem? HX.out)) (of_decide_eq_false HB.out.symm))]
                  rw [HR.out, HST.out (by rw [e]; decide), e])
                 go_wp2_with fail
                 go_ret
                 exact ⟨ri HRF.out.symm, HEa.out.trans HEc.out⟩
             · have HRO : Hid (rulesL (R.take (k + 1)) = 0) := Lib.hid (by
                have h := HALL.out
                rw [List.take_of_length_le (by omega)] at h
                rw [HTK.out, H0.out, HRE4.out, if_pos h]; rfl)
               have hjz : ¬ ((j : Int) < (VT.length : Int)) := by omega
               go_wp2_with fail
               go_roundw
               case rel => exact Lib.hid ⟨k + 1, by go_num, by omega, HRO.out, HEa.out.trans HEJ.out⟩
               case measure => simp [intOf]; omega
        · have e2 : (o2 != 0) = true := by simp [h2]
          have HRF : Hid (E = o2) := Lib.hid (by
           have e : ruleE r = o2 := by rw [HRE.out, H1.out]; simp [orE, h2]
           rw [HR.out, HST.out (by rw [e]; exact h2), e])
          clear h2
          go_wp2_with fail
          go_ret
          exact ⟨ri HRF.out.symm, HEa.out⟩
      · have e1 : (o1 != 0) = true := by simp [h1]
        have HRF : Hid (E = o1) := Lib.hid (by
         have e : ruleE r = o1 := by rw [HRE.out]; simp [orE, h1]
         rw [HR.out, HST.out (by rw [e]; exact h1), e])
        clear h1
        go_wp2_with fail
        go_ret
        exact ⟨ri HRF.out.symm, HEa.out⟩
    · have HRF : Hid (E = 0) := Lib.hid (by
       have h := H0.out
       rw [List.take_of_length_le (by omega)] at h
       rw [HR.out, h])
      go_wp2_with fail
      go_ret
      exact ⟨ri HRF.out.symm, HE.out⟩

end Go.Proofs.Ytpfnlbaloaohgaa

namespace Go.Proofs.Ytpfnlbaloaohgaa
open Go
set_option linter.unusedVariables false
set_option linter.unusedSimpArgs false

/-- whether a rule can be applied at the root -/
def fitP (r : Rl) (u : Tm) : Bool := decide ((matchP r.1 u).1 = 0)
/-- the redexes at one place, by the first n rules -/
def fitI (R : List Rl) (u : Tm) (p : List Int) : Nat → List Rdx
 | 0 => []
 | n + 1 => fitI R u p n ++ (match R[n]? with | some r => if fitP r u then [((n : Int), p)] else [] | none => [])
def redAt (R : List Rl) (t : Tm) (p : List Int) : List Rdx := match atT p t with | some u => fitI R u p R.length | none => []
/-- the redexes of a term -/
def redP (R : List Rl) (t : Tm) : List Rdx := if orE (rulesE R) (validT t) ≠ 0 then [] else (posT t).flatMap (redAt R t)
theorem fitI_len (R : List Rl) (u : Tm) (p : List Int) : ∀ n, (fitI R u p n).length ≤ n
 | 0 => Nat.le_refl _
 | n + 1 => by
   rw [fitI, List.length_append]
   have := fitI_len R u p n
   split
   · split <;> simp <;> omega
   · simp; omega
theorem redAt_len (R : List Rl) (t : Tm) (p : List Int) : (redAt R t p).length ≤ R.length := by
 unfold redAt
 split
 · exact fitI_len _ _ _ _
 · simp
theorem flatMap_len_le {α β : Type} (f : α → List β) (n : Nat) (h : ∀ x, (f x).length ≤ n) : ∀ l : List α, (l.flatMap f).length ≤ l.length * n
 | [] => by simp
 | x :: l => by
   rw [List.flatMap_cons, List.length_append, List.length_cons, Nat.add_mul]
   have := h x
   have := flatMap_len_le f n h l
   omega
theorem flatMap_take {α β : Type} (f : α → List β) {l : List α} {i : Nat} {x : α} (h : l[i]? = some x) : (l.take (i + 1)).flatMap f = (l.take i).flatMap f ++ f x := by
 rw [List.take_add_one, h, List.flatMap_append]; simp

mutual
theorem posT_plen : ∀ (t : Tm) (p : List Int), p ∈ posT t → p.length ≤ sizeT t
 | .mk k n s l, p, h => by
   rw [posT] at h
   rw [sizeT]
   rcases List.mem_cons.1 h with rfl | h
   · simp
   · have := posL_plen l 0 p h; omega
theorem posL_plen : ∀ (l : List Tm) (i : Nat) (p : List Int), p ∈ posL l i → p.length ≤ 1 + sizeL l
 | [], i, p, h => by simp [posL] at h
 | t :: l, i, p, h => by
   rw [posL] at h
   rw [sizeL]
   rcases List.mem_append.1 h with h | h
   · obtain ⟨q, hq, rfl⟩ := List.mem_map.1 h
     have := posT_plen t q hq
     simp
     omega
   · have := posL_plen l (i + 1) p h; omega
end

end Go.Proofs.Ytpfnlbaloaohgaa

namespace Go.Proofs.Ytpfnlbaloaohgaa
open Go Go.RowKit
set_option linter.unusedVariables false
set_option linter.unusedSimpArgs false

set_option maxRecDepth 100000 in
set_option maxHeartbeats 4000000 in
theorem fits_any {w : World} {S S' S'' : Nat → Prop} {xa ya a : Option Addr} {xc yc cap : Nat} {r : Rl} {t : Tm} (hr : sizeT r.1 ≤ 1000000) (ht : sizeT t ≤ 1000000) (hX : TmW w S xa xc r.1) (hY : TmW w S' ya yc r.2) (hT : TmW w S'' a cap t) :
 Calls Try.prog 37 #[.agg #[.int .i64 r.1.kind, .string r.1.name, .int .i64 r.1.sort, .slice xa r.1.kids.length xc, .int .i64 r.2.kind, .string r.2.name, .int .i64 r.2.sort, .slice ya r.2.kids.length yc], .agg #[.int .i64 t.kind, .string t.name, .int .i64 t.sort, .slice a t.kids.length cap]] w fun e w' => e = .returned (.bool (fitP r t)) ∧ Ext w w' := by
 obtain ⟨s, u⟩ := r
 simp only at hr hX hY ⊢
 obtain ⟨rx, w1, hbrx, hwrx, HBrx, hErx⟩ := box_new w (.cells #[.int .i64 s.kind, .string s.name, .int .i64 s.sort, .slice xa s.kids.length xc, .int .i64 u.kind, .string u.name, .int .i64 u.sort, .slice ya u.kids.length yc] 55)
 have hs1 : w1.heap.size = rx + 1 := by rw [hwrx, hbrx, World.size_alloc]
 obtain ⟨bx, w2, hbbx, hwbx, HBbx, hEbx⟩ := box_new w1 (.cells #[.int .i64 t.kind, .string t.name, .int .i64 t.sort, .slice a t.kids.length cap] 31)
 rw [hs1] at hbbx
 have hE := hErx.trans hEbx
 have z0 : w2.cell? ⟨rx, 0, none⟩ = some (.int .i64 s.kind) := by rw [cellc (hs_ext hEbx HBrx.out)]; rfl
 have z1 : w2.cell? ⟨rx, 1, none⟩ = some (.string s.name) := by rw [cellc (hs_ext hEbx HBrx.out)]; rfl
 have z2 : w2.cell? ⟨rx, 2, none⟩ = some (.int .i64 s.sort) := by rw [cellc (hs_ext hEbx HBrx.out)]; rfl
 have z3 : w2.cell? ⟨rx, 3, none⟩ = some (.slice xa s.kids.length xc) := by rw [cellc (hs_ext hEbx HBrx.out)]; rfl
 have z4 : w2.cell? ⟨rx, 4, none⟩ = some (.int .i64 u.kind) := by rw [cellc (hs_ext hEbx HBrx.out)]; rfl
 have z5 : w2.cell? ⟨rx, 5, none⟩ = some (.string u.name) := by rw [cellc (hs_ext hEbx HBrx.out)]; rfl
 have z6 : w2.cell? ⟨rx, 6, none⟩ = some (.int .i64 u.sort) := by rw [cellc (hs_ext hEbx HBrx.out)]; rfl
 have z7 : w2.cell? ⟨rx, 7, none⟩ = some (.slice ya u.kids.length yc) := by rw [cellc (hs_ext hEbx HBrx.out)]; rfl
 obtain ⟨b0, b1, b2, b3⟩ := box4r (HBbx.out)
 have HC := Lib.hid (PMatch_any hr ht (hX.ext hE) (hT.ext hE))
 have HE := Lib.hid hE
 obtain ⟨m, hm⟩ : ∃ m, m = (matchP s t).1 := ⟨_, rfl⟩
 have hR : fitP (s, u) t = decide (m = 0) := by rw [hm]; rfl
 rw [hR]
 rw [← hm] at HC
 clear hX hY hT hE hErx hEbx hs1 hm hR
 go_enter Try.func37, Try.ntmps37
 go_upto_region 1 with fail
 rw [← hwrx, ← hbrx, ← hwbx, ← hbbx]
 clear hwrx hbrx hwbx hbbx
 go_wp2_with fail
 refine HC.out.mono ?_
 rintro e w3 ⟨v, rfl, hE3, -⟩
 have HE3 := Lib.hid (HE.out.trans hE3)
 clear hE3
 go_wp2_with fail
 go_ret
 exact ⟨rb (by rw [Bool.eq_iff_iff]; simp), HE3.out⟩

theorem built_redex (k : Int) (a : Option Addr) (l c : Nat) : Try.prog.built 45 [(0, .int .i64 k), (1, .slice a l c)] = some #[.int .i64 k, .slice a l c] := by kernel_rfl

theorem LsE.wideI {w : World} {S S' : Nat → Prop} {v : Value} {C : List Int} (h : LsE elI w S v C) : LsE elI w S' v C := by
 obtain ⟨a, cap, e, hl, hc, h⟩ := h
 refine ⟨a, cap, e, hl, hc, fun i x hi => ?_⟩
 obtain ⟨b, off, cs, e, hlt, hR, hcs⟩ := h i x hi
 exact ⟨b, off, cs, e, hlt, hR, hcs⟩

/-- what a row of our own leaves alone as it grows -/
structure RowK (w w' : World) (v v' : Value) : Prop where
 kept : ∀ b, b < w.heap.size → v.ownBlock ≠ some b → w'.heap[b]? = w.heap[b]?
 own : ∀ b, v'.ownBlock = some b → v.ownBlock = some b ∨ w.heap.size ≤ b
 size : w.heap.size ≤ w'.heap.size
theorem RowK.of_ext {w w' : World} {v : Value} (h : Ext w w') : RowK w w' v v := ⟨fun b hb _ => h.block hb, fun b h => .inl h, h.size⟩
theorem RowK.trans {w w' w'' : World} {v v' v'' : Value} (h : RowK w w' v v') (k : RowK w' w'' v' v'') : RowK w w'' v v'' := by
 refine ⟨fun b h1 h3 => ?_, fun b hb => ?_, Nat.le_trans h.size k.size⟩
 · rw [k.kept b (Nat.lt_of_lt_of_le h1 h.size) (fun e => by
    rcases h.own b e with e | e
    · exact h3 e
    · omega), h.kept b h1 h3]
 · rcases k.own b hb with e | e
   · exact h.own b e
   · exact .inr (Nat.le_trans h.size e)
theorem RowK.app {w w' : World} {v v' : Value} (h3 : w.grownBy w' v.ownBlock) (h4 : v'.ownBlock = v.ownBlock ∨ v'.ownBlock = some w.heap.size) : RowK w w' v v' := by
 refine ⟨fun b b1 b3 => h3.block b b1 (fun e => b3 e.symm), fun b hb => ?_, h3.size⟩
 rcases h4 with e | e
 · exact .inl (by rw [← e]; exact hb)
 · rw [e] at hb
   cases hb
   exact .inr (Nat.le_refl _)
theorem OwnG.turn {α : Type} {E : Elm α} {w' : World} {base n : Nat} {T : TypeId} {v v' : Value} {L : List α} (h : OwnG E w' base T (fun c => (base ≤ c ∧ v.ownBlock ≠ some c) ∧ c < n) v' L) (hat : v'.ownBlock = v.ownBlock ∨ v'.ownBlock = some n) : OwnG E w' base T (fun c => base ≤ c ∧ v'.ownBlock ≠ some c) v' L :=
 h.wide (fun c hc _ => ⟨hc.1.1, fun e => by
  rcases hat with h1 | h1
  · exact hc.1.2 (by rw [← h1]; exact e)
  · rw [h1] at e
    have := Option.some.inj e
    omega⟩)
theorem one_rdxE {w : World} {S : Nat → Prop} {fb : Nat} {k : Int} {p : List Int} {a : Option Addr} {c : Nat} (h : w.heap[fb]? = some (.cells #[.int .i64 k, .slice a p.length c] 45)) (hk : I64 k) (hp : LsG elI w S (.slice a p.length c) p) : LsE elX w S (.slice (some ⟨fb, 0, none⟩) 1 1) [(k, p)] :=
 cells_lsE (P := [((k, p), [.int .i64 k, .slice a p.length c])]) h rfl rfl rfl (by unfold maxLen; simp) (fun q hq => by simp at hq; subst hq; exact ⟨_, rfl, hk, hp⟩)

set_option maxRecDepth 100000 in
set_option maxHeartbeats 8000000 in
theorem PRedexes_any {w : World} {S S' : Nat → Prop} {a ta : Option Addr} {cap tc : Nat} {R : List Rl} {t : Tm} (hz : smallR R) (hL : LsG elP w S (.slice a R.length cap) R) (ht : sizeT t ≤ 100000) (hT : TmW w S' ta tc t) :
 Calls Try.prog 14 #[.slice a R.length cap, .agg #[.int .i64 t.kind, .string t.name, .int .i64 t.sort, .slice ta t.kids.length tc]] w fun e w' => ∃ v, e = .returned v ∧ Ext w w' ∧ LsG elX w' (fun c => w.heap.size ≤ c) v (redP R t) := by
 obtain ⟨-, hll, hlc⟩ := hL.len
 unfold maxLen at hlc
 obtain ⟨bx, w1, hbbx, hwbx, HBbx, hEbx⟩ := box_new w (.cells #[.int .i64 t.kind, .string t.name, .int .i64 t.sort, .slice ta t.kids.length tc] 31)
 obtain ⟨b0, b1, b2, b3⟩ := box4r (HBbx.out)
 have HL := Lib.hid (hL.ext hEbx).any
 have HT := Lib.hid (hT.ext hEbx).any
 have HZ := Lib.hid hz
 have HTZ := Lib.hid ht
 have HE1 := Lib.hid hEbx
 have hc1 := PRules_any hz (hL.ext hEbx)
 obtain ⟨o1, ho1⟩ : ∃ o, o = rulesE R := ⟨_, rfl⟩
 obtain ⟨o2, ho2⟩ : ∃ o, o = validT t := ⟨_, rfl⟩
 rw [← ho1] at hc1
 have HC1 := Lib.hid hc1
 obtain ⟨Z, hZ⟩ : ∃ Z, Z = redP R t := ⟨_, rfl⟩
 rw [← hZ]
 unfold redP at hZ
 rw [← ho1, ← ho2] at hZ
 have HZZ := Lib.hid hZ
 have HO := Lib.hid (And.intro ho1 ho2)
 clear hL hT hz ht hEbx hc1 ho1 ho2 hZ
 go_enter Try.func14, Try.ntmps14
 go_upto_region 1 with fail
 rw [← hwbx, ← hbbx]
 clear hwbx hbbx
 by_cases h1 : o1 = 0
 · have e1 : (o1 != 0) = false := by simp [h1]
   have H1 := Lib.hid h1
   clear h1
   go_wp2_with fail
   refine HC1.out.mono ?_
   rintro e w2 ⟨rfl, hE2⟩
   obtain ⟨b0, b1, b2, b3⟩ := cs_e4 hE2 ⟨b0, b1, b2, b3⟩
   have HL := Lib.hid (HL.out.ext hE2)
   have HT := Lib.hid (HT.out.ext hE2)
   have HE1 := Lib.hid (HE1.out.trans hE2)
   have HBbx := Lib.hid (hs_ext hE2 HBbx.out)
   have hc2 := PValid_any (w := w2) (by have := HTZ.out; omega) HT.out
   rw [← HO.out.2] at hc2
   have HC2 := Lib.hid hc2
   clear hE2 hc2
   go_wp2_with fail
   refine HC2.out.mono ?_
   rintro e w3 ⟨rfl, hE3⟩
   obtain ⟨b0, b1, b2, b3⟩ := cs_e4 hE3 ⟨b0, b1, b2, b3⟩
   have HL := Lib.hid (HL.out.ext hE3)
   have HT := Lib.hid (HT.out.ext hE3)
   have HE1 := Lib.hid (HE1.out.trans hE3)
   have HBbx := Lib.hid (hs_ext hE3 HBbx.out)
   clear hE3
   by_cases h2 : o2 = 0
   · have e2 : (o2 != 0) = false := by simp [h2]
     have HZ2 : Hid (Z = (posT t).flatMap (redAt R t)) := Lib.hid (by rw [HZZ.out, if_neg (by rw [H1.out, h2]; simp [orE])])
     have H40 : Hid (R.length ≤ 40) := Lib.hid (by
      have h := HO.out.1
      rw [H1.out] at h
      unfold rulesE at h
      split at h
      · omega
      · omega)
     have H400 : Hid (sizeT t ≤ 400) := Lib.hid (validT_iff.1 (by rw [← HO.out.2]; exact h2)).2.1
     clear h2
     have HCP := Lib.hid (PPositions_any (w := w3) (by have := H400.out; omega) HT.out)
     go_wp2_with fail
     refine HCP.out.mono ?_
     rintro e w4 ⟨v4, rfl, hE4, hP4⟩
     obtain ⟨b0, b1, b2, b3⟩ := cs_e4 hE4 ⟨b0, b1, b2, b3⟩
     have HL := Lib.hid (HL.out.ext hE4)
     have HT := Lib.hid (HT.out.ext hE4)
     have HE1 := Lib.hid (HE1.out.trans hE4)
     have HBbx := Lib.hid (hs_ext hE4 HBbx.out)
     obtain ⟨pa, pc, hv, -, hpc⟩ := hP4.slice
     subst hv
     unfold maxLen at hpc
     have HP4 := Lib.hid hP4.any
     have hpl : (posT t).length ≤ 400 := by rw [posT_len]; exact H400.out
     have HPLN : Hid (∀ p ∈ posT t, p.length ≤ 400) := Lib.hid (fun p hp => Nat.le_trans (posT_plen t p hp) H400.out)
     have HPAT : Hid (∀ p ∈ posT t, (atT p t).isSome = true) := Lib.hid (fun p hp => posT_at t p hp)
     obtain ⟨PS, hPS⟩ : ∃ PS, PS = posT t := ⟨_, rfl⟩
     rw [← hPS] at HP4 HPAT HPLN hpl HZ2
     rw [← hPS]
     clear hE4 hP4 hPS
     go_wp2_with fail
     go_loopw [5, 23] (fun ov kv wr => Hid (∃ k : Nat, kv = .int .i64 k ∧ k ≤ PS.length ∧ OwnG elX wr w4.heap.size 45 (fun c => w4.heap.size ≤ c ∧ ov.ownBlock ≠ some c) ov ((PS.take k).flatMap (redAt R t)) ∧ Ext w4 wr)) (fun _ kv _ => PS.length - (intOf kv).toNat)
     case atStart => exact Lib.hid ⟨0, rfl, by omega, by simp; exact OwnG.nil, Ext.refl _⟩
     case round =>
      obtain ⟨k, rfl, hk, hO, hE⟩ := hrel.out
      obtain ⟨O, hOd⟩ : ∃ O, O = (PS.take k).flatMap (redAt R t) := ⟨_, rfl⟩
      have hOl : O.length ≤ 400 * 40 := by
       have h := flatMap_len_le (redAt R t) 40 (fun x => Nat.le_trans (redAt_len R t x) H40.out) (PS.take k)
       rw [List.length_take] at h
       have h2 := Nat.mul_le_mul_right 40 (show min k PS.length ≤ 400 by omega)
       rw [hOd]; omega
      rw [← hOd] at hO
      have HOD := Lib.hid hOd
      clear hOd
      have HO5 := Lib.hid hO
      have HE5 := Lib.hid hE
      clear hrel hO hE
      obtain ⟨oa, oc, hov, -, hoc⟩ := HO5.out.slice
      subst hov
      have HOWN5 := Lib.hid (fun c (e : (Value.slice oa O.length oc).ownBlock = some c) => (HO5.out.lt c e).2)
      unfold maxLen at hoc
      obtain ⟨b0, b1, b2, b3⟩ := cs_e4 HE5.out ⟨b0, b1, b2, b3⟩
      by_cases hlt : k < PS.length
      · obtain ⟨p, hp⟩ : ∃ p, PS[k]? = some p := ⟨_, List.getElem?_eq_getElem hlt⟩
        obtain ⟨qb, qo, qa, qc, rfl, q0, hq1, hq2, hQ⟩ := (HP4.out.ext HE5.out).lAt hp
        unfold maxLen at hq2
        have HQ := Lib.hid hQ
        have HQ4 : Hid (LsG elI w4 (fun _ => True) (.slice qa p.length qc) p) := Lib.hid (by
         obtain ⟨q1, q2, q3, q4, q5, q6, -, -, hQ4⟩ := HP4.out.lAt hp
         cases q5
         have e := cs_ext HE5.out q6
         rw [q0] at e
         cases e
         exact hQ4)
        have hfm := flatMap_take (redAt R t) hp
        rw [← HOD.out] at hfm
        obtain ⟨u, hu⟩ := Option.isSome_iff_exists.1 (HPAT.out p (List.mem_of_getElem? hp))
        have hra : redAt R t p = fitI R u p R.length := by unfold redAt; rw [hu]
        rw [hra] at hfm
        have HFM := Lib.hid hfm
        have HUZ : Hid (sizeT u ≤ 400) := Lib.hid (Nat.le_trans (atT_size _ _ _ hu) H400.out)
        have HPL : Hid (p.length ≤ 1000000) := Lib.hid (by have := HPLN.out p (List.mem_of_getElem? hp); omega)
        have HCA := Lib.hid (PAt_any (w := wr) (by have := H400.out; omega) (HT.out.ext HE5.out) hQ)
        have HU := Lib.hid hu
        clear hp hQ hu hra hfm
        go_wp2_with fail
        refine HCA.out.mono ?_
        rintro e w6 ⟨v6, er, rfl, hE6, hA6⟩
        obtain ⟨rfl, ua, uc, rfl, hTu⟩ : er = 0 ∧ IsS w6 (fun c => wr.heap.size ≤ c) v6 u := by
         rcases hA6 with ⟨x, e1, e2, e3⟩ | ⟨e1, -⟩
         · rw [HU.out] at e1; cases e1; exact ⟨e2, e3⟩
         · rw [HU.out] at e1; cases e1
        obtain ⟨ux, w7, hbux, hwux, HBux, hEux⟩ := box_new w6 (.cells #[.int .i64 u.kind, .string u.name, .int .i64 u.sort, .slice ua u.kids.length uc] 31)
        have hE7 := hE6.trans hEux
        obtain ⟨b0, b1, b2, b3⟩ := cs_e4 hE7 ⟨b0, b1, b2, b3⟩
        have HO5 := Lib.hid (HO5.out.ext hE7)
        have HQ := Lib.hid (HQ.out.ext hE7)
        have HE67 := Lib.hid hE7
        have HE7 := Lib.hid (HE5.out.trans hE7)
        have HTU := Lib.hid ((hTu.ext hEux).wide (S' := fun c => (Value.slice oa O.length oc).ownBlock ≠ some c) (fun c h _ e => by have := (HOWN5.out c e); omega))
        have HUO : Hid ((Value.slice oa O.length oc).ownBlock ≠ some ux) := Lib.hid (fun e => by have := HOWN5.out ux e; have := hE6.size; omega)
        clear hE6 hA6 hTu hEux hE7 q0
        go_upto_region 8 with fail
        rw [← hwux, ← hbux]
        clear hwux hbux
        obtain ⟨u0, u1, u2, u3⟩ := box4r (HBux.out)
        go_wp2_with fail
        go_loopw [5, 10, 35] (fun ov _ jv wr => Hid (∃ j : Nat, jv = .int .i64 j ∧ j ≤ R.length ∧ OwnG elX wr w4.heap.size 45 (fun c => w4.heap.size ≤ c ∧ ov.ownBlock ≠ some c) ov (O ++ fitI R u p j) ∧ Ext w4 wr ∧ RowK w7 wr (.slice oa O.length oc) ov)) (fun _ _ jv _ => R.length - (intOf jv).toNat)
        case atStart => exact Lib.hid ⟨0, rfl, by omega, by simp [fitI]; exact HO5.out, HE7.out, RowK.of_ext (Ext.refl _)⟩
        case round =>
         obtain ⟨j, rfl, hj, hO, hE, hS⟩ := hrel.out
         have HS8 := Lib.hid hS
         obtain ⟨O2, hOd2⟩ : ∃ O2, O2 = O ++ fitI R u p j := ⟨_, rfl⟩
         have hOl2 : O2.length ≤ 1000000 := by
          have h := fitI_len R u p j
          have := H40.out
          rw [hOd2, List.length_append]; omega
         rw [← hOd2] at hO
         have HOD2 := Lib.hid hOd2
         have HO8 := Lib.hid hO
         have HE8 := Lib.hid hE
         clear hrel hO hE hOd2 hS u0 u1 u2 u3
         obtain ⟨ob, oc', hov, -, hoc'⟩ := HO8.out.slice
         subst hov
         unfold maxLen at hoc'
         obtain ⟨u0, u1, u2, u3⟩ := box4r (by rw [HS8.out.kept ux (lt_of_get' HBux.out) HUO.out]; exact HBux.out)
         have HTU8 := Lib.hid (HTU.out.keep (w' := wr) (fun c h1 h2 => HS8.out.kept c h2 h1) (fun _ h _ => h))
         by_cases hjl : j < R.length
         · obtain ⟨r, hr⟩ : ∃ r, R[j]? = some r := ⟨_, List.getElem?_eq_getElem hjl⟩
           obtain ⟨rb, ro, xa, xc, ya, yc, rfl, ⟨x0, x1, x2, x3⟩, ⟨y0, y1, y2, y3⟩, hTx, hTy⟩ := (HL.out.ext HE8.out).pAt hr
           have hsz := HZ.out r (List.mem_of_getElem? hr)
           have hfi : O ++ fitI R u p (j + 1) = O2 ++ (if fitP r u then [((j : Int), p)] else []) := by rw [HOD2.out, fitI, hr, List.append_assoc]
           obtain ⟨rx, wa, hbrx, hwrx, HBrx, hErx⟩ := box_new wr (.cells #[.int .i64 r.1.kind, .string r.1.name, .int .i64 r.1.sort, .slice xa r.1.kids.length xc, .int .i64 r.2.kind, .string r.2.name, .int .i64 r.2.sort, .slice ya r.2.kids.length yc] 55)
           have HEa := Lib.hid (HE8.out.trans hErx)
           have HERa := Lib.hid hErx
           have hcf := fits_any (r := r) (by omega) (by have := HUZ.out; omega) (hTx.ext hErx) (hTy.ext hErx) (HTU8.out.ext hErx)
           obtain ⟨b, hb⟩ : ∃ b, b = fitP r u := ⟨_, rfl⟩
           rw [← hb] at hcf hfi
           have HCF := Lib.hid hcf
           have HFI := Lib.hid hfi
           have HOa := Lib.hid (HO8.out.ext hErx)
           obtain ⟨u0, u1, u2, u3⟩ := cs_e4 hErx ⟨u0, u1, u2, u3⟩
           clear hr hsz hfi hcf hb hTx hTy hErx
           go_upto_region 11 with fail
           rw [← hwrx, ← hbrx]
           clear hwrx hbrx
           clear x0 x1 x2 x3 y0 y1 y2 y3
           have z0 : wa.cell? ⟨rx, 0, none⟩ = some (.int .i64 r.1.kind) := by rw [cellc (HBrx.out)]; rfl
           have z1 : wa.cell? ⟨rx, 1, none⟩ = some (.string r.1.name) := by rw [cellc (HBrx.out)]; rfl
           have z2 : wa.cell? ⟨rx, 2, none⟩ = some (.int .i64 r.1.sort) := by rw [cellc (HBrx.out)]; rfl
           have z3 : wa.cell? ⟨rx, 3, none⟩ = some (.slice xa r.1.kids.length xc) := by rw [cellc (HBrx.out)]; rfl
           have z4 : wa.cell? ⟨rx, 4, none⟩ = some (.int .i64 r.2.kind) := by rw [cellc (HBrx.out)]; rfl
           have z5 : wa.cell? ⟨rx, 5, none⟩ = some (.string r.2.name) := by rw [cellc (HBrx.out)]; rfl
           have z6 : wa.cell? ⟨rx, 6, none⟩ = some (.int .i64 r.2.sort) := by rw [cellc (HBrx.out)]; rfl
           have z7 : wa.cell? ⟨rx, 7, none⟩ = some (.slice ya r.2.kids.length yc) := by rw [cellc (HBrx.out)]; rfl
           go_wp2_with fail
           refine HCF.out.mono ?_
           rintro e wb ⟨rfl, hEb⟩
           have HEb := Lib.hid (HEa.out.trans hEb)
           have HOb := Lib.hid (HOa.out.ext hEb)
           have HERb := Lib.hid (HERa.out.trans hEb)
           clear hEb
           cases b with
           | false =>
             have HN : Hid (O ++ fitI R u p (j + 1) = O2) := Lib.hid (by rw [HFI.out]; simp)
             go_wp2_with fail
             go_roundw
             case rel => exact Lib.hid ⟨j + 1, by go_num, by omega, by rw [HN.out]; exact HOb.out, HEb.out, HS8.out.trans (RowK.of_ext HERb.out)⟩
             case measure => simp [intOf]; omega
           | true =>
             have HN : Hid (O ++ fitI R u p (j + 1) = O2 ++ [((j : Int), p)]) := Lib.hid (by rw [HFI.out]; simp)
             have HJ : Hid (I64 (j : Int)) := Lib.hid (by have := H40.out; unfold I64; omega)
             obtain ⟨wc, hwc⟩ : ∃ zz9, zz9 = wb.alloc (.cells #[] 3) := ⟨_, rfl⟩
             obtain ⟨cb, hcb⟩ : ∃ zz9, zz9 = wb.heap.size := ⟨_, rfl⟩
             have hEc : Ext wb wc := by rw [hwc]; exact Ext.alloc _ _
             have HOc : Hid (OwnG elI wc wb.heap.size 3 (fun _ => False) (.slice (some ⟨cb, 0, none⟩) 0 0) []) := Lib.hid (by rw [hwc, hcb]; exact own_made (Nat.le_refl _))
             have HOd := Lib.hid (HOb.out.ext hEc)
             have HQc := Lib.hid ((((HQ4.out.ext HEb.out).ext hEc).e).wideI (S' := fun _ => False))
             have HEc := Lib.hid (HEb.out.trans hEc)
             have HEcb := Lib.hid hEc
             have HCS : Hid (wb.heap.size ≤ wc.heap.size ∧ w4.heap.size ≤ wb.heap.size) := Lib.hid ⟨hEc.size, HEb.out.size⟩
             clear hEc
             go_wp2_with (first
              | (at_builtin
                 rw [← hwc, ← hcb]
                 refine wpList_appG (E := elI) (T := 3) rfl 43 (.tmp 45) (.tmp 46) rfl rfl rfl Try.underlying43 infInt rfl (by decide) (by decide) HOc.out HCS.out.1 (fun c h => absurd h id) (by simp) (M := p) HPL.out HQc.out ?_
                 intro v9 w9 o9 g9 k9
                 rw [List.nil_append] at o9
                 obtain ⟨c1, c2, hv9, -, hc9⟩ := o9.slice
                 unfold maxLen at hc9
                 have hE9 : Ext wb w9 := Ext.grown HEcb.out g9 (fun c hc => (HOc.out.lt c hc).1)
                 have HE9 := Lib.hid (HEb.out.trans hE9)
                 have HER9 := Lib.hid (HERb.out.trans hE9)
                 have HO9 := Lib.hid (HOb.out.ext hE9)
                 have HQ9 := Lib.hid (((elI_wide (w' := w9) (S' := fun c => wb.heap.size ≤ c) o9).new (fun c h _ => h)).wide (S' := fun c => w4.heap.size ≤ c ∧ (Value.slice ob O2.length oc').ownBlock ≠ some c) (fun c h _ => ⟨by have := HCS.out.2; omega, fun e => by have := (HOb.out.lt c e).2; omega⟩))
                 subst hv9
                 clear o9 g9 k9 hE9)
              | (refine wpList_buildG (T := 45) rfl [_, _] rfl [(0, .int .i64 (j : Int)), (1, .slice c1 p.length c2)] rfl (built_redex _ _ _ _) ?_)
              | (at_builtin
                 refine wpList_appG (E := elX) (T := 45) rfl 41 (.tmp 43) (.tmp 49) rfl rfl rfl Try.underlying41 infRedex rfl (by decide) (by decide) ((HO9.out.ext (Ext.alloc _ _)).wide (S' := fun c => (w4.heap.size ≤ c ∧ (Value.slice ob O2.length oc').ownBlock ≠ some c) ∧ c < w9.heap.size + 1) (fun c h h2 => ⟨h, by simpa using h2⟩)) (HE9.out.then_al _).size (fun c h => h.1.2) hOl2 (M := [((j : Int), p)]) (by simp) (one_rdxE hs_new HJ.out ((HQ9.out.ext (Ext.alloc _ _)).wide (fun c h h2 => ⟨h, by simpa using h2⟩))) ?_
                 intro v5 wf o5 g5 k5
                 have HE5f : Hid (Ext w4 wf) := Lib.hid (Ext.grown (HE9.out.then_al _) g5 (fun c hc => (HO9.out.lt c hc).1))
                 have HS5f := Lib.hid ((HS8.out.trans (RowK.of_ext (HER9.out.then_al _))).trans (RowK.app g5 k5))
                 rw [World.size_alloc] at k5
                 have HO5f := Lib.hid (o5.turn k5)
                 clear o5 g5 k5))
             go_roundw
             case rel => exact Lib.hid ⟨j + 1, by go_num, by omega, by rw [HN.out]; exact HO5f.out, HE5f.out, HS5f.out⟩
             case measure => simp [intOf]; omega
         · have HN : Hid ((PS.take (k + 1)).flatMap (redAt R t) = O2) := Lib.hid (by
            have e : j = R.length := by omega
            rw [HFM.out, HOD2.out, e])
           have hjz : ¬ ((j : Int) < (R.length : Int)) := by omega
           go_wp2_with fail
           go_roundw
           case rel => exact Lib.hid ⟨k + 1, by go_num, by omega, by rw [HN.out]; exact HO8.out, HE8.out⟩
           case measure => simp [intOf]; omega
      · have HF : Hid (O = Z) := Lib.hid (by rw [HOD.out, HZ2.out, List.take_of_length_le (by omega)])
        have HOF := Lib.hid (HO5.out.ls (S' := fun c => w.heap.size ≤ c) (fun c h _ => by have := HE1.out.size; omega) (fun g _ h1 _ => by have := HE1.out.size; omega))
        go_wp2_with fail
        go_ret
        exact ⟨_, rfl, HE1.out.trans HE5.out, by rw [← HF.out]; exact HOF.out⟩
   · have e2 : (o2 != 0) = true := by simp [h2]
     have HZ2 : Hid (Z = []) := Lib.hid (by rw [HZZ.out, if_pos (by rw [H1.out]; simp [orE, h2])])
     clear h2
     go_wp2_with fail
     go_ret
     exact ⟨_, rfl, HE1.out, by rw [HZ2.out]; exact LsG.nil⟩
 · have e1 : (o1 != 0) = true := by simp [h1]
   have HZ2 : Hid (Z = []) := Lib.hid (by rw [HZZ.out, if_pos (by simp [orE, h1])])
   clear h1
   go_wp2_with fail
   refine HC1.out.mono ?_
   rintro e w2 ⟨rfl, hE2⟩
   have HE2 := Lib.hid (HE1.out.trans hE2)
   clear hE2
   go_wp2_with fail
   go_ret
   exact ⟨_, rfl, HE2.out, by rw [HZ2.out]; exact LsG.nil⟩

end Go.Proofs.Ytpfnlbaloaohgaa
