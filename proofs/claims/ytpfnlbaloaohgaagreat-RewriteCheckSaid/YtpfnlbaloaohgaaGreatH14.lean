/- Contracts: the reference's Fits, same, both. Contracts: the pairs of matching. -/
import Derived.Test.YtpfnlbaloaohgaaGreatH3
import Derived.Test.YtpfnlbaloaohgaaGreatH13
import Derived.Test.YtpfnlbaloaohgaaGreatH10
import Derived.Deep.RegionLaw
import Derived.StillTailTactics
namespace Go.Proofs.YtpfnlbaloaohgaaGreat
open Go Go.RowKit
set_option linter.unusedVariables false
set_option linter.unusedSimpArgs false

set_option maxHeartbeats 2000000 in
theorem rsame_any {w : World} {S S' : Nat → Prop} {a a' : Option Addr} {cap cap' : Nat} {s t : Tm} (hT : TmW w S a cap s) (hT' : TmW w S' a' cap' t) :
 Calls Tryz.prog 87 #[.agg #[.int .i64 s.kind, .string s.name, .int .i64 s.sort, .slice a s.kids.length cap], .agg #[.int .i64 t.kind, .string t.name, .int .i64 t.sort, .slice a' t.kids.length cap']] w fun e w' => e = .returned (.bool (alikeT s t)) ∧ Ext w w' := by
 have hl := hT.len
 have hc := hT.cap
 have hl' := hT'.len
 have hc' := hT'.cap
 unfold maxLen at hc hc'
 clear hT hT'
 obtain ⟨R, hR⟩ : ∃ R, R = alikeT s t := ⟨_, rfl⟩
 rw [← hR]
 have HR := Lib.hid hR
 clear hR
 go_enter Tryz.func87, Tryz.ntmps87
 go_wp2_with fail
 all_goals go_ret
 all_goals
  refine ⟨rb ?_, (Ext.alloc _ _).then_al _⟩
  rw [HR.out, alikeT_eq]
  simp [*]

theorem rboth_any {w : World} {S S' : Nat → Prop} {a a' : Option Addr} {cap cap' : Nat} {s t : Tm} (hs6 : sizeT s ≤ 1000000) (ht6 : sizeT t ≤ 1000000) (hT : TmW w S a cap s) (hT' : TmW w S' a' cap' t) :
 Calls Tryz.prog 64 #[.agg #[.int .i64 s.kind, .string s.name, .int .i64 s.sort, .slice a s.kids.length cap], .agg #[.int .i64 t.kind, .string t.name, .int .i64 t.sort, .slice a' t.kids.length cap']] w fun e w' => e = .returned (.int .i64 (orE (validT s) (validT t))) ∧ Ext w w' := by
 have hl := hT.len
 have hc := hT.cap
 have hl' := hT'.len
 have hc' := hT'.cap
 have hcon := fun (w' : World) (hE : Ext w w') => RValid_any (w := w') hs6 (hT.ext hE)
 have hcon' := fun (w' : World) (hE : Ext w w') => RValid_any (w := w') ht6 (hT'.ext hE)
 obtain ⟨o, ho⟩ : ∃ o, o = validT s := ⟨_, rfl⟩
 obtain ⟨o', ho'⟩ : ∃ o, o = validT t := ⟨_, rfl⟩
 rw [← ho] at hcon ⊢
 rw [← ho'] at hcon' ⊢
 have HC := Lib.hid hcon
 have HC' := Lib.hid hcon'
 obtain ⟨bx, w1, hbbx, hwbx, HBbx, hEbx⟩ := box_new w (.cells #[.int .i64 s.kind, .string s.name, .int .i64 s.sort, .slice a s.kids.length cap] 25)
 obtain ⟨by1, w2, hbby1, hwby1, HBby1, hEby1⟩ := box_new w1 (.cells #[.int .i64 t.kind, .string t.name, .int .i64 t.sort, .slice a' t.kids.length cap'] 25)
 have hE := hEbx.trans hEby1
 obtain ⟨b0, b1, b2, b3⟩ := box4r (hs_ext hEby1 HBbx.out)
 obtain ⟨c0, c1, c2, c3⟩ := box4r (HBby1.out)
 have hs1 : w1.heap.size = bx + 1 := by rw [hwbx, hbbx, World.size_alloc]
 have HE := Lib.hid hE
 rw [hs1] at hbby1
 clear hcon hcon' hT hT' ho ho' hE hEbx hEby1 hs1
 go_enter Tryz.func64, Tryz.ntmps64
 go_upto_region 1 with fail
 rw [← hwbx, ← hbbx, ← hwby1, ← hbby1]
 clear hwbx hbbx hwby1 hbby1
 by_cases h0 : o = 0
 · subst h0
   go_wp2_with fail
   refine (HC.out _ HE.out).mono ?_
   rintro e w3 ⟨rfl, hE3⟩
   obtain ⟨c0, c1, c2, c3⟩ := cs_e4 hE3 ⟨c0, c1, c2, c3⟩
   have HE3 := Lib.hid (HE.out.trans hE3)
   clear hE3
   go_wp2_with fail
   refine (HC'.out _ HE3.out).mono ?_
   rintro e w4 ⟨rfl, hE4⟩
   have HE4 := Lib.hid (HE3.out.trans hE4)
   clear hE4
   go_wp2_with fail
   go_ret
   exact ⟨ri (by simp [orE]), HE4.out⟩
 · have HR : Hid (orE o o' = o) := Lib.hid (by simp [orE, h0])
   have e0 : (o != 0) = true := by simp [h0]
   clear h0
   go_wp2_with fail
   refine (HC.out _ HE.out).mono ?_
   rintro e w3 ⟨rfl, hE3⟩
   have HE3 := Lib.hid (HE.out.trans hE3)
   clear hE3
   go_wp2_with fail
   go_ret
   exact ⟨ri HR.out.symm, HE3.out⟩

set_option maxHeartbeats 2000000 in
theorem rFits_any {w : World} {S S' : Nat → Prop} {a a' : Option Addr} {cap cap' : Nat} {s t : Tm} (hT : TmW w S a cap s) (hT' : TmW w S' a' cap' t) :
 Calls Tryz.prog 86 #[.agg #[.int .i64 s.kind, .string s.name, .int .i64 s.sort, .slice a s.kids.length cap], .agg #[.int .i64 t.kind, .string t.name, .int .i64 t.sort, .slice a' t.kids.length cap']] w fun e w' => e = .returned (.bool (fitsT s t)) ∧ Ext w w' := by
 obtain ⟨R, hR⟩ : ∃ R, R = fitsT s t := ⟨_, rfl⟩
 rw [← hR]
 have HR : Hid (R = ((s.sort == 0) || ((t.kind != 3) && (t.sort == s.sort)))) := Lib.hid (by rw [hR, Bool.eq_iff_iff]; simp [fitsT])
 clear hR hT hT'
 go_enter Tryz.func86, Tryz.ntmps86
 go_wp2_with fail
 all_goals go_ret
 all_goals
  refine ⟨rb ?_, (Ext.alloc _ _).then_al _⟩
  first
   | (rw [HR.out]; done)
   | (rw [HR.out]; simp [*]; done)
   | (rw [HR.out]; simp_all; done)

theorem prL_snoc : ∀ (l m : List Tm) (a b : Tm), l.length = m.length → prL (l ++ [a]) (m ++ [b]) = (prL l m).bind (fun x => (prT a b).map (fun y => x ++ y))
 | [], [], a, b, _ => by simp only [List.nil_append, prL]; cases prT a b <;> simp
 | [], _ :: _, a, b, h => by simp at h
 | _ :: _, [], a, b, h => by simp at h
 | x :: l, y :: m, a, b, h => by
   simp only [List.cons_append, prL]
   rw [prL_snoc l m a b (by simpa using h)]
   cases prT x y with
   | none => rfl
   | some u =>
     cases prL l m with
     | none => rfl
     | some v =>
       cases prT a b with
       | none => rfl
       | some z => simp
theorem prL_none : ∀ (l m l' m' : List Tm), l.length = m.length → prL l m = none → prL (l ++ l') (m ++ m') = none
 | [], [], l', m', _, h => by simp [prL] at h
 | [], _ :: _, _, _, h, _ => by simp at h
 | _ :: _, [], _, _, h, _ => by simp at h
 | x :: l, y :: m, l', m', h, hn => by
   simp only [List.cons_append, prL] at hn ⊢
   cases hx : prT x y with
   | none => rfl
   | some u =>
     rw [hx] at hn
     simp only at hn ⊢
     cases hv : prL l m with
     | none => rw [prL_none l m l' m' (by simpa using h) hv]
     | some v => rw [hv] at hn; cases hn
theorem prL_take {l m : List Tm} {i : Nat} {a b : Tm} (ha : l[i]? = some a) (hb : m[i]? = some b) : prL (l.take (i + 1)) (m.take (i + 1)) = (prL (l.take i) (m.take i)).bind (fun x => (prT a b).map (fun y => x ++ y)) := by
 have h1 := (List.getElem?_eq_some_iff.1 ha).1
 have h2 := (List.getElem?_eq_some_iff.1 hb).1
 rw [List.take_add_one, List.take_add_one, ha, hb]
 exact prL_snoc _ _ a b (by rw [List.length_take, List.length_take]; omega)
theorem prL_stop {l m : List Tm} {i : Nat} (h : l.length = m.length) (hn : prL (l.take i) (m.take i) = none) : prL l m = none := by
 have h4 := prL_none _ _ (l.drop i) (m.drop i) (by rw [List.length_take, List.length_take]; omega) hn
 rwa [List.take_append_drop, List.take_append_drop] at h4

/-- what matching leaves: the row has the pairs of L and those of the match -/
def pairsR (w w' : World) (base : Nat) (S : Nat → Prop) (v : Value) (L : List (Tm × Tm)) (n : Nat) (o : Option (List (Tm × Tm))) (v' : Value) : Prop :=
 ∃ L', OwnG elP w' base 94 S v' L' ∧ (∀ l, o = some l → L' = L ++ l) ∧ L'.length ≤ L.length + n ∧ RowK w w' v v' ∧ ∀ W0, Ext W0 w → W0.heap.size ≤ base → Ext W0 w'
theorem box4' {w : World} {g T : Nat} {a b c d : Value} (h : w.heap[g]? = some (.cells #[a, b, c, d] T)) : w.cell? ⟨g, 0, none⟩ = some a ∧ w.cell? ⟨g, 1, none⟩ = some b ∧ w.cell? ⟨g, 2, none⟩ = some c ∧ w.cell? ⟨g, 3, none⟩ = some d := by
 refine ⟨?_, ?_, ?_, ?_⟩ <;> (rw [cellc h]; rfl)
theorem RowK.cells {w w' : World} {v v' : Value} (h : RowK w w' v v') {b : Nat} {o : Obj} (hb : w.heap[b]? = some o) (hne : v.ownBlock ≠ some b) : w'.heap[b]? = some o := by
 rw [h.kept b (lt_of_get' hb) hne]; exact hb

set_option maxRecDepth 100000 in
set_option maxHeartbeats 16000000 in
theorem rmatch_any (n : Nat) : ∀ (w : World) (base : Nat) (S : Nat → Prop) (a a' : Option Addr) (cap cap' : Nat) (p t : Tm) (v : Value) (L : List (Tm × Tm)), (∀ c, S c → c < base) → sizeT p ≤ n → L.length + sizeT p ≤ 100000 → sizeT t ≤ 100000 → base ≤ w.heap.size → TmW w S a cap p → TmW w S a' cap' t → OwnG elP w base 94 S v L →
 Calls Tryz.prog 65 #[.agg #[.int .i64 p.kind, .string p.name, .int .i64 p.sort, .slice a p.kids.length cap], .agg #[.int .i64 t.kind, .string t.name, .int .i64 t.sort, .slice a' t.kids.length cap'], v] w fun e w' => ∃ v', e = .returned (.tuple #[v', .bool (prT p t).isSome]) ∧ pairsR w w' base S v L (sizeT p) (prT p t) v' := by
 induction n with
 | zero => intro w base S a a' cap cap' p t v L hSB hp; have := sizeT_kids p; omega
 | succ n ih =>
   intro w base S a a' cap cap' p t v L hSB hp hn ht hB hT hT' hO
   have HSB := Lib.hid hSB
   clear hSB
   obtain ⟨bx, w1, hbbx, hwbx, HBbx, hEbx⟩ := box_new w (.cells #[.int .i64 p.kind, .string p.name, .int .i64 p.sort, .slice a p.kids.length cap] 25)
   obtain ⟨cx, w2, hbcx, hwcx, HBcx, hEcx⟩ := box_new w1 (.cells #[.int .i64 t.kind, .string t.name, .int .i64 t.sort, .slice a' t.kids.length cap'] 25)
   have hE := hEbx.trans hEcx
   have hs1 : w1.heap.size = bx + 1 := by rw [hwbx, hbbx, World.size_alloc]
   rw [hs1] at hbcx
   obtain ⟨b0, b1, b2, b3⟩ := box4r (hs_ext hEcx HBbx.out)
   obtain ⟨c0, c1, c2, c3⟩ := box4r (HBcx.out)
   have HBX := Lib.hid (hs_ext hEcx HBbx.out)
   have HBC := Lib.hid HBcx.out
   have HNB : Hid (w.heap.size = bx ∧ cx = bx + 1) := Lib.hid ⟨hbbx.symm, hbcx⟩
   have HE := Lib.hid hE
   have HW := Lib.hid (And.intro hB (And.intro hp (And.intro hn ht)))
   have HT := Lib.hid (hT.ext hE)
   have HT' := Lib.hid (hT'.ext hE)
   have HO := Lib.hid (hO.ext hE)
   have HOL := Lib.hid (fun c (e : v.ownBlock = some c) => hO.lt c e)
   have HRK : Hid (RowK w w2 v v) := Lib.hid (RowK.of_ext hE)
   have hkl := hT.len
   have hkc := hT.cap
   have hkl' := hT'.len
   have hkc' := hT'.cap
   unfold maxLen at hkc hkc'
   obtain ⟨va, vc, rfl, hvl, hvc⟩ := hO.slice
   unfold maxLen at hvc
   have IH := Lib.hid ih
   obtain ⟨Z, hZ⟩ : ∃ Z, Z = prT p t := ⟨_, rfl⟩
   rw [← hZ]
   rw [prT_eq] at hZ
   have HZ := Lib.hid hZ
   clear hT hT' hO hE hEbx hEcx hB hp hn ht ih hZ hs1
   by_cases h1 : p.kind = 1
   · have e1 : (p.kind == 1) = true := by simp [h1]
     have HZ1 : Hid (Z = if fitsT p t then some [(p, t)] else none) := Lib.hid (by rw [HZ.out, if_pos h1])
     obtain ⟨f, hf⟩ : ∃ f, f = fitsT p t := ⟨_, rfl⟩
     rw [← hf] at HZ1
     have HF := Lib.hid hf
     clear h1 hf
     go_enter Tryz.func65, Tryz.ntmps65
     go_upto_region 1 with fail
     rw [← hwbx, ← hbbx, ← hwcx, ← hbcx]
     clear hwbx hbbx hwcx hbcx
     have b0a := cs_al (o := (.cells #[.int .i64 p.kind, .string p.name, .int .i64 p.sort, .slice a p.kids.length cap, .int .i64 t.kind, .string t.name, .int .i64 t.sort, .slice a' t.kids.length cap'] 94)) b0
     have b1a := cs_al (o := (.cells #[.int .i64 p.kind, .string p.name, .int .i64 p.sort, .slice a p.kids.length cap, .int .i64 t.kind, .string t.name, .int .i64 t.sort, .slice a' t.kids.length cap'] 94)) b1
     have b2a := cs_al (o := (.cells #[.int .i64 p.kind, .string p.name, .int .i64 p.sort, .slice a p.kids.length cap, .int .i64 t.kind, .string t.name, .int .i64 t.sort, .slice a' t.kids.length cap'] 94)) b2
     have b3a := cs_al (o := (.cells #[.int .i64 p.kind, .string p.name, .int .i64 p.sort, .slice a p.kids.length cap, .int .i64 t.kind, .string t.name, .int .i64 t.sort, .slice a' t.kids.length cap'] 94)) b3
     have c0a := cs_al (o := (.cells #[.int .i64 p.kind, .string p.name, .int .i64 p.sort, .slice a p.kids.length cap, .int .i64 t.kind, .string t.name, .int .i64 t.sort, .slice a' t.kids.length cap'] 94)) c0
     have c1a := cs_al (o := (.cells #[.int .i64 p.kind, .string p.name, .int .i64 p.sort, .slice a p.kids.length cap, .int .i64 t.kind, .string t.name, .int .i64 t.sort, .slice a' t.kids.length cap'] 94)) c1
     have c2a := cs_al (o := (.cells #[.int .i64 p.kind, .string p.name, .int .i64 p.sort, .slice a p.kids.length cap, .int .i64 t.kind, .string t.name, .int .i64 t.sort, .slice a' t.kids.length cap'] 94)) c2
     have c3a := cs_al (o := (.cells #[.int .i64 p.kind, .string p.name, .int .i64 p.sort, .slice a p.kids.length cap, .int .i64 t.kind, .string t.name, .int .i64 t.sort, .slice a' t.kids.length cap'] 94)) c3
     have hEd : Ext w2 w2.drew := Ext.drew w2
     obtain ⟨b0, b1, b2, b3, c0, c1, c2, c3⟩ := cs_e8 hEd ⟨b0, b1, b2, b3, c0, c1, c2, c3⟩
     have HBX := Lib.hid (hs_ext hEd HBX.out)
     have HBC := Lib.hid (hs_ext hEd HBC.out)
     have HE := Lib.hid (HE.out.trans hEd)
     have HT := Lib.hid (HT.out.ext hEd)
     have HT' := Lib.hid (HT'.out.ext hEd)
     have HO := Lib.hid (HO.out.ext hEd)
     have HRD : Hid (RowK w w2.drew (.slice va L.length vc) (.slice va L.length vc)) := Lib.hid (HRK.out.trans (RowK.of_ext hEd))
     clear hEd
     go_upto_region 2 with fail
     go_region_law (first
      | (refine step_appG (E := elP) (T := 94) rfl 90 (.tmp 13) (.tmp 17) rfl rfl rfl Tryz.underlying90 infPair rfl (by decide) (by decide) (HO.out.ext (by repeat (first | exact Ext.refl _ | exact Ext.alloc _ _ | apply Ext.then_dr | apply Ext.then_drN | apply Ext.then_drN2 | (refine Ext.then_al ?_ _)))) (Nat.le_trans (Nat.le_trans HW.out.1 HE.out.size) (Ext.size (by repeat (first | exact Ext.refl _ | exact Ext.alloc _ _ | apply Ext.then_dr | apply Ext.then_drN | apply Ext.then_drN2 | (refine Ext.then_al ?_ _))))) (fun c hc e => by have := (HO.out.lt c e).1; have := HSB.out c hc; omega) (by have := HW.out; omega) (M := [(p, t)]) (by simp) (one_pair hs_new (HT.out.ext (by repeat (first | exact Ext.refl _ | exact Ext.alloc _ _ | apply Ext.then_dr | apply Ext.then_drN | apply Ext.then_drN2 | (refine Ext.then_al ?_ _)))) (HT'.out.ext (by repeat (first | exact Ext.refl _ | exact Ext.alloc _ _ | apply Ext.then_dr | apply Ext.then_drN | apply Ext.then_drN2 | (refine Ext.then_al ?_ _))))) ?_
         intro v5 w5 o5 g5 k5
         have hR5 : RowK w w5 (.slice va L.length vc) v5 := (HRD.out.trans (RowK.of_ext (by repeat (first | exact Ext.refl _ | exact Ext.alloc _ _ | apply Ext.then_dr | apply Ext.then_drN | apply Ext.then_drN2 | (refine Ext.then_al ?_ _))))).trans (RowK.app g5 k5)
         have hX5 : ∀ W0, Ext W0 w → W0.heap.size ≤ base → Ext W0 w5 := fun W0 h1 h2 => ((h1.trans HE.out).trans (by repeat (first | exact Ext.refl _ | exact Ext.alloc _ _ | apply Ext.then_dr | apply Ext.then_drN | apply Ext.then_drN2 | (refine Ext.then_al ?_ _)))).grown g5 (fun k hk => by have := (HO.out.lt k hk).1; omega)
         have hnb : (Value.slice va L.length vc).ownBlock ≠ some bx := fun e => by have := (HOL.out bx e).2; have := HNB.out; omega
         have hnc : (Value.slice va L.length vc).ownBlock ≠ some cx := fun e => by have := (HOL.out cx e).2; have := HNB.out; omega
         have hb5 : w5.heap[bx]? = _ := (g5.block bx (Nat.lt_of_lt_of_le (lt_of_get' HBX.out) (Ext.size (by repeat (first | exact Ext.refl _ | exact Ext.alloc _ _ | apply Ext.then_dr | apply Ext.then_drN | apply Ext.then_drN2 | (refine Ext.then_al ?_ _))))) (fun e => hnb e.symm)).trans (hs_ext (by repeat (first | exact Ext.refl _ | exact Ext.alloc _ _ | apply Ext.then_dr | apply Ext.then_drN | apply Ext.then_drN2 | (refine Ext.then_al ?_ _))) HBX.out)
         have hc5 : w5.heap[cx]? = _ := (g5.block cx (Nat.lt_of_lt_of_le (lt_of_get' HBC.out) (Ext.size (by repeat (first | exact Ext.refl _ | exact Ext.alloc _ _ | apply Ext.then_dr | apply Ext.then_drN | apply Ext.then_drN2 | (refine Ext.then_al ?_ _))))) (fun e => hnc e.symm)).trans (hs_ext (by repeat (first | exact Ext.refl _ | exact Ext.alloc _ _ | apply Ext.then_dr | apply Ext.then_drN | apply Ext.then_drN2 | (refine Ext.then_al ?_ _))) HBC.out)
         have hk5 : ∀ c, S c → c < w2.drew.heap.size → w5.heap[c]? = w2.drew.heap[c]? := fun c h1 h2 => (g5.block c (Nat.lt_of_lt_of_le h2 (Ext.size (by repeat (first | exact Ext.refl _ | exact Ext.alloc _ _ | apply Ext.then_dr | apply Ext.then_drN | apply Ext.then_drN2 | (refine Ext.then_al ?_ _))))) (fun e => by have := (HO.out.lt c e.symm).1; have := HSB.out c h1; omega)).trans (Ext.block (by repeat (first | exact Ext.refl _ | exact Ext.alloc _ _ | apply Ext.then_dr | apply Ext.then_drN | apply Ext.then_drN2 | (refine Ext.then_al ?_ _))) h2)
         have HT5 := Lib.hid (HT.out.keep (w' := w5) (S' := Any) hk5 (fun _ _ _ => trivial))
         have HT5' := Lib.hid (HT'.out.keep (w' := w5) (S' := Any) hk5 (fun _ _ _ => trivial))
         have HO5 := Lib.hid o5
         have HR5 := Lib.hid hR5
         have HX5 := Lib.hid hX5
         obtain ⟨b50, b51, b52, b53⟩ := box4' hb5
         obtain ⟨c50, c51, c52, c53⟩ := box4' hc5
         clear o5 g5 k5 hR5 hX5 hb5 hc5 hk5 hnb hnc)
      | (go_simp
         go_at_call 86
         refine (rFits_any HT5.out HT5'.out).mono ?_
         rintro e w6 ⟨rfl, hE6⟩
         have HE6 := Lib.hid hE6
         clear hE6))
     all_goals
      simp only [Act.put, List.getElem_toArray, List.getElem_cons_succ, List.getElem_cons_zero]
      (try go_simp)
      (try go_wp2_with fail)
      go_ret2
      refine ⟨v5, ?_, L ++ [(p, t)], HO5.out.ext HE6.out, fun l hl => ?_, by have := sizeT_kids p; simp; omega, HR5.out.trans (RowK.of_ext HE6.out), fun W0 h1 h2 => (HX5.out W0 h1 h2).trans HE6.out⟩
      · have e : (Z.isSome : Bool) = fitsT p t := by rw [HZ1.out, ← HF.out]; cases f <;> rfl
        rw [e]; first | rfl | (simp only [List.setIfInBounds_toArray, List.set_cons_succ, List.set_cons_zero]; rfl) | (simp_all; done)
      · rw [HZ1.out] at hl
        cases f with
        | false => cases hl
        | true => cases hl; rfl
   · have e1 : (p.kind == 1) = false := by simpa using h1
     have HZ1 := Lib.hid (show Z = _ by rw [HZ.out, if_neg h1])
     clear h1
     by_cases h2 : p.kind = 2
     · have e2 : (p.kind == 2) = true := by simp [h2]
       have HZ2 : Hid (Z = if p = t then some [] else none) := Lib.hid (by rw [HZ1.out, if_pos h2])
       have hcs := RSame_any (w := w2) (s := p) (t := t) (by have := HW.out; omega) (by have := HW.out; omega) HT.out HT'.out
       obtain ⟨f, hf⟩ : ∃ f, f = decide (p = t) := ⟨_, rfl⟩
       rw [← hf] at hcs
       have HCS := Lib.hid hcs
       have HF := Lib.hid hf
       clear h2 hcs hf
       go_enter Tryz.func65, Tryz.ntmps65
       go_upto_region 1 with fail
       rw [← hwbx, ← hbbx, ← hwcx, ← hbcx]
       clear hwbx hbbx hwcx hbcx
       go_wp2_with fail
       refine HCS.out.mono ?_
       rintro e w3 ⟨rfl, hE3⟩
       have HE3 := Lib.hid hE3
       clear hE3
       go_wp2_with fail
       go_ret2
       refine ⟨.slice va L.length vc, ?_, L, HO.out.ext HE3.out, fun l hl => ?_, by omega, HRK.out.trans (RowK.of_ext HE3.out), fun W0 h1 h2 => (h1.trans HE.out).trans HE3.out⟩
       · rw [HZ2.out, HF.out]
         by_cases h : p = t <;> simp [h]
       · rw [HZ2.out] at hl
         split at hl
         · cases hl; simp
         · cases hl
     · have e2 : (p.kind == 2) = false := by simpa using h2
       have HZ2 : Hid (Z = if alikeT p t then prL p.kids t.kids else none) := Lib.hid (by rw [HZ1.out, if_neg h2])
       have hcs := rsame_any (w := w2) HT.out HT'.out
       obtain ⟨f, hf⟩ : ∃ f, f = alikeT p t := ⟨_, rfl⟩
       rw [← hf] at hcs HZ2
       have HCS := Lib.hid hcs
       have HF := Lib.hid hf
       clear h2 hcs hf
       go_enter Tryz.func65, Tryz.ntmps65
       go_upto_region 1 with fail
       rw [← hwbx, ← hbbx, ← hwcx, ← hbcx]
       clear hwbx hbbx hwcx hbcx
       go_wp2_with fail
       refine HCS.out.mono ?_
       rintro e w3 ⟨rfl, hE3⟩
       obtain ⟨b0, b1, b2, b3, c0, c1, c2, c3⟩ := cs_e8 hE3 ⟨b0, b1, b2, b3, c0, c1, c2, c3⟩
       have HBX := Lib.hid (hs_ext hE3 HBX.out)
       have HBC := Lib.hid (hs_ext hE3 HBC.out)
       have HE := Lib.hid (HE.out.trans hE3)
       have HT := Lib.hid (HT.out.ext hE3)
       have HT' := Lib.hid (HT'.out.ext hE3)
       have HO := Lib.hid (HO.out.ext hE3)
       have HRK := Lib.hid (HRK.out.trans (RowK.of_ext hE3))
       clear hE3
       cases f with
       | false =>
         have HZ3 : Hid (Z = none) := Lib.hid (by rw [HZ2.out]; rfl)
         go_wp2_with fail
         go_ret2
         exact ⟨.slice va L.length vc, by rw [HZ3.out]; rfl, L, HO.out, fun l hl => (by rw [HZ3.out] at hl; cases hl), by omega, HRK.out, fun W0 h1 h2 => h1.trans HE.out⟩
       | true =>
         have HZ3 : Hid (Z = prL p.kids t.kids) := Lib.hid (by rw [HZ2.out]; rfl)
         have HLN : Hid (p.kids.length = t.kids.length) := Lib.hid (by
          have h := HF.out.symm
          simp only [alikeT, Bool.and_eq_true, decide_eq_true_eq] at h
          exact h.2.2.2)
         go_wp2_with fail
         go_loopw [2, 8, 9] (fun ov bv iv wr => Hid (∃ (i : Nat) (b : Bool) (L' : List (Tm × Tm)), iv = .int .i64 i ∧ bv = .bool b ∧ i ≤ p.kids.length ∧ OwnG elP wr base 94 S ov L' ∧ L'.length ≤ L.length + sizeL (p.kids.take i) ∧ RowK w3 wr (.slice va L.length vc) ov ∧ (∀ W0, Ext W0 w → W0.heap.size ≤ base → Ext W0 wr) ∧ b = (prL (p.kids.take i) (t.kids.take i)).isSome ∧ (∀ l, prL (p.kids.take i) (t.kids.take i) = some l → L' = L ++ l))) (fun _ _ iv _ => p.kids.length - (intOf iv).toNat)
         case atStart => exact Lib.hid ⟨0, true, L, rfl, rfl, by omega, HO.out, by simp [sizeL], RowK.of_ext (Ext.refl _), fun W0 h1 _ => h1.trans HE.out, rfl, fun l hl => by cases hl; simp⟩
         case round =>
          obtain ⟨i, bb, L', rfl, rfl, hi, hO2, hL2, hR2, hX2, hb2, hl2⟩ := hrel.out
          have HO2 := Lib.hid hO2
          have HL2 := Lib.hid hL2
          have HR2 := Lib.hid hR2
          have HX2 := Lib.hid hX2
          have HB2 := Lib.hid hb2
          have HLL := Lib.hid hl2
          have HSZ := Lib.hid (And.intro (sizeL_take_le p.kids i) (sizeT_kids p))
          obtain ⟨oa, oc, hov, hol, hoc⟩ := hO2.slice
          subst hov
          unfold maxLen at hoc
          clear hrel hO2 hL2 hR2 hX2 hb2 hl2 b0 b1 b2 b3 c0 c1 c2 c3
          have hnb : (Value.slice va L.length vc).ownBlock ≠ some bx := fun e => by have := (HOL.out bx e).2; have := HNB.out; omega
          have hnc : (Value.slice va L.length vc).ownBlock ≠ some cx := fun e => by have := (HOL.out cx e).2; have := HNB.out; omega
          have HBX := Lib.hid (HR2.out.cells HBX.out hnb)
          have HBC := Lib.hid (HR2.out.cells HBC.out hnc)
          obtain ⟨b0, b1, b2, b3⟩ := box4' HBX.out
          obtain ⟨c0, c1, c2, c3⟩ := box4' HBC.out
          have hkeep : ∀ c, S c → c < w3.heap.size → wr.heap[c]? = w3.heap[c]? := fun c h1 h2 => HR2.out.kept c h2 (fun e => by have := (HO.out.lt c e).1; have := HSB.out c h1; omega)
          have HT := Lib.hid (HT.out.keep hkeep (fun _ h _ => h))
          have HT' := Lib.hid (HT'.out.keep hkeep (fun _ h _ => h))
          have HBW : Hid (base ≤ wr.heap.size) := Lib.hid (Nat.le_trans (Nat.le_trans HW.out.1 HE.out.size) HR2.out.size)
          clear hnb hnc hkeep
          by_cases hlt : i < p.kids.length
          · cases bb with
            | false =>
              have HF : Hid (Z.isSome = false ∧ ∀ l, Z = some l → L' = L ++ l) := Lib.hid (by
               have h : Z = none := by
                rw [HZ3.out]
                exact prL_stop HLN.out (by have h := HB2.out; cases hh : prL (p.kids.take i) (t.kids.take i) with | none => rfl | some x => rw [hh] at h; cases h)
               rw [h]
               exact ⟨rfl, fun l hl => by cases hl⟩)
              go_wp2_with fail
              go_ret2
              refine ⟨.slice oa L'.length oc, by rw [HF.out.1]; rfl, L', HO2.out, HF.out.2, by have := HL2.out; have := HSZ.out; omega, HRK.out.trans HR2.out, HX2.out⟩
            | true =>
              obtain ⟨x, hx⟩ : ∃ x, p.kids[i]? = some x := ⟨_, List.getElem?_eq_getElem hlt⟩
              obtain ⟨y, hy⟩ : ∃ y, t.kids[i]? = some y := ⟨_, List.getElem?_eq_getElem (by have := HLN.out; omega)⟩
              obtain ⟨xb, xo, xa, xc, rfl, x0, x1, x2, x3, hTx⟩ := HT.out.ts.at hx
              obtain ⟨yb, yo, ya, yc, rfl, y0, y1, y2, y3, hTy⟩ := HT'.out.ts.at hy
              have HPT := Lib.hid (prL_take hx hy)
              have hsz := sizeL_take hx
              have hsz2 := sizeL_take_le p.kids (i + 1)
              have hszy := sizeL_get hy
              have hszt := sizeT_kids t
              have hit : i < t.kids.length := by have := HLN.out; omega
              have HSZ2 := Lib.hid hsz
              have HCR := Lib.hid (fun w' (hE : Ext wr w') => IH.out w' base S xa ya xc yc x y (.slice oa L'.length oc) L' HSB.out (by have := HW.out; have := HSZ.out; omega) (by have := HW.out; have := HSZ.out; have := HL2.out; omega) (by have := HW.out; omega) (Nat.le_trans HBW.out hE.size) (hTx.ext hE) (hTy.ext hE) (HO2.out.ext hE))
              obtain ⟨P, hP⟩ : ∃ P, P = prT x y := ⟨_, rfl⟩
              rw [← hP] at HCR HPT
              clear hx hy hTx hTy hsz hsz2 hszy hszt hP
              go_upto_region 11 with fail
              have hEd : Ext wr wr.drew := Ext.drew wr
              obtain ⟨b0, b1, b2, b3, c0, c1, c2, c3, x0, x1, x2, x3, y0, y1, y2, y3⟩ := cs_e16 hEd ⟨b0, b1, b2, b3, c0, c1, c2, c3, x0, x1, x2, x3, y0, y1, y2, y3⟩
              have hi0 : (0 : Int) ≤ (i : Int) := by omega
              have hi1 : (i : Int) < (p.kids.length : Int) := by omega
              have hi2 : (i : Int) < (t.kids.length : Int) := by omega
              clear hEd
              go_region_law (
               go_simp
               go_at_call 65
               refine (HCR.out _ (by repeat (first | exact Ext.refl _ | exact Ext.alloc _ _ | apply Ext.then_dr | apply Ext.then_drN | apply Ext.then_drN2 | (refine Ext.then_al ?_ _)))).mono ?_
               rintro e w6 ⟨v6, rfl, hP6⟩
               have HP6 := Lib.hid hP6
               clear hP6)
              all_goals
               simp only [Act.put, List.getElem_cons_succ, List.getElem_cons_zero]
               go_wp2_with fail
               first
               | go_roundw
               | skip
               case rel =>
                obtain ⟨L3, o3, h3, h4, h5, h6⟩ := HP6.out
                refine Lib.hid ⟨i + 1, P.isSome, L3, by go_num, rfl, by omega, o3, by have := HSZ2.out; have := HL2.out; omega, (HR2.out.trans (RowK.of_ext (Ext.drew wr))).trans h5, fun W0 q1 q2 => h6 W0 ((HX2.out W0 q1 q2).trans (Ext.drew wr)) q2, ?_, fun l hl => ?_⟩
                · rw [HPT.out]
                  have h := HB2.out
                  cases hh : prL (p.kids.take i) (t.kids.take i) with
                  | none => rw [hh] at h; cases h
                  | some u => cases P <;> rfl
                · rw [HPT.out] at hl
                  cases hh : prL (p.kids.take i) (t.kids.take i) with
                  | none => rw [hh] at hl; cases hl
                  | some u =>
                    rw [hh] at hl
                    cases P with
                    | none => cases hl
                    | some z =>
                      cases hl
                      rw [h3 z rfl, HLL.out u hh, List.append_assoc]
               case measure => simp [intOf]; omega
          · have HF : Hid (Z.isSome = bb ∧ ∀ l, Z = some l → L' = L ++ l) := Lib.hid (by
             have h := HB2.out
             have h2 := HLL.out
             rw [List.take_of_length_le (by omega), List.take_of_length_le (by have := HLN.out; omega), ← HZ3.out] at h h2
             exact ⟨h.symm, h2⟩)
            have hiz : ¬ ((i : Int) < (p.kids.length : Int)) := by omega
            go_wp2_with fail
            go_ret2
            refine ⟨.slice oa L'.length oc, by rw [HF.out.1]; rfl, L', HO2.out, HF.out.2, by have := HL2.out; have := HSZ.out; omega, HRK.out.trans HR2.out, HX2.out⟩

end Go.Proofs.YtpfnlbaloaohgaaGreat
