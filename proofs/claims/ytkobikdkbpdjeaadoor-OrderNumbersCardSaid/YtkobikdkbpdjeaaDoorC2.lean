/- Contracts: the chapter's examples. -/
import Derived.Test.YtkobikdkbpdjeaaDoorC1
import Derived.Test.YtkobikdkbpdjeaaDoorBI
import Derived.Test.YtkobikdkbpdjeaaDoorBM
namespace Go.Proofs.YtkobikdkbpdjeaaDoor
open Go Go.RowKit
set_option linter.unusedVariables false
set_option linter.unusedSimpArgs false

def nA : ByteArray := ⟨#[97]⟩
def nB : ByteArray := ⟨#[98]⟩
def nF : ByteArray := ⟨#[102]⟩
def nG : ByteArray := ⟨#[103]⟩
def nX : ByteArray := ⟨#[120]⟩
def nY : ByteArray := ⟨#[121]⟩
def awL : List ByteArray := [nA, nB, nF, nG]
def awW : List Int := [1, 1, 1, 1]
def tA : Tm := .mk 2 nA 0 []
def tB : Tm := .mk 2 nB 0 []
def tX : Tm := .mk 1 nX 0 []
def tY : Tm := .mk 1 nY 0 []
def tFA : Tm := appTm nF [tA]
def tGA : Tm := appTm nG [tA]
def tFFA : Tm := appTm nF [tFA]
theorem aw1 : lpoV awL tFA tA = 1 ∧ lpoE awL tFA tA = 0 := by decide +kernel
theorem aw2 : lpoV awL tGA tFFA = 1 ∧ lpoE awL tGA tFFA = 0 := by decide +kernel
theorem aw3 : lpoV awL (appTm nF [tX]) (appTm nF [tY]) = 2 ∧ lpoE awL (appTm nF [tX]) (appTm nF [tY]) = 0 := by decide +kernel
theorem aw4 : lpoV awL (appTm nF [tB, tA]) (appTm nF [tA, tB]) = 1 ∧ lpoE awL (appTm nF [tB, tA]) (appTm nF [tA, tB]) = 0 := by decide +kernel
theorem aw5 : kboV awL awW tFFA tGA = 1 ∧ kboE awL awW tFFA tGA = 0 := by decide +kernel
theorem aw6 : kboV awL awW tGA tFA = 1 ∧ kboE awL awW tGA tFA = 0 := by decide +kernel
theorem aw7 : msI [3, 1] [2, 2, 1] = 1 := by rw [← over_msI]; decide +kernel

/-- two new boxes, with their names -/
theorem box2 (w : World) (o o' : Obj) : ∃ (b b' : Nat) (w1 : World), b = w.heap.size ∧ b' = w.heap.size + 1 ∧ w1 = (w.alloc o).alloc o' ∧ Hid (w1.heap[b]? = some o) ∧ Hid (w1.heap[b']? = some o') ∧ Ext w w1 := ⟨_, _, _, rfl, rfl, rfl, Lib.hid (hs_al hs_new), Lib.hid hs_new1, (Ext.alloc w o).then_al o'⟩
theorem tm_atom {w : World} {S : Nat → Prop} {k : Int} {n : ByteArray} (hk : I64 k) (hn : n.size ≤ maxLen) : TmW w S none 0 (.mk k n 0 []) := tm_nil hk (by unfold I64; omega) hn
theorem tmA_w {w : World} {S : Nat → Prop} : TmW w S none 0 tA := tm_atom (by unfold I64; omega) (by unfold maxLen; decide)
theorem tmB_w {w : World} {S : Nat → Prop} : TmW w S none 0 tB := tm_atom (by unfold I64; omega) (by unfold maxLen; decide)
theorem tmX_w {w : World} {S : Nat → Prop} : TmW w S none 0 tX := tm_atom (by unfold I64; omega) (by unfold maxLen; decide)
theorem tmY_w {w : World} {S : Nat → Prop} : TmW w S none 0 tY := tm_atom (by unfold I64; omega) (by unfold maxLen; decide)
def eA : TE := ⟨tA, none, 0⟩
def eB : TE := ⟨tB, none, 0⟩
def eX : TE := ⟨tX, none, 0⟩
def eY : TE := ⟨tY, none, 0⟩

set_option maxRecDepth 100000 in
set_option maxHeartbeats 8000000 in
theorem awake4 {w : World} (hWd : Words w) : Calls Tryd.prog 5 #[] w fun e w' => e = .returned (.bool true) ∧ Ext w w' := by
 have HWD := Lib.hid hWd
 clear hWd
 have hA := fun (w : World) => Atom_any (w := w) (n := ⟨#[97]⟩) (k := 0) (by unfold maxLen; decide) (by unfold I64; omega)
 have hB := fun (w : World) => Atom_any (w := w) (n := ⟨#[98]⟩) (k := 0) (by unfold maxLen; decide) (by unfold I64; omega)
 have hX := fun (w : World) => RVar_any (w := w) (n := ⟨#[120]⟩) (k := 0) (by unfold maxLen; decide) (by unfold I64; omega)
 have hY := fun (w : World) => RVar_any (w := w) (n := ⟨#[121]⟩) (k := 0) (by unfold maxLen; decide) (by unfold I64; omega)
 have HA := Lib.hid hA
 have HB := Lib.hid hB
 have HX := Lib.hid hX
 have HY := Lib.hid hY
 clear hA hB hX hY
 go_enter Tryd.func5, Tryd.ntmps5
 go_upto_region 2 with fail
 obtain ⟨lb, hlb⟩ : ∃ zz, zz = w.heap.size := ⟨_, rfl⟩
 obtain ⟨vb, hvb⟩ : ∃ zz, zz = w.heap.size + 1 := ⟨_, rfl⟩
 obtain ⟨w1, hw1⟩ : ∃ zz, zz = (w.alloc (.cells #[.string ⟨#[97]⟩, .string ⟨#[98]⟩, .string ⟨#[102]⟩, .string ⟨#[103]⟩] 9)).alloc (.cells #[.int .i64 1, .int .i64 1, .int .i64 1, .int .i64 1] 3) := ⟨_, rfl⟩
 have hl : LsG elS w1 Any (.slice (some ⟨lb, 0, none⟩) 4 4) awL := by
  refine cells_lsG (P := [(nA, [.string nA]), (nB, [.string nB]), (nF, [.string nF]), (nG, [.string nG])]) (by rw [hw1, hlb]; exact hs_al hs_new) rfl rfl rfl (by unfold maxLen; decide) trivial (fun p hp => ?_)
  simp at hp
  rcases hp with rfl | rfl | rfl | rfl <;> exact ⟨rfl, by unfold maxLen; decide⟩
 have hv : LsG elI w1 Any (.slice (some ⟨vb, 0, none⟩) 4 4) awW := by
  refine cells_lsG (P := [(1, [.int .i64 1]), (1, [.int .i64 1]), (1, [.int .i64 1]), (1, [.int .i64 1])]) (by rw [hw1, hvb]; exact hs_new1) rfl rfl rfl (by unfold maxLen; decide) trivial (fun p hp => ?_)
  simp at hp
  subst hp
  exact ⟨rfl, by unfold I64; omega⟩
 have HL := Lib.hid hl
 have HV := Lib.hid hv
 have HE0 := Lib.hid (show Ext w w1 by rw [hw1]; exact (Ext.alloc _ _).then_al _)
 have HE := Lib.hid (Ext.refl w1)
 rw [← hw1, ← hvb, ← hlb]
 clear hw1 hlb hvb hl hv
 go_wp2_with fail
 refine (HA.out _).mono ?_
 rintro e w2 ⟨rfl, hE2⟩
 go_wp2_with fail
 refine (HB.out _).mono ?_
 rintro e w3 ⟨rfl, hE3⟩
 go_upto_region 3 with fail
 obtain ⟨pa, pb, w4, hpa, hpb, hw4, Hpa, Hpb, hEw4⟩ := box2 w3 (.cells #[.int .i64 2, .string ⟨#[97]⟩, .int .i64 0, .slice none 0 0] 38) (.cells #[.int .i64 2, .string ⟨#[98]⟩, .int .i64 0, .slice none 0 0] 38)
 rw [← hw4, ← hpb, ← hpa]
 clear hpa hpb hw4
 have HE := Lib.hid (HE.out.trans ((hE2.trans hE3).trans hEw4))
 clear hE2 hE3 hEw4
 go_wp2_with fail
 refine (HX.out _).mono ?_
 rintro e w5 ⟨rfl, hE5⟩
 go_wp2_with fail
 refine (HY.out _).mono ?_
 rintro e w6 ⟨rfl, hE6⟩
 go_upto_region 4 with fail
 obtain ⟨px, py, w7, hpx, hpy, hw7, Hpx, Hpy, hEw7⟩ := box2 w6 (.cells #[.int .i64 1, .string ⟨#[120]⟩, .int .i64 0, .slice none 0 0] 38) (.cells #[.int .i64 1, .string ⟨#[121]⟩, .int .i64 0, .slice none 0 0] 38)
 rw [← hw7, ← hpy, ← hpx]
 clear hpx hpy hw7
 have hE7 := (hE5.trans hE6).trans hEw7
 have Hpa := Lib.hid (hs_ext hE7 Hpa.out)
 have Hpb := Lib.hid (hs_ext hE7 Hpb.out)
 have HE := Lib.hid (HE.out.trans hE7)
 clear hE5 hE6 hEw7 hE7
 obtain ⟨T1, hT1⟩ : ∃ zz, zz = tFA := ⟨_, rfl⟩
 obtain ⟨T2, hT2⟩ : ∃ zz, zz = tGA := ⟨_, rfl⟩
 have HT1 := Lib.hid hT1
 have HT2 := Lib.hid hT2
 clear hT1 hT2
 obtain ⟨a0, a1, a2, a3⟩ := box4r Hpa.out
 have HFCT := Lib.hid (And.intro a0 (And.intro a1 (And.intro a2 a3)))
 refine wp_region_reg 10 true (by kernel_rfl) (by kernel_rfl) ?_
 refine reg_value (fun _ => rfl) ?_ (fun g w' vs hM hE hP => ?_) ?_
 rotate_left
 · (clear hP hM; have ⟨z0, z1, z2, z3⟩ := cs_e4 hE HFCT.out; go_simp; first | done | rfl)
 refine reg_upon (fun _ => rfl) (rowZ 1 (.cells #[.int .i64 2, .string ⟨#[97]⟩, .int .i64 0, .slice none 0 0] 38)) (rowZ.persist (by rintro (⟨es, cl, h⟩ | h | h) <;> simp at h)) (fun g w' m hM hE hP => ?_) ?_
 · clear hM hP
   go_simp
   exact ⟨Ext.alloc _ _, _, rfl, hs_new⟩
 refine reg_call (fun _ => rfl) 21 (fun g => #[.string ⟨#[102]⟩, (g 1).v]) (fun g w' m hM hE hP => ?_) (resZ Any T1) resZ.persist (fun g w' m hM hE hP => ?_) ?_
 · clear hM hP
   go_simp
 · obtain ⟨fb, hv, hb⟩ := hP _ List.mem_cons_self (anc_of 3 (by kernel_rfl))
   have hv : (g 1).v = _ := hv
   rw [hv]
   exact AppR_any (E := [eA]) (by unfold maxLen; decide) hb rfl (by decide) (fun e he => by simp at he; subst he; exact tmA_w) HT1.out (by rw [HT1.out]; decide)
 refine reg_value (fun _ => rfl) ?_ (fun g w' vs hM hE hP => ?_) ?_
 rotate_left
 · (clear hP hM; have ⟨z0, z1, z2, z3⟩ := cs_e4 hE HFCT.out; go_simp; first | done | rfl)
 refine reg_upon (fun _ => rfl) (rowZ 1 (.cells #[.int .i64 2, .string ⟨#[97]⟩, .int .i64 0, .slice none 0 0] 38)) (rowZ.persist (by rintro (⟨es, cl, h⟩ | h | h) <;> simp at h)) (fun g w' m hM hE hP => ?_) ?_
 · clear hM hP
   go_simp
   exact ⟨Ext.alloc _ _, _, rfl, hs_new⟩
 refine reg_call (fun _ => rfl) 21 (fun g => #[.string ⟨#[103]⟩, (g 4).v]) (fun g w' m hM hE hP => ?_) (resZ Any T2) resZ.persist (fun g w' m hM hE hP => ?_) ?_
 · clear hM hP
   go_simp
 · obtain ⟨fb, hv, hb⟩ := hP _ List.mem_cons_self (anc_of 3 (by kernel_rfl))
   have hv : (g 4).v = _ := hv
   rw [hv]
   exact AppR_any (E := [eA]) (by unfold maxLen; decide) hb rfl (by decide) (fun e he => by simp at he; subst he; exact tmA_w) HT2.out (by rw [HT2.out]; decide)
 refine reg_fresh (fun _ => rfl) (fun n => .pointer (some ⟨n, 0, none⟩)) (fun _ => .cells #[.int .i64 0, .string ⟨#[]⟩, .int .i64 0, .slice none 0 0] 38) (fun g w' vs hM hE hP => ?_) ?_
 · clear hP hM
   go_simp
   first | done | rfl | exact ⟨rfl, rfl⟩
 refine reg_fresh (fun _ => rfl) (fun n => .pointer (some ⟨n, 0, none⟩)) (fun _ => .cells #[.int .i64 0, .string ⟨#[]⟩, .int .i64 0, .slice none 0 0] 38) (fun g w' vs hM hE hP => ?_) ?_
 · clear hP hM
   go_simp
   first | done | rfl | exact ⟨rfl, rfl⟩
 refine reg_turn (fun _ => rfl) 6 (fun _ => .cells #[.int .i64 0, .string ⟨#[]⟩, .int .i64 0, .slice none 0 0] 38) (fun g => .cells (aggOf (g 2).v) 38) (by simp) (anc_of 3 (by kernel_rfl)) (fun _ => .inr (.inl rfl)) (fun g w' m hM hE hP hb => ?_) ?_
 · obtain ⟨a9, c9, hu, -⟩ := hP (2, _) (by simp; rfl) (anc_of 3 (by kernel_rfl))
   exact turn_store1 hb hu (fun z0 z1 z2 z3 f0 f1 f2 f3 ht => by clear hP hM hb hE hu; go_simp)
 refine reg_turn (fun _ => rfl) 7 (fun _ => .cells #[.int .i64 0, .string ⟨#[]⟩, .int .i64 0, .slice none 0 0] 38) (fun g => .cells (aggOf (g 5).v) 38) (by simp) (anc_of 3 (by kernel_rfl)) (fun _ => .inr (.inl rfl)) (fun g w' m hM hE hP hb => ?_) ?_
 · obtain ⟨a9, c9, hu, -⟩ := hP (5, _) (by simp; rfl) (anc_of 3 (by kernel_rfl))
   exact turn_store1 hb hu (fun z0 z1 z2 z3 f0 f1 f2 f3 ht => by clear hP hM hb hE hu; go_simp)
 intro g w8 hE8 hF hQ
 simp only [List.drop_succ_cons, List.drop_zero, Act.put, List.setIfInBounds_toArray, List.set_cons_succ, List.set_cons_zero]
 obtain ⟨hf, hfo⟩ := hF.2.1 ((6, fun g => Obj.cells (aggOf (g 2).v) 38) : Nat × (Ghs → Obj)) (by simp)
 obtain ⟨hg, hgo⟩ := hF.2.1 ((7, fun g => Obj.cells (aggOf (g 5).v) 38) : Nat × (Ghs → Obj)) (by simp)
 obtain ⟨fa, fc, hu, htf⟩ := hQ (2, resZ Any T1) (by simp)
 obtain ⟨ga, gc, hv, htg⟩ := hQ (5, resZ Any T2) (by simp)
 simp only at hf hg hu hv hfo hgo
 rw [hu] at hf
 rw [hv] at hg
 obtain ⟨pf, hpf⟩ : ∃ zz, zz = (g 6).n := ⟨_, rfl⟩
 obtain ⟨pg, hpg⟩ : ∃ zz, zz = (g 7).n := ⟨_, rfl⟩
 rw [← hpf] at hf
 rw [← hpg] at hg
 rw [← hpf, ← hpg, hu, hv]
 have hf : w8.heap[pf]? = some (.cells #[.int .i64 T1.kind, .string T1.name, .int .i64 T1.sort, .slice fa T1.kids.length fc] 38) := hf
 have hg : w8.heap[pg]? = some (.cells #[.int .i64 T2.kind, .string T2.name, .int .i64 T2.sort, .slice ga T2.kids.length gc] 38) := hg
 have Hpf := Lib.hid hf
 have Hpg := Lib.hid hg
 have HTF := Lib.hid htf.tm
 have HTG := Lib.hid htg.tm
 have Hpa := Lib.hid (hs_ext hE8 Hpa.out)
 have Hpb := Lib.hid (hs_ext hE8 Hpb.out)
 have Hpx := Lib.hid (hs_ext hE8 Hpx.out)
 have Hpy := Lib.hid (hs_ext hE8 Hpy.out)
 have HE := Lib.hid (HE.out.trans hE8)
 clear hf hg hu hv hfo hgo htf htg hpf hpg hQ hF hE8 a0 a1 a2 a3
 obtain ⟨f0, f1, f2, f3⟩ := box4r Hpf.out
 obtain ⟨T3, hT3⟩ : ∃ zz, zz = tFFA := ⟨_, rfl⟩
 have HT3 := Lib.hid hT3
 have hcon := AppR_any (w := w8.alloc (.cells #[.int .i64 T1.kind, .string T1.name, .int .i64 T1.sort, .slice fa T1.kids.length fc] 38)) (n := nF) (E := [⟨T1, fa, fc⟩]) (t := T3) (by unfold maxLen; decide) hs_new rfl (by simp) (fun e he => by simp at he; subst he; exact (HTF.out.ext (Ext.alloc _ _)).any) (by rw [hT3, HT1.out]; rfl) (by rw [hT3]; decide)
 have HCON := Lib.hid hcon
 clear hT3 hcon
 go_wp2_with fail
 refine HCON.out.mono ?_
 rintro e w9 ⟨u, rfl, hE9, ha, hc, rfl, htq⟩
 have hE9 := (Ext.alloc w8 _).trans hE9
 go_upto_region 6 with fail
 obtain ⟨pq, wa, hpq, hwa, Hpq, hEa⟩ := box_new w9 (.cells #[.int .i64 T3.kind, .string T3.name, .int .i64 T3.sort, .slice ha T3.kids.length hc] 38)
 rw [← hwa, ← hpq]
 clear hwa hpq
 have hEz := hE9.trans hEa
 have HTF := Lib.hid (HTF.out.ext hEz)
 have HTG := Lib.hid (HTG.out.ext hEz)
 have HTQ := Lib.hid (htq.tm.ext hEa)
 have Hpa := Lib.hid (hs_ext hEz Hpa.out)
 have Hpb := Lib.hid (hs_ext hEz Hpb.out)
 have Hpx := Lib.hid (hs_ext hEz Hpx.out)
 have Hpy := Lib.hid (hs_ext hEz Hpy.out)
 have Hpf := Lib.hid (hs_ext hEz Hpf.out)
 have Hpg := Lib.hid (hs_ext hEz Hpg.out)
 have HE := Lib.hid (HE.out.trans hEz)
 clear hE9 hEa hEz htq f0 f1 f2 f3
 have hlp : ∀ (w' : World) (s t : Tm) (a a' : Option Addr) (c c' : Nat), Ext wa w' → TmW w' Any a c s → TmW w' Any a' c' t → sizeT s + sizeT t ≤ 100 →
  Calls Tryd.prog 22 #[.slice (some ⟨lb, 0, none⟩) 4 4, .agg #[.int .i64 s.kind, .string s.name, .int .i64 s.sort, .slice a s.kids.length c], .agg #[.int .i64 t.kind, .string t.name, .int .i64 t.sort, .slice a' t.kids.length c']] w' fun e w'' => e = .returned (.tuple #[.int .i64 (lpoV awL s t), .int .i64 (lpoE awL s t)]) ∧ Ext w' w'' :=
  fun w' s t a a' c c' hE hs ht hz => Lpo_any (HWD.out.ext (HE0.out.trans (HE.out.trans hE))) (HL.out.ext (HE.out.trans hE)).below (fun _ h => h) (fun _ h => h) hz hs.below ht.below
 have hkb : ∀ (w' : World) (s t : Tm) (a a' : Option Addr) (c c' : Nat), Ext wa w' → TmW w' Any a c s → TmW w' Any a' c' t → sizeT s + sizeT t ≤ 100 →
  Calls Tryd.prog 23 #[.slice (some ⟨lb, 0, none⟩) 4 4, .slice (some ⟨vb, 0, none⟩) 4 4, .agg #[.int .i64 s.kind, .string s.name, .int .i64 s.sort, .slice a s.kids.length c], .agg #[.int .i64 t.kind, .string t.name, .int .i64 t.sort, .slice a' t.kids.length c']] w' fun e w'' => e = .returned (.tuple #[.int .i64 (kboV awL awW s t), .int .i64 (kboE awL awW s t)]) ∧ Ext w' w'' :=
  fun w' s t a a' c c' hE hs ht hz => Kbo_any (HWD.out.ext (HE0.out.trans (HE.out.trans hE))) (HL.out.ext (HE.out.trans hE)).below (HV.out.ext (HE.out.trans hE)).below (fun _ h => h) (fun _ h => h) (fun _ h => h) hz hs.below ht.below
 have HLP := Lib.hid hlp
 have HKB := Lib.hid hkb
 have HEA := HE
 clear hlp hkb
 have HEA := Lib.hid (Ext.refl wa)
 have e1 : lpoV awL T1 tA = 1 ∧ lpoE awL T1 tA = 0 := by rw [HT1.out]; exact aw1
 have E1 := Lib.hid e1
 clear e1
 have e2 : lpoV awL T2 T3 = 1 ∧ lpoE awL T2 T3 = 0 := by rw [HT2.out, HT3.out]; exact aw2
 have E2 := Lib.hid e2
 clear e2
 have e5 : kboV awL awW T3 T2 = 1 ∧ kboE awL awW T3 T2 = 0 := by rw [HT2.out, HT3.out]; exact aw5
 have E5 := Lib.hid e5
 clear e5
 have e6 : kboV awL awW T2 T1 = 1 ∧ kboE awL awW T2 T1 = 0 := by rw [HT2.out, HT1.out]; exact aw6
 have E6 := Lib.hid e6
 clear e6
 have HZ : Hid (sizeT T1 ≤ 10 ∧ sizeT T2 ≤ 10 ∧ sizeT T3 ≤ 10) := Lib.hid (by rw [HT1.out, HT2.out, HT3.out]; decide +kernel)
 obtain ⟨f0, f1, f2, f3⟩ := box4r Hpf.out
 obtain ⟨a0, a1, a2, a3⟩ := box4r Hpa.out
 have hc : Calls Tryd.prog 22 #[.slice (some ⟨lb, 0, none⟩) 4 4, .agg #[.int .i64 T1.kind, .string T1.name, .int .i64 T1.sort, .slice fa T1.kids.length fc], .agg #[.int .i64 2, .string ⟨#[97]⟩, .int .i64 0, .slice none 0 0]] wa fun e w'' => e = .returned (.tuple #[.int .i64 1, .int .i64 0]) ∧ Ext wa w'' := by
  have h := HLP.out wa T1 tA fa none fc 0 HEA.out HTF.out.any tmA_w (by have := HZ.out; show sizeT T1 + 1 ≤ 100; omega)
  rw [E1.out.1, E1.out.2] at h
  exact h
 have HC := Lib.hid hc
 clear hc
 go_wp2_with fail
 refine HC.out.mono ?_
 rintro e wb ⟨rfl, hEz⟩
 go_upto_region 7 with fail
 have HEA := Lib.hid (HEA.out.trans hEz)
 have HTF := Lib.hid (HTF.out.ext hEz)
 have HTG := Lib.hid (HTG.out.ext hEz)
 have HTQ := Lib.hid (HTQ.out.ext hEz)
 have Hpa := Lib.hid (hs_ext hEz Hpa.out)
 have Hpb := Lib.hid (hs_ext hEz Hpb.out)
 have Hpx := Lib.hid (hs_ext hEz Hpx.out)
 have Hpy := Lib.hid (hs_ext hEz Hpy.out)
 have Hpf := Lib.hid (hs_ext hEz Hpf.out)
 have Hpg := Lib.hid (hs_ext hEz Hpg.out)
 have Hpq := Lib.hid (hs_ext hEz Hpq.out)
 clear hEz f0 f1 f2 f3 a0 a1 a2 a3
 obtain ⟨g0, g1, g2, g3⟩ := box4r Hpg.out
 obtain ⟨q0, q1, q2, q3⟩ := box4r Hpq.out
 have hc : Calls Tryd.prog 22 #[.slice (some ⟨lb, 0, none⟩) 4 4, .agg #[.int .i64 T2.kind, .string T2.name, .int .i64 T2.sort, .slice ga T2.kids.length gc], .agg #[.int .i64 T3.kind, .string T3.name, .int .i64 T3.sort, .slice ha T3.kids.length hc]] wb fun e w'' => e = .returned (.tuple #[.int .i64 1, .int .i64 0]) ∧ Ext wb w'' := by
  have h := HLP.out wb T2 T3 ga ha gc hc HEA.out HTG.out.any HTQ.out.any (by have := HZ.out; omega)
  rw [E2.out.1, E2.out.2] at h
  exact h
 have HC := Lib.hid hc
 clear hc
 go_wp2_with fail
 refine HC.out.mono ?_
 rintro e wc ⟨rfl, hEz⟩
 go_upto_region 8 with fail
 have HEA := Lib.hid (HEA.out.trans hEz)
 have HTF := Lib.hid (HTF.out.ext hEz)
 have HTG := Lib.hid (HTG.out.ext hEz)
 have HTQ := Lib.hid (HTQ.out.ext hEz)
 have Hpa := Lib.hid (hs_ext hEz Hpa.out)
 have Hpb := Lib.hid (hs_ext hEz Hpb.out)
 have Hpx := Lib.hid (hs_ext hEz Hpx.out)
 have Hpy := Lib.hid (hs_ext hEz Hpy.out)
 have Hpf := Lib.hid (hs_ext hEz Hpf.out)
 have Hpg := Lib.hid (hs_ext hEz Hpg.out)
 have Hpq := Lib.hid (hs_ext hEz Hpq.out)
 clear hEz g0 g1 g2 g3 q0 q1 q2 q3
 obtain ⟨T4, hT4⟩ : ∃ zz, zz = appTm nF [tX] := ⟨_, rfl⟩
 obtain ⟨T5, hT5⟩ : ∃ zz, zz = appTm nF [tY] := ⟨_, rfl⟩
 have HT4 := Lib.hid hT4
 have HT5 := Lib.hid hT5
 have HC : Hid (∀ (w' : World) (a a' : Option Addr) (c c' : Nat), Ext wc w' → TmW w' Any a c T4 → TmW w' Any a' c' T5 → Calls Tryd.prog 22 #[.slice (some ⟨lb, 0, none⟩) 4 4, .agg #[.int .i64 T4.kind, .string T4.name, .int .i64 T4.sort, .slice a T4.kids.length c], .agg #[.int .i64 T5.kind, .string T5.name, .int .i64 T5.sort, .slice a' T5.kids.length c']] w' fun e w'' => e = .returned (.tuple #[.int .i64 2, .int .i64 0]) ∧ Ext w' w'') := Lib.hid (fun w' a a' c c' hE h1 h2 => by
  have h := HLP.out w' T4 T5 a a' c c' (HEA.out.trans hE) h1 h2 (by rw [HT4.out, HT5.out]; decide +kernel)
  rw [HT4.out, HT5.out, aw3.1, aw3.2] at h
  rw [HT4.out, HT5.out]
  exact h)
 clear hT4 hT5
 obtain ⟨x0, x1, x2, x3⟩ := box4r Hpx.out
 obtain ⟨y0, y1, y2, y3⟩ := box4r Hpy.out
 have HFCT := Lib.hid (And.intro x0 (And.intro x1 (And.intro x2 (And.intro x3 (And.intro y0 (And.intro y1 (And.intro y2 y3)))))))
 refine wp_region_reg 13 false (by kernel_rfl) (by kernel_rfl) ?_
 refine reg_value (fun _ => rfl) ?_ (fun g w' vs hM hE hP => ?_) ?_
 rotate_left
 · (clear hP hM; have ⟨z0, z1, z2, z3, z4, z5, z6, z7⟩ := cs_e8 hE HFCT.out; go_simp; first | done | rfl)
 refine reg_value (fun _ => rfl) ?_ (fun g w' vs hM hE hP => ?_) ?_
 rotate_left
 · (clear hP hM; have ⟨z0, z1, z2, z3, z4, z5, z6, z7⟩ := cs_e8 hE HFCT.out; go_simp; first | done | rfl)
 refine reg_upon (fun _ => rfl) (rowZ 1 (.cells #[.int .i64 1, .string ⟨#[120]⟩, .int .i64 0, .slice none 0 0] 38)) (rowZ.persist (by rintro (⟨es, cl, h⟩ | h | h) <;> simp at h)) (fun g w' m hM hE hP => ?_) ?_
 · clear hM hP
   go_simp
   exact ⟨Ext.alloc _ _, _, rfl, hs_new⟩
 refine reg_call (fun _ => rfl) 21 (fun g => #[.string ⟨#[102]⟩, (g 2).v]) (fun g w' m hM hE hP => ?_) (resZ Any T4) resZ.persist (fun g w' m hM hE hP => ?_) ?_
 · clear hM hP
   go_simp
 · obtain ⟨fb, hv, hb⟩ := hP _ List.mem_cons_self (anc_of 3 (by kernel_rfl))
   have hv : (g 2).v = _ := hv
   rw [hv]
   exact AppR_any (E := [eX]) (by unfold maxLen; decide) hb rfl (by decide) (fun e he => by simp at he; subst he; exact tmX_w) HT4.out (by rw [HT4.out]; decide)
 refine reg_value (fun _ => rfl) ?_ (fun g w' vs hM hE hP => ?_) ?_
 rotate_left
 · (clear hP hM; have ⟨z0, z1, z2, z3, z4, z5, z6, z7⟩ := cs_e8 hE HFCT.out; go_simp; first | done | rfl)
 refine reg_upon (fun _ => rfl) (rowZ 1 (.cells #[.int .i64 1, .string ⟨#[121]⟩, .int .i64 0, .slice none 0 0] 38)) (rowZ.persist (by rintro (⟨es, cl, h⟩ | h | h) <;> simp at h)) (fun g w' m hM hE hP => ?_) ?_
 · clear hM hP
   go_simp
   exact ⟨Ext.alloc _ _, _, rfl, hs_new⟩
 refine reg_call (fun _ => rfl) 21 (fun g => #[.string ⟨#[102]⟩, (g 5).v]) (fun g w' m hM hE hP => ?_) (resZ Any T5) resZ.persist (fun g w' m hM hE hP => ?_) ?_
 · clear hM hP
   go_simp
 · obtain ⟨fb, hv, hb⟩ := hP _ List.mem_cons_self (anc_of 3 (by kernel_rfl))
   have hv : (g 5).v = _ := hv
   rw [hv]
   exact AppR_any (E := [eY]) (by unfold maxLen; decide) hb rfl (by decide) (fun e he => by simp at he; subst he; exact tmY_w) HT5.out (by rw [HT5.out]; decide)
 refine reg_const (fun g => rfl) 22 (fun g => #[.slice (some ⟨lb, 0, none⟩) 4 4, (g 3).v, (g 6).v]) (fun g w' m hM hE hP => ?_) ⟨.tuple #[.int .i64 2, .int .i64 0], fun g w' m hM hE hP => ?_, ?_⟩
 · clear hP hM
   go_simp
 · obtain ⟨a1, c1, hu1, h1⟩ := hP (3, resZ Any T4) (by simp) (anc_of 4 (by kernel_rfl))
   obtain ⟨a2, c2, hu2, h2⟩ := hP (6, resZ Any T5) (by simp) (anc_of 4 (by kernel_rfl))
   have hu1 : (g 3).v = _ := hu1
   have hu2 : (g 6).v = _ := hu2
   rw [hu1, hu2]
   exact HC.out w' a1 a2 c1 c2 hE h1.tm.any h2.tm.any
 refine reg_value (fun _ => rfl) ?_ (fun g w' vs hM hE hP => ?_) ?_
 rotate_left
 · (clear hP hM; have ⟨z0, z1, z2, z3, z4, z5, z6, z7⟩ := cs_e8 hE HFCT.out; go_simp; first | done | rfl)
 refine reg_value (fun _ => rfl) ?_ (fun g w' vs hM hE hP => ?_) ?_
 rotate_left
 · (clear hP hM; have ⟨z0, z1, z2, z3, z4, z5, z6, z7⟩ := cs_e8 hE HFCT.out; go_simp; first | done | rfl)
 refine reg_value (fun _ => rfl) ?_ (fun g w' vs hM hE hP => ?_) ?_
 rotate_left
 · (clear hP hM; have ⟨z0, z1, z2, z3, z4, z5, z6, z7⟩ := cs_e8 hE HFCT.out; go_simp; first | done | rfl)
 refine reg_value (fun _ => rfl) ?_ (fun g w' vs hM hE hP => ?_) ?_
 rotate_left
 · (clear hP hM; have ⟨z0, z1, z2, z3, z4, z5, z6, z7⟩ := cs_e8 hE HFCT.out; go_simp; first | done | rfl)
 refine reg_value (fun _ => rfl) ?_ (fun g w' vs hM hE hP => ?_) ?_
 rotate_left
 · (clear hP hM; have ⟨z0, z1, z2, z3, z4, z5, z6, z7⟩ := cs_e8 hE HFCT.out; go_simp; first | done | rfl)
 intro g wd hEz hF hQ
 simp only [List.drop_succ_cons, List.drop_zero, Act.put, List.setIfInBounds_toArray, List.set_cons_succ, List.set_cons_zero]
 have HEA := Lib.hid (HEA.out.trans hEz)
 have HTF := Lib.hid (HTF.out.ext hEz)
 have HTG := Lib.hid (HTG.out.ext hEz)
 have HTQ := Lib.hid (HTQ.out.ext hEz)
 have Hpa := Lib.hid (hs_ext hEz Hpa.out)
 have Hpb := Lib.hid (hs_ext hEz Hpb.out)
 have Hpx := Lib.hid (hs_ext hEz Hpx.out)
 have Hpy := Lib.hid (hs_ext hEz Hpy.out)
 have Hpf := Lib.hid (hs_ext hEz Hpf.out)
 have Hpg := Lib.hid (hs_ext hEz Hpg.out)
 have Hpq := Lib.hid (hs_ext hEz Hpq.out)
 clear hEz hF hQ x0 x1 x2 x3 y0 y1 y2 y3
 go_upto_region 9 with fail
 obtain ⟨T6, hT6⟩ : ∃ zz, zz = appTm nF [tB, tA] := ⟨_, rfl⟩
 obtain ⟨T7, hT7⟩ : ∃ zz, zz = appTm nF [tA, tB] := ⟨_, rfl⟩
 have HT6 := Lib.hid hT6
 have HT7 := Lib.hid hT7
 have HC : Hid (∀ (w' : World) (a a' : Option Addr) (c c' : Nat), Ext wd w' → TmW w' Any a c T6 → TmW w' Any a' c' T7 → Calls Tryd.prog 22 #[.slice (some ⟨lb, 0, none⟩) 4 4, .agg #[.int .i64 T6.kind, .string T6.name, .int .i64 T6.sort, .slice a T6.kids.length c], .agg #[.int .i64 T7.kind, .string T7.name, .int .i64 T7.sort, .slice a' T7.kids.length c']] w' fun e w'' => e = .returned (.tuple #[.int .i64 1, .int .i64 0]) ∧ Ext w' w'') := Lib.hid (fun w' a a' c c' hE h1 h2 => by
  have h := HLP.out w' T6 T7 a a' c c' (HEA.out.trans hE) h1 h2 (by rw [HT6.out, HT7.out]; decide +kernel)
  rw [HT6.out, HT7.out, aw4.1, aw4.2] at h
  rw [HT6.out, HT7.out]
  exact h)
 clear hT6 hT7
 obtain ⟨a0, a1, a2, a3⟩ := box4r Hpa.out
 obtain ⟨b0, b1, b2, b3⟩ := box4r Hpb.out
 have HFCT := Lib.hid (And.intro a0 (And.intro a1 (And.intro a2 (And.intro a3 (And.intro b0 (And.intro b1 (And.intro b2 b3)))))))
 refine wp_region_reg 15 false (by kernel_rfl) (by kernel_rfl) ?_
 refine reg_value (fun _ => rfl) ?_ (fun g w' vs hM hE hP => ?_) ?_
 rotate_left
 · (clear hP hM; have ⟨z0, z1, z2, z3, z4, z5, z6, z7⟩ := cs_e8 hE HFCT.out; go_simp; first | done | rfl)
 refine reg_value (fun _ => rfl) ?_ (fun g w' vs hM hE hP => ?_) ?_
 rotate_left
 · (clear hP hM; have ⟨z0, z1, z2, z3, z4, z5, z6, z7⟩ := cs_e8 hE HFCT.out; go_simp; first | done | rfl)
 refine reg_value (fun _ => rfl) ?_ (fun g w' vs hM hE hP => ?_) ?_
 rotate_left
 · (clear hP hM; have ⟨z0, z1, z2, z3, z4, z5, z6, z7⟩ := cs_e8 hE HFCT.out; go_simp; first | done | rfl)
 refine reg_upon (fun _ => rfl) (rowZ 2 (.cells #[.int .i64 2, .string ⟨#[98]⟩, .int .i64 0, .slice none 0 0, .int .i64 2, .string ⟨#[97]⟩, .int .i64 0, .slice none 0 0] 38)) (rowZ.persist (by rintro (⟨es, cl, h⟩ | h | h) <;> simp at h)) (fun g w' m hM hE hP => ?_) ?_
 · clear hM hP
   go_simp
   exact ⟨Ext.alloc _ _, _, rfl, hs_new⟩
 refine reg_call (fun _ => rfl) 21 (fun g => #[.string ⟨#[102]⟩, (g 3).v]) (fun g w' m hM hE hP => ?_) (resZ Any T6) resZ.persist (fun g w' m hM hE hP => ?_) ?_
 · clear hM hP
   go_simp
 · obtain ⟨fb, hv, hb⟩ := hP _ List.mem_cons_self (anc_of 3 (by kernel_rfl))
   have hv : (g 3).v = _ := hv
   rw [hv]
   exact AppR_any (E := [eB, eA]) (by unfold maxLen; decide) hb rfl (by decide) (fun e he => by simp at he; rcases he with rfl | rfl <;> first | exact tmB_w | exact tmA_w) HT6.out (by rw [HT6.out]; decide)
 refine reg_value (fun _ => rfl) ?_ (fun g w' vs hM hE hP => ?_) ?_
 rotate_left
 · (clear hP hM; have ⟨z0, z1, z2, z3, z4, z5, z6, z7⟩ := cs_e8 hE HFCT.out; go_simp; first | done | rfl)
 refine reg_value (fun _ => rfl) ?_ (fun g w' vs hM hE hP => ?_) ?_
 rotate_left
 · (clear hP hM; have ⟨z0, z1, z2, z3, z4, z5, z6, z7⟩ := cs_e8 hE HFCT.out; go_simp; first | done | rfl)
 refine reg_upon (fun _ => rfl) (rowZ 2 (.cells #[.int .i64 2, .string ⟨#[97]⟩, .int .i64 0, .slice none 0 0, .int .i64 2, .string ⟨#[98]⟩, .int .i64 0, .slice none 0 0] 38)) (rowZ.persist (by rintro (⟨es, cl, h⟩ | h | h) <;> simp at h)) (fun g w' m hM hE hP => ?_) ?_
 · clear hM hP
   go_simp
   exact ⟨Ext.alloc _ _, _, rfl, hs_new⟩
 refine reg_call (fun _ => rfl) 21 (fun g => #[.string ⟨#[102]⟩, (g 7).v]) (fun g w' m hM hE hP => ?_) (resZ Any T7) resZ.persist (fun g w' m hM hE hP => ?_) ?_
 · clear hM hP
   go_simp
 · obtain ⟨fb, hv, hb⟩ := hP _ List.mem_cons_self (anc_of 3 (by kernel_rfl))
   have hv : (g 7).v = _ := hv
   rw [hv]
   exact AppR_any (E := [eA, eB]) (by unfold maxLen; decide) hb rfl (by decide) (fun e he => by simp at he; rcases he with rfl | rfl <;> first | exact tmA_w | exact tmB_w) HT7.out (by rw [HT7.out]; decide)
 refine reg_const (fun g => rfl) 22 (fun g => #[.slice (some ⟨lb, 0, none⟩) 4 4, (g 4).v, (g 8).v]) (fun g w' m hM hE hP => ?_) ⟨.tuple #[.int .i64 1, .int .i64 0], fun g w' m hM hE hP => ?_, ?_⟩
 · clear hP hM
   go_simp
 · obtain ⟨a1, c1, hu1, h1⟩ := hP (4, resZ Any T6) (by simp) (anc_of 4 (by kernel_rfl))
   obtain ⟨a2, c2, hu2, h2⟩ := hP (8, resZ Any T7) (by simp) (anc_of 4 (by kernel_rfl))
   have hu1 : (g 4).v = _ := hu1
   have hu2 : (g 8).v = _ := hu2
   rw [hu1, hu2]
   exact HC.out w' a1 a2 c1 c2 hE h1.tm.any h2.tm.any
 refine reg_value (fun _ => rfl) ?_ (fun g w' vs hM hE hP => ?_) ?_
 rotate_left
 · (clear hP hM; have ⟨z0, z1, z2, z3, z4, z5, z6, z7⟩ := cs_e8 hE HFCT.out; go_simp; first | done | rfl)
 refine reg_value (fun _ => rfl) ?_ (fun g w' vs hM hE hP => ?_) ?_
 rotate_left
 · (clear hP hM; have ⟨z0, z1, z2, z3, z4, z5, z6, z7⟩ := cs_e8 hE HFCT.out; go_simp; first | done | rfl)
 refine reg_value (fun _ => rfl) ?_ (fun g w' vs hM hE hP => ?_) ?_
 rotate_left
 · (clear hP hM; have ⟨z0, z1, z2, z3, z4, z5, z6, z7⟩ := cs_e8 hE HFCT.out; go_simp; first | done | rfl)
 refine reg_value (fun _ => rfl) ?_ (fun g w' vs hM hE hP => ?_) ?_
 rotate_left
 · (clear hP hM; have ⟨z0, z1, z2, z3, z4, z5, z6, z7⟩ := cs_e8 hE HFCT.out; go_simp; first | done | rfl)
 refine reg_value (fun _ => rfl) ?_ (fun g w' vs hM hE hP => ?_) ?_
 rotate_left
 · (clear hP hM; have ⟨z0, z1, z2, z3, z4, z5, z6, z7⟩ := cs_e8 hE HFCT.out; go_simp; first | done | rfl)
 intro g we hEz hF hQ
 simp only [List.drop_succ_cons, List.drop_zero, Act.put, List.setIfInBounds_toArray, List.set_cons_succ, List.set_cons_zero]
 have HEA := Lib.hid (HEA.out.trans hEz)
 have HTF := Lib.hid (HTF.out.ext hEz)
 have HTG := Lib.hid (HTG.out.ext hEz)
 have HTQ := Lib.hid (HTQ.out.ext hEz)
 have Hpa := Lib.hid (hs_ext hEz Hpa.out)
 have Hpb := Lib.hid (hs_ext hEz Hpb.out)
 have Hpx := Lib.hid (hs_ext hEz Hpx.out)
 have Hpy := Lib.hid (hs_ext hEz Hpy.out)
 have Hpf := Lib.hid (hs_ext hEz Hpf.out)
 have Hpg := Lib.hid (hs_ext hEz Hpg.out)
 have Hpq := Lib.hid (hs_ext hEz Hpq.out)
 clear hEz hF hQ a0 a1 a2 a3 b0 b1 b2 b3
 go_upto_region 10 with fail
 obtain ⟨g0, g1, g2, g3⟩ := box4r Hpg.out
 obtain ⟨q0, q1, q2, q3⟩ := box4r Hpq.out
 have hc : Calls Tryd.prog 23 #[.slice (some ⟨lb, 0, none⟩) 4 4, .slice (some ⟨vb, 0, none⟩) 4 4, .agg #[.int .i64 T3.kind, .string T3.name, .int .i64 T3.sort, .slice ha T3.kids.length hc], .agg #[.int .i64 T2.kind, .string T2.name, .int .i64 T2.sort, .slice ga T2.kids.length gc]] we fun e w'' => e = .returned (.tuple #[.int .i64 1, .int .i64 0]) ∧ Ext we w'' := by
  have h := HKB.out we T3 T2 ha ga hc gc HEA.out HTQ.out.any HTG.out.any (by have := HZ.out; omega)
  rw [E5.out.1, E5.out.2] at h
  exact h
 have HC := Lib.hid hc
 clear hc
 go_wp2_with fail
 refine HC.out.mono ?_
 rintro e wf ⟨rfl, hEz⟩
 go_upto_region 11 with fail
 have HEA := Lib.hid (HEA.out.trans hEz)
 have HTF := Lib.hid (HTF.out.ext hEz)
 have HTG := Lib.hid (HTG.out.ext hEz)
 have HTQ := Lib.hid (HTQ.out.ext hEz)
 have Hpa := Lib.hid (hs_ext hEz Hpa.out)
 have Hpb := Lib.hid (hs_ext hEz Hpb.out)
 have Hpx := Lib.hid (hs_ext hEz Hpx.out)
 have Hpy := Lib.hid (hs_ext hEz Hpy.out)
 have Hpf := Lib.hid (hs_ext hEz Hpf.out)
 have Hpg := Lib.hid (hs_ext hEz Hpg.out)
 have Hpq := Lib.hid (hs_ext hEz Hpq.out)
 clear hEz g0 g1 g2 g3 q0 q1 q2 q3
 obtain ⟨g0, g1, g2, g3⟩ := box4r Hpg.out
 obtain ⟨f0, f1, f2, f3⟩ := box4r Hpf.out
 have hc : Calls Tryd.prog 23 #[.slice (some ⟨lb, 0, none⟩) 4 4, .slice (some ⟨vb, 0, none⟩) 4 4, .agg #[.int .i64 T2.kind, .string T2.name, .int .i64 T2.sort, .slice ga T2.kids.length gc], .agg #[.int .i64 T1.kind, .string T1.name, .int .i64 T1.sort, .slice fa T1.kids.length fc]] wf fun e w'' => e = .returned (.tuple #[.int .i64 1, .int .i64 0]) ∧ Ext wf w'' := by
  have h := HKB.out wf T2 T1 ga fa gc fc HEA.out HTG.out.any HTF.out.any (by have := HZ.out; omega)
  rw [E6.out.1, E6.out.2] at h
  exact h
 have HC := Lib.hid hc
 clear hc
 go_wp2_with fail
 refine HC.out.mono ?_
 rintro e wg ⟨rfl, hEz⟩
 go_upto_region 12 with fail
 have HEA := Lib.hid (HEA.out.trans hEz)
 have HTF := Lib.hid (HTF.out.ext hEz)
 have HTG := Lib.hid (HTG.out.ext hEz)
 have HTQ := Lib.hid (HTQ.out.ext hEz)
 have Hpa := Lib.hid (hs_ext hEz Hpa.out)
 have Hpb := Lib.hid (hs_ext hEz Hpb.out)
 have Hpx := Lib.hid (hs_ext hEz Hpx.out)
 have Hpy := Lib.hid (hs_ext hEz Hpy.out)
 have Hpf := Lib.hid (hs_ext hEz Hpf.out)
 have Hpg := Lib.hid (hs_ext hEz Hpg.out)
 have Hpq := Lib.hid (hs_ext hEz Hpq.out)
 clear hEz g0 g1 g2 g3 f0 f1 f2 f3
 have HMS : Hid (∀ (w' : World) (x y : Nat), w'.heap[x]? = some (.cells #[.int .i64 3, .int .i64 1] 3) → w'.heap[y]? = some (.cells #[.int .i64 2, .int .i64 2, .int .i64 1] 3) → Calls Tryd.prog 15 #[.slice (some ⟨x, 0, none⟩) 2 2, .slice (some ⟨y, 0, none⟩) 3 3] w' fun e w'' => e = .returned (.int .i64 1) ∧ Ext w' w'') := Lib.hid (fun w' x y hx hy => by
  have h1 : LsI w' (.slice (some ⟨x, 0, none⟩) 2 2) [3, 1] := (cells_lsG (E := elI) (S := Any) (P := [(3, [.int .i64 3]), (1, [.int .i64 1])]) hx rfl rfl rfl (by unfold maxLen; decide) trivial (fun p hp => by
   simp at hp
   rcases hp with rfl | rfl <;> exact ⟨rfl, by unfold I64; omega⟩)).i
  have h2 : LsI w' (.slice (some ⟨y, 0, none⟩) 3 3) [2, 2, 1] := (cells_lsG (E := elI) (S := Any) (P := [(2, [.int .i64 2]), (2, [.int .i64 2]), (1, [.int .i64 1])]) hy rfl rfl rfl (by unfold maxLen; decide) trivial (fun p hp => by
   simp at hp
   rcases hp with rfl | rfl <;> exact ⟨rfl, by unfold I64; omega⟩)).i
  have h := Multiset_any (A := [3, 1]) (B := [2, 2, 1]) (by decide) (by decide) h1 h2
  rw [aw7] at h
  exact h)
 go_wp2_with (go_at_call 15; refine (HMS.out _ _ _ (hs_al hs_new) hs_new1).mono ?_; rintro e wh ⟨rfl, hEh⟩)
 go_ret
 exact ⟨rfl, HE0.out.trans (HE.out.trans (HEA.out.trans (((Ext.alloc _ _).then_al _).trans hEh)))⟩
end Go.Proofs.YtkobikdkbpdjeaaDoor
