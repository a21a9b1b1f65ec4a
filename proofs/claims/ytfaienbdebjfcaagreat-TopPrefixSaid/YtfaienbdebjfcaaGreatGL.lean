/- Contracts of the automaton: step. Contracts of the automaton: the reference's words. -/
import Derived.Test.YtfaienbdebjfcaaGreatGK
namespace Go.Proofs.YtfaienbdebjfcaaGreat
open Go Go.RowKit
set_option linter.unusedVariables false
set_option linter.unusedSimpArgs false
set_option linter.unusedSectionVars false

theorem stepK_le (x : Fld) {f r b : Nat} (hf : f ≤ 100) (hr : r ≤ 1023) (hb : b ≤ 255) : stepK x f r b ≤ 30000000 := by
 unfold stepK cntD lftS stS
 (repeat' split) <;> omega
theorem pstep0_le {F : List Fld} {s : Int} {b : Nat} (hF : F.length ≤ 100) (hb : b ≤ 255) : pstep0 F s b ≤ 30000000 := by
 unfold pstep0
 split
 · omega
 · split
   · omega
   · rename_i x hx
     have := lt_of_get hx
     exact stepK_le x (by omega) (by omega) hb

/-- the step within a nested field -/
def nestK (t : List Fmt) (x : Fld) (f r : Nat) (s : Int) (b : Nat) : Int :=
 if r = 0 then (if b = 0 then -1 else stS f b) else
 if pstep0 (t.getD x.n.toNat default).fields (s % 256 / 32 * 262144 + s % 32 * 256) b < 0 ∨ (r == 1) ≠ endS (t.getD x.n.toNat default).fields (pstep0 (t.getD x.n.toNat default).fields (s % 256 / 32 * 262144 + s % 32 * 256) b) then -1
 else if r = 1 then stS (f + 1) 0
 else stS f (r - 1) + (pstep0 (t.getD x.n.toNat default).fields (s % 256 / 32 * 262144 + s % 32 * 256) b / 262144 * 32 + pstep0 (t.getD x.n.toNat default).fields (s % 256 / 32 * 262144 + s % 32 * 256) b / 256 % 1024)

theorem nestK_some {t : List Fmt} {x : Fld} {f r b : Nat} {s xn : Int} {G : List Fld} {en : Bool} (h1 : (t.getD x.n.toNat default).fields = G) (h2 : pstep0 G (s % 256 / 32 * 262144 + s % 32 * 256) b = xn) (h3 : endS G xn = en) (hr : r ≠ 0) :
 nestK t x f r s b = if xn < 0 ∨ (r == 1) ≠ en then -1 else if r = 1 then stS (f + 1) 0 else stS f (r - 1) + (xn / 262144 * 32 + xn / 256 % 1024) := by
 unfold nestK
 rw [if_neg hr, h1, h2, h3]

def pstep1 (t : List Fmt) (F : List Fld) (s : Int) (b : Nat) : Int :=
 if exists1 t F s = false ∨ endS F s = true then -1 else
 match F[(s / 262144).toNat]? with
 | none => -1
 | some x => if x.kind = 5 then nestK t x (s / 262144).toNat (s / 256 % 1024).toNat s b else stepK x (s / 262144).toNat (s / 256 % 1024).toNat b

set_option maxRecDepth 100000 in
set_option maxHeartbeats 2000000 in
theorem step1_any {w : World} {B : Nat} {a : Option Addr} {t : List Fmt} {cap : Nat} {i : Nat} {fm : Fmt} (s : Int) (b : Nat) (hb255 : b ≤ 255) (h1 : s ≤ 9223372036854775807) (hT : TabA w B a t) (hB : B ≤ w.heap.size) (hi : t[i]? = some fm) (hne : fm.fields ≠ []) (hle : fm.fields.length ≤ 100)
 (hp : ∀ x ∈ fm.fields, x.kind = 1 ∨ x.kind = 2 ∨ x.kind = 3 ∨ x.kind = 4 ∨ x.kind = 6 ∨ x.kind = 5)
 (hnest : ∀ x ∈ fm.fields, x.kind = 5 → ∃ j : Nat, x.n = j ∧ ∃ gm, t[j]? = some gm ∧ gm.fields ≠ [] ∧ gm.fields.length ≤ 100 ∧ ∀ y ∈ gm.fields, y.kind = 1 ∨ y.kind = 2 ∨ y.kind = 3 ∨ y.kind = 4 ∨ y.kind = 6) :
 Calls Tryz.prog 98 #[.agg #[.slice a t.length cap, .int .i64 i], .int .i64 s, .int .u8 b] w fun e w' => e = .returned (.int .i64 (pstep1 t fm.fields s b)) ∧ Ext w w' := by
 generalize hx0 : exists1 t fm.fields s = x0
 have HX0 := Lib.hid hx0
 generalize hx1 : endS fm.fields s = x1
 have HX1 := Lib.hid hx1
 by_cases hgo : x0 = false ∨ x1 = true
 · have e2 : pstep1 t fm.fields s b = -1 := by simp [pstep1, hx0, hx1, hgo]
   rw [e2]
   have E2 := Lib.hid e2; clear e2 hx0 hx1
   go_enter Tryz.func98, Tryz.ntmps98
   go_wp2_with fail
   refine (exists1_any _ h1 (hT.alloc hB _) (by simp; omega) hi hne hle hp hnest).mono ?_
   rw [HX0.out]
   rintro e w1 ⟨rfl, hb1⟩
   obtain ⟨hc1, -, hs1⟩ := hb1.cells1
   cases x0
   · go_wp2_with fail
     go_ret
     exact ⟨rfl, hb1.al⟩
   · go_wp2_with fail
     refine (end_any _ (hT.ext hB hb1.al) (by omega) hi hne hle).mono ?_
     rw [HX1.out]
     have hx1t : x1 = true := by simpa using hgo
     subst hx1t
     rintro e w2 ⟨rfl, hb2⟩
     go_wp2_with fail
     go_ret
     exact ⟨rfl, hb1.al.trans hb2⟩
 · obtain ⟨rfl, rfl⟩ : x0 = true ∧ x1 = false := by simpa using hgo
   obtain ⟨h0, hlen⟩ := xsS_len hx0
   obtain ⟨f, hfs⟩ : ∃ f : Nat, s / 262144 = f := ⟨(s / 262144).toNat, by omega⟩
   obtain ⟨r, hrs⟩ : ∃ r : Nat, s / 256 % 1024 = r := ⟨(s / 256 % 1024).toNat, by omega⟩
   have hr1024 : r < 1024 := by omega
   have hlt : f < fm.fields.length := by
    rcases Nat.lt_or_ge f fm.fields.length with h | h
    · exact h
    · exfalso
      have : fm.fields[f]? = none := List.getElem?_eq_none_iff.2 h
      unfold exists1 xsS at hx0
      rw [if_neg (by omega), hfs, Int.toNat_natCast, this] at hx0
      rw [hx1] at hx0
      cases hx0
   obtain ⟨x, hx⟩ : ∃ x, fm.fields[f]? = some x := ⟨_, List.getElem?_eq_getElem hlt⟩
   have hmem := List.mem_of_getElem? hx
   have hk0 : kindS x (innS t) s = true := by rw [exists1, xsS_some h0 hfs hx] at hx0; exact hx0
   have e2 : pstep1 t fm.fields s b = if x.kind = 5 then nestK t x f r s b else stepK x f r b := by simp only [pstep1, hx0, hx1, hfs, hrs, Int.toNat_natCast, hx]; simp
   obtain ⟨res, hres⟩ : ∃ res, res = if x.kind = 5 then nestK t x f r s b else stepK x f r b := ⟨_, rfl⟩
   rw [← hres] at e2
   have HRES := Lib.hid hres; clear hres
   rw [e2]
   have E2 := Lib.hid e2
   have HF := Lib.hid hfs
   have HR := Lib.hid hrs
   have HX := Lib.hid hx
   have HK := Lib.hid hk0
   clear e2 hx0 hx1 hfs hrs hx hk0 hgo
   go_enter Tryz.func98, Tryz.ntmps98
   go_wp2_with fail
   refine (exists1_any _ h1 (hT.alloc hB _) (by simp; omega) hi hne hle hp hnest).mono ?_
   rw [HX0.out]
   rintro e w1 ⟨rfl, hb1⟩
   obtain ⟨hc1, -, hs1⟩ := hb1.cells1
   go_wp2_with fail
   refine (end_any _ (hT.ext hB hb1.al) (by omega) hi hne hle).mono ?_
   rw [HX1.out]
   rintro e w2 ⟨rfl, hb2⟩
   obtain ⟨hc2, -⟩ := hb2.cells
   have hs2 := hb2.size
   have hla : w.heap.size < w1.heap.size := by omega
   go_wp2_with fail
   refine (split_any _ _ h0 h1).mono ?_
   rw [HF.out, HR.out]
   rintro e w' ⟨rfl, rfl⟩
   go_wp2_with fail
   obtain ⟨tb, toff, fb, foff, fcap, rfl, htb, htc, hfb, hF⟩ := hT.get hi hne
   obtain ⟨c0, c1, c2, c3, c4, cw⟩ := hF _ _ HX.out
   have hin := lt_of_get hi
   have hn63 := hT.1
   unfold maxLen at hn63
   have hw2 : w.heap.size < w2.heap.size := by omega
   have k0 : w2.cell? ⟨w.heap.size, 0, none⟩ = some (.slice (some ⟨tb, toff, none⟩) t.length cap) := by rw [hc2 _ _ (by omega), hc1 _ _ (by omega)]; simp
   have k1 : w2.cell? ⟨w.heap.size, 1, none⟩ = some (.int .i64 i) := by rw [hc2 _ _ (by omega), hc1 _ _ (by omega)]; simp
   have d := fun o => (hb1.al.trans hb2).cell (b := fb) (o := o) (by omega)
   have d' := (hb1.al.trans hb2).cell (b := tb) (o := toff + i * 2 + 1) (by omega)
   rw [← d'] at htc
   rw [← d] at c0 c1 c2 c3 c4
   clear d d' hF hc1 hc2
   obtain ⟨W, hW⟩ : ∃ W, W = (w2.alloc (Obj.cells #[Value.int IntKind.i64 ↑f] 3)).alloc (Obj.cells #[Value.int IntKind.i64 ↑r] 3) := ⟨_, rfl⟩
   go_cut [10] (fun s10 wx => ∃ g : Nat, s10 = .pointer (some ⟨g, 0, none⟩) ∧ w2.heap.size + 2 ≤ g ∧ Ext ((w2.alloc (Obj.cells #[Value.int IntKind.i64 ↑f] 3)).alloc (Obj.cells #[Value.int IntKind.i64 ↑r] 3)) wx ∧
    wx.heap[g]? = some (.cells #[.int .i64 x.kind, .string x.bytes, .int .i64 x.n, .int .i64 x.low, .int .i64 x.high] 59))
   case first =>
    have k0 := cs_al (o := Obj.cells #[Value.int IntKind.i64 ↑r] 3) (cs_al (o := Obj.cells #[Value.int IntKind.i64 ↑f] 3) k0)
    have k1 := cs_al (o := Obj.cells #[Value.int IntKind.i64 ↑r] 3) (cs_al (o := Obj.cells #[Value.int IntKind.i64 ↑f] 3) k1)
    have k2 : ((w2.alloc (Obj.cells #[Value.int IntKind.i64 ↑f] 3)).alloc (Obj.cells #[Value.int IntKind.i64 ↑r] 3)).cell? ⟨w2.heap.size, 0, none⟩ = some (.int .i64 f) := cs_al (cs_new rfl)
    have htc := cs_al (o := Obj.cells #[Value.int IntKind.i64 ↑r] 3) (cs_al (o := Obj.cells #[Value.int IntKind.i64 ↑f] 3) htc)
    have c0 := cs_al (o := Obj.cells #[Value.int IntKind.i64 ↑r] 3) (cs_al (o := Obj.cells #[Value.int IntKind.i64 ↑f] 3) c0)
    have c1 := cs_al (o := Obj.cells #[Value.int IntKind.i64 ↑r] 3) (cs_al (o := Obj.cells #[Value.int IntKind.i64 ↑f] 3) c1)
    have c2 := cs_al (o := Obj.cells #[Value.int IntKind.i64 ↑r] 3) (cs_al (o := Obj.cells #[Value.int IntKind.i64 ↑f] 3) c2)
    have c3 := cs_al (o := Obj.cells #[Value.int IntKind.i64 ↑r] 3) (cs_al (o := Obj.cells #[Value.int IntKind.i64 ↑f] 3) c3)
    have c4 := cs_al (o := Obj.cells #[Value.int IntKind.i64 ↑r] 3) (cs_al (o := Obj.cells #[Value.int IntKind.i64 ↑f] 3) c4)
    have HFCT := Lib.hid (And.intro k0 (And.intro k1 (And.intro k2 (And.intro c0 (And.intro c1 (And.intro c2 (And.intro c3 c4)))))))
    refine wp_region_calm 6 (fun w' => Ext ((w2.alloc (Obj.cells #[Value.int IntKind.i64 ↑f] 3)).alloc (Obj.cells #[Value.int IntKind.i64 ↑r] 3)) w') (by kernel_rfl) (by kernel_rfl) (fun _ _ h hE => h.trans hE) (Ext.drew _) ?_
    refine calm_value (fun _ => rfl) ?_ (fun g w' hE => ?_) ?_
    rotate_left
    · (have ⟨z0, z1, z2, z3, z4, z5, z6, z7⟩ := cs_e8 hE HFCT.out; go_simp; first | done | rfl)
    refine calm_call' (fun _ => rfl) 101 ?_ (fun g w' hE => ?_) ?_
    rotate_left
    · (have ⟨z0, z1, z2, z3, z4, z5, z6, z7⟩ := cs_e8 hE HFCT.out; go_simp; first | done | exact ⟨rfl, rfl⟩ | rfl)
    apply Exists.intro
    refine And.intro (fun w' hE => ?_) ?_
    · exact fields_at hin hn63 (cs_ext hE htc) (by have := hE.size; simp at this; omega)
    refine calm_value (fun _ => rfl) ?_ (fun g w' hE => ?_) ?_
    rotate_left
    · (have ⟨z0, z1, z2, z3, z4, z5, z6, z7⟩ := cs_e8 hE HFCT.out; go_simp; first | done | rfl)
    refine calm_value (fun _ => rfl) ?_ (fun g w' hE => ?_) ?_
    rotate_left
    · (have ⟨z0, z1, z2, z3, z4, z5, z6, z7⟩ := cs_e8 hE HFCT.out; go_simp; first | done | rfl)
    refine calm_value (fun _ => rfl) ?_ (fun g w' hE => ?_) ?_
    rotate_left
    · (have ⟨z0, z1, z2, z3, z4, z5, z6, z7⟩ := cs_e8 hE HFCT.out; go_simp; first | done | rfl)
    refine calm_fresh (fun _ => rfl) (fun n => .pointer (some ⟨n, 0, none⟩)) ?_ (fun g w' hE => ?_) ?_
    rotate_left
    · (have ⟨z0, z1, z2, z3, z4, z5, z6, z7⟩ := cs_e8 hE HFCT.out; go_simp; first | done | rfl | exact ⟨rfl, rfl⟩)
    intro g wz hE hF
    simp only [List.drop_succ_cons, List.drop_zero, Act.put, List.setIfInBounds_toArray, List.set_cons_succ, List.set_cons_zero]
    obtain ⟨-, hF, -⟩ := hF
    obtain ⟨hg, hge⟩ := hF _ List.mem_cons_self
    simp at hg hge
    refine wpList_store_all rfl 59 (.tmp 10) (.tmp 38) rfl (g 5) _ rfl rfl 59 _ hg (by kernel_rfl) rfl (by simp [Value.oneCell']) ?_
    go_wp2_with fail

    go_meet
    exact ⟨g 5, rfl, by omega, hE.setRow (by simp; omega) _, setRow_heap _ _ _ _ _ _ hg⟩
   case rest =>
    obtain ⟨g, rfl, hg2, hEc, hgc⟩ := hcut
    have r0 := cs_ext hEc (cs_al (o := Obj.cells #[Value.int IntKind.i64 ↑r] 3) (cs_al (o := Obj.cells #[Value.int IntKind.i64 ↑f] 3) k0))
    have r1 := cs_ext hEc (cs_al (o := Obj.cells #[Value.int IntKind.i64 ↑r] 3) (cs_al (o := Obj.cells #[Value.int IntKind.i64 ↑f] 3) k1))
    have rf : wc.cell? ⟨w2.heap.size, 0, none⟩ = some (.int .i64 f) := cs_ext hEc (cs_al (cs_new rfl))
    have rr : wc.cell? ⟨w2.heap.size + 1, 0, none⟩ = some (.int .i64 r) := cs_ext hEc (by rw [← World.size_alloc w2 (Obj.cells #[Value.int IntKind.i64 ↑f] 3)]; exact cs_new rfl)
    have g0 : wc.cell? ⟨g, 0, none⟩ = some (.int .i64 x.kind) := by rw [cell_of_row _ _ _ _ _ _ hgc]; rfl
    have g1 : wc.cell? ⟨g, 1, none⟩ = some (.string x.bytes) := by rw [cell_of_row _ _ _ _ _ _ hgc]; rfl
    have g2 : wc.cell? ⟨g, 2, none⟩ = some (.int .i64 x.n) := by rw [cell_of_row _ _ _ _ _ _ hgc]; rfl
    have g3 : wc.cell? ⟨g, 3, none⟩ = some (.int .i64 x.low) := by rw [cell_of_row _ _ _ _ _ _ hgc]; rfl
    have g4 : wc.cell? ⟨g, 4, none⟩ = some (.int .i64 x.high) := by rw [cell_of_row _ _ _ _ _ _ hgc]; rfl
    have hsc := hEc.size
    simp only [World.size_alloc] at hsc
    have hglt : g < wc.heap.size := World.block_lt_of_cell? wc _ g0
    have hEw : Ext w wc := (hb1.al.trans hb2).trans (((Ext.alloc _ _).trans (Ext.alloc _ _)).trans hEc)
    have l0 : w.heap.size < wc.heap.size := by omega
    have l1 : w2.heap.size < wc.heap.size := by omega
    have l2 : w2.heap.size + 1 < wc.heap.size := by omega
    clear k0 k1 htc c0 c1 c2 c3 c4 hEc hgc hb1 hb2 hs1 hs2
    have hnx : (wc.alloc (Obj.cells #[Value.int IntKind.i64 ((↑f + 1) * 262144)] 3)).cell? ⟨wc.heap.size, 0, none⟩ = some (.int .i64 (stS (f + 1) 0)) := by rw [cs_new rfl]; simp [stS]
    have hf1000 : f ≤ 1000 := by omega
    rcases hp x hmem with hk | hk | hk | hk | hk | hk
    · have hK1 := HK.out
      simp only [kindS, hk, if_true, HR.out] at hK1
      have HBR : Hid (x.bytes.data.toList.getD r 0 = x.bytes[r]'(by simpa using (Bool.and_eq_true_iff.1 hK1).2)) := by
       have : r < x.bytes.size := by simpa using (Bool.and_eq_true_iff.1 hK1).2
       show _ = _
       rw [List.getD_eq_getElem?_getD, List.getElem?_eq_getElem (by simpa using this)]
       rfl
      have hrb : r < x.bytes.size := by simpa using (Bool.and_eq_true_iff.1 hK1).2
      by_cases hbb : x.bytes[r].toNat = b
      · have e1 : (((x.bytes[r].toNat : Nat) : Int) == (b : Int)) = true := by simp; omega
        have HBB := Lib.hid hbb; clear hbb
        go_wp2_with fail
        refine (join_any _ _ _ _ (by omega) (by omega) (by omega) (by omega) (by omega) (by omega)).mono ?_
        rintro e w' ⟨rfl, rfl⟩
        go_wp2_with fail
        refine (dcounted_any _ _ 0 f _ _ _ (cs_al rr) hnx (cs_al rf) (by omega) (by omega) (by omega) (by omega)).mono ?_
        rintro e w' ⟨rfl, rfl⟩
        go_wp2_with fail
        go_ret
        exact ⟨ri (by rw [HRES.out, if_neg (by omega)]; simp only [stepK, hk, if_true]; rw [HBR.out, if_pos HBB.out]), hEw.then_al _⟩
      · have e1 : (((x.bytes[r].toNat : Nat) : Int) == (b : Int)) = false := by simp; omega
        have HBB := Lib.hid hbb; clear hbb
        go_wp2_with fail
        refine (join_any _ _ _ _ (by omega) (by omega) (by omega) (by omega) (by omega) (by omega)).mono ?_
        rintro e w' ⟨rfl, rfl⟩
        go_wp2_with fail
        go_ret
        exact ⟨ri (by rw [HRES.out, if_neg (by omega)]; simp only [stepK, hk, if_true]; rw [HBR.out, if_neg HBB.out]), hEw.then_al _⟩
    · have hK1 := HK.out
      clear HK
      go_wp2_with fail
      refine (join_any _ _ _ _ (by omega) (by omega) (by omega) (by omega) (by omega) (by omega)).mono ?_
      rintro e w' ⟨rfl, rfl⟩
      go_wp2_with fail
      refine (dcounted_any _ _ 0 f _ _ _ (cs_al rr) hnx (cs_al rf) (by omega) (by omega) (by omega) (by omega)).mono ?_
      rintro e w' ⟨rfl, rfl⟩
      go_wp2_with fail
      go_ret
      exact ⟨ri (by rw [HRES.out, if_neg (by omega)]; simp [stepK, hk]), hEw.then_al _⟩
    · have hK1 := HK.out
      have hxn : I64 x.n := cw.n
      unfold I64 at hxn
      clear HK
      by_cases hr0 : 0 < r
      · have e1 : decide ((0 : Int) < (r : Int)) = true := by simp; omega
        go_wp2_with fail
        refine (join_any _ _ _ _ (by omega) (by omega) (by omega) (by omega) (by omega) (by omega)).mono ?_
        rintro e w' ⟨rfl, rfl⟩
        go_wp2_with fail
        refine (left_any _ 0 f _ _ _ (cs_al rr) hnx (cs_al rf) (by omega) (by omega) (by omega) (by omega)).mono ?_
        rintro e w' ⟨rfl, rfl⟩
        go_wp2_with fail
        go_ret
        exact ⟨ri (by rw [HRES.out, if_neg (by omega)]; simp [stepK, hk, hr0]), hEw.then_al _⟩
      · have e1 : decide ((0 : Int) < (r : Int)) = false := by simp; omega
        by_cases hb0 : b = 0
        · have e2 : ((b : Int) == 0) = true := by simp; omega
          go_wp2_with fail
          refine (join_any _ _ _ _ (by omega) (by omega) (by omega) (by omega) (by omega) (by omega)).mono ?_
          rintro e w' ⟨rfl, rfl⟩
          go_wp2_with fail
          go_ret
          exact ⟨ri (by rw [HRES.out, if_neg (by omega)]; simp [stepK, hk, hr0, hb0, stS]), hEw.then_al _⟩
        · have e2 : ((b : Int) == 0) = false := by simp; omega
          by_cases hbn : (b : Int) ≤ x.n
          · go_wp2_with fail
            refine (join_any _ _ _ _ (by omega) (by omega) (by omega) (by omega) (by omega) (by omega)).mono ?_
            rintro e w' ⟨rfl, rfl⟩
            go_wp2_with fail
            refine (join_any _ _ _ _ (by omega) (by omega) (by omega) (by omega) (by omega) (by omega)).mono ?_
            rintro e w' ⟨rfl, rfl⟩
            go_wp2_with fail
            go_ret
            exact ⟨ri (by rw [HRES.out, if_neg (by omega)]; simp [stepK, hk, hr0, hb0, stS]; omega), hEw.then_al _⟩
          · go_wp2_with fail
            refine (join_any _ _ _ _ (by omega) (by omega) (by omega) (by omega) (by omega) (by omega)).mono ?_
            rintro e w' ⟨rfl, rfl⟩
            go_wp2_with fail
            go_ret
            exact ⟨ri (by rw [HRES.out, if_neg (by omega)]; simp [stepK, hk, hr0, hb0, stS]; omega), hEw.then_al _⟩
    · have hK1 := HK.out
      clear HK
      go_wp2_with fail
      refine (join_any _ _ _ _ (by omega) (by omega) (by omega) (by omega) (by omega) (by omega)).mono ?_
      rintro e w' ⟨rfl, rfl⟩
      go_wp2_with fail
      all_goals go_ret
      all_goals exact ⟨ri (by rw [HRES.out, if_neg (by omega)]; simp [stepK, hk, stS]; omega), hEw.then_al _⟩
    · have hK1 := HK.out
      clear HK
      go_wp2_with fail
      refine (join_any _ _ _ _ (by omega) (by omega) (by omega) (by omega) (by omega) (by omega)).mono ?_
      rintro e w' ⟨rfl, rfl⟩
      go_wp2_with fail
      · refine (join_any _ _ _ _ (by omega) (by omega) (by omega) (by omega) (by omega) (by omega)).mono ?_
        rintro e w' ⟨rfl, rfl⟩
        go_wp2_with fail
        go_ret
        exact ⟨ri (by rw [HRES.out, if_neg (by omega)]; simp [stepK, hk, stS]; omega), hEw.then_al _⟩
      · go_ret
        exact ⟨ri (by rw [HRES.out, if_neg (by omega)]; simp [stepK, hk, stS]; omega), hEw.then_al _⟩
    · obtain ⟨j, hj, gm, hgm, hgne, hgle, hgp⟩ := hnest x hmem hk
      have hK1 := HK.out
      clear HK
      by_cases hr0 : r = 0
      · subst hr0
        by_cases hb0 : b = 0
        · subst hb0
          go_wp2_with fail
          refine (join_any _ _ _ _ (by omega) (by omega) (by omega) (by omega) (by omega) (by omega)).mono ?_
          rintro e w' ⟨rfl, rfl⟩
          go_wp2_with fail
          go_ret
          exact ⟨ri (by rw [HRES.out, if_pos hk]; simp [nestK]), hEw.then_al _⟩
        · have e2 : ((b : Int) == 0) = false := by simp; omega
          go_wp2_with fail
          refine (join_any _ _ _ _ (by omega) (by omega) (by omega) (by omega) (by omega) (by omega)).mono ?_
          rintro e w' ⟨rfl, rfl⟩
          go_wp2_with fail
          refine (join_any _ _ _ _ (by omega) (by omega) (by omega) (by omega) (by omega) (by omega)).mono ?_
          rintro e w' ⟨rfl, rfl⟩
          go_wp2_with fail
          go_ret
          exact ⟨ri (by rw [HRES.out, if_pos hk]; simp [nestK, hb0, stS]), hEw.then_al _⟩
      · have e2 : ((r : Int) == 0) = false := by simp; omega
        go_wp2_with fail
        refine (join_any _ _ _ _ (by omega) (by omega) (by omega) (by omega) (by omega) (by omega)).mono ?_
        rintro e w' ⟨rfl, rfl⟩
        go_wp2_with fail
        refine (inner_any _ _ _ _ _ _ _ _ _).mono ?_
        rintro e w5 ⟨rfl, hb5⟩
        go_wp2_with fail
        have hn0 : (t.getD x.n.toNat default).fields = gm.fields := by simp [hj, hgm]
        have HN0 := Lib.hid hn0; clear hn0
        have hs5 := hb5.size
        simp only [World.size_alloc] at hs5
        have hEw5 : Ext w w5 := (hEw.then_al _).trans hb5
        have hT5 := hT.ext hB hEw5
        have q0 : (w5.alloc (Obj.cells #[Value.slice (some ⟨tb, toff, none⟩) t.length cap, Value.int IntKind.i64 ↑j] 132)).cell? ⟨w5.heap.size, 0, none⟩ = some (.slice (some ⟨tb, toff, none⟩) t.length cap) := cs_new rfl
        have q1 : (w5.alloc (Obj.cells #[Value.slice (some ⟨tb, toff, none⟩) t.length cap, Value.int IntKind.i64 ↑j] 132)).cell? ⟨w5.heap.size, 1, none⟩ = some (.int .i64 j) := cs_new rfl
        have q2 : (w5.alloc (Obj.cells #[Value.slice (some ⟨tb, toff, none⟩) t.length cap, Value.int IntKind.i64 ↑j] 132)).cell? ⟨w2.heap.size + 1, 0, none⟩ = some (.int .i64 r) := cs_al (cs_ext hb5 (cs_al rr))
        have q3 : (w5.alloc (Obj.cells #[Value.slice (some ⟨tb, toff, none⟩) t.length cap, Value.int IntKind.i64 ↑j] 132)).cell? ⟨w2.heap.size, 0, none⟩ = some (.int .i64 f) := cs_al (cs_ext hb5 (cs_al rf))
        have q4 : (w5.alloc (Obj.cells #[Value.slice (some ⟨tb, toff, none⟩) t.length cap, Value.int IntKind.i64 ↑j] 132)).cell? ⟨wc.heap.size, 0, none⟩ = some (.int .i64 (stS (f + 1) 0)) := cs_al (cs_ext hb5 hnx)
        have hle0 := pstep0_le (s := s % 256 / 32 * 262144 + s % 32 * 256) hgle hb255
        obtain ⟨xn, hxn⟩ : ∃ xn, xn = pstep0 gm.fields (s % 256 / 32 * 262144 + s % 32 * 256) b := ⟨_, rfl⟩
        rw [← hxn] at hle0
        have HXN := Lib.hid hxn; clear hxn
        have hdv : IntKind.i64.wrap ((s % 256).tdiv 32) = s % 256 / 32 := by rw [Int.tdiv_eq_ediv_of_nonneg (by omega)]; exact IntWalk.i64_in _ (by omega)
        have hmd : (s % 256).tmod 32 = s % 32 := by rw [Int.tmod_eq_emod_of_nonneg (by omega)]; omega
        have HFCT := Lib.hid (And.intro q0 q1)
        refine wp_region_calm 8 (fun w' => Ext (w5.alloc (Obj.cells #[Value.slice (some ⟨tb, toff, none⟩) t.length cap, Value.int IntKind.i64 ↑j] 132)) w') (by kernel_rfl) (by kernel_rfl) (fun _ _ h hE => h.trans hE) (Ext.drew _) ?_
        refine calm_value (fun _ => rfl) ?_ (fun g w' hE => ?_) ?_
        rotate_left
        · (have ⟨z0, z1⟩ := cs_e2 hE HFCT.out; go_simp; first | done | rfl)
        refine calm_value (fun _ => rfl) ?_ (fun g w' hE => ?_) ?_
        rotate_left
        · (have ⟨z0, z1⟩ := cs_e2 hE HFCT.out; go_simp; first | done | rfl)
        refine calm_value (fun _ => rfl) ?_ (fun g w' hE => ?_) ?_
        rotate_left
        · (have ⟨z0, z1⟩ := cs_e2 hE HFCT.out; go_simp; first | done | rfl)
        refine calm_value (fun _ => rfl) ?_ (fun g w' hE => ?_) ?_
        rotate_left
        · (have ⟨z0, z1⟩ := cs_e2 hE HFCT.out; go_simp; first | done | rfl)
        refine calm_value (fun _ => rfl) ?_ (fun g w' hE => ?_) ?_
        rotate_left
        · (have ⟨z0, z1⟩ := cs_e2 hE HFCT.out; go_simp; first | done | rfl)
        refine calm_call' (fun _ => rfl) 120 ?_ (fun g w' hE => ?_) ?_
        rotate_left
        · (have ⟨z0, z1⟩ := cs_e2 hE HFCT.out; go_simp; first | done | exact ⟨rfl, rfl⟩ | rfl)
        apply Exists.intro
        refine And.intro (fun w' hE => ?_) ?_
        · exact (join_any _ _ _ _ (by omega) (by omega) (by omega) (by omega) (by omega) (by omega)).mono fun e w'' ⟨he, hw⟩ => ⟨he, hw ▸ Ext.refl _⟩
        refine calm_value (fun _ => rfl) ?_ (fun g w' hE => ?_) ?_
        rotate_left
        · (have ⟨z0, z1⟩ := cs_e2 hE HFCT.out; go_simp; first | done | rfl)
        refine calm_call' (fun _ => rfl) 98 ?_ (fun g w' hE => ?_) ?_
        rotate_left
        · (have ⟨z0, z1⟩ := cs_e2 hE HFCT.out; go_simp; first | done | exact ⟨rfl, rfl⟩ | rfl)
        apply Exists.intro
        refine And.intro (fun w' hE => ?_) ?_
        · (have h := step0_any (s % 256 / 32 * 262144 + s % 32 * 256) b hb255 (by omega) ((hT5.alloc (by omega) _).ext (by simp; omega) hE) (by have := hE.size; simp at this; omega) (cap := cap) hgm hgne hgle hgp; rw [← HXN.out] at h; exact h)
        intro gg wz hE5 hF5
        simp only [List.drop_succ_cons, List.drop_zero, Act.put, List.setIfInBounds_toArray, List.set_cons_succ, List.set_cons_zero]
        go_wp2_with fail
        have hsz := hE5.size
        simp only [World.size_alloc] at hsz
        have z0 := cs_ext hE5 q0
        have z1 := cs_ext hE5 q1
        have z2 := cs_ext hE5 q2
        have z3 := cs_ext hE5 q3
        have z4 := cs_ext hE5 q4
        have hEz : Ext w wz := (hEw5.then_al _).trans hE5
        have hTz := hT.ext hB hEz
        have hzs := hEz.size
        clear q0 q1 q2 q3 q4 hdv hmd
        by_cases hneg : xn < 0
        · refine wp_region_calm 10 (fun w' => Ext (wz) w') (by kernel_rfl) (by kernel_rfl) (fun _ _ h hE => h.trans hE) (Ext.drew _) ?_
          refine calm_value (fun _ => rfl) ?_ (fun g w' hE => ?_) ?_
          rotate_left
          · (go_simp; first | done | rfl)
          refine calm_value (fun _ => rfl) ?_ (fun g w' hE => ?_) ?_
          rotate_left
          · (go_simp; first | done | rfl)
          refine calm_value (fun _ => rfl) ?_ (fun g w' hE => ?_) ?_
          rotate_left
          · (go_simp; first | done | rfl)
          refine calm_skip (fun g => by go_simp) ?_
          refine calm_skip (fun g => by go_simp) ?_
          refine calm_skip (fun g => by go_simp) ?_
          refine calm_skip (fun g => by go_simp) ?_
          refine calm_skip (fun g => by go_simp) ?_
          refine calm_skip (fun g => by go_simp) ?_
          refine calm_value (fun _ => rfl) ?_ (fun g w' hE => ?_) ?_
          rotate_left
          · (go_simp; first | done | rfl)
          intro gg2 wy hE6 hF6
          simp only [List.drop_succ_cons, List.drop_zero, Act.put, List.setIfInBounds_toArray, List.set_cons_succ, List.set_cons_zero]
          go_wp2_with fail
          go_ret
          exact ⟨ri (by rw [HRES.out, if_pos hk, nestK_some HN0.out HXN.out.symm rfl hr0]; simp [hneg]), hEz.trans hE6⟩
        · have hnn : 0 ≤ xn := by omega
          generalize hen : endS gm.fields xn = en
          have HEN := Lib.hid hen; clear hen
          by_cases hr1 : r = 1
          · cases en
            · have e1 : ((r : Int) == 1) = true := by simp [hr1]
              have HR1 := Lib.hid hr1; clear hr1
              have HFCT := Lib.hid (And.intro z0 (And.intro z1 z2))
              refine wp_region_calm 10 (fun w' => Ext (wz) w') (by kernel_rfl) (by kernel_rfl) (fun _ _ h hE => h.trans hE) (Ext.drew _) ?_
              refine calm_value (fun _ => rfl) ?_ (fun g w' hE => ?_) ?_
              rotate_left
              · (have ⟨z0, z1, z2⟩ := cs_e3 hE HFCT.out; go_simp; first | done | rfl)
              refine calm_value (fun _ => rfl) ?_ (fun g w' hE => ?_) ?_
              rotate_left
              · (have ⟨z0, z1, z2⟩ := cs_e3 hE HFCT.out; go_simp; first | done | rfl)
              refine calm_value (fun _ => rfl) ?_ (fun g w' hE => ?_) ?_
              rotate_left
              · (have ⟨z0, z1, z2⟩ := cs_e3 hE HFCT.out; go_simp; first | done | rfl)
              refine calm_value (fun g => by go_simp) ?_ (fun g w' hE => ?_) ?_
              rotate_left
              · (have ⟨z0, z1, z2⟩ := cs_e3 hE HFCT.out; go_simp; first | done | rfl)
              refine calm_value (fun g => by go_simp) ?_ (fun g w' hE => ?_) ?_
              rotate_left
              · (have ⟨z0, z1, z2⟩ := cs_e3 hE HFCT.out; go_simp; first | done | rfl)
              refine calm_value (fun g => by go_simp) ?_ (fun g w' hE => ?_) ?_
              rotate_left
              · (have ⟨z0, z1, z2⟩ := cs_e3 hE HFCT.out; go_simp; first | done | rfl)
              refine calm_value (fun g => by go_simp) ?_ (fun g w' hE => ?_) ?_
              rotate_left
              · (have ⟨z0, z1, z2⟩ := cs_e3 hE HFCT.out; go_simp; first | done | rfl)
              refine calm_call' (fun g => by go_simp) 119 ?_ (fun g w' hE => ?_) ?_
              rotate_left
              · (have ⟨z0, z1, z2⟩ := cs_e3 hE HFCT.out; go_simp; first | done | exact ⟨rfl, rfl⟩ | rfl)
              apply Exists.intro
              refine And.intro (fun w' hE => ?_) ?_
              · (have h := end_any xn (hTz.ext (by omega) hE) (by have := hE.size; omega) (cap := cap) hgm hgne hgle; rw [HEN.out] at h; exact h)
              refine calm_value (fun g => by go_simp) ?_ (fun g w' hE => ?_) ?_
              rotate_left
              · (have ⟨z0, z1, z2⟩ := cs_e3 hE HFCT.out; go_simp; first | done | rfl)
              refine calm_value (fun _ => rfl) ?_ (fun g w' hE => ?_) ?_
              rotate_left
              · (have ⟨z0, z1, z2⟩ := cs_e3 hE HFCT.out; go_simp; first | done | rfl)
              intro gg2 wy hE6 hF6
              simp only [List.drop_succ_cons, List.drop_zero, Act.put, List.setIfInBounds_toArray, List.set_cons_succ, List.set_cons_zero]
              have y2 := cs_ext hE6 z2
              have y3 := cs_ext hE6 z3
              have y4 := cs_ext hE6 z4
              have hys := hE6.size
              go_wp2_with fail
              go_ret
              exact ⟨ri (by rw [HRES.out, if_pos hk, nestK_some HN0.out HXN.out.symm HEN.out hr0]; simp [HR1.out]), hEz.trans hE6⟩
            · have e1 : ((r : Int) == 1) = true := by simp [hr1]
              have HR1 := Lib.hid hr1; clear hr1
              have HFCT := Lib.hid (And.intro z0 (And.intro z1 z2))
              refine wp_region_calm 10 (fun w' => Ext (wz) w') (by kernel_rfl) (by kernel_rfl) (fun _ _ h hE => h.trans hE) (Ext.drew _) ?_
              refine calm_value (fun _ => rfl) ?_ (fun g w' hE => ?_) ?_
              rotate_left
              · (have ⟨z0, z1, z2⟩ := cs_e3 hE HFCT.out; go_simp; first | done | rfl)
              refine calm_value (fun _ => rfl) ?_ (fun g w' hE => ?_) ?_
              rotate_left
              · (have ⟨z0, z1, z2⟩ := cs_e3 hE HFCT.out; go_simp; first | done | rfl)
              refine calm_value (fun _ => rfl) ?_ (fun g w' hE => ?_) ?_
              rotate_left
              · (have ⟨z0, z1, z2⟩ := cs_e3 hE HFCT.out; go_simp; first | done | rfl)
              refine calm_value (fun g => by go_simp) ?_ (fun g w' hE => ?_) ?_
              rotate_left
              · (have ⟨z0, z1, z2⟩ := cs_e3 hE HFCT.out; go_simp; first | done | rfl)
              refine calm_value (fun g => by go_simp) ?_ (fun g w' hE => ?_) ?_
              rotate_left
              · (have ⟨z0, z1, z2⟩ := cs_e3 hE HFCT.out; go_simp; first | done | rfl)
              refine calm_value (fun g => by go_simp) ?_ (fun g w' hE => ?_) ?_
              rotate_left
              · (have ⟨z0, z1, z2⟩ := cs_e3 hE HFCT.out; go_simp; first | done | rfl)
              refine calm_value (fun g => by go_simp) ?_ (fun g w' hE => ?_) ?_
              rotate_left
              · (have ⟨z0, z1, z2⟩ := cs_e3 hE HFCT.out; go_simp; first | done | rfl)
              refine calm_call' (fun g => by go_simp) 119 ?_ (fun g w' hE => ?_) ?_
              rotate_left
              · (have ⟨z0, z1, z2⟩ := cs_e3 hE HFCT.out; go_simp; first | done | exact ⟨rfl, rfl⟩ | rfl)
              apply Exists.intro
              refine And.intro (fun w' hE => ?_) ?_
              · (have h := end_any xn (hTz.ext (by omega) hE) (by have := hE.size; omega) (cap := cap) hgm hgne hgle; rw [HEN.out] at h; exact h)
              refine calm_value (fun g => by go_simp) ?_ (fun g w' hE => ?_) ?_
              rotate_left
              · (have ⟨z0, z1, z2⟩ := cs_e3 hE HFCT.out; go_simp; first | done | rfl)
              refine calm_value (fun _ => rfl) ?_ (fun g w' hE => ?_) ?_
              rotate_left
              · (have ⟨z0, z1, z2⟩ := cs_e3 hE HFCT.out; go_simp; first | done | rfl)
              intro gg2 wy hE6 hF6
              simp only [List.drop_succ_cons, List.drop_zero, Act.put, List.setIfInBounds_toArray, List.set_cons_succ, List.set_cons_zero]
              have y2 := cs_ext hE6 z2
              have y3 := cs_ext hE6 z3
              have y4 := cs_ext hE6 z4
              have hys := hE6.size
              go_wp2_with fail
              go_ret
              exact ⟨ri (by rw [HRES.out, if_pos hk, nestK_some HN0.out HXN.out.symm HEN.out hr0]; simp [HR1.out]; omega), hEz.trans hE6⟩
          · cases en
            · have e1 : ((r : Int) == 1) = false := by simp; omega
              have HR1 := Lib.hid hr1; clear hr1
              have HFCT := Lib.hid (And.intro z0 (And.intro z1 z2))
              refine wp_region_calm 10 (fun w' => Ext (wz) w') (by kernel_rfl) (by kernel_rfl) (fun _ _ h hE => h.trans hE) (Ext.drew _) ?_
              refine calm_value (fun _ => rfl) ?_ (fun g w' hE => ?_) ?_
              rotate_left
              · (have ⟨z0, z1, z2⟩ := cs_e3 hE HFCT.out; go_simp; first | done | rfl)
              refine calm_value (fun _ => rfl) ?_ (fun g w' hE => ?_) ?_
              rotate_left
              · (have ⟨z0, z1, z2⟩ := cs_e3 hE HFCT.out; go_simp; first | done | rfl)
              refine calm_value (fun _ => rfl) ?_ (fun g w' hE => ?_) ?_
              rotate_left
              · (have ⟨z0, z1, z2⟩ := cs_e3 hE HFCT.out; go_simp; first | done | rfl)
              refine calm_value (fun g => by go_simp) ?_ (fun g w' hE => ?_) ?_
              rotate_left
              · (have ⟨z0, z1, z2⟩ := cs_e3 hE HFCT.out; go_simp; first | done | rfl)
              refine calm_value (fun g => by go_simp) ?_ (fun g w' hE => ?_) ?_
              rotate_left
              · (have ⟨z0, z1, z2⟩ := cs_e3 hE HFCT.out; go_simp; first | done | rfl)
              refine calm_value (fun g => by go_simp) ?_ (fun g w' hE => ?_) ?_
              rotate_left
              · (have ⟨z0, z1, z2⟩ := cs_e3 hE HFCT.out; go_simp; first | done | rfl)
              refine calm_value (fun g => by go_simp) ?_ (fun g w' hE => ?_) ?_
              rotate_left
              · (have ⟨z0, z1, z2⟩ := cs_e3 hE HFCT.out; go_simp; first | done | rfl)
              refine calm_call' (fun g => by go_simp) 119 ?_ (fun g w' hE => ?_) ?_
              rotate_left
              · (have ⟨z0, z1, z2⟩ := cs_e3 hE HFCT.out; go_simp; first | done | exact ⟨rfl, rfl⟩ | rfl)
              apply Exists.intro
              refine And.intro (fun w' hE => ?_) ?_
              · (have h := end_any xn (hTz.ext (by omega) hE) (by have := hE.size; omega) (cap := cap) hgm hgne hgle; rw [HEN.out] at h; exact h)
              refine calm_value (fun g => by go_simp) ?_ (fun g w' hE => ?_) ?_
              rotate_left
              · (have ⟨z0, z1, z2⟩ := cs_e3 hE HFCT.out; go_simp; first | done | rfl)
              refine calm_value (fun _ => rfl) ?_ (fun g w' hE => ?_) ?_
              rotate_left
              · (have ⟨z0, z1, z2⟩ := cs_e3 hE HFCT.out; go_simp; first | done | rfl)
              intro gg2 wy hE6 hF6
              simp only [List.drop_succ_cons, List.drop_zero, Act.put, List.setIfInBounds_toArray, List.set_cons_succ, List.set_cons_zero]
              have y2 := cs_ext hE6 z2
              have y3 := cs_ext hE6 z3
              have y4 := cs_ext hE6 z4
              have hys := hE6.size
              go_wp2_with fail
              refine (split_any _ _ hnn (by omega)).mono ?_
              rintro e w' ⟨rfl, rfl⟩
              go_wp2_with fail
              refine (join_any _ _ _ _ (by omega) (by omega) (by omega) (by omega) (by omega) (by omega)).mono ?_
              rintro e w' ⟨rfl, rfl⟩
              go_wp2_with fail
              go_ret
              exact ⟨ri (by rw [HRES.out, if_pos hk, nestK_some HN0.out HXN.out.symm HEN.out hr0]; simp [HR1.out, stS]; omega), hEz.trans hE6⟩
            · have e1 : ((r : Int) == 1) = false := by simp; omega
              have HR1 := Lib.hid hr1; clear hr1
              have HFCT := Lib.hid (And.intro z0 (And.intro z1 z2))
              refine wp_region_calm 10 (fun w' => Ext (wz) w') (by kernel_rfl) (by kernel_rfl) (fun _ _ h hE => h.trans hE) (Ext.drew _) ?_
              refine calm_value (fun _ => rfl) ?_ (fun g w' hE => ?_) ?_
              rotate_left
              · (have ⟨z0, z1, z2⟩ := cs_e3 hE HFCT.out; go_simp; first | done | rfl)
              refine calm_value (fun _ => rfl) ?_ (fun g w' hE => ?_) ?_
              rotate_left
              · (have ⟨z0, z1, z2⟩ := cs_e3 hE HFCT.out; go_simp; first | done | rfl)
              refine calm_value (fun _ => rfl) ?_ (fun g w' hE => ?_) ?_
              rotate_left
              · (have ⟨z0, z1, z2⟩ := cs_e3 hE HFCT.out; go_simp; first | done | rfl)
              refine calm_value (fun g => by go_simp) ?_ (fun g w' hE => ?_) ?_
              rotate_left
              · (have ⟨z0, z1, z2⟩ := cs_e3 hE HFCT.out; go_simp; first | done | rfl)
              refine calm_value (fun g => by go_simp) ?_ (fun g w' hE => ?_) ?_
              rotate_left
              · (have ⟨z0, z1, z2⟩ := cs_e3 hE HFCT.out; go_simp; first | done | rfl)
              refine calm_value (fun g => by go_simp) ?_ (fun g w' hE => ?_) ?_
              rotate_left
              · (have ⟨z0, z1, z2⟩ := cs_e3 hE HFCT.out; go_simp; first | done | rfl)
              refine calm_value (fun g => by go_simp) ?_ (fun g w' hE => ?_) ?_
              rotate_left
              · (have ⟨z0, z1, z2⟩ := cs_e3 hE HFCT.out; go_simp; first | done | rfl)
              refine calm_call' (fun g => by go_simp) 119 ?_ (fun g w' hE => ?_) ?_
              rotate_left
              · (have ⟨z0, z1, z2⟩ := cs_e3 hE HFCT.out; go_simp; first | done | exact ⟨rfl, rfl⟩ | rfl)
              apply Exists.intro
              refine And.intro (fun w' hE => ?_) ?_
              · (have h := end_any xn (hTz.ext (by omega) hE) (by have := hE.size; omega) (cap := cap) hgm hgne hgle; rw [HEN.out] at h; exact h)
              refine calm_value (fun g => by go_simp) ?_ (fun g w' hE => ?_) ?_
              rotate_left
              · (have ⟨z0, z1, z2⟩ := cs_e3 hE HFCT.out; go_simp; first | done | rfl)
              refine calm_value (fun _ => rfl) ?_ (fun g w' hE => ?_) ?_
              rotate_left
              · (have ⟨z0, z1, z2⟩ := cs_e3 hE HFCT.out; go_simp; first | done | rfl)
              intro gg2 wy hE6 hF6
              simp only [List.drop_succ_cons, List.drop_zero, Act.put, List.setIfInBounds_toArray, List.set_cons_succ, List.set_cons_zero]
              have y2 := cs_ext hE6 z2
              have y3 := cs_ext hE6 z3
              have y4 := cs_ext hE6 z4
              have hys := hE6.size
              go_wp2_with fail
              go_ret
              exact ⟨ri (by rw [HRES.out, if_pos hk, nestK_some HN0.out HXN.out.symm HEN.out hr0]; simp [HR1.out]), hEz.trans hE6⟩

theorem FldsA.get {w : World} {B : Nat} {fa : Option Addr} {F : List Fld} (hF : FldsA w B fa F) {k : Nat} {x : Fld} (hx : F[k]? = some x) : ∃ fb foff, fa = some ⟨fb, foff, none⟩ ∧ fb < B ∧ FldAt w fb (foff + k * 5) x := by
 obtain ⟨fb, foff, h1, h2, h3⟩ := hF.2 (ne_nil_of_get hx)
 exact ⟨fb, foff, h1, h2, h3 k x hx⟩

/-- whether a number is a state in a field that is not nested, or the end -/
def plainK (x : Fld) (r : Nat) : Bool :=
 if x.kind = 1 then decide (r < x.bytes.size)
 else if x.kind = 2 then decide ((r : Int) < x.n)
 else if x.kind = 4 then r == 0
 else if x.kind = 3 then decide ((r : Int) ≤ x.n)
 else if x.kind = 6 then decide ((r : Int) ≤ x.high)
 else r == 0
def plainS (F : List Fld) (f r : Nat) : Bool :=
 if f = F.length then r == 0 && noRest F else match F[f]? with | none => false | some x => plainK x r

structure VPlain (gm : Fmt) : Prop where
 ne : gm.fields ≠ []
 le : gm.fields.length ≤ 6
 fld : ∀ (k : Nat) (y : Fld), gm.fields[k]? = some y → y.kind = 1 ∧ 1 ≤ y.bytes.size ∧ y.bytes.size ≤ 8 ∨ y.kind = 2 ∧ 1 ≤ y.n ∧ y.n ≤ 15 ∨ y.kind = 3 ∧ 0 ≤ y.n ∧ y.n ≤ 15 ∨ y.kind = 4 ∧ 0 ≤ y.low ∧ y.low ≤ y.high ∧ y.high ≤ 255

structure VFmt (t : List Fmt) (fm : Fmt) : Prop where
 ne : fm.fields ≠ []
 le : fm.fields.length ≤ 6
 fld : ∀ (k : Nat) (x : Fld), fm.fields[k]? = some x → x.kind = 1 ∧ 1 ≤ x.bytes.size ∧ x.bytes.size ≤ 8 ∨ x.kind = 2 ∧ 1 ≤ x.n ∧ x.n ≤ 15 ∨ x.kind = 3 ∧ 0 ≤ x.n ∧ x.n ≤ 15 ∨ x.kind = 4 ∧ 0 ≤ x.low ∧ x.low ≤ x.high ∧ x.high ≤ 255 ∨
  x.kind = 6 ∧ k + 1 = fm.fields.length ∧ 0 ≤ x.low ∧ x.low ≤ x.high ∧ x.high ≤ 1000 ∨ x.kind = 5 ∧ ∃ j : Nat, x.n = j ∧ ∃ gm, t[j]? = some gm ∧ VPlain gm

theorem VPlain.kinds {gm : Fmt} (h : VPlain gm) : ∀ y ∈ gm.fields, y.kind = 1 ∨ y.kind = 2 ∨ y.kind = 3 ∨ y.kind = 4 ∨ y.kind = 6 := by
 intro y hy
 obtain ⟨k, hk⟩ := List.mem_iff_getElem?.1 hy
 rcases h.fld k y hk with h | h | h | h <;> simp [h.1]
theorem VFmt.kinds {t : List Fmt} {fm : Fmt} (h : VFmt t fm) : ∀ y ∈ fm.fields, y.kind = 1 ∨ y.kind = 2 ∨ y.kind = 3 ∨ y.kind = 4 ∨ y.kind = 6 ∨ y.kind = 5 := by
 intro y hy
 obtain ⟨k, hk⟩ := List.mem_iff_getElem?.1 hy
 rcases h.fld k y hk with h | h | h | h | h | h <;> simp [h.1]
def rNest (t : List Fmt) (x : Fld) (f r q b : Nat) : Int :=
 if r = 0 then (if q ≠ 0 ∨ b = 0 then -1 else stS f b) else
 if 255 < r ∨ plainS (t.getD x.n.toNat default).fields (q / 32) (q % 32) = false ∨ q / 32 = (t.getD x.n.toNat default).fields.length then -1 else
 match (t.getD x.n.toNat default).fields[q / 32]? with
 | none => -1
 | some y => if stepK y (q / 32) (q % 32) b < 0 then -1 else if r = 1 then (if stepK y (q / 32) (q % 32) b / 262144 ≠ (t.getD x.n.toNat default).fields.length then -1 else stS (f + 1) 0)
   else if stepK y (q / 32) (q % 32) b / 262144 = (t.getD x.n.toNat default).fields.length then -1 else stS f (r - 1) + (stepK y (q / 32) (q % 32) b / 262144 * 32 + stepK y (q / 32) (q % 32) b / 256 % 1024)

def rStep (t : List Fmt) (F : List Fld) (s : Int) (b : Nat) : Int :=
 if s < 0 then -1 else
 match F[(s / 262144).toNat]? with
 | none => -1
 | some x => if x.kind = 5 then rNest t x (s / 262144).toNat (s / 256 % 1024).toNat (s % 256).toNat b
   else if s % 256 ≠ 0 ∨ plainS F (s / 262144).toNat (s / 256 % 1024).toNat = false then -1 else stepK x (s / 262144).toNat (s / 256 % 1024).toNat b

theorem TabA.at {w : World} {B : Nat} {a : Option Addr} {t : List Fmt} {i : Nat} {fm : Fmt} (hT : TabA w B a t) (hi : t[i]? = some fm) :
 ∃ tb toff fa fcap, a = some ⟨tb, toff, none⟩ ∧ tb < B ∧ w.cell? ⟨tb, toff + i * 2, none⟩ = some (.string fm.name) ∧ w.cell? ⟨tb, toff + i * 2 + 1, none⟩ = some (.slice fa fm.fields.length fcap) ∧ FldsA w B fa fm.fields ∧ fm.name.size ≤ maxLen := by
 obtain ⟨-, hT⟩ := hT
 obtain ⟨b, off, rfl, hb, hT⟩ := hT (ne_nil_of_get hi)
 obtain ⟨hn, ⟨fa, fcap, hc, hF⟩, hw⟩ := hT i fm hi
 exact ⟨b, off, fa, fcap, rfl, hb, hn, hc, hF, hw⟩

def rAcc (F : List Fld) (s : Int) : Bool :=
 if s < 0 ∨ s % 256 ≠ 0 then false else
 if (s / 262144).toNat = F.length then s / 256 % 1024 == 0 && noRest F else
 match F[(s / 262144).toNat]? with
 | none => false
 | some x => x.kind == 6 && decide (x.low ≤ s / 256 % 1024) && decide (s / 256 % 1024 ≤ x.high)

theorem kindS_plain {x : Fld} {inn : Fld → Int → Bool} {s : Int} {r : Nat} (hr : s / 256 % 1024 = r) (hk : x.kind = 1 ∨ x.kind = 2 ∨ x.kind = 3 ∨ x.kind = 4 ∨ x.kind = 6) : kindS x inn s = (s % 256 == 0 && plainK x r) := by
 rw [Bool.eq_iff_iff]
 rcases hk with h | h | h | h | h <;> simp [kindS, plainK, h, hr]

theorem endS_lt {F : List Fld} {s : Int} {f : Nat} (hf : s / 262144 = f) (h : f < F.length) : endS F s = false := by
 unfold endS
 have : (s == (F.length : Int) * 262144) = false := by simp; omega
 rw [this]; rfl

theorem exists0_at {F : List Fld} {q1 q2 : Nat} {y : Fld} (h2 : q2 < 1024) (hy : F[q1]? = some y) (hk : y.kind = 1 ∨ y.kind = 2 ∨ y.kind = 3 ∨ y.kind = 4 ∨ y.kind = 6) : exists0 F ((q1 : Int) * 262144 + (q2 : Int) * 256) = plainK y q2 := by
 rw [exists0, xsS_some (f := q1) (by omega) (by omega) hy, kindS_plain (r := q2) (by omega) hk]
 have : (((q1 : Int) * 262144 + (q2 : Int) * 256) % 256 == 0) = true := by simp; omega
 rw [this]; rfl

theorem pstep0_at {F : List Fld} {q1 q2 b : Nat} {y : Fld} (h2 : q2 < 1024) (hy : F[q1]? = some y) (hk : y.kind = 1 ∨ y.kind = 2 ∨ y.kind = 3 ∨ y.kind = 4 ∨ y.kind = 6) :
 pstep0 F ((q1 : Int) * 262144 + (q2 : Int) * 256) b = if plainK y q2 = false then -1 else stepK y q1 q2 b := by
 have e1 : (((q1 : Int) * 262144 + (q2 : Int) * 256) / 262144).toNat = q1 := by omega
 have e2 : (((q1 : Int) * 262144 + (q2 : Int) * 256) / 256 % 1024).toNat = q2 := by omega
 rw [pstep0, exists0_at h2 hy hk, endS_lt (f := q1) (by omega) (lt_of_get hy), e1, e2, hy]
 simp

theorem noRest_plain {gm : Fmt} (h : VPlain gm) : noRest gm.fields = true := by
 unfold noRest
 cases hl : gm.fields.getLast? with
 | none => simp at hl; exact absurd hl h.ne
 | some y =>
   simp only
   rw [List.getLast?_eq_getElem?] at hl
   rcases h.fld _ y hl with h | h | h | h <;> simp [h.1]

theorem stepK_end {gm : Fmt} (h : VPlain gm) {q1 q2 b : Nat} {y : Fld} (hy : gm.fields[q1]? = some y) (hp : plainK y q2 = true) (hq : q2 ≤ 31) (hb : b ≤ 255) (hn : 0 ≤ stepK y q1 q2 b) :
 endS gm.fields (stepK y q1 q2 b) = decide (stepK y q1 q2 b / 262144 = gm.fields.length) := by
 have hlt := lt_of_get hy
 rw [endS, noRest_plain h, Bool.and_true, Bool.eq_iff_iff]
 simp only [beq_iff_eq, decide_eq_true_eq]
 constructor
 · intro e; rw [e]; omega
 · intro e
   revert hn e
   unfold stepK cntD lftS stS
   (repeat' split) <;> intros <;> omega

theorem step_eq {t : List Fmt} {fm : Fmt} (hV : VFmt t fm) (s : Int) (b : Nat) (hb : b ≤ 255) : rStep t fm.fields s b = pstep1 t fm.fields s b := by
 by_cases hs : s < 0
 · have : exists1 t fm.fields s = false := by rw [exists1, xsS, if_pos hs]
   rw [rStep, if_pos hs, pstep1, if_pos (Or.inl this)]
 · have hs0 : 0 ≤ s := by omega
   obtain ⟨f, hfs⟩ : ∃ f : Nat, s / 262144 = f := ⟨(s / 262144).toNat, by omega⟩
   obtain ⟨r, hrs⟩ : ∃ r : Nat, s / 256 % 1024 = r := ⟨(s / 256 % 1024).toNat, by omega⟩
   obtain ⟨q, hqs⟩ : ∃ q : Nat, s % 256 = q := ⟨(s % 256).toNat, by omega⟩
   have hr : r < 1024 := by omega
   have hq : q < 256 := by omega
   rw [rStep, if_neg hs, pstep1, hfs, hrs, hqs]
   simp only [Int.toNat_natCast]
   cases hx : fm.fields[f]? with
   | none => simp
   | some x =>
     simp only
     have hend := endS_lt hfs (lt_of_get hx)
     have hex : exists1 t fm.fields s = kindS x (innS t) s := by rw [exists1, xsS_some hs0 hfs hx]
     rw [hend, hex]
     by_cases hk5 : x.kind = 5
     · rw [if_pos hk5, if_pos hk5]
       have hVn : ∃ j : Nat, x.n = j ∧ ∃ gm, t[j]? = some gm ∧ VPlain gm := by
        rcases hV.fld f x hx with h | h | h | h | h | h
        all_goals first | exact h.2 | (have := h.1; omega)
       obtain ⟨j, hj, gm, hgm, hVg⟩ := hVn
       have hnG : (t.getD x.n.toNat default).fields = gm.fields := by simp [hj, hgm]
       have hkS : kindS x (innS t) s = if r = 0 then (q : Int) == 0 else decide ((r : Int) ≤ 255) && innS t x (s % 256 / 32 * 262144 + s % 32 * 256) := by
        simp only [kindS, hk5, hrs, hqs]
        simp
       rw [hkS]
       by_cases hr0 : r = 0
       · subst hr0
         simp only [rNest, nestK, if_true]
         by_cases hq0 : q = 0
         · simp [hq0]
         · simp [hq0]
       · rw [rNest, nestK, if_neg hr0, if_neg hr0, if_neg hr0, hnG, innS, hnG]
         have en0 : s % 256 / 32 * 262144 + s % 32 * 256 = ((q / 32 : Nat) : Int) * 262144 + ((q % 32 : Nat) : Int) * 256 := by omega
         rw [en0]
         have hq1 : q / 32 < 8 := by omega
         have hq2 : q % 32 < 32 := by omega
         generalize q / 32 = q1 at *
         generalize q % 32 = q2 at *
         by_cases h255 : 255 < r
         · have : decide ((r : Int) ≤ 255) = false := by simp; omega
           rw [if_pos (Or.inl h255), this]
           simp
         · have : decide ((r : Int) ≤ 255) = true := by simp; omega
           rw [this, Bool.true_and]
           cases hy : gm.fields[q1]? with
           | none =>
             have hge : gm.fields.length ≤ q1 := List.getElem?_eq_none_iff.1 hy
             have hx0 : exists0 gm.fields ((q1 : Int) * 262144 + (q2 : Int) * 256) = endS gm.fields ((q1 : Int) * 262144 + (q2 : Int) * 256) := by
              have e1 : (((q1 : Int) * 262144 + (q2 : Int) * 256) / 262144).toNat = q1 := by omega
              rw [exists0, xsS, if_neg (by omega), e1, hy]
             rw [hx0]
             simp
           | some y =>
             have hky := hVg.kinds y (List.mem_of_getElem? hy)
             have hlt := lt_of_get hy
             rw [exists0_at (by omega) hy hky, endS_lt (f := q1) (by omega) hlt, pstep0_at (by omega) hy hky]
             have hpl : plainS gm.fields q1 q2 = plainK y q2 := by rw [plainS, if_neg (by omega), hy]
             rw [hpl]
             cases hp : plainK y q2
             · simp
             · have hqne : ¬ q1 = gm.fields.length := by omega
               simp only [Bool.true_and, Bool.not_false, Bool.true_eq_false, false_or, if_false, h255, hqne, or_self]
               by_cases hneg : stepK y q1 q2 b < 0
               · simp [hneg]
               · have he := stepK_end hVg hy hp (by omega) hb (by omega)
                 rw [if_neg hneg, he]
                 by_cases hr1 : r = 1
                 · by_cases hl : stepK y q1 q2 b / 262144 = gm.fields.length
                   · simp [hr1, hl, hneg]
                   · simp [hr1, hl, hneg]
                 · by_cases hl : stepK y q1 q2 b / 262144 = gm.fields.length
                   · simp [hr1, hl, hneg]
                   · simp [hr1, hl, hneg]
     · rw [if_neg hk5, if_neg hk5]
       have hk : x.kind = 1 ∨ x.kind = 2 ∨ x.kind = 3 ∨ x.kind = 4 ∨ x.kind = 6 := by
        rcases hV.kinds x (List.mem_of_getElem? hx) with h | h | h | h | h | h <;> first | (simp [h]; done) | exact absurd h hk5
       rw [kindS_plain hrs hk, hqs]
       have hpl : plainS fm.fields f r = plainK x r := by rw [plainS, if_neg (by have := lt_of_get hx; omega), hx]
       rw [hpl]
       by_cases hq0 : q = 0
       · cases plainK x r <;> simp [hq0]
       · simp [hq0]

theorem acc_eq {t : List Fmt} {fm : Fmt} (hV : VFmt t fm) (s : Int) : rAcc fm.fields s = accS t fm.fields s := by
 by_cases hs : s < 0
 · have : exists1 t fm.fields s = false := by rw [exists1, xsS, if_pos hs]
   rw [rAcc, if_pos (Or.inl hs), accS, this, Bool.false_and]
 · have hs0 : 0 ≤ s := by omega
   obtain ⟨f, hfs⟩ : ∃ f : Nat, s / 262144 = f := ⟨(s / 262144).toNat, by omega⟩
   obtain ⟨r, hrs⟩ : ∃ r : Nat, s / 256 % 1024 = r := ⟨(s / 256 % 1024).toNat, by omega⟩
   rw [rAcc, accS, hfs, hrs, Int.toNat_natCast]
   cases hx : fm.fields[f]? with
   | none =>
     have hge : fm.fields.length ≤ f := List.getElem?_eq_none_iff.1 hx
     have hex : exists1 t fm.fields s = endS fm.fields s := by rw [exists1, xsS, if_neg hs, hfs, Int.toNat_natCast, hx]
     rw [hex, endS, Bool.eq_iff_iff]
     by_cases hfl : f = fm.fields.length
     · simp [hfl, hs]
       constructor
       · rintro ⟨h1, h2, h3⟩
         exact ⟨by omega, h3⟩
       · rintro ⟨h1, h2⟩
         exact ⟨by omega, by omega, h2⟩
     · simp [hfl]
       omega
   | some x =>
     have hlt := lt_of_get hx
     have hex : exists1 t fm.fields s = kindS x (innS t) s := by rw [exists1, xsS_some hs0 hfs hx]
     rw [hex, Bool.eq_iff_iff]
     have hne : ¬ f = fm.fields.length := by omega
     have hne' : ¬ (f : Int) = (fm.fields.length : Int) := by omega
     by_cases hk6 : x.kind = 6
     · rw [kindS_plain hrs (by simp [hk6])]
       simp [hne, hne', hs, hk6, plainK]
       omega
     · simp [hne, hne', hk6]

end Go.Proofs.YtfaienbdebjfcaaGreat
