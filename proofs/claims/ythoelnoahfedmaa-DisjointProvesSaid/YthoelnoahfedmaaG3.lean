/- The contract of the automaton's step, nested formats too. -/
import Derived.Test.YthoelnoahfedmaaG2
namespace Go.Proofs.Ythoelnoahfedmaa
open Go.RowKit
set_option linter.unusedVariables false
set_option linter.unusedSimpArgs false

theorem stepK_le (x : Fld) {f r b : Nat} (hf : f ≤ 100) (hr : r ≤ 1023) (hb : b ≤ 255) : stepK x f r b ≤ 30000000 := by
  unfold stepK cntS lftS stS
  (repeat' split) <;> omega
theorem pstep0_le {F : List Fld} {s : Int} {b : Nat} (hF : F.length ≤ 100) (hb : b ≤ 255) : pstep0 F s b ≤ 30000000 := by
  unfold pstep0
  split
  · omega
  · split
    · omega
    · rename_i x hx
      have := lt_of_get hx
      exact stepK_le x (by omega) (by omega) hb

/-- the step within a nested field -/
def nestK (t : List Fmt) (x : Fld) (f r : Nat) (s : Int) (b : Nat) : Int :=
  if r = 0 then (if b = 0 then -1 else stS f b) else
  if pstep0 (t.getD x.n.toNat default).fields (s % 256 / 32 * 262144 + s % 32 * 256) b < 0 ∨ (r == 1) ≠ endS (t.getD x.n.toNat default).fields (pstep0 (t.getD x.n.toNat default).fields (s % 256 / 32 * 262144 + s % 32 * 256) b) then -1
  else if r = 1 then stS (f + 1) 0
  else stS f (r - 1) + (pstep0 (t.getD x.n.toNat default).fields (s % 256 / 32 * 262144 + s % 32 * 256) b / 262144 * 32 + pstep0 (t.getD x.n.toNat default).fields (s % 256 / 32 * 262144 + s % 32 * 256) b / 256 % 1024)

theorem nestK_some {t : List Fmt} {x : Fld} {f r b : Nat} {s xn : Int} {G : List Fld} {en : Bool} (h1 : (t.getD x.n.toNat default).fields = G) (h2 : pstep0 G (s % 256 / 32 * 262144 + s % 32 * 256) b = xn) (h3 : endS G xn = en) (hr : r ≠ 0) :
    nestK t x f r s b = if xn < 0 ∨ (r == 1) ≠ en then -1 else if r = 1 then stS (f + 1) 0 else stS f (r - 1) + (xn / 262144 * 32 + xn / 256 % 1024) := by
  unfold nestK
  rw [if_neg hr, h1, h2, h3]

def pstep1 (t : List Fmt) (F : List Fld) (s : Int) (b : Nat) : Int :=
  if exists1 t F s = false ∨ endS F s = true then -1 else
  match F[(s / 262144).toNat]? with
  | none => -1
  | some x => if x.kind = 5 then nestK t x (s / 262144).toNat (s / 256 % 1024).toNat s b else stepK x (s / 262144).toNat (s / 256 % 1024).toNat b

set_option maxRecDepth 100000 in
set_option maxHeartbeats 2000000 in
theorem step1_any {w : World} {B : Nat} {a : Option Addr} {t : List Fmt} {cap : Nat} {i : Nat} {fm : Fmt} (s : Int) (b : Nat) (hb255 : b ≤ 255) (h1 : s ≤ 9223372036854775807) (hT : TabA w B a t) (hB : B ≤ w.heap.size) (hi : t[i]? = some fm) (hne : fm.fields ≠ []) (hle : fm.fields.length ≤ 100)
    (hp : ∀ x ∈ fm.fields, x.kind = 1 ∨ x.kind = 2 ∨ x.kind = 3 ∨ x.kind = 4 ∨ x.kind = 6 ∨ x.kind = 5)
    (hnest : ∀ x ∈ fm.fields, x.kind = 5 → ∃ j : Nat, x.n = j ∧ ∃ gm, t[j]? = some gm ∧ gm.fields ≠ [] ∧ gm.fields.length ≤ 100 ∧ ∀ y ∈ gm.fields, y.kind = 1 ∨ y.kind = 2 ∨ y.kind = 3 ∨ y.kind = 4 ∨ y.kind = 6) :
   Calls Try.prog 54 #[.agg #[.slice a t.length cap, .int .i64 i], .int .i64 s, .int .u8 b] w fun e w' => e = .returned (.int .i64 (pstep1 t fm.fields s b)) ∧ Ext w w' := by
  generalize hx0 : exists1 t fm.fields s = x0
  have HX0 := Lib.hid hx0
  generalize hx1 : endS fm.fields s = x1
  have HX1 := Lib.hid hx1
  by_cases hgo : x0 = false ∨ x1 = true
  · have e2 : pstep1 t fm.fields s b = -1 := by simp [pstep1, hx0, hx1, hgo]
    rw [e2]
    have E2 := Lib.hid e2; clear e2 hx0 hx1
    go_enter Try.func54, Try.ntmps54
    go_wp2_with fail
    refine (exists1_any _ h1 (hT.alloc hB _) (by simp; omega) hi hne hle hp hnest).mono ?_
    rw [HX0.out]
    rintro e w1 ⟨rfl, hb1⟩
    obtain ⟨hc1, -, hs1⟩ := hb1.cells1
    cases x0
    · go_wp2_with fail
      go_ret
      exact ⟨rfl, hb1.al⟩
    · go_wp2_with fail
      refine (end_any _ (hT.ext hB hb1.al) (by omega) hi hne hle).mono ?_
      rw [HX1.out]
      have hx1t : x1 = true := by simpa using hgo
      subst hx1t
      rintro e w2 ⟨rfl, hb2⟩
      go_wp2_with fail
      go_ret
      exact ⟨rfl, hb1.al.trans hb2⟩
  · obtain ⟨rfl, rfl⟩ : x0 = true ∧ x1 = false := by simpa using hgo
    obtain ⟨h0, hlen⟩ := xsS_len hx0
    obtain ⟨f, hfs⟩ : ∃ f : Nat, s / 262144 = f := ⟨(s / 262144).toNat, by omega⟩
    obtain ⟨r, hrs⟩ : ∃ r : Nat, s / 256 % 1024 = r := ⟨(s / 256 % 1024).toNat, by omega⟩
    have hr1024 : r < 1024 := by omega
    have hlt : f < fm.fields.length := by
      rcases Nat.lt_or_ge f fm.fields.length with h | h
      · exact h
      · exfalso
        have : fm.fields[f]? = none := List.getElem?_eq_none_iff.2 h
        unfold exists1 xsS at hx0
        rw [if_neg (by omega), hfs, Int.toNat_natCast, this] at hx0
        rw [hx1] at hx0
        cases hx0
    obtain ⟨x, hx⟩ : ∃ x, fm.fields[f]? = some x := ⟨_, List.getElem?_eq_getElem hlt⟩
    have hmem := List.mem_of_getElem? hx
    have hk0 : kindS x (innS t) s = true := by rw [exists1, xsS_some h0 hfs hx] at hx0; exact hx0
    have e2 : pstep1 t fm.fields s b = if x.kind = 5 then nestK t x f r s b else stepK x f r b := by simp only [pstep1, hx0, hx1, hfs, hrs, Int.toNat_natCast, hx]; simp
    obtain ⟨res, hres⟩ : ∃ res, res = if x.kind = 5 then nestK t x f r s b else stepK x f r b := ⟨_, rfl⟩
    rw [← hres] at e2
    have HRES := Lib.hid hres; clear hres
    rw [e2]
    have E2 := Lib.hid e2
    have HF := Lib.hid hfs
    have HR := Lib.hid hrs
    have HX := Lib.hid hx
    have HK := Lib.hid hk0
    clear e2 hx0 hx1 hfs hrs hx hk0 hgo
    go_enter Try.func54, Try.ntmps54
    go_wp2_with fail
    refine (exists1_any _ h1 (hT.alloc hB _) (by simp; omega) hi hne hle hp hnest).mono ?_
    rw [HX0.out]
    rintro e w1 ⟨rfl, hb1⟩
    obtain ⟨hc1, -, hs1⟩ := hb1.cells1
    go_wp2_with fail
    refine (end_any _ (hT.ext hB hb1.al) (by omega) hi hne hle).mono ?_
    rw [HX1.out]
    rintro e w2 ⟨rfl, hb2⟩
    obtain ⟨hc2, -⟩ := hb2.cells
    have hs2 := hb2.size
    have hla : w.heap.size < w1.heap.size := by omega
    go_wp2_with fail
    refine (split_any _ _ h0 h1).mono ?_
    rw [HF.out, HR.out]
    rintro e w' ⟨rfl, rfl⟩
    go_wp2_with fail
    obtain ⟨tb, toff, fb, foff, fcap, rfl, htb, htc, hfb, hF⟩ := hT.get hi hne
    obtain ⟨c0, c1, c2, c3, c4, cw⟩ := hF _ _ HX.out
    have hin := lt_of_get hi
    have hn63 := hT.1
    unfold maxLen at hn63
    have hw2 : w.heap.size < w2.heap.size := by omega
    have k0 : w2.cell? ⟨w.heap.size, 0, none⟩ = some (.slice (some ⟨tb, toff, none⟩) t.length cap) := by rw [hc2 _ _ (by omega), hc1 _ _ (by omega)]; simp
    have k1 : w2.cell? ⟨w.heap.size, 1, none⟩ = some (.int .i64 i) := by rw [hc2 _ _ (by omega), hc1 _ _ (by omega)]; simp
    have d := fun o => (hb1.al.trans hb2).cell (b := fb) (o := o) (by omega)
    have d' := (hb1.al.trans hb2).cell (b := tb) (o := toff + i * 2 + 1) (by omega)
    rw [← d'] at htc
    rw [← d] at c0 c1 c2 c3 c4
    clear d d' hF hc1 hc2
    obtain ⟨W, hW⟩ : ∃ W, W = (w2.alloc (Obj.cells #[Value.int IntKind.i64 ↑f] 3)).alloc (Obj.cells #[Value.int IntKind.i64 ↑r] 3) := ⟨_, rfl⟩
    go_cut [10] (fun s10 wx => ∃ g : Nat, s10 = .pointer (some ⟨g, 0, none⟩) ∧ w2.heap.size + 2 ≤ g ∧ Ext ((w2.alloc (Obj.cells #[Value.int IntKind.i64 ↑f] 3)).alloc (Obj.cells #[Value.int IntKind.i64 ↑r] 3)) wx ∧
      wx.heap[g]? = some (.cells #[.int .i64 x.kind, .string x.bytes, .int .i64 x.n, .int .i64 x.low, .int .i64 x.high] 39))
    case first =>
      have k0 := cs_al (o := Obj.cells #[Value.int IntKind.i64 ↑r] 3) (cs_al (o := Obj.cells #[Value.int IntKind.i64 ↑f] 3) k0)
      have k1 := cs_al (o := Obj.cells #[Value.int IntKind.i64 ↑r] 3) (cs_al (o := Obj.cells #[Value.int IntKind.i64 ↑f] 3) k1)
      have k2 : ((w2.alloc (Obj.cells #[Value.int IntKind.i64 ↑f] 3)).alloc (Obj.cells #[Value.int IntKind.i64 ↑r] 3)).cell? ⟨w2.heap.size, 0, none⟩ = some (.int .i64 f) := cs_al (cs_new rfl)
      have htc := cs_al (o := Obj.cells #[Value.int IntKind.i64 ↑r] 3) (cs_al (o := Obj.cells #[Value.int IntKind.i64 ↑f] 3) htc)
      have c0 := cs_al (o := Obj.cells #[Value.int IntKind.i64 ↑r] 3) (cs_al (o := Obj.cells #[Value.int IntKind.i64 ↑f] 3) c0)
      have c1 := cs_al (o := Obj.cells #[Value.int IntKind.i64 ↑r] 3) (cs_al (o := Obj.cells #[Value.int IntKind.i64 ↑f] 3) c1)
      have c2 := cs_al (o := Obj.cells #[Value.int IntKind.i64 ↑r] 3) (cs_al (o := Obj.cells #[Value.int IntKind.i64 ↑f] 3) c2)
      have c3 := cs_al (o := Obj.cells #[Value.int IntKind.i64 ↑r] 3) (cs_al (o := Obj.cells #[Value.int IntKind.i64 ↑f] 3) c3)
      have c4 := cs_al (o := Obj.cells #[Value.int IntKind.i64 ↑r] 3) (cs_al (o := Obj.cells #[Value.int IntKind.i64 ↑f] 3) c4)
      refine wp_region_calm 6 (fun w' => Ext ((w2.alloc (Obj.cells #[Value.int IntKind.i64 ↑f] 3)).alloc (Obj.cells #[Value.int IntKind.i64 ↑r] 3)) w') (by kernel_rfl) (by kernel_rfl) (fun _ _ h hE => h.trans hE) (Ext.drew _) ?_
      refine calm_value (fun _ => rfl) ?_ (fun g w' hE => ?_) ?_
      rotate_left
      · (have zz0 := cs_ext hE k0; have zz1 := cs_ext hE k1; have zz2 := cs_ext hE k2; have zz3 := cs_ext hE c0; have zz4 := cs_ext hE c1; have zz5 := cs_ext hE c2; have zz6 := cs_ext hE c3; have zz7 := cs_ext hE c4; go_simp; first | done | rfl)
      refine calm_call' (fun _ => rfl) 62 ?_ (fun g w' hE => ?_) ?_
      rotate_left
      · (have zz0 := cs_ext hE k0; have zz1 := cs_ext hE k1; have zz2 := cs_ext hE k2; have zz3 := cs_ext hE c0; have zz4 := cs_ext hE c1; have zz5 := cs_ext hE c2; have zz6 := cs_ext hE c3; have zz7 := cs_ext hE c4; go_simp; first | done | exact ⟨rfl, rfl⟩ | rfl)
      apply Exists.intro
      refine And.intro (fun w' hE => ?_) ?_
      · exact fields_at hin hn63 (cs_ext hE htc) (by have := hE.size; simp at this; omega)
      refine calm_value (fun _ => rfl) ?_ (fun g w' hE => ?_) ?_
      rotate_left
      · (have zz0 := cs_ext hE k0; have zz1 := cs_ext hE k1; have zz2 := cs_ext hE k2; have zz3 := cs_ext hE c0; have zz4 := cs_ext hE c1; have zz5 := cs_ext hE c2; have zz6 := cs_ext hE c3; have zz7 := cs_ext hE c4; go_simp; first | done | rfl)
      refine calm_value (fun _ => rfl) ?_ (fun g w' hE => ?_) ?_
      rotate_left
      · (have zz0 := cs_ext hE k0; have zz1 := cs_ext hE k1; have zz2 := cs_ext hE k2; have zz3 := cs_ext hE c0; have zz4 := cs_ext hE c1; have zz5 := cs_ext hE c2; have zz6 := cs_ext hE c3; have zz7 := cs_ext hE c4; go_simp; first | done | rfl)
      refine calm_value (fun _ => rfl) ?_ (fun g w' hE => ?_) ?_
      rotate_left
      · (have zz0 := cs_ext hE k0; have zz1 := cs_ext hE k1; have zz2 := cs_ext hE k2; have zz3 := cs_ext hE c0; have zz4 := cs_ext hE c1; have zz5 := cs_ext hE c2; have zz6 := cs_ext hE c3; have zz7 := cs_ext hE c4; go_simp; first | done | rfl)
      refine calm_fresh (fun _ => rfl) (fun n => .pointer (some ⟨n, 0, none⟩)) ?_ (fun g w' hE => ?_) ?_
      rotate_left
      · (have zz0 := cs_ext hE k0; have zz1 := cs_ext hE k1; have zz2 := cs_ext hE k2; have zz3 := cs_ext hE c0; have zz4 := cs_ext hE c1; have zz5 := cs_ext hE c2; have zz6 := cs_ext hE c3; have zz7 := cs_ext hE c4; go_simp; first | done | rfl | exact ⟨rfl, rfl⟩)
      intro g wz hE hF
      simp only [List.drop_succ_cons, List.drop_zero, Act.put, List.setIfInBounds_toArray, List.set_cons_succ, List.set_cons_zero]
      obtain ⟨-, hF, -⟩ := hF
      obtain ⟨hg, hge⟩ := hF _ List.mem_cons_self
      simp at hg hge
      refine wpList_store_all rfl 39 (.tmp 10) (.tmp 38) rfl (g 5) _ rfl rfl 39 _ hg (by kernel_rfl) rfl (by simp [Value.oneCell']) ?_
      go_wp2_with fail

      go_meet
      exact ⟨g 5, rfl, by omega, hE.setRow (by simp; omega) _, setRow_heap _ _ _ _ _ _ hg⟩
    case rest =>
      obtain ⟨g, rfl, hg2, hEc, hgc⟩ := hcut
      have r0 := cs_ext hEc (cs_al (o := Obj.cells #[Value.int IntKind.i64 ↑r] 3) (cs_al (o := Obj.cells #[Value.int IntKind.i64 ↑f] 3) k0))
      have r1 := cs_ext hEc (cs_al (o := Obj.cells #[Value.int IntKind.i64 ↑r] 3) (cs_al (o := Obj.cells #[Value.int IntKind.i64 ↑f] 3) k1))
      have rf : wc.cell? ⟨w2.heap.size, 0, none⟩ = some (.int .i64 f) := cs_ext hEc (cs_al (cs_new rfl))
      have rr : wc.cell? ⟨w2.heap.size + 1, 0, none⟩ = some (.int .i64 r) := cs_ext hEc (by rw [← World.size_alloc w2 (Obj.cells #[Value.int IntKind.i64 ↑f] 3)]; exact cs_new rfl)
      have g0 : wc.cell? ⟨g, 0, none⟩ = some (.int .i64 x.kind) := by rw [cell_of_row _ _ _ _ _ _ hgc]; rfl
      have g1 : wc.cell? ⟨g, 1, none⟩ = some (.string x.bytes) := by rw [cell_of_row _ _ _ _ _ _ hgc]; rfl
      have g2 : wc.cell? ⟨g, 2, none⟩ = some (.int .i64 x.n) := by rw [cell_of_row _ _ _ _ _ _ hgc]; rfl
      have g3 : wc.cell? ⟨g, 3, none⟩ = some (.int .i64 x.low) := by rw [cell_of_row _ _ _ _ _ _ hgc]; rfl
      have g4 : wc.cell? ⟨g, 4, none⟩ = some (.int .i64 x.high) := by rw [cell_of_row _ _ _ _ _ _ hgc]; rfl
      have hsc := hEc.size
      simp only [World.size_alloc] at hsc
      have hglt : g < wc.heap.size := World.block_lt_of_cell? wc _ g0
      have hEw : Ext w wc := (hb1.al.trans hb2).trans (((Ext.alloc _ _).trans (Ext.alloc _ _)).trans hEc)
      have l0 : w.heap.size < wc.heap.size := by omega
      have l1 : w2.heap.size < wc.heap.size := by omega
      have l2 : w2.heap.size + 1 < wc.heap.size := by omega
      clear k0 k1 htc c0 c1 c2 c3 c4 hEc hgc hb1 hb2 hs1 hs2
      have hnx : (wc.alloc (Obj.cells #[Value.int IntKind.i64 ((↑f + 1) * 262144)] 3)).cell? ⟨wc.heap.size, 0, none⟩ = some (.int .i64 (stS (f + 1) 0)) := by rw [cs_new rfl]; simp [stS]
      have hf1000 : f ≤ 1000 := by omega
      rcases hp x hmem with hk | hk | hk | hk | hk | hk
      · have hK1 := HK.out
        simp only [kindS, hk, if_true, HR.out] at hK1
        have HBR : Hid (x.bytes.data.toList.getD r 0 = x.bytes[r]'(by simpa using (Bool.and_eq_true_iff.1 hK1).2)) := by
          have : r < x.bytes.size := by simpa using (Bool.and_eq_true_iff.1 hK1).2
          show _ = _
          rw [List.getD_eq_getElem?_getD, List.getElem?_eq_getElem (by simpa using this)]
          rfl
        have hrb : r < x.bytes.size := by simpa using (Bool.and_eq_true_iff.1 hK1).2
        by_cases hbb : x.bytes[r].toNat = b
        · have e1 : (((x.bytes[r].toNat : Nat) : Int) == (b : Int)) = true := by simp; omega
          have HBB := Lib.hid hbb; clear hbb
          go_wp2_with fail
          refine (join_any _ _ _ _ (by omega) (by omega) (by omega) (by omega) (by omega) (by omega)).mono ?_
          rintro e w' ⟨rfl, rfl⟩
          go_wp2_with fail
          refine (counted_any _ _ 0 f _ _ _ (cs_al rr) hnx (cs_al rf) (by omega) (by omega) (by omega) (by omega)).mono ?_
          rintro e w' ⟨rfl, rfl⟩
          go_wp2_with fail
          go_ret
          exact ⟨ri (by rw [HRES.out, if_neg (by omega)]; simp only [stepK, hk, if_true]; rw [HBR.out, if_pos HBB.out]), hEw.then_al _⟩
        · have e1 : (((x.bytes[r].toNat : Nat) : Int) == (b : Int)) = false := by simp; omega
          have HBB := Lib.hid hbb; clear hbb
          go_wp2_with fail
          refine (join_any _ _ _ _ (by omega) (by omega) (by omega) (by omega) (by omega) (by omega)).mono ?_
          rintro e w' ⟨rfl, rfl⟩
          go_wp2_with fail
          go_ret
          exact ⟨ri (by rw [HRES.out, if_neg (by omega)]; simp only [stepK, hk, if_true]; rw [HBR.out, if_neg HBB.out]), hEw.then_al _⟩
      · have hK1 := HK.out
        clear HK
        go_wp2_with fail
        refine (join_any _ _ _ _ (by omega) (by omega) (by omega) (by omega) (by omega) (by omega)).mono ?_
        rintro e w' ⟨rfl, rfl⟩
        go_wp2_with fail
        refine (counted_any _ _ 0 f _ _ _ (cs_al rr) hnx (cs_al rf) (by omega) (by omega) (by omega) (by omega)).mono ?_
        rintro e w' ⟨rfl, rfl⟩
        go_wp2_with fail
        go_ret
        exact ⟨ri (by rw [HRES.out, if_neg (by omega)]; simp [stepK, hk]), hEw.then_al _⟩
      · have hK1 := HK.out
        have hxn : I64 x.n := cw.n
        unfold I64 at hxn
        clear HK
        by_cases hr0 : 0 < r
        · have e1 : decide ((0 : Int) < (r : Int)) = true := by simp; omega
          go_wp2_with fail
          refine (join_any _ _ _ _ (by omega) (by omega) (by omega) (by omega) (by omega) (by omega)).mono ?_
          rintro e w' ⟨rfl, rfl⟩
          go_wp2_with fail
          refine (left_any _ 0 f _ _ _ (cs_al rr) hnx (cs_al rf) (by omega) (by omega) (by omega) (by omega)).mono ?_
          rintro e w' ⟨rfl, rfl⟩
          go_wp2_with fail
          go_ret
          exact ⟨ri (by rw [HRES.out, if_neg (by omega)]; simp [stepK, hk, hr0]), hEw.then_al _⟩
        · have e1 : decide ((0 : Int) < (r : Int)) = false := by simp; omega
          by_cases hb0 : b = 0
          · have e2 : ((b : Int) == 0) = true := by simp; omega
            go_wp2_with fail
            refine (join_any _ _ _ _ (by omega) (by omega) (by omega) (by omega) (by omega) (by omega)).mono ?_
            rintro e w' ⟨rfl, rfl⟩
            go_wp2_with fail
            go_ret
            exact ⟨ri (by rw [HRES.out, if_neg (by omega)]; simp [stepK, hk, hr0, hb0, stS]), hEw.then_al _⟩
          · have e2 : ((b : Int) == 0) = false := by simp; omega
            by_cases hbn : (b : Int) ≤ x.n
            · go_wp2_with fail
              refine (join_any _ _ _ _ (by omega) (by omega) (by omega) (by omega) (by omega) (by omega)).mono ?_
              rintro e w' ⟨rfl, rfl⟩
              go_wp2_with fail
              refine (join_any _ _ _ _ (by omega) (by omega) (by omega) (by omega) (by omega) (by omega)).mono ?_
              rintro e w' ⟨rfl, rfl⟩
              go_wp2_with fail
              go_ret
              exact ⟨ri (by rw [HRES.out, if_neg (by omega)]; simp [stepK, hk, hr0, hb0, stS]; omega), hEw.then_al _⟩
            · go_wp2_with fail
              refine (join_any _ _ _ _ (by omega) (by omega) (by omega) (by omega) (by omega) (by omega)).mono ?_
              rintro e w' ⟨rfl, rfl⟩
              go_wp2_with fail
              go_ret
              exact ⟨ri (by rw [HRES.out, if_neg (by omega)]; simp [stepK, hk, hr0, hb0, stS]; omega), hEw.then_al _⟩
      · have hK1 := HK.out
        clear HK
        go_wp2_with fail
        refine (join_any _ _ _ _ (by omega) (by omega) (by omega) (by omega) (by omega) (by omega)).mono ?_
        rintro e w' ⟨rfl, rfl⟩
        go_wp2_with fail
        all_goals go_ret
        all_goals exact ⟨ri (by rw [HRES.out, if_neg (by omega)]; simp [stepK, hk, stS]; omega), hEw.then_al _⟩
      · have hK1 := HK.out
        clear HK
        go_wp2_with fail
        refine (join_any _ _ _ _ (by omega) (by omega) (by omega) (by omega) (by omega) (by omega)).mono ?_
        rintro e w' ⟨rfl, rfl⟩
        go_wp2_with fail
        · refine (join_any _ _ _ _ (by omega) (by omega) (by omega) (by omega) (by omega) (by omega)).mono ?_
          rintro e w' ⟨rfl, rfl⟩
          go_wp2_with fail
          go_ret
          exact ⟨ri (by rw [HRES.out, if_neg (by omega)]; simp [stepK, hk, stS]; omega), hEw.then_al _⟩
        · go_ret
          exact ⟨ri (by rw [HRES.out, if_neg (by omega)]; simp [stepK, hk, stS]; omega), hEw.then_al _⟩
      · obtain ⟨j, hj, gm, hgm, hgne, hgle, hgp⟩ := hnest x hmem hk
        have hK1 := HK.out
        clear HK
        by_cases hr0 : r = 0
        · subst hr0
          by_cases hb0 : b = 0
          · subst hb0
            go_wp2_with fail
            refine (join_any _ _ _ _ (by omega) (by omega) (by omega) (by omega) (by omega) (by omega)).mono ?_
            rintro e w' ⟨rfl, rfl⟩
            go_wp2_with fail
            go_ret
            exact ⟨ri (by rw [HRES.out, if_pos hk]; simp [nestK]), hEw.then_al _⟩
          · have e2 : ((b : Int) == 0) = false := by simp; omega
            go_wp2_with fail
            refine (join_any _ _ _ _ (by omega) (by omega) (by omega) (by omega) (by omega) (by omega)).mono ?_
            rintro e w' ⟨rfl, rfl⟩
            go_wp2_with fail
            refine (join_any _ _ _ _ (by omega) (by omega) (by omega) (by omega) (by omega) (by omega)).mono ?_
            rintro e w' ⟨rfl, rfl⟩
            go_wp2_with fail
            go_ret
            exact ⟨ri (by rw [HRES.out, if_pos hk]; simp [nestK, hb0, stS]), hEw.then_al _⟩
        · have e2 : ((r : Int) == 0) = false := by simp; omega
          go_wp2_with fail
          refine (join_any _ _ _ _ (by omega) (by omega) (by omega) (by omega) (by omega) (by omega)).mono ?_
          rintro e w' ⟨rfl, rfl⟩
          go_wp2_with fail
          refine (inner_any _ _ _ _ _ _ _ _ _).mono ?_
          rintro e w5 ⟨rfl, hb5⟩
          go_wp2_with fail
          have hn0 : (t.getD x.n.toNat default).fields = gm.fields := by simp [hj, hgm]
          have HN0 := Lib.hid hn0; clear hn0
          have hs5 := hb5.size
          simp only [World.size_alloc] at hs5
          have hEw5 : Ext w w5 := (hEw.then_al _).trans hb5
          have hT5 := hT.ext hB hEw5
          have q0 : (w5.alloc (Obj.cells #[Value.slice (some ⟨tb, toff, none⟩) t.length cap, Value.int IntKind.i64 ↑j] 67)).cell? ⟨w5.heap.size, 0, none⟩ = some (.slice (some ⟨tb, toff, none⟩) t.length cap) := cs_new rfl
          have q1 : (w5.alloc (Obj.cells #[Value.slice (some ⟨tb, toff, none⟩) t.length cap, Value.int IntKind.i64 ↑j] 67)).cell? ⟨w5.heap.size, 1, none⟩ = some (.int .i64 j) := cs_new rfl
          have q2 : (w5.alloc (Obj.cells #[Value.slice (some ⟨tb, toff, none⟩) t.length cap, Value.int IntKind.i64 ↑j] 67)).cell? ⟨w2.heap.size + 1, 0, none⟩ = some (.int .i64 r) := cs_al (cs_ext hb5 (cs_al rr))
          have q3 : (w5.alloc (Obj.cells #[Value.slice (some ⟨tb, toff, none⟩) t.length cap, Value.int IntKind.i64 ↑j] 67)).cell? ⟨w2.heap.size, 0, none⟩ = some (.int .i64 f) := cs_al (cs_ext hb5 (cs_al rf))
          have q4 : (w5.alloc (Obj.cells #[Value.slice (some ⟨tb, toff, none⟩) t.length cap, Value.int IntKind.i64 ↑j] 67)).cell? ⟨wc.heap.size, 0, none⟩ = some (.int .i64 (stS (f + 1) 0)) := cs_al (cs_ext hb5 hnx)
          have hle0 := pstep0_le (s := s % 256 / 32 * 262144 + s % 32 * 256) hgle hb255
          obtain ⟨xn, hxn⟩ : ∃ xn, xn = pstep0 gm.fields (s % 256 / 32 * 262144 + s % 32 * 256) b := ⟨_, rfl⟩
          rw [← hxn] at hle0
          have HXN := Lib.hid hxn; clear hxn
          have hdv : IntKind.i64.wrap ((s % 256).tdiv 32) = s % 256 / 32 := by rw [Int.tdiv_eq_ediv_of_nonneg (by omega)]; exact IntWalk.i64_in _ (by omega)
          have hmd : (s % 256).tmod 32 = s % 32 := by rw [Int.tmod_eq_emod_of_nonneg (by omega)]; omega
          refine wp_region_calm 8 (fun w' => Ext (w5.alloc (Obj.cells #[Value.slice (some ⟨tb, toff, none⟩) t.length cap, Value.int IntKind.i64 ↑j] 67)) w') (by kernel_rfl) (by kernel_rfl) (fun _ _ h hE => h.trans hE) (Ext.drew _) ?_
          refine calm_value (fun _ => rfl) ?_ (fun g w' hE => ?_) ?_
          rotate_left
          · (have zz0 := cs_ext hE q0; have zz1 := cs_ext hE q1; go_simp; first | done | rfl)
          refine calm_value (fun _ => rfl) ?_ (fun g w' hE => ?_) ?_
          rotate_left
          · (have zz0 := cs_ext hE q0; have zz1 := cs_ext hE q1; go_simp; first | done | rfl)
          refine calm_value (fun _ => rfl) ?_ (fun g w' hE => ?_) ?_
          rotate_left
          · (have zz0 := cs_ext hE q0; have zz1 := cs_ext hE q1; go_simp; first | done | rfl)
          refine calm_value (fun _ => rfl) ?_ (fun g w' hE => ?_) ?_
          rotate_left
          · (have zz0 := cs_ext hE q0; have zz1 := cs_ext hE q1; go_simp; first | done | rfl)
          refine calm_value (fun _ => rfl) ?_ (fun g w' hE => ?_) ?_
          rotate_left
          · (have zz0 := cs_ext hE q0; have zz1 := cs_ext hE q1; go_simp; first | done | rfl)
          refine calm_call' (fun _ => rfl) 78 ?_ (fun g w' hE => ?_) ?_
          rotate_left
          · (have zz0 := cs_ext hE q0; have zz1 := cs_ext hE q1; go_simp; first | done | exact ⟨rfl, rfl⟩ | rfl)
          apply Exists.intro
          refine And.intro (fun w' hE => ?_) ?_
          · exact (join_any _ _ _ _ (by omega) (by omega) (by omega) (by omega) (by omega) (by omega)).mono fun e w'' ⟨he, hw⟩ => ⟨he, hw ▸ Ext.refl _⟩
          refine calm_value (fun _ => rfl) ?_ (fun g w' hE => ?_) ?_
          rotate_left
          · (have zz0 := cs_ext hE q0; have zz1 := cs_ext hE q1; go_simp; first | done | rfl)
          refine calm_call' (fun _ => rfl) 54 ?_ (fun g w' hE => ?_) ?_
          rotate_left
          · (have zz0 := cs_ext hE q0; have zz1 := cs_ext hE q1; go_simp; first | done | exact ⟨rfl, rfl⟩ | rfl)
          apply Exists.intro
          refine And.intro (fun w' hE => ?_) ?_
          · (have h := step0_any (s % 256 / 32 * 262144 + s % 32 * 256) b hb255 (by omega) ((hT5.alloc (by omega) _).ext (by simp; omega) hE) (by have := hE.size; simp at this; omega) (cap := cap) hgm hgne hgle hgp; rw [← HXN.out] at h; exact h)
          intro gg wz hE5 hF5
          simp only [List.drop_succ_cons, List.drop_zero, Act.put, List.setIfInBounds_toArray, List.set_cons_succ, List.set_cons_zero]
          go_wp2_with fail
          have hsz := hE5.size
          simp only [World.size_alloc] at hsz
          have z0 := cs_ext hE5 q0
          have z1 := cs_ext hE5 q1
          have z2 := cs_ext hE5 q2
          have z3 := cs_ext hE5 q3
          have z4 := cs_ext hE5 q4
          have hEz : Ext w wz := (hEw5.then_al _).trans hE5
          have hTz := hT.ext hB hEz
          have hzs := hEz.size
          clear q0 q1 q2 q3 q4 hdv hmd
          by_cases hneg : xn < 0
          · refine wp_region_calm 10 (fun w' => Ext (wz) w') (by kernel_rfl) (by kernel_rfl) (fun _ _ h hE => h.trans hE) (Ext.drew _) ?_
            refine calm_value (fun _ => rfl) ?_ (fun g w' hE => ?_) ?_
            rotate_left
            · (go_simp; first | done | rfl)
            refine calm_value (fun _ => rfl) ?_ (fun g w' hE => ?_) ?_
            rotate_left
            · (go_simp; first | done | rfl)
            refine calm_value (fun _ => rfl) ?_ (fun g w' hE => ?_) ?_
            rotate_left
            · (go_simp; first | done | rfl)
            refine calm_skip (fun g => by go_simp) ?_
            refine calm_skip (fun g => by go_simp) ?_
            refine calm_skip (fun g => by go_simp) ?_
            refine calm_skip (fun g => by go_simp) ?_
            refine calm_skip (fun g => by go_simp) ?_
            refine calm_skip (fun g => by go_simp) ?_
            refine calm_value (fun _ => rfl) ?_ (fun g w' hE => ?_) ?_
            rotate_left
            · (go_simp; first | done | rfl)
            intro gg2 wy hE6 hF6
            simp only [List.drop_succ_cons, List.drop_zero, Act.put, List.setIfInBounds_toArray, List.set_cons_succ, List.set_cons_zero]
            go_wp2_with fail
            go_ret
            exact ⟨ri (by rw [HRES.out, if_pos hk, nestK_some HN0.out HXN.out.symm rfl hr0]; simp [hneg]), hEz.trans hE6⟩
          · have hnn : 0 ≤ xn := by omega
            generalize hen : endS gm.fields xn = en
            have HEN := Lib.hid hen; clear hen
            by_cases hr1 : r = 1
            · cases en
              · have e1 : ((r : Int) == 1) = true := by simp [hr1]
                have HR1 := Lib.hid hr1; clear hr1
                refine wp_region_calm 10 (fun w' => Ext (wz) w') (by kernel_rfl) (by kernel_rfl) (fun _ _ h hE => h.trans hE) (Ext.drew _) ?_
                refine calm_value (fun _ => rfl) ?_ (fun g w' hE => ?_) ?_
                rotate_left
                · (have zz0 := cs_ext hE z0; have zz1 := cs_ext hE z1; have zz2 := cs_ext hE z2; go_simp; first | done | rfl)
                refine calm_value (fun _ => rfl) ?_ (fun g w' hE => ?_) ?_
                rotate_left
                · (have zz0 := cs_ext hE z0; have zz1 := cs_ext hE z1; have zz2 := cs_ext hE z2; go_simp; first | done | rfl)
                refine calm_value (fun _ => rfl) ?_ (fun g w' hE => ?_) ?_
                rotate_left
                · (have zz0 := cs_ext hE z0; have zz1 := cs_ext hE z1; have zz2 := cs_ext hE z2; go_simp; first | done | rfl)
                refine calm_value (fun g => by go_simp) ?_ (fun g w' hE => ?_) ?_
                rotate_left
                · (have zz0 := cs_ext hE z0; have zz1 := cs_ext hE z1; have zz2 := cs_ext hE z2; go_simp; first | done | rfl)
                refine calm_value (fun g => by go_simp) ?_ (fun g w' hE => ?_) ?_
                rotate_left
                · (have zz0 := cs_ext hE z0; have zz1 := cs_ext hE z1; have zz2 := cs_ext hE z2; go_simp; first | done | rfl)
                refine calm_value (fun g => by go_simp) ?_ (fun g w' hE => ?_) ?_
                rotate_left
                · (have zz0 := cs_ext hE z0; have zz1 := cs_ext hE z1; have zz2 := cs_ext hE z2; go_simp; first | done | rfl)
                refine calm_value (fun g => by go_simp) ?_ (fun g w' hE => ?_) ?_
                rotate_left
                · (have zz0 := cs_ext hE z0; have zz1 := cs_ext hE z1; have zz2 := cs_ext hE z2; go_simp; first | done | rfl)
                refine calm_call' (fun g => by go_simp) 76 ?_ (fun g w' hE => ?_) ?_
                rotate_left
                · (have zz0 := cs_ext hE z0; have zz1 := cs_ext hE z1; have zz2 := cs_ext hE z2; go_simp; first | done | exact ⟨rfl, rfl⟩ | rfl)
                apply Exists.intro
                refine And.intro (fun w' hE => ?_) ?_
                · (have h := end_any xn (hTz.ext (by omega) hE) (by have := hE.size; omega) (cap := cap) hgm hgne hgle; rw [HEN.out] at h; exact h)
                refine calm_value (fun g => by go_simp) ?_ (fun g w' hE => ?_) ?_
                rotate_left
                · (have zz0 := cs_ext hE z0; have zz1 := cs_ext hE z1; have zz2 := cs_ext hE z2; go_simp; first | done | rfl)
                refine calm_value (fun _ => rfl) ?_ (fun g w' hE => ?_) ?_
                rotate_left
                · (have zz0 := cs_ext hE z0; have zz1 := cs_ext hE z1; have zz2 := cs_ext hE z2; go_simp; first | done | rfl)
                intro gg2 wy hE6 hF6
                simp only [List.drop_succ_cons, List.drop_zero, Act.put, List.setIfInBounds_toArray, List.set_cons_succ, List.set_cons_zero]
                have y2 := cs_ext hE6 z2
                have y3 := cs_ext hE6 z3
                have y4 := cs_ext hE6 z4
                have hys := hE6.size
                go_wp2_with fail
                go_ret
                exact ⟨ri (by rw [HRES.out, if_pos hk, nestK_some HN0.out HXN.out.symm HEN.out hr0]; simp [HR1.out]), hEz.trans hE6⟩
              · have e1 : ((r : Int) == 1) = true := by simp [hr1]
                have HR1 := Lib.hid hr1; clear hr1
                refine wp_region_calm 10 (fun w' => Ext (wz) w') (by kernel_rfl) (by kernel_rfl) (fun _ _ h hE => h.trans hE) (Ext.drew _) ?_
                refine calm_value (fun _ => rfl) ?_ (fun g w' hE => ?_) ?_
                rotate_left
                · (have zz0 := cs_ext hE z0; have zz1 := cs_ext hE z1; have zz2 := cs_ext hE z2; go_simp; first | done | rfl)
                refine calm_value (fun _ => rfl) ?_ (fun g w' hE => ?_) ?_
                rotate_left
                · (have zz0 := cs_ext hE z0; have zz1 := cs_ext hE z1; have zz2 := cs_ext hE z2; go_simp; first | done | rfl)
                refine calm_value (fun _ => rfl) ?_ (fun g w' hE => ?_) ?_
                rotate_left
                · (have zz0 := cs_ext hE z0; have zz1 := cs_ext hE z1; have zz2 := cs_ext hE z2; go_simp; first | done | rfl)
                refine calm_value (fun g => by go_simp) ?_ (fun g w' hE => ?_) ?_
                rotate_left
                · (have zz0 := cs_ext hE z0; have zz1 := cs_ext hE z1; have zz2 := cs_ext hE z2; go_simp; first | done | rfl)
                refine calm_value (fun g => by go_simp) ?_ (fun g w' hE => ?_) ?_
                rotate_left
                · (have zz0 := cs_ext hE z0; have zz1 := cs_ext hE z1; have zz2 := cs_ext hE z2; go_simp; first | done | rfl)
                refine calm_value (fun g => by go_simp) ?_ (fun g w' hE => ?_) ?_
                rotate_left
                · (have zz0 := cs_ext hE z0; have zz1 := cs_ext hE z1; have zz2 := cs_ext hE z2; go_simp; first | done | rfl)
                refine calm_value (fun g => by go_simp) ?_ (fun g w' hE => ?_) ?_
                rotate_left
                · (have zz0 := cs_ext hE z0; have zz1 := cs_ext hE z1; have zz2 := cs_ext hE z2; go_simp; first | done | rfl)
                refine calm_call' (fun g => by go_simp) 76 ?_ (fun g w' hE => ?_) ?_
                rotate_left
                · (have zz0 := cs_ext hE z0; have zz1 := cs_ext hE z1; have zz2 := cs_ext hE z2; go_simp; first | done | exact ⟨rfl, rfl⟩ | rfl)
                apply Exists.intro
                refine And.intro (fun w' hE => ?_) ?_
                · (have h := end_any xn (hTz.ext (by omega) hE) (by have := hE.size; omega) (cap := cap) hgm hgne hgle; rw [HEN.out] at h; exact h)
                refine calm_value (fun g => by go_simp) ?_ (fun g w' hE => ?_) ?_
                rotate_left
                · (have zz0 := cs_ext hE z0; have zz1 := cs_ext hE z1; have zz2 := cs_ext hE z2; go_simp; first | done | rfl)
                refine calm_value (fun _ => rfl) ?_ (fun g w' hE => ?_) ?_
                rotate_left
                · (have zz0 := cs_ext hE z0; have zz1 := cs_ext hE z1; have zz2 := cs_ext hE z2; go_simp; first | done | rfl)
                intro gg2 wy hE6 hF6
                simp only [List.drop_succ_cons, List.drop_zero, Act.put, List.setIfInBounds_toArray, List.set_cons_succ, List.set_cons_zero]
                have y2 := cs_ext hE6 z2
                have y3 := cs_ext hE6 z3
                have y4 := cs_ext hE6 z4
                have hys := hE6.size
                go_wp2_with fail
                go_ret
                exact ⟨ri (by rw [HRES.out, if_pos hk, nestK_some HN0.out HXN.out.symm HEN.out hr0]; simp [HR1.out]; omega), hEz.trans hE6⟩
            · cases en
              · have e1 : ((r : Int) == 1) = false := by simp; omega
                have HR1 := Lib.hid hr1; clear hr1
                refine wp_region_calm 10 (fun w' => Ext (wz) w') (by kernel_rfl) (by kernel_rfl) (fun _ _ h hE => h.trans hE) (Ext.drew _) ?_
                refine calm_value (fun _ => rfl) ?_ (fun g w' hE => ?_) ?_
                rotate_left
                · (have zz0 := cs_ext hE z0; have zz1 := cs_ext hE z1; have zz2 := cs_ext hE z2; go_simp; first | done | rfl)
                refine calm_value (fun _ => rfl) ?_ (fun g w' hE => ?_) ?_
                rotate_left
                · (have zz0 := cs_ext hE z0; have zz1 := cs_ext hE z1; have zz2 := cs_ext hE z2; go_simp; first | done | rfl)
                refine calm_value (fun _ => rfl) ?_ (fun g w' hE => ?_) ?_
                rotate_left
                · (have zz0 := cs_ext hE z0; have zz1 := cs_ext hE z1; have zz2 := cs_ext hE z2; go_simp; first | done | rfl)
                refine calm_value (fun g => by go_simp) ?_ (fun g w' hE => ?_) ?_
                rotate_left
                · (have zz0 := cs_ext hE z0; have zz1 := cs_ext hE z1; have zz2 := cs_ext hE z2; go_simp; first | done | rfl)
                refine calm_value (fun g => by go_simp) ?_ (fun g w' hE => ?_) ?_
                rotate_left
                · (have zz0 := cs_ext hE z0; have zz1 := cs_ext hE z1; have zz2 := cs_ext hE z2; go_simp; first | done | rfl)
                refine calm_value (fun g => by go_simp) ?_ (fun g w' hE => ?_) ?_
                rotate_left
                · (have zz0 := cs_ext hE z0; have zz1 := cs_ext hE z1; have zz2 := cs_ext hE z2; go_simp; first | done | rfl)
                refine calm_value (fun g => by go_simp) ?_ (fun g w' hE => ?_) ?_
                rotate_left
                · (have zz0 := cs_ext hE z0; have zz1 := cs_ext hE z1; have zz2 := cs_ext hE z2; go_simp; first | done | rfl)
                refine calm_call' (fun g => by go_simp) 76 ?_ (fun g w' hE => ?_) ?_
                rotate_left
                · (have zz0 := cs_ext hE z0; have zz1 := cs_ext hE z1; have zz2 := cs_ext hE z2; go_simp; first | done | exact ⟨rfl, rfl⟩ | rfl)
                apply Exists.intro
                refine And.intro (fun w' hE => ?_) ?_
                · (have h := end_any xn (hTz.ext (by omega) hE) (by have := hE.size; omega) (cap := cap) hgm hgne hgle; rw [HEN.out] at h; exact h)
                refine calm_value (fun g => by go_simp) ?_ (fun g w' hE => ?_) ?_
                rotate_left
                · (have zz0 := cs_ext hE z0; have zz1 := cs_ext hE z1; have zz2 := cs_ext hE z2; go_simp; first | done | rfl)
                refine calm_value (fun _ => rfl) ?_ (fun g w' hE => ?_) ?_
                rotate_left
                · (have zz0 := cs_ext hE z0; have zz1 := cs_ext hE z1; have zz2 := cs_ext hE z2; go_simp; first | done | rfl)
                intro gg2 wy hE6 hF6
                simp only [List.drop_succ_cons, List.drop_zero, Act.put, List.setIfInBounds_toArray, List.set_cons_succ, List.set_cons_zero]
                have y2 := cs_ext hE6 z2
                have y3 := cs_ext hE6 z3
                have y4 := cs_ext hE6 z4
                have hys := hE6.size
                go_wp2_with fail
                refine (split_any _ _ hnn (by omega)).mono ?_
                rintro e w' ⟨rfl, rfl⟩
                go_wp2_with fail
                refine (join_any _ _ _ _ (by omega) (by omega) (by omega) (by omega) (by omega) (by omega)).mono ?_
                rintro e w' ⟨rfl, rfl⟩
                go_wp2_with fail
                go_ret
                exact ⟨ri (by rw [HRES.out, if_pos hk, nestK_some HN0.out HXN.out.symm HEN.out hr0]; simp [HR1.out, stS]; omega), hEz.trans hE6⟩
              · have e1 : ((r : Int) == 1) = false := by simp; omega
                have HR1 := Lib.hid hr1; clear hr1
                refine wp_region_calm 10 (fun w' => Ext (wz) w') (by kernel_rfl) (by kernel_rfl) (fun _ _ h hE => h.trans hE) (Ext.drew _) ?_
                refine calm_value (fun _ => rfl) ?_ (fun g w' hE => ?_) ?_
                rotate_left
                · (have zz0 := cs_ext hE z0; have zz1 := cs_ext hE z1; have zz2 := cs_ext hE z2; go_simp; first | done | rfl)
                refine calm_value (fun _ => rfl) ?_ (fun g w' hE => ?_) ?_
                rotate_left
                · (have zz0 := cs_ext hE z0; have zz1 := cs_ext hE z1; have zz2 := cs_ext hE z2; go_simp; first | done | rfl)
                refine calm_value (fun _ => rfl) ?_ (fun g w' hE => ?_) ?_
                rotate_left
                · (have zz0 := cs_ext hE z0; have zz1 := cs_ext hE z1; have zz2 := cs_ext hE z2; go_simp; first | done | rfl)
                refine calm_value (fun g => by go_simp) ?_ (fun g w' hE => ?_) ?_
                rotate_left
                · (have zz0 := cs_ext hE z0; have zz1 := cs_ext hE z1; have zz2 := cs_ext hE z2; go_simp; first | done | rfl)
                refine calm_value (fun g => by go_simp) ?_ (fun g w' hE => ?_) ?_
                rotate_left
                · (have zz0 := cs_ext hE z0; have zz1 := cs_ext hE z1; have zz2 := cs_ext hE z2; go_simp; first | done | rfl)
                refine calm_value (fun g => by go_simp) ?_ (fun g w' hE => ?_) ?_
                rotate_left
                · (have zz0 := cs_ext hE z0; have zz1 := cs_ext hE z1; have zz2 := cs_ext hE z2; go_simp; first | done | rfl)
                refine calm_value (fun g => by go_simp) ?_ (fun g w' hE => ?_) ?_
                rotate_left
                · (have zz0 := cs_ext hE z0; have zz1 := cs_ext hE z1; have zz2 := cs_ext hE z2; go_simp; first | done | rfl)
                refine calm_call' (fun g => by go_simp) 76 ?_ (fun g w' hE => ?_) ?_
                rotate_left
                · (have zz0 := cs_ext hE z0; have zz1 := cs_ext hE z1; have zz2 := cs_ext hE z2; go_simp; first | done | exact ⟨rfl, rfl⟩ | rfl)
                apply Exists.intro
                refine And.intro (fun w' hE => ?_) ?_
                · (have h := end_any xn (hTz.ext (by omega) hE) (by have := hE.size; omega) (cap := cap) hgm hgne hgle; rw [HEN.out] at h; exact h)
                refine calm_value (fun g => by go_simp) ?_ (fun g w' hE => ?_) ?_
                rotate_left
                · (have zz0 := cs_ext hE z0; have zz1 := cs_ext hE z1; have zz2 := cs_ext hE z2; go_simp; first | done | rfl)
                refine calm_value (fun _ => rfl) ?_ (fun g w' hE => ?_) ?_
                rotate_left
                · (have zz0 := cs_ext hE z0; have zz1 := cs_ext hE z1; have zz2 := cs_ext hE z2; go_simp; first | done | rfl)
                intro gg2 wy hE6 hF6
                simp only [List.drop_succ_cons, List.drop_zero, Act.put, List.setIfInBounds_toArray, List.set_cons_succ, List.set_cons_zero]
                have y2 := cs_ext hE6 z2
                have y3 := cs_ext hE6 z3
                have y4 := cs_ext hE6 z4
                have hys := hE6.size
                go_wp2_with fail
                go_ret
                exact ⟨ri (by rw [HRES.out, if_pos hk, nestK_some HN0.out HXN.out.symm HEN.out hr0]; simp [HR1.out]), hEz.trans hE6⟩
end Go.Proofs.Ythoelnoahfedmaa
