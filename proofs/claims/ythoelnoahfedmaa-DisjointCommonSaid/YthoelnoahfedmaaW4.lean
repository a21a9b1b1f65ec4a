/- The contract of the automaton's step. -/
import Derived.Test.YthoelnoahfedmaaW3
import Derived.Test.YthoelnoahfedmaaCalm
namespace Go.Proofs.Ythoelnoahfedmaa
open Go.RowKit
set_option linter.unusedVariables false

theorem TabA.get {w : World} {B : Nat} {a : Option Addr} {t : List Fmt} {i : Nat} {fm : Fmt} (hT : TabA w B a t) (hi : t[i]? = some fm) (hne : fm.fields ≠ []) :
    ∃ tb toff fb foff fcap, a = some ⟨tb, toff, none⟩ ∧ tb < B ∧ w.cell? ⟨tb, toff + i * 2 + 1, none⟩ = some (.slice (some ⟨fb, foff, none⟩) fm.fields.length fcap) ∧ fb < B ∧ ∀ k x, fm.fields[k]? = some x → FldAt w fb (foff + k * 5) x := by
  obtain ⟨-, hT⟩ := hT
  obtain ⟨b, off, rfl, hb, hT⟩ := hT (ne_nil_of_get hi)
  obtain ⟨-, ⟨fa, fcap, hc, -, hF⟩, -⟩ := hT i fm hi
  obtain ⟨fb, foff, rfl, hfb, hF⟩ := hF hne
  exact ⟨b, off, fb, foff, fcap, rfl, hb, hc, hfb, hF⟩

theorem fields_at {w : World} {b off n cap : Nat} {i : Nat} {v : Value} (hi : i < n) (hn : n ≤ 9223372036854775807) (hc : w.cell? ⟨b, off + i * 2 + 1, none⟩ = some v) (hb : b < w.heap.size) :
   Calls Try.prog 62 #[.agg #[.slice (some ⟨b, off, none⟩) n cap, .int .i64 i]] w fun e w' => e = .returned v ∧ Ext w w' := by
  go_enter Try.func62, Try.ntmps62
  go_wp2
  go_ret
  exact ⟨rfl, by repeat (first | exact Ext.refl _ | exact Ext.alloc _ _ | apply Ext.then_dr | (refine Ext.then_al ?_ _))⟩

/-- the step within a field that is not nested -/
def stepK (x : Fld) (f r : Nat) (b : Nat) : Int :=
  if x.kind = 1 then (if (x.bytes.data.toList.getD r 0).toNat = b then cntS f r x.bytes.size else -1)
  else if x.kind = 2 then cntS f r x.n
  else if x.kind = 4 then (if x.low ≤ b ∧ b ≤ x.high then stS (f + 1) 0 else -1)
  else if x.kind = 3 then (if 0 < r then lftS f r else if b = 0 then stS (f + 1) 0 else if b ≤ x.n then stS f b else -1)
  else if r < x.high then stS f (r + 1) else -1

def pstep0 (F : List Fld) (s : Int) (b : Nat) : Int :=
  if exists0 F s = false ∨ endS F s = true then -1 else
  match F[(s / 262144).toNat]? with
  | none => -1
  | some x => stepK x (s / 262144).toNat (s / 256 % 1024).toNat b

set_option maxRecDepth 100000 in
set_option maxHeartbeats 2000000 in
theorem step0_any {w : World} {B : Nat} {a : Option Addr} {t : List Fmt} {cap : Nat} {i : Nat} {fm : Fmt} (s : Int) (b : Nat) (hb255 : b ≤ 255) (h1 : s ≤ 9223372036854775807) (hT : TabA w B a t) (hB : B ≤ w.heap.size) (hi : t[i]? = some fm) (hne : fm.fields ≠ []) (hle : fm.fields.length ≤ 100)
    (hp : ∀ x ∈ fm.fields, x.kind = 1 ∨ x.kind = 2 ∨ x.kind = 3 ∨ x.kind = 4 ∨ x.kind = 6) :
   Calls Try.prog 54 #[.agg #[.slice a t.length cap, .int .i64 i], .int .i64 s, .int .u8 b] w fun e w' => e = .returned (.int .i64 (pstep0 fm.fields s b)) ∧ Ext w w' := by
  generalize hx0 : exists0 fm.fields s = x0
  have HX0 := Lib.hid hx0
  generalize hx1 : endS fm.fields s = x1
  have HX1 := Lib.hid hx1
  by_cases hgo : x0 = false ∨ x1 = true
  · have e2 : pstep0 fm.fields s b = -1 := by simp [pstep0, hx0, hx1, hgo]
    rw [e2]
    have E2 := Lib.hid e2; clear e2 hx0 hx1
    go_enter Try.func54, Try.ntmps54
    go_wp2_with fail
    refine (exists0_any _ h1 (hT.alloc hB _) (by simp; omega) hi hne hle hp).mono ?_
    rw [HX0.out]
    rintro e w1 ⟨rfl, hb1⟩
    obtain ⟨hc1, -, hs1⟩ := hb1.cells1
    cases x0
    · go_wp2_with fail
      go_ret
      exact ⟨rfl, hb1.al⟩
    · go_wp2_with fail
      refine (end_any _ (hT.ext hB hb1.al) (by omega) hi hne hle).mono ?_
      rw [HX1.out]
      have hx1t : x1 = true := by simpa using hgo
      subst hx1t
      rintro e w2 ⟨rfl, hb2⟩
      go_wp2_with fail
      go_ret
      exact ⟨rfl, hb1.al.trans hb2⟩
  · obtain ⟨rfl, rfl⟩ : x0 = true ∧ x1 = false := by simpa using hgo
    obtain ⟨h0, hlen⟩ := xsS_len hx0
    obtain ⟨f, hfs⟩ : ∃ f : Nat, s / 262144 = f := ⟨(s / 262144).toNat, by omega⟩
    obtain ⟨r, hrs⟩ : ∃ r : Nat, s / 256 % 1024 = r := ⟨(s / 256 % 1024).toNat, by omega⟩
    have hr1024 : r < 1024 := by omega
    have hlt : f < fm.fields.length := by
      rcases Nat.lt_or_ge f fm.fields.length with h | h
      · exact h
      · exfalso
        have : fm.fields[f]? = none := List.getElem?_eq_none_iff.2 h
        unfold exists0 xsS at hx0
        rw [if_neg (by omega), hfs, Int.toNat_natCast, this] at hx0
        rw [hx1] at hx0
        cases hx0
    obtain ⟨x, hx⟩ : ∃ x, fm.fields[f]? = some x := ⟨_, List.getElem?_eq_getElem hlt⟩
    have hmem := List.mem_of_getElem? hx
    have hk0 : kindS x (fun _ _ => false) s = true := by rw [exists0, xsS_some h0 hfs hx] at hx0; exact hx0
    have e2 : pstep0 fm.fields s b = stepK x f r b := by simp only [pstep0, hx0, hx1, hfs, hrs, Int.toNat_natCast, hx]; simp
    rw [e2]
    have E2 := Lib.hid e2
    have HF := Lib.hid hfs
    have HR := Lib.hid hrs
    have HX := Lib.hid hx
    have HK := Lib.hid hk0
    clear e2 hx0 hx1 hfs hrs hx hk0 hgo
    go_enter Try.func54, Try.ntmps54
    go_wp2_with fail
    refine (exists0_any _ h1 (hT.alloc hB _) (by simp; omega) hi hne hle hp).mono ?_
    rw [HX0.out]
    rintro e w1 ⟨rfl, hb1⟩
    obtain ⟨hc1, -, hs1⟩ := hb1.cells1
    go_wp2_with fail
    refine (end_any _ (hT.ext hB hb1.al) (by omega) hi hne hle).mono ?_
    rw [HX1.out]
    rintro e w2 ⟨rfl, hb2⟩
    obtain ⟨hc2, -⟩ := hb2.cells
    have hs2 := hb2.size
    have hla : w.heap.size < w1.heap.size := by omega
    go_wp2_with fail
    refine (split_any _ _ h0 h1).mono ?_
    rw [HF.out, HR.out]
    rintro e w' ⟨rfl, rfl⟩
    go_wp2_with fail
    obtain ⟨tb, toff, fb, foff, fcap, rfl, htb, htc, hfb, hF⟩ := hT.get hi hne
    obtain ⟨c0, c1, c2, c3, c4, cw⟩ := hF _ _ HX.out
    have hin := lt_of_get hi
    have hn63 := hT.1
    unfold maxLen at hn63
    have hw2 : w.heap.size < w2.heap.size := by omega
    have k0 : w2.cell? ⟨w.heap.size, 0, none⟩ = some (.slice (some ⟨tb, toff, none⟩) t.length cap) := by rw [hc2 _ _ (by omega), hc1 _ _ (by omega)]; simp
    have k1 : w2.cell? ⟨w.heap.size, 1, none⟩ = some (.int .i64 i) := by rw [hc2 _ _ (by omega), hc1 _ _ (by omega)]; simp
    have d := fun o => (hb1.al.trans hb2).cell (b := fb) (o := o) (by omega)
    have d' := (hb1.al.trans hb2).cell (b := tb) (o := toff + i * 2 + 1) (by omega)
    rw [← d'] at htc
    rw [← d] at c0 c1 c2 c3 c4
    clear d d' hF hc1 hc2
    obtain ⟨W, hW⟩ : ∃ W, W = (w2.alloc (Obj.cells #[Value.int IntKind.i64 ↑f] 3)).alloc (Obj.cells #[Value.int IntKind.i64 ↑r] 3) := ⟨_, rfl⟩
    go_cut [10] (fun s10 wx => ∃ g : Nat, s10 = .pointer (some ⟨g, 0, none⟩) ∧ w2.heap.size + 2 ≤ g ∧ Ext ((w2.alloc (Obj.cells #[Value.int IntKind.i64 ↑f] 3)).alloc (Obj.cells #[Value.int IntKind.i64 ↑r] 3)) wx ∧
      wx.heap[g]? = some (.cells #[.int .i64 x.kind, .string x.bytes, .int .i64 x.n, .int .i64 x.low, .int .i64 x.high] 39))
    case first =>
      have k0 := cs_al (o := Obj.cells #[Value.int IntKind.i64 ↑r] 3) (cs_al (o := Obj.cells #[Value.int IntKind.i64 ↑f] 3) k0)
      have k1 := cs_al (o := Obj.cells #[Value.int IntKind.i64 ↑r] 3) (cs_al (o := Obj.cells #[Value.int IntKind.i64 ↑f] 3) k1)
      have k2 : ((w2.alloc (Obj.cells #[Value.int IntKind.i64 ↑f] 3)).alloc (Obj.cells #[Value.int IntKind.i64 ↑r] 3)).cell? ⟨w2.heap.size, 0, none⟩ = some (.int .i64 f) := cs_al (cs_new rfl)
      have htc := cs_al (o := Obj.cells #[Value.int IntKind.i64 ↑r] 3) (cs_al (o := Obj.cells #[Value.int IntKind.i64 ↑f] 3) htc)
      have c0 := cs_al (o := Obj.cells #[Value.int IntKind.i64 ↑r] 3) (cs_al (o := Obj.cells #[Value.int IntKind.i64 ↑f] 3) c0)
      have c1 := cs_al (o := Obj.cells #[Value.int IntKind.i64 ↑r] 3) (cs_al (o := Obj.cells #[Value.int IntKind.i64 ↑f] 3) c1)
      have c2 := cs_al (o := Obj.cells #[Value.int IntKind.i64 ↑r] 3) (cs_al (o := Obj.cells #[Value.int IntKind.i64 ↑f] 3) c2)
      have c3 := cs_al (o := Obj.cells #[Value.int IntKind.i64 ↑r] 3) (cs_al (o := Obj.cells #[Value.int IntKind.i64 ↑f] 3) c3)
      have c4 := cs_al (o := Obj.cells #[Value.int IntKind.i64 ↑r] 3) (cs_al (o := Obj.cells #[Value.int IntKind.i64 ↑f] 3) c4)
      refine wp_region_calm 6 (fun w' => Ext ((w2.alloc (Obj.cells #[Value.int IntKind.i64 ↑f] 3)).alloc (Obj.cells #[Value.int IntKind.i64 ↑r] 3)) w') (by kernel_rfl) (by kernel_rfl) (fun _ _ h hE => h.trans hE) (Ext.drew _) ?_
      refine calm_value (fun _ => rfl) ?_ (fun g w' hE => ?_) ?_
      rotate_left
      · (have zz0 := cs_ext hE k0; have zz1 := cs_ext hE k1; have zz2 := cs_ext hE k2; have zz3 := cs_ext hE c0; have zz4 := cs_ext hE c1; have zz5 := cs_ext hE c2; have zz6 := cs_ext hE c3; have zz7 := cs_ext hE c4; go_simp; first | done | rfl)
      refine calm_call' (fun _ => rfl) 62 ?_ (fun g w' hE => ?_) ?_
      rotate_left
      · (have zz0 := cs_ext hE k0; have zz1 := cs_ext hE k1; have zz2 := cs_ext hE k2; have zz3 := cs_ext hE c0; have zz4 := cs_ext hE c1; have zz5 := cs_ext hE c2; have zz6 := cs_ext hE c3; have zz7 := cs_ext hE c4; go_simp; first | done | exact ⟨rfl, rfl⟩ | rfl)
      apply Exists.intro
      refine And.intro (fun w' hE => ?_) ?_
      · exact fields_at hin hn63 (cs_ext hE htc) (by have := hE.size; simp at this; omega)
      refine calm_value (fun _ => rfl) ?_ (fun g w' hE => ?_) ?_
      rotate_left
      · (have zz0 := cs_ext hE k0; have zz1 := cs_ext hE k1; have zz2 := cs_ext hE k2; have zz3 := cs_ext hE c0; have zz4 := cs_ext hE c1; have zz5 := cs_ext hE c2; have zz6 := cs_ext hE c3; have zz7 := cs_ext hE c4; go_simp; first | done | rfl)
      refine calm_value (fun _ => rfl) ?_ (fun g w' hE => ?_) ?_
      rotate_left
      · (have zz0 := cs_ext hE k0; have zz1 := cs_ext hE k1; have zz2 := cs_ext hE k2; have zz3 := cs_ext hE c0; have zz4 := cs_ext hE c1; have zz5 := cs_ext hE c2; have zz6 := cs_ext hE c3; have zz7 := cs_ext hE c4; go_simp; first | done | rfl)
      refine calm_value (fun _ => rfl) ?_ (fun g w' hE => ?_) ?_
      rotate_left
      · (have zz0 := cs_ext hE k0; have zz1 := cs_ext hE k1; have zz2 := cs_ext hE k2; have zz3 := cs_ext hE c0; have zz4 := cs_ext hE c1; have zz5 := cs_ext hE c2; have zz6 := cs_ext hE c3; have zz7 := cs_ext hE c4; go_simp; first | done | rfl)
      refine calm_fresh (fun _ => rfl) (fun n => .pointer (some ⟨n, 0, none⟩)) ?_ (fun g w' hE => ?_) ?_
      rotate_left
      · (have zz0 := cs_ext hE k0; have zz1 := cs_ext hE k1; have zz2 := cs_ext hE k2; have zz3 := cs_ext hE c0; have zz4 := cs_ext hE c1; have zz5 := cs_ext hE c2; have zz6 := cs_ext hE c3; have zz7 := cs_ext hE c4; go_simp; first | done | rfl | exact ⟨rfl, rfl⟩)
      intro g wz hE hF
      simp only [List.drop_succ_cons, List.drop_zero, Act.put, List.setIfInBounds_toArray, List.set_cons_succ, List.set_cons_zero]
      obtain ⟨-, hF, -⟩ := hF
      obtain ⟨hg, hge⟩ := hF _ List.mem_cons_self
      simp at hg hge
      refine wpList_store_all rfl 39 (.tmp 10) (.tmp 38) rfl (g 5) _ rfl rfl 39 _ hg (by kernel_rfl) rfl (by simp [Value.oneCell']) ?_
      go_wp2_with fail

      go_meet
      exact ⟨g 5, rfl, by omega, hE.setRow (by simp; omega) _, setRow_heap _ _ _ _ _ _ hg⟩
    case rest =>
      obtain ⟨g, rfl, hg2, hEc, hgc⟩ := hcut
      have r0 := cs_ext hEc (cs_al (o := Obj.cells #[Value.int IntKind.i64 ↑r] 3) (cs_al (o := Obj.cells #[Value.int IntKind.i64 ↑f] 3) k0))
      have r1 := cs_ext hEc (cs_al (o := Obj.cells #[Value.int IntKind.i64 ↑r] 3) (cs_al (o := Obj.cells #[Value.int IntKind.i64 ↑f] 3) k1))
      have rf : wc.cell? ⟨w2.heap.size, 0, none⟩ = some (.int .i64 f) := cs_ext hEc (cs_al (cs_new rfl))
      have rr : wc.cell? ⟨w2.heap.size + 1, 0, none⟩ = some (.int .i64 r) := cs_ext hEc (by rw [← World.size_alloc w2 (Obj.cells #[Value.int IntKind.i64 ↑f] 3)]; exact cs_new rfl)
      have g0 : wc.cell? ⟨g, 0, none⟩ = some (.int .i64 x.kind) := by rw [cell_of_row _ _ _ _ _ _ hgc]; rfl
      have g1 : wc.cell? ⟨g, 1, none⟩ = some (.string x.bytes) := by rw [cell_of_row _ _ _ _ _ _ hgc]; rfl
      have g2 : wc.cell? ⟨g, 2, none⟩ = some (.int .i64 x.n) := by rw [cell_of_row _ _ _ _ _ _ hgc]; rfl
      have g3 : wc.cell? ⟨g, 3, none⟩ = some (.int .i64 x.low) := by rw [cell_of_row _ _ _ _ _ _ hgc]; rfl
      have g4 : wc.cell? ⟨g, 4, none⟩ = some (.int .i64 x.high) := by rw [cell_of_row _ _ _ _ _ _ hgc]; rfl
      have hsc := hEc.size
      simp only [World.size_alloc] at hsc
      have hglt : g < wc.heap.size := World.block_lt_of_cell? wc _ g0
      have hEw : Ext w wc := (hb1.al.trans hb2).trans (((Ext.alloc _ _).trans (Ext.alloc _ _)).trans hEc)
      have l1 : w2.heap.size < wc.heap.size := by omega
      have l2 : w2.heap.size + 1 < wc.heap.size := by omega
      clear k0 k1 htc c0 c1 c2 c3 c4 hEc hgc hb1 hb2 hs1 hs2
      have hnx : (wc.alloc (Obj.cells #[Value.int IntKind.i64 ((↑f + 1) * 262144)] 3)).cell? ⟨wc.heap.size, 0, none⟩ = some (.int .i64 (stS (f + 1) 0)) := by rw [cs_new rfl]; simp [stS]
      have hf1000 : f ≤ 1000 := by omega
      rcases hp x hmem with hk | hk | hk | hk | hk
      · have hK1 := HK.out
        simp only [kindS, hk, if_true, HR.out] at hK1
        have HBR : Hid (x.bytes.data.toList.getD r 0 = x.bytes[r]'(by simpa using (Bool.and_eq_true_iff.1 hK1).2)) := by
          have : r < x.bytes.size := by simpa using (Bool.and_eq_true_iff.1 hK1).2
          show _ = _
          rw [List.getD_eq_getElem?_getD, List.getElem?_eq_getElem (by simpa using this)]
          rfl
        have hrb : r < x.bytes.size := by simpa using (Bool.and_eq_true_iff.1 hK1).2
        by_cases hbb : x.bytes[r].toNat = b
        · have e1 : (((x.bytes[r].toNat : Nat) : Int) == (b : Int)) = true := by simp; omega
          have HBB := Lib.hid hbb; clear hbb
          go_wp2_with fail
          refine (join_any _ _ _ _ (by omega) (by omega) (by omega) (by omega) (by omega) (by omega)).mono ?_
          rintro e w' ⟨rfl, rfl⟩
          go_wp2_with fail
          refine (counted_any _ _ 0 f _ _ _ (cs_al rr) hnx (cs_al rf) (by omega) (by omega) (by omega) (by omega)).mono ?_
          rintro e w' ⟨rfl, rfl⟩
          go_wp2_with fail
          go_ret
          exact ⟨ri (by simp only [stepK, hk, if_true]; rw [HBR.out, if_pos HBB.out]), hEw.then_al _⟩
        · have e1 : (((x.bytes[r].toNat : Nat) : Int) == (b : Int)) = false := by simp; omega
          have HBB := Lib.hid hbb; clear hbb
          go_wp2_with fail
          refine (join_any _ _ _ _ (by omega) (by omega) (by omega) (by omega) (by omega) (by omega)).mono ?_
          rintro e w' ⟨rfl, rfl⟩
          go_wp2_with fail
          go_ret
          exact ⟨ri (by simp only [stepK, hk, if_true]; rw [HBR.out, if_neg HBB.out]), hEw.then_al _⟩
      · have hK1 := HK.out
        clear HK
        go_wp2_with fail
        refine (join_any _ _ _ _ (by omega) (by omega) (by omega) (by omega) (by omega) (by omega)).mono ?_
        rintro e w' ⟨rfl, rfl⟩
        go_wp2_with fail
        refine (counted_any _ _ 0 f _ _ _ (cs_al rr) hnx (cs_al rf) (by omega) (by omega) (by omega) (by omega)).mono ?_
        rintro e w' ⟨rfl, rfl⟩
        go_wp2_with fail
        go_ret
        exact ⟨ri (by simp [stepK, hk]), hEw.then_al _⟩
      · have hK1 := HK.out
        have hxn : I64 x.n := cw.n
        unfold I64 at hxn
        clear HK
        by_cases hr0 : 0 < r
        · have e1 : decide ((0 : Int) < (r : Int)) = true := by simp; omega
          go_wp2_with fail
          refine (join_any _ _ _ _ (by omega) (by omega) (by omega) (by omega) (by omega) (by omega)).mono ?_
          rintro e w' ⟨rfl, rfl⟩
          go_wp2_with fail
          refine (left_any _ 0 f _ _ _ (cs_al rr) hnx (cs_al rf) (by omega) (by omega) (by omega) (by omega)).mono ?_
          rintro e w' ⟨rfl, rfl⟩
          go_wp2_with fail
          go_ret
          exact ⟨ri (by simp [stepK, hk, hr0]), hEw.then_al _⟩
        · have e1 : decide ((0 : Int) < (r : Int)) = false := by simp; omega
          by_cases hb0 : b = 0
          · have e2 : ((b : Int) == 0) = true := by simp; omega
            go_wp2_with fail
            refine (join_any _ _ _ _ (by omega) (by omega) (by omega) (by omega) (by omega) (by omega)).mono ?_
            rintro e w' ⟨rfl, rfl⟩
            go_wp2_with fail
            go_ret
            exact ⟨ri (by simp [stepK, hk, hr0, hb0, stS]), hEw.then_al _⟩
          · have e2 : ((b : Int) == 0) = false := by simp; omega
            by_cases hbn : (b : Int) ≤ x.n
            · go_wp2_with fail
              refine (join_any _ _ _ _ (by omega) (by omega) (by omega) (by omega) (by omega) (by omega)).mono ?_
              rintro e w' ⟨rfl, rfl⟩
              go_wp2_with fail
              refine (join_any _ _ _ _ (by omega) (by omega) (by omega) (by omega) (by omega) (by omega)).mono ?_
              rintro e w' ⟨rfl, rfl⟩
              go_wp2_with fail
              go_ret
              exact ⟨ri (by simp [stepK, hk, hr0, hb0, stS]; omega), hEw.then_al _⟩
            · go_wp2_with fail
              refine (join_any _ _ _ _ (by omega) (by omega) (by omega) (by omega) (by omega) (by omega)).mono ?_
              rintro e w' ⟨rfl, rfl⟩
              go_wp2_with fail
              go_ret
              exact ⟨ri (by simp [stepK, hk, hr0, hb0, stS]; omega), hEw.then_al _⟩
      · have hK1 := HK.out
        clear HK
        go_wp2_with fail
        refine (join_any _ _ _ _ (by omega) (by omega) (by omega) (by omega) (by omega) (by omega)).mono ?_
        rintro e w' ⟨rfl, rfl⟩
        go_wp2_with fail
        all_goals go_ret
        all_goals exact ⟨ri (by simp [stepK, hk, stS]; omega), hEw.then_al _⟩
      · have hK1 := HK.out
        clear HK
        go_wp2_with fail
        refine (join_any _ _ _ _ (by omega) (by omega) (by omega) (by omega) (by omega) (by omega)).mono ?_
        rintro e w' ⟨rfl, rfl⟩
        go_wp2_with fail
        · refine (join_any _ _ _ _ (by omega) (by omega) (by omega) (by omega) (by omega) (by omega)).mono ?_
          rintro e w' ⟨rfl, rfl⟩
          go_wp2_with fail
          go_ret
          exact ⟨ri (by simp [stepK, hk, stS]; omega), hEw.then_al _⟩
        · go_ret
          exact ⟨ri (by simp [stepK, hk, stS]; omega), hEw.then_al _⟩

end Go.Proofs.Ythoelnoahfedmaa
