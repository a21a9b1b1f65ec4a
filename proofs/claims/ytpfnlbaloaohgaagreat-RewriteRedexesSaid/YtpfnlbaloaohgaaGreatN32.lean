/- Contracts: the reference's positions. -/
import Derived.Test.YtpfnlbaloaohgaaGreatN31
import Derived.Test.YtpfnlbaloaohgaaGreatH7
namespace Go.Proofs.YtpfnlbaloaohgaaGreat
open Go Go.RowKit
set_option linter.unusedVariables false
set_option linter.unusedSimpArgs false

theorem own_oneL {α : Type} {E : Elm α} {w : World} {base fb T : Nat} {S : Nat → Prop} {v : Value} {l : List α} (hb : w.heap[fb]? = some (.cells #[v] T)) (hf : base ≤ fb) (hl : LsG E w S v l) : OwnG (elL E) w base T S (.slice (some ⟨fb, 0, none⟩) 1 1) [l] :=
  ⟨[(l, [v])], rfl, fun p hp => by simp at hp; subst hp; exact ⟨v, rfl, hl⟩, ⟨rfl, .inr ⟨fb, 1, _, rfl, hf, hb, Nat.le_refl _, by unfold maxLen; omega, rfl, rfl⟩⟩⟩
theorem one_lsL {α : Type} {E : Elm α} {w : World} {fb T : Nat} {S : Nat → Prop} {v : Value} {l : List α} (hb : w.heap[fb]? = some (.cells #[v] T)) (hl : LsG E w S v l) : LsE (elL E) w S (.slice (some ⟨fb, 0, none⟩) 1 1) [l] :=
  cells_lsE (P := [(l, [v])]) hb rfl rfl rfl (by unfold maxLen; simp) (fun p hp => by simp at hp; subst hp; exact ⟨v, rfl, hl⟩)

set_option maxRecDepth 100000 in
set_option maxHeartbeats 8000000 in
theorem RPositions_any (n : Nat) : ∀ (w : World) (S : Nat → Prop) (a : Option Addr) (cap : Nat) (t : Tm), sizeT t ≤ n → n ≤ 100000 → TmW w S a cap t →
    Calls Tryz.prog 43 #[.agg #[.int .i64 t.kind, .string t.name, .int .i64 t.sort, .slice a t.kids.length cap]] w fun e w' => ∃ v, e = .returned v ∧ Ext w w' ∧ LsG (elL elI) w' (fun c => w.heap.size ≤ c) v (posT t) := by
  induction n with
  | zero => intro w S a cap t hn; have := sizeT_kids t; omega
  | succ n ih =>
    intro w S a cap t hn hn2 hT
    have hkl := hT.len
    have hkc := hT.cap
    unfold maxLen at hkc
    obtain ⟨bx, hbbx⟩ : ∃ zz9, zz9 = w.heap.size := ⟨_, rfl⟩
    obtain ⟨w1, hwbx⟩ : ∃ zz9, zz9 = w.alloc (.cells #[.int .i64 t.kind, .string t.name, .int .i64 t.sort, .slice a t.kids.length cap] 25) := ⟨_, rfl⟩
    have HBbx : Hid (w1.heap[bx]? = some (.cells #[.int .i64 t.kind, .string t.name, .int .i64 t.sort, .slice a t.kids.length cap] 25)) := Lib.hid (by rw [hwbx, hbbx]; exact hs_new)
    have hEbx : Ext w w1 := by rw [hwbx]; exact Ext.alloc _ _
    have HNB : Hid (w.heap.size = bx ∧ w1.heap.size = bx + 1) := Lib.hid ⟨hbbx.symm, by rw [hwbx, hbbx, World.size_alloc]⟩
    have b0 : w1.cell? ⟨bx, 0, none⟩ = some (.int .i64 t.kind) := by rw [cellc (HBbx.out)]; rfl
    have b1 : w1.cell? ⟨bx, 1, none⟩ = some (.string t.name) := by rw [cellc (HBbx.out)]; rfl
    have b2 : w1.cell? ⟨bx, 2, none⟩ = some (.int .i64 t.sort) := by rw [cellc (HBbx.out)]; rfl
    have b3 : w1.cell? ⟨bx, 3, none⟩ = some (.slice a t.kids.length cap) := by rw [cellc (HBbx.out)]; rfl
    have HE1 := Lib.hid hEbx
    have HT := Lib.hid (hT.ext hEbx).any
    have HN := Lib.hid (And.intro hn hn2)
    have HK := Lib.hid (sizeT_kids t)
    have IH := Lib.hid ih
    obtain ⟨Q, hQ⟩ : ∃ Q, Q = posT t := ⟨_, rfl⟩
    have HQ0 : Hid (Q = [] :: posL t.kids 0) := Lib.hid (by rw [hQ, posT_kids])
    have HQL : Hid (Q.length = sizeT t) := Lib.hid (by rw [hQ, posT_len])
    rw [← hQ]
    clear hT hEbx hn hn2 ih hQ
    go_enter Tryz.func43, Tryz.ntmps43
    go_upto_region 1 with fail
    rw [← hwbx, ← hbbx]
    clear hwbx hbbx
    obtain ⟨c1, hc1⟩ : ∃ zz9, zz9 = w1.heap.size := ⟨_, rfl⟩
    obtain ⟨w2, hw2⟩ : ∃ zz9, zz9 = w1.alloc (.cells #[] 3) := ⟨_, rfl⟩
    have hE2 : Ext w1 w2 := by rw [hw2]; exact Ext.alloc _ _
    have hs2 : w2.heap.size = c1 + 1 := by rw [hw2, World.size_alloc, hc1]
    have hO2 : OwnG elI w2 c1 3 (fun _ => False) (.slice (some ⟨c1, 0, none⟩) 0 0) [] := by rw [hw2, hc1]; exact own_made (Nat.le_refl _)
    obtain ⟨c2, hc2⟩ : ∃ zz9, zz9 = c1 + 1 := ⟨_, rfl⟩
    obtain ⟨w3, hw3⟩ : ∃ zz9, zz9 = w2.alloc (.cells #[.slice (some ⟨c1, 0, none⟩) 0 0] 33) := ⟨_, rfl⟩
    have hE3 : Ext w2 w3 := by rw [hw3]; exact Ext.alloc _ _
    have hb3 : w3.heap[c2]? = some (.cells #[.slice (some ⟨c1, 0, none⟩) 0 0] 33) := by rw [hw3, hc2, ← hs2]; exact hs_new
    have HO3 : Hid (OwnG (elL elI) w3 w1.heap.size 33 (fun c => w1.heap.size ≤ c ∧ (Value.slice (some ⟨c2, 0, none⟩) 1 1).ownBlock ≠ some c) (.slice (some ⟨c2, 0, none⟩) 1 1) [[]]) := Lib.hid (own_oneL hb3 (by omega) ((hO2.ext hE3).ls (fun _ h _ => absurd h id) (fun g hg h1 _ => ⟨by omega, fun e => by
      have e1 := Option.some.inj (show some c1 = some g from hg)
      have e2 := Option.some.inj (show some c2 = some g from e)
      omega⟩)))
    have HE3 := Lib.hid (hE2.trans hE3)
    have b0 := cs_ext HE3.out b0
    have b1 := cs_ext HE3.out b1
    have b2 := cs_ext HE3.out b2
    have b3 := cs_ext HE3.out b3
    clear hE2 hs2 hO2 hE3 hb3
    go_upto_region 2 with fail
    try rw [← hc1]
    rw [← hw2]
    try rw [← hc2]
    rw [← hw3]
    clear hc1 hw2 hc2 hw3
    go_wp2_with fail
    go_loopw [3, 4] (fun ov iv wr => Hid (∃ k : Nat, iv = .int .i64 k ∧ k ≤ t.kids.length ∧ OwnG (elL elI) wr w1.heap.size 33 (fun c => w1.heap.size ≤ c ∧ ov.ownBlock ≠ some c) ov ([] :: posL (t.kids.take k) 0) ∧ Ext w1 wr)) (fun _ iv _ => t.kids.length - (intOf iv).toNat)
    case atStart => exact Lib.hid ⟨0, rfl, by omega, by simpa [posL] using HO3.out, HE3.out⟩
    case round =>
      obtain ⟨k, rfl, hk, hO, hE⟩ := hrel.out
      obtain ⟨O, hOd⟩ : ∃ O, O = [] :: posL (t.kids.take k) 0 := ⟨_, rfl⟩
      rw [← hOd] at hO
      have HOD := Lib.hid hOd
      have HO5 := Lib.hid hO
      have HE5 := Lib.hid hE
      obtain ⟨oa, oc, hov, -, hoc⟩ := HO5.out.slice
      subst hov
      unfold maxLen at hoc
      have hol : O.length ≤ 200000 := by
        have h1 : Q.length = O.length + (posL (t.kids.drop k) (0 + (t.kids.take k).length)).length := by
          rw [HQ0.out, hOd, List.length_cons, List.length_cons, ← List.take_append_drop k t.kids, posL_append, List.length_append, List.take_append_drop]; omega
        have := HQL.out; have := HN.out; omega
      clear b0 b1 b2 b3
      have b0 : wr.cell? ⟨bx, 0, none⟩ = some (.int .i64 t.kind) := by rw [cellc (hs_ext HE5.out HBbx.out)]; rfl
      have b1 : wr.cell? ⟨bx, 1, none⟩ = some (.string t.name) := by rw [cellc (hs_ext HE5.out HBbx.out)]; rfl
      have b2 : wr.cell? ⟨bx, 2, none⟩ = some (.int .i64 t.sort) := by rw [cellc (hs_ext HE5.out HBbx.out)]; rfl
      have b3 : wr.cell? ⟨bx, 3, none⟩ = some (.slice a t.kids.length cap) := by rw [cellc (hs_ext HE5.out HBbx.out)]; rfl
      clear hrel hOd hO hE
      by_cases hlt : k < t.kids.length
      · obtain ⟨x, hx⟩ : ∃ x, t.kids[k]? = some x := ⟨_, List.getElem?_eq_getElem hlt⟩
        obtain ⟨xb, xo, xa, xc, rfl, x0, x1, x2, x3, hTx⟩ := (HT.out.ext HE5.out).ts.at hx
        have hsx := sizeL_get hx
        have hcon := IH.out wr Any xa xc x (by have := HK.out; have := HN.out; omega) (by have := HN.out; omega) hTx.any
        obtain ⟨M, hM⟩ : ∃ M, M = posT x := ⟨_, rfl⟩
        have hml : M.length ≤ 100000 := by rw [hM, posT_len]; have := HK.out; have := HN.out; omega
        have hmp : ∀ p ∈ M, p.length ≤ 100000 := fun p hp => by rw [hM] at hp; have := posT_plen x p hp; have := HK.out; have := HN.out; omega
        rw [← hM] at hcon
        have HCON := Lib.hid hcon
        have HMP := Lib.hid hmp
        have HTK : Hid ([] :: posL (t.kids.take (k + 1)) 0 = O ++ M.map (fun p => (k : Int) :: p)) := Lib.hid (by rw [HOD.out, posL_take hx, hM]; rfl)
        clear hx hTx hsx hcon hM hmp
        go_wp2_with fail
        refine HCON.out.mono ?_
        rintro e w6 ⟨v6, rfl, hE6, hL6⟩
        obtain ⟨la, lc, rfl, hll, hlc⟩ := hL6.slice
        unfold maxLen at hlc
        have HL6 := Lib.hid (hL6.wide (S' := fun c => (Value.slice oa O.length oc).ownBlock ≠ some c) (fun c h _ e => by have := (HO5.out.lt c e); omega))
        have HO6 := Lib.hid (HO5.out.ext hE6)
        have HE6 := Lib.hid (HE5.out.trans hE6)
        have b0 := cs_ext hE6 b0
        have b1 := cs_ext hE6 b1
        have b2 := cs_ext hE6 b2
        have b3 := cs_ext hE6 b3
        clear hL6 hE6 x0 x1 x2 x3
        go_upto_region 6 with fail
        go_wp2_with fail
        go_loopw [3, 6] (fun ov jv wr => Hid (∃ j : Nat, jv = .int .i64 j ∧ j ≤ M.length ∧ OwnG (elL elI) wr w1.heap.size 33 (fun c => w1.heap.size ≤ c ∧ ov.ownBlock ≠ some c) ov (O ++ (M.take j).map (fun p => (k : Int) :: p)) ∧ Ext w1 wr ∧ RowK w6 wr (.slice oa O.length oc) ov)) (fun _ jv _ => M.length - (intOf jv).toNat)
        case atStart => exact Lib.hid ⟨0, rfl, by omega, by simpa using HO6.out, HE6.out, RowK.of_ext (Ext.refl _)⟩
        case round =>
          obtain ⟨j, rfl, hj, hO, hE, hS⟩ := hrel.out
          obtain ⟨O2, hOd2⟩ : ∃ O2, O2 = O ++ (M.take j).map (fun p => (k : Int) :: p) := ⟨_, rfl⟩
          have hol2 : O2.length ≤ 1000000 := by rw [hOd2, List.length_append, List.length_map, List.length_take]; omega
          rw [← hOd2] at hO
          have HOD2 := Lib.hid hOd2
          have HO8 := Lib.hid hO
          have HE8 := Lib.hid hE
          have HS8 := Lib.hid hS
          clear hrel hO hE hS hOd2
          obtain ⟨ob, oc', hov, -, hoc'⟩ := HO8.out.slice
          subst hov
          unfold maxLen at hoc'
          have HL8 := Lib.hid (HL6.out.keep (w' := wr) (S' := fun c => True) (fun c h1 h2 => HS8.out.kept c h2 h1) (fun _ _ _ => trivial) HS8.out.size)
          clear b0 b1 b2 b3
          by_cases hjl : j < M.length
          · obtain ⟨p, hp⟩ : ∃ p, M[j]? = some p := ⟨_, List.getElem?_eq_getElem hjl⟩
            obtain ⟨pb, po, pa, pc, rfl, p0, hp1, hp2, hP⟩ := HL8.out.lAt hp
            unfold maxLen at hp2
            have hpl := HMP.out p (List.mem_of_getElem? hp)
            have HTJ : Hid (O ++ (M.take (j + 1)).map (fun p => (k : Int) :: p) = O2 ++ [(k : Int) :: p]) := Lib.hid (by rw [HOD2.out, List.take_add_one, hp, List.map_append, List.append_assoc]; rfl)
            obtain ⟨wc, hwc⟩ : ∃ zz9, zz9 = wr.alloc (.cells #[.int .i64 (k : Int)] 3) := ⟨_, rfl⟩
            have hEc : Ext wr wc := by rw [hwc]; exact Ext.alloc _ _
            have hkb : I64 (k : Int) := by have := HK.out; have := HN.out; have := len_size t.kids; unfold I64; omega
            have HOc : Hid (OwnG elI wc wr.heap.size 3 (fun _ => False) (.slice (some ⟨wr.heap.size, 0, none⟩) 1 1) [(k : Int)]) := Lib.hid (by rw [hwc]; exact own_oneI hs_new (Nat.le_refl _) hkb)
            have HPc := Lib.hid (((hP.ext hEc).e).wideI (S' := fun _ => False))
            have HEc := Lib.hid hEc
            have p0z : (wr.alloc (.cells #[.int .i64 (k : Int)] 3)).cell? _ = _ := cs_al p0
            clear hp hP hEc hkb p0
            go_wp2_with (first
              | (at_builtin
                 rw [← hwc]
                 refine wpList_appG (E := elI) (T := 3) rfl 33 (.tmp 30) (.tmp 34) rfl rfl rfl Tryz.underlying33 infInt rfl (by decide) (by decide) HOc.out HEc.out.size (fun c h => absurd h id) (by simp) (M := p) (by omega) HPc.out ?_
                 intro v9 w9 o9 g9 k9
                 obtain ⟨d1, d2, hv9, -, hc9⟩ := o9.slice
                 unfold maxLen at hc9
                 have hE9 : Ext wr w9 := Ext.grown HEc.out g9 (fun c hc => (HOc.out.lt c hc).1)
                 have HE9 := Lib.hid (HE8.out.trans hE9)
                 have HER9 := Lib.hid hE9
                 have HO9 := Lib.hid (HO8.out.ext hE9)
                 have HV9 := Lib.hid (((elI_wide (w' := w9) (S' := fun c => wr.heap.size ≤ c) o9).new (fun c h _ => h)).wide (S' := fun c => w1.heap.size ≤ c ∧ (Value.slice ob O2.length oc').ownBlock ≠ some c) (fun c h _ => ⟨by have := HE8.out.size; omega, fun e => by have := (HO8.out.lt c e).2; omega⟩))
                 have hl9 : ([(k : Int)] ++ p).length = p.length + 1 := by simp
                 have hl8 : ([(k : Int)] ++ p) = (k : Int) :: p := rfl
                 rw [hl8] at HV9
                 rw [hl9] at hv9
                 subst hv9
                 clear o9 g9 k9 hE9 hl9 hl8)
              | (at_builtin
                 refine wpList_appG (E := elL elI) (T := 33) rfl 64 (.tmp 28) (.tmp 36) rfl rfl rfl Tryz.underlying64 infInts rfl (by decide) (by decide) ((HO9.out.ext (Ext.alloc _ _)).wide (S' := fun c => (w1.heap.size ≤ c ∧ (Value.slice ob O2.length oc').ownBlock ≠ some c) ∧ c < w9.heap.size + 1) (fun c h h2 => ⟨h, by simpa using h2⟩)) (HE9.out.then_al _).size (fun c h => h.1.2) hol2 (M := [(k : Int) :: p]) (by simp) (one_lsL hs_new ((HV9.out.ext (Ext.alloc _ _)).wide (fun c h h2 => ⟨h, by simpa using h2⟩))) ?_
                 intro v5 wf o5 g5 k5
                 have HE5f : Hid (Ext w1 wf) := Lib.hid (Ext.grown (HE9.out.then_al _) g5 (fun c hc => (HO9.out.lt c hc).1))
                 have HS5f := Lib.hid ((HS8.out.trans (RowK.of_ext (HER9.out.then_al _))).trans (RowK.app g5 k5))
                 rw [World.size_alloc] at k5
                 have HO5f := Lib.hid (o5.turn k5)
                 clear o5 g5 k5))
            go_roundw
            case rel => exact Lib.hid ⟨j + 1, by go_num, by omega, by rw [HTJ.out]; exact HO5f.out, HE5f.out, HS5f.out⟩
            case measure => simp [intOf]; omega
          · have HF : Hid ([] :: posL (t.kids.take (k + 1)) 0 = O2) := Lib.hid (by rw [HTK.out, HOD2.out, List.take_of_length_le (by omega)])
            have hjz : ¬ ((j : Int) < (M.length : Int)) := by omega
            go_wp2_with fail
            go_roundw
            case rel => exact Lib.hid ⟨k + 1, by go_num, by omega, by rw [HF.out]; exact HO8.out, HE8.out⟩
            case measure => simp [intOf]; omega
      · have HF : Hid (O = Q) := Lib.hid (by rw [HOD.out, HQ0.out, List.take_of_length_le (by omega)])
        have hkz : ¬ ((k : Int) < (t.kids.length : Int)) := by omega
        have HOF := Lib.hid (HO5.out.ls (S' := fun c => w.heap.size ≤ c) (fun c h _ => by have := HNB.out; omega) (fun g _ h1 _ => by have := HNB.out; omega))
        go_wp2_with fail
        go_ret
        exact ⟨_, rfl, HE1.out.trans HE5.out, by rw [← HF.out]; exact HOF.out⟩

end Go.Proofs.YtpfnlbaloaohgaaGreat
