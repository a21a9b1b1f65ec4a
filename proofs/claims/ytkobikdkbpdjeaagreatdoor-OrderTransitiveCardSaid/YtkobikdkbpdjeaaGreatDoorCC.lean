/- Contracts: the reference's names (seat 04). -/
import Derived.Test.YtkobikdkbpdjeaaGreatDoorCB
namespace Go.Proofs.YtkobikdkbpdjeaaGreatDoor
open Go Go.RowKit
set_option linter.unusedVariables false
set_option linter.unusedSimpArgs false

theorem one_strF {w : World} {S : Nat → Prop} {g : Nat} {k : ByteArray} (h : w.heap[g]? = some (.cells #[.string k] 9)) (hk : k.size ≤ maxLen) : LsE elS w S (.slice (some ⟨g, 0, none⟩) 1 1) [k] :=
 (show LsG elS w (fun _ => True) _ _ from cells_lsG (P := [(k, [.string k])]) h rfl rfl rfl (by simp [maxLen]) trivial (fun p hp => by simp at hp; subst hp; exact ⟨rfl, hk⟩)).e
theorem OwnG.noneS {w : World} {base : Nat} {g : Nat} (h : w.heap[g]? = some (.cells #[] 9)) (hb : base ≤ g) : OwnG elS w base 9 (fun _ => False) (.slice (some ⟨g, 0, none⟩) 0 0) [] :=
 ⟨[], rfl, by simp, ⟨by simp, .inr ⟨g, 0, #[], rfl, hb, h, Nat.le_refl _, by unfold maxLen; omega, by simp, by simp⟩⟩⟩
theorem LsE.strs {w : World} {S S' : Nat → Prop} {v : Value} {L : List ByteArray} (h : LsE elS w S v L) : LsE elS w S' v L := by
 obtain ⟨a, cap, rfl, h1, h2, h3⟩ := h
 exact ⟨a, cap, rfl, h1, h2, fun i t hi => by
  obtain ⟨b, off, cs, e1, e2, e3⟩ := h3 i t hi
  exact ⟨b, off, cs, e1, e2, e3⟩⟩
def names9 : List ByteArray := [⟨#[97]⟩, ⟨#[98]⟩, ⟨#[99]⟩, ⟨#[102]⟩, ⟨#[103]⟩, ⟨#[104]⟩, ⟨#[107]⟩, ⟨#[110]⟩, ⟨#[112, 97, 105, 114]⟩]

set_option maxRecDepth 100000 in
set_option maxHeartbeats 2000000 in
theorem RNames4 {w : World} {n : Int} (h0 : 0 ≤ n) (h1 : n < 256) :
 Calls Tryz.prog 8 #[.int .u8 n] w fun e w' => ∃ v L, e = .returned v ∧ Ext w w' ∧ OwnG elS w' w.heap.size 9 (fun _ => False) v L ∧ L.length ≤ 9 := by
 obtain ⟨nb, w0, hnb, hw0, HBN, hE0⟩ := box_new w (.cells #[.string ⟨#[97]⟩, .string ⟨#[98]⟩, .string ⟨#[99]⟩, .string ⟨#[102]⟩, .string ⟨#[103]⟩, .string ⟨#[104]⟩, .string ⟨#[107]⟩, .string ⟨#[110]⟩, .string ⟨#[112, 97, 105, 114]⟩] 9)
 have HE0 := Lib.hid hE0
 have HX0 : Hid (LsG elS w0 (fun c => (Value.slice none 0 0).ownBlock ≠ some c) (.slice (some ⟨nb, 0, none⟩) 9 9) names9) := Lib.hid (by
  refine cells_lsG (P := names9.map (fun s => (s, [.string s]))) HBN.out rfl rfl rfl (by unfold maxLen; decide) (by simp [Value.ownBlock]) (fun p hp => ?_)
  obtain ⟨s, hs, rfl⟩ := List.mem_map.1 hp
  refine ⟨rfl, ?_⟩
  simp only [names9, List.mem_cons, List.mem_nil_iff, or_false] at hs
  unfold maxLen
  rcases hs with rfl | rfl | rfl | rfl | rfl | rfl | rfl | rfl | rfl <;> decide)
 clear hE0
 go_enter Tryz.func8, Tryz.ntmps8
 go_upto_region 3 with fail
 rw [← hw0, ← hnb]
 clear hw0 hnb
 go_loopw [0, 3, 4, 5] (fun nv lv ov iv wr => ∃ (n : Int) (X O : List ByteArray), nv = .int .u8 n ∧ 0 ≤ n ∧ n < 256 ∧ Hid (X.length + O.length = 9) ∧ Hid (LsG elS wr (fun c => ov.ownBlock ≠ some c) lv X) ∧ Hid (OwnG elS wr w.heap.size 9 (fun _ => False) ov O) ∧ Hid (Ext w wr)) (fun nv lv ov iv _ => match lv with | .slice _ l _ => l | _ => 0)
 case atStart => exact ⟨n, names9, [], rfl, h0, h1, Lib.hid rfl, HX0, Lib.hid OwnG.nil, HE0⟩
 case round =>
  obtain ⟨n, X, O, rfl, h0, h1, HLN, HX, HO, HE⟩ := hrel
  obtain ⟨xa, xc, rfl, hxl, hxc⟩ := HX.out.slice
  obtain ⟨oa, oc, rfl, hol, hoc⟩ := HO.out.slice
  unfold maxLen at hxc hoc
  by_cases hx : X.length = 0
  · have hx0 : ¬ (0 : Int) < (X.length : Int) := by omega
    have HL9 : Hid (O.length ≤ 9) := Lib.hid (by have := HLN.out; omega)
    clear hx
    go_wp2_with fail
    go_ret
    exact ⟨_, rfl, HE.out, O, HO.out, HL9.out⟩
  · have hx0 : (0 : Int) < (X.length : Int) := by omega
    obtain ⟨i, hi⟩ : ∃ i : Nat, n % (X.length : Int) = (i : Int) := ⟨(n % (X.length : Int)).toNat, by have := Int.emod_nonneg n (b := (X.length : Int)) (by omega); omega⟩
    have hil : i < X.length := by have := Int.emod_lt_of_pos n hx0; omega
    obtain ⟨x, hxi⟩ : ∃ x, X[i]? = some x := ⟨_, List.getElem?_eq_getElem hil⟩
    obtain ⟨xb, xo, rfl, x0, hxs⟩ := HX.out.sAt hxi
    obtain ⟨ob, wa, hob, hwa, HBO, hEa⟩ := box_new wr (.cells #[.string x] 9)
    have x1 := cs_ext hEa x0
    have HEA := Lib.hid hEa
    have HLSE := Lib.hid (one_strF (S := fun _ => False) HBO.out hxs)
    clear hEa hxi
    go_upto_region 6 with (
     at_builtin
     rw [← hob, ← hwa]
     refine wpList_appG (E := elS) (T := 9) rfl 28 (.tmp 15) (.tmp 20) rfl rfl rfl Tryz.underlying28 infStr rfl (by decide) (by decide) (HO.out.ext HEA.out) (Nat.le_trans HE.out.size HEA.out.size) (fun c h => absurd h id) (by have := HLN.out; omega) (M := [x]) (by simp) HLSE.out ?_
     intro v6 w6 o6 g6 k6
     have HO6 := Lib.hid o6
     have HG6 := Lib.hid g6
     have HK6 := Lib.hid k6
     have HE6 := Lib.hid ((HE.out.trans HEA.out).grownG (HO.out.ext HEA.out) (Nat.le_refl _) g6)
     clear o6 g6 k6)
    obtain ⟨pa, pc, rfl, hpl, hpc⟩ := HO6.out.slice
    have hl1 : (O ++ [x]).length = O.length + 1 := by simp
    rw [hl1] at hpl HO6 HK6 ⊢
    unfold maxLen at hpc
    have HLT : Hid (∀ c, (Value.slice pa (O.length + 1) pc).ownBlock = some c → c < w6.heap.size) := Lib.hid (fun c h => (HO6.out.lt c h).2)
    have hX6 : LsG elS w6 (fun c => (Value.slice pa (O.length + 1) pc).ownBlock ≠ some c) (.slice (some ⟨xb, xo, none⟩) X.length xc) X :=
     (HX.out.ext HEA.out).keep (fun c hc hlt => HG6.out.block c hlt (fun e => hc e.symm)) (fun c hc hlt e => by
       rcases HK6.out with h | h
       · rw [h] at e; exact hc e
       · rw [h] at e; cases e; exact absurd hlt (Nat.lt_irrefl _)) HG6.out.size
    have HX6 := Lib.hid hX6
    have HT6 : Hid (LsE elS w6 (fun _ => False) (.slice (some ⟨xb, xo, none⟩) i xc) (X.take i)) := Lib.hid (hX6.any.take (m := i) (by omega)).e.strs
    have HD6 : Hid (LsE elS w6 (fun _ => False) (.slice (if xc = i + 1 then some ⟨xb, xo, none⟩ else some ⟨xb, xo + (i + 1), none⟩) (X.length - (i + 1)) (xc - (i + 1))) (X.drop (i + 1))) := Lib.hid (by
     have h := (hX6.any.drop_any (m := i + 1) (by omega)).e
     rw [show (i + 1) * elS.n = i + 1 from by show (i + 1) * 1 = _; omega] at h
     exact h.strs)
    have hi1 : ((i : Int) + 1) ≤ (X.length : Int) := by omega
    have hi2 : (0 : Int) ≤ (i : Int) + 1 := by omega
    have hi3 : i ≤ xc := by omega
    have hi4 : i + 1 ≤ X.length := by omega
    have HTL : Hid ((X.take i).length = i ∧ (X.drop (i + 1)).length = X.length - (i + 1)) := Lib.hid ⟨by rw [List.length_take]; omega, by simp⟩
    clear hX6 x0 x1 hwa hob HLSE HX HK6 HG6 hl1
    have ARM : ∀ wz, Ext w6 wz → OwnG elS (wz.alloc (.cells #[] 9)) w6.heap.size 9 (fun _ => False) (.slice (some ⟨wz.heap.size, 0, none⟩) 0 0) [] := fun wz h => OwnG.noneS hs_new h.size
    have HARM := Lib.hid ARM
    clear ARM
    have hi5 : IntKind.i64.wrap ((i : Int) + 1) = (i : Int) + 1 := by rw [IntKind.wrap_i64]; omega
    go_region_law (first
     | (refine step_appG (E := elS) (T := 9) rfl 28 (.tmp 22) (.tmp 25) rfl rfl rfl Tryz.underlying28 infStr rfl (by decide) (by decide) (by first | exact HARM.out w6 (Ext.refl _) | exact (HARM.out w6 (Ext.refl _)).ext (Ext.drew _) | exact HARM.out w6.drew (Ext.drew _)) (Ext.size (by repeat (first | exact Ext.refl _ | exact Ext.alloc _ _ | apply Ext.then_dr | apply Ext.then_drN | apply Ext.then_drN2 | (refine Ext.then_al ?_ _)))) (fun c h => absurd h id) (by simp) (M := X.take i) (by have := HTL.out; have := HLN.out; omega) (HT6.out.ext (by repeat (first | exact Ext.refl _ | exact Ext.alloc _ _ | apply Ext.then_dr | apply Ext.then_drN | apply Ext.then_drN2 | (refine Ext.then_al ?_ _)))) ?_
        intro v7 w7 o7 g7 k7
        rw [List.nil_append] at o7
        have e7 := Ext.grown (show Ext w6 _ from (by repeat (first | exact Ext.refl _ | exact Ext.alloc _ _ | apply Ext.then_dr | apply Ext.then_drN | apply Ext.then_drN2 | (refine Ext.then_al ?_ _)))) g7 (fun c hc => by cases hc; exact Nat.le_refl _)
        have HO7 := Lib.hid o7
        have HE7 := Lib.hid e7
        have HD7 := Lib.hid (HD6.out.ext e7)
        clear o7 g7 k7 e7)
     | (refine step_appG (E := elS) (T := 9) rfl 28 (.tmp 26) (.tmp 30) rfl rfl rfl Tryz.underlying28 infStr rfl (by decide) (by decide) HO7.out HE7.out.size (fun c h => absurd h id) (by have := HTL.out; have := HLN.out; omega) (M := X.drop (i + 1)) (by have := HTL.out; have := HLN.out; omega) HD7.out ?_
        intro v8 w8 o8 g8 k8
        have HE8 := Lib.hid (HE7.out.grownG HO7.out (Nat.le_refl _) g8)
        obtain ⟨Y, hY⟩ : ∃ Y, Y = X.take i ++ X.drop (i + 1) := ⟨_, rfl⟩
        rw [← hY] at o8
        have hyl : Y.length = X.length - 1 := (by rw [hY, List.length_append, HTL.out.1, HTL.out.2]; omega)
        obtain ⟨ya, yc, rfl, hyl1, hyl2⟩ := o8.slice
        have HY8 : Hid (LsG elS w8 (fun c => (Value.slice pa (O.length + 1) pc).ownBlock ≠ some c) (.slice ya Y.length yc) Y) := Lib.hid (o8.ls (fun _ h _ => h.elim) (fun g hg hb _ e => by have := HLT.out g e; omega))
        have HYL := Lib.hid hyl
        unfold maxLen at hyl2
        clear o8 g8 k8 hY hyl))
    simp only [Act.put, List.getElem_cons_succ, List.getElem_cons_zero]
    go_simp
    go_wp2_with fail
    go_roundw
    case rel =>
     refine ⟨_, Y, O ++ [x], rfl, ?_, ?_, Lib.hid (by have := HYL.out; have := HLN.out; rw [List.length_append, List.length_singleton]; omega), HY8, Lib.hid (HO6.out.ext HE8.out), Lib.hid (HE6.out.trans HE8.out)⟩
     · omega
     · omega
    case measure => have := HYL.out; simp; omega
end Go.Proofs.YtkobikdkbpdjeaaGreatDoor
