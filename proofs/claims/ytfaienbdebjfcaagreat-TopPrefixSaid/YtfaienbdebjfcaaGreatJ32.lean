/- Contracts: the reader of envelope at the pair's bytes: the term. -/
import Derived.Test.YtfaienbdebjfcaaGreatGH
namespace Go.Proofs.YtfaienbdebjfcaaGreat
open Go Go.RowKit
set_option linter.unusedVariables false
set_option linter.unusedSimpArgs false

/-- rows of cells, five each -/
def elC : Elm (List Value) where
 n := 5
 R w S x cs := cs = x ∧ x.length = 5 ∧ ∀ u ∈ x, u.oneCell' = true
 len := by rintro w S t cs ⟨rfl, h, -⟩; exact h
 one := by rintro w S t cs ⟨rfl, -, h⟩ u hu; exact h u hu
 keep := by rintro w w' S S' t cs ⟨rfl, h⟩ h1 h2; exact ⟨rfl, h⟩
theorem own_two {w : World} {base T : Nat} {v : Value} {a b : List Value} (h : OwnG elC w base T (fun _ => False) v ([a] ++ [b])) : w.ownsRow base T 5 v 2 (a ++ b) := by
 obtain ⟨P, h1, h2, h3⟩ := h
 obtain ⟨p, q, rfl⟩ : ∃ p q, P = [p, q] := by
  match P, h1 with
  | [p, q], _ => exact ⟨p, q, rfl⟩
 obtain ⟨p1, p2⟩ := p
 obtain ⟨q1, q2⟩ := q
 simp at h1
 obtain ⟨rfl, rfl⟩ := h1
 have e1 : p2 = p1 := (h2 (p1, p2) (by simp)).1
 have e2 : q2 = q1 := (h2 (q1, q2) (by simp)).1
 subst e1
 subst e2
 have h3 : w.ownsRow base T 5 v 2 (p2 ++ (q2 ++ [])) := h3
 rwa [List.append_nil] at h3
theorem own_oneC {w : World} {base T : Nat} {v : Value} {a : List Value} (h : w.ownsRow base T 5 v 1 a) (h1 : ∀ u ∈ a, u.oneCell' = true) : OwnG elC w base T (fun _ => False) v [a] :=
 ⟨[(a, a)], rfl, fun p hp => by simp at hp; subst hp; exact ⟨rfl, h.1, h1⟩, by show w.ownsRow base T 5 v 1 (a ++ []); rw [List.append_nil]; exact h⟩
def muN (sv : Value) (w : World) : Nat := match sv with | .slice (some a) n _ => 2 * (intOf ((w.cell? ⟨a.block, 4, none⟩).getD undef)).toNat + (n - 1) | _ => 0
theorem even_st {m : Nat} (h : m = 0 ∨ m = 2) {rb : Nat} : ∃ (nm : ByteArray) (so l : Int), secN m = [] ∧ secN (m + 1) = [.int .i64 2, .string nm, .int .i64 so, .slice none 0 0, .int .i64 0] ∧ leftN m = l + 1 ∧ leftN (m + 1) = l ∧ 0 ≤ l ∧ l ≤ 1 ∧ m / 2 = (m + 1) / 2 ∧ 1 + m % 2 = 1 ∧ 1 + (m + 1) % 2 = 2 ∧
 ∀ w : World, RdB w rb bsP (posN m) → Calls Tryz.prog 91 #[.pointer (some ⟨rb, 0, none⟩)] w fun e w' => e = .returned (.agg #[.int .i64 2, .string nm, .int .i64 so, .slice none 0 0, .int .i64 0]) ∧ RdB w' rb bsP (posN (m + 1)) ∧ w.grownBy w' (some rb) := by
 rcases h with rfl | rfl
 · exact ⟨⟨#[97]⟩, 1, 1, rfl, rfl, rfl, rfl, by omega, by omega, by omega, by omega, by omega, fun w h => head0_any h⟩
 · exact ⟨⟨#[110]⟩, 2, 0, rfl, rfl, rfl, rfl, by omega, by omega, by omega, by omega, by omega, fun w h => head1_any h⟩
theorem odd_st {m : Nat} (h : m = 1 ∨ m = 3) : ∃ (nm : ByteArray) (so l : Int) (x : Tm), secN m = [.int .i64 2, .string nm, .int .i64 so, .slice none 0 0, .int .i64 0] ∧ secN (m + 1) = [] ∧ leftN m = l ∧ leftN (m + 1) = l ∧ 0 ≤ l ∧ x = .mk 2 nm so [] ∧ tP.kids.take ((m + 1) / 2) = tP.kids.take (m / 2) ++ [x] ∧ posN (m + 1) = posN m ∧ 1 + m % 2 = 2 ∧ 1 + (m + 1) % 2 = 1 ∧ I64 so ∧ nm.size ≤ maxLen := by
 rcases h with rfl | rfl
 · exact ⟨⟨#[97]⟩, 1, 1, tA, rfl, rfl, rfl, rfl, by omega, rfl, rfl, rfl, by omega, by omega, by unfold I64; omega, by decide⟩
 · exact ⟨⟨#[110]⟩, 2, 0, tN, rfl, rfl, rfl, rfl, by omega, rfl, rfl, rfl, by omega, by omega, by unfold I64; omega, by decide⟩
theorem infNd : (Tryz.prog.info? 173).map (fun i => (i.zero, i.size, i.bytes)) = some (some (.agg #[.int .i64 0, .string ⟨#[]⟩, .int .i64 0, .slice none 0 0, .int .i64 0]), 5, 64) := by kernel_rfl
set_option maxRecDepth 100000 in
set_option maxHeartbeats 8000000 in
theorem termP_any {w : World} {rb : Nat} (h : RdB w rb bsP 0) :
 Calls Tryz.prog 58 #[.pointer (some ⟨rb, 0, none⟩)] w fun e w' => ∃ a c, e = .returned (.agg #[.int .i64 3, .string nPair, .int .i64 0, .slice a 2 c]) ∧ RdB w' rb bsP 7 ∧ w.grownBy w' (some rb) ∧ TmW w' (fun c => w.heap.size ≤ c) a c tP := by
 obtain ⟨rx, w1, hrx, hw1, HX, hE1⟩ := box_new w (.cells #[.int .i64 0, .string ⟨#[]⟩, .int .i64 0, .slice none 0 0] 77)
 have HE1 := Lib.hid hE1
 have HRS : Hid (rb < w.heap.size ∧ w.heap.size = rx ∧ rx < w1.heap.size) := Lib.hid ⟨h.lt, hrx.symm, (Array.getElem?_eq_some_iff.1 HX.out).1⟩
 have HP := Lib.hid (headP0_any (h.ext hE1))
 clear h hE1
 go_enter Tryz.func58, Tryz.ntmps58
 go_upto_region 1 with fail
 rw [← hw1, ← hrx]
 clear hw1 hrx
 go_wp2_with fail
 refine HP.out.mono ?_
 rintro e w2 ⟨rfl, hR2, hG2⟩
 obtain ⟨gb, w3, hgb, hw3, HGB, hE3⟩ := box_new w2 (.cells #[.int .i64 3, .string nPair, .int .i64 0, .slice none 0 0, .int .i64 2] 173)
 have HI : Hid (NdI w1 w3 rb w1.heap.size (.slice (some ⟨gb, 0, none⟩) 1 1) 0) := Lib.hid ⟨hR2.ext hE3, gr_trans hG2 (gr_ext hE3), .slice none 0 0, ⟨rfl, .inr ⟨gb, 1, _, rfl, by have := hG2.size; omega, HGB.out, Nat.le_refl _, by unfold maxLen; omega, rfl, rfl⟩⟩, OwnT.nil, fun c hc => by cases hc⟩
 clear hR2 hG2 hE3 HGB
 go_upto_region 2 with fail
 rw [← hw3, ← hgb]
 clear hw3 hgb
 go_loopw [3, 4, 5] (fun sv x4 x5 wr => ∃ m : Nat, m ≤ 4 ∧ Hid (NdI w1 wr rb w1.heap.size sv m)) (fun sv x4 x5 wr => muN sv wr)
 case atStart => exact ⟨0, by omega, HI⟩
 case round =>
  obtain ⟨m, hm, HI⟩ := hrel
  obtain ⟨V, hrow, hV, hne⟩ := HI.out.row
  have r2 : wr.cell? ⟨rb, 2, none⟩ = some (.bool false) := by rw [cellc HI.out.rd]; rfl
  obtain ⟨g, cap, cur, rfl, hgb, hnc, hcm, hgc, hat⟩ := row_at hrow (by omega)
  by_cases hev : m = 0 ∨ m = 2
  · obtain ⟨nm, so, l, h1, h2, h3, h4, h5, h6, h7, h8, h9, hHD⟩ := even_st hev (rb := rb)
    rw [h1, h8, List.append_nil] at hrow
    rw [h1, List.append_nil] at hat
    rw [h8] at hne hnc
    rw [h8]
    have g4 : wr.cell? ⟨g, 4, none⟩ = some (.int .i64 (l + 1)) := by rw [← h3]; exact hat 4 _ rfl
    have f4 : wr.frozen? ⟨g, 4, none⟩ = false := frozenc hgc
    have hl0 : (0 : Int) < l + 1 := by omega
    have hwl : IntKind.i64.wrap (l + 1 - 1) = l := by rw [IntKind.wrap_i64]; omega
    have hwl2 : IntKind.i64.wrap l = l := by rw [IntKind.wrap_i64]; omega
    have hb0 := h5
    have hb1 := h6
    have hrow2 := row_set (k := 4) (u := .int .i64 l) hrow (by omega)
    have hgr2 : Hid (w1.grownBy (wr.setCell ⟨g, 4, none⟩ (.int .i64 l)) (some rb)) := Lib.hid (gr_set2 HI.out.gr hgb)
    have hneg : g ≠ rb := by have := HRS.out; omega
    have HRD : Hid (RdB (wr.setCell ⟨g, 4, none⟩ (.int .i64 l)) rb bsP (posN m)) := Lib.hid (by unfold RdB; rw [heap_setCell_other _ _ _ _ (fun e => hneg e.symm)]; exact HI.out.rd)
    have hVk : OwnT (wr.setCell ⟨g, 4, none⟩ (.int .i64 l)) w1.heap.size (fun _ => False) V (tP.kids.take (m / 2)) := hV.keep (fun c hc => heap_setCell_other _ _ _ _ (fun e => hne c hc (by rw [e]; rfl))) (fun c h => absurd h id)
    have HLV := Lib.hid hV.lt
    have HNE := Lib.hid hne
    have HMU : Hid (muN (.slice (some ⟨g, 0, none⟩) 1 cap) wr = 2 * (l + 1).toNat) := Lib.hid (by show 2 * (intOf ((wr.cell? ⟨g, 4, none⟩).getD undef)).toNat + (1 - 1) = _; rw [g4]; rfl)
    have HST := Lib.hid (And.intro h2 (And.intro h4 (And.intro h5 (And.intro h6 (And.intro h7 h9)))))
    have HHD := Lib.hid hHD
    have HGB := Lib.hid hgb
    have HM3 : Hid (m ≤ 2) := Lib.hid (by omega)
    rw [h3] at hrow2
    have HROW := Lib.hid hrow2
    have HVK := Lib.hid hVk
    have hc63 := hcm
    unfold maxLen at hc63
    clear hV hVk hne hrow hrow2 hat hgc h1 h2 h3 h4 h5 h6 h7 h8 h9 hHD hgb hev hm HI hneg
    go_upto_region 6 with fail
    generalize hw4 : World.setCell wr _ _ = w4 at HRD hgr2 HROW HVK ⊢
    clear hw4 g4 f4 r2
    have HH4 := Lib.hid (HHD.out w4 HRD.out)
    go_wp2_with fail
    refine HH4.out.mono ?_
    rintro e w5 ⟨rfl, hR5, hG5⟩
    have hgb := HGB.out
    have hrs := HRS.out
    have hrow5 := HROW.out.kept hG5 (.inr (by show some g ≠ some rb; intro e; cases e; omega))
    have hV5 := HVK.out.keep (w' := w5) (fun c hc => hG5.block c (HVK.out.lt c hc).2 (fun e => by cases e; have := (HVK.out.lt _ hc).1; omega)) (fun c h => absurd h id)
    obtain ⟨xb, w6, hxb, hw6, HX6, hE6⟩ := box_new w5 (.cells #[.int .i64 2, .string nm, .int .i64 so, .slice none 0 0, .int .i64 0] 173)
    have HROW6 := Lib.hid (World.ownsRow.kept hrow5 (gr_ext (r := some rb) hE6) (.inr (by show some g ≠ some rb; intro e; cases e; omega)))
    have HV6 := Lib.hid (hV5.ext hE6)
    have HR6 := Lib.hid (hR5.ext hE6)
    have HG6 := Lib.hid (gr_trans hgr2.out (gr_trans hG5 (gr_ext hE6)))
    have HB6 : Hid (w1.heap.size ≤ w6.heap.size) := Lib.hid HG6.out.size
    have HNW : Hid (LsE elC w6 (fun _ => False) (.slice (some ⟨xb, 0, none⟩) 1 1) [[Value.int .i64 2, .string nm, .int .i64 so, .slice none 0 0, .int .i64 0]]) := Lib.hid (cells_lsE (P := [([Value.int .i64 2, .string nm, .int .i64 so, .slice none 0 0, .int .i64 0], [Value.int .i64 2, .string nm, .int .i64 so, .slice none 0 0, .int .i64 0])]) HX6.out rfl rfl rfl (by simp [maxLen]) (by intro p hp; simp at hp; subst hp; exact ⟨rfl, rfl, by intro u hu; simp at hu; rcases hu with rfl | rfl | rfl | rfl | rfl <;> rfl⟩))
    obtain ⟨ya, yc, hVs, -, -⟩ := id HV6.out.ls
    have HOG : Hid (OwnG elC w6 w1.heap.size 173 (fun _ => False) (.slice (some ⟨g, 0, none⟩) 1 cap) [[Value.int .i64 3, .string nPair, .int .i64 0, V, .int .i64 l]]) := Lib.hid (own_oneC HROW6.out (by intro u hu; simp at hu; rcases hu with rfl | rfl | rfl | rfl | rfl <;> first | rfl | (rw [hVs]; rfl)))
    clear hVs
    clear hrow5 hV5 hR5 hG5 hE6 HX6 hrs
    go_wp2_with (
     at_builtin
     rw [← hw6, ← hxb]
     refine wpList_appG (E := elC) (T := 173) rfl 175 (.tmp 31) (.tmp 34) rfl rfl rfl Tryz.underlying175 infNd rfl (by decide) (by decide) HOG.out HB6.out (fun c h => absurd h id) (by simp) (M := [[Value.int .i64 2, .string nm, .int .i64 so, .slice none 0 0, .int .i64 0]]) (by simp) HNW.out ?_
     intro v7 w7 o7 g7 k7
     have HROW7 : Hid (w7.ownsRow w1.heap.size 173 5 v7 2 ([.int .i64 3, .string nPair, .int .i64 0, V, .int .i64 l] ++ [.int .i64 2, .string nm, .int .i64 so, .slice none 0 0, .int .i64 0])) := Lib.hid (own_two o7)
     have hVne : ∀ c, V.ownBlock = some c → some c ≠ (Value.slice (some ⟨g, 0, none⟩) 1 cap).ownBlock := fun c hc e => HNE.out c hc e.symm
     have HV7 := Lib.hid (HV6.out.keep (w' := w7) (fun c hc => g7.block c (HV6.out.lt c hc).2 (hVne c hc)) (fun c h => absurd h id))
     have hrb7 : (some rb : Option Nat) ≠ (Value.slice (some ⟨g, 0, none⟩) 1 cap).ownBlock := fun e => by have e2 := Option.some.inj (show some rb = some g from e); have := HRS.out; have := HGB.out; omega
     have HR7 : Hid (RdB w7 rb bsP (posN (m + 1))) := Lib.hid ((g7.block rb HR6.out.lt hrb7).trans HR6.out)
     have HG7 : Hid (w1.grownBy w7 (some rb)) := Lib.hid ⟨g7.os.trans HG6.out.os, g7.tape.trans HG6.out.tape, g7.output.trans HG6.out.output, Nat.le_trans HG6.out.size g7.size, fun c hc hn => (g7.block c (Nat.lt_of_lt_of_le hc HG6.out.size) (fun e => by have e2 := Option.some.inj (show some c = some g from e); have := HGB.out; omega)).trans (HG6.out.block c hc hn)⟩
     have HNE7 : Hid (∀ c, V.ownBlock = some c → v7.ownBlock ≠ some c) := Lib.hid (fun c hc e => by
      rcases k7 with k8 | k8
      · rw [k8] at e; exact HNE.out c hc e
      · rw [k8] at e; cases e; exact absurd (HV6.out.lt _ hc).2 (Nat.lt_irrefl _))
     clear o7 g7 k7 hVne hrb7)
    go_roundw
    case rel => exact ⟨m + 1, by have := HM3.out; omega, Lib.hid ⟨HR7.out, HG7.out, V, by rw [HST.out.1, HST.out.2.1, HST.out.2.2.2.2.2]; exact HROW7.out, by rw [← HST.out.2.2.2.2.1]; exact HV7.out, HNE7.out⟩⟩
    case measure =>
     rw [HMU.out]
     obtain ⟨g', cap', cur', rfl, -, -, -, -, hat7⟩ := row_at HROW7.out (by omega)
     have h4 := hat7 4 (.int .i64 l) rfl
     show 2 * (intOf ((w7.cell? ⟨g', 4, none⟩).getD undef)).toNat + (2 - 1) < _
     rw [h4]
     show 2 * l.toNat + 1 < _
     omega
  · by_cases hm4 : m = 4
    · subst hm4
      replace hat : ∀ (k : Nat) u, [Value.int .i64 3, .string nPair, .int .i64 0, V, .int .i64 0][k]? = some u → wr.cell? ⟨g, k, none⟩ = some u := hat
      replace hV : OwnT wr w1.heap.size (fun _ => False) V tP.kids := hV
      obtain ⟨va, vc, rfl, -, hvc, -⟩ := id hV.ls
      have g0 : wr.cell? ⟨g, 0, none⟩ = some (.int .i64 3) := hat 0 _ rfl
      have g1 : wr.cell? ⟨g, 1, none⟩ = some (.string nPair) := hat 1 _ rfl
      have g2 : wr.cell? ⟨g, 2, none⟩ = some (.int .i64 0) := hat 2 _ rfl
      have g3 : wr.cell? ⟨g, 3, none⟩ = some (.slice va 2 vc) := hat 3 _ rfl
      have g4 : wr.cell? ⟨g, 4, none⟩ = some (.int .i64 0) := hat 4 _ rfl
      obtain ⟨yb, w4, hyb, hw4, HY, hE4⟩ := box_new wr (.cells #[.int .i64 3, .string nPair, .int .i64 0, .slice va 2 vc] 77)
      obtain ⟨y0, y1, y2, y3⟩ := box4r HY.out
      have hrs := HRS.out
      have hrx := hs_ext hE4 (gr_ne HI.out.gr HX.out (by omega))
      obtain ⟨x0, x1, x2, x3⟩ := box4r hrx
      have f0 : w4.frozen? ⟨rx, 0, none⟩ = false := frozenc hrx
      have f1 : w4.frozen? ⟨rx, 1, none⟩ = false := frozenc hrx
      have f2 : w4.frozen? ⟨rx, 2, none⟩ = false := frozenc hrx
      have f3 : w4.frozen? ⟨rx, 3, none⟩ = false := frozenc hrx
      have HRX := Lib.hid hrx
      have HR4 := Lib.hid (HI.out.rd.ext hE4)
      have HG4 := Lib.hid (gr_trans (gr_ext HE1.out) (gr_trans HI.out.gr (gr_ext hE4)))
      have HV4 := Lib.hid (hV.ext hE4)
      clear hat hV hrow hne hrx hE4 hrs hev hvc hnc hgc HI
      go_upto_region 8 with fail
      rw [← hw4, ← hyb]
      clear hw4 hyb g0 g1 g2 g3 g4 r2
      go_wp2_with fail
      have hrs := HRS.out
      have hne : ∀ c, c ≠ rx → (((((w4.setCell ⟨rx, 0, none⟩ (.int .i64 3)).setCell ⟨rx, 1, none⟩ (.string nPair)).setCell ⟨rx, 2, none⟩ (.int .i64 0)).setCell ⟨rx, 3, none⟩ (.slice va 2 vc)).heap[c]? : Option Obj) = w4.heap[c]? := fun c hc => by
       rw [heap_setCell_other _ _ _ _ hc, heap_setCell_other _ _ _ _ hc, heap_setCell_other _ _ _ _ hc, heap_setCell_other _ _ _ _ hc]
      refine ret_term (g := rx) rfl rfl (set4s_box _ _ _ _ HRX.out).1 rfl ⟨va, vc, rfl, (hne rb (by omega)).trans HR4.out, gr_set2 (gr_set2 (gr_set2 (gr_set2 HG4.out (by omega)) (by omega)) (by omega)) (by omega), ?_⟩
      have hO9 := HV4.out.keep (fun c hc => hne c (by have := (HV4.out.lt c hc).1; omega)) (fun c h => absurd h id)
      exact (tm_app (n := nPair) (by show (4 : Nat) ≤ 2 ^ 63 - 1; omega) (hO9.ls.wide (S' := fun c => w.heap.size ≤ c) (fun c h _ => absurd h id)) (fun b o e => by
       have := (hO9.lt b (by rw [e]; rfl)).1
       have := HE1.out.size
       show w.heap.size ≤ b
       omega)).2
    · obtain ⟨nm, so, l, x, h1, h2, h3, h4, h5, h6, h7, h8, h9, h10, h11, h12⟩ := odd_st (show m = 1 ∨ m = 3 by omega)
      rw [h1, h9, h3] at hrow
      rw [h1, h3] at hat
      rw [h9] at hne hnc
      rw [h9]
      have g5 : wr.cell? ⟨g, 5, none⟩ = some (.int .i64 2) := hat 5 _ rfl
      have g6 : wr.cell? ⟨g, 6, none⟩ = some (.string nm) := hat 6 _ rfl
      have g7 : wr.cell? ⟨g, 7, none⟩ = some (.int .i64 so) := hat 7 _ rfl
      have g8 : wr.cell? ⟨g, 8, none⟩ = some (.slice none 0 0) := hat 8 _ rfl
      have g9 : wr.cell? ⟨g, 9, none⟩ = some (.int .i64 0) := hat 9 _ rfl
      obtain ⟨va, vc, hVs, -, -, -⟩ := id hV.ls
      subst hVs
      obtain ⟨n1, hn1⟩ : ∃ n1, n1 = (tP.kids.take (m / 2)).length := ⟨_, rfl⟩
      rw [← hn1] at hrow hat hV hne
      have HN1 : Hid (n1 = (tP.kids.take (m / 2)).length) := Lib.hid hn1
      clear hn1
      have HSO : Hid (I64 so) := Lib.hid h11
      have HNMZ : Hid (nm.size ≤ maxLen) := Lib.hid h12
      have HG3 : Hid (wr.cell? ⟨g, 3, none⟩ = some (.slice va n1 vc)) := Lib.hid (hat 3 _ rfl)
      obtain ⟨yb, w4, hyb, hw4, HY, hE4⟩ := box_new wr (.cells #[.int .i64 2, .string nm, .int .i64 so, .slice none 0 0] 77)
      obtain ⟨y0, y1, y2, y3⟩ := box4r HY.out
      have hc63 := hcm
      unfold maxLen at hc63
      have HROW := Lib.hid (row_take (m := 1) hrow (by omega))
      have HST := Lib.hid (And.intro h2 (And.intro h4 (And.intro h5 (And.intro h6 (And.intro h7 (And.intro h8 h10))))))
      have HV := Lib.hid hV
      have HNE := Lib.hid hne
      have HRW := Lib.hid HI.out.rd
      have HGW := Lib.hid HI.out.gr
      have HE4 := Lib.hid hE4
      have HYB : Hid (wr.heap.size = yb) := Lib.hid (by first | exact hyb | exact hyb.symm)
      have HGB := Lib.hid hgb
      have HM3 : Hid (m ≤ 3) := Lib.hid (by omega)
      have HGCUR := Lib.hid hgc
      have HMU : Hid (muN (.slice (some ⟨g, 0, none⟩) 2 cap) wr = 2 * l.toNat + 1) := Lib.hid (by
       show 2 * (intOf ((wr.cell? ⟨g, 4, none⟩).getD undef)).toNat + (2 - 1) = _; rw [hat 4 _ rfl]; rfl)
      clear hat hrow hV hne hE4 h1 h2 h3 h4 h5 h6 h7 h8 h9 h10 h11 h12 hev hm4 hm HI hgc hgb
      go_upto_region 8 with fail
      rw [← hw4, ← hyb]
      clear hw4 hyb g5 g6 g7 g8 g9 r2
      go_upto_region 11 with fail
      go_region
      · go_wp2_with fail
        generalize hw5 : World.drew (World.alloc w4 _) = w5
        have hE5 : Ext w4 w5 := by rw [← hw5]; exact (Ext.alloc _ _).trans (Ext.drew _)
        clear hw5
        have HROW5 := Lib.hid (World.ownsRow.kept HROW.out (gr_ext (r := some rb) (HE4.out.trans hE5)) (.inr (by show some g ≠ some rb; intro e; have e2 := Option.some.inj e; have := HGB.out; have := HRS.out; omega)))
        have g3 : w5.cell? ⟨g, 3, none⟩ = some (.slice va n1 vc) := cs_ext (HE4.out.trans hE5) HG3.out
        obtain ⟨y0, y1, y2, y3⟩ := cs_e4 hE5 ⟨y0, y1, y2, y3⟩
        have hwz : IntKind.i64.wrap 0 = 0 := by rw [IntKind.wrap_i64]; omega
        have HV5 := Lib.hid (HV.out.ext (HE4.out.trans hE5))
        have a3 := cs_al (o := .cells #[.int .i64 2, .string nm, .int .i64 so, .slice none 0 0] 77) g3
        have z0 := cs_al (o := .cells #[.int .i64 2, .string nm, .int .i64 so, .slice none 0 0] 77) y0
        have HROWX := Lib.hid (fun (w' : World) (hE : Ext w5 w') => World.ownsRow.kept HROW5.out (gr_ext (r := some rb) hE) (.inr (by show some g ≠ some rb; intro e; have e2 := Option.some.inj e; have := HGB.out; have := HRS.out; omega)))
        have HVX := Lib.hid (fun (w' : World) (hE : Ext w5 w') => HV5.out.ext hE)
        have HGX := Lib.hid (fun (w' : World) (hE : Ext w5 w') => gr_trans HGW.out (gr_ext (HE4.out.trans (hE5.trans hE))))
        have HL1 : Hid ((tP.kids.take (m / 2)).length ≤ 1000000) := Lib.hid (by rw [List.length_take]; have : tP.kids.length = 2 := rfl; omega)
        have HLX : Hid (∀ wz : World, LsT (wz.alloc (.cells #[.int .i64 2, .string nm, .int .i64 so, .slice none 0 0] 77)) (fun _ => False) (.slice (some ⟨wz.heap.size, 0, none⟩) 1 1) [x]) := Lib.hid (fun wz => by
         rw [HST.out.2.2.2.1]
         exact one_ls (t := .mk 2 nm so []) hs_new ⟨(by unfold I64; exact ⟨by decide, by decide⟩ : I64 2), HSO.out, HNMZ.out, Nat.le_refl _, by unfold maxLen; omega, 0, 0, fun h => absurd rfl h, fun i t h => by cases h⟩)
        go_region_law (refine step_appT rfl (.tmp 76) (.tmp 78) rfl rfl rfl (HVX.out _ (by repeat (first | exact Ext.refl _ | exact Ext.alloc _ _ | apply Ext.then_dr | apply Ext.then_drN | apply Ext.then_drN2 | (refine Ext.then_al ?_ _)))) (HGX.out _ (by repeat (first | exact Ext.refl _ | exact Ext.alloc _ _ | apply Ext.then_dr | apply Ext.then_drN | apply Ext.then_drN2 | (refine Ext.then_al ?_ _)))).size (fun c h => absurd h id) HL1.out (X := [x]) (by simp) (by first | exact HLX.out _ | exact (HLX.out _).ext (Ext.drew _)) ?_
                       intro v8 w8 o8 g8 k8
                       have hgne : (Value.slice (some ⟨g, 0, none⟩) 1 cap).ownBlock ≠ (Value.slice va n1 vc).ownBlock := (fun e => HNE.out g e.symm rfl)
                       have row8 := World.ownsRow.kept (HROWX.out _ (show Ext w5 _ from (by repeat (first | exact Ext.refl _ | exact Ext.alloc _ _ | apply Ext.then_dr | apply Ext.then_drN | apply Ext.then_drN2 | (refine Ext.then_al ?_ _))))) g8 (.inr hgne)
                       have gr8 : w1.grownBy w8 (some rb) := ⟨g8.os.trans (HGX.out _ (show Ext w5 _ from (by repeat (first | exact Ext.refl _ | exact Ext.alloc _ _ | apply Ext.then_dr | apply Ext.then_drN | apply Ext.then_drN2 | (refine Ext.then_al ?_ _))))).os, g8.tape.trans (HGX.out _ (show Ext w5 _ from (by repeat (first | exact Ext.refl _ | exact Ext.alloc _ _ | apply Ext.then_dr | apply Ext.then_drN | apply Ext.then_drN2 | (refine Ext.then_al ?_ _))))).tape, g8.output.trans (HGX.out _ (show Ext w5 _ from (by repeat (first | exact Ext.refl _ | exact Ext.alloc _ _ | apply Ext.then_dr | apply Ext.then_drN | apply Ext.then_drN2 | (refine Ext.then_al ?_ _))))).output, Nat.le_trans (HGX.out _ (show Ext w5 _ from (by repeat (first | exact Ext.refl _ | exact Ext.alloc _ _ | apply Ext.then_dr | apply Ext.then_drN | apply Ext.then_drN2 | (refine Ext.then_al ?_ _))))).size g8.size, (fun c hc hn => (g8.block c (Nat.lt_of_lt_of_le hc (HGX.out _ (show Ext w5 _ from (by repeat (first | exact Ext.refl _ | exact Ext.alloc _ _ | apply Ext.then_dr | apply Ext.then_drN | apply Ext.then_drN2 | (refine Ext.then_al ?_ _))))).size) (fun e => by have := (HVX.out _ (show Ext w5 _ from (by repeat (first | exact Ext.refl _ | exact Ext.alloc _ _ | apply Ext.then_dr | apply Ext.then_drN | apply Ext.then_drN2 | (refine Ext.then_al ?_ _))))).lt c e.symm; omega)).trans ((HGX.out _ (show Ext w5 _ from (by repeat (first | exact Ext.refl _ | exact Ext.alloc _ _ | apply Ext.then_dr | apply Ext.then_drN | apply Ext.then_drN2 | (refine Ext.then_al ?_ _))))).block c hc hn))⟩
                       obtain ⟨v8a, v8c, hv8, -, -, -⟩ := id o8.ls
                       subst hv8
                       obtain ⟨m8, hm8⟩ : ∃ m8, m8 = (tP.kids.take (m / 2) ++ [x]).length := ⟨_, rfl⟩
                       rw [← hm8] at o8 k8
                       rw [← hm8]
                       have c3 : w8.cell? ⟨g, 3, none⟩ = some (.slice va n1 vc) := g8.cell (cs_ext (show Ext w5 _ from (by repeat (first | exact Ext.refl _ | exact Ext.alloc _ _ | apply Ext.then_dr | apply Ext.then_drN | apply Ext.then_drN2 | (refine Ext.then_al ?_ _)))) g3) hgne
                       obtain ⟨gx, cx, ux, hgx, -, -, -, hgcx, -⟩ := row_at row8 (by omega)
                       cases hgx
                       have f3 : w8.frozen? ⟨g, 3, none⟩ = false := frozenc hgcx
                       have HROW9 := Lib.hid (row_set (k := 3) (u := .slice v8a m8 v8c) row8 (by omega))
                       have HG9 := Lib.hid (gr_set2 (rx := g) (o := 3) (v := .slice v8a m8 v8c) gr8 HGB.out)
                       have hglt : g < w4.heap.size := (Nat.lt_of_lt_of_le (Array.getElem?_eq_some_iff.1 (show wr.heap[g]? = some (.cells cur 173) from HGCUR.out)).1 HE4.out.size)
                       have hlt5 : w4.heap.size ≤ w5.heap.size := hE5.size
                       have hq8 : ∀ c, (Value.slice v8a m8 v8c).ownBlock = some c → c ≠ g := (fun c hc e => by
                        rcases k8 with k9 | k9
                        · rw [k9] at hc; rw [e] at hc; exact HNE.out g hc rfl
                        · rw [k9] at hc
                          have e2 := Option.some.inj hc
                          have hh : w5.heap.size ≤ c := (by rw [← e2]; exact Ext.size (by repeat (first | exact Ext.refl _ | exact Ext.alloc _ _ | apply Ext.then_dr | apply Ext.then_drN | apply Ext.then_drN2 | (refine Ext.then_al ?_ _))))
                          omega)
                       have HO9 : Hid (OwnT (w8.setCell ⟨g, 3, none⟩ (.slice v8a m8 v8c)) w1.heap.size (fun _ => False) (.slice v8a m8 v8c) (tP.kids.take (m / 2) ++ [x])) := Lib.hid (o8.keep (fun c hc => heap_setCell_other _ _ _ _ (hq8 c hc)) (fun c h => absurd h id))
                       have HNE9 : Hid (∀ c, (Value.slice v8a m8 v8c).ownBlock = some c → (Value.slice (some ⟨g, 0, none⟩) 1 cap).ownBlock ≠ some c) := Lib.hid (fun c hc e => hq8 c hc (Option.some.inj (show some g = some c from e)).symm)
                       have HR9 : Hid (RdB (w8.setCell ⟨g, 3, none⟩ (.slice v8a m8 v8c)) rb bsP (posN m)) := Lib.hid (by
                        have hrs := HRS.out
                        have hgb := HGB.out
                        unfold RdB
                        rw [heap_setCell_other _ _ _ _ (show rb ≠ g by omega)]
                        exact (g8.block rb (Nat.lt_of_lt_of_le HRW.out.lt (Nat.le_trans HE4.out.size (Nat.le_trans hE5.size (Ext.size (show Ext w5 _ from (by repeat (first | exact Ext.refl _ | exact Ext.alloc _ _ | apply Ext.then_dr | apply Ext.then_drN | apply Ext.then_drN2 | (refine Ext.then_al ?_ _)))))))) (fun e => by have := (HV.out.lt rb e.symm).1; omega)).trans (HRW.out.ext (HE4.out.trans (hE5.trans (show Ext w5 _ from (by repeat (first | exact Ext.refl _ | exact Ext.alloc _ _ | apply Ext.then_dr | apply Ext.then_drN | apply Ext.then_drN2 | (refine Ext.then_al ?_ _))))))))
                       clear o8 row8 gr8 hgcx hm8 hq8 hglt hlt5)
        all_goals
         (try simp only [Act.put, List.getElem_cons_succ, List.getElem_cons_zero])
         (try go_simp)
         go_roundw
         case rel =>
          repeat apply Exists.intro
          refine ⟨?_, rfl⟩
          exact ⟨m + 1, by have := HM3.out; omega, Lib.hid ⟨by rw [HST.out.2.2.2.2.2.1]; exact HR9.out, HG9.out, _, by rw [HST.out.1, HST.out.2.1, HST.out.2.2.2.2.2.2, List.append_nil]; exact HROW9.out, by rw [HST.out.2.2.2.2.1]; exact HO9.out, HNE9.out⟩⟩
         case measure =>
          show muN (.slice (some ⟨g, 0, none⟩) 1 cap) _ < muN (.slice (some ⟨g, 0, none⟩) 2 cap) wr
          rw [HMU.out]
          obtain ⟨gx, cx, ux, hgx, -, -, -, -, hat9⟩ := row_at HROW9.out (by omega)
          cases hgx
          have h4 := hat9 4 (.int .i64 l) rfl
          show 2 * (intOf (((World.setCell w8 ⟨g, 3, none⟩ (.slice v8a m8 v8c)).cell? ⟨g, 4, none⟩).getD undef)).toNat + (1 - 1) < _
          rw [h4]
          show 2 * l.toNat + 0 < 2 * l.toNat + 1
          omega
      · go_wp2_with fail
        generalize hw5 : World.drew (World.alloc w4 _) = w5
        have hE5 : Ext w4 w5 := by rw [← hw5]; exact (Ext.alloc _ _).trans (Ext.drew _)
        clear hw5
        have HROW5 := Lib.hid (World.ownsRow.kept HROW.out (gr_ext (r := some rb) (HE4.out.trans hE5)) (.inr (by show some g ≠ some rb; intro e; have e2 := Option.some.inj e; have := HGB.out; have := HRS.out; omega)))
        have g3 : w5.cell? ⟨g, 3, none⟩ = some (.slice va n1 vc) := cs_ext (HE4.out.trans hE5) HG3.out
        obtain ⟨y0, y1, y2, y3⟩ := cs_e4 hE5 ⟨y0, y1, y2, y3⟩
        have hwz : IntKind.i64.wrap 0 = 0 := by rw [IntKind.wrap_i64]; omega
        have HV5 := Lib.hid (HV.out.ext (HE4.out.trans hE5))
        have a3 := cs_al (o := .cells #[.int .i64 0, .string ⟨#[]⟩, .int .i64 0, .slice none 0 0] 77) g3
        have z0 := cs_al (o := .cells #[.int .i64 0, .string ⟨#[]⟩, .int .i64 0, .slice none 0 0] 77) y0
        have z1 := cs_al (o := .cells #[.int .i64 0, .string ⟨#[]⟩, .int .i64 0, .slice none 0 0] 77) y1
        have z2 := cs_al (o := .cells #[.int .i64 0, .string ⟨#[]⟩, .int .i64 0, .slice none 0 0] 77) y2
        have z3 := cs_al (o := .cells #[.int .i64 0, .string ⟨#[]⟩, .int .i64 0, .slice none 0 0] 77) y3
        have HROWX := Lib.hid (fun (w' : World) (hE : Ext w5 w') => World.ownsRow.kept HROW5.out (gr_ext (r := some rb) hE) (.inr (by show some g ≠ some rb; intro e; have e2 := Option.some.inj e; have := HGB.out; have := HRS.out; omega)))
        have HVX := Lib.hid (fun (w' : World) (hE : Ext w5 w') => HV5.out.ext hE)
        have HGX := Lib.hid (fun (w' : World) (hE : Ext w5 w') => gr_trans HGW.out (gr_ext (HE4.out.trans (hE5.trans hE))))
        have HYX := Lib.hid (fun (w' : World) (hE : Ext w5 w') => hs_ext (hE5.trans hE) HY.out)
        have HL1 : Hid ((tP.kids.take (m / 2)).length ≤ 1000000) := Lib.hid (by rw [List.length_take]; have : tP.kids.length = 2 := rfl; omega)
        have HLX : Hid (∀ wz : World, LsT (wz.alloc (.cells #[.int .i64 0, .string ⟨#[]⟩, .int .i64 0, .slice none 0 0] 77)) (fun _ => False) (.slice (some ⟨wz.heap.size, 0, none⟩) 1 1) [.mk 0 ⟨#[]⟩ 0 []]) := Lib.hid (fun wz => one_ls (t := .mk 0 ⟨#[]⟩ 0 []) hs_new (tm_nil (by unfold I64; omega) (by unfold I64; omega) (by decide)))
        go_region_law (refine step_appT rfl (.tmp 58) (.tmp 61) rfl rfl rfl (HVX.out _ (by repeat (first | exact Ext.refl _ | exact Ext.alloc _ _ | apply Ext.then_dr | apply Ext.then_drN | apply Ext.then_drN2 | (refine Ext.then_al ?_ _)))) (HGX.out _ (by repeat (first | exact Ext.refl _ | exact Ext.alloc _ _ | apply Ext.then_dr | apply Ext.then_drN | apply Ext.then_drN2 | (refine Ext.then_al ?_ _)))).size (fun c h => absurd h id) HL1.out (X := [.mk 0 ⟨#[]⟩ 0 []]) (by simp) (by first | exact HLX.out _ | exact (HLX.out _).ext (Ext.drew _)) ?_
                       intro v8 w8 o8 g8 k8
                       have hgne : (Value.slice (some ⟨g, 0, none⟩) 1 cap).ownBlock ≠ (Value.slice va n1 vc).ownBlock := (fun e => HNE.out g e.symm rfl)
                       have row8 := World.ownsRow.kept (HROWX.out _ (show Ext w5 _ from (by repeat (first | exact Ext.refl _ | exact Ext.alloc _ _ | apply Ext.then_dr | apply Ext.then_drN | apply Ext.then_drN2 | (refine Ext.then_al ?_ _))))) g8 (.inr hgne)
                       have gr8 : w1.grownBy w8 (some rb) := ⟨g8.os.trans (HGX.out _ (show Ext w5 _ from (by repeat (first | exact Ext.refl _ | exact Ext.alloc _ _ | apply Ext.then_dr | apply Ext.then_drN | apply Ext.then_drN2 | (refine Ext.then_al ?_ _))))).os, g8.tape.trans (HGX.out _ (show Ext w5 _ from (by repeat (first | exact Ext.refl _ | exact Ext.alloc _ _ | apply Ext.then_dr | apply Ext.then_drN | apply Ext.then_drN2 | (refine Ext.then_al ?_ _))))).tape, g8.output.trans (HGX.out _ (show Ext w5 _ from (by repeat (first | exact Ext.refl _ | exact Ext.alloc _ _ | apply Ext.then_dr | apply Ext.then_drN | apply Ext.then_drN2 | (refine Ext.then_al ?_ _))))).output, Nat.le_trans (HGX.out _ (show Ext w5 _ from (by repeat (first | exact Ext.refl _ | exact Ext.alloc _ _ | apply Ext.then_dr | apply Ext.then_drN | apply Ext.then_drN2 | (refine Ext.then_al ?_ _))))).size g8.size, (fun c hc hn => (g8.block c (Nat.lt_of_lt_of_le hc (HGX.out _ (show Ext w5 _ from (by repeat (first | exact Ext.refl _ | exact Ext.alloc _ _ | apply Ext.then_dr | apply Ext.then_drN | apply Ext.then_drN2 | (refine Ext.then_al ?_ _))))).size) (fun e => by have := (HVX.out _ (show Ext w5 _ from (by repeat (first | exact Ext.refl _ | exact Ext.alloc _ _ | apply Ext.then_dr | apply Ext.then_drN | apply Ext.then_drN2 | (refine Ext.then_al ?_ _))))).lt c e.symm; omega)).trans ((HGX.out _ (show Ext w5 _ from (by repeat (first | exact Ext.refl _ | exact Ext.alloc _ _ | apply Ext.then_dr | apply Ext.then_drN | apply Ext.then_drN2 | (refine Ext.then_al ?_ _))))).block c hc hn))⟩
                       obtain ⟨g8b, v8c, hv8, hb8, -, -⟩ := ownSomeJ o8 (by simp)
                       subst hv8
                       have hm8 : (tP.kids.take (m / 2) ++ [Tm.mk 0 ⟨#[]⟩ 0 []]).length = n1 + 1 := (by rw [List.length_append, ← HN1.out]; rfl)
                       rw [hm8] at o8 k8
                       rw [hm8]
                       have c3 : w8.cell? ⟨g, 3, none⟩ = some (.slice va n1 vc) := g8.cell (cs_ext (show Ext w5 _ from (by repeat (first | exact Ext.refl _ | exact Ext.alloc _ _ | apply Ext.then_dr | apply Ext.then_drN | apply Ext.then_drN2 | (refine Ext.then_al ?_ _)))) g3) hgne
                       obtain ⟨gx, cx, ux, hgx, -, -, -, hgcx, -⟩ := row_at row8 (by omega)
                       cases hgx
                       have f3 : w8.frozen? ⟨g, 3, none⟩ = false := frozenc hgcx
                       have HY8 : w8.heap[yb]? = some (.cells #[.int .i64 2, .string nm, .int .i64 so, .slice none 0 0] 77) := (g8.block yb (Array.getElem?_eq_some_iff.1 (HYX.out _ (show Ext w5 _ from (by repeat (first | exact Ext.refl _ | exact Ext.alloc _ _ | apply Ext.then_dr | apply Ext.then_drN | apply Ext.then_drN2 | (refine Ext.then_al ?_ _)))))).1 (fun e => by have := (HV.out.lt yb e.symm).2; have := HYB.out; omega)).trans (HYX.out _ (show Ext w5 _ from (by repeat (first | exact Ext.refl _ | exact Ext.alloc _ _ | apply Ext.then_dr | apply Ext.then_drN | apply Ext.then_drN2 | (refine Ext.then_al ?_ _)))))
                       have HY9 : (w8.setCell ⟨g, 3, none⟩ (.slice (some ⟨g8b, 0, none⟩) (n1 + 1 : Nat) v8c)).heap[yb]? = some (.cells #[.int .i64 2, .string nm, .int .i64 so, .slice none 0 0] 77) := (heap_setCell_other _ _ _ _ (fun e => by have e2 : yb = g := e; have := HYB.out; have := (Array.getElem?_eq_some_iff.1 (show wr.heap[g]? = some (.cells cur 173) from HGCUR.out)).1; omega)).trans HY8
                       obtain ⟨p0, p1, p2, p3⟩ := box4r HY8
                       obtain ⟨q0, q1, q2, q3⟩ := box4r HY9
                       have HROW9 := Lib.hid (row_set (k := 3) (u := .slice (some ⟨g8b, 0, none⟩) (n1 + 1 : Nat) v8c) row8 (by omega))
                       have HG9 := Lib.hid (gr_set2 (rx := g) (o := 3) (v := .slice (some ⟨g8b, 0, none⟩) (n1 + 1 : Nat) v8c) gr8 HGB.out)
                       have hglt : g < w4.heap.size := (Nat.lt_of_lt_of_le (Array.getElem?_eq_some_iff.1 (show wr.heap[g]? = some (.cells cur 173) from HGCUR.out)).1 HE4.out.size)
                       have hlt5 : w4.heap.size ≤ w5.heap.size := hE5.size
                       have hq8 : g8b ≠ g := (fun e => by
                        rcases k8 with k9 | k9
                        · exact HNE.out g (k9.symm.trans (by rw [← e]; rfl)) rfl
                        · have e2 := Option.some.inj (show some g8b = some _ from k9)
                          have hh : w5.heap.size ≤ g8b := (by rw [e2]; exact Ext.size (by repeat (first | exact Ext.refl _ | exact Ext.alloc _ _ | apply Ext.then_dr | apply Ext.then_drN | apply Ext.then_drN2 | (refine Ext.then_al ?_ _))))
                          omega)
                       have HQ8 := Lib.hid hq8
                       have HO9 : Hid (OwnT (w8.setCell ⟨g, 3, none⟩ (.slice (some ⟨g8b, 0, none⟩) (n1 + 1 : Nat) v8c)) w1.heap.size (fun _ => False) (.slice (some ⟨g8b, 0, none⟩) (n1 + 1 : Nat) v8c) (tP.kids.take (m / 2) ++ [Tm.mk 0 ⟨#[]⟩ 0 []])) := Lib.hid (o8.keep (fun c hc => heap_setCell_other _ _ _ _ (fun e => hq8 (Option.some.inj (show some g8b = some g from hc.trans (by rw [e]))))) (fun c h => absurd h id))
                       have HR9 : Hid (RdB (w8.setCell ⟨g, 3, none⟩ (.slice (some ⟨g8b, 0, none⟩) (n1 + 1 : Nat) v8c)) rb bsP (posN m)) := Lib.hid (by
                        have hrs := HRS.out
                        have hgb := HGB.out
                        unfold RdB
                        rw [heap_setCell_other _ _ _ _ (show rb ≠ g by omega)]
                        exact (g8.block rb (Nat.lt_of_lt_of_le HRW.out.lt (Nat.le_trans HE4.out.size (Nat.le_trans hE5.size (Ext.size (show Ext w5 _ from (by repeat (first | exact Ext.refl _ | exact Ext.alloc _ _ | apply Ext.then_dr | apply Ext.then_drN | apply Ext.then_drN2 | (refine Ext.then_al ?_ _)))))))) (fun e => by have := (HV.out.lt rb e.symm).1; omega)).trans (HRW.out.ext (HE4.out.trans (hE5.trans (show Ext w5 _ from (by repeat (first | exact Ext.refl _ | exact Ext.alloc _ _ | apply Ext.then_dr | apply Ext.then_drN | apply Ext.then_drN2 | (refine Ext.then_al ?_ _))))))))
                       clear o8 row8 gr8 hgcx hm8 hq8 hglt hlt5 HY8 HY9 g8 k8)
        all_goals
         (try simp only [Act.put, List.getElem_cons_succ, List.getElem_cons_zero])
         (try go_simp)
         generalize hw9 : World.setCell w8 ⟨g, 3, none⟩ _ = w9 at HROW9 HG9 HO9 HR9 ⊢
         clear hw9 p0 p1 p2 p3 q0 q1 q2 q3 c3 f3 y0 y1 y2 y3 z0 z1 z2 z3 a3 g3 hgne
         obtain ⟨ea, ec, d0, d1, d2, d3, -, fz⟩ := OwnT.cells4J (k := n1) HO9.out (t := .mk 0 ⟨#[]⟩ 0 []) (by rw [HN1.out, List.getElem?_append_right (Nat.le_refl _), Nat.sub_self]; rfl)
         have e0 := fz (n1 * 4)
         have e1 := fz (n1 * 4 + 1)
         have e2 := fz (n1 * 4 + 2)
         have e3 := fz (n1 * 4 + 3)
         clear fz
         have hn1 : (n1 : Int) < ((n1 + 1 : Nat) : Int) := by omega
         have hn0 : (0 : Int) ≤ (n1 : Int) := by omega
         go_wp2_with fail
         have hT10 : TmW w9 (fun _ => False) none 0 (.mk 2 nm so []) := tm_nil (by unfold I64; omega) HSO.out HNMZ.out
         obtain ⟨hO10, hG10⟩ := OwnT.set4J (k := n1) (t := .mk 2 nm so []) HO9.out (by rw [List.length_append, ← HN1.out]; exact Nat.lt_succ_self _) hT10 (fun c h => absurd h id)
         have hset : (tP.kids.take (m / 2) ++ [Tm.mk 0 ⟨#[]⟩ 0 []]).set n1 (.mk 2 nm so []) = tP.kids.take (m / 2) ++ [x] := by
          rw [List.set_append_right _ _ (by rw [HN1.out]; exact Nat.le_refl _), ← HN1.out, Nat.sub_self, HST.out.2.2.2.1]; rfl
         rw [hset] at hO10
         replace hO10 : OwnT ((((w9.setCell ⟨g8b, n1 * 4, none⟩ (.int .i64 2)).setCell ⟨g8b, n1 * 4 + 1, none⟩ (.string nm)).setCell ⟨g8b, n1 * 4 + 2, none⟩ (.int .i64 so)).setCell ⟨g8b, n1 * 4 + 3, none⟩ (.slice none 0 0)) w1.heap.size (fun _ => False) (.slice (some ⟨g8b, 0, none⟩) (n1 + 1 : Nat) v8c) (tP.kids.take (m / 2) ++ [x]) := hO10
         replace hG10 : w9.grownBy ((((w9.setCell ⟨g8b, n1 * 4, none⟩ (.int .i64 2)).setCell ⟨g8b, n1 * 4 + 1, none⟩ (.string nm)).setCell ⟨g8b, n1 * 4 + 2, none⟩ (.int .i64 so)).setCell ⟨g8b, n1 * 4 + 3, none⟩ (.slice none 0 0)) (some g8b) := hG10
         generalize hw10 : World.setCell (World.setCell (World.setCell (World.setCell w9 _ _) _ _) _ _) _ _ = w10 at hO10 hG10 ⊢
         clear hw10
         have hq8 := HQ8.out
         have hrs := HRS.out
         have hgb := HGB.out
         have row10 := World.ownsRow.kept HROW9.out hG10 (.inr (fun e => hq8 (Option.some.inj (show some g = some g8b from e)).symm))
         have hr10 : RdB w10 rb bsP (posN m) := (hG10.block rb HR9.out.lt (fun e => by have e2 := Option.some.inj e; omega)).trans HR9.out
         have gr10 : w1.grownBy w10 (some rb) := ⟨hG10.os.trans HG9.out.os, hG10.tape.trans HG9.out.tape, hG10.output.trans HG9.out.output, Nat.le_trans HG9.out.size hG10.size, (fun c hc hn => (hG10.block c (Nat.lt_of_lt_of_le hc HG9.out.size) (fun e => by have e2 := Option.some.inj e; omega)).trans (HG9.out.block c hc hn))⟩
         refine ⟨⟨m + 1, by have := HM3.out; omega, Lib.hid ⟨by rw [HST.out.2.2.2.2.2.1]; exact hr10, gr10, .slice (some ⟨g8b, 0, none⟩) (n1 + 1 : Nat) v8c, by rw [HST.out.1, HST.out.2.1, HST.out.2.2.2.2.2.2, List.append_nil]; exact row10, by rw [HST.out.2.2.2.2.1]; exact hO10, fun c hc e => hq8 ((Option.some.inj (show some g8b = some c from hc)).trans (Option.some.inj (show some g = some c from e)).symm)⟩⟩, ?_⟩
         rw [HMU.out]
         obtain ⟨gx, cx, ux, hgx, -, -, -, -, hat9⟩ := row_at row10 (by omega)
         cases hgx
         have h4 := hat9 4 (.int .i64 l) rfl
         show 2 * (intOf ((w10.cell? ⟨g, 4, none⟩).getD undef)).toNat + (1 - 1) < _
         rw [h4]
         show 2 * l.toNat + 0 < 2 * l.toNat + 1
         omega
end Go.Proofs.YtfaienbdebjfcaaGreat
