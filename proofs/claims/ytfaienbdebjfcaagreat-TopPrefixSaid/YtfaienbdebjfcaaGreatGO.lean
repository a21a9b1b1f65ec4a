/- Contracts: product, text, Common. Strings that belong to a format (plain); All. -/
import Derived.Test.YtfaienbdebjfcaaGreatGN
import Derived.Laws.IdiomStrings
namespace Go.Proofs.YtfaienbdebjfcaaGreat
open Go Go.RowKit
open Go.Maps (Keyed)
set_option linter.unusedVariables false
set_option linter.unusedSimpArgs false
set_option linter.unusedSectionVars false

/-- what the search through the pairs of two formats answers -/
def ProductR (w w' : World) (t : List Fmt) (a : Option Addr) (cap : Nat) (i j : Int) (p : Value) (er : Int) : Prop :=
 (errS t [i, j] ≠ 0 ∧ p = .pointer none ∧ er = errS t [i, j]) ∨ (errS t [i, j] = 0 ∧ ∃ (i' j' : Nat) (fm gm : Fmt), i = i' ∧ j = j' ∧ t[i']? = some fm ∧ t[j']? = some gm ∧ VFmt t fm ∧ VFmt t gm ∧ ExploreR w w' (.slice a t.length cap) i' j' (stP t fm.fields gm.fields) p er)

theorem ExploreR.lower {w0 w w' : World} {tv : Value} {i j : Nat} {f : Int × Int → Nat → Option (Int × Int)} {p : Value} {er : Int} (h : ExploreR w w' tv i j f p er) (hE : Ext w0 w) : ExploreR w0 w' tv i j f p er := by
 rcases h with h | ⟨gs, mb, pv, wv, L, Ws, h1, h2, h3, h4, h5, h6⟩
 · exact .inl h
 · exact .inr ⟨gs, mb, pv, wv, L, Ws, h1, h2, h3, h4, h5, h6.lower hE⟩

set_option maxRecDepth 100000 in
set_option maxHeartbeats 1000000 in
theorem product_any {w : World} {B : Nat} {a : Option Addr} {t : List Fmt} {cap : Nat} {i j : Int} (hT : TabA w B a t) (hB : B ≤ w.heap.size) (hcap : t.length ≤ cap) (hcap2 : cap ≤ 9223372036854775807) :
 Calls Tryz.prog 41 #[.slice a t.length cap, .int .i64 i, .int .i64 j] w fun e w' => ∃ p er, e = .returned (.tuple #[p, .int .i64 er]) ∧ Ext w w' ∧ ProductR w w' t a cap i j p er := by
 obtain ⟨v0, hv0⟩ : ∃ v0, v0 = errS t [i, j] := ⟨_, rfl⟩
 have HV0 := Lib.hid hv0
 have hcon := two_any (i := i) (j := j) hT hB hcap hcap2
 rw [← hv0] at hcon
 clear hv0
 go_enter Tryz.func41, Tryz.ntmps41
 go_wp2_with fail
 refine hcon.mono ?_
 rintro e w1 ⟨u, v, rfl, hb1, huv, huv'⟩
 by_cases hz : v0 = 0
 · obtain ⟨rfl, rfl⟩ := huv hz
   subst hz
   obtain ⟨hv, hix⟩ := errS_zero HV0.out.symm
   obtain ⟨h0i, hit⟩ := hix i (by simp)
   obtain ⟨h0j, hjt⟩ := hix j (by simp)
   obtain ⟨i', rfl⟩ : ∃ i' : Nat, i = i' := ⟨i.toNat, by omega⟩
   obtain ⟨j', rfl⟩ : ∃ j' : Nat, j = j' := ⟨j.toNat, by omega⟩
   obtain ⟨fm, hfm⟩ : ∃ fm, t[i']? = some fm := ⟨_, List.getElem?_eq_getElem (by omega)⟩
   obtain ⟨gm, hgm⟩ : ∃ gm, t[j']? = some gm := ⟨_, List.getElem?_eq_getElem (by omega)⟩
   have hVf := valid_VFmt hv hfm
   have hVg := valid_VFmt hv hgm
   obtain ⟨tb, toff, rfl, -⟩ := hT.2 (ne_nil_of_get hfm)
   have hcon2 := fun (w' : World) (hE : Ext w w') => explore_any (w := w') (cap := cap) (hT.ext hB hE) (by have := hE.size; omega) hfm hgm hVf hVg
   have HC := Lib.hid hcon2
   have HV := Lib.hid hv
   have HFM := Lib.hid hfm
   have HGM := Lib.hid hgm
   clear hcon2 hv hfm hgm hT huv huv' hix
   have hE1 := Lib.hid hb1
   go_wp2_with fail
   refine (HC.out _ (by repeat (first | exact hb1 | apply Ext.then_dr | apply Ext.then_drN | (refine Ext.then_al ?_ _)))).mono ?_
   rintro e w2 ⟨p, er, rfl, hb2, hR⟩
   have hEx := hR.lower (show Ext w _ from (by repeat (first | exact hb1 | apply Ext.then_dr | apply Ext.then_drN | (refine Ext.then_al ?_ _))))
   have HR := Lib.hid hEx
   have HB := Lib.hid ((show Ext w _ from (by repeat (first | exact hb1 | apply Ext.then_dr | apply Ext.then_drN | (refine Ext.then_al ?_ _)))).trans hb2)
   clear hR hEx hb2
   go_wp2_with fail
   go_ret2
   exact ⟨p, er, rfl, HB.out, .inr ⟨HV0.out.symm, i', j', fm, gm, rfl, rfl, HFM.out, HGM.out, hVf, hVg, HR.out⟩⟩
 · obtain ⟨rfl, rfl⟩ := huv' hz
   have e1 : (v0 == 0) = false := beq_eq_false_iff_ne.2 hz
   clear huv huv'
   go_wp2_with fail
   go_ret2
   exact ⟨_, _, rfl, (by repeat (first | exact hb1 | apply Ext.then_dr | apply Ext.then_drN | (refine Ext.then_al ?_ _))), .inl ⟨by rw [← HV0.out]; exact hz, rfl, HV0.out⟩⟩

def encN8 (b : Nat) : Value := .int .u8 b
def bytesN (l : List Nat) : ByteArray := ⟨(l.map UInt8.ofNat).toArray⟩
theorem inf5 : (Tryz.prog.info? 5).map (fun i => (i.zero, i.size, i.bytes)) = some (some (.int .u8 0), 1, 1) := by kernel_rfl

theorem bytes_back {w : World} {base n : Nat} {v : Value} {l : List Nat} (h : w.ownsRow base 5 1 v n (l.map encN8)) (hl : ∀ b ∈ l, b < 256) : (convert 23 9 v).run Tryz.prog w = .ok (.string (bytesN l)) w := by
 have hn : n = l.length := by have := h.1; simp at this; omega
 subst hn
 rcases h.2 with ⟨rfl, h0⟩ | ⟨g, cap, cur, rfl, -⟩
 · have : l = [] := List.length_eq_zero_iff.1 h0
   subst this
   rw [run_convert_bytes_nil (P := Tryz.prog) w 23 5 Tryz.underlying23 Tryz.underlying5 0 0 9 Tryz.underlying9]
   rfl
 · have := run_convert_bytes_back (P := Tryz.prog) w 23 9 5 ⟨g, 0, none⟩ cap (l.map UInt8.ofNat) Tryz.underlying23 Tryz.underlying5 Tryz.underlying9 (fun j hj => by
    simp at hj
    have hc := h.cells (g := g) rfl j (encN8 l[j]) (by simp [hj])
    rw [hc]
    have := hl l[j] (List.getElem_mem hj)
    simp [encN8]
    omega)
   rw [List.length_map] at this
   exact this

/-- only block g changes, and new ones come -/
theorem grown_refl (w : World) (g : Option Nat) : w.grownBy w g := ⟨rfl, rfl, rfl, Nat.le_refl _, fun _ _ _ => rfl⟩
theorem grown_set {w wr : World} {g i : Nat} {v : Value} (h : w.grownBy wr (some g)) : w.grownBy (wr.setCell ⟨g, i, none⟩ v) (some g) :=
 ⟨h.os, h.tape, h.output, by simpa using h.size, fun k hk hne => by rw [heap_setCell_other _ _ _ _ (fun e => hne (by rw [e]))]; exact h.block k hk hne⟩
theorem grown_ext {w wr w' : World} {g : Option Nat} (h : w.grownBy wr g) (hE : Ext wr w') : w.grownBy w' g :=
 ⟨hE.os.trans h.os, hE.tape.trans h.tape, hE.output.trans h.output, Nat.le_trans h.size hE.size, fun k hk hne => by rw [hE.block (Nat.lt_of_lt_of_le hk h.size)]; exact h.block k hk hne⟩

def SwapI (w : World) (g : Nat) (cur : Array Value) (i j : Nat) (a b : Value) (vs : List Value) (w' : World) : Prop :=
 w.grownBy w' (some g) ∧ match vs with
 | [] => w'.heap[g]? = some (.cells cur 5)
 | [_] => w'.heap[g]? = some (.cells (cur.setIfInBounds i b) 5)
 | [_, _] => w'.heap[g]? = some (.cells ((cur.setIfInBounds i b).setIfInBounds j a) 5)
 | _ => False
theorem SwapI.ext {w : World} {g : Nat} {cur : Array Value} {i j : Nat} {a b : Value} (vs : List Value) (w1 w2 : World) (h : SwapI w g cur i j a b vs w1) (hE : Ext w1 w2) : SwapI w g cur i j a b vs w2 := by
 obtain ⟨h1, h2⟩ := h
 refine ⟨grown_ext h1 hE, ?_⟩
 match vs, h2 with
 | [], h2 => exact hs_ext hE h2
 | [_], h2 => exact hs_ext hE h2
 | [_, _], h2 => exact hs_ext hE h2

set_option maxRecDepth 100000 in
set_option maxHeartbeats 1600000 in
theorem reverse_any {w : World} {base n : Nat} {v : Value} {xs : List Nat} (h : w.ownsRow base 5 1 v n (xs.map encN8)) :
 Calls Tryz.prog 102 #[v] w fun e w' => e = .returned (.tuple #[]) ∧ w'.ownsRow base 5 1 v n (xs.reverse.map encN8) ∧ w.grownBy w' v.ownBlock := by
 have hn : n = xs.length := by have := h.1; simp at this; omega
 rcases h.2 with ⟨rfl, h0⟩ | ⟨gb, cap, cur0, rfl, hb, hg, hnc, hcm, hsz, htk⟩
 · have : xs = [] := List.length_eq_zero_iff.1 (hn ▸ h0)
   subst this
   have H := Lib.hid h
   have HN := Lib.hid h0
   clear h hn h0
   go_enter Tryz.func102, Tryz.ntmps102
   go_wp2_with fail
   go_loop [2, 3] (fun i j => i = .int .i64 0 ∧ j = .int .i64 (-1)) (fun i j => 0)
   case atStart => exact ⟨rfl, rfl⟩
   case round =>
    obtain ⟨rfl, rfl⟩ := hrel
    go_wp2_with fail
    go_end0
    exact ⟨rfl, H.out, grown_refl _ _⟩
 · unfold maxLen at hcm
   have hn63 : n ≤ 9223372036854775807 := by omega
   have hcell0 : ∀ m, m < n → cur0[m]? = (xs[m]?).map encN8 := fun m hm => by
    have e : (cur0.toList.take (n * 1))[m]? = (xs.map encN8)[m]? := by rw [htk]
    rw [Nat.mul_one, List.getElem?_take, if_pos hm] at e
    simpa using e
   have hglt : gb < w.heap.size := (Array.getElem?_eq_some_iff.1 hg).1
   have H := Lib.hid h
   have HG := Lib.hid hg
   have HC0 := Lib.hid hcell0
   have HN := Lib.hid hn
   have HSZ := Lib.hid hsz
   clear h hg hcell0 hn hsz htk
   go_enter Tryz.func102, Tryz.ntmps102
   go_wp2_with fail
   go_loopw [2, 3] (fun iv jv wr => ∃ (k : Nat) (cur : Array Value), iv = .int .i64 k ∧ jv = .int .i64 ((n : Int) - 1 - k) ∧ 2 * k ≤ n + 1 ∧ wr.heap[gb]? = some (.cells cur 5) ∧ cur.size = cap ∧ w.grownBy wr (some gb) ∧
    ∀ m, m < n → cur[m]? = (xs[if m < k ∨ n - k ≤ m then n - 1 - m else m]?).map encN8) (fun iv _ _ => n + 2 - (intOf iv).toNat)
   case atStart => exact ⟨0, cur0, rfl, by simp, by omega, HG.out, by simpa using HSZ.out, grown_refl _ _, fun m hm => by rw [if_neg (by omega)]; exact HC0.out m hm⟩
   case round =>
    obtain ⟨k, cur, rfl, rfl, hk, hg, hsz, hgr, hall⟩ := hrel
    have hsz0 := hgr.size
    by_cases hlt : 2 * k + 1 < n
    · have e1 : decide ((k : Int) < (n : Int) - 1 - k) = true := decide_eq_true (by omega)
      obtain ⟨j, hj⟩ : ∃ j : Nat, j = n - 1 - k := ⟨_, rfl⟩
      have hji : (n : Int) - 1 - k = j := by omega
      obtain ⟨x, hx⟩ : ∃ x, xs[k]? = some x := ⟨_, List.getElem?_eq_getElem (by rw [← HN.out]; omega)⟩
      obtain ⟨y, hy⟩ : ∃ y, xs[j]? = some y := ⟨_, List.getElem?_eq_getElem (by rw [← HN.out]; omega)⟩
      have hck : cur[k]? = some (.int .u8 x) := by rw [hall k (by omega), if_neg (by omega), hx]; rfl
      have hcj : cur[j]? = some (.int .u8 y) := by rw [hall j (by omega), if_neg (by omega), hy]; rfl
      obtain ⟨hkj, hjn, hkn⟩ : k < j ∧ j < n ∧ k < n := by omega
      rw [hji] at e1 ⊢
      have hglr : gb < wr.heap.size := (Array.getElem?_eq_some_iff.1 hg).1
      have HJI := Lib.hid hji
      have HJ := Lib.hid hj
      have HX := Lib.hid hx
      have HY := Lib.hid hy
      have HCK := Lib.hid hck
      have HCJ := Lib.hid hcj
      have HI0 : Hid (SwapI w gb cur k j (.int .u8 x) (.int .u8 y) [] wr) := ⟨hgr, hg⟩
      have HSZ2 := Lib.hid hsz
      have HALL := Lib.hid hall
      clear hji hj hx hy hck hcj hall hsz hg hgr
      go_wp2_with fail
      refine wp_region_act 16 false (SwapI w gb cur k j (.int .u8 x) (.int .u8 y)) [13, 15] (by kernel_rfl) (by kernel_rfl) SwapI.ext (fun h => nomatch h) (by decide) (by decide) (fun i x y h1 h2 => by
       match i, h1, h2 with
       | 0, h1, h2 => cases h1; cases h2; exact anc_of 1 (by kernel_rfl)
       | 1, h1, h2 => cases h2
       | i + 2, h1, h2 => cases h1) HI0.out ?_
      skip
      refine reg_value (fun _ => rfl) ?_ (fun g w' vs hM hE hP => ?_) ?_
      rotate_left
      · (clear hP hM; go_simp; first | done | rfl)
      refine reg_value (fun _ => rfl) ?_ (fun g w' vs hM hE hP => ?_) ?_
      rotate_left
      · (clear hP hM; go_simp; first | done | rfl)
      refine reg_value (fun _ => rfl) ?_ (fun g w' vs hM hE hP => ?_) ?_
      rotate_left
      · (clear hP hM; go_simp; first | done | rfl)
      refine reg_value (fun _ => rfl) ?_ (fun g w' vs hM hE hP => ?_) ?_
      rotate_left
      · (clear hP hM; go_simp; first | done | rfl)
      refine reg_value (fun _ => rfl) ?_ (fun g w' vs hM hE hP => ?_) ?_
      rotate_left
      · (clear hP hM; go_simp; first | done | rfl)
      refine reg_value (fun _ => rfl) ?_ (fun g w' vs hM hE hP => ?_) ?_
      rotate_left
      · (clear hP hM; go_simp; first | done | rfl)
      refine reg_value (fun _ => rfl) ?_ (fun g w' vs hM hE hP => ?_) ?_
      rotate_left
      · (clear hP hM; go_simp; first | done | rfl)
      refine reg_value (fun _ => rfl) (fun _ => .int .u8 y) (fun g1 w' m hM hE hP => ?_) ?_
      · have hm0 := hM.2 0 13 rfl (anc_of 1 (by kernel_rfl))
        obtain rfl : m = 0 := by omega
        have z : w'.cell? ⟨gb, j, none⟩ = some (.int .u8 y) := by rw [cellc (hE.2 : w'.heap[gb]? = some (.cells cur 5))]; exact HCJ.out
        clear hM hE hP
        go_simp
      refine reg_value (fun _ => rfl) ?_ (fun g w' vs hM hE hP => ?_) ?_
      rotate_left
      · (clear hP hM; go_simp; first | done | rfl)
      refine reg_value (fun _ => rfl) ?_ (fun g w' vs hM hE hP => ?_) ?_
      rotate_left
      · (clear hP hM; go_simp; first | done | rfl)
      refine reg_value (fun _ => rfl) ?_ (fun g w' vs hM hE hP => ?_) ?_
      rotate_left
      · (clear hP hM; go_simp; first | done | rfl)
      refine reg_value (fun _ => rfl) (fun _ => .int .u8 x) (fun g1 w' m hM hE hP => ?_) ?_
      · have hm0 := hM.2 0 13 rfl (anc_of 1 (by kernel_rfl))
        obtain rfl : m = 0 := by omega
        have z : w'.cell? ⟨gb, k, none⟩ = some (.int .u8 x) := by rw [cellc (hE.2 : w'.heap[gb]? = some (.cells cur 5))]; exact HCK.out
        clear hM hE hP
        go_simp
      refine reg_value (fun _ => rfl) ?_ (fun g w' vs hM hE hP => ?_) ?_
      rotate_left
      · (clear hP hM; go_simp; first | done | rfl)
      refine reg_act (fun _ => rfl) 0 rfl (fun g1 w' hE hP hF hB => ?_) ?_
      · obtain ⟨e1, e2⟩ := hE
        change w'.heap[gb]? = some (.cells cur 5) at e2
        refine ⟨.skip, undef, w'.setCell ⟨gb, k, none⟩ (.int .u8 y), ?_, .inr ⟨rfl, rfl⟩, ⟨by simp, fun b hb hb2 => heap_setCell_other _ _ _ _ (by show b ≠ gb; omega)⟩, ⟨grown_set e1, ?_⟩⟩
        · have z : w'.cell? ⟨gb, k, none⟩ = some (.int .u8 x) := by rw [cellc e2]; exact HCK.out
          have zf : w'.frozen? ⟨gb, k, none⟩ = false := by simp [World.frozen?, e2]
          clear e1 e2 hP hF hB
          go_simp
        · exact heap_setCell_same _ _ _ _ _ _ e2
      refine reg_value (fun _ => rfl) ?_ (fun g w' vs hM hE hP => ?_) ?_
      rotate_left
      · (clear hP hM; go_simp; first | done | rfl)
      refine reg_act (fun _ => rfl) 1 rfl (fun g1 w' hE hP hF hB => ?_) ?_
      · obtain ⟨e1, e2⟩ := hE
        change w'.heap[gb]? = some (.cells (cur.setIfInBounds k (.int .u8 y)) 5) at e2
        refine ⟨.skip, undef, w'.setCell ⟨gb, j, none⟩ (.int .u8 x), ?_, .inr ⟨rfl, rfl⟩, ⟨by simp, fun b hb hb2 => heap_setCell_other _ _ _ _ (by show b ≠ gb; omega)⟩, ⟨grown_set e1, ?_⟩⟩
        · have z : w'.cell? ⟨gb, j, none⟩ = some (.int .u8 y) := by rw [cellc e2, Array.getElem?_setIfInBounds_ne (by omega)]; exact HCJ.out
          have zf : w'.frozen? ⟨gb, j, none⟩ = false := by simp [World.frozen?, e2]
          clear e1 e2 hP hF hB
          go_simp
        · exact heap_setCell_same _ _ _ _ _ _ e2
      intro g6 w6 hI6 hF6 hQ6
      simp only [List.drop_succ_cons, List.drop_zero, Act.put, List.setIfInBounds_toArray, List.set_cons_succ, List.set_cons_zero]
      clear hF6 hQ6
      obtain ⟨r1, r2⟩ := hI6
      have R1 := Lib.hid r1
      have R2 := Lib.hid r2
      clear r1 r2
      go_wp2_with fail
      go_roundw
      case rel =>
       refine ⟨k + 1, _, by go_num, ?_, by omega, R2.out, by simp [HSZ2.out], R1.out, ?_⟩
       · have := HJI.out
         rw [show (n : Int) - 1 - ((k + 1 : Nat) : Int) = (j : Int) - 1 by omega]
       · intro m hm
         have hcs : cur.size = cap := HSZ2.out
         have hjv := HJ.out
         rw [Array.getElem?_setIfInBounds]
         by_cases hmj : j = m
         · subst hmj
           rw [if_pos rfl, if_pos (by simp [hcs]; omega), if_pos (by omega), show n - 1 - j = k by omega, HX.out]; rfl
         · rw [if_neg hmj, Array.getElem?_setIfInBounds]
           by_cases hmk : k = m
           · subst hmk
             rw [if_pos rfl, if_pos (by omega), if_pos (by omega), ← hjv, HY.out]; rfl
           · rw [if_neg hmk, HALL.out m hm]
             by_cases hc : m < k ∨ n - k ≤ m
             · rw [if_pos hc, if_pos (by omega)]
             · rw [if_neg hc, if_neg (by omega)]
      case measure => simp [intOf]; omega
    · have e1 : decide ((k : Int) < (n : Int) - 1 - k) = false := decide_eq_false (by omega)
      have HFIN : Hid (wr.ownsRow base 5 1 (.slice (some ⟨gb, 0, none⟩) n cap) n (xs.reverse.map encN8)) := by
       refine ⟨by simp [← HN.out], .inr ⟨gb, cap, cur, rfl, hb, hg, hnc, by unfold maxLen; omega, by rw [hsz]; simp, ?_⟩⟩
       apply List.ext_getElem?
       intro m
       rw [Nat.mul_one, List.getElem?_take]
       by_cases hm : m < n
       · rw [if_pos hm]
         have e := hall m hm
         rw [Array.getElem?_toList, e, List.getElem?_map, List.getElem?_reverse (by rw [← HN.out]; exact hm), ← HN.out]
         by_cases hc : m < k ∨ n - k ≤ m
         · rw [if_pos hc]
         · rw [if_neg hc, show n - 1 - m = m by omega]
       · rw [if_neg hm, List.getElem?_eq_none (by simp [← HN.out]; omega)]
      have HGR := Lib.hid hgr
      clear hg hsz hgr hall
      go_wp2_with fail
      go_end0
      exact ⟨rfl, HFIN.out, HGR.out⟩

def WayOk (W : List (Nat × Nat)) : Prop := ∀ i p b, 0 < i → W[i]? = some (p, b) → p < i ∧ b < 256
theorem Ways.ok {K : Type} {f : K → Nat → Option K} {L : List K} {W : List (Nat × Nat)} (h : Ways f L W) : WayOk W := fun i p b hi hw => by
 have hlt := (List.getElem?_eq_some_iff.1 hw).1
 rw [h.1] at hlt
 obtain ⟨h1, h2, -⟩ := h.2 i L[i] p b hi (List.getElem?_eq_getElem hlt) hw
 exact ⟨h1, h2⟩
theorem pathR_fuel {W : List (Nat × Nat)} (h : WayOk W) : ∀ f f' i, i ≤ f → i ≤ f' → pathR W f i = pathR W f' i
 | 0, f', i, h1, h2 => by
   have : i = 0 := by omega
   subst this
   cases f' <;> simp [pathR]
 | f + 1, 0, i, h1, h2 => by
   have : i = 0 := by omega
   subst this
   simp [pathR]
 | f + 1, f' + 1, i, h1, h2 => by
   simp only [pathR]
   by_cases hi : i = 0
   · simp [hi]
   · simp only [hi, if_false]
     cases hw : W[i]? with
     | none => rfl
     | some pb =>
       obtain ⟨p, b⟩ := pb
       have := (h i p b (by omega) hw).1
       simp only
       rw [pathR_fuel h f f' p (by omega) (by omega)]
theorem pathR_step {W : List (Nat × Nat)} (h : WayOk W) {i p b : Nat} (hi : 0 < i) (hw : W[i]? = some (p, b)) : pathR W W.length i = b :: pathR W W.length p := by
 have hlt := (List.getElem?_eq_some_iff.1 hw).1
 have hp := (h i p b hi hw).1
 obtain ⟨m, hm⟩ : ∃ m, W.length = m + 1 := ⟨W.length - 1, by omega⟩
 rw [hm]
 conv => lhs; rw [pathR]
 rw [if_neg (by omega), hw]
 simp only
 rw [pathR_fuel h m (m + 1) p (by omega) (by omega)]
theorem pathR_zero {W : List (Nat × Nat)} {f : Nat} : pathR W f 0 = [] := by cases f <;> simp [pathR]
set_option maxRecDepth 100000 in
set_option maxHeartbeats 1600000 in
theorem text_any {w : World} {tv : Value} {i j gs mb base k : Nat} {pv wv : Value} {W : List (Nat × Nat)} (hst : w.heap[gs]? = some (.cells (srchCells tv i j pv wv mb) 141)) (hw : w.ownsRow base 185 2 wv W.length (flatW W)) (hok : WayOk W) (hk : k < W.length) (hk3 : k ≤ 30000) :
 Calls Tryz.prog 71 #[.pointer (some ⟨gs, 0, none⟩), .int .i64 k] w fun e w' => e = .returned (.string (bytesN (pathR W W.length k).reverse)) ∧ Ext w w' := by
 have c5 : w.cell? ⟨gs, 5, none⟩ = some wv := by rw [cellc hst]; rfl
 obtain ⟨x, hx⟩ : ∃ x, W[k]? = some x := ⟨_, List.getElem?_eq_getElem hk⟩
 obtain ⟨gw, wcap, rfl, hwc, hwb, hwl, -⟩ := row2_at (f := encW2) (fun _ => rfl) hw hx
 have hcells : ∀ (i p b : Nat), W[i]? = some (p, b) → w.cell? ⟨gw, i * 2, none⟩ = some (.int .i64 p) ∧ w.cell? ⟨gw, i * 2 + 1, none⟩ = some (.int .u8 b) := fun i p b hi => by
  obtain ⟨g', c', e, -, -, -, hc⟩ := row2_at (f := encW2) (fun _ => rfl) hw hi
  cases e
  exact ⟨hc 0 _ rfl, hc 1 _ rfl⟩
 have hWm : W.length ≤ 9223372036854775807 := by
  obtain ⟨g, c, e, h1, h2, -⟩ := row2_slice hw (by omega)
  unfold maxLen at h2
  omega
 have HC := Lib.hid hcells
 have HOK := Lib.hid hok
 have HX := Lib.hid hx
 have C5 := Lib.hid c5
 clear hcells hok hst hw hx c5
 go_enter Tryz.func71, Tryz.ntmps71
 go_wp2_with fail
 go_loopw [1, 5] (fun iv ov wr => ∃ (i : Nat) (acc : List Nat), iv = .int .i64 i ∧ i < W.length ∧ wr.ownsRow w.heap.size 5 1 ov acc.length (acc.map encN8) ∧ acc ++ pathR W W.length i = pathR W W.length k ∧ acc.length + i ≤ k ∧ (∀ b ∈ acc, b < 256) ∧ Ext w wr) (fun iv _ _ => (intOf iv).toNat)
 case atStart => exact ⟨k, [], rfl, hk, ⟨rfl, .inl ⟨rfl, rfl⟩⟩, rfl, by simp, by simp, (by repeat (first | exact Ext.refl _ | exact Ext.alloc _ _ | apply Ext.then_dr | apply Ext.then_drN | apply Ext.then_drN2 | (refine Ext.then_al ?_ _)))⟩
 case round =>
  obtain ⟨i, acc, rfl, hi, hO, hP, hL, hA, hE⟩ := hrel
  by_cases hpos : 0 < i
  · have e1 : decide (0 < (i : Int)) = true := decide_eq_true (by omega)
    obtain ⟨⟨p, b⟩, hpb⟩ : ∃ x, W[i]? = some x := ⟨_, List.getElem?_eq_getElem hi⟩
    obtain ⟨z0, z1⟩ := HC.out i p b hpb
    obtain ⟨hp1, hb1⟩ := HOK.out i p b hpos hpb
    have hstep := pathR_step HOK.out hpos hpb
    have k5 := cs_ext hE C5.out
    have k1 := cs_ext hE z1
    have hO4' := ownsRow_ext hO (Ext.alloc wr (.cells #[.int .u8 b] 5))
    have hlb := fun k hk => (hO.lt k hk).1
    have hsz4 := hE.size
    have HE := Lib.hid hE
    have HP := Lib.hid hP
    have HS := Lib.hid hstep
    have HA := Lib.hid hA
    have Z0 := Lib.hid z0
    have HPB := Lib.hid hpb
    have HLB := Lib.hid hlb
    clear hE hP hstep hA z0 z1 hpb hO hlb
    obtain ⟨i0, hi0, hz0, hz1, hz2⟩ := info_parts inf5
    go_wp2_with (first
     | (at_builtin; refine wpList_append_own_at _ rfl _ _ 23 rfl w.heap.size 5 i0 (.int .u8 0) 1 1 Tryz.underlying23 hi0 hz0 hz1 hz2 rfl (by decide) _ _ _ rfl hO4' ⟨wr.heap.size, 0, none⟩ 1 1 [.int .u8 b] rfl rfl (cell_one_new _ _ _) (fun x hx => by simp at hx; subst hx; rfl) (by unfold maxLen; omega) (by omega) (by simp; omega) ?_; intro v' w5 hown' hgrow5 hnil5 hat5
        have hE5 : Ext w w5 := (HE.out.then_al _).grown hgrow5 HLB.out
        have y5 := cs_ext hE5 C5.out
        have y0 := cs_ext hE5 Z0.out
        have HE5 := Lib.hid hE5
        have HO5 := Lib.hid hown'
        clear hown' hgrow5 hnil5 hat5 hE5 hO4'))
    go_roundw
    case rel => exact ⟨p, acc ++ [b], rfl, by omega, by simpa [encN8] using HO5.out, by rw [← HP.out, HS.out]; simp, by simp; omega, fun c hc => by
      rcases List.mem_append.1 hc with h | h
      · exact HA.out c h
      · simp at h; omega, HE5.out⟩
    case measure => simp [intOf]; omega
  · have hi0 : i = 0 := by omega
    subst hi0
    have hacc : acc = pathR W W.length k := by rw [← hP, pathR_zero, List.append_nil]
    have e1 : decide (0 < ((0 : Nat) : Int)) = false := by simp
    have HO := Lib.hid hO
    have HE := Lib.hid hE
    have HACC := Lib.hid hacc
    have HA := Lib.hid hA
    have HLB := Lib.hid (fun k hk => (hO.lt k hk).1)
    clear hO hP hacc hA hE
    go_wp2_with fail
    refine (reverse_any HO.out).mono ?_
    rintro e w2 ⟨rfl, hO2, hG⟩
    have hcv := bytes_back hO2 (fun b hb => HA.out b (by simpa using hb))
    have HE2 : Hid (Ext w w2) := HE.out.grown hG HLB.out
    clear hO2 hG
    go_wp2_with fail
    go_ret
    exact ⟨by rw [HACC.out]; rfl, HE2.out⟩

/-- both formats accept -/
def bothS (F G : List Fld) (p : Int × Int) : Bool := rAcc F p.1 && rAcc G p.2

theorem run_head {K : Type} {f : K → Nat → Option K} {x y : K} {b : Nat} {l : List Nat} (h : runF f x (b :: l) = some y) : ∃ z, f x b = some z ∧ runF f z l = some y := by
 simp only [runF] at h
 cases hz : f x b with
 | none => rw [hz] at h; cases h
 | some z => rw [hz] at h; exact ⟨z, rfl, by simpa using h⟩

def bytesL (s : ByteArray) : List Nat := s.data.toList.map (·.toNat)
/-- whether a string belongs to a format -/
def belS (t : List Fmt) (F : List Fld) (s : ByteArray) : Bool := match runF (stF t F) 0 (bytesL s) with | some y => rAcc F y | none => false

theorem bytesL_lt (s : ByteArray) : ∀ b ∈ bytesL s, b < 256 := by
 intro b hb
 simp [bytesL] at hb
 obtain ⟨c, -, rfl⟩ := hb
 exact c.toNat_lt
theorem bytesN_L {l : List Nat} (h : ∀ b ∈ l, b < 256) : bytesL (bytesN l) = l := by
 simp only [bytesL, bytesN, List.map_map]
 rw [List.map_congr_left (g := id) (fun b hb => by have := h b hb; simp; omega)]
 simp

theorem run_pair {t : List Fmt} {F G : List Fld} : ∀ (l : List Nat) (x y : Int × Int), runF (stP t F G) x l = some y → runF (stF t F) x.1 l = some y.1 ∧ runF (stF t G) x.2 l = some y.2
 | [], x, y, h => by simp [runF] at h; subst h; exact ⟨rfl, rfl⟩
 | b :: l, x, y, h => by
   obtain ⟨z, h1, h2⟩ := run_head h
   unfold stP at h1
   split at h1
   · cases h1
   · rename_i hn
     simp only [not_or] at hn
     cases h1
     obtain ⟨h3, h4⟩ := run_pair l _ y h2
     simp only [runF, stF, if_neg hn.1, if_neg hn.2, Option.bind_some]
     exact ⟨h3, h4⟩
section
variable {K : Type} [DecidableEq K] {f : K → Nat → Option K} {s : K}
end
theorem stF_inv {t : List Fmt} {F : List Fld} {s z : Int} {b : Nat} (h : stF t F s b = some z) : z = rStep t F s b ∧ ¬ rStep t F s b < 0 := by
 unfold stF at h
 split at h
 · cases h
 · cases h; exact ⟨rfl, ‹_›⟩
theorem pair_run {t : List Fmt} {F G : List Fld} : ∀ (l : List Nat) (x : Int × Int) (y1 y2 : Int), runF (stF t F) x.1 l = some y1 → runF (stF t G) x.2 l = some y2 → runF (stP t F G) x l = some (y1, y2)
 | [], x, y1, y2, h1, h2 => by cases h1; cases h2; rfl
 | b :: l, x, y1, y2, h1, h2 => by
   obtain ⟨z1, a1, b1⟩ := run_head h1
   obtain ⟨z2, a2, b2⟩ := run_head h2
   obtain ⟨rfl, n1⟩ := stF_inv a1
   obtain ⟨rfl, n2⟩ := stF_inv a2
   have h := pair_run l (rStep t F x.1 b, rStep t G x.2 b) y1 y2 b1 b2
   simp only [runF, stP, if_neg (not_or.2 ⟨n1, n2⟩), Option.bind_some]
   exact h
theorem bel_run {t : List Fmt} {F : List Fld} {s : ByteArray} (h : belS t F s = true) : ∃ y, runF (stF t F) 0 (bytesL s) = some y ∧ rAcc F y = true := by
 unfold belS at h
 cases hy : runF (stF t F) 0 (bytesL s) with
 | none => rw [hy] at h; cases h
 | some y => rw [hy] at h; exact ⟨y, rfl, h⟩
/-- what is said of a pair of formats: 0 a common string, 15 none, 3 too large -/
def Oc (t : List Fmt) (i j : Nat) (v : Int) : Prop := ∃ fm gm, t[i]? = some fm ∧ t[j]? = some gm ∧ VFmt t fm ∧ VFmt t gm ∧
 ((Over (stP t fm.fields gm.fields) (0, 0) ∧ v = 3) ∨ ∃ L, Full (stP t fm.fields gm.fields) (0, 0) L ∧ L.length ≤ 20000 ∧ (((∃ p ∈ L, bothS fm.fields gm.fields p = true) ∧ v = 0) ∨ ((∀ p ∈ L, bothS fm.fields gm.fields p = false) ∧ v = 15)))

theorem errS_in {t : List Fmt} (hv : validF t = 0) {i j : Nat} (hi : i < t.length) (hj : j < t.length) : errS t [(i : Int), (j : Int)] = 0 := by
 unfold errS
 rw [if_neg (by rw [hv]; simp), if_neg]
 simp [badIx]
 omega

/-- all pairs ahead of i, j are disjoint -/
def BeforeS (t : List Fmt) (i j : Nat) : Prop := ∀ i' j' : Nat, i' < j' → j' < t.length → (i' < i ∨ i' = i ∧ j' < j) → Oc t i' j' 15
theorem BeforeS.next {t : List Fmt} {i j : Nat} (h : BeforeS t i j) (ho : Oc t i j 15) : BeforeS t i (j + 1) := fun i' j' h1 h2 h3 => by
 by_cases e : i' = i ∧ j' = j
 · obtain ⟨rfl, rfl⟩ := e; exact ho
 · exact h i' j' h1 h2 (by omega)
theorem BeforeS.start {t : List Fmt} : BeforeS t 0 0 := fun i' j' h1 h2 h3 => by omega

end Go.Proofs.YtfaienbdebjfcaaGreat
