/- Contracts: product, text, Common. Strings that belong to a format (plain); All. -/
import Derived.Test.YtfaienbdebjfcaaGreatGN
import Derived.Laws.IdiomStrings
namespace Go.Proofs.YtfaienbdebjfcaaGreat
open Go Go.RowKit
open Go.Maps (Keyed)
set_option linter.unusedVariables false
set_option linter.unusedSimpArgs false
set_option linter.unusedSectionVars false

/-- what the search through the pairs of two formats answers -/
def ProductR (w w' : World) (t : List Fmt) (a : Option Addr) (cap : Nat) (i j : Int) (p : Value) (er : Int) : Prop :=
 (errS t [i, j] ≠ 0 ∧ p = .pointer none ∧ er = errS t [i, j]) ∨ (errS t [i, j] = 0 ∧ ∃ (i' j' : Nat) (fm gm : Fmt), i = i' ∧ j = j' ∧ t[i']? = some fm ∧ t[j']? = some gm ∧ VFmt t fm ∧ VFmt t gm ∧ ExploreR w w' (.slice a t.length cap) i' j' (stP t fm.fields gm.fields) p er)

theorem ExploreR.lower {w0 w w' : World} {tv : Value} {i j : Nat} {f : Int × Int → Nat → Option (Int × Int)} {p : Value} {er : Int} (h : ExploreR w w' tv i j f p er) (hE : Ext w0 w) : ExploreR w0 w' tv i j f p er := by
 rcases h with h | ⟨gs, mb, pv, wv, L, Ws, h1, h2, h3, h4, h5, h6⟩
 · exact .inl h
 · exact .inr ⟨gs, mb, pv, wv, L, Ws, h1, h2, h3, h4, h5, h6.lower hE⟩

set_option maxRecDepth 100000 in
set_option maxHeartbeats 1000000 in
theorem product_any {w : World} {B : Nat} {a : Option Addr} {t : List Fmt} {cap : Nat} {i j : Int} (hT : TabA w B a t) (hB : B ≤ w.heap.size) (hcap : t.length ≤ cap) (hcap2 : cap ≤ 9223372036854775807) :
 Calls Tryz.prog 41 #[.slice a t.length cap, .int .i64 i, .int .i64 j] w fun e w' => ∃ p er, e = .returned (.tuple #[p, .int .i64 er]) ∧ Ext w w' ∧ ProductR w w' t a cap i j p er := by
 obtain ⟨v0, hv0⟩ : ∃ v0, v0 = errS t [i, j] := ⟨_, rfl⟩
 have HV0 := Lib.hid hv0
 have hcon := two_any (i := i) (j := j) hT hB hcap hcap2
 rw [← hv0] at hcon
 clear hv0
 go_enter Tryz.func41, Tryz.ntmps41
 go_wp2_with fail
 refine hcon.mono ?_
 rintro e w1 ⟨u, v, rfl, hb1, huv, huv'⟩
 by_cases hz : v0 = 0
 · obtain ⟨rfl, rfl⟩ := huv hz
   subst hz
   obtain ⟨hv, hix⟩ := errS_zero HV0.out.symm
   obtain ⟨h0i, hit⟩ := hix i (by simp)
   obtain ⟨h0j, hjt⟩ := hix j (by simp)
   obtain ⟨i', rfl⟩ : ∃ i' : Nat, i = i' := ⟨i.toNat, by omega⟩
   obtain ⟨j', rfl⟩ : ∃ j' : Nat, j = j' := ⟨j.toNat, by omega⟩
   obtain ⟨fm, hfm⟩ : ∃ fm, t[i']? = some fm := ⟨_, List.getElem?_eq_getElem (by omega)⟩
   obtain ⟨gm, hgm⟩ : ∃ gm, t[j']? = some gm := ⟨_, List.getElem?_eq_getElem (by omega)⟩
   have hVf := valid_VFmt hv hfm
   have hVg := valid_VFmt hv hgm
   obtain ⟨tb, toff, rfl, -⟩ := hT.2 (ne_nil_of_get hfm)
   have hcon2 := fun (w' : World) (hE : Ext w w') => explore_any (w := w') (cap := cap) (hT.ext hB hE) (by have := hE.size; omega) hfm hgm hVf hVg
   have HC := Lib.hid hcon2
   have HV := Lib.hid hv
   have HFM := Lib.hid hfm
   have HGM := Lib.hid hgm
   clear hcon2 hv hfm hgm hT huv huv' hix
   have hE1 := Lib.hid hb1
   go_wp2_with fail
   refine (HC.out _ (by repeat (first | exact hb1 | apply Ext.then_dr | apply Ext.then_drN | (refine Ext.then_al ?_ _)))).mono ?_
   rintro e w2 ⟨p, er, rfl, hb2, hR⟩
   have hEx := hR.lower (show Ext w _ from (by repeat (first | exact hb1 | apply Ext.then_dr | apply Ext.then_drN | (refine Ext.then_al ?_ _))))
   have HR := Lib.hid hEx
   have HB := Lib.hid ((show Ext w _ from (by repeat (first | exact hb1 | apply Ext.then_dr | apply Ext.then_drN | (refine Ext.then_al ?_ _)))).trans hb2)
   clear hR hEx hb2
   go_wp2_with fail
   go_ret2
   exact ⟨p, er, rfl, HB.out, .inr ⟨HV0.out.symm, i', j', fm, gm, rfl, rfl, HFM.out, HGM.out, hVf, hVg, HR.out⟩⟩
 · obtain ⟨rfl, rfl⟩ := huv' hz
   have e1 : (v0 == 0) = false := beq_eq_false_iff_ne.2 hz
   clear huv huv'
   go_wp2_with fail
   go_ret2
   exact ⟨_, _, rfl, (by repeat (first | exact hb1 | apply Ext.then_dr | apply Ext.then_drN | (refine Ext.then_al ?_ _))), .inl ⟨by rw [← HV0.out]; exact hz, rfl, HV0.out⟩⟩

theorem stP_diag (t : List Fmt) (F : List Fld) (x : Int) (b : Nat) : stP t F F (x, x) b = (stF t F x b).map (fun x => (x, x)) := by
 unfold stP stF
 by_cases h : rStep t F x b < 0 <;> simp [h]
theorem diag_inj (x y : Int) (h : ((x, x) : Int × Int) = (y, y)) : x = y := by simpa using h
theorem full_diag {t : List Fmt} {F : List Fld} {L : List (Int × Int)} (h : Full (stP t F F) (0, 0) L) : ∃ L0, Full (stF t F) 0 L0 ∧ L = L0.map (fun x => (x, x)) := by
 obtain ⟨k, rfl, hk⟩ := h
 have e := lev_map (g := fun x : Int => (x, x)) diag_inj (stP_diag t F) 0 k
 rw [e] at hk ⊢
 exact ⟨_, ⟨k, rfl, by simpa using hk⟩, rfl⟩
theorem over_diag {t : List Fmt} {F : List Fld} : Over (stP t F F) (0, 0) ↔ Over (stF t F) 0 := over_map (g := fun x : Int => (x, x)) diag_inj (stP_diag t F) 0

theorem errS_two {t : List Fmt} {i : Int} : errS t [i, i] = errS t [i] := by simp [errS]

def encN8 (b : Nat) : Value := .int .u8 b
def bytesN (l : List Nat) : ByteArray := ⟨(l.map UInt8.ofNat).toArray⟩
theorem inf5 : (Tryz.prog.info? 5).map (fun i => (i.zero, i.size, i.bytes)) = some (some (.int .u8 0), 1, 1) := by kernel_rfl

theorem bytes_back {w : World} {base n : Nat} {v : Value} {l : List Nat} (h : w.ownsRow base 5 1 v n (l.map encN8)) (hl : ∀ b ∈ l, b < 256) : (convert 23 9 v).run Tryz.prog w = .ok (.string (bytesN l)) w := by
 have hn : n = l.length := by have := h.1; simp at this; omega
 subst hn
 rcases h.2 with ⟨rfl, h0⟩ | ⟨g, cap, cur, rfl, -⟩
 · have : l = [] := List.length_eq_zero_iff.1 h0
   subst this
   rw [run_convert_bytes_nil (P := Tryz.prog) w 23 5 Tryz.underlying23 Tryz.underlying5 0 0 9 Tryz.underlying9]
   rfl
 · have := run_convert_bytes_back (P := Tryz.prog) w 23 9 5 ⟨g, 0, none⟩ cap (l.map UInt8.ofNat) Tryz.underlying23 Tryz.underlying5 Tryz.underlying9 (fun j hj => by
    simp at hj
    have hc := h.cells (g := g) rfl j (encN8 l[j]) (by simp [hj])
    rw [hc]
    have := hl l[j] (List.getElem_mem hj)
    simp [encN8]
    omega)
   rw [List.length_map] at this
   exact this

/-- only block g changes, and new ones come -/
theorem grown_refl (w : World) (g : Option Nat) : w.grownBy w g := ⟨rfl, rfl, rfl, Nat.le_refl _, fun _ _ _ => rfl⟩
theorem grown_set {w wr : World} {g i : Nat} {v : Value} (h : w.grownBy wr (some g)) : w.grownBy (wr.setCell ⟨g, i, none⟩ v) (some g) :=
 ⟨h.os, h.tape, h.output, by simpa using h.size, fun k hk hne => by rw [heap_setCell_other _ _ _ _ (fun e => hne (by rw [e]))]; exact h.block k hk hne⟩
theorem grown_ext {w wr w' : World} {g : Option Nat} (h : w.grownBy wr g) (hE : Ext wr w') : w.grownBy w' g :=
 ⟨hE.os.trans h.os, hE.tape.trans h.tape, hE.output.trans h.output, Nat.le_trans h.size hE.size, fun k hk hne => by rw [hE.block (Nat.lt_of_lt_of_le hk h.size)]; exact h.block k hk hne⟩

def SwapI (w : World) (g : Nat) (cur : Array Value) (i j : Nat) (a b : Value) (vs : List Value) (w' : World) : Prop :=
 w.grownBy w' (some g) ∧ match vs with
 | [] => w'.heap[g]? = some (.cells cur 5)
 | [_] => w'.heap[g]? = some (.cells (cur.setIfInBounds i b) 5)
 | [_, _] => w'.heap[g]? = some (.cells ((cur.setIfInBounds i b).setIfInBounds j a) 5)
 | _ => False
theorem SwapI.ext {w : World} {g : Nat} {cur : Array Value} {i j : Nat} {a b : Value} (vs : List Value) (w1 w2 : World) (h : SwapI w g cur i j a b vs w1) (hE : Ext w1 w2) : SwapI w g cur i j a b vs w2 := by
 obtain ⟨h1, h2⟩ := h
 refine ⟨grown_ext h1 hE, ?_⟩
 match vs, h2 with
 | [], h2 => exact hs_ext hE h2
 | [_], h2 => exact hs_ext hE h2
 | [_, _], h2 => exact hs_ext hE h2

set_option maxRecDepth 100000 in
set_option maxHeartbeats 1600000 in
theorem reverse_any {w : World} {base n : Nat} {v : Value} {xs : List Nat} (h : w.ownsRow base 5 1 v n (xs.map encN8)) :
 Calls Tryz.prog 102 #[v] w fun e w' => e = .returned (.tuple #[]) ∧ w'.ownsRow base 5 1 v n (xs.reverse.map encN8) ∧ w.grownBy w' v.ownBlock := by
 have hn : n = xs.length := by have := h.1; simp at this; omega
 rcases h.2 with ⟨rfl, h0⟩ | ⟨gb, cap, cur0, rfl, hb, hg, hnc, hcm, hsz, htk⟩
 · have : xs = [] := List.length_eq_zero_iff.1 (hn ▸ h0)
   subst this
   have H := Lib.hid h
   have HN := Lib.hid h0
   clear h hn h0
   go_enter Tryz.func102, Tryz.ntmps102
   go_wp2_with fail
   go_loop [2, 3] (fun i j => i = .int .i64 0 ∧ j = .int .i64 (-1)) (fun i j => 0)
   case atStart => exact ⟨rfl, rfl⟩
   case round =>
    obtain ⟨rfl, rfl⟩ := hrel
    go_wp2_with fail
    go_end0
    exact ⟨rfl, H.out, grown_refl _ _⟩
 · unfold maxLen at hcm
   have hn63 : n ≤ 9223372036854775807 := by omega
   have hcell0 : ∀ m, m < n → cur0[m]? = (xs[m]?).map encN8 := fun m hm => by
    have e : (cur0.toList.take (n * 1))[m]? = (xs.map encN8)[m]? := by rw [htk]
    rw [Nat.mul_one, List.getElem?_take, if_pos hm] at e
    simpa using e
   have hglt : gb < w.heap.size := (Array.getElem?_eq_some_iff.1 hg).1
   have H := Lib.hid h
   have HG := Lib.hid hg
   have HC0 := Lib.hid hcell0
   have HN := Lib.hid hn
   have HSZ := Lib.hid hsz
   clear h hg hcell0 hn hsz htk
   go_enter Tryz.func102, Tryz.ntmps102
   go_wp2_with fail
   go_loopw [2, 3] (fun iv jv wr => ∃ (k : Nat) (cur : Array Value), iv = .int .i64 k ∧ jv = .int .i64 ((n : Int) - 1 - k) ∧ 2 * k ≤ n + 1 ∧ wr.heap[gb]? = some (.cells cur 5) ∧ cur.size = cap ∧ w.grownBy wr (some gb) ∧
    ∀ m, m < n → cur[m]? = (xs[if m < k ∨ n - k ≤ m then n - 1 - m else m]?).map encN8) (fun iv _ _ => n + 2 - (intOf iv).toNat)
   case atStart => exact ⟨0, cur0, rfl, by simp, by omega, HG.out, by simpa using HSZ.out, grown_refl _ _, fun m hm => by rw [if_neg (by omega)]; exact HC0.out m hm⟩
   case round =>
    obtain ⟨k, cur, rfl, rfl, hk, hg, hsz, hgr, hall⟩ := hrel
    have hsz0 := hgr.size
    by_cases hlt : 2 * k + 1 < n
    · have e1 : decide ((k : Int) < (n : Int) - 1 - k) = true := decide_eq_true (by omega)
      obtain ⟨j, hj⟩ : ∃ j : Nat, j = n - 1 - k := ⟨_, rfl⟩
      have hji : (n : Int) - 1 - k = j := by omega
      obtain ⟨x, hx⟩ : ∃ x, xs[k]? = some x := ⟨_, List.getElem?_eq_getElem (by rw [← HN.out]; omega)⟩
      obtain ⟨y, hy⟩ : ∃ y, xs[j]? = some y := ⟨_, List.getElem?_eq_getElem (by rw [← HN.out]; omega)⟩
      have hck : cur[k]? = some (.int .u8 x) := by rw [hall k (by omega), if_neg (by omega), hx]; rfl
      have hcj : cur[j]? = some (.int .u8 y) := by rw [hall j (by omega), if_neg (by omega), hy]; rfl
      obtain ⟨hkj, hjn, hkn⟩ : k < j ∧ j < n ∧ k < n := by omega
      rw [hji] at e1 ⊢
      have hglr : gb < wr.heap.size := (Array.getElem?_eq_some_iff.1 hg).1
      have HJI := Lib.hid hji
      have HJ := Lib.hid hj
      have HX := Lib.hid hx
      have HY := Lib.hid hy
      have HCK := Lib.hid hck
      have HCJ := Lib.hid hcj
      have HI0 : Hid (SwapI w gb cur k j (.int .u8 x) (.int .u8 y) [] wr) := ⟨hgr, hg⟩
      have HSZ2 := Lib.hid hsz
      have HALL := Lib.hid hall
      clear hji hj hx hy hck hcj hall hsz hg hgr
      go_wp2_with fail
      refine wp_region_act 16 false (SwapI w gb cur k j (.int .u8 x) (.int .u8 y)) [13, 15] (by kernel_rfl) (by kernel_rfl) SwapI.ext (fun h => nomatch h) (by decide) (by decide) (fun i x y h1 h2 => by
       match i, h1, h2 with
       | 0, h1, h2 => cases h1; cases h2; exact anc_of 1 (by kernel_rfl)
       | 1, h1, h2 => cases h2
       | i + 2, h1, h2 => cases h1) HI0.out ?_
      skip
      refine reg_value (fun _ => rfl) ?_ (fun g w' vs hM hE hP => ?_) ?_
      rotate_left
      · (clear hP hM; go_simp; first | done | rfl)
      refine reg_value (fun _ => rfl) ?_ (fun g w' vs hM hE hP => ?_) ?_
      rotate_left
      · (clear hP hM; go_simp; first | done | rfl)
      refine reg_value (fun _ => rfl) ?_ (fun g w' vs hM hE hP => ?_) ?_
      rotate_left
      · (clear hP hM; go_simp; first | done | rfl)
      refine reg_value (fun _ => rfl) ?_ (fun g w' vs hM hE hP => ?_) ?_
      rotate_left
      · (clear hP hM; go_simp; first | done | rfl)
      refine reg_value (fun _ => rfl) ?_ (fun g w' vs hM hE hP => ?_) ?_
      rotate_left
      · (clear hP hM; go_simp; first | done | rfl)
      refine reg_value (fun _ => rfl) ?_ (fun g w' vs hM hE hP => ?_) ?_
      rotate_left
      · (clear hP hM; go_simp; first | done | rfl)
      refine reg_value (fun _ => rfl) ?_ (fun g w' vs hM hE hP => ?_) ?_
      rotate_left
      · (clear hP hM; go_simp; first | done | rfl)
      refine reg_value (fun _ => rfl) (fun _ => .int .u8 y) (fun g1 w' m hM hE hP => ?_) ?_
      · have hm0 := hM.2 0 13 rfl (anc_of 1 (by kernel_rfl))
        obtain rfl : m = 0 := by omega
        have z : w'.cell? ⟨gb, j, none⟩ = some (.int .u8 y) := by rw [cellc (hE.2 : w'.heap[gb]? = some (.cells cur 5))]; exact HCJ.out
        clear hM hE hP
        go_simp
      refine reg_value (fun _ => rfl) ?_ (fun g w' vs hM hE hP => ?_) ?_
      rotate_left
      · (clear hP hM; go_simp; first | done | rfl)
      refine reg_value (fun _ => rfl) ?_ (fun g w' vs hM hE hP => ?_) ?_
      rotate_left
      · (clear hP hM; go_simp; first | done | rfl)
      refine reg_value (fun _ => rfl) ?_ (fun g w' vs hM hE hP => ?_) ?_
      rotate_left
      · (clear hP hM; go_simp; first | done | rfl)
      refine reg_value (fun _ => rfl) (fun _ => .int .u8 x) (fun g1 w' m hM hE hP => ?_) ?_
      · have hm0 := hM.2 0 13 rfl (anc_of 1 (by kernel_rfl))
        obtain rfl : m = 0 := by omega
        have z : w'.cell? ⟨gb, k, none⟩ = some (.int .u8 x) := by rw [cellc (hE.2 : w'.heap[gb]? = some (.cells cur 5))]; exact HCK.out
        clear hM hE hP
        go_simp
      refine reg_value (fun _ => rfl) ?_ (fun g w' vs hM hE hP => ?_) ?_
      rotate_left
      · (clear hP hM; go_simp; first | done | rfl)
      refine reg_act (fun _ => rfl) 0 rfl (fun g1 w' hE hP hF hB => ?_) ?_
      · obtain ⟨e1, e2⟩ := hE
        change w'.heap[gb]? = some (.cells cur 5) at e2
        refine ⟨.skip, undef, w'.setCell ⟨gb, k, none⟩ (.int .u8 y), ?_, .inr ⟨rfl, rfl⟩, ⟨by simp, fun b hb hb2 => heap_setCell_other _ _ _ _ (by show b ≠ gb; omega)⟩, ⟨grown_set e1, ?_⟩⟩
        · have z : w'.cell? ⟨gb, k, none⟩ = some (.int .u8 x) := by rw [cellc e2]; exact HCK.out
          have zf : w'.frozen? ⟨gb, k, none⟩ = false := by simp [World.frozen?, e2]
          clear e1 e2 hP hF hB
          go_simp
        · exact heap_setCell_same _ _ _ _ _ _ e2
      refine reg_value (fun _ => rfl) ?_ (fun g w' vs hM hE hP => ?_) ?_
      rotate_left
      · (clear hP hM; go_simp; first | done | rfl)
      refine reg_act (fun _ => rfl) 1 rfl (fun g1 w' hE hP hF hB => ?_) ?_
      · obtain ⟨e1, e2⟩ := hE
        change w'.heap[gb]? = some (.cells (cur.setIfInBounds k (.int .u8 y)) 5) at e2
        refine ⟨.skip, undef, w'.setCell ⟨gb, j, none⟩ (.int .u8 x), ?_, .inr ⟨rfl, rfl⟩, ⟨by simp, fun b hb hb2 => heap_setCell_other _ _ _ _ (by show b ≠ gb; omega)⟩, ⟨grown_set e1, ?_⟩⟩
        · have z : w'.cell? ⟨gb, j, none⟩ = some (.int .u8 y) := by rw [cellc e2, Array.getElem?_setIfInBounds_ne (by omega)]; exact HCJ.out
          have zf : w'.frozen? ⟨gb, j, none⟩ = false := by simp [World.frozen?, e2]
          clear e1 e2 hP hF hB
          go_simp
        · exact heap_setCell_same _ _ _ _ _ _ e2
      intro g6 w6 hI6 hF6 hQ6
      simp only [List.drop_succ_cons, List.drop_zero, Act.put, List.setIfInBounds_toArray, List.set_cons_succ, List.set_cons_zero]
      clear hF6 hQ6
      obtain ⟨r1, r2⟩ := hI6
      have R1 := Lib.hid r1
      have R2 := Lib.hid r2
      clear r1 r2
      go_wp2_with fail
      go_roundw
      case rel =>
       refine ⟨k + 1, _, by go_num, ?_, by omega, R2.out, by simp [HSZ2.out], R1.out, ?_⟩
       · have := HJI.out
         rw [show (n : Int) - 1 - ((k + 1 : Nat) : Int) = (j : Int) - 1 by omega]
       · intro m hm
         have hcs : cur.size = cap := HSZ2.out
         have hjv := HJ.out
         rw [Array.getElem?_setIfInBounds]
         by_cases hmj : j = m
         · subst hmj
           rw [if_pos rfl, if_pos (by simp [hcs]; omega), if_pos (by omega), show n - 1 - j = k by omega, HX.out]; rfl
         · rw [if_neg hmj, Array.getElem?_setIfInBounds]
           by_cases hmk : k = m
           · subst hmk
             rw [if_pos rfl, if_pos (by omega), if_pos (by omega), ← hjv, HY.out]; rfl
           · rw [if_neg hmk, HALL.out m hm]
             by_cases hc : m < k ∨ n - k ≤ m
             · rw [if_pos hc, if_pos (by omega)]
             · rw [if_neg hc, if_neg (by omega)]
      case measure => simp [intOf]; omega
    · have e1 : decide ((k : Int) < (n : Int) - 1 - k) = false := decide_eq_false (by omega)
      have HFIN : Hid (wr.ownsRow base 5 1 (.slice (some ⟨gb, 0, none⟩) n cap) n (xs.reverse.map encN8)) := by
       refine ⟨by simp [← HN.out], .inr ⟨gb, cap, cur, rfl, hb, hg, hnc, by unfold maxLen; omega, by rw [hsz]; simp, ?_⟩⟩
       apply List.ext_getElem?
       intro m
       rw [Nat.mul_one, List.getElem?_take]
       by_cases hm : m < n
       · rw [if_pos hm]
         have e := hall m hm
         rw [Array.getElem?_toList, e, List.getElem?_map, List.getElem?_reverse (by rw [← HN.out]; exact hm), ← HN.out]
         by_cases hc : m < k ∨ n - k ≤ m
         · rw [if_pos hc]
         · rw [if_neg hc, show n - 1 - m = m by omega]
       · rw [if_neg hm, List.getElem?_eq_none (by simp [← HN.out]; omega)]
      have HGR := Lib.hid hgr
      clear hg hsz hgr hall
      go_wp2_with fail
      go_end0
      exact ⟨rfl, HFIN.out, HGR.out⟩

def WayOk (W : List (Nat × Nat)) : Prop := ∀ i p b, 0 < i → W[i]? = some (p, b) → p < i ∧ b < 256
theorem Ways.ok {K : Type} {f : K → Nat → Option K} {L : List K} {W : List (Nat × Nat)} (h : Ways f L W) : WayOk W := fun i p b hi hw => by
 have hlt := (List.getElem?_eq_some_iff.1 hw).1
 rw [h.1] at hlt
 obtain ⟨h1, h2, -⟩ := h.2 i L[i] p b hi (List.getElem?_eq_getElem hlt) hw
 exact ⟨h1, h2⟩
theorem pathR_fuel {W : List (Nat × Nat)} (h : WayOk W) : ∀ f f' i, i ≤ f → i ≤ f' → pathR W f i = pathR W f' i
 | 0, f', i, h1, h2 => by
   have : i = 0 := by omega
   subst this
   cases f' <;> simp [pathR]
 | f + 1, 0, i, h1, h2 => by
   have : i = 0 := by omega
   subst this
   simp [pathR]
 | f + 1, f' + 1, i, h1, h2 => by
   simp only [pathR]
   by_cases hi : i = 0
   · simp [hi]
   · simp only [hi, if_false]
     cases hw : W[i]? with
     | none => rfl
     | some pb =>
       obtain ⟨p, b⟩ := pb
       have := (h i p b (by omega) hw).1
       simp only
       rw [pathR_fuel h f f' p (by omega) (by omega)]
theorem pathR_step {W : List (Nat × Nat)} (h : WayOk W) {i p b : Nat} (hi : 0 < i) (hw : W[i]? = some (p, b)) : pathR W W.length i = b :: pathR W W.length p := by
 have hlt := (List.getElem?_eq_some_iff.1 hw).1
 have hp := (h i p b hi hw).1
 obtain ⟨m, hm⟩ : ∃ m, W.length = m + 1 := ⟨W.length - 1, by omega⟩
 rw [hm]
 conv => lhs; rw [pathR]
 rw [if_neg (by omega), hw]
 simp only
 rw [pathR_fuel h m (m + 1) p (by omega) (by omega)]
theorem pathR_zero {W : List (Nat × Nat)} {f : Nat} : pathR W f 0 = [] := by cases f <;> simp [pathR]
theorem pathR_lt {W : List (Nat × Nat)} (h : WayOk W) : ∀ f i, ∀ b ∈ pathR W f i, b < 256
 | 0, i, b, hb => by simp [pathR] at hb
 | f + 1, i, b, hb => by
   rw [pathR] at hb
   by_cases hi : i = 0
   · simp [hi] at hb
   · rw [if_neg hi] at hb
     cases hw : W[i]? with
     | none => rw [hw] at hb; simp at hb
     | some pb =>
       obtain ⟨p, c⟩ := pb
       rw [hw] at hb
       rcases List.mem_cons.1 hb with rfl | hb
       · exact (h i p b (by omega) hw).2
       · exact pathR_lt h f p b hb

set_option maxRecDepth 100000 in
set_option maxHeartbeats 1600000 in
theorem text_any {w : World} {tv : Value} {i j gs mb base k : Nat} {pv wv : Value} {W : List (Nat × Nat)} (hst : w.heap[gs]? = some (.cells (srchCells tv i j pv wv mb) 141)) (hw : w.ownsRow base 185 2 wv W.length (flatW W)) (hok : WayOk W) (hk : k < W.length) (hk3 : k ≤ 30000) :
 Calls Tryz.prog 71 #[.pointer (some ⟨gs, 0, none⟩), .int .i64 k] w fun e w' => e = .returned (.string (bytesN (pathR W W.length k).reverse)) ∧ Ext w w' := by
 have c5 : w.cell? ⟨gs, 5, none⟩ = some wv := by rw [cellc hst]; rfl
 obtain ⟨x, hx⟩ : ∃ x, W[k]? = some x := ⟨_, List.getElem?_eq_getElem hk⟩
 obtain ⟨gw, wcap, rfl, hwc, hwb, hwl, -⟩ := row2_at (f := encW2) (fun _ => rfl) hw hx
 have hcells : ∀ (i p b : Nat), W[i]? = some (p, b) → w.cell? ⟨gw, i * 2, none⟩ = some (.int .i64 p) ∧ w.cell? ⟨gw, i * 2 + 1, none⟩ = some (.int .u8 b) := fun i p b hi => by
  obtain ⟨g', c', e, -, -, -, hc⟩ := row2_at (f := encW2) (fun _ => rfl) hw hi
  cases e
  exact ⟨hc 0 _ rfl, hc 1 _ rfl⟩
 have hWm : W.length ≤ 9223372036854775807 := by
  obtain ⟨g, c, e, h1, h2, -⟩ := row2_slice hw (by omega)
  unfold maxLen at h2
  omega
 have HC := Lib.hid hcells
 have HOK := Lib.hid hok
 have HX := Lib.hid hx
 have C5 := Lib.hid c5
 clear hcells hok hst hw hx c5
 go_enter Tryz.func71, Tryz.ntmps71
 go_wp2_with fail
 go_loopw [1, 5] (fun iv ov wr => ∃ (i : Nat) (acc : List Nat), iv = .int .i64 i ∧ i < W.length ∧ wr.ownsRow w.heap.size 5 1 ov acc.length (acc.map encN8) ∧ acc ++ pathR W W.length i = pathR W W.length k ∧ acc.length + i ≤ k ∧ (∀ b ∈ acc, b < 256) ∧ Ext w wr) (fun iv _ _ => (intOf iv).toNat)
 case atStart => exact ⟨k, [], rfl, hk, ⟨rfl, .inl ⟨rfl, rfl⟩⟩, rfl, by simp, by simp, (by repeat (first | exact Ext.refl _ | exact Ext.alloc _ _ | apply Ext.then_dr | apply Ext.then_drN | apply Ext.then_drN2 | (refine Ext.then_al ?_ _)))⟩
 case round =>
  obtain ⟨i, acc, rfl, hi, hO, hP, hL, hA, hE⟩ := hrel
  by_cases hpos : 0 < i
  · have e1 : decide (0 < (i : Int)) = true := decide_eq_true (by omega)
    obtain ⟨⟨p, b⟩, hpb⟩ : ∃ x, W[i]? = some x := ⟨_, List.getElem?_eq_getElem hi⟩
    obtain ⟨z0, z1⟩ := HC.out i p b hpb
    obtain ⟨hp1, hb1⟩ := HOK.out i p b hpos hpb
    have hstep := pathR_step HOK.out hpos hpb
    have k5 := cs_ext hE C5.out
    have k1 := cs_ext hE z1
    have hO4' := ownsRow_ext hO (Ext.alloc wr (.cells #[.int .u8 b] 5))
    have hlb := fun k hk => (hO.lt k hk).1
    have hsz4 := hE.size
    have HE := Lib.hid hE
    have HP := Lib.hid hP
    have HS := Lib.hid hstep
    have HA := Lib.hid hA
    have Z0 := Lib.hid z0
    have HPB := Lib.hid hpb
    have HLB := Lib.hid hlb
    clear hE hP hstep hA z0 z1 hpb hO hlb
    obtain ⟨i0, hi0, hz0, hz1, hz2⟩ := info_parts inf5
    go_wp2_with (first
     | (at_builtin; refine wpList_append_own_at _ rfl _ _ 23 rfl w.heap.size 5 i0 (.int .u8 0) 1 1 Tryz.underlying23 hi0 hz0 hz1 hz2 rfl (by decide) _ _ _ rfl hO4' ⟨wr.heap.size, 0, none⟩ 1 1 [.int .u8 b] rfl rfl (cell_one_new _ _ _) (fun x hx => by simp at hx; subst hx; rfl) (by unfold maxLen; omega) (by omega) (by simp; omega) ?_; intro v' w5 hown' hgrow5 hnil5 hat5
        have hE5 : Ext w w5 := (HE.out.then_al _).grown hgrow5 HLB.out
        have y5 := cs_ext hE5 C5.out
        have y0 := cs_ext hE5 Z0.out
        have HE5 := Lib.hid hE5
        have HO5 := Lib.hid hown'
        clear hown' hgrow5 hnil5 hat5 hE5 hO4'))
    go_roundw
    case rel => exact ⟨p, acc ++ [b], rfl, by omega, by simpa [encN8] using HO5.out, by rw [← HP.out, HS.out]; simp, by simp; omega, fun c hc => by
      rcases List.mem_append.1 hc with h | h
      · exact HA.out c h
      · simp at h; omega, HE5.out⟩
    case measure => simp [intOf]; omega
  · have hi0 : i = 0 := by omega
    subst hi0
    have hacc : acc = pathR W W.length k := by rw [← hP, pathR_zero, List.append_nil]
    have e1 : decide (0 < ((0 : Nat) : Int)) = false := by simp
    have HO := Lib.hid hO
    have HE := Lib.hid hE
    have HACC := Lib.hid hacc
    have HA := Lib.hid hA
    have HLB := Lib.hid (fun k hk => (hO.lt k hk).1)
    clear hO hP hacc hA hE
    go_wp2_with fail
    refine (reverse_any HO.out).mono ?_
    rintro e w2 ⟨rfl, hO2, hG⟩
    have hcv := bytes_back hO2 (fun b hb => HA.out b (by simpa using hb))
    have HE2 : Hid (Ext w w2) := HE.out.grown hG HLB.out
    clear hO2 hG
    go_wp2_with fail
    go_ret
    exact ⟨by rw [HACC.out]; rfl, HE2.out⟩

/-- both formats accept -/
def bothS (F G : List Fld) (p : Int × Int) : Bool := rAcc F p.1 && rAcc G p.2

/-- what Common answers -/
def CommonR (t : List Fmt) (i j : Int) (s : ByteArray) (er : Int) : Prop :=
 (errS t [i, j] ≠ 0 ∧ s = ByteArray.empty ∧ er = errS t [i, j]) ∨ (errS t [i, j] = 0 ∧ ∃ (i' j' : Nat) (fm gm : Fmt), i = i' ∧ j = j' ∧ t[i']? = some fm ∧ t[j']? = some gm ∧ VFmt t fm ∧ VFmt t gm ∧
   ((Over (stP t fm.fields gm.fields) (0, 0) ∧ s = ByteArray.empty ∧ er = 3) ∨ ∃ L Ws, Full (stP t fm.fields gm.fields) (0, 0) L ∧ L.length ≤ 20000 ∧ Ways (stP t fm.fields gm.fields) L Ws ∧
     ((∃ (k : Nat) (p : Int × Int), L[k]? = some p ∧ bothS fm.fields gm.fields p = true ∧ er = 0 ∧ s = bytesN (pathR Ws Ws.length k).reverse) ∨ ((∀ p ∈ L, bothS fm.fields gm.fields p = false) ∧ s = ByteArray.empty ∧ er = 15))))

set_option maxRecDepth 100000 in
set_option maxHeartbeats 1600000 in
theorem Common_any {w : World} {B : Nat} {a : Option Addr} {t : List Fmt} {cap : Nat} {i j : Int} (hT : TabA w B a t) (hB : B ≤ w.heap.size) (hcap : t.length ≤ cap) (hcap2 : cap ≤ 9223372036854775807) :
 Calls Tryz.prog 49 #[.slice a t.length cap, .int .i64 i, .int .i64 j] w fun e w' => ∃ s er, e = .returned (.tuple #[.string s, .int .i64 er]) ∧ Ext w w' ∧ CommonR t i j s er := by
 have hcon := product_any (i := i) (j := j) hT hB hcap hcap2
 go_enter Tryz.func49, Tryz.ntmps49
 go_wp2_with fail
 refine hcon.mono ?_
 rintro e w1 ⟨p, er, rfl, hb1, hP⟩
 have HB := Lib.hid hb1
 rcases hP with ⟨he, rfl, her⟩ | ⟨he, i', j', fm, gm, hi, hj, hfm, hgm, hVf, hVg, hR⟩
 · have e1 : (er == 0) = false := beq_eq_false_iff_ne.2 (by rw [her]; exact he)
   have HE := Lib.hid he
   have HER := Lib.hid her
   clear he her
   go_wp2_with fail
   go_ret2
   exact ⟨_, _, rfl, HB.out, .inl ⟨HE.out, rfl, HER.out⟩⟩
 · obtain ⟨f, hf⟩ : ∃ f, f = stP t fm.fields gm.fields := ⟨_, rfl⟩
   rw [← hf] at hR
   have HFF := Lib.hid hf
   have hfin : ∀ s er, ((Over f (0, 0) ∧ s = ByteArray.empty ∧ er = 3) ∨ ∃ L Ws, Full f (0, 0) L ∧ L.length ≤ 20000 ∧ Ways f L Ws ∧
    ((∃ (k : Nat) (p : Int × Int), L[k]? = some p ∧ bothS fm.fields gm.fields p = true ∧ er = 0 ∧ s = bytesN (pathR Ws Ws.length k).reverse) ∨ ((∀ p ∈ L, bothS fm.fields gm.fields p = false) ∧ s = ByteArray.empty ∧ er = 15))) → CommonR t i j s er :=
    fun s er h => .inr ⟨he, i', j', fm, gm, hi, hj, hfm, hgm, hVf, hVg, by rw [← hf]; exact h⟩
   have HFIN := Lib.hid hfin
   have hconA := fun (w' : World) (hE : Ext w1 w') (s : Int) (hs : s ≤ 9223372036854775807) => acceptsV (cap := cap) s hs (hT.ext hB (hb1.trans hE)) (by have := (hb1.trans hE).size; omega) hfm hVf
   have hconB := fun (w' : World) (hE : Ext w1 w') (s : Int) (hs : s ≤ 9223372036854775807) => acceptsV (cap := cap) s hs (hT.ext hB (hb1.trans hE)) (by have := (hb1.trans hE).size; omega) hgm hVg
   have HCA := Lib.hid hconA
   have HCB := Lib.hid hconB
   have hsm : ∀ L, Full f (0, 0) L → ∀ x ∈ L, 0 ≤ x.1 ∧ x.1 ≤ 40000000 ∧ 0 ≤ x.2 ∧ x.2 ≤ 40000000 := fun L hL x hx => by
    obtain ⟨k, rfl, -⟩ := hL
    rw [hf] at hx
    exact levP_small (by have := hVf.le; omega) (by have := hVg.le; omega) x hx
   obtain ⟨tb, toff, rfl, -⟩ := hT.2 (ne_nil_of_get hfm)
   rcases hR with ⟨hO, rfl, rfl⟩ | ⟨gs, mb, pv, wv, L, Ws, hF, hL, hW, rfl, rfl, hS⟩
   · have HO := Lib.hid hO
     clear hf hfin he hi hj hfm hgm hVf hVg hO hT hconA hconB hsm
     go_wp2_with fail
     go_ret2
     exact ⟨_, _, rfl, HB.out, HFIN.out _ _ (.inl ⟨HO.out, rfl, rfl⟩)⟩
   · have hLs := hsm L hF
     have hpos : 0 < L.length := List.length_pos_of_mem hF.start
     obtain ⟨gp, pcap, rfl, hpc, -⟩ := row2_slice hS.pairs hpos
     obtain ⟨z0, z1, z2, z3, z4, z5, z6⟩ := hS.cells
     have hcells : ∀ (k : Nat) (x : Int × Int), L[k]? = some x → w1.cell? ⟨gp, k * 2, none⟩ = some (.int .i64 x.1) ∧ w1.cell? ⟨gp, k * 2 + 1, none⟩ = some (.int .i64 x.2) := fun k x hk => by
      obtain ⟨g', c', e, -, -, -, hc⟩ := row2_at (f := encP2) (fun _ => rfl) hS.pairs hk
      cases e
      exact ⟨hc 0 _ rfl, hc 1 _ rfl⟩
     have HL := Lib.hid hL
     have HF := Lib.hid hF
     have HW := Lib.hid hW
     have HS := Lib.hid hS
     have HC := Lib.hid hcells
     have HLS := Lib.hid hLs
     have Z0 := Lib.hid z0
     have Z1 := Lib.hid z1
     have Z2 := Lib.hid z2
     have Z3 := Lib.hid z3
     have hL63 : L.length ≤ 20000 := hL
     clear hf hfin he hi hj hfm hgm hVf hVg hT hconA hconB hsm hF hL hW hS hcells hLs z0 z1 z2 z3 z5 z6 hb1
     go_wp2_with fail
     clear z4
     go_loopw [10, 11, 27] (fun _ _ kv wr => ∃ k : Nat, kv = .int .i64 k ∧ k ≤ L.length ∧ (∀ (k' : Nat) (x : Int × Int), k' < k → L[k']? = some x → bothS fm.fields gm.fields x = false) ∧ Ext w1 wr) (fun _ _ kv _ => L.length - (intOf kv).toNat)
     case atStart => exact ⟨0, rfl, by omega, fun k' x h => by omega, Ext.refl _⟩
     case round =>
      obtain ⟨k, rfl, hk, hall, hE⟩ := hrel
      have HALL := Lib.hid hall; clear hall
      by_cases hlt : k < L.length
      · obtain ⟨x, hx⟩ : ∃ x, L[k]? = some x := ⟨_, List.getElem?_eq_getElem hlt⟩
        obtain ⟨y0, y1⟩ := HC.out k x hx
        have y0 := cs_ext hE y0
        have y1 := cs_ext hE y1
        have hxs := HLS.out x (List.mem_of_getElem? hx)
        have HX := Lib.hid hx; clear hx
        obtain ⟨b1, hb1⟩ : ∃ b1, b1 = rAcc fm.fields x.1 := ⟨_, rfl⟩
        obtain ⟨b2, hb2⟩ : ∃ b2, b2 = rAcc gm.fields x.2 := ⟨_, rfl⟩
        have hc1 := fun (w' : World) (h : Ext w1 w') => HCA.out w' h x.1 (by omega)
        have hc2 := fun (w' : World) (h : Ext w1 w') => HCB.out w' h x.2 (by omega)
        rw [← hb1] at hc1
        rw [← hb2] at hc2
        have HBO : Hid (bothS fm.fields gm.fields x = (b1 && b2)) := by show _ = _; rw [bothS, ← hb1, ← hb2]
        have HC1 := Lib.hid hc1
        have HC2 := Lib.hid hc2
        clear hc1 hc2 hb1 hb2
        have HE := Lib.hid hE
        go_wp2_with fail
        obtain ⟨wq, hwq⟩ : ∃ wq, wq = wr.alloc (Obj.cells #[Value.int IntKind.i64 x.1, Value.int IntKind.i64 x.2] 143) := ⟨_, rfl⟩
        obtain ⟨xb, hxb⟩ : ∃ xb, xb = wr.heap.size := ⟨_, rfl⟩
        have m0 : wq.cell? ⟨xb, 0, none⟩ = some (.int .i64 x.1) := by rw [hwq, hxb]; exact cs_new rfl
        have m1 : wq.cell? ⟨xb, 1, none⟩ = some (.int .i64 x.2) := by rw [hwq, hxb]; exact cs_new rfl
        have hEq : Ext w1 wq := by rw [hwq]; exact HE.out.then_al _
        rw [← hwq, ← hxb]
        have k0 := cs_ext hEq Z0.out
        have k1 := cs_ext hEq Z1.out
        have k2 := cs_ext hEq Z2.out
        have k3 := cs_ext hEq Z3.out
        have HEQ := Lib.hid hEq
        clear hwq hxb hEq y0 y1 hE
        cases b1
        · have HB0 : Hid (bothS fm.fields gm.fields x = false) := by show _ = _; rw [HBO.out]; rfl
          have HFCT := Lib.hid (And.intro k0 (And.intro k1 (And.intro k2 (And.intro k3 (And.intro m0 m1)))))
          refine wp_region_reg 16 false (by kernel_rfl) (by kernel_rfl) ?_
          refine reg_value (fun _ => rfl) ?_ (fun g w' vs hM hE hP => ?_) ?_
          rotate_left
          · (clear hP hM; have ⟨z0, z1, z2, z3, z4, z5⟩ := cs_e6 hE HFCT.out; go_simp; first | done | rfl)
          refine reg_value (fun _ => rfl) ?_ (fun g w' vs hM hE hP => ?_) ?_
          rotate_left
          · (clear hP hM; have ⟨z0, z1, z2, z3, z4, z5⟩ := cs_e6 hE HFCT.out; go_simp; first | done | rfl)
          refine reg_value (fun _ => rfl) ?_ (fun g w' vs hM hE hP => ?_) ?_
          rotate_left
          · (clear hP hM; have ⟨z0, z1, z2, z3, z4, z5⟩ := cs_e6 hE HFCT.out; go_simp; first | done | rfl)
          refine reg_value (fun _ => rfl) ?_ (fun g w' vs hM hE hP => ?_) ?_
          rotate_left
          · (clear hP hM; have ⟨z0, z1, z2, z3, z4, z5⟩ := cs_e6 hE HFCT.out; go_simp; first | done | rfl)
          refine reg_value (fun _ => rfl) ?_ (fun g w' vs hM hE hP => ?_) ?_
          rotate_left
          · (clear hP hM; have ⟨z0, z1, z2, z3, z4, z5⟩ := cs_e6 hE HFCT.out; go_simp; first | done | rfl)
          refine reg_value (fun _ => rfl) ?_ (fun g w' vs hM hE hP => ?_) ?_
          rotate_left
          · (clear hP hM; have ⟨z0, z1, z2, z3, z4, z5⟩ := cs_e6 hE HFCT.out; go_simp; first | done | rfl)
          refine reg_const (fun _ => rfl) 69 ?_ (fun g w' vs hM hE hP => ?_) ?_
          rotate_left
          · (clear hP hM; have ⟨z0, z1, z2, z3, z4, z5⟩ := cs_e6 hE HFCT.out; go_simp; first | done | exact ⟨rfl, rfl⟩ | rfl)
          apply Exists.intro
          refine And.intro (fun g w' vs hM hE hP => ?_) ?_
          · exact HC1.out _ (HEQ.out.trans hE)
          refine reg_value (fun _ => rfl) ?_ (fun g w' vs hM hE hP => ?_) ?_
          rotate_left
          · (clear hP hM; have ⟨z0, z1, z2, z3, z4, z5⟩ := cs_e6 hE HFCT.out; go_simp; first | done | rfl)
          refine reg_skip (fun g => by go_simp; first | done | (intro h; cases h) | simp [undef]) ?_
          refine reg_skip (fun g => by go_simp; first | done | (intro h; cases h) | simp [undef]) ?_
          refine reg_skip (fun g => by go_simp; first | done | (intro h; cases h) | simp [undef]) ?_
          refine reg_skip (fun g => by go_simp; first | done | (intro h; cases h) | simp [undef]) ?_
          refine reg_skip (fun g => by go_simp; first | done | (intro h; cases h) | simp [undef]) ?_
          refine reg_skip (fun g => by go_simp; first | done | (intro h; cases h) | simp [undef]) ?_
          refine reg_skip (fun g => by go_simp; first | done | (intro h; cases h) | simp [undef]) ?_
          refine reg_value (fun _ => rfl) ?_ (fun g w' vs hM hE hP => ?_) ?_
          rotate_left
          · (clear hP hM; have ⟨z0, z1, z2, z3, z4, z5⟩ := cs_e6 hE HFCT.out; go_simp; first | done | rfl)
          intro g wz hE2 hF hQ
          simp only [List.drop_succ_cons, List.drop_zero, Act.put, List.setIfInBounds_toArray, List.set_cons_succ, List.set_cons_zero]
          clear hF hQ k0 k1 k2 k3 m0 m1
          have HE3 := Lib.hid (HEQ.out.trans hE2)
          clear hE2
          go_wp2_with fail
          go_roundw
          case rel => exact ⟨k + 1, by go_num, by omega, fun k' y h hy => by
            rcases Nat.lt_or_ge k' k with h' | h'
            · exact HALL.out k' y h' hy
            · have : k' = k := by omega
              subst this
              rw [HX.out] at hy; cases hy; exact HB0.out, HE3.out⟩
          case measure => simp [intOf]; omega
        · have HB0 : Hid (bothS fm.fields gm.fields x = b2) := by show _ = _; rw [HBO.out]; rfl
          have HFCT := Lib.hid (And.intro k0 (And.intro k1 (And.intro k2 (And.intro k3 (And.intro m0 m1)))))
          refine wp_region_reg 16 false (by kernel_rfl) (by kernel_rfl) ?_
          refine reg_value (fun _ => rfl) ?_ (fun g w' vs hM hE hP => ?_) ?_
          rotate_left
          · (clear hP hM; have ⟨z0, z1, z2, z3, z4, z5⟩ := cs_e6 hE HFCT.out; go_simp; first | done | rfl)
          refine reg_value (fun _ => rfl) ?_ (fun g w' vs hM hE hP => ?_) ?_
          rotate_left
          · (clear hP hM; have ⟨z0, z1, z2, z3, z4, z5⟩ := cs_e6 hE HFCT.out; go_simp; first | done | rfl)
          refine reg_value (fun _ => rfl) ?_ (fun g w' vs hM hE hP => ?_) ?_
          rotate_left
          · (clear hP hM; have ⟨z0, z1, z2, z3, z4, z5⟩ := cs_e6 hE HFCT.out; go_simp; first | done | rfl)
          refine reg_value (fun _ => rfl) ?_ (fun g w' vs hM hE hP => ?_) ?_
          rotate_left
          · (clear hP hM; have ⟨z0, z1, z2, z3, z4, z5⟩ := cs_e6 hE HFCT.out; go_simp; first | done | rfl)
          refine reg_value (fun _ => rfl) ?_ (fun g w' vs hM hE hP => ?_) ?_
          rotate_left
          · (clear hP hM; have ⟨z0, z1, z2, z3, z4, z5⟩ := cs_e6 hE HFCT.out; go_simp; first | done | rfl)
          refine reg_value (fun _ => rfl) ?_ (fun g w' vs hM hE hP => ?_) ?_
          rotate_left
          · (clear hP hM; have ⟨z0, z1, z2, z3, z4, z5⟩ := cs_e6 hE HFCT.out; go_simp; first | done | rfl)
          refine reg_const (fun _ => rfl) 69 ?_ (fun g w' vs hM hE hP => ?_) ?_
          rotate_left
          · (clear hP hM; have ⟨z0, z1, z2, z3, z4, z5⟩ := cs_e6 hE HFCT.out; go_simp; first | done | exact ⟨rfl, rfl⟩ | rfl)
          apply Exists.intro
          refine And.intro (fun g w' vs hM hE hP => ?_) ?_
          · exact HC1.out _ (HEQ.out.trans hE)
          refine reg_value (fun _ => rfl) ?_ (fun g w' vs hM hE hP => ?_) ?_
          rotate_left
          · (clear hP hM; have ⟨z0, z1, z2, z3, z4, z5⟩ := cs_e6 hE HFCT.out; go_simp; first | done | rfl)
          refine reg_value (fun g => by go_simp) ?_ (fun g w' vs hM hE hP => ?_) ?_
          rotate_left
          · (clear hP hM; have ⟨z0, z1, z2, z3, z4, z5⟩ := cs_e6 hE HFCT.out; go_simp; first | done | rfl)
          refine reg_value (fun g => by go_simp) ?_ (fun g w' vs hM hE hP => ?_) ?_
          rotate_left
          · (clear hP hM; have ⟨z0, z1, z2, z3, z4, z5⟩ := cs_e6 hE HFCT.out; go_simp; first | done | rfl)
          refine reg_value (fun g => by go_simp) ?_ (fun g w' vs hM hE hP => ?_) ?_
          rotate_left
          · (clear hP hM; have ⟨z0, z1, z2, z3, z4, z5⟩ := cs_e6 hE HFCT.out; go_simp; first | done | rfl)
          refine reg_value (fun g => by go_simp) ?_ (fun g w' vs hM hE hP => ?_) ?_
          rotate_left
          · (clear hP hM; have ⟨z0, z1, z2, z3, z4, z5⟩ := cs_e6 hE HFCT.out; go_simp; first | done | rfl)
          refine reg_value (fun g => by go_simp) ?_ (fun g w' vs hM hE hP => ?_) ?_
          rotate_left
          · (clear hP hM; have ⟨z0, z1, z2, z3, z4, z5⟩ := cs_e6 hE HFCT.out; go_simp; first | done | rfl)
          refine reg_value (fun g => by go_simp) ?_ (fun g w' vs hM hE hP => ?_) ?_
          rotate_left
          · (clear hP hM; have ⟨z0, z1, z2, z3, z4, z5⟩ := cs_e6 hE HFCT.out; go_simp; first | done | rfl)
          refine reg_const (fun g => by go_simp) 69 ?_ (fun g w' vs hM hE hP => ?_) ?_
          rotate_left
          · (clear hP hM; have ⟨z0, z1, z2, z3, z4, z5⟩ := cs_e6 hE HFCT.out; go_simp; first | done | exact ⟨rfl, rfl⟩ | rfl)
          apply Exists.intro
          refine And.intro (fun g w' vs hM hE hP => ?_) ?_
          · exact HC2.out _ (HEQ.out.trans hE)
          refine reg_value (fun _ => rfl) ?_ (fun g w' vs hM hE hP => ?_) ?_
          rotate_left
          · (clear hP hM; have ⟨z0, z1, z2, z3, z4, z5⟩ := cs_e6 hE HFCT.out; go_simp; first | done | rfl)
          intro g wz hE2 hF hQ
          simp only [List.drop_succ_cons, List.drop_zero, Act.put, List.setIfInBounds_toArray, List.set_cons_succ, List.set_cons_zero]
          clear hF hQ k0 k1 k2 k3 m0 m1
          have HE3 := Lib.hid (HEQ.out.trans hE2)
          clear hE2
          cases b2
          · go_wp2_with fail
            go_roundw
            case rel => exact ⟨k + 1, by go_num, by omega, fun k' y h hy => by
              rcases Nat.lt_or_ge k' k with h' | h'
              · exact HALL.out k' y h' hy
              · have : k' = k := by omega
                subst this
                rw [HX.out] at hy; cases hy; exact HB0.out, HE3.out⟩
            case measure => simp [intOf]; omega
          · have hcon3 := text_any (k := k) (hs_ext HE3.out HS.out.st) (ownsRow_ext HS.out.ways HE3.out) HW.out.ok (by rw [HW.out.1]; omega) (by omega)
            have HC3 := Lib.hid hcon3
            clear hcon3
            go_wp2_with fail
            refine HC3.out.mono ?_
            rintro e w4 ⟨rfl, hE4⟩
            have HE4 := Lib.hid hE4
            clear hE4
            go_wp2_with fail
            go_ret2
            exact ⟨_, _, rfl, HB.out.trans (HE3.out.trans HE4.out), HFIN.out _ _ (.inr ⟨L, Ws, HF.out, HL.out, HW.out, .inl ⟨k, x, HX.out, HB0.out, rfl, rfl⟩⟩)⟩
      · have hkl : k = L.length := by omega
        have HKL := Lib.hid hkl
        have HE := Lib.hid hE
        clear hkl hE
        go_wp2_with fail
        go_ret2
        exact ⟨_, _, rfl, HB.out.trans HE.out, HFIN.out _ _ (.inr ⟨L, Ws, HF.out, HL.out, HW.out, .inr ⟨fun p hp => by
         obtain ⟨k', hk'⟩ := List.mem_iff_getElem?.1 hp
         exact HALL.out k' p (by have := (List.getElem?_eq_some_iff.1 hk').1; have := HKL.out; omega) hk', rfl, rfl⟩⟩)⟩

theorem run_head {K : Type} {f : K → Nat → Option K} {x y : K} {b : Nat} {l : List Nat} (h : runF f x (b :: l) = some y) : ∃ z, f x b = some z ∧ runF f z l = some y := by
 simp only [runF] at h
 cases hz : f x b with
 | none => rw [hz] at h; cases h
 | some z => rw [hz] at h; exact ⟨z, rfl, by simpa using h⟩

theorem stepK_ge (x : Fld) {f r b : Nat} : -1 ≤ stepK x f r b := by
 unfold stepK cntD lftS stS
 (repeat' split) <;> omega
theorem rStep_ge {t : List Fmt} {F : List Fld} {s : Int} {b : Nat} : -1 ≤ rStep t F s b := by
 unfold rStep
 split
 · omega
 · split
   · omega
   · rename_i x hx
     split
     · unfold rNest
       split
       · split
         · omega
         · unfold stS; omega
       · split
         · omega
         · split
           · omega
           · rename_i y hy
             have hk := stepK_ge y (f := (s % 256).toNat / 32) (r := (s % 256).toNat % 32) (b := b)
             generalize stepK y ((s % 256).toNat / 32) ((s % 256).toNat % 32) b = v at *
             (repeat' split) <;> (first | omega | (unfold stS at *; omega))
     · split
       · omega
       · exact stepK_ge x

def bytesL (s : ByteArray) : List Nat := s.data.toList.map (·.toNat)
/-- whether a string belongs to a format -/
def belS (t : List Fmt) (F : List Fld) (s : ByteArray) : Bool := match runF (stF t F) 0 (bytesL s) with | some y => rAcc F y | none => false

theorem bytesL_len (s : ByteArray) : (bytesL s).length = s.size := by
 rw [bytesL, List.length_map, Array.length_toList]
 rfl
theorem bytesL_get {s : ByteArray} {k : Nat} (h : k < s.size) : (bytesL s)[k]? = some (s[k].toNat) := by
 have h' : k < s.data.size := h
 rw [bytesL, List.getElem?_map, Array.getElem?_toList, Array.getElem?_eq_getElem h']
 rfl
theorem bytesL_lt (s : ByteArray) : ∀ b ∈ bytesL s, b < 256 := by
 intro b hb
 simp [bytesL] at hb
 obtain ⟨c, -, rfl⟩ := hb
 exact c.toNat_lt
theorem bytesN_L {l : List Nat} (h : ∀ b ∈ l, b < 256) : bytesL (bytesN l) = l := by
 simp only [bytesL, bytesN, List.map_map]
 rw [List.map_congr_left (g := id) (fun b hb => by have := h b hb; simp; omega)]
 simp

theorem run_pair {t : List Fmt} {F G : List Fld} : ∀ (l : List Nat) (x y : Int × Int), runF (stP t F G) x l = some y → runF (stF t F) x.1 l = some y.1 ∧ runF (stF t G) x.2 l = some y.2
 | [], x, y, h => by simp [runF] at h; subst h; exact ⟨rfl, rfl⟩
 | b :: l, x, y, h => by
   obtain ⟨z, h1, h2⟩ := run_head h
   unfold stP at h1
   split at h1
   · cases h1
   · rename_i hn
     simp only [not_or] at hn
     cases h1
     obtain ⟨h3, h4⟩ := run_pair l _ y h2
     simp only [runF, stF, if_neg hn.1, if_neg hn.2, Option.bind_some]
     exact ⟨h3, h4⟩
theorem bel_path {t : List Fmt} {F G : List Fld} {l : List Nat} {p : Int × Int} (hl : ∀ b ∈ l, b < 256) (h : runF (stP t F G) (0, 0) l = some p) (hp : bothS F G p = true) : belS t F (bytesN l) = true ∧ belS t G (bytesN l) = true := by
 obtain ⟨h1, h2⟩ := run_pair l _ _ h
 unfold bothS at hp
 rw [Bool.and_eq_true] at hp
 unfold belS
 rw [bytesN_L hl, h1, h2]
 exact hp

section
variable {K : Type} [DecidableEq K] {f : K → Nat → Option K} {s : K}
theorem row_from {L : List K} {x p : K} : ∀ c, p ∈ rowS f L x c → p ∈ L ∨ ∃ b, b < c ∧ f x b = some p
 | 0, h => .inl (by rw [rowS_zero] at h; exact h)
 | c + 1, h => by
   rw [rowS_succ] at h
   have ih := row_from (L := L) (x := x) (p := p) c
   cases hn : f x c with
   | none => rw [tick_none hn] at h; rcases ih h with h | ⟨b, hb, hf⟩; exact .inl h; exact .inr ⟨b, by omega, hf⟩
   | some n =>
     by_cases hm : n ∈ rowS f L x c
     · rw [tick_old hn hm] at h; rcases ih h with h | ⟨b, hb, hf⟩; exact .inl h; exact .inr ⟨b, by omega, hf⟩
     · rw [tick_new hn hm, List.mem_append] at h
       rcases h with h | h
       · rcases ih h with h | ⟨b, hb, hf⟩; exact .inl h; exact .inr ⟨b, by omega, hf⟩
       · simp at h; subst h; exact .inr ⟨c, by omega, hn⟩
theorem lev_reach : ∀ k, ∀ p ∈ lev f s k, ∃ r, runF f s r = some p ∧ ∀ b ∈ r, b < 256
 | 0, p, h => by simp [lev] at h; subst h; exact ⟨[], rfl, by simp⟩
 | k + 1, p, h => by
   cases hk : (lev f s k)[k]? with
   | none => rw [lev_stuck hk] at h; exact lev_reach k p h
   | some x =>
     rw [lev_succ hk] at h
     rcases row_from 256 h with h | ⟨b, hb, hf⟩
     · exact lev_reach k p h
     · obtain ⟨r, h1, h2⟩ := lev_reach k x (List.mem_of_getElem? hk)
       refine ⟨r ++ [b], by rw [runF_append, h1]; simp [runF, hf], fun c hc => ?_⟩
       rcases List.mem_append.1 hc with hc | hc
       · exact h2 c hc
       · simp at hc; omega
theorem Full.reach {L : List K} {p : K} (h : Full f s L) (hp : p ∈ L) : ∃ r, runF f s r = some p ∧ ∀ b ∈ r, b < 256 := by
 obtain ⟨k, rfl, -⟩ := h
 exact lev_reach k p hp
end
theorem run_in {K : Type} {f : K → Nat → Option K} {L : List K} (hc : ∀ p ∈ L, ∀ c < 256, ∀ n, f p c = some n → n ∈ L) : ∀ (l : List Nat) (x y : K), x ∈ L → (∀ b ∈ l, b < 256) → runF f x l = some y → y ∈ L
 | [], x, y, hx, _, e => by cases e; exact hx
 | b :: l, x, y, hx, hl, e => by
   obtain ⟨z, h1, h2⟩ := run_head e
   exact run_in hc l z y (hc x hx b (hl b (by simp)) z h1) (fun c hc => hl c (by simp [hc])) h2

theorem stF_inv {t : List Fmt} {F : List Fld} {s z : Int} {b : Nat} (h : stF t F s b = some z) : z = rStep t F s b ∧ ¬ rStep t F s b < 0 := by
 unfold stF at h
 split at h
 · cases h
 · cases h; exact ⟨rfl, ‹_›⟩
theorem pair_run {t : List Fmt} {F G : List Fld} : ∀ (l : List Nat) (x : Int × Int) (y1 y2 : Int), runF (stF t F) x.1 l = some y1 → runF (stF t G) x.2 l = some y2 → runF (stP t F G) x l = some (y1, y2)
 | [], x, y1, y2, h1, h2 => by cases h1; cases h2; rfl
 | b :: l, x, y1, y2, h1, h2 => by
   obtain ⟨z1, a1, b1⟩ := run_head h1
   obtain ⟨z2, a2, b2⟩ := run_head h2
   obtain ⟨rfl, n1⟩ := stF_inv a1
   obtain ⟨rfl, n2⟩ := stF_inv a2
   have h := pair_run l (rStep t F x.1 b, rStep t G x.2 b) y1 y2 b1 b2
   simp only [runF, stP, if_neg (not_or.2 ⟨n1, n2⟩), Option.bind_some]
   exact h
theorem bel_run {t : List Fmt} {F : List Fld} {s : ByteArray} (h : belS t F s = true) : ∃ y, runF (stF t F) 0 (bytesL s) = some y ∧ rAcc F y = true := by
 unfold belS at h
 cases hy : runF (stF t F) 0 (bytesL s) with
 | none => rw [hy] at h; cases h
 | some y => rw [hy] at h; exact ⟨y, rfl, h⟩
theorem bel_both {t : List Fmt} {F G : List Fld} {s : ByteArray} (h1 : belS t F s = true) (h2 : belS t G s = true) : ∃ p, runF (stP t F G) (0, 0) (bytesL s) = some p ∧ bothS F G p = true := by
 obtain ⟨y1, a1, b1⟩ := bel_run h1
 obtain ⟨y2, a2, b2⟩ := bel_run h2
 exact ⟨(y1, y2), pair_run _ (0, 0) _ _ a1 a2, by unfold bothS; rw [b1, b2]; rfl⟩

/-- tagged formats -/
def TagP (t : List Fmt) : Prop :=
 (∀ (i : Nat) fm, t[i]? = some fm → ∃ x, fm.fields[0]? = some x ∧ x.kind = 1) ∧
 ∀ (k i : Nat) fk fi xk xi, k < i → t[k]? = some fk → t[i]? = some fi → fk.fields[0]? = some xk → fi.fields[0]? = some xi → xi.bytes.size = xk.bytes.size ∧ xi.bytes ≠ xk.bytes

theorem tag_end {F : List Fld} {x : Fld} (hF : F[0]? = some x) (hk : x.kind = 1) {r : Nat} (h8 : r < 8) : rAcc F (r * 256 : Nat) = false := by
 have hl : F.length ≠ 0 := by have := (List.getElem?_eq_some_iff.1 hF).1; omega
 have e1 : (((r * 256 : Nat) : Int) / 262144).toNat = 0 := by omega
 unfold rAcc
 split
 · rfl
 · rw [e1, if_neg (fun h => hl h.symm), hF]
   simp [hk]
theorem tag_step {t : List Fmt} {F : List Fld} {x : Fld} (hF : F[0]? = some x) (hk : x.kind = 1) {r b : Nat} (h8 : r < 8) (hn : ¬ rStep t F (r * 256 : Nat) b < 0) : rStep t F (r * 256 : Nat) b = if (x.bytes.data.toList.getD r 0).toNat = b then cntD 0 r x.bytes.size else -1 := by
 have e1 : (((r * 256 : Nat) : Int) / 262144).toNat = 0 := by omega
 have e2 : (((r * 256 : Nat) : Int) / 256 % 1024).toNat = r := by omega
 have e3 : ((r * 256 : Nat) : Int) % 256 = 0 := by omega
 unfold rStep at hn ⊢
 rw [if_neg (by omega), e1, hF] at hn ⊢
 simp only [hk, e2, e3] at hn ⊢
 rw [if_neg (by omega)] at hn ⊢
 split at hn
 · omega
 · rename_i hc
   rw [if_neg hc]
   unfold stepK
   rw [if_pos hk]
   rfl
theorem tag_cnt {r n : Nat} (h : r + 1 < n) : cntD 0 r n = ((r + 1) * 256 : Nat) := by
 unfold cntD stS
 rw [if_neg (by omega)]
 omega
theorem tag_head {t : List Fmt} {F : List Fld} {x : Fld} (hF : F[0]? = some x) (hk : x.kind = 1) (h8 : x.bytes.size ≤ 8) (l : List Nat) : ∀ (r : Nat) (y : Int), r < x.bytes.size → runF (stF t F) (r * 256 : Nat) l = some y → rAcc F y = true → ∀ k, r + k < x.bytes.size → l[k]? = some (x.bytes.data.toList.getD (r + k) 0).toNat := by
 induction l with
 | nil =>
   intro r y hr h ha
   simp only [runF, Option.some.injEq] at h
   rw [← h, tag_end hF hk (by omega)] at ha
   cases ha
 | cons b l ih =>
   intro r y hr h ha
   obtain ⟨z, h1, h2⟩ := run_head h
   obtain ⟨rfl, hn⟩ := stF_inv h1
   have hz := tag_step hF hk (by omega) hn
   rw [hz] at hn h2
   by_cases hb : (x.bytes.data.toList.getD r 0).toNat = b
   · rw [if_pos hb] at h2
     intro k hk2
     match k, hk2 with
     | 0, _ => rw [Nat.add_zero, hb]; rfl
     | k + 1, hk2 =>
       rw [tag_cnt (by omega)] at h2
       have := ih (r + 1) y (by omega) h2 ha k (by omega)
       rw [show r + (k + 1) = r + 1 + k by omega, List.getElem?_cons_succ]
       exact this
   · rw [if_neg hb] at hn
     omega

theorem tag_no {t : List Fmt} {i j : Nat} {fm gm : Fmt} {s : ByteArray} (h : TagP t) (hij : i < j) (hi : t[i]? = some fm) (hj : t[j]? = some gm) (hVf : VFmt t fm) (hVg : VFmt t gm) (h1 : belS t fm.fields s = true) (h2 : belS t gm.fields s = true) : False := by
 obtain ⟨x, hx, hxk⟩ := h.1 i fm hi
 obtain ⟨y, hy, hyk⟩ := h.1 j gm hj
 obtain ⟨hs, hne⟩ := h.2 i j fm gm x y hij hi hj hx hy
 have b1 : 1 ≤ x.bytes.size ∧ x.bytes.size ≤ 8 := by
  rcases hVf.fld 0 x hx with h | h | h | h | h | h <;> first | exact ⟨h.2.1, h.2.2⟩ | (have := h.1; omega)
 obtain ⟨z1, a1, c1⟩ := bel_run h1
 obtain ⟨z2, a2, c2⟩ := bel_run h2
 have g1 := tag_head hx hxk b1.2 _ 0 z1 (by omega) (by simpa using a1) c1
 have g2 := tag_head hy hyk (by omega) _ 0 z2 (by omega) (by simpa using a2) c2
 apply hne
 apply ByteArray.ext
 apply Array.ext'
 apply List.ext_getElem?
 intro k
 have hsz : ∀ b : ByteArray, b.data.toList.length = b.size := fun b => by rw [Array.length_toList]; rfl
 by_cases hk : k < x.bytes.size
 · have k1 := g1 k (by omega)
   have k2 := g2 k (by omega)
   rw [k1] at k2
   simp only [Nat.zero_add, Option.some.injEq] at k2
   rw [List.getElem?_eq_getElem (by rw [hsz]; omega), List.getElem?_eq_getElem (by rw [hsz]; omega)]
   simp only [List.getD_eq_getElem?_getD, List.getElem?_eq_getElem (show k < x.bytes.data.toList.length by rw [hsz]; omega), List.getElem?_eq_getElem (show k < y.bytes.data.toList.length by rw [hsz]; omega), Option.getD_some] at k2
   rw [UInt8.toNat_inj.1 k2]
 · rw [List.getElem?_eq_none (by rw [hsz]; omega), List.getElem?_eq_none (by rw [hsz]; omega)]

/-- what is said of a pair of formats: 0 a common string, 15 none, 3 too large -/
def Oc (t : List Fmt) (i j : Nat) (v : Int) : Prop := ∃ fm gm, t[i]? = some fm ∧ t[j]? = some gm ∧ VFmt t fm ∧ VFmt t gm ∧
 ((Over (stP t fm.fields gm.fields) (0, 0) ∧ v = 3) ∨ ∃ L, Full (stP t fm.fields gm.fields) (0, 0) L ∧ L.length ≤ 20000 ∧ (((∃ p ∈ L, bothS fm.fields gm.fields p = true) ∧ v = 0) ∨ ((∀ p ∈ L, bothS fm.fields gm.fields p = false) ∧ v = 15)))

theorem errS_in {t : List Fmt} (hv : validF t = 0) {i j : Nat} (hi : i < t.length) (hj : j < t.length) : errS t [(i : Int), (j : Int)] = 0 := by
 unfold errS
 rw [if_neg (by rw [hv]; simp), if_neg]
 simp [badIx]
 omega

theorem oc_common {t : List Fmt} {i j : Nat} {s : ByteArray} {er : Int} (hz : errS t [(i : Int), (j : Int)] = 0) (h : CommonR t i j s er) : Oc t i j er := by
 rcases h with ⟨h1, -, -⟩ | ⟨-, i', j', fm', gm', hi', hj', hfm, hgm, hVf, hVg, h⟩
 · exact absurd hz h1
 · have e1 : i' = i := by omega
   have e2 : j' = j := by omega
   subst e1 e2
   refine ⟨fm', gm', hfm, hgm, hVf, hVg, ?_⟩
   rcases h with ⟨h1, -, h4⟩ | ⟨L, Ws, hF, hL, hW, h⟩
   · exact .inl ⟨h1, h4⟩
   · refine .inr ⟨L, hF, hL, ?_⟩
     rcases h with ⟨kk, p, hk, hp, h5, h6⟩ | ⟨h5, h6, h7⟩
     · exact .inl ⟨⟨p, List.mem_of_getElem? hk, hp⟩, h5⟩
     · exact .inr ⟨h5, h7⟩
/-- all pairs ahead of i, j are disjoint -/
def BeforeS (t : List Fmt) (i j : Nat) : Prop := ∀ i' j' : Nat, i' < j' → j' < t.length → (i' < i ∨ i' = i ∧ j' < j) → Oc t i' j' 15
theorem BeforeS.in_ {t : List Fmt} {i : Nat} (h : BeforeS t i 0) : BeforeS t i (i + 1) := fun i' j' h1 h2 h3 => h i' j' h1 h2 (by omega)
theorem BeforeS.next {t : List Fmt} {i j : Nat} (h : BeforeS t i j) (ho : Oc t i j 15) : BeforeS t i (j + 1) := fun i' j' h1 h2 h3 => by
 by_cases e : i' = i ∧ j' = j
 · obtain ⟨rfl, rfl⟩ := e; exact ho
 · exact h i' j' h1 h2 (by omega)
theorem BeforeS.out_ {t : List Fmt} {i j : Nat} (h : BeforeS t i j) (hj : t.length ≤ j) : BeforeS t (i + 1) 0 := fun i' j' h1 h2 h3 => h i' j' h1 h2 (by omega)
theorem BeforeS.start {t : List Fmt} : BeforeS t 0 0 := fun i' j' h1 h2 h3 => by omega

/-- what All answers -/
def AllR (t : List Fmt) (k l e : Int) : Prop :=
 (validF t ≠ 0 ∧ k = 0 ∧ l = 0 ∧ e = validF t) ∨ (validF t = 0 ∧ ((∃ (i j : Nat) (v : Int), i < j ∧ j < t.length ∧ BeforeS t i j ∧ Oc t i j v ∧ ((v = 0 ∧ k = i ∧ l = j ∧ e = 0) ∨ (v = 3 ∧ k = 0 ∧ l = 0 ∧ e = 3))) ∨ (BeforeS t t.length 0 ∧ k = 0 ∧ l = 0 ∧ e = 15)))

theorem all_tagged {t : List Fmt} {k l e : Int} (h : AllR t k l e) (hv : validF t = 0) (ht : TagP t) : e = 15 ∨ e = 3 := by
 rcases h with ⟨h, -⟩ | ⟨-, h⟩
 · exact absurd hv h
 · rcases h with ⟨i, j, v, hij, hj, hB, hO, h⟩ | ⟨hB, rfl, rfl, rfl⟩
   · rcases h with ⟨rfl, -, -, rfl⟩ | ⟨-, -, -, rfl⟩
     · exfalso
       obtain ⟨fm, gm, h1, h2, h3, h4, h5⟩ := hO
       rcases h5 with ⟨-, h5⟩ | ⟨L, hF, hL, h5⟩
       · omega
       · rcases h5 with ⟨⟨p, hp, hb⟩, -⟩ | ⟨-, h5⟩
         · obtain ⟨r, hr1, hr2⟩ := hF.reach hp
           obtain ⟨b1, b2⟩ := bel_path hr2 hr1 hb
           exact tag_no ht hij h1 h2 h3 h4 b1 b2
         · omega
     · exact .inr rfl
   · exact .inl rfl

set_option maxRecDepth 100000 in
set_option maxHeartbeats 1600000 in
theorem All_any {w : World} {B : Nat} {a : Option Addr} {t : List Fmt} {cap : Nat} (hT : TabA w B a t) (hB : B ≤ w.heap.size) (hcap : t.length ≤ cap) (hcap2 : cap ≤ 9223372036854775807) :
 Calls Tryz.prog 23 #[.slice a t.length cap] w fun e w' => ∃ k l er, e = .returned (.tuple #[.int .i64 k, .int .i64 l, .int .i64 er]) ∧ Ext w w' ∧ AllR t k l er := by
 have hn63 := hT.1
 unfold maxLen at hn63
 obtain ⟨v0, hv0⟩ : ∃ v0, v0 = validF t := ⟨_, rfl⟩
 have HV0 := Lib.hid hv0
 have hcon := FValid_any hT hB hcap hcap2
 rw [← hv0] at hcon
 have HC := Lib.hid (fun (w' : World) (hE : Ext w w') (i j : Int) => Common_any (i := i) (j := j) (hT.ext hB hE) (by have := hE.size; omega) hcap hcap2)
 have HT := Lib.hid hT
 clear hv0 hT
 go_enter Tryz.func23, Tryz.ntmps23
 go_wp2_with fail
 refine hcon.mono ?_
 rintro e w1 ⟨rfl, hE1⟩
 have HE1 := Lib.hid hE1
 clear hE1 hcon
 by_cases hz : v0 = 0
 · subst hz
   have hvz := HV0.out.symm
   have HOK := Lib.hid (fun (i j : Nat) (hi : i < t.length) (hj : j < t.length) => errS_in hvz hi hj)
   clear hvz
   go_wp2_with fail
   go_loopw [17] (fun iv wr => ∃ i : Nat, iv = .int .i64 i ∧ i ≤ t.length ∧ BeforeS t i 0 ∧ Ext w wr) (fun iv _ => t.length - (intOf iv).toNat)
   case atStart => exact ⟨0, rfl, by omega, BeforeS.start, HE1.out⟩
   case round =>
    obtain ⟨i, rfl, hi, hbef, hE⟩ := hrel
    have HBF := Lib.hid hbef
    have HE := Lib.hid hE
    clear hbef hE
    by_cases hlt : i < t.length
    · have e1 : decide ((i : Int) < (t.length : Int)) = true := decide_eq_true (by omega)
      obtain ⟨wo, hwo⟩ : ∃ wo : World, wo = wr := ⟨_, rfl⟩
      subst hwo
      go_wp2_with fail
      go_loopw [7] (fun jv wq => ∃ j : Nat, jv = .int .i64 j ∧ i + 1 ≤ j ∧ j ≤ t.length ∧ BeforeS t i j ∧ Ext w wq) (fun jv _ => t.length - (intOf jv).toNat)
      case atStart => exact ⟨i + 1, by go_num, by omega, by omega, HBF.out.in_, HE.out⟩
      case round =>
       obtain ⟨j, rfl, hij, hj, hbef, hE⟩ := hrel
       have HBF2 := Lib.hid hbef
       have HE2 := Lib.hid hE
       clear hbef hE
       by_cases hlt2 : j < t.length
       · have e2 : decide ((j : Int) < (t.length : Int)) = true := decide_eq_true (by omega)
         go_wp2_with fail
         refine (HC.out _ HE2.out _ _).mono ?_
         rintro e w2 ⟨s, er, rfl, hE3, hR⟩
         have HO := Lib.hid (oc_common (HOK.out i j hlt hlt2) hR)
         have HE3 := Lib.hid (HE2.out.trans hE3)
         clear hR hE3
         have hcs : er = 0 ∨ er = 3 ∨ er = 15 := by
          obtain ⟨fm, gm, -, -, -, -, h⟩ := HO.out
          rcases h with ⟨-, h⟩ | ⟨L, -, -, ⟨-, h⟩ | ⟨-, h⟩⟩ <;> omega
         rcases hcs with rfl | rfl | rfl
         · go_wp2_with fail
           go_ret3
           exact ⟨_, _, _, rfl, HE3.out, .inr ⟨HV0.out.symm, .inl ⟨i, j, 0, by omega, hlt2, HBF2.out, HO.out, .inl ⟨rfl, rfl, rfl, rfl⟩⟩⟩⟩
         · go_wp2_with fail
           go_ret3
           exact ⟨_, _, _, rfl, HE3.out, .inr ⟨HV0.out.symm, .inl ⟨i, j, 3, by omega, hlt2, HBF2.out, HO.out, .inr ⟨rfl, rfl, rfl, rfl⟩⟩⟩⟩
         · go_wp2_with fail
           go_roundw
           case rel => exact ⟨j + 1, by go_num, by omega, by omega, HBF2.out.next HO.out, HE3.out⟩
           case measure => simp [intOf]; omega
       · have e2 : decide ((j : Int) < (t.length : Int)) = false := decide_eq_false (by omega)
         go_wp2_with fail
         go_roundw
         case rel => exact ⟨i + 1, by go_num, by omega, HBF2.out.out_ (by omega), HE2.out⟩
         case measure => simp [intOf]; omega
    · have e1 : decide ((i : Int) < (t.length : Int)) = false := decide_eq_false (by omega)
      have HFIN : Hid (BeforeS t t.length 0) := Lib.hid (by rw [show t.length = i by omega]; exact HBF.out)
      go_wp2_with fail
      go_ret3
      exact ⟨_, _, _, rfl, HE.out, .inr ⟨HV0.out.symm, .inr ⟨HFIN.out, rfl, rfl, rfl⟩⟩⟩
 · have e1 : (v0 == 0) = false := beq_eq_false_iff_ne.2 hz
   go_wp2_with fail
   go_ret3
   exact ⟨_, _, _, rfl, HE1.out, .inl ⟨by rw [← HV0.out]; exact hz, rfl, rfl, HV0.out⟩⟩

end Go.Proofs.YtfaienbdebjfcaaGreat
