/- Reverse of bytes, and the string that leads to a pair. -/
import Derived.Test.YthoelnoahfedmaaS6
import Derived.Laws.IdiomStrings
namespace Go.Proofs.Ythoelnoahfedmaa
open Go Go.RowKit
set_option linter.unusedVariables false
set_option linter.unusedSimpArgs false

def encN8 (b : Nat) : Value := .int .u8 b
def bytesN (l : List Nat) : ByteArray := ⟨(l.map UInt8.ofNat).toArray⟩
theorem inf5 : (Try.prog.info? 5).map (fun i => (i.zero, i.size, i.bytes)) = some (some (.int .u8 0), 1, 1) := by kernel_rfl

theorem bytes_back {w : World} {base n : Nat} {v : Value} {l : List Nat} (h : w.ownsRow base 5 1 v n (l.map encN8)) (hl : ∀ b ∈ l, b < 256) : (convert 104 9 v).run Try.prog w = .ok (.string (bytesN l)) w := by
  have hn : n = l.length := by have := h.1; simp at this; omega
  subst hn
  rcases h.2 with ⟨rfl, h0⟩ | ⟨g, cap, cur, rfl, -⟩
  · have : l = [] := List.length_eq_zero_iff.1 h0
    subst this
    rw [run_convert_bytes_nil (P := Try.prog) w 104 5 Try.underlying104 Try.underlying5 0 0 9 Try.underlying9]
    rfl
  · have := run_convert_bytes_back (P := Try.prog) w 104 9 5 ⟨g, 0, none⟩ cap (l.map UInt8.ofNat) Try.underlying104 Try.underlying5 Try.underlying9 (fun j hj => by
      simp at hj
      have hc := h.cells (g := g) rfl j (encN8 l[j]) (by simp [hj])
      rw [hc]
      have := hl l[j] (List.getElem_mem hj)
      simp [encN8]
      omega)
    rw [List.length_map] at this
    exact this

theorem cellc {w : World} {b o : Nat} {c : Array Value} {T : TypeId} {fr : Nat × Nat} (h : w.heap[b]? = some (.cells c T fr)) : w.cell? ⟨b, o, none⟩ = c[o]? := by simp [World.cell?, h]

/-- only block g changes, and new ones come -/
theorem grown_refl (w : World) (g : Option Nat) : w.grownBy w g := ⟨rfl, rfl, rfl, Nat.le_refl _, fun _ _ _ => rfl⟩
theorem grown_set {w wr : World} {g i : Nat} {v : Value} (h : w.grownBy wr (some g)) : w.grownBy (wr.setCell ⟨g, i, none⟩ v) (some g) :=
  ⟨h.os, h.tape, h.output, by simpa using h.size, fun k hk hne => by rw [heap_setCell_other _ _ _ _ (fun e => hne (by rw [e]))]; exact h.block k hk hne⟩
theorem grown_ext {w wr w' : World} {g : Option Nat} (h : w.grownBy wr g) (hE : Ext wr w') : w.grownBy w' g :=
  ⟨hE.os.trans h.os, hE.tape.trans h.tape, hE.output.trans h.output, Nat.le_trans h.size hE.size, fun k hk hne => by rw [hE.block (Nat.lt_of_lt_of_le hk h.size)]; exact h.block k hk hne⟩

def SwapI (w : World) (g : Nat) (cur : Array Value) (i j : Nat) (a b : Value) (vs : List Value) (w' : World) : Prop :=
  w.grownBy w' (some g) ∧ match vs with
  | [] => w'.heap[g]? = some (.cells cur 5)
  | [_] => w'.heap[g]? = some (.cells (cur.setIfInBounds i b) 5)
  | [_, _] => w'.heap[g]? = some (.cells ((cur.setIfInBounds i b).setIfInBounds j a) 5)
  | _ => False
theorem SwapI.ext {w : World} {g : Nat} {cur : Array Value} {i j : Nat} {a b : Value} (vs : List Value) (w1 w2 : World) (h : SwapI w g cur i j a b vs w1) (hE : Ext w1 w2) : SwapI w g cur i j a b vs w2 := by
  obtain ⟨h1, h2⟩ := h
  refine ⟨grown_ext h1 hE, ?_⟩
  match vs, h2 with
  | [], h2 => exact hs_ext hE h2
  | [_], h2 => exact hs_ext hE h2
  | [_, _], h2 => exact hs_ext hE h2

set_option maxRecDepth 100000 in
set_option maxHeartbeats 1600000 in
theorem reverse_any {w : World} {base n : Nat} {v : Value} {xs : List Nat} (h : w.ownsRow base 5 1 v n (xs.map encN8)) :
    Calls Try.prog 63 #[v] w fun e w' => e = .returned (.tuple #[]) ∧ w'.ownsRow base 5 1 v n (xs.reverse.map encN8) ∧ w.grownBy w' v.ownBlock := by
  have hn : n = xs.length := by have := h.1; simp at this; omega
  rcases h.2 with ⟨rfl, h0⟩ | ⟨gb, cap, cur0, rfl, hb, hg, hnc, hcm, hsz, htk⟩
  · have : xs = [] := List.length_eq_zero_iff.1 (hn ▸ h0)
    subst this
    have H := Lib.hid h
    have HN := Lib.hid h0
    clear h hn h0
    go_enter Try.func63, Try.ntmps63
    go_wp2_with fail
    go_loop [2, 3] (fun i j => i = .int .i64 0 ∧ j = .int .i64 (-1)) (fun i j => 0)
    case atStart => exact ⟨rfl, rfl⟩
    case round =>
      obtain ⟨rfl, rfl⟩ := hrel
      go_wp2_with fail
      go_end0
      exact ⟨rfl, H.out, grown_refl _ _⟩
  · unfold maxLen at hcm
    have hn63 : n ≤ 9223372036854775807 := by omega
    have hcell0 : ∀ m, m < n → cur0[m]? = (xs[m]?).map encN8 := fun m hm => by
      have e : (cur0.toList.take (n * 1))[m]? = (xs.map encN8)[m]? := by rw [htk]
      rw [Nat.mul_one, List.getElem?_take, if_pos hm] at e
      simpa using e
    have hglt : gb < w.heap.size := (Array.getElem?_eq_some_iff.1 hg).1
    have H := Lib.hid h
    have HG := Lib.hid hg
    have HC0 := Lib.hid hcell0
    have HN := Lib.hid hn
    have HSZ := Lib.hid hsz
    clear h hg hcell0 hn hsz htk
    go_enter Try.func63, Try.ntmps63
    go_wp2_with fail
    go_loopw [2, 3] (fun iv jv wr => ∃ (k : Nat) (cur : Array Value), iv = .int .i64 k ∧ jv = .int .i64 ((n : Int) - 1 - k) ∧ 2 * k ≤ n + 1 ∧ wr.heap[gb]? = some (.cells cur 5) ∧ cur.size = cap ∧ w.grownBy wr (some gb) ∧
      ∀ m, m < n → cur[m]? = (xs[if m < k ∨ n - k ≤ m then n - 1 - m else m]?).map encN8) (fun iv _ _ => n + 2 - (intOf iv).toNat)
    case atStart => exact ⟨0, cur0, rfl, by simp, by omega, HG.out, by simpa using HSZ.out, grown_refl _ _, fun m hm => by rw [if_neg (by omega)]; exact HC0.out m hm⟩
    case round =>
      obtain ⟨k, cur, rfl, rfl, hk, hg, hsz, hgr, hall⟩ := hrel
      have hsz0 := hgr.size
      by_cases hlt : 2 * k + 1 < n
      · have e1 : decide ((k : Int) < (n : Int) - 1 - k) = true := decide_eq_true (by omega)
        obtain ⟨j, hj⟩ : ∃ j : Nat, j = n - 1 - k := ⟨_, rfl⟩
        have hji : (n : Int) - 1 - k = j := by omega
        obtain ⟨x, hx⟩ : ∃ x, xs[k]? = some x := ⟨_, List.getElem?_eq_getElem (by rw [← HN.out]; omega)⟩
        obtain ⟨y, hy⟩ : ∃ y, xs[j]? = some y := ⟨_, List.getElem?_eq_getElem (by rw [← HN.out]; omega)⟩
        have hck : cur[k]? = some (.int .u8 x) := by rw [hall k (by omega), if_neg (by omega), hx]; rfl
        have hcj : cur[j]? = some (.int .u8 y) := by rw [hall j (by omega), if_neg (by omega), hy]; rfl
        obtain ⟨hkj, hjn, hkn⟩ : k < j ∧ j < n ∧ k < n := by omega
        rw [hji] at e1 ⊢
        have hglr : gb < wr.heap.size := (Array.getElem?_eq_some_iff.1 hg).1
        have HJI := Lib.hid hji
        have HJ := Lib.hid hj
        have HX := Lib.hid hx
        have HY := Lib.hid hy
        have HCK := Lib.hid hck
        have HCJ := Lib.hid hcj
        have HI0 : Hid (SwapI w gb cur k j (.int .u8 x) (.int .u8 y) [] wr) := ⟨hgr, hg⟩
        have HSZ2 := Lib.hid hsz
        have HALL := Lib.hid hall
        clear hji hj hx hy hck hcj hall hsz hg hgr
        go_wp2_with fail
        refine wp_region_act 16 false (SwapI w gb cur k j (.int .u8 x) (.int .u8 y)) [13, 15] (by kernel_rfl) (by kernel_rfl) SwapI.ext (fun h => nomatch h) (by decide) (by decide) (fun i x y h1 h2 => by
          match i, h1, h2 with
          | 0, h1, h2 => cases h1; cases h2; exact anc_of 1 (by kernel_rfl)
          | 1, h1, h2 => cases h2
          | i + 2, h1, h2 => cases h1) HI0.out ?_
        skip
        refine reg_value (fun _ => rfl) ?_ (fun g w' vs hM hE hP => ?_) ?_
        rotate_left
        · (clear hP hM; go_simp; first | done | rfl)
        refine reg_value (fun _ => rfl) ?_ (fun g w' vs hM hE hP => ?_) ?_
        rotate_left
        · (clear hP hM; go_simp; first | done | rfl)
        refine reg_value (fun _ => rfl) ?_ (fun g w' vs hM hE hP => ?_) ?_
        rotate_left
        · (clear hP hM; go_simp; first | done | rfl)
        refine reg_value (fun _ => rfl) ?_ (fun g w' vs hM hE hP => ?_) ?_
        rotate_left
        · (clear hP hM; go_simp; first | done | rfl)
        refine reg_value (fun _ => rfl) ?_ (fun g w' vs hM hE hP => ?_) ?_
        rotate_left
        · (clear hP hM; go_simp; first | done | rfl)
        refine reg_value (fun _ => rfl) ?_ (fun g w' vs hM hE hP => ?_) ?_
        rotate_left
        · (clear hP hM; go_simp; first | done | rfl)
        refine reg_value (fun _ => rfl) ?_ (fun g w' vs hM hE hP => ?_) ?_
        rotate_left
        · (clear hP hM; go_simp; first | done | rfl)
        refine reg_value (fun _ => rfl) (fun _ => .int .u8 y) (fun g1 w' m hM hE hP => ?_) ?_
        · have hm0 := hM.2 0 13 rfl (anc_of 1 (by kernel_rfl))
          obtain rfl : m = 0 := by omega
          have z : w'.cell? ⟨gb, j, none⟩ = some (.int .u8 y) := by rw [cellc (hE.2 : w'.heap[gb]? = some (.cells cur 5))]; exact HCJ.out
          clear hM hE hP
          go_simp
        refine reg_value (fun _ => rfl) ?_ (fun g w' vs hM hE hP => ?_) ?_
        rotate_left
        · (clear hP hM; go_simp; first | done | rfl)
        refine reg_value (fun _ => rfl) ?_ (fun g w' vs hM hE hP => ?_) ?_
        rotate_left
        · (clear hP hM; go_simp; first | done | rfl)
        refine reg_value (fun _ => rfl) ?_ (fun g w' vs hM hE hP => ?_) ?_
        rotate_left
        · (clear hP hM; go_simp; first | done | rfl)
        refine reg_value (fun _ => rfl) (fun _ => .int .u8 x) (fun g1 w' m hM hE hP => ?_) ?_
        · have hm0 := hM.2 0 13 rfl (anc_of 1 (by kernel_rfl))
          obtain rfl : m = 0 := by omega
          have z : w'.cell? ⟨gb, k, none⟩ = some (.int .u8 x) := by rw [cellc (hE.2 : w'.heap[gb]? = some (.cells cur 5))]; exact HCK.out
          clear hM hE hP
          go_simp
        refine reg_value (fun _ => rfl) ?_ (fun g w' vs hM hE hP => ?_) ?_
        rotate_left
        · (clear hP hM; go_simp; first | done | rfl)
        refine reg_act (fun _ => rfl) 0 rfl (fun g1 w' hE hP hF hB => ?_) ?_
        · obtain ⟨e1, e2⟩ := hE
          change w'.heap[gb]? = some (.cells cur 5) at e2
          refine ⟨.skip, undef, w'.setCell ⟨gb, k, none⟩ (.int .u8 y), ?_, .inr ⟨rfl, rfl⟩, ⟨by simp, fun b hb hb2 => heap_setCell_other _ _ _ _ (by show b ≠ gb; omega)⟩, ⟨grown_set e1, ?_⟩⟩
          · have z : w'.cell? ⟨gb, k, none⟩ = some (.int .u8 x) := by rw [cellc e2]; exact HCK.out
            have zf : w'.frozen? ⟨gb, k, none⟩ = false := by simp [World.frozen?, e2]
            clear e1 e2 hP hF hB
            go_simp
          · exact heap_setCell_same _ _ _ _ _ _ e2
        refine reg_value (fun _ => rfl) ?_ (fun g w' vs hM hE hP => ?_) ?_
        rotate_left
        · (clear hP hM; go_simp; first | done | rfl)
        refine reg_act (fun _ => rfl) 1 rfl (fun g1 w' hE hP hF hB => ?_) ?_
        · obtain ⟨e1, e2⟩ := hE
          change w'.heap[gb]? = some (.cells (cur.setIfInBounds k (.int .u8 y)) 5) at e2
          refine ⟨.skip, undef, w'.setCell ⟨gb, j, none⟩ (.int .u8 x), ?_, .inr ⟨rfl, rfl⟩, ⟨by simp, fun b hb hb2 => heap_setCell_other _ _ _ _ (by show b ≠ gb; omega)⟩, ⟨grown_set e1, ?_⟩⟩
          · have z : w'.cell? ⟨gb, j, none⟩ = some (.int .u8 y) := by rw [cellc e2, Array.getElem?_setIfInBounds_ne (by omega)]; exact HCJ.out
            have zf : w'.frozen? ⟨gb, j, none⟩ = false := by simp [World.frozen?, e2]
            clear e1 e2 hP hF hB
            go_simp
          · exact heap_setCell_same _ _ _ _ _ _ e2
        intro g6 w6 hI6 hF6 hQ6
        simp only [List.drop_succ_cons, List.drop_zero, Act.put, List.setIfInBounds_toArray, List.set_cons_succ, List.set_cons_zero]
        clear hF6 hQ6
        obtain ⟨r1, r2⟩ := hI6
        have R1 := Lib.hid r1
        have R2 := Lib.hid r2
        clear r1 r2
        go_wp2_with fail
        go_roundw
        case rel =>
          refine ⟨k + 1, _, by go_num, ?_, by omega, R2.out, by simp [HSZ2.out], R1.out, ?_⟩
          · have := HJI.out
            rw [show (n : Int) - 1 - ((k + 1 : Nat) : Int) = (j : Int) - 1 by omega]
          · intro m hm
            have hcs : cur.size = cap := HSZ2.out
            have hjv := HJ.out
            rw [Array.getElem?_setIfInBounds]
            by_cases hmj : j = m
            · subst hmj
              rw [if_pos rfl, if_pos (by simp [hcs]; omega), if_pos (by omega), show n - 1 - j = k by omega, HX.out]; rfl
            · rw [if_neg hmj, Array.getElem?_setIfInBounds]
              by_cases hmk : k = m
              · subst hmk
                rw [if_pos rfl, if_pos (by omega), if_pos (by omega), ← hjv, HY.out]; rfl
              · rw [if_neg hmk, HALL.out m hm]
                by_cases hc : m < k ∨ n - k ≤ m
                · rw [if_pos hc, if_pos (by omega)]
                · rw [if_neg hc, if_neg (by omega)]
        case measure => simp [intOf]; omega
      · have e1 : decide ((k : Int) < (n : Int) - 1 - k) = false := decide_eq_false (by omega)
        have HFIN : Hid (wr.ownsRow base 5 1 (.slice (some ⟨gb, 0, none⟩) n cap) n (xs.reverse.map encN8)) := by
          refine ⟨by simp [← HN.out], .inr ⟨gb, cap, cur, rfl, hb, hg, hnc, by unfold maxLen; omega, by rw [hsz]; simp, ?_⟩⟩
          apply List.ext_getElem?
          intro m
          rw [Nat.mul_one, List.getElem?_take]
          by_cases hm : m < n
          · rw [if_pos hm]
            have e := hall m hm
            rw [Array.getElem?_toList, e, List.getElem?_map, List.getElem?_reverse (by rw [← HN.out]; exact hm), ← HN.out]
            by_cases hc : m < k ∨ n - k ≤ m
            · rw [if_pos hc]
            · rw [if_neg hc, show n - 1 - m = m by omega]
          · rw [if_neg hm, List.getElem?_eq_none (by simp [← HN.out]; omega)]
        have HGR := Lib.hid hgr
        clear hg hsz hgr hall
        go_wp2_with fail
        go_end0
        exact ⟨rfl, HFIN.out, HGR.out⟩

end Go.Proofs.Ythoelnoahfedmaa
