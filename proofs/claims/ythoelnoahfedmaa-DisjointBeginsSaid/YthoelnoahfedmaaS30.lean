/- live: the walk. -/
import Derived.Test.YthoelnoahfedmaaS29
import Derived.Deep.LoopGhost
namespace Go.Proofs.Ythoelnoahfedmaa
open Go Go.RowKit
open Go.Maps (Keyed)
set_option linter.unusedVariables false
set_option linter.unusedSimpArgs false

/-- what live answers -/
def LiveR (w : World) (f : Int → Nat → Option Int) (acc : Int → Bool) (more : Bool) (e : Ending) (w' : World) : Prop :=
  ∃ (ob : Nat) (O L : List Int), e = .returned (.map (some ob)) ∧ Ext w w' ∧ (∃ n, MapK encN w' ob n (fun x => inB O x.1)) ∧ Full f 0 L ∧ ∀ x ∈ L, x ∈ O ↔ LiveS f acc more x
theorem LiveR.mk {w w' : World} {f : Int → Nat → Option Int} {acc : Int → Bool} {more : Bool} {ob : Nat} {O L : List Int} (h1 : Ext w w') (h2 : ∃ n, MapK encN w' ob n (fun x => inB O x.1)) (h3 : Full f 0 L) (h4 : ∀ x ∈ L, x ∈ O ↔ LiveS f acc more x) : LiveR w f acc more (.returned (.map (some ob))) w' :=
  ⟨ob, O, L, rfl, h1, h2, h3, h4⟩

theorem LvC.pop {wA wr : World} {ob g off cap : Nat} {O T : List Int} {n : Int} (h : LvC wA wr ob (.slice (some ⟨g, off, none⟩) (T.length + 1) cap) O (n :: T)) : LvC wA wr ob (.slice (if cap = 1 then some ⟨g, off, none⟩ else some ⟨g, off + 1, none⟩) T.length (cap - 1)) O T := by
  have hq := h.q
  have ha := h.apart
  refine ⟨h.map, ?_, ?_, h.ob, h.ext⟩
  · split
    · rename_i e
      subst e
      obtain ⟨g', off', cap', e, h2, h3, -⟩ := hq.at (j := 0) rfl
      cases T with
      | nil => exact hq.tail1
      | cons x T =>
        cases e
        simp at h2
    · exact hq.tail
  · split <;> exact ha

/-- what is put out before the backward search begins -/
def outI (more : Bool) (T : List Int) : List Int := if more then [] else T

theorem bl_nil (a : List Int) (h : a = []) : ((a.length : Int) == 0) = true := by subst h; rfl

set_option maxRecDepth 100000 in
set_option maxHeartbeats 8000000 in
theorem live_any {w : World} {B : Nat} {a : Option Addr} {t : List Fmt} {cap i : Nat} {fm : Fmt} {more : Bool} {s : Int} (hs : (s == 0) = !more) (hT : TabA w B a t) (hB : B ≤ w.heap.size) (hi : t[i]? = some fm) (hV : VFmt t fm) :
    Calls Try.prog 41 #[.slice a t.length cap, .int .i64 i, .int .i64 s] w (LiveR w (stF t fm.fields) (rAcc fm.fields) more) := by
  have hn63 := hT.1
  unfold maxLen at hn63
  have hlf : fm.fields.length ≤ 100 := by have := hV.le; omega
  have HSTEP := Lib.hid (fun (w' : World) (hE : Ext w w') (s : Int) (c : Nat) (hs : s ≤ 9223372036854775807) (hc : c ≤ 255) => Step_any (cap := cap) s c hc hs (hT.ext hB hE) (by have := hE.size; omega) hi hV)
  have HACC := Lib.hid (fun (w' : World) (hE : Ext w w') (s : Int) (h1 : s ≤ 9223372036854775807) (h2 : -9223372036854775808 ≤ s) => Accepts_any (cap := cap) s h1 h2 (hT.ext hB hE) (by have := hE.size; omega) hi hV.ne (by have := hV.le; omega))
  have HF1 := Lib.hid (show ∀ s b, stF t fm.fields s b = if rStep t fm.fields s b < 0 then none else some (rStep t fm.fields s b) from fun _ _ => rfl)
  have HSM : Hid (∀ k, ∀ x ∈ lev (stF t fm.fields) 0 k, 0 ≤ x ∧ x ≤ 40000000) := Lib.hid (fun k => levF_small hlf (by omega))
  have HLEN : Hid (∀ k, (lev (stF t fm.fields) 0 k).length ≤ 40000001) := Lib.hid (fun k => levF_len hlf (by omega))
  have HRLEN : Hid (∀ k c x, (lev (stF t fm.fields) 0 k)[k]? = some x → c ≤ 256 → (rowS (stF t fm.fields) (lev (stF t fm.fields) 0 k) x c).length ≤ 40000001) := Lib.hid (fun k c x => rowF_len hlf (by omega))
  obtain ⟨f, hf⟩ : ∃ f, f = stF t fm.fields := ⟨_, rfl⟩
  obtain ⟨acc, hacc⟩ : ∃ acc, acc = rAcc fm.fields := ⟨_, rfl⟩
  rw [← hf, ← hacc]
  rw [← hf] at HF1 HSM HLEN HRLEN
  rw [← hacc] at HACC
  have HSZ := Lib.hid hs
  clear hf hacc hT hi hs
  obtain ⟨wm, mb, hmk, w2, hup, bb, w3, hmk2, hL0⟩ := LvA.start w
  have HL0 := Lib.hid hL0
  clear hL0
  go_enter Try.func41, Try.ntmps41
  go_wp2_with fail
  clear hmk hup hmk2
  go_loopw [7, 10, 11, 12, 13] (fun lv kv _ _ _ wr => ∃ (k : Nat) (G : Int → List Int), kv = .int .i64 k ∧ LvA w wr mb bb lv (lev f 0 k) G ∧ BackS f (lev f 0 k) k 0 0 G ∧ k ≤ (lev f 0 k).length) (fun _ kv _ _ _ _ => 40000002 - (intOf kv).toNat)
  case atStart => exact ⟨0, _, rfl, HL0.out, BackS.start, by simp⟩
  case round =>
    obtain ⟨k, G, rfl, hA, hG, hk⟩ := hrel
    have hkk := HLEN.out k
    by_cases hlt : k < (lev f 0 k).length
    · obtain ⟨x, hx⟩ : ∃ x, (lev f 0 k)[k]? = some x := ⟨_, List.getElem?_eq_getElem hlt⟩
      have hxs := HSM.out k x (List.mem_of_getElem? hx)
      have hrl := fun c => HRLEN.out k c x hx
      have hnext : lev f 0 (k + 1) = rowS f (lev f 0 k) x 256 := lev_succ hx
      generalize hLL : lev f 0 k = L at *
      have HNEXT := Lib.hid hnext
      have HRL := Lib.hid hrl
      have HX := Lib.hid hx
      have HG0 := Lib.hid hG
      obtain ⟨la, lcap, rfl⟩ := hA.s.slice
      have HA0 := Lib.hid hA
      have HPRE : Hid (∀ c c' i, i < k → (rowS f L x c)[i]? = (rowS f L x c')[i]?) := Lib.hid (fun c c' i hi => by
        have h0 : L[i]? = some (L[i]'(by omega)) := List.getElem?_eq_getElem (by omega)
        rw [pre_get rowS_pre h0, pre_get rowS_pre h0])
      clear hnext hrl hx hG hA hLL
      have e1 : decide ((k : Int) < (L.length : Int)) = true := decide_eq_true (by omega)
      go_wp2_with fail
      go_loopw [7, 11, 12, 13] (fun lv2 cv _ _ wr2 => ∃ (c : Nat) (G2 : Int → List Int), c ≤ 256 ∧ cv = .int .i64 c ∧ LvA w wr2 mb bb lv2 (rowS f L x c) G2 ∧ BackS f (rowS f L x c) k x c G2) (fun _ cv _ _ _ => 256 - (intOf cv).toNat)
      case atStart => exact ⟨0, G, by omega, rfl, by rw [rowS_zero]; exact HA0.out, by rw [rowS_zero]; exact HG0.out.first⟩
      case round =>
        obtain ⟨c, G2, hc, rfl, hA, hG⟩ := hrel
        have hlen2 : L.length ≤ (rowS f L x c).length := (rowS_pre (f := f) (L := L) (x := x) (c := c)).length_le
        have hrc := HRL.out c hc
        by_cases hc2 : c < 256
        · have e2 : decide ((c : Int) < 256) = true := decide_eq_true (by omega)
          obtain ⟨g, lcap2, rfl, hcell⟩ := hA.s.at (pre_get rowS_pre HX.out)
          obtain ⟨nv, hnv⟩ : ∃ nv, nv = rStep t fm.fields x c := ⟨_, rfl⟩
          have hcon2 := HSTEP.out wr hA.s.ext x c (by omega) (by omega)
          rw [← hnv] at hcon2
          have HNV := Lib.hid hnv
          have hn40 : nv ≤ 40000000 := by rw [hnv]; exact rStep_le hlf (by omega)
          have HA := Lib.hid hA
          have HG := Lib.hid hG
          have HCELL := Lib.hid hcell
          clear hnv hA hG
          go_wp2_with fail
          refine hcon2.mono ?_
          rintro e w3 ⟨rfl, hb3⟩
          have HA3 := Lib.hid (HA.out.next hb3)
          have hcell3 := cs_ext hb3 HCELL.out
          clear hb3 hcon2 hcell
          by_cases hneg : nv < 0
          · have e3 : decide (nv < (0 : Int)) = true := decide_eq_true hneg
            have hf0 : f x c = none := by rw [HF1.out, ← HNV.out, if_pos hneg]
            have HR : Hid (rowS f L x (c + 1) = rowS f L x c) := Lib.hid (by rw [rowS_succ, tick_none hf0])
            have HG' := Lib.hid (HG.out.none hf0)
            clear hf0
            go_wp2_with fail
            go_roundw
            case rel => exact ⟨c + 1, G2, by omega, by go_num, by rw [HR.out]; exact HA3.out, by rw [HR.out]; exact HG'.out⟩
            case measure => simp [intOf]; omega
          · have e3 : decide (nv < (0 : Int)) = false := decide_eq_false hneg
            have HFX : Hid (f x c = some nv) := Lib.hid (by rw [HF1.out, ← HNV.out, if_neg hneg])
            have hI : I64 nv := ⟨by omega, by omega⟩
            obtain ⟨v, hlk, hq, hcont⟩ := HA3.out.back (x := x) hI
            have hGl := HG.out.1 nv
            have hkr : k < (rowS f L x c).length := by omega
            have HCONT := Lib.hid hcont
            clear hcont
            by_cases h0 : G2 nv = []
            · have e4 := bl_nil _ h0
              obtain ⟨va, vcap, rfl, hvc⟩ := hq.slice
              have HG5 := Lib.hid (HG.out.new HFX.out)
              have hl0 : (G2 nv).length = 0 := by rw [h0]; rfl
              rw [hl0] at hq HCONT hlk
              clear h0
              go_wp2_with fail
              refine wp_region_reg 16 false (by kernel_rfl) (by kernel_rfl) ?_
              refine reg_value (fun _ => rfl) ?_ (fun g w' vs hM hE hP => ?_) ?_
              rotate_left
              · (clear hP hM; have zz0 := cs_ext hE hcell3; go_simp; first | done | rfl)
              refine reg_value (fun _ => rfl) ?_ (fun g w' vs hM hE hP => ?_) ?_
              rotate_left
              · (clear hP hM; have zz0 := cs_ext hE hcell3; go_simp; first | done | rfl)
              refine reg_value (fun _ => rfl) ?_ (fun g w' vs hM hE hP => ?_) ?_
              rotate_left
              · (clear hP hM; have zz0 := cs_ext hE hcell3; go_simp; first | done | rfl)
              refine reg_value (fun _ => rfl) ?_ (fun g w' vs hM hE hP => ?_) ?_
              rotate_left
              · (clear hP hM; have zz0 := cs_ext hE hcell3; go_simp; first | done | rfl)
              refine reg_skip (fun g => by go_simp; first | done | (intro h; cases h) | simp [undef]) ?_
              refine reg_skip (fun g => by go_simp; first | done | (intro h; cases h) | simp [undef]) ?_
              refine reg_skip (fun g => by go_simp; first | done | (intro h; cases h) | simp [undef]) ?_
              refine reg_skip (fun g => by go_simp; first | done | (intro h; cases h) | simp [undef]) ?_
              refine reg_skip (fun g => by go_simp; first | done | (intro h; cases h) | simp [undef]) ?_
              refine reg_skip (fun g => by go_simp; first | done | (intro h; cases h) | simp [undef]) ?_
              refine reg_skip (fun g => by go_simp; first | done | (intro h; cases h) | simp [undef]) ?_
              refine reg_skip (fun g => by go_simp; first | done | (intro h; cases h) | simp [undef]) ?_
              refine reg_skip (fun g => by go_simp; first | done | (intro h; cases h) | simp [undef]) ?_
              refine reg_skip (fun g => by go_simp; first | done | (intro h; cases h) | simp [undef]) ?_
              refine reg_skip (fun g => by go_simp; first | done | (intro h; cases h) | simp [undef]) ?_
              refine reg_value (fun _ => rfl) ?_ (fun g w' vs hM hE hP => ?_) ?_
              rotate_left
              · (clear hP hM; have zz0 := cs_ext hE hcell3; go_simp; first | done | rfl)
              intro g wz hE2 hF hQ
              simp only [List.drop_succ_cons, List.drop_zero, Act.put, List.setIfInBounds_toArray, List.set_cons_succ, List.set_cons_zero]
              have HQ0 := Lib.hid hE2
              have hcellz := cs_ext hE2 hcell3
              have hq8 := (hq.ext hE2).ext (Ext.alloc wz (.cells #[.int .i64 x] 3))
              have hsz8 : w.heap.size ≤ (wz.alloc (.cells #[.int .i64 x] 3)).heap.size := by have h1 := HA3.out.s.ext.size; have h2 := hE2.size; simp; omega
              clear hE2 hF hQ
              go_upto_region 14 with (first
                | (at_builtin; (refine wpList_append_q rfl (.tmp 66) (.tmp 71) rfl (base := w.heap.size) (xs := G2 nv) (x := x) rfl hq8 hsz8 (by omega) (c := 1) rfl (cs_new rfl) ?_); intro v' w7 hq7 hg7 hat7
                   obtain ⟨w8, hup8, hA8⟩ := HCONT.out _ _ w7 v' HQ0.out hg7 hq7 hat7
                   have HA5 := Lib.hid hA8
                   clear hg7 hq7 hat7 hA8 hq8 hsz8))
              clear hup8
              have hlk2 := HA5.out.look hI
              by_cases hmem : nv ∈ rowS f L x c
              · have HR : Hid (rowS f L x (c + 1) = rowS f L x c) := Lib.hid (by rw [rowS_succ, tick_old HFX.out hmem])
                rw [decide_eq_true hmem] at hlk2
                clear hmem
                go_wp2_with fail
                go_roundw
                case rel => exact ⟨c + 1, _, by omega, by go_num, by rw [HR.out]; exact HA5.out, by rw [HR.out]; exact HG5.out⟩
                case measure => simp [intOf]; omega
              · have HR : Hid (rowS f L x (c + 1) = rowS f L x c ++ [nv]) := Lib.hid (by rw [rowS_succ, tick_new HFX.out hmem])
                have hrl1 := HRL.out (c + 1) (by omega)
                rw [HR.out] at hrl1
                simp at hrl1
                rw [decide_eq_false hmem] at hlk2
                obtain ⟨w6, hup6, hO6, hs6, hfin⟩ := HA5.out.push hI
                have hO6' := ownsRow_ext hO6 (Ext.alloc w6 (.cells #[.int .i64 nv] 3))
                have HFIN := Lib.hid hfin
                have hlb := fun k hk => (HA5.out.s.own.lt k hk).1
                clear hmem hO6 hfin
                obtain ⟨i0, hi, hz0, hz1, hz2⟩ := info_parts inf3
                go_wp2_with (first
                  | (at_builtin; refine wpList_append_own_at _ rfl (.tmp 79) (.tmp 81) 58 rfl w.heap.size 3 i0 (.int .i64 0) 1 8 Try.underlying58 hi hz0 hz1 hz2 rfl (by decide) _ _ _ rfl hO6' ⟨w6.heap.size, 0, none⟩ 1 1 [.int .i64 nv] rfl rfl (cell_one_new _ _ _) (fun x hx => by simp at hx; subst hx; rfl) (by unfold maxLen; omega) (by omega) (by simp; omega) ?_; intro v' w7 hown' hgrow5 hnil5 hat5
                     have HA7 := Lib.hid (HFIN.out _ w7 v' hown' hgrow5 hat5)
                     clear hown' hgrow5 hnil5 hat5))
                go_roundw
                case rel => exact ⟨c + 1, _, by omega, by go_num, by rw [HR.out]; exact HA7.out, HG5.out.pre (fun i hi => HPRE.out _ _ i hi)⟩
                case measure => simp [intOf]; omega
            · obtain ⟨j, hj⟩ : ∃ j, (G2 nv).length = j + 1 := ⟨(G2 nv).length - 1, by have := List.length_pos_iff.2 h0; omega⟩
              have e4 : (((j : Int) + 1) == 0) = false := by simp; omega
              obtain ⟨y, hy⟩ : ∃ y, (G2 nv)[j]? = some y := ⟨_, List.getElem?_eq_getElem (by omega)⟩
              obtain ⟨vg, voff, vcap, rfl, hvc, hvm, hyc⟩ := hq.at hy
              unfold maxLen at hvm
              rw [hj] at hlk hvc hq HCONT
              have HY := Lib.hid hy
              have HJ := Lib.hid hj
              have hj63 : (j : Int) + 1 ≤ 9223372036854775807 := by omega
              have hyc3 := hyc
              have e5 : (j : Int) < (j : Int) + 1 := by omega
              have e6 : IntKind.i64.wrap (j : Int) = (j : Int) := IntWalk.i64_in _ (by omega)
              clear hy h0 hyc hj
              by_cases hyx : y = x
              · have e7 : (y == x) = true := by rw [hyx]; simp
                have HG5 : Hid (BackS f (rowS f L x c) k x (c + 1) G2) := Lib.hid (HG.out.old HFX.out (by rw [← hyx]; exact List.mem_of_getElem? HY.out))
                clear hyx
                go_wp2_with fail
                refine wp_region_reg 16 false (by kernel_rfl) (by kernel_rfl) ?_
                refine reg_value (fun _ => rfl) ?_ (fun g w' vs hM hE hP => ?_) ?_
                rotate_left
                · (clear hP hM; have zz0 := cs_ext hE hcell3; have zz1 := cs_ext hE hyc3; go_simp; first | done | rfl)
                refine reg_value (fun _ => rfl) ?_ (fun g w' vs hM hE hP => ?_) ?_
                rotate_left
                · (clear hP hM; have zz0 := cs_ext hE hcell3; have zz1 := cs_ext hE hyc3; go_simp; first | done | rfl)
                refine reg_value (fun _ => rfl) ?_ (fun g w' vs hM hE hP => ?_) ?_
                rotate_left
                · (clear hP hM; have zz0 := cs_ext hE hcell3; have zz1 := cs_ext hE hyc3; go_simp; first | done | rfl)
                refine reg_value (fun _ => rfl) ?_ (fun g w' vs hM hE hP => ?_) ?_
                rotate_left
                · (clear hP hM; have zz0 := cs_ext hE hcell3; have zz1 := cs_ext hE hyc3; go_simp; first | done | rfl)
                refine reg_value (fun g => by go_simp) ?_ (fun g w' vs hM hE hP => ?_) ?_
                rotate_left
                · (clear hP hM; have zz0 := cs_ext hE hcell3; have zz1 := cs_ext hE hyc3; go_simp; first | done | rfl)
                refine reg_value (fun g => by go_simp) ?_ (fun g w' vs hM hE hP => ?_) ?_
                rotate_left
                · (clear hP hM; have zz0 := cs_ext hE hcell3; have zz1 := cs_ext hE hyc3; go_simp; first | done | rfl)
                refine reg_value (fun g => by go_simp) ?_ (fun g w' vs hM hE hP => ?_) ?_
                rotate_left
                · (clear hP hM; have zz0 := cs_ext hE hcell3; have zz1 := cs_ext hE hyc3; go_simp; first | done | rfl)
                refine reg_value (fun g => by go_simp) ?_ (fun g w' vs hM hE hP => ?_) ?_
                rotate_left
                · (clear hP hM; have zz0 := cs_ext hE hcell3; have zz1 := cs_ext hE hyc3; go_simp; first | done | rfl)
                refine reg_value (fun g => by go_simp) ?_ (fun g w' vs hM hE hP => ?_) ?_
                rotate_left
                · (clear hP hM; have zz0 := cs_ext hE hcell3; have zz1 := cs_ext hE hyc3; go_simp; first | done | rfl)
                refine reg_value (fun g => by go_simp) ?_ (fun g w' vs hM hE hP => ?_) ?_
                rotate_left
                · (clear hP hM; have zz0 := cs_ext hE hcell3; have zz1 := cs_ext hE hyc3; go_simp; first | done | rfl)
                refine reg_value (fun g => by go_simp) ?_ (fun g w' vs hM hE hP => ?_) ?_
                rotate_left
                · (clear hP hM; have zz0 := cs_ext hE hcell3; have zz1 := cs_ext hE hyc3; go_simp; first | done | rfl)
                refine reg_value (fun g => by go_simp) ?_ (fun g w' vs hM hE hP => ?_) ?_
                rotate_left
                · (clear hP hM; have zz0 := cs_ext hE hcell3; have zz1 := cs_ext hE hyc3; go_simp; first | done | rfl)
                refine reg_value (fun g => by go_simp) ?_ (fun g w' vs hM hE hP => ?_) ?_
                rotate_left
                · (clear hP hM; have zz0 := cs_ext hE hcell3; have zz1 := cs_ext hE hyc3; go_simp; first | done | rfl)
                refine reg_value (fun g => by go_simp) ?_ (fun g w' vs hM hE hP => ?_) ?_
                rotate_left
                · (clear hP hM; have zz0 := cs_ext hE hcell3; have zz1 := cs_ext hE hyc3; go_simp; first | done | rfl)
                refine reg_value (fun g => by go_simp) ?_ (fun g w' vs hM hE hP => ?_) ?_
                rotate_left
                · (clear hP hM; have zz0 := cs_ext hE hcell3; have zz1 := cs_ext hE hyc3; go_simp; first | done | rfl)
                refine reg_value (fun _ => rfl) ?_ (fun g w' vs hM hE hP => ?_) ?_
                rotate_left
                · (clear hP hM; have zz0 := cs_ext hE hcell3; have zz1 := cs_ext hE hyc3; go_simp; first | done | rfl)
                intro g wz hE2 hF hQ
                simp only [List.drop_succ_cons, List.drop_zero, Act.put, List.setIfInBounds_toArray, List.set_cons_succ, List.set_cons_zero]
                clear e4 e5 e6 hj63 hvc hvm hyc3
                have HA5 := Lib.hid (HA3.out.next hE2)
                clear hE2 hF hQ
                have hlk2 := HA5.out.look hI
                by_cases hmem : nv ∈ rowS f L x c
                · have HR : Hid (rowS f L x (c + 1) = rowS f L x c) := Lib.hid (by rw [rowS_succ, tick_old HFX.out hmem])
                  rw [decide_eq_true hmem] at hlk2
                  clear hmem
                  go_wp2_with fail
                  go_roundw
                  case rel => exact ⟨c + 1, _, by omega, by go_num, by rw [HR.out]; exact HA5.out, by rw [HR.out]; exact HG5.out⟩
                  case measure => simp [intOf]; omega
                · have HR : Hid (rowS f L x (c + 1) = rowS f L x c ++ [nv]) := Lib.hid (by rw [rowS_succ, tick_new HFX.out hmem])
                  have hrl1 := HRL.out (c + 1) (by omega)
                  rw [HR.out] at hrl1
                  simp at hrl1
                  rw [decide_eq_false hmem] at hlk2
                  obtain ⟨w6, hup6, hO6, hs6, hfin⟩ := HA5.out.push hI
                  have hO6' := ownsRow_ext hO6 (Ext.alloc w6 (.cells #[.int .i64 nv] 3))
                  have HFIN := Lib.hid hfin
                  have hlb := fun k hk => (HA5.out.s.own.lt k hk).1
                  clear hmem hO6 hfin
                  obtain ⟨i0, hi, hz0, hz1, hz2⟩ := info_parts inf3
                  go_wp2_with (first
                    | (at_builtin; refine wpList_append_own_at _ rfl (.tmp 79) (.tmp 81) 58 rfl w.heap.size 3 i0 (.int .i64 0) 1 8 Try.underlying58 hi hz0 hz1 hz2 rfl (by decide) _ _ _ rfl hO6' ⟨w6.heap.size, 0, none⟩ 1 1 [.int .i64 nv] rfl rfl (cell_one_new _ _ _) (fun x hx => by simp at hx; subst hx; rfl) (by unfold maxLen; omega) (by omega) (by simp; omega) ?_; intro v' w7 hown' hgrow5 hnil5 hat5
                       have HA7 := Lib.hid (HFIN.out _ w7 v' hown' hgrow5 hat5)
                       clear hown' hgrow5 hnil5 hat5))
                  go_roundw
                  case rel => exact ⟨c + 1, _, by omega, by go_num, by rw [HR.out]; exact HA7.out, HG5.out.pre (fun i hi => HPRE.out _ _ i hi)⟩
                  case measure => simp [intOf]; omega
              · have e7 : (y == x) = false := beq_eq_false_iff_ne.2 hyx
                have HG5 := Lib.hid (HG.out.new HFX.out)
                clear hyx
                go_wp2_with fail
                refine wp_region_reg 16 false (by kernel_rfl) (by kernel_rfl) ?_
                refine reg_value (fun _ => rfl) ?_ (fun g w' vs hM hE hP => ?_) ?_
                rotate_left
                · (clear hP hM; have zz0 := cs_ext hE hcell3; have zz1 := cs_ext hE hyc3; go_simp; first | done | rfl)
                refine reg_value (fun _ => rfl) ?_ (fun g w' vs hM hE hP => ?_) ?_
                rotate_left
                · (clear hP hM; have zz0 := cs_ext hE hcell3; have zz1 := cs_ext hE hyc3; go_simp; first | done | rfl)
                refine reg_value (fun _ => rfl) ?_ (fun g w' vs hM hE hP => ?_) ?_
                rotate_left
                · (clear hP hM; have zz0 := cs_ext hE hcell3; have zz1 := cs_ext hE hyc3; go_simp; first | done | rfl)
                refine reg_value (fun _ => rfl) ?_ (fun g w' vs hM hE hP => ?_) ?_
                rotate_left
                · (clear hP hM; have zz0 := cs_ext hE hcell3; have zz1 := cs_ext hE hyc3; go_simp; first | done | rfl)
                refine reg_value (fun g => by go_simp) ?_ (fun g w' vs hM hE hP => ?_) ?_
                rotate_left
                · (clear hP hM; have zz0 := cs_ext hE hcell3; have zz1 := cs_ext hE hyc3; go_simp; first | done | rfl)
                refine reg_value (fun g => by go_simp) ?_ (fun g w' vs hM hE hP => ?_) ?_
                rotate_left
                · (clear hP hM; have zz0 := cs_ext hE hcell3; have zz1 := cs_ext hE hyc3; go_simp; first | done | rfl)
                refine reg_value (fun g => by go_simp) ?_ (fun g w' vs hM hE hP => ?_) ?_
                rotate_left
                · (clear hP hM; have zz0 := cs_ext hE hcell3; have zz1 := cs_ext hE hyc3; go_simp; first | done | rfl)
                refine reg_value (fun g => by go_simp) ?_ (fun g w' vs hM hE hP => ?_) ?_
                rotate_left
                · (clear hP hM; have zz0 := cs_ext hE hcell3; have zz1 := cs_ext hE hyc3; go_simp; first | done | rfl)
                refine reg_value (fun g => by go_simp) ?_ (fun g w' vs hM hE hP => ?_) ?_
                rotate_left
                · (clear hP hM; have zz0 := cs_ext hE hcell3; have zz1 := cs_ext hE hyc3; go_simp; first | done | rfl)
                refine reg_value (fun g => by go_simp) ?_ (fun g w' vs hM hE hP => ?_) ?_
                rotate_left
                · (clear hP hM; have zz0 := cs_ext hE hcell3; have zz1 := cs_ext hE hyc3; go_simp; first | done | rfl)
                refine reg_value (fun g => by go_simp) ?_ (fun g w' vs hM hE hP => ?_) ?_
                rotate_left
                · (clear hP hM; have zz0 := cs_ext hE hcell3; have zz1 := cs_ext hE hyc3; go_simp; first | done | rfl)
                refine reg_value (fun g => by go_simp) ?_ (fun g w' vs hM hE hP => ?_) ?_
                rotate_left
                · (clear hP hM; have zz0 := cs_ext hE hcell3; have zz1 := cs_ext hE hyc3; go_simp; first | done | rfl)
                refine reg_value (fun g => by go_simp) ?_ (fun g w' vs hM hE hP => ?_) ?_
                rotate_left
                · (clear hP hM; have zz0 := cs_ext hE hcell3; have zz1 := cs_ext hE hyc3; go_simp; first | done | rfl)
                refine reg_value (fun g => by go_simp) ?_ (fun g w' vs hM hE hP => ?_) ?_
                rotate_left
                · (clear hP hM; have zz0 := cs_ext hE hcell3; have zz1 := cs_ext hE hyc3; go_simp; first | done | rfl)
                refine reg_value (fun g => by go_simp) ?_ (fun g w' vs hM hE hP => ?_) ?_
                rotate_left
                · (clear hP hM; have zz0 := cs_ext hE hcell3; have zz1 := cs_ext hE hyc3; go_simp; first | done | rfl)
                refine reg_value (fun _ => rfl) ?_ (fun g w' vs hM hE hP => ?_) ?_
                rotate_left
                · (clear hP hM; have zz0 := cs_ext hE hcell3; have zz1 := cs_ext hE hyc3; go_simp; first | done | rfl)
                intro g wz hE2 hF hQ
                simp only [List.drop_succ_cons, List.drop_zero, Act.put, List.setIfInBounds_toArray, List.set_cons_succ, List.set_cons_zero]
                clear e4 e5 e6 hj63 hvc hvm hyc3
                have HQ0 := Lib.hid hE2
                have hcellz := cs_ext hE2 hcell3
                have hq8 := (hq.ext hE2).ext (Ext.alloc wz (.cells #[.int .i64 x] 3))
                have hsz8 : w.heap.size ≤ (wz.alloc (.cells #[.int .i64 x] 3)).heap.size := by have h1 := HA3.out.s.ext.size; have h2 := hE2.size; simp; omega
                clear hE2 hF hQ
                go_upto_region 14 with (first
                  | (at_builtin; (refine wpList_append_q rfl (.tmp 66) (.tmp 71) rfl (base := w.heap.size) (xs := G2 nv) (x := x) rfl hq8 hsz8 (by omega) (c := 1) rfl (cs_new rfl) ?_); intro v' w7 hq7 hg7 hat7
                     obtain ⟨w8, hup8, hA8⟩ := HCONT.out _ _ w7 v' HQ0.out hg7 hq7 hat7
                     have HA5 := Lib.hid hA8
                     clear hg7 hq7 hat7 hA8 hq8 hsz8))
                clear hup8
                have hlk2 := HA5.out.look hI
                by_cases hmem : nv ∈ rowS f L x c
                · have HR : Hid (rowS f L x (c + 1) = rowS f L x c) := Lib.hid (by rw [rowS_succ, tick_old HFX.out hmem])
                  rw [decide_eq_true hmem] at hlk2
                  clear hmem
                  go_wp2_with fail
                  go_roundw
                  case rel => exact ⟨c + 1, _, by omega, by go_num, by rw [HR.out]; exact HA5.out, by rw [HR.out]; exact HG5.out⟩
                  case measure => simp [intOf]; omega
                · have HR : Hid (rowS f L x (c + 1) = rowS f L x c ++ [nv]) := Lib.hid (by rw [rowS_succ, tick_new HFX.out hmem])
                  have hrl1 := HRL.out (c + 1) (by omega)
                  rw [HR.out] at hrl1
                  simp at hrl1
                  rw [decide_eq_false hmem] at hlk2
                  obtain ⟨w6, hup6, hO6, hs6, hfin⟩ := HA5.out.push hI
                  have hO6' := ownsRow_ext hO6 (Ext.alloc w6 (.cells #[.int .i64 nv] 3))
                  have HFIN := Lib.hid hfin
                  have hlb := fun k hk => (HA5.out.s.own.lt k hk).1
                  clear hmem hO6 hfin
                  obtain ⟨i0, hi, hz0, hz1, hz2⟩ := info_parts inf3
                  go_wp2_with (first
                    | (at_builtin; refine wpList_append_own_at _ rfl (.tmp 79) (.tmp 81) 58 rfl w.heap.size 3 i0 (.int .i64 0) 1 8 Try.underlying58 hi hz0 hz1 hz2 rfl (by decide) _ _ _ rfl hO6' ⟨w6.heap.size, 0, none⟩ 1 1 [.int .i64 nv] rfl rfl (cell_one_new _ _ _) (fun x hx => by simp at hx; subst hx; rfl) (by unfold maxLen; omega) (by omega) (by simp; omega) ?_; intro v' w7 hown' hgrow5 hnil5 hat5
                       have HA7 := Lib.hid (HFIN.out _ w7 v' hown' hgrow5 hat5)
                       clear hown' hgrow5 hnil5 hat5))
                  go_roundw
                  case rel => exact ⟨c + 1, _, by omega, by go_num, by rw [HR.out]; exact HA7.out, HG5.out.pre (fun i hi => HPRE.out _ _ i hi)⟩
                  case measure => simp [intOf]; omega
        · have hc3 : c = 256 := by omega
          have e2 : decide ((c : Int) < 256) = false := decide_eq_false (by omega)
          subst hc3
          obtain ⟨la2, lcap2, rfl⟩ := hA.s.slice
          have HA := Lib.hid hA
          have HG := Lib.hid (hG.row (pre_get rowS_pre HX.out) (y := 0))
          clear hA hG
          go_wp2_with fail
          go_roundw
          case rel => exact ⟨k + 1, _, by go_num, by rw [HNEXT.out]; exact HA.out, by rw [HNEXT.out]; exact HG.out, by rw [HNEXT.out]; omega⟩
          case measure => simp [intOf]; omega
    · have e1 : decide ((k : Int) < ((lev f 0 k).length : Int)) = false := decide_eq_false (by omega)
      have hFull : Full f 0 (lev f 0 k) := ⟨k, rfl, by omega⟩
      have hsm := HSM.out k
      generalize hLL : lev f 0 k = L at *
      have HW := Lib.hid (hG.whole (by omega))
      have HGL := Lib.hid hG.1
      have HFULL := Lib.hid hFull
      have HSMX := Lib.hid hsm
      obtain ⟨x0, hx0⟩ : ∃ x0, L[0]? = some x0 := by
        have hm := hFull.start
        cases L with
        | nil => simp at hm
        | cons y L => exact ⟨y, rfl⟩
      obtain ⟨g, lcap, rfl, -⟩ := hA.s.at hx0
      obtain ⟨wA, hwA⟩ : ∃ wA : World, wA = wr := ⟨_, rfl⟩
      subst hwA
      have HEA := Lib.hid hA.s.ext
      have HGB := Lib.hid hA.g
      have HCL : Hid (∀ (k : Nat) (x : Int), L[k]? = some x → wA.cell? ⟨g, k, none⟩ = some (.int .i64 x)) := Lib.hid (fun k x hx => by
        obtain ⟨g', c', e, hc⟩ := hA.s.at hx
        cases e
        exact hc)
      have hlpos : 0 < L.length := by have := (List.getElem?_eq_some_iff.1 hx0).1; omega
      obtain ⟨ob, hob⟩ : ∃ ob, ob = wA.heap.size := ⟨_, rfl⟩
      obtain ⟨wB, hwB⟩ : ∃ wB, wB = wA.alloc (.map #[] 0) := ⟨_, rfl⟩
      have hmk3 : (Instr.makeMap 72 none).run Try.prog wA = .ok (.map (some ob)) wB := by rw [hob, hwB]; rfl
      have HC0 : Hid (LvC wA wB ob (.slice none 0 0) [] []) := Lib.hid (by rw [hob, hwB]; exact LvC.made)
      clear hLL hG hA hFull hsm hx0 hob hwB hk
      go_wp2_with fail
      clear hmk3
      go_loopw [15, 16] (fun tv kv wr => ∃ k : Nat, kv = .int .i64 k ∧ k ≤ L.length ∧ LvC wA wr ob tv (outI more ((L.take k).filter acc)) ((L.take k).filter acc)) (fun _ kv _ => L.length - (intOf kv).toNat)
      case atStart => exact ⟨0, rfl, by omega, by simp only [List.take_zero, List.filter_nil]; rw [show outI more [] = [] by cases more <;> rfl]; exact HC0.out⟩
      case round =>
        obtain ⟨k2, rfl, hk2, hC⟩ := hrel
        obtain ⟨T, hT⟩ : ∃ T, T = (L.take k2).filter acc := ⟨_, rfl⟩
        rw [← hT] at hC
        have hTl : T.length ≤ 40000001 := by rw [hT]; have h1 := List.length_filter_le acc (L.take k2); have h2 := List.length_take_le' k2 L; omega
        have HTT := Lib.hid hT
        have HC := Lib.hid hC
        clear hT hC
        by_cases hlt2 : k2 < L.length
        · have e2 : decide ((k2 : Int) < (L.length : Int)) = true := decide_eq_true (by omega)
          obtain ⟨x, hx⟩ : ∃ x, L[k2]? = some x := ⟨_, List.getElem?_eq_getElem hlt2⟩
          have hxs := HSMX.out x (List.mem_of_getElem? hx)
          have HXC := Lib.hid (HCL.out k2 x hx)
          have hcx := cs_ext HC.out.ext HXC.out
          obtain ⟨b1, hb1⟩ : ∃ b1, b1 = acc x := ⟨_, rfl⟩
          have hcon := HACC.out wr (HEA.out.trans HC.out.ext) x (by omega) (by omega)
          rw [← hb1] at hcon
          have HTN : Hid ((L.take (k2 + 1)).filter acc = if b1 then T ++ [x] else T) := Lib.hid (by
            rw [List.take_add_one, hx, Option.toList_some, List.filter_append, ← HTT.out, hb1]
            cases h : acc x <;> simp [h])
          have hI : I64 x := ⟨by omega, by omega⟩
          clear hb1 hx
          go_wp2_with fail
          refine hcon.mono ?_
          rintro e w4 ⟨rfl, hE4⟩
          have HC4 := Lib.hid (HC.out.next hE4)
          clear hE4 hcon hcx
          cases b1
          · go_wp2_with fail
            go_roundw
            case rel => exact ⟨k2 + 1, by go_num, by omega, by rw [HTN.out, if_neg (by simp)]; exact HC4.out⟩
            case measure => simp [intOf]; omega
          · have hcx := cs_ext HC4.out.ext HXC.out
            obtain ⟨ta, tcap, rfl, -⟩ := HC4.out.q.slice
            have hq8 := HC4.out.q.ext (Ext.alloc w4 (.cells #[.int .i64 x] 3))
            have hsz8 : wA.heap.size ≤ (w4.alloc (.cells #[.int .i64 x] 3)).heap.size := by have h1 := HC4.out.ext.size; simp; omega
            go_upto_region 24 with (first
              | (at_builtin; refine wpList_append_q rfl (.tmp 97) (.tmp 102) rfl (base := wA.heap.size) (xs := T) (x := x) rfl hq8 hsz8 (by omega) (c := 1) rfl (cs_new rfl) ?_; intro v' w7 hq7 hg7 hat7
                 have HC7 := Lib.hid (HC4.out.grow hq7 hg7 hat7)
                 clear hq7 hg7 hat7 hq8 hsz8 hcx))
            cases more
            · have hcx := cs_ext HC7.out.ext HXC.out
              have hsz0 := HSZ.out
              simp only [Bool.not_false] at hsz0
              obtain ⟨w8, hup8, hC8⟩ := HC7.out.put hI
              have HC8 := Lib.hid hC8
              clear hC8
              go_wp2_with fail
              go_roundw
              case rel => exact ⟨k2 + 1, by go_num, by omega, by first | (rw [HTN.out, if_pos rfl]; exact HC8.out) | (rw [HTN.out, if_pos trivial]; exact HC8.out)⟩
              case measure => simp [intOf]; omega
            · have hsz0 := HSZ.out
              simp only [Bool.not_true] at hsz0
              go_wp2_with fail
              go_roundw
              case rel => exact ⟨k2 + 1, by go_num, by omega, by first | (rw [HTN.out, if_pos rfl]; exact HC7.out) | (rw [HTN.out, if_pos trivial]; exact HC7.out)⟩
              case measure => simp [intOf]; omega
        · have e2 : decide ((k2 : Int) < (L.length : Int)) = false := decide_eq_false (by omega)
          have hC2 := HC.out
          rw [HTT.out, List.take_of_length_le (by omega)] at hC2
          have HC2 := Lib.hid hC2
          have hTl2 : (L.filter acc).length ≤ L.length := List.length_filter_le acc L
          have HND : Hid (outI more (L.filter acc)).Nodup := Lib.hid (by
            cases more
            · exact (show L.Nodup by obtain ⟨k, rfl, -⟩ := HFULL.out; exact lev_nodup).filter _
            · exact List.nodup_nil)
          clear HC HTT hC2
          go_wp2_with fail
          obtain ⟨T0, hT0⟩ : ∃ T0, T0 = L.filter acc := ⟨_, rfl⟩
          obtain ⟨O0, hO0⟩ : ∃ O0, O0 = outI more (L.filter acc) := ⟨_, rfl⟩
          have HLI : Hid (LiveI f acc more L O0 T0 (fun _ _ => True)) := Lib.hid (by rw [hO0, hT0]; exact LiveI.start)
          rw [← hO0, ← hT0] at HC2
          rw [← hO0] at HND
          rw [← hT0] at hTl2
          have HEND : Hid (∀ O, LiveI f acc more L O [] (fun _ _ => True) → ∀ x ∈ L, x ∈ O ↔ LiveS f acc more x) := Lib.hid (fun O h => live_end h (fun p hp c hc n hn => HFULL.out.closed hp hc hn))
          clear hO0 hT0
          obtain ⟨wb, hwb⟩ : ∃ wb : World, wb = wr := ⟨_, rfl⟩
          subst hwb
          go_loopg [15, 17, 18, 19] (200000000) (fun gk tv _ _ _ wr => ∃ O T, LvC wA wr ob tv O T ∧ LiveI f acc more L O T (fun _ _ => True) ∧ O.Nodup ∧ T.length ≤ L.length + O.length ∧ 2 * (40000001 - O.length) + T.length ≤ gk)
          case atStart => exact ⟨O0, T0, HC2.out, HLI.out, HND.out, by omega, by omega⟩
          case round =>
            obtain ⟨O, T, hC, hLI, hnd, hTl, hgk⟩ := hrel
            have hOl : O.length ≤ 40000001 := nodup_small hnd (fun x hx => HSMX.out x (hLI.sub x hx))
            have HLI := Lib.hid hLI
            have HND := Lib.hid hnd
            have HC := Lib.hid hC
            clear hLI hnd hC
            cases T with
            | nil =>
              obtain ⟨ta, tcap, rfl, -⟩ := HC.out.q.slice
              simp only [List.length_nil]
              go_wp2_with fail
              go_ret
              exact LiveR.mk (HEA.out.trans HC.out.ext) HC.out.map HFULL.out (HEND.out O HLI.out)
            | cons n T0 =>
              obtain ⟨g2, off, tcap, rfl, hcl, hcm, hc0⟩ := HC.out.q.at (j := 0) rfl
              unfold maxLen at hcm
              simp only [List.length_cons, Nat.add_zero] at hc0 hcl hTl hgk ⊢
              have hpos : 0 < T0.length + 1 := by omega
              have e3 : decide ((0 : Int) < (T0.length : Int) + 1) = true := decide_eq_true (by omega)
              obtain ⟨hnL, hnS⟩ := HLI.out.todo n (by simp)
              have hnx := HSMX.out n hnL
              have hI : I64 n := ⟨by omega, by omega⟩
              have HPOP := Lib.hid (HLI.out.pop (B := G n))
              have HC2 := Lib.hid HC.out.pop
              have HNS := Lib.hid hnS
              have hGn := HGL.out n
              have hOl2 := hOl
              clear hnS HLI
              go_upto_region 29 with fail
              obtain ⟨tv2, htv2⟩ : ∃ tv2, tv2 = Value.slice (if tcap = 1 then some ⟨g2, off, none⟩ else some ⟨g2, off + 1, none⟩) T0.length (tcap - 1) := ⟨_, rfl⟩
              rw [← htv2] at HC2
              rw [← htv2]
              clear htv2 hc0 hcl hcm hpos e3
              go_wp2_with fail
              go_loopw [15, 18, 19] (fun tv kv _ wr => ∃ (k3 : Nat) (O T : List Int), kv = .int .i64 k3 ∧ k3 ≤ (G n).length ∧ LvC wA wr ob tv O T ∧ LiveI f acc more L O T (fun a m => a = n → m ∈ (G n).take k3) ∧ O.Nodup ∧ T.length ≤ L.length + O.length ∧ 2 * (40000001 - O.length) + T.length + 1 ≤ gk) (fun _ kv _ _ => (G n).length - (intOf kv).toNat)
              case atStart => exact ⟨0, O, T0, rfl, by omega, HC2.out, HPOP.out, HND.out, by omega, by omega⟩
              case round =>
                obtain ⟨k3, O3, T3, rfl, hk3, hC, hLI, hnd, hTl3, hgk3⟩ := hrel
                obtain ⟨v, hlk, hq, -, -⟩ := (HGB.out.ext hC.ext).look hI
                have hOl3 : O3.length ≤ 40000001 := nodup_small hnd (fun x hx => HSMX.out x (hLI.sub x hx))
                have HLI3 := Lib.hid hLI
                have HND3 := Lib.hid hnd
                have HC3 := Lib.hid hC
                clear hLI hnd hC
                by_cases hlt3 : k3 < (G n).length
                · have e4 : decide ((k3 : Int) < ((G n).length : Int)) = true := decide_eq_true (by omega)
                  obtain ⟨m, hm⟩ : ∃ m, (G n)[k3]? = some m := ⟨_, List.getElem?_eq_getElem hlt3⟩
                  obtain ⟨vg, voff, vcap, rfl, hvc, hvm, hmc⟩ := hq.at hm
                  unfold maxLen at hvm
                  obtain ⟨hmL, b, hb, hfb⟩ := (HW.out n m).1 (List.mem_of_getElem? hm)
                  have hmx := HSMX.out m hmL
                  have hIm : I64 m := ⟨by omega, by omega⟩
                  have hlo := HC3.out.look hIm
                  have HML := Lib.hid hmL
                  have HMK := Lib.hid hm
                  have HLS : Hid (∀ md, LiveS f acc md m) := Lib.hid (fun md => LiveS.step hb hfb HNS.out)
                  clear hm hmL hb hfb hq
                  by_cases hmem : m ∈ O3
                  · have HOLD := Lib.hid (HLI3.out.old HMK.out hmem)
                    rw [decide_eq_true hmem] at hlo
                    clear hmem
                    go_wp2_with fail
                    go_roundw
                    case rel => exact ⟨k3 + 1, O3, T3, by go_num, by omega, HC3.out, HOLD.out, HND3.out, by omega, by omega⟩
                    case measure => simp [intOf]; omega
                  · have HNEW := Lib.hid (HLI3.out.new HMK.out HML.out (HLS.out _) (HLS.out _))
                    have hnd4 : (O3 ++ [m]).Nodup := List.nodup_append.2 ⟨HND3.out, by simp, fun a ha b hb => by simp at hb; subst hb; exact fun e => hmem (e ▸ ha)⟩
                    have hl4 := nodup_small hnd4 (fun x hx => HSMX.out x (HNEW.out.sub x hx))
                    rw [List.length_append, List.length_singleton] at hl4
                    have HND4 := Lib.hid hnd4
                    rw [decide_eq_false hmem] at hlo
                    obtain ⟨w4, hup, hC4⟩ := HC3.out.put hIm
                    obtain ⟨ta, tcap4, rfl, -⟩ := hC4.q.slice
                    have HC4 := Lib.hid hC4
                    have hq8 := HC4.out.q.ext (Ext.alloc w4 (.cells #[.int .i64 m] 3))
                    have hsz8 : wA.heap.size ≤ (w4.alloc (.cells #[.int .i64 m] 3)).heap.size := by have h1 := HC4.out.ext.size; simp; omega
                    clear hmem hnd4 hC4
                    go_wp2_with (first
                      | (at_builtin; refine wpList_append_q rfl (.tmp 139) (.tmp 141) rfl (base := wA.heap.size) (xs := T3) (x := m) rfl hq8 hsz8 (by omega) (c := 1) rfl (cs_new rfl) ?_; intro v' w7 hq7 hg7 hat7
                         have HC7 := Lib.hid (HC4.out.grow hq7 hg7 hat7)
                         clear hq7 hg7 hat7 hq8 hsz8))
                    go_roundw
                    case rel => exact ⟨k3 + 1, _, _, by go_num, by omega, HC7.out, HNEW.out, HND4.out, by simp; omega, by simp; omega⟩
                    case measure => simp [intOf]; omega
                · have e4 : decide ((k3 : Int) < ((G n).length : Int)) = false := decide_eq_false (by omega)
                  obtain ⟨va, vcap, rfl, -⟩ := hq.slice
                  have HDONE := Lib.hid (HLI3.out.done (by omega) (fun m hm b hb hf => (HW.out n m).2 ⟨hm, b, hb, hf⟩))
                  clear hq
                  go_wp2_with fail
                  go_roundg (gk - 1)
                  case measure => omega
                  case rel => exact ⟨O3, T3, HC3.out, HDONE.out, HND3.out, by omega, by omega⟩

end Go.Proofs.Ythoelnoahfedmaa
