/- The reference's States: the walk. -/
import Derived.Test.YthoelnoahfedmaaS2
namespace Go.Proofs.Ythoelnoahfedmaa
open Go Go.RowKit
open Go.Maps (Keyed)
set_option linter.unusedVariables false
set_option linter.unusedSimpArgs false

set_option maxRecDepth 100000 in
set_option maxHeartbeats 4000000 in
theorem rStates_any {w : World} {B : Nat} {a : Option Addr} {t : List Fmt} {cap : Nat} {i : Int} (hi1 : I64 i) (hT : TabA w B a t) (hB : B ≤ w.heap.size) (hcap : t.length ≤ cap) (hcap2 : cap ≤ 9223372036854775807) :
    Calls Try.prog 14 #[.slice a t.length cap, .int .i64 i] w fun e w' => ∃ n er, e = .returned (.tuple #[.int .i64 n, .int .i64 er]) ∧ Ext w w' ∧ StatesR t i n er := by
  have hn63 := hT.1
  unfold maxLen at hn63
  obtain ⟨v0, hv0⟩ : ∃ v0, v0 = errS t [i] := ⟨_, rfl⟩
  have HV0 := Lib.hid hv0
  have hcon := Error_any (la := some ⟨w.heap.size, 0, none⟩) (lcap := 1) (l := [i]) (hT.alloc hB (.cells #[.int .i64 i] 3)) (by simp; omega) hcap hcap2 (fun k x hk => by
    match k, hk with
    | 0, hk => cases hk; exact ⟨_, _, rfl, cs_new rfl⟩) (by simp)
  rw [← hv0] at hcon
  clear hv0
  go_enter Try.func14, Try.ntmps14
  go_wp2_with fail
  refine hcon.mono ?_
  rintro e w1 ⟨rfl, hb0⟩
  have hb1 : Ext w w1 := hb0.al
  by_cases hz : v0 = 0
  · subst hz
    obtain ⟨hv, hix⟩ := errS_zero HV0.out.symm
    obtain ⟨h0i, hit⟩ := hix i (by simp)
    obtain ⟨j, rfl⟩ : ∃ j : Nat, i = j := ⟨i.toNat, by omega⟩
    obtain ⟨fm, hfm⟩ : ∃ fm, t[j]? = some fm := ⟨_, List.getElem?_eq_getElem (by omega)⟩
    have hV := valid_VFmt hv hfm
    have hle : fm.fields.length ≤ 100 := by have := hV.le; omega
    have hmk : (Instr.makeMap 72 none).run Try.prog w1 = .ok (.map (some w1.heap.size)) (w1.alloc (.map #[] 0)) := rfl
    obtain ⟨ob, hup, hF⟩ := (MapK.made (enc := encN) w1).update law3 key3 encN_inj Try.underlying72 ⟨0, by unfold I64; omega⟩ (.bool true)
    have hF0 := hF (fun x => inB [0] x.1) (by simp [inB]) (fun y hy => by
      have : y.1 ≠ 0 := fun h => hy (Subtype.ext h)
      simp [inB, this])
    simp only [encN] at hup
    have hb2 : Ext w (ChangeMaps.setBlock (w1.alloc (.map #[] 0)) w1.heap.size ob) := (hb1.then_al _).turned hb1.size
    have hs2 : w1.heap.size < (ChangeMaps.setBlock (w1.alloc (.map #[] 0)) w1.heap.size ob).heap.size := by rw [turned_size]; simp
    have hmb : w.heap.size ≤ w1.heap.size := hb1.size
    generalize hw2 : ChangeMaps.setBlock (w1.alloc (.map #[] 0)) w1.heap.size ob = w2 at *
    generalize hmbv : w1.heap.size = mb at *
    have hS0 := Srch.start hb2 hF0 hmb hs2
    clear hF hF0 hw2
    have HT := Lib.hid hT
    have HS0 := Lib.hid hS0; clear hS0
    go_wp2_with fail
    go_loopw [8, 9, 10, 11] (fun lv kv _ _ wr => ∃ (k : Nat), kv = .int .i64 k ∧ Srch w wr mb lv (lev (stF t fm.fields) 0 k) ∧ k ≤ (lev (stF t fm.fields) 0 k).length ∧ (lev (stF t fm.fields) 0 k).length ≤ 20000) (fun _ kv _ _ _ => 20001 - (intOf kv).toNat)
    case atStart => exact ⟨0, rfl, HS0.out, by simp, by simp [lev]⟩
    case round =>
      obtain ⟨k, rfl, hS, hk, hL⟩ := hrel
      obtain ⟨la, lcap, rfl⟩ := hS.slice
      have hll := hS.own.lt
      by_cases hlt : k < (lev (stF t fm.fields) 0 k).length
      · obtain ⟨x, hx⟩ : ∃ x, (lev (stF t fm.fields) 0 k)[k]? = some x := ⟨_, List.getElem?_eq_getElem hlt⟩
        have hxs := lev_small hle (t := t) x (List.mem_of_getElem? hx)
        have hOver : ∀ c, c ≤ 256 → 20000 < (rowS (stF t fm.fields) (lev (stF t fm.fields) 0 k) x c).length → Over (stF t fm.fields) 0 := fun c hc h => over_of_row hx hc h
        have hnext : lev (stF t fm.fields) 0 (k + 1) = rowS (stF t fm.fields) (lev (stF t fm.fields) 0 k) x 256 := lev_succ hx
        have hF1 := Lib.hid (show ∀ s b, stF t fm.fields s b = if rStep t fm.fields s b < 0 then none else some (rStep t fm.fields s b) from fun _ _ => rfl)
        generalize hff : stF t fm.fields = f at *
        have HFF := Lib.hid hff
        generalize hLL : lev f 0 k = L at *
        have HLL := Lib.hid hLL
        have HOVER := Lib.hid hOver
        have HNEXT := Lib.hid hnext
        have HX := Lib.hid hx
        have HS := Lib.hid hS
        clear hff hLL hOver hnext hx hS hll HS0
        have e1 : decide ((k : Int) < (L.length : Int)) = true := decide_eq_true (by omega)
        go_wp2_with fail
        go_loopw [8, 10, 11] (fun lv2 cv _ wr2 => ∃ c : Nat, c ≤ 256 ∧ cv = .int .i64 c ∧ Srch w wr2 mb lv2 (rowS f L x c) ∧ (rowS f L x c).length ≤ 20000 + c) (fun _ cv _ _ => 256 - (intOf cv).toNat)
        case atStart => exact ⟨0, by omega, rfl, HS.out, by rw [rowS_zero]; omega⟩
        case round =>
          obtain ⟨c, hc, rfl, hS2, hLc⟩ := hrel
          have hlen2 : L.length ≤ (rowS f L x c).length := (rowS_pre (f := f) (L := L) (x := x) (c := c)).length_le
          by_cases hc2 : c < 256
          · have e2 : decide ((c : Int) < 256) = true := decide_eq_true (by omega)
            obtain ⟨g, lcap2, rfl, hcell⟩ := hS2.at (pre_get rowS_pre HX.out)
            have HXT := hS2.ext
            obtain ⟨nv, hnv⟩ : ∃ nv, nv = rStep t fm.fields x c := ⟨_, rfl⟩
            have hcon2 := Step_any (cap := cap) x c (by omega) (by omega) (HT.out.ext hB HXT) (by have := HXT.size; omega) hfm hV
            rw [← hnv] at hcon2
            have HNV := Lib.hid hnv
            have hn40 : nv ≤ 40000000 := by rw [hnv]; exact rStep_le hle (by omega)
            clear hnv
            have HS2 := Lib.hid hS2; clear hS2
            go_wp2_with fail
            refine hcon2.mono ?_
            rintro e w3 ⟨rfl, hb3⟩
            have hS3 := HS2.out.next hb3
            by_cases hneg : nv < 0
            · have e3 : decide ((0 : Int) ≤ nv) = false := decide_eq_false (by omega)
              have hf0 : f x c = none := by rw [hF1.out, ← HNV.out, if_pos hneg]
              have HR : Hid (rowS f L x (c + 1) = rowS f L x c) := by show _ = _; rw [rowS_succ, tick_none hf0]
              have HS3 := Lib.hid hS3; clear hS3
              go_wp2_with fail
              go_roundw
              case rel => exact ⟨c + 1, by omega, by go_num, by rw [HR.out]; exact HS3.out, by rw [HR.out]; omega⟩
              case measure => simp [intOf]; omega
            · have e3 : decide ((0 : Int) ≤ nv) = true := decide_eq_true (by omega)
              have hf0 : f x c = some nv := by rw [hF1.out, ← HNV.out, if_neg hneg]
              have hI : I64 nv := ⟨by omega, by omega⟩
              have hlk := hS3.look hI
              by_cases hmem : nv ∈ rowS f L x c
              · have HR : Hid (rowS f L x (c + 1) = rowS f L x c) := by show _ = _; rw [rowS_succ, tick_old hf0 hmem]
                rw [decide_eq_true hmem] at hlk
                have HS3 := Lib.hid hS3; clear hS3
                go_wp2_with fail
                go_roundw
                case rel => exact ⟨c + 1, by omega, by go_num, by rw [HR.out]; exact HS3.out, by rw [HR.out]; omega⟩
                case measure => simp [intOf]; omega
              · have HR : Hid (rowS f L x (c + 1) = rowS f L x c ++ [nv]) := by show _ = _; rw [rowS_succ, tick_new hf0 hmem]
                rw [decide_eq_false hmem] at hlk
                obtain ⟨w4, n4, hup, hE4, hM4, hO4⟩ := hS3.put hI
                have hO4' := ownsRow_ext hO4 (Ext.alloc w4 (.cells #[.int .i64 nv] 3))
                have hapart := hS3.apart
                have hlb := fun k hk => (hS3.own.lt k hk).1
                have hsz4 := hE4.size
                have HM4 := Lib.hid hM4
                have HE4 := Lib.hid hE4
                have HS3 := Lib.hid hS3; clear hS3 hM4 hE4 hO4
                obtain ⟨i0, hi, hz0, hz1, hz2⟩ := info_parts inf3
                go_wp2_with (first
                  | (at_builtin; refine wpList_append_own_at _ rfl _ _ 58 rfl w.heap.size 3 i0 (.int .i64 0) 1 8 Try.underlying58 hi hz0 hz1 hz2 rfl (by decide) _ _ _ rfl hO4' ⟨w4.heap.size, 0, none⟩ 1 1 [.int .i64 nv] rfl rfl (cell_one_new _ _ _) (fun x hx => by simp at hx; subst hx; rfl) (by unfold maxLen; omega) (by omega) (by simp; omega) ?_; intro v' w5 hown' hgrow5 hnil5 hat5
                     have HS5 := Lib.hid (Srch.push HE4.out HM4.out hapart hlb HS3.out.mb hown' hgrow5 hat5)
                     clear hown' hgrow5 hnil5 hat5))
                go_roundw
                case rel => exact ⟨c + 1, by omega, by go_num, by rw [HR.out]; exact HS5.out, by rw [HR.out]; simp; omega⟩
                case measure => simp [intOf]; omega
          · have hc3 : c = 256 := by omega
            subst hc3
            by_cases hbig : 20000 < (rowS f L x 256).length
            · have e4 : decide ((20000 : Int) < ((rowS f L x 256).length : Int)) = true := decide_eq_true (by omega)
              have HO : Hid (Over (stF t fm.fields) 0) := by have h := HOVER.out 256 (by omega) hbig; rw [← HFF.out] at h; exact h
              obtain ⟨la2, lcap2, rfl⟩ := hS2.slice
              have HXT := Lib.hid hS2.ext
              clear hS2
              go_wp2_with fail
              go_ret2
              exact ⟨_, _, rfl, HXT.out, .inr ⟨HV0.out.symm, j, fm, rfl, hfm, hV, .inl ⟨HO.out, rfl, rfl⟩⟩⟩
            · have e4 : decide ((20000 : Int) < ((rowS f L x 256).length : Int)) = false := decide_eq_false (by omega)
              obtain ⟨la2, lcap2, rfl⟩ := hS2.slice
              have HS2 := Lib.hid hS2; clear hS2
              go_wp2_with fail
              go_roundw
              case rel => exact ⟨k + 1, by go_num, by rw [HNEXT.out]; exact HS2.out, by rw [HNEXT.out]; omega, by rw [HNEXT.out]; omega⟩
              case measure => simp [intOf]; omega
      · have HFull : Hid (Full (stF t fm.fields) 0 (lev (stF t fm.fields) 0 k)) := ⟨k, rfl, by omega⟩
        have HH := Lib.hid hL
        have HE := Lib.hid hS.ext
        have hl2 : ((lev (stF t fm.fields) 0 k).length : Int) ≤ 20000 := by omega
        have hk2 : (k : Int) = ((lev (stF t fm.fields) 0 k).length : Int) := by omega
        have hk3 : decide ((k : Int) < ((lev (stF t fm.fields) 0 k).length : Int)) = false := decide_eq_false (by omega)
        generalize hLL : (lev (stF t fm.fields) 0 k) = L at *
        clear hS hLL hL hk hk2 hll
        go_wp2_with fail
        go_ret2
        exact ⟨_, _, rfl, HE.out, .inr ⟨HV0.out.symm, j, fm, rfl, hfm, hV, .inr ⟨_, HFull.out, HH.out, rfl, rfl⟩⟩⟩
  · have e1 : (v0 == 0) = false := beq_eq_false_iff_ne.2 hz
    go_wp2_with fail
    go_ret2
    exact ⟨0, v0, rfl, hb1, .inl ⟨by rw [← HV0.out]; exact hz, rfl, HV0.out⟩⟩

end Go.Proofs.Ythoelnoahfedmaa
