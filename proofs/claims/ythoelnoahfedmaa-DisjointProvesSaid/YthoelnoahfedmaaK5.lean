/- The reference's Prove; the walk of the law Proves. -/
import Derived.Test.YthoelnoahfedmaaK3
import Derived.Test.YthoelnoahfedmaaK4
import Derived.Test.YthoelnoahfedmaaS22
import Derived.Laws.MakeOwn
namespace Go.Proofs.Ythoelnoahfedmaa
open Go Go.RowKit
set_option linter.unusedVariables false
set_option linter.unusedSimpArgs false

set_option maxRecDepth 100000 in
set_option maxHeartbeats 1600000 in
theorem rProve_any {w : World} {B : Nat} {a : Option Addr} {t : List Fmt} {cap : Nat} {i j : Int} (hT : TabA w B a t) (hB : B ≤ w.heap.size) (hcap : t.length ≤ cap) (hcap2 : cap ≤ 9223372036854775807) :
    Calls Try.prog 27 #[.slice a t.length cap, .int .i64 i, .int .i64 j] w fun e w' => ∃ v er, e = .returned (.tuple #[v, .int .i64 er]) ∧ Ext w w' ∧ ProveR w' t i j v er := by
  have hcon := Exists_any (i := i) (j := j) hT hB hcap hcap2
  go_enter Try.func27, Try.ntmps27
  go_wp2_with fail
  refine hcon.mono ?_
  rintro e w1 ⟨b, er, rfl, hb1, hP⟩
  have HB := Lib.hid hb1
  rcases hP with ⟨he, rfl, her⟩ | ⟨he, i', j', fm, gm, hi, hj, hfm, hgm, hVf, hVg, hR⟩
  · have e1 : (er == 0) = false := beq_eq_false_iff_ne.2 (by rw [her]; exact he)
    have HE := Lib.hid he
    have HER := Lib.hid her
    clear he her hb1 hcon
    go_wp2_with fail
    go_ret2
    exact ⟨_, _, rfl, HB.out, .inl ⟨HE.out, rfl, HER.out⟩⟩
  · subst hi hj
    have hfin : ∀ w' v er, ((Over (stP t fm.fields gm.fields) (0, 0) ∧ v = .slice none 0 0 ∧ er = 3) ∨ ∃ L, Full (stP t fm.fields gm.fields) (0, 0) L ∧ L.length ≤ 20000 ∧
      (((∃ p ∈ L, bothS fm.fields gm.fields p = true) ∧ v = .slice none 0 0 ∧ er = 5) ∨ ((∀ p ∈ L, bothS fm.fields gm.fields p = false) ∧ er = 0 ∧ ∃ L' : List (Int × Int), ∃ a cap, L'.Perm L ∧ L'.Pairwise ltP ∧ L'.length ≤ cap ∧ v = .slice a L'.length cap ∧ PairsA w' a L'))) → ProveR w' t i' j' v er :=
      fun w' v er h => .inr ⟨he, i', j', fm, gm, rfl, rfl, hfm, hgm, hVf, hVg, h⟩
    have HFIN := Lib.hid hfin
    rcases hR with ⟨hO, rfl, rfl⟩ | ⟨L, hF, hL, rfl, hR⟩
    · have HO := Lib.hid hO
      clear hfin he hfm hgm hVf hVg hO hT hcon hb1
      go_wp2_with fail
      go_ret2
      exact ⟨_, _, rfl, HB.out, HFIN.out _ _ _ (.inl ⟨HO.out, rfl, rfl⟩)⟩
    · rcases hR with ⟨rfl, hex⟩ | ⟨rfl, hno⟩
      · have HF := Lib.hid hF
        have HEX := Lib.hid hex
        have HL := Lib.hid hL
        clear hfin he hfm hgm hVf hVg hT hcon hb1 hF hex hL
        go_wp2_with fail
        go_ret2
        exact ⟨_, _, rfl, HB.out, HFIN.out _ _ _ (.inr ⟨L, HF.out, HL.out, .inl ⟨HEX.out, rfl, rfl⟩⟩)⟩
      · obtain ⟨tb, toff, rfl, -⟩ := hT.2 (ne_nil_of_get hfm)
        have hcon2 := pairs_any (w := w1) (cap := cap) (hT.ext hB hb1) (by have := hb1.size; omega) hfm hgm hVf hVg
        have HC2 := Lib.hid hcon2
        have HF := Lib.hid hF
        have HNO := Lib.hid hno
        have HL := Lib.hid hL
        clear hfin he hfm hgm hVf hVg hT hcon hb1 hF hno hcon2
        go_wp2_with fail
        refine HC2.out.mono ?_
        rintro e w2 ⟨v, er, rfl, hE2, hP⟩
        have HB2 := Lib.hid (HB.out.trans hE2)
        clear hE2
        rcases hP with ⟨hO, -, -⟩ | ⟨R, hFR, hLR, rfl, hO⟩
        · exact absurd hO (HF.out.not_over HL.out)
        · have hLR2 : R.map (·.p) = L := hFR.unique HF.out
          have hpos : 0 < R.length := by have := List.length_pos_of_mem hFR.start; simpa using this
          have hne : L ≠ [] := fun e => by rw [e] at hLR2; simp at hLR2; subst hLR2; simp at hpos
          have hnd : L.Nodup := by obtain ⟨k, h, -⟩ := HF.out; rw [h]; exact lev_nodup
          have hRL : R.length = L.length := by rw [← hLR2]; simp
          obtain ⟨gR, capR, rfl, hcR, -⟩ := row2_slice hO hpos
          have hcells : ∀ (k : Nat) (x : Rch), R[k]? = some x → w2.cell? ⟨gR, k * 4, none⟩ = some (.int .i64 x.p.1) ∧ w2.cell? ⟨gR, k * 4 + 1, none⟩ = some (.int .i64 x.p.2) := fun k x hk => by
            obtain ⟨g', c', e, -, -, -, hc⟩ := rowN_at (n := 4) (f := encR) (fun _ => rfl) hO hk
            cases e
            exact ⟨hc 0 _ rfl, hc 1 _ rfl⟩
          obtain ⟨j0, hj0, hj1, hj2, hj3⟩ := info_parts inf53
          obtain ⟨w3, hmk, hown, hgr⟩ := run_make_own (P := Try.prog) w2 w2.heap.size 48 53 j0 (.agg #[.int .i64 0, .int .i64 0]) 2 Try.underlying48 hj0 hj1 hj2 .i64 .i64 R.length (by rw [hj3]; omega) (by unfold maxLen; omega) (Nat.le_refl _)
          have HC := Lib.hid hcells
          have HLR := Lib.hid hLR2
          have HNE := Lib.hid hne
          have HND := Lib.hid hnd
          have HOWN := Lib.hid hown
          have HE3 : Hid (Ext w2 w3) := Lib.hid ((Ext.refl w2).grown hgr (fun k hk => by cases hk))
          have HRL := Lib.hid hRL
          clear hFR hLR2 hcells hO hne hnd hown hgr hj0 hj1 hj2 hj3 hRL
          go_wp2_with fail
          clear hmk
          go_loopw [12, 13] (fun ov kv wr => ∃ k : Nat, kv = .int .i64 k ∧ k ≤ R.length ∧ wr.ownsRow w2.heap.size 53 2 ov (L.take k).length (flatP (L.take k)) ∧ Ext w2 wr) (fun _ kv _ => R.length - (intOf kv).toNat)
          case atStart => exact ⟨0, rfl, by omega, HOWN.out, HE3.out⟩
          case round =>
            obtain ⟨k, rfl, hk, hO, hE⟩ := hrel
            by_cases hlt : k < R.length
            · obtain ⟨x, hx⟩ : ∃ x, R[k]? = some x := ⟨_, List.getElem?_eq_getElem hlt⟩
              obtain ⟨y0, y1⟩ := HC.out k x hx
              have y0 := cs_ext hE y0
              have y1 := cs_ext hE y1
              have HTK : Hid (L.take (k + 1) = L.take k ++ [x.p]) := Lib.hid (by
                have h1 : L[k]? = some x.p := by rw [← HLR.out, List.getElem?_map, hx]; rfl
                rw [List.take_add_one, h1]; rfl)
              have HO := Lib.hid hO
              have HE := Lib.hid hE
              have hl3 : (L.take k).length ≤ 30000 := by rw [List.length_take]; omega
              have hO2 := ownsRow_ext hO (Ext.alloc wr (.cells #[.int .i64 x.p.1, .int .i64 x.p.2] 53))
              have hsz : w2.heap.size ≤ (wr.alloc (.cells #[.int .i64 x.p.1, .int .i64 x.p.2] 53)).heap.size := by have := hE.size; simp; omega
              have hone : SliP (wr.alloc (.cells #[.int .i64 x.p.1, .int .i64 x.p.2] 53)) (.slice (some ⟨wr.heap.size, 0, none⟩) 1 1) [x.p] := one_sli hs_new
              obtain ⟨ta, tcap, rfl⟩ : ∃ ta tcap, u12 = .slice ta (L.take k).length tcap := by
                obtain ⟨a', c', e, -⟩ := PairsA.own hO
                exact ⟨_, _, e⟩
              clear hx hO hE
              go_wp2_with (first
                | (at_builtin; (refine wpList_app53 rfl (.tmp 41) (.tmp 47) rfl rfl hO2 hsz hl3 (X := [x.p]) (by simp) (b := wr.heap.size) (f := 0) (c := 1) rfl hone ?_); intro v5 w5 o5 g5
                   have HO5 := Lib.hid o5
                   have HE5 := Lib.hid ((HE.out.then_al _).grown g5 (fun k hk => (hO2.lt k hk).1))
                   clear o5 g5 hO2 hone))
              go_roundw
              case rel => exact ⟨k + 1, by go_num, by omega, by rw [HTK.out]; exact HO5.out, HE5.out⟩
              case measure => simp [intOf]; omega
            · have hkl : L.take k = L := List.take_of_length_le (by have := HRL.out; omega)
              rw [hkl] at hO
              have hs := SliP.of_own hO HNE.out
              obtain ⟨ub, uo, uc, rfl, -, -, -⟩ := id hs
              have HS := Lib.hid (Sorted_any L.length (Nat.le_refl _) (by omega) HNE.out HND.out hs)
              have HE := Lib.hid hE
              clear hO hs hE hkl
              go_wp2_with fail
              refine HS.out.mono ?_
              rintro e w5 ⟨u, rfl, hE5, L', h1, h2, h3⟩
              have HE5 := Lib.hid (HB2.out.trans (HE.out.trans hE5))
              obtain ⟨ub', uo', uc', rfl, hc5, -, hx5⟩ := id h1
              have HP5 := Lib.hid h1.pairs
              have H2 := Lib.hid h2
              have H3 := Lib.hid h3
              clear hE5 h1 h2 h3 hx5
              go_wp2_with fail
              go_ret2
              exact ⟨_, _, rfl, HE5.out, HFIN.out _ _ _ (.inr ⟨L, HF.out, HL.out, .inr ⟨HNO.out, rfl, L', _, uc', H2.out, H3.out, hc5, rfl, HP5.out⟩⟩)⟩

end Go.Proofs.Ythoelnoahfedmaa
