/- Contracts: explore. -/
import Derived.Test.YtfaienbdebjfcaaGreatGM
import Derived.Deep.RegionHeld3
namespace Go.Proofs.YtfaienbdebjfcaaGreat
open Go Go.RowKit
open Go.Maps (Keyed)
set_option linter.unusedVariables false
set_option linter.unusedSimpArgs false
set_option linter.unusedSectionVars false

theorem ins_empty {w' : World} {g : Nat} (h : w'.heap[g]? = some (.map #[] 0)) : (Instr.mapUpdate 139 (.map (some g)) (.agg #[.int .i64 0, .int .i64 0]) (.int .i64 0)).run Tryz.prog w' = .ok () (ChangeMaps.setBlock w' g (.map #[{ key := .agg #[.int .i64 0, .int .i64 0], val := .int .i64 0, born := 0 }] 1)) := by
 obtain ⟨l, hl⟩ := key53 ⟨(0, 0), ⟨by omega, by omega⟩, by omega, by omega⟩
 simp only [encP] at hl
 rcases law53.find w' hl [] (by simp) with ⟨hf, -⟩ | ⟨j, e, -, hj, -⟩
 · simp [Instr.mapUpdate, run_underlying Tryz.underlying139, MapKept.run_getObj_map h, law53.check w' _ hl, hf, Result.andThen, MapKept.run_setObj_map _ h, ChangeMaps.setBlock]
 · simp at hj

set_option maxRecDepth 100000 in
set_option maxHeartbeats 1600000 in
theorem explore_any {w : World} {B : Nat} {tb toff : Nat} {t : List Fmt} {cap : Nat} {i j : Nat} {fm gm : Fmt} (hT : TabA w B (some ⟨tb, toff, none⟩) t) (hB : B ≤ w.heap.size) (hi : t[i]? = some fm) (hj : t[j]? = some gm) (hVf : VFmt t fm) (hVg : VFmt t gm) :
 Calls Tryz.prog 68 #[.agg #[.slice (some ⟨tb, toff, none⟩) t.length cap, .int .i64 i], .agg #[.slice (some ⟨tb, toff, none⟩) t.length cap, .int .i64 j]] w fun e w' => ∃ p er, e = .returned (.tuple #[p, .int .i64 er]) ∧ Ext w w' ∧ ExploreR w w' (.slice (some ⟨tb, toff, none⟩) t.length cap) i j (stP t fm.fields gm.fields) p er := by
 go_enter Tryz.func68, Tryz.ntmps68
 go_wp2_with fail
 obtain ⟨W2, hWW⟩ : ∃ W2, W2 = (w.alloc (Obj.cells #[Value.slice (some { block := tb, off := toff, spot := none }) (List.length t) cap, Value.int IntKind.i64 ↑i] 132)).alloc (Obj.cells #[Value.slice (some { block := tb, off := toff, spot := none }) (List.length t) cap, Value.int IntKind.i64 ↑j] 132) := ⟨_, rfl⟩
 have hE2 : Ext w W2 := by rw [hWW]; exact (Ext.alloc w _).then_al _
 have hs2 : W2.heap.size = w.heap.size + 2 := by rw [hWW]; simp
 have b0 : W2.heap[w.heap.size]? = some (.cells #[.slice (some ⟨tb, toff, none⟩) t.length cap, .int .i64 i] 132) := by rw [hWW]; exact hs_al hs_new
 have b1 : W2.heap[w.heap.size + 1]? = some (.cells #[.slice (some ⟨tb, toff, none⟩) t.length cap, .int .i64 j] 132) := by
  rw [hWW]; have h := hs_new (w := w.alloc (.cells #[.slice (some ⟨tb, toff, none⟩) t.length cap, .int .i64 i] 132)) (o := .cells #[.slice (some ⟨tb, toff, none⟩) t.length cap, .int .i64 j] 132); rwa [World.size_alloc] at h
 rw [← hWW]
 clear hWW
 have k0 : W2.cell? ⟨w.heap.size, 0, none⟩ = some (.slice (some ⟨tb, toff, none⟩) t.length cap) := by simp [World.cell?, b0]
 have k1 : W2.cell? ⟨w.heap.size, 1, none⟩ = some (.int .i64 i) := by simp [World.cell?, b0]
 have k2 : W2.cell? ⟨w.heap.size + 1, 0, none⟩ = some (.slice (some ⟨tb, toff, none⟩) t.length cap) := by simp [World.cell?, b1]
 have k3 : W2.cell? ⟨w.heap.size + 1, 1, none⟩ = some (.int .i64 j) := by simp [World.cell?, b1]
 have B0 := Lib.hid b0
 have B1 := Lib.hid b1
 have HS2 := Lib.hid hs2
 clear b0 b1 hs2
 go_cut [6] from 13 to 23 (fun p wx => ∃ gs mb pv wv, p = .pointer (some ⟨gs, 0, none⟩) ∧ PSrch W2 wx (.slice (some ⟨tb, toff, none⟩) t.length cap) i j gs mb pv wv [(0, 0)] [(0, 0)])
 case first =>
  have HFCT := Lib.hid (And.intro k0 (And.intro k1 (And.intro k2 k3)))
  refine wp_region_reg 13 true (by kernel_rfl) (by kernel_rfl) ?_
  refine reg_value (fun _ => rfl) ?_ (fun g w' vs hM hE hP => ?_) ?_
  rotate_left
  · (clear hP hM; have ⟨z0, z1, z2, z3⟩ := cs_e4 hE HFCT.out; go_simp; first | done | rfl)
  refine reg_value (fun _ => rfl) ?_ (fun g w' vs hM hE hP => ?_) ?_
  rotate_left
  · (clear hP hM; have ⟨z0, z1, z2, z3⟩ := cs_e4 hE HFCT.out; go_simp; first | done | rfl)
  refine reg_value (fun _ => rfl) ?_ (fun g w' vs hM hE hP => ?_) ?_
  rotate_left
  · (clear hP hM; have ⟨z0, z1, z2, z3⟩ := cs_e4 hE HFCT.out; go_simp; first | done | rfl)
  refine reg_fresh (fun _ => rfl) (fun n => .slice (some ⟨n, 0, none⟩) 1 1) ?_ (fun g w' vs hM hE hP => ?_) ?_
  rotate_left
  · (clear hP hM; have ⟨z0, z1, z2, z3⟩ := cs_e4 hE HFCT.out; go_simp; first | done | rfl | exact ⟨rfl, rfl⟩)
  refine reg_value (fun _ => rfl) ?_ (fun g w' vs hM hE hP => ?_) ?_
  rotate_left
  · (clear hP hM; have ⟨z0, z1, z2, z3⟩ := cs_e4 hE HFCT.out; go_simp; first | done | rfl)
  refine reg_fresh (fun _ => rfl) (fun n => .slice (some ⟨n, 0, none⟩) 1 1) ?_ (fun g w' vs hM hE hP => ?_) ?_
  rotate_left
  · (clear hP hM; have ⟨z0, z1, z2, z3⟩ := cs_e4 hE HFCT.out; go_simp; first | done | rfl | exact ⟨rfl, rfl⟩)
  refine reg_fresh (fun _ => rfl) (fun n => .map (some n)) ?_ (fun g w' vs hM hE hP => ?_) ?_
  rotate_left
  · (clear hP hM; have ⟨z0, z1, z2, z3⟩ := cs_e4 hE HFCT.out; go_simp; first | done | rfl | exact ⟨rfl, rfl⟩)
  refine reg_value (fun _ => rfl) ?_ (fun g w' vs hM hE hP => ?_) ?_
  rotate_left
  · (clear hP hM; have ⟨z0, z1, z2, z3⟩ := cs_e4 hE HFCT.out; go_simp; first | done | rfl)
  refine reg_turn (fun _ => rfl) 6 (fun _ => .map #[] 0) (fun _ => .map #[{ key := .agg #[.int .i64 0, .int .i64 0], val := .int .i64 0, born := 0 }] 1) (by simp) (anc_of 1 (by kernel_rfl)) (fun _ => .inl ⟨_, _, rfl⟩) (fun g w' vs hM hE hP hh => ?_) ?_
  · have hi := ins_empty hh
    clear hP hM hh
    refine ⟨.skip, ?_, .inr rfl⟩
    go_simp
  refine reg_value (fun _ => rfl) ?_ (fun g w' vs hM hE hP => ?_) ?_
  rotate_left
  · (clear hP hM; have ⟨z0, z1, z2, z3⟩ := cs_e4 hE HFCT.out; go_simp; first | done | rfl)
  refine reg_value (fun _ => rfl) ?_ (fun g w' vs hM hE hP => ?_) ?_
  rotate_left
  · (clear hP hM; have ⟨z0, z1, z2, z3⟩ := cs_e4 hE HFCT.out; go_simp; first | done | rfl)
  refine reg_fresh (fun _ => rfl) (fun n => .pointer (some ⟨n, 0, none⟩)) ?_ (fun g w' vs hM hE hP => ?_) ?_
  rotate_left
  · (clear hP hM; have ⟨z0, z1, z2, z3⟩ := cs_e4 hE HFCT.out; go_simp; first | done | rfl | exact ⟨rfl, rfl⟩)
  refine reg_value (fun _ => rfl) ?_ (fun g w' vs hM hE hP => ?_) ?_
  rotate_left
  · (clear hP hM; have ⟨z0, z1, z2, z3⟩ := cs_e4 hE HFCT.out; go_simp; first | done | rfl)
  intro g wz hE hF hQ
  simp only [List.drop_succ_cons, List.drop_zero, Act.put, List.setIfInBounds_toArray, List.set_cons_succ, List.set_cons_zero]
  obtain ⟨hsz, hall, hpw⟩ := hF
  simp [List.filter] at hall hpw
  clear hQ
  have HA := Lib.hid hall
  have HP := Lib.hid hpw
  clear hall hpw k0 k1 k2 k3
  go_wp2_with fail
  go_meet
  obtain ⟨q1, q2, q3, q4, q5⟩ := HA.out
  obtain ⟨⟨p1, p2, p3⟩, ⟨p4, p5⟩, p6⟩ := HP.out
  exact ⟨(g 11).n, (g 6).n, _, _, rfl, PSrch.start hE q1 q2 q3 q4 q5 p2 p1 p3 p4 p5 p6⟩
 case rest =>
  obtain ⟨gs, mb, pv0, wv0, rfl, hS0⟩ := hcut
  obtain ⟨f, hf⟩ : ∃ f, f = stP t fm.fields gm.fields := ⟨_, rfl⟩
  have HFF := Lib.hid hf; clear hf
  have HS0 := Lib.hid hS0; clear hS0
  have HT := Lib.hid hT; clear hT
  have HI := Lib.hid hi; clear hi
  have HJ := Lib.hid hj; clear hj
  obtain ⟨tv, htv⟩ : ∃ tv, tv = Value.slice (some { block := tb, off := toff, spot := none }) t.length cap := ⟨_, rfl⟩
  rw [← htv] at HS0 k0 k2
  have HTV := Lib.hid htv; clear htv
  have HK0 := Lib.hid k0
  have HK1 := Lib.hid k1
  have HK2 := Lib.hid k2
  have HK3 := Lib.hid k3
  clear k0 k1 k2 k3
  go_wp2_with fail
  go_loopw [7, 8, 9, 10, 11, 12, 40] (fun iv _ _ _ _ _ _ wr => ∃ (k : Nat) (pv wv : Value) (Ws : List (Nat × Nat)), iv = .int .i64 k ∧ PSrch W2 wr tv i j gs mb pv wv (lev f (0, 0) k) Ws ∧ Ways f (lev f (0, 0) k) Ws ∧ k ≤ (lev f (0, 0) k).length ∧ (lev f (0, 0) k).length ≤ 20000) (fun iv _ _ _ _ _ _ _ => 20001 - (intOf iv).toNat)
  case atStart => exact ⟨0, _, _, _, rfl, HS0.out, Ways.one, by simp, by simp [lev]⟩
  case round =>
   obtain ⟨k, pv, wv, Ws, rfl, hS, hW, hk, hL⟩ := hrel
   by_cases hlt : k < (lev f (0, 0) k).length
   · obtain ⟨x, hx⟩ : ∃ x, (lev f (0, 0) k)[k]? = some x := ⟨_, List.getElem?_eq_getElem hlt⟩
     obtain ⟨hx1, hx2⟩ : x.1 ≤ 9223372036854775807 ∧ x.2 ≤ 9223372036854775807 := by
      have hx' := hx
      rw [HFF.out] at hx'
      have h := levP_small (t := t) (by have := hVf.le; omega) (by have := hVg.le; omega) x (List.mem_of_getElem? hx')
      omega
     obtain ⟨-, -, -, -, c4, -, -⟩ := hS.cells
     obtain ⟨gp, pcap, rfl, hpc, hgp, hgp2, hcell⟩ := row2_at (f := encP2) (fun _ => rfl) hS.pairs hx
     have d0 := hcell 0 _ rfl
     have d1 := hcell 1 _ rfl
     simp only [Nat.add_zero] at d0
     have hgl := hS.gs_lt
     have HS := Lib.hid hS; clear hS
     have HX := Lib.hid hx; clear hx
     have HW := Lib.hid hW; clear hW
     have HC := Lib.hid hcell; clear hcell
     have e1 : decide ((k : Int) < ((lev f (0, 0) k).length : Int)) = true := decide_eq_true (by omega)
     generalize hLL : lev f (0, 0) k = L at *
     have HLL := Lib.hid hLL; clear hLL
     go_wp2_with fail
     have hown1 := HS.out.pairs.lt
     have hown2 := HS.out.ways.lt
     have hmbl : mb < wr.heap.size := by obtain ⟨n, F, h, -⟩ := HS.out.map; exact h.lt
     have hpb : wr.heap.size ≠ gs ∧ wr.heap.size ≠ mb := by omega
     have hS1 := HS.out.next (Ext.alloc wr (.cells #[.int .i64 x.1, .int .i64 x.2] 143))
     have hpa : (Value.slice (some ⟨gp, 0, none⟩) L.length pcap).ownBlock ≠ some wr.heap.size := fun h => by have := (hown1 _ h).2; omega
     have hwa : wv.ownBlock ≠ some wr.heap.size := fun h => by have := (hown2 _ h).2; omega
     have hpbc : (wr.alloc (.cells #[.int .i64 x.1, .int .i64 x.2] 143)).heap[wr.heap.size]? = some (.cells #[.int .i64 x.1, .int .i64 x.2] 143) := hs_new
     obtain ⟨pb, hpbv⟩ : ∃ pb, pb = wr.heap.size := ⟨_, rfl⟩
     obtain ⟨wr1, hwr1⟩ : ∃ wr1, wr1 = wr.alloc (.cells #[.int .i64 x.1, .int .i64 x.2] 143) := ⟨_, rfl⟩
     rw [← hwr1] at hS1 hpbc ⊢
     rw [← hpbv] at hpb hpa hwa hpbc ⊢
     have hpl : W2.heap.size ≤ pb := by have := hS1.ext.size; have := HS.out.ext.size; omega
     have HS1 := Lib.hid hS1
     have HPBC := Lib.hid hpbc
     have HPA := Lib.hid hpa
     have HWA := Lib.hid hwa
     have HPB := Lib.hid hpb
     clear hown1 hown2 hmbl hS1 hpa hwa hpbc hpbv hwr1 HS c4 d0 d1 hgp2 hgl hpb HC
     go_loopw [9, 10, 11, 12, 40] (fun _ _ _ _ cv wr2 => ∃ (c : Nat) (pv2 wv2 : Value) (Ws2 : List (Nat × Nat)), c ≤ 256 ∧ cv = .int .i64 c ∧ PSrch W2 wr2 tv i j gs mb pv2 wv2 (rowS f L x c) Ws2 ∧ Ways f (rowS f L x c) Ws2 ∧ (rowS f L x c).length ≤ 20000 ∧
      wr2.heap[pb]? = some (.cells #[.int .i64 x.1, .int .i64 x.2] 143) ∧ pv2.ownBlock ≠ some pb ∧ wv2.ownBlock ≠ some pb) (fun _ _ _ _ cv _ => 256 - (intOf cv).toNat)
     case atStart => exact ⟨0, _, _, _, by omega, rfl, HS1.out, HW.out, hL, HPBC.out, HPA.out, HWA.out⟩
     case round =>
      obtain ⟨c, pv2, wv2, Ws2, hc, rfl, hS2, hW2, hL2, hpbc2, hpa2, hwa2⟩ := hrel
      by_cases hc2 : c < 256
      · have e2 : decide ((c : Int) < 256) = true := decide_eq_true (by omega)
        obtain ⟨n1, hn1⟩ : ∃ n1, n1 = rStep t fm.fields x.1 c := ⟨_, rfl⟩
        obtain ⟨n2, hn2⟩ : ∃ n2, n2 = rStep t gm.fields x.2 c := ⟨_, rfl⟩
        have hmt : HT.out.1 = HT.out.1 := rfl
        have hcon1 := fun (w' : World) (hE : Ext wr w') => stepV (w := w') (cap := cap) x.1 c (by omega) hx1 (HT.out.ext hB (hE2.trans (hS2.ext.trans hE))) (by have := (hE2.trans (hS2.ext.trans hE)).size; omega) HI.out hVf
        have hcon2 := fun (w' : World) (hE : Ext wr w') => stepV (w := w') (cap := cap) x.2 c (by omega) hx2 (HT.out.ext hB (hE2.trans (hS2.ext.trans hE))) (by have := (hE2.trans (hS2.ext.trans hE)).size; omega) HJ.out hVg
        rw [← hn1] at hcon1
        rw [← hn2] at hcon2
        have HN1 := Lib.hid hn1
        have HN2 := Lib.hid hn2
        have k0 := cs_ext hS2.ext HK0.out
        have k1 := cs_ext hS2.ext HK1.out
        have k2 := cs_ext hS2.ext HK2.out
        have k3 := cs_ext hS2.ext HK3.out
        have k4 : wr.cell? ⟨pb, 0, none⟩ = some (.int .i64 x.1) := by simp [World.cell?, hpbc2]
        have k5 : wr.cell? ⟨pb, 1, none⟩ = some (.int .i64 x.2) := by simp [World.cell?, hpbc2]
        rw [HTV.out] at k0 k2
        have hwc : IntKind.u8.wrap (c : Int) = (c : Int) := IntWalk.u8_in _ (by omega)
        have HCON1 := Lib.hid hcon1
        have HCON2 := Lib.hid hcon2
        have HS2 := Lib.hid hS2
        have HPBC2 := Lib.hid hpbc2
        have HPA2 := Lib.hid hpa2
        have HWA2 := Lib.hid hwa2
        have HW2 := Lib.hid hW2
        clear hn1 hn2 hS2 hpbc2 hpa2 hwa2 hcon1 hcon2 hW2 hmt
        go_wp2_with fail
        have HFCT := Lib.hid (And.intro k0 (And.intro k1 (And.intro k2 (And.intro k3 (And.intro k4 k5)))))
        refine wp_region_reg 14 false (by kernel_rfl) (by kernel_rfl) ?_
        refine reg_value (fun _ => rfl) ?_ (fun g w' vs hM hE hP => ?_) ?_
        rotate_left
        · (clear hP hM; have ⟨z0, z1, z2, z3, z4, z5⟩ := cs_e6 hE HFCT.out; go_simp; first | done | rfl)
        refine reg_value (fun _ => rfl) ?_ (fun g w' vs hM hE hP => ?_) ?_
        rotate_left
        · (clear hP hM; have ⟨z0, z1, z2, z3, z4, z5⟩ := cs_e6 hE HFCT.out; go_simp; first | done | rfl)
        refine reg_value (fun _ => rfl) ?_ (fun g w' vs hM hE hP => ?_) ?_
        rotate_left
        · (clear hP hM; have ⟨z0, z1, z2, z3, z4, z5⟩ := cs_e6 hE HFCT.out; go_simp; first | done | rfl)
        refine reg_value (fun _ => rfl) ?_ (fun g w' vs hM hE hP => ?_) ?_
        rotate_left
        · (clear hP hM; have ⟨z0, z1, z2, z3, z4, z5⟩ := cs_e6 hE HFCT.out; go_simp; first | done | rfl)
        refine reg_value (fun _ => rfl) ?_ (fun g w' vs hM hE hP => ?_) ?_
        rotate_left
        · (clear hP hM; have ⟨z0, z1, z2, z3, z4, z5⟩ := cs_e6 hE HFCT.out; go_simp; first | done | rfl)
        refine reg_const (fun _ => rfl) 98 ?_ (fun g w' vs hM hE hP => ?_) ?_
        rotate_left
        · (clear hP hM; have ⟨z0, z1, z2, z3, z4, z5⟩ := cs_e6 hE HFCT.out; go_simp; first | done | exact ⟨rfl, rfl⟩ | rfl)
        apply Exists.intro
        refine And.intro (fun g w' vs hM hE hP => ?_) ?_
        · exact HCON1.out _ hE
        refine reg_value (fun _ => rfl) ?_ (fun g w' vs hM hE hP => ?_) ?_
        rotate_left
        · (clear hP hM; have ⟨z0, z1, z2, z3, z4, z5⟩ := cs_e6 hE HFCT.out; go_simp; first | done | rfl)
        refine reg_value (fun _ => rfl) ?_ (fun g w' vs hM hE hP => ?_) ?_
        rotate_left
        · (clear hP hM; have ⟨z0, z1, z2, z3, z4, z5⟩ := cs_e6 hE HFCT.out; go_simp; first | done | rfl)
        refine reg_value (fun _ => rfl) ?_ (fun g w' vs hM hE hP => ?_) ?_
        rotate_left
        · (clear hP hM; have ⟨z0, z1, z2, z3, z4, z5⟩ := cs_e6 hE HFCT.out; go_simp; first | done | rfl)
        refine reg_value (fun _ => rfl) ?_ (fun g w' vs hM hE hP => ?_) ?_
        rotate_left
        · (clear hP hM; have ⟨z0, z1, z2, z3, z4, z5⟩ := cs_e6 hE HFCT.out; go_simp; first | done | rfl)
        refine reg_value (fun _ => rfl) ?_ (fun g w' vs hM hE hP => ?_) ?_
        rotate_left
        · (clear hP hM; have ⟨z0, z1, z2, z3, z4, z5⟩ := cs_e6 hE HFCT.out; go_simp; first | done | rfl)
        refine reg_const (fun _ => rfl) 98 ?_ (fun g w' vs hM hE hP => ?_) ?_
        rotate_left
        · (clear hP hM; have ⟨z0, z1, z2, z3, z4, z5⟩ := cs_e6 hE HFCT.out; go_simp; first | done | exact ⟨rfl, rfl⟩ | rfl)
        apply Exists.intro
        refine And.intro (fun g w' vs hM hE hP => ?_) ?_
        · exact HCON2.out _ hE
        refine reg_value (fun _ => rfl) ?_ (fun g w' vs hM hE hP => ?_) ?_
        rotate_left
        · (clear hP hM; have ⟨z0, z1, z2, z3, z4, z5⟩ := cs_e6 hE HFCT.out; go_simp; first | done | rfl)
        refine reg_fresh (fun _ => rfl) (fun n => .pointer (some ⟨n, 0, none⟩)) ?_ (fun g w' vs hM hE hP => ?_) ?_
        rotate_left
        · (clear hP hM; have ⟨z0, z1, z2, z3, z4, z5⟩ := cs_e6 hE HFCT.out; go_simp; first | done | rfl | exact ⟨rfl, rfl⟩)
        intro g wz hE hF hQ
        simp only [List.drop_succ_cons, List.drop_zero, Act.put, List.setIfInBounds_toArray, List.set_cons_succ, List.set_cons_zero]
        obtain ⟨-, hF, -⟩ := hF
        obtain ⟨hg, hge⟩ := hF _ List.mem_cons_self
        simp at hg hge
        clear hF hQ k0 k1 k2 k3 k4 k5
        refine wpList_store_all rfl 143 (.tmp 10) (.tmp 55) rfl (g 13).n _ rfl rfl 143 _ hg (by kernel_rfl) rfl (by simp [Value.oneCell']) ?_
        obtain ⟨nb, hnb⟩ : ∃ nb, nb = (g 13).n := ⟨_, rfl⟩
        obtain ⟨w3, hw3⟩ : ∃ w3, w3 = wz.setRow nb #[.int .i64 n1, .int .i64 n2] := ⟨_, rfl⟩
        rw [← hnb] at hg hge ⊢
        rw [← hw3]
        have hE3 : Ext wr w3 := by rw [hw3]; exact hE.setRow hge _
        have hnbc : w3.heap[nb]? = some (.cells #[.int .i64 n1, .int .i64 n2] 143) := by rw [hw3]; exact setRow_heap _ _ _ _ _ _ hg
        clear hw3 hg hE hnb
        have hS3 := HS2.out.next hE3
        have m0 : w3.cell? ⟨nb, 0, none⟩ = some (.int .i64 n1) := by simp [World.cell?, hnbc]
        have m1 : w3.cell? ⟨nb, 1, none⟩ = some (.int .i64 n2) := by simp [World.cell?, hnbc]
        have HPB3 := Lib.hid (hs_ext hE3 HPBC2.out)
        have HNBC := Lib.hid hnbc; clear hnbc
        have HF1 : Hid (∀ z, f z = stP t fm.fields gm.fields z) := fun z => by rw [HFF.out]
        have HSUC : Hid (rowS f L x (c + 1) = tick f x (rowS f L x c) c) := rowS_succ
        by_cases hneg : n1 < 0 ∨ n2 < 0
        · have HR : Hid (rowS f L x (c + 1) = rowS f L x c) := by
           show _ = _
           rw [HSUC.out, tick_none]
           rw [HF1.out, stP, ← HN1.out, ← HN2.out, if_pos hneg]
          have HS3 := Lib.hid hS3; clear hS3
          by_cases h1 : n1 < 0
          · have e3 : decide (n1 < 0) = true := decide_eq_true h1
            go_wp2_with fail
            go_roundw
            case rel => exact ⟨c + 1, _, _, Ws2, by omega, by go_num, by rw [HR.out]; exact HS3.out, by rw [HR.out]; exact HW2.out, by rw [HR.out]; exact hL2, HPB3.out, HPA2.out, HWA2.out⟩
            case measure => simp [intOf]; omega
          · have e3 : decide (n1 < 0) = false := decide_eq_false h1
            have h2 : n2 < 0 := hneg.resolve_left h1
            have e4 : decide (n2 < 0) = true := decide_eq_true h2
            go_wp2_with fail
            go_roundw
            case rel => exact ⟨c + 1, _, _, Ws2, by omega, by go_num, by rw [HR.out]; exact HS3.out, by rw [HR.out]; exact HW2.out, by rw [HR.out]; exact hL2, HPB3.out, HPA2.out, HWA2.out⟩
            case measure => simp [intOf]; omega
        · have hp1 : 0 ≤ n1 := by omega
          have hp2 : 0 ≤ n2 := by omega
          have e3 : decide (n1 < 0) = false := decide_eq_false (by omega)
          have e4 : decide (n2 < 0) = false := decide_eq_false (by omega)
          have hstep : f x c = some (n1, n2) := by rw [HF1.out, stP, ← HN1.out, ← HN2.out, if_neg hneg]
          have HSTEP := Lib.hid hstep; clear hstep hneg
          have hn1l : n1 ≤ 40000000 := by rw [HN1.out]; exact rStep_le (by have := hVf.le; omega) (by omega)
          have hn2l : n2 ≤ 40000000 := by rw [HN2.out]; exact rStep_le (by have := hVg.le; omega) (by omega)
          obtain ⟨nk, hnk⟩ : ∃ nk : P64, nk.1 = (n1, n2) := ⟨⟨(n1, n2), ⟨by omega, by omega⟩, by omega, by omega⟩, rfl⟩
          have hkey : encP nk = .agg #[.int .i64 n1, .int .i64 n2] := by simp [encP, hnk]
          obtain ⟨-, -, -, -, q4, q5, q6⟩ := hS3.cells
          obtain ⟨mn, MF, hM, hMF⟩ := hS3.map
          have hlk := fun (w' : World) (hE : Ext w3 w') => (hM.ext hE).look law53 key53 Tryz.underlying139 (zero3 w') nk true
          obtain ⟨mv, hmv⟩ : ∃ mv, mv = (MF nk).getD (.int .i64 0) := ⟨_, rfl⟩
          have hkn := hMF nk
          rw [hnk] at hkn
          simp only [if_true, ← hmv, hkn, hkey] at hlk
          have HM := Lib.hid hM
          have HMF := Lib.hid hMF
          have HLK := Lib.hid hlk
          have HNK := Lib.hid hnk
          have HKEY := Lib.hid hkey
          have HS3 := Lib.hid hS3
          clear hM hMF hlk hnk hkey hS3 hkn hmv
          obtain ⟨kn, hknv⟩ : ∃ kn, kn = decide ((n1, n2) ∈ rowS f L x c) := ⟨_, rfl⟩
          have HKN := Lib.hid hknv; clear hknv
          go_wp2_with fail
          have HFCT := Lib.hid (And.intro q6 (And.intro m0 m1))
          refine wp_region_reg 11 false (by kernel_rfl) (by kernel_rfl) ?_
          refine reg_value (fun _ => rfl) ?_ (fun g w' vs hM hE hP => ?_) ?_
          rotate_left
          · (clear hP hM; have ⟨z0, z1, z2⟩ := cs_e3 hE HFCT.out; go_simp; first | done | rfl)
          refine reg_value (fun _ => rfl) ?_ (fun g w' vs hM hE hP => ?_) ?_
          rotate_left
          · (clear hP hM; have ⟨z0, z1, z2⟩ := cs_e3 hE HFCT.out; go_simp; first | done | rfl)
          refine reg_value (fun _ => rfl) ?_ (fun g w' vs hM hE hP => ?_) ?_
          rotate_left
          · (clear hP hM; have ⟨z0, z1, z2⟩ := cs_e3 hE HFCT.out; go_simp; first | done | rfl)
          refine reg_value (fun _ => rfl) ?_ (fun g w' vs hM hE hP => ?_) ?_
          rotate_left
          · (clear hP hM; have ⟨z0, z1, z2⟩ := cs_e3 hE HFCT.out; go_simp; first | done | rfl)
          refine reg_value (fun _ => rfl) ?_ (fun g w' vs hM hE hP => ?_) ?_
          rotate_left
          · (clear hP hM; have ⟨z0, z1, z2⟩ := cs_e3 hE HFCT.out; go_simp; first | done | rfl)
          refine reg_value (fun _ => rfl) (fun _ => .tuple #[mv, .bool kn]) (fun g w' vs hM hE hP => ?_) ?_
          · have hl := HLK.out w' hE
            rw [← HKN.out] at hl
            clear hM hP
            go_simp
          refine reg_value (fun _ => rfl) ?_ (fun g w' vs hM hE hP => ?_) ?_
          rotate_left
          · (clear hP hM; have ⟨z0, z1, z2⟩ := cs_e3 hE HFCT.out; go_simp; first | done | rfl)
          refine reg_value (fun _ => rfl) ?_ (fun g w' vs hM hE hP => ?_) ?_
          rotate_left
          · (clear hP hM; have ⟨z0, z1, z2⟩ := cs_e3 hE HFCT.out; go_simp; first | done | rfl)
          refine reg_value (fun _ => rfl) ?_ (fun g w' vs hM hE hP => ?_) ?_
          rotate_left
          · (clear hP hM; have ⟨z0, z1, z2⟩ := cs_e3 hE HFCT.out; go_simp; first | done | rfl)
          refine reg_value (fun _ => rfl) ?_ (fun g w' vs hM hE hP => ?_) ?_
          rotate_left
          · (clear hP hM; have ⟨z0, z1, z2⟩ := cs_e3 hE HFCT.out; go_simp; first | done | rfl)
          refine reg_value (fun _ => rfl) ?_ (fun g w' vs hM hE hP => ?_) ?_
          rotate_left
          · (clear hP hM; have ⟨z0, z1, z2⟩ := cs_e3 hE HFCT.out; go_simp; first | done | rfl)
          intro g2 wz2 hE4 hF2 hQ2
          simp only [List.drop_succ_cons, List.drop_zero, Act.put, List.setIfInBounds_toArray, List.set_cons_succ, List.set_cons_zero]
          clear hF2 hQ2 q4 q5 q6 m0 m1
          have m0 := cs_ext hE4 (by simp [World.cell?, HNBC.out] : w3.cell? ⟨nb, 0, none⟩ = some (.int .i64 n1))
          have m1 := cs_ext hE4 (by simp [World.cell?, HNBC.out] : w3.cell? ⟨nb, 1, none⟩ = some (.int .i64 n2))
          have HS4 := Lib.hid (HS3.out.next hE4)
          have HPB4 := Lib.hid (hs_ext hE4 HPB3.out)
          cases kn
          · obtain ⟨-, -, -, -, q4, q5, q6⟩ := HS4.out.cells
            have hnew : (n1, n2) ∉ rowS f L x c := of_decide_eq_false HKN.out.symm
            have HR : Hid (rowS f L x (c + 1) = rowS f L x c ++ [(n1, n2)]) := by show _ = _; rw [HSUC.out, tick_new HSTEP.out hnew]
            obtain ⟨gp2, pcap2, hpv2, hpc2, hpm2, hgp2, hgpl2⟩ := row2_slice HS4.out.pairs (by have := (rowS_pre (f := f) (L := L) (x := x) (c := c)).length_le; omega)
            subst hpv2
            clear hnew
            by_cases hbig : (rowS f L x c).length = 20000
            · have e5 : (((rowS f L x c).length : Int) == 20000) = true := by rw [beq_iff_eq]; omega
              have HO : Hid (Over f (0, 0)) := by
               show Over _ _
               refine over_of_row (k := k) (x := x) (c := c + 1) ?_ (by omega) ?_
               · rw [HLL.out]; exact HX.out
               · rw [HLL.out, HR.out]; simp; omega
              have HEX := Lib.hid HS4.out.ext
              clear hbig
              go_wp2_with fail
              go_ret2
              exact ⟨_, _, rfl, hE2.trans HEX.out, .inl ⟨HFF.out ▸ HO.out, rfl, rfl⟩⟩
            · have e5 : (((rowS f L x c).length : Int) == 20000) = false := by rw [beq_eq_false_iff_ne]; omega
              go_wp2_with fail
              have HFCT := Lib.hid (And.intro q4 (And.intro q6 (And.intro m0 m1)))
              refine wp_region_reg 10 false (by kernel_rfl) (by kernel_rfl) ?_
              refine reg_value (fun _ => rfl) ?_ (fun g w' vs hM hE hP => ?_) ?_
              rotate_left
              · (clear hP hM; have ⟨z0, z1, z2, z3⟩ := cs_e4 hE HFCT.out; go_simp; first | done | rfl)
              refine reg_value (fun _ => rfl) ?_ (fun g w' vs hM hE hP => ?_) ?_
              rotate_left
              · (clear hP hM; have ⟨z0, z1, z2, z3⟩ := cs_e4 hE HFCT.out; go_simp; first | done | rfl)
              refine reg_value (fun _ => rfl) ?_ (fun g w' vs hM hE hP => ?_) ?_
              rotate_left
              · (clear hP hM; have ⟨z0, z1, z2, z3⟩ := cs_e4 hE HFCT.out; go_simp; first | done | rfl)
              refine reg_value (fun _ => rfl) ?_ (fun g w' vs hM hE hP => ?_) ?_
              rotate_left
              · (clear hP hM; have ⟨z0, z1, z2, z3⟩ := cs_e4 hE HFCT.out; go_simp; first | done | rfl)
              refine reg_value (fun _ => rfl) ?_ (fun g w' vs hM hE hP => ?_) ?_
              rotate_left
              · (clear hP hM; have ⟨z0, z1, z2, z3⟩ := cs_e4 hE HFCT.out; go_simp; first | done | rfl)
              refine reg_value (fun _ => rfl) ?_ (fun g w' vs hM hE hP => ?_) ?_
              rotate_left
              · (clear hP hM; have ⟨z0, z1, z2, z3⟩ := cs_e4 hE HFCT.out; go_simp; first | done | rfl)
              refine reg_value (fun _ => rfl) ?_ (fun g w' vs hM hE hP => ?_) ?_
              rotate_left
              · (clear hP hM; have ⟨z0, z1, z2, z3⟩ := cs_e4 hE HFCT.out; go_simp; first | done | rfl)
              refine reg_value (fun _ => rfl) ?_ (fun g w' vs hM hE hP => ?_) ?_
              rotate_left
              · (clear hP hM; have ⟨z0, z1, z2, z3⟩ := cs_e4 hE HFCT.out; go_simp; first | done | rfl)
              refine reg_value (fun _ => rfl) ?_ (fun g w' vs hM hE hP => ?_) ?_
              rotate_left
              · (clear hP hM; have ⟨z0, z1, z2, z3⟩ := cs_e4 hE HFCT.out; go_simp; first | done | rfl)
              refine reg_value (fun _ => rfl) ?_ (fun g w' vs hM hE hP => ?_) ?_
              rotate_left
              · (clear hP hM; have ⟨z0, z1, z2, z3⟩ := cs_e4 hE HFCT.out; go_simp; first | done | rfl)
              intro g3 wz3 hE5 hF3 hQ3
              simp only [List.drop_succ_cons, List.drop_zero, Act.put, List.setIfInBounds_toArray, List.set_cons_succ, List.set_cons_zero]
              clear hF3 hQ3 q4 q5 q6 m0 m1
              have m0 := cs_ext (hE4.trans hE5) (by simp [World.cell?, HNBC.out] : w3.cell? ⟨nb, 0, none⟩ = some (.int .i64 n1))
              have m1 := cs_ext (hE4.trans hE5) (by simp [World.cell?, HNBC.out] : w3.cell? ⟨nb, 1, none⟩ = some (.int .i64 n2))
              obtain ⟨ob, hup, hP5⟩ := (HS4.out.next hE5).put nk (.int .i64 ((rowS f L x c).length : Nat))
              rw [HKEY.out] at hup
              rw [HNK.out] at hP5
              have hmb0 : nb ≠ mb := fun e => by
               obtain ⟨n, F, h1, -⟩ := (HS4.out.next hE5).map
               obtain ⟨es, cl, h2, -⟩ := h1
               have h3 := hs_ext (hE4.trans hE5) HNBC.out
               rw [e, h2] at h3; cases h3
              have hmb1 : pb ≠ mb := fun e => by
               obtain ⟨n, F, h1, -⟩ := (HS4.out.next hE5).map
               obtain ⟨es, cl, h2, -⟩ := h1
               have h3 := hs_ext hE5 HPB4.out
               rw [e, h2] at h3; cases h3
              have hnb5 : (ChangeMaps.setBlock wz3 mb ob).heap[nb]? = some (.cells #[.int .i64 n1, .int .i64 n2] 143) := by rw [turned_block hmb0]; exact hs_ext (hE4.trans hE5) HNBC.out
              have hpb5 : (ChangeMaps.setBlock wz3 mb ob).heap[pb]? = some (.cells #[.int .i64 x.1, .int .i64 x.2] 143) := by rw [turned_block hmb1]; exact hs_ext hE5 HPB4.out
              have HP5 := Lib.hid hP5
              have HNB5 := Lib.hid hnb5
              have HPB5 := Lib.hid hpb5
              clear hP5 hnb5 hpb5 hmb0 hmb1
              obtain ⟨w5, hw5⟩ : ∃ w5, w5 = ChangeMaps.setBlock wz3 mb ob := ⟨_, rfl⟩
              rw [← hw5] at hup HP5 HNB5 HPB5
              clear hw5
              go_wp2_with fail
              clear hup m0 m1
              obtain ⟨gw2, wcap2, hwv2, hwc2, hwm2, hgw2, hgwl2⟩ := row2_slice HP5.out.ways (by have h1 := HW2.out.1; have := (rowS_pre (f := f) (L := L) (x := x) (c := c)).length_le; omega)
              subst hwv2
              have hgp5 : gp2 < w5.heap.size := (HP5.out.pairs.lt _ rfl).2
              have hgw5 : gw2 < w5.heap.size := (HP5.out.ways.lt _ rfl).2
              have hgs5 : gs < w5.heap.size := HP5.out.gs_lt
              have hnb5 : nb < w5.heap.size := (Array.getElem?_eq_some_iff.1 HNB5.out).1
              have hpb5 : pb < w5.heap.size := (Array.getElem?_eq_some_iff.1 HPB5.out).1
              have hgpn : gp2 < nb := by have := (HS2.out.pairs.lt gp2 rfl).2; omega
              have hgwn : gw2 < nb := by have := (HS2.out.ways.lt gw2 rfl).2; omega
              have hnbgs : nb ≠ gs := fun e => by have h1 := HNB5.out; rw [e, HP5.out.st] at h1; simp [srchCells] at h1
              have hpbgs : pb ≠ gs := fun e => by have h1 := HPB5.out; rw [e, HP5.out.st] at h1; simp [srchCells] at h1
              have hpbgp : gp2 ≠ pb := fun e => HPA2.out (by rw [e]; rfl)
              have hpbgw : gw2 ≠ pb := fun e => HWA2.out (by rw [e]; rfl)
              have hLl : (rowS f L x c).length ≤ 30000 := by omega
              have hWl : Ws2.length ≤ 30000 := by rw [HW2.out.1]; omega
              have hI0 : AppI W2 tv i j gs mb (.slice (some ⟨gp2, 0, none⟩) (rowS f L x c).length pcap2) (.slice (some ⟨gw2, 0, none⟩) Ws2.length wcap2) (rowS f L x c) Ws2 (n1, n2) (k, c) pb nb (.cells #[.int .i64 x.1, .int .i64 x.2] 143) (.cells #[.int .i64 n1, .int .i64 n2] 143) [] w5 :=
               ⟨HNB5.out, HPB5.out, HP5.out⟩
              have HI0 := Lib.hid hI0; clear hI0
              have HLL2 := Lib.hid hLl
              have HWL2 := Lib.hid hWl
              clear hLl hWl
              refine wp_region_act 25 false (AppI W2 tv i j gs mb (.slice (some ⟨gp2, 0, none⟩) (rowS f L x c).length pcap2) (.slice (some ⟨gw2, 0, none⟩) Ws2.length wcap2) (rowS f L x c) Ws2 (n1, n2) (k, c) pb nb (.cells #[.int .i64 x.1, .int .i64 x.2] 143) (.cells #[.int .i64 n1, .int .i64 n2] 143)) [8, 18, 21, 24]
               (by kernel_rfl) (by kernel_rfl) AppI.ext (fun h => nomatch h) (by decide) (by decide) (fun i x y h1 h2 => by
                 match i, h1, h2 with
                 | 0, h1, h2 => cases h1; cases h2; exact anc_of 1 (by kernel_rfl)
                 | 1, h1, h2 => cases h1; cases h2; exact anc_of 1 (by kernel_rfl)
                 | 2, h1, h2 => cases h1; cases h2; exact anc_of 1 (by kernel_rfl)
                 | 3, h1, h2 => cases h2
                 | i + 4, h1, h2 => cases h1) HI0.out ?_
              skip
              refine reg_value (fun _ => rfl) ?_ (fun g w' vs hM hE hP => ?_) ?_
              rotate_left
              · (clear hP hM; go_simp; first | done | rfl)
              refine reg_value (fun _ => rfl) ?_ (fun g w' vs hM hE hP => ?_) ?_
              rotate_left
              · (clear hP hM; go_simp; first | done | rfl)
              refine reg_value (fun _ => rfl) ?_ (fun g w' vs hM hE hP => ?_) ?_
              rotate_left
              · (clear hP hM; go_simp; first | done | rfl)
              refine reg_value (fun _ => rfl) ?_ (fun g w' vs hM hE hP => ?_) ?_
              rotate_left
              · (clear hP hM; go_simp; first | done | rfl)
              refine reg_value (fun _ => rfl) ?_ (fun g w' vs hM hE hP => ?_) ?_
              rotate_left
              · (clear hP hM; go_simp; first | done | rfl)
              refine reg_value (fun _ => rfl) (fun _ => .slice (some ⟨gp2, 0, none⟩) (rowS f L x c).length pcap2) (fun g w' m hM hE hP => ?_) ?_
              · have hm0 := hM.2 0 8 rfl (anc_of 1 (by kernel_rfl))
                obtain rfl : m = 0 := by omega
                obtain ⟨-, -, -, -, z4, -, -⟩ := (hE.2.2 : PGen _ _ _ _ _ _ _ _ _ _ _ _ _ _).cells
                clear hM hP hE
                go_simp
              refine reg_value (fun _ => rfl) (fun _ => .agg #[.int .i64 n1, .int .i64 n2]) (fun g w' m hM hE hP => ?_) ?_
              · have z0 : w'.cell? ⟨nb, 0, none⟩ = some (.int .i64 n1) := by simp [World.cell?, hE.1]
                have z1 : w'.cell? ⟨nb, 1, none⟩ = some (.int .i64 n2) := by simp [World.cell?, hE.1]
                clear hM hP hE
                go_simp
              refine reg_fresh (fun _ => rfl) (fun n => .slice (some ⟨n, 0, none⟩) 1 1) ?_ (fun g w' vs hM hE hP => ?_) ?_
              rotate_left
              · (clear hP hM; go_simp; first | done | rfl | exact ⟨rfl, rfl⟩)
              refine reg_act (fun _ => rfl) 0 rfl (fun g w' hE hP hF hB => ?_) ?_
              · obtain ⟨e1, e2, e3⟩ := hE
                have hfb := (hF _ List.mem_cons_self (anc_of 1 (by kernel_rfl))).1
                have l1 := (Array.getElem?_eq_some_iff.1 e1).1
                have l2 := (Array.getElem?_eq_some_iff.1 e2).1
                refine PGen.app1_act (s := .tmp 95) (x := .tmp 97) e3 hfb ?_ ?_ ?_ HLL2.out (fun k hk => by cases hk; exact hgp5) (fun v' w'' h2 h3 h4 => ⟨?_, ?_, h2, ?_⟩)
                · rfl
                · go_simp
                · go_simp
                · rw [h3.block nb l1 (fun e => by have e' : nb = gp2 := Option.some.inj e; omega)]; exact e1
                · rw [h3.block pb l2 (fun e => by cases e; exact hpbgp rfl)]; exact e2
                · rcases h4 with e | e
                  · rw [e]; exact HPA2.out
                  · rw [e]; intro e'; cases e'; omega
              refine reg_value (fun _ => rfl) ?_ (fun g w' vs hM hE hP => ?_) ?_
              rotate_left
              · (clear hP hM; go_simp; first | done | rfl)
              refine reg_value (fun _ => rfl) ?_ (fun g w' vs hM hE hP => ?_) ?_
              rotate_left
              · (clear hP hM; go_simp; first | done | rfl)
              refine reg_value (fun _ => rfl) ?_ (fun g w' vs hM hE hP => ?_) ?_
              rotate_left
              · (clear hP hM; go_simp; first | done | rfl)
              refine reg_value (fun _ => rfl) (fun _ => .slice (some ⟨gw2, 0, none⟩) Ws2.length wcap2) (fun g w' m hM hE hP => ?_) ?_
              · have hm0 := hM.2 1 18 rfl (anc_of 1 (by kernel_rfl))
                have z5 : w'.cell? ⟨gs, 5, none⟩ = some (.slice (some ⟨gw2, 0, none⟩) Ws2.length wcap2) := by
                 rcases (by omega : m = 0 ∨ m = 1) with rfl | rfl
                 · exact (hE.2.2 : PGen _ _ _ _ _ _ _ _ _ _ _ _ _ _).cells.2.2.2.2.2.1
                 · exact (hE.2.2.1 : PGen _ _ _ _ _ _ _ _ _ _ _ _ _ _).cells.2.2.2.2.2.1
                clear hM hP hE
                go_simp
              refine reg_value (fun _ => rfl) ?_ (fun g w' vs hM hE hP => ?_) ?_
              rotate_left
              · (clear hP hM; go_simp; first | done | rfl)
              refine reg_value (fun _ => rfl) ?_ (fun g w' vs hM hE hP => ?_) ?_
              rotate_left
              · (clear hP hM; go_simp; first | done | rfl)
              refine reg_value (fun _ => rfl) ?_ (fun g w' vs hM hE hP => ?_) ?_
              rotate_left
              · (clear hP hM; go_simp; first | done | rfl)
              refine reg_value (fun _ => rfl) ?_ (fun g w' vs hM hE hP => ?_) ?_
              rotate_left
              · (clear hP hM; go_simp; first | done | rfl)
              refine reg_fresh (fun _ => rfl) (fun n => .slice (some ⟨n, 0, none⟩) 1 1) ?_ (fun g w' vs hM hE hP => ?_) ?_
              rotate_left
              · (clear hP hM; go_simp; first | done | rfl | exact ⟨rfl, rfl⟩)
              refine reg_act (fun _ => rfl) 1 rfl (fun g w' hE hP hF hB => ?_) ?_
              · obtain ⟨e1, e2, e3, e4⟩ := hE
                have hfb := (hF _ List.mem_cons_self (anc_of 1 (by kernel_rfl))).1
                have l1 := (Array.getElem?_eq_some_iff.1 e1).1
                have l2 := (Array.getElem?_eq_some_iff.1 e2).1
                refine PGen.app2_act (s := .tmp 102) (x := .tmp 107) e3 hfb ?_ ?_ ?_ HWL2.out (fun k hk => by cases hk; exact hgw5) (fun v' w'' h2 h3 h4 => ⟨?_, ?_, h2, e4, ?_⟩)
                · rfl
                · go_simp
                · go_simp
                · rw [h3.block nb l1 (fun e => by have e' : nb = gw2 := Option.some.inj e; omega)]; exact e1
                · rw [h3.block pb l2 (fun e => by cases e; exact hpbgw rfl)]; exact e2
                · rcases h4 with e | e
                  · rw [e]; exact HWA2.out
                  · rw [e]; intro e'; cases e'; omega
              refine reg_value (fun _ => rfl) ?_ (fun g w' vs hM hE hP => ?_) ?_
              rotate_left
              · (clear hP hM; go_simp; first | done | rfl)
              refine reg_value (fun _ => rfl) ?_ (fun g w' vs hM hE hP => ?_) ?_
              rotate_left
              · (clear hP hM; go_simp; first | done | rfl)
              refine reg_act (fun _ => rfl) 2 rfl (fun g w' hE hP hF hB => ?_) ?_
              · obtain ⟨e1, e2, e3, e4⟩ := hE
                have h2 := e3.set1
                obtain ⟨g9, c9, hv9, -⟩ := row2_slice e3.pairs (by simp)
                have hA : ActExt w5.heap.size w' (w'.setCell ⟨gs, 4, none⟩ (g 8).v) := ⟨by simp, fun b hb hb2 => heap_setCell_other _ _ _ _ (by show b ≠ gs; omega)⟩
                refine ⟨.skip, undef, w'.setCell ⟨gs, 4, none⟩ (g 8).v, ?_, .inr ⟨rfl, rfl⟩, hA, ⟨?_, ?_, h2, e4⟩⟩
                · have z4 := e3.cells.2.2.2.2.1
                  have zf : w'.frozen? ⟨gs, 4, none⟩ = false := by simp [World.frozen?, e3.st]
                  clear hA h2 e1 e2 e3 e4 hP hF hB
                  change (g 8).v = _ at hv9
                  rw [hv9]
                  go_simp
                · rw [heap_setCell_other _ _ _ _ (by show nb ≠ gs; exact hnbgs)]; exact e1
                · rw [heap_setCell_other _ _ _ _ (by show pb ≠ gs; exact hpbgs)]; exact e2
              refine reg_value (fun _ => rfl) ?_ (fun g w' vs hM hE hP => ?_) ?_
              rotate_left
              · (clear hP hM; go_simp; first | done | rfl)
              refine reg_value (fun _ => rfl) ?_ (fun g w' vs hM hE hP => ?_) ?_
              rotate_left
              · (clear hP hM; go_simp; first | done | rfl)
              refine reg_act (fun _ => rfl) 3 rfl (fun g w' hE hP hF hB => ?_) ?_
              · obtain ⟨e1, e2, e3, e4⟩ := hE
                have h2 := e3.set2
                obtain ⟨g9, c9, hv9, -⟩ := row2_slice e3.ways (by simp)
                have hA : ActExt w5.heap.size w' (w'.setCell ⟨gs, 5, none⟩ (g 18).v) := ⟨by simp, fun b hb hb2 => heap_setCell_other _ _ _ _ (by show b ≠ gs; omega)⟩
                refine ⟨.skip, undef, w'.setCell ⟨gs, 5, none⟩ (g 18).v, ?_, .inr ⟨rfl, rfl⟩, hA, ⟨?_, ?_, h2, e4⟩⟩
                · have z5 := e3.cells.2.2.2.2.2.1
                  have zf : w'.frozen? ⟨gs, 5, none⟩ = false := by simp [World.frozen?, e3.st]
                  clear hA h2 e1 e2 e3 e4 hP hF hB
                  change (g 18).v = _ at hv9
                  rw [hv9]
                  go_simp
                · rw [heap_setCell_other _ _ _ _ (by show nb ≠ gs; exact hnbgs)]; exact e1
                · rw [heap_setCell_other _ _ _ _ (by show pb ≠ gs; exact hpbgs)]; exact e2
              intro g6 w6 hI6 hF6 hQ6
              simp only [List.drop_succ_cons, List.drop_zero, Act.put, List.setIfInBounds_toArray, List.set_cons_succ, List.set_cons_zero]
              clear hF6 hQ6
              obtain ⟨r1, r2, r3, r4, r5⟩ := hI6
              have HR3 := Lib.hid r3
              have HR2 := Lib.hid r2
              have HR4 := Lib.hid r4
              have HR5 := Lib.hid r5
              have HWN := Lib.hid (HW2.out.push (pre_get rowS_pre HX.out) hc2 HSTEP.out)
              clear r1 r2 r3 r4 r5
              have hLl2 := hL2
              have hne : (rowS f L x c).length ≠ 20000 := hbig
              have hle : (rowS f L x (c + 1)).length ≤ 20000 := by rw [HR.out]; simp; omega
              clear hbig hne
              go_wp2_with fail
              go_roundw
              case rel => exact ⟨c + 1, _, _, _, by omega, by go_num, by rw [HR.out]; exact HR3.out, by rw [HR.out]; exact HWN.out, hle, HR2.out, HR4.out, HR5.out⟩
              case measure => simp [intOf]; omega
          · have hold : (n1, n2) ∈ rowS f L x c := of_decide_eq_true HKN.out.symm
            have HR : Hid (rowS f L x (c + 1) = rowS f L x c) := by show _ = _; rw [HSUC.out, tick_old HSTEP.out hold]
            clear hold
            go_wp2_with fail
            go_roundw
            case rel => exact ⟨c + 1, _, _, Ws2, by omega, by go_num, by rw [HR.out]; exact HS4.out, by rw [HR.out]; exact HW2.out, by rw [HR.out]; exact hL2, HPB4.out, HPA2.out, HWA2.out⟩
            case measure => simp [intOf]; omega
      · have hc3 : c = 256 := by omega
        subst hc3
        have HNEXT : Hid (lev f (0, 0) (k + 1) = rowS f L x 256) := by
         show _ = _
         rw [lev_succ (k := k) (x := x) (by rw [HLL.out]; exact HX.out), HLL.out]
        have HS2 := Lib.hid hS2
        have HW2 := Lib.hid hW2
        clear hS2 hW2 hpbc2 hpa2 hwa2
        have hlen2 : L.length ≤ (rowS f L x 256).length := (rowS_pre (f := f) (L := L) (x := x) (c := 256)).length_le
        go_wp2_with fail
        go_roundw
        case rel => exact ⟨k + 1, _, _, _, by go_num, by rw [HNEXT.out]; exact HS2.out, by rw [HNEXT.out]; exact HW2.out, by rw [HNEXT.out]; omega, by rw [HNEXT.out]; omega⟩
        case measure => simp [intOf]; omega
   · have HFull : Hid (Full f (0, 0) (lev f (0, 0) k)) := ⟨k, rfl, by omega⟩
     obtain ⟨-, -, -, -, c4, -, -⟩ := hS.cells
     obtain ⟨gp, pcap, rfl, hpc, -⟩ := row2_slice hS.pairs lev_pos
     have HEX : Hid (Ext w wr) := hE2.trans hS.ext
     have HFIN : Hid (ExploreR w wr (.slice (some ⟨tb, toff, none⟩) t.length cap) i j (stP t fm.fields gm.fields) (.pointer (some ⟨gs, 0, none⟩)) 0) := by
      show ExploreR _ _ _ _ _ _ _ _
      rw [← HTV.out, ← HFF.out]
      exact .inr ⟨gs, mb, _, _, _, _, HFull.out, hL, hW, rfl, rfl, hS.lower hE2⟩
     have e1 : decide ((k : Int) < ((lev f (0, 0) k).length : Int)) = false := decide_eq_false (by omega)
     generalize hLL : lev f (0, 0) k = L at *
     clear hS hW hk hLL hL HFull
     go_wp2_with fail
     go_ret2
     exact ⟨.pointer (some ⟨gs, 0, none⟩), 0, rfl, HEX.out, HFIN.out⟩

end Go.Proofs.YtfaienbdebjfcaaGreat
