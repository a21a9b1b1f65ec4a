/- Common. -/
import Derived.Test.YthoelnoahfedmaaS8
namespace Go.Proofs.Ythoelnoahfedmaa
open Go Go.RowKit
set_option linter.unusedVariables false
set_option linter.unusedSimpArgs false

/-- both formats accept -/
def bothS (F G : List Fld) (p : Int × Int) : Bool := rAcc F p.1 && rAcc G p.2

/-- what Common answers -/
def CommonR (t : List Fmt) (i j : Int) (s : ByteArray) (er : Int) : Prop :=
  (errS t [i, j] ≠ 0 ∧ s = ByteArray.empty ∧ er = errS t [i, j]) ∨ (errS t [i, j] = 0 ∧ ∃ (i' j' : Nat) (fm gm : Fmt), i = i' ∧ j = j' ∧ t[i']? = some fm ∧ t[j']? = some gm ∧ VFmt t fm ∧ VFmt t gm ∧
    ((Over (stP t fm.fields gm.fields) (0, 0) ∧ s = ByteArray.empty ∧ er = 3) ∨ ∃ L Ws, Full (stP t fm.fields gm.fields) (0, 0) L ∧ L.length ≤ 20000 ∧ Ways (stP t fm.fields gm.fields) L Ws ∧
      ((∃ (k : Nat) (p : Int × Int), L[k]? = some p ∧ bothS fm.fields gm.fields p = true ∧ er = 0 ∧ s = bytesN (pathR Ws Ws.length k).reverse) ∨ ((∀ p ∈ L, bothS fm.fields gm.fields p = false) ∧ s = ByteArray.empty ∧ er = 15))))

set_option maxRecDepth 100000 in
set_option maxHeartbeats 1600000 in
theorem Common_any {w : World} {B : Nat} {a : Option Addr} {t : List Fmt} {cap : Nat} {i j : Int} (hT : TabA w B a t) (hB : B ≤ w.heap.size) (hcap : t.length ≤ cap) (hcap2 : cap ≤ 9223372036854775807) :
    Calls Try.prog 15 #[.slice a t.length cap, .int .i64 i, .int .i64 j] w fun e w' => ∃ s er, e = .returned (.tuple #[.string s, .int .i64 er]) ∧ Ext w w' ∧ CommonR t i j s er := by
  have hcon := product_any (i := i) (j := j) hT hB hcap hcap2
  go_enter Try.func15, Try.ntmps15
  go_wp2_with fail
  refine hcon.mono ?_
  rintro e w1 ⟨p, er, rfl, hb1, hP⟩
  have HB := Lib.hid hb1
  rcases hP with ⟨he, rfl, her⟩ | ⟨he, i', j', fm, gm, hi, hj, hfm, hgm, hVf, hVg, hR⟩
  · have e1 : (er == 0) = false := beq_eq_false_iff_ne.2 (by rw [her]; exact he)
    have HE := Lib.hid he
    have HER := Lib.hid her
    clear he her
    go_wp2_with fail
    go_ret2
    exact ⟨_, _, rfl, HB.out, .inl ⟨HE.out, rfl, HER.out⟩⟩
  · obtain ⟨f, hf⟩ : ∃ f, f = stP t fm.fields gm.fields := ⟨_, rfl⟩
    rw [← hf] at hR
    have HFF := Lib.hid hf
    have hfin : ∀ s er, ((Over f (0, 0) ∧ s = ByteArray.empty ∧ er = 3) ∨ ∃ L Ws, Full f (0, 0) L ∧ L.length ≤ 20000 ∧ Ways f L Ws ∧
      ((∃ (k : Nat) (p : Int × Int), L[k]? = some p ∧ bothS fm.fields gm.fields p = true ∧ er = 0 ∧ s = bytesN (pathR Ws Ws.length k).reverse) ∨ ((∀ p ∈ L, bothS fm.fields gm.fields p = false) ∧ s = ByteArray.empty ∧ er = 15))) → CommonR t i j s er :=
      fun s er h => .inr ⟨he, i', j', fm, gm, hi, hj, hfm, hgm, hVf, hVg, by rw [← hf]; exact h⟩
    have HFIN := Lib.hid hfin
    have hconA := fun (w' : World) (hE : Ext w1 w') (s : Int) (hs : s ≤ 9223372036854775807) => acceptsV (cap := cap) s hs (hT.ext hB (hb1.trans hE)) (by have := (hb1.trans hE).size; omega) hfm hVf
    have hconB := fun (w' : World) (hE : Ext w1 w') (s : Int) (hs : s ≤ 9223372036854775807) => acceptsV (cap := cap) s hs (hT.ext hB (hb1.trans hE)) (by have := (hb1.trans hE).size; omega) hgm hVg
    have HCA := Lib.hid hconA
    have HCB := Lib.hid hconB
    have hsm : ∀ L, Full f (0, 0) L → ∀ x ∈ L, 0 ≤ x.1 ∧ x.1 ≤ 40000000 ∧ 0 ≤ x.2 ∧ x.2 ≤ 40000000 := fun L hL x hx => by
      obtain ⟨k, rfl, -⟩ := hL
      rw [hf] at hx
      exact levP_small (by have := hVf.le; omega) (by have := hVg.le; omega) x hx
    obtain ⟨tb, toff, rfl, -⟩ := hT.2 (ne_nil_of_get hfm)
    rcases hR with ⟨hO, rfl, rfl⟩ | ⟨gs, mb, pv, wv, L, Ws, hF, hL, hW, rfl, rfl, hS⟩
    · have HO := Lib.hid hO
      clear hf hfin he hi hj hfm hgm hVf hVg hO hT hconA hconB hsm
      go_wp2_with fail
      go_ret2
      exact ⟨_, _, rfl, HB.out, HFIN.out _ _ (.inl ⟨HO.out, rfl, rfl⟩)⟩
    · have hLs := hsm L hF
      have hpos : 0 < L.length := List.length_pos_of_mem hF.start
      obtain ⟨gp, pcap, rfl, hpc, -⟩ := row2_slice hS.pairs hpos
      obtain ⟨z0, z1, z2, z3, z4, z5, z6⟩ := hS.cells
      have hcells : ∀ (k : Nat) (x : Int × Int), L[k]? = some x → w1.cell? ⟨gp, k * 2, none⟩ = some (.int .i64 x.1) ∧ w1.cell? ⟨gp, k * 2 + 1, none⟩ = some (.int .i64 x.2) := fun k x hk => by
        obtain ⟨g', c', e, -, -, -, hc⟩ := row2_at (f := encP2) (fun _ => rfl) hS.pairs hk
        cases e
        exact ⟨hc 0 _ rfl, hc 1 _ rfl⟩
      have HL := Lib.hid hL
      have HF := Lib.hid hF
      have HW := Lib.hid hW
      have HS := Lib.hid hS
      have HC := Lib.hid hcells
      have HLS := Lib.hid hLs
      have Z0 := Lib.hid z0
      have Z1 := Lib.hid z1
      have Z2 := Lib.hid z2
      have Z3 := Lib.hid z3
      have hL63 : L.length ≤ 20000 := hL
      clear hf hfin he hi hj hfm hgm hVf hVg hT hconA hconB hsm hF hL hW hS hcells hLs z0 z1 z2 z3 z5 z6 hb1
      go_wp2_with fail
      clear z4
      go_loopw [10, 11, 27] (fun _ _ kv wr => ∃ k : Nat, kv = .int .i64 k ∧ k ≤ L.length ∧ (∀ (k' : Nat) (x : Int × Int), k' < k → L[k']? = some x → bothS fm.fields gm.fields x = false) ∧ Ext w1 wr) (fun _ _ kv _ => L.length - (intOf kv).toNat)
      case atStart => exact ⟨0, rfl, by omega, fun k' x h => by omega, Ext.refl _⟩
      case round =>
        obtain ⟨k, rfl, hk, hall, hE⟩ := hrel
        have HALL := Lib.hid hall; clear hall
        by_cases hlt : k < L.length
        · obtain ⟨x, hx⟩ : ∃ x, L[k]? = some x := ⟨_, List.getElem?_eq_getElem hlt⟩
          obtain ⟨y0, y1⟩ := HC.out k x hx
          have y0 := cs_ext hE y0
          have y1 := cs_ext hE y1
          have hxs := HLS.out x (List.mem_of_getElem? hx)
          have HX := Lib.hid hx; clear hx
          obtain ⟨b1, hb1⟩ : ∃ b1, b1 = rAcc fm.fields x.1 := ⟨_, rfl⟩
          obtain ⟨b2, hb2⟩ : ∃ b2, b2 = rAcc gm.fields x.2 := ⟨_, rfl⟩
          have hc1 := fun (w' : World) (h : Ext w1 w') => HCA.out w' h x.1 (by omega)
          have hc2 := fun (w' : World) (h : Ext w1 w') => HCB.out w' h x.2 (by omega)
          rw [← hb1] at hc1
          rw [← hb2] at hc2
          have HBO : Hid (bothS fm.fields gm.fields x = (b1 && b2)) := by show _ = _; rw [bothS, ← hb1, ← hb2]
          have HC1 := Lib.hid hc1
          have HC2 := Lib.hid hc2
          clear hc1 hc2 hb1 hb2
          have HE := Lib.hid hE
          go_wp2_with fail
          obtain ⟨wq, hwq⟩ : ∃ wq, wq = wr.alloc (Obj.cells #[Value.int IntKind.i64 x.1, Value.int IntKind.i64 x.2] 53) := ⟨_, rfl⟩
          obtain ⟨xb, hxb⟩ : ∃ xb, xb = wr.heap.size := ⟨_, rfl⟩
          have m0 : wq.cell? ⟨xb, 0, none⟩ = some (.int .i64 x.1) := by rw [hwq, hxb]; exact cs_new rfl
          have m1 : wq.cell? ⟨xb, 1, none⟩ = some (.int .i64 x.2) := by rw [hwq, hxb]; exact cs_new rfl
          have hEq : Ext w1 wq := by rw [hwq]; exact HE.out.then_al _
          rw [← hwq, ← hxb]
          have k0 := cs_ext hEq Z0.out
          have k1 := cs_ext hEq Z1.out
          have k2 := cs_ext hEq Z2.out
          have k3 := cs_ext hEq Z3.out
          have HEQ := Lib.hid hEq
          clear hwq hxb hEq y0 y1 hE
          cases b1
          · have HB0 : Hid (bothS fm.fields gm.fields x = false) := by show _ = _; rw [HBO.out]; rfl
            refine wp_region_reg 16 false (by kernel_rfl) (by kernel_rfl) ?_
            refine reg_value (fun _ => rfl) ?_ (fun g w' vs hM hE hP => ?_) ?_
            rotate_left
            · (clear hP hM; have zz0 := cs_ext hE k0; have zz1 := cs_ext hE k1; have zz2 := cs_ext hE k2; have zz3 := cs_ext hE k3; have zz4 := cs_ext hE m0; have zz5 := cs_ext hE m1; go_simp; first | done | rfl)
            refine reg_value (fun _ => rfl) ?_ (fun g w' vs hM hE hP => ?_) ?_
            rotate_left
            · (clear hP hM; have zz0 := cs_ext hE k0; have zz1 := cs_ext hE k1; have zz2 := cs_ext hE k2; have zz3 := cs_ext hE k3; have zz4 := cs_ext hE m0; have zz5 := cs_ext hE m1; go_simp; first | done | rfl)
            refine reg_value (fun _ => rfl) ?_ (fun g w' vs hM hE hP => ?_) ?_
            rotate_left
            · (clear hP hM; have zz0 := cs_ext hE k0; have zz1 := cs_ext hE k1; have zz2 := cs_ext hE k2; have zz3 := cs_ext hE k3; have zz4 := cs_ext hE m0; have zz5 := cs_ext hE m1; go_simp; first | done | rfl)
            refine reg_value (fun _ => rfl) ?_ (fun g w' vs hM hE hP => ?_) ?_
            rotate_left
            · (clear hP hM; have zz0 := cs_ext hE k0; have zz1 := cs_ext hE k1; have zz2 := cs_ext hE k2; have zz3 := cs_ext hE k3; have zz4 := cs_ext hE m0; have zz5 := cs_ext hE m1; go_simp; first | done | rfl)
            refine reg_value (fun _ => rfl) ?_ (fun g w' vs hM hE hP => ?_) ?_
            rotate_left
            · (clear hP hM; have zz0 := cs_ext hE k0; have zz1 := cs_ext hE k1; have zz2 := cs_ext hE k2; have zz3 := cs_ext hE k3; have zz4 := cs_ext hE m0; have zz5 := cs_ext hE m1; go_simp; first | done | rfl)
            refine reg_value (fun _ => rfl) ?_ (fun g w' vs hM hE hP => ?_) ?_
            rotate_left
            · (clear hP hM; have zz0 := cs_ext hE k0; have zz1 := cs_ext hE k1; have zz2 := cs_ext hE k2; have zz3 := cs_ext hE k3; have zz4 := cs_ext hE m0; have zz5 := cs_ext hE m1; go_simp; first | done | rfl)
            refine reg_const (fun _ => rfl) 36 ?_ (fun g w' vs hM hE hP => ?_) ?_
            rotate_left
            · (clear hP hM; have zz0 := cs_ext hE k0; have zz1 := cs_ext hE k1; have zz2 := cs_ext hE k2; have zz3 := cs_ext hE k3; have zz4 := cs_ext hE m0; have zz5 := cs_ext hE m1; go_simp; first | done | exact ⟨rfl, rfl⟩ | rfl)
            apply Exists.intro
            refine And.intro (fun g w' vs hM hE hP => ?_) ?_
            · exact HC1.out _ (HEQ.out.trans hE)
            refine reg_value (fun _ => rfl) ?_ (fun g w' vs hM hE hP => ?_) ?_
            rotate_left
            · (clear hP hM; have zz0 := cs_ext hE k0; have zz1 := cs_ext hE k1; have zz2 := cs_ext hE k2; have zz3 := cs_ext hE k3; have zz4 := cs_ext hE m0; have zz5 := cs_ext hE m1; go_simp; first | done | rfl)
            refine reg_skip (fun g => by go_simp) ?_
            refine reg_skip (fun g => by go_simp) ?_
            refine reg_skip (fun g => by go_simp) ?_
            refine reg_skip (fun g => by go_simp) ?_
            refine reg_skip (fun g => by go_simp) ?_
            refine reg_skip (fun g => by go_simp) ?_
            refine reg_skip (fun g => by go_simp) ?_
            refine reg_value (fun _ => rfl) ?_ (fun g w' vs hM hE hP => ?_) ?_
            rotate_left
            · (clear hP hM; have zz0 := cs_ext hE k0; have zz1 := cs_ext hE k1; have zz2 := cs_ext hE k2; have zz3 := cs_ext hE k3; have zz4 := cs_ext hE m0; have zz5 := cs_ext hE m1; go_simp; first | done | rfl)
            intro g wz hE2 hF hQ
            simp only [List.drop_succ_cons, List.drop_zero, Act.put, List.setIfInBounds_toArray, List.set_cons_succ, List.set_cons_zero]
            clear hF hQ k0 k1 k2 k3 m0 m1
            have HE3 := Lib.hid (HEQ.out.trans hE2)
            clear hE2
            go_wp2_with fail
            go_roundw
            case rel => exact ⟨k + 1, by go_num, by omega, fun k' y h hy => by
              rcases Nat.lt_or_ge k' k with h' | h'
              · exact HALL.out k' y h' hy
              · have : k' = k := by omega
                subst this
                rw [HX.out] at hy; cases hy; exact HB0.out, HE3.out⟩
            case measure => simp [intOf]; omega
          · have HB0 : Hid (bothS fm.fields gm.fields x = b2) := by show _ = _; rw [HBO.out]; rfl
            refine wp_region_reg 16 false (by kernel_rfl) (by kernel_rfl) ?_
            refine reg_value (fun _ => rfl) ?_ (fun g w' vs hM hE hP => ?_) ?_
            rotate_left
            · (clear hP hM; have zz0 := cs_ext hE k0; have zz1 := cs_ext hE k1; have zz2 := cs_ext hE k2; have zz3 := cs_ext hE k3; have zz4 := cs_ext hE m0; have zz5 := cs_ext hE m1; go_simp; first | done | rfl)
            refine reg_value (fun _ => rfl) ?_ (fun g w' vs hM hE hP => ?_) ?_
            rotate_left
            · (clear hP hM; have zz0 := cs_ext hE k0; have zz1 := cs_ext hE k1; have zz2 := cs_ext hE k2; have zz3 := cs_ext hE k3; have zz4 := cs_ext hE m0; have zz5 := cs_ext hE m1; go_simp; first | done | rfl)
            refine reg_value (fun _ => rfl) ?_ (fun g w' vs hM hE hP => ?_) ?_
            rotate_left
            · (clear hP hM; have zz0 := cs_ext hE k0; have zz1 := cs_ext hE k1; have zz2 := cs_ext hE k2; have zz3 := cs_ext hE k3; have zz4 := cs_ext hE m0; have zz5 := cs_ext hE m1; go_simp; first | done | rfl)
            refine reg_value (fun _ => rfl) ?_ (fun g w' vs hM hE hP => ?_) ?_
            rotate_left
            · (clear hP hM; have zz0 := cs_ext hE k0; have zz1 := cs_ext hE k1; have zz2 := cs_ext hE k2; have zz3 := cs_ext hE k3; have zz4 := cs_ext hE m0; have zz5 := cs_ext hE m1; go_simp; first | done | rfl)
            refine reg_value (fun _ => rfl) ?_ (fun g w' vs hM hE hP => ?_) ?_
            rotate_left
            · (clear hP hM; have zz0 := cs_ext hE k0; have zz1 := cs_ext hE k1; have zz2 := cs_ext hE k2; have zz3 := cs_ext hE k3; have zz4 := cs_ext hE m0; have zz5 := cs_ext hE m1; go_simp; first | done | rfl)
            refine reg_value (fun _ => rfl) ?_ (fun g w' vs hM hE hP => ?_) ?_
            rotate_left
            · (clear hP hM; have zz0 := cs_ext hE k0; have zz1 := cs_ext hE k1; have zz2 := cs_ext hE k2; have zz3 := cs_ext hE k3; have zz4 := cs_ext hE m0; have zz5 := cs_ext hE m1; go_simp; first | done | rfl)
            refine reg_const (fun _ => rfl) 36 ?_ (fun g w' vs hM hE hP => ?_) ?_
            rotate_left
            · (clear hP hM; have zz0 := cs_ext hE k0; have zz1 := cs_ext hE k1; have zz2 := cs_ext hE k2; have zz3 := cs_ext hE k3; have zz4 := cs_ext hE m0; have zz5 := cs_ext hE m1; go_simp; first | done | exact ⟨rfl, rfl⟩ | rfl)
            apply Exists.intro
            refine And.intro (fun g w' vs hM hE hP => ?_) ?_
            · exact HC1.out _ (HEQ.out.trans hE)
            refine reg_value (fun _ => rfl) ?_ (fun g w' vs hM hE hP => ?_) ?_
            rotate_left
            · (clear hP hM; have zz0 := cs_ext hE k0; have zz1 := cs_ext hE k1; have zz2 := cs_ext hE k2; have zz3 := cs_ext hE k3; have zz4 := cs_ext hE m0; have zz5 := cs_ext hE m1; go_simp; first | done | rfl)
            refine reg_value (fun g => by go_simp) ?_ (fun g w' vs hM hE hP => ?_) ?_
            rotate_left
            · (clear hP hM; have zz0 := cs_ext hE k0; have zz1 := cs_ext hE k1; have zz2 := cs_ext hE k2; have zz3 := cs_ext hE k3; have zz4 := cs_ext hE m0; have zz5 := cs_ext hE m1; go_simp; first | done | rfl)
            refine reg_value (fun g => by go_simp) ?_ (fun g w' vs hM hE hP => ?_) ?_
            rotate_left
            · (clear hP hM; have zz0 := cs_ext hE k0; have zz1 := cs_ext hE k1; have zz2 := cs_ext hE k2; have zz3 := cs_ext hE k3; have zz4 := cs_ext hE m0; have zz5 := cs_ext hE m1; go_simp; first | done | rfl)
            refine reg_value (fun g => by go_simp) ?_ (fun g w' vs hM hE hP => ?_) ?_
            rotate_left
            · (clear hP hM; have zz0 := cs_ext hE k0; have zz1 := cs_ext hE k1; have zz2 := cs_ext hE k2; have zz3 := cs_ext hE k3; have zz4 := cs_ext hE m0; have zz5 := cs_ext hE m1; go_simp; first | done | rfl)
            refine reg_value (fun g => by go_simp) ?_ (fun g w' vs hM hE hP => ?_) ?_
            rotate_left
            · (clear hP hM; have zz0 := cs_ext hE k0; have zz1 := cs_ext hE k1; have zz2 := cs_ext hE k2; have zz3 := cs_ext hE k3; have zz4 := cs_ext hE m0; have zz5 := cs_ext hE m1; go_simp; first | done | rfl)
            refine reg_value (fun g => by go_simp) ?_ (fun g w' vs hM hE hP => ?_) ?_
            rotate_left
            · (clear hP hM; have zz0 := cs_ext hE k0; have zz1 := cs_ext hE k1; have zz2 := cs_ext hE k2; have zz3 := cs_ext hE k3; have zz4 := cs_ext hE m0; have zz5 := cs_ext hE m1; go_simp; first | done | rfl)
            refine reg_value (fun g => by go_simp) ?_ (fun g w' vs hM hE hP => ?_) ?_
            rotate_left
            · (clear hP hM; have zz0 := cs_ext hE k0; have zz1 := cs_ext hE k1; have zz2 := cs_ext hE k2; have zz3 := cs_ext hE k3; have zz4 := cs_ext hE m0; have zz5 := cs_ext hE m1; go_simp; first | done | rfl)
            refine reg_const (fun g => by go_simp) 36 ?_ (fun g w' vs hM hE hP => ?_) ?_
            rotate_left
            · (clear hP hM; have zz0 := cs_ext hE k0; have zz1 := cs_ext hE k1; have zz2 := cs_ext hE k2; have zz3 := cs_ext hE k3; have zz4 := cs_ext hE m0; have zz5 := cs_ext hE m1; go_simp; first | done | exact ⟨rfl, rfl⟩ | rfl)
            apply Exists.intro
            refine And.intro (fun g w' vs hM hE hP => ?_) ?_
            · exact HC2.out _ (HEQ.out.trans hE)
            refine reg_value (fun _ => rfl) ?_ (fun g w' vs hM hE hP => ?_) ?_
            rotate_left
            · (clear hP hM; have zz0 := cs_ext hE k0; have zz1 := cs_ext hE k1; have zz2 := cs_ext hE k2; have zz3 := cs_ext hE k3; have zz4 := cs_ext hE m0; have zz5 := cs_ext hE m1; go_simp; first | done | rfl)
            intro g wz hE2 hF hQ
            simp only [List.drop_succ_cons, List.drop_zero, Act.put, List.setIfInBounds_toArray, List.set_cons_succ, List.set_cons_zero]
            clear hF hQ k0 k1 k2 k3 m0 m1
            have HE3 := Lib.hid (HEQ.out.trans hE2)
            clear hE2
            cases b2
            · go_wp2_with fail
              go_roundw
              case rel => exact ⟨k + 1, by go_num, by omega, fun k' y h hy => by
                rcases Nat.lt_or_ge k' k with h' | h'
                · exact HALL.out k' y h' hy
                · have : k' = k := by omega
                  subst this
                  rw [HX.out] at hy; cases hy; exact HB0.out, HE3.out⟩
              case measure => simp [intOf]; omega
            · have hcon3 := text_any (k := k) (hs_ext HE3.out HS.out.st) (ownsRow_ext HS.out.ways HE3.out) HW.out.ok (by rw [HW.out.1]; omega) (by omega)
              have HC3 := Lib.hid hcon3
              clear hcon3
              go_wp2_with fail
              refine HC3.out.mono ?_
              rintro e w4 ⟨rfl, hE4⟩
              have HE4 := Lib.hid hE4
              clear hE4
              go_wp2_with fail
              go_ret2
              exact ⟨_, _, rfl, HB.out.trans (HE3.out.trans HE4.out), HFIN.out _ _ (.inr ⟨L, Ws, HF.out, HL.out, HW.out, .inl ⟨k, x, HX.out, HB0.out, rfl, rfl⟩⟩)⟩
        · have hkl : k = L.length := by omega
          have HKL := Lib.hid hkl
          have HE := Lib.hid hE
          clear hkl hE
          go_wp2_with fail
          go_ret2
          exact ⟨_, _, rfl, HB.out.trans HE.out, HFIN.out _ _ (.inr ⟨L, Ws, HF.out, HL.out, HW.out, .inr ⟨fun p hp => by
            obtain ⟨k', hk'⟩ := List.mem_iff_getElem?.1 hp
            exact HALL.out k' p (by have := (List.getElem?_eq_some_iff.1 hk').1; have := HKL.out; omega) hk', rfl, rfl⟩⟩)⟩

end Go.Proofs.Ythoelnoahfedmaa
