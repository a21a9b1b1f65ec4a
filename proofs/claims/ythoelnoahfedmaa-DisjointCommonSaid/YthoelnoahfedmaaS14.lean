/- Prove. -/
import Derived.Test.YthoelnoahfedmaaS13
namespace Go.Proofs.Ythoelnoahfedmaa
open Go Go.RowKit
set_option linter.unusedVariables false
set_option linter.unusedSimpArgs false

def ltP (a b : Int × Int) : Prop := a.1 < b.1 ∨ a.1 = b.1 ∧ a.2 < b.2
/-- lists of n pairs are sorted in place -/
def SortOk (n : Nat) : Prop := ∀ (w : World) (base : Nat) (v : Value) (L : List (Int × Int)), L.length = n → (∀ x ∈ L, I64 x.1 ∧ I64 x.2) → L.Nodup → w.ownsRow base 53 2 v n (flatP L) →
  Calls Try.prog 47 #[v, .func (.func 48) #[] #[]] w fun e w' => e = .returned (.tuple #[]) ∧ ∃ L' : List (Int × Int), L'.Perm L ∧ L'.Pairwise ltP ∧ w'.ownsRow base 53 2 v n (flatP L') ∧ w.grownBy w' v.ownBlock
theorem sortOk_one : SortOk 1 := by
  intro w base v L hl _ _ h
  obtain ⟨g, cap, rfl, -⟩ := row2_slice h (by omega)
  refine (sort_one _ _ _ _).mono ?_
  rintro e w' ⟨rfl, rfl⟩
  obtain ⟨x, rfl⟩ := List.length_eq_one_iff.1 hl
  exact ⟨rfl, [x], List.Perm.refl _, by simp, h, grown_refl _ _⟩

/-- what Prove answers -/
def ProveR (w' : World) (t : List Fmt) (i j : Int) (v : Value) (er : Int) : Prop :=
  (errS t [i, j] ≠ 0 ∧ v = .slice none 0 0 ∧ er = errS t [i, j]) ∨ (errS t [i, j] = 0 ∧ ∃ (i' j' : Nat) (fm gm : Fmt), i = i' ∧ j = j' ∧ t[i']? = some fm ∧ t[j']? = some gm ∧ VFmt t fm ∧ VFmt t gm ∧
    ((Over (stP t fm.fields gm.fields) (0, 0) ∧ v = .slice none 0 0 ∧ er = 3) ∨ ∃ L, Full (stP t fm.fields gm.fields) (0, 0) L ∧ L.length ≤ 20000 ∧
      (((∃ p ∈ L, bothS fm.fields gm.fields p = true) ∧ v = .slice none 0 0 ∧ er = 5) ∨ ((∀ p ∈ L, bothS fm.fields gm.fields p = false) ∧ er = 0 ∧ ∃ L' : List (Int × Int), ∃ a cap, L'.Perm L ∧ L'.Pairwise ltP ∧ L'.length ≤ cap ∧ v = .slice a L'.length cap ∧ PairsA w' a L'))))

set_option maxRecDepth 100000 in
set_option maxHeartbeats 1600000 in
theorem Prove_any {w : World} {B : Nat} {a : Option Addr} {t : List Fmt} {cap : Nat} {i j : Int} (hT : TabA w B a t) (hB : B ≤ w.heap.size) (hcap : t.length ≤ cap) (hcap2 : cap ≤ 9223372036854775807)
    (hsort : ∀ (fm gm : Fmt) L, t[i.toNat]? = some fm → t[j.toNat]? = some gm → Full (stP t fm.fields gm.fields) (0, 0) L → (∀ p ∈ L, bothS fm.fields gm.fields p = false) → SortOk L.length) :
    Calls Try.prog 26 #[.slice a t.length cap, .int .i64 i, .int .i64 j] w fun e w' => ∃ v er, e = .returned (.tuple #[v, .int .i64 er]) ∧ Ext w w' ∧ ProveR w' t i j v er := by
  have hcon := product_any (i := i) (j := j) hT hB hcap hcap2
  go_enter Try.func26, Try.ntmps26
  go_wp2_with fail
  refine hcon.mono ?_
  rintro e w1 ⟨p, er, rfl, hb1, hP⟩
  have HB := Lib.hid hb1
  rcases hP with ⟨he, rfl, her⟩ | ⟨he, i', j', fm, gm, hi, hj, hfm, hgm, hVf, hVg, hR⟩
  · have e1 : (er == 0) = false := beq_eq_false_iff_ne.2 (by rw [her]; exact he)
    have HE := Lib.hid he
    have HER := Lib.hid her
    clear he her
    go_wp2_with fail
    go_ret2
    exact ⟨_, _, rfl, HB.out, .inl ⟨HE.out, rfl, HER.out⟩⟩
  · obtain ⟨f, hf⟩ : ∃ f, f = stP t fm.fields gm.fields := ⟨_, rfl⟩
    rw [← hf] at hR
    have HFF := Lib.hid hf
    have hfin : ∀ w' v er, ((Over f (0, 0) ∧ v = .slice none 0 0 ∧ er = 3) ∨ ∃ L, Full f (0, 0) L ∧ L.length ≤ 20000 ∧
      (((∃ p ∈ L, bothS fm.fields gm.fields p = true) ∧ v = .slice none 0 0 ∧ er = 5) ∨ ((∀ p ∈ L, bothS fm.fields gm.fields p = false) ∧ er = 0 ∧ ∃ L' : List (Int × Int), ∃ a cap, L'.Perm L ∧ L'.Pairwise ltP ∧ L'.length ≤ cap ∧ v = .slice a L'.length cap ∧ PairsA w' a L'))) → ProveR w' t i j v er :=
      fun w' s er h => .inr ⟨he, i', j', fm, gm, hi, hj, hfm, hgm, hVf, hVg, by rw [← hf]; exact h⟩
    have hsort' : ∀ L, Full f (0, 0) L → (∀ p ∈ L, bothS fm.fields gm.fields p = false) → SortOk L.length := fun L h1 h2 => hsort fm gm L (by rw [hi]; simpa using hfm) (by rw [hj]; simpa using hgm) (by rw [← hf]; exact h1) h2
    have HSORT := Lib.hid hsort'
    clear hsort hsort'
    have HFIN := Lib.hid hfin
    have hconA := fun (w' : World) (hE : Ext w1 w') (s : Int) (hs : s ≤ 9223372036854775807) => acceptsV (cap := cap) s hs (hT.ext hB (hb1.trans hE)) (by have := (hb1.trans hE).size; omega) hfm hVf
    have hconB := fun (w' : World) (hE : Ext w1 w') (s : Int) (hs : s ≤ 9223372036854775807) => acceptsV (cap := cap) s hs (hT.ext hB (hb1.trans hE)) (by have := (hb1.trans hE).size; omega) hgm hVg
    have HCA := Lib.hid hconA
    have HCB := Lib.hid hconB
    have hsm : ∀ L, Full f (0, 0) L → ∀ x ∈ L, 0 ≤ x.1 ∧ x.1 ≤ 40000000 ∧ 0 ≤ x.2 ∧ x.2 ≤ 40000000 := fun L hL x hx => by
      obtain ⟨k, rfl, -⟩ := hL
      rw [hf] at hx
      exact levP_small (by have := hVf.le; omega) (by have := hVg.le; omega) x hx
    obtain ⟨tb, toff, rfl, -⟩ := hT.2 (ne_nil_of_get hfm)
    rcases hR with ⟨hO, rfl, rfl⟩ | ⟨gs, mb, pv, wv, L, Ws, hF, hL, hW, rfl, rfl, hS⟩
    · have HO := Lib.hid hO
      clear hf hfin he hi hj hfm hgm hVf hVg hO hT hconA hconB hsm
      go_wp2_with fail
      go_ret2
      exact ⟨_, _, rfl, HB.out, HFIN.out _ _ _ (.inl ⟨HO.out, rfl, rfl⟩)⟩
    · have hLs := hsm L hF
      have hpos : 0 < L.length := List.length_pos_of_mem hF.start
      obtain ⟨gp, pcap, rfl, hpc, -⟩ := row2_slice hS.pairs hpos
      obtain ⟨z0, z1, z2, z3, z4, z5, z6⟩ := hS.cells
      have hcells : ∀ (k : Nat) (x : Int × Int), L[k]? = some x → w1.cell? ⟨gp, k * 2, none⟩ = some (.int .i64 x.1) ∧ w1.cell? ⟨gp, k * 2 + 1, none⟩ = some (.int .i64 x.2) := fun k x hk => by
        obtain ⟨g', c', e, -, -, -, hc⟩ := row2_at (f := encP2) (fun _ => rfl) hS.pairs hk
        cases e
        exact ⟨hc 0 _ rfl, hc 1 _ rfl⟩
      have HL := Lib.hid hL
      have HF := Lib.hid hF
      have HW := Lib.hid hW
      have HS := Lib.hid hS
      have HC := Lib.hid hcells
      have HLS := Lib.hid hLs
      have Z0 := Lib.hid z0
      have Z1 := Lib.hid z1
      have Z2 := Lib.hid z2
      have Z3 := Lib.hid z3
      have hL63 : L.length ≤ 20000 := hL
      clear hf hfin he hi hj hfm hgm hVf hVg hT hconA hconB hsm hF hL hW hS hcells hLs z0 z1 z2 z3 z5 z6 hb1
      go_wp2_with fail
      clear z4
      go_loopw [11, 27] (fun _ kv wr => ∃ k : Nat, kv = .int .i64 k ∧ k ≤ L.length ∧ (∀ (k' : Nat) (x : Int × Int), k' < k → L[k']? = some x → bothS fm.fields gm.fields x = false) ∧ Ext w1 wr) (fun _ kv _ => L.length - (intOf kv).toNat)
      case atStart => exact ⟨0, rfl, by omega, fun k' x h => by omega, Ext.refl _⟩
      case round =>
        obtain ⟨k, rfl, hk, hall, hE⟩ := hrel
        have HALL := Lib.hid hall; clear hall
        by_cases hlt : k < L.length
        · obtain ⟨x, hx⟩ : ∃ x, L[k]? = some x := ⟨_, List.getElem?_eq_getElem hlt⟩
          obtain ⟨y0, y1⟩ := HC.out k x hx
          have y0 := cs_ext hE y0
          have y1 := cs_ext hE y1
          have hxs := HLS.out x (List.mem_of_getElem? hx)
          have HX := Lib.hid hx; clear hx
          obtain ⟨b1, hb1⟩ : ∃ b1, b1 = rAcc fm.fields x.1 := ⟨_, rfl⟩
          obtain ⟨b2, hb2⟩ : ∃ b2, b2 = rAcc gm.fields x.2 := ⟨_, rfl⟩
          have hc1 := fun (w' : World) (h : Ext w1 w') => HCA.out w' h x.1 (by omega)
          have hc2 := fun (w' : World) (h : Ext w1 w') => HCB.out w' h x.2 (by omega)
          rw [← hb1] at hc1
          rw [← hb2] at hc2
          have HBO : Hid (bothS fm.fields gm.fields x = (b1 && b2)) := by show _ = _; rw [bothS, ← hb1, ← hb2]
          have HC1 := Lib.hid hc1
          have HC2 := Lib.hid hc2
          clear hc1 hc2 hb1 hb2
          have HE := Lib.hid hE
          go_wp2_with fail
          obtain ⟨wq, hwq⟩ : ∃ wq, wq = wr.alloc (Obj.cells #[Value.int IntKind.i64 x.1, Value.int IntKind.i64 x.2] 53) := ⟨_, rfl⟩
          obtain ⟨xb, hxb⟩ : ∃ xb, xb = wr.heap.size := ⟨_, rfl⟩
          have m0 : wq.cell? ⟨xb, 0, none⟩ = some (.int .i64 x.1) := by rw [hwq, hxb]; exact cs_new rfl
          have m1 : wq.cell? ⟨xb, 1, none⟩ = some (.int .i64 x.2) := by rw [hwq, hxb]; exact cs_new rfl
          have hEq : Ext w1 wq := by rw [hwq]; exact HE.out.then_al _
          rw [← hwq, ← hxb]
          have k0 := cs_ext hEq Z0.out
          have k1 := cs_ext hEq Z1.out
          have k2 := cs_ext hEq Z2.out
          have k3 := cs_ext hEq Z3.out
          have HEQ := Lib.hid hEq
          clear hwq hxb hEq y0 y1 hE
          cases b1
          · have HB0 : Hid (bothS fm.fields gm.fields x = false) := by show _ = _; rw [HBO.out]; rfl
            refine wp_region_reg 16 false (by kernel_rfl) (by kernel_rfl) ?_
            refine reg_value (fun _ => rfl) ?_ (fun g w' vs hM hE hP => ?_) ?_
            rotate_left
            · (clear hP hM; have zz0 := cs_ext hE k0; have zz1 := cs_ext hE k1; have zz2 := cs_ext hE k2; have zz3 := cs_ext hE k3; have zz4 := cs_ext hE m0; have zz5 := cs_ext hE m1; go_simp; first | done | rfl)
            refine reg_value (fun _ => rfl) ?_ (fun g w' vs hM hE hP => ?_) ?_
            rotate_left
            · (clear hP hM; have zz0 := cs_ext hE k0; have zz1 := cs_ext hE k1; have zz2 := cs_ext hE k2; have zz3 := cs_ext hE k3; have zz4 := cs_ext hE m0; have zz5 := cs_ext hE m1; go_simp; first | done | rfl)
            refine reg_value (fun _ => rfl) ?_ (fun g w' vs hM hE hP => ?_) ?_
            rotate_left
            · (clear hP hM; have zz0 := cs_ext hE k0; have zz1 := cs_ext hE k1; have zz2 := cs_ext hE k2; have zz3 := cs_ext hE k3; have zz4 := cs_ext hE m0; have zz5 := cs_ext hE m1; go_simp; first | done | rfl)
            refine reg_value (fun _ => rfl) ?_ (fun g w' vs hM hE hP => ?_) ?_
            rotate_left
            · (clear hP hM; have zz0 := cs_ext hE k0; have zz1 := cs_ext hE k1; have zz2 := cs_ext hE k2; have zz3 := cs_ext hE k3; have zz4 := cs_ext hE m0; have zz5 := cs_ext hE m1; go_simp; first | done | rfl)
            refine reg_value (fun _ => rfl) ?_ (fun g w' vs hM hE hP => ?_) ?_
            rotate_left
            · (clear hP hM; have zz0 := cs_ext hE k0; have zz1 := cs_ext hE k1; have zz2 := cs_ext hE k2; have zz3 := cs_ext hE k3; have zz4 := cs_ext hE m0; have zz5 := cs_ext hE m1; go_simp; first | done | rfl)
            refine reg_value (fun _ => rfl) ?_ (fun g w' vs hM hE hP => ?_) ?_
            rotate_left
            · (clear hP hM; have zz0 := cs_ext hE k0; have zz1 := cs_ext hE k1; have zz2 := cs_ext hE k2; have zz3 := cs_ext hE k3; have zz4 := cs_ext hE m0; have zz5 := cs_ext hE m1; go_simp; first | done | rfl)
            refine reg_const (fun _ => rfl) 36 ?_ (fun g w' vs hM hE hP => ?_) ?_
            rotate_left
            · (clear hP hM; have zz0 := cs_ext hE k0; have zz1 := cs_ext hE k1; have zz2 := cs_ext hE k2; have zz3 := cs_ext hE k3; have zz4 := cs_ext hE m0; have zz5 := cs_ext hE m1; go_simp; first | done | exact ⟨rfl, rfl⟩ | rfl)
            apply Exists.intro
            refine And.intro (fun g w' vs hM hE hP => ?_) ?_
            · exact HC1.out _ (HEQ.out.trans hE)
            refine reg_value (fun _ => rfl) ?_ (fun g w' vs hM hE hP => ?_) ?_
            rotate_left
            · (clear hP hM; have zz0 := cs_ext hE k0; have zz1 := cs_ext hE k1; have zz2 := cs_ext hE k2; have zz3 := cs_ext hE k3; have zz4 := cs_ext hE m0; have zz5 := cs_ext hE m1; go_simp; first | done | rfl)
            refine reg_skip (fun g => by go_simp) ?_
            refine reg_skip (fun g => by go_simp) ?_
            refine reg_skip (fun g => by go_simp) ?_
            refine reg_skip (fun g => by go_simp) ?_
            refine reg_skip (fun g => by go_simp) ?_
            refine reg_skip (fun g => by go_simp) ?_
            refine reg_skip (fun g => by go_simp) ?_
            refine reg_value (fun _ => rfl) ?_ (fun g w' vs hM hE hP => ?_) ?_
            rotate_left
            · (clear hP hM; have zz0 := cs_ext hE k0; have zz1 := cs_ext hE k1; have zz2 := cs_ext hE k2; have zz3 := cs_ext hE k3; have zz4 := cs_ext hE m0; have zz5 := cs_ext hE m1; go_simp; first | done | rfl)
            intro g wz hE2 hF hQ
            simp only [List.drop_succ_cons, List.drop_zero, Act.put, List.setIfInBounds_toArray, List.set_cons_succ, List.set_cons_zero]
            clear hF hQ k0 k1 k2 k3 m0 m1
            have HE3 := Lib.hid (HEQ.out.trans hE2)
            clear hE2
            go_wp2_with fail
            go_roundw
            case rel => exact ⟨k + 1, by go_num, by omega, fun k' y h hy => by
              rcases Nat.lt_or_ge k' k with h' | h'
              · exact HALL.out k' y h' hy
              · have : k' = k := by omega
                subst this
                rw [HX.out] at hy; cases hy; exact HB0.out, HE3.out⟩
            case measure => simp [intOf]; omega
          · have HB0 : Hid (bothS fm.fields gm.fields x = b2) := by show _ = _; rw [HBO.out]; rfl
            refine wp_region_reg 16 false (by kernel_rfl) (by kernel_rfl) ?_
            refine reg_value (fun _ => rfl) ?_ (fun g w' vs hM hE hP => ?_) ?_
            rotate_left
            · (clear hP hM; have zz0 := cs_ext hE k0; have zz1 := cs_ext hE k1; have zz2 := cs_ext hE k2; have zz3 := cs_ext hE k3; have zz4 := cs_ext hE m0; have zz5 := cs_ext hE m1; go_simp; first | done | rfl)
            refine reg_value (fun _ => rfl) ?_ (fun g w' vs hM hE hP => ?_) ?_
            rotate_left
            · (clear hP hM; have zz0 := cs_ext hE k0; have zz1 := cs_ext hE k1; have zz2 := cs_ext hE k2; have zz3 := cs_ext hE k3; have zz4 := cs_ext hE m0; have zz5 := cs_ext hE m1; go_simp; first | done | rfl)
            refine reg_value (fun _ => rfl) ?_ (fun g w' vs hM hE hP => ?_) ?_
            rotate_left
            · (clear hP hM; have zz0 := cs_ext hE k0; have zz1 := cs_ext hE k1; have zz2 := cs_ext hE k2; have zz3 := cs_ext hE k3; have zz4 := cs_ext hE m0; have zz5 := cs_ext hE m1; go_simp; first | done | rfl)
            refine reg_value (fun _ => rfl) ?_ (fun g w' vs hM hE hP => ?_) ?_
            rotate_left
            · (clear hP hM; have zz0 := cs_ext hE k0; have zz1 := cs_ext hE k1; have zz2 := cs_ext hE k2; have zz3 := cs_ext hE k3; have zz4 := cs_ext hE m0; have zz5 := cs_ext hE m1; go_simp; first | done | rfl)
            refine reg_value (fun _ => rfl) ?_ (fun g w' vs hM hE hP => ?_) ?_
            rotate_left
            · (clear hP hM; have zz0 := cs_ext hE k0; have zz1 := cs_ext hE k1; have zz2 := cs_ext hE k2; have zz3 := cs_ext hE k3; have zz4 := cs_ext hE m0; have zz5 := cs_ext hE m1; go_simp; first | done | rfl)
            refine reg_value (fun _ => rfl) ?_ (fun g w' vs hM hE hP => ?_) ?_
            rotate_left
            · (clear hP hM; have zz0 := cs_ext hE k0; have zz1 := cs_ext hE k1; have zz2 := cs_ext hE k2; have zz3 := cs_ext hE k3; have zz4 := cs_ext hE m0; have zz5 := cs_ext hE m1; go_simp; first | done | rfl)
            refine reg_const (fun _ => rfl) 36 ?_ (fun g w' vs hM hE hP => ?_) ?_
            rotate_left
            · (clear hP hM; have zz0 := cs_ext hE k0; have zz1 := cs_ext hE k1; have zz2 := cs_ext hE k2; have zz3 := cs_ext hE k3; have zz4 := cs_ext hE m0; have zz5 := cs_ext hE m1; go_simp; first | done | exact ⟨rfl, rfl⟩ | rfl)
            apply Exists.intro
            refine And.intro (fun g w' vs hM hE hP => ?_) ?_
            · exact HC1.out _ (HEQ.out.trans hE)
            refine reg_value (fun _ => rfl) ?_ (fun g w' vs hM hE hP => ?_) ?_
            rotate_left
            · (clear hP hM; have zz0 := cs_ext hE k0; have zz1 := cs_ext hE k1; have zz2 := cs_ext hE k2; have zz3 := cs_ext hE k3; have zz4 := cs_ext hE m0; have zz5 := cs_ext hE m1; go_simp; first | done | rfl)
            refine reg_value (fun g => by go_simp) ?_ (fun g w' vs hM hE hP => ?_) ?_
            rotate_left
            · (clear hP hM; have zz0 := cs_ext hE k0; have zz1 := cs_ext hE k1; have zz2 := cs_ext hE k2; have zz3 := cs_ext hE k3; have zz4 := cs_ext hE m0; have zz5 := cs_ext hE m1; go_simp; first | done | rfl)
            refine reg_value (fun g => by go_simp) ?_ (fun g w' vs hM hE hP => ?_) ?_
            rotate_left
            · (clear hP hM; have zz0 := cs_ext hE k0; have zz1 := cs_ext hE k1; have zz2 := cs_ext hE k2; have zz3 := cs_ext hE k3; have zz4 := cs_ext hE m0; have zz5 := cs_ext hE m1; go_simp; first | done | rfl)
            refine reg_value (fun g => by go_simp) ?_ (fun g w' vs hM hE hP => ?_) ?_
            rotate_left
            · (clear hP hM; have zz0 := cs_ext hE k0; have zz1 := cs_ext hE k1; have zz2 := cs_ext hE k2; have zz3 := cs_ext hE k3; have zz4 := cs_ext hE m0; have zz5 := cs_ext hE m1; go_simp; first | done | rfl)
            refine reg_value (fun g => by go_simp) ?_ (fun g w' vs hM hE hP => ?_) ?_
            rotate_left
            · (clear hP hM; have zz0 := cs_ext hE k0; have zz1 := cs_ext hE k1; have zz2 := cs_ext hE k2; have zz3 := cs_ext hE k3; have zz4 := cs_ext hE m0; have zz5 := cs_ext hE m1; go_simp; first | done | rfl)
            refine reg_value (fun g => by go_simp) ?_ (fun g w' vs hM hE hP => ?_) ?_
            rotate_left
            · (clear hP hM; have zz0 := cs_ext hE k0; have zz1 := cs_ext hE k1; have zz2 := cs_ext hE k2; have zz3 := cs_ext hE k3; have zz4 := cs_ext hE m0; have zz5 := cs_ext hE m1; go_simp; first | done | rfl)
            refine reg_value (fun g => by go_simp) ?_ (fun g w' vs hM hE hP => ?_) ?_
            rotate_left
            · (clear hP hM; have zz0 := cs_ext hE k0; have zz1 := cs_ext hE k1; have zz2 := cs_ext hE k2; have zz3 := cs_ext hE k3; have zz4 := cs_ext hE m0; have zz5 := cs_ext hE m1; go_simp; first | done | rfl)
            refine reg_const (fun g => by go_simp) 36 ?_ (fun g w' vs hM hE hP => ?_) ?_
            rotate_left
            · (clear hP hM; have zz0 := cs_ext hE k0; have zz1 := cs_ext hE k1; have zz2 := cs_ext hE k2; have zz3 := cs_ext hE k3; have zz4 := cs_ext hE m0; have zz5 := cs_ext hE m1; go_simp; first | done | exact ⟨rfl, rfl⟩ | rfl)
            apply Exists.intro
            refine And.intro (fun g w' vs hM hE hP => ?_) ?_
            · exact HC2.out _ (HEQ.out.trans hE)
            refine reg_value (fun _ => rfl) ?_ (fun g w' vs hM hE hP => ?_) ?_
            rotate_left
            · (clear hP hM; have zz0 := cs_ext hE k0; have zz1 := cs_ext hE k1; have zz2 := cs_ext hE k2; have zz3 := cs_ext hE k3; have zz4 := cs_ext hE m0; have zz5 := cs_ext hE m1; go_simp; first | done | rfl)
            intro g wz hE2 hF hQ
            simp only [List.drop_succ_cons, List.drop_zero, Act.put, List.setIfInBounds_toArray, List.set_cons_succ, List.set_cons_zero]
            clear hF hQ k0 k1 k2 k3 m0 m1
            have HE3 := Lib.hid (HEQ.out.trans hE2)
            clear hE2
            cases b2
            · go_wp2_with fail
              go_roundw
              case rel => exact ⟨k + 1, by go_num, by omega, fun k' y h hy => by
                rcases Nat.lt_or_ge k' k with h' | h'
                · exact HALL.out k' y h' hy
                · have : k' = k := by omega
                  subst this
                  rw [HX.out] at hy; cases hy; exact HB0.out, HE3.out⟩
              case measure => simp [intOf]; omega
            · go_wp2_with fail
              go_ret2
              exact ⟨_, _, rfl, HB.out.trans HE3.out, HFIN.out _ _ _ (.inr ⟨L, HF.out, HL.out, .inl ⟨⟨x, List.mem_of_getElem? HX.out, HB0.out⟩, rfl, rfl⟩⟩)⟩
        · have hkl : k = L.length := by omega
          have HNO : Hid (∀ p ∈ L, bothS fm.fields gm.fields p = false) := Lib.hid (fun p hp => by
            obtain ⟨k', hk'⟩ := List.mem_iff_getElem?.1 hp
            exact HALL.out k' p (by have := (List.getElem?_eq_some_iff.1 hk').1; omega) hk')
          have hS2 := HS.out.next hE
          obtain ⟨-, -, -, -, y4, -, -⟩ := hS2.cells
          have HE := Lib.hid hE
          have HS2 := Lib.hid hS2
          have hnd : L.Nodup := by obtain ⟨k, h, -⟩ := HF.out; rw [h]; exact lev_nodup
          have hso := HSORT.out L HF.out HNO.out wr w.heap.size _ L rfl (fun x hx => by have := HLS.out x hx; unfold I64; omega) hnd (ownsRow_lower HS2.out.pairs (by have := HS.out.gs_lo; exact Nat.le_refl _))
          have HSO := Lib.hid hso
          clear hkl hE hS2 hnd hso
          go_wp2_with fail
          refine HSO.out.mono ?_
          rintro e w5 ⟨rfl, L', hp1, hp2, hO, hG⟩
          have y5 : w5.cell? ⟨gs, 4, none⟩ = some (.slice (some ⟨gp, 0, none⟩) L.length pcap) := by
            rw [World.cell?_of_block (a := ⟨gs, 4, none⟩) (hG.block gs HS2.out.gs_lt (fun e => HS2.out.a1 e.symm))]; exact y4
          have HEE : Hid (Ext w w5) := Lib.hid (HS2.out.ext.grown hG (fun k hk => (HS2.out.pairs.lt k hk).1))
          have HP1 := Lib.hid hp1
          have HP2 := Lib.hid hp2
          have HO := Lib.hid hO
          clear y4 hp1 hp2 hO hG
          go_wp2_with fail
          go_ret2
          have hl' : L'.length = L.length := HP1.out.length_eq
          have HO' := HO.out
          rw [← hl'] at HO'
          obtain ⟨a', c', e', hpa⟩ := PairsA.of_row HO'
          rw [hl'] at e'
          cases e'
          exact ⟨_, _, rfl, HEE.out, HFIN.out _ _ _ (.inr ⟨L, HF.out, HL.out, .inr ⟨HNO.out, rfl, L', _, pcap, HP1.out, HP2.out, by omega, by rw [hl']; rfl, hpa⟩⟩)⟩

end Go.Proofs.Ythoelnoahfedmaa
