/- Contracts: the reference's reduce. -/
import Derived.Test.YtckgjebcehbkfaaU3
namespace Go.Proofs.Ytckgjebcehbkfaa
open Go Go.RowKit
set_option linter.unusedVariables false
set_option linter.unusedSimpArgs false

theorem lastT_get {r : List Tm} {m : Nat} (h : r.length = m + 1) : r[m]? = some (lastT r) := by
  unfold lastT
  rw [List.getLast?_eq_getElem?, h, Nat.add_sub_cancel, List.getElem?_eq_getElem (by omega)]
  rfl

theorem OwnN.low {w : World} {base base' : Nat} {v : Value} {B : List Nat} (h : OwnN w base v B) (hb : base' ≤ base) : OwnN w base' v B := by
  refine ⟨h.1, ?_⟩
  rcases h.2 with h | ⟨g, cap, cur, e, h1, h2⟩
  · exact .inl h
  · exact .inr ⟨g, cap, cur, e, by omega, h2⟩
theorem sizR : (Try.prog.info? 89).map (·.size) = some 2 := by kernel_rfl
theorem wpList_storeR {ops : Array Oper} {rest : List Oper} {o : Oper} {a : Act} {w : World} {Q : Exit → Act → World → Prop} (hgd : o.guard = none) (x y : Operand) (ho : o.op = .store 89 x y)
    {g : Nat} (hx : a.eval x = .pointer (some ⟨g, 0, none⟩)) {pa fa : Option Addr} {pn pc fn fc : Nat} (hy : a.eval y = .agg #[.slice pa pn pc, .slice fa fn fc])
    {old : Array Value} (hg : w.heap[g]? = some (.cells old 89)) (ho4 : old.size = 2)
    (hK : ∀ w', w'.heap[g]? = some (.cells #[.slice pa pn pc, .slice fa fn fc] 89) → (∀ q, q ≠ g → w'.heap[q]? = w.heap[q]?) → (∀ W0, Ext W0 w → W0.heap.size ≤ g → Ext W0 w') → w'.heap.size = w.heap.size → wpList Try.prog ops Q rest (a.put o.dst undef) w') :
    wpList Try.prog ops Q (o :: rest) a w := by
  refine wpList_store_all hgd 89 x y ho g _ hx hy 89 old hg sizR ho4 (by simp [Value.oneCell']) ?_
  exact hK _ (setRow_heap w g old _ _ _ hg) (fun q hq => setRow_other w g q _ hq) (fun W0 h hg => h.setRow hg _) (size_setRow _ _ _)
theorem ret_row {F : Func} {p g : Nat} {tmps : Array Value} {w : World} {cs : Array Value} {R : Ending → World → Prop} (hr : F.results = #[.cell p 89]) (hp : tmps.getD p undef = .pointer (some ⟨g, 0, none⟩)) (hg : w.heap[g]? = some (.cells cs 89)) (hs : cs.size = 2) (h : R (.returned (.agg cs)) w) :
    bodyPost Try.prog F R .ret ⟨tmps, []⟩ w :=
  bodyPost_ret (results_cell_row hr tmps w g _ cs _ _ hp hg Try.underlying89 rfl (by rw [hs]; exact sizR)) rfl h
/-- the row that reduce returns -/
theorem RefRow.done {w wr w' : World} {bx lo N : Nat} {S : Nat → Prop} {e : RE} (h : RefRow w wr bx lo S N e) (hS : ∀ c, S c → c < bx) (hb : ∀ q, q ≠ bx + 1 → w'.heap[q]? = wr.heap[q]?) : ReW w' S e :=
  ⟨LsT.hold h.val.p (fun b o q e => hb b (by have := h.op b o q e; omega)) (fun c hc => hb c (by have := hS c hc; omega)), LsI.hold h.val.f (fun b o q e => hb b (by have := h.of b o q e; omega)), h.val.tp.hold (fun b o q e => hb b (by have := h.op b o q e; omega)), h.val.tf.hold (fun b o q e => hb b (by have := h.of b o q e; omega))⟩

set_option maxRecDepth 100000 in
set_option maxHeartbeats 4000000 in
theorem rreduce_any {w : World} {base lo N cap : Nat} {S : Nat → Prop} {ad : Option Addr} {E : List RE} {e0 : RE} (hE : OwnR w base S (.slice ad E.length cap) E) (hS : ∀ c, S c → c < w.heap.size) (hne : ∀ e ∈ E, e.p ≠ []) (hok : ∀ e ∈ E, okL N e.f) (hN : N ≤ 100000) (hasc : ∀ e ∈ E, Asc e.p)
    (hsz : ∀ e ∈ E, sizeL e.p ≤ 1000) (hx : ∀ k, sizeL (redR ((E.map (·.p)).take k) e0.p) ≤ 1000) (h0 : ReW w S e0) (ha0 : Asc e0.p) (hk0 : okL N e0.f)
    (hlo : lo ≤ w.heap.size) (hf0 : ∀ b o q, e0.fa = some ⟨b, o, q⟩ → lo ≤ b) :
    Calls Try.prog 66 #[.slice ad E.length cap, .agg #[.slice e0.a e0.p.length e0.cap, .slice e0.fa e0.f.length e0.fcap]] w fun e w' => ∃ r : RE, e = .returned (.agg #[r.pv, r.fv]) ∧ Ext w w' ∧ ReW w' S r ∧ okL N r.f ∧ r.p = redR (E.map (·.p)) e0.p ∧ ∀ b o q, r.fa = some ⟨b, o, q⟩ → lo ≤ b := by
  obtain ⟨ad', cap', hadc, hc1, hc2⟩ := hE.slice
  simp only [Value.slice.injEq] at hadc
  obtain ⟨-, -, rfl⟩ := hadc
  unfold maxLen at hc2
  obtain ⟨bx, hbx⟩ : ∃ bx, bx = w.heap.size := ⟨_, rfl⟩
  obtain ⟨w1, hw1⟩ : ∃ w1, w1 = w.alloc (.cells #[.slice e0.a e0.p.length e0.cap, .slice e0.fa e0.f.length e0.fcap] 89) := ⟨_, rfl⟩
  obtain ⟨w2, hw2⟩ : ∃ w2, w2 = w1.alloc (.cells #[.slice none 0 0, .slice none 0 0] 89) := ⟨_, rfl⟩
  have hs1 : bx + 1 = w1.heap.size := by rw [hw1, hbx, World.size_alloc]
  have HBX : Hid (w.heap.size ≤ bx) := Lib.hid (by omega)
  have HI : Hid (RefRow w w2 bx lo S N e0) := Lib.hid ⟨by rw [hw2, hw1, hbx]; exact hs_al hs_new, by rw [hw2, hs1]; exact hs_new, by rw [hw2, hw1]; exact (Ext.alloc w _).then_al _, h0.ext (by rw [hw2, hw1]; exact (Ext.alloc w _).then_al _), fun b o q e => by have := h0.tp.lt e; omega, fun b o q e => by have := h0.tf.lt e; omega, hk0, hf0⟩
  have HER := Lib.hid hE
  have HS := Lib.hid hS
  have HNE := Lib.hid hne
  have HOK := Lib.hid hok
  have HASC := Lib.hid hasc
  have HSZ := Lib.hid hsz
  have HX := Lib.hid hx
  have HA0 := Lib.hid ha0
  clear hE hS hne hok hasc hsz hx h0 ha0 hk0 hf0
  go_enter Try.func66, Try.ntmps66
  go_upto_region 1 with fail
  rw [← hw1, ← hw2, ← hbx]
  clear hw1 hw2 hbx hs1
  go_wp2_with fail
  go_loopw [5, 6, 7, 8] (fun iv _ _ _ wr => Hid (∃ (i : Nat) (e : RE), iv = .int .i64 i ∧ i ≤ E.length ∧ RefRow w wr bx lo S N e ∧ e.p = redR ((E.map (·.p)).take i) e0.p)) (fun iv _ _ _ _ => E.length - (intOf iv).toNat)
  case atStart => exact Lib.hid ⟨0, e0, rfl, by omega, HI.out, by simp [redR]⟩
  case round =>
    obtain ⟨i, e, rfl, hi, hI, hep⟩ := hrel.out
    have HI2 := Lib.hid hI
    have HEP := Lib.hid hep
    obtain ⟨-, hel, hec⟩ := hI.val.p.len
    unfold maxLen at hec
    have k0 : wr.cell? ⟨bx, 0, none⟩ = some (.slice e.a e.p.length e.cap) := by rw [cellc hI.box]; rfl
    clear hrel hI hep
    by_cases hlt : i < E.length
    · obtain ⟨r, hr⟩ : ∃ r, E[i]? = some r := ⟨_, List.getElem?_eq_getElem hlt⟩
      obtain ⟨rb, rcap, hra, -, yy0, yy1, hrw⟩ := (HER.out.ext HI2.out.ext).at hr
      simp only [Value.slice.injEq] at hra
      obtain ⟨rfl, -, -⟩ := hra
      have y0 : wr.cell? ⟨rb, i * 2, none⟩ = some (.slice r.a r.p.length r.cap) := yy0
      have y1 : wr.cell? ⟨rb, i * 2 + 1, none⟩ = some (.slice r.fa r.f.length r.fcap) := yy1
      clear yy0 yy1
      have hrm := List.mem_of_getElem? hr
      obtain ⟨-, hrl, hrc⟩ := hrw.p.len
      unfold maxLen at hrc
      by_cases hpn : 0 < e.p.length
      · obtain ⟨m, hm⟩ : ∃ m, r.p.length = m + 1 := ⟨r.p.length - 1, by have := List.length_pos_iff.2 (HNE.out r hrm); omega⟩
        have HR := Lib.hid hr
        have HRM := Lib.hid hrm
        have HRW := Lib.hid hrw
        clear hr hrm hrw y1
        go_upto_region 4 with fail
        refine wp_region_reg 9 false (by kernel_rfl) (by kernel_rfl) ?_
        refine reg_value (fun _ => rfl) ?_ (fun g w' vs hM hE hP => ?_) ?_
        rotate_left
        · (clear hP hM; have zz0 := cs_ext hE k0; have zz1 := cs_ext hE y0; go_simp; first | done | rfl)
        refine reg_value (fun _ => rfl) ?_ (fun g w' vs hM hE hP => ?_) ?_
        rotate_left
        · (clear hP hM; have zz0 := cs_ext hE k0; have zz1 := cs_ext hE y0; go_simp; first | done | rfl)
        refine reg_value (fun _ => rfl) ?_ (fun g w' vs hM hE hP => ?_) ?_
        rotate_left
        · (clear hP hM; have zz0 := cs_ext hE k0; have zz1 := cs_ext hE y0; go_simp; first | done | rfl)
        refine reg_value (fun _ => rfl) ?_ (fun g w' vs hM hE hP => ?_) ?_
        rotate_left
        · (clear hP hM; have zz0 := cs_ext hE k0; have zz1 := cs_ext hE y0; go_simp; first | done | rfl)
        refine reg_value (fun _ => rfl) ?_ (fun g w' vs hM hE hP => ?_) ?_
        rotate_left
        · (clear hP hM; have zz0 := cs_ext hE k0; have zz1 := cs_ext hE y0; go_simp; first | done | rfl)
        refine reg_value (fun _ => rfl) ?_ (fun g w' vs hM hE hP => ?_) ?_
        rotate_left
        · (clear hP hM; have zz0 := cs_ext hE k0; have zz1 := cs_ext hE y0; go_simp; first | done | rfl)
        refine reg_value (fun _ => rfl) ?_ (fun g w' vs hM hE hP => ?_) ?_
        rotate_left
        · (clear hP hM; have zz0 := cs_ext hE k0; have zz1 := cs_ext hE y0; go_simp; first | done | rfl)
        refine reg_value (fun _ => rfl) ?_ (fun g w' vs hM hE hP => ?_) ?_
        rotate_left
        · (clear hP hM; have zz0 := cs_ext hE k0; have zz1 := cs_ext hE y0; go_simp; first | done | rfl)
        refine reg_value (fun _ => rfl) ?_ (fun g w' vs hM hE hP => ?_) ?_
        rotate_left
        · (clear hP hM; have zz0 := cs_ext hE k0; have zz1 := cs_ext hE y0; go_simp; first | done | rfl)
        intro g w4 hE4 hF hQ
        simp only [List.drop_succ_cons, List.drop_zero, Act.put, List.setIfInBounds_toArray, List.set_cons_succ, List.set_cons_zero]
        have HI4 := Lib.hid (HI2.out.next hE4)
        have HRW4 := Lib.hid (HRW.out.ext hE4)
        obtain ⟨b, off, a2, cap2, hka, z0, z1, z2, z3, hTx⟩ := HRW4.out.p.ts.at (lastT_get hm)
        obtain ⟨x, hxx⟩ : ∃ x, x = lastT r.p := ⟨_, rfl⟩
        rw [← hxx] at z0 z1 z2 z3 hTx
        have hcx := hTx.cap
        have hlx := hTx.len
        unfold maxLen at hcx
        have hex : ∀ y ∈ e.p, sizeT y ≤ 1000 := fun y hy => by
          obtain ⟨j, hj⟩ := List.mem_iff_getElem?.1 hy
          have h1 := sizeL_get hj
          have h2 := HX.out i
          rw [← HEP.out] at h2
          omega
        have hrx : ∀ y ∈ r.p, sizeT y ≤ 1000 := fun y hy => by
          obtain ⟨j, hj⟩ := List.mem_iff_getElem?.1 hy
          have h1 := sizeL_get hj
          have h2 := HSZ.out r HRM.out
          omega
        have hcon := RHas_any (w := w4) (A := e.p) (t := x) (fun y hy => by have := hex y hy; omega) (by have := hrx x (List.mem_of_getElem? (by rw [hxx]; exact lastT_get hm)); omega) HI4.out.val.p hTx
        obtain ⟨o, ho⟩ : ∃ o, o = decide (x ∈ e.p) := ⟨_, rfl⟩
        rw [← ho] at hcon
        have HSTEP : Hid (redR ((E.map (·.p)).take (i + 1)) e0.p = if o then plusS e.p r.p else e.p) := Lib.hid (by
          rw [redR_succ (r := r.p) (by rw [List.getElem?_map, HR.out]; rfl), ← HEP.out]
          unfold stepR
          rw [← hxx, ho]
          by_cases h : x ∈ e.p <;> simp [h])
        have HPL : Hid (∀ w', Ext w4 w' → Calls Try.prog 58 #[.slice e.a e.p.length e.cap, .slice (some ⟨b, off, none⟩) (m + 1) r.cap] w' fun e' w'' => ∃ u, e' = .returned u ∧ Ext w' w'' ∧ OwnT w'' w'.heap.size S u (plusS e.p r.p)) := Lib.hid (fun w' hE => by
          have h1 := (HRW4.out.ext hE).p
          unfold RE.pv at h1
          rw [hka, hm] at h1
          have h2 := RPlus_any (w := w') (A := e.p) (B := r.p) (a' := some ⟨b, off, none⟩) (cap' := r.cap) (fun y hy => by have := hex y hy; omega) (fun y hy => by have := hrx y hy; omega) (by
            have h1 := len_size e.p
            have h2 := len_size r.p
            have h3 := HX.out i
            rw [← HEP.out] at h3
            have h4 := HSZ.out r HRM.out
            omega) (by rw [HEP.out]; exact redR_asc (fun q hq => by
              obtain ⟨z, hz, rfl⟩ := List.mem_map.1 (List.mem_of_mem_take hq)
              exact HASC.out z hz) HA0.out) (HASC.out r HRM.out) (fun c hc => by have := HS.out c hc; have := HI4.out.ext.size; have := hE.size; omega) (HI4.out.val.p.ext hE) (by rw [hm]; exact h1)
          rw [hm] at h2
          exact h2)
        have HCON := Lib.hid hcon
        have hm9 : m < 1000000 := by have h2 := len_size r.p; have h4 := HSZ.out r HRM.out; omega
        have HKA := Lib.hid hka
        have HM := Lib.hid hm
        have HE4 := Lib.hid hE4
        clear hF hQ hcon hex hrx ho hxx hTx k0 y0 hE4 hm
        rw [hka]
        clear hka
        go_wp2_with fail
        refine HCON.out.mono ?_
        rintro e' w5 ⟨rfl, hE5⟩
        have HI5 := Lib.hid (HI4.out.next hE5)
        have HE5 := Lib.hid hE5
        clear hE5 z0 z1 z2 z3
        cases o with
        | false =>
          go_wp2_with fail
          go_roundw
          case rel => exact Lib.hid ⟨i + 1, e, by go_num, by omega, HI5.out, by rw [HSTEP.out]; simp⟩
          case measure => first | (simp [intOf]; done) | (simp [intOf]; omega)
        | true =>
          go_wp2_with fail
          refine (HPL.out _ HE5.out).mono ?_
          rintro e' w6 ⟨u, rfl, hE6, hO6⟩
          obtain ⟨ua, uc, hu, -, huc, -⟩ := id hO6.ls
          unfold maxLen at huc
          subst hu
          have HI6 := HI5.out.next hE6
          have k0 : w6.cell? ⟨bx, 0, none⟩ = some (.slice e.a e.p.length e.cap) := by rw [cellc HI6.box]; rfl
          have f0 : w6.frozen? ⟨bx, 0, none⟩ = false := frozenc HI6.box
          obtain ⟨w7, hw7⟩ : ∃ w7, w7 = w6.setCell ⟨bx, 0, none⟩ (.slice ua (plusS e.p r.p).length uc) := ⟨_, rfl⟩
          have HI7 : Hid (RefRow w w7 bx lo S N { e with p := plusS e.p r.p, a := ua, cap := uc }) := Lib.hid (by
            rw [hw7]
            exact HI5.out.putP hE6 HBX.out HS.out (lt_of_get' HI5.out.res) hO6)
          clear hE6 hO6 HI6
          go_upto_region 7 with fail
          rw [← hw7]
          clear hw7 k0 f0
          obtain ⟨wo, rfl⟩ : ∃ wo, wo = wr := ⟨_, rfl⟩
          go_wp2_with fail
          go_loopw [8] (fun kv wr => Hid (∃ (k : Nat) (e' : RE), kv = .int .i64 k ∧ k ≤ r.f.length ∧ RefRow w wr bx lo S N e' ∧ e'.p = plusS e.p r.p)) (fun kv _ => r.f.length - (intOf kv).toNat)
          case atStart => exact Lib.hid ⟨0, _, rfl, by omega, HI7.out, rfl⟩
          case round =>
            obtain ⟨k, e', rfl, hk, hI, hep⟩ := hrel.out
            have HIK := Lib.hid hI
            have HEK := Lib.hid hep
            obtain ⟨rb', rcap', hra, -, -, yy1, hrw⟩ := (HER.out.ext hI.ext).at HR.out
            simp only [Value.slice.injEq, Option.some.injEq, Addr.mk.injEq] at hra
            obtain ⟨⟨rfl, -⟩, -, -⟩ := hra
            have y1 : wr.cell? ⟨rb, i * 2 + 1, none⟩ = some (.slice r.fa r.f.length r.fcap) := yy1
            clear yy1
            obtain ⟨-, hfl, hfc⟩ := hrw.f.len
            rw [show (intL r.f).length = r.f.length by unfold intL; rw [List.length_map]] at hfl
            unfold maxLen at hfc
            have HRK := Lib.hid hrw
            clear hrel hI hep hrw
            by_cases hlk : k < r.f.length
            · obtain ⟨n, hn⟩ : ∃ n, r.f[k]? = some n := ⟨_, List.getElem?_eq_getElem hlk⟩
              have hnN := (HOK.out r HRM.out).1 n (List.mem_of_getElem? hn)
              obtain ⟨b2, off2, hfa, hcn⟩ := HRK.out.f.ints k (n : Int) (by unfold intL; rw [List.getElem?_map, hn]; rfl)
              rw [hfa] at y1
              have f1 : wr.cell? ⟨bx, 1, none⟩ = some (.slice e'.fa e'.f.length e'.fcap) := by rw [cellc HIK.out.box]; rfl
              have hel' := HIK.out.val.f.len
              have HNN := Lib.hid hnN
              have hel1 : e'.f.length ≤ e'.fcap := by have := hel'.2.1; unfold intL at this; rwa [List.length_map] at this
              have hel2 : e'.fcap ≤ 2 ^ 63 - 1 := by have := hel'.2.2; unfold maxLen at this; exact this
              have HCONF : Hid (∀ w', Ext wr w' → Calls Try.prog 85 #[.slice e'.fa e'.f.length e'.fcap, .int .i64 n] w' fun e w'' => ∃ v, e = .returned v ∧ Ext w' w'' ∧ OwnN w'' w'.heap.size v (flipL e'.f n)) := Lib.hid (fun w' hE => rflip_any (HIK.out.val.f.ext hE) (by have := okL_len HIK.out.ok; omega) (by omega))
              have hkl : ((k : Int)) < (r.f.length : Int) := by omega
              clear hn hnN hel' hfa
              go_upto_region 10 with fail
              refine wp_region_reg 12 false (by kernel_rfl) (by kernel_rfl) ?_
              refine reg_value (fun _ => rfl) ?_ (fun g w' vs hM hE hP => ?_) ?_
              rotate_left
              · (clear hP hM; have zz0 := cs_ext hE f1; have zz1 := cs_ext hE y1; have zz2 := cs_ext hE hcn; go_simp; first | done | rfl)
              refine reg_value (fun _ => rfl) ?_ (fun g w' vs hM hE hP => ?_) ?_
              rotate_left
              · (clear hP hM; have zz0 := cs_ext hE f1; have zz1 := cs_ext hE y1; have zz2 := cs_ext hE hcn; go_simp; first | done | rfl)
              refine reg_value (fun _ => rfl) ?_ (fun g w' vs hM hE hP => ?_) ?_
              rotate_left
              · (clear hP hM; have zz0 := cs_ext hE f1; have zz1 := cs_ext hE y1; have zz2 := cs_ext hE hcn; go_simp; first | done | rfl)
              refine reg_value (fun _ => rfl) ?_ (fun g w' vs hM hE hP => ?_) ?_
              rotate_left
              · (clear hP hM; have zz0 := cs_ext hE f1; have zz1 := cs_ext hE y1; have zz2 := cs_ext hE hcn; go_simp; first | done | rfl)
              refine reg_value (fun _ => rfl) ?_ (fun g w' vs hM hE hP => ?_) ?_
              rotate_left
              · (clear hP hM; have zz0 := cs_ext hE f1; have zz1 := cs_ext hE y1; have zz2 := cs_ext hE hcn; go_simp; first | done | rfl)
              refine reg_value (fun _ => rfl) ?_ (fun g w' vs hM hE hP => ?_) ?_
              rotate_left
              · (clear hP hM; have zz0 := cs_ext hE f1; have zz1 := cs_ext hE y1; have zz2 := cs_ext hE hcn; go_simp; first | done | rfl)
              refine reg_value (fun _ => rfl) ?_ (fun g w' vs hM hE hP => ?_) ?_
              rotate_left
              · (clear hP hM; have zz0 := cs_ext hE f1; have zz1 := cs_ext hE y1; have zz2 := cs_ext hE hcn; go_simp; first | done | rfl)
              refine reg_value (fun _ => rfl) ?_ (fun g w' vs hM hE hP => ?_) ?_
              rotate_left
              · (clear hP hM; have zz0 := cs_ext hE f1; have zz1 := cs_ext hE y1; have zz2 := cs_ext hE hcn; go_simp; first | done | rfl)
              refine reg_value (fun _ => rfl) ?_ (fun g w' vs hM hE hP => ?_) ?_
              rotate_left
              · (clear hP hM; have zz0 := cs_ext hE f1; have zz1 := cs_ext hE y1; have zz2 := cs_ext hE hcn; go_simp; first | done | rfl)
              refine reg_value (fun _ => rfl) ?_ (fun g w' vs hM hE hP => ?_) ?_
              rotate_left
              · (clear hP hM; have zz0 := cs_ext hE f1; have zz1 := cs_ext hE y1; have zz2 := cs_ext hE hcn; go_simp; first | done | rfl)
              refine reg_call (fun _ => rfl) 85 (fun g => #[.slice e'.fa e'.f.length e'.fcap, .int .i64 n]) (fun g w' m hM hE hP => ?_) (fun u w'' => OwnN w'' wr.heap.size u (flipL e'.f n)) ⟨fun u a b h hE => h.ext hE, (fun h => nomatch h), (fun h => absurd rfl h)⟩ (fun g w' m hM hE hP => ?_) ?_
              · (clear hP hM; go_simp)
              · exact (HCONF.out _ hE).mono (fun e w'' ⟨v, h1, h2, h3⟩ => ⟨v, h1, h2, h3.low hE.size⟩)
              refine reg_value (fun _ => rfl) ?_ (fun g w' vs hM hE hP => ?_) ?_
              rotate_left
              · (clear hP hM; have zz0 := cs_ext hE f1; have zz1 := cs_ext hE y1; have zz2 := cs_ext hE hcn; go_simp; first | done | rfl)
              intro g w9 hE9 hF hQ
              simp only [List.drop_succ_cons, List.drop_zero, Act.put, List.setIfInBounds_toArray, List.set_cons_succ, List.set_cons_zero]
              have hO9 : OwnN w9 wr.heap.size (g 10).v (flipL e'.f n) := hQ _ List.mem_cons_self
              obtain ⟨ua2, uc2, hu, -, huc2⟩ := hO9.slice
              unfold maxLen at huc2
              rw [hu] at hO9 ⊢
              have hb9 := (HIK.out.next hE9).box
              have j1 : w9.cell? ⟨bx, 1, none⟩ = some (.slice e'.fa e'.f.length e'.fcap) := by rw [cellc hb9]; rfl
              have j2 : w9.frozen? ⟨bx, 1, none⟩ = false := frozenc hb9
              have HI9 := Lib.hid (HIK.out.putF hE9 HBX.out HS.out (lt_of_get' HIK.out.res) hO9 (okL_flip HIK.out.ok HNN.out) (by omega) (by have := HIK.out.ext.size; omega))
              clear hu hF hQ hO9 hb9 hE9 f1 y1 hcn
              go_wp2_with fail
              go_roundw
              case rel => exact Lib.hid ⟨k + 1, _, by go_num, by omega, HI9.out, HEK.out⟩
              case measure => first | (simp [intOf]; done) | (simp [intOf]; omega)
            · go_wp2_with fail
              go_roundw
              case rel => exact Lib.hid ⟨i + 1, _, by go_num, by omega, HIK.out, by rw [HSTEP.out, HEK.out]; simp⟩
              case measure => first | (simp [intOf]; done) | (simp [intOf]; omega)
      · have HFIN : Hid (e.p = redR (E.map (·.p)) e0.p) := Lib.hid (by
          have h1 : e.p = [] := List.length_eq_zero_iff.1 (by omega)
          rw [h1]
          exact (redR_stay (k := i) (by rw [← HEP.out]; exact h1)).symm)
        clear hr hrm hrw y0 y1
        have k1 : wr.cell? ⟨bx, 1, none⟩ = some (.slice e.fa e.f.length e.fcap) := by rw [cellc HI2.out.box]; rfl
        have HRS := Lib.hid HI2.out.res
        go_wp2_with ((refine wpList_storeR rfl (.tmp 4) (.tmp 62) rfl (g := bx + 1) rfl (pa := e.a) (pn := e.p.length) (pc := e.cap) (fa := e.fa) (fn := e.f.length) (fc := e.fcap) rfl HRS.out rfl ?_); intro w6 c6 q6 e6 s6
                     have HG6 := Lib.hid c6
                     have HE6 : Hid (Ext w w6) := Lib.hid (e6 w HI2.out.ext (by have := HBX.out; omega))
                     have HV6 : Hid (ReW w6 S e) := Lib.hid (HI2.out.done (fun c hc => by have := HS.out c hc; have := HBX.out; omega) q6)
                     clear c6 q6 e6 s6)
        exact ret_row (g := bx + 1) rfl rfl HG6.out rfl ⟨e, rfl, HE6.out, HV6.out, HI2.out.ok, HFIN.out, HI2.out.new⟩
    · have HFIN : Hid (e.p = redR (E.map (·.p)) e0.p) := Lib.hid (by
        rw [HEP.out, List.take_of_length_le (by rw [List.length_map]; omega)])
      have k1 : wr.cell? ⟨bx, 1, none⟩ = some (.slice e.fa e.f.length e.fcap) := by rw [cellc HI2.out.box]; rfl
      have HRS := Lib.hid HI2.out.res
      go_wp2_with ((refine wpList_storeR rfl (.tmp 4) (.tmp 62) rfl (g := bx + 1) rfl (pa := e.a) (pn := e.p.length) (pc := e.cap) (fa := e.fa) (fn := e.f.length) (fc := e.fcap) rfl HRS.out rfl ?_); intro w6 c6 q6 e6 s6
                   have HG6 := Lib.hid c6
                   have HE6 : Hid (Ext w w6) := Lib.hid (e6 w HI2.out.ext (by have := HBX.out; omega))
                   have HV6 : Hid (ReW w6 S e) := Lib.hid (HI2.out.done (fun c hc => by have := HS.out c hc; have := HBX.out; omega) q6)
                   clear c6 q6 e6 s6)
      exact ret_row (g := bx + 1) rfl rfl HG6.out rfl ⟨e, rfl, HE6.out, HV6.out, HI2.out.ok, HFIN.out, HI2.out.new⟩

end Go.Proofs.Ytckgjebcehbkfaa
