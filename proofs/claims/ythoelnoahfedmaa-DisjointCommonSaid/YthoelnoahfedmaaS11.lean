/- continued: the walk. -/
import Derived.Test.YthoelnoahfedmaaS10
namespace Go.Proofs.Ythoelnoahfedmaa
open Go Go.RowKit
open Go.Maps (Keyed)
set_option linter.unusedVariables false
set_option linter.unusedSimpArgs false

def tget (v : Value) (i : Nat) : Value := match v with | .tuple vs => vs.getD i undef | _ => undef

/-- from a state no string (of at least one byte, if more) leads to one that accepts -/
def NoOn (f : Int → Nat → Option Int) (acc : Int → Bool) (s0 : Int) (more : Bool) : Prop :=
  ∀ l : List Nat, (∀ b ∈ l, b < 256) → (more = true → l ≠ []) → ∀ y, runF f s0 l = some y → acc y = false

/-- what continued answers -/
def ContR (f g : Int → Nat → Option Int) (accF accG : Int → Bool) (L : List (Int × Int)) (Ws : List (Nat × Nat)) (more : Bool) (s1 s2 : ByteArray) (er : Int) : Prop :=
  (er = 0 ∧ ∃ (k : Nat) (p : Int × Int) (l : List Nat), L[k]? = some p ∧ accF p.1 = true ∧ s1 = bytesN (pathR Ws Ws.length k).reverse ∧ s2 = bytesN ((pathR Ws Ws.length k).reverse ++ l) ∧ (more = true → l ≠ []) ∧ (∀ b ∈ l, b < 256) ∧ ∃ y, runF g p.2 l = some y ∧ accG y = true) ∨
  (er = 15 ∧ s1 = ByteArray.empty ∧ s2 = ByteArray.empty ∧ ∀ p ∈ L, accF p.1 = true → NoOn g accG p.2 more)

theorem bytesN_size (l : List Nat) : (bytesN l).size = l.length := by simp [bytesN, ByteArray.size]

theorem bytesN_append (a b : List Nat) : bytesN a ++ bytesN b = bytesN (a ++ b) := by
  apply ByteArray.ext
  simp [bytesN]

set_option maxRecDepth 100000 in
set_option maxHeartbeats 2400000 in
theorem continued_any {w0 w : World} {B : Nat} {tb toff : Nat} {t : List Fmt} {cap i j gs mb : Nat} {fm gm : Fmt} {pv wv : Value} {L : List (Int × Int)} {Ws : List (Nat × Nat)} {more : Bool} (hT : TabA w B (some ⟨tb, toff, none⟩) t) (hB : B ≤ w.heap.size) (hfm : t[i]? = some fm) (hgm : t[j]? = some gm) (hVf : VFmt t fm) (hVg : VFmt t gm)
    (hS : PSrch w0 w (.slice (some ⟨tb, toff, none⟩) t.length cap) i j gs mb pv wv L Ws) (hF : Full (stP t fm.fields gm.fields) (0, 0) L) (hL : L.length ≤ 20000) (hW : Ways (stP t fm.fields gm.fields) L Ws) :
    Calls Try.prog 40 #[.pointer (some ⟨gs, 0, none⟩), .bool more] w fun e w' => ∃ s1 s2 er, e = .returned (.tuple #[.string s1, .string s2, .int .i64 er]) ∧ Ext w w' ∧ ContR (stF t fm.fields) (stF t gm.fields) (rAcc fm.fields) (rAcc gm.fields) L Ws more s1 s2 er := by
  have hLs : ∀ x ∈ L, 0 ≤ x.1 ∧ x.1 ≤ 40000000 ∧ 0 ≤ x.2 ∧ x.2 ≤ 40000000 := fun x hx => by
    obtain ⟨k, rfl, -⟩ := hF
    exact levP_small (by have := hVf.le; omega) (by have := hVg.le; omega) x hx
  have hpos : 0 < L.length := List.length_pos_of_mem hF.start
  obtain ⟨gp, pcap, rfl, hpc, -⟩ := row2_slice hS.pairs hpos
  obtain ⟨z0, z1, z2, z3, z4, z5, z6⟩ := hS.cells
  have hcells : ∀ (k : Nat) (x : Int × Int), L[k]? = some x → w.cell? ⟨gp, k * 2, none⟩ = some (.int .i64 x.1) ∧ w.cell? ⟨gp, k * 2 + 1, none⟩ = some (.int .i64 x.2) := fun k x hk => by
    obtain ⟨g', c', e, -, -, -, hc⟩ := row2_at (f := encP2) (fun _ => rfl) hS.pairs hk
    cases e
    exact ⟨hc 0 _ rfl, hc 1 _ rfl⟩
  have hcA := fun (w' : World) (hE : Ext w w') (s : Int) (hs : s ≤ 9223372036854775807) => acceptsV (cap := cap) s hs (hT.ext hB hE) (by have := hE.size; omega) hfm hVf
  have hcO := fun (w' : World) (hE : Ext w w') (s : Int) (hs : 0 ≤ s ∧ s ≤ 40000000) => on_any (cap := cap) (more := more) hs (hT.ext hB hE) (by have := hE.size; omega) hgm hVg
  have HCA := Lib.hid hcA
  have HCO := Lib.hid hcO
  have HW := Lib.hid hW
  have HS := Lib.hid hS
  have HC := Lib.hid hcells
  have HLS := Lib.hid hLs
  have Z0 := Lib.hid z0
  have Z1 := Lib.hid z1
  have Z2 := Lib.hid z2
  have Z3 := Lib.hid z3
  have HPOS := Lib.hid hpos
  have HL0 : Hid (L[0]? = some (0, 0)) := by obtain ⟨k, rfl, -⟩ := hF; exact lev_start
  obtain ⟨accF, haF⟩ : ∃ f, f = rAcc fm.fields := ⟨_, rfl⟩
  obtain ⟨accG, haG⟩ : ∃ f, f = rAcc gm.fields := ⟨_, rfl⟩
  obtain ⟨fF, hfF⟩ : ∃ f, f = stF t fm.fields := ⟨_, rfl⟩
  obtain ⟨fG, hfG⟩ : ∃ f, f = stF t gm.fields := ⟨_, rfl⟩
  rw [← haF, ← haG, ← hfF, ← hfG]
  have HAF := Lib.hid haF
  have HAG := Lib.hid haG
  have HFG := Lib.hid hfG
  clear hcA hcO hW hS hcells hLs z0 z1 z2 z3 z5 z6 haF haG hfF hfG hT hfm hgm hVf hVg hF hpos
  have hmk : (Instr.makeMap 72 none).run Try.prog w = .ok (.map (some w.heap.size)) (w.alloc (.map #[] 0)) := rfl
  obtain ⟨mt, hmt⟩ : ∃ mt, mt = w.heap.size := ⟨_, rfl⟩
  obtain ⟨w1, hw1⟩ : ∃ w1, w1 = w.alloc (.map #[] 0) := ⟨_, rfl⟩
  have hM0 : MapK encN w1 mt 0 (fun x => inB [] x.1) := by rw [hmt, hw1]; simpa [inB] using MapK.made (enc := encN) w
  have hE1 : Ext w w1 := by rw [hw1]; exact Ext.alloc w _
  rw [← hmt, ← hw1] at hmk
  have HMT := Lib.hid hmt
  have HM0 := Lib.hid hM0
  have HE1 := Lib.hid hE1
  have k4 := cs_ext hE1 z4
  clear hmt hw1 hM0 hE1 z4
  go_enter Try.func40, Try.ntmps40
  go_wp2_with fail
  clear hmk k4
  go_loopw [8, 9, 10, 11, 12, 19] (fun _ _ _ _ _ kv wr => ∃ (k : Nat) (T : List Int) (n : Nat), kv = .int .i64 k ∧ k ≤ L.length ∧ MapK encN wr mt n (fun x => inB T x.1) ∧ (∀ q ∈ T, NoOn fG accG q more) ∧
    (∀ (k' : Nat) (x : Int × Int), k' < k → L[k']? = some x → accF x.1 = true → NoOn fG accG x.2 more) ∧ Ext w wr) (fun _ _ _ _ _ kv _ => L.length - (intOf kv).toNat)
  case atStart => exact ⟨0, [], 0, rfl, by omega, HM0.out, by simp, fun k' x h => by omega, HE1.out⟩
  case round =>
    obtain ⟨k, T, mn, rfl, hk, hM, hTn, hall, hE⟩ := hrel
    have HALL := Lib.hid hall
    have HTN := Lib.hid hTn
    have HM := Lib.hid hM
    clear hall hTn hM
    by_cases hlt : k < L.length
    · obtain ⟨x, hx⟩ : ∃ x, L[k]? = some x := ⟨_, List.getElem?_eq_getElem hlt⟩
      obtain ⟨y0, y1⟩ := HC.out k x hx
      have y0 := cs_ext hE y0
      have y1 := cs_ext hE y1
      obtain ⟨xs1, xs2, xs3, xs4⟩ := HLS.out x (List.mem_of_getElem? hx)
      have HX := Lib.hid hx; clear hx
      obtain ⟨b1, hb1⟩ : ∃ b1, b1 = accF x.1 := ⟨_, rfl⟩
      have hc1 := fun (w' : World) (h : Ext w w') => HCA.out w' h x.1 (by omega)
      rw [← HAF.out, ← hb1] at hc1
      have HB1 := Lib.hid hb1
      have HC1 := Lib.hid hc1
      clear hc1 hb1
      have HE := Lib.hid hE
      go_wp2_with fail
      obtain ⟨wq, hwq⟩ : ∃ wq, wq = wr.alloc (Obj.cells #[Value.int IntKind.i64 x.1, Value.int IntKind.i64 x.2] 53) := ⟨_, rfl⟩
      obtain ⟨xb, hxb⟩ : ∃ xb, xb = wr.heap.size := ⟨_, rfl⟩
      have m0 : wq.cell? ⟨xb, 0, none⟩ = some (.int .i64 x.1) := by rw [hwq, hxb]; exact cs_new rfl
      have m1 : wq.cell? ⟨xb, 1, none⟩ = some (.int .i64 x.2) := by rw [hwq, hxb]; exact cs_new rfl
      have hEq : Ext w wq := by rw [hwq]; exact HE.out.then_al _
      have hMq : MapK encN wq mt mn (fun x => inB T x.1) := by rw [hwq]; exact HM.out.al _
      have hxmt : xb ≠ mt := by have := HM.out.lt; omega
      rw [← hwq, ← hxb]
      have k0 := cs_ext hEq Z0.out
      have k1 := cs_ext hEq Z1.out
      have HEQ := Lib.hid hEq
      have HMQ := Lib.hid hMq
      clear hwq hxb hEq y0 y1 hE hMq
      have SKIP : ∀ (wz : World), MapK encN wz mt mn (fun x => inB T x.1) → Ext w wz → (accF x.1 = true → NoOn fG accG x.2 more) → ∃ (k1 : Nat) (T : List Int) (n : Nat), Value.int .i64 ((k : Int) + 1) = .int .i64 k1 ∧ k1 ≤ L.length ∧ MapK encN wz mt n (fun x => inB T x.1) ∧ (∀ q ∈ T, NoOn fG accG q more) ∧
          (∀ (k' : Nat) (x : Int × Int), k' < k1 → L[k']? = some x → accF x.1 = true → NoOn fG accG x.2 more) ∧ Ext w wz :=
        fun wz h1 h2 h3 => ⟨k + 1, T, mn, by go_num, by omega, h1, HTN.out, fun k' y h hy => by
          rcases Nat.lt_or_ge k' k with h' | h'
          · exact HALL.out k' y h' hy
          · have : k' = k := by omega
            subst this
            rw [HX.out] at hy; cases hy; exact h3, h2⟩
      have HSKIP := Lib.hid SKIP
      clear SKIP
      cases b1
      · refine wp_region_reg 14 false (by kernel_rfl) (by kernel_rfl) ?_
        refine reg_value (fun _ => rfl) ?_ (fun g w' vs hM hE hP => ?_) ?_
        rotate_left
        · (clear hP hM; have zz0 := cs_ext hE k0; have zz1 := cs_ext hE k1; have zz2 := cs_ext hE m0; have zz3 := cs_ext hE m1; go_simp; first | done | rfl)
        refine reg_value (fun _ => rfl) ?_ (fun g w' vs hM hE hP => ?_) ?_
        rotate_left
        · (clear hP hM; have zz0 := cs_ext hE k0; have zz1 := cs_ext hE k1; have zz2 := cs_ext hE m0; have zz3 := cs_ext hE m1; go_simp; first | done | rfl)
        refine reg_value (fun _ => rfl) ?_ (fun g w' vs hM hE hP => ?_) ?_
        rotate_left
        · (clear hP hM; have zz0 := cs_ext hE k0; have zz1 := cs_ext hE k1; have zz2 := cs_ext hE m0; have zz3 := cs_ext hE m1; go_simp; first | done | rfl)
        refine reg_value (fun _ => rfl) ?_ (fun g w' vs hM hE hP => ?_) ?_
        rotate_left
        · (clear hP hM; have zz0 := cs_ext hE k0; have zz1 := cs_ext hE k1; have zz2 := cs_ext hE m0; have zz3 := cs_ext hE m1; go_simp; first | done | rfl)
        refine reg_value (fun _ => rfl) ?_ (fun g w' vs hM hE hP => ?_) ?_
        rotate_left
        · (clear hP hM; have zz0 := cs_ext hE k0; have zz1 := cs_ext hE k1; have zz2 := cs_ext hE m0; have zz3 := cs_ext hE m1; go_simp; first | done | rfl)
        refine reg_value (fun _ => rfl) ?_ (fun g w' vs hM hE hP => ?_) ?_
        rotate_left
        · (clear hP hM; have zz0 := cs_ext hE k0; have zz1 := cs_ext hE k1; have zz2 := cs_ext hE m0; have zz3 := cs_ext hE m1; go_simp; first | done | rfl)
        refine reg_const (fun _ => rfl) 36 ?_ (fun g w' vs hM hE hP => ?_) ?_
        rotate_left
        · (clear hP hM; have zz0 := cs_ext hE k0; have zz1 := cs_ext hE k1; have zz2 := cs_ext hE m0; have zz3 := cs_ext hE m1; go_simp; first | done | exact ⟨rfl, rfl⟩ | rfl)
        apply Exists.intro
        refine And.intro (fun g w' vs hM hE hP => ?_) ?_
        · exact HC1.out _ (HEQ.out.trans hE)
        refine reg_value (fun _ => rfl) ?_ (fun g w' vs hM hE hP => ?_) ?_
        rotate_left
        · (clear hP hM; have zz0 := cs_ext hE k0; have zz1 := cs_ext hE k1; have zz2 := cs_ext hE m0; have zz3 := cs_ext hE m1; go_simp; first | done | rfl)
        refine reg_value (fun _ => rfl) ?_ (fun g w' vs hM hE hP => ?_) ?_
        rotate_left
        · (clear hP hM; have zz0 := cs_ext hE k0; have zz1 := cs_ext hE k1; have zz2 := cs_ext hE m0; have zz3 := cs_ext hE m1; go_simp; first | done | rfl)
        refine reg_skip (fun g => by go_simp) ?_
        refine reg_skip (fun g => by go_simp) ?_
        refine reg_skip (fun g => by go_simp) ?_
        refine reg_skip (fun g => by go_simp) ?_
        refine reg_value (fun _ => rfl) ?_ (fun g w' vs hM hE hP => ?_) ?_
        rotate_left
        · (clear hP hM; have zz0 := cs_ext hE k0; have zz1 := cs_ext hE k1; have zz2 := cs_ext hE m0; have zz3 := cs_ext hE m1; go_simp; first | done | rfl)
        intro g wz hE2 hF hQ
        simp only [List.drop_succ_cons, List.drop_zero, Act.put, List.setIfInBounds_toArray, List.set_cons_succ, List.set_cons_zero]
        clear hF hQ k0 k1 m0 m1
        have HR := Lib.hid (HSKIP.out wz (HMQ.out.ext hE2) (HEQ.out.trans hE2) (fun h => by rw [← HB1.out] at h; cases h))
        clear hE2
        go_wp2_with fail
        go_roundw
        case rel => exact HR.out
        case measure => simp [intOf]; omega
      · obtain ⟨kn, hkn⟩ : ∃ kn, kn = decide (x.2 ∈ T) := ⟨_, rfl⟩
        have hlk := fun (w' : World) (h : Ext wq w') => (HMQ.out.ext h).look law3 key3 Try.underlying72 (zero4 w') ⟨x.2, by unfold I64; omega⟩ false
        simp only [inB_val, encN] at hlk
        rw [← hkn] at hlk
        have HLK := Lib.hid hlk
        have HKN := Lib.hid hkn
        clear hlk hkn
        refine wp_region_reg 14 false (by kernel_rfl) (by kernel_rfl) ?_
        refine reg_value (fun _ => rfl) ?_ (fun g w' vs hM hE hP => ?_) ?_
        rotate_left
        · (clear hP hM; have zz0 := cs_ext hE k0; have zz1 := cs_ext hE k1; have zz2 := cs_ext hE m0; have zz3 := cs_ext hE m1; go_simp; first | done | rfl)
        refine reg_value (fun _ => rfl) ?_ (fun g w' vs hM hE hP => ?_) ?_
        rotate_left
        · (clear hP hM; have zz0 := cs_ext hE k0; have zz1 := cs_ext hE k1; have zz2 := cs_ext hE m0; have zz3 := cs_ext hE m1; go_simp; first | done | rfl)
        refine reg_value (fun _ => rfl) ?_ (fun g w' vs hM hE hP => ?_) ?_
        rotate_left
        · (clear hP hM; have zz0 := cs_ext hE k0; have zz1 := cs_ext hE k1; have zz2 := cs_ext hE m0; have zz3 := cs_ext hE m1; go_simp; first | done | rfl)
        refine reg_value (fun _ => rfl) ?_ (fun g w' vs hM hE hP => ?_) ?_
        rotate_left
        · (clear hP hM; have zz0 := cs_ext hE k0; have zz1 := cs_ext hE k1; have zz2 := cs_ext hE m0; have zz3 := cs_ext hE m1; go_simp; first | done | rfl)
        refine reg_value (fun _ => rfl) ?_ (fun g w' vs hM hE hP => ?_) ?_
        rotate_left
        · (clear hP hM; have zz0 := cs_ext hE k0; have zz1 := cs_ext hE k1; have zz2 := cs_ext hE m0; have zz3 := cs_ext hE m1; go_simp; first | done | rfl)
        refine reg_value (fun _ => rfl) ?_ (fun g w' vs hM hE hP => ?_) ?_
        rotate_left
        · (clear hP hM; have zz0 := cs_ext hE k0; have zz1 := cs_ext hE k1; have zz2 := cs_ext hE m0; have zz3 := cs_ext hE m1; go_simp; first | done | rfl)
        refine reg_const (fun _ => rfl) 36 ?_ (fun g w' vs hM hE hP => ?_) ?_
        rotate_left
        · (clear hP hM; have zz0 := cs_ext hE k0; have zz1 := cs_ext hE k1; have zz2 := cs_ext hE m0; have zz3 := cs_ext hE m1; go_simp; first | done | exact ⟨rfl, rfl⟩ | rfl)
        apply Exists.intro
        refine And.intro (fun g w' vs hM hE hP => ?_) ?_
        · exact HC1.out _ (HEQ.out.trans hE)
        refine reg_value (fun _ => rfl) ?_ (fun g w' vs hM hE hP => ?_) ?_
        rotate_left
        · (clear hP hM; have zz0 := cs_ext hE k0; have zz1 := cs_ext hE k1; have zz2 := cs_ext hE m0; have zz3 := cs_ext hE m1; go_simp; first | done | rfl)
        refine reg_value (fun _ => rfl) ?_ (fun g w' vs hM hE hP => ?_) ?_
        rotate_left
        · (clear hP hM; have zz0 := cs_ext hE k0; have zz1 := cs_ext hE k1; have zz2 := cs_ext hE m0; have zz3 := cs_ext hE m1; go_simp; first | done | rfl)
        refine reg_value (fun g => by go_simp) ?_ (fun g w' vs hM hE hP => ?_) ?_
        rotate_left
        · (clear hP hM; have zz0 := cs_ext hE k0; have zz1 := cs_ext hE k1; have zz2 := cs_ext hE m0; have zz3 := cs_ext hE m1; go_simp; first | done | rfl)
        refine reg_value (fun g => by go_simp) ?_ (fun g w' vs hM hE hP => ?_) ?_
        rotate_left
        · (clear hP hM; have zz0 := cs_ext hE k0; have zz1 := cs_ext hE k1; have zz2 := cs_ext hE m0; have zz3 := cs_ext hE m1; go_simp; first | done | rfl)
        refine reg_value (fun g => by go_simp) ?_ (fun g w' vs hM hE hP => ?_) ?_
        rotate_left
        · (clear hP hM; have zz0 := cs_ext hE k0; have zz1 := cs_ext hE k1; have zz2 := cs_ext hE m0; have zz3 := cs_ext hE m1; go_simp; first | done | rfl)
        refine reg_value (fun g => by go_simp) (fun _ => .bool kn) (fun g w' m hM hE hP => ?_) ?_
        · have hl := HLK.out w' hE
          clear hM hP
          go_simp
        refine reg_value (fun _ => rfl) ?_ (fun g w' vs hM hE hP => ?_) ?_
        rotate_left
        · (clear hP hM; have zz0 := cs_ext hE k0; have zz1 := cs_ext hE k1; have zz2 := cs_ext hE m0; have zz3 := cs_ext hE m1; go_simp; first | done | rfl)
        intro g wz hE2 hF hQ
        simp only [List.drop_succ_cons, List.drop_zero, Act.put, List.setIfInBounds_toArray, List.set_cons_succ, List.set_cons_zero]
        clear hF hQ k0 k1
        have m1 := cs_ext hE2 m1
        have hMz := HMQ.out.ext hE2
        have HEZ := Lib.hid (HEQ.out.trans hE2)
        clear hE2 m0
        cases kn
        · obtain ⟨ob, hup, hFm⟩ := hMz.update law3 key3 encN_inj Try.underlying72 ⟨x.2, by unfold I64; omega⟩ (.bool true)
          have hM2 := hFm (fun y => inB (T ++ [x.2]) y.1) inB_new (fun y hy => inB_other (fun e => hy (Subtype.ext e)))
          simp only [encN] at hup
          obtain ⟨w2, hw2⟩ : ∃ w2, w2 = ChangeMaps.setBlock wz mt ob := ⟨_, rfl⟩
          rw [← hw2] at hup hM2
          have hE2 : Ext w w2 := by rw [hw2]; exact HEZ.out.turned (by rw [HMT.out]; exact Nat.le_refl _)
          have m2 : w2.cell? ⟨xb, 1, none⟩ = some (.int .i64 x.2) := by rw [hw2]; rw [World.cell?_of_block (a := ⟨xb, 1, none⟩) (turned_block hxmt)]; exact m1
          have HM2 := Lib.hid hM2
          have HE2 := Lib.hid hE2
          clear hw2 hM2 hE2 hMz hFm
          go_wp2_with fail
          clear hup m1
          have k2 := cs_ext HE2.out Z2.out
          have k3 := cs_ext HE2.out Z3.out
          refine wp_region_reg 13 false (by kernel_rfl) (by kernel_rfl) ?_
          refine reg_value (fun _ => rfl) ?_ (fun g w' vs hM hE hP => ?_) ?_
          rotate_left
          · (clear hP hM; have zz0 := cs_ext hE k2; have zz1 := cs_ext hE k3; have zz2 := cs_ext hE m2; go_simp; first | done | rfl)
          refine reg_value (fun _ => rfl) ?_ (fun g w' vs hM hE hP => ?_) ?_
          rotate_left
          · (clear hP hM; have zz0 := cs_ext hE k2; have zz1 := cs_ext hE k3; have zz2 := cs_ext hE m2; go_simp; first | done | rfl)
          refine reg_value (fun _ => rfl) ?_ (fun g w' vs hM hE hP => ?_) ?_
          rotate_left
          · (clear hP hM; have zz0 := cs_ext hE k2; have zz1 := cs_ext hE k3; have zz2 := cs_ext hE m2; go_simp; first | done | rfl)
          refine reg_value (fun _ => rfl) ?_ (fun g w' vs hM hE hP => ?_) ?_
          rotate_left
          · (clear hP hM; have zz0 := cs_ext hE k2; have zz1 := cs_ext hE k3; have zz2 := cs_ext hE m2; go_simp; first | done | rfl)
          refine reg_value (fun _ => rfl) ?_ (fun g w' vs hM hE hP => ?_) ?_
          rotate_left
          · (clear hP hM; have zz0 := cs_ext hE k2; have zz1 := cs_ext hE k3; have zz2 := cs_ext hE m2; go_simp; first | done | rfl)
          refine reg_value (fun _ => rfl) ?_ (fun g w' vs hM hE hP => ?_) ?_
          rotate_left
          · (clear hP hM; have zz0 := cs_ext hE k2; have zz1 := cs_ext hE k3; have zz2 := cs_ext hE m2; go_simp; first | done | rfl)
          refine reg_value (fun _ => rfl) ?_ (fun g w' vs hM hE hP => ?_) ?_
          rotate_left
          · (clear hP hM; have zz0 := cs_ext hE k2; have zz1 := cs_ext hE k3; have zz2 := cs_ext hE m2; go_simp; first | done | rfl)
          refine reg_call (fun _ => rfl) 65 ?_ (fun g w' m hM hE hP => ?_) (fun u _ => ∃ s ok, u = .tuple #[.string s, .bool ok] ∧ OnR fG accG x.2 more s ok) ⟨fun u a b h _ => h, (fun h => nomatch h), (fun h => absurd rfl h)⟩ (fun g w' m hM hE hP => ?_) ?_
          rotate_left
          · (clear hP hM; have zz0 := cs_ext hE k2; have zz1 := cs_ext hE k3; have zz2 := cs_ext hE m2; go_simp; first | done | exact ⟨rfl, rfl⟩ | rfl)
          · refine (HCO.out w' (HE2.out.trans hE) x.2 ⟨xs3, xs4⟩).mono ?_
            rintro e w'' ⟨s, ok, rfl, h1, h2⟩
            exact ⟨_, rfl, h1, s, ok, rfl, by rw [HFG.out, HAG.out]; exact h2⟩
          refine reg_value (fun _ => rfl) ?_ (fun g w' vs hM hE hP => ?_) ?_
          rotate_left
          · (clear hP hM; have zz0 := cs_ext hE k2; have zz1 := cs_ext hE k3; have zz2 := cs_ext hE m2; go_simp; first | done | rfl)
          refine reg_value (fun _ => rfl) (fun g => tget (g 7).v 0) (fun g w' m hM hE hP => ?_) ?_
          · obtain ⟨s, ok, hv, -⟩ := hP _ List.mem_cons_self (anc_of 3 (by kernel_rfl))
            simp only at hv
            clear hM hP
            rw [hv]
            go_simp
            rfl
          refine reg_value (fun _ => rfl) (fun g => tget (g 7).v 1) (fun g w' m hM hE hP => ?_) ?_
          · obtain ⟨s, ok, hv, -⟩ := hP _ List.mem_cons_self (anc_of 3 (by kernel_rfl))
            simp only at hv
            clear hM hP
            rw [hv]
            go_simp
            rfl
          refine reg_value (fun _ => rfl) ?_ (fun g w' vs hM hE hP => ?_) ?_
          rotate_left
          · (clear hP hM; have zz0 := cs_ext hE k2; have zz1 := cs_ext hE k3; have zz2 := cs_ext hE m2; go_simp; first | done | rfl)
          refine reg_value (fun _ => rfl) ?_ (fun g w' vs hM hE hP => ?_) ?_
          rotate_left
          · (clear hP hM; have zz0 := cs_ext hE k2; have zz1 := cs_ext hE k3; have zz2 := cs_ext hE m2; go_simp; first | done | rfl)
          intro g wy hE3 hF hQ
          simp only [List.drop_succ_cons, List.drop_zero, Act.put, List.setIfInBounds_toArray, List.set_cons_succ, List.set_cons_zero]
          clear hF k2 k3
          obtain ⟨sr, ok, hv, hOn⟩ := hQ _ List.mem_cons_self
          simp only at hv
          simp only [hv, tget]
          have HE3 := Lib.hid hE3
          have HON := Lib.hid hOn
          clear hQ hE3 hOn hv m2
          cases ok
          · have HR : Hid (∃ (k1 : Nat) (T : List Int) (n : Nat), Value.int .i64 ((k : Int) + 1) = .int .i64 k1 ∧ k1 ≤ L.length ∧ MapK encN wy mt n (fun x => inB T x.1) ∧ (∀ q ∈ T, NoOn fG accG q more) ∧
                (∀ (k' : Nat) (x : Int × Int), k' < k1 → L[k']? = some x → accF x.1 = true → NoOn fG accG x.2 more) ∧ Ext w wy) := by
              have hno : NoOn fG accG x.2 more := by
                rcases HON.out with ⟨h, -⟩ | ⟨-, -, h⟩
                · cases h
                · exact h
              exact ⟨k + 1, T ++ [x.2], mn + 1, by go_num, by omega, HM2.out.ext HE3.out, fun q hq => by
                rcases List.mem_append.1 hq with h | h
                · exact HTN.out q h
                · simp at h; subst h; exact hno, fun k' y h hy => by
                rcases Nat.lt_or_ge k' k with h' | h'
                · exact HALL.out k' y h' hy
                · have : k' = k := by omega
                  subst this
                  rw [HX.out] at hy; cases hy; exact fun _ => hno, HE2.out.trans HE3.out⟩
            go_wp2_with fail
            go_roundw
            case rel => exact HR.out
            case measure => simp [intOf]; omega
          · have HE4 := Lib.hid (HE2.out.trans HE3.out)
            have hcon3 := text_any (k := k) (hs_ext HE4.out HS.out.st) (ownsRow_ext HS.out.ways HE4.out) HW.out.ok (by rw [HW.out.1]; omega) (by omega)
            have HC3 := Lib.hid hcon3
            clear hcon3
            have hcat : (bytesN (pathR Ws Ws.length k).reverse).size + sr.size ≤ 9223372036854775807 := by
              obtain ⟨-, -, r3⟩ := HW.out.path (s := (0, 0)) HL0.out Ws.length k x (by rw [HW.out.1]; omega) HX.out
              rw [bytesN_size, List.length_reverse]
              rcases HON.out with ⟨-, l, rfl, hl1, hl2, hl3, -⟩ | ⟨h, -⟩
              · rw [bytesN_size]; omega
              · cases h
            go_wp2_with fail
            refine HC3.out.mono ?_
            rintro e w4 ⟨rfl, hE5⟩
            have HE5 := Lib.hid (HE4.out.trans hE5)
            clear hE5
            go_wp2_with fail
            go_ret3
            rcases HON.out with ⟨-, l, rfl, hl1, hl2, -, y, hy1, hy2⟩ | ⟨h, -⟩
            · exact ⟨_, _, _, rfl, HE5.out, .inl ⟨rfl, k, x, l, HX.out, HB1.out.symm, rfl, bytesN_append _ _, hl2, hl1, y, hy1, hy2⟩⟩
            · cases h
        · have HR := Lib.hid (HSKIP.out wz hMz HEZ.out (fun h => HTN.out x.2 (of_decide_eq_true HKN.out.symm)))
          clear hMz m1
          go_wp2_with fail
          go_roundw
          case rel => exact HR.out
          case measure => simp [intOf]; omega
    · have HKL : Hid (L.length ≤ k) := Lib.hid (by omega)
      have HE := Lib.hid hE
      clear hE
      go_wp2_with fail
      go_ret3
      exact ⟨_, _, _, rfl, HE.out, .inr ⟨rfl, rfl, rfl, fun p hp => by
        obtain ⟨k', hk'⟩ := List.mem_iff_getElem?.1 hp
        exact HALL.out k' p (by have := (List.getElem?_eq_some_iff.1 hk').1; have := HKL.out; omega) hk'⟩⟩

end Go.Proofs.Ythoelnoahfedmaa
