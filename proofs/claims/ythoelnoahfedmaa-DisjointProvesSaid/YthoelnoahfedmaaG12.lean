/- continued: the walk. PrefixFree, Begins, Few, the tables of the examples, Equal. Sorting one element; Equal; Prove. Prove. -/
import Derived.Test.YthoelnoahfedmaaG11
namespace Go.Proofs.Ythoelnoahfedmaa
open Go Go.RowKit
open Go.Maps (Keyed)
set_option linter.unusedVariables false
set_option linter.unusedSimpArgs false

def tget (v : Value) (i : Nat) : Value := match v with | .tuple vs => vs.getD i undef | _ => undef

/-- from a state no string (of at least one byte, if more) leads to one that accepts -/
def NoOn (f : Int → Nat → Option Int) (acc : Int → Bool) (s0 : Int) (more : Bool) : Prop :=
  ∀ l : List Nat, (∀ b ∈ l, b < 256) → (more = true → l ≠ []) → ∀ y, runF f s0 l = some y → acc y = false

/-- what continued answers -/
def ContR (f g : Int → Nat → Option Int) (accF accG : Int → Bool) (L : List (Int × Int)) (Ws : List (Nat × Nat)) (more : Bool) (s1 s2 : ByteArray) (er : Int) : Prop :=
  (er = 0 ∧ ∃ (k : Nat) (p : Int × Int) (l : List Nat), L[k]? = some p ∧ accF p.1 = true ∧ s1 = bytesN (pathR Ws Ws.length k).reverse ∧ s2 = bytesN ((pathR Ws Ws.length k).reverse ++ l) ∧ (more = true → l ≠ []) ∧ (∀ b ∈ l, b < 256) ∧ l.length ≤ 50000000 ∧ ∃ y, runF g p.2 l = some y ∧ accG y = true) ∨
  (er = 15 ∧ s1 = ByteArray.empty ∧ s2 = ByteArray.empty ∧ ∀ p ∈ L, accF p.1 = true → NoOn g accG p.2 more)

theorem bytesN_size (l : List Nat) : (bytesN l).size = l.length := by simp [bytesN, ByteArray.size]

theorem bytesN_append (a b : List Nat) : bytesN a ++ bytesN b = bytesN (a ++ b) := by
  apply ByteArray.ext
  simp [bytesN]

set_option maxRecDepth 100000 in
set_option maxHeartbeats 2400000 in
theorem continued_any {w0 w : World} {B : Nat} {tb toff : Nat} {t : List Fmt} {cap i j gs mb : Nat} {fm gm : Fmt} {pv wv : Value} {L : List (Int × Int)} {Ws : List (Nat × Nat)} {more : Bool} (hT : TabA w B (some ⟨tb, toff, none⟩) t) (hB : B ≤ w.heap.size) (hfm : t[i]? = some fm) (hgm : t[j]? = some gm) (hVf : VFmt t fm) (hVg : VFmt t gm)
    (hS : PSrch w0 w (.slice (some ⟨tb, toff, none⟩) t.length cap) i j gs mb pv wv L Ws) (hF : Full (stP t fm.fields gm.fields) (0, 0) L) (hL : L.length ≤ 20000) (hW : Ways (stP t fm.fields gm.fields) L Ws) :
    Calls Try.prog 40 #[.pointer (some ⟨gs, 0, none⟩), .bool more] w fun e w' => ∃ s1 s2 er, e = .returned (.tuple #[.string s1, .string s2, .int .i64 er]) ∧ Ext w w' ∧ ContR (stF t fm.fields) (stF t gm.fields) (rAcc fm.fields) (rAcc gm.fields) L Ws more s1 s2 er := by
  have hLs : ∀ x ∈ L, 0 ≤ x.1 ∧ x.1 ≤ 40000000 ∧ 0 ≤ x.2 ∧ x.2 ≤ 40000000 := fun x hx => by
    obtain ⟨k, rfl, -⟩ := hF
    exact levP_small (by have := hVf.le; omega) (by have := hVg.le; omega) x hx
  have hpos : 0 < L.length := List.length_pos_of_mem hF.start
  obtain ⟨gp, pcap, rfl, hpc, -⟩ := row2_slice hS.pairs hpos
  obtain ⟨z0, z1, z2, z3, z4, z5, z6⟩ := hS.cells
  have hcells : ∀ (k : Nat) (x : Int × Int), L[k]? = some x → w.cell? ⟨gp, k * 2, none⟩ = some (.int .i64 x.1) ∧ w.cell? ⟨gp, k * 2 + 1, none⟩ = some (.int .i64 x.2) := fun k x hk => by
    obtain ⟨g', c', e, -, -, -, hc⟩ := row2_at (f := encP2) (fun _ => rfl) hS.pairs hk
    cases e
    exact ⟨hc 0 _ rfl, hc 1 _ rfl⟩
  have hcA := fun (w' : World) (hE : Ext w w') (s : Int) (hs : s ≤ 9223372036854775807) => acceptsV (cap := cap) s hs (hT.ext hB hE) (by have := hE.size; omega) hfm hVf
  have hcO := fun (w' : World) (hE : Ext w w') (s : Int) (hs : 0 ≤ s ∧ s ≤ 40000000) => on_any (cap := cap) (more := more) hs (hT.ext hB hE) (by have := hE.size; omega) hgm hVg
  have HCA := Lib.hid hcA
  have HCO := Lib.hid hcO
  have HW := Lib.hid hW
  have HS := Lib.hid hS
  have HC := Lib.hid hcells
  have HLS := Lib.hid hLs
  have Z0 := Lib.hid z0
  have Z1 := Lib.hid z1
  have Z2 := Lib.hid z2
  have Z3 := Lib.hid z3
  have HPOS := Lib.hid hpos
  have HL0 : Hid (L[0]? = some (0, 0)) := by obtain ⟨k, rfl, -⟩ := hF; exact lev_start
  obtain ⟨accF, haF⟩ : ∃ f, f = rAcc fm.fields := ⟨_, rfl⟩
  obtain ⟨accG, haG⟩ : ∃ f, f = rAcc gm.fields := ⟨_, rfl⟩
  obtain ⟨fF, hfF⟩ : ∃ f, f = stF t fm.fields := ⟨_, rfl⟩
  obtain ⟨fG, hfG⟩ : ∃ f, f = stF t gm.fields := ⟨_, rfl⟩
  rw [← haF, ← haG, ← hfF, ← hfG]
  have HAF := Lib.hid haF
  have HAG := Lib.hid haG
  have HFG := Lib.hid hfG
  clear hcA hcO hW hS hcells hLs z0 z1 z2 z3 z5 z6 haF haG hfF hfG hT hfm hgm hVf hVg hF hpos
  have hmk : (Instr.makeMap 72 none).run Try.prog w = .ok (.map (some w.heap.size)) (w.alloc (.map #[] 0)) := rfl
  obtain ⟨mt, hmt⟩ : ∃ mt, mt = w.heap.size := ⟨_, rfl⟩
  obtain ⟨w1, hw1⟩ : ∃ w1, w1 = w.alloc (.map #[] 0) := ⟨_, rfl⟩
  have hM0 : MapK encN w1 mt 0 (fun x => inB [] x.1) := by rw [hmt, hw1]; simpa [inB] using MapK.made (enc := encN) w
  have hE1 : Ext w w1 := by rw [hw1]; exact Ext.alloc w _
  rw [← hmt, ← hw1] at hmk
  have HMT := Lib.hid hmt
  have HM0 := Lib.hid hM0
  have HE1 := Lib.hid hE1
  have k4 := cs_ext hE1 z4
  clear hmt hw1 hM0 hE1 z4
  go_enter Try.func40, Try.ntmps40
  go_wp2_with fail
  clear hmk k4
  go_loopw [8, 9, 10, 11, 12, 19] (fun _ _ _ _ _ kv wr => ∃ (k : Nat) (T : List Int) (n : Nat), kv = .int .i64 k ∧ k ≤ L.length ∧ MapK encN wr mt n (fun x => inB T x.1) ∧ (∀ q ∈ T, NoOn fG accG q more) ∧
    (∀ (k' : Nat) (x : Int × Int), k' < k → L[k']? = some x → accF x.1 = true → NoOn fG accG x.2 more) ∧ Ext w wr) (fun _ _ _ _ _ kv _ => L.length - (intOf kv).toNat)
  case atStart => exact ⟨0, [], 0, rfl, by omega, HM0.out, by simp, fun k' x h => by omega, HE1.out⟩
  case round =>
    obtain ⟨k, T, mn, rfl, hk, hM, hTn, hall, hE⟩ := hrel
    have HALL := Lib.hid hall
    have HTN := Lib.hid hTn
    have HM := Lib.hid hM
    clear hall hTn hM
    by_cases hlt : k < L.length
    · obtain ⟨x, hx⟩ : ∃ x, L[k]? = some x := ⟨_, List.getElem?_eq_getElem hlt⟩
      obtain ⟨y0, y1⟩ := HC.out k x hx
      have y0 := cs_ext hE y0
      have y1 := cs_ext hE y1
      obtain ⟨xs1, xs2, xs3, xs4⟩ := HLS.out x (List.mem_of_getElem? hx)
      have HX := Lib.hid hx; clear hx
      obtain ⟨b1, hb1⟩ : ∃ b1, b1 = accF x.1 := ⟨_, rfl⟩
      have hc1 := fun (w' : World) (h : Ext w w') => HCA.out w' h x.1 (by omega)
      rw [← HAF.out, ← hb1] at hc1
      have HB1 := Lib.hid hb1
      have HC1 := Lib.hid hc1
      clear hc1 hb1
      have HE := Lib.hid hE
      go_wp2_with fail
      obtain ⟨wq, hwq⟩ : ∃ wq, wq = wr.alloc (Obj.cells #[Value.int IntKind.i64 x.1, Value.int IntKind.i64 x.2] 53) := ⟨_, rfl⟩
      obtain ⟨xb, hxb⟩ : ∃ xb, xb = wr.heap.size := ⟨_, rfl⟩
      have m0 : wq.cell? ⟨xb, 0, none⟩ = some (.int .i64 x.1) := by rw [hwq, hxb]; exact cs_new rfl
      have m1 : wq.cell? ⟨xb, 1, none⟩ = some (.int .i64 x.2) := by rw [hwq, hxb]; exact cs_new rfl
      have hEq : Ext w wq := by rw [hwq]; exact HE.out.then_al _
      have hMq : MapK encN wq mt mn (fun x => inB T x.1) := by rw [hwq]; exact HM.out.al _
      have hxmt : xb ≠ mt := by have := HM.out.lt; omega
      rw [← hwq, ← hxb]
      have k0 := cs_ext hEq Z0.out
      have k1 := cs_ext hEq Z1.out
      have HEQ := Lib.hid hEq
      have HMQ := Lib.hid hMq
      clear hwq hxb hEq y0 y1 hE hMq
      have SKIP : ∀ (wz : World), MapK encN wz mt mn (fun x => inB T x.1) → Ext w wz → (accF x.1 = true → NoOn fG accG x.2 more) → ∃ (k1 : Nat) (T : List Int) (n : Nat), Value.int .i64 ((k : Int) + 1) = .int .i64 k1 ∧ k1 ≤ L.length ∧ MapK encN wz mt n (fun x => inB T x.1) ∧ (∀ q ∈ T, NoOn fG accG q more) ∧
          (∀ (k' : Nat) (x : Int × Int), k' < k1 → L[k']? = some x → accF x.1 = true → NoOn fG accG x.2 more) ∧ Ext w wz :=
        fun wz h1 h2 h3 => ⟨k + 1, T, mn, by go_num, by omega, h1, HTN.out, fun k' y h hy => by
          rcases Nat.lt_or_ge k' k with h' | h'
          · exact HALL.out k' y h' hy
          · have : k' = k := by omega
            subst this
            rw [HX.out] at hy; cases hy; exact h3, h2⟩
      have HSKIP := Lib.hid SKIP
      clear SKIP
      cases b1
      · refine wp_region_reg 14 false (by kernel_rfl) (by kernel_rfl) ?_
        refine reg_value (fun _ => rfl) ?_ (fun g w' vs hM hE hP => ?_) ?_
        rotate_left
        · (clear hP hM; have zz0 := cs_ext hE k0; have zz1 := cs_ext hE k1; have zz2 := cs_ext hE m0; have zz3 := cs_ext hE m1; go_simp; first | done | rfl)
        refine reg_value (fun _ => rfl) ?_ (fun g w' vs hM hE hP => ?_) ?_
        rotate_left
        · (clear hP hM; have zz0 := cs_ext hE k0; have zz1 := cs_ext hE k1; have zz2 := cs_ext hE m0; have zz3 := cs_ext hE m1; go_simp; first | done | rfl)
        refine reg_value (fun _ => rfl) ?_ (fun g w' vs hM hE hP => ?_) ?_
        rotate_left
        · (clear hP hM; have zz0 := cs_ext hE k0; have zz1 := cs_ext hE k1; have zz2 := cs_ext hE m0; have zz3 := cs_ext hE m1; go_simp; first | done | rfl)
        refine reg_value (fun _ => rfl) ?_ (fun g w' vs hM hE hP => ?_) ?_
        rotate_left
        · (clear hP hM; have zz0 := cs_ext hE k0; have zz1 := cs_ext hE k1; have zz2 := cs_ext hE m0; have zz3 := cs_ext hE m1; go_simp; first | done | rfl)
        refine reg_value (fun _ => rfl) ?_ (fun g w' vs hM hE hP => ?_) ?_
        rotate_left
        · (clear hP hM; have zz0 := cs_ext hE k0; have zz1 := cs_ext hE k1; have zz2 := cs_ext hE m0; have zz3 := cs_ext hE m1; go_simp; first | done | rfl)
        refine reg_value (fun _ => rfl) ?_ (fun g w' vs hM hE hP => ?_) ?_
        rotate_left
        · (clear hP hM; have zz0 := cs_ext hE k0; have zz1 := cs_ext hE k1; have zz2 := cs_ext hE m0; have zz3 := cs_ext hE m1; go_simp; first | done | rfl)
        refine reg_const (fun _ => rfl) 36 ?_ (fun g w' vs hM hE hP => ?_) ?_
        rotate_left
        · (clear hP hM; have zz0 := cs_ext hE k0; have zz1 := cs_ext hE k1; have zz2 := cs_ext hE m0; have zz3 := cs_ext hE m1; go_simp; first | done | exact ⟨rfl, rfl⟩ | rfl)
        apply Exists.intro
        refine And.intro (fun g w' vs hM hE hP => ?_) ?_
        · exact HC1.out _ (HEQ.out.trans hE)
        refine reg_value (fun _ => rfl) ?_ (fun g w' vs hM hE hP => ?_) ?_
        rotate_left
        · (clear hP hM; have zz0 := cs_ext hE k0; have zz1 := cs_ext hE k1; have zz2 := cs_ext hE m0; have zz3 := cs_ext hE m1; go_simp; first | done | rfl)
        refine reg_value (fun _ => rfl) ?_ (fun g w' vs hM hE hP => ?_) ?_
        rotate_left
        · (clear hP hM; have zz0 := cs_ext hE k0; have zz1 := cs_ext hE k1; have zz2 := cs_ext hE m0; have zz3 := cs_ext hE m1; go_simp; first | done | rfl)
        refine reg_skip (fun g => by go_simp; first | done | (intro h; cases h) | simp [undef]) ?_
        refine reg_skip (fun g => by go_simp; first | done | (intro h; cases h) | simp [undef]) ?_
        refine reg_skip (fun g => by go_simp; first | done | (intro h; cases h) | simp [undef]) ?_
        refine reg_skip (fun g => by go_simp; first | done | (intro h; cases h) | simp [undef]) ?_
        refine reg_value (fun _ => rfl) ?_ (fun g w' vs hM hE hP => ?_) ?_
        rotate_left
        · (clear hP hM; have zz0 := cs_ext hE k0; have zz1 := cs_ext hE k1; have zz2 := cs_ext hE m0; have zz3 := cs_ext hE m1; go_simp; first | done | rfl)
        intro g wz hE2 hF hQ
        simp only [List.drop_succ_cons, List.drop_zero, Act.put, List.setIfInBounds_toArray, List.set_cons_succ, List.set_cons_zero]
        clear hF hQ k0 k1 m0 m1
        have HR := Lib.hid (HSKIP.out wz (HMQ.out.ext hE2) (HEQ.out.trans hE2) (fun h => by rw [← HB1.out] at h; cases h))
        clear hE2
        go_wp2_with fail
        go_roundw
        case rel => exact HR.out
        case measure => simp [intOf]; omega
      · obtain ⟨kn, hkn⟩ : ∃ kn, kn = decide (x.2 ∈ T) := ⟨_, rfl⟩
        have hlk := fun (w' : World) (h : Ext wq w') => (HMQ.out.ext h).look law3 key3 Try.underlying72 (zero4 w') ⟨x.2, by unfold I64; omega⟩ false
        simp only [inB_val, encN] at hlk
        rw [← hkn] at hlk
        have HLK := Lib.hid hlk
        have HKN := Lib.hid hkn
        clear hlk hkn
        refine wp_region_reg 14 false (by kernel_rfl) (by kernel_rfl) ?_
        refine reg_value (fun _ => rfl) ?_ (fun g w' vs hM hE hP => ?_) ?_
        rotate_left
        · (clear hP hM; have zz0 := cs_ext hE k0; have zz1 := cs_ext hE k1; have zz2 := cs_ext hE m0; have zz3 := cs_ext hE m1; go_simp; first | done | rfl)
        refine reg_value (fun _ => rfl) ?_ (fun g w' vs hM hE hP => ?_) ?_
        rotate_left
        · (clear hP hM; have zz0 := cs_ext hE k0; have zz1 := cs_ext hE k1; have zz2 := cs_ext hE m0; have zz3 := cs_ext hE m1; go_simp; first | done | rfl)
        refine reg_value (fun _ => rfl) ?_ (fun g w' vs hM hE hP => ?_) ?_
        rotate_left
        · (clear hP hM; have zz0 := cs_ext hE k0; have zz1 := cs_ext hE k1; have zz2 := cs_ext hE m0; have zz3 := cs_ext hE m1; go_simp; first | done | rfl)
        refine reg_value (fun _ => rfl) ?_ (fun g w' vs hM hE hP => ?_) ?_
        rotate_left
        · (clear hP hM; have zz0 := cs_ext hE k0; have zz1 := cs_ext hE k1; have zz2 := cs_ext hE m0; have zz3 := cs_ext hE m1; go_simp; first | done | rfl)
        refine reg_value (fun _ => rfl) ?_ (fun g w' vs hM hE hP => ?_) ?_
        rotate_left
        · (clear hP hM; have zz0 := cs_ext hE k0; have zz1 := cs_ext hE k1; have zz2 := cs_ext hE m0; have zz3 := cs_ext hE m1; go_simp; first | done | rfl)
        refine reg_value (fun _ => rfl) ?_ (fun g w' vs hM hE hP => ?_) ?_
        rotate_left
        · (clear hP hM; have zz0 := cs_ext hE k0; have zz1 := cs_ext hE k1; have zz2 := cs_ext hE m0; have zz3 := cs_ext hE m1; go_simp; first | done | rfl)
        refine reg_const (fun _ => rfl) 36 ?_ (fun g w' vs hM hE hP => ?_) ?_
        rotate_left
        · (clear hP hM; have zz0 := cs_ext hE k0; have zz1 := cs_ext hE k1; have zz2 := cs_ext hE m0; have zz3 := cs_ext hE m1; go_simp; first | done | exact ⟨rfl, rfl⟩ | rfl)
        apply Exists.intro
        refine And.intro (fun g w' vs hM hE hP => ?_) ?_
        · exact HC1.out _ (HEQ.out.trans hE)
        refine reg_value (fun _ => rfl) ?_ (fun g w' vs hM hE hP => ?_) ?_
        rotate_left
        · (clear hP hM; have zz0 := cs_ext hE k0; have zz1 := cs_ext hE k1; have zz2 := cs_ext hE m0; have zz3 := cs_ext hE m1; go_simp; first | done | rfl)
        refine reg_value (fun _ => rfl) ?_ (fun g w' vs hM hE hP => ?_) ?_
        rotate_left
        · (clear hP hM; have zz0 := cs_ext hE k0; have zz1 := cs_ext hE k1; have zz2 := cs_ext hE m0; have zz3 := cs_ext hE m1; go_simp; first | done | rfl)
        refine reg_value (fun g => by go_simp) ?_ (fun g w' vs hM hE hP => ?_) ?_
        rotate_left
        · (clear hP hM; have zz0 := cs_ext hE k0; have zz1 := cs_ext hE k1; have zz2 := cs_ext hE m0; have zz3 := cs_ext hE m1; go_simp; first | done | rfl)
        refine reg_value (fun g => by go_simp) ?_ (fun g w' vs hM hE hP => ?_) ?_
        rotate_left
        · (clear hP hM; have zz0 := cs_ext hE k0; have zz1 := cs_ext hE k1; have zz2 := cs_ext hE m0; have zz3 := cs_ext hE m1; go_simp; first | done | rfl)
        refine reg_value (fun g => by go_simp) ?_ (fun g w' vs hM hE hP => ?_) ?_
        rotate_left
        · (clear hP hM; have zz0 := cs_ext hE k0; have zz1 := cs_ext hE k1; have zz2 := cs_ext hE m0; have zz3 := cs_ext hE m1; go_simp; first | done | rfl)
        refine reg_value (fun g => by go_simp) (fun _ => .bool kn) (fun g w' m hM hE hP => ?_) ?_
        · have hl := HLK.out w' hE
          clear hM hP
          go_simp
        refine reg_value (fun _ => rfl) ?_ (fun g w' vs hM hE hP => ?_) ?_
        rotate_left
        · (clear hP hM; have zz0 := cs_ext hE k0; have zz1 := cs_ext hE k1; have zz2 := cs_ext hE m0; have zz3 := cs_ext hE m1; go_simp; first | done | rfl)
        intro g wz hE2 hF hQ
        simp only [List.drop_succ_cons, List.drop_zero, Act.put, List.setIfInBounds_toArray, List.set_cons_succ, List.set_cons_zero]
        clear hF hQ k0 k1
        have m1 := cs_ext hE2 m1
        have hMz := HMQ.out.ext hE2
        have HEZ := Lib.hid (HEQ.out.trans hE2)
        clear hE2 m0
        cases kn
        · obtain ⟨ob, hup, hFm⟩ := hMz.update law3 key3 encN_inj Try.underlying72 ⟨x.2, by unfold I64; omega⟩ (.bool true)
          have hM2 := hFm (fun y => inB (T ++ [x.2]) y.1) inB_new (fun y hy => inB_other (fun e => hy (Subtype.ext e)))
          simp only [encN] at hup
          obtain ⟨w2, hw2⟩ : ∃ w2, w2 = ChangeMaps.setBlock wz mt ob := ⟨_, rfl⟩
          rw [← hw2] at hup hM2
          have hE2 : Ext w w2 := by rw [hw2]; exact HEZ.out.turned (by rw [HMT.out]; exact Nat.le_refl _)
          have m2 : w2.cell? ⟨xb, 1, none⟩ = some (.int .i64 x.2) := by rw [hw2]; rw [World.cell?_of_block (a := ⟨xb, 1, none⟩) (turned_block hxmt)]; exact m1
          have HM2 := Lib.hid hM2
          have HE2 := Lib.hid hE2
          clear hw2 hM2 hE2 hMz hFm
          go_wp2_with fail
          clear hup m1
          have k2 := cs_ext HE2.out Z2.out
          have k3 := cs_ext HE2.out Z3.out
          refine wp_region_reg 13 false (by kernel_rfl) (by kernel_rfl) ?_
          refine reg_value (fun _ => rfl) ?_ (fun g w' vs hM hE hP => ?_) ?_
          rotate_left
          · (clear hP hM; have zz0 := cs_ext hE k2; have zz1 := cs_ext hE k3; have zz2 := cs_ext hE m2; go_simp; first | done | rfl)
          refine reg_value (fun _ => rfl) ?_ (fun g w' vs hM hE hP => ?_) ?_
          rotate_left
          · (clear hP hM; have zz0 := cs_ext hE k2; have zz1 := cs_ext hE k3; have zz2 := cs_ext hE m2; go_simp; first | done | rfl)
          refine reg_value (fun _ => rfl) ?_ (fun g w' vs hM hE hP => ?_) ?_
          rotate_left
          · (clear hP hM; have zz0 := cs_ext hE k2; have zz1 := cs_ext hE k3; have zz2 := cs_ext hE m2; go_simp; first | done | rfl)
          refine reg_value (fun _ => rfl) ?_ (fun g w' vs hM hE hP => ?_) ?_
          rotate_left
          · (clear hP hM; have zz0 := cs_ext hE k2; have zz1 := cs_ext hE k3; have zz2 := cs_ext hE m2; go_simp; first | done | rfl)
          refine reg_value (fun _ => rfl) ?_ (fun g w' vs hM hE hP => ?_) ?_
          rotate_left
          · (clear hP hM; have zz0 := cs_ext hE k2; have zz1 := cs_ext hE k3; have zz2 := cs_ext hE m2; go_simp; first | done | rfl)
          refine reg_value (fun _ => rfl) ?_ (fun g w' vs hM hE hP => ?_) ?_
          rotate_left
          · (clear hP hM; have zz0 := cs_ext hE k2; have zz1 := cs_ext hE k3; have zz2 := cs_ext hE m2; go_simp; first | done | rfl)
          refine reg_value (fun _ => rfl) ?_ (fun g w' vs hM hE hP => ?_) ?_
          rotate_left
          · (clear hP hM; have zz0 := cs_ext hE k2; have zz1 := cs_ext hE k3; have zz2 := cs_ext hE m2; go_simp; first | done | rfl)
          refine reg_call (fun _ => rfl) 65 ?_ (fun g w' m hM hE hP => ?_) (fun u _ => ∃ s ok, u = .tuple #[.string s, .bool ok] ∧ OnR fG accG x.2 more s ok) ⟨fun u a b h _ => h, (fun h => nomatch h), (fun h => absurd rfl h)⟩ (fun g w' m hM hE hP => ?_) ?_
          rotate_left
          · (clear hP hM; have zz0 := cs_ext hE k2; have zz1 := cs_ext hE k3; have zz2 := cs_ext hE m2; go_simp; first | done | exact ⟨rfl, rfl⟩ | rfl)
          · refine (HCO.out w' (HE2.out.trans hE) x.2 ⟨xs3, xs4⟩).mono ?_
            rintro e w'' ⟨s, ok, rfl, h1, h2⟩
            exact ⟨_, rfl, h1, s, ok, rfl, by rw [HFG.out, HAG.out]; exact h2⟩
          refine reg_value (fun _ => rfl) ?_ (fun g w' vs hM hE hP => ?_) ?_
          rotate_left
          · (clear hP hM; have zz0 := cs_ext hE k2; have zz1 := cs_ext hE k3; have zz2 := cs_ext hE m2; go_simp; first | done | rfl)
          refine reg_value (fun _ => rfl) (fun g => tget (g 7).v 0) (fun g w' m hM hE hP => ?_) ?_
          · obtain ⟨s, ok, hv, -⟩ := hP _ List.mem_cons_self (anc_of 3 (by kernel_rfl))
            simp only at hv
            clear hM hP
            rw [hv]
            go_simp
            rfl
          refine reg_value (fun _ => rfl) (fun g => tget (g 7).v 1) (fun g w' m hM hE hP => ?_) ?_
          · obtain ⟨s, ok, hv, -⟩ := hP _ List.mem_cons_self (anc_of 3 (by kernel_rfl))
            simp only at hv
            clear hM hP
            rw [hv]
            go_simp
            rfl
          refine reg_value (fun _ => rfl) ?_ (fun g w' vs hM hE hP => ?_) ?_
          rotate_left
          · (clear hP hM; have zz0 := cs_ext hE k2; have zz1 := cs_ext hE k3; have zz2 := cs_ext hE m2; go_simp; first | done | rfl)
          refine reg_value (fun _ => rfl) ?_ (fun g w' vs hM hE hP => ?_) ?_
          rotate_left
          · (clear hP hM; have zz0 := cs_ext hE k2; have zz1 := cs_ext hE k3; have zz2 := cs_ext hE m2; go_simp; first | done | rfl)
          intro g wy hE3 hF hQ
          simp only [List.drop_succ_cons, List.drop_zero, Act.put, List.setIfInBounds_toArray, List.set_cons_succ, List.set_cons_zero]
          clear hF k2 k3
          obtain ⟨sr, ok, hv, hOn⟩ := hQ _ List.mem_cons_self
          simp only at hv
          simp only [hv, tget]
          have HE3 := Lib.hid hE3
          have HON := Lib.hid hOn
          clear hQ hE3 hOn hv m2
          cases ok
          · have HR : Hid (∃ (k1 : Nat) (T : List Int) (n : Nat), Value.int .i64 ((k : Int) + 1) = .int .i64 k1 ∧ k1 ≤ L.length ∧ MapK encN wy mt n (fun x => inB T x.1) ∧ (∀ q ∈ T, NoOn fG accG q more) ∧
                (∀ (k' : Nat) (x : Int × Int), k' < k1 → L[k']? = some x → accF x.1 = true → NoOn fG accG x.2 more) ∧ Ext w wy) := by
              have hno : NoOn fG accG x.2 more := by
                rcases HON.out with ⟨h, -⟩ | ⟨-, -, h⟩
                · cases h
                · exact h
              exact ⟨k + 1, T ++ [x.2], mn + 1, by go_num, by omega, HM2.out.ext HE3.out, fun q hq => by
                rcases List.mem_append.1 hq with h | h
                · exact HTN.out q h
                · simp at h; subst h; exact hno, fun k' y h hy => by
                rcases Nat.lt_or_ge k' k with h' | h'
                · exact HALL.out k' y h' hy
                · have : k' = k := by omega
                  subst this
                  rw [HX.out] at hy; cases hy; exact fun _ => hno, HE2.out.trans HE3.out⟩
            go_wp2_with fail
            go_roundw
            case rel => exact HR.out
            case measure => simp [intOf]; omega
          · have HE4 := Lib.hid (HE2.out.trans HE3.out)
            have hcon3 := text_any (k := k) (hs_ext HE4.out HS.out.st) (ownsRow_ext HS.out.ways HE4.out) HW.out.ok (by rw [HW.out.1]; omega) (by omega)
            have HC3 := Lib.hid hcon3
            clear hcon3
            have hcat : (bytesN (pathR Ws Ws.length k).reverse).size + sr.size ≤ 9223372036854775807 := by
              obtain ⟨-, -, r3⟩ := HW.out.path (s := (0, 0)) HL0.out Ws.length k x (by rw [HW.out.1]; omega) HX.out
              rw [bytesN_size, List.length_reverse]
              rcases HON.out with ⟨-, l, rfl, hl1, hl2, hl3, -⟩ | ⟨h, -⟩
              · rw [bytesN_size]; omega
              · cases h
            go_wp2_with fail
            refine HC3.out.mono ?_
            rintro e w4 ⟨rfl, hE5⟩
            have HE5 := Lib.hid (HE4.out.trans hE5)
            clear hE5
            go_wp2_with fail
            go_ret3
            rcases HON.out with ⟨-, l, rfl, hl1, hl2, hl5, y, hy1, hy2⟩ | ⟨h, -⟩
            · exact ⟨_, _, _, rfl, HE5.out, .inl ⟨rfl, k, x, l, HX.out, HB1.out.symm, rfl, bytesN_append _ _, hl2, hl1, hl5, y, hy1, hy2⟩⟩
            · cases h
        · have HR := Lib.hid (HSKIP.out wz hMz HEZ.out (fun h => HTN.out x.2 (of_decide_eq_true HKN.out.symm)))
          clear hMz m1
          go_wp2_with fail
          go_roundw
          case rel => exact HR.out
          case measure => simp [intOf]; omega
    · have HKL : Hid (L.length ≤ k) := Lib.hid (by omega)
      have HE := Lib.hid hE
      clear hE
      go_wp2_with fail
      go_ret3
      exact ⟨_, _, _, rfl, HE.out, .inr ⟨rfl, rfl, rfl, fun p hp => by
        obtain ⟨k', hk'⟩ := List.mem_iff_getElem?.1 hp
        exact HALL.out k' p (by have := (List.getElem?_eq_some_iff.1 hk').1; have := HKL.out; omega) hk'⟩⟩

end Go.Proofs.Ythoelnoahfedmaa

namespace Go.Proofs.Ythoelnoahfedmaa
open Go Go.RowKit
set_option linter.unusedVariables false
set_option linter.unusedSimpArgs false

/-- what PrefixFree and Begins answer -/
def BegR (t : List Fmt) (i j : Int) (more : Bool) (s1 s2 : ByteArray) (er : Int) : Prop :=
  (errS t [i, j] ≠ 0 ∧ s1 = ByteArray.empty ∧ s2 = ByteArray.empty ∧ er = errS t [i, j]) ∨ (errS t [i, j] = 0 ∧ ∃ (i' j' : Nat) (fm gm : Fmt), i = i' ∧ j = j' ∧ t[i']? = some fm ∧ t[j']? = some gm ∧ VFmt t fm ∧ VFmt t gm ∧
    ((Over (stP t fm.fields gm.fields) (0, 0) ∧ s1 = ByteArray.empty ∧ s2 = ByteArray.empty ∧ er = 3) ∨ ∃ L Ws, Full (stP t fm.fields gm.fields) (0, 0) L ∧ L.length ≤ 20000 ∧ Ways (stP t fm.fields gm.fields) L Ws ∧
      ContR (stF t fm.fields) (stF t gm.fields) (rAcc fm.fields) (rAcc gm.fields) L Ws more s1 s2 er))



set_option maxRecDepth 100000 in
set_option maxHeartbeats 1000000 in
theorem PrefixFree_any {w : World} {B : Nat} {a : Option Addr} {t : List Fmt} {cap : Nat} {i : Int} (hT : TabA w B a t) (hB : B ≤ w.heap.size) (hcap : t.length ≤ cap) (hcap2 : cap ≤ 9223372036854775807) :
    Calls Try.prog 18 #[.slice a t.length cap, .int .i64 i] w fun e w' => ∃ s1 s2 er, e = .returned (.tuple #[.string s1, .string s2, .int .i64 er]) ∧ Ext w w' ∧ BegR t i i true s1 s2 er := by
  have hcon := product_any (i := i) (j := i) hT hB hcap hcap2
  go_enter Try.func18, Try.ntmps18
  go_wp2_with fail
  refine hcon.mono ?_
  rintro e w1 ⟨p, er, rfl, hb1, hP⟩
  have HB := Lib.hid hb1
  rcases hP with ⟨he, rfl, her⟩ | ⟨he, i', j', fm, gm, hi, hj, hfm, hgm, hVf, hVg, hR⟩
  · have e1 : (er == 0) = false := beq_eq_false_iff_ne.2 (by rw [her]; exact he)
    have HE := Lib.hid he
    have HER := Lib.hid her
    clear he her
    go_wp2_with fail
    go_ret3
    exact ⟨_, _, _, rfl, HB.out, .inl ⟨HE.out, rfl, rfl, HER.out⟩⟩
  · have HHE := Lib.hid he
    have HHI := Lib.hid hi
    have HHJ := Lib.hid hj
    have HFM := Lib.hid hfm
    have HGM := Lib.hid hgm
    rcases hR with ⟨hO, rfl, rfl⟩ | ⟨gs, mb, pv, wv, L, Ws, hF, hL, hW, rfl, rfl, hS⟩
    · have HO := Lib.hid hO
      clear he hi hj hfm hgm hO
      go_wp2_with fail
      go_ret3
      exact ⟨_, _, _, rfl, HB.out, .inr ⟨HHE.out, i', j', fm, gm, HHI.out, HHJ.out, HFM.out, HGM.out, hVf, hVg, .inl ⟨HO.out, rfl, rfl, rfl⟩⟩⟩
    · obtain ⟨tb, toff, rfl, -⟩ := hT.2 (ne_nil_of_get hfm)
      have hcon2 := continued_any (cap := cap) (more := true) (hT.ext hB hb1) (by have := hb1.size; omega) hfm hgm hVf hVg hS hF hL hW
      have HC := Lib.hid hcon2
      have HF := Lib.hid hF
      have HL := Lib.hid hL
      have HW := Lib.hid hW
      clear he hi hj hfm hgm hF hL hW hS hcon2 hb1 hcon
      go_wp2_with fail
      refine HC.out.mono ?_
      rintro e w2 ⟨s1, s2, er, rfl, hb2, hR⟩
      have HR := Lib.hid hR
      have HB2 := Lib.hid hb2
      clear hR hb2
      go_wp2_with fail
      go_ret3
      exact ⟨_, _, _, rfl, HB.out.trans HB2.out, .inr ⟨HHE.out, i', j', fm, gm, HHI.out, HHJ.out, HFM.out, HGM.out, hVf, hVg, .inr ⟨L, Ws, HF.out, HL.out, HW.out, HR.out⟩⟩⟩

set_option maxRecDepth 100000 in
set_option maxHeartbeats 1000000 in
theorem Begins_any {w : World} {B : Nat} {a : Option Addr} {t : List Fmt} {cap : Nat} {i j : Int} (hT : TabA w B a t) (hB : B ≤ w.heap.size) (hcap : t.length ≤ cap) (hcap2 : cap ≤ 9223372036854775807) :
    Calls Try.prog 21 #[.slice a t.length cap, .int .i64 i, .int .i64 j] w fun e w' => ∃ s1 s2 er, e = .returned (.tuple #[.string s1, .string s2, .int .i64 er]) ∧ Ext w w' ∧ BegR t i j false s1 s2 er := by
  have hcon := product_any (i := i) (j := j) hT hB hcap hcap2
  go_enter Try.func21, Try.ntmps21
  go_wp2_with fail
  refine hcon.mono ?_
  rintro e w1 ⟨p, er, rfl, hb1, hP⟩
  have HB := Lib.hid hb1
  rcases hP with ⟨he, rfl, her⟩ | ⟨he, i', j', fm, gm, hi, hj, hfm, hgm, hVf, hVg, hR⟩
  · have e1 : (er == 0) = false := beq_eq_false_iff_ne.2 (by rw [her]; exact he)
    have HE := Lib.hid he
    have HER := Lib.hid her
    clear he her
    go_wp2_with fail
    go_ret3
    exact ⟨_, _, _, rfl, HB.out, .inl ⟨HE.out, rfl, rfl, HER.out⟩⟩
  · have HHE := Lib.hid he
    have HHI := Lib.hid hi
    have HHJ := Lib.hid hj
    have HFM := Lib.hid hfm
    have HGM := Lib.hid hgm
    rcases hR with ⟨hO, rfl, rfl⟩ | ⟨gs, mb, pv, wv, L, Ws, hF, hL, hW, rfl, rfl, hS⟩
    · have HO := Lib.hid hO
      clear he hi hj hfm hgm hO
      go_wp2_with fail
      go_ret3
      exact ⟨_, _, _, rfl, HB.out, .inr ⟨HHE.out, i', j', fm, gm, HHI.out, HHJ.out, HFM.out, HGM.out, hVf, hVg, .inl ⟨HO.out, rfl, rfl, rfl⟩⟩⟩
    · obtain ⟨tb, toff, rfl, -⟩ := hT.2 (ne_nil_of_get hfm)
      have hcon2 := continued_any (cap := cap) (more := false) (hT.ext hB hb1) (by have := hb1.size; omega) hfm hgm hVf hVg hS hF hL hW
      have HC := Lib.hid hcon2
      have HF := Lib.hid hF
      have HL := Lib.hid hL
      have HW := Lib.hid hW
      clear he hi hj hfm hgm hF hL hW hS hcon2 hb1 hcon
      go_wp2_with fail
      refine HC.out.mono ?_
      rintro e w2 ⟨s1, s2, er, rfl, hb2, hR⟩
      have HR := Lib.hid hR
      have HB2 := Lib.hid hb2
      clear hR hb2
      go_wp2_with fail
      go_ret3
      exact ⟨_, _, _, rfl, HB.out.trans HB2.out, .inr ⟨HHE.out, i', j', fm, gm, HHI.out, HHJ.out, HFM.out, HGM.out, hVf, hVg, .inr ⟨L, Ws, HF.out, HL.out, HW.out, HR.out⟩⟩⟩

/-- few formats and fields -/
def fewS (t : List Fmt) : Bool := decide (t.length ≤ 12) && t.all fun f => decide (f.name.size ≤ 100) && decide (f.fields.length ≤ 12) && f.fields.all fun x => decide (x.bytes.size ≤ 40)

def bytes1 (b : UInt8) : ByteArray := ⟨#[b]⟩
/-- the table of the examples -/
def tabS (low : Int) : List Fmt := [⟨bytes1 97, [⟨1, bytes1 1, 0, 0, 0⟩, ⟨3, ByteArray.empty, 1, 0, 0⟩]⟩, ⟨bytes1 98, [⟨4, ByteArray.empty, 0, low, low + 1⟩, ⟨6, ByteArray.empty, 0, 0, 9⟩]⟩]

theorem two_get {α : Type} {x y z : α} {i : Nat} (h : [x, y][i]? = some z) : i = 0 ∧ z = x ∨ i = 1 ∧ z = y := by
  match i, h with
  | 0, h => exact .inl ⟨rfl, by simpa using h.symm⟩
  | 1, h => exact .inr ⟨rfl, by simpa using h.symm⟩
  | i + 2, h => simp at h
theorem three_blocks (w : World) (o1 o2 o3 : Obj) : (((w.alloc o1).alloc o2).alloc o3).heap[w.heap.size]? = some o1 ∧ (((w.alloc o1).alloc o2).alloc o3).heap[w.heap.size + 1]? = some o2 ∧ (((w.alloc o1).alloc o2).alloc o3).heap[w.heap.size + 2]? = some o3 ∧ (((w.alloc o1).alloc o2).alloc o3).heap.size = w.heap.size + 3 := by
  refine ⟨hs_al (hs_al hs_new), hs_al ?_, ?_, by simp⟩
  · have h := hs_new (w := w.alloc o1) (o := o2); rwa [World.size_alloc] at h
  · have h := hs_new (w := (w.alloc o1).alloc o2) (o := o3); rwa [World.size_alloc, World.size_alloc] at h

theorem tab_at {W : World} {b1 b2 b3 : Nat} {low : Int} (h0 : 0 ≤ low) (h1 : low ≤ 10) (h2 : W.heap[b1]? = some (.cells #[.int .i64 1, .string (bytes1 1), .int .i64 0, .int .i64 0, .int .i64 0, .int .i64 3, .string ByteArray.empty, .int .i64 1, .int .i64 0, .int .i64 0] 39))
    (h3 : W.heap[b2]? = some (.cells #[.int .i64 4, .string ByteArray.empty, .int .i64 0, .int .i64 low, .int .i64 (low + 1), .int .i64 6, .string ByteArray.empty, .int .i64 0, .int .i64 0, .int .i64 9] 39))
    (h4 : W.heap[b3]? = some (.cells #[.string (bytes1 97), .slice (some ⟨b1, 0, none⟩) 2 2, .string (bytes1 98), .slice (some ⟨b2, 0, none⟩) 2 2] 42)) : TabA W W.heap.size (some ⟨b3, 0, none⟩) (tabS low) := by
  have l1 := (Array.getElem?_eq_some_iff.1 h2).1
  have l2 := (Array.getElem?_eq_some_iff.1 h3).1
  have l3 := (Array.getElem?_eq_some_iff.1 h4).1
  refine ⟨by simp [tabS, maxLen], fun _ => ⟨b3, 0, rfl, l3, fun i f hf => ?_⟩⟩
  rcases two_get hf with ⟨rfl, rfl⟩ | ⟨rfl, rfl⟩
  · refine ⟨by rw [cellc h4]; rfl, ⟨some ⟨b1, 0, none⟩, 2, by rw [cellc h4]; rfl, by simp [maxLen], fun _ => ⟨b1, 0, rfl, l1, fun k x hx => ?_⟩⟩, by simp [maxLen, bytes1, ByteArray.size]⟩
    rcases two_get hx with ⟨rfl, rfl⟩ | ⟨rfl, rfl⟩
    all_goals exact ⟨by rw [cellc h2]; rfl, by rw [cellc h2]; rfl, by rw [cellc h2]; rfl, by rw [cellc h2]; rfl, by rw [cellc h2]; rfl, ⟨by simp [I64], by simp [I64], by simp [I64], by simp [I64], by simp [maxLen, bytes1, ByteArray.size]⟩⟩
  · refine ⟨by rw [cellc h4]; rfl, ⟨some ⟨b2, 0, none⟩, 2, by rw [cellc h4]; rfl, by simp [maxLen], fun _ => ⟨b2, 0, rfl, l2, fun k x hx => ?_⟩⟩, by simp [maxLen, bytes1, ByteArray.size]⟩
    rcases two_get hx with ⟨rfl, rfl⟩ | ⟨rfl, rfl⟩
    all_goals exact ⟨by rw [cellc h3]; rfl, by rw [cellc h3]; rfl, by rw [cellc h3]; rfl, by rw [cellc h3]; rfl, by rw [cellc h3]; rfl, ⟨by simp [I64], by simp [I64], by simp [I64]; try omega, by simp [I64]; try omega, by simp [maxLen, bytes1, ByteArray.size]⟩⟩

set_option maxRecDepth 100000 in
set_option maxHeartbeats 1000000 in
theorem table_any {w : World} {low : Int} (h0 : 0 ≤ low) (h1 : low ≤ 10) :
    Calls Try.prog 33 #[.int .i64 low] w fun e w' => ∃ a, e = .returned (.slice a 2 2) ∧ Ext w w' ∧ TabA w' w'.heap.size a (tabS low) := by
  go_enter Try.func33, Try.ntmps33
  go_wp2_with fail
  go_ret
  refine ⟨_, rfl, (by repeat (first | exact Ext.refl _ | exact Ext.alloc _ _ | apply Ext.then_dr | apply Ext.then_drN | apply Ext.then_drN2 | (refine Ext.then_al ?_ _))), ?_⟩
  obtain ⟨q1, q2, q3, q4⟩ := three_blocks w _ _ _
  exact tab_at h0 h1 q1 q2 q3

set_option maxRecDepth 100000 in
set_option maxHeartbeats 1000000 in
theorem Few_any {w : World} {B : Nat} {a : Option Addr} {t : List Fmt} {cap : Nat} (hT : TabA w B a t) (hB : B ≤ w.heap.size) :
    Calls Try.prog 12 #[.slice a t.length cap] w fun e w' => e = .returned (.bool (fewS t)) ∧ Ext w w' := by
  have hn63 := hT.1
  unfold maxLen at hn63
  by_cases hbig : 12 < t.length
  · have HR : Hid (fewS t = false) := Lib.hid (by simp [fewS]; omega)
    have e1 : decide (12 < t.length) = true := decide_eq_true hbig
    go_enter Try.func12, Try.ntmps12
    go_wp2_with fail
    go_ret
    exact ⟨rb HR.out.symm, (by repeat (first | exact Ext.refl _ | exact Ext.alloc _ _ | apply Ext.then_dr | apply Ext.then_drN | apply Ext.then_drN2 | (refine Ext.then_al ?_ _)))⟩
  · have e1 : decide (12 < t.length) = false := decide_eq_false hbig
    obtain ⟨fw, hfw⟩ : ∃ fw : Fmt → Bool, fw = fun f => decide (f.name.size ≤ 100) && decide (f.fields.length ≤ 12) && f.fields.all fun x => decide (x.bytes.size ≤ 40) := ⟨_, rfl⟩
    have HTT : Hid (t.all fw = true → fewS t = true) := Lib.hid (fun h => by rw [fewS, ← hfw, h]; simp; omega)
    have HT0 : Hid (∀ (k : Nat) (f : Fmt), t[k]? = some f → fw f = false → fewS t = false) := Lib.hid (fun k f hk h => by
      have : t.all fw = false := by rw [List.all_eq_false]; exact ⟨f, List.mem_of_getElem? hk, by simp [h]⟩
      rw [fewS, ← hfw, this]; simp)
    have HFW : Hid (∀ f, fw f = (decide (f.name.size ≤ 100) && decide (f.fields.length ≤ 12) && f.fields.all fun x => decide (x.bytes.size ≤ 40))) := Lib.hid (fun f => by rw [hfw])
    clear hfw
    go_enter Try.func12, Try.ntmps12
    go_wp2_with fail
    go_loop [3, 4] (fun i _ => ∃ k : Nat, i = .int .i64 k ∧ k ≤ t.length ∧ ∀ (k' : Nat) (f : Fmt), k' < k → t[k']? = some f → fw f = true) (fun i _ => t.length - (intOf i).toNat)
    case atStart => exact ⟨0, rfl, by omega, fun k' f h => by omega⟩
    case round =>
      obtain ⟨k, rfl, hk, hall⟩ := hrel
      have HALL := Lib.hid hall; clear hall
      by_cases hlt : k < t.length
      · obtain ⟨f, hf⟩ : ∃ f, t[k]? = some f := ⟨_, List.getElem?_eq_getElem hlt⟩
        have hT' := hT
        obtain ⟨-, hT'⟩ := hT'
        obtain ⟨tb, toff, rfl, htb, hT'⟩ := hT' (ne_nil_of_get hf)
        obtain ⟨c0, ⟨fa, fcap, c1, hF⟩, hnm⟩ := hT' k f hf
        have hF1 := hF.1
        unfold maxLen at hnm hF1
        have HF := Lib.hid hf
        have HFA := Lib.hid hF
        clear hf hT' hF
        by_cases h1 : 100 < f.name.size
        · have e2 : decide (100 < f.name.size) = true := decide_eq_true h1
          have HR : Hid (fewS t = false) := Lib.hid (HT0.out k f HF.out (by rw [HFW.out]; simp; omega))
          go_wp2_with fail
          go_ret
          exact ⟨rb HR.out.symm, (by repeat (first | exact Ext.refl _ | exact Ext.alloc _ _ | apply Ext.then_dr | apply Ext.then_drN | apply Ext.then_drN2 | (refine Ext.then_al ?_ _)))⟩
        have e2 : decide (100 < f.name.size) = false := decide_eq_false h1
        by_cases h2 : 12 < f.fields.length
        · have e3 : decide (12 < f.fields.length) = true := decide_eq_true h2
          have HR : Hid (fewS t = false) := Lib.hid (HT0.out k f HF.out (by rw [HFW.out]; simp; omega))
          go_wp2_with fail
          go_ret
          exact ⟨rb HR.out.symm, (by repeat (first | exact Ext.refl _ | exact Ext.alloc _ _ | apply Ext.then_dr | apply Ext.then_drN | apply Ext.then_drN2 | (refine Ext.then_al ?_ _)))⟩
        have e3 : decide (12 < f.fields.length) = false := decide_eq_false h2
        go_wp2_with fail
        go_loop [4] (fun j => ∃ m : Nat, j = .int .i64 m ∧ m ≤ f.fields.length ∧ ∀ (m' : Nat) (x : Fld), m' < m → f.fields[m']? = some x → x.bytes.size ≤ 40) (fun j => f.fields.length - (intOf j).toNat)
        case atStart => exact ⟨0, rfl, by omega, fun k' f h => by omega⟩
        case round =>
          obtain ⟨m, rfl, hm, hall2⟩ := hrel
          have HALL2 := Lib.hid hall2; clear hall2
          by_cases hlt2 : m < f.fields.length
          · obtain ⟨x, hx⟩ : ∃ x, f.fields[m]? = some x := ⟨_, List.getElem?_eq_getElem hlt2⟩
            obtain ⟨fb, foff, rfl, hfb, hc⟩ := HFA.out.get hx
            have c2 := hc.bytes
            have hxm := hc.wf.bytes
            unfold maxLen at hxm
            have HX := Lib.hid hx
            clear hx hc
            by_cases h3 : 40 < x.bytes.size
            · have e4 : decide (40 < x.bytes.size) = true := decide_eq_true h3
              have HR : Hid (fewS t = false) := Lib.hid (HT0.out k f HF.out (by
                rw [HFW.out]
                have : (f.fields.all fun x => decide (x.bytes.size ≤ 40)) = false := by rw [List.all_eq_false]; exact ⟨x, List.mem_of_getElem? HX.out, by simp; omega⟩
                rw [this]; simp))
              go_wp2_with fail
              go_ret
              exact ⟨rb HR.out.symm, (by repeat (first | exact Ext.refl _ | exact Ext.alloc _ _ | apply Ext.then_dr | apply Ext.then_drN | apply Ext.then_drN2 | (refine Ext.then_al ?_ _)))⟩
            · have e4 : decide (40 < x.bytes.size) = false := decide_eq_false h3
              go_wp2_with fail
              go_round
              case rel => exact ⟨m + 1, by go_num, by omega, fun m' y h hy => by
                rcases Nat.lt_or_ge m' m with h' | h'
                · exact HALL2.out m' y h' hy
                · have : m' = m := by omega
                  subst this
                  rw [HX.out] at hy; cases hy; omega⟩
              case measure => simp [intOf]; omega
          · go_wp2_with fail
            go_round
            case rel => exact ⟨k + 1, by go_num, by omega, fun k' y h hy => by
              rcases Nat.lt_or_ge k' k with h' | h'
              · exact HALL.out k' y h' hy
              · have : k' = k := by omega
                subst this
                rw [HF.out] at hy; cases hy
                rw [HFW.out]
                have h5 : (f.fields.all fun x => decide (x.bytes.size ≤ 40)) = true := by
                  rw [List.all_eq_true]
                  intro x hx
                  obtain ⟨m', hm'⟩ := List.mem_iff_getElem?.1 hx
                  simpa using HALL2.out m' x (by have := (List.getElem?_eq_some_iff.1 hm').1; omega) hm'
                rw [h5]; simp; omega⟩
            case measure => simp [intOf]; omega
      · have HR : Hid (fewS t = true) := Lib.hid (HTT.out (by
          rw [List.all_eq_true]
          intro f hf
          obtain ⟨k', hk'⟩ := List.mem_iff_getElem?.1 hf
          exact HALL.out k' f (by have := (List.getElem?_eq_some_iff.1 hk').1; omega) hk'))
        go_wp2_with fail
        go_ret
        exact ⟨rb HR.out.symm, (by repeat (first | exact Ext.refl _ | exact Ext.alloc _ _ | apply Ext.then_dr | apply Ext.then_drN | apply Ext.then_drN2 | (refine Ext.then_al ?_ _)))⟩

end Go.Proofs.Ythoelnoahfedmaa

namespace Go.Proofs.Ythoelnoahfedmaa
open Go Go.RowKit
set_option linter.unusedVariables false
set_option linter.unusedSimpArgs false

theorem ins_none (v f : Value) (w : World) : Calls Try.prog 83 #[v, .int .i64 0, .int .i64 1, f] w fun e w' => e = .returned (.tuple #[]) ∧ w = w' := by
  go_enter Try.func83, Try.ntmps83
  go_wp2_with fail
  go_loop [8] (fun i => i = .int .i64 1) (fun _ => 0)
  case atStart => rfl
  case round =>
    subst hrel
    go_wp2_with fail
    go_end0
    exact ⟨rfl, rfl⟩
set_option maxRecDepth 100000 in
set_option maxHeartbeats 1000000 in
theorem len64_one (w : World) : Calls Try.prog 92 #[.int .u64 1] w fun e w' => e = .returned (.int .i64 1) ∧ w = w' := by
  go_enter Try.func92, Try.ntmps92
  go_wp2_with fail
  go_ret
  exact ⟨by kernel_rfl, rfl⟩
theorem len_one (w : World) : Calls Try.prog 74 #[.int .u64 1] w fun e w' => e = .returned (.int .i64 1) ∧ w = w' := by
  go_enter Try.func74, Try.ntmps74
  go_wp2_with (go_at_call 92; refine (len64_one _).mono ?_; rintro e w' ⟨rfl, rfl⟩)
  go_ret
  exact ⟨rfl, rfl⟩
set_option maxRecDepth 100000 in
set_option maxHeartbeats 1000000 in
theorem pdq_one (v f : Value) (w : World) : Calls Try.prog 73 #[v, .int .i64 0, .int .i64 1, .int .i64 1, f] w fun e w' => e = .returned (.tuple #[]) ∧ w = w' := by
  go_enter Try.func73, Try.ntmps73
  go_wp2_with fail
  refine wp_loop_rounds 1 ?_
  rw [rounds_succ]
  go_wp2_with (go_at_call 83; refine (ins_none _ _ _).mono ?_; rintro e w' ⟨rfl, rfl⟩)
  exact bodyPost_ret (v := .tuple #[]) (by simp [results, Try.results73, go_sem]) rfl ⟨rfl, rfl⟩
theorem sort_one (a : Option Addr) (cap : Nat) (f : Value) (w : World) : Calls Try.prog 47 #[.slice a 1 cap, f] w fun e w' => e = .returned (.tuple #[]) ∧ w = w' := by
  go_enter Try.func47, Try.ntmps47
  go_wp2_with fail
  refine (len_one _).mono ?_
  rintro e w' ⟨rfl, rfl⟩
  go_wp2_with fail
  refine (pdq_one _ _ _).mono ?_
  rintro e w' ⟨rfl, rfl⟩
  go_wp2_with fail
  go_end0
  exact ⟨rfl, rfl⟩

/-- pairs of a slice -/
def PairsA (w : World) (a : Option Addr) (L : List (Int × Int)) : Prop := ∀ (k : Nat) (x : Int × Int), L[k]? = some x → ∃ b off, a = some ⟨b, off, none⟩ ∧ w.cell? ⟨b, off + k * 2, none⟩ = some (.int .i64 x.1) ∧ w.cell? ⟨b, off + k * 2 + 1, none⟩ = some (.int .i64 x.2)
theorem PairsA.ext {w w' : World} {a : Option Addr} {L : List (Int × Int)} (h : PairsA w a L) (hE : Ext w w') : PairsA w' a L := fun k x hk =>
  let ⟨b, off, ha, h1, h2⟩ := h k x hk
  ⟨b, off, ha, cs_ext hE h1, cs_ext hE h2⟩
theorem PairsA.of_row {w : World} {base : Nat} {v : Value} {L : List (Int × Int)} (h : w.ownsRow base 53 2 v L.length (flatP L)) : ∃ a cap, v = .slice a L.length cap ∧ PairsA w a L := by
  rcases h.2 with ⟨rfl, h0⟩ | ⟨g, cap, cur, rfl, -⟩
  · refine ⟨none, 0, by rw [h0], fun k x hk => ?_⟩
    have := (List.getElem?_eq_some_iff.1 hk).1
    omega
  · refine ⟨_, cap, rfl, fun k x hk => ?_⟩
    obtain ⟨g', c', e, -, -, -, hc⟩ := row2_at (f := encP2) (fun _ => rfl) h hk
    cases e
    exact ⟨g, 0, rfl, by simpa using hc 0 _ rfl, by simpa using hc 1 _ rfl⟩

theorem list_eq_of {L M : List (Int × Int)} (hl : L.length = M.length) (h : ∀ (k : Nat) x y, L[k]? = some x → M[k]? = some y → x = y) : L = M := by
  apply List.ext_getElem hl
  intro k h1 h2
  exact h k _ _ (List.getElem?_eq_getElem h1) (List.getElem?_eq_getElem h2)

set_option maxRecDepth 100000 in
set_option maxHeartbeats 1000000 in
theorem equal_any {w : World} {a b : Option Addr} {L M : List (Int × Int)} {c d : Nat} (hL : PairsA w a L) (hM : PairsA w b M) (hl : L.length ≤ 9223372036854775807) (hm : M.length ≤ 9223372036854775807) :
    Calls Try.prog 28 #[.slice a L.length c, .slice b M.length d] w fun e w' => e = .returned (.bool (decide (L = M))) ∧ Ext w w' := by
  by_cases hne : L.length = M.length
  · have HEQ : Hid (∀ b, (b = decide (L = M)) → b = decide (L = M)) := fun b h => h
    have HNE := Lib.hid hne
    have e1 : ((L.length : Int) != (M.length : Int)) = false := by rw [bne_eq_false_iff_eq]; omega
    have e1' : ((L.length : Int) == (M.length : Int)) = true := by rw [beq_iff_eq]; omega
    clear hne
    go_enter Try.func28, Try.ntmps28
    go_wp2_with fail
    go_loopw [5, 13] (fun _ kv wr => ∃ k : Nat, kv = .int .i64 k ∧ k ≤ L.length ∧ (∀ (k' : Nat) x y, k' < k → L[k']? = some x → M[k']? = some y → x = y) ∧ Ext w wr) (fun _ kv _ => L.length - (intOf kv).toNat)
    case atStart => exact ⟨0, rfl, by omega, fun k' x y h => by omega, (by repeat (first | exact Ext.refl _ | exact Ext.alloc _ _ | apply Ext.then_dr | apply Ext.then_drN | apply Ext.then_drN2 | (refine Ext.then_al ?_ _)))⟩
    case round =>
      obtain ⟨k, rfl, hk, hall, hE⟩ := hrel
      have HALL := Lib.hid hall
      clear hall
      by_cases hlt : k < L.length
      · obtain ⟨⟨x1, x2⟩, hx⟩ : ∃ x, L[k]? = some x := ⟨_, List.getElem?_eq_getElem hlt⟩
        obtain ⟨⟨y1, y2⟩, hy⟩ : ∃ x, M[k]? = some x := ⟨_, List.getElem?_eq_getElem (by rw [← HNE.out]; exact hlt)⟩
        obtain ⟨b1, o1, rfl, c1, c2⟩ := hL k _ hx
        obtain ⟨b2, o2, rfl, d1, d2⟩ := hM k _ hy
        have c1 := cs_ext hE c1
        have c2 := cs_ext hE c2
        have d1 := cs_ext hE d1
        have d2 := cs_ext hE d2
        have hkm : k < M.length := by rw [← HNE.out]; exact hlt
        have HX := Lib.hid hx
        have HY := Lib.hid hy
        have HE := Lib.hid hE
        clear hx hy hE
        by_cases h1 : x1 = y1
        · subst h1
          by_cases h2 : x2 = y2
          · subst h2
            go_wp2_with fail
            refine wp_region_reg 9 false (by kernel_rfl) (by kernel_rfl) ?_
            refine reg_value (fun _ => rfl) ?_ (fun g w' vs hM hE hP => ?_) ?_
            rotate_left
            · (clear hP hM; have zz0 := cs_ext hE c1; have zz1 := cs_ext hE c2; have zz2 := cs_ext hE d1; have zz3 := cs_ext hE d2; go_simp; first | done | rfl)
            refine reg_value (fun _ => rfl) ?_ (fun g w' vs hM hE hP => ?_) ?_
            rotate_left
            · (clear hP hM; have zz0 := cs_ext hE c1; have zz1 := cs_ext hE c2; have zz2 := cs_ext hE d1; have zz3 := cs_ext hE d2; go_simp; first | done | rfl)
            refine reg_value (fun _ => rfl) ?_ (fun g w' vs hM hE hP => ?_) ?_
            rotate_left
            · (clear hP hM; have zz0 := cs_ext hE c1; have zz1 := cs_ext hE c2; have zz2 := cs_ext hE d1; have zz3 := cs_ext hE d2; go_simp; first | done | rfl)
            refine reg_value (fun _ => rfl) ?_ (fun g w' vs hM hE hP => ?_) ?_
            rotate_left
            · (clear hP hM; have zz0 := cs_ext hE c1; have zz1 := cs_ext hE c2; have zz2 := cs_ext hE d1; have zz3 := cs_ext hE d2; go_simp; first | done | rfl)
            refine reg_value (fun _ => rfl) ?_ (fun g w' vs hM hE hP => ?_) ?_
            rotate_left
            · (clear hP hM; have zz0 := cs_ext hE c1; have zz1 := cs_ext hE c2; have zz2 := cs_ext hE d1; have zz3 := cs_ext hE d2; go_simp; first | done | rfl)
            refine reg_value (fun _ => rfl) ?_ (fun g w' vs hM hE hP => ?_) ?_
            rotate_left
            · (clear hP hM; have zz0 := cs_ext hE c1; have zz1 := cs_ext hE c2; have zz2 := cs_ext hE d1; have zz3 := cs_ext hE d2; go_simp; first | done | rfl)
            refine reg_value (fun _ => rfl) ?_ (fun g w' vs hM hE hP => ?_) ?_
            rotate_left
            · (clear hP hM; have zz0 := cs_ext hE c1; have zz1 := cs_ext hE c2; have zz2 := cs_ext hE d1; have zz3 := cs_ext hE d2; go_simp; first | done | rfl)
            refine reg_value (fun _ => rfl) ?_ (fun g w' vs hM hE hP => ?_) ?_
            rotate_left
            · (clear hP hM; have zz0 := cs_ext hE c1; have zz1 := cs_ext hE c2; have zz2 := cs_ext hE d1; have zz3 := cs_ext hE d2; go_simp; first | done | rfl)
            refine reg_value (fun _ => rfl) ?_ (fun g w' vs hM hE hP => ?_) ?_
            rotate_left
            · (clear hP hM; have zz0 := cs_ext hE c1; have zz1 := cs_ext hE c2; have zz2 := cs_ext hE d1; have zz3 := cs_ext hE d2; go_simp; first | done | rfl)
            intro g wz hE2 hF hQ
            simp only [List.drop_succ_cons, List.drop_zero, Act.put, List.setIfInBounds_toArray, List.set_cons_succ, List.set_cons_zero]
            clear hF hQ c1 c2 d1 d2
            have HE2 := Lib.hid (HE.out.trans hE2)
            clear hE2
            go_wp2_with fail
            go_roundw
            case rel => exact ⟨k + 1, by go_num, by omega, fun k' x y h hx hy => by
              rcases Nat.lt_or_ge k' k with h' | h'
              · exact HALL.out k' x y h' hx hy
              · have : k' = k := by omega
                subst this
                rw [HX.out] at hx; rw [HY.out] at hy; cases hx; cases hy; rfl, HE2.out⟩
            case measure => simp [intOf]; omega
          · have HR : Hid (decide (L = M) = false) := Lib.hid (by
              rw [decide_eq_false_iff_not]
              rintro rfl
              have h3 := HY.out
              rw [HX.out] at h3
              simp at h3
              exact h2 h3)
            go_wp2_with fail
            refine wp_region_reg 9 false (by kernel_rfl) (by kernel_rfl) ?_
            refine reg_value (fun _ => rfl) ?_ (fun g w' vs hM hE hP => ?_) ?_
            rotate_left
            · (clear hP hM; have zz0 := cs_ext hE c1; have zz1 := cs_ext hE c2; have zz2 := cs_ext hE d1; have zz3 := cs_ext hE d2; go_simp; first | done | rfl)
            refine reg_value (fun _ => rfl) ?_ (fun g w' vs hM hE hP => ?_) ?_
            rotate_left
            · (clear hP hM; have zz0 := cs_ext hE c1; have zz1 := cs_ext hE c2; have zz2 := cs_ext hE d1; have zz3 := cs_ext hE d2; go_simp; first | done | rfl)
            refine reg_value (fun _ => rfl) ?_ (fun g w' vs hM hE hP => ?_) ?_
            rotate_left
            · (clear hP hM; have zz0 := cs_ext hE c1; have zz1 := cs_ext hE c2; have zz2 := cs_ext hE d1; have zz3 := cs_ext hE d2; go_simp; first | done | rfl)
            refine reg_value (fun _ => rfl) ?_ (fun g w' vs hM hE hP => ?_) ?_
            rotate_left
            · (clear hP hM; have zz0 := cs_ext hE c1; have zz1 := cs_ext hE c2; have zz2 := cs_ext hE d1; have zz3 := cs_ext hE d2; go_simp; first | done | rfl)
            refine reg_value (fun _ => rfl) ?_ (fun g w' vs hM hE hP => ?_) ?_
            rotate_left
            · (clear hP hM; have zz0 := cs_ext hE c1; have zz1 := cs_ext hE c2; have zz2 := cs_ext hE d1; have zz3 := cs_ext hE d2; go_simp; first | done | rfl)
            refine reg_value (fun _ => rfl) ?_ (fun g w' vs hM hE hP => ?_) ?_
            rotate_left
            · (clear hP hM; have zz0 := cs_ext hE c1; have zz1 := cs_ext hE c2; have zz2 := cs_ext hE d1; have zz3 := cs_ext hE d2; go_simp; first | done | rfl)
            refine reg_value (fun _ => rfl) ?_ (fun g w' vs hM hE hP => ?_) ?_
            rotate_left
            · (clear hP hM; have zz0 := cs_ext hE c1; have zz1 := cs_ext hE c2; have zz2 := cs_ext hE d1; have zz3 := cs_ext hE d2; go_simp; first | done | rfl)
            refine reg_value (fun _ => rfl) ?_ (fun g w' vs hM hE hP => ?_) ?_
            rotate_left
            · (clear hP hM; have zz0 := cs_ext hE c1; have zz1 := cs_ext hE c2; have zz2 := cs_ext hE d1; have zz3 := cs_ext hE d2; go_simp; first | done | rfl)
            refine reg_value (fun _ => rfl) ?_ (fun g w' vs hM hE hP => ?_) ?_
            rotate_left
            · (clear hP hM; have zz0 := cs_ext hE c1; have zz1 := cs_ext hE c2; have zz2 := cs_ext hE d1; have zz3 := cs_ext hE d2; go_simp; first | done | rfl)
            intro g wz hE2 hF hQ
            simp only [List.drop_succ_cons, List.drop_zero, Act.put, List.setIfInBounds_toArray, List.set_cons_succ, List.set_cons_zero]
            clear hF hQ c1 c2 d1 d2
            have HE2 := Lib.hid (HE.out.trans hE2)
            clear hE2
            go_wp2_with fail
            go_ret
            exact ⟨rb HR.out.symm, HE2.out⟩
        · have HR : Hid (decide (L = M) = false) := Lib.hid (by
            rw [decide_eq_false_iff_not]
            rintro rfl
            have h3 := HY.out
            rw [HX.out] at h3
            simp at h3
            exact h1 h3.1)
          go_wp2_with fail
          refine wp_region_reg 9 false (by kernel_rfl) (by kernel_rfl) ?_
          refine reg_value (fun _ => rfl) ?_ (fun g w' vs hM hE hP => ?_) ?_
          rotate_left
          · (clear hP hM; have zz0 := cs_ext hE c1; have zz1 := cs_ext hE c2; have zz2 := cs_ext hE d1; have zz3 := cs_ext hE d2; go_simp; first | done | rfl)
          refine reg_value (fun _ => rfl) ?_ (fun g w' vs hM hE hP => ?_) ?_
          rotate_left
          · (clear hP hM; have zz0 := cs_ext hE c1; have zz1 := cs_ext hE c2; have zz2 := cs_ext hE d1; have zz3 := cs_ext hE d2; go_simp; first | done | rfl)
          refine reg_value (fun _ => rfl) ?_ (fun g w' vs hM hE hP => ?_) ?_
          rotate_left
          · (clear hP hM; have zz0 := cs_ext hE c1; have zz1 := cs_ext hE c2; have zz2 := cs_ext hE d1; have zz3 := cs_ext hE d2; go_simp; first | done | rfl)
          refine reg_value (fun _ => rfl) ?_ (fun g w' vs hM hE hP => ?_) ?_
          rotate_left
          · (clear hP hM; have zz0 := cs_ext hE c1; have zz1 := cs_ext hE c2; have zz2 := cs_ext hE d1; have zz3 := cs_ext hE d2; go_simp; first | done | rfl)
          refine reg_value (fun _ => rfl) ?_ (fun g w' vs hM hE hP => ?_) ?_
          rotate_left
          · (clear hP hM; have zz0 := cs_ext hE c1; have zz1 := cs_ext hE c2; have zz2 := cs_ext hE d1; have zz3 := cs_ext hE d2; go_simp; first | done | rfl)
          refine reg_value (fun _ => rfl) ?_ (fun g w' vs hM hE hP => ?_) ?_
          rotate_left
          · (clear hP hM; have zz0 := cs_ext hE c1; have zz1 := cs_ext hE c2; have zz2 := cs_ext hE d1; have zz3 := cs_ext hE d2; go_simp; first | done | rfl)
          refine reg_value (fun _ => rfl) ?_ (fun g w' vs hM hE hP => ?_) ?_
          rotate_left
          · (clear hP hM; have zz0 := cs_ext hE c1; have zz1 := cs_ext hE c2; have zz2 := cs_ext hE d1; have zz3 := cs_ext hE d2; go_simp; first | done | rfl)
          refine reg_value (fun _ => rfl) ?_ (fun g w' vs hM hE hP => ?_) ?_
          rotate_left
          · (clear hP hM; have zz0 := cs_ext hE c1; have zz1 := cs_ext hE c2; have zz2 := cs_ext hE d1; have zz3 := cs_ext hE d2; go_simp; first | done | rfl)
          refine reg_value (fun _ => rfl) ?_ (fun g w' vs hM hE hP => ?_) ?_
          rotate_left
          · (clear hP hM; have zz0 := cs_ext hE c1; have zz1 := cs_ext hE c2; have zz2 := cs_ext hE d1; have zz3 := cs_ext hE d2; go_simp; first | done | rfl)
          intro g wz hE2 hF hQ
          simp only [List.drop_succ_cons, List.drop_zero, Act.put, List.setIfInBounds_toArray, List.set_cons_succ, List.set_cons_zero]
          clear hF hQ c1 c2 d1 d2
          have HE2 := Lib.hid (HE.out.trans hE2)
          clear hE2
          go_wp2_with fail
          go_ret
          exact ⟨rb HR.out.symm, HE2.out⟩
      · have HR : Hid (decide (L = M) = true) := Lib.hid (by
          rw [decide_eq_true_eq]
          exact list_eq_of HNE.out (fun k' x y h1 h2 => HALL.out k' x y (by have := (List.getElem?_eq_some_iff.1 h1).1; omega) h1 h2))
        have HE := Lib.hid hE
        clear hE
        go_wp2_with fail
        go_ret
        exact ⟨rb HR.out.symm, HE.out⟩
  · have HR : Hid (decide (L = M) = false) := Lib.hid (by rw [decide_eq_false_iff_not]; intro h; exact hne (by rw [h]))
    have e1 : ((L.length : Int) != (M.length : Int)) = true := by rw [bne_iff_ne]; omega
    have e1' : ((L.length : Int) == (M.length : Int)) = false := by rw [beq_eq_false_iff_ne]; omega
    clear hne
    go_enter Try.func28, Try.ntmps28
    go_wp2_with fail
    go_ret
    exact ⟨rb HR.out.symm, (by repeat (first | exact Ext.refl _ | exact Ext.alloc _ _ | apply Ext.then_dr | apply Ext.then_drN | apply Ext.then_drN2 | (refine Ext.then_al ?_ _)))⟩

end Go.Proofs.Ythoelnoahfedmaa

namespace Go.Proofs.Ythoelnoahfedmaa
open Go Go.RowKit
set_option linter.unusedVariables false
set_option linter.unusedSimpArgs false

def ltP (a b : Int × Int) : Prop := a.1 < b.1 ∨ a.1 = b.1 ∧ a.2 < b.2
/-- lists of n pairs are sorted in place -/
def SortOk (n : Nat) : Prop := ∀ (w : World) (base : Nat) (v : Value) (L : List (Int × Int)), L.length = n → (∀ x ∈ L, I64 x.1 ∧ I64 x.2) → L.Nodup → w.ownsRow base 53 2 v n (flatP L) →
  Calls Try.prog 47 #[v, .func (.func 48) #[] #[]] w fun e w' => e = .returned (.tuple #[]) ∧ ∃ L' : List (Int × Int), L'.Perm L ∧ L'.Pairwise ltP ∧ w'.ownsRow base 53 2 v n (flatP L') ∧ w.grownBy w' v.ownBlock
theorem sortOk_one : SortOk 1 := by
  intro w base v L hl _ _ h
  obtain ⟨g, cap, rfl, -⟩ := row2_slice h (by omega)
  refine (sort_one _ _ _ _).mono ?_
  rintro e w' ⟨rfl, rfl⟩
  obtain ⟨x, rfl⟩ := List.length_eq_one_iff.1 hl
  exact ⟨rfl, [x], List.Perm.refl _, by simp, h, grown_refl _ _⟩

/-- what Prove answers -/
def ProveR (w' : World) (t : List Fmt) (i j : Int) (v : Value) (er : Int) : Prop :=
  (errS t [i, j] ≠ 0 ∧ v = .slice none 0 0 ∧ er = errS t [i, j]) ∨ (errS t [i, j] = 0 ∧ ∃ (i' j' : Nat) (fm gm : Fmt), i = i' ∧ j = j' ∧ t[i']? = some fm ∧ t[j']? = some gm ∧ VFmt t fm ∧ VFmt t gm ∧
    ((Over (stP t fm.fields gm.fields) (0, 0) ∧ v = .slice none 0 0 ∧ er = 3) ∨ ∃ L, Full (stP t fm.fields gm.fields) (0, 0) L ∧ L.length ≤ 20000 ∧
      (((∃ p ∈ L, bothS fm.fields gm.fields p = true) ∧ v = .slice none 0 0 ∧ er = 5) ∨ ((∀ p ∈ L, bothS fm.fields gm.fields p = false) ∧ er = 0 ∧ ∃ L' : List (Int × Int), ∃ a cap, L'.Perm L ∧ L'.Pairwise ltP ∧ L'.length ≤ cap ∧ v = .slice a L'.length cap ∧ PairsA w' a L'))))

set_option maxRecDepth 100000 in
set_option maxHeartbeats 1600000 in
theorem Prove_any {w : World} {B : Nat} {a : Option Addr} {t : List Fmt} {cap : Nat} {i j : Int} (hT : TabA w B a t) (hB : B ≤ w.heap.size) (hcap : t.length ≤ cap) (hcap2 : cap ≤ 9223372036854775807)
    (hsort : ∀ (fm gm : Fmt) L, t[i.toNat]? = some fm → t[j.toNat]? = some gm → Full (stP t fm.fields gm.fields) (0, 0) L → (∀ p ∈ L, bothS fm.fields gm.fields p = false) → SortOk L.length) :
    Calls Try.prog 26 #[.slice a t.length cap, .int .i64 i, .int .i64 j] w fun e w' => ∃ v er, e = .returned (.tuple #[v, .int .i64 er]) ∧ Ext w w' ∧ ProveR w' t i j v er := by
  have hcon := product_any (i := i) (j := j) hT hB hcap hcap2
  go_enter Try.func26, Try.ntmps26
  go_wp2_with fail
  refine hcon.mono ?_
  rintro e w1 ⟨p, er, rfl, hb1, hP⟩
  have HB := Lib.hid hb1
  rcases hP with ⟨he, rfl, her⟩ | ⟨he, i', j', fm, gm, hi, hj, hfm, hgm, hVf, hVg, hR⟩
  · have e1 : (er == 0) = false := beq_eq_false_iff_ne.2 (by rw [her]; exact he)
    have HE := Lib.hid he
    have HER := Lib.hid her
    clear he her
    go_wp2_with fail
    go_ret2
    exact ⟨_, _, rfl, HB.out, .inl ⟨HE.out, rfl, HER.out⟩⟩
  · obtain ⟨f, hf⟩ : ∃ f, f = stP t fm.fields gm.fields := ⟨_, rfl⟩
    rw [← hf] at hR
    have HFF := Lib.hid hf
    have hfin : ∀ w' v er, ((Over f (0, 0) ∧ v = .slice none 0 0 ∧ er = 3) ∨ ∃ L, Full f (0, 0) L ∧ L.length ≤ 20000 ∧
      (((∃ p ∈ L, bothS fm.fields gm.fields p = true) ∧ v = .slice none 0 0 ∧ er = 5) ∨ ((∀ p ∈ L, bothS fm.fields gm.fields p = false) ∧ er = 0 ∧ ∃ L' : List (Int × Int), ∃ a cap, L'.Perm L ∧ L'.Pairwise ltP ∧ L'.length ≤ cap ∧ v = .slice a L'.length cap ∧ PairsA w' a L'))) → ProveR w' t i j v er :=
      fun w' s er h => .inr ⟨he, i', j', fm, gm, hi, hj, hfm, hgm, hVf, hVg, by rw [← hf]; exact h⟩
    have hsort' : ∀ L, Full f (0, 0) L → (∀ p ∈ L, bothS fm.fields gm.fields p = false) → SortOk L.length := fun L h1 h2 => hsort fm gm L (by rw [hi]; simpa using hfm) (by rw [hj]; simpa using hgm) (by rw [← hf]; exact h1) h2
    have HSORT := Lib.hid hsort'
    clear hsort hsort'
    have HFIN := Lib.hid hfin
    have hconA := fun (w' : World) (hE : Ext w1 w') (s : Int) (hs : s ≤ 9223372036854775807) => acceptsV (cap := cap) s hs (hT.ext hB (hb1.trans hE)) (by have := (hb1.trans hE).size; omega) hfm hVf
    have hconB := fun (w' : World) (hE : Ext w1 w') (s : Int) (hs : s ≤ 9223372036854775807) => acceptsV (cap := cap) s hs (hT.ext hB (hb1.trans hE)) (by have := (hb1.trans hE).size; omega) hgm hVg
    have HCA := Lib.hid hconA
    have HCB := Lib.hid hconB
    have hsm : ∀ L, Full f (0, 0) L → ∀ x ∈ L, 0 ≤ x.1 ∧ x.1 ≤ 40000000 ∧ 0 ≤ x.2 ∧ x.2 ≤ 40000000 := fun L hL x hx => by
      obtain ⟨k, rfl, -⟩ := hL
      rw [hf] at hx
      exact levP_small (by have := hVf.le; omega) (by have := hVg.le; omega) x hx
    obtain ⟨tb, toff, rfl, -⟩ := hT.2 (ne_nil_of_get hfm)
    rcases hR with ⟨hO, rfl, rfl⟩ | ⟨gs, mb, pv, wv, L, Ws, hF, hL, hW, rfl, rfl, hS⟩
    · have HO := Lib.hid hO
      clear hf hfin he hi hj hfm hgm hVf hVg hO hT hconA hconB hsm
      go_wp2_with fail
      go_ret2
      exact ⟨_, _, rfl, HB.out, HFIN.out _ _ _ (.inl ⟨HO.out, rfl, rfl⟩)⟩
    · have hLs := hsm L hF
      have hpos : 0 < L.length := List.length_pos_of_mem hF.start
      obtain ⟨gp, pcap, rfl, hpc, -⟩ := row2_slice hS.pairs hpos
      obtain ⟨z0, z1, z2, z3, z4, z5, z6⟩ := hS.cells
      have hcells : ∀ (k : Nat) (x : Int × Int), L[k]? = some x → w1.cell? ⟨gp, k * 2, none⟩ = some (.int .i64 x.1) ∧ w1.cell? ⟨gp, k * 2 + 1, none⟩ = some (.int .i64 x.2) := fun k x hk => by
        obtain ⟨g', c', e, -, -, -, hc⟩ := row2_at (f := encP2) (fun _ => rfl) hS.pairs hk
        cases e
        exact ⟨hc 0 _ rfl, hc 1 _ rfl⟩
      have HL := Lib.hid hL
      have HF := Lib.hid hF
      have HW := Lib.hid hW
      have HS := Lib.hid hS
      have HC := Lib.hid hcells
      have HLS := Lib.hid hLs
      have Z0 := Lib.hid z0
      have Z1 := Lib.hid z1
      have Z2 := Lib.hid z2
      have Z3 := Lib.hid z3
      have hL63 : L.length ≤ 20000 := hL
      clear hf hfin he hi hj hfm hgm hVf hVg hT hconA hconB hsm hF hL hW hS hcells hLs z0 z1 z2 z3 z5 z6 hb1
      go_wp2_with fail
      clear z4
      go_loopw [11, 27] (fun _ kv wr => ∃ k : Nat, kv = .int .i64 k ∧ k ≤ L.length ∧ (∀ (k' : Nat) (x : Int × Int), k' < k → L[k']? = some x → bothS fm.fields gm.fields x = false) ∧ Ext w1 wr) (fun _ kv _ => L.length - (intOf kv).toNat)
      case atStart => exact ⟨0, rfl, by omega, fun k' x h => by omega, Ext.refl _⟩
      case round =>
        obtain ⟨k, rfl, hk, hall, hE⟩ := hrel
        have HALL := Lib.hid hall; clear hall
        by_cases hlt : k < L.length
        · obtain ⟨x, hx⟩ : ∃ x, L[k]? = some x := ⟨_, List.getElem?_eq_getElem hlt⟩
          obtain ⟨y0, y1⟩ := HC.out k x hx
          have y0 := cs_ext hE y0
          have y1 := cs_ext hE y1
          have hxs := HLS.out x (List.mem_of_getElem? hx)
          have HX := Lib.hid hx; clear hx
          obtain ⟨b1, hb1⟩ : ∃ b1, b1 = rAcc fm.fields x.1 := ⟨_, rfl⟩
          obtain ⟨b2, hb2⟩ : ∃ b2, b2 = rAcc gm.fields x.2 := ⟨_, rfl⟩
          have hc1 := fun (w' : World) (h : Ext w1 w') => HCA.out w' h x.1 (by omega)
          have hc2 := fun (w' : World) (h : Ext w1 w') => HCB.out w' h x.2 (by omega)
          rw [← hb1] at hc1
          rw [← hb2] at hc2
          have HBO : Hid (bothS fm.fields gm.fields x = (b1 && b2)) := by show _ = _; rw [bothS, ← hb1, ← hb2]
          have HC1 := Lib.hid hc1
          have HC2 := Lib.hid hc2
          clear hc1 hc2 hb1 hb2
          have HE := Lib.hid hE
          go_wp2_with fail
          obtain ⟨wq, hwq⟩ : ∃ wq, wq = wr.alloc (Obj.cells #[Value.int IntKind.i64 x.1, Value.int IntKind.i64 x.2] 53) := ⟨_, rfl⟩
          obtain ⟨xb, hxb⟩ : ∃ xb, xb = wr.heap.size := ⟨_, rfl⟩
          have m0 : wq.cell? ⟨xb, 0, none⟩ = some (.int .i64 x.1) := by rw [hwq, hxb]; exact cs_new rfl
          have m1 : wq.cell? ⟨xb, 1, none⟩ = some (.int .i64 x.2) := by rw [hwq, hxb]; exact cs_new rfl
          have hEq : Ext w1 wq := by rw [hwq]; exact HE.out.then_al _
          rw [← hwq, ← hxb]
          have k0 := cs_ext hEq Z0.out
          have k1 := cs_ext hEq Z1.out
          have k2 := cs_ext hEq Z2.out
          have k3 := cs_ext hEq Z3.out
          have HEQ := Lib.hid hEq
          clear hwq hxb hEq y0 y1 hE
          cases b1
          · have HB0 : Hid (bothS fm.fields gm.fields x = false) := by show _ = _; rw [HBO.out]; rfl
            refine wp_region_reg 16 false (by kernel_rfl) (by kernel_rfl) ?_
            refine reg_value (fun _ => rfl) ?_ (fun g w' vs hM hE hP => ?_) ?_
            rotate_left
            · (clear hP hM; have zz0 := cs_ext hE k0; have zz1 := cs_ext hE k1; have zz2 := cs_ext hE k2; have zz3 := cs_ext hE k3; have zz4 := cs_ext hE m0; have zz5 := cs_ext hE m1; go_simp; first | done | rfl)
            refine reg_value (fun _ => rfl) ?_ (fun g w' vs hM hE hP => ?_) ?_
            rotate_left
            · (clear hP hM; have zz0 := cs_ext hE k0; have zz1 := cs_ext hE k1; have zz2 := cs_ext hE k2; have zz3 := cs_ext hE k3; have zz4 := cs_ext hE m0; have zz5 := cs_ext hE m1; go_simp; first | done | rfl)
            refine reg_value (fun _ => rfl) ?_ (fun g w' vs hM hE hP => ?_) ?_
            rotate_left
            · (clear hP hM; have zz0 := cs_ext hE k0; have zz1 := cs_ext hE k1; have zz2 := cs_ext hE k2; have zz3 := cs_ext hE k3; have zz4 := cs_ext hE m0; have zz5 := cs_ext hE m1; go_simp; first | done | rfl)
            refine reg_value (fun _ => rfl) ?_ (fun g w' vs hM hE hP => ?_) ?_
            rotate_left
            · (clear hP hM; have zz0 := cs_ext hE k0; have zz1 := cs_ext hE k1; have zz2 := cs_ext hE k2; have zz3 := cs_ext hE k3; have zz4 := cs_ext hE m0; have zz5 := cs_ext hE m1; go_simp; first | done | rfl)
            refine reg_value (fun _ => rfl) ?_ (fun g w' vs hM hE hP => ?_) ?_
            rotate_left
            · (clear hP hM; have zz0 := cs_ext hE k0; have zz1 := cs_ext hE k1; have zz2 := cs_ext hE k2; have zz3 := cs_ext hE k3; have zz4 := cs_ext hE m0; have zz5 := cs_ext hE m1; go_simp; first | done | rfl)
            refine reg_value (fun _ => rfl) ?_ (fun g w' vs hM hE hP => ?_) ?_
            rotate_left
            · (clear hP hM; have zz0 := cs_ext hE k0; have zz1 := cs_ext hE k1; have zz2 := cs_ext hE k2; have zz3 := cs_ext hE k3; have zz4 := cs_ext hE m0; have zz5 := cs_ext hE m1; go_simp; first | done | rfl)
            refine reg_const (fun _ => rfl) 36 ?_ (fun g w' vs hM hE hP => ?_) ?_
            rotate_left
            · (clear hP hM; have zz0 := cs_ext hE k0; have zz1 := cs_ext hE k1; have zz2 := cs_ext hE k2; have zz3 := cs_ext hE k3; have zz4 := cs_ext hE m0; have zz5 := cs_ext hE m1; go_simp; first | done | exact ⟨rfl, rfl⟩ | rfl)
            apply Exists.intro
            refine And.intro (fun g w' vs hM hE hP => ?_) ?_
            · exact HC1.out _ (HEQ.out.trans hE)
            refine reg_value (fun _ => rfl) ?_ (fun g w' vs hM hE hP => ?_) ?_
            rotate_left
            · (clear hP hM; have zz0 := cs_ext hE k0; have zz1 := cs_ext hE k1; have zz2 := cs_ext hE k2; have zz3 := cs_ext hE k3; have zz4 := cs_ext hE m0; have zz5 := cs_ext hE m1; go_simp; first | done | rfl)
            refine reg_skip (fun g => by go_simp; first | done | (intro h; cases h) | simp [undef]) ?_
            refine reg_skip (fun g => by go_simp; first | done | (intro h; cases h) | simp [undef]) ?_
            refine reg_skip (fun g => by go_simp; first | done | (intro h; cases h) | simp [undef]) ?_
            refine reg_skip (fun g => by go_simp; first | done | (intro h; cases h) | simp [undef]) ?_
            refine reg_skip (fun g => by go_simp; first | done | (intro h; cases h) | simp [undef]) ?_
            refine reg_skip (fun g => by go_simp; first | done | (intro h; cases h) | simp [undef]) ?_
            refine reg_skip (fun g => by go_simp; first | done | (intro h; cases h) | simp [undef]) ?_
            refine reg_value (fun _ => rfl) ?_ (fun g w' vs hM hE hP => ?_) ?_
            rotate_left
            · (clear hP hM; have zz0 := cs_ext hE k0; have zz1 := cs_ext hE k1; have zz2 := cs_ext hE k2; have zz3 := cs_ext hE k3; have zz4 := cs_ext hE m0; have zz5 := cs_ext hE m1; go_simp; first | done | rfl)
            intro g wz hE2 hF hQ
            simp only [List.drop_succ_cons, List.drop_zero, Act.put, List.setIfInBounds_toArray, List.set_cons_succ, List.set_cons_zero]
            clear hF hQ k0 k1 k2 k3 m0 m1
            have HE3 := Lib.hid (HEQ.out.trans hE2)
            clear hE2
            go_wp2_with fail
            go_roundw
            case rel => exact ⟨k + 1, by go_num, by omega, fun k' y h hy => by
              rcases Nat.lt_or_ge k' k with h' | h'
              · exact HALL.out k' y h' hy
              · have : k' = k := by omega
                subst this
                rw [HX.out] at hy; cases hy; exact HB0.out, HE3.out⟩
            case measure => simp [intOf]; omega
          · have HB0 : Hid (bothS fm.fields gm.fields x = b2) := by show _ = _; rw [HBO.out]; rfl
            refine wp_region_reg 16 false (by kernel_rfl) (by kernel_rfl) ?_
            refine reg_value (fun _ => rfl) ?_ (fun g w' vs hM hE hP => ?_) ?_
            rotate_left
            · (clear hP hM; have zz0 := cs_ext hE k0; have zz1 := cs_ext hE k1; have zz2 := cs_ext hE k2; have zz3 := cs_ext hE k3; have zz4 := cs_ext hE m0; have zz5 := cs_ext hE m1; go_simp; first | done | rfl)
            refine reg_value (fun _ => rfl) ?_ (fun g w' vs hM hE hP => ?_) ?_
            rotate_left
            · (clear hP hM; have zz0 := cs_ext hE k0; have zz1 := cs_ext hE k1; have zz2 := cs_ext hE k2; have zz3 := cs_ext hE k3; have zz4 := cs_ext hE m0; have zz5 := cs_ext hE m1; go_simp; first | done | rfl)
            refine reg_value (fun _ => rfl) ?_ (fun g w' vs hM hE hP => ?_) ?_
            rotate_left
            · (clear hP hM; have zz0 := cs_ext hE k0; have zz1 := cs_ext hE k1; have zz2 := cs_ext hE k2; have zz3 := cs_ext hE k3; have zz4 := cs_ext hE m0; have zz5 := cs_ext hE m1; go_simp; first | done | rfl)
            refine reg_value (fun _ => rfl) ?_ (fun g w' vs hM hE hP => ?_) ?_
            rotate_left
            · (clear hP hM; have zz0 := cs_ext hE k0; have zz1 := cs_ext hE k1; have zz2 := cs_ext hE k2; have zz3 := cs_ext hE k3; have zz4 := cs_ext hE m0; have zz5 := cs_ext hE m1; go_simp; first | done | rfl)
            refine reg_value (fun _ => rfl) ?_ (fun g w' vs hM hE hP => ?_) ?_
            rotate_left
            · (clear hP hM; have zz0 := cs_ext hE k0; have zz1 := cs_ext hE k1; have zz2 := cs_ext hE k2; have zz3 := cs_ext hE k3; have zz4 := cs_ext hE m0; have zz5 := cs_ext hE m1; go_simp; first | done | rfl)
            refine reg_value (fun _ => rfl) ?_ (fun g w' vs hM hE hP => ?_) ?_
            rotate_left
            · (clear hP hM; have zz0 := cs_ext hE k0; have zz1 := cs_ext hE k1; have zz2 := cs_ext hE k2; have zz3 := cs_ext hE k3; have zz4 := cs_ext hE m0; have zz5 := cs_ext hE m1; go_simp; first | done | rfl)
            refine reg_const (fun _ => rfl) 36 ?_ (fun g w' vs hM hE hP => ?_) ?_
            rotate_left
            · (clear hP hM; have zz0 := cs_ext hE k0; have zz1 := cs_ext hE k1; have zz2 := cs_ext hE k2; have zz3 := cs_ext hE k3; have zz4 := cs_ext hE m0; have zz5 := cs_ext hE m1; go_simp; first | done | exact ⟨rfl, rfl⟩ | rfl)
            apply Exists.intro
            refine And.intro (fun g w' vs hM hE hP => ?_) ?_
            · exact HC1.out _ (HEQ.out.trans hE)
            refine reg_value (fun _ => rfl) ?_ (fun g w' vs hM hE hP => ?_) ?_
            rotate_left
            · (clear hP hM; have zz0 := cs_ext hE k0; have zz1 := cs_ext hE k1; have zz2 := cs_ext hE k2; have zz3 := cs_ext hE k3; have zz4 := cs_ext hE m0; have zz5 := cs_ext hE m1; go_simp; first | done | rfl)
            refine reg_value (fun g => by go_simp) ?_ (fun g w' vs hM hE hP => ?_) ?_
            rotate_left
            · (clear hP hM; have zz0 := cs_ext hE k0; have zz1 := cs_ext hE k1; have zz2 := cs_ext hE k2; have zz3 := cs_ext hE k3; have zz4 := cs_ext hE m0; have zz5 := cs_ext hE m1; go_simp; first | done | rfl)
            refine reg_value (fun g => by go_simp) ?_ (fun g w' vs hM hE hP => ?_) ?_
            rotate_left
            · (clear hP hM; have zz0 := cs_ext hE k0; have zz1 := cs_ext hE k1; have zz2 := cs_ext hE k2; have zz3 := cs_ext hE k3; have zz4 := cs_ext hE m0; have zz5 := cs_ext hE m1; go_simp; first | done | rfl)
            refine reg_value (fun g => by go_simp) ?_ (fun g w' vs hM hE hP => ?_) ?_
            rotate_left
            · (clear hP hM; have zz0 := cs_ext hE k0; have zz1 := cs_ext hE k1; have zz2 := cs_ext hE k2; have zz3 := cs_ext hE k3; have zz4 := cs_ext hE m0; have zz5 := cs_ext hE m1; go_simp; first | done | rfl)
            refine reg_value (fun g => by go_simp) ?_ (fun g w' vs hM hE hP => ?_) ?_
            rotate_left
            · (clear hP hM; have zz0 := cs_ext hE k0; have zz1 := cs_ext hE k1; have zz2 := cs_ext hE k2; have zz3 := cs_ext hE k3; have zz4 := cs_ext hE m0; have zz5 := cs_ext hE m1; go_simp; first | done | rfl)
            refine reg_value (fun g => by go_simp) ?_ (fun g w' vs hM hE hP => ?_) ?_
            rotate_left
            · (clear hP hM; have zz0 := cs_ext hE k0; have zz1 := cs_ext hE k1; have zz2 := cs_ext hE k2; have zz3 := cs_ext hE k3; have zz4 := cs_ext hE m0; have zz5 := cs_ext hE m1; go_simp; first | done | rfl)
            refine reg_value (fun g => by go_simp) ?_ (fun g w' vs hM hE hP => ?_) ?_
            rotate_left
            · (clear hP hM; have zz0 := cs_ext hE k0; have zz1 := cs_ext hE k1; have zz2 := cs_ext hE k2; have zz3 := cs_ext hE k3; have zz4 := cs_ext hE m0; have zz5 := cs_ext hE m1; go_simp; first | done | rfl)
            refine reg_const (fun g => by go_simp) 36 ?_ (fun g w' vs hM hE hP => ?_) ?_
            rotate_left
            · (clear hP hM; have zz0 := cs_ext hE k0; have zz1 := cs_ext hE k1; have zz2 := cs_ext hE k2; have zz3 := cs_ext hE k3; have zz4 := cs_ext hE m0; have zz5 := cs_ext hE m1; go_simp; first | done | exact ⟨rfl, rfl⟩ | rfl)
            apply Exists.intro
            refine And.intro (fun g w' vs hM hE hP => ?_) ?_
            · exact HC2.out _ (HEQ.out.trans hE)
            refine reg_value (fun _ => rfl) ?_ (fun g w' vs hM hE hP => ?_) ?_
            rotate_left
            · (clear hP hM; have zz0 := cs_ext hE k0; have zz1 := cs_ext hE k1; have zz2 := cs_ext hE k2; have zz3 := cs_ext hE k3; have zz4 := cs_ext hE m0; have zz5 := cs_ext hE m1; go_simp; first | done | rfl)
            intro g wz hE2 hF hQ
            simp only [List.drop_succ_cons, List.drop_zero, Act.put, List.setIfInBounds_toArray, List.set_cons_succ, List.set_cons_zero]
            clear hF hQ k0 k1 k2 k3 m0 m1
            have HE3 := Lib.hid (HEQ.out.trans hE2)
            clear hE2
            cases b2
            · go_wp2_with fail
              go_roundw
              case rel => exact ⟨k + 1, by go_num, by omega, fun k' y h hy => by
                rcases Nat.lt_or_ge k' k with h' | h'
                · exact HALL.out k' y h' hy
                · have : k' = k := by omega
                  subst this
                  rw [HX.out] at hy; cases hy; exact HB0.out, HE3.out⟩
              case measure => simp [intOf]; omega
            · go_wp2_with fail
              go_ret2
              exact ⟨_, _, rfl, HB.out.trans HE3.out, HFIN.out _ _ _ (.inr ⟨L, HF.out, HL.out, .inl ⟨⟨x, List.mem_of_getElem? HX.out, HB0.out⟩, rfl, rfl⟩⟩)⟩
        · have hkl : k = L.length := by omega
          have HNO : Hid (∀ p ∈ L, bothS fm.fields gm.fields p = false) := Lib.hid (fun p hp => by
            obtain ⟨k', hk'⟩ := List.mem_iff_getElem?.1 hp
            exact HALL.out k' p (by have := (List.getElem?_eq_some_iff.1 hk').1; omega) hk')
          have hS2 := HS.out.next hE
          obtain ⟨-, -, -, -, y4, -, -⟩ := hS2.cells
          have HE := Lib.hid hE
          have HS2 := Lib.hid hS2
          have hnd : L.Nodup := by obtain ⟨k, h, -⟩ := HF.out; rw [h]; exact lev_nodup
          have hso := HSORT.out L HF.out HNO.out wr w.heap.size _ L rfl (fun x hx => by have := HLS.out x hx; unfold I64; omega) hnd (ownsRow_lower HS2.out.pairs (by have := HS.out.gs_lo; exact Nat.le_refl _))
          have HSO := Lib.hid hso
          clear hkl hE hS2 hnd hso
          go_wp2_with fail
          refine HSO.out.mono ?_
          rintro e w5 ⟨rfl, L', hp1, hp2, hO, hG⟩
          have y5 : w5.cell? ⟨gs, 4, none⟩ = some (.slice (some ⟨gp, 0, none⟩) L.length pcap) := by
            rw [World.cell?_of_block (a := ⟨gs, 4, none⟩) (hG.block gs HS2.out.gs_lt (fun e => HS2.out.a1 e.symm))]; exact y4
          have HEE : Hid (Ext w w5) := Lib.hid (HS2.out.ext.grown hG (fun k hk => (HS2.out.pairs.lt k hk).1))
          have HP1 := Lib.hid hp1
          have HP2 := Lib.hid hp2
          have HO := Lib.hid hO
          clear y4 hp1 hp2 hO hG
          go_wp2_with fail
          go_ret2
          have hl' : L'.length = L.length := HP1.out.length_eq
          have HO' := HO.out
          rw [← hl'] at HO'
          obtain ⟨a', c', e', hpa⟩ := PairsA.of_row HO'
          rw [hl'] at e'
          cases e'
          exact ⟨_, _, rfl, HEE.out, HFIN.out _ _ _ (.inr ⟨L, HF.out, HL.out, .inr ⟨HNO.out, rfl, L', _, pcap, HP1.out, HP2.out, by omega, by rw [hl']; rfl, hpa⟩⟩)⟩

end Go.Proofs.Ythoelnoahfedmaa
