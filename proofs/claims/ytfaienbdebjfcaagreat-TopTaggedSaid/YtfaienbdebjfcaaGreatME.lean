/- The walk of the law TopTagged. -/
import Derived.Test.YtfaienbdebjfcaaGreatGV
import Derived.Test.YtfaienbdebjfcaaGreatGI
namespace Go.Proofs.YtfaienbdebjfcaaGreat
open Go Go.RowKit
set_option linter.unusedVariables false
set_option linter.unusedSimpArgs false

theorem infStrK : (Tryz.prog.info? 9).map (fun i => (i.zero, i.size, i.bytes)) = some (some (.string ⟨#[]⟩), 1, 16) := by kernel_rfl
theorem infFL : (Tryz.prog.info? 54).map (fun i => (i.zero, i.size, i.bytes)) = some (some (.slice none 0 0), 1, 24) := by kernel_rfl
/-- the rows of names and shapes -/
structure NmS (wr : World) (b : Nat) (v1 v2 : Value) (N : List ByteArray) (H : List (List Fld)) : Prop where
 nm : OwnG elS wr b 9 (fun _ => False) v1 N
 sh : OwnG (elL elFld) wr b 54 (fun c => c < b) v2 H
 ne : ∀ c, v1.ownBlock = some c → v2.ownBlock ≠ some c
 sz : b ≤ wr.heap.size
theorem NmS.ext {w w' : World} {b : Nat} {v1 v2 : Value} {N : List ByteArray} {H : List (List Fld)} (h : NmS w b v1 v2 N H) (hE : Ext w w') : NmS w' b v1 v2 N H := ⟨h.nm.ext hE, h.sh.ext hE, h.ne, Nat.le_trans h.sz hE.size⟩
theorem NmS.app1 {w w' : World} {b : Nat} {v1 v2 v' : Value} {N : List ByteArray} {H : List (List Fld)} {x : ByteArray} (h : NmS w b v1 v2 N H) (o : OwnG elS w' b 9 (fun _ => False) v' (N ++ [x])) (g : w.grownBy w' v1.ownBlock) (k : v'.ownBlock = v1.ownBlock ∨ v'.ownBlock = some w.heap.size) : NmS w' b v' v2 (N ++ [x]) H := by
 refine ⟨o, h.sh.keep (fun c hc => g.block c (h.sh.lt c hc).2 (fun e => h.ne c e.symm hc)) (fun c hc hl => g.block c hl (fun e => by have := (h.nm.lt c e.symm).1; have hcc : c < b := hc; omega)) (fun c h _ => h), fun c hc e => ?_, Nat.le_trans h.sz g.size⟩
 rcases k with k | k
 · exact h.ne c (k.symm.trans hc) e
 · have h1 := (h.sh.lt c e).2
   have h2 := Option.some.inj (k.symm.trans hc)
   omega
theorem NmS.app2 {w w' : World} {b : Nat} {v1 v2 v' : Value} {N : List ByteArray} {H : List (List Fld)} {x : List Fld} (h : NmS w b v1 v2 N H) (o : OwnG (elL elFld) w' b 54 (fun c => c < b) v' (H ++ [x])) (g : w.grownBy w' v2.ownBlock) (k : v'.ownBlock = v2.ownBlock ∨ v'.ownBlock = some w.heap.size) : NmS w' b v1 v' N (H ++ [x]) := by
 refine ⟨h.nm.keep (fun c hc => g.block c (h.nm.lt c hc).2 (fun e => h.ne c hc e.symm)) (fun c h _ => absurd h id) (fun c h _ => h), o, fun c hc e => ?_, Nat.le_trans h.sz g.size⟩
 rcases k with k | k
 · exact h.ne c hc (k.symm.trans e)
 · have h1 := (h.nm.lt c hc).2
   have h2 := Option.some.inj (k.symm.trans e)
   omega
theorem NmS.grow1 {w0 w w' : World} {b : Nat} {v1 v2 : Value} {N : List ByteArray} {H : List (List Fld)} (h : NmS w b v1 v2 N H) (hE : Ext w0 w) (hb : w0.heap.size ≤ b) (g : w.grownBy w' v1.ownBlock) : Ext w0 w' := hE.grown g (fun c hc => by have := (h.nm.lt c hc).1; omega)
theorem NmS.grow2 {w0 w w' : World} {b : Nat} {v1 v2 : Value} {N : List ByteArray} {H : List (List Fld)} (h : NmS w b v1 v2 N H) (hE : Ext w0 w) (hb : w0.heap.size ≤ b) (g : w.grownBy w' v2.ownBlock) : Ext w0 w' := hE.grown g (fun c hc => by have := (h.sh.lt c hc).1; omega)
theorem el_keep {W w8 : World} {r : Option Nat} {p : Nat} {o : Obj} (g : W.grownBy w8 r) (h : W.heap[p]? = some o) (hne : ∀ c, r = some c → c < p) : w8.heap[p]? = some o :=
 (g.block p (Array.getElem?_eq_some_iff.1 h).1 (fun e => by have := hne p e.symm; omega)).trans h
theorem el_new1 {w : World} {o o' : Obj} : ((w.alloc o).alloc o').heap[w.heap.size + 1]? = some o' := by
 have h := hs_new (w := w.alloc o) (o := o')
 rw [World.size_alloc] at h
 exact h
theorem el_nm {W : World} {p : Nat} {x : ByteArray} (h : W.heap[p]? = some (.cells #[.string x] 9)) (hx : x.size ≤ maxLen) : LsE elS W (fun _ => False) (.slice (some ⟨p, 0, none⟩) 1 1) [x] :=
 cells_lsE (P := [(x, [.string x])]) h rfl rfl rfl (by unfold maxLen; simp) (fun q hq => by simp at hq; subst hq; exact ⟨rfl, hx⟩)
theorem el_sh {W : World} {p b : Nat} {x : List Fld} {v : Value} (h : W.heap[p]? = some (.cells #[v] 54)) (hx : LsG elFld W (fun c => c < b) v x) : LsE (elL elFld) W (fun c => c < b) (.slice (some ⟨p, 0, none⟩) 1 1) [x] :=
 cells_lsE (P := [(x, [v])]) h rfl rfl rfl (by unfold maxLen; simp) (fun q hq => by simp at hq; subst hq; exact ⟨v, rfl, hx⟩)
set_option maxRecDepth 100000 in
set_option maxHeartbeats 4000000 in
theorem law_tagged {w : World} {S S' : Nat → Prop} {da : Option Addr} {dc i j bc : Nat} {ba : Option Addr} {X : List (List Dr)} {C : List Nat} {rest : ByteArray} (hi : i < 256) (hj : j < 256) (hX : LsG elDL w S (.slice da X.length dc) X) (hC : LsE elY w S' (.slice ba C.length bc) C) :
 Calls Tryz.prog 5 #[.agg #[.slice da X.length dc, .int .u8 i, .int .u8 j, .slice ba C.length bc, .string rest]] w fun e w' => e = .returned (.bool true) ∧ Ext w w' := by
 obtain ⟨bx, w1, hbx, hw1, HBX, hE1⟩ := box_new w (.cells #[.slice da X.length dc, .int .u8 i, .int .u8 j, .slice ba C.length bc, .string rest] 25)
 have b0 : w1.cell? ⟨bx, 0, none⟩ = some (.slice da X.length dc) := by rw [cellc HBX.out]; rfl
 have b1 : w1.cell? ⟨bx, 1, none⟩ = some (.int .u8 i) := by rw [cellc HBX.out]; rfl
 have b2 : w1.cell? ⟨bx, 2, none⟩ = some (.int .u8 j) := by rw [cellc HBX.out]; rfl
 have b3 : w1.cell? ⟨bx, 3, none⟩ = some (.slice ba C.length bc) := by rw [cellc HBX.out]; rfl
 have b4 : w1.cell? ⟨bx, 4, none⟩ = some (.string rest) := by rw [cellc HBX.out]; rfl
 have HE1 := Lib.hid hE1
 have HTB := Lib.hid (table20_any (i := i) (j := j) (ba := ba) (bn := C.length) (bc := bc) (rest := rest) hi hj (hX.ext hE1))
 have HAW := Lib.hid (fun (w' : World) => awake20_any (w := w'))
 have HC := Lib.hid (hC.ext hE1)
 clear hX hE1 hC
 go_enter Tryz.func5, Tryz.ntmps5
 go_upto_region 1 with fail
 rw [← hw1, ← hbx]
 clear hw1 hbx
 go_wp2_with fail
 refine HTB.out.mono ?_
 rintro e w2 ⟨hE2, hcase⟩
 have HE2 := Lib.hid (HE1.out.trans hE2)
 have HC2 := Lib.hid (HC.out.ext hE2)
 have b3 := cs_ext hE2 b3
 clear hE2 b0 b1 b2 b4
 rcases hcase with rfl | ⟨ta, tc, t, rfl, hL, hV, ht0, hbn, -⟩
 · clear b3
   go_wp2_with fail
   refine (HAW.out _).mono ?_
   rintro e w3 ⟨rfl, hE3⟩
   have HE3 := Lib.hid (HE2.out.trans hE3)
   clear hE3
   go_wp2_with fail
   refine (HAW.out _).mono ?_
   rintro e w4 ⟨rfl, hE4⟩
   have HE4 := Lib.hid (HE3.out.trans hE4)
   clear hE4
   go_wp2_with fail
   go_ret
   exact ⟨rfl, HE4.out⟩
 · obtain ⟨k, hk⟩ : ∃ k, k = i % t.length := ⟨_, rfl⟩
   have hkl : k < t.length := by rw [hk]; exact Nat.mod_lt _ ht0
   rw [← hk]
   have h8 := valid_len hV
   have HV := Lib.hid hV
   have HLT := Lib.hid hL.below
   have HKL := Lib.hid hkl
   have HBN := Lib.hid hbn
   obtain ⟨-, htl, htc⟩ := hL.len
   unfold maxLen at htc
   clear hk hV hL hkl hbn
   go_wp2_with fail
   refine (HAW.out _).mono ?_
   rintro e w4 ⟨rfl, hE4⟩
   have b3 := cs_ext hE4 b3
   have HE4 := Lib.hid (HE2.out.trans hE4)
   have HC4 := Lib.hid (HC2.out.ext hE4)
   have HL4 := Lib.hid (HLT.out.ext hE4)
   have HSZ : Hid (w2.heap.size ≤ w4.heap.size) := Lib.hid hE4.size
   clear hE4
   go_upto_region 7 with fail
   obtain ⟨ws, hws⟩ : ∃ ws, ws = w4 := ⟨_, rfl⟩
   go_loopw [7, 8, 10, 38] (fun v1 v2 _ kv wr => ∃ m : Nat, kv = .int .i64 m ∧ m ≤ t.length ∧ Hid (Ext w4 wr) ∧ Hid (NmS wr w4.heap.size v1 v2 ((t.take m).map (·.name)) ((t.take m).map (·.fields))) ∧ Hid (∀ fm ∈ t.take m, fm.fields.length ≤ 5 ∧ ∀ f ∈ fm.fields, f.kind ≠ 5)) (fun _ _ _ kv _ => t.length - (intOf kv).toNat)
   case atStart => exact ⟨0, rfl, by omega, Lib.hid (Ext.refl _), Lib.hid ⟨OwnG.nil, OwnG.nil, (fun c hc => by cases hc), Nat.le_refl _⟩, Lib.hid (by simp)⟩
   case round =>
    obtain ⟨m, rfl, hm, HE, HNS, HP⟩ := hrel
    by_cases hlt : m < t.length
    · obtain ⟨fm, hfm⟩ : ∃ fm, t[m]? = some fm := ⟨_, List.getElem?_eq_getElem hlt⟩
      obtain ⟨fb, fo, cs, rfl, -, -, ⟨fv, rfl, hnz, hF4⟩, hcs⟩ := HL4.out.at hfm
      have hF := hF4.ext HE.out
      obtain ⟨fa, fc, rfl, hfl, hfc⟩ := hF.slice
      have n0 : wr.cell? ⟨fb, fo + m * 2, none⟩ = some (.string fm.name) := cs_ext HE.out (hcs 0 _ rfl)
      have n1 : wr.cell? ⟨fb, fo + m * 2 + 1, none⟩ = some (.slice fa fm.fields.length fc) := cs_ext HE.out (hcs 1 _ rfl)
      obtain ⟨pb, w5, hpb, hw5, HP5, hE5⟩ := box_new wr (.cells #[.string fm.name, .slice fa fm.fields.length fc] 56)
      have p0 : w5.cell? ⟨pb, 0, none⟩ = some (.string fm.name) := by rw [cellc HP5.out]; rfl
      have p1 : w5.cell? ⟨pb, 1, none⟩ = some (.slice fa fm.fields.length fc) := by rw [cellc HP5.out]; rfl
      have hmi : (m : Int) < (t.length : Int) := by omega
      have HE5 := Lib.hid (HE.out.trans hE5)
      have HNS5 := Lib.hid (HNS.out.ext hE5)
      have HF5 := Lib.hid (hF.ext hE5)
      have HST : Hid (t.take (m + 1) = t.take m ++ [fm]) := Lib.hid (by rw [List.take_add_one, hfm]; rfl)
      have HNZ := Lib.hid hnz
      have HFB : Hid (LsG elFld w4 (fun c => c < w4.heap.size) (.slice fa fm.fields.length fc) fm.fields) := Lib.hid (hF4.keep (fun c _ hc => rfl) (fun c h _ => by have := HSZ.out; have h' : c < w2.heap.size := h; show c < w4.heap.size; omega) (Nat.le_refl _))
      have HPN := Lib.hid (fun (c : Nat) hc => show c < pb by have := (HNS.out.nm.lt c hc).2; omega)
      have HPS := Lib.hid (fun (c : Nat) hc => show c < pb by have := (HNS.out.sh.lt c hc).2; omega)
      have HPB : Hid (pb < w5.heap.size) := Lib.hid (Array.getElem?_eq_some_iff.1 HP5.out).1
      clear hF4
      have HCF := Lib.hid (containsFD_any HF5.out)
      clear hcs hfm hF hE5 hnz hfl hfc
      go_upto_region 9 with fail
      rw [← hw5, ← hpb]
      clear hw5 hpb n0 n1
      by_cases h5 : (5 : Int) < (fm.fields.length : Int)
      · go_wp2_with fail
        go_ret
        exact ⟨rfl, HE4.out.trans HE5.out⟩
      · have h5f : decide ((5 : Int) < (fm.fields.length : Int)) = false := decide_eq_false h5
        obtain ⟨z, hz⟩ : ∃ z, z = fm.fields.any nestD := ⟨_, rfl⟩
        rw [← hz] at HCF
        have HZ := Lib.hid hz
        clear hz
        go_wp2_with fail
        refine HCF.out.mono ?_
        rintro e w6 ⟨rfl, hE6⟩
        obtain ⟨p0, p1⟩ := cs_e2 hE6 ⟨p0, p1⟩
        have HE6 := Lib.hid (HE5.out.trans hE6)
        have HNS6 := Lib.hid (HNS5.out.ext hE6)
        have HF6 := Lib.hid (HF5.out.ext hE6)
        clear hE6
        cases z with
        | true =>
          go_wp2_with fail
          go_ret
          exact ⟨rfl, HE4.out.trans HE6.out⟩
        | false =>
          have HP6 : Hid (∀ gm ∈ t.take (m + 1), gm.fields.length ≤ 5 ∧ ∀ f ∈ gm.fields, f.kind ≠ 5) := Lib.hid (by
           rw [HST.out]
           intro gm hg
           rcases List.mem_append.1 hg with hg | hg
           · exact HP.out gm hg
           · simp at hg
             subst hg
             refine ⟨by omega, fun f hf h5 => ?_⟩
             have := HZ.out
             symm at this
             rw [List.any_eq_false] at this
             exact this f hf (by simp [nestD, h5]))
          clear h5 h5f
          obtain ⟨N, hN⟩ : ∃ N, N = (t.take m).map (·.name) := ⟨_, rfl⟩
          obtain ⟨H, hH⟩ : ∃ H, H = (t.take m).map (·.fields) := ⟨_, rfl⟩
          rw [← hN, ← hH] at HNS6
          have HNL : Hid (N.length ≤ 100 ∧ H.length ≤ 100) := Lib.hid ⟨by rw [hN, List.length_map, List.length_take]; omega, by rw [hH, List.length_map, List.length_take]; omega⟩
          have HNH : Hid ((t.take (m + 1)).map (·.name) = N ++ [fm.name] ∧ (t.take (m + 1)).map (·.fields) = H ++ [fm.fields]) := Lib.hid ⟨by rw [HST.out, List.map_append, hN]; rfl, by rw [HST.out, List.map_append, hH]; rfl⟩
          have hv1 := HNS6.out.nm.lt
          have hv2 := HNS6.out.sh.lt
          have HV1 := Lib.hid hv1
          have HV2 := Lib.hid hv2
          clear hN hH hv1 hv2
          go_upto_region 11 with fail
          go_region_held3 (fun w' => w'.cell? ⟨pb, 0, none⟩ = some (.string fm.name) ∧ w'.cell? ⟨pb, 1, none⟩ = some (.slice fa fm.fields.length fc)) (first | exact ⟨p0, p1⟩ | exact ⟨cs_ext (Ext.drew _) p0, cs_ext (Ext.drew _) p1⟩ | exact ⟨cs_ext (by first | ((repeat (first | exact Ext.refl _ | exact Ext.alloc _ _ | apply Ext.then_dr | apply Ext.then_drN | apply Ext.then_drN2 | (refine Ext.then_al ?_ _))); done) | fail "ext") p0, cs_ext (by first | ((repeat (first | exact Ext.refl _ | exact Ext.alloc _ _ | apply Ext.then_dr | apply Ext.then_drN | apply Ext.then_drN2 | (refine Ext.then_al ?_ _))); done) | fail "ext") p1⟩ | exact ⟨p0a, p1a⟩ | exact ⟨cs_ext (by first | ((repeat (first | exact Ext.refl _ | exact Ext.alloc _ _ | apply Ext.then_dr | apply Ext.then_drN | apply Ext.then_drN2 | (refine Ext.then_al ?_ _))); done) | fail "ext") p0a, cs_ext (by first | ((repeat (first | exact Ext.refl _ | exact Ext.alloc _ _ | apply Ext.then_dr | apply Ext.then_drN | apply Ext.then_drN2 | (refine Ext.then_al ?_ _))); done) | fail "ext") p1a⟩ | exact ⟨p0b, p1b⟩) (first
           | (refine step_appG (E := elS) (T := 9) rfl 52 (.tmp 51) (.tmp 54) rfl rfl rfl Tryz.underlying52 infStrK rfl (by decide) (by decide) (HNS6.out.ext (by first | ((repeat (first | exact Ext.refl _ | exact Ext.alloc _ _ | apply Ext.then_dr | apply Ext.then_drN | apply Ext.then_drN2 | (refine Ext.then_al ?_ _))); done) | fail "ext")).nm (HNS6.out.ext (by first | ((repeat (first | exact Ext.refl _ | exact Ext.alloc _ _ | apply Ext.then_dr | apply Ext.then_drN | apply Ext.then_drN2 | (refine Ext.then_al ?_ _))); done) | fail "ext")).sz (fun c h => absurd h id) (by have := HNL.out.1; omega) (M := [fm.name]) (by simp) (el_nm (by first | exact hs_new | exact hs_ext (by first | ((repeat (first | exact Ext.refl _ | exact Ext.alloc _ _ | apply Ext.then_dr | apply Ext.then_drN | apply Ext.then_drN2 | (refine Ext.then_al ?_ _))); done) | fail "ext") hs_new | exact el_new1 | exact hs_ext (Ext.drew _) el_new1) HNZ.out) ?_
              intro v8 w8 o8 g8 k8
              have HNA := Lib.hid (NmS.app1 (HNS6.out.ext (by first | ((repeat (first | exact Ext.refl _ | exact Ext.alloc _ _ | apply Ext.then_dr | apply Ext.then_drN | apply Ext.then_drN2 | (refine Ext.then_al ?_ _))); done) | fail "ext")) o8 g8 k8)
              have HEA2 : Hid (Ext w4 w8) := Lib.hid (NmS.grow1 (HNS6.out.ext (by first | ((repeat (first | exact Ext.refl _ | exact Ext.alloc _ _ | apply Ext.then_dr | apply Ext.then_drN | apply Ext.then_drN2 | (refine Ext.then_al ?_ _))); done) | fail "ext")) (HE6.out.trans (by first | ((repeat (first | exact Ext.refl _ | exact Ext.alloc _ _ | apply Ext.then_dr | apply Ext.then_drN | apply Ext.then_drN2 | (refine Ext.then_al ?_ _))); done) | fail "ext")) (Nat.le_refl _) g8)
              have p0a := g8.cell (cs_ext (show Ext w6 _ from (by first | ((repeat (first | exact Ext.refl _ | exact Ext.alloc _ _ | apply Ext.then_dr | apply Ext.then_drN | apply Ext.then_drN2 | (refine Ext.then_al ?_ _))); done) | fail "ext")) p0) (fun e => by have := HPN.out pb e.symm; omega)
              have p1a := g8.cell (cs_ext (show Ext w6 _ from (by first | ((repeat (first | exact Ext.refl _ | exact Ext.alloc _ _ | apply Ext.then_dr | apply Ext.then_drN | apply Ext.then_drN2 | (refine Ext.then_al ?_ _))); done) | fail "ext")) p1) (fun e => by have := HPN.out pb e.symm; omega)
              try have HEB := Lib.hid (el_keep (o := .cells #[.slice fa fm.fields.length fc] 54) g8 (by first | exact hs_new | exact hs_ext (by first | ((repeat (first | exact Ext.refl _ | exact Ext.alloc _ _ | apply Ext.then_dr | apply Ext.then_drN | apply Ext.then_drN2 | (refine Ext.then_al ?_ _))); done) | fail "ext") hs_new) (fun c hc => by have := (HV1.out c hc).2; have h2 := (Ext.size (show Ext w6 _ from (by first | ((repeat (first | exact Ext.refl _ | exact Ext.alloc _ _ | apply Ext.then_dr | apply Ext.then_drN | apply Ext.then_drN2 | (refine Ext.then_al ?_ _))); done) | fail "ext"))); simp at h2 ⊢; omega))
              try rw [World.size_alloc] at HEB
              clear o8 g8 k8)
           | (refine step_appG (E := elL elFld) (T := 54) rfl 53 (.tmp 56) (.tmp 59) rfl rfl rfl Tryz.underlying53 infFL rfl (by decide) (by decide) (by first | exact HNA.out.sh | exact (HNA.out.ext (by first | ((repeat (first | exact Ext.refl _ | exact Ext.alloc _ _ | apply Ext.then_dr | apply Ext.then_drN | apply Ext.then_drN2 | (refine Ext.then_al ?_ _))); done) | fail "ext")).sh) (by first | exact HNA.out.sz | exact (HNA.out.ext (by first | ((repeat (first | exact Ext.refl _ | exact Ext.alloc _ _ | apply Ext.then_dr | apply Ext.then_drN | apply Ext.then_drN2 | (refine Ext.then_al ?_ _))); done) | fail "ext")).sz) (fun c h e => by have h2 : c < w4.heap.size := h; have := (HV2.out c e).1; omega) (by have := HNL.out.2; omega) (M := [fm.fields]) (by simp) (el_sh (by first | exact hs_new | exact hs_ext (by first | ((repeat (first | exact Ext.refl _ | exact Ext.alloc _ _ | apply Ext.then_dr | apply Ext.then_drN | apply Ext.then_drN2 | (refine Ext.then_al ?_ _))); done) | fail "ext") hs_new | exact HEB.out | exact hs_ext (by first | ((repeat (first | exact Ext.refl _ | exact Ext.alloc _ _ | apply Ext.then_dr | apply Ext.then_drN | apply Ext.then_drN2 | (refine Ext.then_al ?_ _))); done) | fail "ext") HEB.out) (by first | exact HFB.out.ext HEA2.out | exact HFB.out.ext (HEA2.out.trans (by first | ((repeat (first | exact Ext.refl _ | exact Ext.alloc _ _ | apply Ext.then_dr | apply Ext.then_drN | apply Ext.then_drN2 | (refine Ext.then_al ?_ _))); done) | fail "ext")))) ?_
              intro v9 w9 o9 g9 k9
              have HNF := Lib.hid (NmS.app2 (by first | exact HNA.out | exact HNA.out.ext (by first | ((repeat (first | exact Ext.refl _ | exact Ext.alloc _ _ | apply Ext.then_dr | apply Ext.then_drN | apply Ext.then_drN2 | (refine Ext.then_al ?_ _))); done) | fail "ext")) o9 g9 k9)
              have HEF := Lib.hid (NmS.grow2 (by first | exact HNA.out | exact HNA.out.ext (by first | ((repeat (first | exact Ext.refl _ | exact Ext.alloc _ _ | apply Ext.then_dr | apply Ext.then_drN | apply Ext.then_drN2 | (refine Ext.then_al ?_ _))); done) | fail "ext")) (by first | exact HEA2.out | exact HEA2.out.trans (by first | ((repeat (first | exact Ext.refl _ | exact Ext.alloc _ _ | apply Ext.then_dr | apply Ext.then_drN | apply Ext.then_drN2 | (refine Ext.then_al ?_ _))); done) | fail "ext")) (Nat.le_refl _) g9)
              have p0b := g9.cell (by first | exact p0a | exact cs_ext (by first | ((repeat (first | exact Ext.refl _ | exact Ext.alloc _ _ | apply Ext.then_dr | apply Ext.then_drN | apply Ext.then_drN2 | (refine Ext.then_al ?_ _))); done) | fail "ext") p0a) (fun e => by have := HPS.out pb e.symm; omega)
              have p1b := g9.cell (by first | exact p1a | exact cs_ext (by first | ((repeat (first | exact Ext.refl _ | exact Ext.alloc _ _ | apply Ext.then_dr | apply Ext.then_drN | apply Ext.then_drN2 | (refine Ext.then_al ?_ _))); done) | fail "ext") p1a) (fun e => by have := HPS.out pb e.symm; omega)
              clear o9 g9 k9))
          all_goals
           go_wp2_with fail
           refine ⟨⟨m + 1, by go_num, by omega, HEF, ?_, HP6⟩, ?_⟩
           · rw [HNH.out.1, HNH.out.2]
             exact HNF
           · have e1 : intOf (.int .i64 ((m : Int) + 1)) = (m : Int) + 1 := rfl
             have e2 : intOf (.int .i64 (m : Int)) = (m : Int) := rfl
             rw [e1, e2]
             omega
    · have hmi : ¬ (m : Int) < (t.length : Int) := by omega
      have htk : t.take m = t := List.take_of_length_le (by omega)
      rw [htk] at HNS HP
      obtain ⟨N, hN⟩ : ∃ N, N = t.map (·.name) := ⟨_, rfl⟩
      obtain ⟨H, hH⟩ : ∃ H, H = t.map (·.fields) := ⟨_, rfl⟩
      obtain ⟨G, hG⟩ : ∃ G, G = genT t := ⟨_, rfl⟩
      rw [← hN, ← hH] at HNS
      have hlN : N.length = t.length := by rw [hN, List.length_map]
      have hlH : H.length = N.length := by rw [hN, hH, List.length_map, List.length_map]
      have hlG : G.length = t.length := by rw [hG, genT_len]
      obtain ⟨a1, c1, rfl, h1a, h1b⟩ := HNS.out.nm.slice
      obtain ⟨a2, c2, rfl, h2a, h2b⟩ := HNS.out.sh.slice
      have hl1 := HNS.out.nm.ls (S' := fun _ => True) (fun c h _ => trivial) (fun g _ _ _ => trivial)
      have hl2 := HNS.out.sh.ls (S' := fun _ => True) (fun c h _ => trivial) (fun g _ _ _ => trivial)
      rw [hlH] at hl2 ⊢
      obtain ⟨fm, hfm⟩ : ∃ fm, t[k]? = some fm := ⟨_, List.getElem?_eq_getElem HKL.out⟩
      have HVG : Hid (validF G = 0) := Lib.hid (by rw [hG]; exact gen_valid HV.out HP.out)
      have HGT : Hid (GTab G) := Lib.hid (by rw [hG]; exact gen_tab t)
      have HTP : Hid (TagP G) := Lib.hid (by rw [hG]; exact gen_tagP h8)
      have HGK : Hid (G[k]? = some (genF fm.name fm.fields k)) := Lib.hid (by rw [hG]; exact genT_at hfm)
      have HPL : Hid (∀ (q : Nat) gm, G[q]? = some gm → ∀ f ∈ gm.fields, f.kind ≠ 5) := Lib.hid (by rw [hG]; exact fun q gm h => gen_plain HP.out h)
      have HGL : Hid (G.length = t.length ∧ t.length ≤ 8 ∧ k < G.length) := Lib.hid ⟨hlG, h8, by rw [hlG]; exact HKL.out⟩
      have HGEN := Lib.hid (Generate_any hl1 hl2 hlH (by omega) (fun sh hsh => by rw [hH] at hsh; obtain ⟨gm, hgm, rfl⟩ := List.mem_map.1 hsh; exact (HP.out gm hgm).1) (by rw [hN, hH, hG]; exact gen_l t) HVG.out)
      have b3 := cs_ext HE.out b3
      have HC5 := Lib.hid (HC4.out.ext HE.out)
      have HE5 := Lib.hid (HE4.out.trans HE.out)
      clear hl1 hl2 hlH hlN hlG hN hH hG htk h1a h1b h2a h2b hfm
      go_upto_region 13 with fail
      go_wp2_with fail
      refine HGEN.out.mono ?_
      rintro e w5 ⟨ga, gc, rfl, hE5, hL5⟩
      obtain ⟨-, hgl, hgc⟩ := hL5.len
      unfold maxLen at hgc
      have HT5 := Lib.hid (tab_of hL5)
      have b3 := cs_ext hE5 b3
      have HC6 := Lib.hid (HC5.out.ext hE5)
      have HE6 := Lib.hid (HE5.out.trans hE5)
      have HTG := Lib.hid (Tagged_gen HVG.out HT5.out (Nat.le_refl _) hgl (by omega) HGT.out)
      clear hE5 hL5
      go_wp2_with fail
      refine HTG.out.mono ?_
      rintro e w6 ⟨rfl, hE6⟩
      have b3 := cs_ext hE6 b3
      have HX6 := Lib.hid hE6
      have HAL := Lib.hid (All_any (HT5.out.ext (Nat.le_refl _) hE6) hE6.size hgl (by omega))
      clear hE6
      go_wp2_with fail
      refine HAL.out.mono ?_
      rintro e w7 ⟨k1, l1, er, rfl, hE7, hAR⟩
      have her := all_tagged hAR HVG.out HTP.out
      have b3 := cs_ext hE7 b3
      have HX7 := Lib.hid (HX6.out.trans hE7)
      clear hE7 hAR
      obtain ⟨bb, hbb⟩ : ∃ bb : Bool, bb = ((er != 15) && (er != 3)) := ⟨_, rfl⟩
      have HB7 : Hid (w5.heap.size ≤ w7.heap.size) := Lib.hid HX7.out.size
      have HCL := Lib.hid (bClone_any (by have := HBN.out; omega) (HC6.out.ext HX7.out))
      rcases her with rfl | rfl
      all_goals
       clear hbb
       go_wp2_with fail
       refine HCL.out.mono ?_
       rintro e w8 ⟨u, rfl, hE8, hU⟩
       obtain ⟨ua, uc, rfl, -, -⟩ := hU.slice
       have HX8 := Lib.hid (HX7.out.trans hE8)
       have HSM := Lib.hid (Sample_any HVG.out (HT5.out.ext (Nat.le_refl _) HX8.out) HX8.out.size hgl (by omega) HGK.out (by have := HBN.out; omega) hU.e)
       clear hE8 hU
       go_wp2_with fail
       refine HSM.out.mono ?_
       rintro e w9 ⟨Y, va, vc, rfl, hE9, hL9, hV9⟩
       obtain ⟨xb, w10, hxb, hw10, HXB, hE10⟩ := box_new w9 (.cells #[.string ⟨#[]⟩, .int .i64 0, .slice va Y.length vc] 41)
       obtain ⟨y0, y1, y2⟩ := box3r HXB.out
       have HX10 := Lib.hid (HX8.out.trans (hE9.trans hE10))
       have HT10 := Lib.hid (HT5.out.ext (Nat.le_refl _) HX10.out)
       have HEN := Lib.hid (cEncode_any HVG.out HT10.out HX10.out.size hgl (by omega) HGK.out (hL9.ext hE10) hV9)
       obtain ⟨s, hs⟩ : ∃ s : ByteArray, s = ⟨(encFs G (genF fm.name fm.fields k).fields Y).toArray⟩ := ⟨_, rfl⟩
       rw [← hs] at HEN
       have HSD : Hid (s.data.toList = encFs G (genF fm.name fm.fields k).fields Y) := Lib.hid (by rw [hs])
       have HSL : Hid (s.size ≤ 100000) := Lib.hid (by
        have h1 : s.data.toList.length = s.size := by rw [Array.length_toList]; rfl
        rw [← h1, HSD.out]
        have h2 := encFs_len HVG.out (fields_gd HVG.out HGK.out) hV9
        have h3 := (valid_at HVG.out HGK.out).2.1
        omega)
       have HV9 := Lib.hid hV9
       clear hE9 hE10 hL9 hV9 hs b3
       go_upto_region 20 with fail
       rw [← hw10, ← hxb]
       clear hw10 hxb
       go_wp2_with fail
       refine HEN.out.mono ?_
       rintro e w11 ⟨rfl, hE11⟩
       have HX11 := Lib.hid (HX10.out.trans hE11)
       have HFI := Lib.hid (First_tag (c := 1) HVG.out (HT5.out.ext (Nat.le_refl _) HX11.out) HX11.out.size hgl (by omega) HGK.out (f := ⟨1, tagB k, 0, 0, 0⟩) rfl rfl (by show 0 < (tagB k).size; rw [tagB_size]; omega) rfl (by show (tagB k).size ≤ 8; rw [tagB_size]; omega))
       clear hE11
       go_wp2_with fail
       refine HFI.out.mono ?_
       rintro e w12 ⟨u1, rfl, hE12, hU1⟩
       obtain ⟨u1a, u1c, rfl, -, -⟩ := hU1.slice
       have HX12 := Lib.hid (HX11.out.trans hE12)
       have HU1 := Lib.hid hU1
       have HWH := Lib.hid (Which_any (w := w12) (a := ga) (cap := gc) (s := s) (by rw [HGL.out.1]; exact HGL.out.2.1) HGL.out.2.2 (fun q hq w' hE => by
        have hTq := HT5.out.ext (Nat.le_refl _) (HX12.out.trans hE)
        have hBq := (HX12.out.trans hE).size
        obtain ⟨gm, hgm⟩ : ∃ gm, G[q]? = some gm := ⟨_, List.getElem?_eq_getElem hq⟩
        by_cases hqk : q = k
        · subst hqk
          refine (Decode_ok HVG.out hTq hBq hgl (by omega) HGK.out HV9.out HSL.out HSD.out (rest_ok HVG.out HGK.out HV9.out (by rw [← HSD.out, Array.length_toList, Nat.zero_add]; rfl)) (fun rb f x p w0 h1 h2 hf h5 => absurd h5 (HPL.out q _ HGK.out f hf))).mono ?_
          rintro e w'' ⟨xa, xc, rfl, h1, -⟩
          exact ⟨_, _, _, _, _, _, _, rfl, ⟨fun _ => rfl, fun _ => rfl⟩, h1⟩
        · obtain ⟨f, hf0, hf1, hfb⟩ := HGT.out q gm hgm
          obtain ⟨r, hr⟩ := gen_head (u := G) HV9.out
          refine (Decode_bad (j0 := 1) HVG.out hTq hBq hgl (by omega) hgm hf0 hf1 (by rw [hfb]; exact gen_bad (HSD.out.trans hr) (by have := HGL.out; omega) (by have := HGL.out; omega) hqk HSL.out)).mono ?_
          rintro e w'' ⟨rfl, h1⟩
          exact ⟨_, _, _, _, _, _, _, rfl, ⟨fun h => by omega, fun h => absurd h hqk⟩, h1⟩))
       clear hE12 hU1
       go_wp2_with fail
       refine HWH.out.mono ?_
       rintro e w13 ⟨u2, rfl, hE13, hU2⟩
       obtain ⟨u2a, u2c, rfl, -, -⟩ := hU2.slice
       obtain ⟨kb, w14, hkb, hw14, HKB, hE14⟩ := box_new w13 (.cells #[.int .i64 (k : Int)] 3)
       have HX14 := Lib.hid (HX12.out.trans (hE13.trans hE14))
       have HEI := Lib.hid (equal1I_any (S' := fun _ => True) (hU2.ext hE14) (one_intK HKB.out (by have := HGL.out; unfold I64; omega)))
       have HU14 := Lib.hid (HU1.out.ext (hE13.trans hE14))
       clear hE13 hE14 hU2
       go_wp2_with fail
       rw [← hw14, ← hkb]
       clear hw14 hkb
       refine HEI.out.mono ?_
       rintro e w15 ⟨rfl, hE15⟩
       obtain ⟨lb, w16, hlb, hw16, HLB, hE16⟩ := box_new w15 (.cells #[.int .u8 (1 : Int)] 5)
       have HX16 := Lib.hid (HX14.out.trans (hE15.trans hE16))
       have HEB := Lib.hid (equal1B_any (S' := fun _ => True) (HU14.out.ext (hE15.trans hE16)) (cells_lsE (P := [(1, [.int .u8 (1 : Int)])]) HLB.out rfl rfl rfl (by unfold maxLen; simp) (fun p hp => by simp at hp; subst hp; exact ⟨rfl, by omega⟩)))
       clear hE15 hE16
       go_wp2_with fail
       rw [← hw16, ← hlb]
       clear hw16 hlb
       refine HEB.out.mono ?_
       rintro e w17 ⟨rfl, hE17⟩
       have HX17 := Lib.hid (HX16.out.trans hE17)
       clear hE17
       go_wp2_with fail
       go_ret
       exact ⟨rfl, HE6.out.trans HX17.out⟩
end Go.Proofs.YtfaienbdebjfcaaGreat
