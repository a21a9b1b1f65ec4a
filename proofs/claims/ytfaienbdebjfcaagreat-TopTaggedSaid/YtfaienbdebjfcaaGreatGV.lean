/- Contracts: slices.ContainsFunc at fields, slices.Equal. Plain law: the tagged table of a table's shapes is valid. Plain law: the bytes of a value of a tagged format. -/
import Derived.Test.YtfaienbdebjfcaaGreatGU
namespace Go.Proofs.YtfaienbdebjfcaaGreat
open Go Go.RowKit
set_option linter.unusedVariables false
set_option linter.unusedSimpArgs false

set_option maxRecDepth 100000 in
set_option maxHeartbeats 1000000 in
theorem nestD_any {w : World} {f : Fld} :
 Calls Tryz.prog 20 #[.agg #[.int .i64 f.kind, .string f.bytes, .int .i64 f.n, .int .i64 f.low, .int .i64 f.high]] w fun e w' => e = .returned (.bool (decide (f.kind = 5))) ∧ Ext w w' := by
 obtain ⟨k, hk⟩ : ∃ k, k = f.kind := ⟨_, rfl⟩
 rw [← hk]
 clear hk
 by_cases h : k = 5
 · subst h
   go_enter Tryz.func20, Tryz.ntmps20
   go_wp2_with fail
   go_ret
   exact ⟨rfl, (by repeat (first | exact Ext.refl _ | exact Ext.alloc _ _ | apply Ext.then_dr | apply Ext.then_drN | apply Ext.then_drN2 | (refine Ext.then_al ?_ _)))⟩
 · have hd : decide (k = 5) = false := decide_eq_false h
   have hb : (k == 5) = false := beq_eq_false_iff_ne.2 h
   rw [hd]
   clear hd
   go_enter Tryz.func20, Tryz.ntmps20
   go_wp2_with fail
   go_ret
   exact ⟨by simp [h], (by repeat (first | exact Ext.refl _ | exact Ext.alloc _ _ | apply Ext.then_dr | apply Ext.then_drN | apply Ext.then_drN2 | (refine Ext.then_al ?_ _)))⟩
abbrev nestD : Fld → Bool := fun f => decide (f.kind = 5)
set_option maxRecDepth 100000 in
set_option maxHeartbeats 2000000 in
theorem indexFD_any {w : World} {S : Nat → Prop} {a : Option Addr} {n cap : Nat} {L : List Fld} (hL : LsG elFld w S (.slice a n cap) L) :
 Calls Tryz.prog 48 #[.slice a n cap, .func (.func 20) #[] #[]] w fun e w' => ∃ k : Int, e = .returned (.int .i64 k) ∧ Ext w w' ∧ (decide (0 ≤ k)) = L.any nestD ∧ -1 ≤ k ∧ k ≤ L.length := by
 obtain ⟨rfl, hl, hc⟩ := hL.len
 unfold maxLen at hc
 have HL := Lib.hid hL
 clear hL
 go_enter Tryz.func48, Tryz.ntmps48
 go_wp2_with fail
 go_loopw [5, 8] (fun x5 kv wr => ∃ k : Nat, kv = .int .i64 k ∧ k ≤ L.length ∧ Hid ((L.take k).any nestD = false) ∧ Hid (Ext w wr)) (fun x5 kv _ => L.length - (intOf kv).toNat)
 case atStart => exact ⟨0, rfl, by omega, Lib.hid (by simp), Lib.hid (Ext.refl _)⟩
 case round =>
  obtain ⟨k, rfl, hk, HR, HE⟩ := hrel
  by_cases hlt : k < L.length
  · obtain ⟨x, hx⟩ : ∃ x, L[k]? = some x := ⟨_, List.getElem?_eq_getElem hlt⟩
    obtain ⟨xb, xo, cs, rfl, -, -, ⟨rfl, hxw⟩, hcs⟩ := (HL.out.ext HE.out).at hx
    have x0 := hcs 0 _ rfl
    have x1 := hcs 1 _ rfl
    have x2 := hcs 2 _ rfl
    have x3 := hcs 3 _ rfl
    have x4 := hcs 4 _ rfl
    simp only [Nat.add_zero] at x0
    replace x0 : wr.cell? ⟨xb, xo + k * 5, none⟩ = some (.int .i64 x.kind) := x0
    replace x1 : wr.cell? ⟨xb, xo + k * 5 + 1, none⟩ = some (.string x.bytes) := x1
    replace x2 : wr.cell? ⟨xb, xo + k * 5 + 2, none⟩ = some (.int .i64 x.n) := x2
    replace x3 : wr.cell? ⟨xb, xo + k * 5 + 3, none⟩ = some (.int .i64 x.low) := x3
    replace x4 : wr.cell? ⟨xb, xo + k * 5 + 4, none⟩ = some (.int .i64 x.high) := x4
    clear hcs
    obtain ⟨z, hz⟩ : ∃ z, z = nestD x := ⟨_, rfl⟩
    have HC : Hid (∀ w', Calls Tryz.prog 20 #[.agg #[.int .i64 x.kind, .string x.bytes, .int .i64 x.n, .int .i64 x.low, .int .i64 x.high]] w' fun e w'' => e = .returned (.bool z) ∧ Ext w' w'') := Lib.hid (fun w' => by rw [hz]; exact nestD_any)
    have HT : Hid ((L.take (k + 1)).any nestD = z) := Lib.hid (by rw [List.take_add_one, hx, List.any_append, HR.out, hz]; simp)
    have HA : Hid (z = true → L.any nestD = true) := Lib.hid (fun h => List.any_eq_true.2 ⟨x, List.mem_of_getElem? hx, by rw [← h, hz]⟩)
    clear hz hx
    go_wp2_with fail
    refine (HC.out _).mono ?_
    rintro e w5 ⟨rfl, hE5⟩
    have HE5 := Lib.hid (HE.out.trans hE5)
    clear hE5 x0 x1 x2 x3 x4
    cases z with
    | true =>
      go_wp2_with fail
      go_ret
      exact ⟨k, rfl, HE5.out, by rw [HA.out (by first | rfl | trivial)]; exact decide_eq_true (by omega), by omega, by omega⟩
    | false =>
      go_wp2_with fail
      go_roundw
      case rel => exact ⟨k + 1, by go_num, by omega, HT, HE5⟩
      case measure => simp [intOf]; omega
  · have HF : Hid (L.any nestD = false) := Lib.hid (by have := HR.out; rwa [List.take_of_length_le (by omega)] at this)
    go_wp2_with fail
    go_ret
    exact ⟨-1, rfl, HE.out, by rw [HF.out]; rfl, by omega, by omega⟩
set_option maxRecDepth 100000 in
set_option maxHeartbeats 1000000 in
theorem containsFD_any {w : World} {S : Nat → Prop} {a : Option Addr} {n cap : Nat} {L : List Fld} (hL : LsG elFld w S (.slice a n cap) L) :
 Calls Tryz.prog 19 #[.slice a n cap, .func (.func 20) #[] #[]] w fun e w' => e = .returned (.bool (L.any nestD)) ∧ Ext w w' := by
 have HI := Lib.hid (indexFD_any hL)
 obtain ⟨z, hz⟩ : ∃ z, z = L.any nestD := ⟨_, rfl⟩
 rw [← hz] at HI ⊢
 clear hz hL
 go_enter Tryz.func19, Tryz.ntmps19
 go_wp2_with fail
 refine HI.out.mono ?_
 rintro e w1 ⟨k, rfl, hE1, hd, -, -⟩
 have HD := Lib.hid hd
 clear hd
 go_wp2_with fail
 go_ret
 exact ⟨by rw [← HD.out]; rfl, hE1⟩

set_option maxRecDepth 100000 in
set_option maxHeartbeats 1000000 in
theorem equal1B_any {w : World} {S S' : Nat → Prop} {a b : Option Addr} {c d k : Nat} (h1 : LsG elY w S (.slice a 1 c) [k]) (h2 : LsE elY w S' (.slice b 1 d) [k]) :
 Calls Tryz.prog 27 #[.slice a 1 c, .slice b 1 d] w fun e w' => e = .returned (.bool true) ∧ Ext w w' := by
 obtain ⟨xb, xo, cs, rfl, -, -, ⟨rfl, hk⟩, hx⟩ := h1.at (i := 0) (x := k) rfl
 obtain ⟨yb, yo, cs, rfl, -, ⟨rfl, -⟩, hy⟩ := h2.at (i := 0) (x := k) rfl
 have x0 : w.cell? ⟨xb, xo, none⟩ = some (.int .u8 k) := hx 0 _ rfl
 have y0 : w.cell? ⟨yb, yo, none⟩ = some (.int .u8 k) := hy 0 _ rfl
 obtain ⟨-, hc1, hc2⟩ := h1.len
 obtain ⟨-, hd1, hd2⟩ : _ ∧ _ ∧ _ := by
  obtain ⟨a', c', e, g1, g2, -⟩ := h2
  cases e
  exact ⟨trivial, g1, g2⟩
 unfold maxLen at hc2 hd2
 clear h1 h2 hx hy
 go_enter Tryz.func27, Tryz.ntmps27
 go_upto_region 4 with fail
 go_loopw [5, 13] (fun _ jv wr => ∃ j : Nat, jv = .int .i64 j ∧ j ≤ 1 ∧ Hid (Ext w wr)) (fun _ jv _ => 1 - (intOf jv).toNat)
 case atStart => exact ⟨0, rfl, by omega, Lib.hid (Ext.refl _)⟩
 case round =>
  obtain ⟨j, rfl, hj, HE⟩ := hrel
  by_cases hlt : j = 0
  · subst hlt
    have x0 := cs_ext HE.out x0
    have y0 := cs_ext HE.out y0
    go_upto_region 6 with fail
    go_quiet (fail)
    generalize hwn : World.drewN wr _ = wn
    have HEn : Hid (Ext w wn) := Lib.hid (by rw [← hwn]; exact HE.out.trans (Ext.then_drN2 (Ext.refl _)))
    clear hwn
    go_wp2_with fail
    go_roundw
    case rel => exact ⟨1, rfl, by omega, HEn⟩
    case measure => first | (simp [intOf]; done) | (simp [intOf]; omega)
  · have hj1 : ¬ (j : Int) < 1 := by omega
    go_wp2_with fail
    go_ret
    exact ⟨rfl, HE.out⟩
theorem equal1I_any {w : World} {S S' : Nat → Prop} {a b : Option Addr} {c d : Nat} {k : Int} (h1 : LsG elI w S (.slice a 1 c) [k]) (h2 : LsE elI w S' (.slice b 1 d) [k]) :
 Calls Tryz.prog 25 #[.slice a 1 c, .slice b 1 d] w fun e w' => e = .returned (.bool true) ∧ Ext w w' := by
 obtain ⟨xb, xo, cs, rfl, -, -, ⟨rfl, hk⟩, hx⟩ := h1.at (i := 0) (x := k) rfl
 obtain ⟨yb, yo, cs, rfl, -, ⟨rfl, -⟩, hy⟩ := h2.at (i := 0) (x := k) rfl
 have x0 : w.cell? ⟨xb, xo, none⟩ = some (.int .i64 k) := hx 0 _ rfl
 have y0 : w.cell? ⟨yb, yo, none⟩ = some (.int .i64 k) := hy 0 _ rfl
 have := Tryz.slices_Equal_int xb xo 1 c yb yo 1 d [k] [k] w (by simp) (by simp) (by omega) (by omega) (fun j hj => by
  have : j = 0 := by simpa using hj
  subst this
  exact x0) (fun j hj => by
  have : j = 0 := by simpa using hj
  subst this
  exact y0)
 refine this.mono ?_
 rintro e w' ⟨rfl, q, rfl⟩
 exact ⟨by simp, Ext.then_drN2 (Ext.refl _)⟩

def genT (t : List Fmt) : List Fmt := t.mapIdx (fun j fm => genF fm.name fm.fields j)
theorem genT_len (t : List Fmt) : (genT t).length = t.length := by simp [genT]
theorem genT_at {t : List Fmt} {j : Nat} {fm : Fmt} (h : t[j]? = some fm) : (genT t)[j]? = some (genF fm.name fm.fields j) := by
 unfold genT
 rw [List.getElem?_mapIdx, h]
 rfl
theorem genT_get {t : List Fmt} {j : Nat} {gm : Fmt} (h : (genT t)[j]? = some gm) : ∃ fm, t[j]? = some fm ∧ gm = genF fm.name fm.fields j := by
 unfold genT at h
 rw [List.getElem?_mapIdx] at h
 cases h2 : t[j]? with
 | none => rw [h2] at h; cases h
 | some fm => rw [h2] at h; simp at h; exact ⟨fm, rfl, h.symm⟩
theorem findS_names {t u : List Fmt} (h : t.map (·.name) = u.map (·.name)) (nm : ByteArray) : findS t nm = findS u nm := by
 have e : ∀ l : List Fmt, l.findIdx? (fun f => f.name == nm) = (l.map (·.name)).findIdx? (fun s => s == nm) := fun l => by rw [List.findIdx?_map]; rfl
 unfold findS
 rw [e t, e u, h]
theorem genT_names (t : List Fmt) (i : Nat) : ((genT t).take i).map (·.name) = (t.take i).map (·.name) := by
 apply List.ext_getElem?
 intro j
 simp only [List.getElem?_map, List.getElem?_take]
 split
 · unfold genT
   rw [List.getElem?_mapIdx]
   cases t[j]? <;> rfl
 · rfl
theorem gen_valid {t : List Fmt} (hv : validF t = 0) (h5 : ∀ fm ∈ t, fm.fields.length ≤ 5 ∧ ∀ f ∈ fm.fields, f.kind ≠ 5) : validF (genT t) = 0 := by
 have h8 := valid_len hv
 unfold validF at hv ⊢
 rw [if_neg (by omega)] at hv
 rw [genT_len, if_neg (by omega)]
 refine err_zero fun j hj => ?_
 have h1 := errFrom_zero hv j hj
 obtain ⟨fm, hfm⟩ : ∃ fm, t[j]? = some fm := ⟨_, List.getElem?_eq_getElem hj⟩
 obtain ⟨h5a, h5b⟩ := h5 fm (List.mem_of_getElem? hfm)
 rw [fmtE_at hfm] at h1
 rw [fmtE_at (genT_at hfm)]
 unfold fmtErr at h1 ⊢
 have hnm : (genF fm.name fm.fields j).name = fm.name := rfl
 have hfl : (genF fm.name fm.fields j).fields = ⟨1, tagB j, 0, 0, 0⟩ :: fm.fields := rfl
 rw [hnm, findS_names (genT_names t j)]
 by_cases a1 : fnameOk fm.name = false
 · rw [if_pos a1] at h1; omega
 rw [if_neg a1] at h1 ⊢
 by_cases a2 : 0 ≤ findS (t.take j) fm.name
 · rw [if_pos a2] at h1; omega
 rw [if_neg a2] at h1 ⊢
 by_cases a3 : fm.fields.length = 0
 · rw [if_pos a3] at h1; omega
 rw [if_neg a3] at h1
 by_cases a4 : 6 < fm.fields.length
 · rw [if_pos a4] at h1; omega
 rw [if_neg a4] at h1
 rw [hfl, List.length_cons, if_neg (by omega), if_neg (by omega)]
 refine err_zero fun k hk => ?_
 cases k with
 | zero =>
   rw [fldE_at (x := ⟨1, tagB j, 0, 0, 0⟩) rfl]
   unfold fieldErr
   have e1 : shapeS ⟨1, tagB j, 0, 0, 0⟩ = true := by unfold shapeS; simp
   have e2 : ∀ l, rangesS ⟨1, tagB j, 0, 0, 0⟩ l = true := fun l => by unfold rangesS; simp [tagB_size]
   rw [e1, e2]
   simp
 | succ k =>
   obtain ⟨x, hx⟩ : ∃ x, fm.fields[k]? = some x := ⟨_, List.getElem?_eq_getElem (by omega)⟩
   have h2 := errFrom_zero h1 k (by omega)
   rw [fldE_at hx] at h2
   rw [fldE_at (x := x) (by rw [List.getElem?_cons_succ]; exact hx), List.length_cons]
   have hd : decide (k + 1 + 1 = fm.fields.length + 1) = decide (k + 1 = fm.fields.length) := by congr 1; simp
   rw [hd]
   unfold fieldErr at h2 ⊢
   by_cases b1 : shapeS x = false
   · rw [if_pos b1] at h2; omega
   rw [if_neg b1] at h2 ⊢
   by_cases b2 : rangesS x (decide (k + 1 = fm.fields.length)) = false
   · rw [if_pos b2] at h2; omega
   rw [if_neg b2, if_pos (h5b x (List.mem_of_getElem? hx))]
theorem gen_l (t : List Fmt) : GenL (t.map (·.name)) (t.map (·.fields)) (genT t) := by
 refine ⟨by rw [genT_len, List.length_map], fun j nm sh h1 h2 => ?_⟩
 rw [List.getElem?_map] at h1 h2
 cases h : t[j]? with
 | none => rw [h] at h1; cases h1
 | some fm =>
   rw [h] at h1 h2
   cases h1
   cases h2
   exact genT_at h
theorem gen_tab (t : List Fmt) : GTab (genT t) := fun j gm h => by
 obtain ⟨fm, -, rfl⟩ := genT_get h
 exact ⟨_, rfl, rfl, rfl⟩
theorem gen_plain {t : List Fmt} (h5 : ∀ fm ∈ t, fm.fields.length ≤ 5 ∧ ∀ f ∈ fm.fields, f.kind ≠ 5) {j : Nat} {gm : Fmt} (h : (genT t)[j]? = some gm) : ∀ f ∈ gm.fields, f.kind ≠ 5 := by
 obtain ⟨fm, hfm, rfl⟩ := genT_get h
 intro f hf
 rcases List.mem_cons.1 hf with rfl | hf
 · show (1 : Int) ≠ 5; omega
 · exact (h5 fm (List.mem_of_getElem? hfm)).2 f hf
/-- generated tables are tagged in the sense of P1 -/
theorem gen_tagP {t : List Fmt} (h8 : t.length ≤ 8) : TagP (genT t) := by
 refine ⟨fun i gm h => ?_, fun k i gk gi xk xi hki h1 h2 hx1 hx2 => ?_⟩
 · obtain ⟨f, h1, h2, -⟩ := gen_tab t i gm h
   exact ⟨f, h1, h2⟩
 · obtain ⟨f, a1, -, a3⟩ := gen_tab t k gk h1
   obtain ⟨g, b1, -, b3⟩ := gen_tab t i gi h2
   rw [a1] at hx1
   rw [b1] at hx2
   cases hx1
   cases hx2
   have hi := (List.getElem?_eq_some_iff.1 h2).1
   rw [genT_len] at hi
   rw [a3, b3]
   exact ⟨rfl, fun e => by have := tagB_inj (by omega) (by omega) e; omega⟩

theorem encFs_len {t : List Fmt} (hv : validF t = 0) : ∀ {F : List Fld} {X : List Vl}, (∀ f ∈ F, FGd t f) → ValsF t F X → (encFs t F X).length ≤ F.length * 2000
 | [], X, _, _ => by cases X <;> simp [encFs]
 | f :: F, [], _, h => by have := h.1; simp at this
 | f :: F, x :: X, h1, h3 => by
   have hx : ValF t f x := h3.2 0 f x rfl rfl
   have hl := (enc_ok hv (h1 f (by simp)) hx).2.1
   have ih := encFs_len hv (F := F) (X := X) (fun g hg => h1 g (by simp [hg])) ⟨by have := h3.1; simpa using this, fun k g y hg hy => h3.2 (k + 1) g y (by simpa using hg) (by simpa using hy)⟩
   rw [encFs, List.length_append, List.length_cons]
   omega
theorem rest_last {t : List Fmt} (hv : validF t = 0) {i : Nat} {fm : Fmt} (hi : t[i]? = some fm) {j : Nat} {f : Fld} (hf : fm.fields[j]? = some f) (h6 : f.kind = 6) : j + 1 = fm.fields.length := by
 rcases (valid_at hv hi).2.2 j f hf with h | h | h | h | h | ⟨-, h, -⟩
 iterate 5 (exact absurd h.1 (by omega))
 exact of_decide_eq_true h
theorem rest_ok {t : List Fmt} (hv : validF t = 0) {i : Nat} {fm : Fmt} (hi : t[i]? = some fm) {X : List Vl} (hV : ValsF t fm.fields X) {k ed : Nat} (hed : ed = k + (encFs t fm.fields X).length) : RestOk t fm.fields X k ed false := by
 intro j f x hf hx h6
 refine ⟨fun _ => ?_, fun h => by cases h⟩
 have hl := rest_last hv hi hf h6
 have h1 := encFs_take (t := t) hf hx
 rw [List.take_of_length_le (by omega), List.take_of_length_le (by rw [hV.1]; omega)] at h1
 have h2 : encF1 t f x = x.bytes.data.toList := by
  rw [encF1_p (by omega)]
  unfold encP1
  rw [if_neg (by omega), if_neg (by omega), if_neg (by omega)]
 rw [hed, h1, List.length_append, h2, Array.length_toList]
 show k + (_ + x.bytes.size) = _
 omega
theorem gen_head {t u : List Fmt} {nm : ByteArray} {sh : List Fld} {i : Nat} {X : List Vl} (hV : ValsF t (genF nm sh i).fields X) : ∃ r, encFs t (genF nm sh i).fields X = 1 :: i.toUInt8 :: r := by
 have hfl : (genF nm sh i).fields = ⟨1, tagB i, 0, 0, 0⟩ :: sh := rfl
 rw [hfl] at hV ⊢
 cases X with
 | nil => have := hV.1; simp at this
 | cons x X =>
   refine ⟨encFs t sh X, ?_⟩
   rw [encFs, encF1_p (show (1 : Int) ≠ 5 by omega)]
   unfold encP1
   rw [if_pos rfl]
   rfl
theorem gen_bad {s : ByteArray} {i k : Nat} {r : List UInt8} (h : s.data.toList = 1 :: i.toUInt8 :: r) (hi : i < 256) (hk : k < 256) (hne : k ≠ i) (hs : s.size ≤ 100000) : TagBad s 0 s.size 1 (tagB k) := by
 have hl : s.data.toList.length = s.size := by rw [Array.length_toList]; rfl
 rw [h] at hl
 simp only [List.length_cons] at hl
 have hat := at_list h
 refine ⟨by rw [tagB_size]; omega, by omega, Nat.le_refl _, hs, fun j h1 h2 h3 => ?_, fun h1 h2 => ?_⟩
 · have : j = 0 := by omega
   subst this
   have := hat.2 0 (by simp) h2
   rw [this]
   rfl
 · have := hat.2 1 (by simp) h2
   rw [this]
   show i.toUInt8 ≠ k.toUInt8
   intro e
   have := congrArg UInt8.toNat e
   simp at this
   omega
end Go.Proofs.YtfaienbdebjfcaaGreat
