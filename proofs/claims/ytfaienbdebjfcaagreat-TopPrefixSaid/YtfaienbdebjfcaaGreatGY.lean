/- Contracts: the reader of codec: nested; Decode and Prefix of any value's string. Contracts: codec.Decode and codec.Prefix of any value's string. Contracts: sealringref18.Same at two copies of a value. -/
import Derived.Test.YtfaienbdebjfcaaGreatGX
namespace Go.Proofs.YtfaienbdebjfcaaGreat
open Go Go.RowKit
set_option linter.unusedVariables false
set_option linter.unusedSimpArgs false

theorem at_head {s : ByteArray} {p : Nat} {b : UInt8} {l : List UInt8} (h : AtU s p (b :: l)) (hp : p < s.size) : s[p] = b := by
 have := h.2 0 (by simp) (by omega)
 simpa using this
set_option maxRecDepth 100000 in
set_option maxHeartbeats 4000000 in
theorem nested_ok {w : World} {B rb p ed : Nat} {a : Option Addr} {cap : Nat} {t : List Fmt} {f : Fld} {x : Vl} {s : ByteArray} (hv : validF t = 0) (hT : TabA w B a t) (hB : B ≤ rb) (hcap : t.length ≤ cap) (hcap2 : cap ≤ 9223372036854775807) (hg : FGd t f) (h5 : f.kind = 5) (hx : ValF t f x) (hat : AtU s p (encF1 t f x)) (hn : p + (encF1 t f x).length ≤ ed) (he : ed ≤ s.size) (hs : s.size ≤ 100000) (h : RdC w rb (.slice a t.length cap) s p false) :
 Calls Tryz.prog 106 #[.pointer (some ⟨rb, 0, none⟩), .int .i64 f.n, .int .i64 ed] w fun e w' => ∃ ka kc, e = .returned (.agg #[.string x.bytes, .int .i64 x.num, .slice ka x.kids.length kc]) ∧ RdC w' rb (.slice a t.length cap) s (p + (encF1 t f x).length) false ∧ w.grownBy w' (some rb) ∧ LsG elV0 w' (fun c => w.heap.size ≤ c) (.slice ka x.kids.length kc) x.kids := by
 obtain ⟨k, gm, hk, hgm, hG, hplain, hl6, hgd⟩ := nest_get hv hg h5
 obtain ⟨ex, hX⟩ : x = .mk ⟨#[]⟩ 0 x.kids ∧ ValsP gm.fields x.kids := by
  rcases hx with (g | g | g | g | g) | ⟨-, j, gm', e1, e2, e3, e4⟩
  iterate 5 (exact absurd g.1 (by omega))
  have : j = k := by omega
  subst this
  rw [hgm] at e2
  cases e2
  exact ⟨e3, e4⟩
 obtain ⟨X, hXX⟩ : ∃ X, X = x.kids := ⟨_, rfl⟩
 rw [← hXX] at hX
 have hlen97 := nested_len hv hg hx h5
 have hbn := hX
 unfold encF1 at hat hn hlen97 ⊢
 rw [if_pos h5, hG, ← hXX] at hat hn hlen97 ⊢
 have ex1 : x.bytes = ⟨#[]⟩ := by rw [ex]; rfl
 have ex2 : x.num = 0 := by rw [ex]; rfl
 rw [ex1, ex2]
 have hVF : ValsF t gm.fields X := ⟨hX.1, fun q g y h1 h2 => .inl (hX.2 q g y h1 h2)⟩
 have hpe : encFs t gm.fields X = encPs gm.fields X := encFs_p (fun g hg => (hplain g hg).1)
 have hbnd := encFs_bnd hVF
 rw [hpe] at hbnd
 obtain ⟨n, hnn⟩ : ∃ n, n = (encPs gm.fields X).length := ⟨_, rfl⟩
 rw [List.length_cons, ← hnn] at hn hlen97 ⊢
 rw [← hnn] at hat hbnd
 have hps : p < s.size := by omega
 have hbyte : s[p].toNat = n := by
  rw [at_head hat hps]
  simp [Nat.toUInt8]
  omega
 have hat2 : AtU s (p + 1) (encFs t gm.fields X) := by rw [hpe]; exact AtU.right (a := [n.toUInt8]) hat
 obtain ⟨lo, hlo⟩ : ∃ lo, lo = (bndT t gm.fields).1 := ⟨_, rfl⟩
 obtain ⟨hi, hhi⟩ : ∃ hi, hi = (bndT t gm.fields).2 := ⟨_, rfl⟩
 have hsz := h.lt
 obtain ⟨rx, w1, hrx, hw1, HX, hE1⟩ := box_new w (.cells #[.string ⟨#[]⟩, .int .i64 0, .slice none 0 0] 41)
 have HBD := Lib.hid (Bounds_any hv (hT.ext (by omega) hE1) (by have := hE1.size; omega) hcap hcap2 hgm)
 rw [← hlo, ← hhi] at HBD hbnd
 have HS : Hid (w.heap.size = rx ∧ rb < rx ∧ B ≤ rb) := Lib.hid ⟨by first | exact hrx | exact hrx.symm, by have : w.heap.size = rx := (by first | exact hrx | exact hrx.symm); omega, hB⟩
 have HE1 := Lib.hid hE1
 have hR1 := h.ext hE1
 have c0 := hR1.c0
 have HR1 := Lib.hid hR1
 have HT := Lib.hid hT
 have HFM := Lib.hid (fun w0 (hT0 : TabA w0 B a t) (h3 : RdC w0 rb (.slice a t.length cap) s (p + 1) false) => formatR_ok (E' := elE) (ed := p + 1 + n) (pre := false) hT0 hB h3 hgm hl6 hgd hVF hat2 (by rw [hpe, ← hnn]; exact Nat.le_refl _) (by omega) hs (fun j g y hg hy h6 => absurd h6 (hplain g (List.mem_of_getElem? hg)).2) (fun g y q hg hk5 => absurd hk5 (hplain g hg).1))
 rw [hpe, ← hnn] at HFM
 have HBY := Lib.hid hbyte
 have HBN := Lib.hid hbnd
 have HK := Lib.hid hk
 rw [hk]
 clear hv hT hcap hcap2 hg h5 hx hat h hgm hG hplain hgd ex ex1 ex2 hX hXX hbn hVF hpe hbnd hnn hbyte hat2 hlo hhi hR1 hE1 hk
 go_enter Tryz.func106, Tryz.ntmps106
 go_upto_region 1 with fail
 rw [← hw1, ← hrx]
 clear hw1 hrx
 go_wp2_with fail
 refine HBD.out.mono ?_
 rintro e w2 ⟨rfl, hE2⟩
 have hR2 := HR1.out.ext hE2
 have HX2 := Lib.hid (hs_ext hE2 HX.out)
 have HE2 := Lib.hid (HE1.out.trans hE2)
 have HNM := Lib.hid (number_ok hR2 hps (show p < ed by omega) hs (lo := lo) (hi := hi) (by rw [HBY.out]; exact HBN.out.1) (by rw [HBY.out]; exact HBN.out.2))
 rw [HBY.out] at HNM
 clear hR2 hE2 c0
 go_wp2_with fail
 refine HNM.out.mono ?_
 rintro e w3 ⟨rfl, hR3, hG3⟩
 have c2 := hR3.c2
 have c3 := hR3.c3
 have HR3 := Lib.hid hR3
 have HX3 := Lib.hid (gr_ne hG3 HX2.out (by have := HS.out; omega))
 have HG3 := Lib.hid (gr_trans (gr_ext HE2.out) hG3)
 have HFC := Lib.hid (HFM.out w3 (HT.out.below (below_gr HG3.out HS.out.2.2 (by have := HS.out; omega)) (Nat.le_refl _)) hR3)
 have hq1 : IntKind.i64.wrap ((ed : Int) - ((p + 1 : Nat) : Int)) = (ed : Int) - ((p + 1 : Nat) : Int) := by rw [IntKind.wrap_i64]; omega
 have hq2 : ¬ ((ed : Int) - ((p + 1 : Nat) : Int) < (n : Int)) := by omega
 have hq3 : IntKind.i64.wrap (((p + 1 : Nat) : Int) + (n : Int)) = ((p + 1 + n : Nat) : Int) := by rw [IntKind.wrap_i64]; omega
 clear hR3 hG3
 go_upto_region 9 with fail
 clear c2 c3
 go_wp2_with fail
 refine HFC.out.mono ?_
 rintro e w5 ⟨va, vc, rfl, hR5, hG5, hL5⟩
 obtain ⟨xb, w6, hxb, hw6, HX6, hE6⟩ := box_new w5 (.cells #[.string ⟨#[]⟩, .int .i64 0, .slice va X.length vc] 41)
 obtain ⟨v0, v1, v2⟩ := box3r HX6.out
 have hq := HS.out
 have hR6 := hR5.ext hE6
 have c2 := hR6.c2
 have c3 := hR6.c3
 have hx6 := hs_ext hE6 (gr_ne hG5 HX3.out (by omega))
 obtain ⟨y0, y1, y2⟩ := box3r hx6
 have fy0 : w6.frozen? ⟨rx, 0, none⟩ = false := frozenc hx6
 have fy1 : w6.frozen? ⟨rx, 1, none⟩ = false := frozenc hx6
 have fy2 : w6.frozen? ⟨rx, 2, none⟩ = false := frozenc hx6
 have HX7 := Lib.hid hx6
 have HR6 := Lib.hid hR6
 have HG6 := Lib.hid (gr_trans (gr_trans HG3.out hG5) (gr_ext hE6))
 have HL6 := Lib.hid (hL5.ext hE6)
 have HZ3 : Hid (w.heap.size < w3.heap.size) := Lib.hid (by have := (Array.getElem?_eq_some_iff.1 HX3.out).1; omega)
 have hnl : ¬ (((p + 1 + n : Nat) : Int) < ((p + 1 + n : Nat) : Int)) := by omega
 clear hq hx6 hR6 hR5 hG5 hE6 hL5
 go_upto_region 10 with fail
 rw [← hw6, ← hxb]
 clear hw6 hxb
 go_wp2_with fail
 refine ret_vl (g := rx) rfl rfl (set3v_box _ _ _ HX7.out) rfl ?_
 have hs := HS.out
 have hz := HZ3.out
 refine ⟨va, vc, rfl, ?_, gr_set2 (gr_set2 (gr_set2 HG6.out (by omega)) (by omega)) (by omega), ?_⟩
 · rw [show p + (n + 1) = p + 1 + n by omega]
   exact (set3v_other _ _ _ (by omega)).trans HR6.out
 · exact HL6.out.hold (fun c hc _ => set3v_other _ _ _ (by have h : w3.heap.size ≤ c := hc; have := (Array.getElem?_eq_some_iff.1 HX3.out).1; omega)) (fun c hc _ => by have h : w3.heap.size ≤ c := hc; show w.heap.size ≤ c; omega)

section
variable {w : World} {B : Nat} {a : Option Addr} {cap i : Nat} {t : List Fmt} {fm : Fmt} {s : ByteArray}
theorem Decode_val {X : List Vl} (hv : validF t = 0) (hT : TabA w B a t) (hB : B ≤ w.heap.size) (hcap : t.length ≤ cap) (hcap2 : cap ≤ 9223372036854775807) (hi : t[i]? = some fm) (hV : ValsF t fm.fields X) (hs : s.size ≤ 100000) (heq : s.data.toList = encFs t fm.fields X) :
 Calls Tryz.prog 12 #[.slice a t.length cap, .int .i64 i, .string s] w fun e w' => ∃ va vc, e = .returned (.tuple #[.agg #[.string ⟨#[]⟩, .int .i64 0, .slice va X.length vc], .int .i64 0, .int .i64 0]) ∧ Ext w w' ∧ LsG elV1 w' (fun c => w.heap.size ≤ c) (.slice va X.length vc) X :=
 Decode_ok hv hT hB hcap hcap2 hi hV hs heq (rest_ok hv hi hV (by rw [← heq, ba_len, Nat.zero_add]))
  (fun rb f x p w' h1 h2 hf h5 hx hat hn hT' hR => nested_ok hv hT' h1 hcap hcap2 (fields_gd hv hi f hf) h5 hx hat hn (Nat.le_refl _) hs hR)
set_option maxRecDepth 100000 in
set_option maxHeartbeats 1000000 in
theorem Prefix_val {X : List Vl} (hv : validF t = 0) (hT : TabA w B a t) (hB : B ≤ w.heap.size) (hcap : t.length ≤ cap) (hcap2 : cap ≤ 9223372036854775807) (hi : t[i]? = some fm) (hV : ValsF t fm.fields X) (hs : s.size ≤ 100000) (hat : AtU s 0 (encFs t fm.fields X)) (hrest : RestOk t fm.fields X 0 s.size true) :
 Calls Tryz.prog 17 #[.slice a t.length cap, .int .i64 i, .string s] w fun e w' => ∃ va vc, e = .returned (.tuple #[.agg #[.string ⟨#[]⟩, .int .i64 0, .slice va X.length vc], .int .i64 (encFs t fm.fields X).length, .int .i64 0]) ∧ Ext w w' ∧ LsG elV1 w' (fun c => w.heap.size ≤ c) (.slice va X.length vc) X := by
 obtain ⟨rx, w1, hrx, hw1, HX, hE1⟩ := box_new w (.cells #[.string ⟨#[]⟩, .int .i64 0, .slice none 0 0] 41)
 have HBD := Lib.hid (Bounds_any hv (hT.ext hB hE1) (Nat.le_trans hB hE1.size) hcap hcap2 hi)
 have HE1 := Lib.hid hE1
 have HS : Hid (w.heap.size = rx ∧ rx < w1.heap.size) := Lib.hid ⟨by first | exact hrx | exact hrx.symm, (Array.getElem?_eq_some_iff.1 HX.out).1⟩
 have HT := Lib.hid hT
 have hle : 0 + (encFs t fm.fields X).length ≤ s.size := by have := hat.1; omega
 have HFM := Lib.hid (fun rb w0 (hT0 : TabA w0 B a t) (hw : w.grownBy w0 none) (h1 : B ≤ rb) (h2 : w.heap.size ≤ rb) (h3 : RdC w0 rb (.slice a t.length cap) s 0 false) => formatR_ok (E' := elV0) (pre := true) hT0 h1 h3 hi (valid_at hv hi).2.1 (fields_gd hv hi) hV hat hle (Nat.le_refl _) hs hrest (fun f x p hf h5 hx ha hn w' hg hR => nested_ok hv (hT0.below (below_gr hg h1 (by have := h3.lt; omega)) (Nat.le_refl _)) h1 hcap hcap2 (fields_gd hv hi f hf) h5 hx ha hn (Nat.le_refl _) hs hR))
 obtain ⟨n, hn⟩ : ∃ n, n = (encFs t fm.fields X).length := ⟨_, rfl⟩
 rw [← hn, Nat.zero_add] at HFM
 rw [← hn]
 have HSS := Lib.hid hs
 clear hv hT hi hE1 hV hs hrest hat hle hn
 go_enter Tryz.func17, Tryz.ntmps17
 go_upto_region 1 with fail
 rw [← hw1, ← hrx]
 clear hw1 hrx
 go_wp2_with fail
 refine HBD.out.mono ?_
 rintro e w2 ⟨rfl, hE2⟩
 obtain ⟨rb, w3, hrb, hw3, HRB, hE3⟩ := box_new w2 (.cells #[.slice a t.length cap, .string s, .int .i64 0, .bool false] 98)
 have HE3 := Lib.hid (HE1.out.trans (hE2.trans hE3))
 have HX3 := Lib.hid (hs_ext (hE2.trans hE3) HX.out)
 have hrb2 : rb = w2.heap.size := by first | exact hrb | exact hrb.symm
 have HQ : Hid (rx < rb ∧ B ≤ rb ∧ w.heap.size ≤ rx ∧ rx < w3.heap.size) := Lib.hid ⟨by have := HS.out; have := hE2.size; omega, by have := HE1.out.size; have := hE2.size; omega, by have := HS.out; omega, (Array.getElem?_eq_some_iff.1 HX3.out).1⟩
 have HC := Lib.hid (HFM.out rb w3 (HT.out.ext hB HE3.out) (gr_ext HE3.out) HQ.out.2.1 (by have := HQ.out; omega) HRB.out)
 clear hE2 hE3 hrb2
 go_upto_region 5 with fail
 rw [← hw3, ← hrb]
 clear hw3 hrb
 go_wp2_with fail
 refine HC.out.mono ?_
 rintro e w5 ⟨va, vc, rfl, hR5, hG5, hL5⟩
 obtain ⟨xb, w6, hxb, hw6, HX6, hE6⟩ := box_new w5 (.cells #[.string ⟨#[]⟩, .int .i64 0, .slice va X.length vc] 41)
 have hq := HQ.out
 have hR6 := hR5.ext hE6
 have hx6 := hs_ext hE6 (gr_ne hG5 HX3.out (by omega))
 have HX7 := Lib.hid hx6
 have HR6 := Lib.hid hR6
 have c3 := hR6.c3
 have HE6 : Hid (Ext w w6) := Lib.hid ((HE3.out.grown hG5 (fun k e => by have e2 := Option.some.inj e; omega)).trans hE6)
 have HL6 := Lib.hid (hL5.ext hE6)
 have HSZ : Hid (w3.heap.size ≤ w5.heap.size ∧ w5.heap.size = xb) := Lib.hid ⟨hG5.size, by first | exact hxb | exact hxb.symm⟩
 clear hq hx6 hR6 hR5 hG5 hE6 hL5
 go_upto_region 6 with fail
 rw [← hw6, ← hxb]
 clear hw6 hxb
 go_upto_region 8 with fail
 clear c3
 obtain ⟨v0, v1, v2⟩ := box3r HX6.out
 obtain ⟨y0, y1, y2⟩ := box3r HX7.out
 have c2 := HR6.out.c2
 have fy0 : w6.frozen? ⟨rx, 0, none⟩ = false := frozenc HX7.out
 have fy1 : w6.frozen? ⟨rx, 1, none⟩ = false := frozenc HX7.out
 have fy2 : w6.frozen? ⟨rx, 2, none⟩ = false := frozenc HX7.out
 have c2s : (((w6.setCell ⟨rx, 0, none⟩ (.string ⟨#[]⟩)).setCell ⟨rx, 1, none⟩ (.int .i64 0)).setCell ⟨rx, 2, none⟩ (.slice va X.length vc)).cell? ⟨rb, 2, none⟩ = some (.int .i64 n) := by
  have hq := HQ.out
  rw [World.cell?_of_block (a := ⟨rb, 2, none⟩) (set3v_other _ _ _ (show rb ≠ rx by omega))]
  exact c2
 go_region
 all_goals
  go_wp2_with fail
  have hq := HQ.out
  refine ret_vl3 (g := rx) rfl rfl (set3v_box (.string ⟨#[]⟩) (.int .i64 0) (.slice va X.length vc) HX7.out) rfl ⟨va, vc, rfl, ?_, ?_⟩
  · exact Ext.then_dr (((HE6.out.setCell (by omega) _).setCell (by omega) _).setCell (by omega) _)
  · exact HL6.out.hold (fun c hc _ => set3v_other _ _ _ (by have h : w3.heap.size ≤ c := hc; omega)) (fun c hc _ => by have h : w3.heap.size ≤ c := hc; have := HE3.out.size; show w.heap.size ≤ c; omega)
end
end Go.Proofs.YtfaienbdebjfcaaGreat

namespace Go.Proofs.YtfaienbdebjfcaaGreat
open Go Go.RowKit
set_option linter.unusedVariables false
set_option linter.unusedSimpArgs false

theorem vlAt {E : Elm Vl} {w : World} {S : Nat → Prop} {a : Option Addr} {X : List Vl} {cap q : Nat} {x : Vl} (h : LsG (elVk E) w S (.slice a X.length cap) X) (hq : X[q]? = some x) :
 ∃ b off ka kc, a = some ⟨b, off, none⟩ ∧ w.cell? ⟨b, off + q * 3, none⟩ = some (.string x.bytes) ∧ w.cell? ⟨b, off + q * 3 + 1, none⟩ = some (.int .i64 x.num) ∧ w.cell? ⟨b, off + q * 3 + 2, none⟩ = some (.slice ka x.kids.length kc) ∧ LsG E w S (.slice ka x.kids.length kc) x.kids := by
 obtain ⟨b, off, cs, rfl, -, -, ⟨ka, kc, rfl, -, -, hk⟩, hcs⟩ := h.at hq
 exact ⟨b, off, ka, kc, rfl, hcs 0 _ rfl, hcs 1 _ rfl, hcs 2 _ rfl, hk⟩
/-- Same at two copies of a value of a kind -/
def SameC (E : Elm Vl) : Prop := ∀ (w : World) (S1 S2 : Nat → Prop) (b : ByteArray) (n : Int) (X : List Vl) (a1 a2 : Option Addr) (c1 c2 : Nat), LsG E w S1 (.slice a1 X.length c1) X → LsG E w S2 (.slice a2 X.length c2) X →
 Calls Tryz.prog 18 #[.agg #[.string b, .int .i64 n, .slice a1 X.length c1], .agg #[.string b, .int .i64 n, .slice a2 X.length c2]] w fun e w' => e = .returned (.bool true) ∧ Ext w w'
set_option maxRecDepth 100000 in
set_option maxHeartbeats 1000000 in
theorem same_zero : SameC elE := by
 intro w S1 S2 b n X a1 a2 c1 c2 h1 h2
 obtain rfl : X = [] := by
  cases X with
  | nil => rfl
  | cons x X =>
    obtain ⟨b, off, cs, -, -, -, hR, -⟩ := h1.at (i := 0) rfl
    exact hR.elim
 obtain ⟨xb, w1, hxb, hw1, HX, hE1⟩ := box_new w (.cells #[.string b, .int .i64 n, .slice a1 0 c1] 41)
 obtain ⟨yb, w2, hyb, hw2, HY, hE2⟩ := box_new w1 (.cells #[.string b, .int .i64 n, .slice a2 0 c2] 41)
 have hyb1 : yb = xb + 1 := by rw [hyb, hw1, World.size_alloc, hxb]
 obtain ⟨x0, x1, x2⟩ := box3r (hs_ext hE2 HX.out)
 obtain ⟨y0, y1, y2⟩ := box3r HY.out
 have HE2 := Lib.hid (hE1.trans hE2)
 clear hE1 hE2 h1 h2
 go_enter Tryz.func18, Tryz.ntmps18
 go_upto_region 1 with fail
 rw [← hw1, ← hxb, ← hw2, ← hyb1]
 clear hw1 hxb hw2 hyb1 hyb
 go_upto_region 4 with fail
 go_loopw [5] (fun iv wr => iv = .int .i64 0 ∧ wr = w2) (fun iv _ => 1)
 case atStart => exact ⟨rfl, rfl⟩
 case round =>
  obtain ⟨rfl, rfl⟩ := hrel
  go_wp2_with fail
  go_ret
  exact ⟨rfl, HE2.out⟩
set_option maxRecDepth 100000 in
set_option maxHeartbeats 4000000 in
theorem same_step {E : Elm Vl} (hIH : SameC E) : SameC (elVk E) := by
 intro w S1 S2 b n X a1 a2 c1 c2 h1 h2
 obtain ⟨xb, w1, hxb, hw1, HX, hE1⟩ := box_new w (.cells #[.string b, .int .i64 n, .slice a1 X.length c1] 41)
 obtain ⟨yb, w2, hyb, hw2, HY, hE2⟩ := box_new w1 (.cells #[.string b, .int .i64 n, .slice a2 X.length c2] 41)
 have hyb1 : yb = xb + 1 := by rw [hyb, hw1, World.size_alloc, hxb]
 obtain ⟨x0, x1, x2⟩ := box3r (hs_ext hE2 HX.out)
 obtain ⟨y0, y1, y2⟩ := box3r HY.out
 have HE2 := Lib.hid (hE1.trans hE2)
 have H1 := Lib.hid (h1.ext (hE1.trans hE2))
 have H2 := Lib.hid (h2.ext (hE1.trans hE2))
 have HIH := Lib.hid hIH
 obtain ⟨-, hl, -⟩ := h1.len
 obtain ⟨-, -, hc1⟩ := h1.len
 obtain ⟨-, -, hc2⟩ := h2.len
 unfold maxLen at hc1 hc2
 clear hE1 hE2 h1 h2 hIH
 go_enter Tryz.func18, Tryz.ntmps18
 go_upto_region 1 with fail
 rw [← hw1, ← hxb, ← hw2, ← hyb1]
 clear hw1 hxb hw2 hyb1 hyb
 go_upto_region 4 with fail
 have HX2 := Lib.hid (And.intro x2 y2)
 clear x0 x1 x2 y0 y1 y2
 go_loopw [5] (fun iv wr => ∃ q : Nat, iv = .int .i64 q ∧ q ≤ X.length ∧ Hid (Ext w2 wr)) (fun iv _ => X.length - (intOf iv).toNat)
 case atStart => exact ⟨0, rfl, by omega, Lib.hid (Ext.refl _)⟩
 case round =>
  obtain ⟨q, rfl, hq, HE⟩ := hrel
  have x2 := cs_ext HE.out HX2.out.1
  have y2 := cs_ext HE.out HX2.out.2
  by_cases hlt : q < X.length
  · have hqi : (q : Int) < (X.length : Int) := by omega
    have hq0 : (0 : Int) ≤ (q : Int) := by omega
    obtain ⟨x, hx⟩ : ∃ x, X[q]? = some x := ⟨_, List.getElem?_eq_getElem hlt⟩
    obtain ⟨b1, o1, k1, kc1, rfl, p0, p1, p2, hk1⟩ := vlAt (H1.out.ext HE.out) hx
    obtain ⟨b2, o2, k2, kc2, rfl, q0, q1, q2, hk2⟩ := vlAt (H2.out.ext HE.out) hx
    have HC := Lib.hid (fun (w' : World) (hE' : Ext wr w') => HIH.out w' S1 S2 x.bytes x.num x.kids k1 k2 kc1 kc2 (hk1.ext hE') (hk2.ext hE'))
    have hwk : IntKind.i64.wrap ((q : Int) + 1) = (q : Int) + 1 := by rw [IntKind.wrap_i64]; omega
    clear hx hk1 hk2
    go_upto_region 6 with fail
    have HFCT := Lib.hid (And.intro x2 (And.intro y2 (And.intro p0 (And.intro p1 (And.intro p2 (And.intro q0 (And.intro q1 q2)))))))
    refine wp_region_reg 12 false (by kernel_rfl) (by kernel_rfl) ?_
    refine reg_value (fun _ => rfl) ?_ (fun g w' vs hM hE hP => ?_) ?_
    rotate_left
    · (clear hP hM; go_simp; first | done | rfl)
    refine reg_value (fun _ => rfl) ?_ (fun g w' vs hM hE hP => ?_) ?_
    rotate_left
    · (clear hP hM; have ⟨z0, z1, z2, z3, z4, z5, z6, z7⟩ := cs_e8 hE HFCT.out; go_simp; first | done | rfl)
    refine reg_value (fun _ => rfl) ?_ (fun g w' vs hM hE hP => ?_) ?_
    rotate_left
    · (clear hP hM; go_simp; first | done | rfl)
    refine reg_value (fun _ => rfl) ?_ (fun g w' vs hM hE hP => ?_) ?_
    rotate_left
    · (clear hP hM; go_simp; first | done | rfl)
    refine reg_value (fun _ => rfl) ?_ (fun g w' vs hM hE hP => ?_) ?_
    rotate_left
    · (clear hP hM; have ⟨z0, z1, z2, z3, z4, z5, z6, z7⟩ := cs_e8 hE HFCT.out; go_simp; first | done | rfl)
    refine reg_value (fun _ => rfl) ?_ (fun g w' vs hM hE hP => ?_) ?_
    rotate_left
    · (clear hP hM; go_simp; first | done | rfl)
    refine reg_value (fun _ => rfl) ?_ (fun g w' vs hM hE hP => ?_) ?_
    rotate_left
    · (clear hP hM; have ⟨z0, z1, z2, z3, z4, z5, z6, z7⟩ := cs_e8 hE HFCT.out; go_simp; first | done | rfl)
    refine reg_value (fun _ => rfl) ?_ (fun g w' vs hM hE hP => ?_) ?_
    rotate_left
    · (clear hP hM; go_simp; first | done | rfl)
    refine reg_value (fun _ => rfl) ?_ (fun g w' vs hM hE hP => ?_) ?_
    rotate_left
    · (clear hP hM; go_simp; first | done | rfl)
    refine reg_value (fun _ => rfl) ?_ (fun g w' vs hM hE hP => ?_) ?_
    rotate_left
    · (clear hP hM; have ⟨z0, z1, z2, z3, z4, z5, z6, z7⟩ := cs_e8 hE HFCT.out; go_simp; first | done | rfl)
    refine reg_const (fun _ => rfl) 18 ?_ (fun g w' vs hM hE hP => ?_) ?_
    rotate_left
    · (clear hP hM; have ⟨z0, z1, z2, z3, z4, z5, z6, z7⟩ := cs_e8 hE HFCT.out; go_simp; first | done | exact ⟨rfl, rfl⟩ | rfl)
    apply Exists.intro
    refine And.intro (fun g w' vs hM hE hP => ?_) ?_
    · exact HC.out w' hE
    refine reg_value (fun _ => rfl) ?_ (fun g w' vs hM hE hP => ?_) ?_
    rotate_left
    · (clear hP hM; go_simp; first | done | rfl)
    intro g wn hEn hFn hQn
    simp only [List.drop_succ_cons, List.drop_zero, Act.put, List.setIfInBounds_toArray, List.set_cons_succ, List.set_cons_zero]
    have HEn := Lib.hid (HE.out.trans hEn)
    clear hEn hFn hQn
    go_wp2_with fail
    go_roundw
    case rel => exact ⟨q + 1, by go_num, by omega, HEn⟩
    case measure => simp [intOf]; omega
  · have hqi : ¬ (q : Int) < (X.length : Int) := by omega
    go_wp2_with fail
    go_ret
    exact ⟨rfl, HE2.out.trans HE.out⟩
theorem VSame_any {w : World} {S1 S2 : Nat → Prop} {X : List Vl} {a1 a2 : Option Addr} {c1 c2 : Nat} (h1 : LsG elV1 w S1 (.slice a1 X.length c1) X) (h2 : LsG elV1 w S2 (.slice a2 X.length c2) X) :
 Calls Tryz.prog 18 #[.agg #[.string ⟨#[]⟩, .int .i64 0, .slice a1 X.length c1], .agg #[.string ⟨#[]⟩, .int .i64 0, .slice a2 X.length c2]] w fun e w' => e = .returned (.bool true) ∧ Ext w w' :=
 same_step (same_step same_zero) w S1 S2 _ _ X a1 a2 c1 c2 h1 h2
end Go.Proofs.YtfaienbdebjfcaaGreat
