/- Tables as rows: elements of a kind; from rows to tables in memory. Contracts: bounds of formats. Contracts: numbers of strings: add, multiply, power. -/
import Derived.Test.YtfaienbdebjfcaaGreatG9
import Derived.Test.YtfaienbdebjfcaaGreatH1
import Derived.Test.YtfaienbdebjfcaaGreatYO
namespace Go.Proofs.YtfaienbdebjfcaaGreat
open Go Go.RowKit
set_option linter.unusedVariables false
set_option linter.unusedSimpArgs false

/-- fields -/
def elFld : Elm Fld where
 n := 5
 R w S x cs := cs = [.int .i64 x.kind, .string x.bytes, .int .i64 x.n, .int .i64 x.low, .int .i64 x.high] ∧ x.Wf
 len := by rintro w S t cs ⟨rfl, -⟩; rfl
 one := by rintro w S t cs ⟨rfl, -⟩ u hu; simp at hu; rcases hu with rfl | rfl | rfl | rfl | rfl <;> rfl
 keep := by rintro w w' S S' t cs ⟨rfl, h⟩ h1 h2; exact ⟨rfl, h⟩
/-- formats -/
def elFmt : Elm Fmt where
 n := 2
 R w S x cs := ∃ v, cs = [.string x.name, v] ∧ x.name.size ≤ maxLen ∧ LsG elFld w S v x.fields
 len := by rintro w S t cs ⟨v, rfl, -⟩; rfl
 one := by
  rintro w S t cs ⟨v, rfl, -, h⟩ u hu
  obtain ⟨a, cap, rfl, -⟩ := h
  simp at hu
  rcases hu with rfl | rfl <;> rfl
 keep := by
  rintro w w' S S' t cs ⟨v, rfl, hn, h⟩ h1 h2
  exact ⟨v, rfl, hn, h.hold h1 h2⟩
theorem flds_of {w : World} {S : Nat → Prop} {a : Option Addr} {n cap : Nat} {L : List Fld} (h : LsG elFld w S (.slice a n cap) L) : FldsA w w.heap.size a L := by
 obtain ⟨a', cap', e, h1, h2, h3⟩ := h
 cases e
 refine ⟨by omega, fun hne => ?_⟩
 obtain ⟨x, M, rfl⟩ : ∃ x M, L = x :: M := by cases L with | nil => exact absurd rfl hne | cons x M => exact ⟨x, M, rfl⟩
 obtain ⟨b, off, cs, rfl, -, hb, -, -⟩ := h3 0 x rfl
 refine ⟨b, off, rfl, hb, fun i f hi => ?_⟩
 obtain ⟨b', off', cs', e, -, -, ⟨rfl, hw⟩, hc⟩ := h3 i f hi
 cases e
 exact ⟨hc 0 _ rfl, hc 1 _ rfl, hc 2 _ rfl, hc 3 _ rfl, hc 4 _ rfl, hw⟩
theorem tab_of {w : World} {S : Nat → Prop} {a : Option Addr} {n cap : Nat} {t : List Fmt} (h : LsG elFmt w S (.slice a n cap) t) : TabA w w.heap.size a t := by
 obtain ⟨a', cap', e, h1, h2, h3⟩ := h
 cases e
 refine ⟨by omega, fun hne => ?_⟩
 obtain ⟨x, M, rfl⟩ : ∃ x M, t = x :: M := by cases t with | nil => exact absurd rfl hne | cons x M => exact ⟨x, M, rfl⟩
 obtain ⟨b, off, cs, rfl, -, hb, -, -⟩ := h3 0 x rfl
 refine ⟨b, off, rfl, hb, fun i f hi => ?_⟩
 obtain ⟨b', off', cs', e, -, -, ⟨v, rfl, hn, hv⟩, hc⟩ := h3 i f hi
 cases e
 obtain ⟨fa, fc, rfl, -, -⟩ := id hv.slice
 exact ⟨hc 0 _ rfl, ⟨fa, fc, hc 1 _ rfl, flds_of hv⟩, hn⟩

theorem bnd0_rng {t : List Fmt} {f : Fld} {b : Bool} (h : FOk t f b) (hk : f.kind ≠ 5) : 0 ≤ (bnd0 f).1 ∧ (bnd0 f).1 ≤ (bnd0 f).2 ∧ (bnd0 f).2 ≤ 1000 := by
 unfold bnd0
 rcases h with ⟨k, h⟩ | ⟨k, h⟩ | ⟨k, h⟩ | ⟨k, h⟩ | ⟨k, h⟩ | ⟨k, h⟩ <;> simp [k] <;> omega
theorem FOk.mono {t : List Fmt} {i : Nat} {f : Fld} {b : Bool} (h : FOk (t.take i) f b) : FOk t f b := by
 rcases h with h | h | h | h | ⟨k, j, g, h1, h2, h3⟩ | h
 · exact .inl h
 · exact .inr (.inl h)
 · exact .inr (.inr (.inl h))
 · exact .inr (.inr (.inr (.inl h)))
 · refine .inr (.inr (.inr (.inr (.inl ⟨k, j, g, h1, ?_, h3⟩))))
   rw [List.getElem?_take] at h2
   split at h2
   · exact h2
   · cases h2
 · exact .inr (.inr (.inr (.inr (.inr h))))
theorem bndL_rng {t : List Fmt} {L : List Fld} (h : ∀ x ∈ L, (∃ b, FOk t x b) ∧ x.kind ≠ 5) : ∀ k, k ≤ L.length → 0 ≤ (bndL (L.take k)).1 ∧ (bndL (L.take k)).1 ≤ (bndL (L.take k)).2 ∧ (bndL (L.take k)).2 ≤ 1000 * k := by
 intro k
 induction k with
 | zero => intro _; simp [bndL]
 | succ k ih =>
   intro hk
   have h1 := ih (by omega)
   have hx : L[k]? = some L[k] := List.getElem?_eq_getElem (by omega)
   rw [bndL_step hx]
   obtain ⟨⟨b, hb⟩, h5⟩ := h _ (List.getElem_mem (by omega : k < L.length))
   have h2 := bnd0_rng hb h5
   unfold addP
   simp only
   omega

set_option maxRecDepth 100000 in
set_option maxHeartbeats 2000000 in
theorem bounds0_any {w : World} {a : Option Addr} {n cap : Nat} {t : List Fmt} {f : Fld} {b : Bool} (h : FOk t f b) (hk : f.kind ≠ 5) :
 Calls Tryz.prog 39 #[.slice a n cap, .agg #[.int .i64 f.kind, .string f.bytes, .int .i64 f.n, .int .i64 f.low, .int .i64 f.high]] w fun e w' => e = .returned (.tuple #[.int .i64 (bnd0 f).1, .int .i64 (bnd0 f).2]) ∧ Ext w w' := by
 obtain ⟨bx, w1, hbx, hw1, HBX, hE1⟩ := box_new w (.cells #[.int .i64 f.kind, .string f.bytes, .int .i64 f.n, .int .i64 f.low, .int .i64 f.high] 59)
 have b0 : w1.cell? ⟨bx, 0, none⟩ = some (.int .i64 f.kind) := by rw [cellc HBX.out]; rfl
 have b1 : w1.cell? ⟨bx, 1, none⟩ = some (.string f.bytes) := by rw [cellc HBX.out]; rfl
 have b2 : w1.cell? ⟨bx, 2, none⟩ = some (.int .i64 f.n) := by rw [cellc HBX.out]; rfl
 have b3 : w1.cell? ⟨bx, 3, none⟩ = some (.int .i64 f.low) := by rw [cellc HBX.out]; rfl
 have b4 : w1.cell? ⟨bx, 4, none⟩ = some (.int .i64 f.high) := by rw [cellc HBX.out]; rfl
 have HE1 := Lib.hid hE1
 clear hE1
 obtain ⟨V, hV⟩ : ∃ V, V = bnd0 f := ⟨_, rfl⟩
 rw [← hV]
 unfold bnd0 at hV
 have HVE := Lib.hid hV
 clear hV
 go_enter Tryz.func39, Tryz.ntmps39
 go_upto_region 1 with fail
 rw [← hw1, ← hbx]
 clear hw1 hbx
 rcases h with ⟨k, h⟩ | ⟨k, h⟩ | ⟨k, h⟩ | ⟨k, h⟩ | ⟨k, h⟩ | ⟨k, h⟩
 · have HV1 : Hid (V = ((f.bytes.size : Int), (f.bytes.size : Int))) := Lib.hid (by rw [HVE.out, if_pos k])
   rw [k] at b0
   go_upto_region 3 with fail
   go_quiet (fail)
   generalize hwn : World.drewN w1 _ = wn
   have HEn : Hid (Ext w1 wn) := Lib.hid (by rw [← hwn]; exact Ext.then_drN2 (Ext.refl _))
   clear hwn
   go_wp2_with fail
   go_ret2
   exact ⟨by rw [HV1.out]; rfl, HE1.out.trans HEn.out⟩
 · have HV1 : Hid (V = (f.n, f.n)) := Lib.hid (by rw [HVE.out, if_neg (by omega), if_pos k])
   rw [k] at b0
   go_upto_region 5 with fail
   go_quiet (fail)
   generalize hwn : World.drewN w1 _ = wn
   have HEn : Hid (Ext w1 wn) := Lib.hid (by rw [← hwn]; exact Ext.then_drN2 (Ext.refl _))
   clear hwn
   go_wp2_with fail
   go_ret2
   exact ⟨by rw [HV1.out]; rfl, HE1.out.trans HEn.out⟩
 · have HV1 : Hid (V = (1, 1 + f.n)) := Lib.hid (by rw [HVE.out, if_neg (by omega), if_neg (by omega), if_pos k])
   rw [k] at b0
   go_upto_region 7 with fail
   go_quiet (fail)
   generalize hwn : World.drewN w1 _ = wn
   have HEn : Hid (Ext w1 wn) := Lib.hid (by rw [← hwn]; exact Ext.then_drN2 (Ext.refl _))
   clear hwn
   go_wp2_with fail
   go_ret2
   exact ⟨by rw [HV1.out]; rfl, HE1.out.trans HEn.out⟩
 · have HV1 : Hid (V = (1, 1)) := Lib.hid (by rw [HVE.out, if_neg (by omega), if_neg (by omega), if_neg (by omega), if_neg (by omega)])
   rw [k] at b0
   go_wp2_with fail
   go_ret2
   exact ⟨by rw [HV1.out]; rfl, HE1.out⟩
 · exact absurd k hk
 · have HV1 : Hid (V = (f.low, f.high)) := Lib.hid (by rw [HVE.out, if_neg (by omega), if_neg (by omega), if_neg (by omega), if_pos k])
   rw [k] at b0
   go_upto_region 18 with fail
   go_quiet (fail)
   generalize hwn : World.drewN w1 _ = wn
   have HEn : Hid (Ext w1 wn) := Lib.hid (by rw [← hwn]; exact Ext.then_drN2 (Ext.refl _))
   clear hwn
   go_wp2_with fail
   go_ret2
   exact ⟨by rw [HV1.out]; rfl, HE1.out.trans HEn.out⟩

set_option maxRecDepth 100000 in
set_option maxHeartbeats 4000000 in
theorem bounds_any {w : World} {B : Nat} {a : Option Addr} {cap : Nat} {t : List Fmt} {f : Fld} {b : Bool} (hv : validF t = 0) (hT : TabA w B a t) (hB : B ≤ w.heap.size) (h : FOk t f b) :
 Calls Tryz.prog 39 #[.slice a t.length cap, .agg #[.int .i64 f.kind, .string f.bytes, .int .i64 f.n, .int .i64 f.low, .int .i64 f.high]] w fun e w' => e = .returned (.tuple #[.int .i64 (bndF t f).1, .int .i64 (bndF t f).2]) ∧ Ext w w' := by
 by_cases hk : f.kind = 5
 · obtain ⟨k, g, hn, hg, hpl⟩ : ∃ (k : Nat) (g : Fmt), f.n = (k : Int) ∧ t[k]? = some g ∧ ∀ x ∈ g.fields, x.kind ≠ 5 ∧ x.kind ≠ 6 := by
    rcases h with ⟨k, h⟩ | ⟨k, h⟩ | ⟨k, h⟩ | ⟨k, h⟩ | ⟨k, h⟩ | ⟨k, h⟩
    · omega
    · omega
    · omega
    · omega
    · exact h
    · omega
   have hbf : bndF t f = addP (1, 1) (bndL g.fields) := by
    unfold bndF
    rw [if_pos hk, List.getD_eq_getElem?_getD, hn, Int.toNat_natCast, hg]; rfl
   rw [hbf]
   obtain ⟨hne, h6, hfo⟩ := valid_at hv hg
   have hkl := (List.getElem?_eq_some_iff.1 hg).1
   have HFO : Hid (∀ (q : Nat) x, g.fields[q]? = some x → ∃ b, FOk t x b) := Lib.hid (fun q x hx => ⟨_, (hfo q x hx).mono⟩)
   have HRG := Lib.hid (bndL_rng (t := t) (L := g.fields) (fun x hx => by
    obtain ⟨q, hq⟩ := List.mem_iff_getElem?.1 hx
    exact ⟨HFO.out q x hq, (hpl x hx).1⟩))
   have HPL := Lib.hid hpl
   have HL6 := Lib.hid h6
   obtain ⟨bx, w1, hbx, hw1, HBX, hE1⟩ := box_new w (.cells #[.int .i64 f.kind, .string f.bytes, .int .i64 f.n, .int .i64 f.low, .int .i64 f.high] 59)
   have b0 : w1.cell? ⟨bx, 0, none⟩ = some (.int .i64 5) := by rw [cellc HBX.out, ← hk]; rfl
   have b2 : w1.cell? ⟨bx, 2, none⟩ = some (.int .i64 (k : Int)) := by rw [cellc HBX.out, ← hn]; rfl
   have hT1 := hT.ext hB hE1
   obtain ⟨tb, toff, fa, fcap, rfl, htb, t0, t1, hFA, -⟩ := hT1.at' hg
   have HT1 := Lib.hid hT1
   have HFA := Lib.hid hFA
   have HB1 : Hid (B ≤ w1.heap.size) := Lib.hid (Nat.le_trans hB hE1.size)
   have HE1 := Lib.hid hE1
   have hki : (k : Int) < (t.length : Int) := by omega
   have hk0 : (0 : Int) ≤ (k : Int) := by omega
   have HG := Lib.hid hg
   clear hE1 hv hT hB h hfo hne h6 hpl hT1 hFA hbf hg t0 hk hn
   go_enter Tryz.func39, Tryz.ntmps39
   go_upto_region 1 with fail
   rw [← hw1, ← hbx]
   clear hw1 hbx
   go_wp2_with fail
   go_loopw [6, 7, 9, 10, 11, 42] (fun lv hv x9 x10 x11 kv wr => ∃ (q : Nat) (L H : Int), kv = .int .i64 q ∧ lv = .int .i64 L ∧ hv = .int .i64 H ∧ q ≤ g.fields.length ∧ Hid ((L, H) = addP (1, 1) (bndL (g.fields.take q))) ∧ Hid (Ext w1 wr)) (fun lv hv x9 x10 x11 kv _ => g.fields.length - (intOf kv).toNat)
   case atStart => exact ⟨0, 1, 1, rfl, rfl, rfl, by omega, Lib.hid rfl, Lib.hid (Ext.refl _)⟩
   case round =>
    obtain ⟨q, L, H, rfl, rfl, rfl, hq, HLH, HE⟩ := hrel
    by_cases hlt : q < g.fields.length
    · obtain ⟨x, hx⟩ : ∃ x, g.fields[q]? = some x := ⟨_, List.getElem?_eq_getElem hlt⟩
      obtain ⟨fb, foff, rfl, hfb, hFX⟩ := (HFA.out.ext HB1.out HE.out).get' hx
      obtain ⟨x0, x1, x2, x3, x4, hxw⟩ := hFX
      obtain ⟨ob, wq, hob, hwq, HBO, hEq⟩ := box_new wr (.cells #[.int .i64 x.kind, .string x.bytes, .int .i64 x.n, .int .i64 x.low, .int .i64 x.high] 59)
      have z0 : wq.cell? ⟨ob, 0, none⟩ = some (.int .i64 x.kind) := by rw [cellc HBO.out]; rfl
      have z1 : wq.cell? ⟨ob, 1, none⟩ = some (.string x.bytes) := by rw [cellc HBO.out]; rfl
      have z2 : wq.cell? ⟨ob, 2, none⟩ = some (.int .i64 x.n) := by rw [cellc HBO.out]; rfl
      have z3 : wq.cell? ⟨ob, 3, none⟩ = some (.int .i64 x.low) := by rw [cellc HBO.out]; rfl
      have z4 : wq.cell? ⟨ob, 4, none⟩ = some (.int .i64 x.high) := by rw [cellc HBO.out]; rfl
      obtain ⟨b', hb'⟩ := HFO.out q x hx
      have h5 := (HPL.out x (List.mem_of_getElem? hx)).1
      have HC := Lib.hid (bounds0_any (w := wq) (a := some ⟨tb, toff, none⟩) (n := t.length) (cap := cap) hb' h5)
      have hbr := bnd0_rng hb' h5
      have hst := bndL_step hx
      have hlr := HRG.out q (by omega)
      have hlh := HLH.out
      unfold addP at hlh
      simp only [Prod.mk.injEq] at hlh
      obtain ⟨p, hp⟩ : ∃ p, p = bnd0 x := ⟨_, rfl⟩
      rw [← hp] at HC hbr hst
      have hL6 := HL6.out
      have hw1 : IntKind.i64.wrap (L + p.1) = L + p.1 := by rw [IntKind.wrap_i64]; omega
      have hw2 : IntKind.i64.wrap (H + p.2) = H + p.2 := by rw [IntKind.wrap_i64]; omega
      have HLN : Hid ((L + p.1, H + p.2) = addP (1, 1) (bndL (g.fields.take (q + 1)))) := Lib.hid (by
       rw [hst]
       unfold addP
       simp only [Prod.mk.injEq]
       omega)
      have HEQ := Lib.hid (HE.out.trans hEq)
      clear hx hb' h5 hbr hst hlr hlh hp hEq hxw
      go_upto_region 13 with fail
      rw [← hwq, ← hob]
      clear hwq hob x0 x1 x2 x3 x4
      go_wp2_with fail
      refine HC.out.mono ?_
      rintro e wa ⟨rfl, hEa⟩
      have HEA := Lib.hid (HEQ.out.trans hEa)
      clear hEa z0 z1 z2 z3 z4
      go_wp2_with fail
      go_roundw
      case rel => exact ⟨q + 1, L + p.1, H + p.2, by go_num, rfl, rfl, by omega, HLN, HEA⟩
      case measure => simp [intOf]; omega
    · have HLN : Hid ((L, H) = addP (1, 1) (bndL g.fields)) := Lib.hid (by have := HLH.out; rwa [List.take_of_length_le (by omega)] at this)
      go_wp2_with fail
      go_ret2
      exact ⟨by rw [← HLN.out]; rfl, HE1.out.trans HE.out⟩
 · have hbf : bndF t f = bnd0 f := by unfold bndF; rw [if_neg hk]
   rw [hbf]
   exact bounds0_any h hk

theorem bndF_rng {t : List Fmt} {f : Fld} {b : Bool} (hv : validF t = 0) (h : FOk t f b) : 0 ≤ (bndF t f).1 ∧ (bndF t f).1 ≤ (bndF t f).2 ∧ (bndF t f).2 ≤ 7000 := by
 by_cases hk : f.kind = 5
 · obtain ⟨k, g, hn, hg, hpl⟩ : ∃ (k : Nat) (g : Fmt), f.n = (k : Int) ∧ t[k]? = some g ∧ ∀ x ∈ g.fields, x.kind ≠ 5 ∧ x.kind ≠ 6 := by
    rcases h with ⟨k, h⟩ | ⟨k, h⟩ | ⟨k, h⟩ | ⟨k, h⟩ | ⟨k, h⟩ | ⟨k, h⟩
    · omega
    · omega
    · omega
    · omega
    · exact h
    · omega
   have hbf : bndF t f = addP (1, 1) (bndL g.fields) := by
    unfold bndF
    rw [if_pos hk, List.getD_eq_getElem?_getD, hn, Int.toNat_natCast, hg]; rfl
   obtain ⟨hne, h6, hfo⟩ := valid_at hv hg
   have h1 := bndL_rng (t := t) (L := g.fields) (fun x hx => by
    obtain ⟨q, hq⟩ := List.mem_iff_getElem?.1 hx
    exact ⟨⟨_, (hfo q x hq).mono⟩, (hpl x hx).1⟩) g.fields.length (Nat.le_refl _)
   rw [List.take_length] at h1
   rw [hbf]
   unfold addP
   simp only
   omega
 · have hbf : bndF t f = bnd0 f := by unfold bndF; rw [if_neg hk]
   rw [hbf]
   have := bnd0_rng h hk
   omega
theorem bndT_rng {t : List Fmt} {L : List Fld} (hv : validF t = 0) (h : ∀ x ∈ L, ∃ b, FOk t x b) : ∀ k, k ≤ L.length → 0 ≤ (bndT t (L.take k)).1 ∧ (bndT t (L.take k)).1 ≤ (bndT t (L.take k)).2 ∧ (bndT t (L.take k)).2 ≤ 7000 * k := by
 intro k
 induction k with
 | zero => intro _; simp [bndT]
 | succ k ih =>
   intro hk
   have h1 := ih (by omega)
   have hx : L[k]? = some L[k] := List.getElem?_eq_getElem (by omega)
   rw [bndT_step hx]
   obtain ⟨b, hb⟩ := h _ (List.getElem_mem (by omega : k < L.length))
   have h2 := bndF_rng hv hb
   unfold addP
   simp only
   omega
theorem fields_ok {t : List Fmt} (hv : validF t = 0) {i : Nat} {fm : Fmt} (hi : t[i]? = some fm) : ∀ x ∈ fm.fields, ∃ b, FOk t x b := fun x hx => by
 obtain ⟨q, hq⟩ := List.mem_iff_getElem?.1 hx
 exact ⟨_, ((valid_at hv hi).2.2 q x hq).mono⟩

set_option maxRecDepth 100000 in
set_option maxHeartbeats 4000000 in
/-- Bounds at a table without errors -/
theorem Bounds_any {w : World} {B : Nat} {a : Option Addr} {cap : Nat} {t : List Fmt} {i : Nat} {fm : Fmt} (hv : validF t = 0) (hT : TabA w B a t) (hB : B ≤ w.heap.size) (hcap : t.length ≤ cap) (hcap2 : cap ≤ 9223372036854775807) (hi : t[i]? = some fm) :
 Calls Tryz.prog 8 #[.slice a t.length cap, .int .i64 i] w fun e w' => e = .returned (.tuple #[.int .i64 (bndT t fm.fields).1, .int .i64 (bndT t fm.fields).2, .int .i64 0]) ∧ Ext w w' := by
 have HVC := Lib.hid (FValid_any hT hB hcap hcap2)
 rw [hv] at HVC
 have HV := Lib.hid hv
 have hil := (List.getElem?_eq_some_iff.1 hi).1
 have h8 := valid_len hv
 have HFO := Lib.hid (fields_ok hv hi)
 have HRG := Lib.hid (bndT_rng hv HFO.out)
 have h6 := (valid_at hv hi).2.1
 obtain ⟨tb, toff, fa, fcap, rfl, htb, t0, t1, hFA, -⟩ := hT.at' hi
 have HT := Lib.hid hT
 have HFA := Lib.hid hFA
 have HB := Lib.hid hB
 have hi0 : (0 : Int) ≤ (i : Int) := by omega
 have hd0 : decide ((i : Int) < 0) = false := decide_eq_false (by omega)
 have hd1 : decide (t.length ≤ i) = false := decide_eq_false (by omega)
 have hi1 : (i : Int) < (t.length : Int) := by omega
 clear hT hFA hB hi hv t0
 go_enter Tryz.func8, Tryz.ntmps8
 go_wp2_with fail
 refine HVC.out.mono ?_
 rintro e w1 ⟨rfl, hE1⟩
 have t1 := cs_ext hE1 t1
 have HE1 := Lib.hid hE1
 clear hE1
 go_wp2_with fail
 go_loopw [8, 9, 11, 12, 13, 33] (fun lv hv x11 x12 x13 kv wr => ∃ (q : Nat) (L H : Int), kv = .int .i64 q ∧ lv = .int .i64 L ∧ hv = .int .i64 H ∧ q ≤ fm.fields.length ∧ Hid ((L, H) = bndT t (fm.fields.take q)) ∧ Hid (Ext w1 wr)) (fun lv hv x11 x12 x13 kv _ => fm.fields.length - (intOf kv).toNat)
 case atStart => exact ⟨0, 0, 0, rfl, rfl, rfl, by omega, Lib.hid rfl, Lib.hid (Ext.refl _)⟩
 case round =>
  obtain ⟨q, L, H, rfl, rfl, rfl, hq, HLH, HE⟩ := hrel
  by_cases hlt : q < fm.fields.length
  · obtain ⟨x, hx⟩ : ∃ x, fm.fields[q]? = some x := ⟨_, List.getElem?_eq_getElem hlt⟩
    obtain ⟨fb, foff, rfl, hfb, hFX⟩ := (HFA.out.ext HB.out (HE1.out.trans HE.out)).get' hx
    obtain ⟨x0, x1, x2, x3, x4, hxw⟩ := hFX
    obtain ⟨ob, wq, hob, hwq, HBO, hEq⟩ := box_new wr (.cells #[.int .i64 x.kind, .string x.bytes, .int .i64 x.n, .int .i64 x.low, .int .i64 x.high] 59)
    have z0 : wq.cell? ⟨ob, 0, none⟩ = some (.int .i64 x.kind) := by rw [cellc HBO.out]; rfl
    have z1 : wq.cell? ⟨ob, 1, none⟩ = some (.string x.bytes) := by rw [cellc HBO.out]; rfl
    have z2 : wq.cell? ⟨ob, 2, none⟩ = some (.int .i64 x.n) := by rw [cellc HBO.out]; rfl
    have z3 : wq.cell? ⟨ob, 3, none⟩ = some (.int .i64 x.low) := by rw [cellc HBO.out]; rfl
    have z4 : wq.cell? ⟨ob, 4, none⟩ = some (.int .i64 x.high) := by rw [cellc HBO.out]; rfl
    obtain ⟨b', hb'⟩ := HFO.out x (List.mem_of_getElem? hx)
    have HC := Lib.hid (bounds_any (w := wq) (cap := cap) HV.out (HT.out.ext HB.out (HE1.out.trans (HE.out.trans hEq))) (Nat.le_trans HB.out (HE1.out.trans (HE.out.trans hEq)).size) hb')
    have hbr := bndF_rng HV.out hb'
    have hst := bndT_step (t := t) hx
    have hlr := HRG.out q (by omega)
    have hlh := HLH.out
    rw [← hlh] at hlr
    obtain ⟨p, hp⟩ : ∃ p, p = bndF t x := ⟨_, rfl⟩
    rw [← hp] at HC hbr hst
    simp only at hlr
    have hw1 : IntKind.i64.wrap (L + p.1) = L + p.1 := by rw [IntKind.wrap_i64]; omega
    have hw2 : IntKind.i64.wrap (H + p.2) = H + p.2 := by rw [IntKind.wrap_i64]; omega
    have HLN : Hid ((L + p.1, H + p.2) = bndT t (fm.fields.take (q + 1))) := Lib.hid (by rw [hst, ← hlh]; rfl)
    have HEQ := Lib.hid (HE.out.trans hEq)
    clear hx hb' hbr hst hlr hlh hp hEq hxw
    go_upto_region 10 with fail
    rw [← hwq, ← hob]
    clear hwq hob x0 x1 x2 x3 x4
    go_wp2_with fail
    refine HC.out.mono ?_
    rintro e wa ⟨rfl, hEa⟩
    have HEA := Lib.hid (HEQ.out.trans hEa)
    clear hEa z0 z1 z2 z3 z4
    go_wp2_with fail
    go_roundw
    case rel => exact ⟨q + 1, L + p.1, H + p.2, by go_num, rfl, rfl, by omega, HLN, HEA⟩
    case measure => simp [intOf]; omega
  · have HLN : Hid ((L, H) = bndT t fm.fields) := Lib.hid (by have := HLH.out; rwa [List.take_of_length_le (by omega)] at this)
    go_wp2_with fail
    go_ret3
    exact ⟨by rw [← HLN.out]; rfl, HE1.out.trans HE.out⟩

/-- a number of strings, at most one more than the greatest one -/
def CapI (x : Int) : Prop := 0 ≤ x ∧ x ≤ 4611686018427387905
end Go.Proofs.YtfaienbdebjfcaaGreat
