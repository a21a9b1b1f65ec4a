/- Contracts: format.Tagged, Generate. Contracts: format.Generate. -/
import Derived.Test.YtfaienbdebjfcaaGreatGT
import Derived.Test.YtfaienbdebjfcaaGreatGC
namespace Go.Proofs.YtfaienbdebjfcaaGreat
open Go Go.RowKit
open Go.Maps (Keyed)
set_option linter.unusedVariables false
set_option linter.unusedSimpArgs false

abbrev SKey := { k : ByteArray // k.size ≤ maxLen }
def encSK (k : SKey) : Value := .string k.1
theorem lawSK : Keyed Tryz.prog 9 := Maps.string_keyed Tryz.underlying9
theorem keySK (x : SKey) : ∃ l, keyOf Tryz.prog 9 (encSK x) = some l := by
 obtain ⟨x, h1⟩ := x
 refine ⟨.string x.data.toList, ?_⟩
 simp [keyOf, Tryz.underlying9, mapKey, encSK, h1]
theorem encSK_inj (x y : SKey) (h : encSK x = encSK y) : x = y := by
 simp [encSK] at h
 exact Subtype.ext h
theorem zeroB4 (w : World) : (zeroValue 4).run Tryz.prog w = .ok (.bool false) w := by kernel_rfl
/-- the tag of format j -/
def tagB (j : Nat) : ByteArray := ⟨#[1, j.toUInt8]⟩
theorem tagB_size (j : Nat) : (tagB j).size = 2 := rfl
theorem tagB_inj {j k : Nat} (hj : j < 256) (hk : k < 256) (h : tagB j = tagB k) : j = k := by
 unfold tagB at h
 simp only [ByteArray.mk.injEq] at h
 have := congrArg (fun a : Array UInt8 => a[1]?) h
 simp at this
 have := congrArg UInt8.toNat this
 simp at this
 omega
/-- tables whose formats begin with their tags -/
def GTab (t : List Fmt) : Prop := ∀ (j : Nat) fm, t[j]? = some fm → ∃ f, fm.fields[0]? = some f ∧ f.kind = 1 ∧ f.bytes = tagB j
def tagL (k : Nat) : List ByteArray := (List.range k).map tagB
theorem tagL_no {k : Nat} (hk : k < 256) : tagB k ∉ tagL k := by
 unfold tagL
 intro h
 obtain ⟨j, hj, e⟩ := List.mem_map.1 h
 have := List.mem_range.1 hj
 have := tagB_inj (by omega) hk e
 omega
theorem tagL_succ (k : Nat) : tagL (k + 1) = tagL k ++ [tagB k] := by unfold tagL; rw [List.range_succ, List.map_append]; rfl
set_option maxRecDepth 100000 in
set_option maxHeartbeats 2000000 in
theorem Tagged_gen {w : World} {B : Nat} {a : Option Addr} {cap : Nat} {t : List Fmt} (hv : validF t = 0) (hT : TabA w B a t) (hB : B ≤ w.heap.size) (hcap : t.length ≤ cap) (hcap2 : cap ≤ 9223372036854775807) (hG : GTab t) :
 Calls Tryz.prog 22 #[.slice a t.length cap] w fun e w' => e = .returned (.bool true) ∧ Ext w w' := by
 have HVC := Lib.hid (FValid_any hT hB hcap hcap2)
 rw [hv] at HVC
 have h8 := valid_len hv
 have HT := Lib.hid hT
 have HG := Lib.hid hG
 have HV := Lib.hid hv
 clear hT hv hG
 go_enter Tryz.func22, Tryz.ntmps22
 go_wp2_with fail
 refine HVC.out.mono ?_
 rintro e w2 ⟨rfl, hE2⟩
 obtain ⟨mb, w3, hmb, hw3, HM, hE3⟩ := box_new w2 (.map #[] 0)
 have hmk : (Instr.makeMap 107 none).run Tryz.prog w2 = .ok (.map (some mb)) w3 := by rw [hw3, hmb]; rfl
 have HE3 := Lib.hid (hE2.trans hE3)
 have HM0 : Hid (∃ n, MapK encSK w3 mb n (fun x => inB (tagL 0) x.1)) := Lib.hid ⟨0, MapK.made_at HM.out⟩
 have HMS : Hid (w.heap.size ≤ mb) := Lib.hid (by have h1 : mb = w2.heap.size := (by first | exact hmb | exact hmb.symm); have := hE2.size; omega)
 clear hE2 hE3 hw3 hmb
 go_upto_region 4 with fail
 clear hmk
 go_upto_region 5 with fail
 go_loopw [5, 6, 13] (fun _ _ kv wr => ∃ k : Nat, kv = .int .i64 k ∧ k ≤ t.length ∧ Hid (Ext w wr) ∧ Hid (∃ n, MapK encSK wr mb n (fun x => inB (tagL k) x.1))) (fun _ _ kv _ => t.length - (intOf kv).toNat)
 case atStart => exact ⟨0, rfl, by omega, HE3, HM0⟩
 case round =>
  obtain ⟨k, rfl, hk, HE, HMK⟩ := hrel
  by_cases hlt : k < t.length
  · have hki : (k : Int) < (t.length : Int) := by omega
    have hk0 : (0 : Int) ≤ (k : Int) := by omega
    obtain ⟨fm, hfm⟩ : ∃ fm, t[k]? = some fm := ⟨_, List.getElem?_eq_getElem hlt⟩
    obtain ⟨fm0, hfm0⟩ : ∃ fm, t[0]? = some fm := ⟨_, List.getElem?_eq_getElem (by omega)⟩
    obtain ⟨f, hf, hf1, hfb⟩ := HG.out k fm hfm
    obtain ⟨f0, hf0, hf01, hf0b⟩ := HG.out 0 fm0 hfm0
    obtain ⟨tb, toff, fa, fcap, rfl, htb, n0, n1, hFL, -⟩ := (HT.out.ext hB HE.out).at hfm
    obtain ⟨tb', toff', fa0, fcap0, e0, -, -, m1, hFL0, -⟩ := (HT.out.ext hB HE.out).at hfm0
    cases e0
    simp only [Nat.zero_mul, Nat.add_zero] at m1
    obtain ⟨fb, foff, rfl, -, hX⟩ := hFL.get' hf
    obtain ⟨x0, x1, x2, x3, x4, -⟩ := hX
    obtain ⟨gb, goff, rfl, -, hY⟩ := hFL0.get' hf0
    obtain ⟨y0, y1, y2, y3, y4, -⟩ := hY
    simp only [Nat.zero_mul, Nat.add_zero] at x0 x1 x2 x3 x4 y0 y1 y2 y3 y4
    have hl1 : (0 : Int) < (fm.fields.length : Int) := by have := (List.getElem?_eq_some_iff.1 hf).1; omega
    have hl2 : (0 : Int) < (fm0.fields.length : Int) := by have := (List.getElem?_eq_some_iff.1 hf0).1; omega
    have ht0 : (0 : Int) < (t.length : Int) := by omega
    rw [hf1] at x0
    rw [hfb] at x1
    rw [hf0b] at y1
    obtain ⟨pb, w5, hpb, hw5, HP, hE5⟩ := box_new wr (.cells #[.string fm.name, .slice (some ⟨fb, foff, none⟩) fm.fields.length fcap] 56)
    obtain ⟨qb, w6, hqb, hw6, HQ, hE6⟩ := box_new w5 (.cells #[.int .i64 1, .string (tagB k), .int .i64 f.n, .int .i64 f.low, .int .i64 f.high] 59)
    have p0 : w5.cell? ⟨pb, 0, none⟩ = some (.string fm.name) := by rw [cellc HP.out]; rfl
    have p1 : w5.cell? ⟨pb, 1, none⟩ = some (.slice (some ⟨fb, foff, none⟩) fm.fields.length fcap) := by rw [cellc HP.out]; rfl
    have q0 : w6.cell? ⟨qb, 0, none⟩ = some (.int .i64 1) := by rw [cellc HQ.out]; rfl
    have q1 : w6.cell? ⟨qb, 1, none⟩ = some (.string (tagB k)) := by rw [cellc HQ.out]; rfl
    obtain ⟨mn, hmn⟩ := HMK.out
    have HM6 := Lib.hid (hmn.ext (hE5.trans hE6))
    have HE6 := Lib.hid (HE.out.trans (hE5.trans hE6))
    have hk256 : k < 256 := by omega
    have HKN := Lib.hid (tagL_no hk256)
    have hts : (tagB k).size = 2 := rfl
    have hts0 : (tagB 0).size = 2 := rfl
    obtain ⟨g, hg⟩ : ∃ g, g = tagB k := ⟨_, rfl⟩
    obtain ⟨g0, hg0⟩ : ∃ g, g = tagB 0 := ⟨_, rfl⟩
    rw [← hg] at x1 q1 hts HKN HQ hw6
    rw [← hg0] at y1 hts0
    have HGE := Lib.hid hg
    have x0 := cs_ext hE5 x0
    have x1 := cs_ext hE5 x1
    have x2 := cs_ext hE5 x2
    have x3 := cs_ext hE5 x3
    have x4 := cs_ext hE5 x4
    have m1 := cs_ext (hE5.trans hE6) m1
    have y1 := cs_ext (hE5.trans hE6) y1
    have hlk : ∀ n, (Instr.lookup 107 (.map (some mb)) (.string g) false).run Tryz.prog (w6.drewN n) = .ok (.bool false) (w6.drewN n) := fun n => by
     have := (HM6.out.ext (Ext.then_drN2 (n := n) (Ext.refl w6))).look lawSK keySK Tryz.underlying107 (zeroB4 _) ⟨g, by rw [hts]; unfold maxLen; omega⟩ false
     simp only [inB_val] at this
     simpa [HKN.out, encSK] using this
    clear hE5 hE6 hmn hf hf0 hf1 hf01 hfb hf0b hfm hfm0 hg hg0 hFL hFL0 hk256 y0 y2 y3 y4
    go_upto_region 7 with fail
    rw [← hw5, ← hpb]
    clear hw5 hpb
    go_upto_region 8 with fail
    rw [← hw6, ← hqb]
    clear hw6 hqb x0 x1 x2 x3 x4 p0 p1 n0 n1
    go_quiet (fail)
    generalize hwn : World.drewN w6 _ = wn
    have HEn : Hid (Ext w6 wn) := Lib.hid (by rw [← hwn]; exact Ext.then_drN2 (Ext.refl _))
    clear hwn hlk
    obtain ⟨q0, q1⟩ := cs_e2 HEn.out ⟨q0, q1⟩
    have HMn := Lib.hid (HM6.out.ext HEn.out)
    have HEN := Lib.hid (HE6.out.trans HEn.out)
    clear m1 y1
    obtain ⟨ob, hup, hF⟩ := HMn.out.update lawSK keySK encSK_inj Tryz.underlying107 ⟨g, by rw [hts]; unfold maxLen; omega⟩ (.bool true)
    have hup2 : (Instr.mapUpdate 107 (.map (some mb)) (.string g) (.bool true)).run Tryz.prog wn = .ok () (ChangeMaps.setBlock wn mb ob) := hup
    have HTG : Hid (tagL (k + 1) = tagL k ++ [g]) := Lib.hid (by rw [tagL_succ, ← HGE.out])
    have HM9 : Hid (∃ n, MapK encSK (ChangeMaps.setBlock wn mb ob) mb n (fun x => inB (tagL (k + 1)) x.1)) := Lib.hid ⟨_, hF _ (by rw [HTG.out]; exact inB_new) (fun z hz => by rw [HTG.out]; exact inB_other (fun e => hz (Subtype.ext e)))⟩
    have HE9 : Hid (Ext w (ChangeMaps.setBlock wn mb ob)) := Lib.hid (HEN.out.turned HMS.out)
    clear hF hup
    go_wp2_with fail
    go_roundw
    case rel => exact ⟨k + 1, by go_num, by omega, HE9, HM9⟩
    case measure => simp [intOf]; omega
  · have hki : ¬ (k : Int) < (t.length : Int) := by omega
    go_wp2_with fail
    go_ret
    exact ⟨rfl, HE.out⟩
end Go.Proofs.YtfaienbdebjfcaaGreat

namespace Go.Proofs.YtfaienbdebjfcaaGreat
open Go Go.RowKit
set_option linter.unusedVariables false
set_option linter.unusedSimpArgs false

/-- the generated format -/
def genF (nm : ByteArray) (sh : List Fld) (j : Nat) : Fmt := ⟨nm, ⟨1, tagB j, 0, 0, 0⟩ :: sh⟩
def GenL (N : List ByteArray) (H : List (List Fld)) (G : List Fmt) : Prop := G.length = N.length ∧ ∀ (j : Nat) nm sh, N[j]? = some nm → H[j]? = some sh → G[j]? = some (genF nm sh j)
theorem lsE_sub {α : Type} {E : Elm α} {w : World} {S : Nat → Prop} {v : Value} {L : List α} (h : LsE E w S v L) (hE : ∀ S' x cs, E.R w S x cs → E.R w S' x cs) (S' : Nat → Prop) : LsE E w S' v L := by
 obtain ⟨a, cap, e, h1, h2, h3⟩ := h
 exact ⟨a, cap, e, h1, h2, fun i x hi => by obtain ⟨b, off, cs, e1, e2, e3, e4⟩ := h3 i x hi; exact ⟨b, off, cs, e1, e2, hE _ _ _ e3, e4⟩⟩
set_option maxRecDepth 100000 in
set_option maxHeartbeats 4000000 in
theorem Generate_any {w : World} {S1 S2 : Nat → Prop} {na sa : Option Addr} {nc sc : Nat} {N : List ByteArray} {H : List (List Fld)} {G : List Fmt} (hN : LsG elS w S1 (.slice na N.length nc) N) (hH : LsG (elL elFld) w S2 (.slice sa N.length sc) H) (hl : H.length = N.length) (hn : N.length ≤ 8) (hh : ∀ sh ∈ H, sh.length ≤ 5) (hG : GenL N H G) (hv : validF G = 0) :
 Calls Tryz.prog 21 #[.slice na N.length nc, .slice sa N.length sc] w fun e w' => ∃ va vc, e = .returned (.tuple #[.slice va G.length vc, .int .i64 0]) ∧ Ext w w' ∧ LsG elFmt w' (fun c => w.heap.size ≤ c) (.slice va G.length vc) G := by
 have HN := Lib.hid hN
 have HH := Lib.hid hH
 have HGL := Lib.hid hG
 have HL := Lib.hid hl
 have HLE := Lib.hid hh
 have HV := Lib.hid hv
 have HO0 : Hid (OwnG elFmt w w.heap.size 56 (fun c => w.heap.size ≤ c ∧ (Value.slice none 0 0).ownBlock ≠ some c) (.slice none 0 0) (G.take 0)) := Lib.hid OwnG.nil
 obtain ⟨-, hnl, hnc⟩ := hN.len
 obtain ⟨-, hsl, hsc⟩ := hH.len
 rw [hl] at hsl
 unfold maxLen at hnc hsc
 clear hN hH hG hl hh hv
 go_enter Tryz.func21, Tryz.ntmps21
 go_upto_region 5 with fail
 go_loopw [6, 7, 8, 9, 18] (fun ov _ _ _ kv wr => ∃ k : Nat, kv = .int .i64 k ∧ k ≤ N.length ∧ Hid (Ext w wr) ∧ Hid (OwnG elFmt wr w.heap.size 56 (fun c => w.heap.size ≤ c ∧ ov.ownBlock ≠ some c) ov (G.take k))) (fun _ _ _ _ kv _ => N.length - (intOf kv).toNat)
 case atStart => exact ⟨0, rfl, by omega, Lib.hid (Ext.refl _), HO0⟩
 case round =>
  obtain ⟨k, rfl, hk, HE, HO⟩ := hrel
  by_cases hlt : k < N.length
  · have hki : (k : Int) < (N.length : Int) := by omega
    have hk0 : (0 : Int) ≤ (k : Int) := by omega
    obtain ⟨nm, hnm⟩ : ∃ nm, N[k]? = some nm := ⟨_, List.getElem?_eq_getElem hlt⟩
    obtain ⟨sh, hsh⟩ : ∃ sh, H[k]? = some sh := ⟨_, List.getElem?_eq_getElem (by rw [HL.out]; exact hlt)⟩
    obtain ⟨nb, no, rfl, n0, hnz⟩ := (HN.out.ext HE.out).sAt hnm
    obtain ⟨sb, so, ya, yc, rfl, s0, hy1, hy2, hY⟩ := (HH.out.ext HE.out).lAt hsh
    have hsl5 := HLE.out sh (List.mem_of_getElem? hsh)
    have hgk := HGL.out.2 k nm sh hnm hsh
    obtain ⟨g, hg⟩ : ∃ g, g = tagB k := ⟨_, rfl⟩
    have hwu : IntKind.u8.wrap (k : Int) = (k : Int) := by rw [IntKind.wrap_u8]; omega
    have hwm : (k : Int) % 256 = (k : Int) := by omega
    have hcv : ∀ w' : World, (convert 23 9 (.slice (some ⟨w'.heap.size, 0, none⟩) 2 2)).run Tryz.prog (w'.alloc (.cells #[.int .u8 1, .int .u8 k] 5)) = .ok (.string g) (w'.alloc (.cells #[.int .u8 1, .int .u8 k] 5)) := by
     intro w'
     have e : g = strOfNums [1, (k : Int)] := by
      rw [hg]
      unfold tagB strOfNums
      simp [Nat.toUInt8]
     rw [e]
     exact run_convert_bytes_arg (w'.alloc _) _ _ Tryz.underlying23 Tryz.underlying5 _ 0 2 2 [1, (k : Int)] rfl (fun i hi => by
      rcases (by omega : i = 0 ∨ i = 1) with rfl | rfl <;> (rw [cellc hs_new]; rfl)) _ Tryz.underlying9
    obtain ⟨tb, w5, htb, hw5, HTB, hE5⟩ := box_new (wr.alloc (.cells #[.int .u8 1, .int .u8 k] 5)) (.cells #[.int .i64 1, .string g, .int .i64 0, .int .i64 0, .int .i64 0] 59)
    have hE1 : Ext wr w5 := (Ext.alloc _ _).trans hE5
    have HE5 := Lib.hid (HE.out.trans hE1)
    have htb1 : tb = (wr.alloc (.cells #[.int .u8 1, .int .u8 k] 5)).heap.size := by first | exact htb | exact htb.symm
    have htb2 : tb = wr.heap.size + 1 := by rw [htb1, World.size_alloc]
    have HTS : Hid (w.heap.size ≤ tb ∧ wr.heap.size ≤ tb) := Lib.hid (by have := HE.out.size; have := (Ext.alloc wr (.cells #[.int .u8 1, .int .u8 k] 5)).size; omega)
    have hwf : (⟨1, g, 0, 0, 0⟩ : Fld).Wf := ⟨by show I64 1; unfold I64; omega, by show I64 0; unfold I64; omega, by show I64 0; unfold I64; omega, by show I64 0; unfold I64; omega, by show g.size ≤ maxLen; rw [hg]; exact Nat.le_trans (show (tagB k).size ≤ 2 from Nat.le_refl _) (by unfold maxLen; omega)⟩
    have HF5 : Hid (OwnG elFld w5 tb 59 (fun _ => False) (.slice (some ⟨tb, 0, none⟩) 1 1) [⟨1, g, 0, 0, 0⟩]) := Lib.hid ⟨[(⟨1, g, 0, 0, 0⟩, [.int .i64 1, .string g, .int .i64 0, .int .i64 0, .int .i64 0])], rfl, fun p hp => by simp at hp; subst hp; exact ⟨rfl, hwf⟩, ⟨rfl, .inr ⟨tb, 1, _, rfl, Nat.le_refl _, HTB.out, Nat.le_refl _, by unfold maxLen; omega, rfl, rfl⟩⟩⟩
    have HYE : Hid (LsE elFld w5 (fun _ => False) (.slice ya sh.length yc) sh) := Lib.hid (lsE_sub (hY.ext hE1).e (fun S' x cs h => h) _)
    have n0 := cs_ext hE1 n0
    have s0 := cs_ext hE1 s0
    have HOL := Lib.hid HO.out.lt
    have HTL : Hid (tb < w5.heap.size) := Lib.hid (Array.getElem?_eq_some_iff.1 HTB.out).1
    have HST : Hid (G.take (k + 1) = G.take k ++ [genF nm sh k] ∧ (G.take k).length ≤ 1000 ∧ nm.size ≤ maxLen ∧ g = tagB k) := Lib.hid ⟨by rw [List.take_add_one, hgk]; rfl, by rw [List.length_take]; omega, hnz, hg⟩
    obtain ⟨oa, oc, rfl, -, -⟩ := HO.out.slice
    have HOB : Hid (OwnG elFmt w5 w.heap.size 56 (fun c => w.heap.size ≤ c ∧ (Value.slice oa (G.take k).length oc).ownBlock ≠ some c ∧ c < wr.heap.size) (.slice oa (G.take k).length oc) (G.take k)) := Lib.hid ((HO.out.wide (fun c h hl => ⟨h.1, h.2, hl⟩)).ext hE1)
    obtain ⟨GK, hGK⟩ : ∃ GK, GK = G.take k := ⟨_, rfl⟩
    rw [← hGK] at HOB HOL HST ⊢
    clear hnm hsh hY hE5 hE1 hgk hg hwf htb1 hGK
    go_upto_region 8 with fail
    rw [← hw5, ← htb2]
    clear hw5 htb htb2 hcv
    go_wp2_with (first
     | (at_builtin
        refine wpList_appG (E := elFld) (T := 59) rfl 54 (.tmp 31) (.tmp 35) rfl rfl rfl Tryz.underlying54 sizFld2 rfl (by decide) (by decide) HF5.out (Nat.le_of_lt HTL.out) (fun c h => absurd h id) (by simp) (by omega) HYE.out ?_
        intro v6 w6 o6 g6 k6
        obtain ⟨va6, vc6, hv6, -, -⟩ := o6.slice
        subst hv6
        have hl6 : ([⟨1, g, 0, 0, 0⟩] ++ sh : List Fld).length = sh.length + 1 := (by simp)
        rw [hl6] at o6 k6 ⊢
        obtain ⟨fb, w7, hfb, hw7, HFB, hE7⟩ := box_new w6 (.cells #[.string nm, .slice va6 (sh.length + 1 : Nat) vc6] 56)
        have HE6 : Hid (Ext w w6) := Lib.hid (HE5.out.grown g6 (fun q hq => by have := (HF5.out.lt q hq).1; have := HTS.out; omega))
        have HE7 := Lib.hid (HE6.out.trans hE7)
        have hkeep : ∀ c, c < wr.heap.size → w6.heap[c]? = w5.heap[c]? := (fun c hc => g6.block c (by have := HTS.out; have := HTL.out; omega) (fun e => by have := (HF5.out.lt c e.symm).1; have := HTS.out; omega))
        have HO7 : Hid (OwnG elFmt w7 w.heap.size 56 (fun c => w.heap.size ≤ c ∧ (Value.slice oa GK.length oc).ownBlock ≠ some c ∧ c < w7.heap.size) (.slice oa GK.length oc) GK) := Lib.hid (by
         have h1 := HOB.out.keep (w' := w6) (S' := fun c => w.heap.size ≤ c ∧ (Value.slice oa GK.length oc).ownBlock ≠ some c ∧ c < w7.heap.size) (fun gg hgg => hkeep gg (HOL.out gg hgg).2) (fun c hc hl => hkeep c hc.2.2) (fun c hc hl => ⟨hc.1, hc.2.1, by have := hE7.size; have := g6.size; have := HTS.out; have := HTL.out; omega⟩)
         exact h1.ext hE7)
        have HLE7 : Hid (LsE elFmt w7 (fun c => w.heap.size ≤ c ∧ (Value.slice oa GK.length oc).ownBlock ≠ some c ∧ c < w7.heap.size) (.slice (some ⟨fb, 0, none⟩) 1 1) [genF nm sh k]) := Lib.hid (cells_lsE (P := [(genF nm sh k, [.string nm, .slice va6 (sh.length + 1 : Nat) vc6])]) HFB.out rfl rfl rfl (by simp [maxLen]) (fun p hp => by
         simp at hp
         subst hp
         refine ⟨_, rfl, HST.out.2.2.1, ?_⟩
         have hls := (o6.ls (S' := fun c => tb ≤ c ∧ c < w6.heap.size) (fun c h _ => absurd h id) (fun gg _ h1 h2 => ⟨h1, h2⟩)).ext hE7
         have e1 : (genF nm sh k).fields = [⟨1, g, 0, 0, 0⟩] ++ sh := (by unfold genF; rw [HST.out.2.2.2]; rfl)
         rw [e1]
         exact hls.wide (fun c h hl => ⟨by have := HTS.out; omega, fun e => by have := (HOL.out c e).2; have := HTS.out; omega, hl⟩)))
        clear o6 g6 k6 hl6 hkeep hE7)
     | (at_builtin
        rw [← hw7, ← hfb]
        refine wpList_appG (E := elFmt) (T := 56) rfl 26 (.tmp 29) (.tmp 38) rfl rfl rfl Tryz.underlying26 sizFmt2 rfl (by decide) (by decide) HO7.out HE7.out.size (fun c h => h.2.1) (by have := HST.out.2.1; omega) (M := [genF nm sh k]) (by simp) HLE7.out ?_
        intro v8 w8 o8 g8 k8
        have HE8 := Lib.hid (Ext.grown HE7.out g8 (fun c hc => (HO7.out.lt c hc).1))
        have HO8 : Hid (OwnG elFmt w8 w.heap.size 56 (fun c => w.heap.size ≤ c ∧ v8.ownBlock ≠ some c) v8 (GK ++ [genF nm sh k])) := Lib.hid (o8.wide (fun c h hc => ⟨h.1, fun e => by
         rcases k8 with k9 | k9
         · rw [k9] at e; exact h.2.1 e
         · rw [k9] at e; cases e; exact absurd h.2.2 (Nat.lt_irrefl _)⟩))
        clear o8 g8 k8))
    go_roundw
    case rel => exact ⟨k + 1, by go_num, by omega, HE8, Lib.hid (by rw [HST.out.1]; exact HO8.out)⟩
    case measure => simp [intOf]; omega
  · have hki : ¬ (k : Int) < (N.length : Int) := by omega
    have HK : Hid (G.take k = G) := Lib.hid (List.take_of_length_le (by rw [HGL.out.1]; omega))
    obtain ⟨oa, oc, rfl, hol, hoc⟩ := HO.out.slice
    have hls := HO.out.ls (S' := fun c => w.heap.size ≤ c) (fun c h _ => h.1) (fun g _ h _ => h)
    rw [HK.out] at hls hol
    have HLS := Lib.hid hls
    have HVC := Lib.hid (FValid_any (B := wr.heap.size) (tab_of hls) (Nat.le_refl _) hol (by unfold maxLen at hoc; omega))
    rw [HV.out] at HVC
    rw [HK.out]
    clear hls hol hoc
    go_wp2_with fail
    refine HVC.out.mono ?_
    rintro e w5 ⟨rfl, hE5⟩
    have HE5 := Lib.hid (HE.out.trans hE5)
    have HL5 := Lib.hid (HLS.out.ext hE5)
    clear hE5
    go_wp2_with fail
    go_ret2
    exact ⟨oa, oc, rfl, HE5.out, HL5.out⟩
end Go.Proofs.YtfaienbdebjfcaaGreat
