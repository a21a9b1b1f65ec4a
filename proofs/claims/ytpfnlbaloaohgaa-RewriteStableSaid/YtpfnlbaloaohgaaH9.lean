/- Contracts: few rules. Contracts: the reference's Parse. Contracts: the reference's texts and rules. Contracts: the rules of descriptions. -/
import Derived.Test.YtpfnlbaloaohgaaH2
import Derived.Deep.RegionLaw
import Derived.Deep.QuietTactic
import Derived.BigQuiet
import Derived.Test.YtpfnlbaloaohgaaV4
import Derived.Test.YtpfnlbaloaohgaaH6
namespace Go.Proofs.Ytpfnlbaloaohgaa
open Go Go.RowKit
set_option linter.unusedVariables false
set_option linter.unusedSimpArgs false

section
variable {α : Type} {E : Elm α} {w w' : World} {S S' : Nat → Prop} {v : Value} {L M : List α} {base : Nat} {T : TypeId}
end

end Go.Proofs.Ytpfnlbaloaohgaa

namespace Go.Proofs.Ytpfnlbaloaohgaa
open Go Go.RowKit
set_option linter.unusedVariables false
set_option linter.unusedSimpArgs false

theorem sizeL_app (l m : List Tm) : sizeL (l ++ m) = sizeL l + sizeL m := by
 induction l with
 | nil => simp [sizeL]
 | cons t l ih => rw [List.cons_append, sizeL, sizeL, ih]; omega
theorem leafP_sz {k : Int} {n s : ByteArray} {q : Tm × ByteArray} (h : leafP k n s = some q) : sizeT q.1 = 1 := by
 unfold leafP at h
 split at h
 · split at h
   · split at h
     · cases h; rfl
     · cases h
   · split at h
     · cases h; rfl
     · cases h
 · split at h
   · cases h; rfl
   · cases h
theorem readL_sz {rd : ByteArray → Option (Tm × ByteArray)} (hrd : ∀ s q, rd s = some q → sizeT q.1 + q.2.size ≤ s.size) : ∀ (f : Nat) (kids : List Tm) (s : ByteArray) (q : List Tm × ByteArray), readL rd f kids s = some q → sizeL q.1 + q.2.size ≤ sizeL kids + s.size
 | 0, kids, s, q, h => by rw [readL] at h; cases h
 | f + 1, kids, s, q, h => by
   rw [readL] at h
   split at h
   · split at h
     · cases h; simp only [ByteArray.size_extract]; omega
     · split at h
       · cases h
       · rename_i s' hs
         split at h
         · cases h
         · rename_i p hp
           have h1 := sepP_size hs
           have h2 := hrd _ _ hp
           have h3 := readL_sz hrd f _ _ q h
           rw [sizeL_app] at h3
           simp only [sizeL] at h3
           omega
   · cases h
theorem readS_sz {rd : ByteArray → Option (Tm × ByteArray)} (hrd : ∀ s q, rd s = some q → sizeT q.1 + q.2.size ≤ s.size) {s : ByteArray} {q : Tm × ByteArray} (h : readS rd s = some q) : sizeT q.1 + q.2.size ≤ s.size := by
 unfold readS at h
 have hb := bodyQ_size s
 have hns := nameP_size (bodyQ s)
 have hr : (restN (bodyQ s)).size = (bodyQ s).size - (nameP (bodyQ s)).size := by unfold restN; rw [ByteArray.size_extract]; omega
 split at h
 · cases h
 · rename_i hn
   have hn' : 0 < (nameP (bodyQ s)).size := by
    simp only [nameOk, Bool.not_eq_false, decide_eq_true_eq] at hn
    exact hn.1
   split at h
   · have h1 := leafP_size h
     have h2 := leafP_sz h
     omega
   · obtain ⟨p, hp, rfl⟩ := Option.map_eq_some_iff.1 h
     have h1 := readL_sz hrd _ _ _ _ hp
     simp only [ByteArray.size_extract, sizeL] at h1
     simp only [sizeT]
     omega
theorem readP_sz : ∀ (d : Nat) (s : ByteArray) (q : Tm × ByteArray), readP d s = some q → sizeT q.1 + q.2.size ≤ s.size
 | 0, s, q, h => by rw [readP] at h; cases h
 | d + 1, s, q, h => by rw [readP] at h; exact readS_sz (readP_sz d) h

theorem errR_zero {w : World} {S : Nat → Prop} {e : Int} (h : e ≠ 0) : errR w S (.agg #[.int .i64 0, .string ⟨#[]⟩, .int .i64 0, .slice none 0 0]) e (e, zeroTm).2 (e, zeroTm).1 := ⟨rfl, fun h' => absurd h' h, fun _ => rfl⟩
/-- what Parse answers -/
def parseO (o : Option (Tm × ByteArray)) : Int × Tm := match o with | none => (2, zeroTm) | some q => if q.2.size ≠ 0 then (2, zeroTm) else if validT q.1 ≠ 0 then (validT q.1, zeroTm) else (0, q.1)
def parseP (s : ByteArray) : Int × Tm := parseO (readP 800 s)

set_option maxRecDepth 100000 in
set_option maxHeartbeats 8000000 in
theorem RParse_any {w : World} {s : ByteArray} (hs : s.size ≤ 100000) :
 Calls Try.prog 17 #[.string s] w fun e w' => ∃ v er, e = .returned (.tuple #[v, .int .i64 er]) ∧ Ext w w' ∧ errR w' (fun c => w.heap.size ≤ c) v er (parseP s).2 (parseP s).1 := by
 obtain ⟨rx, hrx⟩ : ∃ zz9, zz9 = w.heap.size := ⟨_, rfl⟩
 obtain ⟨w1, hw1⟩ : ∃ zz9, zz9 = w.alloc (.cells #[.int .i64 0, .string ⟨#[]⟩, .int .i64 0, .slice none 0 0] 31) := ⟨_, rfl⟩
 have hE1 : Ext w w1 := by rw [hw1]; exact Ext.alloc _ _
 have hr1 : w1.heap[rx]? = some (.cells #[.int .i64 0, .string ⟨#[]⟩, .int .i64 0, .slice none 0 0] 31) := by rw [hw1, hrx]; exact hs_new
 have HS1 : Hid (w1.heap.size = rx + 1) := Lib.hid (by rw [hw1, hrx, World.size_alloc])
 have HBR := Lib.hid hr1
 have HE := Lib.hid hE1
 have HNB : Hid (w.heap.size = rx) := Lib.hid hrx.symm
 have hcr := RRead_any 800 w1 s (Nat.le_refl _) hs
 have hsz := readP_sz 800 s
 obtain ⟨O, hO⟩ : ∃ O, O = readP 800 s := ⟨_, rfl⟩
 obtain ⟨Z, hZ⟩ : ∃ Z, Z = parseP s := ⟨_, rfl⟩
 rw [← hZ]
 unfold parseP at hZ
 rw [← hO] at hZ hsz hcr
 have HZ := Lib.hid hZ
 have HCR := Lib.hid hcr
 have HSZ := Lib.hid hsz
 clear hE1 hr1 hcr hO hZ hsz
 go_enter Try.func17, Try.ntmps17
 go_upto_region 1 with fail
 rw [← hw1, ← hrx]
 clear hw1 hrx
 go_wp2_with fail
 refine HCR.out.mono ?_
 rintro e w2 ⟨v, sv, rfl, hE2, hP2⟩
 have HBR := Lib.hid (hs_ext hE2 HBR.out)
 have HE := Lib.hid (HE.out.trans hE2)
 cases O with
 | none =>
   obtain ⟨yk, ys, yn, yr, ya, yl, yc, rfl, rfl⟩ := hP2.shape
   have HF : Hid (Z = (2, zeroTm)) := Lib.hid (by rw [HZ.out]; rfl)
   obtain ⟨w3, hw3⟩ : ∃ zz9, zz9 = w2.alloc (.cells #[.int .i64 yk, .string yn, .int .i64 ys, .slice ya yl yc] 31) := ⟨_, rfl⟩
   have hE3 : Ext w2 w3 := by rw [hw3]; exact Ext.alloc _ _
   have HBR := Lib.hid (hs_ext hE3 HBR.out)
   have HE := Lib.hid (HE.out.trans hE3)
   clear hE2 hP2 hE3
   go_upto_region 3 with fail
   rw [← hw3]
   clear hw3
   go_wp2_with (first
    | (refine wpList_buildT rfl [] rfl [] rfl built_none ?_)
    | (refine wpList_storeT rfl (.tmp 2) (.tmp 20) rfl (g := rx) rfl (k := 0) (s := 0) (n := ⟨#[]⟩) (ka := none) (kl := 0) (kc := 0) rfl HBR.out rfl ?_
       intro w6 c6 q6 e6 z6
       have HG6 := Lib.hid c6
       have HE6 := Lib.hid (e6 w HE.out (by have := HNB.out; omega))
       clear c6 q6 e6 z6))
   exact ret_term2 (g := rx) rfl rfl HG6.out rfl ⟨_, _, rfl, HE6.out, by rw [HF.out]; exact errR_zero (by decide)⟩
 | some q =>
   obtain ⟨rfl, xa, xc, rfl, hT2⟩ := hP2
   have hq3 := HSZ.out q rfl
   obtain ⟨xx, w3, hbxx, hwxx, HBxx, hExx⟩ := box_new w2 (.cells #[.int .i64 q.1.kind, .string q.1.name, .int .i64 q.1.sort, .slice xa q.1.kids.length xc] 31)
   have HBR := Lib.hid (hs_ext hExx HBR.out)
   have HE := Lib.hid (HE.out.trans hExx)
   have HTX := Lib.hid ((hT2.ext hExx).wide (S' := fun c => rx < c) (fun c h _ => by have := HS1.out; omega))
   clear hE2 hT2 hExx
   by_cases h0 : q.2.size = 0
   · have HZ2 : Hid (Z = if validT q.1 ≠ 0 then (validT q.1, zeroTm) else (0, q.1)) := Lib.hid (by rw [HZ.out]; simp only [parseO]; rw [if_neg (by simp [h0])])
     have hqe : (q.2.toList == []) = true := by
      rw [ByteArray.toList_eq]
      have : q.2.data.toList = [] := List.length_eq_zero_iff.1 (by rw [Array.length_toList]; exact h0)
      rw [this]; rfl
     have hqn : q.2.toList = [] := by simpa using hqe
     clear h0 hqe
     go_upto_region 4 with fail
     rw [← hwxx, ← hbxx]
     clear hwxx hbxx
     obtain ⟨x0, x1, x2, x3⟩ := box4r (HBxx.out)
     obtain ⟨o, ho⟩ : ∃ o, o = validT q.1 := ⟨_, rfl⟩
     have hcv := RValid_any (w := w3) (t := q.1) (by omega) HTX.out
     rw [← ho] at hcv HZ2
     have HCV := Lib.hid hcv
     clear hcv ho
     go_wp2_with fail
     refine HCV.out.mono ?_
     rintro e w4 ⟨rfl, hE4⟩
     obtain ⟨x0, x1, x2, x3⟩ := cs_e4 hE4 ⟨x0, x1, x2, x3⟩
     have HBR := Lib.hid (hs_ext hE4 HBR.out)
     have HE := Lib.hid (HE.out.trans hE4)
     have HTX := Lib.hid (HTX.out.ext hE4)
     clear hE4
     by_cases h1 : o = 0
     · have e1 : (o != 0) = false := by simp [h1]
       have HF : Hid (Z = (0, q.1)) := Lib.hid (by rw [HZ2.out, if_neg (by simp [h1])])
       clear h1
       go_wp2_with (
        refine wpList_storeT rfl (.tmp 2) (.tmp 27) rfl (g := rx) rfl (k := q.1.kind) (s := q.1.sort) (n := q.1.name) (ka := xa) (kl := q.1.kids.length) (kc := xc) rfl HBR.out rfl ?_
        intro w6 c6 q6 e6 z6
        have HG6 := Lib.hid c6
        have HE6 := Lib.hid (e6 w HE.out (by have := HNB.out; omega))
        have HT6 := Lib.hid (HTX.out.keep (w' := w6) (S' := fun c => w.heap.size ≤ c) (fun c h _ => q6 c (by omega)) (fun c h _ => by have := HNB.out; omega))
        clear c6 q6 e6 z6)
       exact ret_term2 (g := rx) rfl rfl HG6.out rfl ⟨_, _, rfl, HE6.out, by rw [HF.out]; exact ⟨rfl, fun _ => ⟨xa, xc, rfl, HT6.out⟩, fun h => absurd rfl h⟩⟩
     · have e1 : (o != 0) = true := by simp [h1]
       have HF : Hid (Z = (o, zeroTm)) := Lib.hid (by rw [HZ2.out, if_pos h1])
       have H1 := Lib.hid h1
       clear h1
       go_wp2_with (first
        | (refine wpList_buildT rfl [] rfl [] rfl built_none ?_)
        | (refine wpList_storeT rfl (.tmp 2) (.tmp 25) rfl (g := rx) rfl (k := 0) (s := 0) (n := ⟨#[]⟩) (ka := none) (kl := 0) (kc := 0) rfl HBR.out rfl ?_
           intro w6 c6 q6 e6 z6
           have HG6 := Lib.hid c6
           have HE6 := Lib.hid (e6 w HE.out (by have := HNB.out; omega))
           clear c6 q6 e6 z6))
       exact ret_term2 (g := rx) rfl rfl HG6.out rfl ⟨_, _, rfl, HE6.out, by rw [HF.out]; exact errR_zero H1.out⟩
   · have HF : Hid (Z = (2, zeroTm)) := Lib.hid (by rw [HZ.out, parseO, if_pos h0])
     have hqe : (q.2.toList == []) = false := by
      rw [beq_eq_false_iff_ne, ByteArray.toList_eq]
      intro e
      apply h0
      have := congrArg List.length e
      rw [Array.length_toList] at this
      exact this
     clear h0
     go_upto_region 3 with fail
     rw [← hwxx, ← hbxx]
     clear hwxx hbxx
     go_wp2_with (first
      | (refine wpList_buildT rfl [] rfl [] rfl built_none ?_)
      | (refine wpList_storeT rfl (.tmp 2) (.tmp 20) rfl (g := rx) rfl (k := 0) (s := 0) (n := ⟨#[]⟩) (ka := none) (kl := 0) (kc := 0) rfl HBR.out rfl ?_
         intro w6 c6 q6 e6 z6
         have HG6 := Lib.hid c6
         have HE6 := Lib.hid (e6 w HE.out (by have := HNB.out; omega))
         clear c6 q6 e6 z6))
     exact ret_term2 (g := rx) rfl rfl HG6.out rfl ⟨_, _, rfl, HE6.out, by rw [HF.out]; exact errR_zero (by decide)⟩

/-- the sides of the rules of descriptions -/
def textsL : List ByteArray := [⟨#[103, 40, 103, 40, 63, 120, 41, 41]⟩, ⟨#[63, 120]⟩, ⟨#[102, 40, 103, 40, 63, 120, 41, 44, 32, 63, 121, 41]⟩, ⟨#[103, 40, 102, 40, 63, 120, 44, 32, 63, 121, 41, 41]⟩, ⟨#[102, 40, 104, 40, 41, 44, 32, 63, 120, 41]⟩, ⟨#[63, 120]⟩, ⟨#[102, 40, 63, 120, 44, 32, 63, 120, 41]⟩, ⟨#[63, 120]⟩, ⟨#[112, 97, 105, 114, 40, 63, 120, 44, 32, 63, 121, 41]⟩, ⟨#[102, 40, 63, 121, 44, 32, 63, 120, 41]⟩, ⟨#[103, 40, 104, 40, 41, 41]⟩, ⟨#[104, 40, 41]⟩, ⟨#[102, 40, 102, 40, 63, 120, 44, 32, 63, 121, 41, 44, 32, 63, 122, 41]⟩, ⟨#[102, 40, 63, 120, 44, 32, 102, 40, 63, 121, 44, 32, 63, 122, 41, 41]⟩, ⟨#[97, 58, 97, 110, 121]⟩, ⟨#[98, 58, 97, 110, 121]⟩, ⟨#[102, 40, 63, 120, 44, 32, 63, 121, 41]⟩, ⟨#[102, 40, 63, 121, 44, 32, 63, 120, 41]⟩, ⟨#[112, 97, 105, 114, 40, 63, 120, 58, 110, 111, 110, 99, 101, 44, 32, 63, 121, 41]⟩, ⟨#[103, 40, 63, 121, 41]⟩, ⟨#[102, 40, 63, 120, 44, 32, 104, 40, 41, 41]⟩, ⟨#[63, 120]⟩, ⟨#[102, 40, 63, 120, 44, 32, 103, 40, 63, 120, 41, 41]⟩, ⟨#[104, 40, 41]⟩]
set_option maxHeartbeats 4000000 in
theorem RTexts_any {w : World} :
 Calls Try.prog 29 #[] w fun e w' => ∃ a, e = .returned (.slice a 24 24) ∧ Ext w w' ∧ LsG elS w' (fun c => w.heap.size ≤ c) (.slice a 24 24) textsL := by
 obtain ⟨bx, hbx⟩ : ∃ zz9, zz9 = w.heap.size := ⟨_, rfl⟩
 obtain ⟨w1, hw1⟩ : ∃ zz9, zz9 = w.alloc (.cells #[.string ⟨#[103, 40, 103, 40, 63, 120, 41, 41]⟩, .string ⟨#[63, 120]⟩, .string ⟨#[102, 40, 103, 40, 63, 120, 41, 44, 32, 63, 121, 41]⟩, .string ⟨#[103, 40, 102, 40, 63, 120, 44, 32, 63, 121, 41, 41]⟩, .string ⟨#[102, 40, 104, 40, 41, 44, 32, 63, 120, 41]⟩, .string ⟨#[63, 120]⟩, .string ⟨#[102, 40, 63, 120, 44, 32, 63, 120, 41]⟩, .string ⟨#[63, 120]⟩, .string ⟨#[112, 97, 105, 114, 40, 63, 120, 44, 32, 63, 121, 41]⟩, .string ⟨#[102, 40, 63, 121, 44, 32, 63, 120, 41]⟩, .string ⟨#[103, 40, 104, 40, 41, 41]⟩, .string ⟨#[104, 40, 41]⟩, .string ⟨#[102, 40, 102, 40, 63, 120, 44, 32, 63, 121, 41, 44, 32, 63, 122, 41]⟩, .string ⟨#[102, 40, 63, 120, 44, 32, 102, 40, 63, 121, 44, 32, 63, 122, 41, 41]⟩, .string ⟨#[97, 58, 97, 110, 121]⟩, .string ⟨#[98, 58, 97, 110, 121]⟩, .string ⟨#[102, 40, 63, 120, 44, 32, 63, 121, 41]⟩, .string ⟨#[102, 40, 63, 121, 44, 32, 63, 120, 41]⟩, .string ⟨#[112, 97, 105, 114, 40, 63, 120, 58, 110, 111, 110, 99, 101, 44, 32, 63, 121, 41]⟩, .string ⟨#[103, 40, 63, 121, 41]⟩, .string ⟨#[102, 40, 63, 120, 44, 32, 104, 40, 41, 41]⟩, .string ⟨#[63, 120]⟩, .string ⟨#[102, 40, 63, 120, 44, 32, 103, 40, 63, 120, 41, 41]⟩, .string ⟨#[104, 40, 41]⟩] 9) := ⟨_, rfl⟩
 have HE : Hid (Ext w w1) := Lib.hid (by rw [hw1]; exact Ext.alloc _ _)
 have HL : Hid (LsG elS w1 (fun c => w.heap.size ≤ c) (.slice (some ⟨bx, 0, none⟩) 24 24) textsL) := Lib.hid (by
  have hb : w1.heap[bx]? = some (.cells #[.string ⟨#[103, 40, 103, 40, 63, 120, 41, 41]⟩, .string ⟨#[63, 120]⟩, .string ⟨#[102, 40, 103, 40, 63, 120, 41, 44, 32, 63, 121, 41]⟩, .string ⟨#[103, 40, 102, 40, 63, 120, 44, 32, 63, 121, 41, 41]⟩, .string ⟨#[102, 40, 104, 40, 41, 44, 32, 63, 120, 41]⟩, .string ⟨#[63, 120]⟩, .string ⟨#[102, 40, 63, 120, 44, 32, 63, 120, 41]⟩, .string ⟨#[63, 120]⟩, .string ⟨#[112, 97, 105, 114, 40, 63, 120, 44, 32, 63, 121, 41]⟩, .string ⟨#[102, 40, 63, 121, 44, 32, 63, 120, 41]⟩, .string ⟨#[103, 40, 104, 40, 41, 41]⟩, .string ⟨#[104, 40, 41]⟩, .string ⟨#[102, 40, 102, 40, 63, 120, 44, 32, 63, 121, 41, 44, 32, 63, 122, 41]⟩, .string ⟨#[102, 40, 63, 120, 44, 32, 102, 40, 63, 121, 44, 32, 63, 122, 41, 41]⟩, .string ⟨#[97, 58, 97, 110, 121]⟩, .string ⟨#[98, 58, 97, 110, 121]⟩, .string ⟨#[102, 40, 63, 120, 44, 32, 63, 121, 41]⟩, .string ⟨#[102, 40, 63, 121, 44, 32, 63, 120, 41]⟩, .string ⟨#[112, 97, 105, 114, 40, 63, 120, 58, 110, 111, 110, 99, 101, 44, 32, 63, 121, 41]⟩, .string ⟨#[103, 40, 63, 121, 41]⟩, .string ⟨#[102, 40, 63, 120, 44, 32, 104, 40, 41, 41]⟩, .string ⟨#[63, 120]⟩, .string ⟨#[102, 40, 63, 120, 44, 32, 103, 40, 63, 120, 41, 41]⟩, .string ⟨#[104, 40, 41]⟩] 9) := by rw [hw1, hbx]; exact hs_new
  refine cells_lsG (P := textsL.map (fun s => (s, [.string s]))) hb rfl (by rw [List.map_map]; exact List.map_id _) rfl (by unfold maxLen; decide) (by omega) (fun p hp => ?_)
  obtain ⟨s, hs, rfl⟩ := List.mem_map.1 hp
  refine ⟨rfl, ?_⟩
  have : ∀ s ∈ textsL, s.size ≤ 100 := by decide +kernel
  have := this s hs
  show s.size ≤ maxLen
  unfold maxLen; omega)
 go_enter Try.func29, Try.ntmps29
 go_wp2_with fail
 go_ret
 rw [← hw1]
 exact ⟨some ⟨bx, 0, none⟩, by rw [hbx]; rfl, HE.out, HL.out⟩

/-- bytes -/
def elB : Elm Nat where
 n := 1
 R w S k cs := cs = [.int .u8 k] ∧ k < 256
 len := by rintro w S t cs ⟨rfl, -⟩; rfl
 one := by rintro w S t cs ⟨rfl, -⟩ u hu; simp at hu; subst hu; rfl
 keep := by rintro w w' S S' t cs ⟨rfl, h⟩ h1 h2; exact ⟨rfl, h⟩
theorem LsG.bAt {w : World} {S : Nat → Prop} {a : Option Addr} {n cap i : Nat} {L : List Nat} {x : Nat} (h : LsG elB w S (.slice a n cap) L) (hi : L[i]? = some x) : ∃ b off, a = some ⟨b, off, none⟩ ∧ w.cell? ⟨b, off + i, none⟩ = some (.int .u8 x) ∧ x < 256 := by
 obtain ⟨b, off, cs, e, hb, hlt, ⟨rfl, hW⟩, hcs⟩ := h.at hi
 have := hcs 0 _ rfl
 have e1 : off + i * elB.n + 0 = off + i := by show off + i * 1 + 0 = _; omega
 rw [e1] at this
 exact ⟨b, off, e, this, hW⟩
/-- the rule of a number -/
def ruleN (k : Nat) : Tm × Tm := ((parseP (textsL.getD (2 * k) ⟨#[]⟩)).2, (parseP (textsL.getD (2 * k + 1) ⟨#[]⟩)).2)
def rulesOf (C : List Nat) : List (Tm × Tm) := (C.take 5).map (fun c => ruleN (c % 12))
theorem rulesOf_take {C : List Nat} {i c : Nat} (h : C[i]? = some c) (hi : i < 5) : rulesOf (C.take (i + 1)) = rulesOf (C.take i) ++ [ruleN (c % 12)] := by
 unfold rulesOf
 rw [List.take_take, List.take_take, Nat.min_eq_right (by omega), Nat.min_eq_right (by omega), List.take_add_one, h, List.map_append]; rfl
theorem rulesOf_end {C : List Nat} {i : Nat} (h : C.length ≤ i ∨ 5 ≤ i) : rulesOf (C.take i) = rulesOf C := by
 unfold rulesOf
 rw [List.take_take]
 rcases h with h | h
 · by_cases h5 : 5 ≤ i
   · rw [Nat.min_eq_left h5]
   · rw [Nat.min_eq_right (by omega), List.take_of_length_le h, List.take_of_length_le (by omega)]
 · rw [Nat.min_eq_left h]
theorem texts_get {j : Nat} (h : j < 24) : textsL[j]? = some (textsL.getD j ⟨#[]⟩) := by
 have hl : textsL.length = 24 := by decide
 rw [List.getD_eq_getElem?_getD, List.getElem?_eq_getElem (by omega)]; rfl
theorem texts_size {j : Nat} : (textsL.getD j ⟨#[]⟩).size ≤ 100 := by
 have h : ∀ s ∈ textsL, s.size ≤ 100 := by decide +kernel
 by_cases hj : j < 24
 · exact h _ (List.mem_of_getElem? (texts_get hj))
 · have hl : textsL.length = 24 := by decide
   rw [List.getD_eq_getElem?_getD, List.getElem?_eq_none (by omega)]; exact Nat.zero_le _
theorem errR.term {w : World} {S : Nat → Prop} {v : Value} {er : Int} {p : Int × Tm} (h : errR w S v er p.2 p.1) (hz : p.1 ≠ 0 → p.2 = zeroTm) : IsS w S v p.2 := by
 by_cases h0 : p.1 = 0
 · exact h.2.1 h0
 · rw [hz h0]
   exact ⟨none, 0, h.2.2 h0, tm_nil (by unfold I64; omega) (by unfold I64; omega) (by unfold maxLen; decide)⟩
theorem parseP_zero {s : ByteArray} (h : (parseP s).1 ≠ 0) : (parseP s).2 = zeroTm := by
 unfold parseP parseO at h ⊢
 split at h
 · rfl
 · split at h
   · rename_i h1; rw [if_pos h1]
   · rename_i h1
     rw [if_neg h1]
     split at h
     · rename_i h2; rw [if_pos h2]
     · exact absurd rfl h

theorem built_rule (k s k' s' : Int) (n n' : ByteArray) (a a' : Option Addr) (l c l' c' : Nat) : Try.prog.built 55 [(0, .agg #[.int .i64 k, .string n, .int .i64 s, .slice a l c]), (1, .agg #[.int .i64 k', .string n', .int .i64 s', .slice a' l' c'])] = some #[.int .i64 k, .string n, .int .i64 s, .slice a l c, .int .i64 k', .string n', .int .i64 s', .slice a' l' c'] := by kernel_rfl
set_option maxRecDepth 100000 in
set_option maxHeartbeats 8000000 in
theorem RRulesOf_any {w : World} {S : Nat → Prop} {a : Option Addr} {cap : Nat} {C : List Nat} (hC : LsG elB w S (.slice a C.length cap) C) :
 Calls Try.prog 11 #[.slice a C.length cap] w fun e w' => ∃ v, e = .returned v ∧ Ext w w' ∧ LsG elP w' (fun c => w.heap.size ≤ c) v (rulesOf C) := by
 obtain ⟨-, hcl, hcc⟩ := hC.len
 unfold maxLen at hcc
 have HC := Lib.hid hC
 have HT := Lib.hid (RTexts_any (w := w))
 clear hC
 go_enter Try.func11, Try.ntmps11
 go_wp2_with fail
 refine HT.out.mono ?_
 rintro e w1 ⟨ta, rfl, hE1, hL1⟩
 have HE1 := Lib.hid hE1
 have HL1 := Lib.hid hL1
 clear hE1 hL1
 go_wp2_with fail
 go_loopw [4, 5] (fun ov iv wr => Hid (∃ i : Nat, iv = .int .i64 i ∧ i ≤ C.length ∧ i ≤ 5 ∧ OwnG elP wr w1.heap.size 55 (fun c => w1.heap.size ≤ c ∧ ov.ownBlock ≠ some c) ov (rulesOf (C.take i)) ∧ Ext w1 wr)) (fun _ iv _ => 5 - (intOf iv).toNat)
 case atStart => exact Lib.hid ⟨0, rfl, by omega, by omega, OwnG.nil, Ext.refl _⟩
 case round =>
  obtain ⟨i, rfl, hi, hi5, hO, hE⟩ := hrel.out
  have HO := Lib.hid hO
  have HE := Lib.hid hE
  obtain ⟨oa, oc, hov, -, hoc⟩ := hO.slice
  subst hov
  unfold maxLen at hoc
  clear hrel hO hE
  by_cases hlt : i < C.length
  · have hltz : (i : Int) < C.length := by omega
    by_cases h5 : i < 5
    · have h5z : decide ((i : Int) < 5) = true := by simp; omega
      obtain ⟨c, hc⟩ : ∃ c, C[i]? = some c := ⟨_, List.getElem?_eq_getElem hlt⟩
      obtain ⟨cb, co, rfl, c0, hc256⟩ := ((HC.out.ext HE1.out).ext HE.out).bAt hc
      have HRT := Lib.hid (rulesOf_take hc h5)
      obtain ⟨k, hk⟩ : ∃ k, k = c % 12 := ⟨_, rfl⟩
      have hk12 : k < 12 := by omega
      have HKZ : Hid ((c : Int) % 12 = (k : Int)) := Lib.hid (by omega)
      rw [← hk] at HRT
      have HOL := Lib.hid (fun c (e : (Value.slice oa (rulesOf (C.take i)).length oc).ownBlock = some c) => (HO.out.lt c e).2)
      have HS1 := Lib.hid HE.out.size
      clear hc hk
      go_upto_region 7 with fail
      rw [HKZ.out]
      obtain ⟨j, hj⟩ : ∃ j, j = 2 * k := ⟨_, rfl⟩
      obtain ⟨j1, hj1⟩ : ∃ j1, j1 = j + 1 := ⟨_, rfl⟩
      have hjz : (2 : Int) * (k : Int) = (j : Int) := by omega
      have hj1z : (j : Int) + 1 = (j1 : Int) := by omega
      obtain ⟨tb, to', rfl, t0, hts⟩ := (HL1.out.ext HE.out).sAt (texts_get (j := j) (by omega))
      obtain ⟨tb1, to1, et, t1, hts1⟩ := (HL1.out.ext HE.out).sAt (texts_get (j := j1) (by omega))
      cases et
      have HCP0 := Lib.hid (fun w' => RParse_any (w := w') (s := textsL.getD j ⟨#[]⟩) (by have := texts_size (j := j); omega))
      have HCP1 := Lib.hid (fun w' => RParse_any (w := w') (s := textsL.getD j1 ⟨#[]⟩) (by have := texts_size (j := j1); omega))
      have hz0 := parseP_zero (s := textsL.getD j ⟨#[]⟩)
      have hz1 := parseP_zero (s := textsL.getD j1 ⟨#[]⟩)
      obtain ⟨X0, hX0⟩ : ∃ X, X = textsL.getD j ⟨#[]⟩ := ⟨_, rfl⟩
      obtain ⟨X1, hX1⟩ : ∃ X, X = textsL.getD j1 ⟨#[]⟩ := ⟨_, rfl⟩
      rw [← hX0] at t0 HCP0 hz0
      rw [← hX1] at t1 HCP1 hz1
      have hrn : ruleN k = ((parseP X0).2, (parseP X1).2) := by rw [hX0, hX1, hj1, hj]; rfl
      obtain ⟨P0, hP0⟩ : ∃ P, P = parseP X0 := ⟨_, rfl⟩
      obtain ⟨P1, hP1⟩ : ∃ P, P = parseP X1 := ⟨_, rfl⟩
      rw [← hP0] at HCP0 hz0 hrn
      rw [← hP1] at HCP1 hz1 hrn
      rw [hrn] at HRT
      have HZ0 := Lib.hid hz0
      have HZ1 := Lib.hid hz1
      have hjl : j1 < 24 := by omega
      have hjl0 : j < 24 := by omega
      clear hj hj1 hX0 hX1 hP0 hP1 hrn hz0 hz1
      go_wp2_with fail
      refine (HCP0.out _).mono ?_
      rintro e w3 ⟨v3, er, rfl, hE3, hR3⟩
      obtain ⟨xa, xc, rfl, hTx⟩ := hR3.term HZ0.out
      obtain ⟨bx, w4, hbbx, hwbx, HBbx, hEbx⟩ := box_new w3 (.cells #[.int .i64 P0.2.kind, .string P0.2.name, .int .i64 P0.2.sort, .slice xa P0.2.kids.length xc] 31)
      have hE4 := hE3.trans hEbx
      have HS4 : Hid (wr.heap.size ≤ w4.heap.size) := Lib.hid hE4.size
      have HTX := Lib.hid (hTx.ext hEbx)
      have HO := Lib.hid (HO.out.ext hE4)
      have HER := Lib.hid (RowK.of_ext (v := Value.slice oa (rulesOf (C.take i)).length oc) hE4)
      obtain ⟨t0, t1⟩ := cs_e2 hE4 ⟨t0, t1⟩
      have HE := Lib.hid (HE.out.trans hE4)
      clear hE3 hR3 hTx hEbx hE4
      go_upto_region 8 with fail
      rw [← hwbx, ← hbbx]
      clear hwbx hbbx
      go_wp2_with fail
      refine (HCP1.out _).mono ?_
      rintro e w5 ⟨v5, er5, rfl, hE5, hR5⟩
      obtain ⟨ya, yc, rfl, hTy⟩ := hR5.term HZ1.out
      obtain ⟨cx, w6, hbcx, hwcx, HBcx, hEcx⟩ := box_new w5 (.cells #[.int .i64 P1.2.kind, .string P1.2.name, .int .i64 P1.2.sort, .slice ya P1.2.kids.length yc] 31)
      have hE6 := hE5.trans hEcx
      have HTY := Lib.hid (hTy.ext hEcx)
      have HO := Lib.hid (HO.out.ext hE6)
      have HBX := Lib.hid (hs_ext hE6 HBbx.out)
      have HTX := Lib.hid ((HTX.out.ext hE6).wide (S' := fun c => w1.heap.size ≤ c ∧ (Value.slice oa (rulesOf (C.take i)).length oc).ownBlock ≠ some c) (fun c h _ => ⟨by have := HS1.out; omega, fun e => by have := HOL.out c e; omega⟩))
      have HTY := Lib.hid (HTY.out.wide (S' := fun c => w1.heap.size ≤ c ∧ (Value.slice oa (rulesOf (C.take i)).length oc).ownBlock ≠ some c) (fun c h _ => ⟨by have := HS1.out; have := HS4.out; omega, fun e => by have := HOL.out c e; have := HS4.out; omega⟩))
      obtain ⟨t0, t1⟩ := cs_e2 hE6 ⟨t0, t1⟩
      have HE := Lib.hid (HE.out.trans hE6)
      clear hE5 hR5 hTy hEcx hE6
      go_upto_region 9 with fail
      rw [← hwcx, ← hbcx]
      clear hwcx hbcx
      obtain ⟨x0, x1, x2, x3⟩ := box4r (HBX.out)
      obtain ⟨y0, y1, y2, y3⟩ := box4r (HBcx.out)
      obtain ⟨wa, hwa⟩ : ∃ zz9, zz9 = w6.alloc (.cells #[.int .i64 P0.2.kind, .string P0.2.name, .int .i64 P0.2.sort, .slice xa P0.2.kids.length xc, .int .i64 P1.2.kind, .string P1.2.name, .int .i64 P1.2.sort, .slice ya P1.2.kids.length yc] 55) := ⟨_, rfl⟩
      obtain ⟨fb, hfb⟩ : ∃ zz9, zz9 = w6.heap.size := ⟨_, rfl⟩
      have hEa : Ext w6 wa := by rw [hwa]; exact Ext.alloc _ _
      have hsa : wa.heap.size = w6.heap.size + 1 := by rw [hwa, World.size_alloc]
      have hX : LsE elP wa (fun c => (w1.heap.size ≤ c ∧ (Value.slice oa (rulesOf (C.take i)).length oc).ownBlock ≠ some c) ∧ c < w6.heap.size + 1) (.slice (some ⟨fb, 0, none⟩) 1 1) [(P0.2, P1.2)] := one_pair (by rw [hwa, hfb]; exact hs_new) ((HTX.out.ext hEa).wide (fun c h h2 => ⟨h, by omega⟩)) ((HTY.out.ext hEa).wide (fun c h h2 => ⟨h, by omega⟩))
      have HX := Lib.hid hX
      have HOa := Lib.hid ((HO.out.ext hEa).wide (S' := fun c => (w1.heap.size ≤ c ∧ (Value.slice oa (rulesOf (C.take i)).length oc).ownBlock ≠ some c) ∧ c < w6.heap.size + 1) (fun c h h2 => ⟨h, by omega⟩))
      have HEa := Lib.hid (HE.out.trans hEa)
      have HSA := Lib.hid hsa
      have hlen : (rulesOf (C.take i)).length ≤ 1000000 := by unfold rulesOf; rw [List.length_map, List.length_take, List.length_take]; omega
      have HLEN := Lib.hid hlen
      clear hEa hX hsa hlen
      go_wp2_with (first
       | (refine wpList_buildG (T := 55) rfl [_, _] rfl [(0, .agg #[.int .i64 P0.2.kind, .string P0.2.name, .int .i64 P0.2.sort, .slice xa P0.2.kids.length xc]), (1, .agg #[.int .i64 P1.2.kind, .string P1.2.name, .int .i64 P1.2.sort, .slice ya P1.2.kids.length yc])] rfl (built_rule _ _ _ _ _ _ _ _ _ _ _ _) ?_)
       | (at_builtin
          rw [← hwa, ← hfb]
          refine wpList_appG (E := elP) (T := 55) rfl 22 (.tmp 50) (.tmp 54) rfl rfl rfl Try.underlying22 infRule rfl (by decide) (by decide) HOa.out HEa.out.size (fun c h => h.1.2) HLEN.out (M := [(P0.2, P1.2)]) (by simp) HX.out ?_
          intro v9 w9 o9 g9 k9
          have HE9 : Hid (Ext w1 w9) := Lib.hid (HEa.out.grownG HOa.out (Nat.le_refl _) g9)
          rw [HSA.out] at k9
          have HO9 := Lib.hid (o9.turn k9)
          clear o9 g9 k9))
      go_roundw
      case rel => exact Lib.hid ⟨i + 1, by go_num, by omega, by omega, by rw [HRT.out]; exact HO9.out, HE9.out⟩
      case measure => simp [intOf]; omega
    · have h5z : decide ((i : Int) < 5) = false := by simp; omega
      have HF : Hid (rulesOf (C.take i) = rulesOf C) := Lib.hid (rulesOf_end (.inr (by omega)))
      have HLL := Lib.hid (HO.out.ls (S' := fun c => w.heap.size ≤ c) (fun c h _ => by have := HE1.out.size; omega) (fun g _ h1 _ => by have := HE1.out.size; omega))
      go_wp2_with fail
      go_ret
      exact ⟨_, rfl, HE1.out.trans HE.out, by rw [← HF.out]; exact HLL.out⟩
  · have hltz : ¬ ((i : Int) < C.length) := by omega
    have HF : Hid (rulesOf (C.take i) = rulesOf C) := Lib.hid (rulesOf_end (.inl (by omega)))
    have HLL := Lib.hid (HO.out.ls (S' := fun c => w.heap.size ≤ c) (fun c h _ => by have := HE1.out.size; omega) (fun g _ h1 _ => by have := HE1.out.size; omega))
    go_wp2_with fail
    go_ret
    exact ⟨_, rfl, HE1.out.trans HE.out, by rw [← HF.out]; exact HLL.out⟩

end Go.Proofs.Ytpfnlbaloaohgaa
