/- Automata of formats: searches (plain). Contracts of the automaton. -/
import Derived.Test.YtfaienbdebjfcaaGreatG9
import Derived.Outline
import Derived.Deep.RegionHeld3
import Derived.Deep.DeepCutAuto
import Derived.Deep.QuietTactic
import Derived.BigQuiet
namespace Go.Proofs.YtfaienbdebjfcaaGreat
open Go Go.RowKit
set_option linter.unusedVariables false
set_option linter.unusedSimpArgs false
set_option linter.unusedSectionVars false

section
variable {K : Type} [DecidableEq K] (f : K → Nat → Option K)

/-- what one byte adds -/
def tick (x : K) (L : List K) (b : Nat) : List K := match f x b with | none => L | some n => if n ∈ L then L else L ++ [n]
/-- what the bytes below c add -/
def rowS (L : List K) (x : K) (c : Nat) : List K := (List.range c).foldl (tick f x) L
/-- the list behind k rows -/
def lev (s : K) : Nat → List K
 | 0 => [s]
 | k + 1 => match (lev s k)[k]? with | some x => rowS f (lev s k) x 256 | none => lev s k

variable {f} {s x n : K} {L : List K} {b c k : Nat}

theorem rowS_succ : rowS f L x (c + 1) = tick f x (rowS f L x c) c := by
 rw [rowS, List.range_succ, List.foldl_append]; rfl
theorem tick_none (h : f x b = none) : tick f x L b = L := by rw [tick, h]
theorem tick_old (h : f x b = some n) (hn : n ∈ L) : tick f x L b = L := by rw [tick, h]; simp [hn]
theorem tick_new (h : f x b = some n) (hn : n ∉ L) : tick f x L b = L ++ [n] := by rw [tick, h]; simp [hn]
theorem lev_succ (h : (lev f s k)[k]? = some x) : lev f s (k + 1) = rowS f (lev f s k) x 256 := by rw [lev, h]
theorem lev_stuck (h : (lev f s k)[k]? = none) : lev f s (k + 1) = lev f s k := by rw [lev, h]

theorem tick_pre : L <+: tick f x L b := by
 unfold tick
 split
 · exact List.prefix_rfl
 · split
   · exact List.prefix_rfl
   · exact List.prefix_append _ _
theorem rowS_pre : L <+: rowS f L x c := by
 induction c with
 | zero => exact List.prefix_rfl
 | succ c ih => rw [rowS_succ]; exact ih.trans tick_pre
theorem rowS_mono {d : Nat} (h : c ≤ d) : rowS f L x c <+: rowS f L x d := by
 induction d with
 | zero => have : c = 0 := by omega
           subst this; exact List.prefix_rfl
 | succ d ih =>
   by_cases hc : c = d + 1
   · subst hc; exact List.prefix_rfl
   · rw [rowS_succ]; exact (ih (by omega)).trans tick_pre
theorem lev_pre : lev f s k <+: lev f s (k + 1) := by
 cases h : (lev f s k)[k]? with
 | none => rw [lev_stuck h]; exact List.prefix_rfl
 | some x => rw [lev_succ h]; exact rowS_pre
theorem lev_mono {j : Nat} (h : k ≤ j) : lev f s k <+: lev f s j := by
 induction j with
 | zero => have : k = 0 := by omega
           subst this; exact List.prefix_rfl
 | succ j ih =>
   by_cases hk : k = j + 1
   · subst hk; exact List.prefix_rfl
   · exact (ih (by omega)).trans lev_pre
theorem pre_get {L L' : List K} (h : L <+: L') {i : Nat} {y : K} (hi : L[i]? = some y) : L'[i]? = some y := by
 obtain ⟨t, rfl⟩ := h
 have := (List.getElem?_eq_some_iff.1 hi).1
 rw [List.getElem?_append_left this]
 exact hi
theorem pre_mem {L L' : List K} (h : L <+: L') {y : K} (hy : y ∈ L) : y ∈ L' := h.subset hy
theorem lev_start : (lev f s k)[0]? = some s := pre_get (lev_mono (Nat.zero_le k)) rfl
theorem lev_pos : 0 < (lev f s k).length := (List.getElem?_eq_some_iff.1 (lev_start (f := f) (s := s) (k := k))).1

/-- nothing is twice -/
theorem tick_nodup (h : L.Nodup) : (tick f x L b).Nodup := by
 unfold tick
 split
 · exact h
 · split
   · exact h
   · rename_i n _ hn
     rw [List.nodup_append]
     refine ⟨h, by simp, ?_⟩
     rintro a ha c hc rfl
     simp at hc
     subst hc
     exact hn ha
theorem rowS_nodup (h : L.Nodup) : (rowS f L x c).Nodup := by
 induction c with
 | zero => exact h
 | succ c ih => rw [rowS_succ]; exact tick_nodup ih
theorem lev_nodup : (lev f s k).Nodup := by
 induction k with
 | zero => simp [lev]
 | succ k ih =>
   cases h : (lev f s k)[k]? with
   | none => rw [lev_stuck h]; exact ih
   | some x => rw [lev_succ h]; exact rowS_nodup ih

/-- the whole is found -/
def Full (f : K → Nat → Option K) (s : K) (L : List K) : Prop := ∃ k, L = lev f s k ∧ L.length ≤ k
/-- there are too many -/
def Over (f : K → Nat → Option K) (s : K) : Prop := ∃ k, 20000 < (lev f s k).length

theorem lev_const (h : (lev f s k).length ≤ k) : ∀ j, k ≤ j → lev f s j = lev f s k := by
 intro j
 induction j with
 | zero => intro hk
           have : k = 0 := by omega
           subst this; rfl
 | succ j ih =>
   intro hk
   by_cases hkj : k = j + 1
   · subst hkj; rfl
   · have e := ih (by omega)
     rw [lev_stuck (by rw [e]; exact List.getElem?_eq_none (by omega)), e]
theorem over_of_row (h : (lev f s k)[k]? = some x) (hc : c ≤ 256) (ho : 20000 < (rowS f (lev f s k) x c).length) : Over f s :=
 ⟨k + 1, by rw [lev_succ h]; have := (rowS_mono (f := f) (L := lev f s k) (x := x) hc).length_le; omega⟩

/-- what is found closes under steps -/
theorem row_has (hb : b < c) (h : f x b = some n) : n ∈ rowS f L x c := by
 refine pre_mem (rowS_mono (Nat.succ_le_of_lt hb)) ?_
 rw [rowS_succ]
 by_cases hn : n ∈ rowS f L x b
 · rw [tick_old h hn]; exact hn
 · rw [tick_new h hn]; simp
theorem Full.closed {L : List K} (h : Full f s L) (hx : x ∈ L) (hb : b < 256) (hn : f x b = some n) : n ∈ L := by
 obtain ⟨k, rfl, hk⟩ := h
 obtain ⟨i, hi⟩ := List.mem_iff_getElem?.1 hx
 have hlt := (List.getElem?_eq_some_iff.1 hi).1
 -- row i has been walked
 have hik : i < k := by omega
 have hx' : (lev f s i)[i]? = some x := by
  have hlen : i < (lev f s i).length := by
   apply Nat.lt_of_not_le
   intro hle
   have := lev_const hle k (by omega)
   rw [this] at hlt; omega
  have e := pre_get (lev_mono (f := f) (s := s) (Nat.le_of_lt hik)) (List.getElem?_eq_getElem hlen)
  rw [hi] at e
  rw [List.getElem?_eq_getElem hlen, ← e]
 refine pre_mem (lev_mono (Nat.succ_le_of_lt hik)) ?_
 rw [lev_succ hx']
 exact row_has hb hn
theorem Full.start {L : List K} (h : Full f s L) : s ∈ L := by
 obtain ⟨k, rfl, hk⟩ := h
 exact List.mem_of_getElem? lev_start

/-- steps by a string -/
def runF (f : K → Nat → Option K) (x : K) : List Nat → Option K
 | [] => some x
 | b :: l => (f x b).bind fun n => runF f n l
theorem runF_append {x : K} {l l' : List Nat} : runF f x (l ++ l') = (runF f x l).bind fun n => runF f n l' := by
 induction l generalizing x with
 | nil => rfl
 | cons b l ih =>
   simp only [List.cons_append, runF]
   cases f x b with
   | none => rfl
   | some n => simp [ih]
theorem Full.run {L : List K} (h : Full f s L) : ∀ (l : List Nat) (x y : K), x ∈ L → (∀ b ∈ l, b < 256) → runF f x l = some y → y ∈ L
 | [], x, y, hx, _, e => by cases e; exact hx
 | b :: l, x, y, hx, hl, e => by
   simp only [runF] at e
   cases hn : f x b with
   | none => rw [hn] at e; cases e
   | some n =>
     rw [hn] at e
     exact Full.run h l n y (h.closed hx (hl b (by simp)) hn) (fun c hc => hl c (by simp [hc])) e

/-- how each one was reached -/
def Ways (f : K → Nat → Option K) (L : List K) (W : List (Nat × Nat)) : Prop :=
 W.length = L.length ∧ ∀ (i : Nat) (y : K) (p b : Nat), 0 < i → L[i]? = some y → W[i]? = some (p, b) → p < i ∧ b < 256 ∧ ∃ z, L[p]? = some z ∧ f z b = some y
theorem Ways.one : Ways f [s] [(0, 0)] := ⟨rfl, fun i y p b hi h _ => by
 have := (List.getElem?_eq_some_iff.1 h).1
 simp at this; omega⟩
theorem Ways.push {W : List (Nat × Nat)} {p : Nat} {y : K} (h : Ways f L W) (hp : L[p]? = some x) (hb : b < 256) (hn : f x b = some y) : Ways f (L ++ [y]) (W ++ [(p, b)]) := by
 obtain ⟨h1, h2⟩ := h
 have hpl := (List.getElem?_eq_some_iff.1 hp).1
 refine ⟨by simp [h1], fun i z q c hi hz hw => ?_⟩
 by_cases hil : i < L.length
 · rw [List.getElem?_append_left hil] at hz
   rw [List.getElem?_append_left (by omega)] at hw
   obtain ⟨h3, h4, v, h5, h6⟩ := h2 i z q c hi hz hw
   exact ⟨h3, h4, v, by rw [List.getElem?_append_left (by omega)]; exact h5, h6⟩
 · have hi2 := (List.getElem?_eq_some_iff.1 hz).1
   simp at hi2
   have : i = L.length := by omega
   subst this
   rw [List.getElem?_append_right (by omega), Nat.sub_self] at hz
   rw [List.getElem?_append_right (by omega), show L.length - W.length = 0 by omega] at hw
   simp at hz hw
   obtain ⟨rfl, rfl⟩ := hw
   subst hz
   exact ⟨hpl, hb, x, by rw [List.getElem?_append_left hpl]; exact hp, hn⟩

/-- the bytes that lead to the i-th one, the last one first -/
def pathR (W : List (Nat × Nat)) : Nat → Nat → List Nat
 | 0, _ => []
 | fuel + 1, i => if i = 0 then [] else match W[i]? with | some (p, b) => b :: pathR W fuel p | none => []
theorem Ways.path {W : List (Nat × Nat)} (h : Ways f L W) (h0 : L[0]? = some s) : ∀ (fuel i : Nat) (y : K), i ≤ fuel → L[i]? = some y → runF f s (pathR W fuel i).reverse = some y ∧ (∀ b ∈ pathR W fuel i, b < 256) ∧ (pathR W fuel i).length ≤ i := by
 intro fuel
 induction fuel with
 | zero =>
   intro i y hi hy
   have : i = 0 := by omega
   subst this
   rw [h0] at hy
   cases hy
   exact ⟨rfl, by simp [pathR], by simp [pathR]⟩
 | succ fuel ih =>
   intro i y hi hy
   rw [pathR]
   by_cases hi0 : i = 0
   · subst hi0
     rw [h0] at hy
     cases hy
     simp [runF]
   · rw [if_neg hi0]
     have hlt := (List.getElem?_eq_some_iff.1 hy).1
     cases hwi : W[i]? with
     | none => rw [List.getElem?_eq_none_iff, h.1] at hwi; omega
     | some pb =>
       obtain ⟨p, b⟩ := pb
       obtain ⟨h3, h4, z, h5, h6⟩ := h.2 i y p b (by omega) hy hwi
       obtain ⟨r1, r2, r3⟩ := ih p z (by omega) h5
       refine ⟨?_, ?_, ?_⟩
       · simp only [List.reverse_cons]
         rw [runF_append, r1]
         simp [runF, h6]
       · intro c hc
         rcases List.mem_cons.1 hc with rfl | hc
         · exact h4
         · exact r2 c hc
       · simp; omega
end

section
variable {K K' : Type} [DecidableEq K] [DecidableEq K'] {f : K → Nat → Option K} {f' : K' → Nat → Option K'} {g : K → K'}
end

end Go.Proofs.YtfaienbdebjfcaaGreat

namespace Go.Proofs.YtfaienbdebjfcaaGreat
open Go Go.RowKit
set_option linter.unusedVariables false
set_option linter.unusedSimpArgs false
set_option linter.unusedSectionVars false

theorem join_any (f r q : Int) (w : World) (hf : 0 ≤ f) (hf' : f ≤ 1000000) (hr : -1 ≤ r) (hr' : r ≤ 1000000) (hq : 0 ≤ q) (hq' : q ≤ 1000000) :
 Calls Tryz.prog 120 #[.int .i64 f, .int .i64 r, .int .i64 q] w fun e w' => e = .returned (.int .i64 (f * 262144 + r * 256 + q)) ∧ w = w' := by
 go_enter Tryz.func120, Tryz.ntmps120
 go_wp2
 go_ret
 exact ⟨rfl, rfl⟩

theorem split_any (s : Int) (w : World) (h0 : 0 ≤ s) (h1 : s ≤ 9223372036854775807) :
 Calls Tryz.prog 100 #[.int .i64 s] w fun e w' => e = .returned (.tuple #[.int .i64 (s / 262144), .int .i64 (s / 256 % 1024), .int .i64 (s % 256)]) ∧ w = w' := by
 go_enter Tryz.func100, Tryz.ntmps100
 go_wp2
 go_ret3
 exact ⟨rfl, rfl⟩

theorem fields_any {w : World} {B : Nat} {a : Option Addr} {t : List Fmt} {cap : Nat} {i : Nat} {fm : Fmt} (hT : TabA w B a t) (hB : B ≤ w.heap.size) (hi : t[i]? = some fm) :
 Calls Tryz.prog 101 #[.agg #[.slice a t.length cap, .int .i64 i]] w fun e w' => ∃ fa fcap, e = .returned (.slice fa fm.fields.length fcap) ∧ FldsA w B fa fm.fields ∧ Ext w w' := by
 obtain ⟨hlen, hT⟩ := hT
 unfold maxLen at hlen
 obtain ⟨b, off, rfl, hb, hT⟩ := hT (ne_nil_of_get hi)
 have hlt := lt_of_get hi
 obtain ⟨-, ⟨fa, fcap, hc, hF⟩, -⟩ := hT i fm hi
 clear hT
 have hb' : b < w.heap.size := by omega
 go_enter Tryz.func101, Tryz.ntmps101
 go_wp2
 go_ret
 exact ⟨fa, fcap, rfl, hF, by repeat (first | exact Ext.refl _ | exact Ext.alloc _ _ | apply Ext.then_dr | (refine Ext.then_al ?_ _))⟩

theorem inner_any {w : World} (a : Option Addr) (n cap : Nat) (i : Int) (k x l h : Int) (b : ByteArray) :
 Calls Tryz.prog 123 #[.agg #[.slice a n cap, .int .i64 i], .agg #[.int .i64 k, .string b, .int .i64 x, .int .i64 l, .int .i64 h]] w fun e w' => e = .returned (.agg #[.slice a n cap, .int .i64 x]) ∧ Ext w w' := by
 go_enter Tryz.func123, Tryz.ntmps123
 go_wp2
 exact bodyPost_ret (v := .agg #[.slice a n cap, .int .i64 x]) (by simp [results, Tryz.results123, go_sem]) rfl ⟨rfl, by repeat (first | exact Ext.refl _ | exact Ext.alloc _ _ | apply Ext.then_dr | (refine Ext.then_al ?_ _))⟩

/-- whether the last field is no rest -/
def noRest (F : List Fld) : Bool := match F.getLast? with | some x => x.kind != 6 | none => false
/-- the end -/
def endS (F : List Fld) (s : Int) : Bool := s == F.length * 262144 && noRest F

theorem end_any {w : World} {B : Nat} {a : Option Addr} {t : List Fmt} {cap : Nat} {i : Nat} {fm : Fmt} (s : Int) (hT : TabA w B a t) (hB : B ≤ w.heap.size) (hi : t[i]? = some fm) (hne : fm.fields ≠ []) (hle : fm.fields.length ≤ 100) :
 Calls Tryz.prog 119 #[.agg #[.slice a t.length cap, .int .i64 i], .int .i64 s] w fun e w' => e = .returned (.bool (endS fm.fields s)) ∧ Ext w w' := by
 have hpos : 0 < fm.fields.length := List.length_pos_iff.2 hne
 obtain ⟨x, hx⟩ : ∃ x, fm.fields[fm.fields.length - 1]? = some x := ⟨_, List.getElem?_eq_getElem (by omega)⟩
 have hres : noRest fm.fields = (x.kind != 6) := by simp [noRest, List.getLast?_eq_getElem?, hx]
 go_enter Tryz.func119, Tryz.ntmps119
 go_wp2_with fail
 refine (fields_any (hT.alloc hB _) (by simp; omega) hi).mono ?_
 rintro e w1 ⟨fa, fcap, rfl, hF, hb1⟩
 obtain ⟨-, hF⟩ := hF.ext (by simp; omega) hb1
 obtain ⟨fb, foff, rfl, hfb, hF⟩ := hF hne
 have hk := (hF _ _ hx).kind
 clear hF
 have hb1s := hb1.size
 simp at hb1s
 have hsz : fb < w1.heap.size := by omega
 have hcast : ((fm.fields.length - 1 : Nat) : Int) = (fm.fields.length : Int) - 1 := by omega
 go_wp2_with (go_at_call 120; refine (join_any _ _ _ _ (by omega) (by omega) (by omega) (by omega) (by omega) (by omega)).mono ?_; rintro e w' ⟨rfl, rfl⟩)
 all_goals go_ret
 · exact ⟨rb (by simp [endS, *]), hb1.al⟩
 · exact ⟨rb (by simp [endS, *]), hb1.al⟩

/-- what 'exists' computes within a field; inn: for the state of the nested format -/
def kindS (x : Fld) (inn : Fld → Int → Bool) (s : Int) : Bool :=
 if x.kind = 1 then s % 256 == 0 && decide (s / 256 % 1024 < x.bytes.size)
 else if x.kind = 2 then s % 256 == 0 && decide (s / 256 % 1024 < x.n)
 else if x.kind = 4 then s % 256 == 0 && s / 256 % 1024 == 0
 else if x.kind = 3 then s % 256 == 0 && decide (s / 256 % 1024 ≤ x.n)
 else if x.kind = 6 then s % 256 == 0 && decide (s / 256 % 1024 ≤ x.high)
 else if s / 256 % 1024 = 0 then s % 256 == 0
 else decide (s / 256 % 1024 ≤ 255) && inn x (s % 256 / 32 * 262144 + s % 32 * 256)
def xsS (F : List Fld) (inn : Fld → Int → Bool) (s : Int) : Bool :=
 if s < 0 then false else
 match F[(s / 262144).toNat]? with
 | none => endS F s
 | some x => kindS x inn s
theorem xsS_some {F : List Fld} {inn : Fld → Int → Bool} {s : Int} {f : Nat} {x : Fld} (h : 0 ≤ s) (hf : s / 262144 = f) (hx : F[f]? = some x) : xsS F inn s = kindS x inn s := by
 simp only [xsS, hf, Int.toNat_natCast, hx]; rw [if_neg (by omega)]

def exists0 (F : List Fld) (s : Int) : Bool := xsS F (fun _ _ => false) s
def innS (t : List Fmt) (x : Fld) (n : Int) : Bool := exists0 (t.getD x.n.toNat default).fields n && !endS (t.getD x.n.toNat default).fields n
def exists1 (t : List Fmt) (F : List Fld) (s : Int) : Bool := xsS F (innS t) s

set_option maxRecDepth 100000 in
set_option maxHeartbeats 1000000 in
theorem exists0_any {w : World} {B : Nat} {a : Option Addr} {t : List Fmt} {cap : Nat} {i : Nat} {fm : Fmt} (s : Int) (h1 : s ≤ 9223372036854775807) (hT : TabA w B a t) (hB : B ≤ w.heap.size) (hi : t[i]? = some fm) (hne : fm.fields ≠ []) (hle : fm.fields.length ≤ 100)
 (hp : ∀ x ∈ fm.fields, x.kind = 1 ∨ x.kind = 2 ∨ x.kind = 3 ∨ x.kind = 4 ∨ x.kind = 6) :
 Calls Tryz.prog 99 #[.agg #[.slice a t.length cap, .int .i64 i], .int .i64 s] w fun e w' => e = .returned (.bool (exists0 fm.fields s)) ∧ Ext w w' := by
 by_cases hs : s < 0
 · go_enter Tryz.func99, Tryz.ntmps99
   go_wp2_with fail
   go_ret
   exact ⟨rb (by simp [exists0, xsS, hs]), by repeat (first | exact Ext.refl _ | exact Ext.alloc _ _ | apply Ext.then_dr | (refine Ext.then_al ?_ _))⟩
 · have hs0 : 0 ≤ s := by omega
   obtain ⟨f, hfs⟩ : ∃ f : Nat, s / 262144 = f := ⟨(s / 262144).toNat, by omega⟩
   cases hx : fm.fields[f]? with
   | none =>
     have hres : exists0 fm.fields s = endS fm.fields s := by simp [exists0, xsS, hs, hfs, hx]
     have hlen : fm.fields.length ≤ f := List.getElem?_eq_none_iff.1 hx
     rw [hres]
     have HX := Lib.hid hx; clear hx
     have HR := Lib.hid hres; clear hres
     go_enter Tryz.func99, Tryz.ntmps99
     go_wp2_with fail
     refine (split_any _ _ hs0 h1).mono ?_
     rintro e w' ⟨rfl, rfl⟩
     go_wp2_with fail
     refine (fields_any (hT.alloc hB _) (by simp; omega) hi).mono ?_
     rintro e w1 ⟨fa, fcap, rfl, hF, hb1⟩
     obtain ⟨hc1, -, hs1⟩ := hb1.cells1
     go_wp2_with fail
     refine (end_any s (hT.ext hB hb1.al) (by have := hb1.al.size; omega) hi hne hle).mono ?_
     rintro e w2 ⟨rfl, hb2⟩
     go_wp2_with fail
     go_ret
     exact ⟨rfl, hb1.al.trans hb2⟩
   | some x =>
     have hmem := List.mem_of_getElem? hx
     have hlen := lt_of_get hx
     have hx' := hx
     have hs' := hs
     rcases hp x hmem with hk | hk | hk | hk | hk
     all_goals
      have HX := Lib.hid hx; clear hx
      go_enter Tryz.func99, Tryz.ntmps99
      go_wp2_with fail
      refine (split_any _ _ hs0 h1).mono ?_
      rintro e w' ⟨rfl, rfl⟩
      go_wp2_with fail
      refine (fields_any (hT.alloc hB _) (by simp; omega) hi).mono ?_
      rintro e w1 ⟨fa, fcap, rfl, hF, hb1⟩
      obtain ⟨-, hF⟩ := hF.ext (by simp; omega) hb1
      obtain ⟨fb, foff, rfl, hfb, hF⟩ := hF hne
      obtain ⟨c0, c1, c2, c3, c4, cw⟩ := hF _ _ hx'
      clear hF hx'
      have hb1s := hb1.size
      simp at hb1s
      have hsz : fb < w1.heap.size := by omega
      go_wp2_with fail
      all_goals go_ret
      all_goals exact ⟨rb (by rw [exists0, xsS_some hs0 hfs HX.out]; simp [kindS, *]), hb1.al.trans (by repeat (first | exact Ext.refl _ | exact Ext.alloc _ _ | apply Ext.then_dr | (refine Ext.then_al ?_ _)))⟩

set_option maxRecDepth 100000 in
set_option maxHeartbeats 1000000 in
theorem exists1_any {w : World} {B : Nat} {a : Option Addr} {t : List Fmt} {cap : Nat} {i : Nat} {fm : Fmt} (s : Int) (h1 : s ≤ 9223372036854775807) (hT : TabA w B a t) (hB : B ≤ w.heap.size) (hi : t[i]? = some fm) (hne : fm.fields ≠ []) (hle : fm.fields.length ≤ 100)
 (hp : ∀ x ∈ fm.fields, x.kind = 1 ∨ x.kind = 2 ∨ x.kind = 3 ∨ x.kind = 4 ∨ x.kind = 6 ∨ x.kind = 5)
 (hnest : ∀ x ∈ fm.fields, x.kind = 5 → ∃ j : Nat, x.n = j ∧ ∃ gm, t[j]? = some gm ∧ gm.fields ≠ [] ∧ gm.fields.length ≤ 100 ∧ ∀ y ∈ gm.fields, y.kind = 1 ∨ y.kind = 2 ∨ y.kind = 3 ∨ y.kind = 4 ∨ y.kind = 6) :
 Calls Tryz.prog 99 #[.agg #[.slice a t.length cap, .int .i64 i], .int .i64 s] w fun e w' => e = .returned (.bool (exists1 t fm.fields s)) ∧ Ext w w' := by
 by_cases hs : s < 0
 · go_enter Tryz.func99, Tryz.ntmps99
   go_wp2_with fail
   go_ret
   exact ⟨rb (by simp [exists1, xsS, hs]), by repeat (first | exact Ext.refl _ | exact Ext.alloc _ _ | apply Ext.then_dr | (refine Ext.then_al ?_ _))⟩
 · have hs0 : 0 ≤ s := by omega
   obtain ⟨f, hfs⟩ : ∃ f : Nat, s / 262144 = f := ⟨(s / 262144).toNat, by omega⟩
   cases hx : fm.fields[f]? with
   | none =>
     have hres : exists1 t fm.fields s = endS fm.fields s := by simp [exists1, xsS, hs, hfs, hx]
     have hlen : fm.fields.length ≤ f := List.getElem?_eq_none_iff.1 hx
     rw [hres]
     have HX := Lib.hid hx; clear hx
     have HR := Lib.hid hres; clear hres
     go_enter Tryz.func99, Tryz.ntmps99
     go_wp2_with fail
     refine (split_any _ _ hs0 h1).mono ?_
     rintro e w' ⟨rfl, rfl⟩
     go_wp2_with fail
     refine (fields_any (hT.alloc hB _) (by simp; omega) hi).mono ?_
     rintro e w1 ⟨fa, fcap, rfl, hF, hb1⟩
     obtain ⟨hc1, -, hs1⟩ := hb1.cells1
     go_wp2_with fail
     refine (end_any s (hT.ext hB hb1.al) (by have := hb1.al.size; omega) hi hne hle).mono ?_
     rintro e w2 ⟨rfl, hb2⟩
     go_wp2_with fail
     go_ret
     exact ⟨rfl, hb1.al.trans hb2⟩
   | some x =>
     have hmem := List.mem_of_getElem? hx
     have hlen := lt_of_get hx
     have hx' := hx
     rcases hp x hmem with hk | hk | hk | hk | hk | hk
     case inr.inr.inr.inr.inr =>
      obtain ⟨j, hj, gm, hgm, hgne, hgle, hgp⟩ := hnest x hmem hk
      have HX := Lib.hid hx; clear hx
      go_enter Tryz.func99, Tryz.ntmps99
      go_wp2_with fail
      refine (split_any _ _ hs0 h1).mono ?_
      rintro e w' ⟨rfl, rfl⟩
      go_wp2_with fail
      refine (fields_any (hT.alloc hB _) (by simp; omega) hi).mono ?_
      rintro e w1 ⟨fa, fcap, rfl, hF, hb1⟩
      obtain ⟨hc1, -, hs1⟩ := hb1.cells1
      obtain ⟨-, hF⟩ := hF.ext (by simp; omega) hb1
      obtain ⟨fb, foff, rfl, hfb, hF⟩ := hF hne
      obtain ⟨c0, c1, c2, c3, c4, cw⟩ := hF _ _ hx'
      clear hF hx'
      have hsz : fb < w1.heap.size := by omega
      have hT1 := hT.ext hB hb1.al
      have hl1 : w.heap.size < w1.heap.size := by omega
      by_cases hr : s / 256 % 1024 = 0
      · have e1 : (s / 256 % 1024 == 0) = true := by simp [hr]
        have HR := Lib.hid hr; clear hr
        go_wp2_with fail
        go_ret
        exact ⟨rb (by rw [exists1, xsS_some hs0 hfs HX.out]; simp [kindS, hk, HR.out]), hb1.al.trans (by repeat (first | exact Ext.refl _ | exact Ext.alloc _ _ | apply Ext.then_dr | (refine Ext.then_al ?_ _)))⟩
      · have e1 : (s / 256 % 1024 == 0) = false := by simp [hr]
        have HR := Lib.hid hr; clear hr
        go_wp2_with fail
        refine (inner_any _ _ _ _ _ _ _ _ _).mono ?_
        rintro e w2 ⟨rfl, hb2⟩
        obtain ⟨hc2, -, hs2⟩ := hb2.cells1
        have hb3 := hb1.al.trans hb2.al
        have hT3 := hT.ext hB hb3
        go_wp2_with fail
        refine (join_any _ _ _ _ (by omega) (by omega) (by omega) (by omega) (by omega) (by omega)).mono ?_
        rintro e w' ⟨rfl, rfl⟩
        by_cases h255 : s / 256 % 1024 ≤ 255
        · go_wp2_with fail
          refine (exists0_any _ (by omega) (hT3.alloc (by omega) _) (by simp; omega) hgm hgne hgle hgp).mono ?_
          rintro e w4 ⟨rfl, hb4⟩
          obtain ⟨hc4, -, hs4⟩ := hb4.cells1
          generalize hx0 : exists0 gm.fields (s % 256 / 32 * 262144 + s % 32 * 256) = x0
          have HX0 := Lib.hid hx0; clear hx0
          cases x0
          · go_wp2_with fail
            go_ret
            exact ⟨rb (by rw [exists1, xsS_some hs0 hfs HX.out]; simp [kindS, hk, HR.out, innS, hj, hgm, HX0.out]), hb3.trans hb4.al⟩
          · go_wp2_with fail
            refine (end_any _ ((hT3.alloc (by omega) _).ext (by simp; omega) hb4) (by omega) hgm hgne hgle).mono ?_
            rintro e w5 ⟨rfl, hb5⟩
            go_wp2_with fail
            go_ret
            exact ⟨rb (by rw [exists1, xsS_some hs0 hfs HX.out]; simp [kindS, hk, HR.out, innS, hj, hgm, HX0.out, h255]), hb3.trans (hb4.al.trans hb5)⟩
        · go_wp2_with fail
          go_ret
          exact ⟨rb (by rw [exists1, xsS_some hs0 hfs HX.out]; simp [kindS, hk, HR.out]; omega), hb3.trans (by repeat (first | exact Ext.refl _ | exact Ext.alloc _ _ | apply Ext.then_dr | (refine Ext.then_al ?_ _)))⟩
     all_goals
      have HX := Lib.hid hx; clear hx
      go_enter Tryz.func99, Tryz.ntmps99
      go_wp2_with fail
      refine (split_any _ _ hs0 h1).mono ?_
      rintro e w' ⟨rfl, rfl⟩
      go_wp2_with fail
      refine (fields_any (hT.alloc hB _) (by simp; omega) hi).mono ?_
      rintro e w1 ⟨fa, fcap, rfl, hF, hb1⟩
      obtain ⟨-, hF⟩ := hF.ext (by simp; omega) hb1
      obtain ⟨fb, foff, rfl, hfb, hF⟩ := hF hne
      obtain ⟨c0, c1, c2, c3, c4, cw⟩ := hF _ _ hx'
      clear hF hx'
      have hb1s := hb1.size
      simp at hb1s
      have hsz : fb < w1.heap.size := by omega
      go_wp2_with fail
      all_goals go_ret
      all_goals exact ⟨rb (by rw [exists1, xsS_some hs0 hfs HX.out]; simp [kindS, *]), hb1.al.trans (by repeat (first | exact Ext.refl _ | exact Ext.alloc _ _ | apply Ext.then_dr | (refine Ext.then_al ?_ _)))⟩

/-- a state within a field -/
def stS (f r : Int) : Int := f * 262144 + r * 256

def cntD (f r n : Int) : Int := if r + 1 = n then stS (f + 1) 0 else stS f (r + 1)
def lftS (f r : Int) : Int := if r = 1 then stS (f + 1) 0 else stS f (r - 1)

theorem dcounted_any {w : World} (n r x f : Int) (br bx bf : Nat) (hr : w.cell? ⟨br, 0, none⟩ = some (.int .i64 r)) (hx : w.cell? ⟨bx, 0, none⟩ = some (.int .i64 (stS (f + 1) 0))) (hf : w.cell? ⟨bf, 0, none⟩ = some (.int .i64 f))
 (hf0 : 0 ≤ f) (hf1 : f ≤ 1000) (hr0 : 0 ≤ r) (hr1 : r ≤ 2000) :
 Calls Tryz.prog 121 #[.int .i64 n, .pointer (some ⟨br, 0, none⟩), .pointer (some ⟨bx, 0, none⟩), .pointer (some ⟨bf, 0, none⟩)] w fun e w' => e = .returned (.int .i64 (cntD f r n)) ∧ w = w' := by
 by_cases h : r + 1 = n
 · have e1 : (r + 1 == n) = true := by simp [h]
   have e2 : cntD f r n = stS (f + 1) 0 := by simp [cntD, h]
   rw [e2]
   have E2 := Lib.hid e2; clear e2
   have E3 := Lib.hid h; clear h
   go_enter Tryz.func121, Tryz.ntmps121
   go_wp2_with fail
   go_ret
   exact ⟨rfl, rfl⟩
 · have e1 : (r + 1 == n) = false := by simp [h]
   have e2 : cntD f r n = f * 262144 + (r + 1) * 256 + 0 := by simp [cntD, h, stS]
   rw [e2]
   have E2 := Lib.hid e2; clear e2
   have E3 := Lib.hid h; clear h
   go_enter Tryz.func121, Tryz.ntmps121
   go_wp2_with (go_at_call 120; refine (join_any _ _ _ _ (by omega) (by omega) (by omega) (by omega) (by omega) (by omega)).mono ?_; rintro e w' ⟨rfl, rfl⟩)
   go_ret
   exact ⟨by simp, rfl⟩

theorem left_any {w : World} (r x f : Int) (br bx bf : Nat) (hr : w.cell? ⟨br, 0, none⟩ = some (.int .i64 r)) (hx : w.cell? ⟨bx, 0, none⟩ = some (.int .i64 (stS (f + 1) 0))) (hf : w.cell? ⟨bf, 0, none⟩ = some (.int .i64 f))
 (hf0 : 0 ≤ f) (hf1 : f ≤ 1000) (hr0 : 0 ≤ r) (hr1 : r ≤ 2000) :
 Calls Tryz.prog 122 #[.pointer (some ⟨br, 0, none⟩), .pointer (some ⟨bx, 0, none⟩), .pointer (some ⟨bf, 0, none⟩)] w fun e w' => e = .returned (.int .i64 (lftS f r)) ∧ w = w' := by
 by_cases h : r = 1
 · have e1 : (r == 1) = true := by simp [h]
   have e2 : lftS f r = stS (f + 1) 0 := by simp [lftS, h]
   rw [e2]
   have E2 := Lib.hid e2; clear e2
   have E3 := Lib.hid h; clear h
   go_enter Tryz.func122, Tryz.ntmps122
   go_wp2_with fail
   go_ret
   exact ⟨rfl, rfl⟩
 · have e1 : (r == 1) = false := by simp [h]
   have e2 : lftS f r = f * 262144 + (r - 1) * 256 + 0 := by simp [lftS, h, stS]
   rw [e2]
   have E2 := Lib.hid e2; clear e2
   have E3 := Lib.hid h; clear h
   go_enter Tryz.func122, Tryz.ntmps122
   go_wp2_with (go_at_call 120; refine (join_any _ _ _ _ (by omega) (by omega) (by omega) (by omega) (by omega) (by omega)).mono ?_; rintro e w' ⟨rfl, rfl⟩)
   go_ret
   exact ⟨by simp, rfl⟩

/-- whether a state accepts -/
def accS (t : List Fmt) (F : List Fld) (s : Int) : Bool :=
 exists1 t F s && (s / 262144 == F.length || match F[(s / 262144).toNat]? with | some x => x.kind == 6 && decide (x.low ≤ s / 256 % 1024) | none => false)

theorem xsS_len {F : List Fld} {inn : Fld → Int → Bool} {s : Int} (h : xsS F inn s = true) : 0 ≤ s ∧ s / 262144 ≤ F.length := by
 unfold xsS at h
 split at h
 · simp at h
 · refine ⟨by omega, ?_⟩
   split at h
   · simp [endS] at h; omega
   · rename_i x hx
     have := lt_of_get hx
     omega

set_option maxRecDepth 100000 in
set_option maxHeartbeats 1000000 in
theorem accepts_any {w : World} {B : Nat} {a : Option Addr} {t : List Fmt} {cap : Nat} {i : Nat} {fm : Fmt} (s : Int) (h1 : s ≤ 9223372036854775807) (hT : TabA w B a t) (hB : B ≤ w.heap.size) (hi : t[i]? = some fm) (hne : fm.fields ≠ []) (hle : fm.fields.length ≤ 100)
 (hp : ∀ x ∈ fm.fields, x.kind = 1 ∨ x.kind = 2 ∨ x.kind = 3 ∨ x.kind = 4 ∨ x.kind = 6 ∨ x.kind = 5)
 (hnest : ∀ x ∈ fm.fields, x.kind = 5 → ∃ j : Nat, x.n = j ∧ ∃ gm, t[j]? = some gm ∧ gm.fields ≠ [] ∧ gm.fields.length ≤ 100 ∧ ∀ y ∈ gm.fields, y.kind = 1 ∨ y.kind = 2 ∨ y.kind = 3 ∨ y.kind = 4 ∨ y.kind = 6) :
 Calls Tryz.prog 69 #[.agg #[.slice a t.length cap, .int .i64 i], .int .i64 s] w fun e w' => e = .returned (.bool (accS t fm.fields s)) ∧ Ext w w' := by
 generalize hx0 : exists1 t fm.fields s = x0
 have HX0 := Lib.hid hx0
 cases x0
 · have e2 : accS t fm.fields s = false := by simp [accS, hx0]
   rw [e2]
   have E2 := Lib.hid e2; clear e2 hx0
   go_enter Tryz.func69, Tryz.ntmps69
   go_wp2_with fail
   refine (exists1_any _ h1 (hT.alloc hB _) (by simp; omega) hi hne hle hp hnest).mono ?_
   rw [HX0.out]
   rintro e w1 ⟨rfl, hb1⟩
   go_wp2_with fail
   go_ret
   exact ⟨rfl, hb1.al⟩
 · obtain ⟨h0, hlen⟩ := xsS_len hx0
   clear hx0
   obtain ⟨f, hfs⟩ : ∃ f : Nat, s / 262144 = f := ⟨(s / 262144).toNat, by omega⟩
   have hlen' : f ≤ fm.fields.length := by omega
   have HF := Lib.hid hfs; clear hfs
   go_enter Tryz.func69, Tryz.ntmps69
   go_wp2_with fail
   refine (exists1_any _ h1 (hT.alloc hB _) (by simp; omega) hi hne hle hp hnest).mono ?_
   rw [HX0.out]
   rintro e w1 ⟨rfl, hb1⟩
   obtain ⟨hc1, -, hs1⟩ := hb1.cells1
   go_wp2_with fail
   refine (split_any _ _ h0 h1).mono ?_
   rw [HF.out]
   rintro e w' ⟨rfl, rfl⟩
   go_wp2_with fail
   refine (fields_any (hT.ext hB hb1.al) (by omega) hi).mono ?_
   rintro e w2 ⟨fa, fcap, rfl, hF, hb2⟩
   by_cases hlt : f = fm.fields.length
   · have e1 : ((f : Int) == (fm.fields.length : Int)) = true := by simp [hlt]
     have HL := Lib.hid hlt; clear hlt
     go_wp2_with fail
     go_ret
     exact ⟨rb (by simp [accS, HX0.out, HF.out, HL.out]), hb1.al.trans hb2⟩
   · have e1 : ((f : Int) == (fm.fields.length : Int)) = false := by simp; omega
     have hlt' : f < fm.fields.length := by omega
     obtain ⟨x, hx⟩ : ∃ x, fm.fields[f]? = some x := ⟨_, List.getElem?_eq_getElem hlt'⟩
     obtain ⟨-, hF⟩ := hF.ext (by omega) hb2
     obtain ⟨fb, foff, rfl, hfb, hF⟩ := hF hne
     obtain ⟨c0, c1, c2, c3, c4, cw⟩ := hF _ _ hx
     clear hF
     have hs2 := hb2.size
     have hsz : fb < w2.heap.size := by omega
     have HX := Lib.hid hx; clear hx
     go_wp2_with fail
     all_goals go_ret
     all_goals exact ⟨rb (by simp only [accS, HX0.out, HF.out, HX.out, Int.toNat_natCast]; simp [*]), hb1.al.trans hb2⟩

theorem TabA.get {w : World} {B : Nat} {a : Option Addr} {t : List Fmt} {i : Nat} {fm : Fmt} (hT : TabA w B a t) (hi : t[i]? = some fm) (hne : fm.fields ≠ []) :
 ∃ tb toff fb foff fcap, a = some ⟨tb, toff, none⟩ ∧ tb < B ∧ w.cell? ⟨tb, toff + i * 2 + 1, none⟩ = some (.slice (some ⟨fb, foff, none⟩) fm.fields.length fcap) ∧ fb < B ∧ ∀ k x, fm.fields[k]? = some x → FldAt w fb (foff + k * 5) x := by
 obtain ⟨-, hT⟩ := hT
 obtain ⟨b, off, rfl, hb, hT⟩ := hT (ne_nil_of_get hi)
 obtain ⟨-, ⟨fa, fcap, hc, -, hF⟩, -⟩ := hT i fm hi
 obtain ⟨fb, foff, rfl, hfb, hF⟩ := hF hne
 exact ⟨b, off, fb, foff, fcap, rfl, hb, hc, hfb, hF⟩

theorem fields_at {w : World} {b off n cap : Nat} {i : Nat} {v : Value} (hi : i < n) (hn : n ≤ 9223372036854775807) (hc : w.cell? ⟨b, off + i * 2 + 1, none⟩ = some v) (hb : b < w.heap.size) :
 Calls Tryz.prog 101 #[.agg #[.slice (some ⟨b, off, none⟩) n cap, .int .i64 i]] w fun e w' => e = .returned v ∧ Ext w w' := by
 go_enter Tryz.func101, Tryz.ntmps101
 go_wp2
 go_ret
 exact ⟨rfl, by repeat (first | exact Ext.refl _ | exact Ext.alloc _ _ | apply Ext.then_dr | (refine Ext.then_al ?_ _))⟩

/-- the step within a field that is not nested -/
def stepK (x : Fld) (f r : Nat) (b : Nat) : Int :=
 if x.kind = 1 then (if (x.bytes.data.toList.getD r 0).toNat = b then cntD f r x.bytes.size else -1)
 else if x.kind = 2 then cntD f r x.n
 else if x.kind = 4 then (if x.low ≤ b ∧ b ≤ x.high then stS (f + 1) 0 else -1)
 else if x.kind = 3 then (if 0 < r then lftS f r else if b = 0 then stS (f + 1) 0 else if b ≤ x.n then stS f b else -1)
 else if r < x.high then stS f (r + 1) else -1

def pstep0 (F : List Fld) (s : Int) (b : Nat) : Int :=
 if exists0 F s = false ∨ endS F s = true then -1 else
 match F[(s / 262144).toNat]? with
 | none => -1
 | some x => stepK x (s / 262144).toNat (s / 256 % 1024).toNat b

set_option maxRecDepth 100000 in
set_option maxHeartbeats 2000000 in
theorem step0_any {w : World} {B : Nat} {a : Option Addr} {t : List Fmt} {cap : Nat} {i : Nat} {fm : Fmt} (s : Int) (b : Nat) (hb255 : b ≤ 255) (h1 : s ≤ 9223372036854775807) (hT : TabA w B a t) (hB : B ≤ w.heap.size) (hi : t[i]? = some fm) (hne : fm.fields ≠ []) (hle : fm.fields.length ≤ 100)
 (hp : ∀ x ∈ fm.fields, x.kind = 1 ∨ x.kind = 2 ∨ x.kind = 3 ∨ x.kind = 4 ∨ x.kind = 6) :
 Calls Tryz.prog 98 #[.agg #[.slice a t.length cap, .int .i64 i], .int .i64 s, .int .u8 b] w fun e w' => e = .returned (.int .i64 (pstep0 fm.fields s b)) ∧ Ext w w' := by
 generalize hx0 : exists0 fm.fields s = x0
 have HX0 := Lib.hid hx0
 generalize hx1 : endS fm.fields s = x1
 have HX1 := Lib.hid hx1
 by_cases hgo : x0 = false ∨ x1 = true
 · have e2 : pstep0 fm.fields s b = -1 := by simp [pstep0, hx0, hx1, hgo]
   rw [e2]
   have E2 := Lib.hid e2; clear e2 hx0 hx1
   go_enter Tryz.func98, Tryz.ntmps98
   go_wp2_with fail
   refine (exists0_any _ h1 (hT.alloc hB _) (by simp; omega) hi hne hle hp).mono ?_
   rw [HX0.out]
   rintro e w1 ⟨rfl, hb1⟩
   obtain ⟨hc1, -, hs1⟩ := hb1.cells1
   cases x0
   · go_wp2_with fail
     go_ret
     exact ⟨rfl, hb1.al⟩
   · go_wp2_with fail
     refine (end_any _ (hT.ext hB hb1.al) (by omega) hi hne hle).mono ?_
     rw [HX1.out]
     have hx1t : x1 = true := by simpa using hgo
     subst hx1t
     rintro e w2 ⟨rfl, hb2⟩
     go_wp2_with fail
     go_ret
     exact ⟨rfl, hb1.al.trans hb2⟩
 · obtain ⟨rfl, rfl⟩ : x0 = true ∧ x1 = false := by simpa using hgo
   obtain ⟨h0, hlen⟩ := xsS_len hx0
   obtain ⟨f, hfs⟩ : ∃ f : Nat, s / 262144 = f := ⟨(s / 262144).toNat, by omega⟩
   obtain ⟨r, hrs⟩ : ∃ r : Nat, s / 256 % 1024 = r := ⟨(s / 256 % 1024).toNat, by omega⟩
   have hr1024 : r < 1024 := by omega
   have hlt : f < fm.fields.length := by
    rcases Nat.lt_or_ge f fm.fields.length with h | h
    · exact h
    · exfalso
      have : fm.fields[f]? = none := List.getElem?_eq_none_iff.2 h
      unfold exists0 xsS at hx0
      rw [if_neg (by omega), hfs, Int.toNat_natCast, this] at hx0
      rw [hx1] at hx0
      cases hx0
   obtain ⟨x, hx⟩ : ∃ x, fm.fields[f]? = some x := ⟨_, List.getElem?_eq_getElem hlt⟩
   have hmem := List.mem_of_getElem? hx
   have hk0 : kindS x (fun _ _ => false) s = true := by rw [exists0, xsS_some h0 hfs hx] at hx0; exact hx0
   have e2 : pstep0 fm.fields s b = stepK x f r b := by simp only [pstep0, hx0, hx1, hfs, hrs, Int.toNat_natCast, hx]; simp
   rw [e2]
   have E2 := Lib.hid e2
   have HF := Lib.hid hfs
   have HR := Lib.hid hrs
   have HX := Lib.hid hx
   have HK := Lib.hid hk0
   clear e2 hx0 hx1 hfs hrs hx hk0 hgo
   go_enter Tryz.func98, Tryz.ntmps98
   go_wp2_with fail
   refine (exists0_any _ h1 (hT.alloc hB _) (by simp; omega) hi hne hle hp).mono ?_
   rw [HX0.out]
   rintro e w1 ⟨rfl, hb1⟩
   obtain ⟨hc1, -, hs1⟩ := hb1.cells1
   go_wp2_with fail
   refine (end_any _ (hT.ext hB hb1.al) (by omega) hi hne hle).mono ?_
   rw [HX1.out]
   rintro e w2 ⟨rfl, hb2⟩
   obtain ⟨hc2, -⟩ := hb2.cells
   have hs2 := hb2.size
   have hla : w.heap.size < w1.heap.size := by omega
   go_wp2_with fail
   refine (split_any _ _ h0 h1).mono ?_
   rw [HF.out, HR.out]
   rintro e w' ⟨rfl, rfl⟩
   go_wp2_with fail
   obtain ⟨tb, toff, fb, foff, fcap, rfl, htb, htc, hfb, hF⟩ := hT.get hi hne
   obtain ⟨c0, c1, c2, c3, c4, cw⟩ := hF _ _ HX.out
   have hin := lt_of_get hi
   have hn63 := hT.1
   unfold maxLen at hn63
   have hw2 : w.heap.size < w2.heap.size := by omega
   have k0 : w2.cell? ⟨w.heap.size, 0, none⟩ = some (.slice (some ⟨tb, toff, none⟩) t.length cap) := by rw [hc2 _ _ (by omega), hc1 _ _ (by omega)]; simp
   have k1 : w2.cell? ⟨w.heap.size, 1, none⟩ = some (.int .i64 i) := by rw [hc2 _ _ (by omega), hc1 _ _ (by omega)]; simp
   have d := fun o => (hb1.al.trans hb2).cell (b := fb) (o := o) (by omega)
   have d' := (hb1.al.trans hb2).cell (b := tb) (o := toff + i * 2 + 1) (by omega)
   rw [← d'] at htc
   rw [← d] at c0 c1 c2 c3 c4
   clear d d' hF hc1 hc2
   obtain ⟨W, hW⟩ : ∃ W, W = (w2.alloc (Obj.cells #[Value.int IntKind.i64 ↑f] 3)).alloc (Obj.cells #[Value.int IntKind.i64 ↑r] 3) := ⟨_, rfl⟩
   go_cut [10] (fun s10 wx => ∃ g : Nat, s10 = .pointer (some ⟨g, 0, none⟩) ∧ w2.heap.size + 2 ≤ g ∧ Ext ((w2.alloc (Obj.cells #[Value.int IntKind.i64 ↑f] 3)).alloc (Obj.cells #[Value.int IntKind.i64 ↑r] 3)) wx ∧
    wx.heap[g]? = some (.cells #[.int .i64 x.kind, .string x.bytes, .int .i64 x.n, .int .i64 x.low, .int .i64 x.high] 59))
   case first =>
    have k0 := cs_al (o := Obj.cells #[Value.int IntKind.i64 ↑r] 3) (cs_al (o := Obj.cells #[Value.int IntKind.i64 ↑f] 3) k0)
    have k1 := cs_al (o := Obj.cells #[Value.int IntKind.i64 ↑r] 3) (cs_al (o := Obj.cells #[Value.int IntKind.i64 ↑f] 3) k1)
    have k2 : ((w2.alloc (Obj.cells #[Value.int IntKind.i64 ↑f] 3)).alloc (Obj.cells #[Value.int IntKind.i64 ↑r] 3)).cell? ⟨w2.heap.size, 0, none⟩ = some (.int .i64 f) := cs_al (cs_new rfl)
    have htc := cs_al (o := Obj.cells #[Value.int IntKind.i64 ↑r] 3) (cs_al (o := Obj.cells #[Value.int IntKind.i64 ↑f] 3) htc)
    have c0 := cs_al (o := Obj.cells #[Value.int IntKind.i64 ↑r] 3) (cs_al (o := Obj.cells #[Value.int IntKind.i64 ↑f] 3) c0)
    have c1 := cs_al (o := Obj.cells #[Value.int IntKind.i64 ↑r] 3) (cs_al (o := Obj.cells #[Value.int IntKind.i64 ↑f] 3) c1)
    have c2 := cs_al (o := Obj.cells #[Value.int IntKind.i64 ↑r] 3) (cs_al (o := Obj.cells #[Value.int IntKind.i64 ↑f] 3) c2)
    have c3 := cs_al (o := Obj.cells #[Value.int IntKind.i64 ↑r] 3) (cs_al (o := Obj.cells #[Value.int IntKind.i64 ↑f] 3) c3)
    have c4 := cs_al (o := Obj.cells #[Value.int IntKind.i64 ↑r] 3) (cs_al (o := Obj.cells #[Value.int IntKind.i64 ↑f] 3) c4)
    have HFCT := Lib.hid (And.intro k0 (And.intro k1 (And.intro k2 (And.intro c0 (And.intro c1 (And.intro c2 (And.intro c3 c4)))))))
    refine wp_region_calm 6 (fun w' => Ext ((w2.alloc (Obj.cells #[Value.int IntKind.i64 ↑f] 3)).alloc (Obj.cells #[Value.int IntKind.i64 ↑r] 3)) w') (by kernel_rfl) (by kernel_rfl) (fun _ _ h hE => h.trans hE) (Ext.drew _) ?_
    refine calm_value (fun _ => rfl) ?_ (fun g w' hE => ?_) ?_
    rotate_left
    · (have ⟨z0, z1, z2, z3, z4, z5, z6, z7⟩ := cs_e8 hE HFCT.out; go_simp; first | done | rfl)
    refine calm_call' (fun _ => rfl) 101 ?_ (fun g w' hE => ?_) ?_
    rotate_left
    · (have ⟨z0, z1, z2, z3, z4, z5, z6, z7⟩ := cs_e8 hE HFCT.out; go_simp; first | done | exact ⟨rfl, rfl⟩ | rfl)
    apply Exists.intro
    refine And.intro (fun w' hE => ?_) ?_
    · exact fields_at hin hn63 (cs_ext hE htc) (by have := hE.size; simp at this; omega)
    refine calm_value (fun _ => rfl) ?_ (fun g w' hE => ?_) ?_
    rotate_left
    · (have ⟨z0, z1, z2, z3, z4, z5, z6, z7⟩ := cs_e8 hE HFCT.out; go_simp; first | done | rfl)
    refine calm_value (fun _ => rfl) ?_ (fun g w' hE => ?_) ?_
    rotate_left
    · (have ⟨z0, z1, z2, z3, z4, z5, z6, z7⟩ := cs_e8 hE HFCT.out; go_simp; first | done | rfl)
    refine calm_value (fun _ => rfl) ?_ (fun g w' hE => ?_) ?_
    rotate_left
    · (have ⟨z0, z1, z2, z3, z4, z5, z6, z7⟩ := cs_e8 hE HFCT.out; go_simp; first | done | rfl)
    refine calm_fresh (fun _ => rfl) (fun n => .pointer (some ⟨n, 0, none⟩)) ?_ (fun g w' hE => ?_) ?_
    rotate_left
    · (have ⟨z0, z1, z2, z3, z4, z5, z6, z7⟩ := cs_e8 hE HFCT.out; go_simp; first | done | rfl | exact ⟨rfl, rfl⟩)
    intro g wz hE hF
    simp only [List.drop_succ_cons, List.drop_zero, Act.put, List.setIfInBounds_toArray, List.set_cons_succ, List.set_cons_zero]
    obtain ⟨-, hF, -⟩ := hF
    obtain ⟨hg, hge⟩ := hF _ List.mem_cons_self
    simp at hg hge
    refine wpList_store_all rfl 59 (.tmp 10) (.tmp 38) rfl (g 5) _ rfl rfl 59 _ hg (by kernel_rfl) rfl (by simp [Value.oneCell']) ?_
    go_wp2_with fail

    go_meet
    exact ⟨g 5, rfl, by omega, hE.setRow (by simp; omega) _, setRow_heap _ _ _ _ _ _ hg⟩
   case rest =>
    obtain ⟨g, rfl, hg2, hEc, hgc⟩ := hcut
    have r0 := cs_ext hEc (cs_al (o := Obj.cells #[Value.int IntKind.i64 ↑r] 3) (cs_al (o := Obj.cells #[Value.int IntKind.i64 ↑f] 3) k0))
    have r1 := cs_ext hEc (cs_al (o := Obj.cells #[Value.int IntKind.i64 ↑r] 3) (cs_al (o := Obj.cells #[Value.int IntKind.i64 ↑f] 3) k1))
    have rf : wc.cell? ⟨w2.heap.size, 0, none⟩ = some (.int .i64 f) := cs_ext hEc (cs_al (cs_new rfl))
    have rr : wc.cell? ⟨w2.heap.size + 1, 0, none⟩ = some (.int .i64 r) := cs_ext hEc (by rw [← World.size_alloc w2 (Obj.cells #[Value.int IntKind.i64 ↑f] 3)]; exact cs_new rfl)
    have g0 : wc.cell? ⟨g, 0, none⟩ = some (.int .i64 x.kind) := by rw [cell_of_row _ _ _ _ _ _ hgc]; rfl
    have g1 : wc.cell? ⟨g, 1, none⟩ = some (.string x.bytes) := by rw [cell_of_row _ _ _ _ _ _ hgc]; rfl
    have g2 : wc.cell? ⟨g, 2, none⟩ = some (.int .i64 x.n) := by rw [cell_of_row _ _ _ _ _ _ hgc]; rfl
    have g3 : wc.cell? ⟨g, 3, none⟩ = some (.int .i64 x.low) := by rw [cell_of_row _ _ _ _ _ _ hgc]; rfl
    have g4 : wc.cell? ⟨g, 4, none⟩ = some (.int .i64 x.high) := by rw [cell_of_row _ _ _ _ _ _ hgc]; rfl
    have hsc := hEc.size
    simp only [World.size_alloc] at hsc
    have hglt : g < wc.heap.size := World.block_lt_of_cell? wc _ g0
    have hEw : Ext w wc := (hb1.al.trans hb2).trans (((Ext.alloc _ _).trans (Ext.alloc _ _)).trans hEc)
    have l1 : w2.heap.size < wc.heap.size := by omega
    have l2 : w2.heap.size + 1 < wc.heap.size := by omega
    clear k0 k1 htc c0 c1 c2 c3 c4 hEc hgc hb1 hb2 hs1 hs2
    have hnx : (wc.alloc (Obj.cells #[Value.int IntKind.i64 ((↑f + 1) * 262144)] 3)).cell? ⟨wc.heap.size, 0, none⟩ = some (.int .i64 (stS (f + 1) 0)) := by rw [cs_new rfl]; simp [stS]
    have hf1000 : f ≤ 1000 := by omega
    rcases hp x hmem with hk | hk | hk | hk | hk
    · have hK1 := HK.out
      simp only [kindS, hk, if_true, HR.out] at hK1
      have HBR : Hid (x.bytes.data.toList.getD r 0 = x.bytes[r]'(by simpa using (Bool.and_eq_true_iff.1 hK1).2)) := by
       have : r < x.bytes.size := by simpa using (Bool.and_eq_true_iff.1 hK1).2
       show _ = _
       rw [List.getD_eq_getElem?_getD, List.getElem?_eq_getElem (by simpa using this)]
       rfl
      have hrb : r < x.bytes.size := by simpa using (Bool.and_eq_true_iff.1 hK1).2
      by_cases hbb : x.bytes[r].toNat = b
      · have e1 : (((x.bytes[r].toNat : Nat) : Int) == (b : Int)) = true := by simp; omega
        have HBB := Lib.hid hbb; clear hbb
        go_wp2_with fail
        refine (join_any _ _ _ _ (by omega) (by omega) (by omega) (by omega) (by omega) (by omega)).mono ?_
        rintro e w' ⟨rfl, rfl⟩
        go_wp2_with fail
        refine (dcounted_any _ _ 0 f _ _ _ (cs_al rr) hnx (cs_al rf) (by omega) (by omega) (by omega) (by omega)).mono ?_
        rintro e w' ⟨rfl, rfl⟩
        go_wp2_with fail
        go_ret
        exact ⟨ri (by simp only [stepK, hk, if_true]; rw [HBR.out, if_pos HBB.out]), hEw.then_al _⟩
      · have e1 : (((x.bytes[r].toNat : Nat) : Int) == (b : Int)) = false := by simp; omega
        have HBB := Lib.hid hbb; clear hbb
        go_wp2_with fail
        refine (join_any _ _ _ _ (by omega) (by omega) (by omega) (by omega) (by omega) (by omega)).mono ?_
        rintro e w' ⟨rfl, rfl⟩
        go_wp2_with fail
        go_ret
        exact ⟨ri (by simp only [stepK, hk, if_true]; rw [HBR.out, if_neg HBB.out]), hEw.then_al _⟩
    · have hK1 := HK.out
      clear HK
      go_wp2_with fail
      refine (join_any _ _ _ _ (by omega) (by omega) (by omega) (by omega) (by omega) (by omega)).mono ?_
      rintro e w' ⟨rfl, rfl⟩
      go_wp2_with fail
      refine (dcounted_any _ _ 0 f _ _ _ (cs_al rr) hnx (cs_al rf) (by omega) (by omega) (by omega) (by omega)).mono ?_
      rintro e w' ⟨rfl, rfl⟩
      go_wp2_with fail
      go_ret
      exact ⟨ri (by simp [stepK, hk]), hEw.then_al _⟩
    · have hK1 := HK.out
      have hxn : I64 x.n := cw.n
      unfold I64 at hxn
      clear HK
      by_cases hr0 : 0 < r
      · have e1 : decide ((0 : Int) < (r : Int)) = true := by simp; omega
        go_wp2_with fail
        refine (join_any _ _ _ _ (by omega) (by omega) (by omega) (by omega) (by omega) (by omega)).mono ?_
        rintro e w' ⟨rfl, rfl⟩
        go_wp2_with fail
        refine (left_any _ 0 f _ _ _ (cs_al rr) hnx (cs_al rf) (by omega) (by omega) (by omega) (by omega)).mono ?_
        rintro e w' ⟨rfl, rfl⟩
        go_wp2_with fail
        go_ret
        exact ⟨ri (by simp [stepK, hk, hr0]), hEw.then_al _⟩
      · have e1 : decide ((0 : Int) < (r : Int)) = false := by simp; omega
        by_cases hb0 : b = 0
        · have e2 : ((b : Int) == 0) = true := by simp; omega
          go_wp2_with fail
          refine (join_any _ _ _ _ (by omega) (by omega) (by omega) (by omega) (by omega) (by omega)).mono ?_
          rintro e w' ⟨rfl, rfl⟩
          go_wp2_with fail
          go_ret
          exact ⟨ri (by simp [stepK, hk, hr0, hb0, stS]), hEw.then_al _⟩
        · have e2 : ((b : Int) == 0) = false := by simp; omega
          by_cases hbn : (b : Int) ≤ x.n
          · go_wp2_with fail
            refine (join_any _ _ _ _ (by omega) (by omega) (by omega) (by omega) (by omega) (by omega)).mono ?_
            rintro e w' ⟨rfl, rfl⟩
            go_wp2_with fail
            refine (join_any _ _ _ _ (by omega) (by omega) (by omega) (by omega) (by omega) (by omega)).mono ?_
            rintro e w' ⟨rfl, rfl⟩
            go_wp2_with fail
            go_ret
            exact ⟨ri (by simp [stepK, hk, hr0, hb0, stS]; omega), hEw.then_al _⟩
          · go_wp2_with fail
            refine (join_any _ _ _ _ (by omega) (by omega) (by omega) (by omega) (by omega) (by omega)).mono ?_
            rintro e w' ⟨rfl, rfl⟩
            go_wp2_with fail
            go_ret
            exact ⟨ri (by simp [stepK, hk, hr0, hb0, stS]; omega), hEw.then_al _⟩
    · have hK1 := HK.out
      clear HK
      go_wp2_with fail
      refine (join_any _ _ _ _ (by omega) (by omega) (by omega) (by omega) (by omega) (by omega)).mono ?_
      rintro e w' ⟨rfl, rfl⟩
      go_wp2_with fail
      all_goals go_ret
      all_goals exact ⟨ri (by simp [stepK, hk, stS]; omega), hEw.then_al _⟩
    · have hK1 := HK.out
      clear HK
      go_wp2_with fail
      refine (join_any _ _ _ _ (by omega) (by omega) (by omega) (by omega) (by omega) (by omega)).mono ?_
      rintro e w' ⟨rfl, rfl⟩
      go_wp2_with fail
      · refine (join_any _ _ _ _ (by omega) (by omega) (by omega) (by omega) (by omega) (by omega)).mono ?_
        rintro e w' ⟨rfl, rfl⟩
        go_wp2_with fail
        go_ret
        exact ⟨ri (by simp [stepK, hk, stS]; omega), hEw.then_al _⟩
      · go_ret
        exact ⟨ri (by simp [stepK, hk, stS]; omega), hEw.then_al _⟩

end Go.Proofs.YtfaienbdebjfcaaGreat
