/- Rows of numbers of strings in memory; the closure that sets one. Contracts: numbers of strings of fields that are not nested. Contracts: numbers of strings of a format (codec.all). Contracts: numbers of strings: nested fields, codec.Count. -/
import Derived.Test.YtfaienbdebjfcaaGreatGA
import Derived.Laws.EntriesVeiled
namespace Go.Proofs.YtfaienbdebjfcaaGreat
open Go Go.RowKit
set_option linter.unusedVariables false
set_option linter.unusedSimpArgs false

def encU (v : Int) : Value := .int .u64 v
/-- a block of numbers -/
def BlkU (w : World) (gb : Nat) (L : List Int) : Prop := w.heap[gb]? = some (.cells (L.map encU).toArray 89)
theorem BlkU.lt {w : World} {gb : Nat} {L : List Int} (h : BlkU w gb L) : gb < w.heap.size := (Array.getElem?_eq_some_iff.1 h).1
theorem BlkU.ext {w w' : World} {gb : Nat} {L : List Int} (h : BlkU w gb L) (hE : Ext w w') : BlkU w' gb L := hs_ext hE h
theorem BlkU.get {w : World} {gb : Nat} {L : List Int} (h : BlkU w gb L) {k : Nat} {v : Int} (hk : L[k]? = some v) : w.cell? ⟨gb, k, none⟩ = some (.int .u64 v) := by
 rw [cellc h]
 simp [hk, encU]
theorem BlkU.frozen {w : World} {gb : Nat} {L : List Int} (h : BlkU w gb L) (k : Nat) : w.frozen? ⟨gb, k, none⟩ = false := frozenc h
theorem BlkU.set {w : World} {gb : Nat} {L : List Int} (h : BlkU w gb L) (k : Nat) (v : Int) : BlkU (w.setCell ⟨gb, k, none⟩ (.int .u64 v)) gb (L.set k v) := by
 unfold BlkU at h ⊢
 rw [heap_setCell_same w gb k _ _ _ h]
 congr 2
 apply Array.ext'
 simp [encU, List.map_set]
theorem made_zeroU (n : Nat) : madeCells (Value.int .u64 0).cells n = ((List.replicate n (0 : Int)).map encU).toArray := by
 apply Array.ext
 · simp [size_madeCells]
 · intro i h1 h2
   simp [madeCells, Value.cells, encU, Nat.mod_one]
set_option maxRecDepth 100000 in
theorem run_makeU (w : World) (n : Nat) (hn : n ≤ 1000000) : (Instr.makeSlice 90 (.int .i64 (n : Int)) (.int .i64 (n : Int))).run Tryz.prog w = .ok (.slice (some ⟨w.heap.size, 0, none⟩) n n) (w.alloc (.cells ((List.replicate n (0 : Int)).map encU).toArray 89)) := by
 obtain ⟨i0, hi0, hi1, hi2, hi3⟩ := info_parts (show (Tryz.prog.info? 89).map (fun i => (i.zero, i.size, i.bytes)) = some (some (.int .u64 0), 1, 8) by kernel_rfl)
 have hmk := run_makeSlice (P := Tryz.prog) w 90 89 i0 _ Tryz.underlying90 hi0 hi1 .i64 .i64 (n : Int) (n : Int) (by omega) (by omega) (by rw [hi2]; simp; omega) (by rw [hi3]; omega) (by omega)
 rw [hi2, Int.toNat_natCast, Nat.mul_one, made_zeroU] at hmk
 exact hmk

/-- numbers within bounds -/
structure CP (n : Nat) (b : Int × Int) (L : List Int) : Prop where
 len : L.length = n + 1
 cap : ∀ v ∈ L, CapI v
 sup : ∀ (k : Nat) v, L[k]? = some v → v ≠ 0 → b.1 ≤ k ∧ (k : Int) ≤ b.2
def Low (b : Int × Int) (L : List Int) : Prop := ∀ (k : Nat) v, L[k]? = some v → (k : Int) = b.1 → v ≠ 0
theorem CP.zero (n : Nat) (b : Int × Int) : CP n b (List.replicate (n + 1) 0) :=
 ⟨by simp, fun v hv => by rw [List.eq_of_mem_replicate hv]; unfold CapI; omega, fun k v hk hv => by
  have := List.mem_of_getElem? hk
  exact absurd (List.eq_of_mem_replicate this) hv⟩
def setU (n : Nat) (L : List Int) (i v : Int) : List Int := if i ≤ n then L.set i.toNat v else L
theorem setU_get {n : Nat} {L : List Int} {i v : Int} {k : Nat} {x : Int} (h : (setU n L i v)[k]? = some x) : (L[k]? = some x ∧ ¬ (i ≤ n ∧ i.toNat = k)) ∨ (i ≤ n ∧ i.toNat = k ∧ x = v) := by
 unfold setU at h
 split at h
 · rename_i hi
   by_cases hk : i.toNat = k
   · subst hk
     rw [List.getElem?_set] at h
     simp at h
     exact .inr ⟨hi, rfl, h.2.symm⟩
   · rw [List.getElem?_set_ne hk] at h
     exact .inl ⟨h, fun h => hk h.2⟩
 · rename_i hi
   exact .inl ⟨h, fun h => hi h.1⟩
theorem setU_len (n : Nat) (L : List Int) (i v : Int) : (setU n L i v).length = L.length := by
 unfold setU; split <;> simp
theorem CP.set {n : Nat} {b : Int × Int} {L : List Int} {i v : Int} (h : CP n b L) (hv : CapI v) (h0 : 0 ≤ i) (hb : v ≠ 0 → b.1 ≤ i ∧ i ≤ b.2) : CP n b (setU n L i v) := by
 refine ⟨by rw [setU_len]; exact h.len, fun x hx => ?_, fun k x hk hx => ?_⟩
 · obtain ⟨k, hk⟩ := List.mem_iff_getElem?.1 hx
   rcases setU_get hk with ⟨h1, -⟩ | ⟨-, -, rfl⟩
   · exact h.cap x (List.mem_of_getElem? h1)
   · exact hv
 · rcases setU_get hk with ⟨h1, -⟩ | ⟨-, h2, rfl⟩
   · exact h.sup k x h1 hx
   · have := hb hx
     omega
theorem Low.first {n : Nat} {b : Int × Int} {L : List Int} {i v : Int} (h : L.length = n + 1) (hi : i = b.1) (h0 : 0 ≤ i) (hv : 0 < v) : Low b (setU n L i v) := by
 intro k x hk he
 rcases setU_get hk with ⟨h1, h2⟩ | ⟨-, -, rfl⟩
 · have := (List.getElem?_eq_some_iff.1 h1).1
   exact absurd ⟨by omega, by omega⟩ h2
 · omega
theorem Low.keep {n : Nat} {b : Int × Int} {L : List Int} {i v : Int} (h : Low b L) (h0 : 0 ≤ i) (hv : i = b.1 → v ≠ 0) : Low b (setU n L i v) := by
 intro k x hk he
 rcases setU_get hk with ⟨h1, h2⟩ | ⟨-, h2, rfl⟩
 · exact h k x h1 he
 · exact hv (by omega)
theorem CP.rel {n : Nat} {b : Int × Int} {L : List Int} (h : CP n b L) (k : Low b L) : CRel n b L := ⟨h.len, h.cap, h.sup, k⟩

/-- the closure's variables -/
structure SetI (w0 w : World) (nb ob gb n : Nat) (L : List Int) : Prop where
 ext : Ext w0 w
 nc : w.heap[nb]? = some (.cells #[.int .i64 (n : Int)] 3)
 oc : w.heap[ob]? = some (.cells #[.slice (some ⟨gb, 0, none⟩) (n + 1) (n + 1)] 90)
 blk : BlkU w gb L
 ne : nb ≠ gb ∧ ob ≠ gb ∧ w0.heap.size ≤ gb
theorem SetI.next {w0 w w' : World} {nb ob gb n : Nat} {L : List Int} (h : SetI w0 w nb ob gb n L) (hE : Ext w w') : SetI w0 w' nb ob gb n L :=
 ⟨h.ext.trans hE, hs_ext hE h.nc, hs_ext hE h.oc, h.blk.ext hE, h.ne⟩
theorem SetI.put {w0 w : World} {nb ob gb n : Nat} {L : List Int} (h : SetI w0 w nb ob gb n L) (k : Nat) (v : Int) : SetI w0 (w.setCell ⟨gb, k, none⟩ (.int .u64 v)) nb ob gb n (L.set k v) := by
 refine ⟨h.ext.setCell h.ne.2.2 _, ?_, ?_, h.blk.set k v, h.ne⟩
 · rw [heap_setCell_other _ _ _ _ h.ne.1]; exact h.nc
 · rw [heap_setCell_other _ _ _ _ h.ne.2.1]; exact h.oc
set_option maxRecDepth 100000 in
set_option maxHeartbeats 1000000 in
theorem set_any2 {w0 w : World} {nb ob gb n : Nat} {L : List Int} {i v : Int} (h : SetI w0 w nb ob gb n L) (hL : L.length = n + 1) (hn : n ≤ 100000) (h0 : 0 ≤ i) :
 Calls Tryz.prog 95 #[.int .i64 i, .int .u64 v, .pointer (some ⟨nb, 0, none⟩), .pointer (some ⟨ob, 0, none⟩)] w fun e w' => e = .returned (.tuple #[]) ∧ SetI w0 w' nb ob gb n (setU n L i v) ∧ ∀ c, c ≠ gb → w'.heap[c]? = w.heap[c]? := by
 have n0 : w.cell? ⟨nb, 0, none⟩ = some (.int .i64 (n : Int)) := by rw [cellc h.nc]; rfl
 have o0 : w.cell? ⟨ob, 0, none⟩ = some (.slice (some ⟨gb, 0, none⟩) (n + 1) (n + 1)) := by rw [cellc h.oc]; rfl
 obtain ⟨k, rfl⟩ : ∃ k : Nat, i = (k : Int) := ⟨i.toNat, by omega⟩
 by_cases hk : (k : Int) ≤ (n : Int)
 · obtain ⟨x, hx⟩ : ∃ x, L[k]? = some x := ⟨_, List.getElem?_eq_getElem (by omega)⟩
   have g0 := h.blk.get hx
   have g1 := h.blk.frozen k
   have HP := Lib.hid (h.put k v)
   have HK : Hid (∀ c, c ≠ gb → (w.setCell ⟨gb, k, none⟩ (.int .u64 v)).heap[c]? = w.heap[c]?) := Lib.hid (fun c hc => heap_setCell_other _ _ _ _ hc)
   have HS : Hid (setU n L (k : Int) v = L.set k v) := Lib.hid (by unfold setU; rw [if_pos hk, Int.toNat_natCast])
   have hk2 : (k : Int) < (n : Int) + 1 := by omega
   clear h hx
   go_enter Tryz.func95, Tryz.ntmps95
   go_wp2_with fail
   go_end0
   exact ⟨rfl, by rw [HS.out]; exact HP.out, HK.out⟩
 · have HS : Hid (setU n L (k : Int) v = L) := Lib.hid (by unfold setU; rw [if_neg hk])
   have HP := Lib.hid h
   clear h
   go_enter Tryz.func95, Tryz.ntmps95
   go_wp2_with fail
   go_end0
   exact ⟨rfl, by rw [HS.out]; exact HP.out, fun _ _ => rfl⟩
theorem set_any {w0 w : World} {nb ob gb n : Nat} {L : List Int} {i v : Int} (h : SetI w0 w nb ob gb n L) (hL : L.length = n + 1) (hn : n ≤ 100000) (h0 : 0 ≤ i) :
 Calls Tryz.prog 95 #[.int .i64 i, .int .u64 v, .pointer (some ⟨nb, 0, none⟩), .pointer (some ⟨ob, 0, none⟩)] w fun e w' => e = .returned (.tuple #[]) ∧ SetI w0 w' nb ob gb n (setU n L i v) :=
 (set_any2 h hL hn h0).mono fun e w' h => ⟨h.1, h.2.1⟩

/-- what the numbers of strings of a field are in memory -/
def CountsC (t : List Fmt) (x : Fld) (n : Nat) : Prop := ∀ (w : World) (B : Nat) (a : Option Addr) (cap : Nat), TabA w B a t → B ≤ w.heap.size →
 Calls Tryz.prog 64 #[.slice a t.length cap, .agg #[.int .i64 x.kind, .string x.bytes, .int .i64 x.n, .int .i64 x.low, .int .i64 x.high], .int .i64 n] w fun e w' =>
  ∃ gb L, e = .returned (.slice (some ⟨gb, 0, none⟩) (n + 1) (n + 1)) ∧ Ext w w' ∧ BlkU w' gb L ∧ w.heap.size ≤ gb ∧ CRel n (bndF t x) L
def posU (v : Value) (w : World) : Prop := ∃ r : Int, v = .int .u64 r ∧ CapI r ∧ 0 < r
theorem posU.persist {B : Nat} : Persist false B [] posU := ⟨fun u a b h hE => h, (fun h => nomatch h), (fun h => absurd rfl h)⟩

set_option maxRecDepth 100000 in
set_option maxHeartbeats 8000000 in
theorem counts0_any {t : List Fmt} {x : Fld} {b : Bool} {n : Nat} (hn : n ≤ 2000) (h : FOk t x b) (hk : x.kind ≠ 5) : CountsC t x n := by
 intro w B a cap hT hB
 have hbf : bndF t x = bnd0 x := by unfold bndF; rw [if_neg hk]
 rw [hbf]
 obtain ⟨fx, w1, hfx, hw1, HFX, hE1⟩ := box_new w (.cells #[.int .i64 x.kind, .string x.bytes, .int .i64 x.n, .int .i64 x.low, .int .i64 x.high] 59)
 obtain ⟨nb, w2, hnb, hw2, HNB, hE2⟩ := box_new w1 (.cells #[.int .i64 (n : Int)] 3)
 obtain ⟨gb, w3, hgb, hw3, HGB, hE3⟩ := box_new w2 (.cells ((List.replicate (n + 1) (0 : Int)).map encU).toArray 89)
 obtain ⟨ob, w4, hob, hw4, HOB, hE4⟩ := box_new w3 (.cells #[.slice (some ⟨gb, 0, none⟩) (n + 1) (n + 1)] 90)
 have hnb1 : nb = fx + 1 := by rw [hnb, hw1, World.size_alloc, hfx]
 have hE24 := hE2.trans (hE3.trans hE4)
 have hfx4 := hs_ext hE24 HFX.out
 have b0 : w4.cell? ⟨fx, 0, none⟩ = some (.int .i64 x.kind) := by rw [cellc hfx4]; rfl
 have b1 : w4.cell? ⟨fx, 1, none⟩ = some (.string x.bytes) := by rw [cellc hfx4]; rfl
 have b2 : w4.cell? ⟨fx, 2, none⟩ = some (.int .i64 x.n) := by rw [cellc hfx4]; rfl
 have b3 : w4.cell? ⟨fx, 3, none⟩ = some (.int .i64 x.low) := by rw [cellc hfx4]; rfl
 have b4 : w4.cell? ⟨fx, 4, none⟩ = some (.int .i64 x.high) := by rw [cellc hfx4]; rfl
 have HSI : Hid (SetI w2 w4 nb ob gb n (List.replicate (n + 1) 0)) := Lib.hid ⟨hE3.trans hE4, hs_ext (hE3.trans hE4) HNB.out, HOB.out, hs_ext hE4 HGB.out, by rw [hgb, hw2, World.size_alloc, ← hnb]; omega, by rw [hob, hw3, World.size_alloc, ← hgb]; omega, by
  rw [hgb]; exact Nat.le_refl _⟩
 have HE02 := Lib.hid (hE1.trans hE2)
 have HSZ : Hid (w.heap.size ≤ gb) := Lib.hid (by rw [hgb, hw2, World.size_alloc, hw1, World.size_alloc]; omega)
 have hfx2 := hs_ext hE2 HFX.out
 have HB4 : Hid (w2.cell? ⟨fx, 4, none⟩ = some (.int .i64 x.high)) := Lib.hid (by rw [cellc hfx2]; rfl)
 have n2 : w2.cell? ⟨nb, 0, none⟩ = some (.int .i64 (n : Int)) := by rw [cellc HNB.out]; rfl
 have hmk : (Instr.makeSlice 90 (.int .i64 ((n : Int) + 1)) (.int .i64 ((n : Int) + 1))).run Tryz.prog w2 = .ok (.slice (some ⟨gb, 0, none⟩) (n + 1 : Nat) (n + 1 : Nat)) w3 := by rw [hw3, hgb]; exact run_makeU w2 (n + 1) (by omega)
 have HCP := Lib.hid (CP.zero n (bnd0 x))
 have hmf : ∀ (fn : Fn) (first cap : Array Value) (w : World), (Instr.makeFunc fn first cap).run Tryz.prog w = .ok (.func fn first cap) w := fun _ _ _ _ => rfl
 obtain ⟨bd, hbd⟩ : ∃ bd, bd = bnd0 x := ⟨_, rfl⟩
 rw [← hbd] at HCP ⊢
 have HBD := Lib.hid hbd
 have HN := Lib.hid hn
 clear hT hB hbf hE1 hE2 hE3 hE4 hE24 hfx4 hfx2 hbd
 go_enter Tryz.func64, Tryz.ntmps64
 go_upto_region 1 with fail
 rw [← hw1, ← hfx, ← hw2, ← hnb1]
 clear hw1 hfx hw2 hnb1 hnb hgb hw3
 go_upto_region 3 with fail
 rw [← hw4, ← hob]
 clear hw4 hob n2 hmk
 rcases h with ⟨k, h⟩ | ⟨k, h⟩ | ⟨k, h⟩ | ⟨k, h⟩ | ⟨k, h⟩ | ⟨k, h⟩
 · have HB1 : Hid (bd = ((x.bytes.size : Int), (x.bytes.size : Int))) := Lib.hid (by rw [HBD.out]; unfold bnd0; rw [if_pos k])
   rw [k] at b0
   have HC := Lib.hid (set_any (i := (x.bytes.size : Int)) (v := 1) HSI.out HCP.out.len (by omega) (by omega))
   clear k b2 b3 b4
   go_wp2_with fail
   refine HC.out.mono ?_
   rintro e wz ⟨rfl, hZ⟩
   have HZI := Lib.hid hZ
   have HZR : Hid (CRel n bd (setU n (List.replicate (n + 1) 0) (x.bytes.size : Int) 1)) := Lib.hid ((HCP.out.set (by unfold CapI; omega) (by omega) (fun _ => by rw [HB1.out]; exact ⟨Int.le_refl _, Int.le_refl _⟩)).rel (Low.first HCP.out.len (by rw [HB1.out]) (by omega) (by omega)))
   clear hZ b0 b1
   have o0 := show wz.cell? ⟨ob, 0, none⟩ = some (.slice (some ⟨gb, 0, none⟩) (n + 1) (n + 1)) by rw [cellc HZI.out.oc]; rfl
   go_wp2_with fail
   go_ret
   exact ⟨gb, _, rfl, HE02.out.trans HZI.out.ext, HZI.out.blk, HSZ.out, HZR.out⟩
 · have HB1 : Hid (bd = (x.n, x.n)) := Lib.hid (by rw [HBD.out]; unfold bnd0; rw [if_neg (by omega), if_pos k])
   rw [k] at b0
   have HP := Lib.hid (fun (w' : World) => power_any (w := w') (n := x.n) (by omega) (by omega))
   clear k b1 b3 b4
   go_upto_region 7 with fail
   refine wp_region_reg 6 false (by kernel_rfl) (by kernel_rfl) ?_
   refine reg_value (fun _ => rfl) ?_ (fun g w' vs hM hE hP => ?_) ?_
   rotate_left
   · (clear hP hM; have zz0 := cs_ext hE b2; go_simp; first | done | rfl)
   refine reg_value (fun _ => rfl) ?_ (fun g w' vs hM hE hP => ?_) ?_
   rotate_left
   · (clear hP hM; have zz0 := cs_ext hE b2; go_simp; first | done | rfl)
   refine reg_value (fun _ => rfl) ?_ (fun g w' vs hM hE hP => ?_) ?_
   rotate_left
   · (clear hP hM; have zz0 := cs_ext hE b2; go_simp; first | done | rfl)
   refine reg_value (fun _ => rfl) ?_ (fun g w' vs hM hE hP => ?_) ?_
   rotate_left
   · (clear hP hM; have zz0 := cs_ext hE b2; go_simp; first | done | rfl)
   refine reg_value (fun _ => rfl) ?_ (fun g w' vs hM hE hP => ?_) ?_
   rotate_left
   · (clear hP hM; have zz0 := cs_ext hE b2; go_simp; first | done | rfl)
   refine reg_call (fun _ => rfl) 96 (fun _ => #[.int .i64 x.n]) (fun g w' m hM hE hP => ?_) posU posU.persist (fun g w' m hM hE hP => ?_) ?_
   · clear hM hP
     go_simp
   · exact (HP.out w').mono fun e w'' ⟨r, h1, h2, h3, h4⟩ => ⟨_, h1, h2, r, rfl, h3, h4⟩
   intro g w5 hE5 hF hQ
   simp only [List.drop_succ_cons, List.drop_zero, Act.put, List.setIfInBounds_toArray, List.set_cons_succ, List.set_cons_zero]
   obtain ⟨r, hu, hrc, hr0⟩ := hQ _ List.mem_cons_self
   have hu : (g 5).v = _ := hu
   rw [hu]
   have HSI5 := Lib.hid (HSI.out.next hE5)
   have HC := Lib.hid (set_any (i := x.n) (v := r) HSI5.out HCP.out.len (by omega) (by omega))
   have HRC := Lib.hid (And.intro hrc hr0)
   have HN0 : Hid (0 ≤ x.n) := Lib.hid (by omega)
   clear hF hQ hE5 hu hrc hr0 b0 b2
   go_wp2_with fail
   refine HC.out.mono ?_
   rintro e wz ⟨rfl, hZ⟩
   have HZI := Lib.hid hZ
   have HZR : Hid (CRel n bd (setU n (List.replicate (n + 1) 0) x.n r)) := Lib.hid ((HCP.out.set HRC.out.1 HN0.out (fun _ => by rw [HB1.out]; exact ⟨Int.le_refl _, Int.le_refl _⟩)).rel (Low.first HCP.out.len (by rw [HB1.out]) HN0.out HRC.out.2))
   clear hZ
   have o0 := show wz.cell? ⟨ob, 0, none⟩ = some (.slice (some ⟨gb, 0, none⟩) (n + 1) (n + 1)) by rw [cellc HZI.out.oc]; rfl
   go_wp2_with fail
   go_ret
   exact ⟨gb, _, rfl, HE02.out.trans HZI.out.ext, HZI.out.blk, HSZ.out, HZR.out⟩
 · have HB1 : Hid (bd = (1, 1 + x.n)) := Lib.hid (by rw [HBD.out]; unfold bnd0; rw [if_neg (by omega), if_neg (by omega), if_pos k])
   rw [k] at b0
   obtain ⟨m, hm⟩ : ∃ m : Nat, x.n = (m : Int) := ⟨x.n.toNat, by omega⟩
   rw [hm] at b2 HB1
   have hm15 : m ≤ 15 := by omega
   have HP := Lib.hid (fun (w' : World) (k : Nat) (hk : k ≤ 15) => power_any (w := w') (n := (k : Int)) (by omega) (by omega))
   clear k h b1 b3 b4 hm
   go_wp2_with fail
   go_loopw [9, 40] (fun x9 kv wr => ∃ (k : Nat) (L : List Int), kv = .int .i64 k ∧ k ≤ m + 1 ∧ Hid (SetI w2 wr nb ob gb n L) ∧ Hid (CP n bd L) ∧ Hid (0 < k → Low bd L)) (fun x9 kv _ => m + 1 - (intOf kv).toNat)
   case atStart => exact ⟨0, _, rfl, by omega, HSI, HCP, Lib.hid (fun h => absurd h (by omega))⟩
   case round =>
    obtain ⟨k, L, rfl, hkm, HI, HC0, HLO⟩ := hrel
    by_cases hlt : k < m + 1
    · have HPK := Lib.hid (HP.out wr k (by omega))
      have hk1 : IntKind.i64.wrap ((k : Int) + 1) = (k : Int) + 1 := by rw [IntKind.wrap_i64]; omega
      have hli : (k : Int) < (m : Int) + 1 := by omega
      go_wp2_with fail
      refine HPK.out.mono ?_
      rintro e w5 ⟨r, rfl, hE5, hrc, hr0⟩
      have HI5 := Lib.hid (HI.out.next hE5)
      have HC := Lib.hid (set_any (i := (k : Int) + 1) (v := r) HI5.out HC0.out.len (by have := HN.out; omega) (by omega))
      have HCN : Hid (CP n bd (setU n L ((k : Int) + 1) r)) := Lib.hid (HC0.out.set hrc (by omega) (fun _ => by rw [HB1.out]; exact ⟨by show (1 : Int) ≤ _; omega, by show _ ≤ 1 + (m : Int); omega⟩))
      have HLN : Hid (Low bd (setU n L ((k : Int) + 1) r)) := Lib.hid (by
       by_cases h0 : k = 0
       · subst h0
         exact Low.first HC0.out.len (by rw [HB1.out]; rfl) (by omega) hr0
       · exact (HLO.out (by omega)).keep (by omega) (fun _ => by omega))
      clear hE5 hrc hr0
      go_wp2_with fail
      refine HC.out.mono ?_
      rintro e w6 ⟨rfl, hZ⟩
      have HZ := Lib.hid hZ
      clear hZ
      go_wp2_with fail
      go_roundw
      case rel => exact ⟨k + 1, _, by go_num, by omega, HZ, HCN, Lib.hid (fun _ => HLN.out)⟩
      case measure => simp [intOf]; omega
    · have hli : ¬ (k : Int) < (m : Int) + 1 := by omega
      have HZR : Hid (CRel n bd L) := Lib.hid (HC0.out.rel (HLO.out (by omega)))
      obtain ⟨wz, hwz⟩ : ∃ wz, wz = wr := ⟨_, rfl⟩
      rw [← hwz] at HI ⊢
      clear hwz
      have HZI := HI
      have o0 := show wz.cell? ⟨ob, 0, none⟩ = some (.slice (some ⟨gb, 0, none⟩) (n + 1) (n + 1)) by rw [cellc HZI.out.oc]; rfl
      go_wp2_with fail
      go_ret
      exact ⟨gb, rfl, HE02.out.trans HZI.out.ext, _, HZI.out.blk, HSZ.out, HZR.out⟩
 · have HB1 : Hid (bd = (1, 1)) := Lib.hid (by rw [HBD.out]; unfold bnd0; rw [if_neg (by omega), if_neg (by omega), if_neg (by omega), if_neg (by omega)])
   rw [k] at b0
   obtain ⟨lo, hlo⟩ : ∃ lo, lo = x.low := ⟨_, rfl⟩
   obtain ⟨hi, hhi⟩ : ∃ hi, hi = x.high := ⟨_, rfl⟩
   rw [← hlo] at b3 h
   rw [← hhi] at b4 h
   have hw1 : IntKind.i64.wrap (hi - lo) = hi - lo := by rw [IntKind.wrap_i64]; omega
   have hw2 : IntKind.i64.wrap (hi - lo + 1) = hi - lo + 1 := by rw [IntKind.wrap_i64]; omega
   have hw3 : IntKind.u64.wrap (hi - lo + 1) = hi - lo + 1 := by rw [IntKind.wrap_u64]; omega
   have HC := Lib.hid (set_any (i := 1) (v := hi - lo + 1) HSI.out HCP.out.len (by omega) (by omega))
   have HZR : Hid (CRel n bd (setU n (List.replicate (n + 1) 0) 1 (hi - lo + 1))) := Lib.hid ((HCP.out.set (by unfold CapI; omega) (by omega) (fun _ => by rw [HB1.out]; exact ⟨Int.le_refl _, Int.le_refl _⟩)).rel (Low.first HCP.out.len (by rw [HB1.out]) (by omega) (by omega)))
   clear k b1 b2 hlo hhi
   go_wp2_with fail
   refine HC.out.mono ?_
   rintro e wz ⟨rfl, hZ⟩
   have HZI := Lib.hid hZ
   clear hZ b0 b3 b4
   have o0 := show wz.cell? ⟨ob, 0, none⟩ = some (.slice (some ⟨gb, 0, none⟩) (n + 1) (n + 1)) by rw [cellc HZI.out.oc]; rfl
   go_wp2_with fail
   go_ret
   exact ⟨gb, _, rfl, HE02.out.trans HZI.out.ext, HZI.out.blk, HSZ.out, HZR.out⟩
 · exact absurd k hk
 · have HB1 : Hid (bd = (x.low, x.high)) := Lib.hid (by rw [HBD.out]; unfold bnd0; rw [if_neg (by omega), if_neg (by omega), if_neg (by omega), if_pos k])
   rw [k] at b0
   obtain ⟨lo, hlo⟩ : ∃ lo : Nat, x.low = (lo : Int) := ⟨x.low.toNat, by omega⟩
   obtain ⟨hi, hhi⟩ : ∃ hi : Nat, x.high = (hi : Int) := ⟨x.high.toNat, by omega⟩
   rw [hlo] at b3 HB1
   rw [hhi] at HB4 HB1
   have hlh : lo ≤ hi ∧ hi ≤ 1000 := by omega
   have HP := Lib.hid (fun (w' : World) (k : Nat) (hk : k ≤ 1000) => power_any (w := w') (n := (k : Int)) (by omega) (by omega))
   clear k h b1 b2 b4 hlo hhi
   go_wp2_with fail
   go_loopw [12] (fun kv wr => ∃ (k : Nat) (L : List Int), kv = .int .i64 k ∧ lo ≤ k ∧ k ≤ hi + 1 ∧ Hid (SetI w2 wr nb ob gb n L) ∧ Hid (CP n bd L) ∧ Hid (lo < k → Low bd L)) (fun kv _ => hi + 1 - (intOf kv).toNat)
   case atStart => exact ⟨lo, _, rfl, by omega, by omega, HSI, HCP, Lib.hid (fun h => absurd h (by omega))⟩
   case round =>
    obtain ⟨k, L, rfl, hkl, hkm, HI, HC0, HLO⟩ := hrel
    have b4 := cs_ext HI.out.ext HB4.out
    by_cases hlt : k ≤ hi
    · have HPK := Lib.hid (HP.out wr k (by omega))
      have hk1 : IntKind.i64.wrap ((k : Int) + 1) = (k : Int) + 1 := by rw [IntKind.wrap_i64]; omega
      have hli : (k : Int) ≤ (hi : Int) := by omega
      go_wp2_with fail
      refine HPK.out.mono ?_
      rintro e w5 ⟨r, rfl, hE5, hrc, hr0⟩
      have HI5 := Lib.hid (HI.out.next hE5)
      have HC := Lib.hid (set_any (i := (k : Int)) (v := r) HI5.out HC0.out.len (by have := HN.out; omega) (by omega))
      have HCN : Hid (CP n bd (setU n L (k : Int) r)) := Lib.hid (HC0.out.set hrc (by omega) (fun _ => by rw [HB1.out]; exact ⟨by show (lo : Int) ≤ _; omega, by show _ ≤ (hi : Int); omega⟩))
      have HLN : Hid (Low bd (setU n L (k : Int) r)) := Lib.hid (by
       by_cases h0 : k = lo
       · subst h0
         exact Low.first HC0.out.len (by rw [HB1.out]) (by omega) hr0
       · exact (HLO.out (by omega)).keep (by omega) (fun _ => by omega))
      clear hE5 hrc hr0
      go_wp2_with fail
      refine HC.out.mono ?_
      rintro e w6 ⟨rfl, hZ⟩
      have HZ := Lib.hid hZ
      clear hZ
      go_wp2_with fail
      go_roundw
      case rel => exact ⟨k + 1, _, by go_num, by omega, by omega, HZ, HCN, Lib.hid (fun _ => HLN.out)⟩
      case measure => simp [intOf]; omega
    · have hli : ¬ (k : Int) ≤ (hi : Int) := by omega
      have HZR : Hid (CRel n bd L) := Lib.hid (HC0.out.rel (HLO.out (by omega)))
      obtain ⟨wz, hwz⟩ : ∃ wz, wz = wr := ⟨_, rfl⟩
      rw [← hwz] at HI b4 ⊢
      clear hwz
      have HZI := HI
      have o0 := show wz.cell? ⟨ob, 0, none⟩ = some (.slice (some ⟨gb, 0, none⟩) (n + 1) (n + 1)) by rw [cellc HZI.out.oc]; rfl
      go_wp2_with fail
      go_ret
      exact ⟨gb, rfl, HE02.out.trans HZI.out.ext, _, HZI.out.blk, HSZ.out, HZR.out⟩

theorem CP.put {n : Nat} {b : Int × Int} {L : List Int} {k : Nat} {v : Int} (h : CP n b L) (hv : CapI v) (hk : k ≤ n) (hb : b.1 ≤ k ∧ (k : Int) ≤ b.2) : CP n b (L.set k v) := by
 have := h.set (i := (k : Int)) hv (by omega) (fun _ => hb)
 unfold setU at this
 rwa [if_pos (by omega), Int.toNat_natCast] at this
theorem Low.put {b : Int × Int} {L : List Int} {k : Nat} {v : Int} (h : Low b L ∨ (k : Int) = b.1) (hv : 0 < v) : Low b (L.set k v) := by
 intro j x hj he
 by_cases hjk : j = k
 · subst hjk
   have := (List.getElem?_eq_some_iff.1 hj)
   rw [List.getElem?_set] at hj
   simp at hj
   omega
 · rw [List.getElem?_set_ne (fun e => hjk e.symm)] at hj
   rcases h with h | h
   · exact h j x hj he
   · omega
theorem Low.far {n : Nat} {b : Int × Int} {L : List Int} (h : L.length = n + 1) (hb : (n : Int) < b.1) : Low b L := by
 intro k v hk he
 have := (List.getElem?_eq_some_iff.1 hk).1
 omega
theorem CRel.first {n : Nat} : CRel n (0, 0) ((List.replicate (n + 1) (0 : Int)).set 0 1) := by
 refine ((CP.zero n (0, 0)).put (k := 0) (v := 1) (by unfold CapI; omega) (by omega) ⟨Int.le_refl _, Int.le_refl _⟩).rel (Low.put (.inr rfl) (by omega))
theorem bndT_nn {t : List Fmt} {L : List Fld} (h : ∀ x ∈ L, 0 ≤ (bndF t x).1) : ∀ k, k ≤ L.length → 0 ≤ (bndT t (L.take k)).1 := by
 intro k
 induction k with
 | zero => intro _; simp [bndT]
 | succ k ih =>
   intro hk
   have h1 := ih (by omega)
   have hx : L[k]? = some L[k] := List.getElem?_eq_getElem (by omega)
   rw [bndT_step hx]
   have h2 := h _ (List.getElem_mem (by omega : k < L.length))
   unfold addP
   simp only
   omega

set_option maxRecDepth 100000 in
set_option maxHeartbeats 8000000 in
theorem all_any {t : List Fmt} {fm : Fmt} {i n : Nat} (hi : t[i]? = some fm) (hn : n ≤ 2000) (h0 : ∀ x ∈ fm.fields, 0 ≤ (bndF t x).1) (hC : ∀ x ∈ fm.fields, CountsC t x n) {w : World} {B : Nat} {a : Option Addr} {cap : Nat} (hT : TabA w B a t) (hB : B ≤ w.heap.size) :
 Calls Tryz.prog 40 #[.slice a t.length cap, .int .i64 i, .int .i64 n] w fun e w' =>
  ∃ gb L, e = .returned (.slice (some ⟨gb, 0, none⟩) (n + 1) (n + 1)) ∧ Ext w w' ∧ BlkU w' gb L ∧ w.heap.size ≤ gb ∧ CRel n (bndT t fm.fields) L := by
 have hil := (List.getElem?_eq_some_iff.1 hi).1
 obtain ⟨tb, toff, fa, fcap, rfl, htb, t0, t1, hFA, -⟩ := hT.at' hi
 have HT := Lib.hid hT
 have HFA := Lib.hid hFA
 have HB := Lib.hid hB
 have HN := Lib.hid hn
 have hfl := hFA.1
 unfold maxLen at hfl
 have HCC := Lib.hid hC
 have H0 := Lib.hid h0
 have hi0 : (0 : Int) ≤ (i : Int) := by omega
 have hi1 : (i : Int) < (t.length : Int) := by omega
 have hwn : IntKind.i64.wrap ((n : Int) + 1) = (n : Int) + 1 := by rw [IntKind.wrap_i64]; omega
 obtain ⟨ob, w1, hob, hw1, HOB, hE1⟩ := box_new w (.cells ((List.replicate (n + 1) (0 : Int)).map encU).toArray 89)
 have HMK := Lib.hid (fun (w : World) => run_makeU w (n + 1) (by omega))
 have hmk : (Instr.makeSlice 90 (.int .i64 ((n : Int) + 1)) (.int .i64 ((n : Int) + 1))).run Tryz.prog w = .ok (.slice (some ⟨ob, 0, none⟩) (n + 1 : Nat) (n + 1 : Nat)) w1 := by rw [hw1, hob]; exact HMK.out w
 have hblk : BlkU w1 ob (List.replicate (n + 1) 0) := HOB.out
 have g0 := hblk.get (k := 0) (v := 0) (by simp)
 have g1 := hblk.frozen 0
 have HE1 := Lib.hid (hE1.setCell (b := ob) (o := 0) (by rw [hob]; exact Nat.le_refl _) (Value.int .u64 1))
 have HB1 := Lib.hid (hblk.set 0 1)
 have t1 := cs_ext HE1.out t1
 have HOS : Hid (w.heap.size ≤ ob) := Lib.hid (by rw [hob]; exact Nat.le_refl _)
 have hn1 : (0 : Int) < (n : Int) + 1 := by omega
 clear hT hFA hB hi hn hC h0 t0 hE1 hw1 hblk hob
 go_enter Tryz.func40, Tryz.ntmps40
 go_upto_region 3 with fail
 generalize hws : World.setCell w1 _ _ = ws at HE1 HB1 t1 ⊢
 clear hws hmk g0 g1
 go_wp2_with fail
 go_loopw [7, 9, 10, 11, 12, 13, 14, 15, 27] (fun ov x9 x10 x11 x12 x13 x14 x15 kv wr => ∃ (k ob : Nat) (O : List Int), kv = .int .i64 k ∧ ov = .slice (some ⟨ob, 0, none⟩) (n + 1) (n + 1) ∧ k ≤ fm.fields.length ∧ Hid (CRel n (bndT t (fm.fields.take k)) O) ∧ Hid (BlkU wr ob O) ∧ Hid (Ext w wr) ∧ Hid (w.heap.size ≤ ob)) (fun ov x9 x10 x11 x12 x13 x14 x15 kv _ => fm.fields.length - (intOf kv).toNat)
 case atStart => exact ⟨0, ob, _, rfl, rfl, by omega, Lib.hid CRel.first, HB1, HE1, HOS⟩
 case round =>
  obtain ⟨k, ob, O, rfl, rfl, hk, HO, HBO, HE, HOS⟩ := hrel
  by_cases hlt : k < fm.fields.length
  · obtain ⟨x, hx⟩ : ∃ x, fm.fields[k]? = some x := ⟨_, List.getElem?_eq_getElem hlt⟩
    obtain ⟨fb, foff, rfl, hfb, hFX⟩ := (HFA.out.ext HB.out HE.out).get' hx
    obtain ⟨x0, x1, x2, x3, x4, hxw⟩ := hFX
    obtain ⟨xb, wq, hxb, hwq, HBX, hEq⟩ := box_new wr (.cells #[.int .i64 x.kind, .string x.bytes, .int .i64 x.n, .int .i64 x.low, .int .i64 x.high] 59)
    have z0 : wq.cell? ⟨xb, 0, none⟩ = some (.int .i64 x.kind) := by rw [cellc HBX.out]; rfl
    have z1 : wq.cell? ⟨xb, 1, none⟩ = some (.string x.bytes) := by rw [cellc HBX.out]; rfl
    have z2 : wq.cell? ⟨xb, 2, none⟩ = some (.int .i64 x.n) := by rw [cellc HBX.out]; rfl
    have z3 : wq.cell? ⟨xb, 3, none⟩ = some (.int .i64 x.low) := by rw [cellc HBX.out]; rfl
    have z4 : wq.cell? ⟨xb, 4, none⟩ = some (.int .i64 x.high) := by rw [cellc HBX.out]; rfl
    have HC := Lib.hid (HCC.out x (List.mem_of_getElem? hx) wq B (some ⟨tb, toff, none⟩) cap (HT.out.ext HB.out (HE.out.trans hEq)) (Nat.le_trans HB.out (HE.out.trans hEq).size))
    have HST := Lib.hid (bndT_step (t := t) hx)
    have HX0 := Lib.hid (H0.out x (List.mem_of_getElem? hx))
    have HP0 := Lib.hid (bndT_nn H0.out k (by omega))
    obtain ⟨p, hp⟩ : ∃ p, p = bndT t (fm.fields.take k) := ⟨_, rfl⟩
    obtain ⟨q, hq⟩ : ∃ q, q = bndF t x := ⟨_, rfl⟩
    rw [← hp] at HO HST HP0
    rw [← hq] at HC HST HX0
    have HBO := Lib.hid (HBO.out.ext hEq)
    have HEQ := Lib.hid (HE.out.trans hEq)
    clear hx hp hq hEq hxw HE HBX
    go_upto_region 6 with fail
    rw [← hwq, ← hxb]
    clear hwq hxb x0 x1 x2 x3 x4
    go_wp2_with fail
    refine HC.out.mono ?_
    rintro e w5 ⟨cb, L, rfl, hE5, hBL, hcs, hCL⟩
    have HBO5 := Lib.hid (HBO.out.ext hE5)
    have HE5 := Lib.hid (HEQ.out.trans hE5)
    have HBL := Lib.hid hBL
    have HCL := Lib.hid hCL
    clear hE5 hBL hcs hCL z0 z1 z2 z3 z4 HBO
    obtain ⟨nb, w6, hnb, hw6, HNB, hE6⟩ := box_new w5 (.cells ((List.replicate (n + 1) (0 : Int)).map encU).toArray 89)
    have hmk : (Instr.makeSlice 90 (.int .i64 ((n : Int) + 1)) (.int .i64 ((n : Int) + 1))).run Tryz.prog w5 = .ok (.slice (some ⟨nb, 0, none⟩) (n + 1 : Nat) (n + 1 : Nat)) w6 := by rw [hw6, hnb]; exact HMK.out w5
    have HBN : Hid (BlkU w6 nb (List.replicate (n + 1) 0)) := Lib.hid HNB.out
    have HE6 := Lib.hid hE6
    have HNS : Hid (w5.heap.size ≤ nb) := Lib.hid (by rw [hnb]; exact Nat.le_refl _)
    have HZ := Lib.hid (CP.zero n (addP p q))
    clear hnb hw6 HNB hE6
    go_upto_region 8 with fail
    clear hmk
    go_wp2_with fail
    go_loopw [12, 13, 14, 15, 40] (fun x12 x13 x14 x15 av wr => ∃ (a : Nat) (N : List Int), av = .int .i64 a ∧ a ≤ n + 1 ∧ Hid (CP n (addP p q) N) ∧ Hid (p.1 < a → Low (addP p q) N) ∧ Hid (BlkU wr nb N) ∧ Hid (Ext w5 wr)) (fun x12 x13 x14 x15 av _ => n + 1 - (intOf av).toNat)
    case atStart => exact ⟨0, _, rfl, by omega, HZ, Lib.hid (fun h => absurd h (by have := HP0.out; omega)), HBN, HE6⟩
    case round =>
     obtain ⟨a, N, rfl, han, HN0, HLO, HBN, HEN⟩ := hrel
     have hn := HN.out
     by_cases hat : a < n + 1
     · obtain ⟨c, hc⟩ : ∃ c, O[a]? = some c := ⟨_, List.getElem?_eq_getElem (by rw [HO.out.len]; omega)⟩
       have g0 := (HBO5.out.ext HEN.out).get hc
       have hai : (a : Int) < (n : Int) + 1 := by omega
       have HCC1 := Lib.hid (HO.out.cap c (List.mem_of_getElem? hc))
       have HCS := Lib.hid (HO.out.sup a c hc)
       have HCL0 := Lib.hid (HO.out.low a c hc)
       clear hc
       by_cases hcz : c = 0
       · subst hcz
         have HL1 : Hid (p.1 < ((a + 1 : Nat) : Int) → Low (addP p q) N) := Lib.hid (fun h => HLO.out (by
          by_cases he : (a : Int) = p.1
          · exact absurd rfl (HCL0.out he)
          · omega))
         go_wp2_with fail
         go_roundw
         case rel => exact ⟨a + 1, N, by go_num, by omega, HN0, HL1, HBN, HEN⟩
         case measure => simp [intOf]; omega
       · have HCS := Lib.hid (HCS.out hcz)
         have hcb : (c == 0) = false := by simpa using hcz
         obtain ⟨m, hm⟩ : ∃ m : Nat, n + 1 = a + m := ⟨n + 1 - a, by omega⟩
         have hws : IntKind.i64.wrap ((n : Int) + 1 - (a : Int)) = (m : Int) := by rw [IntKind.wrap_i64]; omega
         have hm1 : (m : Int) ≤ (n : Int) + 1 := by omega
         have hcp : 0 < c := by have := HCC1.out.1; omega
         obtain ⟨wi, hwi⟩ : ∃ wi, wi = wr := ⟨_, rfl⟩
         rw [← hwi] at HBN HEN g0 ⊢
         have HM := Lib.hid hm
         clear hwi HCL0 hcz hm
         go_wp2_with fail
         go_loopw [14, 15, 54] (fun x14 x15 bv wr => ∃ (b : Nat) (N : List Int), bv = .int .i64 b ∧ b ≤ m ∧ Hid (CP n (addP p q) N) ∧ Hid (p.1 < a ∨ ((a : Int) = p.1 ∧ q.1 < b) → Low (addP p q) N) ∧ Hid (BlkU wr nb N) ∧ Hid (Ext w5 wr)) (fun x14 x15 bv _ => m - (intOf bv).toNat)
         case atStart => exact ⟨0, N, rfl, by omega, HN0, Lib.hid (fun h => HLO.out (by have := HX0.out; omega)), HBN, HEN⟩
         case round =>
          obtain ⟨b, N, rfl, hbm, HN0, HLO, HBN, HEN⟩ := hrel
          by_cases hbt : b < m
          · obtain ⟨s, hs⟩ : ∃ s, L[b]? = some s := ⟨_, List.getElem?_eq_getElem (by rw [HCL.out.len]; have := HM.out; omega)⟩
            have g0 := (HBL.out.ext HEN.out).get hs
            have hbi : (b : Int) < (m : Int) := by omega
            have HSC := Lib.hid (HCL.out.cap s (List.mem_of_getElem? hs))
            have HSS := Lib.hid (HCL.out.sup b s hs)
            have HSL := Lib.hid (HCL.out.low b s hs)
            clear hs
            by_cases hsp : 0 < s
            · have HSS := Lib.hid (HSS.out (by omega))
              obtain ⟨d, hd⟩ : ∃ d : Nat, d = a + b := ⟨_, rfl⟩
              have HDT : Hid (((a : Int) + (b : Int)).toNat = d) := Lib.hid (by omega)
              have hwd : IntKind.i64.wrap ((a : Int) + (b : Int)) = (a : Int) + (b : Int) := by rw [IntKind.wrap_i64]; have := HM.out; omega
              have hdn : (a : Int) + (b : Int) < (n : Int) + 1 := by have := HM.out; omega
              have hd0 : (0 : Int) ≤ (a : Int) + (b : Int) := by omega
              obtain ⟨y, hy⟩ : ∃ y, N[d]? = some y := ⟨_, List.getElem?_eq_getElem (by rw [HN0.out.len]; have := HM.out; omega)⟩
              have g1 := HBN.out.get hy
              rw [← HDT.out] at g1
              have HYC := Lib.hid (HN0.out.cap y (List.mem_of_getElem? hy))
              clear hy
              go_upto_region 16 with fail
              refine wp_region_reg 14 false (by kernel_rfl) (by kernel_rfl) ?_
              refine reg_value (fun _ => rfl) ?_ (fun g w' vs hM hE hP => ?_) ?_
              rotate_left
              · (clear hP hM; have zz0 := cs_ext hE g1; go_simp; first | done | rfl)
              refine reg_value (fun _ => rfl) ?_ (fun g w' vs hM hE hP => ?_) ?_
              rotate_left
              · (clear hP hM; have zz0 := cs_ext hE g1; go_simp; first | done | rfl)
              refine reg_value (fun _ => rfl) ?_ (fun g w' vs hM hE hP => ?_) ?_
              rotate_left
              · (clear hP hM; have zz0 := cs_ext hE g1; go_simp; first | done | rfl)
              refine reg_value (fun _ => rfl) ?_ (fun g w' vs hM hE hP => ?_) ?_
              rotate_left
              · (clear hP hM; have zz0 := cs_ext hE g1; go_simp; first | done | rfl)
              refine reg_value (fun _ => rfl) ?_ (fun g w' vs hM hE hP => ?_) ?_
              rotate_left
              · (clear hP hM; have zz0 := cs_ext hE g1; go_simp; first | done | rfl)
              refine reg_value (fun _ => rfl) ?_ (fun g w' vs hM hE hP => ?_) ?_
              rotate_left
              · (clear hP hM; have zz0 := cs_ext hE g1; go_simp; first | done | rfl)
              refine reg_value (fun _ => rfl) ?_ (fun g w' vs hM hE hP => ?_) ?_
              rotate_left
              · (clear hP hM; have zz0 := cs_ext hE g1; go_simp; first | done | rfl)
              refine reg_value (fun _ => rfl) ?_ (fun g w' vs hM hE hP => ?_) ?_
              rotate_left
              · (clear hP hM; have zz0 := cs_ext hE g1; go_simp; first | done | rfl)
              refine reg_value (fun _ => rfl) ?_ (fun g w' vs hM hE hP => ?_) ?_
              rotate_left
              · (clear hP hM; have zz0 := cs_ext hE g1; go_simp; first | done | rfl)
              refine reg_value (fun _ => rfl) ?_ (fun g w' vs hM hE hP => ?_) ?_
              rotate_left
              · (clear hP hM; have zz0 := cs_ext hE g1; go_simp; first | done | rfl)
              refine reg_value (fun _ => rfl) ?_ (fun g w' vs hM hE hP => ?_) ?_
              rotate_left
              · (clear hP hM; have zz0 := cs_ext hE g1; go_simp; first | done | rfl)
              refine reg_value (fun _ => rfl) ?_ (fun g w' vs hM hE hP => ?_) ?_
              rotate_left
              · (clear hP hM; have zz0 := cs_ext hE g1; go_simp; first | done | rfl)
              refine reg_call (fun _ => rfl) 66 (fun _ => #[.int .u64 c, .int .u64 s]) (fun g w' m hM hE hP => ?_) posU posU.persist (fun g w' m hM hE hP => ?_) ?_
              · clear hM hP
                go_simp
              · exact (cmul_any HCC1.out HSC.out).mono fun e w'' ⟨r, h1, h2, h3, h4⟩ => ⟨_, h1, h2, r, rfl, h3, h4 hcp hsp⟩
              refine reg_call (fun _ => rfl) 65 (fun g => #[.int .u64 y, (g 12).v]) (fun g w' m hM hE hP => ?_) posU posU.persist (fun g w' m hM hE hP => ?_) ?_
              · clear hM hP
                go_simp
              · obtain ⟨r, hu, hrc, hr0⟩ := hP _ List.mem_cons_self (anc_of 3 (by kernel_rfl))
                have hu : (g 12).v = _ := hu
                rw [hu]
                exact (cadd_any HYC.out hrc).mono fun e w'' ⟨r', h1, h2, h3, h4, _⟩ => ⟨_, h1, h2, r', rfl, h3, h4 (.inr hr0)⟩
              intro g w7 hE7 hF hQ
              simp only [List.drop_succ_cons, List.drop_zero, Act.put, List.setIfInBounds_toArray, List.set_cons_succ, List.set_cons_zero]
              obtain ⟨r, hu, hrc, hr0⟩ := hQ _ List.mem_cons_self
              have hu : (g 13).v = _ := hu
              rw [hu]
              have hb7 := HBN.out.ext hE7
              have g1 := cs_ext hE7 g1
              rw [HDT.out, hd] at g1
              have g2 : w7.frozen? ⟨nb, a + b, none⟩ = false := hb7.frozen _
              have HBN7 : Hid (BlkU (w7.setCell ⟨nb, a + b, none⟩ (.int .u64 r)) nb (N.set d r)) := Lib.hid (by rw [← hd]; exact hb7.set d r)
              have HEN7 : Hid (Ext w5 (w7.setCell ⟨nb, a + b, none⟩ (.int .u64 r))) := Lib.hid ((HEN.out.trans hE7).setCell HNS.out _)
              have HNN : Hid (CP n (addP p q) (N.set d r)) := Lib.hid (HN0.out.put hrc (by have := HM.out; omega) (by
               have h1 := HCS.out
               have h2 := HSS.out
               unfold addP
               simp only
               omega))
              have HLN : Hid (p.1 < a ∨ ((a : Int) = p.1 ∧ q.1 < ((b + 1 : Nat) : Int)) → Low (addP p q) (N.set d r)) := Lib.hid (fun h => by
               refine Low.put ?_ hr0
               by_cases he : (a : Int) = p.1 ∧ (b : Int) = q.1
               · refine .inr ?_
                 unfold addP
                 simp only
                 omega
               · exact .inl (HLO.out (by omega)))
              clear hF hQ hE7 hu hrc hr0 hb7 hd
              go_wp2_with fail
              go_roundw
              case rel => exact ⟨b + 1, _, by go_num, by omega, HNN, HLN, HBN7, HEN7⟩
              case measure => simp [intOf]; omega
            · have HLN : Hid (p.1 < a ∨ ((a : Int) = p.1 ∧ q.1 < ((b + 1 : Nat) : Int)) → Low (addP p q) N) := Lib.hid (fun h => HLO.out (by
               by_cases he : (b : Int) = q.1
               · exact absurd (HSL.out he) (by have := HSC.out.1; omega)
               · omega))
              go_wp2_with fail
              go_roundw
              case rel => exact ⟨b + 1, N, by go_num, by omega, HN0, HLN, HBN, HEN⟩
              case measure => simp [intOf]; omega
          · have HL1 : Hid (p.1 < ((a + 1 : Nat) : Int) → Low (addP p q) N) := Lib.hid (fun h => by
             by_cases he : q.1 < (b : Int)
             · exact HLO.out (by omega)
             · by_cases he2 : p.1 < (a : Int)
               · exact HLO.out (.inl he2)
               · refine Low.far HN0.out.len ?_
                 have := HM.out
                 unfold addP
                 simp only
                 omega)
            go_wp2_with fail
            go_roundw
            case rel => exact ⟨a + 1, N, by go_num, by omega, HN0, HL1, HBN, HEN⟩
            case measure => simp [intOf]; omega
     · have HCN : Hid (CRel n (bndT t (fm.fields.take (k + 1))) N) := Lib.hid (by
        rw [HST.out]
        refine HN0.out.rel ?_
        by_cases he : p.1 < (a : Int)
        · exact HLO.out he
        · refine Low.far HN0.out.len ?_
          have := HX0.out
          unfold addP
          simp only
          omega)
       have HEO := Lib.hid (HE5.out.trans HEN.out)
       have HOSN : Hid (w.heap.size ≤ nb) := Lib.hid (Nat.le_trans HE5.out.size HNS.out)
       go_wp2_with fail
       go_roundw
       case rel => exact ⟨k + 1, nb, N, by go_num, rfl, by omega, HCN, HBN, HEO, HOSN⟩
       case measure => simp [intOf]; omega
  · have HCN : Hid (CRel n (bndT t fm.fields) O) := Lib.hid (by have := HO.out; rwa [List.take_of_length_le (by omega)] at this)
    go_wp2_with fail
    go_ret
    exact ⟨ob, O, rfl, HE.out, HBO.out, HOS.out, HCN.out⟩

theorem bnd0_small {t : List Fmt} {f : Fld} {b : Bool} (h : FOk t f b) (hk : f.kind ≠ 5) (hk6 : f.kind ≠ 6) : 0 ≤ (bnd0 f).1 ∧ (bnd0 f).1 ≤ 16 := by
 unfold bnd0
 rcases h with ⟨k, h⟩ | ⟨k, h⟩ | ⟨k, h⟩ | ⟨k, h⟩ | ⟨k, h⟩ | ⟨k, h⟩ <;> simp [k] <;> omega
theorem bndL_small {t : List Fmt} {L : List Fld} (h : ∀ x ∈ L, (∃ b, FOk t x b) ∧ x.kind ≠ 5 ∧ x.kind ≠ 6) : ∀ k, k ≤ L.length → 0 ≤ (bndL (L.take k)).1 ∧ (bndL (L.take k)).1 ≤ 16 * k ∧ bndT t (L.take k) = bndL (L.take k) := by
 intro k
 induction k with
 | zero => intro _; simp [bndL, bndT]
 | succ k ih =>
   intro hk
   have h1 := ih (by omega)
   have hx : L[k]? = some L[k] := List.getElem?_eq_getElem (by omega)
   rw [bndL_step hx, bndT_step hx]
   obtain ⟨⟨b, hb⟩, h5⟩ := h _ (List.getElem_mem (by omega : k < L.length))
   have h2 := bnd0_small hb h5.1 h5.2
   have h3 : bndF t L[k] = bnd0 L[k] := by unfold bndF; rw [if_neg h5.1]
   rw [h3, h1.2.2]
   refine ⟨?_, ?_, rfl⟩
   · unfold addP; simp only; omega
   · unfold addP; simp only; omega

set_option maxRecDepth 100000 in
set_option maxHeartbeats 8000000 in
theorem counts5_any {t : List Fmt} {x : Fld} {b : Bool} {n : Nat} (hv : validF t = 0) (hn : n ≤ 2000) (h : FOk t x b) (hk : x.kind = 5) : CountsC t x n := by
 intro w B a cap hT hB
 obtain ⟨i, g, hxn, hg, hpl⟩ : ∃ (i : Nat) (g : Fmt), x.n = (i : Int) ∧ t[i]? = some g ∧ ∀ x ∈ g.fields, x.kind ≠ 5 ∧ x.kind ≠ 6 := by
  rcases h with ⟨k, h⟩ | ⟨k, h⟩ | ⟨k, h⟩ | ⟨k, h⟩ | ⟨k, h⟩ | ⟨k, h⟩
  · omega
  · omega
  · omega
  · omega
  · exact h
  · omega
 have hbf : bndF t x = addP (1, 1) (bndL g.fields) := by
  unfold bndF
  rw [if_pos hk, List.getD_eq_getElem?_getD, hxn, Int.toNat_natCast, hg]; rfl
 rw [hbf]
 obtain ⟨hne, h6, hfo⟩ := valid_at hv hg
 have HFO : ∀ y ∈ g.fields, (∃ b, FOk t y b) ∧ y.kind ≠ 5 ∧ y.kind ≠ 6 := fun y hy => ⟨fields_ok hv hg y hy, hpl y hy⟩
 have hsm := bndL_small HFO g.fields.length (Nat.le_refl _)
 rw [List.take_length] at hsm
 obtain ⟨q, hq⟩ : ∃ q : Nat, q = min n 255 := ⟨_, rfl⟩
 have HQ : Hid (q ≤ n ∧ q ≤ 255 ∧ (q = n ∨ q = 255)) := Lib.hid (by omega)
 have HMIN : Hid (min (n : Int) 255 = (q : Int)) := Lib.hid (by omega)
 have HALL := Lib.hid (fun (w' : World) (hE : Ext w w') => all_any (w := w') (cap := cap) hg (n := q) (by omega) (fun y hy => by
  obtain ⟨⟨b', hb'⟩, h5, h6⟩ := HFO y hy
  have h3 : bndF t y = bnd0 y := by unfold bndF; rw [if_neg h5]
  rw [h3]
  exact (bnd0_small hb' h5 h6).1) (fun y hy => by
  obtain ⟨⟨b', hb'⟩, h5, h6⟩ := HFO y hy
  exact counts0_any (by omega) hb' h5) (hT.ext hB hE) (Nat.le_trans hB hE.size))
 rw [hsm.2.2] at HALL
 obtain ⟨lp, hlp⟩ : ∃ lp, lp = bndL g.fields := ⟨_, rfl⟩
 rw [← hlp] at HALL hsm ⊢
 have HLP : Hid (0 ≤ lp.1 ∧ lp.1 ≤ 96) := Lib.hid (by omega)
 obtain ⟨fx, w1, hfx, hw1, HFX, hE1⟩ := box_new w (.cells #[.int .i64 x.kind, .string x.bytes, .int .i64 x.n, .int .i64 x.low, .int .i64 x.high] 59)
 obtain ⟨nb, w2, hnb, hw2, HNB, hE2⟩ := box_new w1 (.cells #[.int .i64 (n : Int)] 3)
 obtain ⟨gb, w3, hgb, hw3, HGB, hE3⟩ := box_new w2 (.cells ((List.replicate (n + 1) (0 : Int)).map encU).toArray 89)
 obtain ⟨ob, w4, hob, hw4, HOB, hE4⟩ := box_new w3 (.cells #[.slice (some ⟨gb, 0, none⟩) (n + 1) (n + 1)] 90)
 have hnb1 : nb = fx + 1 := by rw [hnb, hw1, World.size_alloc, hfx]
 have hE24 := hE2.trans (hE3.trans hE4)
 have hfx4 := hs_ext hE24 HFX.out
 have b0 : w4.cell? ⟨fx, 0, none⟩ = some (.int .i64 x.kind) := by rw [cellc hfx4]; rfl
 have b2 : w4.cell? ⟨fx, 2, none⟩ = some (.int .i64 x.n) := by rw [cellc hfx4]; rfl
 have hnb4 := hs_ext (hE3.trans hE4) HNB.out
 have n4 : w4.cell? ⟨nb, 0, none⟩ = some (.int .i64 (n : Int)) := by rw [cellc hnb4]; rfl
 have HSI : Hid (SetI w2 w4 nb ob gb n (List.replicate (n + 1) 0)) := Lib.hid ⟨hE3.trans hE4, hnb4, HOB.out, hs_ext hE4 HGB.out, by rw [hgb, hw2, World.size_alloc, ← hnb]; omega, by rw [hob, hw3, World.size_alloc, ← hgb]; omega, by
  rw [hgb]; exact Nat.le_refl _⟩
 have HE02 := Lib.hid (hE1.trans hE2)
 have HE04 := Lib.hid (hE1.trans hE24)
 have HSZ : Hid (w.heap.size ≤ gb ∧ gb < w4.heap.size) := Lib.hid ⟨by rw [hgb, hw2, World.size_alloc, hw1, World.size_alloc]; omega, HSI.out.blk.lt⟩
 have n2 : w2.cell? ⟨nb, 0, none⟩ = some (.int .i64 (n : Int)) := by rw [cellc HNB.out]; rfl
 have hmk : (Instr.makeSlice 90 (.int .i64 ((n : Int) + 1)) (.int .i64 ((n : Int) + 1))).run Tryz.prog w2 = .ok (.slice (some ⟨gb, 0, none⟩) (n + 1 : Nat) (n + 1 : Nat)) w3 := by rw [hw3, hgb]; exact run_makeU w2 (n + 1) (by omega)
 obtain ⟨bd, hbd⟩ : ∃ bd, bd = addP (1, 1) lp := ⟨_, rfl⟩
 rw [← hbd]
 have HCP := Lib.hid (CP.zero n bd)
 have HBD : Hid (bd.1 = 1 + lp.1 ∧ bd.2 = 1 + lp.2) := Lib.hid (by rw [hbd]; exact ⟨rfl, rfl⟩)
 have hmf : ∀ (fn : Fn) (first cap : Array Value) (w : World), (Instr.makeFunc fn first cap).run Tryz.prog w = .ok (.func fn first cap) w := fun _ _ _ _ => rfl
 have HN := Lib.hid hn
 rw [hk] at b0
 rw [hxn] at b2
 clear hT hB hbf hE1 hE2 hE3 hE4 hE24 hfx4 hnb4 hbd hv h hne h6 hfo HFO hsm hlp hq hpl hk hxn hg
 go_enter Tryz.func64, Tryz.ntmps64
 go_upto_region 1 with fail
 rw [← hw1, ← hfx, ← hw2, ← hnb1]
 clear hw1 hfx hw2 hnb1 hnb hgb hw3
 go_upto_region 3 with fail
 rw [← hw4, ← hob]
 clear hw4 hob n2 hmk
 have HAL := Lib.hid (HALL.out w4 HE04.out)
 have hmin := HMIN.out
 go_wp2_with fail
 refine HAL.out.mono ?_
 rintro e w5 ⟨cb, L, rfl, hE5, hBL, hcs, hCL⟩
 have HI5 := Lib.hid (HSI.out.next hE5)
 have HB5 := Lib.hid hBL
 have HCL := Lib.hid hCL
 have HGC : Hid (cb ≠ gb) := Lib.hid (by have := HSZ.out.2; omega)
 clear hE5 hBL hcs hCL hmin b0 b2 n4
 go_wp2_with fail
 go_loopw [10, 11, 70] (fun x10 x11 kv wr => ∃ (k : Nat) (M : List Int), kv = .int .i64 k ∧ k ≤ q + 1 ∧ Hid (SetI w2 wr nb ob gb n M) ∧ Hid (CP n bd M) ∧ Hid (lp.1 < k → Low bd M) ∧ Hid (BlkU wr cb L)) (fun x10 x11 kv _ => q + 1 - (intOf kv).toNat)
 case atStart => exact ⟨0, _, rfl, by omega, HI5, HCP, Lib.hid (fun h => absurd h (by have := HLP.out; omega)), HB5⟩
 case round =>
  obtain ⟨k, M, rfl, hkq, HI, HC0, HLO, HBL⟩ := hrel
  have hq9 := HQ.out.2.1
  by_cases hlt : k < q + 1
  · obtain ⟨c, hc⟩ : ∃ c, L[k]? = some c := ⟨_, List.getElem?_eq_getElem (by rw [HCL.out.len]; omega)⟩
    have g0 := HBL.out.get hc
    have hki : (k : Int) < (q : Int) + 1 := by omega
    have HCC := Lib.hid (HCL.out.cap c (List.mem_of_getElem? hc))
    have HCS := Lib.hid (HCL.out.sup k c hc)
    have HC0L := Lib.hid (HCL.out.low k c hc)
    have hk1 : IntKind.i64.wrap ((k : Int) + 1) = (k : Int) + 1 := by rw [IntKind.wrap_i64]; omega
    have HC := Lib.hid (set_any2 (i := (k : Int) + 1) (v := c) HI.out HC0.out.len (by have := HN.out; omega) (by omega))
    have HCN : Hid (CP n bd (setU n M ((k : Int) + 1) c)) := Lib.hid (HC0.out.set HCC.out (by omega) (fun h => by
     have h1 := HCS.out h
     have h2 := HBD.out
     omega))
    have HLN : Hid (lp.1 < ((k + 1 : Nat) : Int) → Low bd (setU n M ((k : Int) + 1) c)) := Lib.hid (fun h => by
     by_cases he : (k : Int) = lp.1
     · have h1 := HC0L.out he
       have h2 := HCC.out.1
       refine Low.first HC0.out.len (by have := HBD.out; omega) (by omega) (by omega)
     · exact (HLO.out (by omega)).keep (by omega) (fun h => by have := HBD.out; omega))
    clear hc
    go_wp2_with fail
    refine HC.out.mono ?_
    rintro e w6 ⟨rfl, hZ, hK⟩
    have HZ := Lib.hid hZ
    have HBN : Hid (BlkU w6 cb L) := Lib.hid (by unfold BlkU; rw [hK cb HGC.out]; exact HBL.out)
    clear hZ hK g0
    go_wp2_with fail
    go_roundw
    case rel => exact ⟨k + 1, _, by go_num, by omega, HZ, HCN, HLN, HBN⟩
    case measure => simp [intOf]; omega
  · have hki : ¬ (k : Int) < (q : Int) + 1 := by omega
    have HZR : Hid (CRel n bd M) := Lib.hid (HC0.out.rel (by
     by_cases he : lp.1 < (k : Int)
     · exact HLO.out he
     · refine Low.far HC0.out.len ?_
       have h1 := HBD.out
       have h2 := HLP.out
       have h3 := HQ.out
       omega))
    obtain ⟨wz, hwz⟩ : ∃ wz, wz = wr := ⟨_, rfl⟩
    rw [← hwz] at HI ⊢
    clear hwz
    have o0 := show wz.cell? ⟨ob, 0, none⟩ = some (.slice (some ⟨gb, 0, none⟩) (n + 1) (n + 1)) by rw [cellc HI.out.oc]; rfl
    go_wp2_with fail
    go_ret
    exact ⟨gb, rfl, HE02.out.trans HI.out.ext, _, HI.out.blk, HSZ.out.1, HZR.out⟩
/-- numbers of strings of the fields of a table without errors -/
theorem counts_any {t : List Fmt} {i : Nat} {fm : Fmt} {n : Nat} (hv : validF t = 0) (hi : t[i]? = some fm) (hn : n ≤ 2000) : ∀ x ∈ fm.fields, CountsC t x n := fun x hx => by
 obtain ⟨b, hb⟩ := fields_ok hv hi x hx
 by_cases hk : x.kind = 5
 · exact counts5_any hv hn hb hk
 · exact counts0_any hn hb hk
set_option maxRecDepth 100000 in
set_option maxHeartbeats 4000000 in
/-- Count at a table without errors -/
theorem Count_any {w : World} {B : Nat} {a : Option Addr} {cap : Nat} {t : List Fmt} {i n : Nat} {fm : Fmt} (hv : validF t = 0) (hT : TabA w B a t) (hB : B ≤ w.heap.size) (hcap : t.length ≤ cap) (hcap2 : cap ≤ 9223372036854775807) (hi : t[i]? = some fm) (hn : n ≤ 2000) :
 Calls Tryz.prog 9 #[.slice a t.length cap, .int .i64 i, .int .i64 n] w fun e w' => ∃ c z : Int, e = .returned (.tuple #[.int .i64 c, .int .i64 z]) ∧ Ext w w' ∧
  (z = 0 ∧ 0 ≤ c ∧ (c ≠ 0 → (bndT t fm.fields).1 ≤ n ∧ (n : Int) ≤ (bndT t fm.fields).2) ∧ ((n : Int) = (bndT t fm.fields).1 → c ≠ 0) ∨
   z = 3 ∧ c = 0 ∧ (bndT t fm.fields).1 ≤ n ∧ (n : Int) ≤ (bndT t fm.fields).2) := by
 have HBC := Lib.hid (Bounds_any hv hT hB hcap hcap2 hi)
 have HAL := Lib.hid (fun (w' : World) (hE : Ext w w') => all_any (w := w') (cap := cap) hi (n := n) (by omega) (fun y hy => by
  obtain ⟨b', hb'⟩ := fields_ok hv hi y hy
  exact (bndF_rng hv hb').1) (counts_any hv hi hn) (hT.ext hB hE) (Nat.le_trans hB hE.size))
 obtain ⟨p, hp⟩ : ∃ p, p = bndT t fm.fields := ⟨_, rfl⟩
 rw [← hp] at HBC HAL ⊢
 have hn0 : ¬ (n : Int) < 0 := by omega
 have hn2 : ¬ (2000 : Int) < (n : Int) := by omega
 clear hp hv hT hB hi
 go_enter Tryz.func9, Tryz.ntmps9
 go_wp2_with fail
 refine HBC.out.mono ?_
 rintro e w1 ⟨rfl, hE1⟩
 have HA1 := Lib.hid (HAL.out w1 hE1)
 have HE1 := Lib.hid hE1
 clear hE1
 go_wp2_with fail
 refine HA1.out.mono ?_
 rintro e w2 ⟨gb, L, rfl, hE2, hBL, -, hCL⟩
 obtain ⟨c, hc⟩ : ∃ c, L[n]? = some c := ⟨_, List.getElem?_eq_getElem (by rw [hCL.len]; omega)⟩
 have g0 := hBL.get hc
 have HCC := Lib.hid (hCL.cap c (List.mem_of_getElem? hc))
 have HCS := Lib.hid (hCL.sup n c hc)
 have HCW := Lib.hid (hCL.low n c hc)
 have HE2 := Lib.hid (HE1.out.trans hE2)
 have hni : (n : Int) < (n : Int) + 1 := by omega
 clear hE2 hBL hCL hc
 by_cases hbig : (4611686018427387904 : Int) < c
 · go_wp2_with fail
   go_ret2
   exact ⟨0, 3, rfl, HE2.out, .inr ⟨rfl, rfl, HCS.out (by omega)⟩⟩
 · have hwc : IntKind.i64.wrap c = c := by rw [IntKind.wrap_i64]; have := HCC.out; omega
   go_wp2_with fail
   go_ret2
   exact ⟨c, 0, rfl, HE2.out, .inl ⟨rfl, HCC.out.1, HCS.out, HCW.out⟩⟩
end Go.Proofs.YtfaienbdebjfcaaGreat
