/- Rows of numbers of strings in memory; the closure that sets one. Contracts: numbers of strings of fields that are not nested. Contracts: numbers of strings of a format (codec.all). Contracts: numbers of strings: nested fields, codec.Count. -/
import Derived.Test.YtfaienbdebjfcaaGreatGA
import Derived.Laws.EntriesVeiled
namespace Go.Proofs.YtfaienbdebjfcaaGreat
open Go Go.RowKit
set_option linter.unusedVariables false
set_option linter.unusedSimpArgs false

def encU (v : Int) : Value := .int .u64 v
/-- a block of numbers -/
def BlkU (w : World) (gb : Nat) (L : List Int) : Prop := w.heap[gb]? = some (.cells (L.map encU).toArray 89)
theorem BlkU.lt {w : World} {gb : Nat} {L : List Int} (h : BlkU w gb L) : gb < w.heap.size := (Array.getElem?_eq_some_iff.1 h).1
theorem BlkU.ext {w w' : World} {gb : Nat} {L : List Int} (h : BlkU w gb L) (hE : Ext w w') : BlkU w' gb L := hs_ext hE h
theorem BlkU.get {w : World} {gb : Nat} {L : List Int} (h : BlkU w gb L) {k : Nat} {v : Int} (hk : L[k]? = some v) : w.cell? ⟨gb, k, none⟩ = some (.int .u64 v) := by
 rw [cellc h]
 simp [hk, encU]
theorem BlkU.frozen {w : World} {gb : Nat} {L : List Int} (h : BlkU w gb L) (k : Nat) : w.frozen? ⟨gb, k, none⟩ = false := frozenc h
theorem BlkU.set {w : World} {gb : Nat} {L : List Int} (h : BlkU w gb L) (k : Nat) (v : Int) : BlkU (w.setCell ⟨gb, k, none⟩ (.int .u64 v)) gb (L.set k v) := by
 unfold BlkU at h ⊢
 rw [heap_setCell_same w gb k _ _ _ h]
 congr 2
 apply Array.ext'
 simp [encU, List.map_set]
/-- numbers within bounds -/
structure CP (n : Nat) (b : Int × Int) (L : List Int) : Prop where
 len : L.length = n + 1
 cap : ∀ v ∈ L, CapI v
 sup : ∀ (k : Nat) v, L[k]? = some v → v ≠ 0 → b.1 ≤ k ∧ (k : Int) ≤ b.2
def Low (b : Int × Int) (L : List Int) : Prop := ∀ (k : Nat) v, L[k]? = some v → (k : Int) = b.1 → v ≠ 0
theorem CP.zero (n : Nat) (b : Int × Int) : CP n b (List.replicate (n + 1) 0) :=
 ⟨by simp, fun v hv => by rw [List.eq_of_mem_replicate hv]; unfold CapI; omega, fun k v hk hv => by
  have := List.mem_of_getElem? hk
  exact absurd (List.eq_of_mem_replicate this) hv⟩
def setU (n : Nat) (L : List Int) (i v : Int) : List Int := if i ≤ n then L.set i.toNat v else L
theorem setU_get {n : Nat} {L : List Int} {i v : Int} {k : Nat} {x : Int} (h : (setU n L i v)[k]? = some x) : (L[k]? = some x ∧ ¬ (i ≤ n ∧ i.toNat = k)) ∨ (i ≤ n ∧ i.toNat = k ∧ x = v) := by
 unfold setU at h
 split at h
 · rename_i hi
   by_cases hk : i.toNat = k
   · subst hk
     rw [List.getElem?_set] at h
     simp at h
     exact .inr ⟨hi, rfl, h.2.symm⟩
   · rw [List.getElem?_set_ne hk] at h
     exact .inl ⟨h, fun h => hk h.2⟩
 · rename_i hi
   exact .inl ⟨h, fun h => hi h.1⟩
theorem setU_len (n : Nat) (L : List Int) (i v : Int) : (setU n L i v).length = L.length := by
 unfold setU; split <;> simp
theorem CP.set {n : Nat} {b : Int × Int} {L : List Int} {i v : Int} (h : CP n b L) (hv : CapI v) (h0 : 0 ≤ i) (hb : v ≠ 0 → b.1 ≤ i ∧ i ≤ b.2) : CP n b (setU n L i v) := by
 refine ⟨by rw [setU_len]; exact h.len, fun x hx => ?_, fun k x hk hx => ?_⟩
 · obtain ⟨k, hk⟩ := List.mem_iff_getElem?.1 hx
   rcases setU_get hk with ⟨h1, -⟩ | ⟨-, -, rfl⟩
   · exact h.cap x (List.mem_of_getElem? h1)
   · exact hv
 · rcases setU_get hk with ⟨h1, -⟩ | ⟨-, h2, rfl⟩
   · exact h.sup k x h1 hx
   · have := hb hx
     omega
theorem Low.first {n : Nat} {b : Int × Int} {L : List Int} {i v : Int} (h : L.length = n + 1) (hi : i = b.1) (h0 : 0 ≤ i) (hv : 0 < v) : Low b (setU n L i v) := by
 intro k x hk he
 rcases setU_get hk with ⟨h1, h2⟩ | ⟨-, -, rfl⟩
 · have := (List.getElem?_eq_some_iff.1 h1).1
   exact absurd ⟨by omega, by omega⟩ h2
 · omega
theorem Low.keep {n : Nat} {b : Int × Int} {L : List Int} {i v : Int} (h : Low b L) (h0 : 0 ≤ i) (hv : i = b.1 → v ≠ 0) : Low b (setU n L i v) := by
 intro k x hk he
 rcases setU_get hk with ⟨h1, h2⟩ | ⟨-, h2, rfl⟩
 · exact h k x h1 he
 · exact hv (by omega)
theorem CP.rel {n : Nat} {b : Int × Int} {L : List Int} (h : CP n b L) (k : Low b L) : CRel n b L := ⟨h.len, h.cap, h.sup, k⟩

/-- the closure's variables -/
structure SetI (w0 w : World) (nb ob gb n : Nat) (L : List Int) : Prop where
 ext : Ext w0 w
 nc : w.heap[nb]? = some (.cells #[.int .i64 (n : Int)] 3)
 oc : w.heap[ob]? = some (.cells #[.slice (some ⟨gb, 0, none⟩) (n + 1) (n + 1)] 90)
 blk : BlkU w gb L
 ne : nb ≠ gb ∧ ob ≠ gb ∧ w0.heap.size ≤ gb
theorem SetI.next {w0 w w' : World} {nb ob gb n : Nat} {L : List Int} (h : SetI w0 w nb ob gb n L) (hE : Ext w w') : SetI w0 w' nb ob gb n L :=
 ⟨h.ext.trans hE, hs_ext hE h.nc, hs_ext hE h.oc, h.blk.ext hE, h.ne⟩
theorem SetI.put {w0 w : World} {nb ob gb n : Nat} {L : List Int} (h : SetI w0 w nb ob gb n L) (k : Nat) (v : Int) : SetI w0 (w.setCell ⟨gb, k, none⟩ (.int .u64 v)) nb ob gb n (L.set k v) := by
 refine ⟨h.ext.setCell h.ne.2.2 _, ?_, ?_, h.blk.set k v, h.ne⟩
 · rw [heap_setCell_other _ _ _ _ h.ne.1]; exact h.nc
 · rw [heap_setCell_other _ _ _ _ h.ne.2.1]; exact h.oc

def posU (v : Value) (w : World) : Prop := ∃ r : Int, v = .int .u64 r ∧ CapI r ∧ 0 < r
theorem posU.persist {B : Nat} : Persist false B [] posU := ⟨fun u a b h hE => h, (fun h => nomatch h), (fun h => absurd rfl h)⟩

theorem CP.put {n : Nat} {b : Int × Int} {L : List Int} {k : Nat} {v : Int} (h : CP n b L) (hv : CapI v) (hk : k ≤ n) (hb : b.1 ≤ k ∧ (k : Int) ≤ b.2) : CP n b (L.set k v) := by
 have := h.set (i := (k : Int)) hv (by omega) (fun _ => hb)
 unfold setU at this
 rwa [if_pos (by omega), Int.toNat_natCast] at this
theorem Low.put {b : Int × Int} {L : List Int} {k : Nat} {v : Int} (h : Low b L ∨ (k : Int) = b.1) (hv : 0 < v) : Low b (L.set k v) := by
 intro j x hj he
 by_cases hjk : j = k
 · subst hjk
   have := (List.getElem?_eq_some_iff.1 hj)
   rw [List.getElem?_set] at hj
   simp at hj
   omega
 · rw [List.getElem?_set_ne (fun e => hjk e.symm)] at hj
   rcases h with h | h
   · exact h j x hj he
   · omega
theorem CRel.first {n : Nat} : CRel n (0, 0) ((List.replicate (n + 1) (0 : Int)).set 0 1) := by
 refine ((CP.zero n (0, 0)).put (k := 0) (v := 1) (by unfold CapI; omega) (by omega) ⟨Int.le_refl _, Int.le_refl _⟩).rel (Low.put (.inr rfl) (by omega))

end Go.Proofs.YtfaienbdebjfcaaGreat
