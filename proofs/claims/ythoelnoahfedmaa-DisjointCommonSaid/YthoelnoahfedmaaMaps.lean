/- A map that the call has made, as a function of its keys. -/
import Derived.Test.YthoelnoahfedmaaBase
import Derived.Maps.OwnSet
namespace Go.Proofs.Ythoelnoahfedmaa
open Go Go.RowKit
open Go.Maps (Keyed)
set_option linter.unusedVariables false
set_option linter.unusedSimpArgs false

/-- block b of w is a map of at most n entries; what it holds at the key enc x is F x -/
def MapK {K : Type} (enc : K → Value) (w : World) (b n : Nat) (F : K → Option Value) : Prop :=
  ∃ (es : Array MapEntry) (clock : Nat), w.heap[b]? = some (.map es clock) ∧ es.size ≤ n ∧ (∀ (i : Nat) (e : MapEntry), es[i]? = some e → ∃ x, e.key = enc x) ∧
    (∀ (i j : Nat) (e e' : MapEntry), es[i]? = some e → es[j]? = some e' → e.key = e'.key → i = j) ∧
    ∀ x, (F x = none ∧ ∀ (i : Nat) (e : MapEntry), es[i]? = some e → e.key ≠ enc x) ∨ ∃ (i : Nat) (e : MapEntry), es[i]? = some e ∧ e.key = enc x ∧ F x = some e.val

section
variable {K : Type} {enc : K → Value} {w : World} {b n : Nat} {F : K → Option Value}

theorem MapK.same {w' : World} (h : MapK enc w b n F) (hb : w'.heap[b]? = w.heap[b]?) : MapK enc w' b n F := by
  obtain ⟨es, clock, h1, h2⟩ := h
  exact ⟨es, clock, hb.trans h1, h2⟩
theorem MapK.lt (h : MapK enc w b n F) : b < w.heap.size := by
  obtain ⟨es, clock, h1, -⟩ := h
  exact (Array.getElem?_eq_some_iff.1 h1).1
theorem MapK.ext {w' : World} (h : MapK enc w b n F) (hE : Ext w w') : MapK enc w' b n F := h.same (hE.block h.lt)
theorem MapK.al (h : MapK enc w b n F) (o : Obj) : MapK enc (w.alloc o) b n F := h.ext (Ext.alloc w o)
theorem MapK.mono {n' : Nat} (h : MapK enc w b n F) (hn : n ≤ n') : MapK enc w b n' F := by
  obtain ⟨es, clock, h1, h2, h3⟩ := h
  exact ⟨es, clock, h1, Nat.le_trans h2 hn, h3⟩
theorem MapK.made (w : World) : MapK enc (w.alloc (.map #[] 0)) w.heap.size 0 (fun _ => none) :=
  ⟨#[], 0, hs_new, Nat.le_refl _, by simp, by simp, fun x => .inl ⟨rfl, by simp⟩⟩
theorem MapK.made_at {b : Nat} (h : w.heap[b]? = some (.map #[] 0)) : MapK enc w b 0 (fun _ => none) :=
  ⟨#[], 0, h, Nat.le_refl _, by simp, by simp, fun x => .inl ⟨rfl, by simp⟩⟩

variable {P : Program} {k : TypeId}

theorem MapK.find (h : MapK enc w b n F) (L : Keyed P k) (hk : ∀ x, ∃ l, keyOf P k (enc x) = some l) (x : K) :
    ∃ es clock, w.heap[b]? = some (.map es clock) ∧ (((Instr.findKey k (enc x) es.toList).run P w = .ok none w ∧ F x = none ∧ ∀ (i : Nat) (e : MapEntry), es[i]? = some e → e.key ≠ enc x) ∨
      ∃ (i : Nat) (e : MapEntry), (Instr.findKey k (enc x) es.toList).run P w = .ok (some (i, e.val)) w ∧ es[i]? = some e ∧ e.key = enc x ∧ F x = some e.val) := by
  obtain ⟨es, clock, h1, h2, h3, h4, h5⟩ := h
  refine ⟨es, clock, h1, ?_⟩
  obtain ⟨l, hl⟩ := hk x
  rcases L.find w hl es.toList (fun e he => by
    obtain ⟨i, hi⟩ := List.mem_iff_getElem?.1 he
    obtain ⟨y, hy⟩ := h3 i e (by simpa using hi)
    rw [hy]; exact hk y) with ⟨hf, hno⟩ | ⟨j, e, hf, hj, he⟩
  · left
    refine ⟨hf, ?_, fun i e hi => hno e (by have : es.toList[i]? = some e := by simpa using hi
                                            exact List.mem_of_getElem? this)⟩
    rcases h5 x with ⟨h6, -⟩ | ⟨i, e, hi, he, -⟩
    · exact h6
    · exact absurd he (hno e (by have : es.toList[i]? = some e := by simpa using hi
                                 exact List.mem_of_getElem? this))
  · right
    have hj' : es[j]? = some e := by simpa using hj
    refine ⟨j, e, hf, hj', he, ?_⟩
    rcases h5 x with ⟨-, h6⟩ | ⟨i, e', hi, he', hF⟩
    · exact absurd he (h6 j e hj')
    · have := h4 i j e' e hi hj' (he'.trans he.symm)
      subst this
      rw [hj'] at hi
      cases hi
      exact hF

/-- m[x] -/
theorem MapK.look (h : MapK enc w b n F) (L : Keyed P k) (hk : ∀ x, ∃ l, keyOf P k (enc x) = some l) {t e : TypeId} (ht : P.underlying t = some (.map k e)) {z : Value} (hz : (zeroValue e).run P w = .ok z w) (x : K) (c : Bool) :
    (Instr.lookup t (.map (some b)) (enc x) c).run P w = .ok (if c then .tuple #[(F x).getD z, .bool (F x).isSome] else (F x).getD z) w := by
  obtain ⟨es, clock, hb, hf⟩ := h.find L hk x
  obtain ⟨l, hl⟩ := hk x
  rcases hf with ⟨hf, hF, -⟩ | ⟨i, en, hf, hi, he, hF⟩
  · simp [Instr.lookup, run_underlying ht, MapKept.run_getObj_map hb, L.check w _ hl, hf, hz, Result.andThen, hF]
  · simp [Instr.lookup, run_underlying ht, MapKept.run_getObj_map hb, L.check w _ hl, hf, Result.andThen, hF]

theorem set_same {w : World} {b : Nat} {o o' : Obj} (h : w.heap[b]? = some o) : (ChangeMaps.setBlock w b o').heap[b]? = some o' := by
  have := (Array.getElem?_eq_some_iff.1 h).1
  simp [ChangeMaps.setBlock, this]

/-- m[x] = v -/
theorem MapK.update (h : MapK enc w b n F) (L : Keyed P k) (hk : ∀ x, ∃ l, keyOf P k (enc x) = some l) (hinj : ∀ x y, enc x = enc y → x = y) {t e : TypeId} (ht : P.underlying t = some (.map k e)) (x : K) (v : Value) :
    ∃ o', (Instr.mapUpdate t (.map (some b)) (enc x) v).run P w = .ok () (ChangeMaps.setBlock w b o') ∧
      ∀ F' : K → Option Value, F' x = some v → (∀ y, y ≠ x → F' y = F y) → MapK enc (ChangeMaps.setBlock w b o') b (n + 1) F' := by
  obtain ⟨es, clock, hb, hf⟩ := h.find L hk x
  obtain ⟨es', clock', hb', h2, h3, h4, h5⟩ := h
  rw [hb] at hb'
  cases hb'
  obtain ⟨l, hl⟩ := hk x
  rcases hf with ⟨hf, hF, hno⟩ | ⟨i, en, hf, hi, he, hF⟩
  · refine ⟨.map (es.push { key := enc x, val := v, born := clock }) (clock + 1), ?_, fun F' h6 h7 => ?_⟩
    · simp [Instr.mapUpdate, run_underlying ht, MapKept.run_getObj_map hb, L.check w _ hl, hf, Result.andThen, MapKept.run_setObj_map _ hb, ChangeMaps.setBlock]
    · refine ⟨_, _, set_same hb, by simp; omega, ?_, ?_, ?_⟩
      · intro j e' hj
        rw [Array.getElem?_push] at hj
        split at hj
        · cases hj; exact ⟨x, rfl⟩
        · exact h3 j e' hj
      · intro i j e1 e2 hi hj hee
        rw [Array.getElem?_push] at hi hj
        split at hi <;> split at hj
        · omega
        · cases hi; exact absurd hee.symm (hno j e2 hj)
        · cases hj; exact absurd hee (hno i e1 hi)
        · exact h4 i j e1 e2 hi hj hee
      · intro y
        by_cases hy : y = x
        · subst hy
          right
          exact ⟨es.size, { key := enc y, val := v, born := clock }, by simp, rfl, h6⟩
        · rw [h7 y hy]
          rcases h5 y with ⟨h8, h9⟩ | ⟨i, e1, hi, he1, hF1⟩
          · left
            refine ⟨h8, fun j e' hj => ?_⟩
            rw [Array.getElem?_push] at hj
            split at hj
            · cases hj; exact fun h => hy (hinj _ _ h.symm)
            · exact h9 j e' hj
          · right
            have hlt := (Array.getElem?_eq_some_iff.1 hi).1
            exact ⟨i, e1, by rw [Array.getElem?_push, if_neg (by omega)]; exact hi, he1, hF1⟩
  · have hlt := (Array.getElem?_eq_some_iff.1 hi).1
    refine ⟨.map (es.modify i fun e => { e with key := enc x, val := v }) clock, ?_, fun F' h6 h7 => ?_⟩
    · have hst := L.stays w hl
      rw [← he] at hst hl hf ⊢
      simp [Instr.mapUpdate, run_underlying ht, MapKept.run_getObj_map hb, L.check w _ hl, hf, Result.andThen, hi, hst, MapKept.run_setObj_map _ hb, ChangeMaps.setBlock]
    · have hmod : ∀ j e', (es.modify i fun e => { e with key := enc x, val := v })[j]? = some e' → (j = i ∧ e'.key = enc x ∧ e'.val = v) ∨ (j ≠ i ∧ es[j]? = some e') := by
        intro j e' hj
        rw [Array.getElem?_modify] at hj
        by_cases hij : i = j
        · subst hij
          rw [if_pos rfl, hi] at hj
          simp only [Option.map_some, Option.some.injEq] at hj
          subst hj
          exact .inl ⟨rfl, rfl, rfl⟩
        · rw [if_neg hij] at hj
          exact .inr ⟨fun h => hij h.symm, hj⟩
      refine ⟨_, _, set_same hb, by simp; omega, ?_, ?_, ?_⟩
      · intro j e' hj
        rcases hmod j e' hj with ⟨-, h8, -⟩ | ⟨-, h8⟩
        · exact ⟨x, h8⟩
        · exact h3 j e' h8
      · intro j1 j2 e1 e2 hj1 hj2 hee
        rcases hmod j1 e1 hj1 with ⟨h8, h9, -⟩ | ⟨h8, h9⟩ <;> rcases hmod j2 e2 hj2 with ⟨h10, h11, -⟩ | ⟨h10, h11⟩
        · omega
        · subst h8; exact absurd (h4 j1 j2 en e2 hi h11 (by rw [he, ← hee, h9])) (fun h => h10 h.symm)
        · subst h10; exact absurd (h4 j1 j2 e1 en h9 hi (by rw [he, hee, h11])) h8
        · exact h4 j1 j2 e1 e2 h9 h11 hee
      · intro y
        by_cases hy : y = x
        · subst hy
          right
          refine ⟨i, { en with key := enc y, val := v }, ?_, rfl, h6⟩
          rw [Array.getElem?_modify, if_pos rfl, hi]; rfl
        · rw [h7 y hy]
          rcases h5 y with ⟨h8, h9⟩ | ⟨j, e1, hj, he1, hF1⟩
          · left
            refine ⟨h8, fun j e' hj => ?_⟩
            rcases hmod j e' hj with ⟨-, h10, -⟩ | ⟨-, h10⟩
            · rw [h10]; exact fun h => hy (hinj _ _ h.symm)
            · exact h9 j e' h10
          · right
            have hji : j ≠ i := by
              rintro rfl
              rw [hi] at hj
              cases hj
              exact hy (hinj _ _ (he1.symm.trans he))
            refine ⟨j, e1, ?_, he1, hF1⟩
            rw [Array.getElem?_modify, if_neg (fun h => hji h.symm)]
            exact hj
end

end Go.Proofs.Ythoelnoahfedmaa
