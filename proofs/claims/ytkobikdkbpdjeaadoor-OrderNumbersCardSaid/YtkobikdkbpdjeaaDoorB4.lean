/- Plain law: the subterms of some terms, each once. -/
import Derived.Test.YtkobikdkbpdjeaaDoorB1
import Derived.Lib.ItoaNum
namespace Go.Proofs.YtkobikdkbpdjeaaDoor
open Go
set_option linter.unusedVariables false
set_option linter.unusedSimpArgs false

/-- a subterm: its rank, the numbers of its kids -/
structure Nd where
 t : Tm
 r : Int
 ks : List Int
def num (i : Int) : List UInt8 := Lib.decDigits i.toNat
/-- what tells a subterm -/
def keyL (k s : Int) (n : List UInt8) (ks : List Int) : List UInt8 := num k ++ 32 :: (num s ++ 32 :: (n ++ ks.flatMap (fun i => 32 :: num i)))
def keyN (x : Nd) : List UInt8 := keyL x.t.kind x.t.sort x.t.name.data.toList x.ks
def noB (l : List UInt8) : Prop := (32 : UInt8) ∉ l

theorem dig_fin : ∀ i : Fin 100, (Lib.decDigits i.val) = if i.val < 10 then [UInt8.ofNat (48 + i.val)] else [UInt8.ofNat (48 + i.val / 10), UInt8.ofNat (48 + i.val % 10)] := fun ⟨i, h⟩ => by
 by_cases h1 : i < 10
 · simp only [h1, if_true]; exact Lib.decDigits_one h1
 · simp only [h1, if_false]; exact Lib.decDigits_two h1 h
theorem num_noB {i : Int} (h0 : 0 ≤ i) (h1 : i < 100) : noB (num i) := by
 unfold noB num
 have := dig_fin ⟨i.toNat, by omega⟩
 simp only at this
 rw [this]
 have key : ∀ j : Fin 100, (32 : UInt8) ∉ (if j.val < 10 then [UInt8.ofNat (48 + j.val)] else [UInt8.ofNat (48 + j.val / 10), UInt8.ofNat (48 + j.val % 10)]) := by decide +kernel
 exact key ⟨i.toNat, by omega⟩
theorem num_inj {i j : Int} (h0 : 0 ≤ i) (h1 : i < 100) (k0 : 0 ≤ j) (k1 : j < 100) (h : num i = num j) : i = j := by
 unfold num at h
 have e1 := dig_fin ⟨i.toNat, by omega⟩
 have e2 := dig_fin ⟨j.toNat, by omega⟩
 simp only at e1 e2
 rw [e1, e2] at h
 have key : ∀ a b : Fin 100, (if a.val < 10 then [UInt8.ofNat (48 + a.val)] else [UInt8.ofNat (48 + a.val / 10), UInt8.ofNat (48 + a.val % 10)]) = (if b.val < 10 then [UInt8.ofNat (48 + b.val)] else [UInt8.ofNat (48 + b.val / 10), UInt8.ofNat (48 + b.val % 10)]) → a = b := by decide +kernel
 have := key ⟨i.toNat, by omega⟩ ⟨j.toNat, by omega⟩ h
 have := congrArg Fin.val this
 simp only at this
 omega
theorem num_ne {i : Int} (h0 : 0 ≤ i) (h1 : i < 100) : num i ≠ [] := by
 unfold num
 have := dig_fin ⟨i.toNat, by omega⟩
 simp only at this
 rw [this]
 split <;> simp
theorem num_len {i : Int} (h0 : 0 ≤ i) (h1 : i < 100) : (num i).length ≤ 2 := by
 unfold num
 have := dig_fin ⟨i.toNat, by omega⟩
 simp only at this
 rw [this]
 split <;> simp
theorem cut_blank : ∀ {a b x y : List UInt8}, noB a → noB b → a ++ 32 :: x = b ++ 32 :: y → a = b ∧ x = y
 | [], [], x, y, _, _, h => by simpa using h
 | [], c :: b, x, y, _, hb, h => by simp at h; exact absurd (by rw [h.1]; simp) hb
 | c :: a, [], x, y, ha, _, h => by simp at h; exact absurd (by rw [← h.1]; simp) ha
 | c :: a, d :: b, x, y, ha, hb, h => by
   simp at h
   obtain ⟨rfl, h⟩ := h
   have := cut_blank (a := a) (b := b) (fun h => ha (by simp [h])) (fun h => hb (by simp [h])) h
   exact ⟨by rw [this.1], this.2⟩
theorem tail_inj : ∀ {ks ms : List Int} {n m : List UInt8}, noB n → noB m → (∀ i ∈ ks, 0 ≤ i ∧ i < 100) → (∀ i ∈ ms, 0 ≤ i ∧ i < 100) →
 n ++ ks.flatMap (fun i => 32 :: num i) = m ++ ms.flatMap (fun i => 32 :: num i) → n = m ∧ ks = ms
 | [], [], n, m, _, _, _, _, h => by simpa using h
 | [], j :: ms, n, m, hn, hm, _, _, h => by
   simp only [List.flatMap_nil, List.append_nil, List.flatMap_cons, List.cons_append] at h
   exact absurd (by rw [h]; simp) hn
 | i :: ks, [], n, m, hn, hm, _, _, h => by
   simp only [List.flatMap_nil, List.append_nil, List.flatMap_cons, List.cons_append] at h
   exact absurd (by rw [← h]; simp) hm
 | i :: ks, j :: ms, n, m, hn, hm, hk, hk', h => by
   simp only [List.flatMap_cons, List.cons_append] at h
   obtain ⟨e1, e2⟩ := cut_blank hn hm h
   have hi := hk i (by simp)
   have hj := hk' j (by simp)
   obtain ⟨e3, e4⟩ := tail_inj (num_noB hi.1 hi.2) (num_noB hj.1 hj.2) (fun x hx => hk x (by simp [hx])) (fun x hx => hk' x (by simp [hx])) e2
   exact ⟨e1, by rw [num_inj hi.1 hi.2 hj.1 hj.2 e3, e4]⟩
theorem keyL_inj {k s k' s' : Int} {n n' : List UInt8} {ks ks' : List Int} (hk : 0 ≤ k ∧ k < 100) (hs : 0 ≤ s ∧ s < 100) (hk' : 0 ≤ k' ∧ k' < 100) (hs' : 0 ≤ s' ∧ s' < 100) (hn : noB n) (hn' : noB n')
 (hi : ∀ i ∈ ks, 0 ≤ i ∧ i < 100) (hi' : ∀ i ∈ ks', 0 ≤ i ∧ i < 100) (h : keyL k s n ks = keyL k' s' n' ks') : k = k' ∧ s = s' ∧ n = n' ∧ ks = ks' := by
 unfold keyL at h
 obtain ⟨e1, h⟩ := cut_blank (num_noB hk.1 hk.2) (num_noB hk'.1 hk'.2) h
 obtain ⟨e2, h⟩ := cut_blank (num_noB hs.1 hs.2) (num_noB hs'.1 hs'.2) h
 obtain ⟨e3, e4⟩ := tail_inj hn hn' hi hi' h
 exact ⟨num_inj hk.1 hk.2 hk'.1 hk'.2 e1, num_inj hs.1 hs.2 hs'.1 hs'.2 e2, e3, e4⟩

/-- what a forest may hold: small kinds and sorts, names without blanks -/
def tame (t : Tm) : Prop := (0 ≤ t.kind ∧ t.kind < 100) ∧ (0 ≤ t.sort ∧ t.sort < 100) ∧ noB t.name.data.toList ∧ t.name.size ≤ 24 ∧ (t.kind = 1 → t.kids = [])
mutual
def tameT : Tm → Prop | .mk k n s ks => tame (.mk k n s ks) ∧ tameL ks
def tameL : List Tm → Prop | [] => True | t :: ks => tameT t ∧ tameL ks
end
theorem tameL_mem {t : Tm} : ∀ {L : List Tm}, tameL L → t ∈ L → tameT t
 | [], _, h => by simp at h
 | x :: L, hw, h => by
   rw [tameL] at hw
   rcases List.mem_cons.1 h with rfl | h
   · exact hw.1
   · exact tameL_mem hw.2 h
theorem tameT_open {t : Tm} (h : tameT t) : tame t ∧ ∀ k ∈ t.kids, tameT k := by
 cases t with
 | mk a b c d => rw [tameT] at h; exact ⟨h.1, fun k hk => tameL_mem h.2 hk⟩
mutual
/-- all names are known -/
def knT (l : List ByteArray) : Tm → Bool | .mk k n _ ks => (decide (k = 1) || decide (0 ≤ rnk l n)) && knL l ks
def knL (l : List ByteArray) : List Tm → Bool | [] => true | t :: ks => knT l t && knL l ks
end
theorem knT_kids (l : List ByteArray) (t : Tm) : knT l t = ((decide (t.kind = 1) || decide (0 ≤ rnk l t.name)) && knL l t.kids) := by cases t; rw [knT]; rfl

/-- the nodes of a forest -/
structure Grown (l : List ByteArray) (N : List Nd) : Prop where
 tm : ∀ x ∈ N, tame x.t
 kn : ∀ x ∈ N, x.t.kind = 1 ∨ 0 ≤ x.r
 rank : ∀ x ∈ N, x.r = rnk l x.t.name
 len : ∀ x ∈ N, x.ks.length = x.t.kids.length
 kid : ∀ (i : Nat) x, N[i]? = some x → ∀ (j : Nat) k, x.ks[j]? = some k → ∃ (m : Nat) (y : Nd), k = (m : Int) ∧ m < i ∧ N[m]? = some y ∧ x.t.kids[j]? = some y.t
 once : ∀ (i j : Nat) x y, N[i]? = some x → N[j]? = some y → x.t = y.t → i = j
theorem Grown.wf {l : List ByteArray} {N : List Nd} (h : Grown l N) : ∀ (n : Nat) (x : Nd), x ∈ N → sizeT x.t ≤ n → wfT x.t
 | 0, x, _, hn => by have := sizeT_kids x.t; omega
 | n + 1, x, hx, hn => by
   have h1 := (h.tm x hx).2.2.2.2
   have key : ∀ L : List Tm, (∀ t ∈ L, wfT t) → wfL L := by
    intro L
    induction L with
    | nil => intro _; rw [wfL]; trivial
    | cons t L ih => intro hL; rw [wfL]; exact ⟨hL t (by simp), ih (fun u hu => hL u (by simp [hu]))⟩
   obtain ⟨i, hi⟩ := List.mem_iff_getElem?.1 hx
   have h2 : wfL x.t.kids := key _ (fun t ht => by
    obtain ⟨j, hj⟩ := List.mem_iff_getElem?.1 ht
    have hl := h.len x hx
    have hjl := (List.getElem?_eq_some_iff.1 hj).1
    obtain ⟨m, y, -, -, hy, hk⟩ := h.kid i x hi j x.ks[j] (List.getElem?_eq_getElem (by omega))
    rw [hj] at hk
    cases hk
    have := size_kid ht
    exact Grown.wf h n y (List.mem_of_getElem? hy) (by omega))
   revert h1 h2
   cases x.t with
   | mk a b c d => intro h1 h2; rw [wfT]; exact ⟨h1, h2⟩
theorem Grown.nil (l : List ByteArray) : Grown l [] := ⟨by simp, by simp, by simp, by simp, by simp, by simp⟩
/-- the keys of a forest -/
def IdsOk (N : List Nd) (D : List UInt8 → Option Int) : Prop := ∀ s i, D s = some i ↔ ∃ (m : Nat) (x : Nd), i = (m : Int) ∧ N[m]? = some x ∧ keyN x = s
theorem Grown.ks_lt {l : List ByteArray} {N : List Nd} (h : Grown l N) {i : Nat} {x : Nd} (hx : N[i]? = some x) : ∀ k ∈ x.ks, 0 ≤ k ∧ k < N.length := by
 intro k hk
 obtain ⟨j, hj⟩ := List.mem_iff_getElem?.1 hk
 obtain ⟨m, y, rfl, h1, h2, -⟩ := h.kid i x hx j k hj
 have := (List.getElem?_eq_some_iff.1 h2).1
 omega
/-- numbers for the kids of a term -/
def KidsOk (N : List Nd) (ks : List Int) (T : List Tm) : Prop := ks.length = T.length ∧ ∀ (j : Nat) k, ks[j]? = some k → ∃ (m : Nat) (y : Nd), k = (m : Int) ∧ N[m]? = some y ∧ T[j]? = some y.t
theorem KidsOk.lt {N : List Nd} {ks : List Int} {T : List Tm} (h : KidsOk N ks T) : ∀ k ∈ ks, 0 ≤ k ∧ k < N.length := by
 intro k hk
 obtain ⟨j, hj⟩ := List.mem_iff_getElem?.1 hk
 obtain ⟨m, y, rfl, h2, -⟩ := h.2 j k hj
 have := (List.getElem?_eq_some_iff.1 h2).1
 omega
theorem KidsOk.mono {N M : List Nd} {ks : List Int} {T : List Tm} (h : KidsOk N ks T) (hM : N <+: M) : KidsOk M ks T := by
 obtain ⟨R, rfl⟩ := hM
 refine ⟨h.1, fun j k hj => ?_⟩
 obtain ⟨m, y, e, h2, h3⟩ := h.2 j k hj
 exact ⟨m, y, e, by rw [List.getElem?_append_left (List.getElem?_eq_some_iff.1 h2).1]; exact h2, h3⟩
theorem KidsOk.snoc {N : List Nd} {ks : List Int} {T : List Tm} {x : Nd} {m : Nat} {t : Tm} (h : KidsOk N ks T) (hm : N[m]? = some x) (ht : x.t = t) : KidsOk N (ks ++ [(m : Int)]) (T ++ [t]) := by
 refine ⟨by simp [h.1], fun j k hj => ?_⟩
 by_cases hl : j < ks.length
 · rw [List.getElem?_append_left hl] at hj
   obtain ⟨a, y, e, h2, h3⟩ := h.2 j k hj
   exact ⟨a, y, e, h2, by rw [List.getElem?_append_left (by rw [← h.1]; exact hl)]; exact h3⟩
 · rw [List.getElem?_append_right (by omega)] at hj
   have : j - ks.length = 0 := by have := (List.getElem?_eq_some_iff.1 hj).1; simp at this; omega
   rw [this] at hj
   simp at hj
   refine ⟨m, x, hj.symm, hm, ?_⟩
   rw [List.getElem?_append_right (by rw [← h.1]; omega), ← h.1, this, ht]; rfl
theorem KidsOk.same {N : List Nd} {l : List ByteArray} (hG : Grown l N) {ks ms : List Int} {T : List Tm} (h : KidsOk N ks T) (k : KidsOk N ms T) : ks = ms := by
 refine List.ext_getElem? fun j => ?_
 by_cases hj : j < ks.length
 · have hj' : j < ms.length := by rw [k.1, ← h.1]; exact hj
   obtain ⟨a, y, e, h2, h3⟩ := h.2 j _ (List.getElem?_eq_getElem hj)
   obtain ⟨b, z, e', k2, k3⟩ := k.2 j _ (List.getElem?_eq_getElem hj')
   rw [h3] at k3
   have := hG.once a b y z h2 k2 (Option.some.inj k3)
   rw [List.getElem?_eq_getElem hj, List.getElem?_eq_getElem hj', e, e', this]
 · rw [List.getElem?_eq_none (by omega), List.getElem?_eq_none (by have := h.1; have := k.1; omega)]
/-- a term that is looked up: it is there, or it is new -/
theorem forest_look {l : List ByteArray} {N : List Nd} {D : List UInt8 → Option Int} {t : Tm} {ks : List Int} (hG : Grown l N) (hD : IdsOk N D) (hN : N.length ≤ 100) (ht : tame t) (hk : KidsOk N ks t.kids) :
 (∃ (m : Nat) (x : Nd), D (keyL t.kind t.sort t.name.data.toList ks) = some (m : Int) ∧ N[m]? = some x ∧ x.t = t) ∨
 (D (keyL t.kind t.sort t.name.data.toList ks) = none ∧ ∀ x ∈ N, x.t ≠ t) := by
 have h100 : ∀ i ∈ ks, 0 ≤ i ∧ i < 100 := fun i hi => by have := hk.lt i hi; omega
 cases hd : D (keyL t.kind t.sort t.name.data.toList ks) with
 | some i =>
   left
   obtain ⟨m, x, rfl, h1, h2⟩ := (hD _ _).1 hd
   have hx := hG.tm x (List.mem_of_getElem? h1)
   have h3 : ∀ i ∈ x.ks, 0 ≤ i ∧ i < 100 := fun i hi => by have := hG.ks_lt h1 i hi; omega
   obtain ⟨e1, e2, e3, e4⟩ := keyL_inj hx.1 hx.2.1 ht.1 ht.2.1 hx.2.2.1 ht.2.2.1 h3 h100 h2
   refine ⟨m, x, rfl, h1, ?_⟩
   have e5 : x.t.kids = t.kids := by
    refine List.ext_getElem? fun j => ?_
    have hl := hG.len x (List.mem_of_getElem? h1)
    by_cases hj : j < ks.length
    · obtain ⟨a, y, f1, f2, f3⟩ := hk.2 j _ (List.getElem?_eq_getElem hj)
      obtain ⟨b, z, g1, -, g2, g3⟩ := hG.kid m x h1 j ks[j] (by rw [e4]; exact List.getElem?_eq_getElem hj)
      rw [f1] at g1
      have : a = b := by omega
      subst this
      rw [f2] at g2
      cases g2
      rw [g3, f3]
    · have := hk.1
      rw [List.getElem?_eq_none (by rw [← hl, e4]; omega), List.getElem?_eq_none (by omega)]
   have e3' : x.t.name = t.name := ByteArray.ext (Array.ext' e3)
   revert e1 e2 e3' e5
   cases x.t; cases t
   simp only [Tm.kind, Tm.sort, Tm.name, Tm.kids]
   rintro rfl rfl rfl rfl
   rfl
 | none =>
   right
   refine ⟨rfl, fun x hx e => ?_⟩
   subst e
   obtain ⟨m, hm⟩ := List.mem_iff_getElem?.1 hx
   have hk' : KidsOk N x.ks x.t.kids := ⟨hG.len x hx, fun j k hj => by
    obtain ⟨a, y, f1, -, f2, f3⟩ := hG.kid m x hm j k hj
    exact ⟨a, y, f1, f2, f3⟩⟩
   have := hk.same hG hk'
   subst this
   have := (hD _ (m : Int)).2 ⟨m, x, rfl, hm, rfl⟩
   unfold keyN at this
   rw [hd] at this
   cases this
/-- a new term is put behind the others -/
theorem Grown.snoc {l : List ByteArray} {N : List Nd} {t : Tm} {ks : List Int} (hG : Grown l N) (ht : tame t) (hr : t.kind = 1 ∨ 0 ≤ rnk l t.name) (hk : KidsOk N ks t.kids) (hn : ∀ x ∈ N, x.t ≠ t) : Grown l (N ++ [⟨t, rnk l t.name, ks⟩]) := by
 have get : ∀ {i : Nat} {x : Nd}, (N ++ [⟨t, rnk l t.name, ks⟩])[i]? = some x → N[i]? = some x ∨ i = N.length ∧ x = ⟨t, rnk l t.name, ks⟩ := by
  intro i x h
  by_cases hl : i < N.length
  · rw [List.getElem?_append_left hl] at h; exact .inl h
  · rw [List.getElem?_append_right (by omega)] at h
    have : i - N.length = 0 := by have := (List.getElem?_eq_some_iff.1 h).1; simp at this; omega
    rw [this] at h
    simp at h
    exact .inr ⟨by omega, h.symm⟩
 have old : ∀ {m : Nat} {y : Nd}, N[m]? = some y → (N ++ [⟨t, rnk l t.name, ks⟩])[m]? = some y := fun h => by
  rw [List.getElem?_append_left (List.getElem?_eq_some_iff.1 h).1]; exact h
 have mem : ∀ {x : Nd}, x ∈ N ++ [⟨t, rnk l t.name, ks⟩] → x ∈ N ∨ x = ⟨t, rnk l t.name, ks⟩ := fun h => by simpa using h
 refine ⟨?_, ?_, ?_, ?_, ?_, ?_⟩
 · intro x hx; rcases mem hx with h | rfl
   · exact hG.tm x h
   · exact ht
 · intro x hx; rcases mem hx with h | rfl
   · exact hG.kn x h
   · exact hr
 · intro x hx; rcases mem hx with h | rfl
   · exact hG.rank x h
   · rfl
 · intro x hx; rcases mem hx with h | rfl
   · exact hG.len x h
   · exact hk.1
 · intro i x hx j k hj
   rcases get hx with h | ⟨rfl, rfl⟩
   · obtain ⟨m, y, e, h1, h2, h3⟩ := hG.kid i x h j k hj
     exact ⟨m, y, e, h1, old h2, h3⟩
   · obtain ⟨m, y, e, h2, h3⟩ := hk.2 j k hj
     exact ⟨m, y, e, (List.getElem?_eq_some_iff.1 h2).1, old h2, h3⟩
 · intro i j x y hx hy e
   rcases get hx with h | ⟨rfl, rfl⟩ <;> rcases get hy with h' | ⟨rfl, rfl⟩
   · exact hG.once i j x y h h' e
   · exact absurd e (hn x (List.mem_of_getElem? h))
   · exact absurd e.symm (hn y (List.mem_of_getElem? h'))
   · rfl
theorem IdsOk.snoc {l : List ByteArray} {N : List Nd} {D : List UInt8 → Option Int} {x : Nd} (hD : IdsOk N D) (hn : D (keyN x) = none) : IdsOk (N ++ [x]) (fun s => if s = keyN x then some (N.length : Int) else D s) := by
 intro s i
 constructor
 · intro h
   by_cases e : s = keyN x
   · simp only [e, if_true] at h
     cases h
     exact ⟨N.length, x, rfl, by simp, e.symm⟩
   · simp only [e, if_false] at h
     obtain ⟨m, y, e1, e2, e3⟩ := (hD s i).1 h
     exact ⟨m, y, e1, by rw [List.getElem?_append_left (List.getElem?_eq_some_iff.1 e2).1]; exact e2, e3⟩
 · rintro ⟨m, y, rfl, h1, h2⟩
   by_cases hl : m < N.length
   · rw [List.getElem?_append_left hl] at h1
     have := (hD s m).2 ⟨m, y, rfl, h1, h2⟩
     have hne : s ≠ keyN x := fun e => by rw [e, hn] at this; cases this
     simp only [hne, if_false]
     exact this
   · rw [List.getElem?_append_right (by omega)] at h1
     have e0 : m - N.length = 0 := by have := (List.getElem?_eq_some_iff.1 h1).1; simp at this; omega
     rw [e0] at h1
     simp at h1
     subst h1
     have hm : m = N.length := by omega
     simp only [h2.symm, if_true, hm]
theorem IdsOk.none : IdsOk [] (fun _ => none) := fun s i => by simp
mutual
theorem tame_of_err : ∀ {t : Tm}, errT t = 0 → tameT t ∧ wfT t
 | .mk k n s l, h => by
   rw [errT, orE_zero] at h
   obtain ⟨h1, h2⟩ := h
   have h3 := tame_of_errL h2
   unfold nodeE at h1
   split at h1
   · cases h1
   · rename_i a1
     split at h1
     · cases h1
     · rename_i a2
       rw [tameT, wfT]
       have a1 := Classical.not_not.1 a1
       have hk : (k = 1 → l = []) := fun e => by
        rcases a1 with ⟨-, -, -, a⟩ | ⟨a, -⟩
        · exact List.length_eq_zero_iff.1 a
        · omega
       refine ⟨⟨⟨by simp only [Tm.kind]; omega, by simp only [Tm.sort]; omega, ?_, (of_decide_eq_true (show nameOk n = true by simpa using a2)).2.1, hk⟩, h3.1⟩, hk, h3.2⟩
       have a2 : nameOk n = true := by simpa using a2
       unfold nameOk at a2
       rw [decide_eq_true_eq] at a2
       intro hb
       simp only [Tm.name] at hb
       obtain ⟨i, hi⟩ := List.mem_iff_getElem?.1 hb
       have hl : n.data.toList.length = n.size := Array.length_toList
       have hlt := (List.getElem?_eq_some_iff.1 hi).1
       have hok := a2.2.2 i (by omega)
       have e : n[i]'(by omega) = 32 := by
        have := (List.getElem?_eq_some_iff.1 hi).2
        rw [← this]; rfl
       rw [e] at hok
       have : okB i 32 = false := by
        unfold okB letterB digitB
        simp
       rw [this] at hok
       cases hok
theorem tame_of_errL : ∀ {l : List Tm}, errL l = 0 → tameL l ∧ wfL l
 | [], _ => by rw [tameL, wfL]; exact ⟨trivial, trivial⟩
 | t :: l, h => by
   rw [errL, orE_zero] at h
   have h1 := tame_of_err h.1
   have h2 := tame_of_errL h.2
   rw [tameL, wfL]
   exact ⟨⟨h1.1, h2.1⟩, h1.2, h2.2⟩
end

end Go.Proofs.YtkobikdkbpdjeaaDoor
