/- Regions that draw their order: each operation of a head leaves what was there alone and either has one value, whenever it runs, or makes one new block; a tail in one forced order follows. One walk in the order of the text serves. -/
import Derived.Test.YthoelnoahfedmaaBase
import Derived.StillTail
namespace Go.Proofs.Ythoelnoahfedmaa
open Go Go.RowKit
set_option linter.unusedVariables false

/-- in every world of S the operation has the value v, and changes nothing that was there -/
def calmUpon (P : Program) (w : World) (v : Value) : Result Next → Prop
  | .ok (.value u) w' => w' = w ∧ u = v
  | .ok .skip w' => w' = w ∧ v = undef
  | .ok (.enter f args) w' => w' = w ∧ Calls P f args w (fun e w'' => e = .returned v ∧ Ext w w'')
  | _ => False
def calmOp (P : Program) (o : Oper) (a : Act) (S : World → Prop) (v : Value) : Prop := ∀ w, S w → calmUpon P w v ((execOp a.eval o).run P w)
/-- in every world of S the operation makes the block ob, and has the value mk of its number -/
def freshOp (P : Program) (o : Oper) (a : Act) (S : World → Prop) (mk : Nat → Value) (ob : Obj) : Prop := ∀ w, S w → (execOp a.eval o).run P w = .ok (.value (mk w.heap.size)) (w.alloc ob)

def wpCalm (P : Program) (ops : Array Oper) (S : World → Prop) (Q : ((Nat → Nat) → Act) → List (Nat × Obj) → Prop) : Nat → List Oper → ((Nat → Nat) → Act) → List (Nat × Obj) → Prop
  | _, [], A, fs => Q A fs
  | k, o :: rest, A, fs =>
    ((∀ g, Region.wanted o (yielded ops (A g).tmps) = false) ∧ wpCalm P ops S Q (k + 1) rest (fun g => (A g).put o.dst undef) fs) ∨
    ((∀ g, Region.wanted o (yielded ops (A g).tmps) = true) ∧
      ((∃ v, (∀ g, calmOp P o (A g) S v) ∧ wpCalm P ops S Q (k + 1) rest (fun g => (A g).put o.dst v) fs) ∨
       (∃ mk ob, (∀ g, freshOp P o (A g) S mk ob) ∧ wpCalm P ops S Q (k + 1) rest (fun g => (A g).put o.dst (mk (g k))) ((k, ob) :: fs))))

section
variable {P : Program} {ops : Array Oper} {S : World → Prop} {Q : ((Nat → Nat) → Act) → List (Nat × Obj) → Prop} {k : Nat} {o : Oper} {rest : List Oper} {A : (Nat → Nat) → Act} {fs : List (Nat × Obj)}

theorem calm_skip (hw : ∀ g, Region.wanted o (yielded ops (A g).tmps) = false) (h : wpCalm P ops S Q (k + 1) rest (fun g => (A g).put o.dst undef) fs) : wpCalm P ops S Q k (o :: rest) A fs := .inl ⟨hw, h⟩
theorem calm_value (hw : ∀ g, Region.wanted o (yielded ops (A g).tmps) = true) (v : Value) (hv : ∀ g w, S w → (execOp (A g).eval o).run P w = .ok (.value v) w) (h : wpCalm P ops S Q (k + 1) rest (fun g => (A g).put o.dst v) fs) : wpCalm P ops S Q k (o :: rest) A fs :=
  .inr ⟨hw, .inl ⟨v, fun g w hS => by rw [hv g w hS]; exact ⟨rfl, rfl⟩, h⟩⟩
theorem calm_call (hw : ∀ g, Region.wanted o (yielded ops (A g).tmps) = true) (f : FuncId) (args : Array Value) (v : Value) (he : ∀ g w, S w → (execOp (A g).eval o).run P w = .ok (.enter f args) w) (hv : ∀ w, S w → Calls P f args w (fun e w'' => e = .returned v ∧ Ext w w''))
    (h : wpCalm P ops S Q (k + 1) rest (fun g => (A g).put o.dst v) fs) : wpCalm P ops S Q k (o :: rest) A fs :=
  .inr ⟨hw, .inl ⟨v, fun g w hS => by rw [he g w hS]; exact ⟨rfl, hv w hS⟩, h⟩⟩
theorem calm_call' (hw : ∀ g, Region.wanted o (yielded ops (A g).tmps) = true) (f : FuncId) (args : Array Value) (he : ∀ g w, S w → (execOp (A g).eval o).run P w = .ok (.enter f args) w)
    (h : ∃ v, (∀ w, S w → Calls P f args w (fun e w'' => e = .returned v ∧ Ext w w'')) ∧ wpCalm P ops S Q (k + 1) rest (fun g => (A g).put o.dst v) fs) : wpCalm P ops S Q k (o :: rest) A fs :=
  let ⟨v, hv, h⟩ := h
  calm_call hw f args v he hv h
theorem calm_fresh (hw : ∀ g, Region.wanted o (yielded ops (A g).tmps) = true) (mk : Nat → Value) (ob : Obj) (hv : ∀ g w, S w → (execOp (A g).eval o).run P w = .ok (.value (mk w.heap.size)) (w.alloc ob))
    (h : wpCalm P ops S Q (k + 1) rest (fun g => (A g).put o.dst (mk (g k))) ((k, ob) :: fs)) : wpCalm P ops S Q k (o :: rest) A fs :=
  .inr ⟨hw, .inr ⟨mk, ob, fun g w hS => hv g w hS, h⟩⟩
end

/-- what is known of an operation of the head: the value that it puts, and the block that it makes -/
def OkOp (P : Program) (ops : Array Oper) (S : World → Prop) (i : Nat) (o : Oper) (A : (Nat → Nat) → Act) (val : (Nat → Nat) → Value) (ob : Option Obj) : Prop :=
  ((∀ g, Region.wanted o (yielded ops (A g).tmps) = false) ∧ (∀ g, val g = undef) ∧ ob = none) ∨
  ((∀ g, Region.wanted o (yielded ops (A g).tmps) = true) ∧
    ((∃ v, (∀ g, val g = v) ∧ ob = none ∧ ∀ g, calmOp P o (A g) S v) ∨ (∃ mk b, (∀ g, val g = mk (g i)) ∧ ob = some b ∧ ∀ g, freshOp P o (A g) S mk b)))

/-- the frames, from the first one on -/
def frames (l : List Oper) (val : Nat → (Nat → Nat) → Value) (A : (Nat → Nat) → Act) : Nat → (Nat → Nat) → Act
  | 0 => A
  | i + 1 => fun g => (frames l val A i g).put ((l[i]?).bind (·.dst)) (val i g)

theorem frames_shift (o : Oper) (l : List Oper) (val : Nat → (Nat → Nat) → Value) (A : (Nat → Nat) → Act) : ∀ i, frames (o :: l) val A (i + 1) = frames l (fun j => val (j + 1)) (fun g => (A g).put o.dst (val 0 g)) i
  | 0 => rfl
  | i + 1 => by
    have := frames_shift o l val A i
    simp only [frames] at this ⊢
    funext g
    rw [← congrFun this g]
    simp

/-- the blocks that the operations of the head make -/
def obs (k : Nat) (ob : Nat → Option Obj) (n : Nat) : List (Nat × Obj) := (List.range n).filterMap fun i => (ob i).map fun b => (k + i, b)

theorem calm_specs {P : Program} {ops : Array Oper} {S : World → Prop} {Q : ((Nat → Nat) → Act) → List (Nat × Obj) → Prop} : ∀ (l : List Oper) (k : Nat) (A : (Nat → Nat) → Act) (fs : List (Nat × Obj)), wpCalm P ops S Q k l A fs →
    ∃ (val : Nat → (Nat → Nat) → Value) (ob : Nat → Option Obj) (fs' : List (Nat × Obj)), (∀ i o, l[i]? = some o → OkOp P ops S (k + i) o (frames l val A i) (val i) (ob i)) ∧ Q (frames l val A l.length) fs' ∧
      (∀ p, p ∈ fs' ↔ p ∈ fs ∨ ∃ i, i < l.length ∧ p.1 = k + i ∧ ob i = some p.2) ∧ ((fs.map (·.1)).Nodup → (∀ p ∈ fs, p.1 < k) → (fs'.map (·.1)).Nodup)
  | [], k, A, fs, h => ⟨fun _ _ => undef, fun _ => none, fs, by simp, h, by simp, fun hn _ => hn⟩
  | o :: l, k, A, fs, h => by
    have key : ∀ (v0 : (Nat → Nat) → Value) (ob0 : Option Obj) (fs1 : List (Nat × Obj)), OkOp P ops S k o A v0 ob0 → wpCalm P ops S Q (k + 1) l (fun g => (A g).put o.dst (v0 g)) fs1 →
        (∀ p, p ∈ fs1 ↔ p ∈ fs ∨ p.1 = k ∧ ob0 = some p.2) → ((fs.map (·.1)).Nodup → (∀ p ∈ fs, p.1 < k) → (fs1.map (·.1)).Nodup ∧ ∀ p ∈ fs1, p.1 < k + 1) →
        ∃ (val : Nat → (Nat → Nat) → Value) (ob : Nat → Option Obj) (fs' : List (Nat × Obj)), (∀ i o', (o :: l)[i]? = some o' → OkOp P ops S (k + i) o' (frames (o :: l) val A i) (val i) (ob i)) ∧ Q (frames (o :: l) val A (o :: l).length) fs' ∧
          (∀ p, p ∈ fs' ↔ p ∈ fs ∨ ∃ i, i < (o :: l).length ∧ p.1 = k + i ∧ ob i = some p.2) ∧ ((fs.map (·.1)).Nodup → (∀ p ∈ fs, p.1 < k) → (fs'.map (·.1)).Nodup) := by
      intro v0 ob0 fs1 hok hrest hmem hnd
      obtain ⟨val, ob, fs', h1, h2, h3, h4⟩ := calm_specs l (k + 1) _ fs1 hrest
      refine ⟨fun i => match i with | 0 => v0 | j + 1 => val j, fun i => match i with | 0 => ob0 | j + 1 => ob j, fs', ?_, ?_, ?_, ?_⟩
      · intro i o' ho'
        cases i with
        | zero =>
          simp only [List.getElem?_cons_zero, Option.some.injEq] at ho'
          subst ho'
          exact hok
        | succ j =>
          rw [frames_shift]
          have := h1 j o' (by simpa using ho')
          rw [show k + 1 + j = k + (j + 1) by omega] at this
          exact this
      · rw [List.length_cons, frames_shift]
        exact h2
      · intro p
        rw [h3, hmem]
        constructor
        · rintro ((h | ⟨h, h'⟩) | ⟨i, hi, hp, ho⟩)
          · exact .inl h
          · exact .inr ⟨0, by simp, by simpa using h, h'⟩
          · exact .inr ⟨i + 1, by simp; omega, by omega, ho⟩
        · rintro (h | ⟨i, hi, hp, ho⟩)
          · exact .inl (.inl h)
          · cases i with
            | zero => exact .inl (.inr ⟨by simpa using hp, ho⟩)
            | succ j => exact .inr ⟨j, by simp at hi; omega, by omega, ho⟩
      · intro hn hlt
        obtain ⟨a, b⟩ := hnd hn hlt
        exact h4 a b
    rcases h with ⟨hw, h⟩ | ⟨hw, ⟨v, hv, h⟩ | ⟨mk, b, hv, h⟩⟩
    · exact key (fun _ => undef) none fs (.inl ⟨hw, fun _ => rfl, rfl⟩) h (by simp) (fun a b => ⟨a, fun p hp => by have := b p hp; omega⟩)
    · exact key (fun _ => v) none fs (.inr ⟨hw, .inl ⟨v, fun _ => rfl, rfl, hv⟩⟩) h (by simp) (fun a b => ⟨a, fun p hp => by have := b p hp; omega⟩)
    · refine key (fun g => mk (g k)) (some b) ((k, b) :: fs) (.inr ⟨hw, .inr ⟨mk, b, fun _ => rfl, rfl, hv⟩⟩) h ?_ ?_
      · intro p
        obtain ⟨p1, p2⟩ := p
        simp only [List.mem_cons, Prod.mk.injEq, Option.some.injEq]
        constructor
        · rintro (⟨rfl, rfl⟩ | h)
          · exact .inr ⟨rfl, rfl⟩
          · exact .inl h
        · rintro (h | ⟨rfl, rfl⟩)
          · exact .inr h
          · exact .inl ⟨rfl, rfl⟩
      · intro hn hlt
        refine ⟨?_, fun p hp => ?_⟩
        · simp only [List.map_cons, List.nodup_cons]
          refine ⟨fun hmem => ?_, hn⟩
          obtain ⟨p, hp, he⟩ := List.mem_map.1 hmem
          have := hlt p hp
          omega
        · rcases List.mem_cons.1 hp with rfl | hp
          · simp
          · have := hlt p hp; omega

def headListed (m n : Nat) : Array Bool := ((List.range m).map fun i => decide (i < n)).toArray

def calmB (ops : Array Oper) (n : Nat) : Bool :=
  Region.noSelect ops && decide (n ≤ ops.size) && (decide (n = ops.size) || (Region.sinkB .any ops n && Region.chainB .any ops n)) &&
  Region.seqB .any ops (ops.size - n) n (headListed ops.size n) &&
  (List.range n).all fun i => match ops[i]? with
    | none => false
    | some o => o.after.all (fun e => !Region.binds .any e || decide (e.on < i)) &&
      (o.looksAt ops).all (fun t => (List.range n).all fun j => !(((ops[j]?).bind (·.dst)) == some t) || (decide (j < i) && o.after.any (fun e => Region.binds .any e && e.on == j))) &&
      (List.range i).all (fun j => o.dst == none || ((ops[j]?).bind (·.dst)) != o.dst)

theorem OkOp.local {P : Program} {ops : Array Oper} {S : World → Prop} {i : Nat} {o : Oper} {A : (Nat → Nat) → Act} {val : (Nat → Nat) → Value} {ob : Option Obj} (h : OkOp P ops S i o A val ob) {g g' : Nat → Nat} (e : g i = g' i) : val g = val g' := by
  rcases h with ⟨_, h, _⟩ | ⟨_, ⟨v, h, _⟩ | ⟨mk, b, h, _⟩⟩
  · rw [h, h]
  · rw [h, h]
  · rw [h, h, e]

theorem get_put (a : Act) (d : Option Tmp) (v : Value) (t : Nat) : (a.put d v).tmps[t]? = if d = some t then a.tmps[t]?.map (fun _ => v) else a.tmps[t]? := by
  cases d with
  | none => simp [Act.put]
  | some d =>
    by_cases h : d = t
    · subst h
      simp only [Act.put, if_true]
      rcases Nat.lt_or_ge d a.tmps.size with h | h
      · simp [h]
      · simp [h]
    · rw [if_neg (by simpa using h)]
      simp [Act.put, Array.getElem?_setIfInBounds_ne h]

theorem defers_put (a : Act) (d : Option Tmp) (v : Value) : (a.put d v).defers = a.defers := by cases d <;> rfl

theorem frames_defers (l : List Oper) (val : Nat → (Nat → Nat) → Value) (a0 : Act) (g : Nat → Nat) : ∀ m, (frames l val (fun _ => a0) m g).defers = a0.defers
  | 0 => rfl
  | m + 1 => by simp only [frames, defers_put]; exact frames_defers l val a0 g m

theorem frames_other {l : List Oper} {val : Nat → (Nat → Nat) → Value} {a0 : Act} {g : Nat → Nat} {t : Nat} : ∀ {m}, (∀ i, i < m → (l[i]?).bind (·.dst) ≠ some t) → (frames l val (fun _ => a0) m g).tmps[t]? = a0.tmps[t]?
  | 0, _ => rfl
  | m + 1, h => by
    simp only [frames, get_put]
    rw [if_neg (h m (by omega))]
    exact frames_other (fun i hi => h i (by omega))

theorem frames_at {l : List Oper} {val : Nat → (Nat → Nat) → Value} {a0 : Act} {g : Nat → Nat} {t i : Nat} (hi : (l[i]?).bind (·.dst) = some t) : ∀ {m}, i < m → (∀ j, j < m → j ≠ i → (l[j]?).bind (·.dst) ≠ some t) → (frames l val (fun _ => a0) m g).tmps[t]? = a0.tmps[t]?.map (fun _ => val i g)
  | 0, h, _ => by omega
  | m + 1, h, hd => by
    simp only [frames, get_put]
    by_cases hm : m = i
    · subst hm
      rw [if_pos hi, frames_other (fun j hj => hd j (by omega) (by omega))]
    · rw [if_neg (hd m (by omega) hm)]
      exact frames_at hi (by omega) (fun j hj => hd j (by omega))

theorem execOp_same {ops : Array Oper} (o : Oper) (hs : ∀ cs b, o.op ≠ .select cs b) {a a' : Act} (h : ∀ t, t ∈ o.looksAt ops → a.tmps[t]? = a'.tmps[t]?) : execOp a.eval o = execOp a'.eval o :=
  execOp_congr o hs fun x hx => by
    cases x with
    | tmp t =>
      have := h t (List.mem_append_left _ (List.mem_filterMap.2 ⟨.tmp t, by simpa using hx, rfl⟩))
      simp only [Act.eval, Array.getD_eq_getD_getElem?, this]
    | _ => rfl

theorem wanted_same {ops : Array Oper} (o : Oper) {a a' : Act} (h : ∀ t, t ∈ o.looksAt ops → a.tmps[t]? = a'.tmps[t]?) : Region.wanted o (yielded ops a.tmps) = Region.wanted o (yielded ops a'.tmps) := by
  unfold Region.wanted
  cases hg : o.guard with
  | none => rfl
  | some gw =>
    obtain ⟨g, want⟩ := gw
    have hy : yielded ops a.tmps g = yielded ops a'.tmps g := by
      unfold yielded
      cases ht : (ops[g]?).bind (·.dst) with
      | none => rfl
      | some t =>
        have := h t (by simp [Oper.looksAt, hg, ht])
        simp only [Option.bind_some, this]
    simp only [hy]

def FreshOk (B : Nat) (fs : List (Nat × Obj)) (g : Nat → Nat) (w : World) : Prop :=
  B ≤ w.heap.size ∧ (∀ p ∈ fs, w.heap[g p.1]? = some p.2 ∧ B ≤ g p.1) ∧ fs.Pairwise fun p q => g p.1 ≠ g q.1

structure CalmJ (S : World → Prop) (ops : Array Oper) (n B : Nat) (a0 : Act) (val : Nat → (Nat → Nat) → Value) (ob : Nat → Option Obj) (listed : Array Bool) (a : Act) (w : World) (g : Nat → Nat) : Prop where
  s : S w
  size : B ≤ w.heap.size
  defers : a.defers = a0.defers
  at_ : ∀ i, i < n → listed.getD i false = true → ∀ t, (ops[i]?).bind (·.dst) = some t → a.tmps[t]? = a0.tmps[t]?.map (fun _ => val i g)
  other : ∀ t, (∀ i, i < n → listed.getD i false = true → (ops[i]?).bind (·.dst) ≠ some t) → a.tmps[t]? = a0.tmps[t]?
  fresh : ∀ i, i < n → listed.getD i false = true → ∀ b, ob i = some b → w.heap[g i]? = some b ∧ B ≤ g i
  apart : ∀ i j, i < n → j < n → listed.getD i false = true → listed.getD j false = true → i ≠ j → (ob i).isSome → (ob j).isSome → g i ≠ g j

section
variable {P : Program} {S : World → Prop} {ops : Array Oper} {n B : Nat} {a0 : Act} {val : Nat → (Nat → Nat) → Value} {ob : Nat → Option Obj} {listed : Array Bool} {a : Act} {w : World} {g : Nat → Nat}

/-- what the Bool says of an operation of the head -/
structure CalmCond (ops : Array Oper) (n i : Nat) (o : Oper) : Prop where
  before : ∀ e ∈ o.after, Region.binds .any e = true → e.on < i
  reads : ∀ t ∈ o.looksAt ops, ∀ j, j < n → (ops[j]?).bind (·.dst) = some t → j < i ∧ ∃ e ∈ o.after, Region.binds .any e = true ∧ e.on = j
  once : ∀ j, j < i → ∀ t, o.dst = some t → (ops[j]?).bind (·.dst) ≠ some t

theorem getD_set_self {listed : Array Bool} {i : Nat} (h : i < listed.size) : (listed.setIfInBounds i true).getD i false = true := by simp [h]

theorem CalmJ.put (J : CalmJ S ops n B a0 val ob listed a w g) {i : Nat} {o : Oper} (hn : i < n) (ho : ops[i]? = some o) (hlt : i < listed.size) (hun : listed.getD i false = false)
    (hc : ∀ i o, i < n → ops[i]? = some o → CalmCond ops n i o) (hloc : ∀ j, j < n → ∀ g g' : Nat → Nat, g j = g' j → val j g = val j g') {w' : World} {g' : Nat → Nat} (hg : ∀ j, j ≠ i → g' j = g j) (hS : S w') (he : Ext w w')
    (hf : ∀ b, ob i = some b → w'.heap[g' i]? = some b ∧ w.heap.size ≤ g' i) :
    CalmJ S ops n B a0 val ob (listed.setIfInBounds i true) (a.put o.dst (val i g')) w' g' := by
  have hlist : ∀ j, j ≠ i → (listed.setIfInBounds i true).getD j false = listed.getD j false := fun j h => getD_set_ne false (Ne.symm h)
  have hdist : ∀ j, j < n → j ≠ i → ∀ t, o.dst = some t → (ops[j]?).bind (·.dst) ≠ some t := by
    intro j hj hji t ht hjt
    rcases Nat.lt_or_ge j i with h | h
    · exact (hc i o hn ho).once j h t ht hjt
    · cases hoj : ops[j]? with
      | none => rw [hoj] at hjt; cases hjt
      | some oj =>
        rw [hoj] at hjt
        exact (hc j oj hj hoj).once i (by omega) t hjt (by rw [ho]; exact ht)
  refine ⟨hS, Nat.le_trans J.size he.size, by rw [defers_put]; exact J.defers, ?_, ?_, ?_, ?_⟩
  · intro j hj hl t ht
    rw [get_put]
    by_cases hji : j = i
    · subst hji
      have hd : o.dst = some t := by rw [ho] at ht; exact ht
      rw [if_pos hd]
      have : a.tmps[t]? = a0.tmps[t]? := J.other t (fun k hk hlk hkt => by
        by_cases hkj : k = j
        · subst hkj; rw [hun] at hlk; cases hlk
        · exact hdist k hk hkj t hd hkt)
      rw [this]
    · rw [if_neg (fun hd => hdist j hj hji t hd ht), J.at_ j hj (by rw [hlist j hji] at hl; exact hl) t ht, hloc j hj g' g (hg j hji)]
  · intro t ht
    rw [get_put]
    have h1 : o.dst ≠ some t := fun hd => ht i hn (getD_set_self hlt) (by rw [ho]; exact hd)
    rw [if_neg h1]
    exact J.other t (fun j hj hl => by
      by_cases hji : j = i
      · subst hji; rw [hun] at hl; cases hl
      · exact ht j hj (by rw [hlist j hji]; exact hl))
  · intro j hj hl b hb
    by_cases hji : j = i
    · subst hji
      obtain ⟨h1, h2⟩ := hf b hb
      exact ⟨h1, Nat.le_trans J.size h2⟩
    · rw [hlist j hji] at hl
      obtain ⟨h1, h2⟩ := J.fresh j hj hl b hb
      rw [hg j hji]
      exact ⟨hs_ext he h1, h2⟩
  · intro j k hj hk hlj hlk hjk hoj hok
    have old : ∀ j, j < n → j ≠ i → (listed.setIfInBounds i true).getD j false = true → (ob j).isSome → g' j < w.heap.size := by
      intro j hj hji hl ho
      rw [hlist j hji] at hl
      obtain ⟨b, hb⟩ := Option.isSome_iff_exists.1 ho
      rw [hg j hji]
      exact (Array.getElem?_eq_some_iff.1 (J.fresh j hj hl b hb).1).1
    by_cases hji : j = i
    · subst hji
      obtain ⟨b, hb⟩ := Option.isSome_iff_exists.1 hoj
      have h1 := (hf b hb).2
      have h2 := old k hk (Ne.symm hjk) hlk hok
      omega
    · by_cases hki : k = i
      · subst hki
        obtain ⟨b, hb⟩ := Option.isSome_iff_exists.1 hok
        have h1 := (hf b hb).2
        have h2 := old j hj hji hlj hoj
        omega
      · rw [hg j hji, hg k hki]
        exact J.apart j k hj hk (by rw [hlist j hji] at hlj; exact hlj) (by rw [hlist k hki] at hlk; exact hlk) hjk hoj hok

theorem CalmJ.step {Q : Exit → Act → World → Prop} {l : List Oper} (J : CalmJ S ops n B a0 val ob listed a w g) {i : Nat} {o : Oper} (hn : i < n) (ho : ops[i]? = some o) (hlt : i < listed.size) (hr : i ∈ Region.ready .any ops listed)
    (hns : n ≤ ops.size) (hnosel : ∀ cs b, o.op ≠ .select cs b) (hl : ∀ j, j < n → l[j]? = ops[j]?)
    (hSE : ∀ w w', S w → Ext w w' → S w')
    (hc : ∀ i o, i < n → ops[i]? = some o → CalmCond ops n i o) (hok : ∀ j o, j < n → ops[j]? = some o → OkOp P ops S j o (frames l val (fun _ => a0) j) (val j) (ob j))
    {K : Act → World → Prop} (hK : ∀ a' w' g', CalmJ S ops n B a0 val ob (listed.setIfInBounds i true) a' w' g' → K a' w') : wpOp P ops Q i K a w := by
  obtain ⟨hun', o', ho', hall⟩ := mem_ready.1 hr
  have : o' = o := Option.some.inj (ho'.symm.trans ho)
  subst this
  have hun : listed.getD i false = false := getD_both hun'
  have hloc : ∀ j, j < n → ∀ g g' : Nat → Nat, g j = g' j → val j g = val j g' := by
    intro j hj g g' e
    rcases Nat.lt_or_ge j ops.size with h | h
    · exact (hok j ops[j] hj (by simp [h])).local e
    · omega
  have hsame : ∀ t, t ∈ o'.looksAt ops → a.tmps[t]? = (frames l val (fun _ => a0) i g).tmps[t]? := by
    intro t ht
    by_cases hex : ∃ j, j < n ∧ (ops[j]?).bind (·.dst) = some t
    · obtain ⟨j, hj, hjt⟩ := hex
      obtain ⟨hji, e, he, hb, hon⟩ := (hc i o' hn ho).reads t ht j hj hjt
      have hlj := hall e he hb
      rw [hon] at hlj
      rw [J.at_ j hj hlj t hjt, frames_at (by rw [hl j hj]; exact hjt) hji (fun k hk hkj => ?_)]
      rw [hl k (by omega)]
      intro hkt
      rcases Nat.lt_or_ge k j with h | h
      · cases hoj : ops[j]? with
        | none => rw [hoj] at hjt; cases hjt
        | some oj => rw [hoj] at hjt; exact (hc j oj hj hoj).once k h t hjt hkt
      · cases hok' : ops[k]? with
        | none => rw [hok'] at hkt; cases hkt
        | some ok => rw [hok'] at hkt; exact (hc k ok (by omega) hok').once j (by omega) t hkt hjt
    · rw [J.other t (fun j hj _ hjt => hex ⟨j, hj, hjt⟩), frames_other (fun j hj hjt => hex ⟨j, by omega, by rw [← hl j (by omega)]; exact hjt⟩)]
  have hexec := execOp_same (ops := ops) o' hnosel hsame
  have hwant := wanted_same (ops := ops) o' hsame
  unfold wpOp
  simp only [ho]
  rcases hok i o' hn ho with ⟨hw, hv, hob⟩ | ⟨hw, ⟨v, hv, hob, hcalm⟩ | ⟨mk, b, hv, hob, hfr⟩⟩
  · rw [hwant, hw g, if_neg (by simp)]
    have := J.put hn ho hlt hun hc hloc (g' := g) (fun _ _ => rfl) J.s (Ext.refl w) (by rw [hob]; intro b hb; cases hb)
    rw [hv] at this
    exact hK _ _ _ this
  · rw [hwant, hw g, if_pos rfl]
    left
    have h1 := hcalm g w J.s
    unfold Oper.wp
    rw [hexec]
    have fin : ∀ w', Ext w w' → K (a.put o'.dst v) w' := fun w' he => by
      have := J.put hn ho hlt hun hc hloc (g' := g) (fun _ _ => rfl) (hSE _ _ J.s he) he (by rw [hob]; intro b hb; cases hb)
      rw [hv] at this
      exact hK _ _ _ this
    generalize (execOp (frames l val (fun _ => a0) i g).eval o').run P w = r at *
    cases r with
    | halt h w' => exact h1.elim
    | ok nx w' =>
      cases nx <;> simp only [calmUpon] at h1 <;> simp only [Oper.upon]
      case value u =>
        obtain ⟨rfl, rfl⟩ := h1
        exact fin _ (Ext.refl _)
      case skip =>
        obtain ⟨rfl, rfl⟩ := h1
        exact fin _ (Ext.refl _)
      case enter f args =>
        obtain ⟨rfl, h1⟩ := h1
        exact h1.mono fun e w'' ⟨he, hx⟩ => by subst he; exact fin _ hx
  · rw [hwant, hw g, if_pos rfl]
    left
    unfold Oper.wp
    rw [hexec, hfr g w J.s]
    simp only [Oper.upon]
    have := J.put hn ho hlt hun hc hloc (g' := fun j => if j = i then w.heap.size else g j) (w' := w.alloc b) (fun j hj => by simp [hj]) (hSE _ _ J.s (Ext.alloc w b)) (Ext.alloc w b)
      (by rw [hob]; intro b' hb; cases hb; exact ⟨by simp only [if_true]; exact hs_new, by simp⟩)
    rw [hv] at this
    simp only [if_true] at this
    exact hK _ _ _ this
theorem calm_any {Q : Exit → Act → World → Prop} {l : List Oper} {m : Nat} (hns : n ≤ ops.size) (hnosel : Region.noSelect ops = true) (htail : n = ops.size ∨ Region.sinkB .any ops n = true ∧ Region.chainB .any ops n = true) (hl : ∀ j, j < n → l[j]? = ops[j]?)
    (hSE : ∀ w w', S w → Ext w w' → S w')
    (hc : ∀ i o, i < n → ops[i]? = some o → CalmCond ops n i o) (hok : ∀ j o, j < n → ops[j]? = some o → OkOp P ops S j o (frames l val (fun _ => a0) j) (val j) (ob j))
    (hfin : ∀ a w g, CalmJ S ops n B a0 val ob (headListed ops.size n) a w g → wpAny P .any ops Q m (headListed ops.size n) a w) :
    ∀ (f : Nat) (rem : List Nat) (listed : Array Bool) (a : Act) (w : World) (g : Nat → Nat), rem.length = f → rem.Nodup → (∀ i, i ∈ rem ↔ i < n ∧ listed.getD i false = false) → HeadInv .any ops n listed →
      CalmJ S ops n B a0 val ob listed a w g → wpAny P .any ops Q (f + m) listed a w
  | 0, rem, listed, a, w, g, hf, _, hrem, inv, J => by
    have hr0 : rem = [] := List.length_eq_zero_iff.1 hf
    subst hr0
    have : listed = headListed ops.size n := by
      apply Array.ext_getElem?
      intro i
      rcases Nat.lt_or_ge i ops.size with h | h
      · have h1 : i < listed.size := by rw [inv.size]; exact h
        have e2 : (headListed ops.size n)[i]? = some (decide (i < n)) := by simp [headListed, h]
        rw [e2]
        by_cases hin : i < n
        · have := (hrem i)
          simp only [List.not_mem_nil, false_iff, not_and] at this
          have h2 := this hin
          simp [h1] at h2 ⊢
          simp [h2, hin]
        · have h2 := inv.tail i (by omega) h
          simp [h1] at h2 ⊢
          simp [h2, hin]
      · have h1 : listed.size ≤ i := by rw [inv.size]; exact h
        simp [headListed, h1, h]
    subst this
    rw [Nat.zero_add]
    exact hfin a w g J
  | f + 1, rem, listed, a, w, g, hf, hnd, hrem, inv, J => by
    obtain ⟨i0, hi0⟩ : ∃ i, i ∈ rem := by
      cases rem with
      | nil => cases hf
      | cons x r => exact ⟨x, by simp⟩
    have hready : ∀ j, j ∈ Region.ready .any ops listed → j < n := by
      intro j hj
      rcases Nat.lt_or_ge j n with h | h
      · exact h
      · obtain ⟨h1, h2⟩ := (hrem i0).1 hi0
        rcases htail with ht | ⟨hs, hch⟩
        · obtain ⟨_, o, ho, _⟩ := mem_ready.1 hj
          have := (Array.getElem?_eq_some_iff.1 ho).1
          omega
        · have hnlt : n < ops.size := by
            obtain ⟨_, o, ho, _⟩ := mem_ready.1 hj
            have := (Array.getElem?_eq_some_iff.1 ho).1
            omega
          exact absurd hj (tail_waits hs hch hnlt inv _ i0 rfl h1 (getD_in (by rw [inv.size]; omega) h2) j h)
    have hne : Region.ready .any ops listed ≠ [] := by
      -- the least operation of the head that is left is ready
      have hmin : ∀ (d i : Nat), i = d → i ∈ rem → ∃ j, j ∈ Region.ready .any ops listed := by
        intro d
        induction d using Nat.strongRecOn with
        | _ d ih =>
          intro i hd hi
          obtain ⟨h1, h2⟩ := (hrem i).1 hi
          obtain ⟨o, ho⟩ : ∃ o, ops[i]? = some o := ⟨ops[i]'(by omega), by simp [show i < ops.size by omega]⟩
          by_cases hall : ∀ e ∈ o.after, Region.binds .any e = true → listed.getD e.on false = true
          · exact ⟨i, mem_ready.2 ⟨getD_in (by rw [inv.size]; omega) h2, o, ho, hall⟩⟩
          · obtain ⟨e, he, hb, hne⟩ : ∃ e, e ∈ o.after ∧ Region.binds .any e = true ∧ ¬ listed.getD e.on false = true := by
              apply Classical.byContradiction
              intro hno
              exact hall fun e he hb => Classical.byContradiction fun hx => hno ⟨e, he, hb, hx⟩
            have hlt := (hc i o h1 ho).before e he hb
            exact ih e.on (by omega) e.on rfl ((hrem e.on).2 ⟨by omega, by simpa using hne⟩)
      obtain ⟨j, hj⟩ := hmin i0 i0 rfl hi0
      intro h0; rw [h0] at hj; cases hj
    rw [show f + 1 + m = (f + m) + 1 by omega]
    refine ⟨fun h0 => absurd h0 hne, fun i hi => ?_⟩
    have hin := hready i hi
    obtain ⟨hun, o, ho, _⟩ := mem_ready.1 hi
    have hsz : i < listed.size := by rw [inv.size]; exact (Array.getElem?_eq_some_iff.1 ho).1
    refine J.step hin ho hsz hi hns (fun cs b => Region.noSelect_spec hnosel i o cs b ho) hl hSE hc hok (fun a' w' g' J' => ?_)
    have hmem : i ∈ rem := (hrem i).2 ⟨hin, getD_both hun⟩
    refine calm_any hns hnosel htail hl hSE hc hok hfin f (rem.erase i) _ a' w' g' (by rw [List.length_erase_of_mem hmem]; omega) (hnd.erase i) (fun j => ?_) (inv.set hi hin) J'
    rw [hnd.mem_erase_iff, hrem]
    by_cases hji : j = i
    · subst hji
      simp [hsz]
    · rw [getD_set_ne false (Ne.symm hji)]
      simp [hji]
end

theorem calmB_cond {ops : Array Oper} {n : Nat} (h : calmB ops n = true) : ∀ i o, i < n → ops[i]? = some o → CalmCond ops n i o := by
  intro i o hi ho
  simp only [calmB, Bool.and_eq_true, List.all_eq_true, List.mem_range] at h
  have h1 := h.2 i hi
  simp only [ho, Bool.and_eq_true, Array.all_eq_true_iff_forall_mem, List.all_eq_true, List.mem_range] at h1
  obtain ⟨⟨h2, h3⟩, h4⟩ := h1
  refine ⟨fun e he hb => ?_, fun t ht j hj hjt => ?_, fun j hj t ht hjt => ?_⟩
  · have := h2 e he
    simpa [hb] using this
  · have := h3 t ht j hj
    rw [hjt] at this
    simp only [beq_self_eq_true, Bool.not_true, Bool.false_or, Bool.and_eq_true, decide_eq_true_eq] at this
    refine ⟨this.1, ?_⟩
    obtain ⟨e, he, hb⟩ := Array.any_eq_true'.1 this.2
    simp only [Bool.and_eq_true, beq_iff_eq] at hb
    exact ⟨e, he, hb.1, hb.2⟩
  · have := h4 j hj
    rw [ht] at this
    rw [hjt] at this
    simp at this

/-- A REGION THAT DRAWS ITS ORDER: one walk in the order of the text. -/
theorem wp_region_calm {P : Program} {id : Nat} {Q : Exit → Act → World → Prop} {a : Act} {w : World} {l : List Oper} (n : Nat) (S : World → Prop) (hm : P.follows .mixedOrders = true) (hB : calmB l.toArray n = true)
    (hSE : ∀ w w', S w → Ext w w' → S w') (hS : S w.drew)
    (h : wpCalm P l.toArray S (fun A fs => ∀ g w', S w' → FreshOk w.heap.size fs g w' → wpList P l.toArray Q (l.drop n) (A g) w') 0 (l.take n) (fun _ => a) []) : (Code.region id l.toArray true).wp P Q a w := by
  have hc := calmB_cond hB
  simp only [calmB, Bool.and_eq_true, decide_eq_true_eq, Bool.or_eq_true] at hB
  obtain ⟨⟨⟨⟨hnosel, hns⟩, htail⟩, hseq⟩, -⟩ := hB
  obtain ⟨val, ob, fs', hok, hQ, hmem, hnd⟩ := calm_specs _ _ _ _ h
  have hns' : n ≤ l.length := by simpa using hns
  have hlen : (l.take n).length = n := by simp; omega
  have hl : ∀ j, j < n → (l.take n)[j]? = l.toArray[j]? := fun j hj => by simp [hj]
  rw [hlen] at hQ
  refine wp_region_any hm ?_
  have key := calm_any (P := P) (S := S) (ops := l.toArray) (n := n) (B := w.heap.size) (a0 := a) (val := val) (ob := ob) (Q := Q) (l := l.take n) (m := l.toArray.size - n) hns hnosel htail hl hSE hc
    (fun j o hj ho => by
      have := hok j o (by rw [hl j hj]; exact ho)
      rwa [Nat.zero_add] at this)
    (fun a' w' g J => by
      have hfr : a' = frames (l.take n) val (fun _ => a) n g := by
        have h1 : a'.defers = (frames (l.take n) val (fun _ => a) n g).defers := by rw [J.defers, frames_defers]
        have hall : ∀ i, i < n → (headListed l.toArray.size n).getD i false = true := fun i hi => by
          have : i < l.length := by omega
          simp [headListed, hi, this]
        have h2 : a'.tmps = (frames (l.take n) val (fun _ => a) n g).tmps := by
          apply Array.ext_getElem?
          intro t
          by_cases hex : ∃ j, j < n ∧ (l.toArray[j]?).bind (·.dst) = some t
          · obtain ⟨j, hj, hjt⟩ := hex
            rw [J.at_ j hj (hall j hj) t hjt, frames_at (by rw [hl j hj]; exact hjt) hj (fun k hk hkj => ?_)]
            rw [hl k hk]
            intro hkt
            rcases Nat.lt_or_ge k j with h | h
            · cases hoj : l.toArray[j]? with
              | none => rw [hoj] at hjt; cases hjt
              | some oj => rw [hoj] at hjt; exact (hc j oj hj hoj).once k h t hjt hkt
            · cases hok' : l.toArray[k]? with
              | none => rw [hok'] at hkt; cases hkt
              | some ok => rw [hok'] at hkt; exact (hc k ok (by omega) hok').once j (by omega) t hkt hjt
          · rw [J.other t (fun j hj _ hjt => hex ⟨j, hj, hjt⟩), frames_other (fun j hj hjt => hex ⟨j, by omega, by rw [← hl j (by omega)]; exact hjt⟩)]
        cases a'; cases hF : frames (l.take n) val (fun _ => a) n g
        rw [hF] at h1 h2
        simp only at h1 h2
        rw [h1, h2]
      have hfresh : FreshOk w.heap.size fs' g w' := by
        have hi' : ∀ p ∈ fs', ∃ i, i < n ∧ p.1 = i ∧ ob i = some p.2 := fun p hp => by
          rcases (hmem p).1 hp with h | ⟨i, hi, hpi, ho⟩
          · cases h
          · exact ⟨i, by rw [hlen] at hi; exact hi, by omega, ho⟩
        have hall : ∀ i, i < n → (headListed l.toArray.size n).getD i false = true := fun i hi => by
          have : i < l.length := by omega
          simp [headListed, hi, this]
        refine ⟨J.size, fun p hp => ?_, ?_⟩
        · obtain ⟨i, hi, hpi, ho⟩ := hi' p hp
          rw [hpi]
          exact J.fresh i hi (hall i hi) _ ho
        · have h1 := hnd (by simp) (by simp)
          unfold List.Nodup at h1
          rw [List.pairwise_map] at h1
          refine h1.imp_of_mem (fun {p q} hp hq hpq => ?_)
          obtain ⟨i, hi, hpi, ho⟩ := hi' p hp
          obtain ⟨j, hj, hqj, ho'⟩ := hi' q hq
          rw [hpi, hqj]
          rw [hpi, hqj] at hpq
          exact J.apart i j hi hj (hall i hi) (hall j hj) hpq (by rw [ho]; rfl) (by rw [ho']; rfl)
      have hw := hQ g w' J.s hfresh
      rw [← hfr] at hw
      have hdl : (l.drop n).length = l.toArray.size - n := by simp
      rw [← hdl] at hseq ⊢
      exact wpAny_of_seq (l.drop n) n _ _ _ (fun j => by simp) hseq hw)
    n (List.range n) (Array.replicate l.toArray.size false) a w.drew (fun _ => 0) (by simp) List.nodup_range (fun i => by rw [getD_replicate_false]; simp)
    ⟨by simp, fun j oj _ hl => (by rw [getD_replicate_false] at hl; cases hl), fun t _ ht => getD_in (by simpa using ht) (getD_replicate_false _ _)⟩
    ⟨hS, Nat.le_refl _, rfl, fun i _ hl => (by rw [getD_replicate_false] at hl; cases hl), fun _ _ => rfl, fun i _ hl => (by rw [getD_replicate_false] at hl; cases hl), fun i _ _ _ hl => (by rw [getD_replicate_false] at hl; cases hl)⟩
  rw [show n + (l.toArray.size - n) = l.toArray.size by omega] at key
  exact key

#print axioms wp_region_calm

end Go.Proofs.Ythoelnoahfedmaa
