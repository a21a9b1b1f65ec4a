/- Regions that draw their order: one walk in the order of the text serves, where each operation of a head reads, calls, makes a block, or turns a map that an earlier operation of the head made. -/
import Derived.Test.YthoelnoahfedmaaCalm
import Derived.ChangeMaps4
namespace Go.Proofs.Ythoelnoahfedmaa
open Go Go.RowKit
set_option linter.unusedVariables false

/-- what an operation came to: the number of the block that it made, or its value -/
structure Gh where
  n : Nat
  v : Value
  deriving Inhabited
abbrev Ghs := Nat → Gh

def regUpon (P : Program) (w : World) (R : Value → World → Prop) : Result Next → Prop
  | .ok (.value u) w' => Ext w w' ∧ R u w'
  | .ok .skip w' => Ext w w' ∧ R undef w'
  | .ok (.enter f args) w' => Ext w w' ∧ Calls P f args w' (fun e w'' => ∃ u, e = .returned u ∧ Ext w' w'' ∧ R u w'')
  | _ => False

inductive RegD where
  | skip
  | value (v : Ghs → Value)
  | const (v : Value)
  | call (ψ : Value → World → Prop)
  | fresh (mk : Nat → Value) (ob : Ghs → Obj)
  | turn (p : Nat) (b b' : Ghs → Obj)
  | act

def RegD.val (d : RegD) (k : Nat) (g : Ghs) : Value :=
  match d with
  | .skip => undef
  | .value v => v g
  | .const v => v
  | .call _ => (g k).v
  | .fresh mk _ => mk (g k).n
  | .turn .. => undef
  | .act => (g k).v

structure RegSt where
  A : Ghs → Act
  fs : List (Nat × (Ghs → Obj))
  ts : List (Nat × (Ghs → Obj))
  ps : List (Nat × (Value → World → Prop))

def RegSt.next (s : RegSt) (d : RegD) (k : Nat) (dst : Option Tmp) : RegSt where
  A := fun g => (s.A g).put dst (d.val k g)
  fs := match d with | .fresh _ ob => (k, ob) :: s.fs | .turn p _ _ => s.fs.filter (fun q => !(q.1 == p)) | _ => s.fs
  ts := match d with | .turn p _ b' => (p, b') :: s.ts | _ => s.ts
  ps := match d with | .call ψ => (k, ψ) :: s.ps | _ => s.ps

/-- operation k waits for operation j -/
inductive Anc (ops : Array Oper) : Nat → Nat → Prop
  | one {j k : Nat} {o : Oper} {e : Edge} : ops[k]? = some o → e ∈ o.after → Region.binds .any e = true → e.on = j → Anc ops j k
  | step {j m k : Nat} {o : Oper} {e : Edge} : ops[k]? = some o → e ∈ o.after → Region.binds .any e = true → e.on = m → Anc ops j m → Anc ops j k

def ancB (ops : Array Oper) : Nat → Nat → Nat → Bool
  | 0, _, _ => false
  | f + 1, j, k => (ops[k]?).any fun o => o.after.any fun e => Region.binds .any e && (e.on == j || (decide (j < e.on) && ancB ops f j e.on))

theorem anc_of {ops : Array Oper} : ∀ (f : Nat) {j k : Nat}, ancB ops f j k = true → Anc ops j k
  | 0, _, _, h => by simp [ancB] at h
  | f + 1, j, k, h => by
    simp only [ancB, Option.any_eq_true, Array.any_eq_true', Bool.and_eq_true, Bool.or_eq_true, beq_iff_eq] at h
    obtain ⟨o, ho, e, he, hb, h | ⟨_, h⟩⟩ := h
    · exact .one ho he hb h
    · exact .step ho he hb rfl (anc_of f h)

def RegPre (ops : Array Oper) (ps : List (Nat × (Value → World → Prop))) (k : Nat) (g : Ghs) (w : World) : Prop := ∀ p ∈ ps, Anc ops p.1 k → p.2 (g p.1).v w

def MapStable (ψ : Value → World → Prop) : Prop := ∀ u w b es cl o, ψ u w → w.heap[b]? = some (.map es cl) → ψ u (ChangeMaps.setBlock w b o)
/-- an act: blocks from B on stay as they are -/
def ActExt (B : Nat) (w w' : World) : Prop := w.heap.size ≤ w'.heap.size ∧ ∀ b, B ≤ b → b < w.heap.size → w'.heap[b]? = w.heap[b]?
def Persist (tb : Bool) (B : Nat) (acts : List Nat) (ψ : Value → World → Prop) : Prop := (∀ u w w', ψ u w → Ext w w' → ψ u w') ∧ (tb = true → MapStable ψ) ∧ (acts ≠ [] → ∀ u w w', ψ u w → ActExt B w w' → ψ u w')
/-- how many acts may have run when operation k runs -/
def Phase (ops : Array Oper) (acts : List Nat) (k m : Nat) : Prop := (∀ i a, acts[i]? = some a → Anc ops a k → i < m) ∧ (∀ i a, acts[i]? = some a → Anc ops k a → m ≤ i)
theorem Phase.nil {ops : Array Oper} {k m : Nat} : Phase ops [] k m := ⟨fun i a h => by simp at h, fun i a h => by simp at h⟩
def RegFr (ops : Array Oper) (B : Nat) (fs : List (Nat × (Ghs → Obj))) (k : Nat) (g : Ghs) (w : World) : Prop := ∀ p ∈ fs, Anc ops p.1 k → w.heap[(g p.1).n]? = some (p.2 g) ∧ B ≤ (g p.1).n

def RegOk (P : Program) (ops : Array Oper) (I : List Value → World → Prop) (acts : List Nat) (B : Nat) (tb : Bool) (k : Nat) (o : Oper) (s : RegSt) : RegD → Prop
  | .skip => ∀ g, Region.wanted o (yielded ops (s.A g).tmps) = false
  | .value v => (∀ g, Region.wanted o (yielded ops (s.A g).tmps) = true) ∧ ∀ g w m, Phase ops acts k m → I ((acts.take m).map fun x => (g x).v) w → RegPre ops s.ps k g w → (execOp (s.A g).eval o).run P w = .ok (.value (v g)) w
  | .const v => (∀ g, Region.wanted o (yielded ops (s.A g).tmps) = true) ∧ ∀ g w m, Phase ops acts k m → I ((acts.take m).map fun x => (g x).v) w → RegPre ops s.ps k g w → regUpon P w (fun u _ => u = v) ((execOp (s.A g).eval o).run P w)
  | .call ψ => (∀ g, Region.wanted o (yielded ops (s.A g).tmps) = true) ∧ Persist tb B acts ψ ∧ ∀ g w m, Phase ops acts k m → I ((acts.take m).map fun x => (g x).v) w → RegPre ops s.ps k g w → regUpon P w ψ ((execOp (s.A g).eval o).run P w)
  | .fresh mk ob => (∀ g, Region.wanted o (yielded ops (s.A g).tmps) = true) ∧ ∀ g w m, Phase ops acts k m → I ((acts.take m).map fun x => (g x).v) w → RegPre ops s.ps k g w → (execOp (s.A g).eval o).run P w = .ok (.value (mk w.heap.size)) (w.alloc (ob g))
  | .turn p b b' => (∀ g, Region.wanted o (yielded ops (s.A g).tmps) = true) ∧ tb = true ∧ (p, b) ∈ s.fs ∧ Anc ops p k ∧ (∀ g, ∃ es cl, b g = .map es cl) ∧
      ∀ g w m, Phase ops acts k m → I ((acts.take m).map fun x => (g x).v) w → RegPre ops s.ps k g w → w.heap[(g p).n]? = some (b g) → ∃ x, (execOp (s.A g).eval o).run P w = .ok x (ChangeMaps.setBlock w (g p).n (b' g)) ∧ (x = .value undef ∨ x = .skip)
  | .act => (∀ g, Region.wanted o (yielded ops (s.A g).tmps) = true) ∧ tb = false ∧ ∃ i, acts[i]? = some k ∧
      ∀ g w, I ((acts.take i).map fun x => (g x).v) w → RegPre ops s.ps k g w → RegFr ops B s.fs k g w → B ≤ w.heap.size → ∃ x v w', (execOp (s.A g).eval o).run P w = .ok x w' ∧ (x = .value v ∨ x = .skip ∧ v = undef) ∧ ActExt B w w' ∧ I (((acts.take i).map fun x => (g x).v) ++ [v]) w'

def RegD.acts : RegD → Bool
  | .act => true
  | _ => false

def wpReg (P : Program) (ops : Array Oper) (I : List Value → World → Prop) (acts : List Nat) (B : Nat) (tb : Bool) (Q : RegSt → Prop) : Nat → List Oper → RegSt → Prop
  | _, [], s => Q s
  | k, o :: rest, s => ∃ d, RegOk P ops I acts B tb k o s d ∧ d.acts = acts.elem k ∧ wpReg P ops I acts B tb Q (k + 1) rest (s.next d k o.dst)

section
variable {P : Program} {ops : Array Oper} {I : List Value → World → Prop} {acts : List Nat} {B : Nat} {tb : Bool} {Q : RegSt → Prop} {k : Nat} {o : Oper} {rest : List Oper} {A : Ghs → Act} {fs ts : List (Nat × (Ghs → Obj))} {ps : List (Nat × (Value → World → Prop))}

theorem reg_skip (hw : ∀ g, Region.wanted o (yielded ops (A g).tmps) = false) (h : wpReg P ops I acts B tb Q (k + 1) rest ⟨fun g => (A g).put o.dst undef, fs, ts, ps⟩) (hk : false = acts.elem k := by rfl) : wpReg P ops I acts B tb Q k (o :: rest) ⟨A, fs, ts, ps⟩ :=
  ⟨.skip, hw, hk, h⟩
theorem reg_value (hw : ∀ g, Region.wanted o (yielded ops (A g).tmps) = true) (v : Ghs → Value) (hv : ∀ g w m, Phase ops acts k m → I ((acts.take m).map fun x => (g x).v) w → RegPre ops ps k g w → (execOp (A g).eval o).run P w = .ok (.value (v g)) w)
    (h : wpReg P ops I acts B tb Q (k + 1) rest ⟨fun g => (A g).put o.dst (v g), fs, ts, ps⟩) (hk : false = acts.elem k := by rfl) : wpReg P ops I acts B tb Q k (o :: rest) ⟨A, fs, ts, ps⟩ :=
  ⟨.value v, ⟨hw, hv⟩, hk, h⟩
theorem reg_const (hw : ∀ g, Region.wanted o (yielded ops (A g).tmps) = true) (f : FuncId) (args : Ghs → Array Value) (he : ∀ g w m, Phase ops acts k m → I ((acts.take m).map fun x => (g x).v) w → RegPre ops ps k g w → (execOp (A g).eval o).run P w = .ok (.enter f (args g)) w)
    (h : ∃ v, (∀ g w m, Phase ops acts k m → I ((acts.take m).map fun x => (g x).v) w → RegPre ops ps k g w → Calls P f (args g) w (fun e w'' => e = .returned v ∧ Ext w w'')) ∧ wpReg P ops I acts B tb Q (k + 1) rest ⟨fun g => (A g).put o.dst v, fs, ts, ps⟩) (hk : false = acts.elem k := by rfl) : wpReg P ops I acts B tb Q k (o :: rest) ⟨A, fs, ts, ps⟩ :=
  let ⟨v, hv, h⟩ := h
  ⟨.const v, ⟨hw, fun g w vs hm hE hp => by rw [he g w vs hm hE hp]; exact ⟨Ext.refl w, (hv g w vs hm hE hp).mono fun e w'' ⟨a, b⟩ => ⟨v, a, b, rfl⟩⟩⟩, hk, h⟩
theorem reg_call (hw : ∀ g, Region.wanted o (yielded ops (A g).tmps) = true) (f : FuncId) (args : Ghs → Array Value) (he : ∀ g w m, Phase ops acts k m → I ((acts.take m).map fun x => (g x).v) w → RegPre ops ps k g w → (execOp (A g).eval o).run P w = .ok (.enter f (args g)) w)
    (ψ : Value → World → Prop) (hp : Persist tb B acts ψ) (hv : ∀ g w m, Phase ops acts k m → I ((acts.take m).map fun x => (g x).v) w → RegPre ops ps k g w → Calls P f (args g) w (fun e w'' => ∃ u, e = .returned u ∧ Ext w w'' ∧ ψ u w''))
    (h : wpReg P ops I acts B tb Q (k + 1) rest ⟨fun g => (A g).put o.dst (g k).v, fs, ts, (k, ψ) :: ps⟩) (hk : false = acts.elem k := by rfl) : wpReg P ops I acts B tb Q k (o :: rest) ⟨A, fs, ts, ps⟩ :=
  ⟨.call ψ, ⟨hw, hp, fun g w vs hm hE hp => by rw [he g w vs hm hE hp]; exact ⟨Ext.refl w, hv g w vs hm hE hp⟩⟩, hk, h⟩
theorem reg_upon (hw : ∀ g, Region.wanted o (yielded ops (A g).tmps) = true) (ψ : Value → World → Prop) (hp : Persist tb B acts ψ) (hv : ∀ g w m, Phase ops acts k m → I ((acts.take m).map fun x => (g x).v) w → RegPre ops ps k g w → regUpon P w ψ ((execOp (A g).eval o).run P w))
    (h : wpReg P ops I acts B tb Q (k + 1) rest ⟨fun g => (A g).put o.dst (g k).v, fs, ts, (k, ψ) :: ps⟩) (hk : false = acts.elem k := by rfl) : wpReg P ops I acts B tb Q k (o :: rest) ⟨A, fs, ts, ps⟩ :=
  ⟨.call ψ, ⟨hw, hp, hv⟩, hk, h⟩
theorem reg_fresh (hw : ∀ g, Region.wanted o (yielded ops (A g).tmps) = true) (mk : Nat → Value) (ob : Ghs → Obj) (hv : ∀ g w m, Phase ops acts k m → I ((acts.take m).map fun x => (g x).v) w → RegPre ops ps k g w → (execOp (A g).eval o).run P w = .ok (.value (mk w.heap.size)) (w.alloc (ob g)))
    (h : wpReg P ops I acts B tb Q (k + 1) rest ⟨fun g => (A g).put o.dst (mk (g k).n), (k, ob) :: fs, ts, ps⟩) (hk : false = acts.elem k := by rfl) : wpReg P ops I acts B tb Q k (o :: rest) ⟨A, fs, ts, ps⟩ :=
  ⟨.fresh mk ob, ⟨hw, hv⟩, hk, h⟩
end

theorem reg_turn {P : Program} {ops : Array Oper} {I : List Value → World → Prop} {acts : List Nat} {B : Nat} {Q : RegSt → Prop} {k : Nat} {o : Oper} {rest : List Oper} {A : Ghs → Act} {fs ts : List (Nat × (Ghs → Obj))} {ps : List (Nat × (Value → World → Prop))}
    (hw : ∀ g, Region.wanted o (yielded ops (A g).tmps) = true) (p : Nat) (b b' : Ghs → Obj) (hm : (p, b) ∈ fs) (ha : Anc ops p k) (hb : ∀ g, ∃ es cl, b g = .map es cl)
    (hv : ∀ g w m, Phase ops acts k m → I ((acts.take m).map fun x => (g x).v) w → RegPre ops ps k g w → w.heap[(g p).n]? = some (b g) → ∃ x, (execOp (A g).eval o).run P w = .ok x (ChangeMaps.setBlock w (g p).n (b' g)) ∧ (x = .value undef ∨ x = .skip))
    (h : wpReg P ops I acts B true Q (k + 1) rest ⟨fun g => (A g).put o.dst undef, fs.filter (fun q => !(q.1 == p)), (p, b') :: ts, ps⟩) (hk : false = acts.elem k := by rfl) : wpReg P ops I acts B true Q k (o :: rest) ⟨A, fs, ts, ps⟩ :=
  ⟨.turn p b b', ⟨hw, rfl, hm, ha, hb, hv⟩, hk, h⟩

theorem reg_act {P : Program} {ops : Array Oper} {I : List Value → World → Prop} {acts : List Nat} {B : Nat} {Q : RegSt → Prop} {k : Nat} {o : Oper} {rest : List Oper} {A : Ghs → Act} {fs ts : List (Nat × (Ghs → Obj))} {ps : List (Nat × (Value → World → Prop))}
    (hw : ∀ g, Region.wanted o (yielded ops (A g).tmps) = true) (i : Nat) (hi : acts[i]? = some k)
    (hv : ∀ g w, I ((acts.take i).map fun x => (g x).v) w → RegPre ops ps k g w → RegFr ops B fs k g w → B ≤ w.heap.size → ∃ x v w', (execOp (A g).eval o).run P w = .ok x w' ∧ (x = .value v ∨ x = .skip ∧ v = undef) ∧ ActExt B w w' ∧ I (((acts.take i).map fun x => (g x).v) ++ [v]) w')
    (h : wpReg P ops I acts B false Q (k + 1) rest ⟨fun g => (A g).put o.dst (g k).v, fs, ts, ps⟩) (hk : true = acts.elem k := by rfl) : wpReg P ops I acts B false Q k (o :: rest) ⟨A, fs, ts, ps⟩ :=
  ⟨.act, ⟨hw, rfl, i, hi, hv⟩, hk, h⟩

/-- the states -/
def regSt (l : List Oper) (d : Nat → RegD) (s : RegSt) : Nat → RegSt
  | 0 => s
  | i + 1 => (regSt l d s i).next (d i) i ((l[i]?).bind (·.dst))

theorem reg_specs {P : Program} {ops : Array Oper} {I : List Value → World → Prop} {acts : List Nat} {B : Nat} {tb : Bool} {Q : RegSt → Prop} (L : List Oper) (s0 : RegSt) : ∀ (l : List Oper) (k : Nat) (d0 : Nat → RegD), (∀ j, l[j]? = L[k + j]?) → (∀ i o, i < k → L[i]? = some o → RegOk P ops I acts B tb i o (regSt L d0 s0 i) (d0 i) ∧ (d0 i).acts = acts.elem i) →
    wpReg P ops I acts B tb Q k l (regSt L d0 s0 k) → ∃ d : Nat → RegD, (∀ i o, i < k + l.length → L[i]? = some o → RegOk P ops I acts B tb i o (regSt L d s0 i) (d i) ∧ (d i).acts = acts.elem i) ∧ Q (regSt L d s0 (k + l.length))
  | [], k, d0, hl, hok, h => ⟨d0, by simpa using hok, by simpa [wpReg] using h⟩
  | o :: l, k, d0, hl, hok, h => by
    obtain ⟨dk, h1, h1a, h2⟩ := h
    have hk : L[k]? = some o := by have := hl 0; simpa using this.symm
    have hst : ∀ i, i ≤ k → regSt L (fun j => if j = k then dk else d0 j) s0 i = regSt L d0 s0 i := by
      intro i
      induction i with
      | zero => intro _; rfl
      | succ i ih =>
        intro hi
        simp only [regSt]
        rw [ih (by omega), if_neg (by omega)]
    obtain ⟨d, h3, h4⟩ := reg_specs L s0 l (k + 1) (fun j => if j = k then dk else d0 j) (fun j => by have := hl (j + 1); simpa [Nat.add_assoc, Nat.add_comm 1] using this)
      (fun i oi hi hoi => by
        rw [hst i (by omega)]
        by_cases hik : i = k
        · subst hik
          rw [hk] at hoi; cases hoi
          simp only [if_true]
          exact ⟨h1, h1a⟩
        · simp only [hik, if_false]
          exact hok i oi (by omega) hoi)
      (by simp only [regSt]; rw [hst k (Nat.le_refl k), hk]; simpa using h2)
    refine ⟨d, ?_, ?_⟩
    · intro i oi hi hoi
      exact h3 i oi (by simp at hi; omega) hoi
    · rw [show k + (o :: l).length = k + 1 + l.length by simp; omega]
      exact h4

section
variable {l : List Oper} {d : Nat → RegD} {s0 : RegSt} {a0 : Act}

theorem regA_defers (hs : ∀ g, s0.A g = a0) (g : Ghs) : ∀ m, ((regSt l d s0 m).A g).defers = a0.defers
  | 0 => by simp [regSt, hs]
  | m + 1 => by simp only [regSt, RegSt.next, defers_put]; exact regA_defers hs g m
theorem regA_other (hs : ∀ g, s0.A g = a0) {g : Ghs} {t : Nat} : ∀ {m}, (∀ i, i < m → (l[i]?).bind (·.dst) ≠ some t) → ((regSt l d s0 m).A g).tmps[t]? = a0.tmps[t]?
  | 0, _ => by simp [regSt, hs]
  | m + 1, h => by
    simp only [regSt, RegSt.next, get_put]
    rw [if_neg (h m (by omega))]
    exact regA_other hs (fun i hi => h i (by omega))
theorem regA_at (hs : ∀ g, s0.A g = a0) {g : Ghs} {t i : Nat} (hi : (l[i]?).bind (·.dst) = some t) : ∀ {m}, i < m → (∀ j, j < m → j ≠ i → (l[j]?).bind (·.dst) ≠ some t) → ((regSt l d s0 m).A g).tmps[t]? = a0.tmps[t]?.map (fun _ => (d i).val i g)
  | 0, h, _ => by omega
  | m + 1, h, hd => by
    simp only [regSt, RegSt.next, get_put]
    by_cases hm : m = i
    · subst hm
      rw [if_pos hi, regA_other hs (fun j hj => hd j (by omega) (by omega))]
    · rw [if_neg (hd m (by omega) hm)]
      exact regA_at hs hi (by omega) (fun j hj => hd j (by omega))

theorem regSt_ps (h0 : s0.ps = []) : ∀ m, ∀ p ∈ (regSt l d s0 m).ps, p.1 < m ∧ d p.1 = .call p.2
  | 0, p, hp => by simp [regSt, h0] at hp
  | m + 1, p, hp => by
    have ih := regSt_ps h0 m
    simp only [regSt, RegSt.next] at hp
    cases hd : d m <;> rw [hd] at hp <;> simp only [List.mem_cons] at hp
    case call ψ =>
      rcases hp with rfl | hp
      · exact ⟨by simp, hd⟩
      · have := ih p hp; exact ⟨by omega, this.2⟩
    all_goals (have := ih p hp; exact ⟨by omega, this.2⟩)

theorem regSt_fs (h0 : s0.fs = []) : ∀ m, (∀ k p b b', k < m → d k = .turn p b b' → p < k) → ∀ p ∈ (regSt l d s0 m).fs, p.1 < m ∧ (∃ mk, d p.1 = .fresh mk p.2) ∧ ∀ k, k < m → ∀ b b', d k ≠ .turn p.1 b b'
  | 0, _, p, hp => by simp [regSt, h0] at hp
  | m + 1, ht, p, hp => by
    have ih := regSt_fs h0 m (fun k p b b' hk => ht k p b b' (by omega))
    have old : p ∈ (regSt l d s0 m).fs → (∀ b b', d m ≠ .turn p.1 b b') → p.1 < m + 1 ∧ (∃ mk, d p.1 = .fresh mk p.2) ∧ ∀ k, k < m + 1 → ∀ b b', d k ≠ .turn p.1 b b' := fun hp hm => by
      obtain ⟨h1, h2, h3⟩ := ih p hp
      refine ⟨by omega, h2, fun k hk b b' => ?_⟩
      by_cases hkm : k = m
      · subst hkm; exact hm b b'
      · exact h3 k (by omega) b b'
    simp only [regSt, RegSt.next] at hp
    cases hd : d m <;> rw [hd] at hp <;> simp only [List.mem_cons, List.mem_filter] at hp
    case fresh mk ob =>
      rcases hp with rfl | hp
      · refine ⟨by simp, ⟨mk, hd⟩, fun k hk b b' hkt => ?_⟩
        have := ht k _ b b' hk hkt
        simp at this
        omega
      · exact old hp (fun b b' h => by rw [hd] at h; cases h)
    case turn q b b' =>
      refine old hp.1 (fun c c' h => ?_)
      rw [hd] at h
      cases h
      simp at hp
    all_goals exact old hp (fun b b' h => by rw [hd] at h; cases h)

theorem regSt_ts (h0 : s0.ts = []) : ∀ m, ∀ p ∈ (regSt l d s0 m).ts, ∃ k b, k < m ∧ d k = .turn p.1 b p.2
  | 0, p, hp => by simp [regSt, h0] at hp
  | m + 1, p, hp => by
    have ih := regSt_ts h0 m
    have old : p ∈ (regSt l d s0 m).ts → ∃ k b, k < m + 1 ∧ d k = .turn p.1 b p.2 := fun hp => by
      obtain ⟨k, b, h1, h2⟩ := ih p hp
      exact ⟨k, b, by omega, h2⟩
    simp only [regSt, RegSt.next] at hp
    cases hd : d m <;> rw [hd] at hp <;> simp only [List.mem_cons] at hp
    case turn q b b' =>
      rcases hp with rfl | hp
      · exact ⟨m, b, by omega, hd⟩
      · exact old hp
    all_goals exact old hp

theorem regSt_nodup (h0 : s0.fs = []) (h1 : s0.ts = []) : ∀ m, (∀ k p b b', k < m → d k = .turn p b b' → (p, b) ∈ (regSt l d s0 k).fs) → (∀ k p b b', k < m → d k = .turn p b b' → p < k) → (((regSt l d s0 m).fs ++ (regSt l d s0 m).ts).map (·.1)).Nodup
  | 0, _, _ => by simp [regSt, h0, h1]
  | m + 1, hin, ht => by
    have ih := regSt_nodup h0 h1 m (fun k p b b' hk => hin k p b b' (by omega)) (fun k p b b' hk => ht k p b b' (by omega))
    have hf := regSt_fs (l := l) (d := d) (s0 := s0) h0 m (fun k p b b' hk => ht k p b b' (by omega))
    have htt := regSt_ts (l := l) (d := d) (s0 := s0) h1 m
    simp only [regSt, RegSt.next]
    cases hd : d m <;> simp only <;> try exact ih
    case fresh mk ob =>
      simp only [List.cons_append, List.map_cons, List.nodup_cons]
      refine ⟨fun hmem => ?_, ih⟩
      obtain ⟨p, hp, he⟩ := List.mem_map.1 hmem
      rcases List.mem_append.1 hp with hp | hp
      · have := (hf p hp).1; omega
      · obtain ⟨k, b, hk, hkt⟩ := htt p hp
        have := ht k _ _ _ (by omega) hkt
        omega
    case turn q b b' =>
      have hq := hin m q b b' (by omega) hd
      rw [List.map_append, List.nodup_append] at ih ⊢
      obtain ⟨n1, n2, n3⟩ := ih
      refine ⟨(List.Sublist.map _ (List.filter_sublist)).nodup n1, ?_, ?_⟩
      · simp only [List.map_cons, List.nodup_cons]
        refine ⟨fun hmem => ?_, n2⟩
        exact n3 q (List.mem_map.2 ⟨_, hq, rfl⟩) q hmem rfl
      · intro x hx y hy
        obtain ⟨p, hp, rfl⟩ := List.mem_map.1 hx
        obtain ⟨hp, hpq⟩ := List.mem_filter.1 hp
        simp only [List.map_cons, List.mem_cons] at hy
        rcases hy with rfl | hy
        · simpa using hpq
        · exact n3 _ (List.mem_map.2 ⟨p, hp, rfl⟩) y hy
end

def Agree (listed : Array Bool) (g g' : Ghs) : Prop := ∀ i, listed.getD i false = true → g' i = g i

def RegFresh (B : Nat) (fs : List (Nat × (Ghs → Obj))) (g : Ghs) (w : World) : Prop :=
  B ≤ w.heap.size ∧ (∀ p ∈ fs, w.heap[(g p.1).n]? = some (p.2 g) ∧ B ≤ (g p.1).n) ∧ fs.Pairwise fun p q => (g p.1).n ≠ (g q.1).n

structure RegJ (I : List Value → World → Prop) (acts : List Nat) (B : Nat) (ops : Array Oper) (n : Nat) (a0 : Act) (d : Nat → RegD) (listed : Array Bool) (a : Act) (w : World) (g : Ghs) : Prop where
  lo : B ≤ w.heap.size
  inv : ∃ m, m ≤ acts.length ∧ (∀ i1 x, acts[i1]? = some x → (listed.getD x false = true ↔ i1 < m)) ∧ I ((acts.take m).map fun x => (g x).v) w
  defers : a.defers = a0.defers
  at_ : ∀ g', Agree listed g g' → ∀ i, i < n → listed.getD i false = true → ∀ t, (ops[i]?).bind (·.dst) = some t → a.tmps[t]? = a0.tmps[t]?.map (fun _ => (d i).val i g')
  other : ∀ t, (∀ i, i < n → listed.getD i false = true → (ops[i]?).bind (·.dst) ≠ some t) → a.tmps[t]? = a0.tmps[t]?
  fresh : ∀ g', Agree listed g g' → ∀ i, i < n → listed.getD i false = true → ∀ mk b, d i = .fresh mk b → B ≤ (g' i).n ∧ ∃ c, w.heap[(g' i).n]? = some c ∧
    ((∀ k, k < n → listed.getD k false = true → ∀ x y, d k ≠ .turn i x y) → c = b g') ∧ (∀ k, k < n → listed.getD k false = true → ∀ x y, d k = .turn i x y → c = y g')
  apart : ∀ i j, i < n → j < n → listed.getD i false = true → listed.getD j false = true → i ≠ j → ∀ mk b mk' b', d i = .fresh mk b → d j = .fresh mk' b' → (g i).n ≠ (g j).n
  facts : ∀ i, i < n → listed.getD i false = true → ∀ ψ, d i = .call ψ → ψ (g i).v w

theorem anc_listed {ops : Array Oper} {listed : Array Bool} (hcl : ∀ i, listed.getD i false = true → ∀ o, ops[i]? = some o → ∀ e ∈ o.after, Region.binds .any e = true → listed.getD e.on false = true)
    {j k : Nat} (h : Anc ops j k) : (∀ o, ops[k]? = some o → ∀ e ∈ o.after, Region.binds .any e = true → listed.getD e.on false = true) → listed.getD j false = true := by
  induction h with
  | one ho he hb hon => intro hk; rw [← hon]; exact hk _ ho _ he hb
  | step ho he hb hon _ ih => intro hk; exact ih (fun o' ho' e' he' hb' => hcl _ (by rw [← hon]; exact hk _ ho _ he hb) o' ho' e' he' hb')

theorem reg_turned_block {w : World} {b k : Nat} {o : Obj} (hk : k ≠ b) : (ChangeMaps.setBlock w b o).heap[k]? = w.heap[k]? := by
  simp only [ChangeMaps.setBlock]
  rw [Array.setIfInBounds_def]
  split
  · rw [Array.getElem?_set_ne _ (fun h => hk h.symm)]
  · rfl
theorem reg_turned_same {w : World} {b : Nat} {o o' : Obj} (h : w.heap[b]? = some o') : (ChangeMaps.setBlock w b o).heap[b]? = some o := by
  have := (Array.getElem?_eq_some_iff.1 h).1
  simp [ChangeMaps.setBlock, this]
theorem reg_turned_ext {W w : World} {b : Nat} {o : Obj} (h : Ext W w) (hb : W.heap.size ≤ b) : Ext W (ChangeMaps.setBlock w b o) :=
  ⟨h.os, h.tape, h.output, by simpa [ChangeMaps.setBlock] using h.size, fun k hk => by rw [reg_turned_block (by omega)]; exact Ext.block h hk⟩

section
variable {P : Program} {ops : Array Oper} {n : Nat} {I : List Value → World → Prop} {acts : List Nat} {B : Nat} {tb : Bool} {a0 : Act} {d : Nat → RegD} {listed : Array Bool} {a : Act} {w : World} {g : Ghs}

theorem RegJ.put (J : RegJ I acts B ops n a0 d listed a w g) {i : Nat} {o : Oper} (hn : i < n) (ho : ops[i]? = some o) (hlt : i < listed.size) (hun : listed.getD i false = false)
    (hc : ∀ i o, i < n → ops[i]? = some o → CalmCond ops n i o) {w' : World} {g' : Ghs} (hg : ∀ j, j ≠ i → g' j = g j) {V : Value} (hV : ∀ g'', Agree (listed.setIfInBounds i true) g' g'' → (d i).val i g'' = V) (hS : B ≤ w'.heap.size) (hinv : ∃ m, m ≤ acts.length ∧ (∀ i1 x, acts[i1]? = some x → ((listed.setIfInBounds i true).getD x false = true ↔ i1 < m)) ∧ I ((acts.take m).map fun x => (g' x).v) w')
    (hfresh : ∀ g'', Agree (listed.setIfInBounds i true) g' g'' → ∀ j, j < n → (listed.setIfInBounds i true).getD j false = true → ∀ mk b, d j = .fresh mk b → B ≤ (g'' j).n ∧ ∃ c, w'.heap[(g'' j).n]? = some c ∧
      ((∀ k, k < n → (listed.setIfInBounds i true).getD k false = true → ∀ x y, d k ≠ .turn j x y) → c = b g'') ∧ (∀ k, k < n → (listed.setIfInBounds i true).getD k false = true → ∀ x y, d k = .turn j x y → c = y g''))
    (hold : ∀ j, j < n → j ≠ i → listed.getD j false = true → ∀ mk b, d j = .fresh mk b → ∀ mk' b', d i = .fresh mk' b' → (g j).n ≠ (g' i).n)
    (hfacts : ∀ j, j < n → (listed.setIfInBounds i true).getD j false = true → ∀ ψ, d j = .call ψ → ψ (g' j).v w') :
    RegJ I acts B ops n a0 d (listed.setIfInBounds i true) (a.put o.dst V) w' g' := by
  have hlist : ∀ j, j ≠ i → (listed.setIfInBounds i true).getD j false = listed.getD j false := fun j h => getD_set_ne false (Ne.symm h)
  have hdist : ∀ j, j < n → j ≠ i → ∀ t, o.dst = some t → (ops[j]?).bind (·.dst) ≠ some t := by
    intro j hj hji t ht hjt
    rcases Nat.lt_or_ge j i with h | h
    · exact (hc i o hn ho).once j h t ht hjt
    · cases hoj : ops[j]? with
      | none => rw [hoj] at hjt; cases hjt
      | some oj =>
        rw [hoj] at hjt
        exact (hc j oj hj hoj).once i (by omega) t hjt (by rw [ho]; exact ht)
  have hag : ∀ g'', Agree (listed.setIfInBounds i true) g' g'' → Agree listed g g'' := fun g'' h j hj => by
    have hji : j ≠ i := fun e => by subst e; rw [hun] at hj; cases hj
    rw [h j (by rw [hlist j hji]; exact hj), hg j hji]
  refine ⟨hS, hinv, by rw [defers_put]; exact J.defers, ?_, ?_, hfresh, ?_, hfacts⟩
  · intro g'' hag' j hj hl t ht
    rw [get_put]
    by_cases hji : j = i
    · subst hji
      have hd : o.dst = some t := by rw [ho] at ht; exact ht
      rw [if_pos hd]
      have : a.tmps[t]? = a0.tmps[t]? := J.other t (fun k hk hlk hkt => by
        by_cases hkj : k = j
        · subst hkj; rw [hun] at hlk; cases hlk
        · exact hdist k hk hkj t hd hkt)
      rw [this, hV g'' hag']
    · rw [if_neg (fun hd => hdist j hj hji t hd ht), J.at_ g'' (hag g'' hag') j hj (by rw [hlist j hji] at hl; exact hl) t ht]
  · intro t ht
    rw [get_put]
    have h1 : o.dst ≠ some t := fun hd => ht i hn (getD_set_self hlt) (by rw [ho]; exact hd)
    rw [if_neg h1]
    exact J.other t (fun j hj hl => by
      by_cases hji : j = i
      · subst hji; rw [hun] at hl; cases hl
      · exact ht j hj (by rw [hlist j hji]; exact hl))
  · intro j k hj hk hlj hlk hjk mk b mk' b' hdj hdk
    by_cases hji : j = i
    · subst hji
      have hkj : k ≠ j := fun e => hjk e.symm
      rw [hg k hkj]
      exact fun e => hold k hk hkj (by rw [hlist k hkj] at hlk; exact hlk) _ _ hdk _ _ hdj e.symm
    · by_cases hki : k = i
      · subst hki
        rw [hg j hji]
        exact hold j hj hji (by rw [hlist j hji] at hlj; exact hlj) _ _ hdj _ _ hdk
      · rw [hg j hji, hg k hki]
        exact J.apart j k hj hk (by rw [hlist j hji] at hlj; exact hlj) (by rw [hlist k hki] at hlk; exact hlk) hjk _ _ _ _ hdj hdk

theorem RegJ.inv_keep (J : RegJ I acts B ops n a0 d listed a w g) {i : Nat} (hna : acts.elem i = false) {w' : World} {g' : Ghs} (hg : ∀ j, j ≠ i → g' j = g j) (hI : ∀ vs, I vs w → I vs w') :
    ∃ m, m ≤ acts.length ∧ (∀ i1 x, acts[i1]? = some x → ((listed.setIfInBounds i true).getD x false = true ↔ i1 < m)) ∧ I ((acts.take m).map fun x => (g' x).v) w' := by
  obtain ⟨m, h1, h2, h3⟩ := J.inv
  have hne : ∀ x ∈ acts, x ≠ i := fun x hx e => by subst e; simp at hna; exact hna hx
  refine ⟨m, h1, fun i' x hx => ?_, ?_⟩
  · rw [getD_set_ne false (Ne.symm (hne x (List.mem_of_getElem? hx)))]
    exact h2 i' x hx
  · rw [List.map_congr_left (g := fun x => (g x).v) (fun x hx => by rw [hg x (hne x (List.mem_of_mem_take hx))])]
    exact hI _ h3

/-- an operation that makes no block and turns none -/
theorem RegJ.put_ext (J : RegJ I acts B ops n a0 d listed a w g) {i : Nat} {o : Oper} (hn : i < n) (ho : ops[i]? = some o) (hlt : i < listed.size) (hun : listed.getD i false = false)
    (hc : ∀ i o, i < n → ops[i]? = some o → CalmCond ops n i o) (hper : ∀ j ψ, j < n → d j = .call ψ → Persist tb B acts ψ) (hna : acts.elem i = false) (hIE : ∀ vs w w', I vs w → Ext w w' → I vs w') (hnf : ∀ mk b, d i ≠ .fresh mk b) (hnt : ∀ p x y, d i ≠ .turn p x y)
    {w' : World} {g' : Ghs} (hg : ∀ j, j ≠ i → g' j = g j) {V : Value} (hV : ∀ g'', Agree (listed.setIfInBounds i true) g' g'' → (d i).val i g'' = V) (hE : Ext w w') (hf : ∀ ψ, d i = .call ψ → ψ (g' i).v w') :
    RegJ I acts B ops n a0 d (listed.setIfInBounds i true) (a.put o.dst V) w' g' := by
  have hlist : ∀ j, j ≠ i → (listed.setIfInBounds i true).getD j false = listed.getD j false := fun j h => getD_set_ne false (Ne.symm h)
  refine J.put hn ho hlt hun hc hg hV (Nat.le_trans J.lo hE.size) (J.inv_keep hna hg (fun vs h => hIE _ _ _ h hE)) ?_ (fun j _ _ _ _ _ _ mk' b' h => absurd h (hnf mk' b')) ?_
  · intro g'' hag j hj hl mk b hdj
    have hji : j ≠ i := fun e => by subst e; exact hnf _ _ hdj
    have hag' : Agree listed g g'' := fun k hk => by
      have hki : k ≠ i := fun e => by subst e; rw [hun] at hk; cases hk
      rw [hag k (by rw [hlist k hki]; exact hk), hg k hki]
    obtain ⟨h1, c, h2, h3, h4⟩ := J.fresh g'' hag' j hj (by rw [hlist j hji] at hl; exact hl) mk b hdj
    refine ⟨h1, c, hs_ext hE h2, fun h => h3 (fun k hk hlk => h k hk ?_), fun k hk hlk x y hkt => h4 k hk ?_ x y hkt⟩
    · by_cases hki : k = i
      · subst hki; rw [hun] at hlk; cases hlk
      · rw [hlist k hki]; exact hlk
    · have hki : k ≠ i := fun e => by subst e; exact hnt _ _ _ hkt
      rw [hlist k hki] at hlk; exact hlk
  · intro j hj hl ψ hdj
    by_cases hji : j = i
    · subst hji; exact hf ψ hdj
    · rw [hg j hji]
      exact (hper j ψ hj hdj).1 _ _ _ (J.facts j hj (by rw [hlist j hji] at hl; exact hl) ψ hdj) hE

theorem RegJ.step {Q : Exit → Act → World → Prop} {l : List Oper} {s0 : RegSt} (hs0 : s0 = ⟨fun _ => a0, [], [], []⟩) (J : RegJ I acts B ops n a0 d listed a w g) {i : Nat} {o : Oper} (hn : i < n) (ho : ops[i]? = some o) (hlt : i < listed.size) (hr : i ∈ Region.ready .any ops listed)
    (hns : n ≤ ops.size) (hnosel : ∀ cs b, o.op ≠ .select cs b) (hl : ∀ j, j < n → l[j]? = ops[j]?) (hcl : ∀ j oj, ops[j]? = some oj → listed.getD j false = true → ∀ e ∈ oj.after, Region.binds .any e = true → listed.getD e.on false = true)
    (hc : ∀ i o, i < n → ops[i]? = some o → CalmCond ops n i o) (hok : ∀ j o, j < n → ops[j]? = some o → RegOk P ops I acts B tb j o (regSt l d s0 j) (d j)) (hacts : ∀ j, j < n → (d j).acts = acts.elem j) (hIE : ∀ vs w w', I vs w → Ext w w' → I vs w') (hIT : tb = true → ∀ vs w b o, I vs w → B ≤ b → I vs (ChangeMaps.setBlock w b o))
    (hnd : acts.Nodup) (hch : ∀ i x y, acts[i]? = some x → acts[i + 1]? = some y → Anc ops x y)
    {K : Act → World → Prop} (hK : ∀ a' w' g', RegJ I acts B ops n a0 d (listed.setIfInBounds i true) a' w' g' → K a' w') : wpOp P ops Q i K a w := by
  obtain ⟨hun', o', ho', hall⟩ := mem_ready.1 hr
  have : o' = o := Option.some.inj (ho'.symm.trans ho)
  subst this
  have hun : listed.getD i false = false := getD_both hun'
  have hlist : ∀ j, j ≠ i → (listed.setIfInBounds i true).getD j false = listed.getD j false := fun j h => getD_set_ne false (Ne.symm h)
  have hanc : ∀ j, Anc ops j i → listed.getD j false = true := fun j hj => anc_listed (fun j hj oj hoj => hcl j oj hoj hj) hj (fun o'' ho'' e he hb => by rw [ho'] at ho''; cases ho''; exact hall e he hb)
  have hlistedanc : ∀ k j, listed.getD k false = true → Anc ops j k → listed.getD j false = true := fun k j hk hj => anc_listed (fun j hj oj hoj => hcl j oj hoj hj) hj (fun o'' ho'' e he hb => hcl k o'' ho'' hk e he hb)
  have hps0 : s0.ps = [] := by rw [hs0]
  have hfs0 : s0.fs = [] := by rw [hs0]
  have hA0 : ∀ g, s0.A g = a0 := by intro g; rw [hs0]
  have hget : ∀ j, j < n → ∃ oj, ops[j]? = some oj := fun j hj => ⟨ops[j]'(by omega), by simp [show j < ops.size by omega]⟩
  have hper : ∀ j ψ, j < n → d j = .call ψ → Persist tb B acts ψ := fun j ψ hj hdj => by
    obtain ⟨oj, hoj⟩ := hget j hj
    have := hok j oj hj hoj
    rw [hdj] at this
    exact this.2.1
  have hag : ∀ (g' g'' : Ghs), (∀ j, j ≠ i → g' j = g j) → Agree (listed.setIfInBounds i true) g' g'' → Agree listed g g'' := fun g' g'' hg h j hj => by
    have hji : j ≠ i := fun e => by subst e; rw [hun] at hj; cases hj
    rw [h j (by rw [hlist j hji]; exact hj), hg j hji]
  have hsame : ∀ g'', Agree listed g g'' → ∀ t, t ∈ o'.looksAt ops → a.tmps[t]? = ((regSt l d s0 i).A g'').tmps[t]? := by
    intro g'' hg'' t ht
    by_cases hex : ∃ j, j < n ∧ (ops[j]?).bind (·.dst) = some t
    · obtain ⟨j, hj, hjt⟩ := hex
      obtain ⟨hji, e, he, hb, hon⟩ := (hc i o' hn ho).reads t ht j hj hjt
      have hlj := hall e he hb
      rw [hon] at hlj
      rw [J.at_ g'' hg'' j hj hlj t hjt, regA_at hA0 (by rw [hl j hj]; exact hjt) hji (fun k hk hkj => ?_)]
      rw [hl k (by omega)]
      intro hkt
      rcases Nat.lt_or_ge k j with h | h
      · cases hoj : ops[j]? with
        | none => rw [hoj] at hjt; cases hjt
        | some oj => rw [hoj] at hjt; exact (hc j oj hj hoj).once k h t hjt hkt
      · cases hok' : ops[k]? with
        | none => rw [hok'] at hkt; cases hkt
        | some ok => rw [hok'] at hkt; exact (hc k ok (by omega) hok').once j (by omega) t hkt hjt
    · rw [J.other t (fun j hj _ hjt => hex ⟨j, hj, hjt⟩), regA_other hA0 (fun j hj hjt => hex ⟨j, by omega, by rw [← hl j (by omega)]; exact hjt⟩)]
  have hexec : ∀ g'', Agree listed g g'' → execOp a.eval o' = execOp ((regSt l d s0 i).A g'').eval o' := fun g'' h => execOp_same (ops := ops) o' hnosel (hsame g'' h)
  have hwant := wanted_same (ops := ops) o' (hsame g (fun _ _ => rfl))
  have hpre : ∀ g'', Agree listed g g'' → RegPre ops (regSt l d s0 i).ps i g'' w := by
    intro g'' hg'' p hp hanc'
    obtain ⟨h1, h2⟩ := regSt_ps hps0 i p hp
    have hlp := hanc _ hanc'
    rw [hg'' _ hlp]
    exact J.facts p.1 (by omega) hlp p.2 h2
  have hOk := hok i o' hn ho
  have hna := hacts i hn
  obtain ⟨m, hm1, hm2, hI0⟩ := J.inv
  have hIg : ∀ g'', Agree listed g g'' → I ((acts.take m).map fun x => (g'' x).v) w := fun g'' h => by
    rw [List.map_congr_left (g := fun x => (g x).v) (fun x hx => by
      obtain ⟨q, hq⟩ := List.mem_iff_getElem?.1 hx
      have hqm := (List.getElem?_eq_some_iff.1 hq).1
      rw [List.length_take] at hqm
      rw [List.getElem?_take, if_pos (by omega)] at hq
      rw [h x ((hm2 q x hq).2 (by omega))])]
    exact hI0
  have hph : Phase ops acts i m := by
    exact ⟨fun i' x hx hxa => (hm2 i' x hx).1 (hanc x hxa), fun i' x hx hxa => Nat.le_of_not_lt fun hlt' => by
      have := hlistedanc x i ((hm2 i' x hx).2 hlt') hxa
      rw [hun] at this; cases this⟩
  unfold wpOp
  simp only [ho]
  cases hd : d i <;> rw [hd] at hOk <;> simp only [RegOk] at hOk
  case skip =>
    rw [hwant, hOk g, if_neg (by simp)]
    have := J.put_ext hn ho hlt hun hc hper (by rw [hd] at hna; exact hna.symm) hIE (by rw [hd]; simp) (by rw [hd]; simp) (g' := g) (V := undef) (fun _ _ => rfl) (fun g'' _ => by rw [hd]; rfl) (Ext.refl w) (fun ψ h => by rw [hd] at h; cases h)
    exact hK _ _ _ this
  case value v =>
    obtain ⟨hw, hv⟩ := hOk
    rw [hwant, hw g, if_pos rfl]
    left
    unfold Oper.wp
    have h0 := hv g w m hph hI0 (hpre g (fun _ _ => rfl))
    rw [hexec g (fun _ _ => rfl), h0]
    simp only [Oper.upon]
    refine hK _ _ g (J.put_ext hn ho hlt hun hc hper (by rw [hd] at hna; exact hna.symm) hIE (by rw [hd]; simp) (by rw [hd]; simp) (fun _ _ => rfl) (fun g'' hg'' => ?_) (Ext.refl w) (fun ψ h => by rw [hd] at h; cases h))
    rw [hd]
    have h1 := hag g g'' (fun _ _ => rfl) hg''
    have h2 := hv g'' w m hph (hIg g'' h1) (hpre g'' h1)
    rw [← hexec g'' h1, hexec g (fun _ _ => rfl), h0] at h2
    simp only [Result.ok.injEq, Next.value.injEq, and_true] at h2
    exact h2.symm
  case const v =>
    obtain ⟨hw, hv⟩ := hOk
    rw [hwant, hw g, if_pos rfl]
    left
    unfold Oper.wp
    have h0 := hv g w m hph hI0 (hpre g (fun _ _ => rfl))
    rw [hexec g (fun _ _ => rfl)]
    have fin : ∀ w', Ext w w' → K (a.put o'.dst v) w' := fun w' he =>
      hK _ _ g (J.put_ext hn ho hlt hun hc hper (by rw [hd] at hna; exact hna.symm) hIE (by rw [hd]; simp) (by rw [hd]; simp) (fun _ _ => rfl) (fun g'' hg'' => by rw [hd]; rfl) he (fun ψ h => by rw [hd] at h; cases h))
    generalize (execOp ((regSt l d s0 i).A g).eval o').run P w = r at *
    cases r with
    | halt h w' => exact h0.elim
    | ok nx w' =>
      cases nx <;> simp only [regUpon] at h0 <;> simp only [Oper.upon]
      case value u =>
        obtain ⟨he, rfl⟩ := h0
        exact fin _ he
      case skip =>
        obtain ⟨he, rfl⟩ := h0
        exact fin _ he
      case enter f args =>
        obtain ⟨he, h1⟩ := h0
        exact h1.mono fun e w'' ⟨u, he', hx, hu⟩ => by subst he'; subst hu; exact fin _ (he.trans hx)
  case call ψ =>
    obtain ⟨hw, hp, hv⟩ := hOk
    rw [hwant, hw g, if_pos rfl]
    left
    unfold Oper.wp
    have h0 := hv g w m hph hI0 (hpre g (fun _ _ => rfl))
    rw [hexec g (fun _ _ => rfl)]
    have fin : ∀ u w', Ext w w' → ψ u w' → K (a.put o'.dst u) w' := fun u w' he hψ =>
      hK _ _ (fun j => if j = i then ⟨0, u⟩ else g j) (J.put_ext hn ho hlt hun hc hper (by rw [hd] at hna; exact hna.symm) hIE (by rw [hd]; simp) (by rw [hd]; simp) (fun j hj => by simp [hj]) (fun g'' hg'' => by rw [hd]; simp only [RegD.val]; rw [hg'' i (getD_set_self hlt)]; simp) he
        (fun ψ' h => by rw [hd] at h; cases h; simpa using hψ))
    generalize (execOp ((regSt l d s0 i).A g).eval o').run P w = r at *
    cases r with
    | halt h w' => exact h0.elim
    | ok nx w' =>
      cases nx <;> simp only [regUpon] at h0 <;> simp only [Oper.upon]
      case value u =>
        obtain ⟨he, hu⟩ := h0
        exact fin _ _ he hu
      case skip =>
        obtain ⟨he, hu⟩ := h0
        exact fin _ _ he hu
      case enter f args =>
        obtain ⟨he, h1⟩ := h0
        exact h1.mono fun e w'' ⟨u, he', hx, hu⟩ => by subst he'; exact fin _ _ (he.trans hx) hu
  case fresh mk ob =>
    obtain ⟨hw, hv⟩ := hOk
    rw [hwant, hw g, if_pos rfl]
    left
    unfold Oper.wp
    have h0 := hv g w m hph hI0 (hpre g (fun _ _ => rfl))
    rw [hexec g (fun _ _ => rfl), h0]
    simp only [Oper.upon]
    have hgg : ∀ j, j ≠ i → (fun j => if j = i then (⟨w.heap.size, undef⟩ : Gh) else g j) j = g j := fun j hj => by simp [hj]
    have hE : Ext w (w.alloc (ob g)) := Ext.alloc w _
    refine hK _ _ (fun j => if j = i then ⟨w.heap.size, undef⟩ else g j) (J.put hn ho hlt hun hc hgg (fun g'' hg'' => ?_) (Nat.le_trans J.lo hE.size) (J.inv_keep (by rw [hd] at hna; exact hna.symm) hgg (fun vs h => hIE _ _ _ h hE)) ?_ ?_ ?_)
    · rw [hd]; simp only [RegD.val]; rw [hg'' i (getD_set_self hlt)]; simp
    · intro g'' hg'' j hj hl' mk' b' hdj
      have h1 := hag _ g'' hgg hg''
      by_cases hji : j = i
      · subst hji
        rw [hd] at hdj; cases hdj
        have h2 := hv g'' w m hph (hIg g'' h1) (hpre g'' h1)
        rw [← hexec g'' h1, hexec g (fun _ _ => rfl), h0] at h2
        simp only [Result.ok.injEq, true_and] at h2
        rw [hg'' j (getD_set_self hlt)]
        simp only [if_true]
        refine ⟨J.lo, ob g'', by rw [h2]; exact hs_new, fun _ => rfl, fun k hk hlk x y hkt => ?_⟩
        exfalso
        have hkj : k ≠ j := fun e => by subst e; rw [hd] at hkt; cases hkt
        obtain ⟨ok, hok'⟩ := hget k hk
        have := hok k ok hk hok'
        rw [hkt] at this
        have := hlistedanc k j (by rw [hlist k hkj] at hlk; exact hlk) this.2.2.2.1
        rw [hun] at this; cases this
      · obtain ⟨h2, c, h3, h4, h5⟩ := J.fresh g'' h1 j hj (by rw [hlist j hji] at hl'; exact hl') mk' b' hdj
        refine ⟨h2, c, hs_ext hE h3, fun h => h4 (fun k hk hlk => h k hk ?_), fun k hk hlk x y hkt => h5 k hk ?_ x y hkt⟩
        · by_cases hki : k = i
          · subst hki; rw [hun] at hlk; cases hlk
          · rw [hlist k hki]; exact hlk
        · have hki : k ≠ i := fun e => by subst e; rw [hd] at hkt; cases hkt
          rw [hlist k hki] at hlk; exact hlk
    · intro j hj hji hlj mk' b' hdj _ _ _
      obtain ⟨-, c, h3, -⟩ := J.fresh g (fun _ _ => rfl) j hj hlj mk' b' hdj
      have := (Array.getElem?_eq_some_iff.1 h3).1
      simp only [if_true]
      omega
    · intro j hj hl' ψ hdj
      have hji : j ≠ i := fun e => by subst e; rw [hd] at hdj; cases hdj
      simp only [hji, if_false]
      exact (hper j ψ hj hdj).1 _ _ _ (J.facts j hj (by rw [hlist j hji] at hl'; exact hl') ψ hdj) hE
  case turn p b b' =>
    obtain ⟨hw, htb, hmem, hap, hmap, hv⟩ := hOk
    rw [hwant, hw g, if_pos rfl]
    left
    unfold Oper.wp
    have hpl := hanc p hap
    have hturn : ∀ k p x y, k < n → d k = .turn p x y → p < k := fun k p x y hk hkt => by
      obtain ⟨ok, hok'⟩ := hget k hk
      have := hok k ok hk hok'
      rw [hkt] at this
      have hm := this.2.2.1
      -- an element of fs is below its index
      clear this
      have gen : ∀ m, ∀ q ∈ (regSt l d s0 m).fs, q.1 < m := by
        intro m
        induction m with
        | zero => intro q hq; simp [regSt, hfs0] at hq
        | succ m ih =>
          intro q hq
          simp only [regSt, RegSt.next] at hq
          cases hdm : d m <;> rw [hdm] at hq <;> simp only [List.mem_cons, List.mem_filter] at hq
          case fresh => rcases hq with rfl | hq
                        · simp
                        · have := ih q hq; omega
          case turn => have := ih q hq.1; omega
          all_goals (have := ih q hq; omega)
      exact gen k _ hm
    obtain ⟨hpi, ⟨mk0, hdp⟩, hno⟩ := regSt_fs (l := l) (d := d) (s0 := s0) hfs0 i (fun k p x y hk => hturn k p x y (by omega)) (p, b) hmem
    simp only at hpi hdp hno
    have honly : ∀ k, k < n → ∀ x y, d k = .turn p x y → k = i := by
      intro k hk x y hkt
      rcases Nat.lt_trichotomy k i with h | h | h
      · exact absurd hkt (hno k h x y)
      · exact h
      · obtain ⟨ok, hok'⟩ := hget k hk
        have := hok k ok hk hok'
        rw [hkt] at this
        obtain ⟨-, -, h3⟩ := regSt_fs (l := l) (d := d) (s0 := s0) hfs0 k (fun k' p x y hk' => hturn k' p x y (by omega)) (p, x) this.2.2.1
        exact absurd hd (h3 i h b b')
    have hblk : ∀ g'', Agree listed g g'' → B ≤ (g'' p).n ∧ w.heap[(g'' p).n]? = some (b g'') := by
      intro g'' hg''
      obtain ⟨h1, c, h2, h3, -⟩ := J.fresh g'' hg'' p (by omega) hpl mk0 b hdp
      have e := h3 (fun k hk hlk x y hkt => by
        have := honly k hk x y hkt
        subst this
        rw [hun] at hlk; cases hlk)
      exact ⟨h1, by rw [h2, e]⟩
    obtain ⟨hB, hb0⟩ := hblk g (fun _ _ => rfl)
    obtain ⟨x, h0, hx⟩ := hv g w m hph hI0 (hpre g (fun _ _ => rfl)) hb0
    rw [hexec g (fun _ _ => rfl), h0]
    have key : K (a.put o'.dst undef) (ChangeMaps.setBlock w (g p).n (b' g)) := by
      refine hK _ _ g (J.put hn ho hlt hun hc (fun _ _ => rfl) (fun g'' hg'' => by rw [hd]; rfl) (by simpa [ChangeMaps.setBlock] using J.lo) (J.inv_keep (by rw [hd] at hna; exact hna.symm) (fun _ _ => rfl) (fun vs h => hIT htb _ _ _ _ h hB)) ?_ (fun j _ _ _ _ _ _ mk' c' h => by rw [hd] at h; cases h) ?_)
      · intro g'' hg'' j hj hl' mk' c' hdj
        have h1 := hag g g'' (fun _ _ => rfl) hg''
        have hji : j ≠ i := fun e => by subst e; rw [hd] at hdj; cases hdj
        have hlj : listed.getD j false = true := by rw [hlist j hji] at hl'; exact hl'
        by_cases hjp : j = p
        · subst hjp
          rw [hdp] at hdj; cases hdj
          obtain ⟨hB', hb1⟩ := hblk g'' h1
          obtain ⟨x', h2, -⟩ := hv g'' w m hph (hIg g'' h1) (hpre g'' h1) hb1
          rw [← hexec g'' h1, hexec g (fun _ _ => rfl), h0] at h2
          simp only [Result.ok.injEq] at h2
          rw [h2.2]
          refine ⟨hB', b' g'', reg_turned_same hb1, fun h => absurd hd (h i hn (getD_set_self hlt) b b'), fun k hk _ x y hkt => ?_⟩
          have := honly k hk x y hkt
          subst this
          rw [hd] at hkt; cases hkt; rfl
        · obtain ⟨h2, c, h3, h4, h5⟩ := J.fresh g'' h1 j hj hlj mk' c' hdj
          have hne : (g'' j).n ≠ (g p).n := by
            rw [h1 j hlj]
            exact J.apart j p hj (by omega) hlj hpl hjp _ _ _ _ hdj hdp
          refine ⟨h2, c, by rw [reg_turned_block hne]; exact h3, fun h => h4 (fun k hk hlk => h k hk ?_), fun k hk hlk x y hkt => h5 k hk ?_ x y hkt⟩
          · by_cases hki : k = i
            · subst hki; rw [hun] at hlk; cases hlk
            · rw [hlist k hki]; exact hlk
          · have hki : k ≠ i := fun e => by subst e; rw [hd] at hkt; cases hkt; exact hjp rfl
            rw [hlist k hki] at hlk; exact hlk
      · intro j hj hl' ψ hdj
        have hji : j ≠ i := fun e => by subst e; rw [hd] at hdj; cases hdj
        obtain ⟨es, cl, hm⟩ := hmap g
        exact (hper j ψ hj hdj).2.1 htb _ _ _ es cl _ (J.facts j hj (by rw [hlist j hji] at hl'; exact hl') ψ hdj) (by rw [hb0, hm])
    rcases hx with rfl | rfl
    · exact key
    · exact key
  case act =>
    obtain ⟨hw, htb, i0, hi0, hv⟩ := hOk
    rw [hwant, hw g, if_pos rfl]
    left
    unfold Oper.wp
    have hnl : ¬ i0 < m := fun h => by have := (hm2 i0 i hi0).2 h; rw [hun] at this; cases this
    have hi0l : i0 < acts.length := (List.getElem?_eq_some_iff.1 hi0).1
    have hmi : m = i0 := by
      rcases Nat.eq_zero_or_pos i0 with h | h
      · omega
      · obtain ⟨y, hy⟩ : ∃ y, acts[i0 - 1]? = some y := ⟨acts[i0 - 1]'(by omega), by simp [show i0 - 1 < acts.length by omega]⟩
        have h1 := hch (i0 - 1) y i hy (by rw [show i0 - 1 + 1 = i0 by omega]; exact hi0)
        have := (hm2 (i0 - 1) y hy).1 (hanc y h1)
        omega
    subst hmi
    have hfr : RegFr ops B (regSt l d s0 i).fs i g w := by
      intro p hp hanc'
      have hnt : ∀ k p x y, k < n → d k ≠ .turn p x y := fun k p x y hk hkt => by
        obtain ⟨ok, hok2⟩ := hget k hk
        have := hok k ok hk hok2
        rw [hkt] at this
        have := this.2.1
        rw [htb] at this; cases this
      obtain ⟨h1, ⟨mk, h2⟩, -⟩ := regSt_fs (l := l) (d := d) (s0 := s0) hfs0 i (fun k p x y hk hkt => absurd hkt (hnt k p x y (by omega))) p hp
      have hlp := hanc _ hanc'
      obtain ⟨h3, c, h4, h5, -⟩ := J.fresh g (fun _ _ => rfl) p.1 (by omega) hlp mk p.2 h2
      exact ⟨by rw [h4, h5 (fun k hk _ x y hkt => hnt k _ x y hk hkt)], h3⟩
    obtain ⟨x, v, w', hrun, hx, hA, hI1⟩ := hv g w hI0 (hpre g (fun _ _ => rfl)) hfr J.lo
    rw [hexec g (fun _ _ => rfl), hrun]
    have hgg : ∀ j, j ≠ i → (fun j => if j = i then (⟨0, v⟩ : Gh) else g j) j = g j := fun j hj => by simp [hj]
    have key : K (a.put o'.dst v) w' := by
      refine hK _ _ (fun j => if j = i then ⟨0, v⟩ else g j) (J.put hn ho hlt hun hc hgg (fun g'' hg'' => by rw [hd]; simp only [RegD.val]; rw [hg'' i (getD_set_self hlt)]; simp) (Nat.le_trans J.lo hA.1) ?_ ?_ (fun j _ _ _ _ _ _ mk' c' h => by rw [hd] at h; cases h) ?_)
      · refine ⟨m + 1, by omega, fun i' x hx => ?_, ?_⟩
        · by_cases hxi : x = i
          · subst hxi
            have : i' = m := (List.getElem?_inj (List.getElem?_eq_some_iff.1 hx).1 hnd).1 (hx.trans hi0.symm)
            subst this
            simp [getD_set_self hlt]
          · rw [hlist x hxi, hm2 i' x hx]
            have : i' ≠ m := fun e => by subst e; rw [hi0] at hx; cases hx; exact hxi rfl
            omega
        · rw [List.take_add_one, hi0, List.map_append]
          have hne : ∀ x ∈ acts.take m, x ≠ i := fun x hx e => by
            subst e
            obtain ⟨q, hq⟩ := List.mem_iff_getElem?.1 hx
            have hqm := (List.getElem?_eq_some_iff.1 hq).1
            rw [List.length_take] at hqm
            rw [List.getElem?_take] at hq
            rw [if_pos (by omega)] at hq
            have := (List.getElem?_inj (List.getElem?_eq_some_iff.1 hq).1 hnd).1 (hq.trans hi0.symm)
            omega
          rw [List.map_congr_left (g := fun x => (g x).v) (fun x hx => by rw [if_neg (hne x hx)])]
          simpa using hI1
      · intro g'' hg'' j hj hl' mk' c' hdj
        have h1 := hag _ g'' hgg hg''
        have hji : j ≠ i := fun e => by subst e; rw [hd] at hdj; cases hdj
        obtain ⟨h2, c, h3, h4, h5⟩ := J.fresh g'' h1 j hj (by rw [hlist j hji] at hl'; exact hl') mk' c' hdj
        refine ⟨h2, c, by rw [hA.2 _ h2 (Array.getElem?_eq_some_iff.1 h3).1]; exact h3, fun h => h4 (fun k hk hlk => h k hk ?_), fun k hk hlk x y hkt => h5 k hk ?_ x y hkt⟩
        · by_cases hki : k = i
          · subst hki; rw [hun] at hlk; cases hlk
          · rw [hlist k hki]; exact hlk
        · have hki : k ≠ i := fun e => by subst e; rw [hd] at hkt; cases hkt
          rw [hlist k hki] at hlk; exact hlk
      · intro j hj hl' ψ hdj
        have hji : j ≠ i := fun e => by subst e; rw [hd] at hdj; cases hdj
        simp only [hji, if_false]
        exact (hper j ψ hj hdj).2.2 (fun e => by rw [e] at hi0; simp at hi0) _ _ _ (J.facts j hj (by rw [hlist j hji] at hl'; exact hl') ψ hdj) hA
    rcases hx with rfl | ⟨rfl, rfl⟩
    · exact key
    · exact key
end

section
variable {P : Program} {ops : Array Oper} {n : Nat} {I : List Value → World → Prop} {acts : List Nat} {B : Nat} {tb : Bool} {a0 : Act} {d : Nat → RegD}
theorem reg_any {Q : Exit → Act → World → Prop} {l : List Oper} {s0 : RegSt} {m : Nat} (hns : n ≤ ops.size) (hnosel : Region.noSelect ops = true) (htail : n = ops.size ∨ Region.sinkB .any ops n = true ∧ Region.chainB .any ops n = true) (hl : ∀ j, j < n → l[j]? = ops[j]?)
    (hs0 : s0 = ⟨fun _ => a0, [], [], []⟩)
    (hc : ∀ i o, i < n → ops[i]? = some o → CalmCond ops n i o) (hok : ∀ j o, j < n → ops[j]? = some o → RegOk P ops I acts B tb j o (regSt l d s0 j) (d j)) (hacts : ∀ j, j < n → (d j).acts = acts.elem j) (hIE : ∀ vs w w', I vs w → Ext w w' → I vs w') (hIT : tb = true → ∀ vs w b o, I vs w → B ≤ b → I vs (ChangeMaps.setBlock w b o))
    (hndA : acts.Nodup) (hch : ∀ i x y, acts[i]? = some x → acts[i + 1]? = some y → Anc ops x y)
    (hfin : ∀ a w g, RegJ I acts B ops n a0 d (headListed ops.size n) a w g → wpAny P .any ops Q m (headListed ops.size n) a w) :
    ∀ (f : Nat) (rem : List Nat) (listed : Array Bool) (a : Act) (w : World) (g : Ghs), rem.length = f → rem.Nodup → (∀ i, i ∈ rem ↔ i < n ∧ listed.getD i false = false) → HeadInv .any ops n listed →
      RegJ I acts B ops n a0 d listed a w g → wpAny P .any ops Q (f + m) listed a w
  | 0, rem, listed, a, w, g, hf, _, hrem, inv, J => by
    have hr0 : rem = [] := List.length_eq_zero_iff.1 hf
    subst hr0
    have : listed = headListed ops.size n := by
      apply Array.ext_getElem?
      intro i
      rcases Nat.lt_or_ge i ops.size with h | h
      · have h1 : i < listed.size := by rw [inv.size]; exact h
        have e2 : (headListed ops.size n)[i]? = some (decide (i < n)) := by simp [headListed, h]
        rw [e2]
        by_cases hin : i < n
        · have := (hrem i)
          simp only [List.not_mem_nil, false_iff, not_and] at this
          have h2 := this hin
          simp [h1] at h2 ⊢
          simp [h2, hin]
        · have h2 := inv.tail i (by omega) h
          simp [h1] at h2 ⊢
          simp [h2, hin]
      · have h1 : listed.size ≤ i := by rw [inv.size]; exact h
        simp [headListed, h1, h]
    subst this
    rw [Nat.zero_add]
    exact hfin a w g J
  | f + 1, rem, listed, a, w, g, hf, hnd, hrem, inv, J => by
    obtain ⟨i0, hi0⟩ : ∃ i, i ∈ rem := by
      cases rem with
      | nil => cases hf
      | cons x r => exact ⟨x, by simp⟩
    have hready : ∀ j, j ∈ Region.ready .any ops listed → j < n := by
      intro j hj
      rcases Nat.lt_or_ge j n with h | h
      · exact h
      · obtain ⟨h1, h2⟩ := (hrem i0).1 hi0
        rcases htail with ht | ⟨hs, hch⟩
        · obtain ⟨_, o, ho, _⟩ := mem_ready.1 hj
          have := (Array.getElem?_eq_some_iff.1 ho).1
          omega
        · have hnlt : n < ops.size := by
            obtain ⟨_, o, ho, _⟩ := mem_ready.1 hj
            have := (Array.getElem?_eq_some_iff.1 ho).1
            omega
          exact absurd hj (tail_waits hs hch hnlt inv _ i0 rfl h1 (getD_in (by rw [inv.size]; omega) h2) j h)
    have hne : Region.ready .any ops listed ≠ [] := by
      -- the least operation of the head that is left is ready
      have hmin : ∀ (d i : Nat), i = d → i ∈ rem → ∃ j, j ∈ Region.ready .any ops listed := by
        intro d
        induction d using Nat.strongRecOn with
        | _ d ih =>
          intro i hd hi
          obtain ⟨h1, h2⟩ := (hrem i).1 hi
          obtain ⟨o, ho⟩ : ∃ o, ops[i]? = some o := ⟨ops[i]'(by omega), by simp [show i < ops.size by omega]⟩
          by_cases hall : ∀ e ∈ o.after, Region.binds .any e = true → listed.getD e.on false = true
          · exact ⟨i, mem_ready.2 ⟨getD_in (by rw [inv.size]; omega) h2, o, ho, hall⟩⟩
          · obtain ⟨e, he, hb, hne⟩ : ∃ e, e ∈ o.after ∧ Region.binds .any e = true ∧ ¬ listed.getD e.on false = true := by
              apply Classical.byContradiction
              intro hno
              exact hall fun e he hb => Classical.byContradiction fun hx => hno ⟨e, he, hb, hx⟩
            have hlt := (hc i o h1 ho).before e he hb
            exact ih e.on (by omega) e.on rfl ((hrem e.on).2 ⟨by omega, by simpa using hne⟩)
      obtain ⟨j, hj⟩ := hmin i0 i0 rfl hi0
      intro h0; rw [h0] at hj; cases hj
    rw [show f + 1 + m = (f + m) + 1 by omega]
    refine ⟨fun h0 => absurd h0 hne, fun i hi => ?_⟩
    have hin := hready i hi
    obtain ⟨hun, o, ho, _⟩ := mem_ready.1 hi
    have hsz : i < listed.size := by rw [inv.size]; exact (Array.getElem?_eq_some_iff.1 ho).1
    refine J.step hs0 hin ho hsz hi hns (fun cs b => Region.noSelect_spec hnosel i o cs b ho) hl inv.closed hc hok hacts hIE hIT hndA hch (fun a' w' g' J' => ?_)
    have hmem : i ∈ rem := (hrem i).2 ⟨hin, getD_both hun⟩
    refine reg_any hns hnosel htail hl hs0 hc hok hacts hIE hIT hndA hch hfin f (rem.erase i) _ a' w' g' (by rw [List.length_erase_of_mem hmem]; omega) (hnd.erase i) (fun j => ?_) (inv.set hi hin) J'
    rw [hnd.mem_erase_iff, hrem]
    by_cases hji : j = i
    · subst hji
      simp [hsz]
    · rw [getD_set_ne false (Ne.symm hji)]
      simp [hji]
end

/-- A REGION THAT DRAWS ITS ORDER: one walk in the order of the text. -/
theorem wp_region_act {P : Program} {id : Nat} {Q : Exit → Act → World → Prop} {a : Act} {w : World} {l : List Oper} (n : Nat) (tb : Bool) (I : List Value → World → Prop) (acts : List Nat) (hm : P.follows .mixedOrders = true) (hB : calmB l.toArray n = true)
    (hIE : ∀ vs w w', I vs w → Ext w w' → I vs w') (hIT : tb = true → ∀ vs w' b o, I vs w' → w.heap.size ≤ b → I vs (ChangeMaps.setBlock w' b o)) (hndA : acts.Nodup) (hlt : ∀ x ∈ acts, x < n) (hch : ∀ i x y, acts[i]? = some x → acts[i + 1]? = some y → Anc l.toArray x y) (hI0 : I [] w)
    (h : wpReg P l.toArray I acts w.heap.size tb (fun s => ∀ g w', I (acts.map fun x => (g x).v) w' → RegFresh w.heap.size (s.fs ++ s.ts) g w' → (∀ p ∈ s.ps, p.2 (g p.1).v w') → wpList P l.toArray Q (l.drop n) (s.A g) w') 0 (l.take n) ⟨fun _ => a, [], [], []⟩) : (Code.region id l.toArray true).wp P Q a w := by
  have hc := calmB_cond hB
  simp only [calmB, Bool.and_eq_true, decide_eq_true_eq, Bool.or_eq_true] at hB
  obtain ⟨⟨⟨⟨hnosel, hns⟩, htail⟩, hseq⟩, -⟩ := hB
  have hns' : n ≤ l.length := by simpa using hns
  have hlen : (l.take n).length = n := by simp; omega
  have hl : ∀ j, j < n → (l.take n)[j]? = l.toArray[j]? := fun j hj => by simp [hj]
  obtain ⟨d, hok, hQ⟩ := reg_specs (l.take n) ⟨fun _ => a, [], [], []⟩ (l.take n) 0 (fun _ => .skip) (fun j => by simp) (fun i o hi => by omega) h
  rw [Nat.zero_add, hlen] at hQ
  rw [Nat.zero_add, hlen] at hok
  have hok' : ∀ j o, j < n → l.toArray[j]? = some o → RegOk P l.toArray I acts w.heap.size tb j o (regSt (l.take n) d ⟨fun _ => a, [], [], []⟩ j) (d j) := fun j o hj ho => (hok j o hj (by rw [hl j hj]; exact ho)).1
  have hacts : ∀ j, j < n → (d j).acts = acts.elem j := fun j hj => (hok j (l[j]'(by omega)) hj (by rw [List.getElem?_take, if_pos hj]; exact List.getElem?_eq_getElem (by omega))).2
  have hget : ∀ j, j < n → ∃ oj, l.toArray[j]? = some oj := fun j hj => ⟨l[j]'(by omega), by simp [show j < l.length by omega]⟩
  have gen : ∀ m, ∀ q ∈ (regSt (l.take n) d ⟨fun _ => a, [], [], []⟩ m).fs, q.1 < m := by
    intro m
    induction m with
    | zero => intro q hq; simp [regSt] at hq
    | succ m ih =>
      intro q hq
      simp only [regSt, RegSt.next] at hq
      cases hdm : d m <;> rw [hdm] at hq <;> simp only [List.mem_cons, List.mem_filter] at hq
      case fresh => rcases hq with rfl | hq
                    · simp
                    · have := ih q hq; omega
      case turn => have := ih q hq.1; omega
      all_goals (have := ih q hq; omega)
  have hin : ∀ k p b b', k < n → d k = .turn p b b' → (p, b) ∈ (regSt (l.take n) d ⟨fun _ => a, [], [], []⟩ k).fs := fun k p x y hk hkt => by
    obtain ⟨ok, hok2⟩ := hget k hk
    have := hok' k ok hk hok2
    rw [hkt] at this
    exact this.2.2.1
  have hturn : ∀ k p b b', k < n → d k = .turn p b b' → p < k := fun k p x y hk hkt => gen k _ (hin k p x y hk hkt)
  refine wp_region_any hm ?_
  have key := reg_any (P := P) (ops := l.toArray) (I := I) (acts := acts) (B := w.heap.size) (tb := tb) (a0 := a) (d := d) (Q := Q) (l := l.take n) (s0 := ⟨fun _ => a, [], [], []⟩) (m := l.toArray.size - n) hns hnosel htail hl rfl hc hok' hacts hIE hIT hndA hch
    (fun a' w' g J => by
      have hfr : a' = (regSt (l.take n) d ⟨fun _ => a, [], [], []⟩ n).A g := by
        have h1 : a'.defers = ((regSt (l.take n) d ⟨fun _ => a, [], [], []⟩ n).A g).defers := by rw [J.defers, regA_defers (fun _ => rfl)]
        have hall : ∀ i, i < n → (headListed l.toArray.size n).getD i false = true := fun i hi => by
          have : i < l.length := by omega
          simp [headListed, hi, this]
        have h2 : a'.tmps = ((regSt (l.take n) d ⟨fun _ => a, [], [], []⟩ n).A g).tmps := by
          apply Array.ext_getElem?
          intro t
          by_cases hex : ∃ j, j < n ∧ (l.toArray[j]?).bind (·.dst) = some t
          · obtain ⟨j, hj, hjt⟩ := hex
            rw [J.at_ g (fun _ _ => rfl) j hj (hall j hj) t hjt, regA_at (fun _ => rfl) (by rw [hl j hj]; exact hjt) hj (fun k hk hkj => ?_)]
            rw [hl k hk]
            intro hkt
            rcases Nat.lt_or_ge k j with h | h
            · cases hoj : l.toArray[j]? with
              | none => rw [hoj] at hjt; cases hjt
              | some oj => rw [hoj] at hjt; exact (hc j oj hj hoj).once k h t hjt hkt
            · cases hok2 : l.toArray[k]? with
              | none => rw [hok2] at hkt; cases hkt
              | some ok => rw [hok2] at hkt; exact (hc k ok hk hok2).once j (by omega) t hkt hjt
          · rw [J.other t (fun j hj _ hjt => hex ⟨j, hj, hjt⟩), regA_other (fun _ => rfl) (fun j hj hjt => hex ⟨j, hj, by rw [← hl j hj]; exact hjt⟩)]
        cases a'; cases hF : (regSt (l.take n) d ⟨fun _ => a, [], [], []⟩ n).A g
        rw [hF] at h1 h2
        simp only at h1 h2
        rw [h1, h2]
      have hall : ∀ i, i < n → (headListed l.toArray.size n).getD i false = true := fun i hi => by
        have : i < l.length := by omega
        simp [headListed, hi, this]
      have hfs := regSt_fs (l := l.take n) (d := d) (s0 := ⟨fun _ => a, [], [], []⟩) rfl n hturn
      have hts := regSt_ts (l := l.take n) (d := d) (s0 := ⟨fun _ => a, [], [], []⟩) rfl n
      have hps := regSt_ps (l := l.take n) (d := d) (s0 := ⟨fun _ => a, [], [], []⟩) rfl n
      have hnd := regSt_nodup (l := l.take n) (d := d) (s0 := ⟨fun _ => a, [], [], []⟩) rfl rfl n hin hturn
      have hmk : ∀ p ∈ (regSt (l.take n) d ⟨fun _ => a, [], [], []⟩ n).fs ++ (regSt (l.take n) d ⟨fun _ => a, [], [], []⟩ n).ts, p.1 < n ∧ (∃ mk b, d p.1 = .fresh mk b) ∧ w'.heap[(g p.1).n]? = some (p.2 g) ∧ w.heap.size ≤ (g p.1).n := by
        intro p hp
        rcases List.mem_append.1 hp with hp | hp
        · obtain ⟨h1, ⟨mk, h2⟩, h3⟩ := hfs p hp
          obtain ⟨h4, c, h5, h6, -⟩ := J.fresh g (fun _ _ => rfl) p.1 h1 (hall _ h1) mk p.2 h2
          exact ⟨h1, ⟨mk, _, h2⟩, by rw [h5, h6 (fun k hk _ x y => h3 k hk x y)], h4⟩
        · obtain ⟨k, b, hk, hkt⟩ := hts p hp
          have hpk := hturn k _ _ _ hk hkt
          obtain ⟨-, ⟨mk, h2⟩, -⟩ := regSt_fs (l := l.take n) (d := d) (s0 := ⟨fun _ => a, [], [], []⟩) rfl k (fun k' p x y hk' => hturn k' p x y (by omega)) (p.1, b) (hin k _ _ _ hk hkt)
          obtain ⟨h4, c, h5, -, h6⟩ := J.fresh g (fun _ _ => rfl) p.1 (by omega) (hall _ (by omega)) mk b h2
          exact ⟨by omega, ⟨mk, _, h2⟩, by rw [h5, h6 k hk (hall k hk) _ _ hkt], h4⟩
      have hfresh : RegFresh w.heap.size ((regSt (l.take n) d ⟨fun _ => a, [], [], []⟩ n).fs ++ (regSt (l.take n) d ⟨fun _ => a, [], [], []⟩ n).ts) g w' := by
        refine ⟨J.lo, fun p hp => (hmk p hp).2.2, ?_⟩
        unfold List.Nodup at hnd
        rw [List.pairwise_map] at hnd
        refine hnd.imp_of_mem (fun {p q} hp hq hpq => ?_)
        obtain ⟨h1, ⟨mk, b, h2⟩, -⟩ := hmk p hp
        obtain ⟨h3, ⟨mk', b', h4⟩, -⟩ := hmk q hq
        exact J.apart _ _ h1 h3 (hall _ h1) (hall _ h3) hpq _ _ _ _ h2 h4
      have hfacts : ∀ p ∈ (regSt (l.take n) d ⟨fun _ => a, [], [], []⟩ n).ps, p.2 (g p.1).v w' := fun p hp => by
        obtain ⟨h1, h2⟩ := hps p hp
        exact J.facts _ h1 (hall _ h1) _ h2
      have hIf : I (acts.map fun x => (g x).v) w' := by
        obtain ⟨m, h1, h2, h3⟩ := J.inv
        have : m = acts.length := by
          rcases Nat.lt_or_ge m acts.length with h | h
          · have := (h2 m acts[m] (by simp [h])).1 (hall _ (hlt _ (List.getElem_mem h)))
            omega
          · omega
        subst this
        rwa [List.take_length] at h3
      have hw := hQ g w' hIf hfresh hfacts
      rw [← hfr] at hw
      have hdl : (l.drop n).length = l.toArray.size - n := by simp
      rw [← hdl] at hseq ⊢
      exact wpAny_of_seq (l.drop n) n _ _ _ (fun j => by simp) hseq hw)
    n (List.range n) (Array.replicate l.toArray.size false) a w.drew (fun _ => default) (by simp) List.nodup_range (fun i => by rw [getD_replicate_false]; simp)
    ⟨by simp, fun j oj _ hl => (by rw [getD_replicate_false] at hl; cases hl), fun t _ ht => getD_in (by simpa using ht) (getD_replicate_false _ _)⟩
    ⟨Nat.le_refl _, ⟨0, Nat.zero_le _, fun i x hx => by rw [getD_replicate_false]; simp, by simpa using hIE _ _ _ hI0 (Ext.drew w)⟩, rfl, fun _ _ i _ hl => (by rw [getD_replicate_false] at hl; cases hl), fun _ _ => rfl, fun _ _ i _ hl => (by rw [getD_replicate_false] at hl; cases hl), fun i _ _ _ hl => (by rw [getD_replicate_false] at hl; cases hl), fun i _ hl => (by rw [getD_replicate_false] at hl; cases hl)⟩
  rw [show n + (l.toArray.size - n) = l.toArray.size by omega] at key
  exact key

theorem wp_region_reg {P : Program} {id : Nat} {Q : Exit → Act → World → Prop} {a : Act} {w : World} {l : List Oper} (n : Nat) (tb : Bool) (hm : P.follows .mixedOrders = true) (hB : calmB l.toArray n = true)
    (h : wpReg P l.toArray (fun _ w' => Ext w w') [] w.heap.size tb (fun s => ∀ g w', Ext w w' → RegFresh w.heap.size (s.fs ++ s.ts) g w' → (∀ p ∈ s.ps, p.2 (g p.1).v w') → wpList P l.toArray Q (l.drop n) (s.A g) w') 0 (l.take n) ⟨fun _ => a, [], [], []⟩) : (Code.region id l.toArray true).wp P Q a w :=
  wp_region_act n tb (fun _ w' => Ext w w') [] hm hB (fun _ _ _ h k => h.trans k) (fun _ _ _ _ _ h hb => reg_turned_ext h hb) (by simp) (by simp) (by simp) (Ext.refl w) h

#print axioms wp_region_act

end Go.Proofs.Ythoelnoahfedmaa
