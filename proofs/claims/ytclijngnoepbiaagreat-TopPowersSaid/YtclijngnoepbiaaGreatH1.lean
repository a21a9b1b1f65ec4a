/- Contracts: Check of both. Rows of elements of any kind. Kinds of elements: terms, pairs of terms, numbers, lists of numbers, redexes. Plain law: subterms, variables, positions, parts of terms. Contracts: the reference's subterms and variables. -/
import Derived.Test.YtclijngnoepbiaaGreatG8
import Derived.Test.YtclijngnoepbiaaGreatG4
import Derived.Test.YtclijngnoepbiaaGreatG5
import Derived.Test.YtclijngnoepbiaaGreatG1
import Derived.Test.YtclijngnoepbiaaGreatG3
set_option maxRecDepth 100000
set_option maxHeartbeats 8000000
namespace Go.Proofs.YtclijngnoepbiaaGreat
open Go Go.RowKit
set_option linter.unusedVariables false
set_option linter.unusedSimpArgs false

/-- the numbers C lie one behind the other at address a -/
def IntsA (w:World) (a:Option Addr) (C:List Int):Prop:=∀(i:Nat) x,C[i]?=some x→∃b off,a=some ⟨b,off,none⟩∧w.cell? ⟨b,off+i,none⟩=some (.int .i64 x)
theorem IntsA.ext {w w':World} {a:Option Addr} {C:List Int} (h:IntsA w a C) (hE:Ext w w'):IntsA w' a C:=fun i x hi =>
 let ⟨b,off,e,hc⟩:=h i x hi
 ⟨b,off,e,cs_ext hE hc⟩
/-- the slice v reads as the numbers C -/
def LsI (w:World) (v:Value) (C:List Int):Prop:=∃a cap,v=.slice a C.length cap∧C.length≤cap∧cap≤maxLen∧IntsA w a C∧∀x∈C,I64 x
theorem LsI.ext {w w':World} {v:Value} {C:List Int} (h:LsI w v C) (hE:Ext w w'):LsI w' v C :=
 let ⟨a,cap,e,h1,h2,h3,h4⟩:=h
 ⟨a,cap,e,h1,h2,h3.ext hE,h4⟩
theorem LsI.len {w:World} {a:Option Addr} {n cap:Nat} {C:List Int} (h:LsI w (.slice a n cap) C):n=C.length∧C.length≤cap∧cap≤maxLen:=by
 obtain ⟨a',cap',e,h1,h2,-⟩:=h
 cases e
 exact ⟨rfl,h1,h2⟩
theorem LsI.i64 {w:World} {v:Value} {C:List Int} (h:LsI w v C):∀x∈C,I64 x:=let ⟨_,_,_,_,_,_,h⟩:=h;h

/-- indices in range, ascending -/
def okC (n:Nat) (C:List Int):Prop:=(∀x∈C,0≤x∧x<n)∧C.Pairwise (·<·)
instance (n:Nat) (C:List Int):Decidable (okC n C):=by unfold okC;infer_instance

/-- how an element of a row lies in memory: n cells, what they point to lies in blocks of a set -/
structure Elm (α:Type) where
 n:Nat
 R:World→(Nat→Prop)→α→List Value→Prop
 len:∀{w S x cs},R w S x cs→cs.length=n
 one:∀{w S x cs},R w S x cs→∀u∈cs,u.oneCell'=true
 keep:∀{w w':World} {S S':Nat→Prop} {x cs},R w S x cs→(∀c,S c→c<w.heap.size→w'.heap[c]?=w.heap[c]?)→(∀c,S c→c<w.heap.size→S' c)→R w' S' x cs

section
variable {α : Type} {E : Elm α} {w w' : World} {S S' : Nat → Prop} {v : Value} {L M : List α}
theorem Elm.ext (E:Elm α) {x:α} {cs:List Value} (h:E.R w S x cs) (hE:Ext w w'):E.R w' S x cs:=E.keep h (fun c _ hc=>hE.block hc) (fun _ h _=>h)
theorem Elm.wide (E:Elm α) {x:α} {cs:List Value} (h:E.R w S x cs) (hS:∀c,S c→c<w.heap.size→S' c):E.R w S' x cs:=E.keep h (fun _ _ _=>rfl) hS

/-- the slice v reads as the elements L -/
def LsG (E:Elm α) (w:World) (S:Nat→Prop) (v:Value) (L:List α):Prop :=
 ∃a cap,v=.slice a L.length cap∧L.length≤cap∧cap≤maxLen∧∀(i:Nat) x,L[i]?=some x→∃b off cs,a=some ⟨b,off,none⟩∧S b∧b<w.heap.size∧E.R w S x cs∧∀(j:Nat) u,cs[j]?=some u→w.cell? ⟨b,off+i*E.n+j,none⟩=some u
theorem LsG.keep (h:LsG E w S v L) (h1:∀c,S c→c<w.heap.size→w'.heap[c]?=w.heap[c]?) (h2:∀c,S c→c<w.heap.size→S' c) (h3:w.heap.size≤w'.heap.size):LsG E w' S' v L:=by
 obtain ⟨a,cap,e,hl,hc,h⟩:=h
 refine ⟨a,cap,e,hl,hc,fun i x hi=>?_⟩
 obtain ⟨b,off,cs,e,hb,hlt,hR,hcs⟩:=h i x hi
 exact ⟨b,off,cs,e,h2 b hb hlt,by omega,E.keep hR h1 h2,fun j u hu=>by rw [World.cell?_of_block (a:=⟨b,off+i*E.n+j,none⟩) (h1 b hb hlt)];exact hcs j u hu⟩
theorem LsG.ext (h:LsG E w S v L) (hE:Ext w w'):LsG E w' S v L:=h.keep (fun c _ hc=>hE.block hc) (fun _ h _=>h) hE.size
theorem LsG.wide (h:LsG E w S v L) (hS:∀c,S c→c<w.heap.size→S' c):LsG E w S' v L:=h.keep (fun _ _ _=>rfl) hS (Nat.le_refl _)
theorem LsG.any (h:LsG E w S v L):LsG E w (fun _=>True) v L:=h.wide (fun _ _ _=>trivial)
theorem LsG.below (h:LsG E w S v L):LsG E w (fun c=>c<w.heap.size) v L:=h.wide (fun _ _ h=>h)
theorem LsG.nil:LsG E w S (.slice none 0 0) ([]:List α):=⟨none,0,rfl,by simp,by unfold maxLen;omega,fun i t h=>by simp at h⟩
theorem LsG.slice (h:LsG E w S v L):∃a cap,v=.slice a L.length cap∧L.length≤cap∧cap≤maxLen :=
 let ⟨a,cap,e,h1,h2,_⟩:=h
 ⟨a,cap,e,h1,h2⟩
theorem LsG.len {a:Option Addr} {n cap:Nat} (h:LsG E w S (.slice a n cap) L):n=L.length∧L.length≤cap∧cap≤maxLen:=by
 obtain ⟨a',cap',e,h1,h2,-⟩:=h
 cases e
 exact ⟨rfl,h1,h2⟩
theorem LsG.at {a:Option Addr} {n cap:Nat} (h:LsG E w S (.slice a n cap) L) {i:Nat} {x:α} (hi:L[i]?=some x) :
 ∃b off cs,a=some ⟨b,off,none⟩∧S b∧b<w.heap.size∧E.R w S x cs∧∀(j:Nat) u,cs[j]?=some u→w.cell? ⟨b,off+i*E.n+j,none⟩=some u:=by
 obtain ⟨a',cap',e,h1,h2,h3⟩:=h
 cases e
 exact h3 i x hi
/-- a part of a list -/
theorem LsG.drop {b off n cap m:Nat} (h:LsG E w S (.slice (some ⟨b,off,none⟩) n cap) L) (hm:m≤L.length):LsG E w S (.slice (some ⟨b,off+m*E.n,none⟩) (n-m) (cap-m)) (L.drop m):=by
 obtain ⟨a',cap',e,h1,h2,h3⟩:=h
 cases e
 refine ⟨_,cap-m,by rw [List.length_drop],by rw [List.length_drop];omega,by omega,fun k x hk=>?_⟩
 rw [List.getElem?_drop] at hk
 obtain ⟨b',off',cs,e,h4,h5,h6,h7⟩:=h3 _ x hk
 cases e
 refine ⟨b,off+m*E.n,cs,rfl,h4,h5,h6,fun j u hu=>?_⟩
 have:=h7 j u hu
 rwa [show off+(m+k)*E.n+j=off+m*E.n+k*E.n+j by rw [Nat.add_mul];omega] at this
theorem LsG.take {a:Option Addr} {n cap m:Nat} (h:LsG E w S (.slice a n cap) L) (hm:m≤L.length):LsG E w S (.slice a m cap) (L.take m):=by
 obtain ⟨a',cap',e,h1,h2,h3⟩:=h
 cases e
 refine ⟨a,cap,by rw [List.length_take,Nat.min_eq_left hm],by rw [List.length_take];omega,h2,fun k x hk=>?_⟩
 rw [List.getElem?_take] at hk
 split at hk
 · exact h3 k x hk
 · cases hk

theorem flatP_len {n:Nat}:∀(P:List (α × List Value)),(∀p∈P,p.2.length=n)→(P.flatMap (·.2)).length=P.length*n
 | [],_=>by simp
 | p :: P,h=>by
   rw [List.flatMap_cons,List.length_append,h p (by simp),flatP_len P (fun q hq=>h q (by simp [hq])),List.length_cons,Nat.add_mul];omega
theorem flatP_get {n:Nat}:∀(P:List (α × List Value)) (k j:Nat) (p:α × List Value),(∀p∈P,p.2.length=n)→P[k]?=some p→j<n→(P.flatMap (·.2))[k*n+j]?=p.2[j]?
 | [],k,j,p,_,h,_=>by simp at h
 | q :: P,0,j,p,h,hk,hj=>by
   simp only [List.getElem?_cons_zero,Option.some.injEq] at hk
   subst hk
   rw [List.flatMap_cons,List.getElem?_append_left (by rw [h q (by simp)];omega)]
   simp
 | q :: P,k+1,j,p,h,hk,hj=>by
   simp only [List.getElem?_cons_succ] at hk
   have e:(k+1)*n+j=n+(k*n+j):=by rw [Nat.add_mul];omega
   have hq:=h q (by simp)
   rw [List.flatMap_cons,List.getElem?_append_right (by rw [hq,e];omega),hq,e,show n+(k*n+j)-n=k*n+j by omega]
   exact flatP_get P k j p (fun p hp=>h p (by simp [hp])) hk hj

/-- the slice v reads as the elements L, wherever its own block lies -/
def LsE (E:Elm α) (w:World) (S:Nat→Prop) (v:Value) (L:List α):Prop :=
 ∃a cap,v=.slice a L.length cap∧L.length≤cap∧cap≤maxLen∧∀(i:Nat) x,L[i]?=some x→∃b off cs,a=some ⟨b,off,none⟩∧b<w.heap.size∧E.R w S x cs∧∀(j:Nat) u,cs[j]?=some u→w.cell? ⟨b,off+i*E.n+j,none⟩=some u
theorem LsG.e (h:LsG E w S v L):LsE E w S v L:=by
 obtain ⟨a,cap,e,hl,hc,h⟩:=h
 refine ⟨a,cap,e,hl,hc,fun i x hi=>?_⟩
 obtain ⟨b,off,cs,e,hb,hlt,hR,hcs⟩:=h i x hi
 exact ⟨b,off,cs,e,hlt,hR,hcs⟩
theorem LsE.slice (h:LsE E w S v L):∃a cap,v=.slice a L.length cap∧L.length≤cap∧cap≤maxLen :=
 let ⟨a,cap,e,h1,h2,_⟩:=h
 ⟨a,cap,e,h1,h2⟩
theorem LsE.ext (h:LsE E w S v L) (hE:Ext w w'):LsE E w' S v L:=by
 obtain ⟨a,cap,e,hl,hc,h⟩:=h
 refine ⟨a,cap,e,hl,hc,fun i x hi=>?_⟩
 obtain ⟨b,off,cs,e,hlt,hR,hcs⟩:=h i x hi
 exact ⟨b,off,cs,e,Nat.lt_of_lt_of_le hlt hE.size,E.ext hR hE,fun j u hu=>cs_ext hE (hcs j u hu)⟩
theorem LsE.at {a:Option Addr} {n cap:Nat} (h:LsE E w S (.slice a n cap) L) {i:Nat} {x:α} (hi:L[i]?=some x) :
 ∃b off cs,a=some ⟨b,off,none⟩∧b<w.heap.size∧E.R w S x cs∧∀(j:Nat) u,cs[j]?=some u→w.cell? ⟨b,off+i*E.n+j,none⟩=some u:=by
 obtain ⟨a',cap',e,h1,h2,h3⟩:=h
 cases e
 exact h3 i x hi
/-- a list read as entries -/
theorem LsE.entries {a:Option Addr} {n cap:Nat} (h:LsE E w S (.slice a n cap) L):∃P:List (α × List Value),P.map (·.1)=L∧(∀p∈P,E.R w S p.1 p.2)∧(L≠[]→∃b off,a=some ⟨b,off,none⟩∧∀(j:Nat) u,(P.flatMap (·.2))[j]?=some u→w.cell? ⟨b,off+j,none⟩=some u):=by
 have key:∀m,m≤L.length→∃P:List (α × List Value),P.map (·.1)=L.take m∧(∀p∈P,E.R w S p.1 p.2)∧∀(i:Nat) p,P[i]?=some p→∃b off,a=some ⟨b,off,none⟩∧∀(j:Nat) u,p.2[j]?=some u→w.cell? ⟨b,off+i*E.n+j,none⟩=some u:=by
  intro m
  induction m with
  | zero=>intro _;exact ⟨[],by simp,by simp,by simp⟩
  | succ m ih =>
    intro hm
    obtain ⟨P,h1,h2,h3⟩:=ih (by omega)
    obtain ⟨x,hx⟩:∃x,L[m]?=some x:=⟨_,List.getElem?_eq_getElem (by omega)⟩
    obtain ⟨b,off,cs,e,-,hR,hcs⟩:=h.at hx
    have hl:P.length=m:=by have:=congrArg List.length h1;simp at this;omega
    refine ⟨P++[(x,cs)],by rw [List.map_append,h1,List.take_add_one,hx];rfl,fun p hp=>?_,fun i p hi=>?_⟩
    · rcases List.mem_append.1 hp with hp | hp
      · exact h2 p hp
      · simp at hp;subst hp;exact hR
    · by_cases hlt:i<m
      · rw [List.getElem?_append_left (by omega)] at hi
        exact h3 i p hi
      · have:=(List.getElem?_eq_some_iff.1 hi).1
        simp at this
        have:i=m:=by omega
        subst this
        rw [List.getElem?_append_right (by omega),hl] at hi
        simp at hi
        subst hi
        exact ⟨b,off,e,hcs⟩
 obtain ⟨P,h1,h2,h3⟩:=key L.length (Nat.le_refl _)
 rw [List.take_length] at h1
 refine ⟨P,h1,h2,fun hne=>?_⟩
 obtain ⟨x,hx⟩:∃x,L[0]?=some x:=⟨_,List.getElem?_eq_getElem (List.length_pos_iff.2 hne)⟩
 obtain ⟨b,off,cs,rfl,-⟩:=h.at hx
 refine ⟨b,off,rfl,fun j u hu=>?_⟩
 have hPn:∀p∈P,p.2.length=E.n:=fun p hp=>E.len (h2 p hp)
 have hlt:=(List.getElem?_eq_some_iff.1 hu).1
 rw [flatP_len P hPn] at hlt
 have hn:0<E.n:=by
  rcases Nat.eq_zero_or_pos E.n with h0 | h0
  · rw [h0] at hlt;simp at hlt
  · exact h0
 have hm:j / E.n<P.length:=(Nat.div_lt_iff_lt_mul hn).2 hlt
 obtain ⟨p,hp⟩:∃p,P[j / E.n]?=some p:=⟨_,List.getElem?_eq_getElem hm⟩
 have e:=flatP_get P (j / E.n) (j % E.n) p hPn hp (Nat.mod_lt _ hn)
 have hj:j / E.n*E.n+j % E.n=j:=by rw [Nat.mul_comm];exact Nat.div_add_mod _ _
 rw [hj,hu] at e
 obtain ⟨b',off',e1,hcs⟩:=h3 _ p hp
 cases e1
 have:=hcs _ u e.symm
 rwa [show off+j / E.n*E.n+j % E.n=off+j by omega] at this

/-- the row v of our own holds the elements L -/
def OwnG (E:Elm α) (w:World) (base:Nat) (T:TypeId) (S:Nat→Prop) (v:Value) (L:List α):Prop :=
 ∃P:List (α × List Value),P.map (·.1)=L∧(∀p∈P,E.R w S p.1 p.2)∧w.ownsRow base T E.n v P.length (P.flatMap (·.2))
variable {base base' : Nat} {T : TypeId}
theorem OwnG.nil:OwnG E w base T S (.slice none 0 0) ([]:List α):=⟨[],rfl,by simp,World.ownsRow_nil _ _ _ _⟩
theorem OwnG.lt (h:OwnG E w base T S v L):∀k,v.ownBlock=some k→base≤k∧k<w.heap.size:=let ⟨_,_,_,h⟩:=h;h.lt
theorem OwnG.keep (h:OwnG E w base T S v L) (h1:∀g,v.ownBlock=some g→w'.heap[g]?=w.heap[g]?) (h2:∀c,S c→c<w.heap.size→w'.heap[c]?=w.heap[c]?) (h3:∀c,S c→c<w.heap.size→S' c):OwnG E w' base T S' v L :=
 let ⟨P,e1,e2,e3⟩:=h
 ⟨P,e1,fun p hp=>E.keep (e2 p hp) h2 h3,ownsRow_same e3 h1⟩
theorem OwnG.ext (h:OwnG E w base T S v L) (hE:Ext w w'):OwnG E w' base T S v L:=h.keep (fun g hg=>hE.block (h.lt g hg).2) (fun c _ hc=>hE.block hc) (fun _ h _=>h)
theorem OwnG.wide (h:OwnG E w base T S v L) (hS:∀c,S c→c<w.heap.size→S' c):OwnG E w base T S' v L:=h.keep (fun _ _=>rfl) (fun _ _ _=>rfl) hS
theorem OwnG.low (h:OwnG E w base T S v L) (hb:base'≤base):OwnG E w base' T S v L:=by
 obtain ⟨P,e1,e2,⟨h2,h3⟩⟩:=h
 refine ⟨P,e1,e2,⟨h2,?_⟩⟩
 rcases h3 with h | ⟨g,cap,cur,e,hg,h⟩
 · exact .inl h
 · exact .inr ⟨g,cap,cur,e,by omega,h⟩
theorem OwnG.slice (h:OwnG E w base T S v L):∃a cap,v=.slice a L.length cap∧L.length≤cap∧cap≤maxLen:=by
 obtain ⟨P,rfl,e2,h⟩:=h
 rcases h.2 with ⟨rfl,h0⟩ | ⟨g,cap,cur,rfl,-,-,h1,h2,-⟩
 · exact ⟨none,0,by simp [h0],by simp [h0],by unfold maxLen;omega⟩
 · exact ⟨some ⟨g,0,none⟩,cap,by simp,by simpa using h1,h2⟩
theorem OwnG.at (h:OwnG E w base T S v L) {i:Nat} {x:α} (hi:L[i]?=some x):∃g cap cs,v=.slice (some ⟨g,0,none⟩) L.length cap∧base≤g∧g<w.heap.size∧E.R w S x cs∧∀(j:Nat) u,cs[j]?=some u→w.cell? ⟨g,i*E.n+j,none⟩=some u:=by
 obtain ⟨P,rfl,e2,h⟩:=h
 rw [List.getElem?_map] at hi
 obtain ⟨p,hp,rfl⟩:=Option.map_eq_some_iff.1 hi
 have hPn:∀p∈P,p.2.length=E.n:=fun p hp=>E.len (e2 p hp)
 have hlt:=(List.getElem?_eq_some_iff.1 hp).1
 rcases h.2 with ⟨-,h0⟩ | ⟨g,cap,cur,rfl,h1,h2,h3,-⟩
 · omega
 · refine ⟨g,cap,p.2,by simp,h1,(Array.getElem?_eq_some_iff.1 h2).1,e2 p (List.mem_of_getElem? hp),fun j u hu=>?_⟩
   have hj:j<E.n:=by have:=(List.getElem?_eq_some_iff.1 hu).1;rw [hPn p (List.mem_of_getElem? hp)] at this;exact this
   have h0:=h.cells (g:=g) rfl (i*E.n+j) u (by rw [flatP_get P i j p hPn hp hj];exact hu)
   rw [add_none,Nat.zero_add] at h0
   exact h0
theorem OwnG.ls (h:OwnG E w base T S v L) (h1:∀c,S c→c<w.heap.size→S' c) (h2:∀g,v.ownBlock=some g→base≤g→g<w.heap.size→S' g):LsG E w S' v L:=by
 obtain ⟨a,cap,rfl,hl,hc⟩:=h.slice
 refine ⟨a,cap,rfl,hl,hc,fun i x hi=>?_⟩
 obtain ⟨g,cap',cs,e,hb,hg,hR,hcs⟩:=h.at hi
 cases e
 exact ⟨g,0,cs,rfl,h2 g rfl hb hg,hg,E.wide hR h1,fun j u hu=>by rw [Nat.zero_add];exact hcs j u hu⟩
theorem OwnG.any (h:OwnG E w base T S v L):LsG E w (fun _=>True) v L:=h.ls (fun _ _ _=>trivial) (fun _ _ _ _=>trivial)
theorem OwnG.new (h:OwnG E w base T S v L) (hS:∀c,S c→c<w.heap.size→base≤c):LsG E w (fun c=>base≤c) v L:=h.ls hS (fun _ _ h _=>h)
theorem OwnG.block (h:OwnG E w base T S v L) {g:Nat} (hg:v.ownBlock=some g):∃cur,w.heap[g]?=some (.cells cur T):=by
 obtain ⟨P,rfl,e2,h⟩:=h
 rcases h.2 with ⟨rfl,-⟩ | ⟨g',cap,cur,rfl,-,hc,-⟩
 · cases hg
 · cases hg;exact ⟨cur,hc⟩
/-- append to a row of our own -/
theorem appG {sl:TypeId} {z:Value} {bytes:Nat} {x:Value} {ty:TypeId} {P:Program} (hsl:P.underlying sl=some (.slice T)) (hT:(P.info? T).map (fun i=>(i.zero,i.size,i.bytes))=some (some z,E.n,bytes)) (hz:z.cells.size=E.n) (hn:0<E.n) (hby:bytes≤1000)
 (h:OwnG E w base T S v L) (hb:base≤w.heap.size) (hS:∀c,S c→v.ownBlock≠some c) (hl:L.length≤1000000) (hM:M.length≤1000000) (hx:LsE E w S x M) :
 ∃v' w',(Builtin.append_ #[sl,sl] ty #[v,x]).run P w=.ok v' w'∧OwnG E w' base T S v' (L++M)∧w.grownBy w' v.ownBlock∧(v'.ownBlock=v.ownBlock∨v'.ownBlock=some w.heap.size):=by
 obtain ⟨i0,hi0,hi1,hi2,hi3⟩:=info_parts hT
 obtain ⟨P1,rfl,e2,h2⟩:=h
 obtain ⟨xa,xc,rfl,hx1,hx2⟩:=hx.slice
 obtain ⟨Q,hQ,f1,f2⟩:=hx.entries
 have hQl:Q.length=M.length:=by rw [←hQ,List.length_map]
 have hQn:∀p∈Q,p.2.length=E.n:=fun p hp=>E.len (f1 p hp)
 simp only [List.length_map] at hl
 cases xa with
 | none =>
   have hne:M=[]:=by
    cases hM:M with
    | nil=>rfl
    | cons y M'=>obtain ⟨b,off,e,-⟩:=f2 (by rw [hM];simp);cases e
   subst hne
   refine ⟨v,w,?_,⟨P1,by simp,e2,h2⟩,⟨rfl,rfl,rfl,Nat.le_refl _,fun _ _ _=>rfl⟩,.inl rfl⟩
   have:=append_of_nil (P:=P) (c:=xc) (ty:=ty) hsl hi0 h2
   simpa using this
 | some ad =>
   obtain ⟨v',w',hr,r1,r2,r3,r4⟩:=run_append_own_at (P:=P) w base sl ty T i0 z E.n bytes hsl hi0 hi1 hi2 hi3 hz hn v P1.length (P1.flatMap (·.2)) h2 ad M.length xc (Q.flatMap (·.2)) (by rw [flatP_len Q hQn,hQl])
    (fun j u hu=>by
      have hne:M≠[]:=fun e=>by
       rw [e] at hQ
       have:Q=[]:=by simpa using hQ
       rw [this] at hu
       simp at hu
      obtain ⟨b,off,e,hc⟩:=f2 hne
      cases e
      rw [add_none];exact hc j u hu) (fun u hu=>by obtain ⟨p,hp,hu⟩:=List.mem_flatMap.1 hu;exact E.one (f1 p hp) u hu) (by unfold maxLen;omega)
    (Nat.le_trans (Nat.mul_le_mul (show P1.length+M.length≤2000000 by omega) hby) (by omega)) hb
   have hk:∀c,S c→c<w.heap.size→w'.heap[c]?=w.heap[c]?:=fun c hc hlt=>r2.block c hlt (fun e=>hS c hc e.symm)
   refine ⟨v',w',hr,⟨P1++Q,by rw [List.map_append,hQ],fun p hp=>?_,by rw [List.length_append,List.flatMap_append,hQl];exact r1⟩,r2,r4⟩
   rcases List.mem_append.1 hp with hp | hp
   · exact E.keep (e2 p hp) hk (fun _ h _=>h)
   · exact E.keep (f1 p hp) hk (fun _ h _=>h)
theorem wpList_appG {P:Program} {ops:Array Oper} {rest:List Oper} {o:Oper} {a:Act} {Q:Exit→Act→World→Prop} (hgd:o.guard=none) (sl:TypeId) (s y:Operand)
 (ho:o.op=.call { callee:=.builtin .append,args:=#[s,y],argTypes:=#[sl,sl] }) {z:Value} {bytes:Nat} {x:Value} (hs:a.eval s=v) (hy:a.eval y=x)
 (hsl:P.underlying sl=some (.slice T)) (hT:(P.info? T).map (fun i=>(i.zero,i.size,i.bytes))=some (some z,E.n,bytes)) (hz:z.cells.size=E.n) (hn:0<E.n) (hby:bytes≤1000)
 (h:OwnG E w base T S v L) (hb:base≤w.heap.size) (hS:∀c,S c→v.ownBlock≠some c) (hl:L.length≤1000000) (hM:M.length≤1000000) (hx:LsE E w S x M)
 (hK:∀v' w',OwnG E w' base T S v' (L++M)→w.grownBy w' v.ownBlock→(v'.ownBlock=v.ownBlock∨v'.ownBlock=some w.heap.size)→wpList P ops Q rest (a.put o.dst v') w') :
 wpList P ops Q (o :: rest) a w:=by
 refine wpList_plain hgd fun K hK'=>?_
 obtain ⟨v',w',hr,h1,h2,h3⟩:=appG (ty:=o.type) hsl hT hz hn hby h hb hS hl hM hx
 unfold Oper.wp execOp
 simp only [ho,resolve,invoke,builtin,Sem.run_bind,Sem.run_pure,Result.andThen_ok,List.map_toArray,List.map_cons,List.map_nil,hs,hy,hr]
 exact hK' _ _ (hK v' w' h1 h2 h3)
theorem step_appG {P:Program} {ops:Array Oper} {o:Oper} {a:Act} {K:Act→World→Prop} {Q:Exit→Act→World→Prop} {F:Prop} (hgd:o.guard=none) (sl:TypeId) (s y:Operand)
 (ho:o.op=.call { callee:=.builtin .append,args:=#[s,y],argTypes:=#[sl,sl] }) {z:Value} {bytes:Nat} {x:Value} (hs:a.eval s=v) (hy:a.eval y=x)
 (hsl:P.underlying sl=some (.slice T)) (hT:(P.info? T).map (fun i=>(i.zero,i.size,i.bytes))=some (some z,E.n,bytes)) (hz:z.cells.size=E.n) (hn:0<E.n) (hby:bytes≤1000)
 (h:OwnG E w base T S v L) (hb:base≤w.heap.size) (hS:∀c,S c→v.ownBlock≠some c) (hl:L.length≤1000000) (hM:M.length≤1000000) (hx:LsE E w S x M)
 (hK:∀v' w',OwnG E w' base T S v' (L++M)→w.grownBy w' v.ownBlock→(v'.ownBlock=v.ownBlock∨v'.ownBlock=some w.heap.size)→K (a.put o.dst v') w') :
 if Region.wanted o (yielded ops a.tmps)=true then Oper.wp P o a w K Q else F:=by
 have hw:Region.wanted o (yielded ops a.tmps)=true:=by simp [Region.wanted,hgd]
 rw [if_pos hw]
 obtain ⟨v',w',hr,h1,h2,h3⟩:=appG (ty:=o.type) hsl hT hz hn hby h hb hS hl hM hx
 unfold Oper.wp execOp
 simp only [ho,resolve,invoke,builtin,Sem.run_bind,Sem.run_pure,Result.andThen_ok,List.map_toArray,List.map_cons,List.map_nil,hs,hy,hr]
 exact hK v' w' h1 h2 h3

/-- a block of entries reads as their list -/
theorem cells_lsE {fb:Nat} {cs:Array Value} {P:List (α × List Value)} {n:Nat} (hb:w.heap[fb]?=some (.cells cs T)) (he:cs=(P.flatMap (·.2)).toArray) (hP:P.map (·.1)=L) (hn:n=L.length) (hl:L.length≤maxLen) (hR:∀p∈P,E.R w S p.1 p.2):LsE E w S (.slice (some ⟨fb,0,none⟩) n n) L:=by
 subst hn hP
 refine ⟨_,_,rfl,Nat.le_refl _,hl,fun i x hi=>?_⟩
 rw [List.getElem?_map] at hi
 obtain ⟨p,hp,rfl⟩:=Option.map_eq_some_iff.1 hi
 have hPn:∀p∈P,p.2.length=E.n:=fun p hp=>E.len (hR p hp)
 refine ⟨fb,0,p.2,rfl,lt_of_get' hb,hR p (List.mem_of_getElem? hp),fun j u hu=>?_⟩
 have hj:j<E.n:=by have:=(List.getElem?_eq_some_iff.1 hu).1;rw [hPn p (List.mem_of_getElem? hp)] at this;exact this
 rw [cellc hb,he,Nat.zero_add,List.getElem?_toArray,flatP_get P i j p hPn hp hj]
 exact hu
theorem cells_lsG {fb:Nat} {cs:Array Value} {P:List (α × List Value)} {n:Nat} (hb:w.heap[fb]?=some (.cells cs T)) (he:cs=(P.flatMap (·.2)).toArray) (hP:P.map (·.1)=L) (hn:n=L.length) (hl:L.length≤maxLen) (hS:S fb) (hR:∀p∈P,E.R w S p.1 p.2):LsG E w S (.slice (some ⟨fb,0,none⟩) n n) L:=by
 subst hn hP
 refine ⟨_,_,rfl,Nat.le_refl _,hl,fun i x hi=>?_⟩
 rw [List.getElem?_map] at hi
 obtain ⟨p,hp,rfl⟩:=Option.map_eq_some_iff.1 hi
 have hPn:∀p∈P,p.2.length=E.n:=fun p hp=>E.len (hR p hp)
 refine ⟨fb,0,p.2,rfl,hS,lt_of_get' hb,hR p (List.mem_of_getElem? hp),fun j u hu=>?_⟩
 have hj:j<E.n:=by have:=(List.getElem?_eq_some_iff.1 hu).1;rw [hPn p (List.mem_of_getElem? hp)] at this;exact this
 rw [cellc hb,he,Nat.zero_add,List.getElem?_toArray,flatP_get P i j p hPn hp hj]
 exact hu
end

end Go.Proofs.YtclijngnoepbiaaGreat

namespace Go.Proofs.YtclijngnoepbiaaGreat
open Go Go.RowKit
set_option linter.unusedVariables false
set_option linter.unusedSimpArgs false

theorem encE_one' (e:TE):∀u∈encE e,u.oneCell'=true:=fun u hu=>encE_one [e] u (by simpa using hu)
/-- terms -/
def elT:Elm Tm where
 n:=4
 R w S t cs:=∃a cap,cs=encE ⟨t,a,cap⟩∧TmW w S a cap t
 len:=by rintro w S t cs ⟨a,cap,rfl,-⟩;rfl
 one:=by rintro w S t cs ⟨a,cap,rfl,-⟩;exact encE_one' _
 keep:=by rintro w w' S S' t cs ⟨a,cap,rfl,h⟩ h1 h2;exact ⟨a,cap,rfl,h.keep h1 h2⟩
/-- numbers -/
def elI:Elm Int where
 n:=1
 R w S k cs:=cs=[.int .i64 k]∧I64 k
 len:=by rintro w S t cs ⟨rfl,-⟩;rfl
 one:=by rintro w S t cs ⟨rfl,-⟩ u hu;simp at hu;subst hu;rfl
 keep:=by rintro w w' S S' t cs ⟨rfl,h⟩ h1 h2;exact ⟨rfl,h⟩
/-- rows whose elements are slices of a kind -/
def elL {α:Type} (E:Elm α):Elm (List α) where
 n:=1
 R w S l cs:=∃v,cs=[v]∧LsG E w S v l
 len:=by rintro w S t cs ⟨v,rfl,-⟩;rfl
 one:=by
  rintro w S t cs ⟨v,rfl,h⟩ u hu
  simp at hu;subst hu
  obtain ⟨a,cap,rfl,-⟩:=h.slice
  rfl
 keep:=by
  rintro w w' S S' t cs ⟨v,rfl,h⟩ h1 h2
  refine ⟨v,rfl,?_⟩
  obtain ⟨a,cap,e,hl,hc,h⟩:=h
  refine ⟨a,cap,e,hl,hc,fun i x hi=>?_⟩
  obtain ⟨b,off,cs,e,hb,hlt,hR,hcs⟩:=h i x hi
  have hblk:=h1 b hb hlt
  have hlt':b<w'.heap.size:=by
   have h3:w.heap[b]?=some w.heap[b]:=Array.getElem?_eq_getElem hlt
   rw [←hblk] at h3
   exact (Array.getElem?_eq_some_iff.1 h3).1
  exact ⟨b,off,cs,e,h2 b hb hlt,hlt',E.keep hR h1 h2,fun j u hu=>by rw [World.cell?_of_block (a:=⟨b,off+i*E.n+j,none⟩) hblk];exact hcs j u hu⟩
section
variable {w w' : World} {S S' : Nat → Prop} {v : Value}
theorem LsG.t {L:List Tm} (h:LsG elT w S v L):LsT w S v L:=by
 obtain ⟨a,cap,e,h1,h2,h3⟩:=h
 refine ⟨a,cap,e,h1,h2,fun i x hi=>?_⟩
 obtain ⟨b,off,cs,e,hb,hlt,⟨a',cap',rfl,hW⟩,hcs⟩:=h3 i x hi
 exact ⟨b,off,e,TmAt.close (hcs 0 _ rfl) (hcs 1 _ rfl) (hcs 2 _ rfl) (hcs 3 _ rfl) hW⟩
theorem LsG.lAt {α:Type} {E:Elm α} {a:Option Addr} {n cap i:Nat} {L:List (List α)} {x:List α} (h:LsG (elL E) w S (.slice a n cap) L) (hi:L[i]?=some x):∃b off a' cap',a=some ⟨b,off,none⟩∧w.cell? ⟨b,off+i,none⟩=some (.slice a' x.length cap')∧x.length≤cap'∧cap'≤maxLen∧LsG E w S (.slice a' x.length cap') x:=by
 obtain ⟨b,off,cs,e,hb,hlt,⟨v,rfl,hW⟩,hcs⟩:=h.at hi
 have:=hcs 0 _ rfl
 have e1:off+i*(elL E).n+0=off+i:=by show off+i*1+0=_;omega
 rw [e1] at this
 obtain ⟨a',cap',rfl,h1,h2⟩:=hW.slice
 exact ⟨b,off,a',cap',e,this,h1,h2,hW⟩
end
end Go.Proofs.YtclijngnoepbiaaGreat

namespace Go.Proofs.YtclijngnoepbiaaGreat
open Go
set_option linter.unusedVariables false
set_option linter.unusedSimpArgs false

end Go.Proofs.YtclijngnoepbiaaGreat

namespace Go.Proofs.YtclijngnoepbiaaGreat
open Go Go.RowKit
set_option linter.unusedVariables false
set_option linter.unusedSimpArgs false

end Go.Proofs.YtclijngnoepbiaaGreat
