/- The elimination in memory; what a column's search and its round of subtractions keep. Contracts: the elimination of exponents: column. -/
import Derived.Test.YtclijngnoepbiaaGreatPt4
set_option maxRecDepth 100000
set_option maxHeartbeats 8000000
namespace Go.Proofs.YtclijngnoepbiaaGreat
open Go Go.RowKit
set_option linter.unusedVariables false
set_option linter.unusedSimpArgs false

/-- the blocks and values of an elimination that do not change -/
structure XeB where
 xb:Nat
 cv:Value
 ro:Option Addr
 rc:Nat
 rg:Nat
 rr:List Value
 po:Option Addr
 pc:Nat
 pg:Nat
 pr:List Value
 AD:List (Nat × Nat × Nat)
def XeB.M (B:XeB) (k:Nat):Prop:=k=B.xb∨k=B.pg∨∃a∈B.AD,k=a.1∨k=a.2.1∨k=a.2.2
/-- all blocks are different ones -/
structure XeB.Nd (B:XeB):Prop where
 x:∀a∈B.AD,(B.xb≠a.1∧B.xb≠a.2.1∧B.xb≠a.2.2)∧(B.rg≠a.1∧B.rg≠a.2.1∧B.rg≠a.2.2)∧(B.pg≠a.1∧B.pg≠a.2.1∧B.pg≠a.2.2)∧a.1≠a.2.1∧a.1≠a.2.2∧a.2.1≠a.2.2
 xr:B.xb≠B.rg∧B.xb≠B.pg∧B.rg≠B.pg
 two:∀(i j:Nat) a b,B.AD[i]?=some a→B.AD[j]?=some b→i≠j→(a.1≠b.1∧a.1≠b.2.1∧a.1≠b.2.2)∧(a.2.1≠b.1∧a.2.1≠b.2.1∧a.2.1≠b.2.2)∧(a.2.2≠b.1∧a.2.2≠b.2.1∧a.2.2≠b.2.2)
theorem ne3 {k p q r:Nat} (h1:k≠p) (h2:k≠q) (h3:k≠r):¬(k=p∨k=q∨k=r):=by
 rintro (h | h | h)
 · exact h1 h
 · exact h2 h
 · exact h3 h
def ptrA (a:Nat × Nat × Nat):Value:=.pointer (some ⟨a.1,0,none⟩)
/-- an elimination in memory -/
structure XeAt (w:World) (B:XeB) (R:List ERow) (P:List Int) (lg:Bool):Prop where
 x:w.heap[B.xb]?=some (.cells #[B.cv,.slice B.ro R.length B.rc,.slice B.po P.length B.pc,.bool lg] 74)
 rows:R≠[]→B.ro=some ⟨B.rg,0,none⟩∧w.heap[B.rg]?=some (.cells (B.AD.map ptrA++B.rr).toArray 59)
 piv:P≠[]→B.po=some ⟨B.pg,0,none⟩∧w.heap[B.pg]?=some (.cells (P.map (Value.int .i64)++B.pr).toArray 3)
 al:B.AD.length=R.length
 row:∀(i:Nat) ad r,B.AD[i]?=some ad→R[i]?=some r→RowAt w ad r
theorem XeAt.ext {w w':World} {B:XeB} {R:List ERow} {P:List Int} {lg:Bool} (h:XeAt w B R P lg) (hE:Ext w w'):XeAt w' B R P lg :=
 ⟨hs_ext hE h.x,fun e=>⟨(h.rows e).1,hs_ext hE (h.rows e).2⟩,fun e=>⟨(h.piv e).1,hs_ext hE (h.piv e).2⟩,h.al,fun i ad r h1 h2=>⟨hs_ext hE (h.row i ad r h1 h2).row,hs_ext hE (h.row i ad r h1 h2).pw,hs_ext hE (h.row i ad r h1 h2).ks⟩⟩
theorem XeAt.adr {w:World} {B:XeB} {R:List ERow} {P:List Int} {lg:Bool} (h:XeAt w B R P lg) {i:Nat} {r:ERow} (hr:R[i]?=some r):∃ad,B.AD[i]?=some ad∧RowAt w ad r∧w.cell? ⟨B.rg,i,none⟩=some (.pointer (some ⟨ad.1,0,none⟩))∧B.ro=some ⟨B.rg,0,none⟩:=by
 have hlt:i<B.AD.length:=by rw [h.al];exact (List.getElem?_eq_some_iff.1 hr).1
 refine ⟨_,List.getElem?_eq_getElem hlt,h.row i _ r (List.getElem?_eq_getElem hlt) hr,?_,(h.rows (by rintro rfl;simp at hr)).1⟩
 have hrow:=(h.rows (by rintro rfl;simp at hr)).2
 rw [cellc hrow,List.getElem?_toArray,List.getElem?_append_left (by rw [List.length_map];exact hlt),List.getElem?_map,List.getElem?_eq_getElem hlt]
 rfl
theorem XeAt.pcell {w:World} {B:XeB} {R:List ERow} {P:List Int} {lg:Bool} (h:XeAt w B R P lg) {c:Nat} (hc:c<P.length):w.cell? ⟨B.pg,c,none⟩=some (.int .i64 (gt P c))∧B.po=some ⟨B.pg,0,none⟩:=by
 have hne:P≠[]:=by rintro rfl;simp at hc
 refine ⟨?_,(h.piv hne).1⟩
 rw [cellc (h.piv hne).2,List.getElem?_toArray,List.getElem?_append_left (by rw [List.length_map];exact hc),List.getElem?_map,List.getElem?_eq_getElem hc]
 unfold gt
 rw [List.getD_eq_getElem?_getD,List.getElem?_eq_getElem hc]
 rfl
theorem gt_at {p:List Int} {c:Nat} (h:c<p.length):p[c]?=some (gt p c):=by
 unfold gt
 rw [List.getD_eq_getElem?_getD,List.getElem?_eq_getElem h]
 rfl
/-- the row of a block after a subtraction from it -/
theorem XeAt.sub {w w':World} {B:XeB} {R:List ERow} {P:List Int} {lg lg':Bool} (h:XeAt w B R P lg) (hN:B.Nd) {i:Nat} {ad:Nat × Nat × Nat} {r:ERow} (hi:B.AD[i]?=some ad) (hr:R[i]?=some r) {p k:List Int} (hpl:p.length=r.p.length) (hkl:k.length=r.k.length)
 (hC:Chg (fun q=>q=ad.2.1∨q=ad.2.2∨q=B.xb) w w') (hx:w'.heap[B.xb]?=some (.cells #[B.cv,.slice B.ro R.length B.rc,.slice B.po P.length B.pc,.bool lg'] 74)) (hp:w'.heap[ad.2.1]?=some (.cells (intsC p) 3)) (hk:w'.heap[ad.2.2]?=some (.cells (intsC k) 3)) :
 XeAt w' B (R.set i ⟨p,k,r.u⟩) P lg':=by
 have hm:=List.mem_of_getElem? hi
 have hx1:=hN.x ad hm
 have hilt:=(List.getElem?_eq_some_iff.1 hr).1
 refine ⟨by rw [List.length_set];exact hx,fun hne=>?_,fun hne=>?_,by rw [List.length_set];exact h.al,fun j bd s hj hs=>?_⟩
 · have h1:=h.rows (by rintro rfl;simp at hr)
   exact ⟨h1.1,hC.keep h1.2 (ne3 hx1.2.1.2.1 hx1.2.1.2.2 (fun e=>hN.xr.1 e.symm))⟩
 · have h1:=h.piv hne
   exact ⟨h1.1,hC.keep h1.2 (ne3 hx1.2.2.1.2.1 hx1.2.2.1.2.2 (fun e=>hN.xr.2.1 e.symm))⟩
 · by_cases e:j=i
   · subst e
     rw [hi] at hj
     cases hj
     rw [List.getElem?_set_self hilt] at hs
     cases hs
     have h1:=h.row j ad r hi hr
     exact ⟨by have h2:=hC.keep h1.row (ne3 hx1.2.2.2.1 hx1.2.2.2.2.1 (fun e=>hx1.1.1 e.symm));show _=some (Obj.cells #[.slice (some ⟨ad.2.1,0,none⟩) p.length p.length,.slice (some ⟨ad.2.2,0,none⟩) k.length k.length,.bool r.u] _);rw [hpl,hkl];exact h2,hp,hk⟩
   · rw [List.getElem?_set_ne (fun e'=>e e'.symm)] at hs
     have h1:=h.row j bd s hj hs
     have hd:=hN.two j i bd ad hj hi e
     have hx2:=hN.x bd (List.mem_of_getElem? hj)
     exact ⟨hC.keep h1.row (ne3 hd.1.2.1 hd.1.2.2 (fun e=>hx2.1.1 e.symm)),hC.keep h1.pw (ne3 hd.2.1.2.1 hd.2.1.2.2 (fun e=>hx2.1.2.1 e.symm)),hC.keep h1.ks (ne3 hd.2.2.2.1 hd.2.2.2.2 (fun e=>hx2.1.2.2 e.symm))⟩
theorem Chg.xeB {B:XeB} {w w':World} {i:Nat} {ad:Nat × Nat × Nat} (hi:B.AD[i]?=some ad) (hC:Chg (fun q=>q=ad.2.1∨q=ad.2.2∨q=B.xb) w w'):Chg B.M w w' :=
 hC.wide (fun k _ h=>by
  rcases h with h | h | h
  · exact .inr (.inr ⟨ad,List.mem_of_getElem? hi,.inr (.inl h)⟩)
  · exact .inr (.inr ⟨ad,List.mem_of_getElem? hi,.inr (.inr h)⟩)
  · exact .inl h)
theorem XeB.Nd.seven {B:XeB} (hN:B.Nd) {i j:Nat} {a b:Nat × Nat × Nat} (hi:B.AD[i]?=some a) (hj:B.AD[j]?=some b) (h:i≠j):[B.xb,a.1,a.2.1,a.2.2,b.1,b.2.1,b.2.2].Nodup:=by
 have h1:=hN.x a (List.mem_of_getElem? hi)
 have h2:=hN.x b (List.mem_of_getElem? hj)
 have h3:=hN.two i j a b hi hj h
 simp only [List.nodup_cons,List.mem_cons,List.not_mem_nil,or_false,not_or,not_false_eq_true,List.nodup_nil,and_true]
 exact ⟨⟨h1.1.1,h1.1.2.1,h1.1.2.2,h2.1.1,h2.1.2.1,h2.1.2.2⟩,⟨h1.2.2.2.1,h1.2.2.2.2.1,h3.1.1,h3.1.2.1,h3.1.2.2⟩,⟨h1.2.2.2.2.2,h3.2.1.1,h3.2.1.2.1,h3.2.1.2.2⟩,⟨h3.2.2.1,h3.2.2.2.1,h3.2.2.2.2⟩,⟨h2.2.2.2.1,h2.2.2.2.2.1⟩,h2.2.2.2.2.2⟩
/-- the search of a column: rows seen so far -/
def CntR (R:List ERow) (c j:Nat) (best count:Int):Prop :=
 (0≤count∧count≤j)∧((count=0∧best=-1∧∀(i:Nat) r,i<j→R[i]?=some r→r.u=false→gt r.p c=0) ∨
 (1≤count∧∃(b:Nat) (y:ERow),b<j∧best=b∧R[b]?=some y∧y.u=false∧gt y.p c≠0∧(∀(i:Nat) r,i<j→R[i]?=some r→r.u=false→gt r.p c≠0→absI (gt y.p c)≤absI (gt r.p c)) ∧
   (count=1→∀(i:Nat) r,i<j→i≠b→R[i]?=some r→r.u=false→gt r.p c=0) ∧
   (2≤count→∃(i:Nat) (r:ERow),i<j∧i≠b∧R[i]?=some r∧r.u=false∧gt r.p c≠0)))
theorem CntR.zero (R:List ERow) (c:Nat):CntR R c 0 (-1) 0:=⟨by omega,.inl ⟨rfl,rfl,fun i r h=>absurd h (by omega)⟩⟩
theorem CntR.skip {R:List ERow} {c j:Nat} {best count:Int} (h:CntR R c j best count) {r:ERow} (hr:R[j]?=some r) (hs:r.u=true∨gt r.p c=0):CntR R c (j+1) best count:=by
 obtain ⟨h0,h | ⟨h1,b,y,g1,g2,g3,g4,g5,g6,g7,g8⟩⟩:=h
 · refine ⟨by omega,.inl ⟨h.1,h.2.1,fun i s hi hs' hu=>?_⟩⟩
   by_cases e:i=j
   · subst e;rw [hr] at hs';cases hs';rcases hs with hs | hs
     · rw [hs] at hu;cases hu
     · exact hs
   · exact h.2.2 i s (by omega) hs' hu
 · refine ⟨by omega,.inr ⟨h1,b,y,by omega,g2,g3,g4,g5,fun i s hi hs' hu hz=>?_,fun hc i s hi hne hs' hu=>?_,fun hc=>?_⟩⟩
   · by_cases e:i=j
     · subst e;rw [hr] at hs';cases hs';rcases hs with hs | hs
       · rw [hs] at hu;cases hu
       · exact absurd hs hz
     · exact g6 i s (by omega) hs' hu hz
   · by_cases e:i=j
     · subst e;rw [hr] at hs';cases hs';rcases hs with hs | hs
       · rw [hs] at hu;cases hu
       · exact hs
     · exact g7 hc i s (by omega) hne hs' hu
   · obtain ⟨i,s,k1,k2⟩:=g8 hc
     exact ⟨i,s,by omega,k2⟩
/-- a further row, which becomes the best one -/
theorem CntR.best {R:List ERow} {c j:Nat} {best count:Int} (h:CntR R c j best count) {r:ERow} (hr:R[j]?=some r) (hu:r.u=false) (hz:gt r.p c≠0) (hb:best<0∨∀(b:Nat) (y:ERow),best=b→R[b]?=some y→absI (gt r.p c)<absI (gt y.p c)):CntR R c (j+1) j (count+1):=by
 obtain ⟨h0,h | ⟨h1,b,y,g1,g2,g3,g4,g5,g6,g7,g8⟩⟩:=h
 · refine ⟨by omega,.inr ⟨by omega,j,r,by omega,rfl,hr,hu,hz,fun i s hi hs hu' hz'=>?_,fun hc i s hi hne hs hu'=>h.2.2 i s (by omega) hs hu',fun hc=>by omega⟩⟩
   by_cases e:i=j
   · subst e;rw [hr] at hs;cases hs;exact Int.le_refl _
   · exact absurd (h.2.2 i s (by omega) hs hu') hz'
 · have hlt:absI (gt r.p c)<absI (gt y.p c):=by
    rcases hb with hb | hb
    · omega
    · exact hb b y g2 g3
   refine ⟨by omega,.inr ⟨by omega,j,r,by omega,rfl,hr,hu,hz,fun i s hi hs hu' hz'=>?_,fun hc=>by omega,fun hc=>⟨b,y,by omega,by omega,g3,g4,g5⟩⟩⟩
   by_cases e:i=j
   · subst e;rw [hr] at hs;cases hs;exact Int.le_refl _
   · have:=g6 i s (by omega) hs hu' hz'
     omega
/-- a further row, which does not -/
theorem CntR.keep {R:List ERow} {c j:Nat} {count:Int} {b:Nat} {y:ERow} (h:CntR R c j b count) {r:ERow} (hr:R[j]?=some r) (hu:r.u=false) (hz:gt r.p c≠0) (hy:R[b]?=some y) (hb:absI (gt y.p c)≤absI (gt r.p c)):CntR R c (j+1) b (count+1):=by
 obtain ⟨h0,h | ⟨h1,b',y',g1,g2,g3,g4,g5,g6,g7,g8⟩⟩:=h
 · omega
 · have e:b'=b:=by omega
   subst e
   rw [hy] at g3
   cases g3
   refine ⟨by omega,.inr ⟨by omega,b',y,by omega,rfl,hy,g4,g5,fun i s hi hs hu' hz'=>?_,fun hc=>by omega,fun hc=>⟨j,r,by omega,by omega,hr,hu,hz⟩⟩⟩
   by_cases e:i=j
   · subst e;rw [hr] at hs;cases hs;exact hb
   · exact g6 i s (by omega) hs hu' hz'
/-- the weight of a column -/
def wtR (c:Nat) (r:ERow):Nat:=if r.u then 0 else (gt r.p c).natAbs
def wt (c:Nat) (R:List ERow):Nat:=(R.map (wtR c)).sum
theorem sum_lt:∀{A B:List Nat},A.length=B.length→(∀(i:Nat) a b,A[i]?=some a→B[i]?=some b→a≤b)→(A.sum≤B.sum)∧((∃(i:Nat) (a b:Nat),A[i]?=some a∧B[i]?=some b∧a<b)→A.sum<B.sum):=by
 intro A
 induction A with
 | nil=>intro B hl _;cases B with
   | nil=>exact ⟨Nat.le_refl _,fun ⟨i,a,b,h,_⟩=>by simp at h⟩
   | cons b B=>simp at hl
 | cons a A ih =>
   intro B hl h
   cases B with
   | nil=>simp at hl
   | cons b B =>
     have h0:=h 0 a b rfl rfl
     obtain ⟨i1,i2⟩:=ih (B:=B) (by simpa using hl) (fun i x y hx hy=>h (i+1) x y hx hy)
     rw [List.sum_cons,List.sum_cons]
     refine ⟨by omega,fun ⟨i,x,y,hx,hy,hlt⟩=>?_⟩
     cases i with
     | zero =>
       have ex:a=x:=by simpa using hx
       have ey:b=y:=by simpa using hy
       omega
     | succ i =>
       have:=i2 ⟨i,x,y,hx,hy,hlt⟩
       omega
/-- a cell's weight, read from the world -/
def rowN (w:World) (c:Nat) (a:Nat × Nat × Nat):Nat:=match w.cell? ⟨a.1,2,none⟩,w.cell? ⟨a.2.1,c,none⟩ with | some (.bool false),some (.int _ x)=>x.natAbs | _,_=>0
def muW (B:XeB) (c:Nat) (w:World):Nat:=match w.cell? ⟨B.xb,3,none⟩ with | some (.bool true)=>0 | _=>1+(B.AD.map (rowN w c)).sum
theorem XeAt.mu {w:World} {B:XeB} {R:List ERow} {P:List Int} {c:Nat} (h:XeAt w B R P false) (hl:∀r∈R,c<r.p.length):muW B c w=1+wt c R:=by
 have hx:w.cell? ⟨B.xb,3,none⟩=some (.bool false):=by rw [cellc h.x];rfl
 unfold muW wt
 rw [hx]
 show 1+_=1+_
 congr 1
 congr 1
 refine List.ext_getElem? (fun i=>?_)
 rw [List.getElem?_map,List.getElem?_map]
 by_cases hi:i<R.length
 · have hia:i<B.AD.length:=by rw [h.al];exact hi
   rw [List.getElem?_eq_getElem hi,List.getElem?_eq_getElem hia]
   have hr:=h.row i _ _ (List.getElem?_eq_getElem hia) (List.getElem?_eq_getElem hi)
   have hm:R[i]∈R:=List.getElem_mem hi
   have h2:w.cell? ⟨(B.AD[i]).1,2,none⟩=some (.bool (R[i]).u):=by rw [cellc hr.row];rfl
   have h3:=intsC_at hr.pw (gt_at (hl _ hm))
   show some (rowN w c _)=some (wtR c _)
   unfold rowN wtR
   rw [h2,h3]
   cases (R[i]).u<;>rfl
 · have e1:B.AD[i]?=none:=List.getElem?_eq_none (by rw [h.al];omega)
   have e2:R[i]?=none:=List.getElem?_eq_none (by omega)
   rw [e1,e2]
   rfl
theorem XeAt.mu0 {w:World} {B:XeB} {R:List ERow} {P:List Int} {c:Nat} (h:XeAt w B R P true):muW B c w=0:=by
 have hx:w.cell? ⟨B.xb,3,none⟩=some (.bool true):=by rw [cellc h.x];rfl
 unfold muW
 rw [hx]
/-- a round of subtractions: rows ahead of j are done -/
structure SubsR (n:Nat) (G:List (List Int)) (c b:Nat) (y:ERow) (R0:List ERow) (P:List Int) (j:Nat) (R:List ERow) (lg:Bool):Prop where
 len:R.length=R0.length
 best:R[b]?=some y
 same:∀(i:Nat) r r0,R[i]?=some r→R0[i]?=some r0→r.u=r0.u∧r.p.length=r0.p.length∧r.k.length=r0.k.length
 later:∀i,j≤i→R[i]?=R0[i]?
 inv:lg=false→EInv n G c R P
 le:lg=false→∀(i:Nat) r r0,R[i]?=some r→R0[i]?=some r0→wtR c r≤wtR c r0∧(i<j→i≠b→r0.u=false→gt r0.p c≠0→wtR c r<wtR c y)
theorem SubsR.start {n c b:Nat} {G:List (List Int)} {y:ERow} {R:List ERow} {P:List Int} (h:EInv n G c R P) (hy:R[b]?=some y):SubsR n G c b y R P 0 R false :=
 ⟨rfl,hy,fun i r r0 h1 h2=>by rw [h1] at h2;cases h2;exact ⟨rfl,rfl,rfl⟩,fun i _=>rfl,fun _=>h,fun _ i r r0 h1 h2=>by rw [h1] at h2;cases h2;exact ⟨Nat.le_refl _,fun h=>absurd h (by omega)⟩⟩
/-- a row that is left as it is -/
theorem SubsR.skip {n c b j:Nat} {G:List (List Int)} {y r:ERow} {R0 R:List ERow} {P:List Int} {lg:Bool} (h:SubsR n G c b y R0 P j R lg) (hr:R[j]?=some r) (hs:lg=false→j=b∨r.u=true∨gt r.p c=0):SubsR n G c b y R0 P (j+1) R lg:=by
 refine ⟨h.len,h.best,h.same,fun i hi=>h.later i (by omega),h.inv,fun hl i s s0 h1 h2=>?_⟩
 obtain ⟨g1,g2⟩:=h.le hl i s s0 h1 h2
 refine ⟨g1,fun hi hne hu hz=>?_⟩
 by_cases e:i=j
 · subst e
   have e2:=h.later i (Nat.le_refl _)
   rw [h1,h2] at e2
   cases e2
   rw [hr] at h1
   cases h1
   rcases hs hl with h3 | h3 | h3
   · exact absurd h3 hne
   · rw [h3] at hu;cases hu
   · exact absurd h3 hz
 · exact g2 (by omega) hne hu hz
theorem tdiv_small {a b:Int} (hb:b≠0) (h:absI b≤absI a):(a-Int.tdiv a b*b).natAbs<b.natAbs:=by
 have h1:a-Int.tdiv a b*b=Int.tmod a b:=by
  have:=Int.tmod_add_tdiv_mul a b
  omega
 rw [h1]
 rw [Int.natAbs_tmod]
 exact Nat.mod_lt _ (by omega)
/-- a row from which a multiple of the best one was subtracted -/
theorem SubsR.sub {n c b j:Nat} {G:List (List Int)} {y r:ERow} {R0 R:List ERow} {P p k:List Int} {lg:Bool} (h:SubsR n G c b y R0 P j R false) (hr:R[j]?=some r) (hjb:j≠b) (hu:r.u=false) (hyu:y.u=false) (hy0:gt y.p c≠0) (hab:absI (gt y.p c)≤absI (gt r.p c)) (hl:r.p.length=y.p.length)
 (hpl:p.length=r.p.length) (hkl:k.length=r.k.length) (ho:lg=false→(p=subL r.p y.p (Int.tdiv (gt r.p c) (gt y.p c))∧B40 p)∧k=subL r.k y.k (Int.tdiv (gt r.p c) (gt y.p c))∧B40 k):SubsR n G c b y R0 P (j+1) (R.set j ⟨p,k,r.u⟩) lg:=by
 have hj:=(List.getElem?_eq_some_iff.1 hr).1
 have hr0:R0[j]?=some r:=by rw [←h.later j (Nat.le_refl _)];exact hr
 refine ⟨by rw [List.length_set];exact h.len,by rw [List.getElem?_set_ne hjb];exact h.best,fun i s s0 h1 h2=>?_,fun i hi=>by rw [List.getElem?_set_ne (by omega)];exact h.later i (by omega),fun hlg=>?_,fun hlg i s s0 h1 h2=>?_⟩
 · by_cases e:i=j
   · subst e
     rw [List.getElem?_set_self hj] at h1
     rw [hr0] at h2
     cases h1;cases h2
     exact ⟨rfl,hpl,hkl⟩
   · rw [List.getElem?_set_ne (fun e'=>e e'.symm)] at h1
     exact h.same i s s0 h1 h2
 · obtain ⟨⟨o1,o2⟩,o3,o4⟩:=ho hlg
   have:=(h.inv rfl).sub (q:=Int.tdiv (gt r.p c) (gt y.p c)) hjb hr h.best hu hyu (by rw [←o1];exact o2) (by rw [←o3];exact o4)
   rw [←o1,←o3] at this
   rw [hu]
   exact this
 · by_cases e:i=j
   · subst e
     rw [List.getElem?_set_self hj] at h1
     rw [hr0] at h2
     cases h1;cases h2
     obtain ⟨⟨o1,o2⟩,o3,o4⟩:=ho hlg
     have hs:wtR c ⟨p,k,r.u⟩<wtR c y:=by
      unfold wtR
      rw [hu,hyu]
      show (gt p c).natAbs<(gt y.p c).natAbs
      rw [o1,gt_sub hl]
      exact tdiv_small hy0 hab
     have hs2:wtR c y≤wtR c r:=by
      unfold wtR
      rw [hu,hyu]
      show (gt y.p c).natAbs≤(gt r.p c).natAbs
      unfold absI at hab
      omega
     exact ⟨by omega,fun _ _ _ _=>hs⟩
   · rw [List.getElem?_set_ne (fun e'=>e e'.symm)] at h1
     obtain ⟨g1,g2⟩:=h.le rfl i s s0 h1 h2
     exact ⟨g1,fun hi hne hu' hz=>g2 (by omega) hne hu' hz⟩
/-- the weight falls -/
theorem SubsR.less {n c b:Nat} {G:List (List Int)} {y:ERow} {R0 R:List ERow} {P:List Int} (h:SubsR n G c b y R0 P R0.length R false) {best count:Int} (hC:CntR R0 c R0.length best count) (hb:best=b) (hy:R0[b]?=some y) (h2:2≤count):wt c R<wt c R0:=by
 obtain ⟨h0,hc | ⟨h1,b',y',g1,g2,g3,g4,g5,g6,g7,g8⟩⟩:=hC
 · omega
 · have e:b'=b:=by omega
   subst e
   rw [hy] at g3
   cases g3
   obtain ⟨i,r,k1,k2,k3,k4,k5⟩:=g8 h2
   have hmap:∀(L:List ERow) (i:Nat) x,(L.map (wtR c))[i]?=some x→∃r,L[i]?=some r∧x=wtR c r:=fun L i x hx=>by
    rw [List.getElem?_map] at hx
    cases hq:L[i]? with
    | none=>rw [hq] at hx;cases hx
    | some r=>rw [hq] at hx;cases hx;exact ⟨r,rfl,rfl⟩
   unfold wt
   refine (sum_lt (by rw [List.length_map,List.length_map];exact h.len) (fun i a a0 ha ha0=>?_)).2 ?_
   · obtain ⟨s,hs,rfl⟩:=hmap R i a ha
     obtain ⟨s0,hs0,rfl⟩:=hmap R0 i a0 ha0
     exact (h.le rfl i s s0 hs hs0).1
   · have hi:i<R.length:=by rw [h.len];exact k1
     obtain ⟨s,hs⟩:∃s,R[i]?=some s:=⟨_,List.getElem?_eq_getElem hi⟩
     refine ⟨i,wtR c s,wtR c r,by rw [List.getElem?_map,hs];rfl,by rw [List.getElem?_map,k3];rfl,?_⟩
     have h3:=(h.le rfl i s r hs k3).2 k1 k2 k4 k5
     have h4:=g6 i r k1 k3 k4 k5
     have h5:wtR c y≤wtR c r:=by
      unfold wtR
      rw [g4,k4]
      show (gt y.p c).natAbs≤(gt r.p c).natAbs
      unfold absI at h4
      omega
     omega

/-- the state of column's outer loop -/
structure ColI (w wr:World) (B:XeB) (G:List (List Int)) (n c nr:Nat) (R:List ERow) (P:List Int) (lg:Bool):Prop where
 chg:Chg B.M w wr
 el:XeAt wr B R P lg
 inv:lg=false→EInv n G c R P
 lr:R.length=nr
 pl:P.length=n
 rl:∀r∈R,r.p.length=n
/-- what column leaves -/
def ColR (w:World) (B:XeB) (G:List (List Int)) (n c:Nat) (w':World):Prop:=∃R P lg,Chg B.M w w'∧XeAt w' B R P lg∧(lg=false→EInv n G (c+1) R P)
/-- the pivot is written, the row is marked -/
theorem XeAt.take {w:World} {B:XeB} {R:List ERow} {P:List Int} {lg:Bool} (h:XeAt w B R P lg) (hN:B.Nd) {b c:Nat} {y:ERow} {ad:Nat × Nat × Nat} (hy:R[b]?=some y) (ha:B.AD[b]?=some ad) (hc:c<P.length) :
 XeAt ((w.setCell ⟨B.pg,c,none⟩ (.int .i64 b)).setCell ⟨ad.1,2,none⟩ (.bool true)) B (R.set b ⟨y.p,y.k,true⟩) (P.set c b) lg∧Chg B.M w ((w.setCell ⟨B.pg,c,none⟩ (.int .i64 b)).setCell ⟨ad.1,2,none⟩ (.bool true)):=by
 have hm:=List.mem_of_getElem? ha
 have hx1:=hN.x ad hm
 have hblt:=(List.getElem?_eq_some_iff.1 hy).1
 have hPne:P≠[]:=by rintro rfl;simp at hc
 have hoth:∀k,k≠B.pg→k≠ad.1→((w.setCell ⟨B.pg,c,none⟩ (.int .i64 b)).setCell ⟨ad.1,2,none⟩ (.bool true)).heap[k]?=w.heap[k]?:=fun k h1 h2=>(heap_setCell_other _ _ _ _ h2).trans (heap_setCell_other _ _ _ _ h1)
 refine ⟨⟨?_,fun hne=>?_,fun hne=>?_,by rw [List.length_set];exact h.al,fun j bd s hj hs=>?_⟩,((Chg.refl B.M w).set (.inr (.inl rfl)) _).set (.inr (.inr ⟨ad,hm,.inl rfl⟩)) _⟩
 · rw [hoth _ hN.xr.2.1 hx1.1.1,List.length_set,List.length_set];exact h.x
 · have h1:=h.rows (by rintro rfl;simp at hy)
   exact ⟨h1.1,by rw [hoth _ hN.xr.2.2 hx1.2.1.1];exact h1.2⟩
 · have h1:=h.piv hPne
   refine ⟨h1.1,(heap_setCell_other _ _ _ _ hx1.2.2.1.1).trans ?_⟩
   rw [heap_setCell_same w B.pg c _ _ _ h1.2]
   congr 2
   rw [List.setIfInBounds_toArray,List.set_append_left _ _ (by rw [List.length_map];exact hc),List.map_set]
 · by_cases e:j=b
   · subst e
     rw [ha] at hj
     cases hj
     rw [List.getElem?_set_self hblt] at hs
     cases hs
     have h1:=h.row j ad y ha hy
     have h2:(w.setCell ⟨B.pg,c,none⟩ (.int .i64 j)).heap[ad.1]?=_:=(heap_setCell_other _ _ _ _ (fun e=>hx1.2.2.1.1 e.symm)).trans h1.row
     exact ⟨by rw [heap_setCell_same _ ad.1 2 _ _ _ h2];rfl,by rw [hoth _ (fun e=>hx1.2.2.1.2.1 e.symm) (fun e=>hx1.2.2.2.1 e.symm)];exact h1.pw,by rw [hoth _ (fun e=>hx1.2.2.1.2.2 e.symm) (fun e=>hx1.2.2.2.2.1 e.symm)];exact h1.ks⟩
   · rw [List.getElem?_set_ne (fun e'=>e e'.symm)] at hs
     have h1:=h.row j bd s hj hs
     have hd:=hN.two j b bd ad hj ha e
     have hx2:=hN.x bd (List.mem_of_getElem? hj)
     exact ⟨by rw [hoth _ (fun e=>hx2.2.2.1.1 e.symm) hd.1.1];exact h1.row,by rw [hoth _ (fun e=>hx2.2.2.1.2.1 e.symm) hd.2.1.1];exact h1.pw,by rw [hoth _ (fun e=>hx2.2.2.1.2.2 e.symm) hd.2.2.1];exact h1.ks⟩
theorem XeAt.large {w:World} {B:XeB} {R:List ERow} {P:List Int} {lg:Bool} (h:XeAt w B R P lg):w.cell? ⟨B.xb,3,none⟩=some (.bool lg):=by rw [cellc h.x];rfl
theorem absI_tdiv {a b:Int} (h:-1099511627776≤a∧a≤1099511627776):-1099511627776≤Int.tdiv a b∧Int.tdiv a b≤1099511627776:=by
 have h1:(Int.tdiv a b).natAbs≤a.natAbs:=by rw [Int.natAbs_tdiv];exact Nat.div_le_self _ _
 omega
theorem ecolumn_any {w : World} {B:XeB} {R:List ERow} {P:List Int} {G:List (List Int)} {n c:Nat} (hN:B.Nd) (hE:XeAt w B R P false) (hI:EInv n G c R P) (hc:c<n) (hn:n≤1000) (hg:G.length≤1000) :
 Calls Tryz.prog 94 #[.pointer (some ⟨B.xb,0,none⟩),.int .i64 c] w fun e w'=>e=.returned (.tuple #[])∧ColR w B G n c w':=by
 have HN:=Lib.hid hN
 have HS0:Hid (∃R P lg,ColI w w B G n c G.length R P lg):=Lib.hid ⟨R,P,false,Chg.refl _ _,hE,fun _=>hI,hI.rl,hI.pl,fun r hr=>(hI.len r hr).1⟩
 obtain ⟨nr,hnr⟩:∃nr,nr=G.length:=⟨_,rfl⟩
 rw [←hnr] at HS0 hg
 have hcz:(c:Int)<(n:Int):=by omega
 have hc0:(0:Int)≤(c:Int):=by omega
 obtain ⟨xb,hxb⟩:∃xb,xb=B.xb:=⟨_,rfl⟩
 obtain ⟨ro,hro⟩:∃ro,ro=B.ro:=⟨_,rfl⟩
 rw [←hxb]
 have HXB:=Lib.hid hxb
 have HRO:=Lib.hid hro
 have HNR:=Lib.hid hnr
 clear hN hE hI hxb hro hnr
 go_enter Tryz.func94,Tryz.ntmps94
 go_wp2_with fail
 go_loopw [4,5,6,7,8,9,20,95] (fun _ _ _ _ _ _ _ _ wr=>Hid (∃R P lg,ColI w wr B G n c nr R P lg)) (fun _ _ _ _ _ _ _ _ wr=>muW B c wr)
 case atStart=>exact HS0
 case round =>
  obtain ⟨R,P,lg,hS⟩:=hrel.out
  clear hrel
  have HS:=Lib.hid hS
  have x3:wr.cell? ⟨xb,3,none⟩=some (.bool lg):=by rw [HXB.out];exact hS.el.large
  clear hS
  cases lg with
  | true =>
    have HFR:Hid (ColR w B G n c wr):=Lib.hid ⟨R,P,true,HS.out.chg,HS.out.el,fun h=>by cases h⟩
    go_wp2_with fail
    go_end0
    exact ⟨rfl,HFR.out⟩
  | false =>
    have x1:wr.cell? ⟨xb,1,none⟩=some (.slice ro nr B.rc):=by rw [HXB.out,HRO.out,cellc HS.out.el.x,←HS.out.lr];rfl
    have HMU:Hid (muW B c wr=1+wt c R):=Lib.hid (HS.out.el.mu (fun r hr=>by rw [HS.out.rl r hr];exact hc))
    have HMUO:=HMU
    go_upto_region 3 with fail
    obtain ⟨w0,hw0⟩:∃w0,w0=wr:=⟨_,rfl⟩
    have HE0:Hid (Ext w0 wr):=Lib.hid (by rw [hw0];exact Ext.refl _)
    rw [←hw0] at HS HMU
    clear hw0 x1 x3
    go_loopw [4,5,6,7,20] (fun bv cv _ _ jv wi=>∃(j:Nat) (best cnt:Int),jv=.int .i64 j∧bv=.int .i64 best∧cv=.int .i64 cnt∧j≤nr∧0≤cnt∧cnt≤j∧Hid (CntR R c j best cnt)∧Hid (Ext w0 wi)) (fun _ _ _ _ jv _=>nr-(intOf jv).toNat)
    case atStart=>exact ⟨0,-1,0,rfl,rfl,rfl,by omega,by omega,by omega,Lib.hid (CntR.zero R c),HE0⟩
    case round =>
     obtain ⟨j,best,cnt,rfl,rfl,rfl,hj,hc1,hc2,HCN,HEI⟩:=hrel
     by_cases hlt:j<nr
     · have hji : (j:Int)<(nr:Int):=by omega
       have hj0:(0:Int)≤(j:Int):=by omega
       obtain ⟨r,hr⟩:∃r,R[j]?=some r:=⟨_,List.getElem?_eq_getElem (by have:=HS.out.lr;omega)⟩
       obtain ⟨⟨q1,pa,ka⟩,had,hrow,hcell,hro⟩:=HS.out.el.adr hr
       have hro2:ro=some ⟨B.rg,0,none⟩:=HRO.out.trans hro
       subst hro2
       have rn:=HS.out.rl r (List.mem_of_getElem? hr)
       obtain ⟨a,ha⟩:∃a,a=gt r.p c:=⟨_,rfl⟩
       have p0:wr.cell? ⟨B.rg,j,none⟩=some (.pointer (some ⟨q1,0,none⟩)):=cs_ext HEI.out hcell
       have r2:wr.cell? ⟨q1,2,none⟩=some (.bool r.u):=cs_ext HEI.out (by rw [cellc hrow.row];rfl)
       have r0:wr.cell? ⟨q1,0,none⟩=some (.slice (some ⟨pa,0,none⟩) n n):=cs_ext HEI.out (by rw [cellc hrow.row,←rn];rfl)
       have rz:wr.cell? ⟨pa,c,none⟩=some (.int .i64 a):=cs_ext HEI.out (by rw [ha];exact intsC_at hrow.pw (gt_at (by rw [rn];exact hc)))
       have har:-1099511627776≤a∧a≤1099511627776:=((HS.out.inv rfl).bnd r (List.mem_of_getElem? hr)).1 a (by rw [ha];exact gt_mem (by rw [rn];exact hc))
       have HR:=Lib.hid hr
       have HA:=Lib.hid ha
       clear hr ha had hrow hcell hro rn
       cases hu:r.u with
       | true =>
         rw [hu] at r2
         have HNX:Hid (CntR R c (j+1) best cnt):=Lib.hid (HCN.out.skip HR.out (.inl hu))
         clear hu
         go_wp2_with fail
         go_roundw
         case rel=>exact ⟨j+1,best,cnt,by go_num,rfl,rfl,by omega,by omega,by omega,HNX,HEI⟩
         case measure=>simp [intOf];omega
       | false =>
         rw [hu] at r2
         have HU:=Lib.hid hu
         clear hu
         by_cases ha0:a=0
         · have HNX:Hid (CntR R c (j+1) best cnt):=Lib.hid (HCN.out.skip HR.out (.inr (by rw [←HA.out];exact ha0)))
           have g0:(a==(0:Int))=true:=beq_iff_eq.2 ha0
           clear har
           subst ha0
           clear g0
           go_wp2_with fail
           go_roundw
           case rel=>exact ⟨j+1,best,cnt,by go_num,rfl,rfl,by omega,by omega,by omega,HNX,HEI⟩
           case measure=>simp [intOf];omega
         · have g0:(a==(0:Int))=false:=beq_eq_false_iff_ne.2 ha0
           have HA0:Hid (gt r.p c≠0):=Lib.hid (by rw [←HA.out];exact ha0)
           have hwc:IntKind.i64.wrap (cnt+1)=cnt+1:=by rw [IntKind.wrap_i64];omega
           go_upto_region 7 with fail
           by_cases hb:best<0
           · have d1:decide (best<0)=true:=decide_eq_true hb
             have HNX:Hid (CntR R c (j+1) j (cnt+1)):=Lib.hid (HCN.out.best HR.out HU.out HA0.out (.inl hb))
             have HFCT:=Lib.hid (And.intro r0 rz)
             refine wp_region_reg 27 false (by kernel_rfl) (by kernel_rfl) ?_
             refine reg_value (fun _=>rfl) ?_ (fun g w' vs hM hE hP=>?_) ?_
             rotate_left
             · (clear hP hM;go_simp;first | done | rfl)
             refine reg_value (fun _=>rfl) ?_ (fun g w' vs hM hE hP=>?_) ?_
             rotate_left
             · (clear hP hM;go_simp;first | done | rfl)
             refine reg_value (fun _=>rfl) ?_ (fun g w' vs hM hE hP=>?_) ?_
             rotate_left
             · (clear hP hM;go_simp;first | done | rfl)
             refine reg_skip (fun g=>by go_simp;first | done | (intro h;cases h) | simp [undef]) ?_
             refine reg_skip (fun g=>by go_simp;first | done | (intro h;cases h) | simp [undef]) ?_
             refine reg_skip (fun g=>by go_simp;first | done | (intro h;cases h) | simp [undef]) ?_
             refine reg_skip (fun g=>by go_simp;first | done | (intro h;cases h) | simp [undef]) ?_
             refine reg_skip (fun g=>by go_simp;first | done | (intro h;cases h) | simp [undef]) ?_
             refine reg_skip (fun g=>by go_simp;first | done | (intro h;cases h) | simp [undef]) ?_
             refine reg_skip (fun g=>by go_simp;first | done | (intro h;cases h) | simp [undef]) ?_
             refine reg_skip (fun g=>by go_simp;first | done | (intro h;cases h) | simp [undef]) ?_
             refine reg_skip (fun g=>by go_simp;first | done | (intro h;cases h) | simp [undef]) ?_
             refine reg_skip (fun g=>by go_simp;first | done | (intro h;cases h) | simp [undef]) ?_
             refine reg_skip (fun g=>by go_simp;first | done | (intro h;cases h) | simp [undef]) ?_
             refine reg_skip (fun g=>by go_simp;first | done | (intro h;cases h) | simp [undef]) ?_
             refine reg_skip (fun g=>by go_simp;first | done | (intro h;cases h) | simp [undef]) ?_
             refine reg_skip (fun g=>by go_simp;first | done | (intro h;cases h) | simp [undef]) ?_
             refine reg_skip (fun g=>by go_simp;first | done | (intro h;cases h) | simp [undef]) ?_
             refine reg_skip (fun g=>by go_simp;first | done | (intro h;cases h) | simp [undef]) ?_
             refine reg_skip (fun g=>by go_simp;first | done | (intro h;cases h) | simp [undef]) ?_
             refine reg_skip (fun g=>by go_simp;first | done | (intro h;cases h) | simp [undef]) ?_
             refine reg_skip (fun g=>by go_simp;first | done | (intro h;cases h) | simp [undef]) ?_
             refine reg_skip (fun g=>by go_simp;first | done | (intro h;cases h) | simp [undef]) ?_
             refine reg_skip (fun g=>by go_simp;first | done | (intro h;cases h) | simp [undef]) ?_
             refine reg_skip (fun g=>by go_simp;first | done | (intro h;cases h) | simp [undef]) ?_
             refine reg_skip (fun g=>by go_simp;first | done | (intro h;cases h) | simp [undef]) ?_
             refine reg_value (fun _=>rfl) ?_ (fun g w' vs hM hE hP=>?_) ?_
             rotate_left
             · (clear hP hM;go_simp;first | done | rfl)
             intro g wz hE2 hF hQ
             simp only [List.drop_succ_cons,List.drop_zero,Act.put,List.setIfInBounds_toArray,List.set_cons_succ,List.set_cons_zero]
             have HEZ:Hid (Ext w0 wz):=Lib.hid (HEI.out.trans hE2)
             clear hE2 hF hQ p0 r2 r0 rz
             go_wp2_with fail
             go_roundw
             case rel=>exact ⟨j+1,j,cnt+1,by go_num,rfl,rfl,by omega,by omega,by omega,HNX,HEZ⟩
             case measure=>simp [intOf];omega
           · have d1:decide (best<0)=false:=decide_eq_false hb
             obtain ⟨b,y,hbj,hbb,hy,hyr⟩:∃(b:Nat) (y:ERow),b<j∧best=b∧R[b]?=some y∧True:=by
              obtain ⟨-,h | ⟨-,b,y,g1,g2,g3,-⟩⟩:=HCN.out
              · omega
              · exact ⟨b,y,g1,g2,g3,trivial⟩
             subst hbb
             obtain ⟨⟨s1,pb,kb⟩,hbd,hyrow,hycell,-⟩:=HS.out.el.adr hy
             have yn:=HS.out.rl y (List.mem_of_getElem? hy)
             obtain ⟨z,hz⟩:∃z,z=gt y.p c:=⟨_,rfl⟩
             have hzr:-1099511627776≤z∧z≤1099511627776:=((HS.out.inv rfl).bnd y (List.mem_of_getElem? hy)).1 z (by rw [hz];exact gt_mem (by rw [yn];exact hc))
             have x1:wr.cell? ⟨xb,1,none⟩=some (.slice (some ⟨B.rg,0,none⟩) nr B.rc):=cs_ext HEI.out (by rw [HXB.out,HRO.out,cellc HS.out.el.x,←HS.out.lr];rfl)
             have y0:wr.cell? ⟨B.rg,b,none⟩=some (.pointer (some ⟨s1,0,none⟩)):=cs_ext HEI.out hycell
             have y1:wr.cell? ⟨s1,0,none⟩=some (.slice (some ⟨pb,0,none⟩) n n):=cs_ext HEI.out (by rw [cellc hyrow.row,←yn];rfl)
             have y2:wr.cell? ⟨pb,c,none⟩=some (.int .i64 z):=cs_ext HEI.out (by rw [hz];exact intsC_at hyrow.pw (gt_at (by rw [yn];exact hc)))
             obtain ⟨za,hza⟩:∃za,za=absI a:=⟨_,rfl⟩
             obtain ⟨zb,hzb⟩:∃zb,zb=absI z:=⟨_,rfl⟩
             have HABA:=Lib.hid (fun (w':World)=>abs_any (w:=w') (x:=a) (by omega))
             have HABB:=Lib.hid (fun (w':World)=>abs_any (w:=w') (x:=z) (by omega))
             rw [←hza] at HABA
             rw [←hzb] at HABB
             have hbz:(b:Int)<(nr:Int):=by omega
             have hb0:(0:Int)≤(b:Int):=by omega
             have HY:=Lib.hid hy
             have HZ:Hid (za=absI (gt r.p c)∧zb=absI (gt y.p c)):=Lib.hid ⟨by rw [hza,HA.out],by rw [hzb,hz]⟩
             clear hy hyr hbd hyrow hycell yn hz hza hzb hzr har
             by_cases hlt2:za<zb
             · have d2:decide (za<zb)=true:=decide_eq_true hlt2
               have HNX:Hid (CntR R c (j+1) j (cnt+1)):=Lib.hid (HCN.out.best HR.out HU.out HA0.out (.inr (fun b' y' e hy'=>by
                have e2:b'=b:=by omega
                subst e2
                rw [HY.out] at hy'
                cases hy'
                rw [←HZ.out.1,←HZ.out.2]
                exact hlt2)))
               have HFCT:=Lib.hid (And.intro r0 (And.intro rz (And.intro x1 (And.intro y0 (And.intro y1 y2)))))
               refine wp_region_reg 27 false (by kernel_rfl) (by kernel_rfl) ?_
               refine reg_value (fun _=>rfl) ?_ (fun g w' vs hM hE hP=>?_) ?_
               rotate_left
               · (clear hP hM;go_simp;first | done | rfl)
               refine reg_value (fun _=>rfl) ?_ (fun g w' vs hM hE hP=>?_) ?_
               rotate_left
               · (clear hP hM;go_simp;first | done | rfl)
               refine reg_value (fun _=>rfl) ?_ (fun g w' vs hM hE hP=>?_) ?_
               rotate_left
               · (clear hP hM;go_simp;first | done | rfl)
               refine reg_value (fun g=>by go_simp) ?_ (fun g w' vs hM hE hP=>?_) ?_
               rotate_left
               · (clear hP hM;go_simp;first | done | rfl)
               refine reg_value (fun g=>by go_simp) ?_ (fun g w' vs hM hE hP=>?_) ?_
               rotate_left
               · (clear hP hM;go_simp;first | done | rfl)
               refine reg_value (fun g=>by go_simp) ?_ (fun g w' vs hM hE hP=>?_) ?_
               rotate_left
               · (clear hP hM;go_simp;first | done | rfl)
               refine reg_value (fun g=>by go_simp) ?_ (fun g w' vs hM hE hP=>?_) ?_
               rotate_left
               · (clear hP hM;have ⟨z0,z1,z2,z3,z4,z5⟩:=cs_e6 hE HFCT.out;go_simp;first | done | rfl)
               refine reg_value (fun g=>by go_simp) ?_ (fun g w' vs hM hE hP=>?_) ?_
               rotate_left
               · (clear hP hM;go_simp;first | done | rfl)
               refine reg_value (fun g=>by go_simp) ?_ (fun g w' vs hM hE hP=>?_) ?_
               rotate_left
               · (clear hP hM;go_simp;first | done | rfl)
               refine reg_value (fun g=>by go_simp) ?_ (fun g w' vs hM hE hP=>?_) ?_
               rotate_left
               · (clear hP hM;have ⟨z0,z1,z2,z3,z4,z5⟩:=cs_e6 hE HFCT.out;go_simp;first | done | rfl)
               refine reg_const (fun g=>by go_simp) 76 ?_ (fun g w' vs hM hE hP=>?_) ?_
               rotate_left
               · (clear hP hM;have ⟨z0,z1,z2,z3,z4,z5⟩:=cs_e6 hE HFCT.out;go_simp;first | done | exact ⟨rfl,rfl⟩ | rfl)
               apply Exists.intro
               refine And.intro (fun g w' vs hM hE hP=>?_) ?_
               · exact HABA.out _
               refine reg_value (fun g=>by go_simp) ?_ (fun g w' vs hM hE hP=>?_) ?_
               rotate_left
               · (clear hP hM;go_simp;first | done | rfl)
               refine reg_value (fun g=>by go_simp) ?_ (fun g w' vs hM hE hP=>?_) ?_
               rotate_left
               · (clear hP hM;go_simp;first | done | rfl)
               refine reg_value (fun g=>by go_simp) ?_ (fun g w' vs hM hE hP=>?_) ?_
               rotate_left
               · (clear hP hM;go_simp;first | done | rfl)
               refine reg_value (fun g=>by go_simp) ?_ (fun g w' vs hM hE hP=>?_) ?_
               rotate_left
               · (clear hP hM;have ⟨z0,z1,z2,z3,z4,z5⟩:=cs_e6 hE HFCT.out;go_simp;first | done | rfl)
               refine reg_value (fun g=>by go_simp) ?_ (fun g w' vs hM hE hP=>?_) ?_
               rotate_left
               · (clear hP hM;go_simp;first | done | rfl)
               refine reg_value (fun g=>by go_simp) ?_ (fun g w' vs hM hE hP=>?_) ?_
               rotate_left
               · (clear hP hM;go_simp;first | done | rfl)
               refine reg_value (fun g=>by go_simp) ?_ (fun g w' vs hM hE hP=>?_) ?_
               rotate_left
               · (clear hP hM;have ⟨z0,z1,z2,z3,z4,z5⟩:=cs_e6 hE HFCT.out;go_simp;first | done | rfl)
               refine reg_value (fun g=>by go_simp) ?_ (fun g w' vs hM hE hP=>?_) ?_
               rotate_left
               · (clear hP hM;go_simp;first | done | rfl)
               refine reg_value (fun g=>by go_simp) ?_ (fun g w' vs hM hE hP=>?_) ?_
               rotate_left
               · (clear hP hM;go_simp;first | done | rfl)
               refine reg_value (fun g=>by go_simp) ?_ (fun g w' vs hM hE hP=>?_) ?_
               rotate_left
               · (clear hP hM;have ⟨z0,z1,z2,z3,z4,z5⟩:=cs_e6 hE HFCT.out;go_simp;first | done | rfl)
               refine reg_value (fun g=>by go_simp) ?_ (fun g w' vs hM hE hP=>?_) ?_
               rotate_left
               · (clear hP hM;go_simp;first | done | rfl)
               refine reg_value (fun g=>by go_simp) ?_ (fun g w' vs hM hE hP=>?_) ?_
               rotate_left
               · (clear hP hM;go_simp;first | done | rfl)
               refine reg_value (fun g=>by go_simp) ?_ (fun g w' vs hM hE hP=>?_) ?_
               rotate_left
               · (clear hP hM;have ⟨z0,z1,z2,z3,z4,z5⟩:=cs_e6 hE HFCT.out;go_simp;first | done | rfl)
               refine reg_const (fun g=>by go_simp) 76 ?_ (fun g w' vs hM hE hP=>?_) ?_
               rotate_left
               · (clear hP hM;have ⟨z0,z1,z2,z3,z4,z5⟩:=cs_e6 hE HFCT.out;go_simp;first | done | exact ⟨rfl,rfl⟩ | rfl)
               apply Exists.intro
               refine And.intro (fun g w' vs hM hE hP=>?_) ?_
               · exact HABB.out _
               refine reg_value (fun g=>by go_simp) ?_ (fun g w' vs hM hE hP=>?_) ?_
               rotate_left
               · (clear hP hM;go_simp;first | done | rfl)
               refine reg_value (fun _=>rfl) ?_ (fun g w' vs hM hE hP=>?_) ?_
               rotate_left
               · (clear hP hM;go_simp;first | done | rfl)
               intro g wz hE2 hF hQ
               simp only [List.drop_succ_cons,List.drop_zero,Act.put,List.setIfInBounds_toArray,List.set_cons_succ,List.set_cons_zero]
               have HEZ:Hid (Ext w0 wz):=Lib.hid (HEI.out.trans hE2)
               clear hE2 hF hQ p0 r2 r0 rz x1 y0 y1 y2
               go_wp2_with fail
               go_roundw
               case rel=>exact ⟨j+1,j,cnt+1,by go_num,rfl,rfl,by omega,by omega,by omega,HNX,HEZ⟩
               case measure=>simp [intOf];omega
             · have d2:decide (za<zb)=false:=decide_eq_false hlt2
               have HNX:Hid (CntR R c (j+1) b (cnt+1)):=Lib.hid (HCN.out.keep HR.out HU.out HA0.out HY.out (by rw [←HZ.out.1,←HZ.out.2];omega))
               have HFCT:=Lib.hid (And.intro r0 (And.intro rz (And.intro x1 (And.intro y0 (And.intro y1 y2)))))
               refine wp_region_reg 27 false (by kernel_rfl) (by kernel_rfl) ?_
               refine reg_value (fun _=>rfl) ?_ (fun g w' vs hM hE hP=>?_) ?_
               rotate_left
               · (clear hP hM;go_simp;first | done | rfl)
               refine reg_value (fun _=>rfl) ?_ (fun g w' vs hM hE hP=>?_) ?_
               rotate_left
               · (clear hP hM;go_simp;first | done | rfl)
               refine reg_value (fun _=>rfl) ?_ (fun g w' vs hM hE hP=>?_) ?_
               rotate_left
               · (clear hP hM;go_simp;first | done | rfl)
               refine reg_value (fun g=>by go_simp) ?_ (fun g w' vs hM hE hP=>?_) ?_
               rotate_left
               · (clear hP hM;go_simp;first | done | rfl)
               refine reg_value (fun g=>by go_simp) ?_ (fun g w' vs hM hE hP=>?_) ?_
               rotate_left
               · (clear hP hM;go_simp;first | done | rfl)
               refine reg_value (fun g=>by go_simp) ?_ (fun g w' vs hM hE hP=>?_) ?_
               rotate_left
               · (clear hP hM;go_simp;first | done | rfl)
               refine reg_value (fun g=>by go_simp) ?_ (fun g w' vs hM hE hP=>?_) ?_
               rotate_left
               · (clear hP hM;have ⟨z0,z1,z2,z3,z4,z5⟩:=cs_e6 hE HFCT.out;go_simp;first | done | rfl)
               refine reg_value (fun g=>by go_simp) ?_ (fun g w' vs hM hE hP=>?_) ?_
               rotate_left
               · (clear hP hM;go_simp;first | done | rfl)
               refine reg_value (fun g=>by go_simp) ?_ (fun g w' vs hM hE hP=>?_) ?_
               rotate_left
               · (clear hP hM;go_simp;first | done | rfl)
               refine reg_value (fun g=>by go_simp) ?_ (fun g w' vs hM hE hP=>?_) ?_
               rotate_left
               · (clear hP hM;have ⟨z0,z1,z2,z3,z4,z5⟩:=cs_e6 hE HFCT.out;go_simp;first | done | rfl)
               refine reg_const (fun g=>by go_simp) 76 ?_ (fun g w' vs hM hE hP=>?_) ?_
               rotate_left
               · (clear hP hM;have ⟨z0,z1,z2,z3,z4,z5⟩:=cs_e6 hE HFCT.out;go_simp;first | done | exact ⟨rfl,rfl⟩ | rfl)
               apply Exists.intro
               refine And.intro (fun g w' vs hM hE hP=>?_) ?_
               · exact HABA.out _
               refine reg_value (fun g=>by go_simp) ?_ (fun g w' vs hM hE hP=>?_) ?_
               rotate_left
               · (clear hP hM;go_simp;first | done | rfl)
               refine reg_value (fun g=>by go_simp) ?_ (fun g w' vs hM hE hP=>?_) ?_
               rotate_left
               · (clear hP hM;go_simp;first | done | rfl)
               refine reg_value (fun g=>by go_simp) ?_ (fun g w' vs hM hE hP=>?_) ?_
               rotate_left
               · (clear hP hM;go_simp;first | done | rfl)
               refine reg_value (fun g=>by go_simp) ?_ (fun g w' vs hM hE hP=>?_) ?_
               rotate_left
               · (clear hP hM;have ⟨z0,z1,z2,z3,z4,z5⟩:=cs_e6 hE HFCT.out;go_simp;first | done | rfl)
               refine reg_value (fun g=>by go_simp) ?_ (fun g w' vs hM hE hP=>?_) ?_
               rotate_left
               · (clear hP hM;go_simp;first | done | rfl)
               refine reg_value (fun g=>by go_simp) ?_ (fun g w' vs hM hE hP=>?_) ?_
               rotate_left
               · (clear hP hM;go_simp;first | done | rfl)
               refine reg_value (fun g=>by go_simp) ?_ (fun g w' vs hM hE hP=>?_) ?_
               rotate_left
               · (clear hP hM;have ⟨z0,z1,z2,z3,z4,z5⟩:=cs_e6 hE HFCT.out;go_simp;first | done | rfl)
               refine reg_value (fun g=>by go_simp) ?_ (fun g w' vs hM hE hP=>?_) ?_
               rotate_left
               · (clear hP hM;go_simp;first | done | rfl)
               refine reg_value (fun g=>by go_simp) ?_ (fun g w' vs hM hE hP=>?_) ?_
               rotate_left
               · (clear hP hM;go_simp;first | done | rfl)
               refine reg_value (fun g=>by go_simp) ?_ (fun g w' vs hM hE hP=>?_) ?_
               rotate_left
               · (clear hP hM;have ⟨z0,z1,z2,z3,z4,z5⟩:=cs_e6 hE HFCT.out;go_simp;first | done | rfl)
               refine reg_value (fun g=>by go_simp) ?_ (fun g w' vs hM hE hP=>?_) ?_
               rotate_left
               · (clear hP hM;go_simp;first | done | rfl)
               refine reg_value (fun g=>by go_simp) ?_ (fun g w' vs hM hE hP=>?_) ?_
               rotate_left
               · (clear hP hM;go_simp;first | done | rfl)
               refine reg_value (fun g=>by go_simp) ?_ (fun g w' vs hM hE hP=>?_) ?_
               rotate_left
               · (clear hP hM;have ⟨z0,z1,z2,z3,z4,z5⟩:=cs_e6 hE HFCT.out;go_simp;first | done | rfl)
               refine reg_const (fun g=>by go_simp) 76 ?_ (fun g w' vs hM hE hP=>?_) ?_
               rotate_left
               · (clear hP hM;have ⟨z0,z1,z2,z3,z4,z5⟩:=cs_e6 hE HFCT.out;go_simp;first | done | exact ⟨rfl,rfl⟩ | rfl)
               apply Exists.intro
               refine And.intro (fun g w' vs hM hE hP=>?_) ?_
               · exact HABB.out _
               refine reg_value (fun g=>by go_simp) ?_ (fun g w' vs hM hE hP=>?_) ?_
               rotate_left
               · (clear hP hM;go_simp;first | done | rfl)
               refine reg_value (fun _=>rfl) ?_ (fun g w' vs hM hE hP=>?_) ?_
               rotate_left
               · (clear hP hM;go_simp;first | done | rfl)
               intro g wz hE2 hF hQ
               simp only [List.drop_succ_cons,List.drop_zero,Act.put,List.setIfInBounds_toArray,List.set_cons_succ,List.set_cons_zero]
               have HEZ:Hid (Ext w0 wz):=Lib.hid (HEI.out.trans hE2)
               clear hE2 hF hQ p0 r2 r0 rz x1 y0 y1 y2
               go_wp2_with fail
               go_roundw
               case rel=>exact ⟨j+1,b,cnt+1,by go_num,rfl,rfl,by omega,by omega,by omega,HNX,HEZ⟩
               case measure=>simp [intOf];omega
     · have hji : ¬ (j : Int)<(nr:Int):=by omega
       have hjn:j=nr:=by omega
       have HCN:Hid (CntR R c nr best cnt):=Lib.hid (by rw [←hjn];exact HCN.out)
       clear hjn
       by_cases hcn0:cnt=0
       · have HFR:Hid (ColR w B G n c wr):=Lib.hid ⟨R,P,false,HS.out.chg.trans (Chg.of HEI.out),HS.out.el.ext HEI.out,fun _=>(HS.out.inv rfl).skip hc (fun r hr hu=>by
          obtain ⟨-,h | ⟨h1,-⟩⟩:=HCN.out
          · obtain ⟨i,hi⟩:=List.mem_iff_getElem?.1 hr
            exact h.2.2 i r (by have:=(List.getElem?_eq_some_iff.1 hi).1;have:=HS.out.lr;omega) hi hu
          · omega)⟩
         subst hcn0
         go_wp2_with fail
         refine bodyPost_ret (results_none rfl _ _ _) rfl ?_
         exact ⟨rfl,HFR.out⟩
       · obtain ⟨b, y, hbj,hbb,hy,hyu,hy0,HG⟩:∃(b:Nat) (y:ERow),b<nr∧best=b∧R[b]?=some y∧y.u=false∧gt y.p c≠0∧Hid ((∀(i:Nat) r,i<nr→R[i]?=some r→r.u=false→gt r.p c≠0→absI (gt y.p c)≤absI (gt r.p c))∧(cnt=1→∀(i:Nat) r,i<nr→i≠b→R[i]?=some r→r.u=false→gt r.p c=0)):=by
          obtain ⟨-,h | ⟨-,b,y,g1,g2,g3,g4,g5,g6,g7,-⟩⟩:=HCN.out
          · exact absurd h.1 hcn0
          · exact ⟨b,y,g1,g2,g3,g4,g5,Lib.hid ⟨g6,g7⟩⟩
         subst hbb
         obtain ⟨⟨s1,pb,kb⟩,hbd,hyrow,hycell,hro⟩:=HS.out.el.adr hy
         have hro2:ro=some ⟨B.rg,0,none⟩:=HRO.out.trans hro
         subst hro2
         have hbz:(b:Int)<(nr:Int):=by omega
         have hb0:(0:Int)≤(b:Int):=by omega
         have HY:=Lib.hid (And.intro hy (And.intro hyu hy0))
         have HBD:=Lib.hid hbd
         clear hy hyu hy0 hbd hyrow hycell hro
         by_cases hcn1:cnt=1
         · have HTK:=Lib.hid ((HS.out.el.ext HEI.out).take HN.out HY.out.1 HBD.out (by rw [HS.out.pl];exact hc))
           have HFR:Hid (ColR w B G n c ((wr.setCell ⟨B.pg,c,none⟩ (.int .i64 b)).setCell ⟨s1,2,none⟩ (.bool true))):=Lib.hid ⟨_,_,false,(HS.out.chg.trans (Chg.of HEI.out)).trans HTK.out.2,HTK.out.1,fun _=>(HS.out.inv rfl).take hc HY.out.1 HY.out.2.1 HY.out.2.2 (fun i r hi hne hu=>HG.out.2 hcn1 i r (by have:=(List.getElem?_eq_some_iff.1 hi).1;have:=HS.out.lr;omega) hne hi hu)⟩
           have hX:=HS.out.el.ext HEI.out
           obtain ⟨hpc,hpo⟩:=hX.pcell (c:=c) (by rw [HS.out.pl];exact hc)
           have hpz:=hX.piv (by intro e;have:=HS.out.pl;rw [e] at this;simp at this;omega)
           have x2:wr.cell? ⟨xb,2,none⟩=some (.slice (some ⟨B.pg,0,none⟩) n B.pc):=by rw [HXB.out,cellc hX.x,←hpo,←HS.out.pl];rfl
           have fp:wr.frozen? ⟨B.pg,c,none⟩=false:=frozenc hpz.2
           have hrow:=hX.row b _ y HBD.out HY.out.1
           have hnx:=HN.out.x _ (List.mem_of_getElem? HBD.out)
           have hrz:=hX.rows (by intro e;have:=HS.out.lr;rw [e] at this;simp at this;omega)
           have HX2:Hid ((wr.setCell ⟨B.pg,c,none⟩ (.int .i64 b)).heap[xb]?=some (.cells #[B.cv,.slice (some ⟨B.rg,0,none⟩) nr B.rc,.slice B.po P.length B.pc,.bool false] 74)):=Lib.hid (by rw [heap_setCell_other _ _ _ _ (by rw [HXB.out];exact HN.out.xr.2.1),HXB.out,hX.x,←hrz.1,HS.out.lr])
           have HX3:Hid ((wr.setCell ⟨B.pg,c,none⟩ (.int .i64 b)).cell? ⟨B.rg,b,none⟩=some (.pointer (some ⟨s1,0,none⟩))):=Lib.hid (by
            have h1:=cs_ext HEI.out (by
             obtain ⟨ad',h2,-,h3,-⟩:=HS.out.el.adr HY.out.1
             rw [HBD.out] at h2
             cases h2
             exact h3)
            rw [World.cell?_of_block (w:=wr) (heap_setCell_other _ _ _ _ HN.out.xr.2.2)]
            exact h1)
           have HX4:Hid ((wr.setCell ⟨B.pg,c,none⟩ (.int .i64 b)).heap[s1]?=some (.cells #[.slice (some ⟨pb,0,none⟩) y.p.length y.p.length,.slice (some ⟨kb,0,none⟩) y.k.length y.k.length,.bool y.u] 63)):=Lib.hid (by rw [heap_setCell_other _ _ _ _ (fun e=>hnx.2.2.1.1 e.symm)];exact hrow.row)
           clear hX hpo hpz hrow hnx hrz
           subst hcn1
           go_upto_region 13 with fail
           obtain ⟨w2,hw2⟩:∃w2,w2=wr.setCell ⟨B.pg,c,none⟩ (.int .i64 b):=⟨_,rfl⟩
           rw [←hw2] at HX2 HX3 HX4 HFR ⊢
           clear hw2 x2 fp hpc
           have x1:w2.cell? ⟨xb,1,none⟩=some (.slice (some ⟨B.rg,0,none⟩) nr B.rc):=by rw [cellc HX2.out];rfl
           have y0:=HX3.out
           have y2:w2.cell? ⟨s1,2,none⟩=some (.bool y.u):=by rw [cellc HX4.out];rfl
           have fy:w2.frozen? ⟨s1,2,none⟩=false:=frozenc HX4.out
           go_wp2_with fail
           refine bodyPost_ret (results_none rfl _ _ _) rfl ?_
           exact ⟨rfl,HFR.out⟩
         · have hcn2 : 2≤cnt:=by omega
           have g1:(cnt==(0:Int))=false:=beq_eq_false_iff_ne.2 hcn0
           have g2:(cnt==(1:Int))=false:=beq_eq_false_iff_ne.2 hcn1
           have x1:wr.cell? ⟨xb,1,none⟩=some (.slice (some ⟨B.rg,0,none⟩) nr B.rc):=cs_ext HEI.out (by rw [HXB.out,HRO.out,cellc HS.out.el.x,←HS.out.lr];rfl)
           have HS3:Hid (∃R' lg',SubsR n G c b y R P 0 R' lg'∧XeAt wr B R' P lg'∧Chg B.M w wr):=Lib.hid ⟨R,false,SubsR.start (HS.out.inv rfl) HY.out.1,HS.out.el.ext HEI.out,HS.out.chg.trans (Chg.of HEI.out)⟩
           go_upto_region 15 with fail
           clear x1 HEI
           go_loopw [8,9,95] (fun _ _ jv wi=>∃j:Nat,jv=.int .i64 j∧j≤nr∧Hid (∃R' lg',SubsR n G c b y R P j R' lg'∧XeAt wi B R' P lg'∧Chg B.M w wi)) (fun _ _ jv _=>nr-(intOf jv).toNat)
           case atStart=>exact ⟨0,rfl,by omega,HS3⟩
           case round =>
            clear hji hj hc1 hc2 HS3
            obtain ⟨j,rfl,hj,HJ⟩:=hrel
            obtain ⟨R',lg',hsub,hxe,hch⟩:=HJ.out
            have HSU:=Lib.hid hsub
            have HXE:=Lib.hid hxe
            have HCH:=Lib.hid hch
            clear HJ hsub hxe hch
            by_cases hlt:j<nr
            · have hji : (j:Int)<(nr:Int):=by omega
              have hj0:(0:Int)≤(j:Int):=by omega
              have hjl:j<R.length:=by have:=HS.out.lr;omega
              obtain ⟨r,hr0⟩:∃r,R[j]?=some r:=⟨_,List.getElem?_eq_getElem hjl⟩
              have hr:R'[j]?=some r:=by rw [HSU.out.later j (Nat.le_refl _)];exact hr0
              obtain ⟨⟨q1,pa,ka⟩,had,hrow,hcell,-⟩:=HXE.out.adr hr
              have rn:=HS.out.rl r (List.mem_of_getElem? hr0)
              obtain ⟨a,ha⟩:∃a,a=gt r.p c:=⟨_,rfl⟩
              have p0:wr.cell? ⟨B.rg,j,none⟩=some (.pointer (some ⟨q1,0,none⟩)):=hcell
              have r2:wr.cell? ⟨q1,2,none⟩=some (.bool r.u):=by rw [cellc hrow.row];rfl
              have r0:wr.cell? ⟨q1,0,none⟩=some (.slice (some ⟨pa,0,none⟩) n n):=by rw [cellc hrow.row,←rn];rfl
              have rz:wr.cell? ⟨pa,c,none⟩=some (.int .i64 a):=by rw [ha];exact intsC_at hrow.pw (gt_at (by rw [rn];exact hc))
              have x3:wr.cell? ⟨xb,3,none⟩=some (.bool lg'):=by rw [HXB.out];exact HXE.out.large
              have har:-1099511627776≤a∧a≤1099511627776:=((HS.out.inv rfl).bnd r (List.mem_of_getElem? hr0)).1 a (by rw [ha];exact gt_mem (by rw [rn];exact hc))
              have HR:=Lib.hid (And.intro hr hr0)
              have HA:=Lib.hid ha
              have HRN:=Lib.hid rn
              have HAD:=Lib.hid had
              clear hr hr0 ha had hrow hcell rn hjl
              by_cases hjb:j=b
              · have HSKP:Hid (lg'=false→j=b∨r.u=true∨gt r.p c=0):=Lib.hid (fun _=>.inl hjb)
                have h1:((j:Int)==(b:Int))=true:=beq_iff_eq.2 (by omega)
                have h2:((j:Int) != (b:Int))=false:=by simp [bne,h1]
                have h3:(j:Int)=(b:Int):=by omega
                clear h3 hjb
                have HNX:Hid (∃R' lg',SubsR n G c b y R P (j+1) R' lg'∧XeAt wr B R' P lg'∧Chg B.M w wr):=Lib.hid ⟨R',lg',HSU.out.skip HR.out.1 HSKP.out,HXE.out,HCH.out⟩
                go_wp2_with fail
                go_roundw
                case rel=>exact ⟨j+1,by go_num,by omega,HNX⟩
                case measure=>simp [intOf];omega
              · have h3:¬(j:Int)=(b:Int):=by omega
                have h1:((j:Int)==(b:Int))=false:=beq_eq_false_iff_ne.2 h3
                have h2:((j:Int) != (b:Int))=true:=by simp [bne,h1]
                cases hu:r.u with
                | true =>
                  have HSKP:Hid (lg'=false→j=b∨r.u=true∨gt r.p c=0):=Lib.hid (fun _=>.inr (.inl hu))
                  rw [hu] at r2
                  clear hu
                  have HNX:Hid (∃R' lg',SubsR n G c b y R P (j+1) R' lg'∧XeAt wr B R' P lg'∧Chg B.M w wr):=Lib.hid ⟨R',lg',HSU.out.skip HR.out.1 HSKP.out,HXE.out,HCH.out⟩
                  go_wp2_with fail
                  go_roundw
                  case rel=>exact ⟨j+1,by go_num,by omega,HNX⟩
                  case measure=>simp [intOf];omega
                | false =>
                  have HU:=Lib.hid hu
                  rw [hu] at r2
                  clear hu
                  by_cases ha0:a=0
                  · have HSKP:Hid (lg'=false→j=b∨r.u=true∨gt r.p c=0):=Lib.hid (fun _=>.inr (.inr (by rw [←HA.out];exact ha0)))
                    clear har
                    subst ha0
                    have HNX:Hid (∃R' lg',SubsR n G c b y R P (j+1) R' lg'∧XeAt wr B R' P lg'∧Chg B.M w wr):=Lib.hid ⟨R',lg',HSU.out.skip HR.out.1 HSKP.out,HXE.out,HCH.out⟩
                    go_wp2_with fail
                    go_roundw
                    case rel=>exact ⟨j+1,by go_num,by omega,HNX⟩
                    case measure=>simp [intOf];omega
                  · have g0:(a==(0:Int))=false:=beq_eq_false_iff_ne.2 ha0
                    have g0':(a != (0:Int))=true:=by simp [bne,g0]
                    cases lg' with
                    | true =>
                      have HSKP:Hid (true=false→j=b∨r.u=true∨gt r.p c=0):=Lib.hid (fun h=>by cases h)
                      have HNX:Hid (∃R' lg',SubsR n G c b y R P (j+1) R' lg'∧XeAt wr B R' P lg'∧Chg B.M w wr):=Lib.hid ⟨R',true,HSU.out.skip HR.out.1 HSKP.out,HXE.out,HCH.out⟩
                      go_wp2_with fail
                      go_roundw
                      case rel=>exact ⟨j+1,by go_num,by omega,HNX⟩
                      case measure=>simp [intOf];omega
                    | false =>
                      obtain ⟨ad2,hbd2,hyrow,hycell,-⟩:=HXE.out.adr HSU.out.best
                      have hb2:=HBD.out
                      rw [hb2] at hbd2
                      cases hbd2
                      have yn:=HS.out.rl y (List.mem_of_getElem? HY.out.1)
                      obtain ⟨z,hz⟩:∃z,z=gt y.p c:=⟨_,rfl⟩
                      have hzr:-1099511627776≤z∧z≤1099511627776:=((HS.out.inv rfl).bnd y (List.mem_of_getElem? HY.out.1)).1 z (by rw [hz];exact gt_mem (by rw [yn];exact hc))
                      have hz0:¬z=0:=by rw [hz];exact HY.out.2.2
                      have hz1:(z==(0:Int))=false:=beq_eq_false_iff_ne.2 hz0
                      have x1:wr.cell? ⟨xb,1,none⟩=some (.slice (some ⟨B.rg,0,none⟩) nr B.rc):=by rw [HXB.out,HRO.out,cellc HXE.out.x,←HS.out.lr,←HSU.out.len];rfl
                      have y0:wr.cell? ⟨B.rg,b,none⟩=some (.pointer (some ⟨s1,0,none⟩)):=hycell
                      have y1:wr.cell? ⟨s1,0,none⟩=some (.slice (some ⟨pb,0,none⟩) n n):=by rw [cellc hyrow.row,←yn];rfl
                      have y2:wr.cell? ⟨pb,c,none⟩=some (.int .i64 z):=by rw [hz];exact intsC_at hyrow.pw (gt_at (by rw [yn];exact hc))
                      obtain ⟨q,hq⟩:∃q,q=Int.tdiv a z:=⟨_,rfl⟩
                      have hqr:-1099511627776≤q∧q≤1099511627776:=by rw [hq];exact absI_tdiv har
                      have hqd:Int.tdiv a z=q:=hq.symm
                      have hqw:IntKind.i64.wrap q=q:=by rw [IntKind.wrap_i64];omega
                      have HQ:=Lib.hid (show q=Int.tdiv (gt r.p c) (gt y.p c) by rw [hq,HA.out,hz])
                      have hinv:=HSU.out.inv rfl
                      have HBR:=Lib.hid (hinv.bnd r (List.mem_of_getElem? HR.out.1))
                      have HBY:=Lib.hid (hinv.bnd y (List.mem_of_getElem? HSU.out.best))
                      have HLK:Hid (r.k.length=nr∧y.k.length=nr):=Lib.hid ⟨by rw [HNR.out];exact (hinv.len r (List.mem_of_getElem? HR.out.1)).2,by rw [HNR.out];exact (hinv.len y (List.mem_of_getElem? HSU.out.best)).2⟩
                      have HYN:=Lib.hid yn
                      have HSUB:Hid (∀w',Ext wr w'→Calls Tryz.prog 95 #[.pointer (some ⟨xb,0,none⟩),.pointer (some ⟨q1,0,none⟩),.pointer (some ⟨s1,0,none⟩),.int .i64 q] w' fun e w''=>e=.returned (.tuple #[])∧SubR w' B.xb B.cv (.slice B.ro R'.length B.rc) (.slice B.po P.length B.pc) (q1,pa,ka) r y q w''):=Lib.hid (fun w' hE=>by
                       have hE':=HXE.out.ext hE
                       have h7:=HN.out.seven HAD.out HBD.out hjb
                       rw [HXB.out]
                       exact subtract_any hE'.x (hE'.row j _ r HAD.out HR.out.1) (hE'.row b _ y HBD.out HSU.out.best) HBR.out HBY.out (by rw [HRN.out,HYN.out]) (by rw [HLK.out.1,HLK.out.2]) ⟨by rw [HRN.out];exact hn,by rw [HLK.out.1];exact hg⟩ hqr h7)
                      clear hyrow hycell yn hz hzr har hq hqr hinv hb2
                      go_upto_region 18 with fail
                      have HFCT:=Lib.hid (And.intro x1 (And.intro y0 (And.intro y1 (And.intro y2 (And.intro r0 rz)))))
                      refine wp_region_reg 30 false (by kernel_rfl) (by kernel_rfl) ?_
                      refine reg_value (fun _=>rfl) ?_ (fun g w' vs hM hE hP=>?_) ?_
                      rotate_left
                      · (clear hP hM;go_simp;first | done | rfl)
                      refine reg_value (fun _=>rfl) ?_ (fun g w' vs hM hE hP=>?_) ?_
                      rotate_left
                      · (clear hP hM;go_simp;first | done | rfl)
                      refine reg_value (fun _=>rfl) ?_ (fun g w' vs hM hE hP=>?_) ?_
                      rotate_left
                      · (clear hP hM;go_simp;first | done | rfl)
                      refine reg_value (fun _=>rfl) ?_ (fun g w' vs hM hE hP=>?_) ?_
                      rotate_left
                      · (clear hP hM;go_simp;first | done | rfl)
                      refine reg_value (fun _=>rfl) ?_ (fun g w' vs hM hE hP=>?_) ?_
                      rotate_left
                      · (clear hP hM;go_simp;first | done | rfl)
                      refine reg_value (fun _=>rfl) ?_ (fun g w' vs hM hE hP=>?_) ?_
                      rotate_left
                      · (clear hP hM;have ⟨z0,z1,z2,z3,z4,z5⟩:=cs_e6 hE HFCT.out;go_simp;first | done | rfl)
                      refine reg_value (fun _=>rfl) ?_ (fun g w' vs hM hE hP=>?_) ?_
                      rotate_left
                      · (clear hP hM;go_simp;first | done | rfl)
                      refine reg_value (fun _=>rfl) ?_ (fun g w' vs hM hE hP=>?_) ?_
                      rotate_left
                      · (clear hP hM;go_simp;first | done | rfl)
                      refine reg_value (fun _=>rfl) ?_ (fun g w' vs hM hE hP=>?_) ?_
                      rotate_left
                      · (clear hP hM;have ⟨z0,z1,z2,z3,z4,z5⟩:=cs_e6 hE HFCT.out;go_simp;first | done | rfl)
                      refine reg_value (fun _=>rfl) ?_ (fun g w' vs hM hE hP=>?_) ?_
                      rotate_left
                      · (clear hP hM;go_simp;first | done | rfl)
                      refine reg_value (fun _=>rfl) ?_ (fun g w' vs hM hE hP=>?_) ?_
                      rotate_left
                      · (clear hP hM;go_simp;first | done | rfl)
                      refine reg_value (fun _=>rfl) ?_ (fun g w' vs hM hE hP=>?_) ?_
                      rotate_left
                      · (clear hP hM;go_simp;first | done | rfl)
                      refine reg_value (fun _=>rfl) ?_ (fun g w' vs hM hE hP=>?_) ?_
                      rotate_left
                      · (clear hP hM;have ⟨z0,z1,z2,z3,z4,z5⟩:=cs_e6 hE HFCT.out;go_simp;first | done | rfl)
                      refine reg_value (fun _=>rfl) ?_ (fun g w' vs hM hE hP=>?_) ?_
                      rotate_left
                      · (clear hP hM;go_simp;first | done | rfl)
                      refine reg_value (fun _=>rfl) ?_ (fun g w' vs hM hE hP=>?_) ?_
                      rotate_left
                      · (clear hP hM;go_simp;first | done | rfl)
                      refine reg_value (fun _=>rfl) ?_ (fun g w' vs hM hE hP=>?_) ?_
                      rotate_left
                      · (clear hP hM;have ⟨z0,z1,z2,z3,z4,z5⟩:=cs_e6 hE HFCT.out;go_simp;first | done | rfl)
                      refine reg_value (fun _=>rfl) ?_ (fun g w' vs hM hE hP=>?_) ?_
                      rotate_left
                      · (clear hP hM;go_simp;first | done | rfl)
                      refine reg_value (fun _=>rfl) ?_ (fun g w' vs hM hE hP=>?_) ?_
                      rotate_left
                      · (clear hP hM;go_simp;first | done | rfl)
                      refine reg_value (fun _=>rfl) ?_ (fun g w' vs hM hE hP=>?_) ?_
                      rotate_left
                      · (clear hP hM;go_simp;first | done | rfl)
                      refine reg_value (fun _=>rfl) ?_ (fun g w' vs hM hE hP=>?_) ?_
                      rotate_left
                      · (clear hP hM;have ⟨z0,z1,z2,z3,z4,z5⟩:=cs_e6 hE HFCT.out;go_simp;first | done | rfl)
                      refine reg_value (fun _=>rfl) ?_ (fun g w' vs hM hE hP=>?_) ?_
                      rotate_left
                      · (clear hP hM;go_simp;first | done | rfl)
                      refine reg_value (fun _=>rfl) ?_ (fun g w' vs hM hE hP=>?_) ?_
                      rotate_left
                      · (clear hP hM;go_simp;first | done | rfl)
                      refine reg_value (fun _=>rfl) ?_ (fun g w' vs hM hE hP=>?_) ?_
                      rotate_left
                      · (clear hP hM;have ⟨z0,z1,z2,z3,z4,z5⟩:=cs_e6 hE HFCT.out;go_simp;first | done | rfl)
                      refine reg_value (fun _=>rfl) ?_ (fun g w' vs hM hE hP=>?_) ?_
                      rotate_left
                      · (clear hP hM;go_simp;first | done | rfl)
                      refine reg_value (fun _=>rfl) ?_ (fun g w' vs hM hE hP=>?_) ?_
                      rotate_left
                      · (clear hP hM;go_simp;first | done | rfl)
                      refine reg_value (fun _=>rfl) ?_ (fun g w' vs hM hE hP=>?_) ?_
                      rotate_left
                      · (clear hP hM;have ⟨z0,z1,z2,z3,z4,z5⟩:=cs_e6 hE HFCT.out;go_simp;first | done | rfl)
                      refine reg_value (fun _=>rfl) ?_ (fun g w' vs hM hE hP=>?_) ?_
                      rotate_left
                      · (clear hP hM;go_simp;first | done | rfl)
                      refine reg_value (fun _=>rfl) ?_ (fun g w' vs hM hE hP=>?_) ?_
                      rotate_left
                      · (clear hP hM;go_simp;first | done | rfl)
                      refine reg_value (fun _=>rfl) ?_ (fun g w' vs hM hE hP=>?_) ?_
                      rotate_left
                      · (clear hP hM;have ⟨z0,z1,z2,z3,z4,z5⟩:=cs_e6 hE HFCT.out;go_simp;first | done | rfl)
                      refine reg_value (fun _=>rfl) ?_ (fun g w' vs hM hE hP=>?_) ?_
                      rotate_left
                      · (clear hP hM;go_simp;first | done | rfl)
                      intro g wz hE2 hF hQ
                      simp only [List.drop_succ_cons,List.drop_zero,Act.put,List.setIfInBounds_toArray,List.set_cons_succ,List.set_cons_zero]
                      have HEZ:=Lib.hid hE2
                      clear hE2 hF hQ p0 r2 r0 rz x1 y0 y1 y2 x3
                      go_wp2_with fail
                      refine (HSUB.out wz HEZ.out).mono ?_
                      rintro e w5 ⟨rfl,P5,K5,lg5,hC5,hx5,hp5,hk5,lp5,lk5,-,-,ho5⟩
                      have HNX:Hid (∃R' lg',SubsR n G c b y R P (j+1) R' lg'∧XeAt w5 B R' P lg'∧Chg B.M w w5):=Lib.hid (by
                       refine ⟨_,lg5,HSU.out.sub HR.out.1 hjb HU.out HY.out.2.1 HY.out.2.2 (HG.out.1 j r hlt HR.out.2 HU.out (by rw [←HA.out];exact ha0)) (by rw [HRN.out,HYN.out]) lp5 lk5 (fun h=>?_),(HXE.out.ext HEZ.out).sub HN.out HAD.out HR.out.1 lp5 lk5 hC5 hx5 hp5 hk5,(HCH.out.trans (Chg.of HEZ.out)).trans (Chg.xeB HAD.out hC5)⟩
                       rw [←HQ.out]
                       exact ho5 h)
                      clear hC5 hx5 hp5 hk5 lp5 lk5 ho5
                      go_wp2_with fail
                      go_roundw
                      case rel=>exact ⟨j+1,by go_num,by omega,HNX⟩
                      case measure=>simp [intOf];omega
            · have hji:¬(j:Int)<(nr:Int):=by omega
              have hjn:j=nr:=by omega
              subst hjn
              have hrl:∀r∈R',r.p.length=n:=fun r hr=>by
               obtain ⟨i,hi⟩:=List.mem_iff_getElem?.1 hr
               have hil:=(List.getElem?_eq_some_iff.1 hi).1
               obtain ⟨r0,h0⟩:∃r0,R[i]?=some r0:=⟨_,List.getElem?_eq_getElem (by rw [←HSU.out.len];exact hil)⟩
               rw [(HSU.out.same i r r0 hi h0).2.1]
               exact HS.out.rl _ (List.mem_of_getElem? h0)
              have HNX:Hid (∃R P lg,ColI w wr B G n c j R P lg):=Lib.hid ⟨R',P,lg',HCH.out,HXE.out,HSU.out.inv,HSU.out.len.trans HS.out.lr,HS.out.pl,hrl⟩
              have HML:Hid (muW B c wr<1+wt c R):=Lib.hid (by
               cases lg' with
               | true=>rw [HXE.out.mu0];omega
               | false =>
                 rw [HXE.out.mu (fun r hr=>by rw [hrl r hr];exact hc)]
                 have h1:=HSU.out
                 have h2:=HCN.out
                 rw [←HS.out.lr] at h1 h2
                 have:=h1.less h2 rfl HY.out.1 hcn2
                 omega)
              clear hrl
              go_wp2_with fail
              go_roundw
              case rel=>exact HNX
              case measure=>rw [HMUO.out];exact HML.out
end Go.Proofs.YtclijngnoepbiaaGreat
