/- Terms in memory whose atoms have no kids at all. Contracts: exponent.collect on literals and on products of literals. -/
import Derived.Test.YtclijngnoepbiaaGreatPu9
set_option maxRecDepth 100000
set_option maxHeartbeats 8000000
namespace Go.Proofs.YtclijngnoepbiaaGreat
open Go Go.RowKit
set_option linter.unusedVariables false
set_option linter.unusedSimpArgs false

/-- the term t lies at place o of block b, its atoms' kids are nil -/
inductive TnAt (w:World) (S:Nat→Prop):Nat→Nat→Tm→Prop
 | mk {b o:Nat} {k:Int} {n:ByteArray} {s:Int} {l:List Tm} {a:Option Addr} {cap ba oa:Nat}
  (h0:w.cell? ⟨b,o,none⟩=some (.int .i64 k)) (h1:w.cell? ⟨b,o+1,none⟩=some (.string n)) (h2:w.cell? ⟨b,o+2,none⟩=some (.int .i64 s)) (h3:w.cell? ⟨b,o+3,none⟩=some (.slice a l.length cap))
  (hk:I64 k) (hs:I64 s) (hn:n.size≤maxLen) (hl:l.length≤cap) (hc:cap≤maxLen) (hz:k=2→a=none∧cap=0) (ha:l≠[]→a=some ⟨ba,oa,none⟩∧S ba)
  (kids:∀(i:Nat) t,l[i]?=some t→TnAt w S ba (oa+i*4) t):TnAt w S b o (.mk k n s l)
/-- such a term as a value -/
structure TnW (w:World) (S:Nat→Prop) (a:Option Addr) (cap:Nat) (t:Tm):Prop where
 kind:I64 t.kind
 sort:I64 t.sort
 name:t.name.size≤maxLen
 nil:t.kind=2→a=none∧cap=0
 len:t.kids.length≤cap
 cap:cap≤maxLen
 kids:∃ba oa,(t.kids≠[]→a=some ⟨ba,oa,none⟩∧S ba)∧∀(i:Nat) k,t.kids[i]?=some k→TnAt w S ba (oa+i*4) k
section
variable {w w' : World} {S S' : Nat → Prop} {b o cap : Nat} {a : Option Addr} {t : Tm} {l L : List Tm}
theorem TnAt.open (h:TnAt w S b o t):∃a cap,w.cell? ⟨b,o,none⟩=some (.int .i64 t.kind)∧w.cell? ⟨b,o+1,none⟩=some (.string t.name)∧w.cell? ⟨b,o+2,none⟩=some (.int .i64 t.sort)∧w.cell? ⟨b,o+3,none⟩=some (.slice a t.kids.length cap)∧TnW w S a cap t:=by
 cases h with
 | mk h0 h1 h2 h3 hk hs hn hl hc hz ha kids=>exact ⟨_,_,h0,h1,h2,h3,hk,hs,hn,hz,hl,hc,_,_,ha,kids⟩
theorem TnAt.close (h0:w.cell? ⟨b,o,none⟩=some (.int .i64 t.kind)) (h1:w.cell? ⟨b,o+1,none⟩=some (.string t.name)) (h2:w.cell? ⟨b,o+2,none⟩=some (.int .i64 t.sort)) (h3:w.cell? ⟨b,o+3,none⟩=some (.slice a t.kids.length cap)) (h:TnW w S a cap t):TnAt w S b o t:=by
 cases t with
 | mk k n s l =>
   obtain ⟨hk,hs,hn,hz,hl,hc,ba,oa,ha,kids⟩:=h
   exact .mk h0 h1 h2 h3 hk hs hn hl hc hz ha kids
theorem TnAt.lt (h:TnAt w S b o t):b<w.heap.size:=by
 obtain ⟨a,cap,h0,-⟩:=h.open
 exact World.block_lt_of_cell? w ⟨b,o,none⟩ h0
theorem TnAt.keep (h:TnAt w S b o t) (hb:w'.heap[b]?=w.heap[b]?) (hB:∀c,S c→c<w.heap.size→w'.heap[c]?=w.heap[c]?) (hS:∀c,S c→c<w.heap.size→S' c):TnAt w' S' b o t:=by
 induction h with
 | @mk b o k n s l a cap ba oa h0 h1 h2 h3 hk hs hn hl hc hz ha kids ih =>
   have e:∀o,w'.cell? ⟨b,o,none⟩=w.cell? ⟨b,o,none⟩:=fun o=>World.cell?_of_block (a:=⟨b,o,none⟩) hb
   have hlt:l≠[]→ba<w.heap.size:=fun hne=>by
    obtain ⟨x,hx⟩:=get0 hne
    exact (kids 0 x hx).lt
   refine .mk (by rw [e];exact h0) (by rw [e];exact h1) (by rw [e];exact h2) (by rw [e];exact h3) hk hs hn hl hc hz (fun hne=>⟨(ha hne).1,hS _ (ha hne).2 (hlt hne)⟩) (fun i t hi=>ih i t hi (hB _ (ha (ne_nil_of_get hi)).2 (hlt (ne_nil_of_get hi))))
theorem TnW.keep (h:TnW w S a cap t) (hB:∀c,S c→c<w.heap.size→w'.heap[c]?=w.heap[c]?) (hS:∀c,S c→c<w.heap.size→S' c):TnW w' S' a cap t:=by
 obtain ⟨ba,oa,ha,hk⟩:=h.kids
 refine ⟨h.kind,h.sort,h.name,h.nil,h.len,h.cap,ba,oa,fun hne=>⟨(ha hne).1,hS _ (ha hne).2 (let ⟨x,hx⟩:=get0 hne;(hk 0 x hx).lt)⟩,fun i t hi=>(hk i t hi).keep (hB _ (ha (ne_nil_of_get hi)).2 (hk i t hi).lt) hB hS⟩
theorem TnW.ext (h:TnW w S a cap t) (hE:Ext w w'):TnW w' S a cap t:=h.keep (fun c _ hc=>hE.block hc) (fun _ h _=>h)
theorem TnW.wide (h:TnW w S a cap t) (hS:∀c,S c→c<w.heap.size→S' c):TnW w S' a cap t:=h.keep (fun _ _ _=>rfl) hS
theorem TnAt.at (h:TnAt w S b o t):TmAt w S b o t:=by
 induction h with
 | mk h0 h1 h2 h3 hk hs hn hl hc hz ha kids ih=>exact .mk h0 h1 h2 h3 hk hs hn hl hc ha ih
theorem TnW.tm (h:TnW w S a cap t):TmW w S a cap t :=
 let ⟨ba,oa,ha,hk⟩:=h.kids
 ⟨h.kind,h.sort,h.name,h.len,h.cap,ba,oa,ha,fun i t hi=>(hk i t hi).at⟩
/-- a kid, opened -/
theorem TnW.kid (h:TnW w S a cap t) {i:Nat} {k:Tm} (hi:t.kids[i]?=some k):∃b off a' cap',a=some ⟨b,off,none⟩∧S b∧b<w.heap.size∧w.cell? ⟨b,off+i*4,none⟩=some (.int .i64 k.kind)∧w.cell? ⟨b,off+i*4+1,none⟩=some (.string k.name)∧w.cell? ⟨b,off+i*4+2,none⟩=some (.int .i64 k.sort)∧w.cell? ⟨b,off+i*4+3,none⟩=some (.slice a' k.kids.length cap')∧TnW w S a' cap' k:=by
 obtain ⟨ba,oa,ha,hk⟩:=h.kids
 have h1:=hk i k hi
 obtain ⟨a',cap',c0,c1,c2,c3,hT⟩:=h1.open
 exact ⟨ba,oa,a',cap',(ha (ne_nil_of_get hi)).1,(ha (ne_nil_of_get hi)).2,h1.lt,c0,c1,c2,c3,hT⟩
end
/-- rows of such terms -/
def elN:Elm Tm where
 n:=4
 R w S t cs:=∃a cap,cs=encE ⟨t,a,cap⟩∧TnW w S a cap t
 len:=by rintro w S t cs ⟨a,cap,rfl,-⟩;rfl
 one:=by rintro w S t cs ⟨a,cap,rfl,-⟩;exact encE_one' _
 keep:=by rintro w w' S S' t cs ⟨a,cap,rfl,h⟩ h1 h2;exact ⟨a,cap,rfl,h.keep h1 h2⟩
/-- an atom as a value -/
theorem tn_atom {w:World} {S:Nat→Prop} {n:ByteArray} {s:Int} (hn:n.size≤maxLen) (hs:I64 s):TnW w S none 0 (.mk 2 n s []) :=
 ⟨by show I64 2;unfold I64;omega,hs,hn,fun _=>⟨rfl,rfl⟩,Nat.le_refl _,by show 0≤maxLen;omega,0,0,fun h=>absurd rfl h,fun i k h=>by simp [Tm.kids] at h⟩
/-- a list of terms becomes an application -/
theorem tn_app {w:World} {S:Nat→Prop} {n:ByteArray} {a:Option Addr} {cap:Nat} {L:List Tm} (hn:n.size≤maxLen) (h:LsG elN w S (.slice a L.length cap) L):TnW w S a cap (appTm n L):=by
 obtain ⟨a',cap',e,hl,hc,hk⟩:=h
 cases e
 refine ⟨by show I64 3;unfold I64;omega,by show I64 0;unfold I64;omega,hn,fun h=>absurd h (by show ¬(3:Int)=2;omega),hl,hc,?_⟩
 by_cases hne:L=[]
 · subst hne
   exact ⟨0,0,fun h=>absurd rfl h,fun i k h=>by simp [appTm,Tm.kids] at h⟩
 · obtain ⟨x,hx⟩:=get0 hne
   obtain ⟨b,off,cs,ea,hb,hlt,hR,hcs⟩:=hk 0 x hx
   refine ⟨b,off,fun _=>⟨ea,hb⟩,fun i k hi=>?_⟩
   obtain ⟨b2,off2,cs2,ea2,hb2,hlt2,⟨a2,c2,rfl,hT⟩,hcs2⟩:=hk i k hi
   rw [ea] at ea2
   cases ea2
   exact TnAt.close (hcs2 0 _ rfl) (hcs2 1 _ rfl) (hcs2 2 _ rfl) (hcs2 3 _ rfl) hT
/-- one term as a row -/
theorem tn_e {w:World} {S:Nat→Prop} {p cap:Nat} {a:Option Addr} {t:Tm} (h:w.heap[p]?=some (.cells #[.int .i64 t.kind,.string t.name,.int .i64 t.sort,.slice a t.kids.length cap] 33)) (hT:TnW w S a cap t):LsE elN w S (.slice (some ⟨p,0,none⟩) 1 1) [t] :=
 cells_lsE (P:=[(t,encE ⟨t,a,cap⟩)]) h rfl rfl rfl (by simp [maxLen]) (by intro p hp;simp at hp;subst hp;exact ⟨_,_,rfl,hT⟩)
/-- such a term as a value -/
def IsN (w:World) (S:Nat→Prop) (v:Value) (t:Tm):Prop:=∃a cap,v=.agg #[.int .i64 t.kind,.string t.name,.int .i64 t.sort,.slice a t.kids.length cap]∧TnW w S a cap t
theorem IsN.ext {w w':World} {S:Nat→Prop} {v:Value} {t:Tm} (h:IsN w S v t) (hE:Ext w w'):IsN w' S v t :=
 let ⟨a,c,h1,h2⟩:=h
 ⟨a,c,h1,h2.ext hE⟩
/-- a literal: an atom, or its inverse -/
abbrev Lit:=Nat × Bool
def invN:ByteArray:=⟨#[105,110,118]⟩
def mulN:ByteArray:=⟨#[109,117,108]⟩
def oneN:ByteArray:=⟨#[111,110,101]⟩
def expN:ByteArray:=⟨#[101,120,112]⟩
def litT:Lit→Tm
 | (i,false)=>atmT i
 | (i,true)=>appTm invN [atmT i]
def expT:List Lit→Tm
 | []=>appTm oneN []
 | [l]=>litT l
 | l :: l' :: ls=>appTm mulN ((l :: l' :: ls).map litT)
def lsg (l:Lit):Int:=if l.2 then -1 else 1
/-- the literals of a product -/
def litsP (P:List Pw):List Lit:=(P.flatMap fun p=>List.replicate p.2.toNat (p.1,false))++P.flatMap fun p=>List.replicate (-p.2).toNat (p.1,true)
/-- the product of literals -/
def addLs (P:List Pw) (ls:List Lit):List Pw:=ls.foldl (fun P l=>addP P l.1 (lsg l)) P
/-- the sum of the signs of an atom -/
def sg (ls:List Lit) (i:Nat):Int:=(ls.map fun l=>if i=l.1 then lsg l else 0).sum
theorem lsg_ne (l:Lit):lsg l≠0:=by unfold lsg;split<;>omega
theorem addLs_spec:∀{ls:List Lit} {P:List Pw},(∀l∈ls,l.1<6)→Good P→Good (addLs P ls)∧∀i,cf (addLs P ls) i=cf P i+sg ls i:=by
 intro ls
 induction ls with
 | nil=>intro P _ hP;exact ⟨hP,fun i=>by simp [addLs,sg]⟩
 | cons l ls ih =>
   intro P h hP
   have h1:=addP_spec (i:=l.1) (n:=lsg l) (h l (List.mem_cons_self ..)) (lsg_ne l) hP
   obtain ⟨h2,h3⟩:=ih (P:=addP P l.1 (lsg l)) (fun x hx=>h x (List.mem_cons_of_mem _ hx)) h1.1
   refine ⟨h2,fun i=>?_⟩
   show cf (addLs (addP P l.1 (lsg l)) ls) i=_
   rw [h3,h1.2.1]
   unfold sg
   rw [List.map_cons,List.sum_cons]
   omega
theorem sg_append (A B:List Lit) (i:Nat):sg (A++B) i=sg A i+sg B i:=by
 unfold sg
 rw [List.map_append,List.sum_append]
theorem sum_repI:∀(n:Nat) (z:Int),(List.replicate n z).sum=n*z:=by
 intro n z
 induction n with
 | zero=>simp
 | succ n ih =>
   rw [List.replicate_succ,List.sum_cons,ih]
   have:((n+1:Nat):Int)*z=n*z+z:=by rw [Int.natCast_add,Int.add_mul];simp
   omega
theorem sg_rep (n:Nat) (l:Lit) (i:Nat):sg (List.replicate n l) i=if i=l.1 then n*lsg l else 0:=by
 unfold sg
 rw [List.map_replicate,sum_repI]
 split<;>simp
theorem sg_pos:∀{P:List Pw} {i:Nat},Good P→sg (P.flatMap fun p=>List.replicate p.2.toNat (p.1,false)) i=max (cf P i) 0:=by
 intro P
 induction P with
 | nil=>intro i _;simp [sg,cf]
 | cons p P ih =>
   intro i hG
   rw [List.flatMap_cons,sg_append,sg_rep,ih hG.tail]
   show (if i=p.1 then (p.2.toNat:Int)*1 else 0)+_=max (if p.1=i then p.2 else cf P i) 0
   by_cases e:p.1=i
   · have h0:cf P i=0:=cf_out (fun q hq=>by have:=(List.pairwise_cons.1 hG.asc).1 q hq;omega)
     rw [if_pos e,if_pos e.symm,h0]
     omega
   · rw [if_neg e,if_neg (fun h=>e h.symm)]
     omega
theorem sg_neg:∀{P:List Pw} {i:Nat},Good P→sg (P.flatMap fun p=>List.replicate (-p.2).toNat (p.1,true)) i=min (cf P i) 0:=by
 intro P
 induction P with
 | nil=>intro i _;simp [sg,cf]
 | cons p P ih =>
   intro i hG
   rw [List.flatMap_cons,sg_append,sg_rep,ih hG.tail]
   show (if i=p.1 then ((-p.2).toNat:Int)*(-1) else 0)+_=min (if p.1=i then p.2 else cf P i) 0
   by_cases e:p.1=i
   · have h0:cf P i=0:=cf_out (fun q hq=>by have:=(List.pairwise_cons.1 hG.asc).1 q hq;omega)
     rw [if_pos e,if_pos e.symm,h0]
     omega
   · rw [if_neg e,if_neg (fun h=>e h.symm)]
     omega
theorem lits_six {P:List Pw} (hG:Good P):∀l∈litsP P,l.1<6:=by
 intro l hl
 rcases List.mem_append.1 hl with h | h
 · obtain ⟨p,hp,h⟩:=List.mem_flatMap.1 h
   rw [List.eq_of_mem_replicate h]
   exact hG.six p hp
 · obtain ⟨p,hp,h⟩:=List.mem_flatMap.1 h
   rw [List.eq_of_mem_replicate h]
   exact hG.six p hp
/-- the product of the literals of a product -/
theorem addLs_lits {P:List Pw} (hG:Good P):addLs [] (litsP P)=P:=by
 obtain ⟨h1,h2⟩:=addLs_spec (P:=[]) (lits_six hG) Good.nil
 refine Good.uniq h1 hG (fun i=>?_)
 rw [h2]
 unfold litsP
 rw [sg_append,sg_pos hG,sg_neg hG]
 show (0:Int)+_=_
 omega
end Go.Proofs.YtclijngnoepbiaaGreat

namespace Go.Proofs.YtclijngnoepbiaaGreat
open Go Go.RowKit
set_option linter.unusedVariables false
set_option linter.unusedSimpArgs false

theorem symbol_app {w:World} {n:ByteArray} {a:Option Addr} {k c:Nat} (hn:n=invN∨n=mulN∨n=oneN):Calls Tryz.prog 40 #[.agg #[.int .i64 3,.string n,.int .i64 0,.slice a k c]] w fun e w'=>e=.returned (.bool true)∧Ext w w':=by
 obtain ⟨bx,w1,hbx,hw1,HX,hE1⟩:=box_new w (.cells #[.int .i64 3,.string n,.int .i64 0,.slice a k c] 33)
 have x0:w1.cell? ⟨bx,0,none⟩=some (.int .i64 3):=by rw [cellc HX.out];rfl
 have x1:w1.cell? ⟨bx,1,none⟩=some (.string n):=by rw [cellc HX.out];rfl
 have HE1:=Lib.hid hE1
 clear hE1
 rcases hn with rfl | rfl | rfl
 all_goals
  try unfold invN at *
  try unfold mulN at *
  try unfold oneN at *
  go_enter Tryz.func40,Tryz.ntmps40
  go_upto_region 1 with fail
  rw [←hw1,←hbx]
  clear hw1 hbx
  go_wp2_with fail
  go_ret
  exact ⟨rfl,HE1.out⟩
/-- blocks below the base stay -/
structure ExB (base:Nat) (w w':World):Prop where
 size:w.heap.size≤w'.heap.size
 blk:∀c,c<base→c<w.heap.size→w'.heap[c]?=w.heap[c]?
 ext:∀W0,Ext W0 w→W0.heap.size≤base→Ext W0 w'
theorem ExB.of {base:Nat} {w w':World} (h:Ext w w'):ExB base w w':=⟨h.size,fun c _ hc=>h.block hc,fun W0 h0 _=>h0.trans h⟩
theorem ExB.trans {base:Nat} {a b c:World} (h:ExB base a b) (k:ExB base b c):ExB base a c :=
 ⟨Nat.le_trans h.size k.size,fun x hx hxa=>(k.blk x hx (Nat.lt_of_lt_of_le hxa h.size)).trans (h.blk x hx hxa),fun W0 h0 hs=>k.ext W0 (h.ext W0 h0 hs) hs⟩
theorem ExB.grown {base:Nat} {w w':World} {r:Option Nat} (hg:w.grownBy w' r) (hr:∀g,r=some g→base≤g):ExB base w w' :=
 ⟨hg.size,fun c hc hcw=>hg.block c hcw (fun e=>by have:=hr c e.symm;omega),fun W0 h0 hs=>h0.grown hg (fun c hc=>Nat.le_trans hs (hr c hc))⟩
theorem TnW.exB {base:Nat} {w w':World} {a:Option Addr} {cap:Nat} {t:Tm} (h:TnW w (fun c=>c<base) a cap t) (hE:ExB base w w'):TnW w' (fun c=>c<base) a cap t:=h.keep (fun c h1 h2=>hE.blk c h1 h2) (fun c h _=>h)
/-- what collect leaves -/
def ColE (w:World) (base:Nat) (L:List Pw) (e:Ending) (w':World):Prop:=∃v',e=.returned (.tuple #[v',.bool true])∧ExB base w w'∧OwnG elPw w' base 66 (fun _=>False) v' L
theorem collect_atm {w:World} {base:Nat} {va:Option Addr} {vc i:Nat} {m:Int} {L:List Pw} (hO:OwnG elPw w base 66 (fun _=>False) (.slice va L.length vc) L) (hb:base≤w.heap.size) (hG:Good L) (hR:Rng 1000000 L) (hi:i<6) (hm:-1000≤m∧m≤1000) :
 Calls Tryz.prog 121 #[.slice va L.length vc,atmV i,.int .i64 m] w fun e w'=>ColE w base (addP L i m) e w':=by
 obtain ⟨tb,w1,htb,hw1,HT,hE1⟩:=box_new w (.cells #[.int .i64 2,.string (ltr i),.int .i64 2,.slice none 0 0] 33)
 have z0:w1.cell? ⟨tb,0,none⟩=some (.int .i64 2):=by rw [cellc HT.out];rfl
 have z1:w1.cell? ⟨tb,1,none⟩=some (.string (ltr i)):=by rw [cellc HT.out];rfl
 have z2:w1.cell? ⟨tb,2,none⟩=some (.int .i64 2):=by rw [cellc HT.out];rfl
 have z3:w1.cell? ⟨tb,3,none⟩=some (.slice none 0 0):=by rw [cellc HT.out];rfl
 have HSY:=Lib.hid (symbol_atm (w:=w1) (i:=i))
 have HIN:=Lib.hid (fun (w':World) (hE:Ext w w')=>pinsert_any (hO.ext hE) (Nat.le_trans hb hE.size) hG hR hi hm)
 have HE1:=Lib.hid hE1
 have HLT:=Lib.hid hO.lt
 unfold atmV at *
 clear hO hb hG hR hi hm hE1
 go_enter Tryz.func121,Tryz.ntmps121
 go_upto_region 1 with fail
 rw [←hw1,←htb]
 clear hw1 htb
 go_wp2_with fail
 refine HSY.out.mono ?_
 rintro e w2 ⟨rfl,hE2⟩
 have HE2:=Lib.hid (HE1.out.trans hE2)
 obtain ⟨z0,z1,z2,z3⟩:=cs_e4 hE2 ⟨z0,z1,z2,z3⟩
 clear hE2
 go_wp2_with fail
 refine (HIN.out _ HE2.out).mono ?_
 rintro e w3 ⟨v',rfl,hg3,hO3⟩
 have HG3:Hid (ExB base w w3):=Lib.hid ((ExB.of HE2.out).trans (ExB.grown hg3 (fun g h=>(HLT.out g h).1)))
 have HO3:=Lib.hid hO3
 clear hg3 hO3
 go_wp2_with fail
 go_ret2
 exact ⟨_,rfl,HG3.out,HO3.out⟩
/-- the arity of a symbol fits -/
def ArB (n:ByteArray) (k:Nat):Prop:=(n=invN∧k=1)∨(n=mulN∧2≤k)∨(n=oneN∧k=0)
theorem collect_node {w:World} {base:Nat} {va a:Option Addr} {vc cap l:Nat} {m s:Int} {n:ByteArray} {ks:List Tm} {Ps:Nat→List Pw} (hO:OwnG elPw w base 66 (fun _=>False) (.slice va (Ps 0).length vc) (Ps 0)) (hb:base≤w.heap.size) (hl:ks.length=l) (hA:ArB n l) (h8:l≤8) (hm:-1000≤m∧m≤1000)
 (hs:s=if n=invN then -m else m) (hT:TnW w (fun c=>c<base) a cap (appTm n ks))
 (hK:∀(w':World) (q:Nat) (k:Tm) (va:Option Addr) (vc:Nat) (ka:Option Addr) (kc:Nat),ks[q]?=some k→base≤w'.heap.size→OwnG elPw w' base 66 (fun _=>False) (.slice va (Ps q).length vc) (Ps q)→TnW w' (fun c=>c<base) ka kc k →
   Calls Tryz.prog 121 #[.slice va (Ps q).length vc,.agg #[.int .i64 k.kind,.string k.name,.int .i64 k.sort,.slice ka k.kids.length kc],.int .i64 s] w' fun e w''=>ColE w' base (Ps (q+1)) e w'') :
 Calls Tryz.prog 121 #[.slice va (Ps 0).length vc,.agg #[.int .i64 3,.string n,.int .i64 0,.slice a l cap],.int .i64 m] w fun e w'=>ColE w base (Ps l) e w':=by
 obtain ⟨tb,w1,htb,hw1,HTB,hE1⟩:=box_new w (.cells #[.int .i64 3,.string n,.int .i64 0,.slice a l cap] 33)
 have z0:w1.cell? ⟨tb,0,none⟩=some (.int .i64 3):=by rw [cellc HTB.out];rfl
 have z1:w1.cell? ⟨tb,1,none⟩=some (.string n):=by rw [cellc HTB.out];rfl
 have z2:w1.cell? ⟨tb,2,none⟩=some (.int .i64 0):=by rw [cellc HTB.out];rfl
 have z3:w1.cell? ⟨tb,3,none⟩=some (.slice a l cap):=by rw [cellc HTB.out];rfl
 have HSY:=Lib.hid (symbol_app (w:=w1) (n:=n) (a:=a) (k:=l) (c:=cap) (by rcases hA with ⟨h,-⟩ | ⟨h,-⟩ | ⟨h,-⟩;exact .inl h;exact .inr (.inl h);exact .inr (.inr h)))
 have HE1:=Lib.hid hE1
 have hTE:=hT.ext hE1
 obtain ⟨TK,hTK⟩:∃TK:World→Prop,TK=fun w'=>TnW w' (fun c=>c<base) a cap (appTm n ks):=⟨_,rfl⟩
 have HTW:Hid (TK w1):=Lib.hid (by rw [hTK];exact hTE)
 have HTX:Hid (∀w w',TK w→ExB base w w'→TK w'):=Lib.hid (fun w w' h hE=>by rw [hTK] at h ⊢;exact h.exB hE)
 have HTO:Hid (∀w (q:Nat) k,TK w→ks[q]?=some k→∃b off a' cap',a=some ⟨b,off,none⟩∧w.cell? ⟨b,off+q*4,none⟩=some (.int .i64 k.kind)∧w.cell? ⟨b,off+q*4+1,none⟩=some (.string k.name)∧w.cell? ⟨b,off+q*4+2,none⟩=some (.int .i64 k.sort)∧w.cell? ⟨b,off+q*4+3,none⟩=some (.slice a' k.kids.length cap')∧TnW w (fun c=>c<base) a' cap' k):=Lib.hid (fun w q k h hk=>by
  rw [hTK] at h
  obtain ⟨b,off,a',cap',h1,-,-,h2,h3,h4,h5,h6⟩:=h.kid (i:=q) (k:=k) hk
  exact ⟨b,off,a',cap',h1,h2,h3,h4,h5,h6⟩)
 have HOW:=Lib.hid (hO.ext hE1)
 have HB:=Lib.hid hb
 have HKC:=Lib.hid hK
 have wm:IntKind.i64.wrap (-m)=-m:=by rw [IntKind.wrap_i64];omega
 obtain ⟨-,-,-,-,hkl,hkc,-⟩:=hT
 have hkl:l≤cap:=hl ▸ hkl
 unfold maxLen at hkc
 have HL:=Lib.hid hl
 clear hO hb hK hE1 hTE hTK hl
 rcases hA with ⟨rfl,hk1⟩ | ⟨rfl,hk1⟩ | ⟨rfl,hk1⟩
 · rw [if_pos rfl] at hs
   subst hs
   unfold invN at *
   subst hk1
   go_enter Tryz.func121,Tryz.ntmps121
   go_upto_region 1 with fail
   rw [←hw1,←htb]
   clear hw1 htb
   go_wp2_with fail
   refine HSY.out.mono ?_
   rintro e w2 ⟨rfl,hE2⟩
   have HEB:Hid (ExB base w w2):=Lib.hid (ExB.of (HE1.out.trans hE2))
   have HTW2:=Lib.hid (HTX.out _ _ HTW.out (ExB.of hE2))
   have HO2:=Lib.hid (HOW.out.ext hE2)
   obtain ⟨z0,z1,z2,z3⟩:=cs_e4 hE2 ⟨z0,z1,z2,z3⟩
   clear hE2
   go_upto_region 12 with fail
   obtain ⟨w5,hw5⟩:∃w5,w5=w2:=⟨_,rfl⟩
   go_loopw [0,9,11,54] (fun lv ov _ kv wr=>∃(q:Nat) (va:Option Addr) (vc:Nat),lv=.slice va (Ps q).length vc∧kv=.int .i64 q∧q≤1∧Hid (ExB base w wr)∧Hid (TK wr)∧Hid (OwnG elPw wr base 66 (fun _=>False) (.slice va (Ps q).length vc) (Ps q))) (fun _ _ _ kv _=>1-(intOf kv).toNat)
   case atStart=>exact ⟨0,va,vc,rfl,rfl,by omega,HEB,HTW2,HO2⟩
   case round =>
    clear HEB HTW2 HO2
    obtain ⟨q,va,vc,rfl,rfl,hq,HEB,HTW2,HO2⟩:=hrel
    by_cases hlt:q<1
    · have hqz:(q:Int)<((1:Nat):Int):=by omega
      have hqz2:(q:Int)<(1:Int):=by omega
      have hq0:(0:Int)≤(q:Int):=by omega
      have wq:IntKind.i64.wrap ((q:Int)+1)=((q+1:Nat):Int):=by rw [IntKind.wrap_i64];omega
      obtain ⟨k,hk⟩:∃k,ks[q]?=some k:=⟨_,List.getElem?_eq_getElem (by rw [HL.out];exact hlt)⟩
      obtain ⟨b,off,ka,kc,hab,k0,k1,k2,k3,hKT⟩:=HTO.out wr q k HTW2.out hk
      subst hab
      obtain ⟨kb,w6,hkb,hw6,HKB,hE6⟩:=box_new wr (.cells #[.int .i64 k.kind,.string k.name,.int .i64 k.sort,.slice ka k.kids.length kc] 33)
      have y0:w6.cell? ⟨kb,0,none⟩=some (.int .i64 k.kind):=by rw [cellc HKB.out];rfl
      have y1:w6.cell? ⟨kb,1,none⟩=some (.string k.name):=by rw [cellc HKB.out];rfl
      have y2:w6.cell? ⟨kb,2,none⟩=some (.int .i64 k.sort):=by rw [cellc HKB.out];rfl
      have y3:w6.cell? ⟨kb,3,none⟩=some (.slice ka k.kids.length kc):=by rw [cellc HKB.out];rfl
      have HCA:=Lib.hid (HKC.out w6 q k va vc ka kc hk (by have:=HB.out;have:=HEB.out.size;have:=hE6.size;omega) (HO2.out.ext hE6) (hKT.ext hE6))
      have HEB6:=Lib.hid (HEB.out.trans (ExB.of hE6))
      have HT6:=Lib.hid (HTX.out _ _ HTW2.out (ExB.of hE6))
      clear hk hKT hE6
      go_upto_region 14 with fail
      rw [←hw6,←hkb]
      clear hw6 hkb k0 k1 k2 k3
      go_wp2_with fail
      refine HCA.out.mono ?_
      rintro e w7 ⟨v',rfl,hE7,hO7⟩
      obtain ⟨va7,vc7,rfl,-,-⟩:=id hO7.slice
      have HEB7:=Lib.hid (HEB6.out.trans hE7)
      have HT7:=Lib.hid (HTX.out _ _ HT6.out hE7)
      have HO7:=Lib.hid hO7
      clear hE7 hO7 y0 y1 y2 y3
      go_wp2_with fail
      go_roundw
      case rel=>exact ⟨q+1,va7,vc7,rfl,rfl,by omega,HEB7,HT7,HO7⟩
      case measure=>simp [intOf];omega
    · have hqz:¬(q:Int)<((1:Nat):Int):=by omega
      have hqz2:¬(q:Int)<(1:Int):=by omega
      have hql:q=1:=by omega
      have HFI:Hid (OwnG elPw wr base 66 (fun _=>False) (.slice va (Ps q).length vc) (Ps 1)):=Lib.hid (by have h:=HO2.out;rw [hql] at h ⊢;exact h)
      clear hql
      go_wp2_with fail
      go_ret2
      exact ⟨_,rfl,HEB.out,HFI.out⟩
 · rw [if_neg (by decide)] at hs
   subst hs
   unfold mulN at *
   have hk1z:¬(l:Int)<2:=by omega
   have hk2z:¬l<2:=by omega
   clear hk1
   go_enter Tryz.func121,Tryz.ntmps121
   go_upto_region 1 with fail
   rw [←hw1,←htb]
   clear hw1 htb
   go_wp2_with fail
   refine HSY.out.mono ?_
   rintro e w2 ⟨rfl,hE2⟩
   have HEB:Hid (ExB base w w2):=Lib.hid (ExB.of (HE1.out.trans hE2))
   have HTW2:=Lib.hid (HTX.out _ _ HTW.out (ExB.of hE2))
   have HO2:=Lib.hid (HOW.out.ext hE2)
   obtain ⟨z0,z1,z2,z3⟩:=cs_e4 hE2 ⟨z0,z1,z2,z3⟩
   clear hE2
   go_upto_region 12 with fail
   obtain ⟨w5,hw5⟩:∃w5,w5=w2:=⟨_,rfl⟩
   go_loopw [0,9,11,54] (fun lv ov _ kv wr=>∃(q:Nat) (va:Option Addr) (vc:Nat),lv=.slice va (Ps q).length vc∧kv=.int .i64 q∧q≤l∧Hid (ExB base w wr)∧Hid (TK wr)∧Hid (OwnG elPw wr base 66 (fun _=>False) (.slice va (Ps q).length vc) (Ps q))) (fun _ _ _ kv _=>l-(intOf kv).toNat)
   case atStart=>exact ⟨0,va,vc,rfl,rfl,by omega,HEB,HTW2,HO2⟩
   case round =>
    clear HEB HTW2 HO2
    obtain ⟨q,va,vc,rfl,rfl,hq,HEB,HTW2,HO2⟩:=hrel
    by_cases hlt:q<l
    · have hqz:(q:Int)<((l:Nat):Int):=by omega
      have hqz2:(q:Int)<(l:Int):=by omega
      have hq0:(0:Int)≤(q:Int):=by omega
      have wq:IntKind.i64.wrap ((q:Int)+1)=((q+1:Nat):Int):=by rw [IntKind.wrap_i64];omega
      obtain ⟨k,hk⟩:∃k,ks[q]?=some k:=⟨_,List.getElem?_eq_getElem (by rw [HL.out];exact hlt)⟩
      obtain ⟨b,off,ka,kc,hab,k0,k1,k2,k3,hKT⟩:=HTO.out wr q k HTW2.out hk
      subst hab
      obtain ⟨kb,w6,hkb,hw6,HKB,hE6⟩:=box_new wr (.cells #[.int .i64 k.kind,.string k.name,.int .i64 k.sort,.slice ka k.kids.length kc] 33)
      have y0:w6.cell? ⟨kb,0,none⟩=some (.int .i64 k.kind):=by rw [cellc HKB.out];rfl
      have y1:w6.cell? ⟨kb,1,none⟩=some (.string k.name):=by rw [cellc HKB.out];rfl
      have y2:w6.cell? ⟨kb,2,none⟩=some (.int .i64 k.sort):=by rw [cellc HKB.out];rfl
      have y3:w6.cell? ⟨kb,3,none⟩=some (.slice ka k.kids.length kc):=by rw [cellc HKB.out];rfl
      have HCA:=Lib.hid (HKC.out w6 q k va vc ka kc hk (by have:=HB.out;have:=HEB.out.size;have:=hE6.size;omega) (HO2.out.ext hE6) (hKT.ext hE6))
      have HEB6:=Lib.hid (HEB.out.trans (ExB.of hE6))
      have HT6:=Lib.hid (HTX.out _ _ HTW2.out (ExB.of hE6))
      clear hk hKT hE6
      go_upto_region 14 with fail
      rw [←hw6,←hkb]
      clear hw6 hkb k0 k1 k2 k3
      go_wp2_with fail
      refine HCA.out.mono ?_
      rintro e w7 ⟨v',rfl,hE7,hO7⟩
      obtain ⟨va7,vc7,rfl,-,-⟩:=id hO7.slice
      have HEB7:=Lib.hid (HEB6.out.trans hE7)
      have HT7:=Lib.hid (HTX.out _ _ HT6.out hE7)
      have HO7:=Lib.hid hO7
      clear hE7 hO7 y0 y1 y2 y3
      go_wp2_with fail
      go_roundw
      case rel=>exact ⟨q+1,va7,vc7,rfl,rfl,by omega,HEB7,HT7,HO7⟩
      case measure=>simp [intOf];omega
    · have hqz:¬(q:Int)<((l:Nat):Int):=by omega
      have hqz2:¬(q:Int)<(l:Int):=by omega
      have hql:q=l:=by omega
      have HFI:Hid (OwnG elPw wr base 66 (fun _=>False) (.slice va (Ps q).length vc) (Ps l)):=Lib.hid (by have h:=HO2.out;rw [hql] at h ⊢;exact h)
      clear hql
      go_wp2_with fail
      go_ret2
      exact ⟨_,rfl,HEB.out,HFI.out⟩
 · rw [if_neg (by decide)] at hs
   subst hs
   unfold oneN at *
   subst hk1
   go_enter Tryz.func121,Tryz.ntmps121
   go_upto_region 1 with fail
   rw [←hw1,←htb]
   clear hw1 htb
   go_wp2_with fail
   refine HSY.out.mono ?_
   rintro e w2 ⟨rfl,hE2⟩
   have HEB:Hid (ExB base w w2):=Lib.hid (ExB.of (HE1.out.trans hE2))
   have HTW2:=Lib.hid (HTX.out _ _ HTW.out (ExB.of hE2))
   have HO2:=Lib.hid (HOW.out.ext hE2)
   obtain ⟨z0,z1,z2,z3⟩:=cs_e4 hE2 ⟨z0,z1,z2,z3⟩
   clear hE2
   go_upto_region 12 with fail
   obtain ⟨w5,hw5⟩:∃w5,w5=w2:=⟨_,rfl⟩
   go_loopw [0,9,11,54] (fun lv ov _ kv wr=>∃(q:Nat) (va:Option Addr) (vc:Nat),lv=.slice va (Ps q).length vc∧kv=.int .i64 q∧q≤0∧Hid (ExB base w wr)∧Hid (TK wr)∧Hid (OwnG elPw wr base 66 (fun _=>False) (.slice va (Ps q).length vc) (Ps q))) (fun _ _ _ kv _=>0-(intOf kv).toNat)
   case atStart=>exact ⟨0,va,vc,rfl,rfl,by omega,HEB,HTW2,HO2⟩
   case round =>
    clear HEB HTW2 HO2
    obtain ⟨q,va,vc,rfl,rfl,hq,HEB,HTW2,HO2⟩:=hrel
    have hqz:¬(q:Int)<((0:Nat):Int):=by omega
    have hqz2:¬(q:Int)<(0:Int):=by omega
    have hql:q=0:=by omega
    have HFI:Hid (OwnG elPw wr base 66 (fun _=>False) (.slice va (Ps q).length vc) (Ps 0)):=Lib.hid (by have h:=HO2.out;rw [hql] at h ⊢;exact h)
    clear hql
    go_wp2_with fail
    go_ret2
    exact ⟨_,rfl,HEB.out,HFI.out⟩
end Go.Proofs.YtclijngnoepbiaaGreat
