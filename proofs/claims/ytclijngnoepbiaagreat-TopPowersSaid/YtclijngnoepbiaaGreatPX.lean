/- Plain law: a small prime that divides none of some numbers; inverses modulo a prime. Plain law: elimination over the integers. Plain law: characters modulo the product of the pivots, and modulo a prime. -/
import Derived.Test.YtclijngnoepbiaaGreatG1
set_option maxRecDepth 100000
set_option maxHeartbeats 8000000
namespace Go.Proofs.YtclijngnoepbiaaGreat
open Go
set_option linter.unusedVariables false
set_option linter.unusedSimpArgs false

/-- no number from 2 on whose square is at most p divides p -/
def PrimeS (p:Nat):Prop:=2≤p∧∀d,2≤d→d*d≤p→p % d≠0
theorem prime_dvd {p:Nat} (h:PrimeS p) {d:Nat} (hd:d∣p):d=1∨d=p:=by
 obtain ⟨e,he⟩:=hd
 by_cases h1:d=1
 · exact .inl h1
 right
 by_cases h2:e=1
 · rw [he,h2,Nat.mul_one]
 exfalso
 have hp:=h.1
 have hd0:d≠0:=by rintro rfl;rw [Nat.zero_mul] at he;omega
 have he0:e≠0:=by rintro rfl;rw [Nat.mul_zero] at he;omega
 by_cases hle:d≤e
 · refine h.2 d (by omega) ?_ ?_
   · rw [he];exact Nat.mul_le_mul_left d hle
   · rw [he];exact Nat.mul_mod_right d e
 · refine h.2 e (by omega) ?_ ?_
   · rw [he];exact Nat.mul_le_mul_right e (by omega)
   · rw [he];exact Nat.mul_mod_left d e
theorem prime_coprime {p n:Nat} (h:PrimeS p) (hn:n % p≠0):Nat.gcd n p=1:=by
 rcases prime_dvd h (Nat.gcd_dvd_right n p) with e | e
 · exact e
 · exfalso
   apply hn
   have:=Nat.gcd_dvd_left n p
   rw [e] at this
   exact Nat.mod_eq_zero_of_dvd this
theorem bezout:∀(a b:Nat),∃x y:Int,(a:Int)*x+(b:Int)*y=(Nat.gcd a b:Int):=by
 intro a b
 induction a,b using Nat.gcd.induction with
 | H0 b=>exact ⟨0,1,by simp⟩
 | H1 a b ha ih =>
   obtain ⟨x,y,h⟩:=ih
   refine ⟨y-((b / a:Nat):Int)*x,x,?_⟩
   rw [Nat.gcd_rec a b,←h]
   have e:((b % a:Nat):Int)=(b:Int)-(a:Int)*((b / a:Nat):Int):=by
    have:=Nat.div_add_mod b a
    have h2:((a*(b / a)+b % a:Nat):Int)=(b:Int):=by rw [this]
    rw [Int.natCast_add,Int.natCast_mul] at h2
    omega
   rw [e,Int.mul_sub,Int.sub_mul,Int.mul_assoc]
   omega
/-- modulo a prime a number that it does not divide can be brought to each remainder -/
theorem prime_solve {p:Nat} (h:PrimeS p) {n s:Int} (hn:n % (p:Int)≠0):∃v:Nat,v<p∧(s+n*(v:Int)) % (p:Int)=0:=by
 have hp:=h.1
 obtain ⟨m,hm⟩:∃m:Nat,n % (p:Int)=m:=⟨(n % (p:Int)).toNat,by have:=Int.emod_nonneg n (show (p:Int)≠0 by omega);omega⟩
 have hmp:m<p:=by have:=Int.emod_lt_of_pos n (show (0:Int)<p by omega);omega
 have hg:Nat.gcd m p=1:=prime_coprime h (by rw [Nat.mod_eq_of_lt hmp];omega)
 obtain ⟨x,y,hxy⟩:=bezout m p
 rw [hg] at hxy
 obtain ⟨v,hv⟩:∃v:Nat,(-s*x) % (p:Int)=v:=⟨((-s*x) % (p:Int)).toNat,by have:=Int.emod_nonneg (-s*x) (show (p:Int)≠0 by omega);omega⟩
 refine ⟨v,by have:=Int.emod_lt_of_pos (-s*x) (show (0:Int)<p by omega);omega,?_⟩
 rw [←hv]
 have e1:(s+n*((-s*x) % (p:Int))) % (p:Int)=(s+m*(-s*x)) % (p:Int):=by
  rw [Int.add_emod,Int.mul_emod,hm,Int.emod_emod_of_dvd _ (Int.dvd_refl _)]
  have e3:(m:Int)*((-s*x) % (p:Int)) % (p:Int)=(m:Int)*(-s*x) % (p:Int):=by
   rw [Int.mul_emod (m:Int) (-s*x),Int.mul_emod (m:Int) ((-s*x) % (p:Int)),Int.emod_emod_of_dvd _ (Int.dvd_refl _)]
  rw [e3,←Int.add_emod]
 rw [e1]
 have e2:s+(m:Int)*(-s*x)=s*y*p:=by
  have h1:(m:Int)*x=1-p*y:=by have:((1:Nat):Int)=1:=rfl;omega
  have h2:(m:Int)*(-s*x)=-s*((m:Int)*x):=by rw [Int.mul_left_comm]
  rw [h2,h1,Int.mul_sub,Int.mul_one,Int.neg_mul,Int.mul_comm (p:Int) y,Int.mul_assoc]
  omega
 rw [e2]
 exact Int.mul_emod_left _ _
/-- pairwise prime numbers that divide a number: so does their product -/
theorem prod_dvd {N:Nat}:∀(L:List Nat),L.Pairwise (fun a b=>Nat.gcd a b=1)→(∀q∈L,q∣N)→L.foldr (·*·) 1∣N∧∀m,(∀q∈L,Nat.gcd m q=1)→Nat.gcd m (L.foldr (·*·) 1)=1
 | [],_,_=>⟨Nat.one_dvd N,fun m _=>Nat.gcd_one_right m⟩
 | q :: L,hp,hd=>by
   obtain ⟨h1,h2⟩:=List.pairwise_cons.1 hp
   obtain ⟨h3,h4⟩:=prod_dvd L h2 (fun r hr=>hd r (by simp [hr]))
   refine ⟨?_,fun m hm=>?_⟩
   · rw [List.foldr_cons]
     exact Nat.Coprime.mul_dvd_of_dvd_of_dvd (h4 q h1) (hd q (by simp)) h3
   · rw [List.foldr_cons]
     exact Nat.Coprime.mul_right (hm q (by simp)) (h4 m (fun r hr=>hm r (by simp [hr])))
theorem prod_ge:∀(L:List Nat),(∀q∈L,1024≤q)→1024 ^ L.length≤L.foldr (·*·) 1
 | [],_=>by simp
 | q :: L,h=>by
   rw [List.length_cons,Nat.pow_succ,List.foldr_cons,Nat.mul_comm]
   exact Nat.mul_le_mul (h q (by simp)) (prod_ge L (fun r hr=>h r (by simp [hr])))
/-- of pairwise prime numbers from 1024 on, at most four divide a number up to 2^40 -/
theorem few_dvd {N:Nat} (h0:0<N) (hN:N≤1099511627776) {L:List Nat} (hp:L.Pairwise (fun a b=>Nat.gcd a b=1)) (hq:∀q∈L,1024≤q):(L.filter (fun q=>decide (q∣N))).length≤4:=by
 have h1:=(prod_dvd (N:=N) (L.filter (fun q=>decide (q∣N))) (hp.sublist List.filter_sublist) (fun q hq=>by simpa using (List.mem_filter.1 hq).2)).1
 have h2:=prod_ge (L.filter (fun q=>decide (q∣N))) (fun q h=>hq q (List.mem_filter.1 h).1)
 have h3:=Nat.le_of_dvd h0 h1
 by_cases h5:(L.filter (fun q=>decide (q∣N))).length≤4
 · exact h5
 · exfalso
   have h6:1024 ^ 5≤1024 ^ (L.filter (fun q=>decide (q∣N))).length:=Nat.pow_le_pow_right (by omega) (by omega)
   have h7:(1024:Nat) ^ 5=1125899906842624:=by decide
   omega
theorem some_free:∀(Ns:List Nat) (L:List Nat),(∀N∈Ns,0<N∧N≤1099511627776)→L.Pairwise (fun a b=>Nat.gcd a b=1)→(∀q∈L,1024≤q)→Ns.length*4<L.length→∃q∈L,∀N∈Ns,¬q∣N
 | [],L,_,_,_,hl=>by
   cases L with
   | nil=>simp at hl
   | cons q L=>exact ⟨q,by simp,fun N h=>by simp at h⟩
 | N :: Ns,L,hN,hp,hq,hl=>by
   have h1:=few_dvd (hN N (by simp)).1 (hN N (by simp)).2 hp hq
   have h2:(L.filter (fun q=>decide (q∣N))).length+(L.filter (fun q=>!decide (q∣N))).length=L.length:=by
    have:=List.length_eq_countP_add_countP (l:=L) (fun q=>decide (q∣N))
    rw [List.countP_eq_length_filter,List.countP_eq_length_filter] at this
    rw [this]
    congr 2
    apply List.filter_congr
    intro x hx
    simp
   rw [List.length_cons] at hl
   obtain ⟨q,g1,g2⟩:=some_free Ns (L.filter (fun q=>!decide (q∣N))) (fun M h=>hN M (by simp [h])) (hp.sublist List.filter_sublist) (fun q h=>hq q (List.mem_filter.1 h).1) (by omega)
   obtain ⟨g3,g4⟩:=List.mem_filter.1 g1
   refine ⟨q,g3,fun M hM=>?_⟩
   rcases List.mem_cons.1 hM with rfl | hM
   · simpa using g4
   · exact g2 M hM
def primesL:List Nat:=[1031,1033,1039,1049,1051,1061,1063,1069,1087,1091,1093,1097,1103,1109,1117,1123,1129,1151,1153,1163,1171,1181,1187,1193,1201,1213,1217,1223,1229,1231,1237,1249,1259,1277,1279,1283,1289,1291,1297,1301,1303,1307,1319,1321,1327,1361,1367,1373,1381,1399,1409,1423,1427,1429]
theorem primesL_ge:∀q∈primesL,1024≤q∧q≤1429:=by decide
theorem primesL_co:primesL.Pairwise (fun a b=>Nat.gcd a b=1):=by decide +kernel
theorem primesL_p:∀q∈primesL,∀d<38,2≤d→q % d≠0:=by decide +kernel
theorem primesL_prime {q:Nat} (h:q∈primesL):PrimeS q:=by
 have h1:=primesL_ge q h
 refine ⟨by omega,fun d hd hs=>primesL_p q h d ?_ hd⟩
 by_cases h2:d<38
 · exact h2
 · exfalso
   have:38*38≤d*d:=Nat.mul_le_mul (by omega) (by omega)
   omega
/-- a small prime that divides none of at most 13 numbers -/
theorem free_prime {Ns:List Nat} (hN:∀N∈Ns,0<N∧N≤1099511627776) (hl:Ns.length≤13):∃q,PrimeS q∧q≤1429∧∀N∈Ns,N % q≠0:=by
 obtain ⟨q,h1,h2⟩:=some_free Ns primesL hN primesL_co (fun q h=>(primesL_ge q h).1) (by have:primesL.length=54:=rfl;omega)
 exact ⟨q,primesL_prime h1,(primesL_ge q h1).2,fun N h e=>h2 N h (Nat.dvd_of_mod_eq_zero e)⟩

def dot:List Int→List Int→Int
 | x :: l,v :: vs=>x*v+dot l vs
 | _,_=>0
def gt (l:List Int) (c:Nat):Int:=l.getD c 0
def subL (a b:List Int) (q:Int):List Int:=List.zipWith (fun x y=>x-q*y) a b
theorem subL_len {a b:List Int} {q:Int} (h:a.length=b.length):(subL a b q).length=a.length:=by unfold subL;rw [List.length_zipWith];omega
theorem dot_sub:∀{a b:List Int} {q:Int} {v:List Int},a.length=b.length→dot (subL a b q) v=dot a v-q*dot b v
 | [],[],q,v,_=>by simp [subL,dot]
 | [],y :: b,q,v,h=>by simp at h
 | x :: a,[],q,v,h=>by simp at h
 | x :: a,y :: b,q,[],h=>by simp [subL,dot]
 | x :: a,y :: b,q,z :: v,h=>by
   have ih:=dot_sub (a:=a) (b:=b) (q:=q) (v:=v) (by simpa using h)
   unfold subL at ih ⊢
   rw [List.zipWith_cons_cons,dot,dot,dot,ih,Int.sub_mul,Int.mul_add,Int.mul_assoc]
   omega
theorem gt_sub {a b:List Int} {q:Int} (h:a.length=b.length) (c:Nat):gt (subL a b q) c=gt a c-q*gt b c:=by
 unfold gt subL
 rw [List.getD_eq_getElem?_getD,List.getD_eq_getElem?_getD,List.getD_eq_getElem?_getD,List.getElem?_zipWith]
 by_cases hc:c<a.length
 · rw [List.getElem?_eq_getElem hc,List.getElem?_eq_getElem (by omega)];rfl
 · rw [List.getElem?_eq_none (by omega),List.getElem?_eq_none (by omega)];simp
theorem dot_zero:∀{a:List Int} {v:List Int},(∀c,gt a c=0∨gt v c=0)→dot a v=0
 | [],v,_=>by cases v<;>rfl
 | x :: a,[],_=>rfl
 | x :: a,z :: v,h=>by
   have h0:=h 0
   have ih:=dot_zero (a:=a) (v:=v) (fun c=>h (c+1))
   rw [dot,ih]
   rcases h0 with e | e
   · rw [show x=0 from e];simp
   · rw [show z=0 from e];simp
theorem dot_single:∀{a:List Int} {v:List Int} {j:Nat},(∀c,c≠j→gt a c=0∨gt v c=0)→dot a v=gt a j*gt v j
 | [],v,j,_=>by cases v<;>simp [dot,gt]
 | x :: a,[],j,_=>by simp [dot,gt]
 | x :: a,z :: v,0,h=>by
   rw [dot,dot_zero (fun c=>h (c+1) (by omega))]
   simp [gt]
 | x :: a,z :: v,j+1,h=>by
   have ih:=dot_single (a:=a) (v:=v) (j:=j) (fun c hc=>h (c+1) (by omega))
   have h0:=h 0 (by omega)
   rw [dot,ih]
   have e:x*z=0:=by
    rcases h0 with e | e
    · rw [show x=0 from e];simp
    · rw [show z=0 from e];simp
   rw [e,Int.zero_add]
   rfl
theorem dot_set:∀{a:List Int} {v:List Int} {j:Nat} {z:Int},gt v j=0→j<v.length→dot a (v.set j z)=dot a v+gt a j*z
 | [],v,j,z,_,_=>by cases v<;>cases j<;>simp [dot,gt]
 | x :: a,[],j,z,_,h=>by simp at h
 | x :: a,y :: v,0,z,h0,_=>by
   have e:y=0:=h0
   rw [List.set_cons_zero,dot,dot,e]
   simp only [gt,List.getD_cons_zero]
   omega
 | x :: a,y :: v,j+1,z,h0,h=>by
   have ih:=dot_set (a:=a) (v:=v) (j:=j) (z:=z) h0 (by simpa using h)
   rw [List.set_cons_succ,dot,dot,ih]
   show x*y+(dot a v+gt a j*z)=x*y+dot a v+gt a j*z
   omega
theorem gt_set {v:List Int} {j c:Nat} {z:Int} (h:j<v.length):gt (v.set j z) c=if c=j then z else gt v c:=by
 unfold gt
 rw [List.getD_eq_getElem?_getD,List.getD_eq_getElem?_getD,List.getElem?_set]
 by_cases hc:c=j
 · subst hc;rw [if_pos rfl,if_pos h,if_pos rfl];rfl
 · rw [if_neg (by omega),if_neg hc]
theorem gt_out {v:List Int} {c:Nat} (h:v.length≤c):gt v c=0:=by
 unfold gt
 rw [List.getD_eq_getElem?_getD,List.getElem?_eq_none h];rfl
theorem gt_mem {v:List Int} {c:Nat} (h:c<v.length):gt v c∈v:=by
 unfold gt
 rw [List.getD_eq_getElem?_getD,List.getElem?_eq_getElem h]
 exact List.getElem_mem h
/-- a row of the elimination: powers, coefficients, used -/
structure ERow where
 p:List Int
 k:List Int
 u:Bool
def B40 (l:List Int):Prop:=∀x∈l,-1099511627776≤x∧x≤1099511627776
/-- the state before column c -/
structure EInv (n:Nat) (G:List (List Int)) (c:Nat) (R:List ERow) (P:List Int):Prop where
 rl:R.length=G.length
 len:∀r∈R,r.p.length=n∧r.k.length=G.length
 bnd:∀r∈R,B40 r.p∧B40 r.k
 lin:∀r∈R,∀v,dot r.p v=dot r.k (G.map (fun g=>dot g v))
 kill:∀(M:Int) (v:List Int),(∀r∈R,M∣dot r.p v)→∀g∈G,M∣dot g v
 pl:P.length=n
 piv:∀c'<c,gt P c'=-1∨∃(i:Nat) (r:ERow),gt P c'=i∧R[i]?=some r∧r.u=true∧gt r.p c'≠0∧∀c''<c',gt r.p c''=0
 later:∀c',c≤c'→c'<n→gt P c'=-1
 used:∀(i:Nat) (r:ERow),R[i]?=some r→r.u=true→∃c'<c,gt P c'=i
 free:∀r∈R,r.u=false→∀c'<c,gt r.p c'=0
section
variable {n c : Nat} {G : List (List Int)} {R : List ERow} {P : List Int}
theorem set_mem {α:Type} {L:List α} {i:Nat} {x y:α} (h:y∈L.set i x):y=x∨∃j,j≠i∧L[j]?=some y:=by
 obtain ⟨j,hj⟩:=List.mem_iff_getElem?.1 h
 rw [List.getElem?_set] at hj
 by_cases e:i=j
 · rw [if_pos e] at hj
   split at hj
   · cases hj;exact .inl rfl
   · cases hj
 · rw [if_neg e] at hj
   exact .inr ⟨j,fun e2=>e e2.symm,hj⟩
/-- a multiple of a row that is not used is subtracted from another one -/
theorem EInv.sub (h:EInv n G c R P) {i b:Nat} {x y:ERow} {q:Int} (hib:i≠b) (hx:R[i]?=some x) (hy:R[b]?=some y) (hxu:x.u=false) (hyu:y.u=false) (hb1:B40 (subL x.p y.p q)) (hb2:B40 (subL x.k y.k q)) :
 EInv n G c (R.set i ⟨subL x.p y.p q,subL x.k y.k q,false⟩) P:=by
 have hxm:=List.mem_of_getElem? hx
 have hym:=List.mem_of_getElem? hy
 obtain ⟨lx1,lx2⟩:=h.len x hxm
 obtain ⟨ly1,ly2⟩:=h.len y hym
 have hi:=(List.getElem?_eq_some_iff.1 hx).1
 refine ⟨by rw [List.length_set];exact h.rl,fun r hr=>?_,fun r hr=>?_,fun r hr=>?_,fun M v hM=>?_,h.pl,fun c' hc'=>?_,h.later,fun j r hj hu=>?_,fun r hr hu c' hc'=>?_⟩
 · rcases set_mem hr with rfl | ⟨j,-,hj⟩
   · exact ⟨by show (subL x.p y.p q).length=n;rw [subL_len (by omega),lx1],by show (subL x.k y.k q).length=_;rw [subL_len (by omega),lx2]⟩
   · exact h.len r (List.mem_of_getElem? hj)
 · rcases set_mem hr with rfl | ⟨j,-,hj⟩
   · exact ⟨hb1,hb2⟩
   · exact h.bnd r (List.mem_of_getElem? hj)
 · rcases set_mem hr with rfl | ⟨j,-,hj⟩
   · intro v
     show dot (subL x.p y.p q) v=dot (subL x.k y.k q) _
     rw [dot_sub (by omega),dot_sub (by omega),h.lin x hxm v,h.lin y hym v]
   · exact h.lin r (List.mem_of_getElem? hj)
 · have hby:M∣dot y.p v:=hM y (List.mem_iff_getElem?.2 ⟨b,by rw [List.getElem?_set_ne hib];exact hy⟩)
   have hbx:M∣dot (subL x.p y.p q) v:=hM ⟨subL x.p y.p q,subL x.k y.k q,false⟩ (List.mem_iff_getElem?.2 ⟨i,by rw [List.getElem?_set_self hi]⟩)
   rw [dot_sub (by omega)] at hbx
   refine h.kill M v (fun r hr=>?_)
   obtain ⟨j,hj⟩:=List.mem_iff_getElem?.1 hr
   by_cases e:j=i
   · subst e
     rw [hx] at hj
     cases hj
     have:=Int.dvd_add hbx (Int.dvd_mul_of_dvd_right (b:=q) hby)
     have e2:dot x.p v-q*dot y.p v+q*dot y.p v=dot x.p v:=by omega
     rw [e2] at this
     exact this
   · exact hM r (List.mem_iff_getElem?.2 ⟨j,by rw [List.getElem?_set_ne (fun e2=>e e2.symm)];exact hj⟩)
 · rcases h.piv c' hc' with e | ⟨j,r,e1,e2,e3,e4⟩
   · exact .inl e
   · refine .inr ⟨j,r,e1,?_,e3,e4⟩
     have:i≠j:=by rintro rfl;rw [hx] at e2;cases e2;rw [hxu] at e3;cases e3
     rw [List.getElem?_set_ne this]
     exact e2
 · have:i≠j:=by
    rintro rfl
    rw [List.getElem?_set_self hi] at hj
    cases hj
    cases hu
   rw [List.getElem?_set_ne this] at hj
   exact h.used j r hj hu
 · rcases set_mem hr with rfl | ⟨j,-,hj⟩
   · show gt (subL x.p y.p q) c'=0
     rw [gt_sub (by omega),h.free x hxm hxu c' hc',h.free y hym hyu c' hc']
     simp
   · exact h.free r (List.mem_of_getElem? hj) hu c' hc'
/-- no row that is not used has a number in the column -/
theorem EInv.skip (h:EInv n G c R P) (hc:c<n) (hz:∀r∈R,r.u=false→gt r.p c=0):EInv n G (c+1) R P:=by
 refine ⟨h.rl,h.len,h.bnd,h.lin,h.kill,h.pl,fun c' hc'=>?_,fun c' h1 h2=>h.later c' (by omega) h2,fun i r hi hu=>?_,fun r hr hu c' hc'=>?_⟩
 · by_cases e:c'=c
   · subst e;exact .inl (h.later c' (Nat.le_refl _) hc)
   · exact h.piv c' (by omega)
 · obtain ⟨c',h1,h2⟩:=h.used i r hi hu
   exact ⟨c',by omega,h2⟩
 · by_cases e:c'=c
   · subst e;exact hz r hr hu
   · exact h.free r hr hu c' (by omega)
/-- one row alone is left: the pivot -/
theorem EInv.take (h:EInv n G c R P) (hc:c<n) {b:Nat} {y:ERow} (hy:R[b]?=some y) (hyu:y.u=false) (hne:gt y.p c≠0) (hz:∀(j:Nat) r,R[j]?=some r→j≠b→r.u=false→gt r.p c=0) :
 EInv n G (c+1) (R.set b ⟨y.p,y.k,true⟩) (P.set c b):=by
 have hym:=List.mem_of_getElem? hy
 have hb:=(List.getElem?_eq_some_iff.1 hy).1
 have hpl:=h.pl
 refine ⟨by rw [List.length_set];exact h.rl,fun r hr=>?_,fun r hr=>?_,fun r hr=>?_,fun M v hM=>?_,by rw [List.length_set];exact h.pl,fun c' hc'=>?_,fun c' h1 h2=>?_,fun j r hj hu=>?_,fun r hr hu c' hc'=>?_⟩
 · rcases set_mem hr with rfl | ⟨j,-,hj⟩
   · exact h.len y hym
   · exact h.len r (List.mem_of_getElem? hj)
 · rcases set_mem hr with rfl | ⟨j,-,hj⟩
   · exact h.bnd y hym
   · exact h.bnd r (List.mem_of_getElem? hj)
 · rcases set_mem hr with rfl | ⟨j,-,hj⟩
   · exact h.lin y hym
   · exact h.lin r (List.mem_of_getElem? hj)
 · refine h.kill M v (fun r hr=>?_)
   obtain ⟨j,hj⟩:=List.mem_iff_getElem?.1 hr
   by_cases e:j=b
   · subst e
     rw [hy] at hj
     cases hj
     exact hM ⟨y.p,y.k,true⟩ (List.mem_iff_getElem?.2 ⟨j,by rw [List.getElem?_set_self hb]⟩)
   · exact hM r (List.mem_iff_getElem?.2 ⟨j,by rw [List.getElem?_set_ne (fun e2=>e e2.symm)];exact hj⟩)
 · rw [gt_set (by omega)]
   by_cases e:c'=c
   · subst e
     rw [if_pos rfl]
     exact .inr ⟨b,_,rfl,List.getElem?_set_self hb,rfl,hne,fun c'' h''=>h.free y hym hyu c'' h''⟩
   · rw [if_neg e]
     rcases h.piv c' (by omega) with e1 | ⟨j,r,e1,e2,e3,e4⟩
     · exact .inl e1
     · refine .inr ⟨j,r,e1,?_,e3,e4⟩
       have:b≠j:=by rintro rfl;rw [hy] at e2;cases e2;rw [hyu] at e3;cases e3
       rw [List.getElem?_set_ne this]
       exact e2
 · rw [gt_set (by omega),if_neg (by omega)]
   exact h.later c' (by omega) h2
 · by_cases e:j=b
   · subst e
     exact ⟨c,by omega,by rw [gt_set (by omega),if_pos rfl]⟩
   · rw [List.getElem?_set_ne (fun e2=>e e2.symm)] at hj
     obtain ⟨c',h1,h2⟩:=h.used j r hj hu
     exact ⟨c',by omega,by rw [gt_set (by omega),if_neg (by omega)];exact h2⟩
 · rcases set_mem hr with rfl | ⟨j,hjb,hj⟩
   · cases hu
   · by_cases e:c'=c
     · subst e;exact hz j r hj hjb hu
     · exact h.free r (List.mem_of_getElem? hj) hu c' (by omega)
/-- the row of the product that is reduced -/
structure TInv (n:Nat) (G:List (List Int)) (m:List Int) (c:Nat) (p k:List Int):Prop where
 pl:p.length=n
 kl:k.length=G.length
 bp:B40 p
 bk:B40 k
 lin:∀v,dot p v=dot m v+dot k (G.map (fun g=>dot g v))
 zero:∀c'<c,gt p c'=0
theorem TInv.skip {m p k:List Int} (h:TInv n G m c p k) (hz:gt p c=0):TInv n G m (c+1) p k :=
 ⟨h.pl,h.kl,h.bp,h.bk,h.lin,fun c' hc'=>by
  by_cases e:c'=c
  · subst e;exact hz
  · exact h.zero c' (by omega)⟩
theorem TInv.sub {m p k:List Int} (h:TInv n G m c p k) (hE:EInv n G n R P) {i:Nat} {r:ERow} (hr:R[i]?=some r) (hz:∀c''<c,gt r.p c''=0) {q:Int} (hq:gt p c=q*gt r.p c) (hb1:B40 (subL p r.p q)) (hb2:B40 (subL k r.k q)):TInv n G m (c+1) (subL p r.p q) (subL k r.k q):=by
 have hrm:=List.mem_of_getElem? hr
 obtain ⟨l1,l2⟩:=hE.len r hrm
 have h1:=h.pl
 have h2:=h.kl
 refine ⟨by rw [subL_len (by omega)];exact h.pl,by rw [subL_len (by omega)];exact h.kl,hb1,hb2,fun v=>?_,fun c' hc'=>?_⟩
 · rw [dot_sub (by omega),dot_sub (by omega),h.lin v,hE.lin r hrm v]
   omega
 · rw [gt_sub (by omega)]
   by_cases e:c'=c
   · subst e;rw [hq];omega
   · rw [h.zero c' (by omega),hz c' (by omega)];simp
/-- reduced to nothing: the coefficients generate the product -/
theorem TInv.done {m p k:List Int} (h:TInv n G m n p k) (v:List Int):dot m v=dot (k.map (fun x=>-x)) (G.map (fun g=>dot g v)):=by
 have h1:=h.lin v
 have h2:dot p v=0:=dot_zero (fun c=>by
  by_cases hc:c<n
  · exact .inl (h.zero c hc)
  · exact .inl (gt_out (by have:=h.pl;omega)))
 have h3:∀(a b:List Int),dot (a.map (fun x=>-x)) b=- dot a b:=by
  intro a
  induction a with
  | nil=>intro b;cases b<;>rfl
  | cons x a ih =>
    intro b
    cases b with
    | nil=>rfl
    | cons y b=>rw [List.map_cons,dot,dot,ih,Int.neg_mul];omega
 rw [h3]
 omega
/-- values of a character: what is wanted of them -/
structure Chi (R:List ERow) (P:List Int) (n c j:Nat) (M:Int) (V:List Int):Prop where
 len:V.length=n
 behind:∀c',j<c'→gt V c'=0
 ahead:∀c'<c,gt V c'=0
 none:∀c',c≤c'→c'<j→gt P c'=-1→gt V c'=0
 kill:∀c',c≤c'→c'<j→∀(i:Nat) r,gt P c'=i→R[i]?=some r→M∣dot r.p V
 rng:∀c',0≤gt V c'∧gt V c'<M
theorem Chi.skip {j:Nat} {M:Int} {V:List Int} (h:Chi R P n (c+1) j M V) (hp:gt P c=-1):Chi R P n c j M V :=
 ⟨h.len,h.behind,fun c' hc'=>h.ahead c' (by omega),fun c' h1 h2 h3=>by
  by_cases e:c'=c
  · subst e;exact h.ahead c' (by omega)
  · exact h.none c' (by omega) h2 h3,fun c' h1 h2 i r h3 h4=>by
  by_cases e:c'=c
  · subst e;omega
  · exact h.kill c' (by omega) h2 i r h3 h4,h.rng⟩
theorem Chi.put {j i:Nat} {M z:Int} {V:List Int} {r:ERow} (h:Chi R P n (c+1) j M V) (hE:EInv n G n R P) (hc:c<n) (hp:gt P c=i) (hr:R[i]?=some r) (hz:M∣dot r.p V+gt r.p c*z) (h0:0≤z) (h1:z<M) (hcj:c<j) (hjn:j<n):Chi R P n c j M (V.set c z):=by
 have hl:=h.len
 have hv0:gt V c=0:=h.ahead c (by omega)
 have hset:∀c',gt (V.set c z) c'=if c'=c then z else gt V c':=fun c'=>gt_set (by omega)
 refine ⟨by rw [List.length_set];exact hl,fun c' hc'=>?_,fun c' hc'=>?_,fun c' g1 g2 g3=>?_,fun c' g1 g2 i' r' g3 g4=>?_,fun c'=>?_⟩
 · rw [hset,if_neg (by omega)];exact h.behind c' hc'
 · rw [hset,if_neg (by omega)];exact h.ahead c' (by omega)
 · rw [hset]
   by_cases e:c'=c
   · subst e;omega
   · rw [if_neg e];exact h.none c' (by omega) g2 g3
 · rw [dot_set hv0 (by omega)]
   by_cases e:c'=c
   · subst e
     have:i'=i:=by omega
     subst this
     rw [hr] at g4
     cases g4
     exact hz
   · have hk:=h.kill c' (by omega) g2 i' r' g3 g4
     rcases hE.piv c' (by omega) with e1 | ⟨i2,r2,e1,e2,e3,e4,e5⟩
     · omega
     · have:i2=i':=by omega
       subst this
       rw [e2] at g4
       cases g4
       rw [e5 c (by omega),Int.zero_mul,Int.add_zero]
       exact hk
 · rw [hset]
   by_cases e:c'=c
   · rw [if_pos e];exact ⟨h0,h1⟩
   · rw [if_neg e];exact h.rng c'
/-- the character kills each generator -/
theorem Chi.gens {j:Nat} {M:Int} {V:List Int} (h:Chi R P n 0 j M V) (hE:EInv n G n R P) (hj:j<n) (hat:∀(i:Nat) r,gt P j=i→R[i]?=some r→M∣gt r.p j*gt V j):∀g∈G,M∣dot g V:=by
 refine hE.kill M V (fun r hr=>?_)
 obtain ⟨i,hi⟩:=List.mem_iff_getElem?.1 hr
 cases hu:r.u with
 | false =>
   have:dot r.p V=0:=dot_zero (fun c'=>by
    by_cases hc:c'<n
    · exact .inl (hE.free r hr hu c' hc)
    · exact .inl (gt_out (by have:=(hE.len r hr).1;omega)))
   rw [this]
   exact Int.dvd_zero M
 | true =>
   obtain ⟨c',hc',e⟩:=hE.used i r hi hu
   have hpz:∀c''<c',gt r.p c''=0:=by
    rcases hE.piv c' hc' with e1 | ⟨i2,r2,e1,e2,e3,e4,e5⟩
    · omega
    · have:i2=i:=by omega
      subst this
      rw [e2] at hi
      cases hi
      exact e5
   by_cases h1:c'<j
   · exact h.kill c' (by omega) h1 i r e hi
   · by_cases h2:c'=j
     · subst h2
       rw [dot_single (j:=c') (fun c'' hne=>by
        by_cases h3:c''<c'
        · exact .inl (hpz c'' h3)
        · exact .inr (h.behind c'' (by omega)))]
       exact hat i r e hi
     · rw [dot_zero (fun c''=>by
        by_cases h3:c''<c'
        · exact .inl (hpz c'' h3)
        · exact .inr (h.behind c'' (by omega)))]
       exact Int.dvd_zero M
/-- and not the product -/
theorem Chi.goal {j:Nat} {M:Int} {V m p k:List Int} (h:Chi R P n 0 j M V) (hT:TInv n G m j p k) (hG:∀g∈G,M∣dot g V) (hn:¬M∣gt p j*gt V j):¬M∣dot m V:=by
 intro hm
 apply hn
 have h1:dot p V=gt p j*gt V j:=dot_single (fun c hc=>by
  by_cases h3:c<j
  · exact .inl (hT.zero c h3)
  · exact .inr (h.behind c (by omega)))
 rw [←h1,hT.lin V]
 refine Int.dvd_add hm ?_
 have key:∀(a b:List Int),(∀x∈b,M∣x)→M∣dot a b:=by
  intro a
  induction a with
  | nil=>intro b _;cases b<;>exact Int.dvd_zero M
  | cons x a ih =>
    intro b hb
    cases b with
    | nil=>exact Int.dvd_zero M
    | cons y b=>rw [dot];exact Int.dvd_add (Int.dvd_mul_of_dvd_right (hb y (by simp))) (ih b (fun z hz=>hb z (by simp [hz])))
 refine key _ _ (fun x hx=>?_)
 obtain ⟨g,hg,rfl⟩:=List.mem_map.1 hx
 exact hG g hg
end
end Go.Proofs.YtclijngnoepbiaaGreat

namespace Go.Proofs.YtclijngnoepbiaaGreat
open Go
set_option linter.unusedVariables false
set_option linter.unusedSimpArgs false

/-- the product of the first numbers -/
def bprod (N:Nat→Int):Nat→Int
 | 0=>1
 | c+1=>bprod N c*N c
theorem bprod_pos {N:Nat→Int} {c:Nat} (h:∀c'<c,1≤N c'):1≤bprod N c:=by
 induction c with
 | zero=>exact Int.le_refl _
 | succ c ih =>
   have h1:=ih (fun c' hc'=>h c' (by omega))
   have h2:=h c (by omega)
   unfold bprod
   have:=Int.mul_le_mul h1 h2 (by omega) (by omega)
   omega
theorem bprod_dvd {N:Nat→Int} {c d:Nat} (h:c≤d):bprod N c∣bprod N d:=by
 induction d with
 | zero=>rw [show c=0 by omega];exact Int.dvd_refl _
 | succ d ih =>
   by_cases e:c=d+1
   · rw [e];exact Int.dvd_refl _
   · exact Int.dvd_trans (ih (by omega)) (Int.dvd_mul_right _ _)
theorem dot_dvd {B:Int}:∀{a v:List Int},(∀c,B∣gt v c∨gt a c=0)→B∣dot a v
 | [],v,_=>by cases v<;>exact Int.dvd_zero B
 | x :: a,[],_=>Int.dvd_zero B
 | x :: a,z :: v,h=>by
   have ih:=dot_dvd (a:=a) (v:=v) (fun c=>h (c+1))
   rw [dot]
   refine Int.dvd_add ?_ ih
   rcases h 0 with e | e
   · exact Int.dvd_mul_of_dvd_right e
   · rw [show x=0 from e,Int.zero_mul];exact Int.dvd_zero B
/-- a value that the division by a pivot gives -/
theorem exact_step {M n a D s B z:Int} (hM:0<M) (ha:0<a) (hn:n=a∨n=-a) (hBM:B∣M) (hD:B*a∣D) (hs:M*a∣D-s) (hz:z=(if 0<n then -(s / a) else s / a) % M):(0≤z∧z<M)∧M∣D+n*z∧B∣z:=by
 have hBa:B*a∣s:=by
  have h1:B*a∣D-s:=Int.dvd_trans (Int.mul_dvd_mul hBM (Int.dvd_refl a)) hs
  have h2:=Int.dvd_sub hD h1
  rwa [show D-(D-s)=s by omega] at h2
 obtain ⟨e,he⟩:=hBa
 have hsa:s / a=B*e:=by
  rw [he,show B*a*e=a*(B*e) by rw [Int.mul_comm B a,Int.mul_assoc],Int.mul_ediv_cancel_left _ (by omega)]
 have hs2:s=a*(B*e):=by rw [he,Int.mul_comm B a,Int.mul_assoc]
 obtain ⟨w,hw⟩:∃w,w=if 0<n then -(s / a) else s / a:=⟨_,rfl⟩
 rw [←hw] at hz
 have hnw:n*w=-s:=by
  rcases hn with rfl | rfl
  · rw [hw,if_pos ha,hsa,hs2,Int.mul_neg]
  · rw [hw,if_neg (by omega),hsa,hs2,Int.neg_mul]
 have hBw:B∣w:=by
  rw [hw,hsa]
  split
  · exact (Int.dvd_neg).2 (Int.dvd_mul_right B e)
  · exact Int.dvd_mul_right B e
 have hzw:z=w-M*(w / M):=by rw [hz];have:=Int.emod_add_mul_ediv w M;omega
 refine ⟨by rw [hz];exact ⟨Int.emod_nonneg _ (by omega),Int.emod_lt_of_pos _ hM⟩,?_,?_⟩
 · obtain ⟨t,ht⟩:=hs
   rw [hzw,Int.mul_sub,hnw]
   have:D+(-s-n*(M*(w / M)))=M*(a*t)-M*(n*(w / M)):=by
    rw [Int.mul_left_comm n M,←Int.mul_assoc M a t,←ht];omega
   rw [this]
   exact Int.dvd_sub (Int.dvd_mul_right _ _) (Int.dvd_mul_right _ _)
 · rw [hzw]
   exact Int.dvd_sub hBw (Int.dvd_trans hBM (Int.dvd_mul_right _ _))
/-- the absolute value, in Go's words -/
def absI (x:Int):Int:=max x (-x)
theorem absI_cases (x:Int):(0≤x∧absI x=x)∨(x<0∧absI x=-x):=by unfold absI;omega
/-- the number of a pivot; 1 where a column has none -/
def numP (R:List ERow) (P:List Int) (c:Nat):Int:=if gt P c=-1 then 1 else absI (gt (R.getD (gt P c).toNat ⟨[],[],false⟩).p c)
section
variable {n c : Nat} {G : List (List Int)} {R : List ERow} {P : List Int}
theorem numP_none (h:gt P c=-1):numP R P c=1:=by unfold numP;rw [if_pos h]
theorem numP_some {i:Nat} {r:ERow} (h:gt P c=i) (hr:R[i]?=some r):numP R P c=absI (gt r.p c):=by
 unfold numP
 rw [if_neg (by omega),h,Int.toNat_natCast,List.getD_eq_getElem?_getD,hr]
 rfl
theorem numP_pos (hE:EInv n G n R P) (hc:c<n):1≤numP R P c:=by
 rcases hE.piv c hc with e | ⟨i,r,e1,e2,e3,e4,e5⟩
 · rw [numP_none e];omega
 · rw [numP_some e1 e2]
   rcases absI_cases (gt r.p c) with h | h<;>omega
/-- the values are multiples of the product of the earlier pivots -/
structure ChiX (R:List ERow) (P:List Int) (n c j:Nat) (M:Int) (V:List Int):Prop where
 chi:Chi R P n c j M V
 mult:∀k,bprod (numP R P) c∣gt V k
theorem ChiX.skip {j:Nat} {M:Int} {V:List Int} (h:ChiX R P n (c+1) j M V) (hp:gt P c=-1):ChiX R P n c j M V:=by
 refine ⟨h.chi.skip hp,fun k=>?_⟩
 have:=h.mult k
 unfold bprod at this
 rw [numP_none hp,Int.mul_one] at this
 exact this
theorem ChiX.put {j i:Nat} {M s z:Int} {V:List Int} {r:ERow} (h:ChiX R P n (c+1) j M V) (hE:EInv n G n R P) (hcj:c<j) (hjn:j<n) (hM0:0<M) (hM:bprod (numP R P) j∣M) (hp:gt P c=i) (hr:R[i]?=some r)
 (hs:M*absI (gt r.p c)∣dot r.p V-s) (hz:z=(if 0<gt r.p c then -(s / absI (gt r.p c)) else s / absI (gt r.p c)) % M):ChiX R P n c j M (V.set c z):=by
 have hnum:=numP_some hp hr
 have hpos:=numP_pos (c:=c) hE (by omega)
 have hl:=h.chi.len
 have hBM:bprod (numP R P) c∣M:=Int.dvd_trans (bprod_dvd (by omega)) hM
 have hD:bprod (numP R P) c*absI (gt r.p c)∣dot r.p V:=by
  rw [←hnum]
  exact dot_dvd (fun k=>.inl (h.mult k))
 obtain ⟨⟨g1,g2⟩,g3,g4⟩:=exact_step hM0 (show 0<absI (gt r.p c) by omega) (by rcases absI_cases (gt r.p c) with h | h<;>omega) hBM hD hs hz
 refine ⟨h.chi.put hE (by omega) hp hr g3 g1 g2 hcj hjn,fun k=>?_⟩
 rw [gt_set (by omega)]
 split
 · exact g4
 · exact Int.dvd_trans (bprod_dvd (by omega)) (h.mult k)
/-- the values at the start: one value, in the column that fails -/
theorem Chi.start {j:Nat} {M z:Int} {V:List Int} (hl:V.length=n) (hz:∀c,gt V c=0) (hj:j<n) (h0:0≤z) (h1:z<M):Chi R P n j j M (V.set j z):=by
 have hset:∀c',gt (V.set j z) c'=if c'=j then z else gt V c':=fun c'=>gt_set (by omega)
 refine ⟨by rw [List.length_set];exact hl,fun c' hc'=>by rw [hset,if_neg (by omega)];exact hz c',fun c' hc'=>by rw [hset,if_neg (by omega)];exact hz c',fun c' g1 g2=>by omega,fun c' g1 g2=>by omega,fun c'=>?_⟩
 rw [hset]
 split
 · exact ⟨h0,h1⟩
 · rw [hz];omega
/-- the character modulo the product of the pivots -/
theorem ChiX.final {j i:Nat} {M:Int} {V m p k:List Int} {r:ERow} (h:ChiX R P n 0 j M V) (hE:EInv n G n R P) (hT:TInv n G m j p k) (hj:j<n) (hp:gt P j=i) (hr:R[i]?=some r) (hM:M=bprod (numP R P) j*numP R P j) (hV:gt V j=bprod (numP R P) j) (hf:¬gt r.p j∣gt p j) :
 (∀g∈G,M∣dot g V)∧¬M∣dot m V:=by
 have hnum:=numP_some hp hr
 have hpos:=bprod_pos (N:=numP R P) (c:=j) (fun c' hc'=>numP_pos hE (by omega))
 have hG:=h.chi.gens hE hj (fun i' r' g1 g2=>by
  have:i'=i:=by omega
  subst this
  rw [hr] at g2
  cases g2
  rw [hV,hM,hnum,Int.mul_comm (bprod _ _)]
  refine Int.mul_dvd_mul ?_ (Int.dvd_refl _)
  rcases absI_cases (gt r.p j) with e | e
  · rw [e.2];exact Int.dvd_refl _
  · rw [e.2];exact Int.neg_dvd.2 (Int.dvd_refl _))
 refine ⟨hG,h.chi.goal hT hG ?_⟩
 rw [hV,hM,Int.mul_comm (gt p j)]
 intro hd
 have hd2:=Int.dvd_of_mul_dvd_mul_left (by omega:bprod (numP R P) j≠0) hd
 apply hf
 rw [hnum] at hd2
 rcases absI_cases (gt r.p j) with e | e
 · rw [e.2] at hd2;exact hd2
 · rw [e.2] at hd2;exact Int.neg_dvd.1 hd2
/-- the character modulo a prime -/
theorem Chi.finalP {j:Nat} {M:Int} {V m p k:List Int} (h:Chi R P n 0 j M V) (hE:EInv n G n R P) (hT:TInv n G m j p k) (hj:j<n) (hp:gt P j=-1) (hV:gt V j=1) (hf:¬M∣gt p j) :
 (∀g∈G,M∣dot g V)∧¬M∣dot m V:=by
 have hG:=h.gens hE hj (fun i' r' g1 g2=>by omega)
 exact ⟨hG,h.goal hT hG (by rw [hV,Int.mul_one];exact hf)⟩
end
end Go.Proofs.YtclijngnoepbiaaGreat
