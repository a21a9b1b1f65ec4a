/- Contracts: exponent.Of on products of literals. Contracts: exponent.app, Concat, and sealringref01.App on terms whose atoms have no kids. The term of a product: its literals in two rows. -/
import Derived.Test.YtclijngnoepbiaaGreatPv1
import Derived.Test.YtclijngnoepbiaaGreatG7
import Derived.Test.YtclijngnoepbiaaGreatG4
set_option maxRecDepth 100000
set_option maxHeartbeats 8000000
namespace Go.Proofs.YtclijngnoepbiaaGreat
open Go Go.RowKit
set_option linter.unusedVariables false
set_option linter.unusedSimpArgs false

theorem lit_err {l:Lit} (h:l.1<6):errT (litT l)=0:=by
 obtain ⟨i,b⟩:=l
 have h':i<6:=h
 have:∀i<6,errT (litT (i,false))=0∧errT (litT (i,true))=0:=by decide +kernel
 cases b
 · exact (this i h').1
 · exact (this i h').2
theorem lit_size (l:Lit):sizeT (litT l)≤2∧depthT (litT l)≤2:=by
 obtain ⟨i,b⟩:=l
 cases b
 · exact ⟨by show 1+0≤2;omega,by show 0+1≤2;omega⟩
 · exact ⟨by show 1+(1+0+0)≤2;omega,by show max (0+1) 0+1≤2;omega⟩
theorem lits_err:∀{ls:List Lit},(∀l∈ls,l.1<6)→errL (ls.map litT)=0∧sizeL (ls.map litT)≤2*ls.length∧depthL (ls.map litT)≤2:=by
 intro ls
 induction ls with
 | nil=>intro _;exact ⟨rfl,by show 0≤_;omega,by show 0≤2;omega⟩
 | cons l ls ih =>
   intro h
   obtain ⟨h1,h2,h3⟩:=ih (fun x hx=>h x (List.mem_cons_of_mem _ hx))
   have h4:=lit_err (h l (List.mem_cons_self ..))
   obtain ⟨h5,h6⟩:=lit_size l
   refine ⟨?_,?_,?_⟩
   · show orE (errT (litT l)) (errL (ls.map litT))=0
     rw [h4,h1];rfl
   · show sizeT (litT l)+sizeL (ls.map litT)≤2*(ls.length+1)
     omega
   · show max (depthT (litT l)) (depthL (ls.map litT))≤2
     omega
theorem exp_err {ls:List Lit} (h:∀l∈ls,l.1<6) (h8:ls.length≤8):errT (expT ls)=0∧sizeT (expT ls)≤17∧depthT (expT ls)≤3:=by
 match ls,h,h8 with
 | [],_,_=>exact ⟨by decide +kernel,by show 1+0≤17;omega,by show 0+1≤3;omega⟩
 | [l],h,_ =>
   obtain ⟨h5,h6⟩:=lit_size l
   exact ⟨lit_err (h l (List.mem_cons_self ..)),by show sizeT (litT l)≤17;omega,by show depthT (litT l)≤3;omega⟩
 | l :: l' :: ls,h,h8 =>
   obtain ⟨h1,h2,h3⟩:=lits_err h
   have hn:∀n,2≤n→n≤8→nodeE 3 mulN 0 n=0:=by
    intro n hn1 hn2
    have:∀n≤8,nodeE 3 mulN 0 n=0:=by decide +kernel
    exact this n hn2
   refine ⟨?_,?_,?_⟩
   · show orE (nodeE 3 mulN 0 ((l :: l' :: ls).map litT).length) (errL ((l :: l' :: ls).map litT))=0
     rw [h1,List.length_map,hn _ (by simp) h8];rfl
   · show 1+sizeL ((l :: l' :: ls).map litT)≤17
     omega
   · show depthL ((l :: l' :: ls).map litT)+1≤3
     omega
theorem exp_valid {ls:List Lit} (h:∀l∈ls,l.1<6) (h8:ls.length≤8):validT (expT ls)=0:=by
 obtain ⟨h1,h2,h3⟩:=exp_err h h8
 unfold validT
 rw [h1,if_neg (by omega)];rfl
theorem sg_bnd:∀(ls:List Lit) (i:Nat),-(ls.length:Int)≤sg ls i∧sg ls i≤ls.length:=by
 intro ls i
 induction ls with
 | nil=>simp [sg]
 | cons l ls ih =>
   unfold sg at ih ⊢
   rw [List.map_cons,List.sum_cons,List.length_cons]
   have:-1≤(if i=l.1 then lsg l else 0)∧(if i=l.1 then lsg l else 0)≤(1:Int):=by
    unfold lsg
    split
    · split<;>omega
    · omega
   omega
theorem addLs_rng {L:List Pw} {ls:List Lit} (hG:Good L) (hR:Rng 100000 L) (h:∀l∈ls,l.1<6) (h8:ls.length≤1000):Good (addLs L ls)∧Rng 1000000 (addLs L ls):=by
 obtain ⟨h1,h2⟩:=addLs_spec h hG
 refine ⟨h1,rng_cf h1 (fun k=>?_)⟩
 rw [h2]
 have:=cf_bnd (M:=100000) (by omega) hR k
 have:=sg_bnd ls k
 omega
theorem addLs_take {L:List Pw} {ls:List Lit} {q:Nat} {l:Lit} (h:ls[q]?=some l):addLs L (ls.take (q+1))=addP (addLs L (ls.take q)) l.1 (lsg l):=by
 unfold addLs
 rw [getT h,List.foldl_append]
 rfl
theorem collect_lit {w:World} {base:Nat} {va a:Option Addr} {vc cap:Nat} {l:Lit} {L:List Pw} (hO:OwnG elPw w base 66 (fun _=>False) (.slice va L.length vc) L) (hb:base≤w.heap.size) (hG:Good L) (hR:Rng 1000000 L) (hl:l.1<6) (hT:TnW w (fun c=>c<base) a cap (litT l)) :
 Calls Tryz.prog 121 #[.slice va L.length vc,.agg #[.int .i64 (litT l).kind,.string (litT l).name,.int .i64 (litT l).sort,.slice a (litT l).kids.length cap],.int .i64 1] w fun e w'=>ColE w base (addP L l.1 (lsg l)) e w':=by
 obtain ⟨i,b⟩:=l
 cases b with
 | false =>
   obtain ⟨rfl,rfl⟩:=hT.nil rfl
   exact collect_atm (m:=1) hO hb hG hR hl (by omega)
 | true =>
   refine collect_node (n:=invN) (ks:=[atmT i]) (l:=1) (s:=-1) (Ps:=fun q=>if q=0 then L else addP L i (-1)) hO hb rfl (.inl ⟨rfl,rfl⟩) (by omega) (by omega) (by rw [if_pos rfl]) hT ?_
   intro w' q k va' vc' ka kc hk hb' hO' hT'
   have hq:q=0:=by
    have:=(List.getElem?_eq_some_iff.1 hk).1
    simp at this;exact this
   subst hq
   cases hk
   obtain ⟨rfl,rfl⟩:=hT'.nil rfl
   exact collect_atm (m:=-1) hO' hb' hG hR hl (by omega)
theorem collect_exp {w:World} {base:Nat} {va a:Option Addr} {vc cap:Nat} {ls:List Lit} {L:List Pw} (hO:OwnG elPw w base 66 (fun _=>False) (.slice va L.length vc) L) (hb:base≤w.heap.size) (hG:Good L) (hR:Rng 100000 L) (hl:∀l∈ls,l.1<6) (h8:ls.length≤8) (hT:TnW w (fun c=>c<base) a cap (expT ls)) :
 Calls Tryz.prog 121 #[.slice va L.length vc,.agg #[.int .i64 (expT ls).kind,.string (expT ls).name,.int .i64 (expT ls).sort,.slice a (expT ls).kids.length cap],.int .i64 1] w fun e w'=>ColE w base (addLs L ls) e w':=by
 match ls,hl,h8,hT with
 | [],_,_,hT =>
   exact collect_node (n:=oneN) (ks:=[]) (l:=0) (s:=1) (Ps:=fun _=>L) hO hb rfl (.inr (.inr ⟨rfl,rfl⟩)) (by omega) (by omega) (by rw [if_neg (by decide)]) hT (fun w' q k va vc ka kc hk=>by simp at hk)
 | [l],hl,_,hT =>
   exact collect_lit hO hb hG (fun p hp=>by have:=hR p hp;omega) (hl l (List.mem_cons_self ..)) hT
 | l :: l' :: ls,hl,h8,hT =>
   obtain ⟨M,hM⟩:∃M,M=l :: l' :: ls:=⟨_,rfl⟩
   have h2:2≤M.length:=by rw [hM];simp
   have hT':TnW w (fun c=>c<base) a cap (appTm mulN (M.map litT)):=by rw [hM];exact hT
   have hE:expT (l :: l' :: ls)=appTm mulN (M.map litT):=by rw [hM];rfl
   rw [hE,←hM]
   rw [←hM] at hl h8
   have h:=collect_node (w:=w) (base:=base) (va:=va) (a:=a) (vc:=vc) (cap:=cap) (m:=1) (n:=mulN) (ks:=M.map litT) (l:=M.length) (s:=1) (Ps:=fun q=>addLs L (M.take q)) hO hb (by rw [List.length_map]) (.inr (.inl ⟨rfl,h2⟩)) h8 (by omega) (by rw [if_neg (by decide)]) hT' (fun w' q k va' vc' ka kc hk hb' hO' hT''=>by
    rw [List.getElem?_map] at hk
    cases hq:M[q]? with
    | none=>rw [hq] at hk;cases hk
    | some x =>
      rw [hq] at hk
      cases hk
      have hx:=hl x (List.mem_of_getElem? hq)
      have hgr:=addLs_rng (ls:=M.take q) hG hR (fun y hy=>hl y (List.mem_of_mem_take hy)) (by rw [List.length_take];omega)
      have:=collect_lit hO' hb' hgr.1 hgr.2 hx hT''
      rw [←addLs_take hq] at this
      exact this)
   simp only [List.take_length] at h
   have hk:(appTm mulN (M.map litT)).kids.length=M.length:=by show (M.map litT).length=_;rw [List.length_map]
   rw [hk]
   exact h
theorem POf_any {w:World} {S:Nat→Prop} {a:Option Addr} {cap:Nat} {ls:List Lit} (hl:∀l∈ls,l.1<6) (h8:ls.length≤8) (hT:TnW w S a cap (expT ls)) :
 Calls Tryz.prog 87 #[.agg #[.int .i64 (expT ls).kind,.string (expT ls).name,.int .i64 (expT ls).sort,.slice a (expT ls).kids.length cap]] w fun e w'=>∃v',e=.returned (.tuple #[v',.int .i64 0])∧Ext w w'∧OwnG elPw w' w.heap.size 66 (fun _=>False) v' (addLs [] ls):=by
 obtain ⟨T,hTT⟩:∃T,T=expT ls:=⟨_,rfl⟩
 have hval:=exp_valid hl h8
 have hsz:=(exp_err hl h8).2.1
 have HCO:=Lib.hid (fun (w':World) (hE:Ext w w')=>collect_exp (L:=[]) (va:=none) (vc:=0) (base:=w'.heap.size) OwnG.nil (Nat.le_refl _) Good.nil (fun p hp=>by simp at hp) hl h8 ((hT.ext hE).wide (fun c _ h=>h)))
 rw [←hTT] at hval hsz hT HCO ⊢
 have hgl:=(addLs_rng (L:=[]) Good.nil (fun p hp=>by simp at hp) hl (by omega)).1.len
 obtain ⟨tb,w1,htb,hw1,HTB,hE1⟩:=box_new w (.cells #[.int .i64 T.kind,.string T.name,.int .i64 T.sort,.slice a T.kids.length cap] 33)
 have HVA:=Lib.hid (PValid_any (w:=w1) (t:=T) (by omega) (hT.tm.ext hE1))
 rw [hval] at HVA
 have z0:w1.cell? ⟨tb,0,none⟩=some (.int .i64 T.kind):=by rw [cellc HTB.out];rfl
 have z1:w1.cell? ⟨tb,1,none⟩=some (.string T.name):=by rw [cellc HTB.out];rfl
 have z2:w1.cell? ⟨tb,2,none⟩=some (.int .i64 T.sort):=by rw [cellc HTB.out];rfl
 have z3:w1.cell? ⟨tb,3,none⟩=some (.slice a T.kids.length cap):=by rw [cellc HTB.out];rfl
 have HE1:=Lib.hid hE1
 clear hTT hval hsz hT hE1 hl h8
 go_enter Tryz.func87,Tryz.ntmps87
 go_upto_region 1 with fail
 rw [←hw1,←htb]
 clear hw1 htb
 go_wp2_with fail
 refine HVA.out.mono ?_
 rintro e w2 ⟨rfl,hE2⟩
 have HE2:=Lib.hid (HE1.out.trans hE2)
 obtain ⟨z0,z1,z2,z3⟩:=cs_e4 hE2 ⟨z0,z1,z2,z3⟩
 clear hE2
 go_wp2_with fail
 refine (HCO.out _ HE2.out).mono ?_
 rintro e w3 ⟨v',rfl,hE3,hO3⟩
 obtain ⟨va,vc,rfl,-,-⟩:=id hO3.slice
 have HE3:Hid (Ext w w3):=Lib.hid (hE3.ext w HE2.out HE2.out.size)
 have HO3:=Lib.hid (hO3.low HE2.out.size)
 have hln:¬(200:Int)<((addLs [] ls).length:Int):=by omega
 clear hE3 hO3
 go_wp2_with fail
 go_ret2
 exact ⟨_,rfl,HE3.out,HO3.out⟩

theorem growN {w:World} {S:Nat→Prop} {n:Nat} (hn:n≤1000000) :
 Calls Tryz.prog 61 #[.slice none 0 0,.int .i64 n] w fun e w'=>∃u,e=.returned u∧Ext w w'∧OwnG elN w' w.heap.size 33 S u [] :=
 (grow_any (S:=S) hn).mono fun e w' ⟨u,h1,h2,E,hE,h3,h4⟩=>⟨u,h1,h2,[],rfl,fun p hp=>by simp at hp,by
   have:E=[]:=List.map_eq_nil_iff.1 hE
   subst this
   exact h3⟩
theorem concat2N {w : World} {S:Nat→Prop} {pb:Nat} {a a':Option Addr} {cap cap':Nat} {A B:List Tm} (hA6:A.length≤100000) (hB6:B.length≤100000) (hS:∀c,S c→c<w.heap.size) (hp:w.heap[pb]?=some (.cells #[.slice a A.length cap,.slice a' B.length cap'] 31)) (hA:LsG elN w S (.slice a A.length cap) A) (hB:LsG elN w S (.slice a' B.length cap') B) :
 Calls Tryz.prog 26 #[.slice (some ⟨pb,0,none⟩) 2 2] w fun e w'=>∃u,e=.returned u∧Ext w w'∧OwnG elN w' w.heap.size 33 S u (A++B):=by
 have p0:w.cell? ⟨pb,0,none⟩=some (.slice a A.length cap):=by simp [World.cell?,hp]
 have p1:w.cell? ⟨pb,1,none⟩=some (.slice a' B.length cap'):=by simp [World.cell?,hp]
 have hcg:=growN (w:=w) (S:=S) (n:=A.length+B.length) (by omega)
 have HG:=Lib.hid hcg
 have HS:=Lib.hid hS
 have HA:=Lib.hid hA
 have HB:=Lib.hid hB
 have P0:=Lib.hid p0
 have P1:=Lib.hid p1
 clear hcg hS hA hB hp
 go_enter Tryz.func26,Tryz.ntmps26
 go_wp2_with fail
 go_loop [3,5,11] (fun sv _ iv=>∃k s:Nat,k≤2∧iv=.int .i64 k∧sv=.int .i64 s∧s=(joinN A B k).length) (fun _ _ iv=>2-(intOf iv).toNat)
 case atStart=>exact ⟨0,0,by omega,rfl,rfl,rfl⟩
 case round =>
  obtain ⟨k,s,hk,rfl,rfl,hs⟩:=hrel
  rcases (by omega:k=0∨k=1∨k=2) with rfl | rfl | rfl
  · have hs0:s=0:=hs
    subst hs0
    clear hs
    go_wp2_with fail
    go_round
    case rel=>exact ⟨1,A.length,by omega,by go_num,by go_num,rfl⟩
    case measure=>simp [intOf]
  · have hs0:s=A.length:=hs
    subst hs0
    clear hs
    go_wp2_with fail
    go_round
    case rel=>exact ⟨2,A.length+B.length,by omega,by go_num,by go_num,by simp [joinN]⟩
    case measure=>simp [intOf]
  · have hs0 : s = A.length+B.length:=by rw [hs];simp [joinN]
    subst hs0
    clear hs
    go_wp2_with fail
    refine HG.out.mono ?_
    rintro e w2 ⟨u,rfl,hE2,hO2⟩
    have HE2:=Lib.hid hE2
    have HO2:=Lib.hid hO2
    clear hE2 hO2
    go_wp2_with fail
    go_loopw [6,8,27] (fun ov _ iv wr=>∃k:Nat,k≤2∧iv=.int .i64 k∧OwnG elN wr w.heap.size 33 S ov (joinN A B k)∧Ext w wr) (fun _ _ iv _=>2-(intOf iv).toNat)
    case atStart=>exact ⟨0,by omega,rfl,HO2.out,HE2.out⟩
    case round =>
     clear p0 p1
     obtain ⟨k,hk,rfl,hO,hE⟩:=hrel
     have p0:=cs_ext hE P0.out
     have p1:=cs_ext hE P1.out
     have hsz:=hE.size
     have hoff:∀c,S c→(_:Value).ownBlock≠some c:=fun c hc e=>by have:=(hO.lt c e).1;have:=HS.out c hc;omega
     have hAs:=(HA.out.ext hE).e
     have hBs:=(HB.out.ext hE).e
     have HE:=Lib.hid hE
     clear hE
     rcases (by omega:k=0∨k=1∨k=2) with rfl | rfl | rfl
     · have hO : OwnG elN wr w.heap.size 33 S u6 []:=hO
       go_wp2_with (at_builtin;(refine wpList_appG (E:=elN) (T:=33) rfl 31 (.tmp 31) (.tmp 32) rfl rfl rfl Tryz.underlying31 infTm rfl (by decide) (by decide) hO hsz hoff (by simp) (M:=A) (by omega) hAs ?_);intro v5 w5 o5 g5 k5
                    have HO5:Hid (OwnG elN w5 w.heap.size 33 S v5 A):=Lib.hid o5
                    have HE5:=Lib.hid (HE.out.grown g5 (fun c hc=>(hO.lt c hc).1))
                    clear o5 g5 k5 hO hAs hBs hoff)
       go_roundw
       case rel=>exact ⟨1,by omega,by go_num,HO5.out,HE5.out⟩
       case measure=>simp [intOf]
     · have hO : OwnG elN wr w.heap.size 33 S u6 A:=hO
       go_wp2_with (at_builtin;(refine wpList_appG (E:=elN) (T:=33) rfl 31 (.tmp 31) (.tmp 32) rfl rfl rfl Tryz.underlying31 infTm rfl (by decide) (by decide) hO hsz hoff (by omega) (M:=B) (by omega) hBs ?_);intro v5 w5 o5 g5 k5
                    have HO5:Hid (OwnG elN w5 w.heap.size 33 S v5 (A++B)):=Lib.hid o5
                    have HE5:=Lib.hid (HE.out.grown g5 (fun c hc=>(hO.lt c hc).1))
                    clear o5 g5 k5 hO hAs hBs hoff)
       go_roundw
       case rel=>exact ⟨2,by omega,by go_num,HO5.out,HE5.out⟩
       case measure=>simp [intOf]
     · have HO:Hid (OwnG elN wr w.heap.size 33 S u6 (A++B)):=Lib.hid hO
       clear hO hAs hBs hoff
       go_wp2_with fail
       go_ret
       exact ⟨_,rfl,HE.out,HO.out⟩

theorem xapp_any {w:World} {S:Nat→Prop} {n:ByteArray} {a:Option Addr} {cap:Nat} {L:List Tm} (hn:n.size≤maxLen) (hL:LsG elN w S (.slice a L.length cap) L) :
 Calls Tryz.prog 25 #[.string n,.slice a L.length cap] w fun e w'=>e=.returned (.agg #[.int .i64 3,.string n,.int .i64 0,.slice a L.length cap])∧Ext w w'∧TnW w' S a cap (appTm n L):=by
 obtain ⟨rb,w1,hrb,hw1,HRB,hE1⟩:=box_new w (.cells #[.int .i64 0,.string ⟨#[]⟩,.int .i64 0,.slice none 0 0] 33)
 have HT:=Lib.hid (tn_app hn hL)
 have HE1:=Lib.hid hE1
 have HRS:Hid (w.heap.size≤rb):=Lib.hid (by rw [hrb];exact Nat.le_refl _)
 clear hL hE1
 go_enter Tryz.func25,Tryz.ntmps25
 go_upto_region 1 with fail
 rw [←hw1,←hrb]
 clear hw1 hrb
 go_wp2_with (first
  | (refine wpList_buildT rfl [_,_,_] rfl [(0,.int .i64 3),(1,.string n),(3,.slice a L.length cap)] rfl (built_kn _ _ _ _ _) ?_)
  | ((refine wpList_storeT rfl (.tmp 4) (.tmp 7) rfl (g:=rb) rfl (k:=3) (s:=0) (n:=n) (ka:=a) (kl:=L.length) (kc:=cap) rfl HRB.out rfl ?_);intro w6 c6 q6 e6 z6
     have HE6:=Lib.hid (e6 w HE1.out HRS.out)
     have HG6:=Lib.hid c6
     clear c6 q6 e6 z6))
 exact ret_term (g:=rb) rfl rfl HG6.out rfl ⟨rfl,HE6.out,HT.out.ext HE6.out⟩

def plL (P:List Pw):List Lit:=P.flatMap fun p=>List.replicate p.2.toNat (p.1,false)
def ngL (P:List Pw):List Lit:=P.flatMap fun p=>List.replicate (-p.2).toNat (p.1,true)
theorem litsP_eq (P:List Pw):litsP P=plL P++ngL P:=rfl
theorem plL_next {P:List Pw} {q:Nat} {p:Pw} (h:P[q]?=some p):plL (P.take (q+1))=plL (P.take q)++List.replicate p.2.toNat (p.1,false):=by
 unfold plL
 rw [getT h,List.flatMap_append]
 simp
theorem ngL_next {P:List Pw} {q:Nat} {p:Pw} (h:P[q]?=some p):ngL (P.take (q+1))=ngL (P.take q)++List.replicate (-p.2).toNat (p.1,true):=by
 unfold ngL
 rw [getT h,List.flatMap_append]
 simp
theorem rep_next {α:Type} (x:α) (r:Nat):List.replicate (r+1) x=List.replicate r x++[x]:=List.replicate_succ'
theorem lits_ge {P:List Pw} {p:Pw} (h:p∈P):p.2.natAbs≤(litsP P).length:=by
 obtain ⟨A,B,rfl⟩:=List.append_of_mem h
 rw [litsP_eq]
 unfold plL ngL
 simp only [List.flatMap_append,List.flatMap_cons,List.length_append,List.length_replicate]
 omega
theorem len_bnd:∀{P:List Pw},(∀p∈P,-8≤p.2∧p.2≤8)→(plL P).length≤8*P.length∧(ngL P).length≤8*P.length:=by
 intro P
 induction P with
 | nil=>intro _;exact ⟨by simp [plL],by simp [ngL]⟩
 | cons p P ih =>
   intro h
   have h1:=ih (fun q hq=>h q (List.mem_cons_of_mem _ hq))
   have h2:=h p (List.mem_cons_self ..)
   unfold plL ngL at *
   rw [List.flatMap_cons,List.flatMap_cons,List.length_append,List.length_append,List.length_replicate,List.length_replicate,List.length_cons]
   omega
/-- the rows under way -/
structure TerI (w wr:World) (base:Nat) (pv nv:Value) (PL NL:List Lit):Prop where
 ext:Ext w wr
 pos:OwnG elN wr base 33 (fun _=>False) pv (PL.map litT)
 neg:OwnG elN wr base 33 (fun c=>base≤c∧c<wr.heap.size∧nv.ownBlock≠some c∧pv.ownBlock≠some c) nv (NL.map litT)
 dis:∀g,pv.ownBlock=some g→nv.ownBlock≠some g
theorem TerI.next {w wr w':World} {base:Nat} {pv nv:Value} {PL NL:List Lit} (h:TerI w wr base pv nv PL NL) (hE:Ext wr w'):TerI w w' base pv nv PL NL :=
 ⟨h.ext.trans hE,h.pos.ext hE,(h.neg.ext hE).keep (fun g _=>rfl) (fun c _ _=>rfl) (fun c hc _=>⟨hc.1,Nat.lt_of_lt_of_le hc.2.1 hE.size,hc.2.2⟩),h.dis⟩
/-- an atom behind the positive ones -/
theorem TerI.putP {w wz w8:World} {base:Nat} {pv nv v8:Value} {PL NL:List Lit} {l:Lit} (h:TerI w wz base pv nv PL NL) (hw:w.heap.size≤base) (o8:OwnG elN w8 base 33 (fun _=>False) v8 (PL.map litT++[litT l])) (g8:wz.grownBy w8 pv.ownBlock) (k8:v8.ownBlock=pv.ownBlock∨v8.ownBlock=some wz.heap.size):TerI w w8 base v8 nv (PL++[l]) NL:=by
 have hlp:=h.pos.lt
 have hln:=h.neg.lt
 refine ⟨h.ext.grown g8 (fun c hc=>Nat.le_trans hw (hlp c hc).1),by rw [List.map_append];exact o8,h.neg.keep (fun g hg=>g8.block g (hln g hg).2 (fun e=>h.dis g e.symm hg)) (fun c hc hcw=>g8.block c hcw (fun e=>hc.2.2.2 e.symm)) (fun c hc _=>⟨hc.1,Nat.lt_of_lt_of_le hc.2.1 g8.size,hc.2.2.1,fun e=>?_⟩),fun g hg hn=>?_⟩
 · rcases k8 with k | k
   · rw [k] at e;exact hc.2.2.2 e
   · rw [k] at e;cases e;exact absurd hc.2.1 (Nat.lt_irrefl _)
 · rcases k8 with k | k
   · rw [k] at hg;exact h.dis g hg hn
   · rw [k] at hg;cases hg;exact absurd (hln _ hn).2 (Nat.lt_irrefl _)
/-- an inverse behind the negative ones -/
theorem TerI.putN {w wz w8:World} {base:Nat} {pv nv v8:Value} {PL NL:List Lit} {l:Lit} (h:TerI w wz base pv nv PL NL) (hw:w.heap.size≤base) (o8:OwnG elN w8 base 33 (fun c=>base≤c∧c<wz.heap.size∧nv.ownBlock≠some c∧pv.ownBlock≠some c) v8 (NL.map litT++[litT l])) (g8:wz.grownBy w8 nv.ownBlock) (k8:v8.ownBlock=nv.ownBlock∨v8.ownBlock=some wz.heap.size):TerI w w8 base pv v8 PL (NL++[l]):=by
 have hlp:=h.pos.lt
 have hln:=h.neg.lt
 refine ⟨h.ext.grown g8 (fun c hc=>Nat.le_trans hw (hln c hc).1),h.pos.keep (fun g hg=>g8.block g (hlp g hg).2 (fun e=>h.dis g hg e.symm)) (fun c hc=>absurd hc id) (fun c hc=>absurd hc id),?_,fun g hg hn=>?_⟩
 · rw [List.map_append]
   refine o8.keep (fun g _=>rfl) (fun c _ _=>rfl) (fun c hc _=>⟨hc.1,Nat.lt_of_lt_of_le hc.2.1 g8.size,fun e=>?_,hc.2.2.2⟩)
   rcases k8 with k | k
   · rw [k] at e;exact hc.2.2.1 e
   · rw [k] at e;cases e;exact absurd hc.2.1 (Nat.lt_irrefl _)
 · rcases k8 with k | k
   · rw [k] at hn;exact h.dis g hg hn
   · rw [k] at hn;cases hn;exact absurd (hlp _ hg).2 (Nat.lt_irrefl _)
theorem atm_tn {w:World} {S:Nat→Prop} {i:Nat}:TnW w S none 0 (litT (i,false)):=tn_atom (by show 1≤maxLen;unfold maxLen;omega) (by unfold I64;omega)
end Go.Proofs.YtclijngnoepbiaaGreat
