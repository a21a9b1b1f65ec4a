/- Contracts: theory.normal at a node. -/
import Derived.Test.YtclijngnoepbiaaGreatPv5
import Derived.Test.YtclijngnoepbiaaGreatHA
set_option maxRecDepth 100000
set_option maxHeartbeats 8000000
namespace Go.Proofs.YtclijngnoepbiaaGreat
open Go Go.RowKit
set_option linter.unusedVariables false
set_option linter.unusedSimpArgs false

abbrev encN:ByteArray:=⟨#[101,110,99]⟩
abbrev decN:ByteArray:=⟨#[100,101,99]⟩
/-- what normal does with the kids' normal forms -/
inductive TailC (Ns:List Tm):ByteArray→Prop→Tm→Prop
 | enc {R:Prop} (hR:R):TailC Ns encN R (appTm encN Ns)
 | dec {R:Prop} {N:Tm} (hR:R) (h:∀(w':World) (S:Nat→Prop) (va:Option Addr) (vc:Nat),TnW w' S va vc (appTm decN Ns)→Calls Tryz.prog 85 #[.agg #[.int .i64 3,.string decN,.int .i64 0,.slice va Ns.length vc]] w' fun e w''=>∃v,e=.returned v∧Ext w' w''∧IsN w'' (fun _=>False) v N):TailC Ns decN R N
 | mul {R:Prop} {n:ByteArray} {P:List Pw} (hn:n=mulN∨n=invN∨n=oneN) (gP:Good P) (rP:Rng 1000 P) (hR:R↔(litsP P).length≤8) (h:∀(w':World) (S:Nat→Prop) (va:Option Addr) (vc:Nat),TnW w' S va vc (appTm n Ns)→Calls Tryz.prog 87 #[.agg #[.int .i64 3,.string n,.int .i64 0,.slice va Ns.length vc]] w' fun e w''=>∃v',e=.returned (.tuple #[v',.int .i64 0])∧Ext w' w''∧OwnG elPw w'' w'.heap.size 66 (fun _=>False) v' P):TailC Ns n R (expT (litsP P))
 | exp {R:Prop} {A B N:Tm} (hN:Ns=[A,B]) (h:∀(w':World) (S:Nat→Prop) (a b:Option Addr) (ac bc:Nat),TnW w' S a ac A→TnW w' S b bc B→Calls Tryz.prog 88 #[.agg #[.int .i64 A.kind,.string A.name,.int .i64 A.sort,.slice a A.kids.length ac],.agg #[.int .i64 B.kind,.string B.name,.int .i64 B.sort,.slice b B.kids.length bc]] w' (NorE w' R N)):TailC Ns ⟨#[101,120,112]⟩ R N
theorem NorE.shape {w w':World} {P:Prop} {t:Tm} {e:Ending} (h:NorE w P t e w'):∃(k:Int) (n:ByteArray) (s:Int) (a:Option Addr) (l c:Nat) (er:Int),e=.returned (.tuple #[.agg #[.int .i64 k,.string n,.int .i64 s,.slice a l c],.int .i64 er])∧Ext w w' ∧
 ((P∧er=0∧k=t.kind∧n=t.name∧s=t.sort∧l=t.kids.length∧TnW w' (fun c=>w.heap.size≤c) a c t)∨(¬P∧er=3∧k=0∧n=⟨#[]⟩∧s=0∧a=none∧l=0∧c=0)):=by
 rcases h with ⟨hP,v,rfl,hE,a,c,rfl,hT⟩ | ⟨hP,rfl,hE⟩
 · exact ⟨_,_,_,_,_,_,_,rfl,hE,.inl ⟨hP,rfl,rfl,rfl,rfl,rfl,hT⟩⟩
 · exact ⟨_,_,_,_,_,_,_,rfl,hE,.inr ⟨hP,rfl,rfl,rfl,rfl,rfl,rfl,rfl⟩⟩
theorem normal_node {w:World} {S:Nat→Prop} {a:Option Addr} {cap l:Nat} {n:ByteArray} {ks Ns:List Tm} {Pk:Nat→Prop} {R:Prop} {N:Tm} (hl:ks.length=l) (hNl:Ns.length=l) (h8:l≤8) (hC:(∀i,i<l→Pk i)→TailC Ns n R N) (hT:TnW w S a cap (appTm n ks))
 (hK:∀(i:Nat) k nk,ks[i]?=some k→Ns[i]?=some nk→∀(w':World) (ka:Option Addr) (kc:Nat),TnW w' S ka kc k→Calls Tryz.prog 49 #[.agg #[.int .i64 k.kind,.string k.name,.int .i64 k.sort,.slice ka k.kids.length kc]] w' (NorE w' (Pk i) nk)) :
 Calls Tryz.prog 49 #[.agg #[.int .i64 3,.string n,.int .i64 0,.slice a l cap]] w (NorE w ((∀i,i<l→Pk i)∧R) N):=by
 obtain ⟨bx,w1,hbx,hw1,HB,hE1⟩:=box_new w (.cells #[.int .i64 3,.string n,.int .i64 0,.slice a l cap] 33)
 obtain ⟨rb,w2,hrb,hw2,HR,hE2⟩:=box_new w1 (.cells #[.int .i64 0,.string ⟨#[]⟩,.int .i64 0,.slice none 0 0] 33)
 obtain ⟨ob,w3,hob,hw3,HO,hE3⟩:=box_new w2 (.cells #[.int .i64 3,.string n,.int .i64 0,.slice none 0 0] 33)
 have hrb1:rb=bx+1:=by rw [hrb,hw1,World.size_alloc,hbx]
 have hb2:=hs_ext hE2 HB.out
 obtain ⟨b0,b1,b2,b3⟩:=box4r hb2
 have hb3:=hs_ext hE3 hb2
 have b1n:w3.cell? ⟨bx,1,none⟩=some (.string n):=by rw [cellc hb3];rfl
 have b3n:w3.cell? ⟨bx,3,none⟩=some (.slice a l cap):=by rw [cellc hb3];rfl
 have HE2:=Lib.hid (hE1.trans hE2)
 have HE3:=Lib.hid hE3
 have HRS:Hid (w.heap.size≤rb∧rb<w2.heap.size∧ob=w2.heap.size∧bx<w2.heap.size):=Lib.hid ⟨by rw [hrb1,hbx];omega,(Array.getElem?_eq_some_iff.1 HR.out).1,hob,(Array.getElem?_eq_some_iff.1 hb2).1⟩
 have HT:=Lib.hid (hT.ext (hE1.trans hE2))
 have hcm:=hT.cap
 have hcl2:l≤cap:=hl ▸ hT.len
 have hnm:n.size≤maxLen:=hT.name
 have HNM:=Lib.hid hnm
 have HB2:=Lib.hid hb2
 have HLL:=Lib.hid (And.intro hl hNl)
 have HKC:=Lib.hid hK
 have HCC:=Lib.hid hC
 unfold maxLen at hcm
 clear hE1 hE2 hE3 hb2 hb3 hT hK hC hl hNl hnm
 go_enter Tryz.func49,Tryz.ntmps49
 go_upto_region 1 with fail
 rw [←hw1,←hbx,←hw2,←hrb1]
 clear hw1 hbx hw2 hrb1 hrb
 go_upto_region 4 with fail
 rw [←hw3,←hob]
 clear hw3 hob b0 b1 b2 b3
 go_wp2_with fail
 clear b1n b3n
 go_loopw [6,7,8,21] (fun x6 x7 x8 kv wr=>∃(k:Nat) (V:Value),kv=.int .i64 k∧k≤l∧Hid (Ext w2 wr)∧Hid (wr.heap[ob]?=some (.cells #[.int .i64 3,.string n,.int .i64 0,V] 33))∧Hid (OwnG elN wr (ob+1) 33 (fun c=>ob<c∧c<wr.heap.size∧V.ownBlock≠some c) V (Ns.take k))∧Hid (∀i,i<k→Pk i)) (fun x6 x7 x8 kv _=>l-(intOf kv).toNat)
 case atStart=>exact ⟨0,_,rfl,by omega,HE3,HO,Lib.hid OwnG.nil,Lib.hid (fun i h=>by omega)⟩
 case round =>
  obtain ⟨k,V,rfl,hk,HE,HOB,HOW,HPK⟩:=hrel
  obtain ⟨va,vc,rfl,hvl,hvc⟩:=id HOW.out.slice
  obtain ⟨m,hm⟩:∃m,m=(Ns.take k).length:=⟨_,rfl⟩
  have HML:Hid (m=k):=Lib.hid (by rw [hm,List.length_take];have:=HLL.out.2;omega)
  rw [←hm] at HOB HOW
  clear hm hvl
  by_cases hlt:k<l
  · obtain ⟨x,hx⟩:∃x,ks[k]?=some x:=⟨_,List.getElem?_eq_getElem (by rw [HLL.out.1];exact hlt)⟩
    obtain ⟨nx,hnx⟩:∃x,Ns[k]?=some x:=⟨_,List.getElem?_eq_getElem (by rw [HLL.out.2];exact hlt)⟩
    obtain ⟨kb,ko,ka,kc,rfl,-,-,x0,x1,x2,x3,hTx⟩:=(HT.out.ext HE.out).kid hx
    obtain ⟨yb,w4,hyb,hw4,HY,hE4⟩:=box_new wr (.cells #[.int .i64 x.kind,.string x.name,.int .i64 x.sort,.slice ka x.kids.length kc] 33)
    obtain ⟨y0,y1,y2,y3⟩:=box4r HY.out
    have hki:(k:Int)<(l:Int):=by omega
    have hk0:(0:Int)≤(k:Int):=by omega
    have wk:IntKind.i64.wrap ((k:Int)+1)=((k+1:Nat):Int):=by rw [IntKind.wrap_i64];omega
    have HC:=Lib.hid (HKC.out k x nx hx hnx w4 ka kc (hTx.ext hE4))
    have HTK:Hid (Ns.take (k+1)=Ns.take k++[nx]):=Lib.hid (by rw [List.take_add_one,hnx];rfl)
    have HE4:=Lib.hid hE4
    clear hE4 hx hnx hTx
    go_upto_region 7 with fail
    rw [←hw4,←hyb]
    clear hw4 hyb x0 x1 x2 x3
    go_wp2_with fail
    refine HC.out.mono ?_
    rintro e w5 (⟨hP,v,rfl,hE5,na,nc,rfl,hN5⟩ | ⟨hP,rfl,hE5⟩)
    · have HPK2:Hid (∀i,i<k+1→Pk i):=Lib.hid (fun i hi=>by
       rcases Nat.lt_or_eq_of_le (Nat.le_of_lt_succ hi) with h | rfl
       · exact HPK.out i h
       · exact hP)
      obtain ⟨zb,w6,hzb,hw6,HZ,hE6⟩:=box_new w5 (.cells #[.int .i64 nx.kind,.string nx.name,.int .i64 nx.sort,.slice na nx.kids.length nc] 33)
      obtain ⟨z0,z1,z2,z3⟩:=box4r HZ.out
      have hr6:=HE4.out.trans (hE5.trans hE6)
      have hob6:=hs_ext hr6 HOB.out
      have o3:w6.cell? ⟨ob,3,none⟩=some (.slice va m vc):=by rw [cellc hob6];rfl
      obtain ⟨lb,w7,hlb,hw7,HL,hE7⟩:=box_new w6 (.cells #[.int .i64 nx.kind,.string nx.name,.int .i64 nx.sort,.slice na nx.kids.length nc] 33)
      have hr7:=hr6.trans hE7
      have hs4:=HE4.out.size
      have HOL:Hid (ob<wr.heap.size):=Lib.hid (Array.getElem?_eq_some_iff.1 HOB.out).1
      have hN7:TnW w7 (fun c=>ob<c∧c<w7.heap.size∧(Value.slice va m vc).ownBlock≠some c) na nc nx:=(hN5.ext (hE6.trans hE7)).wide (fun c h1 h2=>⟨by have:=HOL.out;omega,h2,fun e=>by have:=(HOW.out.lt c e).2;omega⟩)
      have HLS:Hid (LsE elN w7 (fun c=>ob<c∧c<w7.heap.size∧(Value.slice va m vc).ownBlock≠some c) (.slice (some ⟨lb,0,none⟩) 1 1) [nx]):=Lib.hid (tn_e HL.out hN7)
      have HO7:Hid (OwnG elN w7 (ob+1) 33 (fun c=>ob<c∧c<w7.heap.size∧(Value.slice va m vc).ownBlock≠some c) (.slice va m vc) (Ns.take k)):=Lib.hid ((HOW.out.ext hr7).wide (fun c h _=>⟨h.1,Nat.lt_of_lt_of_le h.2.1 hr7.size,h.2.2⟩))
      have HOB7:=Lib.hid (hs_ext hr7 HOB.out)
      have HE7:=Lib.hid (HE.out.trans hr7)
      have HSZ:Hid (ob+1≤w7.heap.size):=Lib.hid (Array.getElem?_eq_some_iff.1 HOB7.out).1
      have hml:(Ns.take k).length≤1000000:=by rw [List.length_take];omega
      have e0:((0:Int)==(0:Int))=true:=rfl
      clear hE5 hE6 hE7 hr6 hr7 hob6 hN5 hN7 hP hs4
      go_upto_region 8 with fail
      rw [←hw6,←hzb]
      clear hw6 hzb y0 y1 y2 y3
      go_wp2_with (
       at_builtin
       rw [←hw7,←hlb]
       refine wpList_appG (E:=elN) (T:=33) rfl 31 (.tmp 35) (.tmp 37) rfl rfl rfl Tryz.underlying31 infTm rfl (by decide) (by decide) HO7.out HSZ.out (fun c h=>h.2.2) hml (M:=[nx]) (by simp) HLS.out ?_
       intro v8 w8 o8 g8 k8
       obtain ⟨va8,vc8,rfl,-,-⟩:=id o8.slice
       obtain ⟨m8,hm8⟩:∃m8,m8=(Ns.take k++[nx]).length:=⟨_,rfl⟩
       rw [←hm8] at o8 k8
       rw [←hm8]
       have hob8:=(g8.block ob HSZ.out (fun e=>by have:=(HO7.out.lt ob e.symm).1;omega)).trans HOB7.out
       have HE8:=Lib.hid (Ext.grown HE7.out g8 (fun c hc=>by have:=(HO7.out.lt c hc).1;have:=HRS.out;omega))
       have c3:w8.cell? ⟨ob,3,none⟩=some (.slice va m vc):=by rw [cellc hob8];rfl
       have f3:w8.frozen? ⟨ob,3,none⟩=false:=frozenc hob8
       have HOB9:Hid ((w8.setCell ⟨ob,3,none⟩ (.slice va8 m8 vc8)).heap[ob]?=some (.cells #[.int .i64 3,.string n,.int .i64 0,.slice va8 m8 vc8] 33)):=Lib.hid (by rw [heap_setCell_same w8 ob 3 _ _ _ hob8];rfl)
       have HE9:Hid (Ext w2 (w8.setCell ⟨ob,3,none⟩ (.slice va8 m8 vc8))):=Lib.hid (HE8.out.setCell (by have:=HRS.out;omega) _)
       have HO9:Hid (OwnG elN (w8.setCell ⟨ob,3,none⟩ (.slice va8 m8 vc8)) (ob+1) 33 (fun c=>ob<c∧c<(w8.setCell ⟨ob,3,none⟩ (.slice va8 m8 vc8)).heap.size∧(Value.slice va8 m8 vc8).ownBlock≠some c) (.slice va8 m8 vc8) (Ns.take (k+1))):=Lib.hid (by
        rw [HTK.out]
        exact o8.keep (fun c hc=>heap_setCell_other _ _ _ _ (by have:=(o8.lt c hc).1;show c≠ob;omega)) (fun c h _=>heap_setCell_other _ _ _ _ (by have:=h.1;show c≠ob;omega)) (fun c h hc=>⟨h.1,by rw [World.size_setCell];exact hc,fun e=>by
         rcases k8 with k | k
         · rw [k] at e;exact h.2.2 e
         · rw [k] at e;cases e;exact absurd h.2.1 (Nat.lt_irrefl _)⟩))
       clear o8 g8 k8 hob8 hm8)
      go_roundw
      case rel=>exact ⟨k+1,_,by go_num,by omega,HE9,HOB9,HO9,HPK2⟩
      case measure=>simp [intOf];omega
    · have HNP:Hid (¬((∀i,i<l→Pk i)∧R)):=Lib.hid (fun h=>hP (h.1 k hlt))
      obtain ⟨zb,w6,hzb,hw6,HZ,hE6⟩:=box_new w5 (.cells #[.int .i64 0,.string ⟨#[]⟩,.int .i64 0,.slice none 0 0] 33)
      have HR5:=Lib.hid (hs_ext (HE.out.trans (HE4.out.trans (hE5.trans hE6))) HR.out)
      have HE5:=Lib.hid (HE2.out.trans (HE.out.trans (HE4.out.trans (hE5.trans hE6))))
      clear hE5 hE6 hP
      go_upto_region 8 with fail
      rw [←hw6,←hzb]
      clear hw6 hzb y0 y1 y2 y3
      go_wp2_with (refine wpList_storeT rfl (.tmp 2) (.tmp 32) rfl (g:=rb) rfl (k:=0) (s:=0) (n:=⟨#[]⟩) (ka:=none) (kl:=0) (kc:=0) rfl HR5.out rfl ?_)
      intro w9 h9 hoth hE9 hs9
      go_wp2_with fail
      exact ret_term2 (g:=rb) rfl rfl h9 rfl (.inr ⟨HNP.out,rfl,hE9 w HE5.out HRS.out.1⟩)
  · have hki:¬(k:Int)<(l:Int):=by omega
    have HK2:Hid (Ns.take k=Ns):=Lib.hid (List.take_of_length_le (by have:=HLL.out.2;omega))
    have HM2:Hid (m=l):=Lib.hid (by have:=HML.out;omega)
    have hm2:=HM2.out
    subst hm2
    have HPA:Hid (∀i,i<m→Pk i):=Lib.hid (fun i hi=>HPK.out i (by omega))
    have hbz:=hs_ext HE.out HB2.out
    have b1:wr.cell? ⟨bx,1,none⟩=some (.string n):=by rw [cellc hbz];rfl
    obtain ⟨o0,o1,o2,o3⟩:=box4r HOB.out
    have HRz:=Lib.hid (hs_ext HE.out HR.out)
    have HLZ:Hid (LsG elN wr (fun c=>ob<c∧c<wr.heap.size) (.slice va Ns.length vc) Ns):=Lib.hid (by
     have h:=HOW.out
     rw [HK2.out] at h
     have h2:=h.ls (S':=fun c=>ob<c∧c<wr.heap.size) (fun c h _=>⟨h.1,h.2.1⟩) (fun g _ h1 h2=>⟨h1,h2⟩)
     rw [←HLL.out.2] at h2
     exact h2)
    have HAT:Hid (∀w',Ext wr w'→TnW w' (fun c=>ob<c∧c<wr.heap.size) va vc (appTm n Ns)):=Lib.hid (fun w' hE=>(tn_app HNM.out HLZ.out).ext hE)
    have HEz:=Lib.hid (HE2.out.trans HE.out)
    have hcc:=HCC.out HPA.out
    clear hbz HKC HT HCC
    cases hcc with
    | enc hR =>
      have HRR:=Lib.hid hR
      clear hR
      go_wp2_with (refine wpList_storeT rfl (.tmp 2) (.tmp 89) rfl (g:=rb) rfl (k:=3) (s:=0) (n:=⟨#[101,110,99]⟩) (ka:=va) (kl:=m) (kc:=vc) rfl HRz.out rfl ?_)
      intro w9 h9 hoth hE9 hs9
      go_wp2_with fail
      exact ret_term2 (g:=rb) rfl rfl h9 rfl (.inl ⟨⟨HPA.out,HRR.out⟩,_,rfl,hE9 w HEz.out HRS.out.1,va,vc,by rw [←HLL.out.2];rfl,(HAT.out _ (Ext.refl _)).keep (fun c hc _=>hoth c (by have:=HRS.out;omega)) (fun c hc _=>by have:=HRS.out;have:=HE2.out.size;omega)⟩)
    | dec hR h =>
      have HRR:=Lib.hid hR
      have HD:=Lib.hid (h wr _ va vc (HAT.out _ (Ext.refl _)))
      rw [HLL.out.2] at HD
      clear hR h
      go_wp2_with fail
      refine HD.out.mono ?_
      rintro e w8 ⟨v,rfl,hE8,na,nc,rfl,hN8⟩
      have HRB8:=Lib.hid (hs_ext hE8 HRz.out)
      have HE8:=Lib.hid (HEz.out.trans hE8)
      have HN8:=Lib.hid hN8
      clear hE8 hN8
      go_wp2_with (refine wpList_storeT rfl (.tmp 2) (.tmp 51) rfl (g:=rb) rfl (k:=N.kind) (s:=N.sort) (n:=N.name) (ka:=na) (kl:=N.kids.length) (kc:=nc) rfl HRB8.out rfl ?_)
      intro w9 h9 hoth hE9 hs9
      go_wp2_with fail
      exact ret_term2 (g:=rb) rfl rfl h9 rfl (.inl ⟨⟨HPA.out,HRR.out⟩,_,rfl,hE9 w HE8.out HRS.out.1,na,nc,rfl,HN8.out.keep (fun c hc _=>hc.elim) (fun c hc _=>hc.elim)⟩)
    | @mul _ _ P hn gP rP hR h =>
      obtain ⟨X,hX⟩:∃X,X=expT (litsP P):=⟨_,rfl⟩
      have HXX:=Lib.hid hX
      have HGP:=Lib.hid (And.intro gP rP)
      have HRI:=Lib.hid hR
      have HD:=Lib.hid (h wr _ va vc (HAT.out _ (Ext.refl _)))
      rw [HLL.out.2] at HD
      clear hR h hX gP rP
      rcases hn with hn | hn | hn
      · have hn2:n=⟨#[109,117,108]⟩:=hn
        clear hn
        subst hn2
        go_wp2_with fail
        refine HD.out.mono ?_
        rintro e w8 ⟨v',rfl,hE8,hO8⟩
        obtain ⟨pa,pc,rfl,-,-⟩:=id hO8.slice
        have HT8:=Lib.hid (PTermP_any (hO8.ls (S':=fun _=>True) (fun c h _=>trivial) (fun g _ _ _=>trivial)) HGP.out.1 HGP.out.2)
        have HRB8:=Lib.hid (hs_ext hE8 HRz.out)
        have HE8:=Lib.hid (HEz.out.trans hE8)
        clear hE8 hO8
        go_wp2_with fail
        refine HT8.out.mono ?_
        rintro e w9 (⟨hl8,v,rfl,hE9,na,nc,rfl,hN9⟩ | ⟨hl8,rfl,hE9⟩)
        · have hN9:TnW w9 (fun c=>w8.heap.size≤c) na nc X:=by rw [HXX.out];exact hN9
          rw [←HXX.out]
          have HRB9:=Lib.hid (hs_ext hE9 HRB8.out)
          have HE9:=Lib.hid (HE8.out.trans hE9)
          have HN9:=Lib.hid hN9
          have HL9:=Lib.hid (And.intro HPA.out (HRI.out.2 hl8))
          have HW8:Hid (rb<w8.heap.size∧w.heap.size≤w8.heap.size):=Lib.hid ⟨(Array.getElem?_eq_some_iff.1 HRB8.out).1,HE8.out.size⟩
          clear hE9 hN9 hl8
          go_wp2_with (refine wpList_storeT rfl (.tmp 2) (.tmp 74) rfl (g:=rb) rfl (k:=X.kind) (s:=X.sort) (n:=X.name) (ka:=na) (kl:=X.kids.length) (kc:=nc) rfl HRB9.out rfl ?_)
          intro wz hz hoth hEz hsz
          go_wp2_with fail
          exact ret_term2 (g:=rb) rfl rfl hz rfl (.inl ⟨HL9.out,_,rfl,hEz w HE9.out HRS.out.1,by
           rw [←HXX.out]
           exact ⟨na,nc,rfl,HN9.out.keep (fun c hc _=>hoth c (by have:=HW8.out.1;omega)) (fun c hc _=>by have:=HW8.out.2;omega)⟩⟩)
        · have HRB9:=Lib.hid (hs_ext hE9 HRB8.out)
          have HE9:=Lib.hid (HE8.out.trans hE9)
          have HL9:Hid (¬((∀i,i<m→Pk i)∧R)):=Lib.hid (fun h=>by have:=HRI.out.1 h.2;omega)
          clear hE9 hl8
          go_wp2_with (refine wpList_storeT rfl (.tmp 2) (.tmp 74) rfl (g:=rb) rfl (k:=0) (s:=0) (n:=⟨#[]⟩) (ka:=none) (kl:=0) (kc:=0) rfl HRB9.out rfl ?_)
          intro wz hz hoth hEz hsz
          go_wp2_with fail
          exact ret_term2 (g:=rb) rfl rfl hz rfl (.inr ⟨HL9.out,rfl,hEz w HE9.out HRS.out.1⟩)
      · have hn2:n=⟨#[105,110,118]⟩:=hn
        clear hn
        subst hn2
        go_wp2_with fail
        refine HD.out.mono ?_
        rintro e w8 ⟨v',rfl,hE8,hO8⟩
        obtain ⟨pa,pc,rfl,-,-⟩:=id hO8.slice
        have HT8:=Lib.hid (PTermP_any (hO8.ls (S':=fun _=>True) (fun c h _=>trivial) (fun g _ _ _=>trivial)) HGP.out.1 HGP.out.2)
        have HRB8:=Lib.hid (hs_ext hE8 HRz.out)
        have HE8:=Lib.hid (HEz.out.trans hE8)
        clear hE8 hO8
        go_wp2_with fail
        refine HT8.out.mono ?_
        rintro e w9 (⟨hl8,v,rfl,hE9,na,nc,rfl,hN9⟩ | ⟨hl8,rfl,hE9⟩)
        · have hN9:TnW w9 (fun c=>w8.heap.size≤c) na nc X:=by rw [HXX.out];exact hN9
          rw [←HXX.out]
          have HRB9:=Lib.hid (hs_ext hE9 HRB8.out)
          have HE9:=Lib.hid (HE8.out.trans hE9)
          have HN9:=Lib.hid hN9
          have HL9:=Lib.hid (And.intro HPA.out (HRI.out.2 hl8))
          have HW8:Hid (rb<w8.heap.size∧w.heap.size≤w8.heap.size):=Lib.hid ⟨(Array.getElem?_eq_some_iff.1 HRB8.out).1,HE8.out.size⟩
          clear hE9 hN9 hl8
          go_wp2_with (refine wpList_storeT rfl (.tmp 2) (.tmp 74) rfl (g:=rb) rfl (k:=X.kind) (s:=X.sort) (n:=X.name) (ka:=na) (kl:=X.kids.length) (kc:=nc) rfl HRB9.out rfl ?_)
          intro wz hz hoth hEz hsz
          go_wp2_with fail
          exact ret_term2 (g:=rb) rfl rfl hz rfl (.inl ⟨HL9.out,_,rfl,hEz w HE9.out HRS.out.1,by
           rw [←HXX.out]
           exact ⟨na,nc,rfl,HN9.out.keep (fun c hc _=>hoth c (by have:=HW8.out.1;omega)) (fun c hc _=>by have:=HW8.out.2;omega)⟩⟩)
        · have HRB9:=Lib.hid (hs_ext hE9 HRB8.out)
          have HE9:=Lib.hid (HE8.out.trans hE9)
          have HL9:Hid (¬((∀i,i<m→Pk i)∧R)):=Lib.hid (fun h=>by have:=HRI.out.1 h.2;omega)
          clear hE9 hl8
          go_wp2_with (refine wpList_storeT rfl (.tmp 2) (.tmp 74) rfl (g:=rb) rfl (k:=0) (s:=0) (n:=⟨#[]⟩) (ka:=none) (kl:=0) (kc:=0) rfl HRB9.out rfl ?_)
          intro wz hz hoth hEz hsz
          go_wp2_with fail
          exact ret_term2 (g:=rb) rfl rfl hz rfl (.inr ⟨HL9.out,rfl,hEz w HE9.out HRS.out.1⟩)
      · have hn2:n=⟨#[111,110,101]⟩:=hn
        clear hn
        subst hn2
        go_wp2_with fail
        refine HD.out.mono ?_
        rintro e w8 ⟨v',rfl,hE8,hO8⟩
        obtain ⟨pa,pc,rfl,-,-⟩:=id hO8.slice
        have HT8:=Lib.hid (PTermP_any (hO8.ls (S':=fun _=>True) (fun c h _=>trivial) (fun g _ _ _=>trivial)) HGP.out.1 HGP.out.2)
        have HRB8:=Lib.hid (hs_ext hE8 HRz.out)
        have HE8:=Lib.hid (HEz.out.trans hE8)
        clear hE8 hO8
        go_wp2_with fail
        refine HT8.out.mono ?_
        rintro e w9 (⟨hl8,v,rfl,hE9,na,nc,rfl,hN9⟩ | ⟨hl8,rfl,hE9⟩)
        · have hN9:TnW w9 (fun c=>w8.heap.size≤c) na nc X:=by rw [HXX.out];exact hN9
          rw [←HXX.out]
          have HRB9:=Lib.hid (hs_ext hE9 HRB8.out)
          have HE9:=Lib.hid (HE8.out.trans hE9)
          have HN9:=Lib.hid hN9
          have HL9:=Lib.hid (And.intro HPA.out (HRI.out.2 hl8))
          have HW8:Hid (rb<w8.heap.size∧w.heap.size≤w8.heap.size):=Lib.hid ⟨(Array.getElem?_eq_some_iff.1 HRB8.out).1,HE8.out.size⟩
          clear hE9 hN9 hl8
          go_wp2_with (refine wpList_storeT rfl (.tmp 2) (.tmp 74) rfl (g:=rb) rfl (k:=X.kind) (s:=X.sort) (n:=X.name) (ka:=na) (kl:=X.kids.length) (kc:=nc) rfl HRB9.out rfl ?_)
          intro wz hz hoth hEz hsz
          go_wp2_with fail
          exact ret_term2 (g:=rb) rfl rfl hz rfl (.inl ⟨HL9.out,_,rfl,hEz w HE9.out HRS.out.1,by
           rw [←HXX.out]
           exact ⟨na,nc,rfl,HN9.out.keep (fun c hc _=>hoth c (by have:=HW8.out.1;omega)) (fun c hc _=>by have:=HW8.out.2;omega)⟩⟩)
        · have HRB9:=Lib.hid (hs_ext hE9 HRB8.out)
          have HE9:=Lib.hid (HE8.out.trans hE9)
          have HL9:Hid (¬((∀i,i<m→Pk i)∧R)):=Lib.hid (fun h=>by have:=HRI.out.1 h.2;omega)
          clear hE9 hl8
          go_wp2_with (refine wpList_storeT rfl (.tmp 2) (.tmp 74) rfl (g:=rb) rfl (k:=0) (s:=0) (n:=⟨#[]⟩) (ka:=none) (kl:=0) (kc:=0) rfl HRB9.out rfl ?_)
          intro wz hz hoth hEz hsz
          go_wp2_with fail
          exact ret_term2 (g:=rb) rfl rfl hz rfl (.inr ⟨HL9.out,rfl,hEz w HE9.out HRS.out.1⟩)
    | @exp _ A B _ hN h =>
      have hm2:m=2:=by have:=HLL.out.2;rw [hN] at this;exact this.symm
      have hTA:=HAT.out _ (Ext.refl _)
      rw [hN] at hTA
      subst hm2
      obtain ⟨ab,ao,aa,aac,rfl,-,hab,k0,k1,k2,k3,hA⟩:=hTA.kid (i:=0) (k:=A) rfl
      obtain ⟨ab',ao',ba,bbc,hae,-,-,k4,k5,k6,k7,hB⟩:=hTA.kid (i:=1) (k:=B) rfl
      cases hae
      have k0:wr.cell? ⟨ab,ao,none⟩=some (.int .i64 A.kind):=k0
      have k1:wr.cell? ⟨ab,ao+1,none⟩=some (.string A.name):=k1
      have k2:wr.cell? ⟨ab,ao+2,none⟩=some (.int .i64 A.sort):=k2
      have k3:wr.cell? ⟨ab,ao+3,none⟩=some (.slice aa A.kids.length aac):=k3
      have k4:wr.cell? ⟨ab,ao+4,none⟩=some (.int .i64 B.kind):=k4
      have k5:wr.cell? ⟨ab,ao+5,none⟩=some (.string B.name):=k5
      have k6:wr.cell? ⟨ab,ao+6,none⟩=some (.int .i64 B.sort):=k6
      have k7:wr.cell? ⟨ab,ao+7,none⟩=some (.slice ba B.kids.length bbc):=k7
      have HRA:=Lib.hid (fun (w':World) (hE:Ext wr w')=>h w' _ aa ba aac bbc (hA.ext hE) (hB.ext hE))
      clear h hA hB hTA hN hab
      have hvc2:2≤vc:=by have:=HAT.out _ (Ext.refl _);have h2:=this.len;have h3:(appTm (⟨#[101,120,112]⟩:ByteArray) Ns).kids.length=2:=HLL.out.2;exact h3 ▸ h2
      have hEd:Ext wr wr.drew:=Ext.drew wr
      have HED:=Lib.hid (HEz.out.trans hEd)
      have HRD:=Lib.hid (hs_ext hEd HRz.out)
      have hwd:wr.drew.heap.size=wr.heap.size:=rfl
      obtain ⟨o3,k0,k1,k2,k3,k4,k5,k6,k7⟩:=cs_e9 hEd ⟨o3,k0,k1,k2,k3,k4,k5,k6,k7⟩
      clear hEd
      go_upto_region 30 with fail
      go_region_law (
       go_simp
       go_at_call 88
       refine (HRA.out _ (by repeat (first | exact Ext.refl _ | exact Ext.alloc _ _ | apply Ext.then_dr | apply Ext.then_drN | apply Ext.then_drN2 | (refine Ext.then_al ?_ _)))).mono ?_
       intro e w9 h9
       obtain ⟨k9,n9,s9,a9,l9,c9,er,rfl,hE9,hC9⟩:=h9.shape
       have hE9w:Ext wr w9:=Ext.trans (by repeat (first | exact Ext.refl _ | exact Ext.alloc _ _ | apply Ext.then_dr | apply Ext.then_drN | apply Ext.then_drN2 | (refine Ext.then_al ?_ _))) hE9
       have HE9:=Lib.hid (HEz.out.trans hE9w)
       have HRB9:=Lib.hid (hs_ext hE9w HRz.out)
       have HC9:Hid ((((∀i,i<2→Pk i)∧R)∧er=0∧k9=N.kind∧n9=N.name∧s9=N.sort∧l9=N.kids.length∧TnW w9 (fun c=>wr.heap.size≤c) a9 c9 N)∨(¬((∀i,i<2→Pk i)∧R)∧er=3∧k9=0∧n9=⟨#[]⟩∧s9=0∧a9=none∧l9=0∧c9=0)):=Lib.hid (by
        rcases hC9 with ⟨h1,h2⟩ | ⟨h1,h2⟩
        · exact .inl ⟨⟨HPA.out,h1⟩,h2⟩
        · exact .inr ⟨fun h=>h1 h.2,h2⟩)
       have r0:w9.cell? ⟨rb,0,none⟩=some (.int .i64 0):=by rw [cellc HRB9.out];rfl
       have r1:w9.cell? ⟨rb,1,none⟩=some (.string ⟨#[]⟩):=by rw [cellc HRB9.out];rfl
       have r2:w9.cell? ⟨rb,2,none⟩=some (.int .i64 0):=by rw [cellc HRB9.out];rfl
       have r3:w9.cell? ⟨rb,3,none⟩=some (.slice none 0 0):=by rw [cellc HRB9.out];rfl
       have f0:w9.frozen? ⟨rb,0,none⟩=false:=frozenc HRB9.out
       have f1:w9.frozen? ⟨rb,1,none⟩=false:=frozenc HRB9.out
       have f2:w9.frozen? ⟨rb,2,none⟩=false:=frozenc HRB9.out
       have f3:w9.frozen? ⟨rb,3,none⟩=false:=frozenc HRB9.out
       clear hE9 hE9w hC9 h9)
      all_goals
       simp only [List.getElem_toArray,List.getElem_cons_succ,List.getElem_cons_zero,Act.put,List.setIfInBounds_toArray,List.set_cons_succ,List.set_cons_zero]
       go_wp2_with fail
       refine ret_term2 (g:=rb) rfl rfl (set4s_box _ _ _ _ HRB9.out).1 rfl ?_
       have hne:∀c,c≠rb→(((((w9.setCell ⟨rb,0,none⟩ (.int .i64 k9)).setCell ⟨rb,1,none⟩ (.string n9)).setCell ⟨rb,2,none⟩ (.int .i64 s9)).setCell ⟨rb,3,none⟩ (.slice a9 l9 c9)).heap[c]?:Option Obj)=w9.heap[c]?:=fun c hc=>by
        rw [heap_setCell_other _ _ _ _ hc,heap_setCell_other _ _ _ _ hc,heap_setCell_other _ _ _ _ hc,heap_setCell_other _ _ _ _ hc]
       have hE9:=(set4s_box (.int .i64 k9) (.string n9) (.int .i64 s9) (.slice a9 l9 c9) HRB9.out).2 _ HE9.out HRS.out.1
       rcases HC9.out with ⟨hP,rfl,rfl,rfl,rfl,rfl,hT⟩ | ⟨hP,rfl,rfl,rfl,rfl,rfl,rfl,rfl⟩
       · exact .inl ⟨hP,_,rfl,hE9,a9,c9,rfl,hT.keep (fun c hc _=>hne c (by have:=HRS.out;have:=HE.out.size;omega)) (fun c hc _=>by have:=HEz.out.size;omega)⟩
       · exact .inr ⟨hP,rfl,hE9⟩
end Go.Proofs.YtclijngnoepbiaaGreat
