/- Contracts: sealringref09.normal at a node. -/
import Derived.Test.YtclijngnoepbiaaGreatPw3
set_option maxRecDepth 100000
set_option maxHeartbeats 8000000
namespace Go.Proofs.YtclijngnoepbiaaGreat
open Go Go.RowKit
set_option linter.unusedVariables false
set_option linter.unusedSimpArgs false

/-- what the reference's normal does with the kids' normal forms -/
inductive TailR (Ns:List Tm):ByteArray→Prop→Tm→Prop
 | mul {R:Prop} {N:Tm} {n:ByteArray} (hn:n=mulN∨n=invN∨n=oneN) (h:∀(w':World) (S:Nat→Prop) (va:Option Addr) (vc:Nat),TnW w' S va vc (appTm n Ns)→Calls Tryz.prog 69 #[.agg #[.int .i64 3,.string n,.int .i64 0,.slice va Ns.length vc]] w' (NorE w' R N)):TailR Ns n R N
 | exp {R:Prop} {A B N:Tm} (hN:Ns=[A,B]) (h:∀(w':World) (S:Nat→Prop) (a b:Option Addr) (ac bc:Nat),TnW w' S a ac A→TnW w' S b bc B→Calls Tryz.prog 70 #[.agg #[.int .i64 A.kind,.string A.name,.int .i64 A.sort,.slice a A.kids.length ac],.agg #[.int .i64 B.kind,.string B.name,.int .i64 B.sort,.slice b B.kids.length bc]] w' (NorE w' R N)):TailR Ns ⟨#[101,120,112]⟩ R N
theorem rnormal_node {w:World} {S:Nat→Prop} {a:Option Addr} {cap l:Nat} {n:ByteArray} {ks Ns:List Tm} {Pk:Nat→Prop} {R:Prop} {N:Tm} (hOK:OkR n l) (hl:ks.length=l) (hNl:Ns.length=l) (h8:l≤8) (hC:(∀i,i<l→Pk i)→TailR Ns n R N) (hT:TnW w S a cap (appTm n ks))
 (hK:∀(i:Nat) k nk,ks[i]?=some k→Ns[i]?=some nk→∀(w':World) (ka:Option Addr) (kc:Nat),TnW w' S ka kc k→Calls Tryz.prog 31 #[.agg #[.int .i64 k.kind,.string k.name,.int .i64 k.sort,.slice ka k.kids.length kc]] w' (NorE w' (Pk i) nk)) :
 Calls Tryz.prog 31 #[.agg #[.int .i64 3,.string n,.int .i64 0,.slice a l cap]] w (NorE w ((∀i,i<l→Pk i)∧R) N):=by
 obtain ⟨sy,hsy,hsy0,-,-⟩:=hOK
 have HKI:Hid (∀w':World,Calls Tryz.prog 66 #[.string n] w' fun e w''=>e=.returned (.int .i64 1)∧Ext w' w''):=Lib.hid (fun w'=>by have h:=rkind_any (w:=w') hsy;rw [hsy0] at h;exact h)
 obtain ⟨bx,w1,hbx,hw1,HB,hE1⟩:=box_new w (.cells #[.int .i64 3,.string n,.int .i64 0,.slice a l cap] 33)
 obtain ⟨rb,w2,hrb,hw2,HR,hE2⟩:=box_new w1 (.cells #[.int .i64 0,.string ⟨#[]⟩,.int .i64 0,.slice none 0 0] 33)
 have hrb1:rb=bx+1:=by rw [hrb,hw1,World.size_alloc,hbx]
 have hb2:=hs_ext hE2 HB.out
 obtain ⟨b0,b1,b2,b3⟩:=box4r hb2
 have HE2:=Lib.hid (hE1.trans hE2)
 have HRS:Hid (w.heap.size≤rb∧rb<w2.heap.size):=Lib.hid ⟨by rw [hrb1,hbx];omega,(Array.getElem?_eq_some_iff.1 HR.out).1⟩
 have HT:=Lib.hid (hT.ext (hE1.trans hE2))
 have hcm:=hT.cap
 have hcl2:l≤cap:=hl ▸ hT.len
 have hnm:n.size≤maxLen:=hT.name
 have HNM:=Lib.hid hnm
 have HB2:=Lib.hid hb2
 have HLL:=Lib.hid (And.intro hl hNl)
 have HKC:=Lib.hid hK
 have HCC:=Lib.hid hC
 unfold maxLen at hcm
 clear hE1 hE2 hb2 hT hK hC hl hNl hnm hsy hsy0
 go_enter Tryz.func31,Tryz.ntmps31
 go_upto_region 1 with fail
 rw [←hw1,←hbx,←hw2,←hrb1]
 clear hw1 hbx hw2 hrb1 hrb
 go_wp2_with fail
 clear b0 b1 b2 b3
 go_loopw [4,5,6,7] (fun rv kv _ _ wr=>∃(k:Nat) (va:Option Addr) (m vc:Nat),rv=.slice va m vc∧kv=.int .i64 k∧k≤l∧Hid (Ext w2 wr)∧Hid (OwnG elN wr w2.heap.size 33 (fun c=>w2.heap.size≤c∧c<wr.heap.size∧(Value.slice va m vc).ownBlock≠some c) (.slice va m vc) (Ns.take k))∧Hid (∀i,i<k→Pk i)) (fun _ kv _ _ _=>l-(intOf kv).toNat)
 case atStart=>exact ⟨0,_,_,_,rfl,rfl,by omega,Lib.hid (Ext.refl _),Lib.hid OwnG.nil,Lib.hid (fun i h=>by omega)⟩
 case round =>
  obtain ⟨k,va,m,vc,rfl,rfl,hk,HE,HOW,HPK⟩:=hrel
  obtain ⟨va2,vc2,hve,hvl,hvc⟩:=id HOW.out.slice
  cases hve
  obtain ⟨m,hm⟩:∃m,m=(Ns.take k).length:=⟨_,rfl⟩
  have HML:Hid (m=k):=Lib.hid (by rw [hm,List.length_take];have:=HLL.out.2;omega)
  rw [←hm] at HOW
  rw [←hm]
  clear hm hvl
  obtain ⟨b0,b1,b2,b3⟩:=box4r (hs_ext HE.out HB2.out)
  by_cases hlt:k<l
  · obtain ⟨x,hx⟩:∃x,ks[k]?=some x:=⟨_,List.getElem?_eq_getElem (by rw [HLL.out.1];exact hlt)⟩
    obtain ⟨nx,hnx⟩:∃x,Ns[k]?=some x:=⟨_,List.getElem?_eq_getElem (by rw [HLL.out.2];exact hlt)⟩
    obtain ⟨kb,ko,ka,kc,rfl,-,-,x0,x1,x2,x3,hTx⟩:=(HT.out.ext HE.out).kid hx
    have hki:(k:Int)<(l:Int):=by omega
    have hk0:(0:Int)≤(k:Int):=by omega
    have wk:IntKind.i64.wrap ((k:Int)+1)=((k+1:Nat):Int):=by rw [IntKind.wrap_i64];omega
    have HC:=Lib.hid (HKC.out k x nx hx hnx wr ka kc hTx)
    have HTK:Hid (Ns.take (k+1)=Ns.take k++[nx]):=Lib.hid (by rw [List.take_add_one,hnx];rfl)
    clear hx hnx hTx
    go_wp2_with fail
    refine HC.out.mono ?_
    rintro e w5 (⟨hP,v,rfl,hE5,na,nc,rfl,hN5⟩ | ⟨hP,rfl,hE5⟩)
    · have HPK2:Hid (∀i,i<k+1→Pk i):=Lib.hid (fun i hi=>by
       rcases Nat.lt_or_eq_of_le (Nat.le_of_lt_succ hi) with h | rfl
       · exact HPK.out i h
       · exact hP)
      obtain ⟨zb,w6,hzb,hw6,HZ,hE6⟩:=box_new w5 (.cells #[.int .i64 nx.kind,.string nx.name,.int .i64 nx.sort,.slice na nx.kids.length nc] 33)
      obtain ⟨z0,z1,z2,z3⟩:=box4r HZ.out
      have hr6:=hE5.trans hE6
      obtain ⟨lb,w7,hlb,hw7,HL,hE7⟩:=box_new w6 (.cells #[.int .i64 nx.kind,.string nx.name,.int .i64 nx.sort,.slice na nx.kids.length nc] 33)
      have hr7:=hr6.trans hE7
      have hs2:=HE.out.size
      have hN7:TnW w7 (fun c=>w2.heap.size≤c∧c<w7.heap.size∧(Value.slice va m vc).ownBlock≠some c) na nc nx:=(hN5.ext (hE6.trans hE7)).wide (fun c h1 h2=>⟨by omega,h2,fun e=>by have:=(HOW.out.lt c e).2;omega⟩)
      have HLS:Hid (LsE elN w7 (fun c=>w2.heap.size≤c∧c<w7.heap.size∧(Value.slice va m vc).ownBlock≠some c) (.slice (some ⟨lb,0,none⟩) 1 1) [nx]):=Lib.hid (tn_e HL.out hN7)
      have HO7:Hid (OwnG elN w7 w2.heap.size 33 (fun c=>w2.heap.size≤c∧c<w7.heap.size∧(Value.slice va m vc).ownBlock≠some c) (.slice va m vc) (Ns.take k)):=Lib.hid ((HOW.out.ext hr7).wide (fun c h _=>⟨h.1,Nat.lt_of_lt_of_le h.2.1 hr7.size,h.2.2⟩))
      have HE7:=Lib.hid (HE.out.trans hr7)
      have HSZ:Hid (w2.heap.size≤w7.heap.size):=Lib.hid (HE.out.trans hr7).size
      have hml:(Ns.take k).length≤1000000:=by rw [List.length_take];omega
      clear hE5 hE6 hE7 hr6 hr7 hN5 hN7 hP hs2 b0 b1 b2 b3
      go_upto_region 8 with fail
      rw [←hw6,←hzb]
      clear hw6 hzb x0 x1 x2 x3
      go_wp2_with (
       at_builtin
       rw [←hw7,←hlb]
       refine wpList_appG (E:=elN) (T:=33) rfl 31 (.tmp 35) (.tmp 37) rfl rfl rfl Tryz.underlying31 infTm rfl (by decide) (by decide) HO7.out HSZ.out (fun c h=>h.2.2) hml (M:=[nx]) (by simp) HLS.out ?_
       intro v8 w8 o8 g8 k8
       obtain ⟨va8,vc8,hv8,-,-⟩:=id o8.slice
       obtain ⟨m8,hm8⟩:∃m8,m8=(Ns.take k++[nx]).length:=⟨_,rfl⟩
       rw [←hm8] at hv8
       rw [hv8] at o8 k8 ⊢
       have HE8:=Lib.hid (Ext.grown HE7.out g8 (fun c hc=>(HO7.out.lt c hc).1))
       have HO9:Hid (OwnG elN w8 w2.heap.size 33 (fun c=>w2.heap.size≤c∧c<w8.heap.size∧(Value.slice va8 m8 vc8).ownBlock≠some c) (.slice va8 m8 vc8) (Ns.take (k+1))):=Lib.hid (by
        rw [HTK.out]
        exact o8.wide (fun c h hc=>⟨h.1,hc,fun e=>by
         rcases k8 with k | k
         · rw [k] at e;exact h.2.2 e
         · rw [k] at e;cases e;exact absurd h.2.1 (Nat.lt_irrefl _)⟩))
       clear o8 g8 k8 hv8 hm8 hw7 hlb)
      go_roundw
      case rel=>exact ⟨k+1,_,_,_,rfl,by go_num,by omega,HE8,HO9,HPK2⟩
      case measure=>simp [intOf];omega
    · have HNP:Hid (¬((∀i,i<l→Pk i)∧R)):=Lib.hid (fun h=>hP (h.1 k hlt))
      obtain ⟨zb,w6,hzb,hw6,HZ,hE6⟩:=box_new w5 (.cells #[.int .i64 0,.string ⟨#[]⟩,.int .i64 0,.slice none 0 0] 33)
      have HR5:=Lib.hid (hs_ext (HE.out.trans (hE5.trans hE6)) HR.out)
      have HE5:=Lib.hid (HE2.out.trans (HE.out.trans (hE5.trans hE6)))
      clear hE5 hE6 hP
      go_upto_region 8 with fail
      rw [←hw6,←hzb]
      clear hw6 hzb b0 b1 b2 b3
      go_wp2_with (refine wpList_storeT rfl (.tmp 2) (.tmp 33) rfl (g:=rb) rfl (k:=0) (s:=0) (n:=⟨#[]⟩) (ka:=none) (kl:=0) (kc:=0) rfl HR5.out rfl ?_)
      intro w9 h9 hoth hE9 hs9
      go_wp2_with fail
      exact ret_term2 (g:=rb) rfl rfl h9 rfl (.inr ⟨HNP.out,rfl,hE9 w HE5.out HRS.out.1⟩)
  · have hki:¬(k:Int)<(l:Int):=by omega
    have HK2:Hid (Ns.take k=Ns):=Lib.hid (List.take_of_length_le (by have:=HLL.out.2;omega))
    have HM2:Hid (m=l):=Lib.hid (by have:=HML.out;omega)
    have hm2:=HM2.out
    subst hm2
    have HPA:Hid (∀i,i<m→Pk i):=Lib.hid (fun i hi=>HPK.out i (by omega))
    have HRz:=Lib.hid (hs_ext HE.out HR.out)
    have HLZ:Hid (LsG elN wr (fun c=>w2.heap.size≤c) (.slice va m vc) Ns):=Lib.hid (by
     have h:=HOW.out
     rw [HK2.out] at h
     exact h.ls (fun c h _=>h.1) (fun g _ h1 _=>h1))
    have HEz:=Lib.hid (HE2.out.trans HE.out)
    have HAP:Hid (Calls Tryz.prog 10 #[.string n,.slice va m vc] wr fun e w'=>∃a' c',e=.returned (.agg #[.int .i64 3,.string n,.int .i64 0,.slice a' m c'])∧Ext wr w'∧TnW w' (fun _=>True) a' c' (appTm n Ns)):=Lib.hid (by
     have h:=HLZ.out
     rw [←HLL.out.2] at h ⊢
     refine (rappN HNM.out (by have:=HLL.out.2;omega) h).mono ?_
     rintro e w' ⟨u,rfl,hE,a',c',hu,hT⟩
     exact ⟨a',c',by rw [hu];rfl,hE,hT.wide (fun _ _ _=>trivial)⟩)
    have hcc:=HCC.out HPA.out
    clear HKC HT HCC
    go_wp2_with fail
    refine HAP.out.mono ?_
    rintro e w5 ⟨oa,oc,rfl,hE5,hT5⟩
    obtain ⟨ob,w6,hob,hw6,HOB,hE6⟩:=box_new w5 (.cells #[.int .i64 3,.string n,.int .i64 0,.slice oa m oc] 33)
    have hr6:=hE5.trans hE6
    obtain ⟨b0,b1,b2,b3⟩:=cs_e4 hr6 ⟨b0,b1,b2,b3⟩
    have HT6:=Lib.hid (hT5.ext hE6)
    have HX6:=Lib.hid hr6
    clear hE5 hE6 hT5 hr6
    go_upto_region 12 with fail
    rw [←hw6,←hob]
    clear hw6 hob
    go_wp2_with fail
    refine (HKI.out _).mono ?_
    rintro e w7 ⟨rfl,hE7⟩
    obtain ⟨b0,b1,b2,b3⟩:=cs_e4 hE7 ⟨b0,b1,b2,b3⟩
    have HX7:=Lib.hid (HX6.out.trans hE7)
    have HT7:=Lib.hid (HT6.out.ext hE7)
    have HOB7:=Lib.hid (hs_ext hE7 HOB.out)
    clear hE7
    have HR7:=Lib.hid (hs_ext HX7.out HRz.out)
    have HE7:=Lib.hid (HEz.out.trans HX7.out)
    cases hcc with
    | mul hn h =>
      have HD:=Lib.hid (h w7 _ oa oc HT7.out)
      rw [HLL.out.2] at HD
      obtain ⟨o0,o1,o2,o3⟩:=box4r HOB7.out
      clear h
      rcases hn with hn | hn | hn
      · have hn2:n=⟨#[109,117,108]⟩:=hn
        clear hn
        subst hn2
        go_wp2_with fail
        refine HD.out.mono ?_
        intro e w9 h9
        obtain ⟨k9,n9,s9,a9,l9,c9,er,rfl,hE9,hC9⟩:=h9.shape
        have HRB9:=Lib.hid (hs_ext hE9 HR7.out)
        have HE9:=Lib.hid (HE7.out.trans hE9)
        have HC9:=Lib.hid hC9
        clear h9 hE9 hC9
        go_wp2_with (refine wpList_storeT rfl (.tmp 2) (.tmp 78) rfl (g:=rb) rfl (k:=k9) (s:=s9) (n:=n9) (ka:=a9) (kl:=l9) (kc:=c9) rfl HRB9.out rfl ?_)
        intro wz hz hoth hEz2 hsz
        go_wp2_with fail
        refine ret_term2 (g:=rb) rfl rfl hz rfl ?_
        rcases HC9.out with ⟨hP,rfl,rfl,rfl,rfl,rfl,hT⟩ | ⟨hP,rfl,rfl,rfl,rfl,rfl,rfl,rfl⟩
        · exact .inl ⟨⟨HPA.out,hP⟩,_,rfl,hEz2 w HE9.out HRS.out.1,a9,c9,rfl,hT.keep (fun c hc _=>hoth c (by have:=(Array.getElem?_eq_some_iff.1 HR7.out).1;omega)) (fun c hc _=>by have:=HE7.out.size;omega)⟩
        · exact .inr ⟨fun h=>hP h.2,rfl,hEz2 w HE9.out HRS.out.1⟩
      · have hn2:n=⟨#[105,110,118]⟩:=hn
        clear hn
        subst hn2
        go_wp2_with fail
        refine HD.out.mono ?_
        intro e w9 h9
        obtain ⟨k9,n9,s9,a9,l9,c9,er,rfl,hE9,hC9⟩:=h9.shape
        have HRB9:=Lib.hid (hs_ext hE9 HR7.out)
        have HE9:=Lib.hid (HE7.out.trans hE9)
        have HC9:=Lib.hid hC9
        clear h9 hE9 hC9
        go_wp2_with (refine wpList_storeT rfl (.tmp 2) (.tmp 78) rfl (g:=rb) rfl (k:=k9) (s:=s9) (n:=n9) (ka:=a9) (kl:=l9) (kc:=c9) rfl HRB9.out rfl ?_)
        intro wz hz hoth hEz2 hsz
        go_wp2_with fail
        refine ret_term2 (g:=rb) rfl rfl hz rfl ?_
        rcases HC9.out with ⟨hP,rfl,rfl,rfl,rfl,rfl,hT⟩ | ⟨hP,rfl,rfl,rfl,rfl,rfl,rfl,rfl⟩
        · exact .inl ⟨⟨HPA.out,hP⟩,_,rfl,hEz2 w HE9.out HRS.out.1,a9,c9,rfl,hT.keep (fun c hc _=>hoth c (by have:=(Array.getElem?_eq_some_iff.1 HR7.out).1;omega)) (fun c hc _=>by have:=HE7.out.size;omega)⟩
        · exact .inr ⟨fun h=>hP h.2,rfl,hEz2 w HE9.out HRS.out.1⟩
      · have hn2:n=⟨#[111,110,101]⟩:=hn
        clear hn
        subst hn2
        go_wp2_with fail
        refine HD.out.mono ?_
        intro e w9 h9
        obtain ⟨k9,n9,s9,a9,l9,c9,er,rfl,hE9,hC9⟩:=h9.shape
        have HRB9:=Lib.hid (hs_ext hE9 HR7.out)
        have HE9:=Lib.hid (HE7.out.trans hE9)
        have HC9:=Lib.hid hC9
        clear h9 hE9 hC9
        go_wp2_with (refine wpList_storeT rfl (.tmp 2) (.tmp 78) rfl (g:=rb) rfl (k:=k9) (s:=s9) (n:=n9) (ka:=a9) (kl:=l9) (kc:=c9) rfl HRB9.out rfl ?_)
        intro wz hz hoth hEz2 hsz
        go_wp2_with fail
        refine ret_term2 (g:=rb) rfl rfl hz rfl ?_
        rcases HC9.out with ⟨hP,rfl,rfl,rfl,rfl,rfl,hT⟩ | ⟨hP,rfl,rfl,rfl,rfl,rfl,rfl,rfl⟩
        · exact .inl ⟨⟨HPA.out,hP⟩,_,rfl,hEz2 w HE9.out HRS.out.1,a9,c9,rfl,hT.keep (fun c hc _=>hoth c (by have:=(Array.getElem?_eq_some_iff.1 HR7.out).1;omega)) (fun c hc _=>by have:=HE7.out.size;omega)⟩
        · exact .inr ⟨fun h=>hP h.2,rfl,hEz2 w HE9.out HRS.out.1⟩
    | @exp _ A B _ hN h =>
      have hm2:m=2:=by have:=HLL.out.2;rw [hN] at this;exact this.symm
      have hTA:TnW w7 (fun c=>w2.heap.size≤c) va vc (appTm (⟨#[101,120,112]⟩:ByteArray) Ns):=(tn_app HNM.out (by have h:=HLZ.out;rw [←HLL.out.2] at h;exact h)).ext HX7.out
      have HVC:Hid (2≤vc):=Lib.hid (by have h2:=hTA.len;have h3:(appTm (⟨#[101,120,112]⟩:ByteArray) Ns).kids.length=m:=HLL.out.2;rw [h3] at h2;omega)
      rw [hN] at hTA
      subst hm2
      obtain ⟨ab,ao,aa,aac,rfl,-,hab,k0,k1,k2,k3,hA⟩:=hTA.kid (i:=0) (k:=A) rfl
      obtain ⟨ab',ao',ba,bbc,hae,-,-,k4,k5,k6,k7,hB⟩:=hTA.kid (i:=1) (k:=B) rfl
      cases hae
      have k0:w7.cell? ⟨ab,ao,none⟩=some (.int .i64 A.kind):=k0
      have k1:w7.cell? ⟨ab,ao+1,none⟩=some (.string A.name):=k1
      have k2:w7.cell? ⟨ab,ao+2,none⟩=some (.int .i64 A.sort):=k2
      have k3:w7.cell? ⟨ab,ao+3,none⟩=some (.slice aa A.kids.length aac):=k3
      have k4:w7.cell? ⟨ab,ao+4,none⟩=some (.int .i64 B.kind):=k4
      have k5:w7.cell? ⟨ab,ao+5,none⟩=some (.string B.name):=k5
      have k6:w7.cell? ⟨ab,ao+6,none⟩=some (.int .i64 B.sort):=k6
      have k7:w7.cell? ⟨ab,ao+7,none⟩=some (.slice ba B.kids.length bbc):=k7
      have HRA:=Lib.hid (fun (w':World) (hE:Ext w7 w')=>h w' _ aa ba aac bbc (hA.ext hE) (hB.ext hE))
      clear h hA hB hTA hN hab
      have hvc2:2≤vc:=HVC.out
      have hEd:Ext w7 w7.drew:=Ext.drew w7
      have HED:=Lib.hid (HE7.out.trans hEd)
      have HRD:=Lib.hid (hs_ext hEd HR7.out)
      have hwd:w7.drew.heap.size=w7.heap.size:=rfl
      obtain ⟨b1,k0,k1,k2,k3,k4,k5,k6,k7⟩:=cs_e9 hEd ⟨b1,k0,k1,k2,k3,k4,k5,k6,k7⟩
      clear hEd
      go_upto_region 20 with fail
      go_region_law (
       go_simp
       go_at_call 70
       refine (HRA.out _ (by repeat (first | exact Ext.refl _ | exact Ext.alloc _ _ | apply Ext.then_dr | apply Ext.then_drN | apply Ext.then_drN2 | (refine Ext.then_al ?_ _)))).mono ?_
       intro e w9 h9
       obtain ⟨k9,n9,s9,a9,l9,c9,er,rfl,hE9,hC9⟩:=h9.shape
       have hE9w:Ext w7 w9:=Ext.trans (by repeat (first | exact Ext.refl _ | exact Ext.alloc _ _ | apply Ext.then_dr | apply Ext.then_drN | apply Ext.then_drN2 | (refine Ext.then_al ?_ _))) hE9
       have HE9:=Lib.hid (HE7.out.trans hE9w)
       have HRB9:=Lib.hid (hs_ext hE9w HR7.out)
       have HC9:Hid ((((∀i,i<2→Pk i)∧R)∧er=0∧k9=N.kind∧n9=N.name∧s9=N.sort∧l9=N.kids.length∧TnW w9 (fun c=>w7.heap.size≤c) a9 c9 N)∨(¬((∀i,i<2→Pk i)∧R)∧er=3∧k9=0∧n9=⟨#[]⟩∧s9=0∧a9=none∧l9=0∧c9=0)):=Lib.hid (by
        rcases hC9 with ⟨h1,h2⟩ | ⟨h1,h2⟩
        · exact .inl ⟨⟨HPA.out,h1⟩,h2⟩
        · exact .inr ⟨fun h=>h1 h.2,h2⟩)
       have r0:w9.cell? ⟨rb,0,none⟩=some (.int .i64 0):=by rw [cellc HRB9.out];rfl
       have r1:w9.cell? ⟨rb,1,none⟩=some (.string ⟨#[]⟩):=by rw [cellc HRB9.out];rfl
       have r2:w9.cell? ⟨rb,2,none⟩=some (.int .i64 0):=by rw [cellc HRB9.out];rfl
       have r3:w9.cell? ⟨rb,3,none⟩=some (.slice none 0 0):=by rw [cellc HRB9.out];rfl
       have f0:w9.frozen? ⟨rb,0,none⟩=false:=frozenc HRB9.out
       have f1:w9.frozen? ⟨rb,1,none⟩=false:=frozenc HRB9.out
       have f2:w9.frozen? ⟨rb,2,none⟩=false:=frozenc HRB9.out
       have f3:w9.frozen? ⟨rb,3,none⟩=false:=frozenc HRB9.out
       clear hE9 hE9w hC9 h9)
      all_goals
       simp only [List.getElem_toArray,List.getElem_cons_succ,List.getElem_cons_zero,Act.put,List.setIfInBounds_toArray,List.set_cons_succ,List.set_cons_zero]
       go_wp2_with fail
       refine ret_term2 (g:=rb) rfl rfl (set4s_box _ _ _ _ HRB9.out).1 rfl ?_
       have hne:∀c,c≠rb→(((((w9.setCell ⟨rb,0,none⟩ (.int .i64 k9)).setCell ⟨rb,1,none⟩ (.string n9)).setCell ⟨rb,2,none⟩ (.int .i64 s9)).setCell ⟨rb,3,none⟩ (.slice a9 l9 c9)).heap[c]?:Option Obj)=w9.heap[c]?:=fun c hc=>by
        rw [heap_setCell_other _ _ _ _ hc,heap_setCell_other _ _ _ _ hc,heap_setCell_other _ _ _ _ hc,heap_setCell_other _ _ _ _ hc]
       have hE9:=(set4s_box (.int .i64 k9) (.string n9) (.int .i64 s9) (.slice a9 l9 c9) HRB9.out).2 _ HE9.out HRS.out.1
       rcases HC9.out with ⟨hP,rfl,rfl,rfl,rfl,rfl,hT⟩ | ⟨hP,rfl,rfl,rfl,rfl,rfl,rfl,rfl⟩
       · exact .inl ⟨hP,_,rfl,hE9,a9,c9,rfl,hT.keep (fun c hc _=>hne c (by have:=HRS.out;have:=HE.out.size;have:=HX7.out.size;omega)) (fun c hc _=>by have:=HE7.out.size;omega)⟩
       · exact .inr ⟨hP,rfl,hE9⟩
end Go.Proofs.YtclijngnoepbiaaGreat
