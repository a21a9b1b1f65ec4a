/- Contracts: sealringref09.Is and power. -/
import Derived.Test.YtclijngnoepbiaaGreatPw1
set_option maxRecDepth 100000
set_option maxHeartbeats 8000000
namespace Go.Proofs.YtclijngnoepbiaaGreat
open Go Go.RowKit
set_option linter.unusedVariables false
set_option linter.unusedSimpArgs false

theorem ris_any {w:World} {k s:Int} {n m:ByteArray} {v:Value} (hk:I64 k):Calls Tryz.prog 101 #[.agg #[.int .i64 k,.string n,.int .i64 s,v],.string m] w fun e w'=>e=.returned (.bool (decide (k=3∧n=m)))∧Ext w w':=by
 obtain ⟨bx,w1,hbx,hw1,HB,hE1⟩:=box_new w (.cells #[.int .i64 k,.string n,.int .i64 s,v] 33)
 obtain ⟨b0,b1,b2,b3⟩:=box4r HB.out
 have HE1:=Lib.hid hE1
 have HTL:=Lib.hid (tlN_eq n m)
 have hk:=hk
 clear hE1
 by_cases h3:k=3
 · subst h3
   go_enter Tryz.func101,Tryz.ntmps101
   go_upto_region 1 with fail
   rw [←hw1,←hbx]
   clear hw1 hbx
   go_wp2_with fail
   go_ret
   exact ⟨by rw [HTL.out];simp,HE1.out⟩
 · have h3b:(k==(3:Int))=false:=beq_eq_false_iff_ne.2 h3
   go_enter Tryz.func101,Tryz.ntmps101
   go_upto_region 1 with fail
   rw [←hw1,←hbx]
   clear hw1 hbx
   go_wp2_with fail
   go_ret
   exact ⟨by simp [h3],HE1.out⟩
theorem rpowerT_any {w:World} {S S':Nat→Prop} {a b:Option Addr} {ac bc:Nat} {Q P:List Pw} (gQ:Good Q) (gP:Good P) (q8:(litsP Q).length≤8) (p8:(litsP P).length≤8) (hB:TnW w S a ac (nfT Q)) (hX:TnW w S' b bc (expT (litsP P))) :
 Calls Tryz.prog 70 #[.agg #[.int .i64 (nfT Q).kind,.string (nfT Q).name,.int .i64 (nfT Q).sort,.slice a (nfT Q).kids.length ac],.agg #[.int .i64 (expT (litsP P)).kind,.string (expT (litsP P)).name,.int .i64 (expT (litsP P)).sort,.slice b (expT (litsP P)).kids.length bc]] w (NorE w ((litsP (mulP Q P)).length≤8) (nfT (mulP Q P))):=by
 obtain ⟨X,hXe⟩:∃X,X=expT (litsP P):=⟨_,rfl⟩
 obtain ⟨M,hM⟩:∃M,M=mulP Q P:=⟨_,rfl⟩
 have HOF:Hid (∀w',Ext w w'→Calls Tryz.prog 107 #[.agg #[.int .i64 X.kind,.string X.name,.int .i64 X.sort,.slice b X.kids.length bc]] w' fun e w''=>∃a c,e=.returned (.tuple #[.slice a P.length c,.int .i64 0])∧Ext w' w''∧LsG elPw w'' (fun _=>True) (.slice a P.length c) P):=Lib.hid (fun w' hE=>by
  have h:=ROf_any (lits_six gP) p8 (hX.ext hE)
  rw [addLs_lits gP,←hXe] at h
  exact h)
 have HMG:=mul_rng8 gQ gP q8 p8
 rw [←hM] at HMG
 have HMG:=Lib.hid HMG
 have HPR:=Lib.hid (lits_rng p8)
 have HQR:=Lib.hid (lits_rng q8)
 have hxl:=hX.len
 have hxc:=hX.cap
 rw [←hXe] at hxl
 unfold maxLen at hxc
 have HTE:Hid (∀(w':World) (S:Nat→Prop) (ma:Option Addr) (mc:Nat),LsG elPw w' S (.slice ma M.length mc) M→Calls Tryz.prog 108 #[.slice ma M.length mc] w' fun e w''=>TerE w' M e w''):=Lib.hid (fun w' S ma mc h=>RTermP_any h HMG.out.1 HMG.out.2)
 rw [←hXe,←hM]
 have HGP:=Lib.hid gP
 have HGQ:=Lib.hid gQ
 have HQ8:=Lib.hid q8
 have HX:=Lib.hid hX
 clear hX
 by_cases hQ:Q=[]
 · have hnf:nfT Q=gT:=by unfold nfT;rw [if_pos hQ]
   have HMP:Hid (P=M):=Lib.hid (by rw [hM,hQ,mul_nil HGP.out])
   rw [hnf] at hB ⊢
   have han:=hB.nil rfl
   obtain ⟨rfl,rfl⟩:=han
   show Calls Tryz.prog 70 #[.agg #[.int .i64 2,.string ⟨#[103]⟩,.int .i64 4,.slice none 0 0],.agg #[.int .i64 X.kind,.string X.name,.int .i64 X.sort,.slice b X.kids.length bc]] w _
   obtain ⟨bb,w1,hbb,hw1,HBB,hE1⟩:=box_new w (.cells #[.int .i64 2,.string ⟨#[103]⟩,.int .i64 4,.slice none 0 0] 33)
   obtain ⟨eb,w2,heb,hw2,HEB,hE2⟩:=box_new w1 (.cells #[.int .i64 X.kind,.string X.name,.int .i64 X.sort,.slice b X.kids.length bc] 33)
   obtain ⟨rb,w3,hrb,hw3,HRB,hE3⟩:=box_new w2 (.cells #[.int .i64 0,.string ⟨#[]⟩,.int .i64 0,.slice none 0 0] 33)
   have heb1:eb=bb+1:=by rw [heb,hw1,World.size_alloc,hbb]
   have hrb1:rb=eb+1:=by rw [hrb,hw2,World.size_alloc,←heb]
   have HB3:=Lib.hid (hs_ext hE3 (hs_ext hE2 HBB.out))
   have HX3:=Lib.hid (hs_ext hE3 HEB.out)
   have HE3:=Lib.hid (hE1.trans (hE2.trans hE3))
   have HRS:Hid (w.heap.size≤bb∧w.heap.size≤eb∧w.heap.size≤rb∧bb<eb∧eb<rb):=Lib.hid ⟨by omega,by omega,by omega,by omega,by omega⟩
   obtain ⟨x0,x1,x2,x3⟩:=box4r HX3.out
   have HO:=Lib.hid (HOF.out _ HE3.out)
   clear hE1 hE2 hE3 hnf hB hM hXe
   go_enter Tryz.func70,Tryz.ntmps70
   go_upto_region 1 with fail
   rw [←hw1,←hbb,←hw2,←heb1,←hw3,←hrb1]
   clear hw1 hbb hw2 heb heb1 hw3 hrb hrb1
   go_wp2_with fail
   refine HO.out.mono ?_
   rintro e w4 ⟨va,vc,rfl,hE4,hO4⟩
   have HL4:Hid (LsG elPw w4 (fun _=>True) (.slice va M.length vc) M):=Lib.hid (by rw [←HMP.out];exact hO4)
   have HPL:Hid (P.length=M.length):=Lib.hid (by rw [HMP.out])
   rw [HPL.out]
   have HE4:=Lib.hid (HE3.out.trans hE4)
   have HBQ:=Lib.hid (hs_ext hE4 HB3.out)
   have HXQ:=Lib.hid (hs_ext hE4 HX3.out)
   have HRQ:=Lib.hid (hs_ext hE4 HRB.out)
   obtain ⟨g0,g1,g2,g3⟩:=box4r HBQ.out
   have HIS:Hid (Calls Tryz.prog 101 #[.agg #[.int .i64 2,.string ⟨#[103]⟩,.int .i64 4,.slice none 0 0],.string ⟨#[101,120,112]⟩] w4 fun e w'=>e=.returned (.bool false)∧Ext w4 w'):=Lib.hid (ris_any (w:=w4) (by unfold I64;omega))
   clear hE4 hO4 x0 x1 x2 x3
   go_wp2_with fail
   refine HIS.out.mono ?_
   rintro e w5 ⟨rfl,hE5⟩
   have HEQ:=Lib.hid (HE4.out.trans hE5)
   have HBQ:=Lib.hid (hs_ext hE5 HBQ.out)
   have HXQ:=Lib.hid (hs_ext hE5 HXQ.out)
   have HRQ:=Lib.hid (hs_ext hE5 HRQ.out)
   have HLQ:=Lib.hid (HL4.out.ext hE5)
   clear hE5 g0 g1 g2 g3
   have hm6:M.length≤6:=HMG.out.1.len
   by_cases hm0:M.length=0
   · have HM0:Hid (M=[]):=Lib.hid (List.length_eq_zero_iff.1 hm0)
     have hmz:(M.length:Int)=0:=by omega
     have hmb:((M.length:Int)==(0:Int))=true:=beq_iff_eq.2 hmz
     obtain ⟨g0,g1,g2,g3⟩:=box4r HBQ.out
     go_wp2_with (refine wpList_storeT rfl (.tmp 4) (.tmp 51) rfl (g:=rb) rfl (k:=2) (s:=4) (n:=⟨#[103]⟩) (ka:=none) (kl:=0) (kc:=0) rfl HRQ.out rfl ?_)
     intro w9 h9 hoth hE9 hs9
     go_wp2_with fail
     exact ret_term2 (g:=rb) rfl rfl h9 rfl (.inl ⟨by rw [HM0.out];exact Nat.zero_le _,_,rfl,hE9 w HEQ.out HRS.out.2.2.1,by rw [HM0.out];exact ⟨none,0,rfl,g_tn⟩⟩)
   · have hmz:¬(M.length:Int)=0:=by omega
     have hmb:((M.length:Int)==(0:Int))=false:=beq_eq_false_iff_ne.2 hmz
     have HT:=Lib.hid (HTE.out _ _ _ _ HLQ.out)
     have HMN:Hid (M≠[]):=Lib.hid (fun e=>hm0 (by rw [e];rfl))
     go_wp2_with fail
     refine HT.out.mono ?_
     rintro e w8 (⟨hl8,v,rfl,hE8,na,nc,rfl,hN8⟩ | ⟨hl8,rfl,hE8⟩)
     · obtain ⟨N,hN⟩:∃N,N=expT (litsP M):=⟨_,rfl⟩
       rw [←hN] at hN8 ⊢
       have HNE:=Lib.hid hN
       have HEB8:=Lib.hid (hs_ext hE8 HXQ.out)
       have HL8:=Lib.hid hl8
       have HE8:=Lib.hid hE8
       have HN8:=Lib.hid hN8
       clear hN hl8 hE8 hN8
       obtain ⟨xb,w9,hxb,hw9,HXB,hE9⟩:=box_new w8 (.cells #[.int .i64 N.kind,.string N.name,.int .i64 N.sort,.slice na N.kids.length nc] 33)
       have HE9:=Lib.hid ((HEQ.out.trans HE8.out).trans hE9)
       have HBB9:=Lib.hid (hs_ext (HE8.out.trans hE9) HBQ.out)
       have HRB9:=Lib.hid (hs_ext (HE8.out.trans hE9) HRQ.out)
       have HN9:Hid (TnW w9 (fun c=>w.heap.size≤c∧c≠rb) na nc N):=Lib.hid ((HN8.out.ext hE9).wide (fun c hc _=>⟨Nat.le_trans HEQ.out.size hc,by have:=(Array.getElem?_eq_some_iff.1 HRQ.out).1;omega⟩))
       have HEB9:=Lib.hid HXB.out
       clear hE9
       go_upto_region 15 with fail
       rw [←hw9,←hxb]
       clear hw9 hxb
       obtain ⟨g0,g1,g2,g3⟩:=box4r HBB9.out
       obtain ⟨n0,n1,n2,n3⟩:=box4r HEB9.out
       obtain ⟨kb,w10,hkb,hw10,HKB,hE10⟩:=box_new w9 (.cells #[.int .i64 2,.string ⟨#[103]⟩,.int .i64 4,.slice none 0 0,.int .i64 N.kind,.string N.name,.int .i64 N.sort,.slice na N.kids.length nc] 33)
       have HNS:Hid (TnW w10 (fun c=>w.heap.size≤c∧c≠rb) na nc N):=Lib.hid (HN9.out.ext hE10)
       have HKS:Hid (w.heap.size≤kb∧kb≠rb):=Lib.hid ⟨by rw [hkb];exact HE9.out.size,by rw [hkb];have:=(Array.getElem?_eq_some_iff.1 HRB9.out).1;omega⟩
       have HAP:Hid (Calls Tryz.prog 10 #[.string ⟨#[101,120,112]⟩,.slice (some ⟨kb,0,none⟩) 2 2] w10 fun e w'=>∃a' c',e=.returned (.agg #[.int .i64 3,.string ⟨#[101,120,112]⟩,.int .i64 0,.slice a' 2 c'])∧Ext w10 w'∧TnW w' (fun c=>w.heap.size≤c∧c≠rb) a' c' (appTm expN [gT,N])):=Lib.hid (by
        have h:=rappN (w:=w10) (S:=fun c=>w.heap.size≤c∧c≠rb) (n:=expN) (a:=some ⟨kb,0,none⟩) (cap:=2) (L:=[gT,N]) (by show 3≤maxLen;unfold maxLen;omega) (by simp) (cells_lsG (P:=[(gT,encE ⟨gT,none,0⟩),(N,encE ⟨N,na,nc⟩)]) HKB.out rfl rfl rfl (by simp [maxLen]) HKS.out (by
         intro p hp
         rcases List.mem_cons.1 hp with rfl | hp
         · exact ⟨_,_,rfl,g_tn⟩
         · rw [List.mem_singleton.1 hp];exact ⟨_,_,rfl,HNS.out⟩))
        refine h.mono ?_
        rintro e w' ⟨u,rfl,hE,a',c',hu,hT⟩
        have hs10:=hE10.size
        have hs9:=HE9.out.size
        have hr9:=(Array.getElem?_eq_some_iff.1 HRB9.out).1
        exact ⟨a',c',by rw [hu];rfl,hE,hT.wide (fun c hc _=>by
         rcases hc with h | h
         · exact h
         · exact ⟨by omega,by omega⟩)⟩)
       have HE10:=Lib.hid (HE9.out.trans hE10)
       have HRB10:=Lib.hid (hs_ext hE10 HRB9.out)
       clear hE10
       go_wp2_with fail
       rw [←hw10,←hkb]
       clear hw10 hkb
       refine HAP.out.mono ?_
       rintro e w11 ⟨pa,pc,rfl,hE11,hT11⟩
       have HRB11:=Lib.hid (hs_ext hE11 HRB10.out)
       have HE11:=Lib.hid (HE10.out.trans hE11)
       have HT11:=Lib.hid hT11
       clear hE11 hT11
       go_wp2_with (refine wpList_storeT rfl (.tmp 4) (.tmp 64) rfl (g:=rb) rfl (k:=3) (s:=0) (n:=⟨#[101,120,112]⟩) (ka:=pa) (kl:=2) (kc:=pc) rfl HRB11.out rfl ?_)
       intro w12 h12 hoth hE12 hs12
       go_wp2_with fail
       exact ret_term2 (g:=rb) rfl rfl h12 rfl (.inl ⟨HL8.out,_,rfl,hE12 w HE11.out HRS.out.2.2.1,by
        unfold nfT
        rw [if_neg HMN.out,←HNE.out]
        exact ⟨pa,pc,rfl,HT11.out.keep (fun c hc _=>hoth c hc.2) (fun c hc _=>hc.1)⟩⟩)
     · have HEB8:=Lib.hid (hs_ext hE8 HXQ.out)
       have HL8:=Lib.hid hl8
       have HE8:=Lib.hid hE8
       clear hl8 hE8
       obtain ⟨xb,w9,hxb,hw9,HXB,hE9⟩:=box_new w8 (.cells #[.int .i64 0,.string ⟨#[]⟩,.int .i64 0,.slice none 0 0] 33)
       have HE9:=Lib.hid ((HEQ.out.trans HE8.out).trans hE9)
       have HRB9:=Lib.hid (hs_ext (HE8.out.trans hE9) HRQ.out)
       clear hE9
       go_upto_region 15 with fail
       rw [←hw9,←hxb]
       clear hw9 hxb
       go_wp2_with (refine wpList_storeT rfl (.tmp 4) (.tmp 59) rfl (g:=rb) rfl (k:=0) (s:=0) (n:=⟨#[]⟩) (ka:=none) (kl:=0) (kc:=0) rfl HRB9.out rfl ?_)
       intro w12 h12 hoth hE12 hs12
       go_wp2_with fail
       exact ret_term2 (g:=rb) rfl rfl h12 rfl (.inr ⟨by have:=HL8.out;omega,rfl,hE12 w HE9.out HRS.out.2.2.1⟩)
 · obtain ⟨Y,hYe⟩:∃Y,Y=expT (litsP Q):=⟨_,rfl⟩
   have hnf:nfT Q=appTm expN [gT,Y]:=by unfold nfT;rw [if_neg hQ,←hYe]
   rw [hnf] at hB ⊢
   show Calls Tryz.prog 70 #[.agg #[.int .i64 3,.string ⟨#[101,120,112]⟩,.int .i64 0,.slice a 2 ac],.agg #[.int .i64 X.kind,.string X.name,.int .i64 X.sort,.slice b X.kids.length bc]] w _
   have hbc:=hB.cap
   have hb2:2≤ac:=hB.len
   unfold maxLen at hbc
   obtain ⟨ab,ao,ya,yc,rfl,-,hab,k4,k5,k6,k7,hY⟩:=hB.kid (i:=1) (k:=Y) rfl
   obtain ⟨ab',ao',ga,gc,hae,-,-,k0,k1,k2,k3,hG⟩:=hB.kid (i:=0) (k:=gT) rfl
   cases hae
   have han:=hG.nil rfl
   obtain ⟨rfl,rfl⟩:=han
   have k0:w.cell? ⟨ab,ao,none⟩=some (.int .i64 2):=k0
   have k1:w.cell? ⟨ab,ao+1,none⟩=some (.string ⟨#[103]⟩):=k1
   have k2:w.cell? ⟨ab,ao+2,none⟩=some (.int .i64 4):=k2
   have k3:w.cell? ⟨ab,ao+3,none⟩=some (.slice none 0 0):=k3
   have k4:w.cell? ⟨ab,ao+4,none⟩=some (.int .i64 Y.kind):=k4
   have k5:w.cell? ⟨ab,ao+5,none⟩=some (.string Y.name):=k5
   have k6:w.cell? ⟨ab,ao+6,none⟩=some (.int .i64 Y.sort):=k6
   have k7:w.cell? ⟨ab,ao+7,none⟩=some (.slice ya Y.kids.length yc):=k7
   have HK:Hid (∀w',Ext w w'→w'.cell? ⟨ab,ao,none⟩=some (.int .i64 2)∧w'.cell? ⟨ab,ao+1,none⟩=some (.string ⟨#[103]⟩)∧w'.cell? ⟨ab,ao+2,none⟩=some (.int .i64 4)∧w'.cell? ⟨ab,ao+3,none⟩=some (.slice none 0 0)):=Lib.hid (fun w' hE=>⟨cs_ext hE k0,cs_ext hE k1,cs_ext hE k2,cs_ext hE k3⟩)
   have HK4:Hid (∀w',Ext w w'→w'.cell? ⟨ab,ao+4,none⟩=some (.int .i64 Y.kind)∧w'.cell? ⟨ab,ao+5,none⟩=some (.string Y.name)∧w'.cell? ⟨ab,ao+6,none⟩=some (.int .i64 Y.sort)∧w'.cell? ⟨ab,ao+7,none⟩=some (.slice ya Y.kids.length yc)):=Lib.hid (fun w' hE=>⟨cs_ext hE k4,cs_ext hE k5,cs_ext hE k6,cs_ext hE k7⟩)
   have HOQ:Hid (∀w',Ext w w'→Calls Tryz.prog 107 #[.agg #[.int .i64 Y.kind,.string Y.name,.int .i64 Y.sort,.slice ya Y.kids.length yc]] w' fun e w''=>∃a c,e=.returned (.tuple #[.slice a Q.length c,.int .i64 0])∧Ext w' w''∧LsG elPw w'' (fun _=>True) (.slice a Q.length c) Q):=Lib.hid (fun w' hE=>by
    have h:=ROf_any (S:=S) (a:=ya) (cap:=yc) (lits_six HGQ.out) HQ8.out (by rw [←hYe];exact hY.ext hE)
    rw [addLs_lits HGQ.out,←hYe] at h
    exact h)
   have HMM:Hid (mulP Q P=M):=Lib.hid hM.symm
   obtain ⟨bb,w1,hbb,hw1,HBB,hE1⟩:=box_new w (.cells #[.int .i64 3,.string ⟨#[101,120,112]⟩,.int .i64 0,.slice (some ⟨ab,ao,none⟩) 2 ac] 33)
   obtain ⟨eb,w2,heb,hw2,HEB,hE2⟩:=box_new w1 (.cells #[.int .i64 X.kind,.string X.name,.int .i64 X.sort,.slice b X.kids.length bc] 33)
   obtain ⟨rb,w3,hrb,hw3,HRB,hE3⟩:=box_new w2 (.cells #[.int .i64 0,.string ⟨#[]⟩,.int .i64 0,.slice none 0 0] 33)
   have heb1:eb=bb+1:=by rw [heb,hw1,World.size_alloc,hbb]
   have hrb1:rb=eb+1:=by rw [hrb,hw2,World.size_alloc,←heb]
   have HB3:=Lib.hid (hs_ext hE3 (hs_ext hE2 HBB.out))
   have HX3:=Lib.hid (hs_ext hE3 HEB.out)
   have HE3:=Lib.hid (hE1.trans (hE2.trans hE3))
   have HRS:Hid (w.heap.size≤bb∧w.heap.size≤eb∧w.heap.size≤rb∧bb<eb∧eb<rb):=Lib.hid ⟨by omega,by omega,by omega,by omega,by omega⟩
   have HAB:Hid (ab<w.heap.size):=Lib.hid hab
   obtain ⟨x0,x1,x2,x3⟩:=box4r HX3.out
   have HO:=Lib.hid (HOF.out _ HE3.out)
   clear hE1 hE2 hE3 hnf hB hM hXe hYe hY hG hab k0 k1 k2 k3 k4 k5 k6 k7
   go_enter Tryz.func70,Tryz.ntmps70
   go_upto_region 1 with fail
   rw [←hw1,←hbb,←hw2,←heb1,←hw3,←hrb1]
   clear hw1 hbb hw2 heb heb1 hw3 hrb hrb1
   go_wp2_with fail
   refine HO.out.mono ?_
   rintro e w4 ⟨va,vc,rfl,hE4,hO4⟩
   have HL4:Hid (LsG elPw w4 (fun _=>True) (.slice va P.length vc) P):=Lib.hid hO4
   have HE4:=Lib.hid (HE3.out.trans hE4)
   have HBQ:=Lib.hid (hs_ext hE4 HB3.out)
   have HXQ:=Lib.hid (hs_ext hE4 HX3.out)
   have HRQ:=Lib.hid (hs_ext hE4 HRB.out)
   obtain ⟨g0,g1,g2,g3⟩:=box4r HBQ.out
   have HIS:Hid (∀v,Calls Tryz.prog 101 #[.agg #[.int .i64 3,.string ⟨#[101,120,112]⟩,.int .i64 0,v],.string ⟨#[101,120,112]⟩] w4 fun e w'=>e=.returned (.bool true)∧Ext w4 w'):=Lib.hid (fun v=>ris_any (w:=w4) (by unfold I64;omega))
   clear hE4 hO4 x0 x1 x2 x3
   go_wp2_with fail
   refine (HIS.out _).mono ?_
   rintro e w5 ⟨rfl,hE5⟩
   have HE5:=Lib.hid (HE4.out.trans hE5)
   have HB5:=Lib.hid (hs_ext hE5 HBQ.out)
   have HX5:=Lib.hid (hs_ext hE5 HXQ.out)
   have HR5:=Lib.hid (hs_ext hE5 HRQ.out)
   have HL5:=Lib.hid (HL4.out.ext hE5)
   obtain ⟨g0,g1,g2,g3⟩:=cs_e4 hE5 ⟨g0,g1,g2,g3⟩
   clear hE5
   obtain ⟨k4,k5,k6,k7⟩:=HK4.out _ HE5.out
   have HQ5:=Lib.hid (HOQ.out _ HE5.out)
   go_wp2_with fail
   refine HQ5.out.mono ?_
   rintro e w6 ⟨qa,qc,rfl,hE6,hO6⟩
   have HL6:Hid (LsG elPw w6 (fun _=>True) (.slice va P.length vc) P∧LsG elPw w6 (fun _=>True) (.slice qa Q.length qc) Q):=Lib.hid ⟨HL5.out.ext hE6,hO6⟩
   have HE6:=Lib.hid (HE5.out.trans hE6)
   have HB6:=Lib.hid (hs_ext hE6 HB5.out)
   have HX6:=Lib.hid (hs_ext hE6 HX5.out)
   have HR6:=Lib.hid (hs_ext hE6 HR5.out)
   have HMU:=Lib.hid (RMul_any HL6.out.2 HL6.out.1 HGQ.out HGP.out HQR.out HPR.out)
   rw [HMM.out] at HMU
   clear hE6 hO6 k4 k5 k6 k7 g0 g1 g2 g3
   go_wp2_with fail
   refine HMU.out.mono ?_
   rintro e w7 ⟨hE7,(⟨-,ma,mc,rfl,hL7⟩ | ⟨hno,-⟩)⟩
   · have HLQ:=Lib.hid hL7
     have HB7:=Lib.hid (hs_ext hE7 HB6.out)
     have HX7:=Lib.hid (hs_ext hE7 HX6.out)
     have HR7:=Lib.hid (hs_ext hE7 HR6.out)
     have HE7:=Lib.hid (HE6.out.trans hE7)
     clear hE7 hL7
     obtain ⟨g0,g1,g2,g3⟩:=box4r HB7.out
     obtain ⟨k0,k1,k2,k3⟩:=HK.out _ HE7.out
     go_wp2_with (refine wpList_storeT rfl (.tmp 2) (.tmp 47) rfl (g:=bb) rfl (k:=2) (s:=4) (n:=⟨#[103]⟩) (ka:=none) (kl:=0) (kc:=0) rfl HB7.out rfl ?_)
     intro wq hq hothq hEq hsq
     have HEQ:=Lib.hid (hEq w HE7.out HRS.out.1)
     have HBQ:=Lib.hid hq
     have HXQ:=Lib.hid ((hothq eb (by have:=HRS.out.2.2.2;omega)).trans HX7.out)
     have HRQ:=Lib.hid ((hothq rb (by have:=HRS.out.2.2.2;omega)).trans HR7.out)
     have HLQ:Hid (LsG elPw wq (fun _=>True) (.slice ma M.length mc) M):=Lib.hid (pw_off HLQ.out HB7.out (Nat.le_refl 4) hothq hsq)
     clear hq hothq hEq hsq k0 k1 k2 k3 g0 g1 g2 g3
     have hm6:M.length≤6:=HMG.out.1.len
     by_cases hm0:M.length=0
     · have HM0:Hid (M=[]):=Lib.hid (List.length_eq_zero_iff.1 hm0)
       have hmz:(M.length:Int)=0:=by omega
       have hmb:((M.length:Int)==(0:Int))=true:=beq_iff_eq.2 hmz
       obtain ⟨g0,g1,g2,g3⟩:=box4r HBQ.out
       go_wp2_with (refine wpList_storeT rfl (.tmp 4) (.tmp 51) rfl (g:=rb) rfl (k:=2) (s:=4) (n:=⟨#[103]⟩) (ka:=none) (kl:=0) (kc:=0) rfl HRQ.out rfl ?_)
       intro w9 h9 hoth hE9 hs9
       go_wp2_with fail
       exact ret_term2 (g:=rb) rfl rfl h9 rfl (.inl ⟨by rw [HM0.out];exact Nat.zero_le _,_,rfl,hE9 w HEQ.out HRS.out.2.2.1,by rw [HM0.out];exact ⟨none,0,rfl,g_tn⟩⟩)
     · have hmz:¬(M.length:Int)=0:=by omega
       have hmb:((M.length:Int)==(0:Int))=false:=beq_eq_false_iff_ne.2 hmz
       have HT:=Lib.hid (HTE.out _ _ _ _ HLQ.out)
       have HMN:Hid (M≠[]):=Lib.hid (fun e=>hm0 (by rw [e];rfl))
       go_wp2_with fail
       refine HT.out.mono ?_
       rintro e w8 (⟨hl8,v,rfl,hE8,na,nc,rfl,hN8⟩ | ⟨hl8,rfl,hE8⟩)
       · obtain ⟨N,hN⟩:∃N,N=expT (litsP M):=⟨_,rfl⟩
         rw [←hN] at hN8 ⊢
         have HNE:=Lib.hid hN
         have HEB8:=Lib.hid (hs_ext hE8 HXQ.out)
         have HL8:=Lib.hid hl8
         have HE8:=Lib.hid hE8
         have HN8:=Lib.hid hN8
         clear hN hl8 hE8 hN8
         obtain ⟨xb,w9,hxb,hw9,HXB,hE9⟩:=box_new w8 (.cells #[.int .i64 N.kind,.string N.name,.int .i64 N.sort,.slice na N.kids.length nc] 33)
         have HE9:=Lib.hid ((HEQ.out.trans HE8.out).trans hE9)
         have HBB9:=Lib.hid (hs_ext (HE8.out.trans hE9) HBQ.out)
         have HRB9:=Lib.hid (hs_ext (HE8.out.trans hE9) HRQ.out)
         have HN9:Hid (TnW w9 (fun c=>w.heap.size≤c∧c≠rb) na nc N):=Lib.hid ((HN8.out.ext hE9).wide (fun c hc _=>⟨Nat.le_trans HEQ.out.size hc,by have:=(Array.getElem?_eq_some_iff.1 HRQ.out).1;omega⟩))
         have HEB9:=Lib.hid HXB.out
         clear hE9
         go_upto_region 15 with fail
         rw [←hw9,←hxb]
         clear hw9 hxb
         obtain ⟨g0,g1,g2,g3⟩:=box4r HBB9.out
         obtain ⟨n0,n1,n2,n3⟩:=box4r HEB9.out
         obtain ⟨kb,w10,hkb,hw10,HKB,hE10⟩:=box_new w9 (.cells #[.int .i64 2,.string ⟨#[103]⟩,.int .i64 4,.slice none 0 0,.int .i64 N.kind,.string N.name,.int .i64 N.sort,.slice na N.kids.length nc] 33)
         have HNS:Hid (TnW w10 (fun c=>w.heap.size≤c∧c≠rb) na nc N):=Lib.hid (HN9.out.ext hE10)
         have HKS:Hid (w.heap.size≤kb∧kb≠rb):=Lib.hid ⟨by rw [hkb];exact HE9.out.size,by rw [hkb];have:=(Array.getElem?_eq_some_iff.1 HRB9.out).1;omega⟩
         have HAP:Hid (Calls Tryz.prog 10 #[.string ⟨#[101,120,112]⟩,.slice (some ⟨kb,0,none⟩) 2 2] w10 fun e w'=>∃a' c',e=.returned (.agg #[.int .i64 3,.string ⟨#[101,120,112]⟩,.int .i64 0,.slice a' 2 c'])∧Ext w10 w'∧TnW w' (fun c=>w.heap.size≤c∧c≠rb) a' c' (appTm expN [gT,N])):=Lib.hid (by
          have h:=rappN (w:=w10) (S:=fun c=>w.heap.size≤c∧c≠rb) (n:=expN) (a:=some ⟨kb,0,none⟩) (cap:=2) (L:=[gT,N]) (by show 3≤maxLen;unfold maxLen;omega) (by simp) (cells_lsG (P:=[(gT,encE ⟨gT,none,0⟩),(N,encE ⟨N,na,nc⟩)]) HKB.out rfl rfl rfl (by simp [maxLen]) HKS.out (by
           intro p hp
           rcases List.mem_cons.1 hp with rfl | hp
           · exact ⟨_,_,rfl,g_tn⟩
           · rw [List.mem_singleton.1 hp];exact ⟨_,_,rfl,HNS.out⟩))
          refine h.mono ?_
          rintro e w' ⟨u,rfl,hE,a',c',hu,hT⟩
          have hs10:=hE10.size
          have hs9:=HE9.out.size
          have hr9:=(Array.getElem?_eq_some_iff.1 HRB9.out).1
          exact ⟨a',c',by rw [hu];rfl,hE,hT.wide (fun c hc _=>by
           rcases hc with h | h
           · exact h
           · exact ⟨by omega,by omega⟩)⟩)
         have HE10:=Lib.hid (HE9.out.trans hE10)
         have HRB10:=Lib.hid (hs_ext hE10 HRB9.out)
         clear hE10
         go_wp2_with fail
         rw [←hw10,←hkb]
         clear hw10 hkb
         refine HAP.out.mono ?_
         rintro e w11 ⟨pa,pc,rfl,hE11,hT11⟩
         have HRB11:=Lib.hid (hs_ext hE11 HRB10.out)
         have HE11:=Lib.hid (HE10.out.trans hE11)
         have HT11:=Lib.hid hT11
         clear hE11 hT11
         go_wp2_with (refine wpList_storeT rfl (.tmp 4) (.tmp 64) rfl (g:=rb) rfl (k:=3) (s:=0) (n:=⟨#[101,120,112]⟩) (ka:=pa) (kl:=2) (kc:=pc) rfl HRB11.out rfl ?_)
         intro w12 h12 hoth hE12 hs12
         go_wp2_with fail
         exact ret_term2 (g:=rb) rfl rfl h12 rfl (.inl ⟨HL8.out,_,rfl,hE12 w HE11.out HRS.out.2.2.1,by
          unfold nfT
          rw [if_neg HMN.out,←HNE.out]
          exact ⟨pa,pc,rfl,HT11.out.keep (fun c hc _=>hoth c hc.2) (fun c hc _=>hc.1)⟩⟩)
       · have HEB8:=Lib.hid (hs_ext hE8 HXQ.out)
         have HL8:=Lib.hid hl8
         have HE8:=Lib.hid hE8
         clear hl8 hE8
         obtain ⟨xb,w9,hxb,hw9,HXB,hE9⟩:=box_new w8 (.cells #[.int .i64 0,.string ⟨#[]⟩,.int .i64 0,.slice none 0 0] 33)
         have HE9:=Lib.hid ((HEQ.out.trans HE8.out).trans hE9)
         have HRB9:=Lib.hid (hs_ext (HE8.out.trans hE9) HRQ.out)
         clear hE9
         go_upto_region 15 with fail
         rw [←hw9,←hxb]
         clear hw9 hxb
         go_wp2_with (refine wpList_storeT rfl (.tmp 4) (.tmp 59) rfl (g:=rb) rfl (k:=0) (s:=0) (n:=⟨#[]⟩) (ka:=none) (kl:=0) (kc:=0) rfl HRB9.out rfl ?_)
         intro w12 h12 hoth hE12 hs12
         go_wp2_with fail
         exact ret_term2 (g:=rb) rfl rfl h12 rfl (.inr ⟨by have:=HL8.out;omega,rfl,hE12 w HE9.out HRS.out.2.2.1⟩)
   · exact absurd HMG.out.2 hno
end Go.Proofs.YtclijngnoepbiaaGreat
