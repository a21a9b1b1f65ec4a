/- Contract: sealringref06.Term. -/
import Derived.Test.YtclijngnoepbiaaGreatPv9
set_option maxRecDepth 100000
set_option maxHeartbeats 8000000
namespace Go.Proofs.YtclijngnoepbiaaGreat
open Go Go.RowKit
set_option linter.unusedVariables false
set_option linter.unusedSimpArgs false

theorem RTermP_any {w:World} {S:Nat→Prop} {a:Option Addr} {cap:Nat} {P:List Pw} (hL:LsG elPw w S (.slice a P.length cap) P) (hG:Good P) (hR:Rng 1000 P) :
 Calls Tryz.prog 108 #[.slice a P.length cap] w fun e w'=>TerE w P e w':=by
 have hl6:=hG.len
 obtain ⟨rb,w1,hrb,hw1,HRB,hE1⟩:=box_new w (.cells #[.int .i64 0,.string ⟨#[]⟩,.int .i64 0,.slice none 0 0] 33)
 have HVA:=Lib.hid (RValidP_any (hL.ext hE1) hG hR)
 have HOP:=Lib.hid (fun (w':World) (hE:Ext w w')=>operands_any (hL.ext hE) hG hR)
 have HK6:=Lib.hid (lits_six hG)
 have HE1:=Lib.hid hE1
 have HRS:Hid (w.heap.size≤rb):=Lib.hid (by rw [hrb];exact Nat.le_refl _)
 obtain ⟨K,hK⟩:∃K,K=litsP P:=⟨_,rfl⟩
 rw [←hK] at HOP HK6
 have HKK:=Lib.hid hK
 clear hL hG hR hE1 hK
 go_enter Tryz.func108,Tryz.ntmps108
 go_upto_region 1 with fail
 rw [←hw1,←hrb]
 clear hw1 hrb
 go_wp2_with fail
 refine HVA.out.mono ?_
 rintro e w2 ⟨rfl,hE2⟩
 have HRB2:=Lib.hid (hs_ext hE2 HRB.out)
 have HE2:=Lib.hid (HE1.out.trans hE2)
 have HO:=Lib.hid (HOP.out _ HE2.out)
 clear hE2
 go_wp2_with fail
 refine HO.out.mono ?_
 rintro e w3 ⟨ua,n,uc,rfl,hI⟩
 obtain ⟨hn,hnc,huc⟩:=hI.len
 have HN:=Lib.hid hn
 have hn9b:n≤9:=by omega
 have hE3:=hI.ext
 have HRB3:=Lib.hid (hs_ext hE3 HRB2.out)
 have HI:=Lib.hid hI
 have HE3:=Lib.hid (HE2.out.trans hE3)
 have hrb3:rb<w3.heap.size:=(Array.getElem?_eq_some_iff.1 HRB3.out).1
 have HRL:Hid (rb<w2.heap.size):=Lib.hid (Array.getElem?_eq_some_iff.1 HRB2.out).1
 unfold maxLen at huc
 clear hE3 hI hn
 by_cases hn8:n≤8
 · have d1:¬(8:Int)<(n:Int):=by omega
   have HKN:Hid (K.length=n):=Lib.hid (by have:=HN.out;omega)
   have HLM:Hid (LsG elN w3 (fun c=>w.heap.size≤c∧c≠rb) (.slice ua (K.map litT).length uc) (K.map litT)):=Lib.hid (by
    have h:=HI.out.own
    rw [List.take_of_length_le (by have:=HKN.out;omega)] at h
    have h2:=h.ls (S':=fun c=>w.heap.size≤c∧c≠rb) (fun c h _=>by have:=HE2.out.size;have:=HRL.out;have:=h.1;omega) (fun g _ h1 h2=>by have:=HE2.out.size;have:=HRL.out;omega)
    rw [List.length_map,HKN.out]
    exact h2)
   have HAP:Hid (Calls Tryz.prog 10 #[.string ⟨#[109,117,108]⟩,.slice ua n uc] w3 fun e w'=>∃a' c',e=.returned (.agg #[.int .i64 3,.string ⟨#[109,117,108]⟩,.int .i64 0,.slice a' n c'])∧Ext w3 w'∧TnW w' (fun c=>w.heap.size≤c∧c≠rb) a' c' (appTm mulN (K.map litT))):=Lib.hid (by
    have h:=rappN (n:=mulN) (by show 3≤maxLen;unfold maxLen;omega) (by rw [List.length_map,HKN.out];omega) HLM.out
    rw [List.length_map,HKN.out] at h
    refine h.mono ?_
    rintro e w' ⟨u,rfl,hE,a',c',hu,hT⟩
    have hk:(appTm mulN (K.map litT)).kids.length=n:=by show (K.map litT).length=n;rw [List.length_map,HKN.out]
    rw [hk] at hu
    exact ⟨a',c',by rw [hu];rfl,hE,hT.wide (fun c hc _=>by
     have:=HE3.out.size
     rcases hc with h | h
     · exact h
     · exact ⟨by omega,by omega⟩)⟩)
   have HFE:Hid (∀w',Ext w w'→∀(v:Value),IsN w' (fun c=>w.heap.size≤c) v (expT K)→TerE w P (.returned (.tuple #[v,.int .i64 0])) w'):=Lib.hid (fun w' hE v hv=>.inl ⟨by rw [←HKK.out,HKN.out];exact hn8,v,rfl,hE,by rw [←HKK.out];exact hv⟩)
   go_wp2_with fail
   refine HAP.out.mono ?_
   rintro e w5 ⟨ma,mc,rfl,hE5,hT5⟩
   obtain ⟨ob,w6,hob,hw6,HOB,hE6⟩:=box_new w5 (.cells #[.int .i64 3,.string ⟨#[109,117,108]⟩,.int .i64 0,.slice ma n mc] 33)
   have HT6:=Lib.hid (hT5.ext hE6)
   have HE6:=Lib.hid (HE3.out.trans (hE5.trans hE6))
   have HO6:=Lib.hid (HLM.out.ext (hE5.trans hE6))
   have HRB6:=Lib.hid (hs_ext (hE5.trans hE6) HRB3.out)
   have HE36:Hid (Ext w3 w6∧w3.heap.size≤ob):=Lib.hid ⟨hE5.trans hE6,by rw [hob];exact hE5.size⟩
   have HOS:Hid (w.heap.size≤ob∧ob≠rb):=Lib.hid ⟨by rw [hob];exact (HE3.out.trans hE5).size,by rw [hob];have:=hE5.size;omega⟩
   clear hT5 hE5 hE6
   go_upto_region 8 with fail
   rw [←hw6,←hob]
   clear hw6 hob
   have HN8:=Lib.hid hn8
   rcases Nat.lt_or_ge n 2 with hn2 | hn2
   · rcases (by omega:n=0∨n=1) with h0 | h0
     · have hK0:K=[]:=List.length_eq_zero_iff.1 (by rw [HKN.out];exact h0)
       subst h0
       obtain ⟨T,hT⟩:∃T,T=expT K:=⟨_,rfl⟩
       have HTK:=Lib.hid hT
       have hTe:T=appTm oneN []:=by rw [hT,hK0];rfl
       have HA1:Hid (Calls Tryz.prog 10 #[.string ⟨#[111,110,101]⟩,.slice none 0 0] w6 fun e w'=>∃a' c',e=.returned (.agg #[.int .i64 3,.string ⟨#[111,110,101]⟩,.int .i64 0,.slice a' 0 c'])∧Ext w6 w'∧TnW w' (fun c=>w.heap.size≤c∧c≠rb) a' c' T):=Lib.hid (by
        rw [hTe]
        refine (rappN (n:=oneN) (L:=[]) (S:=fun c=>w.heap.size≤c∧c≠rb) (by show 3≤maxLen;unfold maxLen;omega) (by simp) ⟨none,0,rfl,Nat.le_refl _,by show 0≤maxLen;omega,fun i x h=>by simp at h⟩).mono ?_
        rintro e w' ⟨u,rfl,hE,a',c',hu,hT⟩
        exact ⟨a',c',by rw [hu];rfl,hE,hT.wide (fun c hc _=>by
         have:=HE6.out.size
         have:=(Array.getElem?_eq_some_iff.1 HRB6.out).1
         rcases hc with h | h
         · exact h
         · exact ⟨by omega,by omega⟩)⟩)
       have HTC:Hid (T.kind=3∧T.name=⟨#[111,110,101]⟩∧T.sort=0∧T.kids.length=0):=Lib.hid (by rw [hTe];exact ⟨rfl,rfl,rfl,rfl⟩)
       clear hT hTe hK0 hn2
       go_wp2_with fail
       refine HA1.out.mono ?_
       rintro e w7 ⟨qa,qc,rfl,hE7,hT7⟩
       have HT7:=Lib.hid hT7
       have HOB7:=Lib.hid (hs_ext hE7 HOB.out)
       have HEQ7:=Lib.hid (HE6.out.trans hE7)
       have HRB7:=Lib.hid (hs_ext hE7 HRB6.out)
       clear hE7 hT7
       go_wp2_with (refine wpList_storeT rfl (.tmp 6) (.tmp 25) rfl (g:=ob) rfl (k:=3) (s:=0) (n:=⟨#[111,110,101]⟩) (ka:=qa) (kl:=0) (kc:=qc) rfl HOB7.out rfl ?_)
       intro wq hq hothq hEq hsq
       have HOQ:Hid (wq.heap[ob]?=some (.cells #[.int .i64 T.kind,.string T.name,.int .i64 T.sort,.slice qa T.kids.length qc] 33)):=Lib.hid (by rw [HTC.out.1,HTC.out.2.1,HTC.out.2.2.1,HTC.out.2.2.2];exact hq)
       have HTQ:Hid (TnW wq (fun c=>w.heap.size≤c∧c≠rb) qa qc T):=Lib.hid (by
        obtain ⟨k1,k2,k3,k4,k5,k6,ba,oa,k7,k8⟩:=HT7.out
        have hkn:T.kids=[]:=List.length_eq_zero_iff.1 HTC.out.2.2.2
        exact ⟨k1,k2,k3,k4,k5,k6,0,0,fun h=>absurd hkn h,fun i k h=>by rw [hkn] at h;simp at h⟩)
       have HEQ:=Lib.hid (hEq w HEQ7.out HOS.out.1)
       have HRQ:=Lib.hid ((hothq rb (fun e=>HOS.out.2 e.symm)).trans HRB7.out)
       clear hq hothq hEq hsq
       have HVL:Hid (validT T=0∧sizeT T≤17):=Lib.hid (by rw [HTK.out];exact ⟨exp_valid HK6.out (by rw [HKN.out];exact HN8.out),(exp_err HK6.out (by rw [HKN.out];exact HN8.out)).2.1⟩)
       obtain ⟨y0,y1,y2,y3⟩:=box4r HOQ.out
       have HVB:=Lib.hid (RValid_any (w:=wq) (t:=T) (by have:=HVL.out.2;omega) HTQ.out.tm)
       rw [HVL.out.1] at HVB
       go_upto_region 12 with fail
       go_wp2_with fail
       refine HVB.out.mono ?_
       rintro e w8 ⟨rfl,hE8⟩
       have HE8:=Lib.hid (HEQ.out.trans hE8)
       have HT8:=Lib.hid (HTQ.out.ext hE8)
       have HRB8:=Lib.hid (hs_ext hE8 HRQ.out)
       obtain ⟨y0,y1,y2,y3⟩:=cs_e4 hE8 ⟨y0,y1,y2,y3⟩
       clear hE8
       go_wp2_with (refine wpList_storeT rfl (.tmp 2) (.tmp 38) rfl (g:=rb) rfl (k:=T.kind) (s:=T.sort) (n:=T.name) (ka:=qa) (kl:=T.kids.length) (kc:=qc) rfl HRB8.out rfl ?_)
       intro w9 h9 hoth hE9 hs9
       go_wp2_with fail
       exact ret_term2 (g:=rb) rfl rfl h9 rfl (HFE.out _ (hE9 w HE8.out HRS.out) _ (by rw [←HTK.out];exact ⟨qa,qc,rfl,HT8.out.keep (fun c hc _=>hoth c hc.2) (fun c hc _=>hc.1)⟩))
     · subst h0
       obtain ⟨l,hKl⟩:∃l,K=[l]:=by
        match K,HKN.out with
        | [l],_=>exact ⟨l,rfl⟩
       obtain ⟨T,hT⟩:∃T,T=expT K:=⟨_,rfl⟩
       have HTK:=Lib.hid hT
       have hTe:T=litT l:=by rw [hT,hKl];rfl
       have hls:=HLM.out
       rw [hKl] at hls
       obtain ⟨b2,o2,cs,hua,hS2,hlt2,⟨a2,c2,rfl,hT2⟩,hcs⟩:=hls.at (i:=0) (x:=litT l) rfl
       subst hua
       rw [←hTe] at hcs hT2
       have k0:w3.cell? ⟨b2,o2,none⟩=some (.int .i64 T.kind):=hcs 0 _ rfl
       have k1:w3.cell? ⟨b2,o2+1,none⟩=some (.string T.name):=hcs 1 _ rfl
       have k2:w3.cell? ⟨b2,o2+2,none⟩=some (.int .i64 T.sort):=hcs 2 _ rfl
       have k3:w3.cell? ⟨b2,o2+3,none⟩=some (.slice a2 T.kids.length c2):=hcs 3 _ rfl
       have HT7:=Lib.hid ((hT2.wide (S':=fun c=>w.heap.size≤c∧c≠rb∧c<w3.heap.size) (fun c h1 h2=>⟨h1.1,h1.2,h2⟩)).ext HE36.out.1)
       obtain ⟨k0,k1,k2,k3⟩:=cs_e4 HE36.out.1 ⟨k0,k1,k2,k3⟩
       clear hT hTe hKl hn2 hls hcs hT2 hS2 hlt2
       go_wp2_with (refine wpList_storeT rfl (.tmp 6) (.tmp 31) rfl (g:=ob) rfl (k:=T.kind) (s:=T.sort) (n:=T.name) (ka:=a2) (kl:=T.kids.length) (kc:=c2) rfl HOB.out rfl ?_)
       intro wq hq hothq hEq hsq
       have HOQ:Hid (wq.heap[ob]?=some (.cells #[.int .i64 T.kind,.string T.name,.int .i64 T.sort,.slice a2 T.kids.length c2] 33)):=Lib.hid hq
       have HTQ:Hid (TnW wq (fun c=>w.heap.size≤c∧c≠rb) a2 c2 T):=Lib.hid (HT7.out.keep (fun c h _=>hothq c (by have:=h.2.2;have:=HE36.out.2;omega)) (fun c h _=>⟨h.1,h.2.1⟩))
       have HEQ:=Lib.hid (hEq w HE6.out HOS.out.1)
       have HRQ:=Lib.hid ((hothq rb (fun e=>HOS.out.2 e.symm)).trans HRB6.out)
       clear hq hothq hEq hsq k0 k1 k2 k3
       have HVL:Hid (validT T=0∧sizeT T≤17):=Lib.hid (by rw [HTK.out];exact ⟨exp_valid HK6.out (by rw [HKN.out];exact HN8.out),(exp_err HK6.out (by rw [HKN.out];exact HN8.out)).2.1⟩)
       obtain ⟨y0,y1,y2,y3⟩:=box4r HOQ.out
       have HVB:=Lib.hid (RValid_any (w:=wq) (t:=T) (by have:=HVL.out.2;omega) HTQ.out.tm)
       rw [HVL.out.1] at HVB
       go_upto_region 12 with fail
       go_wp2_with fail
       refine HVB.out.mono ?_
       rintro e w8 ⟨rfl,hE8⟩
       have HE8:=Lib.hid (HEQ.out.trans hE8)
       have HT8:=Lib.hid (HTQ.out.ext hE8)
       have HRB8:=Lib.hid (hs_ext hE8 HRQ.out)
       obtain ⟨y0,y1,y2,y3⟩:=cs_e4 hE8 ⟨y0,y1,y2,y3⟩
       clear hE8
       go_wp2_with (refine wpList_storeT rfl (.tmp 2) (.tmp 38) rfl (g:=rb) rfl (k:=T.kind) (s:=T.sort) (n:=T.name) (ka:=a2) (kl:=T.kids.length) (kc:=c2) rfl HRB8.out rfl ?_)
       intro w9 h9 hoth hE9 hs9
       go_wp2_with fail
       exact ret_term2 (g:=rb) rfl rfl h9 rfl (HFE.out _ (hE9 w HE8.out HRS.out) _ (by rw [←HTK.out];exact ⟨a2,c2,rfl,HT8.out.keep (fun c hc _=>hoth c hc.2) (fun c hc _=>hc.1)⟩))
   · have e0:¬n=0:=by omega
     have e1:¬n=1:=by omega
     have e2:((n:Int)==(0:Int))=false:=beq_eq_false_iff_ne.2 (by omega)
     have e3:((n:Int)==(1:Int))=false:=beq_eq_false_iff_ne.2 (by omega)
     obtain ⟨T,hT⟩:∃T,T=expT K:=⟨_,rfl⟩
     have HTK:=Lib.hid hT
     have hTe:T=appTm mulN (K.map litT):=by
      rw [hT]
      have hk2:2≤K.length:=by rw [HKN.out];exact hn2
      match K,hk2 with
      | l :: l' :: ls,_=>rfl
     have HOQ:Hid (w6.heap[ob]?=some (.cells #[.int .i64 T.kind,.string T.name,.int .i64 T.sort,.slice ma T.kids.length mc] 33)):=Lib.hid (by
      rw [hTe]
      have:(appTm mulN (K.map litT)).kids.length=n:=by show (K.map litT).length=n;rw [List.length_map,HKN.out]
      rw [this];exact HOB.out)
     have HTQ:Hid (TnW w6 (fun c=>w.heap.size≤c∧c≠rb) ma mc T):=Lib.hid (by rw [hTe];exact HT6.out)
     have HEQ:=HE6
     have HRQ:=HRB6
     clear hT hTe hn2
     have HVL:Hid (validT T=0∧sizeT T≤17):=Lib.hid (by rw [HTK.out];exact ⟨exp_valid HK6.out (by rw [HKN.out];exact HN8.out),(exp_err HK6.out (by rw [HKN.out];exact HN8.out)).2.1⟩)
     obtain ⟨y0,y1,y2,y3⟩:=box4r HOQ.out
     have HVB:=Lib.hid (RValid_any (w:=w6) (t:=T) (by have:=HVL.out.2;omega) HTQ.out.tm)
     rw [HVL.out.1] at HVB
     go_upto_region 12 with fail
     go_wp2_with fail
     refine HVB.out.mono ?_
     rintro e w8 ⟨rfl,hE8⟩
     have HE8:=Lib.hid (HEQ.out.trans hE8)
     have HT8:=Lib.hid (HTQ.out.ext hE8)
     have HRB8:=Lib.hid (hs_ext hE8 HRQ.out)
     obtain ⟨y0,y1,y2,y3⟩:=cs_e4 hE8 ⟨y0,y1,y2,y3⟩
     clear hE8
     go_wp2_with (refine wpList_storeT rfl (.tmp 2) (.tmp 38) rfl (g:=rb) rfl (k:=T.kind) (s:=T.sort) (n:=T.name) (ka:=ma) (kl:=T.kids.length) (kc:=mc) rfl HRB8.out rfl ?_)
     intro w9 h9 hoth hE9 hs9
     go_wp2_with fail
     exact ret_term2 (g:=rb) rfl rfl h9 rfl (HFE.out _ (hE9 w HE8.out HRS.out) _ (by rw [←HTK.out];exact ⟨ma,mc,rfl,HT8.out.keep (fun c hc _=>hoth c hc.2) (fun c hc _=>hc.1)⟩))
 · have d1:(8:Int)<(n:Int):=by omega
   go_wp2_with (refine wpList_storeT rfl (.tmp 2) (.tmp 19) rfl (g:=rb) rfl (k:=0) (s:=0) (n:=⟨#[]⟩) (ka:=none) (kl:=0) (kc:=0) rfl HRB3.out rfl ?_)
   intro w9 h9 hoth hE9 hs9
   go_wp2_with fail
   exact ret_term2 (g:=rb) rfl rfl h9 rfl (.inr ⟨by have:=HN.out;rw [←HKK.out];omega,rfl,hE9 w HE3.out HRS.out⟩)
end Go.Proofs.YtclijngnoepbiaaGreat
