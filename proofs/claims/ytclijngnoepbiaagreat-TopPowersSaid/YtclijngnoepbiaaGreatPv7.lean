/- Contracts: theory.normal on towers of powers. Contracts: theory.Normal and Equal. Contracts: theory.Equal. -/
import Derived.Test.YtclijngnoepbiaaGreatPv6
set_option maxRecDepth 100000
set_option maxHeartbeats 8000000
namespace Go.Proofs.YtclijngnoepbiaaGreat
open Go Go.RowKit
set_option linter.unusedVariables false
set_option linter.unusedSimpArgs false

theorem NorE.congr {w w':World} {P P':Prop} {t:Tm} {e:Ending} (h:NorE w P t e w') (hP:P↔P'):NorE w P' t e w':=by
 rcases h with ⟨h1,h2⟩ | ⟨h1,h2⟩
 · exact .inl ⟨hP.1 h1,h2⟩
 · exact .inr ⟨fun h=>h1 (hP.2 h),h2⟩
theorem normal_atom {w:World} {S:Nat→Prop} {a:Option Addr} {cap:Nat} {n:ByteArray} {s:Int} (hT:TnW w S a cap (.mk 2 n s [])):Calls Tryz.prog 49 #[.agg #[.int .i64 2,.string n,.int .i64 s,.slice a 0 cap]] w (NorE w True (.mk 2 n s [])):=by
 obtain ⟨rfl,rfl⟩:=hT.nil rfl
 refine (normalA_any (w:=w) (n:=n) (s:=s) (a:=none) (c:=0)).mono ?_
 rintro e w' ⟨rfl,hE⟩
 exact .inl ⟨trivial,_,rfl,hE,none,0,rfl,tn_atom hT.name hT.sort⟩
theorem normal_lit {w:World} {S:Nat→Prop} {a:Option Addr} {cap:Nat} {l:Lit} (h6:l.1<6) (hT:TnW w S a cap (litT l)):Calls Tryz.prog 49 #[.agg #[.int .i64 (litT l).kind,.string (litT l).name,.int .i64 (litT l).sort,.slice a (litT l).kids.length cap]] w (NorE w True (litT l)):=by
 obtain ⟨i,b⟩:=l
 cases b with
 | false=>exact normal_atom hT
 | true =>
   have hi:i<6:=h6
   have hls:litsP [(i,(-1:Int))]=[(i,true)]:=rfl
   have hadd:addLs [] [(i,true)]=[(i,(-1:Int))]:=rfl
   have hG:Good [(i,(-1:Int))]:=⟨by simp,fun p hp=>by rw [List.mem_singleton.1 hp];exact hi,fun p hp=>by rw [List.mem_singleton.1 hp];show (-1:Int)≠0;omega⟩
   have h:=normal_node (w:=w) (S:=S) (a:=a) (cap:=cap) (l:=1) (n:=invN) (ks:=[atmT i]) (Ns:=[atmT i]) (Pk:=fun _=>True) (R:=True) (N:=expT (litsP [(i,(-1:Int))])) rfl rfl (by omega)
    (fun _=>.mul (.inr (.inl rfl)) hG (lits_rng (by rw [hls];show 1≤8;omega)) ⟨fun _=>by rw [hls];show 1≤8;omega,fun _=>trivial⟩ (fun w' S' va vc hT'=>by
      have h:=POf_any (ls:=[(i,true)]) (by intro l hl;rw [List.mem_singleton.1 hl];exact hi) (by show 1≤8;omega) hT'
      rw [hadd] at h
      exact h)) hT
    (fun k x nx hx hnx w' ka kc hTx=>by
      rw [hx] at hnx
      cases hnx
      match k,hx with
      | 0,hx=>cases hx;exact normal_atom hTx
      | k+1,hx=>simp at hx)
   rw [hls] at h
   exact h.mono fun e w' h=>h.congr ⟨fun _=>trivial,fun _=>⟨fun _ _=>trivial,trivial⟩⟩
theorem normal_exp {w:World} {S:Nat→Prop} {a:Option Addr} {cap:Nat} {P:List Pw} (gP:Good P) (p8:(litsP P).length≤8) (hT:TnW w S a cap (expT (litsP P))):Calls Tryz.prog 49 #[.agg #[.int .i64 (expT (litsP P)).kind,.string (expT (litsP P)).name,.int .i64 (expT (litsP P)).sort,.slice a (expT (litsP P)).kids.length cap]] w (NorE w True (expT (litsP P))):=by
 have hl6:=lits_six gP
 have hadd:=addLs_lits gP
 have hrng:=lits_rng p8
 have hp8:=p8
 obtain ⟨ls,hls⟩:∃ls,ls=litsP P:=⟨_,rfl⟩
 rw [←hls] at hT hl6 hadd p8 ⊢
 have hfin:∀(n:ByteArray) (ks:List Tm) (l:Nat),(n=mulN∨n=invN∨n=oneN)→appTm n ks=expT ls→ks.length=l→l≤8→(∀(k:Nat) x,ks[k]?=some x→∃y,y.1<6∧x=litT y) →
  TnW w S a cap (appTm n ks)→Calls Tryz.prog 49 #[.agg #[.int .i64 3,.string n,.int .i64 0,.slice a l cap]] w (NorE w True (expT ls)):=by
  intro n ks l hn hexp hl h8 hks hT
  have h:=normal_node (w:=w) (S:=S) (a:=a) (cap:=cap) (l:=l) (n:=n) (ks:=ks) (Ns:=ks) (Pk:=fun _=>True) (R:=True) (N:=expT (litsP P)) hl hl h8
   (fun _=>.mul hn gP hrng ⟨fun _=>hp8,fun _=>trivial⟩ (fun w' S' va vc hT'=>by
     rw [hexp] at hT'
     have h:=POf_any (ls:=ls) hl6 p8 hT'
     rw [hadd,←hexp] at h
     exact h)) hT
   (fun k x nx hx hnx w' ka kc hTx=>by
     rw [hx] at hnx
     cases hnx
     obtain ⟨y,hy,rfl⟩:=hks k x hx
     exact normal_lit hy hTx)
  rw [←hls] at h
  exact h.mono fun e w' h=>h.congr ⟨fun _=>trivial,fun _=>⟨fun _ _=>trivial,trivial⟩⟩
 match ls,hls,hT,hl6,hadd,p8,hfin with
 | [],hls,hT,hl6,hadd,p8,hfin=>exact hfin oneN [] 0 (.inr (.inr rfl)) rfl rfl (by omega) (fun k x hx=>by simp at hx) hT
 | [l],hls,hT,hl6,hadd,p8,hfin=>exact normal_lit (hl6 l (List.mem_cons_self ..)) hT
 | l :: l' :: ls,hls,hT,hl6,hadd,p8,hfin =>
   have h:=hfin mulN ((l :: l' :: ls).map litT) (l :: l' :: ls).length (.inl rfl) rfl (by rw [List.length_map]) p8 (fun k x hx=>by
    obtain ⟨y,hy,rfl⟩:=List.mem_map.1 (List.mem_of_getElem? hx)
    exact ⟨y,hl6 y hy,rfl⟩) hT
   have hk:(appTm mulN ((l :: l' :: ls).map litT)).kids.length=(l :: l' :: ls).length:=by show ((l :: l' :: ls).map litT).length=_;rw [List.length_map]
   show Calls Tryz.prog 49 #[.agg #[.int .i64 3,.string mulN,.int .i64 0,.slice a (appTm mulN ((l :: l' :: ls).map litT)).kids.length cap]] w _
   rw [hk]
   exact h
/-- the product of a tower's exponents -/
def prodT:List (List Pw)→List Pw
 | []=>[]
 | P :: Ps=>mulP (prodT Ps) P
/-- no product under way is too large -/
def okT:List (List Pw)→Prop
 | []=>True
 | P :: Ps=>okT Ps∧(litsP (mulP (prodT Ps) P)).length≤8
/-- the exponents are products of few literals -/
def FewT (Ps:List (List Pw)):Prop:=∀P∈Ps,Good P∧(litsP P).length≤8
theorem prod_good:∀{Ps:List (List Pw)},FewT Ps→Good (prodT Ps):=by
 intro Ps
 induction Ps with
 | nil=>intro _;exact Good.nil
 | cons P Ps ih=>intro h;exact (mulP_spec (ih (fun Q hQ=>h Q (List.mem_cons_of_mem _ hQ))) (h P (List.mem_cons_self ..)).1).1
theorem ok_lits:∀{Ps:List (List Pw)},okT Ps→(litsP (prodT Ps)).length≤8:=by
 intro Ps h
 match Ps,h with
 | [],_=>show 0≤8;omega
 | P :: Ps,h=>exact h.2
theorem normal_tow:∀{Ps:List (List Pw)},FewT Ps→∀{w:World} {S:Nat→Prop} {a:Option Addr} {cap:Nat},TnW w S a cap (towT Ps)→Calls Tryz.prog 49 #[.agg #[.int .i64 (towT Ps).kind,.string (towT Ps).name,.int .i64 (towT Ps).sort,.slice a (towT Ps).kids.length cap]] w (NorE w (okT Ps) (nfT (prodT Ps))):=by
 intro Ps
 induction Ps with
 | nil =>
   intro _ w S a cap hT
   exact normal_atom hT
 | cons P Ps ih =>
   intro hF w S a cap hT
   have hF2:FewT Ps:=fun Q hQ=>hF Q (List.mem_cons_of_mem _ hQ)
   obtain ⟨gP,p8⟩:=hF P (List.mem_cons_self ..)
   have h:=normal_node (w:=w) (S:=S) (a:=a) (cap:=cap) (l:=2) (n:=expN) (ks:=[towT Ps,expT (litsP P)]) (Ns:=[nfT (prodT Ps),expT (litsP P)]) (Pk:=fun i=>i=0→okT Ps) (R:=(litsP (mulP (prodT Ps) P)).length≤8) (N:=nfT (mulP (prodT Ps) P)) rfl rfl (by omega)
    (fun hP=>.exp rfl (fun w' S' va vb vac vbc hA hB=>raise_any (prod_good hF2) gP (ok_lits (hP 0 (by omega) rfl)) p8 hA hB)) hT
    (fun k x nx hx hnx w' ka kc hTx=>by
      match k,hx,hnx with
      | 0,hx,hnx=>cases hx;cases hnx;exact (ih hF2 hTx).mono fun e w' h=>h.congr ⟨fun h _=>h,fun h=>h rfl⟩
      | 1,hx,hnx=>cases hx;cases hnx;exact (normal_exp gP p8 hTx).mono fun e w' h=>h.congr ⟨fun _ h=>absurd h (by omega),fun _=>trivial⟩
      | k+2,hx,_=>simp at hx)
   exact h.mono fun e w' h=>h.congr ⟨fun h=>⟨h.1 0 (by omega) rfl,h.2⟩,fun h=>⟨fun _ _ _=>h.1,h.2⟩⟩

theorem exp_node2 {A B:Tm} (hA:errT A=0) (hB:errT B=0):errT (appTm expN [A,B])=0:=by
 show orE (nodeE 3 expN 0 2) (orE (errT A) (orE (errT B) 0))=0
 rw [hA,hB,show nodeE 3 expN 0 2=0 by decide +kernel]
 rfl
theorem g_err:errT gT=0∧sizeT gT=1∧depthT gT=1:=by
 refine ⟨by decide +kernel,rfl,rfl⟩
theorem tow_err:∀{Ps:List (List Pw)},FewT Ps→errT (towT Ps)=0∧sizeT (towT Ps)≤1+18*Ps.length∧depthT (towT Ps)≤Ps.length+3:=by
 intro Ps
 induction Ps with
 | nil=>intro _;obtain ⟨h1,h2,h3⟩:=g_err;exact ⟨h1,by show sizeT gT≤1;omega,by show depthT gT≤3;omega⟩
 | cons P Ps ih =>
   intro h
   obtain ⟨h1,h2,h3⟩:=ih (fun Q hQ=>h Q (List.mem_cons_of_mem _ hQ))
   obtain ⟨gP,p8⟩:=h P (List.mem_cons_self ..)
   obtain ⟨h4,h5,h6⟩:=exp_err (lits_six gP) p8
   refine ⟨exp_node2 h1 h4,?_,?_⟩
   · show 1+(sizeT (towT Ps)+(sizeT (expT (litsP P))+0))≤1+18*(Ps.length+1)
     omega
   · show max (depthT (towT Ps)) (max (depthT (expT (litsP P))) 0)+1≤Ps.length+1+3
     omega
theorem tow_valid {Ps:List (List Pw)} (h:FewT Ps) (h8:Ps.length≤8):validT (towT Ps)=0:=by
 obtain ⟨h1,h2,h3⟩:=tow_err h
 unfold validT
 rw [h1,if_neg (by omega)];rfl
theorem nf_valid {P:List Pw} (gP:Good P) (p8:(litsP P).length≤8):validT (nfT P)=0∧sizeT (nfT P)≤100:=by
 obtain ⟨g1,g2,g3⟩:=g_err
 unfold nfT
 split
 · refine ⟨?_,by omega⟩
   unfold validT
   rw [g1,if_neg (by omega)];rfl
 · obtain ⟨h4,h5,h6⟩:=exp_err (lits_six gP) p8
   have hs:sizeT (appTm expN [gT,expT (litsP P)])=1+(sizeT gT+(sizeT (expT (litsP P))+0)):=rfl
   have hd:depthT (appTm expN [gT,expT (litsP P)])=max (depthT gT) (max (depthT (expT (litsP P))) 0)+1:=rfl
   refine ⟨?_,by omega⟩
   unfold validT
   rw [exp_node2 g1 h4,if_neg (by omega)];rfl
theorem NormalG_any {w:World} {a:Option Addr} {cap:Nat} {t N:Tm} {P:Prop}
 (hV:∀w',Ext w w'→Calls Tryz.prog 48 #[.agg #[.int .i64 t.kind,.string t.name,.int .i64 t.sort,.slice a t.kids.length cap]] w' fun e w''=>e=.returned (.int .i64 0)∧Ext w' w'')
 (hN:∀w',Ext w w'→Calls Tryz.prog 49 #[.agg #[.int .i64 t.kind,.string t.name,.int .i64 t.sort,.slice a t.kids.length cap]] w' (NorE w' P N)) (hv:P→validT N=0∧sizeT N≤1000000) :
 Calls Tryz.prog 16 #[.agg #[.int .i64 t.kind,.string t.name,.int .i64 t.sort,.slice a t.kids.length cap]] w (NorE w P N):=by
 obtain ⟨bx,w1,hbx,hw1,HB,hE1⟩:=box_new w (.cells #[.int .i64 t.kind,.string t.name,.int .i64 t.sort,.slice a t.kids.length cap] 33)
 obtain ⟨rb,w2,hrb,hw2,HR,hE2⟩:=box_new w1 (.cells #[.int .i64 0,.string ⟨#[]⟩,.int .i64 0,.slice none 0 0] 33)
 have hrb1:rb=bx+1:=by rw [hrb,hw1,World.size_alloc,hbx]
 have HB2:=Lib.hid (hs_ext hE2 HB.out)
 obtain ⟨b0,b1,b2,b3⟩:=box4r HB2.out
 have HE2:=Lib.hid (hE1.trans hE2)
 have HRS:Hid (w.heap.size≤rb):=Lib.hid (by rw [hrb1,hbx];omega)
 have HV:=Lib.hid (hV _ HE2.out)
 have HNC:=Lib.hid hN
 have HVN:=Lib.hid hv
 clear hE1 hE2 hV hN hv
 go_enter Tryz.func16,Tryz.ntmps16
 go_upto_region 1 with fail
 rw [←hw1,←hbx,←hw2,←hrb1]
 clear hw1 hbx hw2 hrb1 hrb
 go_wp2_with fail
 refine HV.out.mono ?_
 rintro e w3 ⟨rfl,hE3⟩
 obtain ⟨b0,b1,b2,b3⟩:=cs_e4 hE3 ⟨b0,b1,b2,b3⟩
 have HE3:=Lib.hid (HE2.out.trans hE3)
 have HR3:=Lib.hid (hs_ext hE3 HR.out)
 have HN:=Lib.hid (HNC.out _ HE3.out)
 clear hE3
 go_wp2_with fail
 refine HN.out.mono ?_
 rintro e w4 (⟨hP,v,rfl,hE4,na,nc,rfl,hN4⟩ | ⟨hP,rfl,hE4⟩)
 · obtain ⟨nb,w5,hnb,hw5,HNB,hE5⟩:=box_new w4 (.cells #[.int .i64 N.kind,.string N.name,.int .i64 N.sort,.slice na N.kids.length nc] 33)
   obtain ⟨n0,n1,n2,n3⟩:=box4r HNB.out
   have HE5:=Lib.hid (HE3.out.trans (hE4.trans hE5))
   have HR5:=Lib.hid (hs_ext (hE4.trans hE5) HR3.out)
   have HN5:=Lib.hid (hN4.ext hE5)
   have HV5:=Lib.hid (PValid_any (t:=N) (HVN.out hP).2 HN5.out.tm)
   rw [(HVN.out hP).1] at HV5
   have HPP:=Lib.hid hP
   have HS3:Hid (rb<w3.heap.size):=Lib.hid (Array.getElem?_eq_some_iff.1 HR3.out).1
   clear hE4 hE5 hN4 hP
   go_upto_region 5 with fail
   rw [←hw5,←hnb]
   clear hw5 hnb b0 b1 b2 b3
   go_wp2_with fail
   refine HV5.out.mono ?_
   rintro e w6 ⟨rfl,hE6⟩
   obtain ⟨n0,n1,n2,n3⟩:=cs_e4 hE6 ⟨n0,n1,n2,n3⟩
   have HR6:=Lib.hid (hs_ext hE6 HR5.out)
   have HE6:=Lib.hid (HE5.out.trans hE6)
   have HN6:=Lib.hid (HN5.out.ext hE6)
   clear hE6
   go_wp2_with (refine wpList_storeT rfl (.tmp 2) (.tmp 26) rfl (g:=rb) rfl (k:=N.kind) (s:=N.sort) (n:=N.name) (ka:=na) (kl:=N.kids.length) (kc:=nc) rfl HR6.out rfl ?_)
   intro w9 h9 hoth hE9 hs9
   go_wp2_with fail
   exact ret_term2 (g:=rb) rfl rfl h9 rfl (.inl ⟨HPP.out,_,rfl,hE9 w HE6.out HRS.out,na,nc,rfl,HN6.out.keep (fun c hc _=>hoth c (by have:=HS3.out;omega)) (fun c hc _=>Nat.le_trans HE3.out.size hc)⟩)
 · obtain ⟨nb,w5,hnb,hw5,HNB,hE5⟩:=box_new w4 (.cells #[.int .i64 0,.string ⟨#[]⟩,.int .i64 0,.slice none 0 0] 33)
   have HE5:=Lib.hid (HE3.out.trans (hE4.trans hE5))
   have HR5:=Lib.hid (hs_ext (hE4.trans hE5) HR3.out)
   have HPP:=Lib.hid hP
   clear hE4 hE5 hP
   go_upto_region 5 with fail
   rw [←hw5,←hnb]
   clear hw5 hnb b0 b1 b2 b3
   go_wp2_with (refine wpList_storeT rfl (.tmp 2) (.tmp 24) rfl (g:=rb) rfl (k:=0) (s:=0) (n:=⟨#[]⟩) (ka:=none) (kl:=0) (kc:=0) rfl HR5.out rfl ?_)
   intro w9 h9 hoth hE9 hs9
   go_wp2_with fail
   exact ret_term2 (g:=rb) rfl rfl h9 rfl (.inr ⟨HPP.out,rfl,hE9 w HE5.out HRS.out⟩)
/-- theory.Normal on a tower -/
theorem NormalT_any {w:World} {S:Nat→Prop} {a:Option Addr} {cap:Nat} {Ps:List (List Pw)} (hF:FewT Ps) (h8:Ps.length≤8) (hT:TnW w S a cap (towT Ps)):Calls Tryz.prog 16 #[.agg #[.int .i64 (towT Ps).kind,.string (towT Ps).name,.int .i64 (towT Ps).sort,.slice a (towT Ps).kids.length cap]] w (NorE w (okT Ps) (nfT (prodT Ps))) :=
 NormalG_any (fun w' hE=>ValidG_any (by have:=(tow_err hF).2.1;omega) (tow_valid hF h8) (hT.ext hE).tm.any (fun w2 hE2=>check_tow (fun P hP=>(hF P hP).2) ((hT.ext hE).ext hE2).tm.any)) (fun w' hE=>normal_tow hF (hT.ext hE)) (fun h=>by
  obtain ⟨h1,h2⟩:=nf_valid (prod_good hF) (ok_lits h)
  exact ⟨h1,by omega⟩)

theorem EqualG_any {w:World} {a b:Option Addr} {ac bc:Nat} {t u N:Tm}
 (hA:∀w',Ext w w'→Calls Tryz.prog 16 #[.agg #[.int .i64 t.kind,.string t.name,.int .i64 t.sort,.slice a t.kids.length ac]] w' (NorE w' True N))
 (hB:∀w',Ext w w'→Calls Tryz.prog 16 #[.agg #[.int .i64 u.kind,.string u.name,.int .i64 u.sort,.slice b u.kids.length bc]] w' (NorE w' True N)) (hs:sizeT N≤1000000) (hc:cmpT N N=0) :
 Calls Tryz.prog 12 #[.agg #[.int .i64 t.kind,.string t.name,.int .i64 t.sort,.slice a t.kids.length ac],.agg #[.int .i64 u.kind,.string u.name,.int .i64 u.sort,.slice b u.kids.length bc]] w fun e w'=>e=.returned (.bool true)∧Ext w w':=by
 obtain ⟨bx,w1,hbx,hw1,HB,hE1⟩:=box_new w (.cells #[.int .i64 t.kind,.string t.name,.int .i64 t.sort,.slice a t.kids.length ac] 33)
 obtain ⟨cx,w2,hcx,hw2,HC,hE2⟩:=box_new w1 (.cells #[.int .i64 u.kind,.string u.name,.int .i64 u.sort,.slice b u.kids.length bc] 33)
 have hcx1:cx=bx+1:=by rw [hcx,hw1,World.size_alloc,hbx]
 have hb2:=hs_ext hE2 HB.out
 obtain ⟨b0,b1,b2,b3⟩:=box4r hb2
 obtain ⟨c0,c1,c2,c3⟩:=box4r HC.out
 have HE2:=Lib.hid (hE1.trans hE2)
 have HA:=Lib.hid (hA _ HE2.out)
 have HBB:=Lib.hid hB
 have HS:=Lib.hid (fun (w':World) (a c:Option Addr) (ac cc:Nat) (h1:TnW w' Any a ac N) (h2:TnW w' Any c cc N)=>same_any hs hs h1.tm h2.tm)
 have HCM:Hid ((cmpT N N==0)=true):=Lib.hid (by rw [hc];rfl)
 clear hE1 hE2 hb2 hA hB hs hc
 go_enter Tryz.func12,Tryz.ntmps12
 go_upto_region 1 with fail
 rw [←hw1,←hbx,←hw2,←hcx1]
 clear hw1 hbx hw2 hcx hcx1
 go_wp2_with fail
 refine HA.out.mono ?_
 rintro e w3 (⟨-,v,rfl,hE3,na,nc,rfl,hN3⟩ | ⟨hP,-⟩)
 · obtain ⟨nb,w4,hnb,hw4,HNB,hE4⟩:=box_new w3 (.cells #[.int .i64 N.kind,.string N.name,.int .i64 N.sort,.slice na N.kids.length nc] 33)
   have hE34:=hE3.trans hE4
   obtain ⟨b0,b1,b2,b3,c0,c1,c2,c3⟩:=cs_e8 hE34 ⟨b0,b1,b2,b3,c0,c1,c2,c3⟩
   have HE4:=Lib.hid (HE2.out.trans hE34)
   have HN4:=Lib.hid (hN3.ext hE4)
   have HB4:=Lib.hid (HBB.out _ HE4.out)
   clear hE3 hE4 hE34 hN3
   go_upto_region 2 with fail
   rw [←hw4,←hnb]
   clear hw4 hnb
   go_wp2_with fail
   refine HB4.out.mono ?_
   rintro e w5 (⟨-,v,rfl,hE5,ma,mc,rfl,hN5⟩ | ⟨hP,-⟩)
   · obtain ⟨mb,w6,hmb,hw6,HMB,hE6⟩:=box_new w5 (.cells #[.int .i64 N.kind,.string N.name,.int .i64 N.sort,.slice ma N.kids.length mc] 33)
     have hE56:=hE5.trans hE6
     have hn6:=hs_ext hE56 HNB.out
     obtain ⟨n0,n1,n2,n3⟩:=box4r hn6
     obtain ⟨m0,m1,m2,m3⟩:=box4r HMB.out
     have HE6:=Lib.hid (HE4.out.trans hE56)
     have HSM:=Lib.hid (HS.out w6 na ma nc mc ((HN4.out.ext hE56).wide (fun _ _ _=>trivial)) ((hN5.ext hE6).wide (fun _ _ _=>trivial)))
     rw [HCM.out] at HSM
     clear hE5 hE6 hE56 hN5 hn6 b0 b1 b2 b3 c0 c1 c2 c3
     go_upto_region 3 with fail
     rw [←hw6,←hmb]
     clear hw6 hmb
     go_wp2_with fail
     refine HSM.out.mono ?_
     rintro e w7 ⟨rfl,hE7⟩
     have HE7:=Lib.hid (HE6.out.trans hE7)
     clear hE7
     go_wp2_with fail
     go_ret
     exact ⟨rfl,HE7.out⟩
   · exact absurd trivial hP
 · exact absurd trivial hP
theorem nf_cmp {P:List Pw}:cmpT (nfT P) (nfT P)=0:=(cmpT_zero _ _).2 rfl
/-- theory.Equal on two towers of one product -/
theorem EqualT_any {w:World} {S S':Nat→Prop} {a b:Option Addr} {ac bc:Nat} {Ps Qs:List (List Pw)} (hF:FewT Ps) (h8:Ps.length≤8) (hFQ:FewT Qs) (hq8:Qs.length≤8) (hP:okT Ps) (hQ:okT Qs) (hPQ:prodT Ps=prodT Qs) (hT:TnW w S a ac (towT Ps)) (hU:TnW w S' b bc (towT Qs)) :
 Calls Tryz.prog 12 #[.agg #[.int .i64 (towT Ps).kind,.string (towT Ps).name,.int .i64 (towT Ps).sort,.slice a (towT Ps).kids.length ac],.agg #[.int .i64 (towT Qs).kind,.string (towT Qs).name,.int .i64 (towT Qs).sort,.slice b (towT Qs).kids.length bc]] w fun e w'=>e=.returned (.bool true)∧Ext w w' :=
 EqualG_any (N:=nfT (prodT Ps)) (fun w' hE=>(NormalT_any hF h8 (hT.ext hE)).mono fun e w'' h=>h.congr ⟨fun _=>trivial,fun _=>hP⟩)
  (fun w' hE=>by rw [hPQ];exact (NormalT_any hFQ hq8 (hU.ext hE)).mono fun e w'' h=>h.congr ⟨fun _=>trivial,fun _=>hQ⟩)
  (by have:=(nf_valid (prod_good hF) (ok_lits hP)).2;omega) nf_cmp
end Go.Proofs.YtclijngnoepbiaaGreat
