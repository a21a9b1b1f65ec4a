/- Contracts: sealringref09.normal on towers of powers, Normal. Contract: sealringref09.Normal. -/
import Derived.Test.YtclijngnoepbiaaGreatPw4
set_option maxRecDepth 100000
set_option maxHeartbeats 8000000
namespace Go.Proofs.YtclijngnoepbiaaGreat
open Go Go.RowKit
set_option linter.unusedVariables false
set_option linter.unusedSimpArgs false

theorem rnormal_atom {w:World} {S:Nat→Prop} {a:Option Addr} {cap:Nat} {n:ByteArray} {s:Int} (hT:TnW w S a cap (.mk 2 n s [])):Calls Tryz.prog 31 #[.agg #[.int .i64 2,.string n,.int .i64 s,.slice a 0 cap]] w (NorE w True (.mk 2 n s [])):=by
 obtain ⟨rfl,rfl⟩:=hT.nil rfl
 obtain ⟨bx,w1,hbx,hw1,HB,hE1⟩:=box_new w (.cells #[.int .i64 2,.string n,.int .i64 s,.slice none 0 0] 33)
 obtain ⟨rb,w2,hrb,hw2,HR,hE2⟩:=box_new w1 (.cells #[.int .i64 0,.string ⟨#[]⟩,.int .i64 0,.slice none 0 0] 33)
 have hrb1:rb=bx+1:=by rw [hrb,hw1,World.size_alloc,hbx]
 have hb2:=hs_ext hE2 HB.out
 obtain ⟨b0,b1,b2,b3⟩:=box4r hb2
 obtain ⟨r0,r1,r2,r3⟩:=box4r HR.out
 have f0:w2.frozen? ⟨rb,0,none⟩=false:=frozenc HR.out
 have f1:w2.frozen? ⟨rb,1,none⟩=false:=frozenc HR.out
 have f2:w2.frozen? ⟨rb,2,none⟩=false:=frozenc HR.out
 have f3:w2.frozen? ⟨rb,3,none⟩=false:=frozenc HR.out
 have HE2:=Lib.hid (hE1.trans hE2)
 have HRS:Hid (w.heap.size≤rb):=Lib.hid (by rw [hrb1,hbx];omega)
 have HNM:=Lib.hid (And.intro hT.name hT.sort)
 clear hE1 hE2 hb2 hT
 go_enter Tryz.func31,Tryz.ntmps31
 go_upto_region 1 with fail
 rw [←hw1,←hbx,←hw2,←hrb1]
 clear hw1 hbx hw2 hrb1 hrb
 go_wp2_with fail
 refine ret_term2 (g:=rb) rfl rfl (set4s_box _ _ _ _ HR.out).1 rfl ?_
 exact .inl ⟨trivial,_,rfl,(set4s_box _ _ _ _ HR.out).2 _ HE2.out HRS.out,none,0,rfl,tn_atom HNM.out.1 HNM.out.2⟩
/-- the reference's product at a node whose kids are literals of a product -/
theorem rprod_tail {Ns:List Tm} {n:ByteArray} {P:List Pw} {ls:List Lit} (hn:n=mulN∨n=invN∨n=oneN) (gP:Good P) (p8:(litsP P).length≤8) (hls:ls=litsP P) (he:appTm n Ns=expT ls):TailR Ns n True (expT (litsP P)) :=
 .mul hn (fun w' S' va vc hT'=>by
  have h:=rproduct_any (w:=w') (v:=.bool true) (t:=appTm n Ns) (a:=va) (cap:=vc) gP (lits_rng p8) (fun w2 hE2=>by
   have h:=ROf_any (ls:=ls) (by rw [hls];exact lits_six gP) (by rw [hls];exact p8) (by rw [←he];exact hT'.ext hE2)
   rw [hls,addLs_lits gP,←hls,←he] at h
   exact h)
  exact h.mono fun e w' h=>h.congr ⟨fun _=>trivial,fun _=>p8⟩)
theorem rnormal_lit {w:World} {S:Nat→Prop} {a:Option Addr} {cap:Nat} {l:Lit} (h6:l.1<6) (hT:TnW w S a cap (litT l)):Calls Tryz.prog 31 #[.agg #[.int .i64 (litT l).kind,.string (litT l).name,.int .i64 (litT l).sort,.slice a (litT l).kids.length cap]] w (NorE w True (litT l)):=by
 obtain ⟨i,b⟩:=l
 cases b with
 | false=>exact rnormal_atom hT
 | true =>
   have hi:i<6:=h6
   have hls:litsP [(i,(-1:Int))]=[(i,true)]:=rfl
   have hadd:addLs [] [(i,true)]=[(i,(-1:Int))]:=rfl
   have hG:Good [(i,(-1:Int))]:=⟨by simp,fun p hp=>by rw [List.mem_singleton.1 hp];exact hi,fun p hp=>by rw [List.mem_singleton.1 hp];show (-1:Int)≠0;omega⟩
   have h:=rnormal_node (w:=w) (S:=S) (a:=a) (cap:=cap) (l:=1) (n:=invN) (ks:=[atmT i]) (Ns:=[atmT i]) (Pk:=fun _=>True) (R:=True) (N:=expT (litsP [(i,(-1:Int))])) rokInv rfl rfl (by omega)
    (fun _=>rprod_tail (.inr (.inl rfl)) hG (by rw [hls];show 1≤8;omega) hls.symm rfl) hT
    (fun k x nx hx hnx w' ka kc hTx=>by
      rw [hx] at hnx
      cases hnx
      match k,hx with
      | 0,hx=>cases hx;exact rnormal_atom hTx
      | k+1,hx=>simp at hx)
   rw [hls] at h
   exact h.mono fun e w' h=>h.congr ⟨fun _=>trivial,fun _=>⟨fun _ _=>trivial,trivial⟩⟩
theorem rnormal_exp {w:World} {S:Nat→Prop} {a:Option Addr} {cap:Nat} {P:List Pw} (gP:Good P) (p8:(litsP P).length≤8) (hT:TnW w S a cap (expT (litsP P))):Calls Tryz.prog 31 #[.agg #[.int .i64 (expT (litsP P)).kind,.string (expT (litsP P)).name,.int .i64 (expT (litsP P)).sort,.slice a (expT (litsP P)).kids.length cap]] w (NorE w True (expT (litsP P))):=by
 have hl6:=lits_six gP
 have hadd:=addLs_lits gP
 have hrng:=lits_rng p8
 have hp8:=p8
 obtain ⟨ls,hls⟩:∃ls,ls=litsP P:=⟨_,rfl⟩
 rw [←hls] at hT hl6 hadd p8 ⊢
 have hfin:∀(n:ByteArray) (ks:List Tm) (l:Nat),OkR n l→(n=mulN∨n=invN∨n=oneN)→appTm n ks=expT ls→ks.length=l→l≤8→(∀(k:Nat) x,ks[k]?=some x→∃y,y.1<6∧x=litT y) →
  TnW w S a cap (appTm n ks)→Calls Tryz.prog 31 #[.agg #[.int .i64 3,.string n,.int .i64 0,.slice a l cap]] w (NorE w True (expT ls)):=by
  intro n ks l hok hn hexp hl h8 hks hT
  have h:=rnormal_node (w:=w) (S:=S) (a:=a) (cap:=cap) (l:=l) (n:=n) (ks:=ks) (Ns:=ks) (Pk:=fun _=>True) (R:=True) (N:=expT (litsP P)) hok hl hl h8
   (fun _=>rprod_tail hn gP hp8 hls hexp) hT
   (fun k x nx hx hnx w' ka kc hTx=>by
     rw [hx] at hnx
     cases hnx
     obtain ⟨y,hy,rfl⟩:=hks k x hx
     exact rnormal_lit hy hTx)
  rw [←hls] at h
  exact h.mono fun e w' h=>h.congr ⟨fun _=>trivial,fun _=>⟨fun _ _=>trivial,trivial⟩⟩
 match ls,hls,hT,hl6,hadd,p8,hfin with
 | [],hls,hT,hl6,hadd,p8,hfin=>exact hfin oneN [] 0 rokOne (.inr (.inr rfl)) rfl rfl (by omega) (fun k x hx=>by simp at hx) hT
 | [l],hls,hT,hl6,hadd,p8,hfin=>exact rnormal_lit (hl6 l (List.mem_cons_self ..)) hT
 | l :: l' :: ls,hls,hT,hl6,hadd,p8,hfin =>
   have h:=hfin mulN ((l :: l' :: ls).map litT) (l :: l' :: ls).length (rokMul (by simp only [List.length_cons];omega) p8) (.inl rfl) rfl (by rw [List.length_map]) p8 (fun k x hx=>by
    obtain ⟨y,hy,rfl⟩:=List.mem_map.1 (List.mem_of_getElem? hx)
    exact ⟨y,hl6 y hy,rfl⟩) hT
   have hk:(appTm mulN ((l :: l' :: ls).map litT)).kids.length=(l :: l' :: ls).length:=by show ((l :: l' :: ls).map litT).length=_;rw [List.length_map]
   show Calls Tryz.prog 31 #[.agg #[.int .i64 3,.string mulN,.int .i64 0,.slice a (appTm mulN ((l :: l' :: ls).map litT)).kids.length cap]] w _
   rw [hk]
   exact h
theorem rnormal_tow:∀{Ps:List (List Pw)},FewT Ps→∀{w:World} {S:Nat→Prop} {a:Option Addr} {cap:Nat},TnW w S a cap (towT Ps)→Calls Tryz.prog 31 #[.agg #[.int .i64 (towT Ps).kind,.string (towT Ps).name,.int .i64 (towT Ps).sort,.slice a (towT Ps).kids.length cap]] w (NorE w (okT Ps) (nfT (prodT Ps))):=by
 intro Ps
 induction Ps with
 | nil =>
   intro _ w S a cap hT
   exact rnormal_atom hT
 | cons P Ps ih =>
   intro hF w S a cap hT
   have hF2:FewT Ps:=fun Q hQ=>hF Q (List.mem_cons_of_mem _ hQ)
   obtain ⟨gP,p8⟩:=hF P (List.mem_cons_self ..)
   have h:=rnormal_node (w:=w) (S:=S) (a:=a) (cap:=cap) (l:=2) (n:=expN) (ks:=[towT Ps,expT (litsP P)]) (Ns:=[nfT (prodT Ps),expT (litsP P)]) (Pk:=fun i=>i=0→okT Ps) (R:=(litsP (mulP (prodT Ps) P)).length≤8) (N:=nfT (mulP (prodT Ps) P)) rokExp rfl rfl (by omega)
    (fun hP=>.exp rfl (fun w' S' va vb vac vbc hA hB=>rpowerT_any (prod_good hF2) gP (ok_lits (hP 0 (by omega) rfl)) p8 hA hB)) hT
    (fun k x nx hx hnx w' ka kc hTx=>by
      match k,hx,hnx with
      | 0,hx,hnx=>cases hx;cases hnx;exact (ih hF2 hTx).mono fun e w' h=>h.congr ⟨fun h _=>h,fun h=>h rfl⟩
      | 1,hx,hnx=>cases hx;cases hnx;exact (rnormal_exp gP p8 hTx).mono fun e w' h=>h.congr ⟨fun _ h=>absurd h (by omega),fun _=>trivial⟩
      | k+2,hx,_=>simp at hx)
   exact h.mono fun e w' h=>h.congr ⟨fun h=>⟨h.1 0 (by omega) rfl,h.2⟩,fun h=>⟨fun _ _ _=>h.1,h.2⟩⟩

theorem RNormalG_any {w:World} {a:Option Addr} {cap:Nat} {t N:Tm} {P:Prop}
 (hV:∀w',Ext w w'→Calls Tryz.prog 30 #[.agg #[.int .i64 t.kind,.string t.name,.int .i64 t.sort,.slice a t.kids.length cap]] w' fun e w''=>e=.returned (.int .i64 0)∧Ext w' w'')
 (hN:∀w',Ext w w'→Calls Tryz.prog 31 #[.agg #[.int .i64 t.kind,.string t.name,.int .i64 t.sort,.slice a t.kids.length cap]] w' (NorE w' P N)) (hv:P→validT N=0∧sizeT N≤1000000) :
 Calls Tryz.prog 11 #[.agg #[.int .i64 t.kind,.string t.name,.int .i64 t.sort,.slice a t.kids.length cap]] w (NorE w P N):=by
 obtain ⟨bx,w1,hbx,hw1,HB,hE1⟩:=box_new w (.cells #[.int .i64 t.kind,.string t.name,.int .i64 t.sort,.slice a t.kids.length cap] 33)
 obtain ⟨rb,w2,hrb,hw2,HR,hE2⟩:=box_new w1 (.cells #[.int .i64 0,.string ⟨#[]⟩,.int .i64 0,.slice none 0 0] 33)
 have hrb1:rb=bx+1:=by rw [hrb,hw1,World.size_alloc,hbx]
 have HB2:=Lib.hid (hs_ext hE2 HB.out)
 obtain ⟨b0,b1,b2,b3⟩:=box4r HB2.out
 have HE2:=Lib.hid (hE1.trans hE2)
 have HRS:Hid (w.heap.size≤rb):=Lib.hid (by rw [hrb1,hbx];omega)
 have HV:=Lib.hid (hV _ HE2.out)
 have HNC:=Lib.hid hN
 have HVN:=Lib.hid hv
 clear hE1 hE2 hV hN hv
 go_enter Tryz.func11,Tryz.ntmps11
 go_upto_region 1 with fail
 rw [←hw1,←hbx,←hw2,←hrb1]
 clear hw1 hbx hw2 hrb1 hrb
 go_wp2_with fail
 refine HV.out.mono ?_
 rintro e w3 ⟨rfl,hE3⟩
 obtain ⟨b0,b1,b2,b3⟩:=cs_e4 hE3 ⟨b0,b1,b2,b3⟩
 have HE3:=Lib.hid (HE2.out.trans hE3)
 have HR3:=Lib.hid (hs_ext hE3 HR.out)
 have HN:=Lib.hid (HNC.out _ HE3.out)
 clear hE3
 go_wp2_with fail
 refine HN.out.mono ?_
 rintro e w4 (⟨hP,v,rfl,hE4,na,nc,rfl,hN4⟩ | ⟨hP,rfl,hE4⟩)
 · obtain ⟨nb,w5,hnb,hw5,HNB,hE5⟩:=box_new w4 (.cells #[.int .i64 N.kind,.string N.name,.int .i64 N.sort,.slice na N.kids.length nc] 33)
   obtain ⟨n0,n1,n2,n3⟩:=box4r HNB.out
   have HE5:=Lib.hid (HE3.out.trans (hE4.trans hE5))
   have HR5:=Lib.hid (hs_ext (hE4.trans hE5) HR3.out)
   have HN5:=Lib.hid (hN4.ext hE5)
   have HV5:=Lib.hid (RValid_any (t:=N) (HVN.out hP).2 HN5.out.tm)
   rw [(HVN.out hP).1] at HV5
   have HPP:=Lib.hid hP
   have HS3:Hid (rb<w3.heap.size):=Lib.hid (Array.getElem?_eq_some_iff.1 HR3.out).1
   clear hE4 hE5 hN4 hP
   go_upto_region 5 with fail
   rw [←hw5,←hnb]
   clear hw5 hnb b0 b1 b2 b3
   go_wp2_with fail
   refine HV5.out.mono ?_
   rintro e w6 ⟨rfl,hE6⟩
   obtain ⟨n0,n1,n2,n3⟩:=cs_e4 hE6 ⟨n0,n1,n2,n3⟩
   have HR6:=Lib.hid (hs_ext hE6 HR5.out)
   have HE6:=Lib.hid (HE5.out.trans hE6)
   have HN6:=Lib.hid (HN5.out.ext hE6)
   clear hE6
   go_wp2_with (refine wpList_storeT rfl (.tmp 2) (.tmp 29) rfl (g:=rb) rfl (k:=N.kind) (s:=N.sort) (n:=N.name) (ka:=na) (kl:=N.kids.length) (kc:=nc) rfl HR6.out rfl ?_)
   intro w9 h9 hoth hE9 hs9
   go_wp2_with fail
   exact ret_term2 (g:=rb) rfl rfl h9 rfl (.inl ⟨HPP.out,_,rfl,hE9 w HE6.out HRS.out,na,nc,rfl,HN6.out.keep (fun c hc _=>hoth c (by have:=HS3.out;omega)) (fun c hc _=>Nat.le_trans HE3.out.size hc)⟩)
 · obtain ⟨nb,w5,hnb,hw5,HNB,hE5⟩:=box_new w4 (.cells #[.int .i64 0,.string ⟨#[]⟩,.int .i64 0,.slice none 0 0] 33)
   have HE5:=Lib.hid (HE3.out.trans (hE4.trans hE5))
   have HR5:=Lib.hid (hs_ext (hE4.trans hE5) HR3.out)
   have HPP:=Lib.hid hP
   clear hE4 hE5 hP
   go_upto_region 5 with fail
   rw [←hw5,←hnb]
   clear hw5 hnb b0 b1 b2 b3
   go_wp2_with (refine wpList_storeT rfl (.tmp 2) (.tmp 21) rfl (g:=rb) rfl (k:=0) (s:=0) (n:=⟨#[]⟩) (ka:=none) (kl:=0) (kc:=0) rfl HR5.out rfl ?_)
   intro w9 h9 hoth hE9 hs9
   go_wp2_with fail
   exact ret_term2 (g:=rb) rfl rfl h9 rfl (.inr ⟨HPP.out,rfl,hE9 w HE5.out HRS.out⟩)
/-- sealringref09.Normal on a tower -/
theorem RNormalT_any {w:World} {S:Nat→Prop} {a:Option Addr} {cap:Nat} {Ps:List (List Pw)} (hF:FewT Ps) (h8:Ps.length≤8) (hT:TnW w S a cap (towT Ps)):Calls Tryz.prog 11 #[.agg #[.int .i64 (towT Ps).kind,.string (towT Ps).name,.int .i64 (towT Ps).sort,.slice a (towT Ps).kids.length cap]] w (NorE w (okT Ps) (nfT (prodT Ps))) :=
 RNormalG_any (fun w' hE=>RValidG_any (by have:=(tow_err hF).2.1;omega) (tow_valid hF h8) (hT.ext hE).tm.any (fun w2 hE2=>rnodes_tow (fun P hP=>(hF P hP).2) ((hT.ext hE).ext hE2).tm.any)) (fun w' hE=>rnormal_tow hF (hT.ext hE)) (fun h=>by
  obtain ⟨h1,h2⟩:=nf_valid (prod_good hF) (ok_lits h)
  exact ⟨h1,by omega⟩)
end Go.Proofs.YtclijngnoepbiaaGreat
