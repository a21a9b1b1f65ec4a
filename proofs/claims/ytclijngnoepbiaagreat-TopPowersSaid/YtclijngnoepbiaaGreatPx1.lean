/- The law TopPowers: its walk. The law TopPowers: its walk. -/
import Derived.Test.YtclijngnoepbiaaGreatPw9
set_option maxRecDepth 100000
set_option maxHeartbeats 8000000
namespace Go.Proofs.YtclijngnoepbiaaGreat
open Go Go.RowKit
set_option linter.unusedVariables false
set_option linter.unusedSimpArgs false

theorem exp_two {w:World} {lb:Nat} {A B:Tm} {S:Nat→Prop} {a b:Option Addr} {ac bc:Nat} (h:w.heap[lb]?=some (.cells #[.int .i64 A.kind,.string A.name,.int .i64 A.sort,.slice a A.kids.length ac,.int .i64 B.kind,.string B.name,.int .i64 B.sort,.slice b B.kids.length bc] 33))
 (hA:TnW w S a ac A) (hB:TnW w S b bc B) (hS:S lb):Calls Tryz.prog 10 #[.string ⟨#[101,120,112]⟩,.slice (some ⟨lb,0,none⟩) 2 2] w fun e w'=>∃a' c',e=.returned (.agg #[.int .i64 3,.string expN,.int .i64 0,.slice a' 2 c'])∧Ext w w'∧TnW w' (NewS S w.heap.size) a' c' (appTm expN [A,B]):=by
 have h:=rappN (w:=w) (S:=S) (n:=expN) (a:=some ⟨lb,0,none⟩) (cap:=2) (L:=[A,B]) (by show 3≤maxLen;unfold maxLen;omega) (by simp) (cells_lsG (P:=[(A,encE ⟨A,a,ac⟩),(B,encE ⟨B,b,bc⟩)]) h rfl rfl rfl (by simp [maxLen]) hS (by
  intro p hp
  rcases List.mem_cons.1 hp with rfl | hp
  · exact ⟨a,ac,rfl,hA⟩
  · rw [List.mem_singleton.1 hp];exact ⟨b,bc,rfl,hB⟩))
 exact h.mono fun e w' ⟨u,he,hE,a',c',hu,hT⟩=>⟨a',c',by rw [he,hu];rfl,hE,hT⟩
theorem i64At {w:World} {S:Nat→Prop} {a:Option Addr} {L:List Int} {cap q:Nat} {x:Int} (h:LsG elI w S (.slice a L.length cap) L) (hq:L[q]?=some x):∃b off,a=some ⟨b,off,none⟩∧w.cell? ⟨b,off+q,none⟩=some (.int .i64 x):=by
 obtain ⟨b,off,cs,rfl,-,hlt,⟨rfl,h6⟩,hcs⟩:=h.at hq
 have:=hcs 0 _ rfl
 rw [show off+q*elI.n+0=off+q from by show off+q*1+0=_;omega] at this
 exact ⟨b,off,rfl,this⟩
theorem prod_one {m:List Pw} (gm:Good m):prodT [m]=m:=by
 show mulP [] m=m
 obtain ⟨h1,h2⟩:=mulP_spec Good.nil gm
 exact Good.uniq h1 gm (fun i=>by rw [h2];show 0+cf m i=cf m i;omega)
/-- the tower under way: what is still to come -/
def LeftP (LL:List (List Pw)) (C:List Int) (m:List Pw) (k:Nat) (Ps:List (List Pw)):Prop :=
 FewT Ps∧Ps.length=k∧∀i,cf (prodT Ps) i+dot (C.drop k) ((LL.drop k).map fun L=>cf L i)=cf m i
theorem LeftP.init {LL:List (List Pw)} {C:List Int} {m:List Pw} (h:Comb LL m C):LeftP LL C m 0 [] :=
 ⟨fun P hP=>by simp at hP,rfl,fun i=>by rw [h.2 i];show 0+_=_;rw [Int.zero_add];rfl⟩
theorem LeftP.next {LL:List (List Pw)} {C:List Int} {m:List Pw} {k:Nat} {Ps:List (List Pw)} {L:List Pw} {n:Int} (h:LeftP LL C m k Ps) (hL:LL[k]?=some L) (hn:C[k]?=some n) (gL:Good L) (h8:(litsP (timesP L n)).length≤8):LeftP LL C m (k+1) (timesP L n :: Ps):=by
 obtain ⟨h1,h2,h3⟩:=h
 obtain ⟨g1,g2⟩:=timesP_spec gL n
 refine ⟨fun P hP=>?_,by simp;omega,fun i=>?_⟩
 · rcases List.mem_cons.1 hP with rfl | hP
   · exact ⟨g1,h8⟩
   · exact h1 P hP
 · have e1:C.drop k=n :: C.drop (k+1):=by
    rw [List.drop_eq_getElem_cons (List.getElem?_eq_some_iff.1 hn).1,(List.getElem?_eq_some_iff.1 hn).2]
   have e2:LL.drop k=L :: LL.drop (k+1):=by
    rw [List.drop_eq_getElem_cons (List.getElem?_eq_some_iff.1 hL).1,(List.getElem?_eq_some_iff.1 hL).2]
   have h:=h3 i
   rw [e1,e2,List.map_cons,dot_cons] at h
   show cf (mulP (prodT Ps) (timesP L n)) i+_=_
   rw [(mulP_spec (prod_good h1) g1).2,g2]
   omega
theorem LeftP.done {LL:List (List Pw)} {C:List Int} {m:List Pw} {k:Nat} {Ps:List (List Pw)} (h:LeftP LL C m k Ps) (hk:C.length≤k) (gm:Good m):prodT Ps=prodT [m]:=by
 rw [prod_one gm]
 refine Good.uniq (prod_good h.1) gm (fun i=>?_)
 have:=h.2.2 i
 rw [List.drop_eq_nil_of_le hk] at this
 have e:dot [] ((LL.drop k).map fun L=>cf L i)=0:=by cases (LL.drop k)<;>rfl
 rw [e] at this
 omega

theorem law_powers {w:World} {S1 S2 S3:Nat→Prop} {da xa ra:Option Addr} {dc xc rc:Nat} {D:List (List Int)} {X R:List Int} (hD:LsG (elL elI8) w S1 (.slice da D.length dc) D) (hX:LsG elI8 w S2 (.slice xa X.length xc) X) (hR:LsG elI8 w S3 (.slice ra R.length rc) R) :
 Calls Tryz.prog 3 #[.agg #[.slice da D.length dc,.slice xa X.length xc,.slice ra R.length rc]] w fun e w'=>e=.returned (.bool true)∧Ext w w':=by
 obtain ⟨db,w1,hdb,hw1,HBX,hE1⟩:=box_new w (.cells #[.slice da D.length dc,.slice xa X.length xc,.slice ra R.length rc] 25)
 have HAW:=Lib.hid (fun (w':World)=>awake10_any (w:=w'))
 have HD:=Lib.hid (hD.ext hE1)
 have HX:=Lib.hid (hX.ext hE1)
 have HR:=Lib.hid (hR.ext hE1)
 have HE1:=Lib.hid hE1
 clear hE1 hD hX hR
 go_enter Tryz.func3,Tryz.ntmps3
 go_upto_region 1 with fail
 rw [←hw1,←hdb]
 clear hw1 hdb
 go_wp2_with fail
 refine (HAW.out _).mono ?_
 rintro e w2 ⟨rfl,hE2⟩
 have HB2:=Lib.hid (hs_ext hE2 HBX.out)
 have d0:w2.cell? ⟨db,0,none⟩=some (.slice da D.length dc):=by rw [cellc HB2.out];rfl
 have d1:w2.cell? ⟨db,1,none⟩=some (.slice xa X.length xc):=by rw [cellc HB2.out];rfl
 have d2:w2.cell? ⟨db,2,none⟩=some (.slice ra R.length rc):=by rw [cellc HB2.out];rfl
 have HALL:=Lib.hid (RAll6_any (HD.out.ext hE2) (HX.out.ext hE2) (HR.out.ext hE2))
 have HE2:=Lib.hid (HE1.out.trans hE2)
 clear hE2
 go_wp2_with fail
 refine HALL.out.mono ?_
 rintro e w3 ⟨va,ma,vc,mc,LL,m,rfl,hE3,hL3,hm3,gL,gm,rm⟩
 have HAT:=Lib.hid (fun (w':World)=>Atom_any (w:=w') (n:=⟨#[103]⟩) (k:=4) (by decide) (by unfold I64;omega))
 have HE3:=Lib.hid (HE2.out.trans hE3)
 have HL3:=Lib.hid hL3
 have HM3:=Lib.hid hm3
 have HGG:=Lib.hid (And.intro gL (And.intro gm rm))
 clear hE3 hL3 hm3 gL gm rm d0 d1 d2
 go_wp2_with fail
 refine (HAT.out _).mono ?_
 rintro e w4 ⟨rfl,hE4⟩
 obtain ⟨gb,w5,hgb,hw5,HGB,hE5⟩:=box_new w4 (.cells #[.int .i64 2,.string ⟨#[103]⟩,.int .i64 4,.slice none 0 0] 33)
 have hE45:=hE4.trans hE5
 have HE5:=Lib.hid (HE3.out.trans hE45)
 have HL5:=Lib.hid (HL3.out.ext hE45)
 have HM5:=Lib.hid (HM3.out.ext hE45)
 have HMB:=Lib.hid (PMember_any HL5.out HM5.out HGG.out.1 HGG.out.2.1 HGG.out.2.2)
 clear hE4 hE5 hE45
 go_upto_region 5 with fail
 rw [←hw5,←hgb]
 clear hw5 hgb
 go_wp2_with fail
 refine HMB.out.mono ?_
 intro e w6 h6
 rcases h6 with ⟨rfl,hE6⟩ | ⟨rfl,hE6,hno⟩ | ⟨cv,C,rfl,hE6,hC,hB40,hO6⟩
 · have HE6:=Lib.hid (HE5.out.trans hE6)
   clear hE6
   go_wp2_with fail
   go_ret
   exact ⟨rfl,HE6.out⟩
 · have HE6:=Lib.hid (HE5.out.trans hE6)
   have HNO:=Lib.hid hno
   have HRF:=Lib.hid (eRefute_any (HL5.out.ext hE6) (HM5.out.ext hE6) HGG.out.1 HGG.out.2.1 HGG.out.2.2)
   have HL6:=Lib.hid (HL5.out.ext hE6)
   have HM6:=Lib.hid (HM5.out.ext hE6)
   clear hE6 hno
   go_wp2_with fail
   refine HRF.out.mono ?_
   intro e w7 h7
   rcases h7 with ⟨rfl,hE7⟩ | ⟨rfl,hE7,hyes⟩ | ⟨M,vv,V,Y,rfl,hE7,hCP,hY6,hRV,hO7⟩
   · have HE7:=Lib.hid (HE6.out.trans hE7)
     clear hE7
     go_wp2_with fail
     go_ret
     exact ⟨rfl,by repeat (first | exact HE7.out | apply Ext.then_dr | (refine Ext.then_al ?_ _))⟩
   · exact absurd hyes (fun ⟨C,hC⟩=>HNO.out C hC)
   · obtain ⟨hv1,hv2,hM1,hM2,hg,hm⟩:=hRV
     have hCL:=chrL_of hCP.asc hY6 hv1 hv2
     obtain ⟨CC,hCC⟩:∃CC,CC=chrQ (Y.zip V) Y.length:=⟨_,rfl⟩
     rw [←hCC] at hO7 hCL
     obtain ⟨vva,vvc,rfl,-,-⟩:=hO7.slice
     obtain ⟨cb,w8,hcb,hw8,HCB,hE8⟩:=box_new w7 (.cells #[.int .i64 M,.slice vva CC.length vvc] 47)
     have c0:w8.cell? ⟨cb,0,none⟩=some (.int .i64 M):=by rw [cellc HCB.out];rfl
     have c1:w8.cell? ⟨cb,1,none⟩=some (.slice vva CC.length vvc):=by rw [cellc HCB.out];rfl
     have HCR:=Lib.hid (checkRefute_any (HL6.out.ext (hE7.trans hE8)) (HM6.out.ext (hE7.trans hE8)) HGG.out.1 HGG.out.2.1 HGG.out.2.2 (hO7.any.ext hE8) hCL.good ⟨hM1,hM2⟩ hCL.rng
      (fun L hL=>by
        rw [pairS_dot hCP.asc (HGG.out.1.all L hL).1 (fun p hp=>(hCP.mem p.1).2 ⟨L,List.mem_append_left _ hL,p,hp,rfl⟩),hCL.val]
        exact hg _ (List.mem_map_of_mem hL))
      (fun h=>hm (by
        rw [pairS_dot hCP.asc HGG.out.2.1 (fun p hp=>(hCP.mem p.1).2 ⟨m,List.mem_append_right _ (List.mem_singleton.2 rfl),p,hp,rfl⟩),hCL.val] at h
        exact h)))
     have HE8:=Lib.hid (HE6.out.trans (hE7.trans hE8))
     clear hE7 hE8 hO7 hCL hCC hg hm hv1 hv2 hCP hY6
     go_upto_region 27 with fail
     rw [←hw8,←hcb]
     clear hw8 hcb
     go_wp2_with fail
     refine HCR.out.mono ?_
     rintro e w9 ⟨rfl,hE9⟩
     have HE9:=Lib.hid (HE8.out.trans hE9)
     clear hE9
     go_wp2_with fail
     go_ret
     exact ⟨rfl,HE9.out⟩
 · obtain ⟨ca, cc,rfl,hcl,hcm⟩:=id hO6.slice
   have hlen:=hC.1
   have HLN:=Lib.hid hlen
   have g1:((C.length:Int) != (LL.length:Int))=false:=by rw [hlen];simp
   have g2:((C.length:Int)==(LL.length:Int))=true:=by rw [hlen];simp
   have HE6:=Lib.hid (HE5.out.trans hE6)
   have HL6:=Lib.hid (HL5.out.ext hE6)
   have HGB6:=Lib.hid (hs_ext hE6 HGB.out)
   have HC6:=Lib.hid (hO6.any)
   have HCO:=Lib.hid (And.intro hC hB40)
   have HTM:=Lib.hid (PTermP_any (HM5.out.ext hE6) HGG.out.2.1 HGG.out.2.2)
   unfold maxLen at hcm
   clear hE6 hO6 hC hB40 hlen
   go_wp2_with fail
   refine HTM.out.mono ?_
   intro e w7 h7
   rcases h7 with ⟨h8,v,rfl,hE7,ta,tc,rfl,hT7⟩ | ⟨h8,rfl,hE7⟩
   · obtain ⟨tb,w8,htb,hw8,HTB,hE8⟩:=box_new w7 (.cells #[.int .i64 (expT (litsP m)).kind,.string (expT (litsP m)).name,.int .i64 (expT (litsP m)).sort,.slice ta (expT (litsP m)).kids.length tc] 33)
     have hE78:=hE7.trans hE8
     have HE8:=Lib.hid (HE6.out.trans hE78)
     have HL8:=Lib.hid (HL6.out.ext hE78)
     have HGB8:=Lib.hid (hs_ext hE78 HGB6.out)
     have HC8:=Lib.hid (HC6.out.ext hE78)
     have HT8:=Lib.hid (And.intro h8 (hT7.ext hE8))
     clear hE7 hE8 hE78 hT7 h8
     obtain ⟨ub,w9,hub,hw9,HUB,hE9⟩:=box_new w8 (.cells #[.int .i64 2,.string ⟨#[103]⟩,.int .i64 4,.slice none 0 0] 33)
     have HUS:Hid (ub=w8.heap.size):=Lib.hid hub
     have HE89:=Lib.hid hE9
     clear hE9
     obtain ⟨g0,g3,g4,g5⟩:=box4r HGB8.out
     go_upto_region 9 with fail
     rw [←hw8,←htb]
     clear hw8 htb
     go_upto_region 12 with fail
     rw [←hw9,←hub]
     clear hw9 hub g0 g3 g4 g5
     go_upto_region 13 with fail
     go_loopw [11,12,13,14,15,16,60] (fun _ _ _ _ _ _ iv wr=>∃(k:Nat) (Ps:List (List Pw)) (ua:Option Addr) (uc:Nat),iv=.int .i64 k∧k≤C.length∧Hid (Ext w8 wr)∧Hid (wr.heap[ub]?=some (.cells #[.int .i64 (towT Ps).kind,.string (towT Ps).name,.int .i64 (towT Ps).sort,.slice ua (towT Ps).kids.length uc] 33))∧Hid (TnW wr (fun c=>c≠ub) ua uc (towT Ps))∧Hid (LeftP LL C m k Ps)) (fun _ _ _ _ _ _ iv _=>C.length-(intOf iv).toNat)
     case atStart=>exact ⟨0,[],none,0,rfl,by omega,HE89,HUB,Lib.hid g_tn,Lib.hid (LeftP.init HCO.out.1)⟩
     case round =>
      obtain ⟨k,Ps,ua,uc,rfl,hk,HE,HU,HT,HLP⟩:=hrel
      obtain ⟨U,hU⟩:∃U,U=towT Ps:=⟨_,rfl⟩
      rw [←hU] at HU HT
      have HUE:=Lib.hid hU
      clear hU
      obtain ⟨u0,u1,u2,u3⟩:=box4r HU.out
      by_cases hlt:k<C.length
      · have hki:(k:Int)<(C.length:Int):=by omega
        have hk0:(0:Int)≤(k:Int):=by omega
        have wk:IntKind.i64.wrap ((k:Int)+1)=((k+1:Nat):Int):=by rw [IntKind.wrap_i64];omega
        have hkl:(k:Int)<(LL.length:Int):=by have:=HLN.out;omega
        obtain ⟨n,hn⟩:∃n,C[k]?=some n:=⟨_,List.getElem?_eq_getElem hlt⟩
        obtain ⟨L,hL⟩:∃L,LL[k]?=some L:=⟨_,List.getElem?_eq_getElem (by have:=HLN.out;omega)⟩
        obtain ⟨cb,co,rfl,p0⟩:=i64At (HC8.out.ext HE.out) hn
        obtain ⟨lb,lo,la,lc,rfl,q0,hLr⟩:=elAtL (HL8.out.ext HE.out) hL
        obtain ⟨gLk,rLk⟩:=HGG.out.1.all L (List.mem_of_getElem? hL)
        have HTI:Hid (Calls Tryz.prog 9 #[.slice la L.length lc,.int .i64 n] wr fun e w'=>∃(P:List Pw) (a:Option Addr) (c:Nat) (er:Int),e=.returned (.tuple #[.slice a P.length c,.int .i64 er])∧Ext wr w'∧LsG elPw w' (fun _=>True) (.slice a P.length c) P∧Good P∧Rng 1000 P∧(er=0∧P=timesP L n∨er=7)):=Lib.hid (by
         have hnil:∀w':World,LsG elPw w' (fun _=>True) (.slice none ([]:List Pw).length 0) []:=fun w'=>⟨none,0,rfl,Nat.le_refl _,by show 0≤maxLen;unfold maxLen;omega,fun i x h=>by simp at h⟩
         by_cases hr:-1000≤n∧n≤1000
         · refine (PTimes_any hLr gLk rLk hr).mono fun e w' ⟨hE,h⟩=>?_
           rcases h with ⟨hR,a,c,rfl,hP⟩ | ⟨hR,rfl⟩
           · exact ⟨_,a,c,0,rfl,hE,hP,(timesP_spec gLk n).1,hR,.inl ⟨rfl,rfl⟩⟩
           · exact ⟨[],none,0,7,rfl,hE,hnil w',Good.nil,fun p hp=>by simp at hp,.inr rfl⟩
         · refine (PTimes_out hLr gLk rLk (by omega)).mono fun e w' ⟨he,hE⟩=>?_
           exact ⟨[],none,0,7,he,hE,hnil w',Good.nil,fun p hp=>by simp at hp,.inr rfl⟩)
        have HLK:=Lib.hid (And.intro hL (And.intro hn gLk))
        clear hLr gLk rLk hn hL
        go_wp2_with fail
        refine HTI.out.mono ?_
        rintro e w10 ⟨P,pa,pc,er,rfl,hE10,hP10,gP,rP,her⟩
        have HTE:=Lib.hid (PTermP_any hP10 gP rP)
        have HE10:=Lib.hid (HE.out.trans hE10)
        have HU10:=Lib.hid (hs_ext hE10 HU.out)
        have HT10:=Lib.hid (HT.out.ext hE10)
        have HER:=Lib.hid her
        clear hE10 hP10 gP rP her p0 q0 u0 u1 u2 u3
        go_wp2_with fail
        refine HTE.out.mono ?_
        intro e w11 h11
        rcases h11 with ⟨h8,v,rfl,hE11,ya,yc,rfl,hT11⟩ | ⟨h8,rfl,hE11⟩
        · rcases HER.out with ⟨rfl,hPe⟩ | rfl
          · obtain ⟨Y,hY⟩:∃Y,Y=expT (litsP P):=⟨_,rfl⟩
            have HYE:Hid (Y=expT (litsP P)∧P=timesP L n∧(litsP P).length≤8):=Lib.hid ⟨hY,hPe,h8⟩
            rw [←hY] at hT11 ⊢
            obtain ⟨xb,w12,hxb,hw12,HXB,hE12⟩:=box_new w11 (.cells #[.int .i64 Y.kind,.string Y.name,.int .i64 Y.sort,.slice ya Y.kids.length yc] 33)
            obtain ⟨rb,w13,hrb,hw13,HRB,hE13⟩:=box_new w12 (.cells #[.int .i64 U.kind,.string U.name,.int .i64 U.sort,.slice ua U.kids.length uc,.int .i64 Y.kind,.string Y.name,.int .i64 Y.sort,.slice ya Y.kids.length yc] 33)
            have hE113:=hE11.trans (hE12.trans hE13)
            have HU12:=hs_ext (hE11.trans hE12) HU10.out
            obtain ⟨u0,u1,u2,u3⟩:=box4r HU12
            obtain ⟨x0,x1,x2,x3⟩:=box4r HXB.out
            have HU13:=Lib.hid (hs_ext hE113 HU10.out)
            have HE13:=Lib.hid (HE10.out.trans hE113)
            have hub2:ub<w10.heap.size:=(Array.getElem?_eq_some_iff.1 HU10.out).1
            have HAP:=Lib.hid (exp_two (S:=fun c=>c≠ub) HRB.out (HT10.out.ext hE113) ((hT11.ext (hE12.trans hE13)).wide (fun c h _=>by omega)) (by have:=(hE11.trans hE12).size;omega))
            have HUB3:Hid (ub<w13.heap.size):=Lib.hid (by have:=hE113.size;omega)
            clear hE11 hE12 hE13 hE113 hT11 hY h8 HU12 hPe hub2
            go_upto_region 17 with fail
            rw [←hw12,←hxb]
            clear hw12 hxb
            go_upto_region 19 with fail
            go_wp2_with fail
            rw [←hw13,←hrb]
            clear hw13 hrb u0 u1 u2 u3 x0 x1 x2 x3
            refine HAP.out.mono ?_
            rintro e w14 ⟨za,zc,rfl,hE14,hT14⟩
            have HU14:=Lib.hid (hs_ext hE14 HU13.out)
            have HE14:=Lib.hid (HE13.out.trans hE14)
            have HT14:Hid (TnW w14 (fun c=>c≠ub) za zc (appTm expN [U,Y])):=Lib.hid (hT14.wide (fun c h _=>by
             rcases h with h | h
             · exact h
             · have:=HUB3.out;omega))
            clear hE14 hT14
            go_wp2_with (refine wpList_storeT rfl (.tmp 10) (.tmp 88) rfl (g:=ub) rfl (k:=3) (s:=0) (n:=expN) (ka:=za) (kl:=2) (kc:=zc) rfl HU14.out rfl ?_)
            intro w15 h15 hoth hE15 hs15
            have HNX:Hid (w15.heap[ub]?=some (.cells #[.int .i64 (towT (P :: Ps)).kind,.string (towT (P :: Ps)).name,.int .i64 (towT (P :: Ps)).sort,.slice za (towT (P :: Ps)).kids.length zc] 33)∧TnW w15 (fun c=>c≠ub) za zc (towT (P :: Ps))∧LeftP LL C m (k+1) (P :: Ps)∧Ext w8 w15):=Lib.hid (by
             have e:towT (P :: Ps)=appTm expN [U,Y]:=by rw [HUE.out,HYE.out.1];rfl
             refine ⟨by rw [e];exact h15,by rw [e];exact HT14.out.keep (fun c hc _=>hoth c hc) (fun c hc _=>hc),?_,hE15 w8 HE14.out (by have:=HUS.out;omega)⟩
             have h8:=HYE.out.2.2
             rw [HYE.out.2.1] at h8 ⊢
             exact HLP.out.next HLK.out.1 HLK.out.2.1 HLK.out.2.2 h8)
            clear h15 hoth hE15 hs15
            go_wp2_with fail
            go_roundw
            case rel=>exact ⟨k+1,P :: Ps,za,zc,by go_num,by omega,Lib.hid HNX.out.2.2.2,Lib.hid HNX.out.1,Lib.hid HNX.out.2.1,Lib.hid HNX.out.2.2.1⟩
            case measure=>simp [intOf];omega
          · have HE11:=Lib.hid (HE8.out.trans (HE10.out.trans hE11))
            clear hE11 hT11 h8
            go_wp2_with fail
            go_ret
            exact ⟨rfl,by repeat (first | exact HE11.out | apply Ext.then_dr | (refine Ext.then_al ?_ _))⟩
        · have HE11:=Lib.hid (HE8.out.trans (HE10.out.trans hE11))
          clear hE11 h8
          rcases HER.out with ⟨rfl,-⟩ | rfl
          all_goals
           go_wp2_with fail
           go_ret
           exact ⟨rfl,by repeat (first | exact HE11.out | apply Ext.then_dr | (refine Ext.then_al ?_ _))⟩
      · have hki:¬(k:Int)<(C.length:Int):=by omega
        have HRN:Hid (Calls Tryz.prog 11 #[.agg #[.int .i64 U.kind,.string U.name,.int .i64 U.sort,.slice ua U.kids.length uc]] wr (NorE wr (okT Ps) (nfT (prodT Ps)))):=Lib.hid (by
         rw [HUE.out]
         exact RNormalT_any HLP.out.1 (by have:=HLP.out.2.1;have:=HGG.out.1.len;have:=HLN.out;omega) (by rw [←HUE.out];exact HT.out))
        have HPD:Hid (prodT Ps=prodT [m]):=Lib.hid (HLP.out.done (by omega) HGG.out.2.1)
        have HP8:Hid (Ps.length≤8):=Lib.hid (by have:=HLP.out.2.1;have:=HGG.out.1.len;have:=HLN.out;omega)
        clear hk
        go_wp2_with fail
        refine HRN.out.mono ?_
        intro e w10 h10
        rcases h10 with ⟨hok,v,rfl,hE10,na,nc,rfl,hN10⟩ | ⟨hok,rfl,hE10⟩
        · obtain ⟨M,hM⟩:∃M,M=nfT (prodT Ps):=⟨_,rfl⟩
          rw [←hM]
          obtain ⟨nb,w11,hnb,hw11,HNB,hE11⟩:=box_new w10 (.cells #[.int .i64 M.kind,.string M.name,.int .i64 M.sort,.slice na M.kids.length nc] 33)
          have hE1011:=hE10.trans hE11
          have HE11:=Lib.hid (HE.out.trans hE1011)
          have HU11:=Lib.hid (hs_ext hE1011 HU.out)
          have HG11:=Lib.hid (hs_ext HE11.out HGB8.out)
          have HTB11:=Lib.hid (hs_ext HE11.out HTB.out)
          have HT11:=Lib.hid (HT.out.ext hE1011)
          have HTM11:=Lib.hid (HT8.out.2.ext HE11.out)
          have HOK:=Lib.hid hok
          clear hM hE10 hE11 hE1011 hN10 hok u0 u1 u2 u3
          go_upto_region 22 with fail
          rw [←hw11,←hnb]
          clear hw11 hnb
          go_upto_region 24 with fail
          obtain ⟨u0,u1,u2,u3⟩:=box4r HU11.out
          obtain ⟨g0,g3,g4,g5⟩:=box4r HG11.out
          obtain ⟨t0,t1,t2,t3⟩:=box4r HTB11.out
          have HAP:Hid (∀(w':World) (lb:Nat),Ext w11 w'→w'.heap[lb]?=some (.cells #[.int .i64 2,.string ⟨#[103]⟩,.int .i64 4,.slice none 0 0,.int .i64 (expT (litsP m)).kind,.string (expT (litsP m)).name,.int .i64 (expT (litsP m)).sort,.slice ta (expT (litsP m)).kids.length tc] 33) →
           Calls Tryz.prog 10 #[.string ⟨#[101,120,112]⟩,.slice (some ⟨lb,0,none⟩) 2 2] w' fun e w''=>∃a' c',e=.returned (.agg #[.int .i64 3,.string expN,.int .i64 0,.slice a' 2 c'])∧Ext w' w''∧TnW w'' (fun _=>True) a' c' (towT [m])):=Lib.hid (fun w' lb hE hb=>by
           refine (exp_two (A:=gT) (B:=expT (litsP m)) (S:=fun _=>True) hb g_tn ((HTM11.out.ext hE).wide (fun _ _ _=>trivial)) trivial).mono ?_
           rintro e w'' ⟨a',c',h1,h2,h3⟩
           exact ⟨a',c',h1,h2,h3.wide (fun _ _ _=>trivial)⟩)
          have HEQ:Hid (∀(w':World) (a':Option Addr) (c':Nat),Ext w11 w'→TnW w' (fun _=>True) a' c' (towT [m])→Calls Tryz.prog 12 #[.agg #[.int .i64 U.kind,.string U.name,.int .i64 U.sort,.slice ua U.kids.length uc],.agg #[.int .i64 3,.string expN,.int .i64 0,.slice a' 2 c']] w' fun e w''=>e=.returned (.bool true)∧Ext w' w''):=Lib.hid (fun w' a' c' hE hT=>by
           rw [HUE.out]
           exact EqualT_any (Qs:=[m]) HLP.out.1 HP8.out (fun P hP=>by rw [List.mem_singleton.1 hP];exact ⟨HGG.out.2.1,HT8.out.1⟩) (by simp) HOK.out ⟨trivial,by have:=HT8.out.1;rw [show mulP (prodT []) m=m from prod_one HGG.out.2.1];exact this⟩ HPD.out (by rw [←HUE.out];exact HT11.out.ext hE) hT)
          have hEd:Ext w11 w11.drew:=Ext.drew w11
          obtain ⟨u0,u1,u2,u3,g0,g3,g4,g5,t0,t1,t2,t3⟩:=cs_e12 hEd ⟨u0,u1,u2,u3,g0,g3,g4,g5,t0,t1,t2,t3⟩
          have hEa:Ext w11 (w11.alloc (.cells #[.int .i64 2,.string ⟨#[103]⟩,.int .i64 4,.slice none 0 0,.int .i64 (expT (litsP m)).kind,.string (expT (litsP m)).name,.int .i64 (expT (litsP m)).sort,.slice ta (expT (litsP m)).kids.length tc] 33)).drew:=(Ext.alloc _ _).trans (Ext.drew _)
          have a0:=cs_ext hEa (box4r HU11.out).1
          have a1:=cs_ext hEa (box4r HU11.out).2.1
          have a2:=cs_ext hEa (box4r HU11.out).2.2.1
          have a3:=cs_ext hEa (box4r HU11.out).2.2.2
          clear hEd hEa
          go_region_law (first
           | (go_simp
              go_at_call 10
              refine (HAP.out _ _ (by repeat (first | exact Ext.refl _ | exact Ext.alloc _ _ | apply Ext.then_dr | apply Ext.then_drN | apply Ext.then_drN2 | (refine Ext.then_al ?_ _))) (by first | exact hs_new | exact hs_ext (Ext.drew _) hs_new)).mono ?_
              rintro e w12 ⟨za,zc,rfl,hE12,hT12⟩
              have HE12:Hid (Ext w11 w12):=Lib.hid (Ext.trans (by repeat (first | exact Ext.refl _ | exact Ext.alloc _ _ | apply Ext.then_dr | apply Ext.then_drN | apply Ext.then_drN2 | (refine Ext.then_al ?_ _))) hE12)
              have HT12:=Lib.hid hT12
              have z0:=cs_ext HE12.out (box4r HU11.out).1
              have z1:=cs_ext HE12.out (box4r HU11.out).2.1
              have z2:=cs_ext HE12.out (box4r HU11.out).2.2.1
              have z3:=cs_ext HE12.out (box4r HU11.out).2.2.2
              clear hE12 hT12)
           | (go_simp
              go_at_call 12
              refine (HEQ.out _ _ _ (by repeat (first | exact HE12.out | apply Ext.then_dr | apply Ext.then_drN | (refine Ext.then_al ?_ _))) (HT12.out.ext (by first | exact Ext.refl _ | exact Ext.drew _))).mono ?_
              rintro e w13 ⟨rfl,hE13⟩
              have HE13:Hid (Ext w w13):=Lib.hid (HE8.out.trans (HE11.out.trans (Ext.trans (by repeat (first | exact HE12.out | apply Ext.then_dr | apply Ext.then_drN | (refine Ext.then_al ?_ _))) hE13)))
              clear hE13))
          all_goals
           try simp only [List.getElem_toArray,List.getElem_cons_succ,List.getElem_cons_zero,Act.put,List.setIfInBounds_toArray,List.set_cons_succ,List.set_cons_zero]
           go_wp2_with fail
           go_ret
           exact ⟨rfl,HE13.out⟩
        · have HE10:=Lib.hid (HE8.out.trans (HE.out.trans hE10))
          clear hE10 hok
          go_wp2_with fail
          go_ret
          exact ⟨rfl,by repeat (first | exact HE10.out | apply Ext.then_dr | (refine Ext.then_al ?_ _))⟩
   · have HE7:=Lib.hid (HE6.out.trans hE7)
     clear hE7 h8
     go_wp2_with fail
     go_ret
     exact ⟨by first | rfl | (rw [g2]) | simp [g2],by repeat (first | exact HE7.out | apply Ext.then_dr | (refine Ext.then_al ?_ _))⟩
end Go.Proofs.YtclijngnoepbiaaGreat
