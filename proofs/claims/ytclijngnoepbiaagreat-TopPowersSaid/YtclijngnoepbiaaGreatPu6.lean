/- Contracts: the elimination of exponents: start. Contracts: the elimination of exponents: solve. -/
import Derived.Test.YtclijngnoepbiaaGreatPu5
set_option maxRecDepth 100000
set_option maxHeartbeats 8000000
namespace Go.Proofs.YtclijngnoepbiaaGreat
open Go Go.RowKit
set_option linter.unusedVariables false
set_option linter.unusedSimpArgs false

/-- what start leaves -/
structure StartR (w w':World) (B:XeB) (t:Nat × Nat × Nat) (X:List Nat) (LL:List (List Pw)) (m:List Pw) (R:List ERow) (P:List Int) (lg:Bool):Prop where
 ext:Ext w w'
 cols:ColsP (LL++[m]) X
 six:∀x∈X,x<6
 cv:∃ca cc wc,B.cv=.slice ca X.length cc∧ColW wc ca X∧Ext w wc∧Ext wc w'∧wc.heap.size≤B.xb∧wc.heap.size≤t.2.1∧wc.heap.size≤t.2.2
 nd:B.Nd
 td:TrD B t
 tr:RowAt w' t ⟨vecP X m,List.replicate LL.length 0,false⟩
 xe:XeAt w' B R P lg
 inv:lg=false→EInv X.length (LL.map (vecP X)) X.length R P
def StartE (w:World) (LL:List (List Pw)) (m:List Pw) (e:Ending) (w':World):Prop:=∃(B:XeB) (t:Nat × Nat × Nat) (X:List Nat) (R:List ERow) (P:List Int) (lg:Bool),e=.returned (.tuple #[.pointer (some ⟨B.xb,0,none⟩),.pointer (some ⟨t.1,0,none⟩),.int .i64 0])∧StartR w w' B t X LL m R P lg
theorem ecolumn_large {w:World} {B:XeB} {R:List ERow} {P:List Int} {c:Nat} (hE:XeAt w B R P true) :
 Calls Tryz.prog 94 #[.pointer (some ⟨B.xb,0,none⟩),.int .i64 c] w fun e w'=>e=.returned (.tuple #[])∧Ext w w':=by
 obtain ⟨xb,hxb⟩:∃xb,xb=B.xb:=⟨_,rfl⟩
 have x3:w.cell? ⟨xb,3,none⟩=some (.bool true):=by rw [hxb];exact hE.large
 rw [←hxb]
 clear hE hxb
 obtain ⟨w0,hw0⟩:∃w0,w0=w:=⟨_,rfl⟩
 go_enter Tryz.func94,Tryz.ntmps94
 go_wp2_with fail
 go_loopw [4,5,6,7,8,9,20,95] (fun _ _ _ _ _ _ _ _ wr=>wr=w) (fun _ _ _ _ _ _ _ _ wr=>0)
 case atStart=>rfl
 case round =>
  subst hrel
  go_wp2_with fail
  go_end0
  exact ⟨rfl,Ext.refl _⟩
theorem start_any {w : World} {S:Nat→Prop} {a ma:Option Addr} {cap mc:Nat} {LL:List (List Pw)} {m:List Pw} (hL:LsG (elL elPw) w S (.slice a LL.length cap) LL) (hm:LsG elPw w S (.slice ma m.length mc) m) (hG:GoodL LL) (gm:Good m) (rm:Rng 1000 m) :
 Calls Tryz.prog 58 #[.slice a LL.length cap,.slice ma m.length mc] w fun e w'=>StartE w LL m e w':=by
 have HL:=Lib.hid hL
 have HM:=Lib.hid hm
 have HG:=Lib.hid hG
 have HGM:=Lib.hid (And.intro gm rm)
 have hll:=hG.len
 have hml:=gm.len
 have HE0:Hid (Ext w w):=Lib.hid (Ext.refl _)
 have HWK:Hid (∀q:Nat,q≤1000000→IntKind.i64.wrap ((q:Int)+1)=((q+1:Nat):Int)):=Lib.hid (fun q hq=>by rw [IntKind.wrap_i64];omega)
 have hl12:¬(LL.length:Int) > 12:=by omega
 obtain ⟨-,hcl,hcm⟩:=hL.len
 unfold maxLen at hcm
 clear hL hm hG gm rm
 obtain ⟨w0,hw0⟩:∃w0,w0=w:=⟨_,rfl⟩
 go_enter Tryz.func58,Tryz.ntmps58
 go_upto_region 4 with fail
 go_loopw [8,9,21] (fun _ _ kv wr=>∃q:Nat,kv=.int .i64 q∧q≤LL.length∧Hid (Ext w wr)) (fun _ _ kv _=>LL.length-(intOf kv).toNat)
 case atStart=>exact ⟨0,rfl,by omega,HE0⟩
 case round =>
  clear HE0
  obtain ⟨q,rfl,hq,HE⟩:=hrel
  by_cases hlt:q<LL.length
  · have hqi:(q:Int)<(LL.length:Int):=by omega
    have hq0:(0:Int)≤(q:Int):=by omega
    have wq:=HWK.out q (by omega)
    obtain ⟨L,hx⟩:∃L,LL[q]?=some L:=⟨_,List.getElem?_eq_getElem hlt⟩
    obtain ⟨b,off,la,lc,rfl,p0,hlc1,hlc2,hLL⟩:=(HL.out.ext HE.out).lAt hx
    have hg:=HG.out.all L (List.mem_of_getElem? hx)
    have HV:=Lib.hid (PValidP_any hLL hg.1 hg.2)
    clear hx hLL hg
    go_wp2_with fail
    refine HV.out.mono ?_
    rintro e w1 ⟨rfl,hE1⟩
    have HE1:=Lib.hid (HE.out.trans hE1)
    clear hE1 p0
    go_wp2_with fail
    go_roundw
    case rel=>exact ⟨q+1,rfl,by omega,HE1⟩
    case measure=>simp [intOf];omega
  · have hqi : ¬ (q : Int)<(LL.length:Int):=by omega
    have HV:=Lib.hid (PValidP_any (HM.out.ext HE.out) HGM.out.1 HGM.out.2)
    have HCL:=Lib.hid (fun (w':World) (hE:Ext w w')=>pClone_any (by omega) (HL.out.ext hE))
    go_wp2_with fail
    refine HV.out.mono ?_
    rintro e w1 ⟨rfl,hE1⟩
    have HE1:=Lib.hid (HE.out.trans hE1)
    clear hE1 hqi hlt
    go_wp2_with fail
    refine (HCL.out _ HE1.out).mono ?_
    rintro e w2 ⟨u,rfl,hE2,hO2⟩
    have HE2:=Lib.hid (HE1.out.trans hE2)
    obtain ⟨ua,uc,rfl,-,-⟩:=id hO2.slice
    obtain ⟨w3,hw3⟩:∃w3,w3=w2.alloc (.cells #[.slice ma m.length mc] 28):=⟨_,rfl⟩
    have hE3:Ext w2 w3:=by rw [hw3];exact Ext.alloc _ _
    have HE3:=Lib.hid (HE2.out.trans hE3)
    have hO3:=hO2.ext hE3
    have hone:LsE (elL elPw) w3 (fun c=>c<w1.heap.size) (.slice (some ⟨w2.heap.size,0,none⟩) 1 1) [m]:=pl_e (by rw [hw3];exact hs_new) (HM.out.ext HE1.out |>.below |>.ext (hE2.trans hE3))
    have hsz:w1.heap.size≤w3.heap.size:=(hE2.trans hE3).size
    have hoff:∀c,c<w1.heap.size→(Value.slice ua LL.length uc).ownBlock≠some c:=fun c hc e=>by have:=(hO2.lt c e).1;omega
    have HLT:=Lib.hid hO3.lt
    rw [hw3] at hO3 hone hsz
    have HW3:=Lib.hid hw3
    clear hO2 hE2 hE3 hw3
    go_wp2_with (at_builtin;(refine wpList_appG (E:=elL elPw) (T:=28) rfl 27 (.tmp 37) (.tmp 39) rfl rfl rfl Tryz.underlying27 infLP rfl (by decide) (by decide) hO3 hsz hoff (by omega) (M:=[m]) (by simp) hone ?_);intro v4 w4 o4 g4 k4
                 rw [←HW3.out] at g4
                 obtain ⟨va,vc,hv4,-,-⟩:=id o4.slice
                 obtain ⟨n4,hn4⟩:∃n4,n4=(LL++[m]).length:=⟨_,rfl⟩
                 rw [←hn4] at hv4
                 rw [hv4] at o4 ⊢
                 have HO4:=Lib.hid o4
                 have HN4:=Lib.hid hn4
                 have HE4:Hid (Ext w w4):=Lib.hid (HE3.out.grown g4 (fun c hc=>Nat.le_trans HE1.out.size (HLT.out c hc).1))
                 clear o4 g4 k4 hO3 hone hn4 hv4)
    have HCO:Hid (Calls Tryz.prog 91 #[.slice va n4 vc] w4 fun e w'=>∃(v:Value) (X:List Nat),e=.returned v∧Ext w4 w'∧ColsP (LL++[m]) X∧OwnG elAt w' w4.heap.size 33 (fun _=>False) v X):=Lib.hid (by
     have h:=columns_any (LL:=LL++[m]) (a:=va) (cap:=vc) (w:=w4) (S:=fun _=>True) (by rw [←HN4.out];exact HO4.out.any) (by rw [List.length_append];simp;omega) (fun L hL=>by
      rcases List.mem_append.1 hL with h1 | h1
      · exact (HG.out.all L h1).1.len
      · rw [List.mem_singleton.1 h1];exact hml)
     rw [←HN4.out] at h
     exact h)
    refine HCO.out.mono ?_
    rintro e w5 ⟨cv,X,rfl,hE5,hCX,hO5⟩
    have HE5:=Lib.hid (HE4.out.trans hE5)
    have HCX:=Lib.hid hCX
    obtain ⟨ca,cc,hcv,-,-⟩:=id hO5.slice
    obtain ⟨n,hn⟩:∃n,n=X.length:=⟨_,rfl⟩
    rw [←hn] at hcv
    subst hcv
    have HN:=Lib.hid hn
    have HO5:=Lib.hid hO5
    have hn6:n≤6:=by
     rw [hn]
     exact asc_len hCX.asc (fun x hx=>(own_row hO5).2 x hx)
    obtain ⟨xb,w6,hxb,hw6,HXB,hE6⟩:=box_new w5 (.cells #[.slice ca n cc,.slice none 0 0,.slice none 0 0,.bool false] 74)
    have HX0:Hid (xb=w5.heap.size):=Lib.hid hxb
    have HR0:Hid (RowsI w5 w6 xb (.slice ca n cc) (.slice none 0 0) X LL 0 []):=Lib.hid ⟨hE6,HXB.out,OwnG.nil,rfl,fun j ad h=>by simp at h,fun ad h=>by simp at h,fun i j a b h=>by simp at h⟩
    have x0:w6.cell? ⟨xb,0,none⟩=some (.slice ca n cc):=by rw [cellc HXB.out];rfl
    have hn12:¬(12:Int)<(n:Int):=by omega
    clear hE5 hCX hO5 hn hE6
    go_upto_region 14 with fail
    rw [←hw6,←hxb]
    clear hw6 hxb
    go_upto_region 17 with fail
    go_loopw [12,13,14,52] (fun _ _ _ kv wr=>∃(i:Nat) (AD:List (Nat × Nat × Nat)) (ra:Option Addr) (rc:Nat),kv=.int .i64 i∧i≤LL.length∧Hid (RowsI w5 wr xb (.slice ca n cc) (.slice ra i rc) X LL i AD)) (fun _ _ _ kv _=>LL.length-(intOf kv).toNat)
    case atStart=>exact ⟨0,[],none,0,rfl,by omega,HR0⟩
    case round =>
     clear HR0 x0
     obtain ⟨i,AD,ra,rc,rfl,hi,HR⟩:=hrel
     by_cases hli:i<LL.length
     · have hii : (i : Int)<(LL.length:Int):=by omega
       have hi0:(0:Int)≤(i:Int):=by omega
       have wi:=HWK.out i (by omega)
       obtain ⟨L,hx⟩:∃L,LL[i]?=some L:=⟨_,List.getElem?_eq_getElem hli⟩
       obtain ⟨b,off,la,lc,rfl,p0,hlc1,hlc2,hLL⟩:=(HL.out.ext (HE5.out.trans HR.out.ext)).lAt hx
       have hg:=HG.out.all L (List.mem_of_getElem? hx)
       have HPW:=Lib.hid (fun (w':World) (hE:Ext wr w')=>powersOf_any (HO5.out.ext (HR.out.ext.trans hE)) HN.out.symm HCX.out.asc (by omega) (hLL.ext hE) hg.1 (fun p hp=>(HCX.out.mem p.1).2 ⟨L,List.mem_append_left _ (List.mem_of_getElem? hx),p,hp,rfl⟩))
       have x0:wr.cell? ⟨xb,0,none⟩=some (.slice ca n cc):=by rw [cellc HR.out.x];rfl
       have HLX:Hid (LL[i]?=some L):=Lib.hid hx
       clear hx hLL hg
       go_upto_region 19 with fail
       have hmk:∀w':World,(Instr.makeSlice 35 (.int .i64 (LL.length:Int)) (.int .i64 (LL.length:Int))).run Tryz.prog w'=.ok (.slice (some ⟨w'.heap.size,0,none⟩) LL.length LL.length) (w'.alloc (.cells (intsC (List.replicate LL.length 0)) 3)):=fun w'=>run_makeI w' _ (by omega)
       have HLV:Hid ((vecP X L).length=n∧(List.replicate LL.length (0:Int)).length=LL.length):=Lib.hid ⟨by rw [vecP_len];exact HN.out.symm,by simp⟩
       have x0a:=cs_al (o:=(.cells (intsC (List.replicate LL.length 0)) 3)) x0
       have hEd:Ext wr wr.drew:=Ext.drew wr
       have x0:=cs_ext hEd x0
       clear hEd
       go_cut [14] from 57 to 67 (fun v14 wx=>∃ad,v14=.pointer (some ⟨ad.1,0,none⟩)∧RowN wr wx ad (vecP X L) (List.replicate LL.length 0))
       case first =>
        go_region_law (
         go_simp
         go_at_call 93
         refine (HPW.out _ (by repeat (first | exact Ext.refl _ | exact Ext.alloc _ _ | apply Ext.then_dr | apply Ext.then_drN | apply Ext.then_drN2 | (refine Ext.then_al ?_ _)))).mono ?_
         rintro e wa ⟨pb,rfl,hpb,hEa,hpv⟩
         have hEw:Ext wr wa:=Ext.trans (by repeat (first | exact Ext.refl _ | exact Ext.alloc _ _ | apply Ext.then_dr | apply Ext.then_drN | apply Ext.then_drN2 | (refine Ext.then_al ?_ _))) hEa
         have HEW:=Lib.hid hEw
         have HPV:=Lib.hid hpv
         have HPB:=Lib.hid hpb
         have HEA:=Lib.hid hEa
         clear hEa hpv hEw hpb)
        all_goals
         simp only [List.getElem_toArray,List.getElem_cons_succ,List.getElem_cons_zero,Act.put,List.setIfInBounds_toArray,List.set_cons_succ,List.set_cons_zero]
         go_wp2_with fail
         go_meet
         first
          | exact ⟨(_,pb,_),rfl,rowN_A HEW.out HPB.out HPV.out HLV.out.1 HLV.out.2⟩
          | exact ⟨(_,pb,_),rfl,rowN_B ((Ext.alloc _ _).then_dr) HEA.out HPB.out HPV.out (hs_ext (Ext.drew _) hs_new) (Nat.le_refl _) HLV.out.1 HLV.out.2⟩
       case rest =>
        obtain ⟨ad,rfl,hRN⟩:=hcut
        rename World=>wx
        have HRN:=Lib.hid hRN
        obtain ⟨rb,hrb⟩:∃rb,rb=ad.1:=⟨_,rfl⟩
        obtain ⟨kb,hkb⟩:∃kb,kb=ad.2.2:=⟨_,rfl⟩
        have r1:wx.cell? ⟨rb,1,none⟩=some (.slice (some ⟨kb,0,none⟩) LL.length LL.length):=by rw [hrb,hkb,cellc hRN.at_.row];simp
        have k1:wx.cell? ⟨kb,i,none⟩=some (.int .i64 0):=by rw [hkb];exact intsC_at hRN.at_.ks (by rw [List.getElem?_replicate,if_pos hli])
        have kf:wx.frozen? ⟨kb,i,none⟩=false:=by rw [hkb];exact frozenc hRN.at_.ks
        obtain ⟨wy,hwy⟩:∃wy,wy=wx.setCell ⟨kb,i,none⟩ (.int .i64 1):=⟨_,rfl⟩
        have HRY:Hid (RowN wr wy ad (vecP X L) (unitV LL.length i)):=Lib.hid (by rw [hwy,hkb];exact hRN.coef)
        have HXL:Hid (xb<wr.heap.size):=Lib.hid (Array.getElem?_eq_some_iff.1 HR.out.x).1
        have hxy:=hs_ext HRY.out.ext HR.out.x
        have x1:wy.cell? ⟨xb,1,none⟩=some (.slice ra i rc):=by rw [cellc hxy];rfl
        obtain ⟨wz,hwz⟩:∃wz,wz=wy.alloc (.cells #[.pointer (some ⟨rb,0,none⟩)] 59):=⟨_,rfl⟩
        have hEz:Ext wr wz:=by rw [hwz];exact HRY.out.ext.then_al _
        have hO3:=HR.out.own.ext hEz
        have hone:LsE elRp wz (fun _=>False) (.slice (some ⟨wy.heap.size,0,none⟩) 1 1) [ad] :=
         cells_lsE (P:=[(ad,[ptrA ad])]) (by rw [hwz,hrb];exact hs_new) rfl rfl rfl (by simp [maxLen]) (by intro p hp;simp at hp;subst hp;rfl)
        have hsz:xb+1≤wz.heap.size:=by have:=hEz.size;have:=HXL.out;omega
        have hadl:AD.length≤1000:=by rw [HR.out.al];omega
        have HWZ:Hid (wz=wy.alloc (.cells #[ptrA ad] 59)):=Lib.hid (by rw [hwz,hrb];rfl)
        have HZB:Hid (wz.heap[xb]?=some (.cells #[.slice ca n cc,.slice ra i rc,.slice none 0 0,.bool false] 74)):=Lib.hid (hs_ext hEz HR.out.x)
        have HWZ2:=Lib.hid hwz
        rw [hwz] at hO3 hone hsz
        rw [←hrb]
        have HWY:=Lib.hid hwy
        clear hRN hxy hEz hwz hrb hkb hwy
        go_upto_region 21 with fail
        rw [←HWY.out]
        clear r1 k1 kf
        go_wp2_with (at_builtin;(refine wpList_appG (E:=elRp) (T:=59) rfl 72 (.tmp 78) (.tmp 80) rfl rfl rfl Tryz.underlying72 infRp rfl (by decide) (by decide) hO3 hsz (fun c h=>absurd h id) (by omega) (M:=[ad]) (by simp) hone ?_);intro v8 w8 o8 g8 k8
                     rw [←HWZ2.out] at g8 k8
                     obtain ⟨va8,vc8,hv8,-,-⟩:=id o8.slice
                     have hl8:(AD++[ad]).length=i+1:=by rw [List.length_append,HR.out.al];rfl
                     rw [hl8] at hv8
                     rw [hv8] at o8 k8 ⊢
                     have hlt:=HR.out.own.lt
                     have hx8:w8.heap[xb]?=_:=(g8.block xb (by have:=HZB.out;exact (Array.getElem?_eq_some_iff.1 this).1) (fun e=>by have:=(hlt xb e.symm).1;omega)).trans HZB.out
                     have xf:w8.frozen? ⟨xb,1,none⟩=false:=frozenc hx8
                     have xc:w8.cell? ⟨xb,1,none⟩=some (.slice ra i rc):=by rw [cellc hx8];rfl
                     have HR9:=Lib.hid (HR.out.next HXL.out (by rw [HX0.out];exact Nat.le_refl _) HLX.out HRY.out o8 (by rw [←HWZ.out];exact g8) (by rw [←HWZ.out];exact k8))
                     clear o8 g8 k8 hO3 hone hv8 hlt hx8 hl8)
        go_roundw
        case rel=>exact ⟨i+1,AD++[ad],va8,vc8,rfl,by omega,HR9⟩
        case measure=>simp [intOf];omega
     · have hii : ¬ (i : Int)<(LL.length:Int):=by omega
       have hil:i=LL.length:=by omega
       rw [hil] at HR
       obtain ⟨wa,hwa⟩:∃wa,wa=wr:=⟨_,rfl⟩
       have HRA:Hid (RowsI w5 wa xb (.slice ca n cc) (.slice ra LL.length rc) X LL LL.length AD):=Lib.hid (by rw [hwa];exact HR.out)
       have HXL:Hid (xb<wa.heap.size):=Lib.hid (Array.getElem?_eq_some_iff.1 HRA.out.x).1
       have HP0:Hid (PivI wa wr xb (.slice ca n cc) (.slice ra LL.length rc) (.slice none 0 0) 0):=Lib.hid (by rw [hwa];exact ⟨Chg.refl _ _,HR.out.x,OwnG.nil⟩)
       have x0:wr.cell? ⟨xb,0,none⟩=some (.slice ca n cc):=by rw [cellc HR.out.x];rfl
       clear HR hil hli hwa
       go_upto_region 24 with fail
       go_loopw [90] (fun kv wr=>∃(c:Nat) (pa:Option Addr) (pc:Nat),kv=.int .i64 c∧c≤n∧Hid (PivI wa wr xb (.slice ca n cc) (.slice ra LL.length rc) (.slice pa c pc) c)) (fun kv _=>n-(intOf kv).toNat)
       case atStart=>exact ⟨0,none,0,rfl,by omega,HP0⟩
       case round =>
        clear HP0 x0
        obtain ⟨c,pa,pc,rfl,hc,HP⟩:=hrel
        by_cases hcn:c<n
        · have hcz : (c:Int)<(n:Int):=by omega
          have wc:=HWK.out c (by omega)
          have x2:wr.cell? ⟨xb,2,none⟩=some (.slice pa c pc):=by rw [cellc HP.out.x];rfl
          obtain ⟨wz,hwz⟩:∃wz,wz=wr.alloc (.cells #[.int .i64 (-1)] 3):=⟨_,rfl⟩
          have hEz:Ext wr wz:=by rw [hwz];exact Ext.alloc _ _
          have hO3:=HP.out.own.ext hEz
          have hone:LsE elI wz (fun _=>False) (.slice (some ⟨wr.heap.size,0,none⟩) 1 1) [-1] :=
           cells_lsE (P:=[(-1,[.int .i64 (-1)])]) (by rw [hwz];exact hs_new) rfl rfl rfl (by simp [maxLen]) (by intro p hp;simp at hp;subst hp;exact ⟨rfl,by show I64 (-1);unfold I64;omega⟩)
          have hsz:wa.heap.size≤wz.heap.size:=by have:=HP.out.chg.size;have:=hEz.size;omega
          have hpl:(List.replicate c (-1:Int)).length≤1000:=by rw [List.length_replicate];omega
          have HZB:Hid (wz.heap[xb]?=some (.cells #[.slice ca n cc,.slice ra LL.length rc,.slice pa c pc,.bool false] 74)):=Lib.hid (hs_ext hEz HP.out.x)
          have HWZ:=Lib.hid hwz
          rw [hwz] at hO3 hone hsz
          clear hEz hwz
          go_wp2_with (at_builtin;(refine wpList_appG (E:=elI) (T:=3) rfl 35 (.tmp 96) (.tmp 97) rfl rfl rfl Tryz.underlying35 infIn rfl (by decide) (by decide) hO3 hsz (fun c h=>absurd h id) (by omega) (M:=[-1]) (by simp) hone ?_);intro v8 w8 o8 g8 k8
                       obtain ⟨va8,vc8,hv8,-,-⟩:=id o8.slice
                       have hl8:(List.replicate c (-1:Int)++[-1]).length=c+1:=by simp
                       rw [hl8] at hv8
                       rw [hv8] at o8 k8 ⊢
                       have hlt:=HP.out.own.lt
                       have HP9:=Lib.hid (HP.out.next HXL.out o8 g8)
                       rw [←HWZ.out] at g8
                       have hx8:w8.heap[xb]?=_:=(g8.block xb (by have:=HZB.out;exact (Array.getElem?_eq_some_iff.1 this).1) (fun e=>by have:=(hlt xb e.symm).1;have:=HXL.out;omega)).trans HZB.out
                       have xf:w8.frozen? ⟨xb,2,none⟩=false:=frozenc hx8
                       have xc:w8.cell? ⟨xb,2,none⟩=some (.slice pa c pc):=by rw [cellc hx8];rfl
                       clear o8 g8 k8 hO3 hone hv8 hlt hx8 hl8)
          go_roundw
          case rel=>exact ⟨c+1,va8,vc8,rfl,by omega,HP9⟩
          case measure=>simp [intOf];omega
        · have hcz:¬(c:Int)<(n:Int):=by omega
          have hce:c=n:=by omega
          rw [hce] at HP
          clear hce
          obtain ⟨B,hBx,hBc,hBN,hBE,hBM,hBE0⟩:=begin_xe HRA.out HP.out (by rw [HX0.out];exact Nat.le_refl _)
          have HBN:=Lib.hid hBN
          have HBX:=Lib.hid hBx
          have HBC:=Lib.hid hBc
          have HBM:=Lib.hid hBM
          have HIV:Hid (EInv n (LL.map (vecP X)) 0 (rowsE X LL) (List.replicate n (-1))):=Lib.hid (by rw [HN.out];exact EInv.init (fun L hL=>(HG.out.all L hL).2))
          have HC0:Hid (∃R P lg,Ext w5 wr∧XeAt wr B R P lg∧(lg=false→EInv n (LL.map (vecP X)) 0 R P)):=Lib.hid ⟨_,_,false,hBE0,hBE,fun _=>HIV.out⟩
          have x0:wr.cell? ⟨xb,0,none⟩=some (.slice ca n cc):=by rw [cellc HP.out.x];rfl
          clear hBx hBc hBN hBE hBM hBE0 HP HIV
          go_upto_region 28 with fail
          go_loopw [15,107] (fun _ kv wr=>∃c:Nat,kv=.int .i64 c∧c≤n∧Hid (∃R P lg,Ext w5 wr∧XeAt wr B R P lg∧(lg=false→EInv n (LL.map (vecP X)) c R P))) (fun _ kv _=>n-(intOf kv).toNat)
          case atStart=>exact ⟨0,rfl,by omega,HC0⟩
          case round =>
           clear HC0 x0
           obtain ⟨c,rfl,hc,HC⟩:=hrel
           obtain ⟨R,P,lg,hce,hcx,hci⟩:=HC.out
           by_cases hcn:c<n
           · have hcz:(c:Int)<(n:Int):=by omega
             have wc:=HWK.out c (by omega)
             have HCO:Hid (Calls Tryz.prog 94 #[.pointer (some ⟨xb,0,none⟩),.int .i64 c] wr fun e w'=>e=.returned (.tuple #[])∧∃R P lg,Ext w5 w'∧XeAt w' B R P lg∧(lg=false→EInv n (LL.map (vecP X)) (c+1) R P)):=Lib.hid (by
              rw [←HBX.out]
              rcases Bool.eq_false_or_eq_true lg with hb | hb
              · rw [hb] at hcx
                exact (ecolumn_large hcx).mono fun e w' ⟨h1,h2⟩=>⟨h1,R,P,true,hce.trans h2,hcx.ext h2,fun h=>nomatch h⟩
              · rw [hb] at hcx
                refine (ecolumn_any HBN.out hcx (hci hb) hcn (by omega) (by rw [List.length_map];omega)).mono ?_
                rintro e w' ⟨h1,R',P',lg',h2,h3,h4⟩
                exact ⟨h1,R',P',lg',h2.ext hce HBM.out,h3,h4⟩)
             clear hce hcx hci HC
             go_wp2_with fail
             refine HCO.out.mono ?_
             rintro e w7 ⟨rfl,hR7⟩
             have HR7:=Lib.hid hR7
             clear hR7 HCO
             go_wp2_with fail
             go_roundw
             case rel=>exact ⟨c+1,rfl,by omega,HR7⟩
             case measure=>simp [intOf];omega
           · have hcz:¬(c:Int)<(n:Int):=by omega
             have hce2:c=n:=by omega
             rw [hce2] at hci
             have HCE:=Lib.hid hce
             have HCX2:=Lib.hid hcx
             have HCI:=Lib.hid hci
             have x0:wr.cell? ⟨xb,0,none⟩=some (.slice ca n cc):=by rw [←HBX.out,cellc hcx.x,←HBC.out];rfl
             have HPW:=Lib.hid (fun (w':World) (hE:Ext wr w')=>powersOf_any (HO5.out.ext (HCE.out.trans hE)) HN.out.symm HCX.out.asc (by omega) (HM.out.ext (HE5.out.trans (HCE.out.trans hE))) HGM.out.1 (fun p hp=>(HCX.out.mem p.1).2 ⟨m,List.mem_append_right _ (List.mem_singleton.2 rfl),p,hp,rfl⟩))
             clear hce hcx hci hce2 HC
             have HLV:Hid ((vecP X m).length=n∧(List.replicate LL.length (0:Int)).length=LL.length):=Lib.hid ⟨by rw [vecP_len];exact HN.out.symm,by simp⟩
             have hmk:∀w':World,(Instr.makeSlice 35 (.int .i64 (LL.length:Int)) (.int .i64 (LL.length:Int))).run Tryz.prog w'=.ok (.slice (some ⟨w'.heap.size,0,none⟩) LL.length LL.length) (w'.alloc (.cells (intsC (List.replicate LL.length 0)) 3)):=fun w'=>run_makeI w' _ (by omega)
             have x0a:=cs_al (o:=(.cells (intsC (List.replicate LL.length 0)) 3)) x0
             have hEd:Ext wr wr.drew:=Ext.drew wr
             have x0:=cs_ext hEd x0
             clear hEd
             have HFIN:Hid (∀wx t,RowN wr wx t (vecP X m) (List.replicate LL.length 0)→∃B' R P lg,B'.xb=xb∧StartR w wx B' t X LL m R P lg):=Lib.hid (fun wx t hRN=>by
              obtain ⟨B',h1,h2,h3,h4,h5⟩:=HCX2.out.rename HBN.out hRN.ext hRN.at_ hRN.new hRN.ne
              have hs5:=(HE5.out.trans HCE.out).size
              have hs6:=HCE.out.size
              refine ⟨B',R,P,lg,h1.trans HBX.out,⟨(HE5.out.trans HCE.out).trans hRN.ext,HCX.out,(own_row HO5.out).2,⟨ca,cc,w5,by rw [h2,HBC.out,HN.out],ColW.of HO5.out.any,HE5.out,HCE.out.trans hRN.ext,by rw [h1,HBX.out,HX0.out];exact Nat.le_refl _,Nat.le_trans hs6 hRN.new.2.1,Nat.le_trans hs6 hRN.new.2.2⟩,h3,h4,hRN.at_,h5,fun h=>by rw [←HN.out];exact HCI.out h⟩⟩)
             go_upto_region 32 with fail
             go_region_law (
              go_simp
              go_at_call 93
              refine (HPW.out _ (by repeat (first | exact Ext.refl _ | exact Ext.alloc _ _ | apply Ext.then_dr | apply Ext.then_drN | apply Ext.then_drN2 | (refine Ext.then_al ?_ _)))).mono ?_
              rintro e wb ⟨pb,rfl,hpb,hEa,hpv⟩
              have hEw:Ext wr wb:=Ext.trans (by repeat (first | exact Ext.refl _ | exact Ext.alloc _ _ | apply Ext.then_dr | apply Ext.then_drN | apply Ext.then_drN2 | (refine Ext.then_al ?_ _))) hEa
              have HEW:=Lib.hid hEw
              have HPV:=Lib.hid hpv
              have HPB:=Lib.hid hpb
              have HEA:=Lib.hid hEa
              clear hEa hpv hEw hpb)
             all_goals
              simp only [List.getElem_toArray,List.getElem_cons_succ,List.getElem_cons_zero,Act.put,List.setIfInBounds_toArray,List.set_cons_succ,List.set_cons_zero]
              go_wp2_with fail
              go_ret3
              first
               | (obtain ⟨B',R,P,lg,hb,hst⟩:=HFIN.out _ _ (rowN_A HEW.out HPB.out HPV.out HLV.out.1 HLV.out.2)
                  exact ⟨B',(_,pb,_),X,R,P,lg,by rw [hb];rfl,hst⟩)
               | (obtain ⟨B',R,P,lg,hb,hst⟩:=HFIN.out _ _ (rowN_B ((Ext.alloc _ _).then_dr) HEA.out HPB.out HPV.out (hs_ext (Ext.drew _) hs_new) (Nat.le_refl _) HLV.out.1 HLV.out.2)
                  exact ⟨B',(_,pb,_),X,R,P,lg,by rw [hb];rfl,hst⟩)

/-- what solve leaves -/
structure SolveR (w w':World) (B:XeB) (t:Nat × Nat × Nat) (X:List Nat) (LL:List (List Pw)) (m:List Pw) (R:List ERow) (P p k:List Int) (at_:Int):Prop where
 ext:Ext w w'
 cols:ColsP (LL++[m]) X
 six:∀x∈X,x<6
 cv:∃ca cc,B.cv=.slice ca X.length cc∧ColW w' ca X
 nd:B.Nd
 tr:RowAt w' t ⟨p,k,false⟩
 xe:XeAt w' B R P false
 inv:EInv X.length (LL.map (vecP X)) X.length R P
 res:(at_=-1∧TInv X.length (LL.map (vecP X)) (vecP X m) X.length p k)∨∃c,c<X.length∧at_=(c:Int)∧TInv X.length (LL.map (vecP X)) (vecP X m) c p k∧gt p c≠0∧(gt P c=-1∨∃(i:Nat) (r:ERow),gt P c=i∧R[i]?=some r∧¬gt r.p c∣gt p c)
def SolveE (w:World) (LL:List (List Pw)) (m:List Pw) (e:Ending) (w':World):Prop :=
 (e=.returned (.tuple #[.pointer none,.pointer none,.int .i64 0,.int .i64 3])∧Ext w w') ∨
 ∃(B:XeB) (t:Nat × Nat × Nat) (X:List Nat) (R:List ERow) (P p k:List Int) (at_:Int),e=.returned (.tuple #[.pointer (some ⟨B.xb,0,none⟩),.pointer (some ⟨t.1,0,none⟩),.int .i64 at_,.int .i64 0])∧SolveR w w' B t X LL m R P p k at_
theorem results_tmp4 {fn:Func} {t u v x:Tmp} (h:fn.results=#[.tmp t,.tmp u,.tmp v,.tmp x]) (tmps:Array Value) (P:Program) (w:World) :
 (results fn tmps).run P w=.ok (.tuple #[tmps.getD t undef,tmps.getD u undef,tmps.getD v undef,tmps.getD x undef]) w:=by
 simp [results,h]
theorem solve_any {w:World} {S:Nat→Prop} {a ma:Option Addr} {cap mc:Nat} {LL:List (List Pw)} {m:List Pw} (hL:LsG (elL elPw) w S (.slice a LL.length cap) LL) (hm:LsG elPw w S (.slice ma m.length mc) m) (hG:GoodL LL) (gm:Good m) (rm:Rng 1000 m) :
 Calls Tryz.prog 22 #[.slice a LL.length cap,.slice ma m.length mc] w fun e w'=>SolveE w LL m e w':=by
 have HST:=Lib.hid (start_any hL hm hG gm rm)
 have HRM:=Lib.hid rm
 have hll:=hG.len
 clear hL hm hG gm rm
 go_enter Tryz.func22,Tryz.ntmps22
 go_wp2_with fail
 refine HST.out.mono ?_
 rintro e w1 ⟨B,t,X,R,P,lg,rfl,hS⟩
 have HS:=Lib.hid hS
 obtain ⟨xb,hxb⟩:∃xb,xb=B.xb:=⟨_,rfl⟩
 obtain ⟨t1,ht1⟩:∃t1,t1=t.1:=⟨_,rfl⟩
 have x3:w1.cell? ⟨xb,3,none⟩=some (.bool lg):=by rw [hxb];exact hS.xe.large
 have HXB:=Lib.hid hxb
 have HT1:=Lib.hid ht1
 rw [←hxb,←ht1]
 clear hS hxb ht1
 rcases Bool.eq_false_or_eq_true lg with hb | hb
 · rw [hb] at x3
   clear hb
   go_wp2_with fail
   refine bodyPost_ret (results_tmp4 rfl _ _ _) rfl ?_
   exact .inl ⟨rfl,HS.out.ext⟩
 · rw [hb] at x3 HS
   clear hb
   obtain ⟨ca,cc,wc,hcv,-⟩:=HS.out.cv
   have HRD:=Lib.hid (ereduce_any HS.out.nd HS.out.td HS.out.xe (HS.out.inv rfl) (by have:=TInv.init (X:=X) (G:=LL.map (vecP X)) HRM.out;rw [List.length_map] at this;exact this) HS.out.tr hcv (by have:=asc_len HS.out.cols.asc HS.out.six;omega) (by rw [List.length_map];omega))
   rw [←HXB.out,←HT1.out] at HRD
   clear hcv
   go_wp2_with fail
   refine HRD.out.mono ?_
   rintro e w2 ⟨at_,rfl,lg,hC,hx,hR⟩
   have HC:Hid (∃ca cc,B.cv=.slice ca X.length cc∧ColW w2 ca X∧Ext w w2):=Lib.hid (by
    obtain ⟨ca,cc,wc,h1,h2,h3,h4,h5,h6,h7⟩:=HS.out.cv
    have h8:Ext wc w2:=hC.ext h4 (fun k hk=>by rcases hk with rfl | rfl | rfl<;>assumption)
    exact ⟨ca,cc,h1,h2.ext h8,h3.trans h8⟩)
   have HR:=Lib.hid hR
   rw [←HXB.out] at hx
   have x4:=hx
   clear hC hR hx x3
   rcases Bool.eq_false_or_eq_true lg with hb | hb
   · rw [hb] at x4
     clear hb
     go_wp2_with fail
     refine bodyPost_ret (results_tmp4 rfl _ _ _) rfl ?_
     obtain ⟨_,_,-,-,h⟩:=HC.out
     exact .inl ⟨rfl,h⟩
   · have HR2:=Lib.hid (HR.out hb)
     rw [hb] at x4
     clear hb HR
     go_wp2_with fail
     refine bodyPost_ret (results_tmp4 rfl _ _ _) rfl ?_
     obtain ⟨p,k,h1,h2,h3⟩:=HR2.out
     obtain ⟨ca,cc,h4,h5,h6⟩:=HC.out
     exact .inr ⟨B,t,X,R,P,p,k,at_,by rw [←HXB.out,←HT1.out];rfl,⟨h6,HS.out.cols,HS.out.six,⟨ca,cc,h4,h5⟩,HS.out.nd,h2,h1,HS.out.inv rfl,h3⟩⟩
end Go.Proofs.YtclijngnoepbiaaGreat
