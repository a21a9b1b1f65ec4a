/- Contract: sealringref06.All. -/
import Derived.Test.YtclijngnoepbiaaGreatPw5
set_option maxRecDepth 100000
set_option maxHeartbeats 8000000
namespace Go.Proofs.YtclijngnoepbiaaGreat
open Go Go.RowKit
set_option linter.unusedVariables false
set_option linter.unusedSimpArgs false

theorem elAtL {α:Type} {E:Elm α} {w:World} {S:Nat→Prop} {a:Option Addr} {D:List (List α)} {cap q:Nat} {x:List α} (h:LsG (elL E) w S (.slice a D.length cap) D) (hq:D[q]?=some x) :
 ∃b off ra rc,a=some ⟨b,off,none⟩∧w.cell? ⟨b,off+q,none⟩=some (.slice ra x.length rc)∧LsG E w S (.slice ra x.length rc) x:=by
 obtain ⟨b,off,cs,rfl,-,hlt,⟨v,rfl,hv⟩,hcs⟩:=h.at hq
 obtain ⟨ra,rc,rfl,-,-⟩:=hv.slice
 have:=hcs 0 _ rfl
 rw [show off+q*(elL E).n+0=off+q from by show off+q*1+0=_;omega] at this
 exact ⟨b,off,ra,rc,rfl,this,hv⟩
theorem infPL:(Tryz.prog.info? 28).map (fun i=>(i.zero,i.size,i.bytes))=some (some (.slice none 0 0),1,24):=by kernel_rfl
theorem PwR.shape {w w':World} {L:List Pw} {e:Ending} (h:PwR w L e w'):∃(a:Option Addr) (n c:Nat) (er:Int),e=.returned (.tuple #[.slice a n c,.int .i64 er])∧Ext w w' ∧
 ((er=0∧n=L.length∧Rng 1000 L∧LsG elPw w' (fun _=>True) (.slice a L.length c) L)∨(er=7∧¬Rng 1000 L)):=by
 obtain ⟨hE,⟨hR,a,c,rfl,hL⟩ | ⟨hR,rfl⟩⟩:=h
 · exact ⟨a,_,c,0,rfl,hE,.inl ⟨rfl,rfl,hR,hL⟩⟩
 · exact ⟨none,0,0,7,rfl,hE,.inr ⟨rfl,hR⟩⟩
theorem PwN.shape {w w':World} {L:List Pw} {e:Ending} (h:PwN w L e w'):∃(a:Option Addr) (n c:Nat) (er:Int),e=.returned (.tuple #[.slice a n c,.int .i64 er])∧Ext w w' ∧
 ((er=0∧n=L.length∧Rng 1000 L∧LsG elPw w' (fun c=>w.heap.size≤c) (.slice a L.length c) L)∨(er=7∧¬Rng 1000 L)):=by
 obtain ⟨hE,⟨hR,a,c,rfl,hL⟩ | ⟨hR,rfl⟩⟩:=h
 · exact ⟨a,_,c,0,rfl,hE,.inl ⟨rfl,rfl,hR,hL⟩⟩
 · exact ⟨none,0,0,7,rfl,hE,.inr ⟨rfl,hR⟩⟩
/-- the rounds of All -/
def AllI (w wr:World) (k:Nat) (lv mv:Value):Prop :=
 Ext w wr∧∃LL m,OwnG (elL elPw) wr w.heap.size 28 (fun c=>w.heap.size≤c∧c<wr.heap.size∧lv.ownBlock≠some c) lv LL∧LL.length=k∧LsG elPw wr (fun c=>lv.ownBlock≠some c) mv m∧GoodL LL∧Good m∧Rng 1000 m
theorem AllI.next {w wr w':World} {k:Nat} {lv mv:Value} (h:AllI w wr k lv mv) (hE:Ext wr w'):AllI w w' k lv mv:=by
 obtain ⟨h0,LL,m,h1,h2,h3,h4⟩:=h
 exact ⟨h0.trans hE,LL,m,(h1.ext hE).wide (fun c h _=>⟨h.1,Nat.lt_of_lt_of_le h.2.1 hE.size,h.2.2⟩),h2,h3.ext hE,h4⟩
theorem AllI.put {w wr w':World} {k:Nat} {lv mv mv':Value} {m:List Pw} (h:AllI w wr k lv mv) (hE:Ext wr w') (hm:LsG elPw w' (fun c=>wr.heap.size≤c) mv' m) (gm:Good m) (rm:Rng 1000 m):AllI w w' k lv mv':=by
 obtain ⟨h0,LL,m0,h1,h2,h3,h4,h5,h6⟩:=h
 refine ⟨h0.trans hE,LL,m,(h1.ext hE).wide (fun c h _=>⟨h.1,Nat.lt_of_lt_of_le h.2.1 hE.size,h.2.2⟩),h2,hm.wide (fun c hc _ e=>?_),h4,gm,rm⟩
 have:=(h1.lt c e).2
 omega
theorem AllI.grow {w2 w4 w8:World} {k:Nat} {lv v8 mv:Value} {LL:List (List Pw)} {L m:List Pw} (hE:Ext w2 w4) (hO:OwnG (elL elPw) w4 w2.heap.size 28 (fun c=>w2.heap.size≤c∧c<w4.heap.size∧lv.ownBlock≠some c) lv LL)
 (hM:LsG elPw w4 (fun c=>lv.ownBlock≠some c) mv m) (hG:LL.length=k∧GoodL (LL++[L])∧Good m∧Rng 1000 m) (o8:OwnG (elL elPw) w8 w2.heap.size 28 (fun c=>w2.heap.size≤c∧c<w4.heap.size∧lv.ownBlock≠some c) v8 (LL++[L]))
 (g8:w4.grownBy w8 lv.ownBlock) (k8:v8.ownBlock=lv.ownBlock∨v8.ownBlock=some w4.heap.size):∃va n vc,v8=.slice va n vc∧Hid (n=k+1)∧Hid (AllI w2 w8 (k+1) (.slice va n vc) mv):=by
 obtain ⟨va8,vc8,hv8,-,-⟩:=id o8.slice
 have hlen:(LL++[L]).length=k+1:=by rw [List.length_append,hG.1];rfl
 refine ⟨va8,_,vc8,hv8,Lib.hid hlen,?_⟩
 rw [←hv8]
 have hok:∀c,c<w4.heap.size→lv.ownBlock≠some c→v8.ownBlock≠some c:=fun c hc h e=>by
  rcases k8 with k | k
  · rw [k] at e;exact h e
  · rw [k] at e;cases e;exact absurd hc (Nat.lt_irrefl _)
 exact Lib.hid ⟨hE.grown g8 (fun c hc=>(hO.lt c hc).1),LL++[L],m,o8.wide (fun c h hc=>⟨h.1,hc,hok c h.2.1 h.2.2⟩),hlen,hM.keep (fun c h hc=>g8.block c hc (fun e=>h e.symm)) (fun c h hc=>hok c hc h) g8.size,hG.2⟩
theorem AllI.slices {w wr:World} {k:Nat} {lv mv:Value} (h:AllI w wr k lv mv):∃va ln vc ma ml mc,lv=.slice va ln vc∧mv=.slice ma ml mc∧ln=k:=by
 obtain ⟨h0,LL,m,h1,h2,h3,h4⟩:=h
 obtain ⟨va,vc,rfl,-,-⟩:=h1.slice
 obtain ⟨ma,mc,rfl,-,-⟩:=h3.slice
 exact ⟨va,_,vc,ma,_,mc,rfl,rfl,h2⟩
def AllE (w:World) (e:Ending) (w':World):Prop:=∃(va ma:Option Addr) (vc mc:Nat) (LL:List (List Pw)) (m:List Pw),e=.returned (.tuple #[.slice va LL.length vc,.slice ma m.length mc])∧Ext w w'∧LsG (elL elPw) w' (fun _=>True) (.slice va LL.length vc) LL∧LsG elPw w' (fun _=>True) (.slice ma m.length mc) m∧GoodL LL∧Good m∧Rng 1000 m
theorem AllI.out {w0 w wr:World} {k:Nat} {lv mv:Value} (h:AllI w wr k lv mv) (hE:Ext w0 w):AllE w0 (.returned (.tuple #[lv,mv])) wr:=by
 obtain ⟨h0,LL,m,h1,h2,h3,h4,h5,h6⟩:=h
 obtain ⟨va,vc,rfl,-,-⟩:=h1.slice
 obtain ⟨ma,mc,rfl,-,-⟩:=h3.slice
 exact ⟨va,ma,vc,mc,LL,m,rfl,hE.trans h0,h1.any,h3.any,h4,h5,h6⟩
theorem Rng.mono {a b:Int} {L:List Pw} (h:Rng a L) (hab:a≤b):Rng b L:=fun p hp=>by have:=h p hp;omega
theorem RAll6_any {w:World} {S1 S2 S3:Nat→Prop} {da xa ra:Option Addr} {dc xc rc:Nat} {D:List (List Int)} {X R:List Int} (hD:LsG (elL elI8) w S1 (.slice da D.length dc) D) (hX:LsG elI8 w S2 (.slice xa X.length xc) X) (hR:LsG elI8 w S3 (.slice ra R.length rc) R) :
 Calls Tryz.prog 5 #[.agg #[.slice da D.length dc,.slice xa X.length xc,.slice ra R.length rc]] w fun e w'=>AllE w e w':=by
 obtain ⟨-,hld,hcd⟩:=hD.len
 obtain ⟨-,hlx,hcx⟩:=hX.len
 unfold maxLen at hcd hcx
 obtain ⟨db,w1,hdb,hw1,HBX,hE1⟩:=box_new w (.cells #[.slice da D.length dc,.slice xa X.length xc,.slice ra R.length rc] 25)
 have d0:w1.cell? ⟨db,0,none⟩=some (.slice da D.length dc):=by rw [cellc HBX.out];rfl
 have d1:w1.cell? ⟨db,1,none⟩=some (.slice xa X.length xc):=by rw [cellc HBX.out];rfl
 have d2:w1.cell? ⟨db,2,none⟩=some (.slice ra R.length rc):=by rw [cellc HBX.out];rfl
 have HD:=Lib.hid (hD.ext hE1)
 have HX:=Lib.hid (hX.ext hE1)
 have HR:=Lib.hid (RMade6_any (hR.ext hE1))
 have HE1:=Lib.hid hE1
 clear hE1 hD hX hR
 go_enter Tryz.func5,Tryz.ntmps5
 go_upto_region 1 with fail
 rw [←hw1,←hdb]
 clear hw1 hdb
 go_wp2_with fail
 refine HR.out.mono ?_
 rintro e w2 ⟨mv,rfl,hE2,m0,hO2,hG2,hR2⟩
 have HI2:Hid (AllI w2 w2 0 (.slice none 0 0) mv):=Lib.hid ⟨Ext.refl _,[],m0,OwnG.nil,rfl,hO2.ls (fun c h _=>absurd h id) (fun g _ _ _ h=>by cases h),⟨by simp,fun L hL=>by simp at hL⟩,hG2,hR2.mono (by omega)⟩
 have HBX2:=Lib.hid (hs_ext hE2 HBX.out)
 have HE12:=Lib.hid hE2
 have HE02:=Lib.hid (HE1.out.trans hE2)
 clear hE2 hO2 hG2 hR2 d0 d1 d2
 go_wp2_with fail
 go_loopw [4,5,6,7,8,9,10] (fun lv mv iv _ _ _ _ wr=>∃k:Nat,iv=.int .i64 k∧k≤8∧k≤D.length∧Hid (AllI w2 wr k lv mv)) (fun _ _ iv _ _ _ _ _=>8-(intOf iv).toNat)
 case atStart=>exact ⟨0,rfl,by omega,by omega,HI2⟩
 case round =>
  obtain ⟨k,rfl,hk8,hk,HI⟩:=hrel
  have HE:=Lib.hid HI.out.1
  obtain ⟨va,ln,vc,ma,ml,mc,rfl,rfl,hlk⟩:=HI.out.slices
  have hlk:=hlk.symm
  subst hlk
  have HB:=Lib.hid (hs_ext HE.out HBX2.out)
  have d0:wr.cell? ⟨db,0,none⟩=some (.slice da D.length dc):=by rw [cellc HB.out];rfl
  have d1:wr.cell? ⟨db,1,none⟩=some (.slice xa X.length xc):=by rw [cellc HB.out];rfl
  have d2:wr.cell? ⟨db,2,none⟩=some (.slice ra R.length rc):=by rw [cellc HB.out];rfl
  by_cases hlt:k<D.length
  · have hki : (k:Int)<(D.length:Int):=by omega
    by_cases h8:k<8
    · have hki8:(k:Int)<8:=by omega
      have hk0:(0:Int)≤(k:Int):=by omega
      have wk:IntKind.i64.wrap ((k:Int)+1)=((k+1:Nat):Int):=by rw [IntKind.wrap_i64];omega
      obtain ⟨x,hx⟩:∃x,D[k]?=some x:=⟨_,List.getElem?_eq_getElem hlt⟩
      obtain ⟨b,off,ea,ec,rfl,p0,hLx⟩:=elAtL (HD.out.ext (HE12.out.trans HE.out)) hx
      have HMD:=Lib.hid (RMade6_any hLx)
      clear hx hLx
      go_wp2_with fail
      refine HMD.out.mono ?_
      rintro e w3 ⟨pv,rfl,hE3,L,hO3,gL,rL⟩
      obtain ⟨pa,pc,rfl,-,-⟩:=hO3.slice
      obtain ⟨nb,w4,hnb,hw4,HN4,hE4⟩:=box_new w3 (.cells #[.slice pa L.length pc] 28)
      have hE34:=hE3.trans hE4
      obtain ⟨h0,LL,m,h1,h2,h3,h4,h5,h6⟩:=HI.out
      have hL4:LsG elPw w4 (fun c=>w2.heap.size≤c∧c<w4.heap.size∧(Value.slice va k vc).ownBlock≠some c) (.slice pa L.length pc) L:=(hO3.ls (S':=fun c=>w2.heap.size≤c∧c<w4.heap.size∧(Value.slice va k vc).ownBlock≠some c) (fun c h _=>absurd h id) (fun g hg hb hl=>⟨Nat.le_trans h0.size hb,Nat.lt_of_lt_of_le hl hE4.size,fun e=>by have:=(h1.lt g e).2;omega⟩)).ext hE4
      have HLS:Hid (LsE (elL elPw) w4 (fun c=>w2.heap.size≤c∧c<w4.heap.size∧(Value.slice va k vc).ownBlock≠some c) (.slice (some ⟨nb,0,none⟩) 1 1) [L]):=Lib.hid (pl_e HN4.out hL4)
      have HO4:Hid (OwnG (elL elPw) w4 w2.heap.size 28 (fun c=>w2.heap.size≤c∧c<w4.heap.size∧(Value.slice va k vc).ownBlock≠some c) (.slice va k vc) LL):=Lib.hid ((h1.ext hE34).wide (fun c h _=>⟨h.1,Nat.lt_of_lt_of_le h.2.1 hE34.size,h.2.2⟩))
      have HSZ:Hid (w2.heap.size≤w4.heap.size):=Lib.hid (h0.trans hE34).size
      have HM4:=Lib.hid (h3.ext hE34)
      have HL6:=Lib.hid h4.len
      have hll:LL.length≤1000000:=by omega
      have HGG:Hid (LL.length=k∧GoodL (LL++[L])∧Good m∧Rng 1000 m):=Lib.hid ⟨h2,⟨by simp;omega,fun Y hY=>by
       rcases List.mem_append.1 hY with hY | hY
       · exact h4.all Y hY
       · simp at hY;subst hY;exact ⟨gL,rL.mono (by omega)⟩⟩,h5,h6⟩
      have HEW:=Lib.hid (h0.trans hE34)
      clear hE3 hE4 hE34 hO3 hL4 h0 h1 h2 h3 h4 h5 h6 gL rL d0 d1 d2 p0
      go_upto_region 7 with (
       at_builtin
       rw [←hw4,←hnb]
       refine wpList_appG (E:=elL elPw) (T:=28) rfl 27 (.tmp 25) (.tmp 32) rfl rfl rfl Tryz.underlying27 infPL rfl (by decide) (by decide) HO4.out HSZ.out (fun c h=>h.2.2) hll (M:=[L]) (by simp) HLS.out ?_
       intro v8 w8 o8 g8 k8
       obtain ⟨va8,n8,vc8,hv8,HN8,HI8⟩:=AllI.grow HEW.out HO4.out HM4.out HGG.out o8 g8 k8
       rw [hv8]
       clear o8 g8 k8 hv8 hw4 hnb HO4 HLS HM4)
      have HB8:=Lib.hid (hs_ext HI8.out.1 HBX2.out)
      have d0:w8.cell? ⟨db,0,none⟩=some (.slice (some ⟨b,off,none⟩) D.length dc):=by rw [cellc HB8.out];rfl
      have d1:w8.cell? ⟨db,1,none⟩=some (.slice xa X.length xc):=by rw [cellc HB8.out];rfl
      have d2:w8.cell? ⟨db,2,none⟩=some (.slice ra R.length rc):=by rw [cellc HB8.out];rfl
      clear HGG HL6 HEW
      by_cases hx:k<X.length
      · have hxi:(k:Int)<(X.length:Int):=by omega
        obtain ⟨n,hn⟩:∃n,X[k]?=some n:=⟨_,List.getElem?_eq_getElem hx⟩
        obtain ⟨xb,xo,rfl,p0,hn1,hn2⟩:=i8At (HX.out.ext (HE12.out.trans HI8.out.1)) hn
        obtain ⟨h0,LL8,m8,h1,h2,h3,h4,h5,h6⟩:=HI8.out
        obtain ⟨y,hy⟩:∃y,LL8[k]?=some y:=⟨_,List.getElem?_eq_getElem (by omega)⟩
        have hLs:=h1.any
        obtain ⟨ga,gc,hgv,-,-⟩:=h1.slice
        rw [hgv] at hLs
        obtain ⟨lb,lo,ya,yc,hga,p1,hLy⟩:=elAtL hLs hy
        obtain ⟨gy,ry⟩:=h4.all y (List.mem_of_getElem? hy)
        have HTM:=Lib.hid (fun (w':World) (hE:Ext w8 w')=>RTimes_any (n:=n) (hLy.ext hE) gy ry (by omega))
        have HM8:=Lib.hid (And.intro h3 (And.intro h5 h6))
        have HYG:=Lib.hid (And.intro gy ry)
        cases hgv
        subst hga
        obtain ⟨ma8,mc8,hmv,-,-⟩:=h3.slice
        cases hmv
        have hcv:IntKind.i64.wrap n=n:=by rw [IntKind.wrap_i64];omega
        have hnn:=HN8.out
        have hkn:(k:Int)<((LL8.length:Nat):Int):=by omega
        have hEd:Ext w8 w8.drew:=Ext.drew w8
        have HS8:Hid (w8.heap.size=w8.drew.heap.size):=Lib.hid rfl
        have HLB:Hid ((Value.slice (some ⟨lb,lo,none⟩) LL8.length vc8).ownBlock=(Value.slice (some ⟨lb,lo,none⟩) LL8.length vc8).ownBlock):=Lib.hid rfl
        obtain ⟨d0,d1,d2,p0,p1⟩:=cs_e5 hEd ⟨d0,d1,d2,p0,p1⟩
        clear hEd hn hy h0 h1 h2 h3 h4 h5 h6 hLs hLy gy ry hnn
        go_upto_region 8 with fail
        go_region_law (
         go_simp
         go_at_call 20
         refine (HTM.out _ (by repeat (first | exact Ext.refl _ | exact Ext.alloc _ _ | apply Ext.then_dr | apply Ext.then_drN | apply Ext.then_drN2 | (refine Ext.then_al ?_ _)))).mono ?_
         intro e w9 h9
         obtain ⟨pl,pn,pk,er,rfl,hE9,hC9⟩:=h9.shape
         have HE9:Hid (Ext w8 w9):=Lib.hid (Ext.trans (by repeat (first | exact Ext.refl _ | exact Ext.alloc _ _ | apply Ext.then_dr | apply Ext.then_drN | apply Ext.then_drN2 | (refine Ext.then_al ?_ _))) hE9)
         have HC9:=Lib.hid hC9
         clear h9 hE9 hC9)
        all_goals
         simp only [List.getElem_toArray,List.getElem_cons_succ,List.getElem_cons_zero,Act.put,List.setIfInBounds_toArray,List.set_cons_succ,List.set_cons_zero]
         have HI9:=Lib.hid (HI8.out.next HE9.out)
         rcases HC9.out with ⟨rfl,rfl,hR9,hL9⟩ | ⟨rfl,hR9⟩
         · have HMU:=Lib.hid (RMulN_any (HM8.out.1.ext HE9.out) hL9 HM8.out.2.1 (timesP_spec HYG.out.1 n).1 HM8.out.2.2 hR9)
           have HRG:Hid (Good (mulP m8 (timesP y n))):=Lib.hid (mulP_spec HM8.out.2.1 (timesP_spec HYG.out.1 n).1).1
           clear hR9 hL9 d0 d1 d2 p0 p1
           go_wp2_with fail
           refine HMU.out.mono ?_
           intro e w10 h10
           obtain ⟨ql,qn,qk,er,rfl,hE10,hC10⟩:=h10.shape
           rcases hC10 with ⟨rfl,rfl,hR10,hL10⟩ | ⟨rfl,hR10⟩
           · have HI10:=Lib.hid (HI9.out.put hE10 hL10 HRG.out hR10)
             clear hE10 h10 hR10 hL10
             go_wp2_with fail
             go_roundw
             case rel=>exact ⟨k+1,by go_num,by omega,by omega,HI10⟩
             case measure=>simp [intOf];omega
           · have HI10:=Lib.hid (HI9.out.next hE10)
             clear hE10 h10 hR10
             go_wp2_with fail
             go_roundw
             case rel=>exact ⟨k+1,by go_num,by omega,by omega,HI10⟩
             case measure=>simp [intOf];omega
         · clear hR9 d0 d1 d2 p0 p1
           go_wp2_with fail
           go_roundw
           case rel=>exact ⟨k+1,by go_num,by omega,by omega,HI9⟩
           case measure=>simp [intOf];omega
      · have hxi:¬(k:Int)<(X.length:Int):=by omega
        go_wp2_with fail
        go_roundw
        case rel=>exact ⟨k+1,by go_num,by omega,by omega,HI8⟩
        case measure=>simp [intOf];omega
    · have hki8:¬(k:Int)<8:=by omega
      go_wp2_with fail
      go_ret2
      exact HI.out.out HE02.out
  · have hki:¬(k:Int)<(D.length:Int):=by omega
    go_wp2_with fail
    go_ret2
    exact HI.out.out HE02.out
end Go.Proofs.YtclijngnoepbiaaGreat
