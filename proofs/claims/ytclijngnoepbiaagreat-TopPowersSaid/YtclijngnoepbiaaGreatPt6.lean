/- Contracts: the elimination of exponents: reduce. Contracts: the elimination of exponents: number. Plain law: a digit of a division of two words (math/bits.Div64). -/
import Derived.Test.YtclijngnoepbiaaGreatPt5
set_option maxRecDepth 100000
set_option maxHeartbeats 8000000
namespace Go.Proofs.YtclijngnoepbiaaGreat
open Go Go.RowKit
set_option linter.unusedVariables false
set_option linter.unusedSimpArgs false

/-- the row that is reduced lies apart from the elimination -/
structure TrD (B:XeB) (t:Nat × Nat × Nat):Prop where
 x:t.1≠t.2.1∧t.1≠t.2.2∧t.2.1≠t.2.2
 xb:B.xb≠t.1∧B.xb≠t.2.1∧B.xb≠t.2.2
 rg:B.rg≠t.1∧B.rg≠t.2.1∧B.rg≠t.2.2
 pg:B.pg≠t.1∧B.pg≠t.2.1∧B.pg≠t.2.2
 ad:∀a∈B.AD,(a.1≠t.1∧a.1≠t.2.1∧a.1≠t.2.2)∧(a.2.1≠t.1∧a.2.1≠t.2.1∧a.2.1≠t.2.2)∧(a.2.2≠t.1∧a.2.2≠t.2.1∧a.2.2≠t.2.2)
theorem TrD.seven {B:XeB} {t a:Nat × Nat × Nat} (hD:TrD B t) (hN:B.Nd) (ha:a∈B.AD):[B.xb,t.1,t.2.1,t.2.2,a.1,a.2.1,a.2.2].Nodup:=by
 have h1:=hN.x a ha
 have h2:=hD.ad a ha
 simp only [List.nodup_cons,List.mem_cons,List.not_mem_nil,or_false,not_or,not_false_eq_true,List.nodup_nil,and_true]
 exact ⟨⟨hD.xb.1,hD.xb.2.1,hD.xb.2.2,h1.1.1,h1.1.2.1,h1.1.2.2⟩,⟨hD.x.1,hD.x.2.1,fun e=>h2.1.1 e.symm,fun e=>h2.2.1.1 e.symm,fun e=>h2.2.2.1 e.symm⟩,⟨hD.x.2.2,fun e=>h2.1.2.1 e.symm,fun e=>h2.2.1.2.1 e.symm,fun e=>h2.2.2.2.1 e.symm⟩,⟨fun e=>h2.1.2.2 e.symm,fun e=>h2.2.1.2.2 e.symm,fun e=>h2.2.2.2.2 e.symm⟩,⟨h1.2.2.2.1,h1.2.2.2.2.1⟩,h1.2.2.2.2.2⟩
theorem XeAt.apart {w w':World} {B:XeB} {R:List ERow} {P:List Int} {lg lg':Bool} (h:XeAt w B R P lg) (hN:B.Nd) {t:Nat × Nat × Nat} (hD:TrD B t)
 (hC:Chg (fun q=>q=t.2.1∨q=t.2.2∨q=B.xb) w w') (hx:w'.heap[B.xb]?=some (.cells #[B.cv,.slice B.ro R.length B.rc,.slice B.po P.length B.pc,.bool lg'] 74)):XeAt w' B R P lg':=by
 refine ⟨hx,fun hne=>⟨(h.rows hne).1,hC.keep (h.rows hne).2 (ne3 hD.rg.2.1 hD.rg.2.2 (fun e=>hN.xr.1 e.symm))⟩,fun hne=>⟨(h.piv hne).1,hC.keep (h.piv hne).2 (ne3 hD.pg.2.1 hD.pg.2.2 (fun e=>hN.xr.2.1 e.symm))⟩,h.al,fun i ad r hi hr=>?_⟩
 have hm:=List.mem_of_getElem? hi
 have h1:=h.row i ad r hi hr
 have h2:=hD.ad ad hm
 have h3:=hN.x ad hm
 exact ⟨hC.keep h1.row (ne3 h2.1.2.1 h2.1.2.2 (fun e=>h3.1.1 e.symm)),hC.keep h1.pw (ne3 h2.2.1.2.1 h2.2.1.2.2 (fun e=>h3.1.2.1 e.symm)),hC.keep h1.ks (ne3 h2.2.2.2.1 h2.2.2.2.2 (fun e=>h3.1.2.2 e.symm))⟩
/-- the state of reduce's loop -/
structure RdI (w wr:World) (B:XeB) (t:Nat × Nat × Nat) (G:List (List Int)) (m:List Int) (n c:Nat) (R:List ERow) (P p k:List Int):Prop where
 chg:Chg (fun q=>q=t.2.1∨q=t.2.2∨q=B.xb) w wr
 el:XeAt wr B R P false
 t:RowAt wr t ⟨p,k,false⟩
 inv:TInv n G m c p k
/-- what reduce leaves -/
def RdR (w:World) (B:XeB) (t:Nat × Nat × Nat) (G:List (List Int)) (m:List Int) (n:Nat) (R:List ERow) (P:List Int) (at_:Int) (w':World):Prop :=
 ∃ lg,Chg (fun q=>q=t.2.1∨q=t.2.2∨q=B.xb) w w'∧w'.cell? ⟨B.xb,3,none⟩=some (.bool lg)∧(lg=false→∃p k,XeAt w' B R P false∧RowAt w' t ⟨p,k,false⟩ ∧
   ((at_=-1∧TInv n G m n p k)∨∃c,c<n∧at_=(c:Int)∧TInv n G m c p k∧gt p c≠0∧(gt P c=-1∨∃(i:Nat) (r:ERow),gt P c=i∧R[i]?=some r∧¬gt r.p c∣gt p c)))
theorem ereduce_any {w:World} {B:XeB} {t:Nat × Nat × Nat} {G:List (List Int)} {R:List ERow} {P m p k:List Int} {n cc:Nat} {ca:Option Addr} (hN:B.Nd) (hD:TrD B t) (hE:XeAt w B R P false) (hI:EInv n G n R P) (hT:TInv n G m 0 p k) (ht:RowAt w t ⟨p,k,false⟩) (hcv:B.cv=.slice ca n cc) (hn:n≤1000) (hg:G.length≤1000) :
 Calls Tryz.prog 59 #[.pointer (some ⟨B.xb,0,none⟩),.pointer (some ⟨t.1,0,none⟩)] w fun e w'=>∃at_:Int,e=.returned (.int .i64 at_)∧RdR w B t G m n R P at_ w':=by
 obtain ⟨t1,tp,tk⟩:=t
 have HN:=Lib.hid hN
 have HD:=Lib.hid hD
 have HI:=Lib.hid hI
 have HS0:Hid (∃p k,RdI w w B (t1,tp,tk) G m n 0 R P p k):=Lib.hid ⟨p,k,Chg.refl _ _,hE,ht,hT⟩
 obtain ⟨xb,hxb⟩:∃xb,xb=B.xb:=⟨_,rfl⟩
 rw [←hxb]
 have x0:w.cell? ⟨xb,0,none⟩=some (.slice ca n cc):=by rw [hxb,cellc hE.x,←hcv];rfl
 have HXB:=Lib.hid hxb
 have HLR:Hid (R.length=G.length):=Lib.hid hI.rl
 clear hN hD hE hI hT ht hcv hxb
 go_enter Tryz.func59,Tryz.ntmps59
 go_upto_region 2 with fail
 clear x0
 go_loopw [4,5,6,7,13] (fun _ _ _ _ cv wr=>∃c:Nat,cv=.int .i64 c∧c≤n∧Hid (∃p k,RdI w wr B (t1,tp,tk) G m n c R P p k)) (fun _ _ _ _ cv _=>n-(intOf cv).toNat)
 case atStart=>exact ⟨0,rfl,by omega,HS0⟩
 case round =>
  obtain ⟨c,rfl,hc,HJ⟩:=hrel
  obtain ⟨p,k,hJ⟩:=HJ.out
  have HS:=Lib.hid hJ
  clear HJ hJ
  by_cases hlt:c<n
  · have hcz : (c:Int)<(n:Int):=by omega
    have hc0:(0:Int)≤(c:Int):=by omega
    have hpl:=HS.out.inv.pl
    obtain ⟨a,ha⟩:∃a,a=gt p c:=⟨_,rfl⟩
    have t0:wr.cell? ⟨t1,0,none⟩=some (.slice (some ⟨tp,0,none⟩) n n):=by rw [cellc HS.out.t.row,←hpl];rfl
    have t2:wr.cell? ⟨tp,c,none⟩=some (.int .i64 a):=by rw [ha];exact intsC_at HS.out.t.pw (gt_at (by show c<p.length;omega))
    have har:-1099511627776≤a∧a≤1099511627776:=HS.out.inv.bp a (by rw [ha];exact gt_mem (by omega))
    have HA:=Lib.hid ha
    have HPL:=Lib.hid hpl
    clear ha hpl
    by_cases ha0:a=0
    · have HNX:Hid (∃p k,RdI w wr B (t1,tp,tk) G m n (c+1) R P p k):=Lib.hid ⟨p,k,HS.out.chg,HS.out.el,HS.out.t,HS.out.inv.skip (by rw [←HA.out];exact ha0)⟩
      clear har
      subst ha0
      go_wp2_with fail
      go_roundw
      case rel=>exact ⟨c+1,by go_num,by omega,HNX⟩
      case measure=>simp [intOf];omega
    · have g0:(a==(0:Int))=false:=beq_eq_false_iff_ne.2 ha0
      have hcP:c<P.length:=by rw [HI.out.pl];exact hlt
      obtain ⟨pcell,hpo⟩:=HS.out.el.pcell hcP
      have x2:wr.cell? ⟨xb,2,none⟩=some (.slice (some ⟨B.pg,0,none⟩) n B.pc):=by rw [HXB.out,cellc HS.out.el.x,←hpo,←HI.out.pl];rfl
      clear hpo hcP
      rcases HI.out.piv c hlt with hpv | ⟨i,r,hpv,hri,hru,hrz,hrb⟩
      · have HFR:Hid (RdR w B (t1,tp,tk) G m n R P (c:Int) wr):=Lib.hid ⟨false,HS.out.chg,HS.out.el.large,fun _=>⟨p,k,HS.out.el,HS.out.t,.inr ⟨c,hlt,rfl,HS.out.inv,by rw [←HA.out];exact ha0,.inl hpv⟩⟩⟩
        rw [hpv] at pcell
        clear hpv
        go_wp2_with fail
        go_ret
        exact ⟨_,rfl,HFR.out⟩
      · obtain ⟨⟨s1,pb,kb⟩,hbd,hyrow,hycell,hro⟩:=HS.out.el.adr hri
        have HIV:=Lib.hid (And.intro hpv (And.intro hri (And.intro hrz hrb)))
        have hil:i<G.length:=by have:=(List.getElem?_eq_some_iff.1 hri).1;rw [HLR.out] at this;exact this
        rw [hpv] at pcell
        have yn:r.p.length=n:=(HI.out.len r (List.mem_of_getElem? hri)).1
        obtain ⟨z,hz⟩:∃z,z=gt r.p c:=⟨_,rfl⟩
        have hzr:-1099511627776≤z∧z≤1099511627776:=(HI.out.bnd r (List.mem_of_getElem? hri)).1 z (by rw [hz];exact gt_mem (by omega))
        have hz0:¬z=0:=by rw [hz];exact hrz
        have hz1:(z==(0:Int))=false:=beq_eq_false_iff_ne.2 hz0
        have x1:wr.cell? ⟨xb,1,none⟩=some (.slice (some ⟨B.rg,0,none⟩) G.length B.rc):=by rw [HXB.out,cellc HS.out.el.x,←hro,←HLR.out];rfl
        have y0:wr.cell? ⟨B.rg,i,none⟩=some (.pointer (some ⟨s1,0,none⟩)):=hycell
        have y1:wr.cell? ⟨s1,0,none⟩=some (.slice (some ⟨pb,0,none⟩) n n):=by rw [cellc hyrow.row,←yn];rfl
        have y2:wr.cell? ⟨pb,c,none⟩=some (.int .i64 z):=by rw [hz];exact intsC_at hyrow.pw (gt_at (by omega))
        have HZ:=Lib.hid (And.intro hz (And.intro yn hbd))
        have hiz:(i:Int)<(G.length:Int):=by omega
        have hi0:(0:Int)≤(i:Int):=by omega
        have hi1:¬(i:Int)<0:=by omega
        obtain ⟨md,hmd⟩:∃md,md=Int.tmod a z:=⟨_,rfl⟩
        have hmr:md.natAbs<z.natAbs:=by rw [hmd,Int.natAbs_tmod];exact Nat.mod_lt _ (by omega)
        have hmw:IntKind.i64.wrap md=md:=by rw [IntKind.wrap_i64];omega
        have hmd1:Int.tmod a z=md:=hmd.symm
        obtain ⟨q,hq⟩:∃q,q=Int.tdiv a z:=⟨_,rfl⟩
        have hqr:-1099511627776≤q∧q≤1099511627776:=by rw [hq];exact absI_tdiv har
        have hqd:Int.tdiv a z=q:=hq.symm
        have hqw:IntKind.i64.wrap q=q:=by rw [IntKind.wrap_i64];omega
        have HMD:=Lib.hid (And.intro hmd hq)
        clear hpv hri hru hrz hrb hbd hyrow hycell hro yn hz hmr hmd hq hil
        go_upto_region 8 with fail
        have HFCT:=Lib.hid (And.intro x1 (And.intro x2 (And.intro pcell (And.intro y0 (And.intro y1 y2)))))
        refine wp_region_reg 13 false (by kernel_rfl) (by kernel_rfl) ?_
        refine reg_value (fun _=>rfl) ?_ (fun g w' vs hM hE hP=>?_) ?_
        rotate_left
        · (clear hP hM;go_simp;first | done | rfl)
        refine reg_value (fun _=>rfl) ?_ (fun g w' vs hM hE hP=>?_) ?_
        rotate_left
        · (clear hP hM;go_simp;first | done | rfl)
        refine reg_value (fun _=>rfl) ?_ (fun g w' vs hM hE hP=>?_) ?_
        rotate_left
        · (clear hP hM;go_simp;first | done | rfl)
        refine reg_value (fun _=>rfl) ?_ (fun g w' vs hM hE hP=>?_) ?_
        rotate_left
        · (clear hP hM;have ⟨z0,z1,z2,z3,z4,z5⟩:=cs_e6 hE HFCT.out;go_simp;first | done | rfl)
        refine reg_value (fun _=>rfl) ?_ (fun g w' vs hM hE hP=>?_) ?_
        rotate_left
        · (clear hP hM;go_simp;first | done | rfl)
        refine reg_value (fun _=>rfl) ?_ (fun g w' vs hM hE hP=>?_) ?_
        rotate_left
        · (clear hP hM;go_simp;first | done | rfl)
        refine reg_value (fun _=>rfl) ?_ (fun g w' vs hM hE hP=>?_) ?_
        rotate_left
        · (clear hP hM;go_simp;first | done | rfl)
        refine reg_value (fun _=>rfl) ?_ (fun g w' vs hM hE hP=>?_) ?_
        rotate_left
        · (clear hP hM;have ⟨z0,z1,z2,z3,z4,z5⟩:=cs_e6 hE HFCT.out;go_simp;first | done | rfl)
        refine reg_value (fun _=>rfl) ?_ (fun g w' vs hM hE hP=>?_) ?_
        rotate_left
        · (clear hP hM;go_simp;first | done | rfl)
        refine reg_value (fun _=>rfl) ?_ (fun g w' vs hM hE hP=>?_) ?_
        rotate_left
        · (clear hP hM;go_simp;first | done | rfl)
        refine reg_value (fun _=>rfl) ?_ (fun g w' vs hM hE hP=>?_) ?_
        rotate_left
        · (clear hP hM;have ⟨z0,z1,z2,z3,z4,z5⟩:=cs_e6 hE HFCT.out;go_simp;first | done | rfl)
        refine reg_value (fun _=>rfl) ?_ (fun g w' vs hM hE hP=>?_) ?_
        rotate_left
        · (clear hP hM;go_simp;first | done | rfl)
        refine reg_value (fun _=>rfl) ?_ (fun g w' vs hM hE hP=>?_) ?_
        rotate_left
        · (clear hP hM;have ⟨z0,z1,z2,z3,z4,z5⟩:=cs_e6 hE HFCT.out;go_simp;first | done | rfl)
        intro g wz hE2 hF hQ
        simp only [List.drop_succ_cons,List.drop_zero,Act.put,List.setIfInBounds_toArray,List.set_cons_succ,List.set_cons_zero]
        obtain ⟨y1,y2⟩:=cs_e2 hE2 ⟨y1,y2⟩
        have HEZ:=Lib.hid hE2
        clear hE2 hF hQ x1 x2 pcell y0 t0 t2
        by_cases hm0:md=0
        · have hBp:=HS.out.inv
          have HSUB:Hid (∀w',Ext wr w'→Calls Tryz.prog 95 #[.pointer (some ⟨xb,0,none⟩),.pointer (some ⟨t1,0,none⟩),.pointer (some ⟨s1,0,none⟩),.int .i64 q] w' fun e w''=>e=.returned (.tuple #[])∧SubR w' B.xb B.cv (.slice B.ro R.length B.rc) (.slice B.po P.length B.pc) (t1,tp,tk) ⟨p,k,false⟩ r q w''):=Lib.hid (fun w' hE=>by
           have hE':=HS.out.el.ext hE
           have h7:=HD.out.seven HN.out (List.mem_of_getElem? HZ.out.2.2)
           have hrl:=HI.out.len r (List.mem_of_getElem? HIV.out.2.1)
           rw [HXB.out]
           exact subtract_any hE'.x ⟨hs_ext hE HS.out.t.row,hs_ext hE HS.out.t.pw,hs_ext hE HS.out.t.ks⟩ (hE'.row i _ r HZ.out.2.2 HIV.out.2.1) ⟨hBp.bp,hBp.bk⟩ (HI.out.bnd r (List.mem_of_getElem? HIV.out.2.1)) (by show p.length=_;rw [HPL.out,hrl.1]) (by show k.length=_;rw [hBp.kl,hrl.2]) ⟨by show p.length≤_;rw [HPL.out];exact hn,by show k.length≤_;rw [hBp.kl];exact hg⟩ hqr h7)
          have hq2:gt p c=q*gt r.p c:=by
           rw [←HA.out,←HZ.out.1]
           have h1:=Int.tmod_add_tdiv_mul a z
           rw [hmd1,hqd,hm0] at h1
           omega
          have HQ2:=Lib.hid hq2
          subst hm0
          clear hq2 hBp har hqr hmw HMD
          go_upto_region 11 with fail
          go_wp2_with fail
          refine (HSUB.out wz HEZ.out).mono ?_
          rintro e w5 ⟨rfl,P5,K5,lg5,hC5,hx5,hp5,hk5,lp5,lk5,-,-,ho5⟩
          have hch:Chg (fun q=>q=tp∨q=tk∨q=B.xb) w w5:=(HS.out.chg.trans (Chg.of HEZ.out)).trans hC5
          have hel:=(HS.out.el.ext HEZ.out).apart HN.out HD.out hC5 hx5
          have x3:w5.cell? ⟨xb,3,none⟩=some (.bool lg5):=by rw [HXB.out];exact hel.large
          have hrow:=hC5.keep (hs_ext HEZ.out HS.out.t.row) (ne3 HD.out.x.1 HD.out.x.2.1 (fun e=>HD.out.xb.1 e.symm))
          cases lg5 with
          | true =>
            have HFR:Hid (RdR w B (t1,tp,tk) G m n R P (-1) w5):=Lib.hid ⟨true,hch,hel.large,fun h=>by cases h⟩
            clear hC5 hx5 hp5 hk5 lp5 lk5 ho5 hch hel hrow y1 y2
            go_wp2_with fail
            go_ret
            exact ⟨_,rfl,HFR.out⟩
          | false =>
            obtain ⟨⟨o1,o2⟩,o3,o4⟩:=ho5 rfl
            have HNX:Hid (∃p k,RdI w w5 B (t1,tp,tk) G m n (c+1) R P p k):=Lib.hid ⟨P5,K5,hch,hel,⟨by show _=some (Obj.cells #[.slice (some ⟨tp,0,none⟩) P5.length P5.length,.slice (some ⟨tk,0,none⟩) K5.length K5.length,.bool false] _);rw [lp5,lk5];exact hrow,hp5,hk5⟩,by
             have h1:=HS.out.inv.sub HI.out HIV.out.2.1 HIV.out.2.2.2 HQ2.out (by rw [←o1];exact o2) (by rw [←o3];exact o4)
             have e1:P5=subL p r.p q:=o1
             have e3:K5=subL k r.k q:=o3
             rw [e1,e3]
             exact h1⟩
            clear hC5 hx5 hp5 hk5 lp5 lk5 ho5 hch hel hrow y1 y2 o1 o2 o3 o4
            go_wp2_with fail
            go_roundw
            case rel=>exact ⟨c+1,by go_num,by omega,HNX⟩
            case measure=>simp [intOf];omega
        · have h1:(md==(0:Int))=false:=beq_eq_false_iff_ne.2 hm0
          have h2:(md != (0:Int))=true:=by simp [bne,h1]
          have HFR:Hid (RdR w B (t1,tp,tk) G m n R P (c:Int) wz):=Lib.hid ⟨false,HS.out.chg.trans (Chg.of HEZ.out),(HS.out.el.ext HEZ.out).large,fun _=>⟨p,k,HS.out.el.ext HEZ.out,⟨hs_ext HEZ.out HS.out.t.row,hs_ext HEZ.out HS.out.t.pw,hs_ext HEZ.out HS.out.t.ks⟩,.inr ⟨c,hlt,rfl,HS.out.inv,by rw [←HA.out];exact ha0,.inr ⟨i,r,HIV.out.1,HIV.out.2.1,fun hdv=>by
           rw [←HA.out,←HZ.out.1] at hdv
           exact hm0 (HMD.out.1.trans (Int.tmod_eq_zero_of_dvd hdv))⟩⟩⟩⟩
          go_wp2_with fail
          go_ret
          exact ⟨_,rfl,HFR.out⟩
  · have hcz:¬(c:Int)<(n:Int):=by omega
    have hcn:c=n:=by omega
    have HFR:Hid (RdR w B (t1,tp,tk) G m n R P (-1) wr):=Lib.hid ⟨false,HS.out.chg,HS.out.el.large,fun _=>⟨p,k,HS.out.el,HS.out.t,.inl ⟨rfl,by rw [←hcn];exact hcn ▸ HS.out.inv⟩⟩⟩
    clear hcn
    go_wp2_with fail
    go_ret
    exact ⟨_,rfl,HFR.out⟩

theorem enumber_none {w:World} {B:XeB} {R:List ERow} {P:List Int} {lg:Bool} {c:Nat} (hE:XeAt w B R P lg) (hc:c<P.length) (hp:gt P c=-1) :
 Calls Tryz.prog 35 #[.pointer (some ⟨B.xb,0,none⟩),.int .i64 c] w fun e w'=>e=.returned (.int .i64 0)∧Ext w w':=by
 obtain ⟨pcell,hpo⟩:=hE.pcell hc
 have x2:w.cell? ⟨B.xb,2,none⟩=some (.slice (some ⟨B.pg,0,none⟩) P.length B.pc):=by rw [cellc hE.x,←hpo];rfl
 rw [hp] at pcell
 have hcz:(c:Int)<(P.length:Int):=by omega
 have hc0:(0:Int)≤(c:Int):=by omega
 clear hE hpo hp
 go_enter Tryz.func35,Tryz.ntmps35
 go_wp2_with fail
 go_ret
 exact ⟨rfl,(by repeat (first | exact Ext.refl _ | exact Ext.alloc _ _ | apply Ext.then_dr | apply Ext.then_drN | apply Ext.then_drN2 | (refine Ext.then_al ?_ _)))⟩
theorem enumber_some {w:World} {B:XeB} {R:List ERow} {P:List Int} {lg:Bool} {c i:Nat} {r:ERow} (hE:XeAt w B R P lg) (hc:c<P.length) (hp:gt P c=i) (hr:R[i]?=some r) (hl:c<r.p.length) (hb:B40 r.p) (hl2:r.p.length≤1000) :
 Calls Tryz.prog 35 #[.pointer (some ⟨B.xb,0,none⟩),.int .i64 c] w fun e w'=>e=.returned (.int .i64 (absI (gt r.p c)))∧Ext w w':=by
 obtain ⟨pcell,hpo⟩:=hE.pcell hc
 obtain ⟨⟨s1,pb,kb⟩,hbd,hrow,y0,hro⟩:=hE.adr hr
 obtain ⟨l,hl'⟩:∃l,l=R.length:=⟨_,rfl⟩
 have hil:i<l:=by rw [hl'];exact (List.getElem?_eq_some_iff.1 hr).1
 have x2:w.cell? ⟨B.xb,2,none⟩=some (.slice (some ⟨B.pg,0,none⟩) P.length B.pc):=by rw [cellc hE.x,←hpo];rfl
 have x1:w.cell? ⟨B.xb,1,none⟩=some (.slice (some ⟨B.rg,0,none⟩) l B.rc):=by rw [cellc hE.x,←hro,hl'];rfl
 have y1:w.cell? ⟨s1,0,none⟩=some (.slice (some ⟨pb,0,none⟩) r.p.length r.p.length):=by rw [cellc hrow.row];rfl
 obtain ⟨z,hz⟩:∃z,z=gt r.p c:=⟨_,rfl⟩
 have y2:w.cell? ⟨pb,c,none⟩=some (.int .i64 z):=by rw [hz];exact intsC_at hrow.pw (gt_at hl)
 have hzr:=hb z (by rw [hz];exact gt_mem hl)
 rw [hp] at pcell
 rw [←hz]
 have HABS:=Lib.hid (fun (w':World)=>abs_any (w:=w') (x:=z) (by omega))
 obtain ⟨za,hza⟩:∃za,za=absI z:=⟨_,rfl⟩
 rw [←hza] at HABS ⊢
 have hcz:(c:Int)<(P.length:Int):=by omega
 have hcz2:(c:Int)<(r.p.length:Int):=by omega
 have hc0:(0:Int)≤(c:Int):=by omega
 have hiz:(i:Int)<(l:Int):=by omega
 have hi0:(0:Int)≤(i:Int):=by omega
 have hi1:¬(i:Int)<0:=by omega
 clear hE hpo hp hbd hrow hro hz hza hr hl' hb
 go_enter Tryz.func35,Tryz.ntmps35
 go_upto_region 3 with fail
 have HFCT:=Lib.hid (And.intro x1 (And.intro x2 (And.intro pcell (And.intro y0 (And.intro y1 y2)))))
 refine wp_region_reg 20 false (by kernel_rfl) (by kernel_rfl) ?_
 refine reg_value (fun _=>rfl) ?_ (fun g w' vs hM hE hP=>?_) ?_
 rotate_left
 · (clear hP hM;go_simp;first | done | rfl)
 refine reg_value (fun _=>rfl) ?_ (fun g w' vs hM hE hP=>?_) ?_
 rotate_left
 · (clear hP hM;go_simp;first | done | rfl)
 refine reg_value (fun _=>rfl) ?_ (fun g w' vs hM hE hP=>?_) ?_
 rotate_left
 · (clear hP hM;go_simp;first | done | rfl)
 refine reg_value (fun _=>rfl) ?_ (fun g w' vs hM hE hP=>?_) ?_
 rotate_left
 · (clear hP hM;have ⟨z0,z1,z2,z3,z4,z5⟩:=cs_e6 hE HFCT.out;go_simp;first | done | rfl)
 refine reg_value (fun _=>rfl) ?_ (fun g w' vs hM hE hP=>?_) ?_
 rotate_left
 · (clear hP hM;go_simp;first | done | rfl)
 refine reg_value (fun _=>rfl) ?_ (fun g w' vs hM hE hP=>?_) ?_
 rotate_left
 · (clear hP hM;go_simp;first | done | rfl)
 refine reg_value (fun _=>rfl) ?_ (fun g w' vs hM hE hP=>?_) ?_
 rotate_left
 · (clear hP hM;go_simp;first | done | rfl)
 refine reg_value (fun _=>rfl) ?_ (fun g w' vs hM hE hP=>?_) ?_
 rotate_left
 · (clear hP hM;have ⟨z0,z1,z2,z3,z4,z5⟩:=cs_e6 hE HFCT.out;go_simp;first | done | rfl)
 refine reg_value (fun _=>rfl) ?_ (fun g w' vs hM hE hP=>?_) ?_
 rotate_left
 · (clear hP hM;go_simp;first | done | rfl)
 refine reg_value (fun _=>rfl) ?_ (fun g w' vs hM hE hP=>?_) ?_
 rotate_left
 · (clear hP hM;go_simp;first | done | rfl)
 refine reg_value (fun _=>rfl) ?_ (fun g w' vs hM hE hP=>?_) ?_
 rotate_left
 · (clear hP hM;have ⟨z0,z1,z2,z3,z4,z5⟩:=cs_e6 hE HFCT.out;go_simp;first | done | rfl)
 refine reg_value (fun _=>rfl) ?_ (fun g w' vs hM hE hP=>?_) ?_
 rotate_left
 · (clear hP hM;go_simp;first | done | rfl)
 refine reg_value (fun _=>rfl) ?_ (fun g w' vs hM hE hP=>?_) ?_
 rotate_left
 · (clear hP hM;have ⟨z0,z1,z2,z3,z4,z5⟩:=cs_e6 hE HFCT.out;go_simp;first | done | rfl)
 refine reg_value (fun _=>rfl) ?_ (fun g w' vs hM hE hP=>?_) ?_
 rotate_left
 · (clear hP hM;go_simp;first | done | rfl)
 refine reg_value (fun _=>rfl) ?_ (fun g w' vs hM hE hP=>?_) ?_
 rotate_left
 · (clear hP hM;go_simp;first | done | rfl)
 refine reg_value (fun _=>rfl) ?_ (fun g w' vs hM hE hP=>?_) ?_
 rotate_left
 · (clear hP hM;have ⟨z0,z1,z2,z3,z4,z5⟩:=cs_e6 hE HFCT.out;go_simp;first | done | rfl)
 refine reg_value (fun _=>rfl) ?_ (fun g w' vs hM hE hP=>?_) ?_
 rotate_left
 · (clear hP hM;go_simp;first | done | rfl)
 refine reg_value (fun _=>rfl) ?_ (fun g w' vs hM hE hP=>?_) ?_
 rotate_left
 · (clear hP hM;go_simp;first | done | rfl)
 refine reg_value (fun _=>rfl) ?_ (fun g w' vs hM hE hP=>?_) ?_
 rotate_left
 · (clear hP hM;have ⟨z0,z1,z2,z3,z4,z5⟩:=cs_e6 hE HFCT.out;go_simp;first | done | rfl)
 refine reg_const (fun _=>rfl) 76 ?_ (fun g w' vs hM hE hP=>?_) ?_
 rotate_left
 · (clear hP hM;have ⟨z0,z1,z2,z3,z4,z5⟩:=cs_e6 hE HFCT.out;go_simp;first | done | exact ⟨rfl,rfl⟩ | rfl)
 apply Exists.intro
 refine And.intro (fun g w' vs hM hE hP=>?_) ?_
 · exact HABS.out _
 intro g wz hE2 hF hQ
 simp only [List.drop_succ_cons,List.drop_zero,Act.put,List.setIfInBounds_toArray,List.set_cons_succ,List.set_cons_zero]
 clear hF hQ
 go_wp2_with fail
 go_ret
 exact ⟨rfl,hE2⟩
/-- the remainder of a product -/
def remI (a b m:Int):Int:=(a*b) % m
end Go.Proofs.YtclijngnoepbiaaGreat

namespace Go.Proofs.YtclijngnoepbiaaGreat
open Go
set_option linter.unusedVariables false
set_option linter.unusedSimpArgs false

/-- a guess of a digit: q too large by little, r what it leaves of u -/
structure Dg (B y1 y0 u n q r:Nat):Prop where
 eq:q*y1+r=u
 ge:(u*B+n) / (y1*B+y0)≤q
 le:q≤B+1
theorem dg_mul {B y1 y0 u n q r:Nat} (h:q*y1+r=u):q*(y1*B+y0)+r*B=u*B+q*y0:=by
 rw [←h,Nat.mul_add,Nat.add_mul,Nat.mul_assoc]
 omega
theorem Dg.start {B y1 y0 u n:Nat} (hu:u<y1*B+y0) (h1:B≤2*y1) (h0:y0<B) (hn:n<B):Dg B y1 y0 u n (u / y1) (u % y1):=by
 have hy:0<y1:=by omega
 have he:u / y1*y1+u % y1=u:=by rw [Nat.mul_comm];exact Nat.div_add_mod u y1
 refine ⟨he,?_,?_⟩
 · -- the exact digit is not above
   have hm:=dg_mul (B:=B) (y0:=y0) (n:=n) he
   have hr:=Nat.mod_lt u hy
   refine Nat.le_of_lt_succ ((Nat.div_lt_iff_lt_mul (by omega)).2 ?_)
   have h2:(u % y1+1)*B≤y1*B:=Nat.mul_le_mul_right B (by omega)
   have h3:(u / y1).succ*(y1*B+y0)=u / y1*(y1*B+y0)+(y1*B+y0):=Nat.succ_mul _ _
   have h4:(u % y1+1)*B=u % y1*B+B:=Nat.succ_mul _ _
   rw [h3]
   have h5:0≤u / y1*y0:=Nat.zero_le _
   omega
 · refine Nat.le_of_lt_succ ((Nat.div_lt_iff_lt_mul hy).2 ?_)
   have:(B+1+1)*y1=y1*B+y1+y1:=by rw [Nat.mul_comm,Nat.mul_add,Nat.mul_add];omega
   show u<(B+1+1)*y1
   omega
theorem Dg.small {B y1 y0 u n:Nat} (hu:u<y1*B+y0) (hn:n<B):(u*B+n) / (y1*B+y0)<B:=by
 refine (Nat.div_lt_iff_lt_mul (by omega)).2 ?_
 have h1:(u+1)*B≤(y1*B+y0)*B:=Nat.mul_le_mul_right B hu
 have h2:(u+1)*B=u*B+B:=Nat.succ_mul _ _
 rw [Nat.mul_comm B]
 omega
/-- the test says: too large -/
theorem Dg.dec {B y1 y0 u n q r:Nat} (h:Dg B y1 y0 u n q r) (hu:u<y1*B+y0) (hn:n<B) (ht:B≤q∨B*r+n<q*y0):1≤q∧Dg B y1 y0 u n (q-1) (r+y1)∧q-1≤B:=by
 have hgt:(u*B+n) / (y1*B+y0)<q:=by
  rcases ht with ht | ht
  · exact Nat.lt_of_lt_of_le (Dg.small hu hn) ht
  · refine (Nat.div_lt_iff_lt_mul (by omega)).2 ?_
    have hm:=dg_mul (B:=B) (y0:=y0) (n:=n) h.eq
    have hc:B*r=r*B:=Nat.mul_comm _ _
    omega
 have hq:1≤q:=Nat.lt_of_le_of_lt (Nat.zero_le _) hgt
 have hl:=h.le
 have hge:(u*B+n) / (y1*B+y0)≤q-1:=Nat.le_sub_one_of_lt hgt
 refine ⟨hq,⟨?_,hge,by omega⟩,by omega⟩
 have he:=h.eq
 obtain ⟨p,rfl⟩:∃p,q=p+1:=⟨q-1,by omega⟩
 rw [Nat.succ_mul] at he
 show p*y1+(r+y1)=u
 omega
/-- the test says: right -/
theorem Dg.fit {B y1 y0 u n q r:Nat} (h:Dg B y1 y0 u n q r) (hy:0<y1*B+y0) (ht:q*y0≤B*r+n):q=(u*B+n) / (y1*B+y0):=by
 refine Nat.le_antisymm ((Nat.le_div_iff_mul_le hy).2 ?_) h.ge
 have hm:=dg_mul (B:=B) (y0:=y0) (n:=n) h.eq
 have hc:B*r=r*B:=Nat.mul_comm _ _
 omega
/-- what is left has run over the digit: no test is needed -/
theorem Dg.over {B y1 y0 u n q r:Nat} (h:Dg B y1 y0 u n q r) (hy:0<y1*B+y0) (h0:y0<B) (hq:q≤B) (hr:B≤r):q=(u*B+n) / (y1*B+y0):=by
 refine h.fit hy ?_
 have h1:q*y0≤B*y0:=Nat.mul_le_mul_right _ hq
 have h2:B*y0≤B*r:=Nat.mul_le_mul_left _ (by omega)
 omega
/-- two digits: the remainder of two words -/
theorem two_digits {B y u n1 n0:Nat} (hy:0<y):(((u*B+n1) % y)*B+n0) % y=(u*(B*B)+(n1*B+n0)) % y:=by
 have h1:((u*B+n1) % y*B+n0) % y=((u*B+n1)*B+n0) % y:=by
  rw [Nat.add_mod,Nat.mul_mod,Nat.mod_mod,←Nat.mul_mod,←Nat.add_mod]
 rw [h1]
 congr 1
 rw [Nat.add_mul,Nat.mul_assoc]
 omega
/-- a shift of both takes the shift of the remainder -/
theorem shift_mod {a y s:Nat}:(a*2 ^ s) % (y*2 ^ s) / 2 ^ s=a % y:=by
 rw [Nat.mul_mod_mul_right,Nat.mul_div_cancel _ (Nat.two_pow_pos s)]
end Go.Proofs.YtclijngnoepbiaaGreat
