/- Contracts: CheckRefute's search; lists of products searched with a closure. Contracts: exponent.CheckRefute accepts a character that refutes. Contracts: exponent.CheckRefute accepts a character that refutes. -/
import Derived.Test.YtclijngnoepbiaaGreatPu7
import Derived.Laws.EntriesVeiled
set_option maxRecDepth 100000
set_option maxHeartbeats 8000000
namespace Go.Proofs.YtclijngnoepbiaaGreat
open Go Go.RowKit
set_option linter.unusedVariables false
set_option linter.unusedSimpArgs false

theorem icmp_chk {w:World} {x:Pw} {t:Nat} (hx:x.1<6) (ht:t<6):Calls Tryz.prog 45 #[.agg #[.int .i64 2,.string (ltr x.1),.int .i64 2,.slice none 0 0,.int .i64 x.2],.agg #[.int .i64 2,.string (ltr t),.int .i64 2,.slice none 0 0]] w fun e w'=>e=.returned (.int .i64 (if x.1<t then -1 else if t<x.1 then 1 else 0))∧Ext w w':=by
 obtain ⟨bx,w1,hbx,hw1,HX,hE1⟩:=box_new w (.cells #[.int .i64 2,.string (ltr x.1),.int .i64 2,.slice none 0 0,.int .i64 x.2] 66)
 obtain ⟨by',w2,hby,hw2,HY,hE2⟩:=box_new w1 (.cells #[.int .i64 2,.string (ltr t),.int .i64 2,.slice none 0 0] 33)
 have hby1:by'=bx+1:=by rw [hby,hw1,World.size_alloc,hbx]
 have hX:=hs_ext hE2 HX.out
 have x0:w2.cell? ⟨bx,0,none⟩=some (.int .i64 2):=by rw [cellc hX];rfl
 have x1:w2.cell? ⟨bx,1,none⟩=some (.string (ltr x.1)):=by rw [cellc hX];rfl
 have x2:w2.cell? ⟨bx,2,none⟩=some (.int .i64 2):=by rw [cellc hX];rfl
 have x3:w2.cell? ⟨bx,3,none⟩=some (.slice none 0 0):=by rw [cellc hX];rfl
 have y0:w2.cell? ⟨by',0,none⟩=some (.int .i64 2):=by rw [cellc HY.out];rfl
 have y1:w2.cell? ⟨by',1,none⟩=some (.string (ltr t)):=by rw [cellc HY.out];rfl
 have y2:w2.cell? ⟨by',2,none⟩=some (.int .i64 2):=by rw [cellc HY.out];rfl
 have y3:w2.cell? ⟨by',3,none⟩=some (.slice none 0 0):=by rw [cellc HY.out];rfl
 have HC:=Lib.hid (fun (w':World)=>pcmp_atm (w:=w') hx ht)
 unfold atmV at HC
 obtain ⟨o,ho⟩:∃o:Int,o=if x.1<t then -1 else if t<x.1 then 1 else 0:=⟨_,rfl⟩
 rw [←ho] at HC ⊢
 have HE2:=Lib.hid (hE1.trans hE2)
 clear hE1 hE2 hX ho
 go_enter Tryz.func45,Tryz.ntmps45
 go_upto_region 1 with fail
 rw [←hw1,←hbx,←hw2,←hby1]
 clear hw1 hbx hw2 hby hby1
 go_wp2_with fail
 refine (HC.out w2).mono ?_
 rintro e w3 ⟨rfl,hE3⟩
 have HE3:=Lib.hid (HE2.out.trans hE3)
 clear hE3
 go_wp2_with fail
 go_ret
 exact ⟨rfl,HE3.out⟩
theorem psearch_chk {w:World} {S:Nat→Prop} {a:Option Addr} {cap t:Nat} {L:List Pw} (hL:LsG elPw w S (.slice a L.length cap) L) (hG:Good L) (ht:t<6) :
 Calls Tryz.prog 44 #[.slice a L.length cap,.agg #[.int .i64 2,.string (ltr t),.int .i64 2,.slice none 0 0],.func (.func 45) #[] #[]] w fun e w'=>∃i:Nat,e=.returned (.tuple #[.int .i64 i,.bool (decide (∃p∈L,p.1=t))])∧Ext w w'∧SrchP L t i:=by
 obtain ⟨-,hl,hc⟩:=hL.len
 unfold maxLen at hc
 have h6:=hG.len
 obtain ⟨bx,w1,hbx,hw1,HX,hE1⟩:=box_new w (.cells #[.int .i64 2,.string (ltr t),.int .i64 2,.slice none 0 0] 33)
 have b0:w1.cell? ⟨bx,0,none⟩=some (.int .i64 2):=by rw [cellc HX.out];rfl
 have b1:w1.cell? ⟨bx,1,none⟩=some (.string (ltr t)):=by rw [cellc HX.out];rfl
 have b2:w1.cell? ⟨bx,2,none⟩=some (.int .i64 2):=by rw [cellc HX.out];rfl
 have b3:w1.cell? ⟨bx,3,none⟩=some (.slice none 0 0):=by rw [cellc HX.out];rfl
 have HE1:=Lib.hid hE1
 have HA:=Lib.hid (hL.ext hE1)
 have HS:=Lib.hid hG
 have B0:=Lib.hid b0
 have B1:=Lib.hid b1
 have B2:=Lib.hid b2
 have B3:=Lib.hid b3
 clear hL hG b0 b1 b2 b3 hE1
 go_enter Tryz.func44,Tryz.ntmps44
 go_upto_region 1 with fail
 rw [←hw1,←hbx]
 clear hw1 hbx
 go_wp2_with fail
 go_loopw [9,10,11] (fun iv jv _ wr=>∃i j:Nat,iv=.int .i64 i∧jv=.int .i64 j∧i≤j∧j≤L.length∧Hid (∀(k:Nat) x,k<i→L[k]?=some x→x.1<t)∧Hid (∀(k:Nat) x,j≤k→L[k]?=some x→¬x.1<t)∧Hid (Ext w1 wr)) (fun iv jv _ _=>(intOf jv).toNat-(intOf iv).toNat)
 case atStart=>exact ⟨0,L.length,rfl,rfl,by omega,by omega,Lib.hid (fun k x h=>by omega),Lib.hid (fun k x h hx=>by have:=(List.getElem?_eq_some_iff.1 hx).1;omega),Lib.hid (Ext.refl _)⟩
 case round =>
  obtain ⟨i,j,rfl,rfl,hij,hj,HLO,HHI,HE⟩:=hrel
  have b0:=cs_ext HE.out B0.out
  have b1:=cs_ext HE.out B1.out
  have b2:=cs_ext HE.out B2.out
  have b3:=cs_ext HE.out B3.out
  by_cases hlt:i<j
  · obtain ⟨h,hh⟩:∃h:Nat,h=(i+j) / 2:=⟨_,rfl⟩
    have hhl:h<L.length:=by omega
    have hhi2:((i:Int)+(j:Int)) / 2=(h:Int):=by omega
    have hih:i≤h∧h<j:=by omega
    obtain ⟨x,hx⟩:∃x,L[h]?=some x:=⟨_,List.getElem?_eq_getElem hhl⟩
    obtain ⟨xb,xo,rfl,-,x0,x1,x2,x3,x4,hx6,-⟩:=pwAt (HA.out.ext HE.out) hx
    obtain ⟨o,ho⟩:∃o:Int,o=if x.1<t then -1 else if t<x.1 then 1 else 0:=⟨_,rfl⟩
    have HCON:=Lib.hid (fun (w':World)=>icmp_chk (w:=w') (x:=x) hx6 ht)
    rw [←ho] at HCON
    have HX:=Lib.hid hx
    have HO:=Lib.hid ho
    have HHI2:=Lib.hid hhi2
    clear hx ho hh hhi2
    go_wp2_with fail
    rw [HHI2.out]
    have HFCT:=Lib.hid (And.intro b0 (And.intro b1 (And.intro b2 (And.intro b3 (And.intro x0 (And.intro x1 (And.intro x2 (And.intro x3 x4))))))))
    refine wp_region_reg 8 false (by kernel_rfl) (by kernel_rfl) ?_
    refine reg_value (fun _=>rfl) ?_ (fun g w' vs hM hE hP=>?_) ?_
    rotate_left
    · (clear hP hM;have ⟨z0,z1,z2,z3,z4,z5,z6,z7,z8⟩:=cs_e9 hE HFCT.out;go_simp;first | done | rfl)
    refine reg_value (fun _=>rfl) ?_ (fun g w' vs hM hE hP=>?_) ?_
    rotate_left
    · (clear hP hM;have ⟨z0,z1,z2,z3,z4,z5,z6,z7,z8⟩:=cs_e9 hE HFCT.out;go_simp;first | done | rfl)
    refine reg_value (fun _=>rfl) ?_ (fun g w' vs hM hE hP=>?_) ?_
    rotate_left
    · (clear hP hM;have ⟨z0,z1,z2,z3,z4,z5,z6,z7,z8⟩:=cs_e9 hE HFCT.out;go_simp;first | done | rfl)
    refine reg_value (fun _=>rfl) ?_ (fun g w' vs hM hE hP=>?_) ?_
    rotate_left
    · (clear hP hM;have ⟨z0,z1,z2,z3,z4,z5,z6,z7,z8⟩:=cs_e9 hE HFCT.out;go_simp;first | done | rfl)
    refine reg_value (fun _=>rfl) ?_ (fun g w' vs hM hE hP=>?_) ?_
    rotate_left
    · (clear hP hM;have ⟨z0,z1,z2,z3,z4,z5,z6,z7,z8⟩:=cs_e9 hE HFCT.out;go_simp;first | done | rfl)
    refine reg_value (fun _=>rfl) ?_ (fun g w' vs hM hE hP=>?_) ?_
    rotate_left
    · (clear hP hM;have ⟨z0,z1,z2,z3,z4,z5,z6,z7,z8⟩:=cs_e9 hE HFCT.out;go_simp;first | done | rfl)
    refine reg_const (fun _=>rfl) 45 ?_ (fun g w' vs hM hE hP=>?_) ?_
    rotate_left
    · (clear hP hM;have ⟨z0,z1,z2,z3,z4,z5,z6,z7,z8⟩:=cs_e9 hE HFCT.out;go_simp;first | done | exact ⟨rfl,rfl⟩ | rfl)
    apply Exists.intro
    refine And.intro (fun g w' vs hM hE hP=>?_) ?_
    · exact HCON.out _
    refine reg_value (fun _=>rfl) ?_ (fun g w' vs hM hE hP=>?_) ?_
    rotate_left
    · (clear hP hM;have ⟨z0,z1,z2,z3,z4,z5,z6,z7,z8⟩:=cs_e9 hE HFCT.out;go_simp;first | done | rfl)
    intro g wz hE2 hF hQ
    simp only [List.drop_succ_cons,List.drop_zero,Act.put,List.setIfInBounds_toArray,List.set_cons_succ,List.set_cons_zero]
    clear hF hQ x0 x1 x2 x3 x4 b0 b1 b2 b3
    have HE2:=Lib.hid (HE.out.trans hE2)
    clear hE2
    by_cases hneg:o<0
    · have e1:decide (o<0)=true:=decide_eq_true hneg
      have HLT:Hid (x.1<t):=Lib.hid (by
       have:=HO.out
       by_cases h1:x.1<t
       · exact h1
       · rw [if_neg h1] at this;split at this<;>omega)
      have HLN:Hid (∀(k:Nat) y,k<h+1→L[k]?=some y→y.1<t):=Lib.hid (fun k y hk hy=>by
       rcases Nat.lt_or_ge k h with h' | h'
       · have:=pw_asc HS.out hy HX.out h';have:=HLT.out;omega
       · have:k=h:=by omega
         subst this
         have:=HX.out
         rw [hy] at this;cases this;exact HLT.out)
      go_wp2_with fail
      go_roundw
      case rel=>exact ⟨h+1,j,by go_num,rfl,by omega,by omega,HLN,HHI,HE2⟩
      case measure=>simp [intOf];omega
    · have e1:decide (o<0)=false:=decide_eq_false hneg
      have HGE:Hid (¬x.1<t):=Lib.hid (fun h'=>hneg (by rw [HO.out,if_pos h'];omega))
      have HHN:Hid (∀(k:Nat) y,h≤k→L[k]?=some y→¬y.1<t):=Lib.hid (fun k y hk hy hlt'=>by
       rcases Nat.lt_or_ge h k with h' | h'
       · have:=pw_asc HS.out HX.out hy h';have:=HGE.out;omega
       · have:k=h:=by omega
         subst this
         have:=HX.out
         rw [hy] at this;cases this;exact HGE.out hlt')
      go_wp2_with fail
      go_roundw
      case rel=>exact ⟨i,h,rfl,rfl,by omega,by omega,HLO,HHN,HE2⟩
      case measure=>simp [intOf];omega
  · have hije:j=i:=by omega
    subst hije
    have HSR:Hid (SrchP L t j):=Lib.hid ⟨hj,HLO.out,HHI.out⟩
    by_cases hil:j<L.length
    · obtain ⟨x,hx⟩:∃x,L[j]?=some x:=⟨_,List.getElem?_eq_getElem hil⟩
      obtain ⟨xb,xo,rfl,-,x0,x1,x2,x3,x4,hx6,-⟩:=pwAt (HA.out.ext HE.out) hx
      obtain ⟨o,ho⟩:∃o:Int,o=if x.1<t then -1 else if t<x.1 then 1 else 0:=⟨_,rfl⟩
      have HCON:=Lib.hid (fun (w':World)=>icmp_chk (w:=w') (x:=x) hx6 ht)
      rw [←ho] at HCON
      have HR:Hid ((o==0)=decide (∃p∈L,p.1=t)):=Lib.hid (by
       have hge:=HHI.out j x (Nat.le_refl _) hx
       rw [Bool.eq_iff_iff,beq_iff_eq,decide_eq_true_eq,HSR.out.found HS.out,ho]
       constructor
       · intro h0
         refine ⟨x,hx,?_⟩
         rw [if_neg hge] at h0
         by_cases h1:t<x.1
         · rw [if_pos h1] at h0;omega
         · omega
       · rintro ⟨y,hy,rfl⟩
         rw [hx] at hy
         cases hy
         simp)
      have hilz:(j:Int)<(L.length:Int):=by omega
      have e1:decide ((j:Int)<(L.length:Int))=true:=decide_eq_true hilz
      clear hx ho
      go_wp2_with fail
      have HFCT:=Lib.hid (And.intro b0 (And.intro b1 (And.intro b2 (And.intro b3 (And.intro x0 (And.intro x1 (And.intro x2 (And.intro x3 x4))))))))
      refine wp_region_reg 16 false (by kernel_rfl) (by kernel_rfl) ?_
      refine reg_value (fun _=>rfl) ?_ (fun g w' vs hM hE hP=>?_) ?_
      rotate_left
      · (clear hP hM;have ⟨z0,z1,z2,z3,z4,z5,z6,z7,z8⟩:=cs_e9 hE HFCT.out;go_simp;first | done | rfl)
      refine reg_value (fun _=>rfl) ?_ (fun g w' vs hM hE hP=>?_) ?_
      rotate_left
      · (clear hP hM;have ⟨z0,z1,z2,z3,z4,z5,z6,z7,z8⟩:=cs_e9 hE HFCT.out;go_simp;first | done | rfl)
      refine reg_value (fun _=>rfl) ?_ (fun g w' vs hM hE hP=>?_) ?_
      rotate_left
      · (clear hP hM;have ⟨z0,z1,z2,z3,z4,z5,z6,z7,z8⟩:=cs_e9 hE HFCT.out;go_simp;first | done | rfl)
      refine reg_value (fun _=>rfl) ?_ (fun g w' vs hM hE hP=>?_) ?_
      rotate_left
      · (clear hP hM;have ⟨z0,z1,z2,z3,z4,z5,z6,z7,z8⟩:=cs_e9 hE HFCT.out;go_simp;first | done | rfl)
      refine reg_value (fun _=>rfl) ?_ (fun g w' vs hM hE hP=>?_) ?_
      rotate_left
      · (clear hP hM;have ⟨z0,z1,z2,z3,z4,z5,z6,z7,z8⟩:=cs_e9 hE HFCT.out;go_simp;first | done | rfl)
      refine reg_value (fun g=>by go_simp) ?_ (fun g w' vs hM hE hP=>?_) ?_
      rotate_left
      · (clear hP hM;have ⟨z0,z1,z2,z3,z4,z5,z6,z7,z8⟩:=cs_e9 hE HFCT.out;go_simp;first | done | rfl)
      refine reg_value (fun g=>by go_simp) ?_ (fun g w' vs hM hE hP=>?_) ?_
      rotate_left
      · (clear hP hM;have ⟨z0,z1,z2,z3,z4,z5,z6,z7,z8⟩:=cs_e9 hE HFCT.out;go_simp;first | done | rfl)
      refine reg_value (fun g=>by go_simp) ?_ (fun g w' vs hM hE hP=>?_) ?_
      rotate_left
      · (clear hP hM;have ⟨z0,z1,z2,z3,z4,z5,z6,z7,z8⟩:=cs_e9 hE HFCT.out;go_simp;first | done | rfl)
      refine reg_value (fun g=>by go_simp) ?_ (fun g w' vs hM hE hP=>?_) ?_
      rotate_left
      · (clear hP hM;have ⟨z0,z1,z2,z3,z4,z5,z6,z7,z8⟩:=cs_e9 hE HFCT.out;go_simp;first | done | rfl)
      refine reg_value (fun g=>by go_simp) ?_ (fun g w' vs hM hE hP=>?_) ?_
      rotate_left
      · (clear hP hM;have ⟨z0,z1,z2,z3,z4,z5,z6,z7,z8⟩:=cs_e9 hE HFCT.out;go_simp;first | done | rfl)
      refine reg_value (fun g=>by go_simp) ?_ (fun g w' vs hM hE hP=>?_) ?_
      rotate_left
      · (clear hP hM;have ⟨z0,z1,z2,z3,z4,z5,z6,z7,z8⟩:=cs_e9 hE HFCT.out;go_simp;first | done | rfl)
      refine reg_const (fun g=>by go_simp) 45 ?_ (fun g w' vs hM hE hP=>?_) ?_
      rotate_left
      · (clear hP hM;have ⟨z0,z1,z2,z3,z4,z5,z6,z7,z8⟩:=cs_e9 hE HFCT.out;go_simp;first | done | exact ⟨rfl,rfl⟩ | rfl)
      apply Exists.intro
      refine And.intro (fun g w' vs hM hE hP=>?_) ?_
      · exact HCON.out _
      refine reg_value (fun g=>by go_simp) ?_ (fun g w' vs hM hE hP=>?_) ?_
      rotate_left
      · (clear hP hM;have ⟨z0,z1,z2,z3,z4,z5,z6,z7,z8⟩:=cs_e9 hE HFCT.out;go_simp;first | done | rfl)
      refine reg_value (fun _=>rfl) ?_ (fun g w' vs hM hE hP=>?_) ?_
      rotate_left
      · (clear hP hM;have ⟨z0,z1,z2,z3,z4,z5,z6,z7,z8⟩:=cs_e9 hE HFCT.out;go_simp;first | done | rfl)
      refine reg_value (fun _=>rfl) ?_ (fun g w' vs hM hE hP=>?_) ?_
      rotate_left
      · (clear hP hM;have ⟨z0,z1,z2,z3,z4,z5,z6,z7,z8⟩:=cs_e9 hE HFCT.out;go_simp;first | done | rfl)
      refine reg_value (fun _=>rfl) ?_ (fun g w' vs hM hE hP=>?_) ?_
      rotate_left
      · (clear hP hM;have ⟨z0,z1,z2,z3,z4,z5,z6,z7,z8⟩:=cs_e9 hE HFCT.out;go_simp;first | done | rfl)
      intro g wz hE2 hF hQ
      simp only [List.drop_succ_cons,List.drop_zero,Act.put,List.setIfInBounds_toArray,List.set_cons_succ,List.set_cons_zero]
      clear hF hQ x0 x1 x2 x3 x4 b0 b1 b2 b3
      have HE2:=Lib.hid (HE.out.trans hE2)
      clear hE2
      go_wp2_with fail
      go_ret2
      exact ⟨j,by rw [←HR.out];rfl,HE1.out.trans HE2.out,HSR.out⟩
    · have HR:Hid (decide (∃p∈L,p.1=t)=false):=Lib.hid (by
       rw [decide_eq_false_iff_not,HSR.out.found HS.out]
       rintro ⟨y,hy,-⟩
       have:=(List.getElem?_eq_some_iff.1 hy).1
       omega)
      have hilz:¬(j:Int)<(L.length:Int):=by omega
      have e1:decide ((j:Int)<(L.length:Int))=false:=decide_eq_false hilz
      go_wp2_with fail
      have HFCT:=Lib.hid (And.intro b0 (And.intro b1 (And.intro b2 b3)))
      refine wp_region_reg 16 false (by kernel_rfl) (by kernel_rfl) ?_
      refine reg_value (fun _=>rfl) ?_ (fun g w' vs hM hE hP=>?_) ?_
      rotate_left
      · (clear hP hM;have ⟨z0,z1,z2,z3⟩:=cs_e4 hE HFCT.out;go_simp;first | done | rfl)
      refine reg_value (fun _=>rfl) ?_ (fun g w' vs hM hE hP=>?_) ?_
      rotate_left
      · (clear hP hM;have ⟨z0,z1,z2,z3⟩:=cs_e4 hE HFCT.out;go_simp;first | done | rfl)
      refine reg_value (fun _=>rfl) ?_ (fun g w' vs hM hE hP=>?_) ?_
      rotate_left
      · (clear hP hM;have ⟨z0,z1,z2,z3⟩:=cs_e4 hE HFCT.out;go_simp;first | done | rfl)
      refine reg_value (fun _=>rfl) ?_ (fun g w' vs hM hE hP=>?_) ?_
      rotate_left
      · (clear hP hM;have ⟨z0,z1,z2,z3⟩:=cs_e4 hE HFCT.out;go_simp;first | done | rfl)
      refine reg_value (fun _=>rfl) ?_ (fun g w' vs hM hE hP=>?_) ?_
      rotate_left
      · (clear hP hM;have ⟨z0,z1,z2,z3⟩:=cs_e4 hE HFCT.out;go_simp;first | done | rfl)
      refine reg_skip (fun g=>by go_simp;first | done | (intro h;cases h) | simp [undef]) ?_
      refine reg_skip (fun g=>by go_simp;first | done | (intro h;cases h) | simp [undef]) ?_
      refine reg_skip (fun g=>by go_simp;first | done | (intro h;cases h) | simp [undef]) ?_
      refine reg_skip (fun g=>by go_simp;first | done | (intro h;cases h) | simp [undef]) ?_
      refine reg_skip (fun g=>by go_simp;first | done | (intro h;cases h) | simp [undef]) ?_
      refine reg_skip (fun g=>by go_simp;first | done | (intro h;cases h) | simp [undef]) ?_
      refine reg_skip (fun g=>by go_simp;first | done | (intro h;cases h) | simp [undef]) ?_
      refine reg_skip (fun g=>by go_simp;first | done | (intro h;cases h) | simp [undef]) ?_
      refine reg_value (fun _=>rfl) ?_ (fun g w' vs hM hE hP=>?_) ?_
      rotate_left
      · (clear hP hM;have ⟨z0,z1,z2,z3⟩:=cs_e4 hE HFCT.out;go_simp;first | done | rfl)
      refine reg_value (fun _=>rfl) ?_ (fun g w' vs hM hE hP=>?_) ?_
      rotate_left
      · (clear hP hM;have ⟨z0,z1,z2,z3⟩:=cs_e4 hE HFCT.out;go_simp;first | done | rfl)
      refine reg_value (fun _=>rfl) ?_ (fun g w' vs hM hE hP=>?_) ?_
      rotate_left
      · (clear hP hM;have ⟨z0,z1,z2,z3⟩:=cs_e4 hE HFCT.out;go_simp;first | done | rfl)
      intro g wz hE2 hF hQ
      simp only [List.drop_succ_cons,List.drop_zero,Act.put,List.setIfInBounds_toArray,List.set_cons_succ,List.set_cons_zero]
      clear hF hQ b0 b1 b2 b3
      have HE2:=Lib.hid (HE.out.trans hE2)
      clear hE2
      go_wp2_with fail
      go_ret2
      exact ⟨j,by rw [HR.out];rfl,HE1.out.trans HE2.out,HSR.out⟩
theorem indexLL_any {w:World} {S:Nat→Prop} {a:Option Addr} {n cap fk:Nat} {cs:Array Value} {f:List Pw→Bool} {L:List (List Pw)} (hfk:∀a w,Sem.run Tryz.prog (callFunc fk a) w=.ok (.enter fk a) w) (hL:LsG (elL elPw) w S (.slice a n cap) L)
 (hC:∀(w':World) (x:List Pw) (xa:Option Addr) (xc:Nat),Ext w w'→x∈L→LsG elPw w' S (.slice xa x.length xc) x→Calls Tryz.prog fk (#[.slice xa x.length xc]++cs) w' fun e w''=>e=.returned (.bool (f x))∧Ext w' w'') :
 Calls Tryz.prog 77 #[.slice a n cap,.func (.func fk) #[] cs] w fun e w'=>∃k:Int,e=.returned (.int .i64 k)∧Ext w w'∧(decide (0≤k))=L.any f∧-1≤k∧k≤L.length:=by
 obtain ⟨rfl,hl,hc⟩:=hL.len
 unfold maxLen at hc
 have HL:=Lib.hid hL
 have HCC:=Lib.hid hC
 have HFK:=Lib.hid hfk
 clear hL hC hfk
 go_enter Tryz.func77,Tryz.ntmps77
 go_wp2_with fail
 go_loopw [5,8] (fun x5 kv wr=>∃k:Nat,kv=.int .i64 k∧k≤L.length∧Hid ((L.take k).any f=false)∧Hid (Ext w wr)) (fun x5 kv _=>L.length-(intOf kv).toNat)
 case atStart=>exact ⟨0,rfl,by omega,Lib.hid (by simp),Lib.hid (Ext.refl _)⟩
 case round =>
  obtain ⟨k,rfl,hk,HR,HE⟩:=hrel
  by_cases hlt:k<L.length
  · obtain ⟨x,hx⟩:∃x,L[k]?=some x:=⟨_,List.getElem?_eq_getElem hlt⟩
    obtain ⟨xb,xo,xa,xc,rfl,x0,hxl1,hxl2,hxL⟩:=(HL.out.ext HE.out).lAt hx
    obtain ⟨z,hz⟩:∃z,z=f x:=⟨_,rfl⟩
    have hfk:=HFK.out
    have HC:Hid (Calls Tryz.prog fk (#[.slice xa x.length xc]++cs) wr fun e w''=>e=.returned (.bool z)∧Ext wr w''):=Lib.hid (by rw [hz];exact HCC.out wr x xa xc HE.out (List.mem_of_getElem? hx) hxL)
    have HT:Hid ((L.take (k+1)).any f=z):=Lib.hid (by rw [List.take_add_one,hx,List.any_append,HR.out,hz];simp)
    have HA:Hid (z=true→L.any f=true):=Lib.hid (fun h=>List.any_eq_true.2 ⟨x,List.mem_of_getElem? hx,by rw [←h,hz]⟩)
    clear hz hx hxL
    go_wp2_with fail
    refine HC.out.mono ?_
    rintro e w5 ⟨rfl,hE5⟩
    have HE5:=Lib.hid (HE.out.trans hE5)
    clear hE5 x0 hfk
    cases z with
    | true =>
      go_wp2_with fail
      go_ret
      exact ⟨k,rfl,HE5.out,by rw [HA.out (by first | rfl | trivial)];exact decide_eq_true (by omega),by omega,by omega⟩
    | false =>
      go_wp2_with fail
      go_roundw
      case rel=>exact ⟨k+1,by go_num,by omega,HT,HE5⟩
      case measure=>simp [intOf];omega
  · have HF:Hid (L.any f=false):=Lib.hid (by have:=HR.out;rwa [List.take_of_length_le (by omega)] at this)
    go_wp2_with fail
    go_ret
    exact ⟨-1,rfl,HE.out,by rw [HF.out];rfl,by omega,by omega⟩
theorem containsLL_any {w:World} {S:Nat→Prop} {a:Option Addr} {n cap fk:Nat} {cs:Array Value} {f:List Pw→Bool} {L:List (List Pw)} (hfk:∀a w,Sem.run Tryz.prog (callFunc fk a) w=.ok (.enter fk a) w) (hL:LsG (elL elPw) w S (.slice a n cap) L)
 (hC:∀(w':World) (x:List Pw) (xa:Option Addr) (xc:Nat),Ext w w'→x∈L→LsG elPw w' S (.slice xa x.length xc) x→Calls Tryz.prog fk (#[.slice xa x.length xc]++cs) w' fun e w''=>e=.returned (.bool (f x))∧Ext w' w'') :
 Calls Tryz.prog 38 #[.slice a n cap,.func (.func fk) #[] cs] w fun e w'=>e=.returned (.bool (L.any f))∧Ext w w':=by
 have HI:=Lib.hid (indexLL_any hfk hL hC)
 obtain ⟨z,hz⟩:∃z,z=L.any f:=⟨_,rfl⟩
 rw [←hz] at HI ⊢
 clear hz hL hC hfk
 go_enter Tryz.func38,Tryz.ntmps38
 go_wp2_with fail
 refine HI.out.mono ?_
 rintro e w1 ⟨k,rfl,hE1,hd,-,-⟩
 have HD:=Lib.hid hd
 clear hd
 go_wp2_with fail
 go_ret
 exact ⟨by rw [←HD.out];rfl,hE1⟩
theorem hfk_cr1:∀a w,Sem.run Tryz.prog (callFunc 39 a) w=.ok (.enter 39 a) w:=by
 intro a w
 go_simp
theorem hfk_cr3:∀a w,Sem.run Tryz.prog (callFunc 46 a) w=.ok (.enter 46 a) w:=by
 intro a w
 go_simp
theorem cr1_any {w:World} {S:Nat→Prop} {a:Option Addr} {cap:Nat} {L:List Pw} (hL:LsG elPw w S (.slice a L.length cap) L) (hG:Good L) (hR:Rng 1000 L) :
 Calls Tryz.prog 39 #[.slice a L.length cap] w fun e w'=>e=.returned (.bool false)∧Ext w w':=by
 have HV:=Lib.hid (PValidP_any hL hG hR)
 clear hL hG hR
 go_enter Tryz.func39,Tryz.ntmps39
 go_wp2_with fail
 refine HV.out.mono ?_
 rintro e w1 ⟨rfl,hE1⟩
 have HE1:=Lib.hid hE1
 clear hE1
 go_wp2_with fail
 go_ret
 exact ⟨rfl,HE1.out⟩
/-- a product paired with the values of a character -/
def pairS:List Pw→List Pw→Int
 | [],_=>0
 | p :: L,V=>p.2*cf V p.1+pairS L V
theorem pairS_snoc:∀{L:List Pw} {p:Pw} {V:List Pw},pairS (L++[p]) V=pairS L V+p.2*cf V p.1:=by
 intro L
 induction L with
 | nil=>intro p V;simp [pairS]
 | cons q L ih =>
   intro p V
   show q.2*cf V q.1+pairS (L++[p]) V=q.2*cf V q.1+pairS L V+p.2*cf V p.1
   rw [ih];omega
theorem dot_ite:∀{X:List Nat} {i:Nat} {z:Int} {W:Nat→Int},X.Pairwise (·<·)→i∈X→dot (X.map fun x=>if x=i then z else 0) (X.map W)=z*W i:=by
 intro X
 induction X with
 | nil=>intro i z W _ h;simp at h
 | cons x X ih =>
   intro i z W hX hi
   obtain ⟨h1,h2⟩:=List.pairwise_cons.1 hX
   rw [List.map_cons,List.map_cons,dot_cons]
   by_cases e:x=i
   · rw [if_pos e]
     have hz:dot (X.map fun y=>if y=i then z else 0) (X.map W)=0:=dot_zero (fun c=>by
      left
      unfold gt
      rw [List.getD_eq_getElem?_getD,List.getElem?_map]
      cases hc:X[c]? with
      | none=>rfl
      | some y =>
        have:=h1 y (List.mem_of_getElem? hc)
        show (if y=i then z else 0)=0
        rw [if_neg (by omega)])
     rw [hz,e];omega
   · rw [if_neg e,ih h2 (by rcases List.mem_cons.1 hi with h | h;exact absurd h.symm e;exact h)]
     omega
theorem dot_addL:∀{X:List Nat} {f g:Nat→Int} {W:List Int},dot (X.map fun x=>f x+g x) W=dot (X.map f) W+dot (X.map g) W:=by
 intro X
 induction X with
 | nil=>intro f g W;simp [dot]
 | cons x X ih =>
   intro f g W
   cases W with
   | nil=>simp [dot]
   | cons v W =>
     rw [List.map_cons,List.map_cons,List.map_cons,dot_cons,dot_cons,dot_cons,ih,Int.add_mul]
     omega
theorem pairS_dot {X:List Nat} (hX:X.Pairwise (·<·)) {V:List Pw}:∀{L:List Pw},Good L→(∀p∈L,p.1∈X)→pairS L V=dot (vecP X L) (X.map (cf V)):=by
 intro L
 induction L with
 | nil =>
   intro _ _
   rw [vecP_zero]
   exact (dot_zero (fun c=>.inl (gt_rep _ _))).symm
 | cons p L ih =>
   intro hG hm
   have hne:cf L p.1=0:=cf_out (fun q hq=>by have:=(List.pairwise_cons.1 hG.asc).1 q hq;omega)
   have h1:vecP X (p :: L)=X.map (fun x=>(if x=p.1 then p.2 else 0)+cf L x):=by
    unfold vecP
    refine List.map_congr_left (fun x _=>?_)
    show (if p.1=x then p.2 else cf L x)=_
    by_cases e:p.1=x
    · rw [if_pos e,if_pos e.symm,←e,hne];omega
    · rw [if_neg e,if_neg (fun h=>e h.symm)];omega
   rw [h1,dot_addL,dot_ite hX (hm p (List.mem_cons_self ..))]
   show p.2*cf V p.1+pairS L V=_
   rw [ih hG.tail (fun q hq=>hm q (List.mem_cons_of_mem _ hq))]
   rfl
/-- a character as a list -/
structure ChrL (X:List Nat) (V:List Int) (M:Int) (C:List Pw):Prop where
 good:Good C
 rng:∀p∈C,0<p.2∧p.2<M
 val:X.map (cf C)=V
theorem chrL_of {X:List Nat} {V:List Int} {M:Int} (hX:X.Pairwise (·<·)) (h6:∀x∈X,x<6) (hl:V.length=X.length) (hr:∀x∈V,0≤x∧x<M):ChrL X V M (chrQ (X.zip V) X.length):=by
 unfold chrQ
 rw [List.take_of_length_le (by rw [List.length_zip];omega)]
 have hmem:∀p∈X.zip V,p.1∈X∧p.2∈V:=fun p hp=>List.of_mem_zip hp
 have hasc:(X.zip V).Pairwise (fun p q=>p.1<q.1):=by
  rw [List.pairwise_iff_getElem]
  intro i j hi hj hij
  rw [List.getElem_zip,List.getElem_zip]
  exact (List.pairwise_iff_getElem.1 hX) i j (by rw [List.length_zip] at hi;omega) (by rw [List.length_zip] at hj;omega) hij
 refine ⟨⟨hasc.sublist List.filter_sublist,fun p hp=>h6 p.1 (hmem p ((List.mem_filter.1 hp).1)).1,fun p hp=>?_⟩,fun p hp=>?_,?_⟩
 · have:=(List.mem_filter.1 hp).2
   simpa using this
 · have h1:=(List.mem_filter.1 hp).2
   have h2:=hr p.2 (hmem p ((List.mem_filter.1 hp).1)).2
   have h3:p.2≠0:=by simpa using h1
   omega
 · clear hr h6 hmem hasc
   induction X generalizing V with
   | nil=>cases V with
     | nil=>rfl
     | cons v V=>simp at hl
   | cons x X ih =>
     cases V with
     | nil=>simp at hl
     | cons v V =>
       obtain ⟨h1,h2⟩:=List.pairwise_cons.1 hX
       have hI:=ih h2 (by simpa using hl)
       rw [List.zip_cons_cons,List.map_cons]
       have hout:cf ((X.zip V).filter fun p=>p.2 != 0) x=0:=cf_out (fun p hp e=>by
        have:=h1 p.1 (List.of_mem_zip ((List.mem_filter.1 hp).1)).1
        omega)
       by_cases e:v=0
       · rw [List.filter_cons_of_neg (by simp [e]),hout,hI,e]
       · rw [List.filter_cons_of_pos (by simp [e])]
         congr 1
         · show (if x=x then v else _)=v
           rw [if_pos rfl]
         · refine Eq.trans (List.map_congr_left (fun y hy=>?_)) hI
           have:=h1 y hy
           show (if x=y then v else _)=_
           rw [if_neg (by omega)]

theorem pair_bnd {C:List Pw} {M:Int} (hM:0≤M∧M≤1073741824) (hC:∀p∈C,0<p.2∧p.2<M) (i:Nat):0≤cf C i∧cf C i≤1073741824:=by
 induction C with
 | nil=>exact ⟨Int.le_refl _,by show (0:Int)≤1073741824;omega⟩
 | cons p C ih =>
   have h1:=ih (fun q hq=>hC q (List.mem_cons_of_mem _ hq))
   have h2:=hC p (List.mem_cons_self ..)
   show 0≤(if p.1=i then p.2 else cf C i)∧(if p.1=i then p.2 else cf C i)≤1073741824
   split<;>omega
theorem mul_bnd {a b:Int} (ha:-1000≤a∧a≤1000) (hb:0≤b∧b≤1073741824):-1073741824000≤a*b∧a*b≤1073741824000:=by
 constructor
 · have:(-1000)*b≤a*b:=Int.mul_le_mul_of_nonneg_right ha.1 hb.1
   omega
 · have:a*b≤1000*b:=Int.mul_le_mul_of_nonneg_right ha.2 hb.1
   omega
theorem crZero_any {w:World} {S S':Nat→Prop} {cb:Nat} {M:Int} {va la:Option Addr} {vc lc:Nat} {C L:List Pw} (hb:w.heap[cb]?=some (.cells #[.int .i64 M,.slice va C.length vc] 47)) (hC:LsG elPw w S (.slice va C.length vc) C) (gC:Good C) (hM:2≤M∧M≤1073741824) (rC:∀p∈C,0<p.2∧p.2<M)
 (hL:LsG elPw w S' (.slice la L.length lc) L) (hG:Good L) (hR:Rng 1000 L) :
 Calls Tryz.prog 43 #[.slice la L.length lc,.pointer (some ⟨cb,0,none⟩)] w fun e w'=>e=.returned (.bool (decide (M∣pairS L C)))∧Ext w w':=by
 have hl6:=hG.len
 have hc6:=gC.len
 have HB:=Lib.hid hb
 have HC:=Lib.hid (And.intro hC gC)
 have HRC:=Lib.hid rC
 have HL:=Lib.hid hL
 have HRL:=Lib.hid hR
 have HPB:=Lib.hid (fun i=>pair_bnd (C:=C) (M:=M) (by omega) rC i)
 have HE0:Hid (Ext w w):=Lib.hid (Ext.refl _)
 have HS0:Hid (pairS (L.take 0) C=0):=Lib.hid rfl
 clear hb hC gC rC hL hG hR
 go_enter Tryz.func43,Tryz.ntmps43
 go_upto_region 3 with fail
 go_loopw [4,6,7,8,11] (fun sv _ _ _ kv wr=>∃(q:Nat) (s:Int),sv=.int .i64 s∧kv=.int .i64 q∧q≤L.length∧-1073741824000*(q:Int)≤s∧s≤1073741824000*(q:Int)∧Hid (pairS (L.take q) C=s)∧Hid (Ext w wr)) (fun _ _ _ _ kv _=>L.length-(intOf kv).toNat)
 case atStart=>exact ⟨0,0,rfl,rfl,by omega,by omega,by omega,HS0,HE0⟩
 case round =>
  clear HS0 HE0
  obtain ⟨q,s,rfl,rfl,hq,hs1,hs2,HS,HE⟩:=hrel
  by_cases hlt:q<L.length
  · have hqz:(q:Int)<(L.length:Int):=by omega
    have hq0:(0:Int)≤(q:Int):=by omega
    have wq:IntKind.i64.wrap ((q:Int)+1)=((q+1:Nat):Int):=by rw [IntKind.wrap_i64];omega
    obtain ⟨x,hx⟩:∃x,L[q]?=some x:=⟨_,List.getElem?_eq_getElem hlt⟩
    obtain ⟨b,off,rfl,hbl,p0,p1,p2,p3,p4,hx6,hI⟩:=pwAt (HL.out.ext HE.out) hx
    have hxr:=HRL.out x (List.mem_of_getElem? hx)
    have HN:Hid (pairS (L.take (q+1)) C=s+x.2*cf C x.1):=Lib.hid (by rw [getT hx,pairS_snoc,HS.out])
    obtain ⟨pb,w2,hpb,hw2,HP2,hE2⟩:=box_new wr (.cells #[.int .i64 2,.string (ltr x.1),.int .i64 2,.slice none 0 0,.int .i64 x.2] 66)
    have HSE:=Lib.hid (psearch_chk (HC.out.1.ext (HE.out.trans hE2)) HC.out.2 hx6)
    have HE2:=Lib.hid (HE.out.trans hE2)
    have z0:w2.cell? ⟨pb,0,none⟩=some (.int .i64 2):=by rw [cellc HP2.out];rfl
    have z1:w2.cell? ⟨pb,1,none⟩=some (.string (ltr x.1)):=by rw [cellc HP2.out];rfl
    have z2:w2.cell? ⟨pb,2,none⟩=some (.int .i64 2):=by rw [cellc HP2.out];rfl
    have z3:w2.cell? ⟨pb,3,none⟩=some (.slice none 0 0):=by rw [cellc HP2.out];rfl
    have z4:w2.cell? ⟨pb,4,none⟩=some (.int .i64 x.2):=by rw [cellc HP2.out];rfl
    have c1:w2.cell? ⟨cb,1,none⟩=some (.slice va C.length vc):=by rw [cellc (hs_ext HE2.out HB.out)];rfl
    have hcb:=HPB.out x.1
    clear hx hE2 hx6 hI
    go_upto_region 5 with fail
    rw [←hw2,←hpb]
    clear hw2 hpb p0 p1 p2 p3 p4
    go_wp2_with fail
    refine HSE.out.mono ?_
    rintro e w3 ⟨i,rfl,hE3,hSr⟩
    have HE3:=Lib.hid (HE2.out.trans hE3)
    have HF:=Lib.hid (hSr.found HC.out.2)
    have z4:=cs_ext hE3 z4
    have c1:=cs_ext hE3 c1
    clear hE3 hSr z0 z1 z2 z3
    by_cases hf:∃p∈C,p.1=x.1
    · obtain ⟨y,hy,hyx⟩:=HF.out.1 hf
      obtain ⟨b2,o2,rfl,hb2,y0,y1,y2,y3,y4,hy6,hyI⟩:=pwAt (HC.out.1.ext HE3.out) hy
      have hcv:cf C x.1=y.2:=by rw [←hyx];exact cf_mem HC.out.2 (List.mem_of_getElem? hy)
      rw [hcv] at hcb
      obtain ⟨u,hu⟩:∃u,u=x.2*y.2:=⟨_,rfl⟩
      have hub:=mul_bnd (a:=x.2) (b:=y.2) hxr hcb
      rw [←hu] at hub
      have HN2:Hid (pairS (L.take (q+1)) C=s+u):=Lib.hid (by rw [HN.out,hcv,hu])
      have w1:IntKind.i64.wrap (x.2*y.2)=u:=by rw [←hu,IntKind.wrap_i64];omega
      have w2':IntKind.i64.wrap (s+u)=s+u:=by rw [IntKind.wrap_i64];omega
      have hiC:i<C.length:=(List.getElem?_eq_some_iff.1 hy).1
      have hiz:(i:Int)<(C.length:Int):=by omega
      have hi0:(0:Int)≤(i:Int):=by omega
      have df:decide (∃p∈C,p.1=x.1)=true:=decide_eq_true hf
      rw [df]
      clear hf hy hyx hcv hu y0 y1 y2 y3 hy6 hyI df
      go_upto_region 7 with fail
      have HFCT:=Lib.hid (And.intro z4 (And.intro c1 y4))
      refine wp_region_reg 11 false (by kernel_rfl) (by kernel_rfl) ?_
      refine reg_value (fun _=>rfl) ?_ (fun g w' vs hM hE hP=>?_) ?_
      rotate_left
      · (clear hP hM;go_simp;first | done | rfl)
      refine reg_value (fun _=>rfl) ?_ (fun g w' vs hM hE hP=>?_) ?_
      rotate_left
      · (clear hP hM;go_simp;first | done | rfl)
      refine reg_value (fun _=>rfl) ?_ (fun g w' vs hM hE hP=>?_) ?_
      rotate_left
      · (clear hP hM;have ⟨z0,z1,z2⟩:=cs_e3 hE HFCT.out;go_simp;first | done | rfl)
      refine reg_value (fun _=>rfl) ?_ (fun g w' vs hM hE hP=>?_) ?_
      rotate_left
      · (clear hP hM;go_simp;first | done | rfl)
      refine reg_value (fun _=>rfl) ?_ (fun g w' vs hM hE hP=>?_) ?_
      rotate_left
      · (clear hP hM;have ⟨z0,z1,z2⟩:=cs_e3 hE HFCT.out;go_simp;first | done | rfl)
      refine reg_value (fun _=>rfl) ?_ (fun g w' vs hM hE hP=>?_) ?_
      rotate_left
      · (clear hP hM;go_simp;first | done | rfl)
      refine reg_value (fun _=>rfl) ?_ (fun g w' vs hM hE hP=>?_) ?_
      rotate_left
      · (clear hP hM;go_simp;first | done | rfl)
      refine reg_value (fun _=>rfl) ?_ (fun g w' vs hM hE hP=>?_) ?_
      rotate_left
      · (clear hP hM;go_simp;first | done | rfl)
      refine reg_value (fun _=>rfl) ?_ (fun g w' vs hM hE hP=>?_) ?_
      rotate_left
      · (clear hP hM;have ⟨z0,z1,z2⟩:=cs_e3 hE HFCT.out;go_simp;first | done | rfl)
      refine reg_value (fun _=>rfl) ?_ (fun g w' vs hM hE hP=>?_) ?_
      rotate_left
      · (clear hP hM;go_simp;first | done | rfl)
      refine reg_value (fun _=>rfl) ?_ (fun g w' vs hM hE hP=>?_) ?_
      rotate_left
      · (clear hP hM;go_simp;first | done | rfl)
      intro g w5 hE5 hF hQ
      simp only [List.drop_succ_cons,List.drop_zero,Act.put,List.setIfInBounds_toArray,List.set_cons_succ,List.set_cons_zero]
      have HE5:=Lib.hid (HE3.out.trans hE5)
      clear hF hQ hE5
      go_wp2_with fail
      go_roundw
      case rel=>exact ⟨q+1,s+u,rfl,rfl,by omega,by omega,by omega,HN2,HE5⟩
      case measure=>simp [intOf];omega
    · have HN2:Hid (pairS (L.take (q+1)) C=s):=Lib.hid (by
       rw [HN.out,cf_out (fun p hp e=>hf ⟨p,hp,e⟩),Int.mul_zero,Int.add_zero])
      have df:decide (∃p∈C,p.1=x.1)=false:=decide_eq_false hf
      rw [df]
      clear hf df
      go_wp2_with fail
      go_roundw
      case rel=>exact ⟨q+1,s,rfl,rfl,by omega,by omega,by omega,HN2,HE3⟩
      case measure=>simp [intOf];omega
  · have hqz:¬(q:Int)<(L.length:Int):=by omega
    have HFI:Hid (pairS L C=s):=Lib.hid (by have h:=HS.out;rwa [List.take_of_length_le (by omega)] at h)
    have c0:wr.cell? ⟨cb,0,none⟩=some (.int .i64 M):=by rw [cellc (hs_ext HE.out HB.out)];rfl
    have d1:¬M=0:=by omega
    have d2:(M==0)=false:=beq_eq_false_iff_ne.2 d1
    have d3:(M != 0)=true:=bne_iff_ne.2 d1
    by_cases hs:s=0
    · have HD:Hid (decide (M∣pairS L C)=true):=Lib.hid (by rw [HFI.out,hs];exact decide_eq_true (Int.dvd_zero _))
      have e1:(s==(0:Int))=true:=beq_iff_eq.2 hs
      have e2:decide (s=0)=true:=decide_eq_true hs
      clear hs
      go_wp2_with fail
      go_ret
      exact ⟨by rw [HD.out];rfl,HE.out⟩
    · have e1:(s==(0:Int))=false:=beq_eq_false_iff_ne.2 hs
      have e2:decide (s=0)=false:=decide_eq_false hs
      obtain ⟨r,hr⟩:∃r,r=Int.tmod s M:=⟨_,rfl⟩
      have t1:Int.tmod s M=r:=hr.symm
      have HD:Hid (decide (M∣pairS L C)=decide (r=0)):=Lib.hid (by
       rw [HFI.out,hr]
       by_cases h:M∣s
       · rw [decide_eq_true h,decide_eq_true (Int.tmod_eq_zero_of_dvd h)]
       · rw [decide_eq_false h,decide_eq_false (fun h2=>h (Int.dvd_of_tmod_eq_zero h2))])
      clear hr
      by_cases hr0:r=0
      · have HD2:Hid (decide (M∣pairS L C)=true):=Lib.hid (by rw [HD.out];exact decide_eq_true hr0)
        rw [hr0] at t1
        clear hr0 HD hs
        go_wp2_with fail
        go_ret
        exact ⟨by rw [HD2.out];rfl,HE.out⟩
      · have HD2:Hid (decide (M∣pairS L C)=false):=Lib.hid (by rw [HD.out];exact decide_eq_false hr0)
        have e3:(r==(0:Int))=false:=beq_eq_false_iff_ne.2 hr0
        have e4:decide (r=0)=false:=decide_eq_false hr0
        clear hr0 HD hs
        go_wp2_with fail
        go_ret
        exact ⟨by rw [HD2.out];rfl,HE.out⟩

theorem outside_any {w:World} {n:Int} (h:-35184372088832≤n∧n≤35184372088832):Calls Tryz.prog 41 #[.int .i64 n] w fun e w'=>e=.returned (.bool false)∧Ext w w':=by
 have d1:¬n < -35184372088832:=by omega
 have d2:¬(35184372088832:Int)<n:=by omega
 go_enter Tryz.func41,Tryz.ntmps41
 go_wp2_with fail
 go_ret
 exact ⟨rfl,Ext.refl _⟩
/-- the closure's variable -/
def zeroV (cb:Nat):Value:=.func (.func 43) #[] #[.pointer (some ⟨cb,0,none⟩)]
theorem cr3_any {w:World} {zb cb:Nat} {v:Value} {z:Bool} (hz:w.heap[zb]?=some (.cells #[zeroV cb] 80)) (hC:Calls Tryz.prog 43 #[v,.pointer (some ⟨cb,0,none⟩)] w fun e w'=>e=.returned (.bool z)∧Ext w w') :
 Calls Tryz.prog 46 #[v,.pointer (some ⟨zb,0,none⟩)] w fun e w'=>e=.returned (.bool (!z))∧Ext w w':=by
 have c0:w.cell? ⟨zb,0,none⟩=some (.func (.func 43) #[] #[.pointer (some ⟨cb,0,none⟩)]):=by rw [cellc hz];rfl
 have HC:=Lib.hid hC
 clear hz hC
 go_enter Tryz.func46,Tryz.ntmps46
 go_wp2_with fail
 refine HC.out.mono ?_
 rintro e w1 ⟨rfl,hE1⟩
 have HE1:=Lib.hid hE1
 clear hE1
 go_wp2_with fail
 go_ret
 exact ⟨rfl,HE1.out⟩
theorem checkRefute_any {w:World} {S S':Nat→Prop} {a ma va:Option Addr} {cap mc vc:Nat} {LL:List (List Pw)} {m C:List Pw} {M:Int} (hL:LsG (elL elPw) w S (.slice a LL.length cap) LL) (hm:LsG elPw w S (.slice ma m.length mc) m) (hG:GoodL LL) (gm:Good m) (rm:Rng 1000 m)
 (hC:LsG elPw w S' (.slice va C.length vc) C) (gC:Good C) (hM:2≤M∧M≤1073741824) (rC:∀p∈C,0<p.2∧p.2<M) (hgen:∀L∈LL,M∣pairS L C) (hno:¬M∣pairS m C) :
 Calls Tryz.prog 14 #[.slice a LL.length cap,.slice ma m.length mc,.agg #[.int .i64 M,.slice va C.length vc]] w fun e w'=>e=.returned (.bool true)∧Ext w w':=by
 have hc6:=gC.len
 obtain ⟨cb,w1,hcb,hw1,HCB,hE1⟩:=box_new w (.cells #[.int .i64 M,.slice va C.length vc] 47)
 have HE1:=Lib.hid hE1
 have HVM:=Lib.hid (PValidP_any (hm.ext hE1) gm rm)
 have HCF:=Lib.hid (fun (w':World) (hE:Ext w1 w')=>containsLL_any (f:=fun _=>false) (cs:=#[]) hfk_cr1 (hL.ext (hE1.trans hE)) (fun w'' x xa xc hE2 hx hxL=>cr1_any hxL (hG.all x hx).1 (hG.all x hx).2))
 have HZM:=Lib.hid (fun (w':World) (hE:Ext w1 w')=>crZero_any (hs_ext hE HCB.out) (hC.ext (hE1.trans hE)) gC hM rC (hm.ext (hE1.trans hE)) gm rm)
 have HZL:=Lib.hid (fun (w':World) (zb:Nat) (hE:Ext w1 w') (hz:w'.heap[zb]?=some (.cells #[zeroV cb] 80))=>containsLL_any (f:=fun L=>!(decide (M∣pairS L C))) (cs:=#[.pointer (some ⟨zb,0,none⟩)]) hfk_cr3 (hL.ext (hE1.trans hE)) (fun w'' x xa xc hE2 hx hxL=>cr3_any (hs_ext hE2 hz) (crZero_any (hs_ext (hE.trans hE2) HCB.out) (hC.ext (hE1.trans (hE.trans hE2))) gC hM rC hxL (hG.all x hx).1 (hG.all x hx).2)))
 have hAny0:(LL.any fun _=>false)=false:=by simp
 rw [hAny0] at HCF
 have hAny1:(LL.any fun L=>!(decide (M∣pairS L C)))=false:=by
  rw [List.any_eq_false]
  intro L hL'
  simp [hgen L hL']
 rw [hAny1] at HZL
 rw [decide_eq_false hno] at HZM
 have HC:=Lib.hid (hC.ext hE1)
 have HGC:=Lib.hid (And.intro gC rC)
 have c0:w1.cell? ⟨cb,0,none⟩=some (.int .i64 M):=by rw [cellc HCB.out];rfl
 have c1:w1.cell? ⟨cb,1,none⟩=some (.slice va C.length vc):=by rw [cellc HCB.out];rfl
 have d1:¬M=0:=by omega
 have d2:(M==0)=false:=beq_eq_false_iff_ne.2 d1
 have d3:(M != 0)=true:=bne_iff_ne.2 d1
 have d4:¬M<2:=by omega
 have d5:¬(35184372088832:Int)<M:=by omega
 have d6:¬(200:Int)<(C.length:Int):=by omega
 have hmf:∀(fn:Fn) (first cap:Array Value) (w:World),(Instr.makeFunc fn first cap).run Tryz.prog w=.ok (.func fn first cap) w:=fun _ _ _ _=>rfl
 have HMB:=Lib.hid hM
 clear hL hm hG gm rm hC gC hM rC hgen hno hE1 hAny0 hAny1
 go_enter Tryz.func14,Tryz.ntmps14
 go_upto_region 1 with fail
 rw [←hw1,←hcb]
 clear hw1 hcb
 go_wp2_with fail
 refine HVM.out.mono ?_
 rintro e w2 ⟨rfl,hE2⟩
 have HE2:=Lib.hid hE2
 clear hE2
 go_wp2_with fail
 refine (HCF.out _ HE2.out).mono ?_
 rintro e w3 ⟨rfl,hE3⟩
 have HE3:=Lib.hid (HE2.out.trans hE3)
 obtain ⟨c0,c1⟩:=cs_e2 HE3.out ⟨c0,c1⟩
 clear hE3
 go_upto_region 6 with fail
 clear c0
 go_loopw [7,8,39] (fun _ _ kv wr=>∃q:Nat,kv=.int .i64 q∧q≤C.length∧Hid (Ext w1 wr)) (fun _ _ kv _=>C.length-(intOf kv).toNat)
 case atStart=>exact ⟨0,rfl,by omega,HE3⟩
 case round =>
  clear HE3 c1
  obtain ⟨q,rfl,hq,HE⟩:=hrel
  by_cases hlt:q<C.length
  · have hqz:(q:Int)<(C.length:Int):=by omega
    have hq0:(0:Int)≤(q:Int):=by omega
    have wq:IntKind.i64.wrap ((q:Int)+1)=((q+1:Nat):Int):=by rw [IntKind.wrap_i64];omega
    obtain ⟨x,hx⟩:∃x,C[q]?=some x:=⟨_,List.getElem?_eq_getElem hlt⟩
    obtain ⟨b,off,rfl,hbl,p0,p1,p2,p3,p4,hx6,hI⟩:=pwAt (HC.out.ext HE.out) hx
    have hxr:=HGC.out.2 x (List.mem_of_getElem? hx)
    have hMb:=HMB.out
    obtain ⟨pb,w2,hpb,hw2,HP2,hE2⟩:=box_new wr (.cells #[.int .i64 2,.string (ltr x.1),.int .i64 2,.slice none 0 0,.int .i64 x.2] 66)
    have HE2:=Lib.hid (HE.out.trans hE2)
    have z0:w2.cell? ⟨pb,0,none⟩=some (.int .i64 2):=by rw [cellc HP2.out];rfl
    have z1:w2.cell? ⟨pb,1,none⟩=some (.string (ltr x.1)):=by rw [cellc HP2.out];rfl
    have z2:w2.cell? ⟨pb,2,none⟩=some (.int .i64 2):=by rw [cellc HP2.out];rfl
    have z3:w2.cell? ⟨pb,3,none⟩=some (.slice none 0 0):=by rw [cellc HP2.out];rfl
    have z4:w2.cell? ⟨pb,4,none⟩=some (.int .i64 x.2):=by rw [cellc HP2.out];rfl
    have c1:w2.cell? ⟨cb,1,none⟩=some (.slice (some ⟨b,off,none⟩) C.length vc):=by rw [cellc (hs_ext HE2.out HCB.out)];rfl
    have HCV:=Lib.hid (fun (w':World)=>pvalid_atm (w:=w') hx6)
    have HCS:=Lib.hid (fun (w':World)=>symbol_atm (w:=w') (i:=x.1))
    have HCO:=Lib.hid (fun (w':World)=>outside_any (w:=w') (n:=x.2) (by omega))
    unfold atmV at HCV HCS
    have e1:¬x.2=0:=by omega
    have e2:(x.2==(0:Int))=false:=beq_eq_false_iff_ne.2 e1
    rcases Nat.eq_zero_or_pos q with h0 | h0
    · have g1:¬(0:Int)<(q:Int):=by omega
      have g4:¬0<q:=by omega
      clear hx hE2 hx6 hI hxr h0
      go_upto_region 8 with fail
      rw [←hw2,←hpb]
      clear hw2 hpb p0 p1 p2 p3 p4
      have HFCT:=Lib.hid (And.intro z0 (And.intro z1 (And.intro z2 (And.intro z3 (And.intro z4 c1)))))
      refine wp_region_reg 36 false (by kernel_rfl) (by kernel_rfl) ?_
      refine reg_value (fun _=>rfl) ?_ (fun g w' vs hM hE hP=>?_) ?_
      rotate_left
      · (clear hP hM;go_simp;first | done | rfl)
      refine reg_value (fun _=>rfl) ?_ (fun g w' vs hM hE hP=>?_) ?_
      rotate_left
      · (clear hP hM;have ⟨z0,z1,z2,z3,z4,z5⟩:=cs_e6 hE HFCT.out;go_simp;first | done | rfl)
      refine reg_const (fun _=>rfl) 27 ?_ (fun g w' vs hM hE hP=>?_) ?_
      rotate_left
      · (clear hP hM;have ⟨z0,z1,z2,z3,z4,z5⟩:=cs_e6 hE HFCT.out;go_simp;first | done | exact ⟨rfl,rfl⟩ | rfl)
      apply Exists.intro
      refine And.intro (fun g w' vs hM hE hP=>?_) ?_
      · exact HCV.out _
      refine reg_value (fun _=>rfl) ?_ (fun g w' vs hM hE hP=>?_) ?_
      rotate_left
      · (clear hP hM;go_simp;first | done | rfl)
      refine reg_value (fun _=>rfl) ?_ (fun g w' vs hM hE hP=>?_) ?_
      rotate_left
      · (clear hP hM;go_simp;first | done | rfl)
      refine reg_value (fun g=>by go_simp) ?_ (fun g w' vs hM hE hP=>?_) ?_
      rotate_left
      · (clear hP hM;go_simp;first | done | rfl)
      refine reg_value (fun g=>by go_simp) ?_ (fun g w' vs hM hE hP=>?_) ?_
      rotate_left
      · (clear hP hM;have ⟨z0,z1,z2,z3,z4,z5⟩:=cs_e6 hE HFCT.out;go_simp;first | done | rfl)
      refine reg_const (fun g=>by go_simp) 40 ?_ (fun g w' vs hM hE hP=>?_) ?_
      rotate_left
      · (clear hP hM;have ⟨z0,z1,z2,z3,z4,z5⟩:=cs_e6 hE HFCT.out;go_simp;first | done | exact ⟨rfl,rfl⟩ | rfl)
      apply Exists.intro
      refine And.intro (fun g w' vs hM hE hP=>?_) ?_
      · exact HCS.out _
      refine reg_value (fun _=>rfl) ?_ (fun g w' vs hM hE hP=>?_) ?_
      rotate_left
      · (clear hP hM;go_simp;first | done | rfl)
      refine reg_value (fun _=>rfl) ?_ (fun g w' vs hM hE hP=>?_) ?_
      rotate_left
      · (clear hP hM;go_simp;first | done | rfl)
      refine reg_value (fun g=>by go_simp) ?_ (fun g w' vs hM hE hP=>?_) ?_
      rotate_left
      · (clear hP hM;go_simp;first | done | rfl)
      refine reg_value (fun g=>by go_simp) ?_ (fun g w' vs hM hE hP=>?_) ?_
      rotate_left
      · (clear hP hM;have ⟨z0,z1,z2,z3,z4,z5⟩:=cs_e6 hE HFCT.out;go_simp;first | done | rfl)
      refine reg_value (fun g=>by go_simp) ?_ (fun g w' vs hM hE hP=>?_) ?_
      rotate_left
      · (clear hP hM;go_simp;first | done | rfl)
      refine reg_value (fun _=>rfl) ?_ (fun g w' vs hM hE hP=>?_) ?_
      rotate_left
      · (clear hP hM;go_simp;first | done | rfl)
      refine reg_value (fun _=>rfl) ?_ (fun g w' vs hM hE hP=>?_) ?_
      rotate_left
      · (clear hP hM;go_simp;first | done | rfl)
      refine reg_value (fun g=>by go_simp) ?_ (fun g w' vs hM hE hP=>?_) ?_
      rotate_left
      · (clear hP hM;go_simp;first | done | rfl)
      refine reg_value (fun g=>by go_simp) ?_ (fun g w' vs hM hE hP=>?_) ?_
      rotate_left
      · (clear hP hM;have ⟨z0,z1,z2,z3,z4,z5⟩:=cs_e6 hE HFCT.out;go_simp;first | done | rfl)
      refine reg_const (fun g=>by go_simp) 41 ?_ (fun g w' vs hM hE hP=>?_) ?_
      rotate_left
      · (clear hP hM;have ⟨z0,z1,z2,z3,z4,z5⟩:=cs_e6 hE HFCT.out;go_simp;first | done | exact ⟨rfl,rfl⟩ | rfl)
      apply Exists.intro
      refine And.intro (fun g w' vs hM hE hP=>?_) ?_
      · exact HCO.out _
      refine reg_value (fun _=>rfl) ?_ (fun g w' vs hM hE hP=>?_) ?_
      rotate_left
      · (clear hP hM;go_simp;first | done | rfl)
      refine reg_value (fun _=>rfl) ?_ (fun g w' vs hM hE hP=>?_) ?_
      rotate_left
      · (clear hP hM;go_simp;first | done | rfl)
      refine reg_value (fun g=>by go_simp) ?_ (fun g w' vs hM hE hP=>?_) ?_
      rotate_left
      · (clear hP hM;go_simp;first | done | rfl)
      refine reg_value (fun g=>by go_simp) ?_ (fun g w' vs hM hE hP=>?_) ?_
      rotate_left
      · (clear hP hM;go_simp;first | done | rfl)
      refine reg_value (fun g=>by go_simp) ?_ (fun g w' vs hM hE hP=>?_) ?_
      rotate_left
      · (clear hP hM;go_simp;first | done | rfl)
      refine reg_skip (fun g=>by go_simp;first | done | (intro h;cases h) | simp [undef]) ?_
      refine reg_skip (fun g=>by go_simp;first | done | (intro h;cases h) | simp [undef]) ?_
      refine reg_skip (fun g=>by go_simp;first | done | (intro h;cases h) | simp [undef]) ?_
      refine reg_skip (fun g=>by go_simp;first | done | (intro h;cases h) | simp [undef]) ?_
      refine reg_skip (fun g=>by go_simp;first | done | (intro h;cases h) | simp [undef]) ?_
      refine reg_skip (fun g=>by go_simp;first | done | (intro h;cases h) | simp [undef]) ?_
      refine reg_skip (fun g=>by go_simp;first | done | (intro h;cases h) | simp [undef]) ?_
      refine reg_skip (fun g=>by go_simp;first | done | (intro h;cases h) | simp [undef]) ?_
      refine reg_skip (fun g=>by go_simp;first | done | (intro h;cases h) | simp [undef]) ?_
      refine reg_skip (fun g=>by go_simp;first | done | (intro h;cases h) | simp [undef]) ?_
      refine reg_skip (fun g=>by go_simp;first | done | (intro h;cases h) | simp [undef]) ?_
      refine reg_value (fun g=>by go_simp) ?_ (fun g w' vs hM hE hP=>?_) ?_
      rotate_left
      · (clear hP hM;go_simp;first | done | rfl)
      refine reg_value (fun _=>rfl) ?_ (fun g w' vs hM hE hP=>?_) ?_
      rotate_left
      · (clear hP hM;go_simp;first | done | rfl)
      intro g w5 hE5 hF hQ
      simp only [List.drop_succ_cons,List.drop_zero,Act.put,List.setIfInBounds_toArray,List.set_cons_succ,List.set_cons_zero]
      have HE5:=Lib.hid (HE2.out.trans hE5)
      clear hF hQ hE5
      go_wp2_with fail
      go_roundw
      case rel=>exact ⟨q+1,rfl,by omega,HE5⟩
      case measure=>simp [intOf];omega
    · obtain ⟨c,hqc⟩:∃c,q=c+1:=⟨q-1,by omega⟩
      obtain ⟨y,hy⟩:∃y,C[c]?=some y:=⟨_,List.getElem?_eq_getElem (by omega)⟩
      obtain ⟨b2,o2,hbo,hb2,y0,y1,y2,y3,y4,hy6,hyI⟩:=pwAt (HC.out.ext HE2.out) hy
      cases hbo
      have hyx:=pw_asc HGC.out.1 hy hx (by omega)
      have HCP:Hid (∀w':World,Calls Tryz.prog 42 #[atmV y.1,atmV x.1] w' fun e w''=>e=.returned (.int .i64 (-1))∧Ext w' w''):=Lib.hid (fun w'=>(pcmp_atm hy6 hx6).mono fun e w'' ⟨h1,h2⟩=>⟨by rw [h1,if_pos hyx],h2⟩)
      unfold atmV at HCP
      have wm:IntKind.i64.wrap ((q:Int)-1)=(c:Int):=by rw [IntKind.wrap_i64];omega
      have g1:(0:Int)<(q:Int):=by omega
      have g4:0<q:=h0
      have g2:(0:Int)≤(c:Int):=by omega
      have g3:(c:Int)<(C.length:Int):=by omega
      clear hx hE2 hx6 hI hxr hy hyx hy6 hyI hqc h0
      go_upto_region 8 with fail
      rw [←hw2,←hpb]
      clear hw2 hpb p0 p1 p2 p3 p4
      have HFCT:=Lib.hid (And.intro z0 (And.intro z1 (And.intro z2 (And.intro z3 (And.intro z4 (And.intro c1 (And.intro y0 (And.intro y1 (And.intro y2 y3)))))))))
      refine wp_region_reg 36 false (by kernel_rfl) (by kernel_rfl) ?_
      refine reg_value (fun _=>rfl) ?_ (fun g w' vs hM hE hP=>?_) ?_
      rotate_left
      · (clear hP hM;go_simp;first | done | rfl)
      refine reg_value (fun _=>rfl) ?_ (fun g w' vs hM hE hP=>?_) ?_
      rotate_left
      · (clear hP hM;have ⟨z0,z1,z2,z3,z4,z5,z6,z7,z8,z9⟩:=cs_e10 hE HFCT.out;go_simp;first | done | rfl)
      refine reg_const (fun _=>rfl) 27 ?_ (fun g w' vs hM hE hP=>?_) ?_
      rotate_left
      · (clear hP hM;have ⟨z0,z1,z2,z3,z4,z5,z6,z7,z8,z9⟩:=cs_e10 hE HFCT.out;go_simp;first | done | exact ⟨rfl,rfl⟩ | rfl)
      apply Exists.intro
      refine And.intro (fun g w' vs hM hE hP=>?_) ?_
      · exact HCV.out _
      refine reg_value (fun _=>rfl) ?_ (fun g w' vs hM hE hP=>?_) ?_
      rotate_left
      · (clear hP hM;go_simp;first | done | rfl)
      refine reg_value (fun _=>rfl) ?_ (fun g w' vs hM hE hP=>?_) ?_
      rotate_left
      · (clear hP hM;go_simp;first | done | rfl)
      refine reg_value (fun g=>by go_simp) ?_ (fun g w' vs hM hE hP=>?_) ?_
      rotate_left
      · (clear hP hM;go_simp;first | done | rfl)
      refine reg_value (fun g=>by go_simp) ?_ (fun g w' vs hM hE hP=>?_) ?_
      rotate_left
      · (clear hP hM;have ⟨z0,z1,z2,z3,z4,z5,z6,z7,z8,z9⟩:=cs_e10 hE HFCT.out;go_simp;first | done | rfl)
      refine reg_const (fun g=>by go_simp) 40 ?_ (fun g w' vs hM hE hP=>?_) ?_
      rotate_left
      · (clear hP hM;have ⟨z0,z1,z2,z3,z4,z5,z6,z7,z8,z9⟩:=cs_e10 hE HFCT.out;go_simp;first | done | exact ⟨rfl,rfl⟩ | rfl)
      apply Exists.intro
      refine And.intro (fun g w' vs hM hE hP=>?_) ?_
      · exact HCS.out _
      refine reg_value (fun _=>rfl) ?_ (fun g w' vs hM hE hP=>?_) ?_
      rotate_left
      · (clear hP hM;go_simp;first | done | rfl)
      refine reg_value (fun _=>rfl) ?_ (fun g w' vs hM hE hP=>?_) ?_
      rotate_left
      · (clear hP hM;go_simp;first | done | rfl)
      refine reg_value (fun g=>by go_simp) ?_ (fun g w' vs hM hE hP=>?_) ?_
      rotate_left
      · (clear hP hM;go_simp;first | done | rfl)
      refine reg_value (fun g=>by go_simp) ?_ (fun g w' vs hM hE hP=>?_) ?_
      rotate_left
      · (clear hP hM;have ⟨z0,z1,z2,z3,z4,z5,z6,z7,z8,z9⟩:=cs_e10 hE HFCT.out;go_simp;first | done | rfl)
      refine reg_value (fun g=>by go_simp) ?_ (fun g w' vs hM hE hP=>?_) ?_
      rotate_left
      · (clear hP hM;go_simp;first | done | rfl)
      refine reg_value (fun _=>rfl) ?_ (fun g w' vs hM hE hP=>?_) ?_
      rotate_left
      · (clear hP hM;go_simp;first | done | rfl)
      refine reg_value (fun _=>rfl) ?_ (fun g w' vs hM hE hP=>?_) ?_
      rotate_left
      · (clear hP hM;go_simp;first | done | rfl)
      refine reg_value (fun g=>by go_simp) ?_ (fun g w' vs hM hE hP=>?_) ?_
      rotate_left
      · (clear hP hM;go_simp;first | done | rfl)
      refine reg_value (fun g=>by go_simp) ?_ (fun g w' vs hM hE hP=>?_) ?_
      rotate_left
      · (clear hP hM;have ⟨z0,z1,z2,z3,z4,z5,z6,z7,z8,z9⟩:=cs_e10 hE HFCT.out;go_simp;first | done | rfl)
      refine reg_const (fun g=>by go_simp) 41 ?_ (fun g w' vs hM hE hP=>?_) ?_
      rotate_left
      · (clear hP hM;have ⟨z0,z1,z2,z3,z4,z5,z6,z7,z8,z9⟩:=cs_e10 hE HFCT.out;go_simp;first | done | exact ⟨rfl,rfl⟩ | rfl)
      apply Exists.intro
      refine And.intro (fun g w' vs hM hE hP=>?_) ?_
      · exact HCO.out _
      refine reg_value (fun _=>rfl) ?_ (fun g w' vs hM hE hP=>?_) ?_
      rotate_left
      · (clear hP hM;go_simp;first | done | rfl)
      refine reg_value (fun _=>rfl) ?_ (fun g w' vs hM hE hP=>?_) ?_
      rotate_left
      · (clear hP hM;go_simp;first | done | rfl)
      refine reg_value (fun g=>by go_simp) ?_ (fun g w' vs hM hE hP=>?_) ?_
      rotate_left
      · (clear hP hM;go_simp;first | done | rfl)
      refine reg_value (fun g=>by go_simp) ?_ (fun g w' vs hM hE hP=>?_) ?_
      rotate_left
      · (clear hP hM;go_simp;first | done | rfl)
      refine reg_value (fun g=>by go_simp) ?_ (fun g w' vs hM hE hP=>?_) ?_
      rotate_left
      · (clear hP hM;go_simp;first | done | rfl)
      refine reg_value (fun g=>by go_simp) ?_ (fun g w' vs hM hE hP=>?_) ?_
      rotate_left
      · (clear hP hM;go_simp;first | done | rfl)
      refine reg_value (fun g=>by go_simp) ?_ (fun g w' vs hM hE hP=>?_) ?_
      rotate_left
      · (clear hP hM;have ⟨z0,z1,z2,z3,z4,z5,z6,z7,z8,z9⟩:=cs_e10 hE HFCT.out;go_simp;first | done | rfl)
      refine reg_value (fun g=>by go_simp) ?_ (fun g w' vs hM hE hP=>?_) ?_
      rotate_left
      · (clear hP hM;go_simp;first | done | rfl)
      refine reg_value (fun g=>by go_simp) ?_ (fun g w' vs hM hE hP=>?_) ?_
      rotate_left
      · (clear hP hM;go_simp;first | done | rfl)
      refine reg_value (fun g=>by go_simp) ?_ (fun g w' vs hM hE hP=>?_) ?_
      rotate_left
      · (clear hP hM;go_simp;first | done | rfl)
      refine reg_value (fun g=>by go_simp) ?_ (fun g w' vs hM hE hP=>?_) ?_
      rotate_left
      · (clear hP hM;go_simp;first | done | rfl)
      refine reg_value (fun g=>by go_simp) ?_ (fun g w' vs hM hE hP=>?_) ?_
      rotate_left
      · (clear hP hM;have ⟨z0,z1,z2,z3,z4,z5,z6,z7,z8,z9⟩:=cs_e10 hE HFCT.out;go_simp;first | done | rfl)
      refine reg_value (fun g=>by go_simp) ?_ (fun g w' vs hM hE hP=>?_) ?_
      rotate_left
      · (clear hP hM;go_simp;first | done | rfl)
      refine reg_value (fun g=>by go_simp) ?_ (fun g w' vs hM hE hP=>?_) ?_
      rotate_left
      · (clear hP hM;have ⟨z0,z1,z2,z3,z4,z5,z6,z7,z8,z9⟩:=cs_e10 hE HFCT.out;go_simp;first | done | rfl)
      refine reg_const (fun g=>by go_simp) 42 ?_ (fun g w' vs hM hE hP=>?_) ?_
      rotate_left
      · (clear hP hM;have ⟨z0,z1,z2,z3,z4,z5,z6,z7,z8,z9⟩:=cs_e10 hE HFCT.out;go_simp;first | done | exact ⟨rfl,rfl⟩ | rfl)
      apply Exists.intro
      refine And.intro (fun g w' vs hM hE hP=>?_) ?_
      · exact HCP.out _
      refine reg_value (fun g=>by go_simp) ?_ (fun g w' vs hM hE hP=>?_) ?_
      rotate_left
      · (clear hP hM;go_simp;first | done | rfl)
      refine reg_value (fun g=>by go_simp) ?_ (fun g w' vs hM hE hP=>?_) ?_
      rotate_left
      · (clear hP hM;go_simp;first | done | rfl)
      refine reg_value (fun _=>rfl) ?_ (fun g w' vs hM hE hP=>?_) ?_
      rotate_left
      · (clear hP hM;go_simp;first | done | rfl)
      intro g w5 hE5 hF hQ
      simp only [List.drop_succ_cons,List.drop_zero,Act.put,List.setIfInBounds_toArray,List.set_cons_succ,List.set_cons_zero]
      have HE5:=Lib.hid (HE2.out.trans hE5)
      clear hF hQ hE5
      go_wp2_with fail
      go_roundw
      case rel=>exact ⟨q+1,rfl,by omega,HE5⟩
      case measure=>simp [intOf];omega
  · have hqz:¬(q:Int)<(C.length:Int):=by omega
    obtain ⟨zb,w2,hzb,hw2,HZB,hE2⟩:=box_new wr (.cells #[zeroV cb] 80)
    have HE2:=Lib.hid (HE.out.trans hE2)
    have c0:w2.cell? ⟨zb,0,none⟩=some (.func (.func 43) #[] #[.pointer (some ⟨cb,0,none⟩)]):=by rw [cellc HZB.out];rfl
    unfold zeroV at hw2
    clear hE2
    go_upto_region 12 with fail
    rw [←hw2,←hzb]
    clear hw2 hzb
    go_wp2_with fail
    refine (HZM.out _ HE2.out).mono ?_
    rintro e w5 ⟨rfl,hE5⟩
    have HZB5:=Lib.hid (hs_ext hE5 HZB.out)
    have HE5:=Lib.hid (HE2.out.trans hE5)
    clear hE5 c0
    go_wp2_with fail
    refine (HZL.out _ _ HE5.out HZB5.out).mono ?_
    rintro e w6 ⟨rfl,hE6⟩
    have HE6:=Lib.hid (HE5.out.trans hE6)
    clear hE6
    go_wp2_with fail
    go_ret
    exact ⟨rfl,HE1.out.trans HE6.out⟩
end Go.Proofs.YtclijngnoepbiaaGreat
