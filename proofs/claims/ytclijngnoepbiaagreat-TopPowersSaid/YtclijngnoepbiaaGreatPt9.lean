/- Contracts: BinarySearchFunc on products of atoms. Contracts: slices.Insert of one power into an own product. -/
import Derived.Test.YtclijngnoepbiaaGreatPt8
import Derived.Lib.AppendZerosOnto
import Derived.Lib.Overlaps
import Derived.Laws.Externs
import Derived.Laws.NewBlocks
set_option maxRecDepth 100000
set_option maxHeartbeats 8000000
namespace Go.Proofs.YtclijngnoepbiaaGreat
open Go Go.RowKit
set_option linter.unusedVariables false
set_option linter.unusedSimpArgs false

theorem pw_asc {L:List Pw} (h:Good L) {i j:Nat} {x y:Pw} (hi:L[i]?=some x) (hj:L[j]?=some y) (hij:i<j):x.1<y.1:=by
 obtain ⟨h1,rfl⟩:=List.getElem?_eq_some_iff.1 hi
 obtain ⟨h2,rfl⟩:=List.getElem?_eq_some_iff.1 hj
 exact List.pairwise_iff_getElem.1 h.asc i j h1 h2 hij
/-- the place of an atom in a product -/
structure SrchP (L:List Pw) (t i:Nat):Prop where
 le:i≤L.length
 lo:∀(k:Nat) x,k<i→L[k]?=some x→x.1<t
 hi:∀(k:Nat) x,i≤k→L[k]?=some x→¬x.1<t
theorem SrchP.found {L:List Pw} {t i:Nat} (h:SrchP L t i) (hG:Good L):(∃p∈L,p.1=t)↔∃x,L[i]?=some x∧x.1=t:=by
 constructor
 · rintro ⟨p,hp,rfl⟩
   obtain ⟨k,hk⟩:=List.mem_iff_getElem?.1 hp
   rcases Nat.lt_trichotomy k i with h1 | h1 | h1
   · have:=h.lo k p h1 hk;omega
   · subst h1;exact ⟨p,hk,rfl⟩
   · obtain ⟨y,hy⟩:∃y,L[i]?=some y:=⟨_,List.getElem?_eq_getElem (by have:=(List.getElem?_eq_some_iff.1 hk).1;omega)⟩
     have:=pw_asc hG hy hk h1
     have:=h.hi i y (Nat.le_refl _) hy
     omega
 · rintro ⟨x,hx,e⟩
   exact ⟨x,List.mem_of_getElem? hx,e⟩
theorem icmp_ins {w:World} {x:Pw} {t:Nat} (hx:x.1<6) (ht:t<6):Calls Tryz.prog 145 #[.agg #[.int .i64 2,.string (ltr x.1),.int .i64 2,.slice none 0 0,.int .i64 x.2],.agg #[.int .i64 2,.string (ltr t),.int .i64 2,.slice none 0 0]] w fun e w'=>e=.returned (.int .i64 (if x.1<t then -1 else if t<x.1 then 1 else 0))∧Ext w w':=by
 obtain ⟨bx,w1,hbx,hw1,HX,hE1⟩:=box_new w (.cells #[.int .i64 2,.string (ltr x.1),.int .i64 2,.slice none 0 0,.int .i64 x.2] 66)
 obtain ⟨by',w2,hby,hw2,HY,hE2⟩:=box_new w1 (.cells #[.int .i64 2,.string (ltr t),.int .i64 2,.slice none 0 0] 33)
 have hby1:by'=bx+1:=by rw [hby,hw1,World.size_alloc,hbx]
 have hX:=hs_ext hE2 HX.out
 have x0:w2.cell? ⟨bx,0,none⟩=some (.int .i64 2):=by rw [cellc hX];rfl
 have x1:w2.cell? ⟨bx,1,none⟩=some (.string (ltr x.1)):=by rw [cellc hX];rfl
 have x2:w2.cell? ⟨bx,2,none⟩=some (.int .i64 2):=by rw [cellc hX];rfl
 have x3:w2.cell? ⟨bx,3,none⟩=some (.slice none 0 0):=by rw [cellc hX];rfl
 have y0:w2.cell? ⟨by',0,none⟩=some (.int .i64 2):=by rw [cellc HY.out];rfl
 have y1:w2.cell? ⟨by',1,none⟩=some (.string (ltr t)):=by rw [cellc HY.out];rfl
 have y2:w2.cell? ⟨by',2,none⟩=some (.int .i64 2):=by rw [cellc HY.out];rfl
 have y3:w2.cell? ⟨by',3,none⟩=some (.slice none 0 0):=by rw [cellc HY.out];rfl
 have HC:=Lib.hid (fun (w':World)=>pcmp_atm (w:=w') hx ht)
 unfold atmV at HC
 obtain ⟨o,ho⟩:∃o:Int,o=if x.1<t then -1 else if t<x.1 then 1 else 0:=⟨_,rfl⟩
 rw [←ho] at HC ⊢
 have HE2:=Lib.hid (hE1.trans hE2)
 clear hE1 hE2 hX ho
 go_enter Tryz.func145,Tryz.ntmps145
 go_upto_region 1 with fail
 rw [←hw1,←hbx,←hw2,←hby1]
 clear hw1 hbx hw2 hby hby1
 go_wp2_with fail
 refine (HC.out w2).mono ?_
 rintro e w3 ⟨rfl,hE3⟩
 have HE3:=Lib.hid (HE2.out.trans hE3)
 clear hE3
 go_wp2_with fail
 go_ret
 exact ⟨rfl,HE3.out⟩
theorem psearch_ins {w:World} {S:Nat→Prop} {a:Option Addr} {cap t:Nat} {L:List Pw} (hL:LsG elPw w S (.slice a L.length cap) L) (hG:Good L) (ht:t<6) :
 Calls Tryz.prog 44 #[.slice a L.length cap,.agg #[.int .i64 2,.string (ltr t),.int .i64 2,.slice none 0 0],.func (.func 145) #[] #[]] w fun e w'=>∃i:Nat,e=.returned (.tuple #[.int .i64 i,.bool (decide (∃p∈L,p.1=t))])∧Ext w w'∧SrchP L t i:=by
 obtain ⟨-,hl,hc⟩:=hL.len
 unfold maxLen at hc
 have h6:=hG.len
 obtain ⟨bx,w1,hbx,hw1,HX,hE1⟩:=box_new w (.cells #[.int .i64 2,.string (ltr t),.int .i64 2,.slice none 0 0] 33)
 have b0:w1.cell? ⟨bx,0,none⟩=some (.int .i64 2):=by rw [cellc HX.out];rfl
 have b1:w1.cell? ⟨bx,1,none⟩=some (.string (ltr t)):=by rw [cellc HX.out];rfl
 have b2:w1.cell? ⟨bx,2,none⟩=some (.int .i64 2):=by rw [cellc HX.out];rfl
 have b3:w1.cell? ⟨bx,3,none⟩=some (.slice none 0 0):=by rw [cellc HX.out];rfl
 have HE1:=Lib.hid hE1
 have HA:=Lib.hid (hL.ext hE1)
 have HS:=Lib.hid hG
 have B0:=Lib.hid b0
 have B1:=Lib.hid b1
 have B2:=Lib.hid b2
 have B3:=Lib.hid b3
 clear hL hG b0 b1 b2 b3 hE1
 go_enter Tryz.func44,Tryz.ntmps44
 go_upto_region 1 with fail
 rw [←hw1,←hbx]
 clear hw1 hbx
 go_wp2_with fail
 go_loopw [9,10,11] (fun iv jv _ wr=>∃i j:Nat,iv=.int .i64 i∧jv=.int .i64 j∧i≤j∧j≤L.length∧Hid (∀(k:Nat) x,k<i→L[k]?=some x→x.1<t)∧Hid (∀(k:Nat) x,j≤k→L[k]?=some x→¬x.1<t)∧Hid (Ext w1 wr)) (fun iv jv _ _=>(intOf jv).toNat-(intOf iv).toNat)
 case atStart=>exact ⟨0,L.length,rfl,rfl,by omega,by omega,Lib.hid (fun k x h=>by omega),Lib.hid (fun k x h hx=>by have:=(List.getElem?_eq_some_iff.1 hx).1;omega),Lib.hid (Ext.refl _)⟩
 case round =>
  obtain ⟨i,j,rfl,rfl,hij,hj,HLO,HHI,HE⟩:=hrel
  have b0:=cs_ext HE.out B0.out
  have b1:=cs_ext HE.out B1.out
  have b2:=cs_ext HE.out B2.out
  have b3:=cs_ext HE.out B3.out
  by_cases hlt:i<j
  · obtain ⟨h,hh⟩:∃h:Nat,h=(i+j) / 2:=⟨_,rfl⟩
    have hhl:h<L.length:=by omega
    have hhi2:((i:Int)+(j:Int)) / 2=(h:Int):=by omega
    have hih:i≤h∧h<j:=by omega
    obtain ⟨x,hx⟩:∃x,L[h]?=some x:=⟨_,List.getElem?_eq_getElem hhl⟩
    obtain ⟨xb,xo,rfl,-,x0,x1,x2,x3,x4,hx6,-⟩:=pwAt (HA.out.ext HE.out) hx
    obtain ⟨o,ho⟩:∃o:Int,o=if x.1<t then -1 else if t<x.1 then 1 else 0:=⟨_,rfl⟩
    have HCON:=Lib.hid (fun (w':World)=>icmp_ins (w:=w') (x:=x) hx6 ht)
    rw [←ho] at HCON
    have HX:=Lib.hid hx
    have HO:=Lib.hid ho
    have HHI2:=Lib.hid hhi2
    clear hx ho hh hhi2
    go_wp2_with fail
    rw [HHI2.out]
    have HFCT:=Lib.hid (And.intro b0 (And.intro b1 (And.intro b2 (And.intro b3 (And.intro x0 (And.intro x1 (And.intro x2 (And.intro x3 x4))))))))
    refine wp_region_reg 8 false (by kernel_rfl) (by kernel_rfl) ?_
    refine reg_value (fun _=>rfl) ?_ (fun g w' vs hM hE hP=>?_) ?_
    rotate_left
    · (clear hP hM;have ⟨z0,z1,z2,z3,z4,z5,z6,z7,z8⟩:=cs_e9 hE HFCT.out;go_simp;first | done | rfl)
    refine reg_value (fun _=>rfl) ?_ (fun g w' vs hM hE hP=>?_) ?_
    rotate_left
    · (clear hP hM;have ⟨z0,z1,z2,z3,z4,z5,z6,z7,z8⟩:=cs_e9 hE HFCT.out;go_simp;first | done | rfl)
    refine reg_value (fun _=>rfl) ?_ (fun g w' vs hM hE hP=>?_) ?_
    rotate_left
    · (clear hP hM;have ⟨z0,z1,z2,z3,z4,z5,z6,z7,z8⟩:=cs_e9 hE HFCT.out;go_simp;first | done | rfl)
    refine reg_value (fun _=>rfl) ?_ (fun g w' vs hM hE hP=>?_) ?_
    rotate_left
    · (clear hP hM;have ⟨z0,z1,z2,z3,z4,z5,z6,z7,z8⟩:=cs_e9 hE HFCT.out;go_simp;first | done | rfl)
    refine reg_value (fun _=>rfl) ?_ (fun g w' vs hM hE hP=>?_) ?_
    rotate_left
    · (clear hP hM;have ⟨z0,z1,z2,z3,z4,z5,z6,z7,z8⟩:=cs_e9 hE HFCT.out;go_simp;first | done | rfl)
    refine reg_value (fun _=>rfl) ?_ (fun g w' vs hM hE hP=>?_) ?_
    rotate_left
    · (clear hP hM;have ⟨z0,z1,z2,z3,z4,z5,z6,z7,z8⟩:=cs_e9 hE HFCT.out;go_simp;first | done | rfl)
    refine reg_const (fun _=>rfl) 145 ?_ (fun g w' vs hM hE hP=>?_) ?_
    rotate_left
    · (clear hP hM;have ⟨z0,z1,z2,z3,z4,z5,z6,z7,z8⟩:=cs_e9 hE HFCT.out;go_simp;first | done | exact ⟨rfl,rfl⟩ | rfl)
    apply Exists.intro
    refine And.intro (fun g w' vs hM hE hP=>?_) ?_
    · exact HCON.out _
    refine reg_value (fun _=>rfl) ?_ (fun g w' vs hM hE hP=>?_) ?_
    rotate_left
    · (clear hP hM;have ⟨z0,z1,z2,z3,z4,z5,z6,z7,z8⟩:=cs_e9 hE HFCT.out;go_simp;first | done | rfl)
    intro g wz hE2 hF hQ
    simp only [List.drop_succ_cons,List.drop_zero,Act.put,List.setIfInBounds_toArray,List.set_cons_succ,List.set_cons_zero]
    clear hF hQ x0 x1 x2 x3 x4 b0 b1 b2 b3
    have HE2:=Lib.hid (HE.out.trans hE2)
    clear hE2
    by_cases hneg:o<0
    · have e1:decide (o<0)=true:=decide_eq_true hneg
      have HLT:Hid (x.1<t):=Lib.hid (by
       have:=HO.out
       by_cases h1:x.1<t
       · exact h1
       · rw [if_neg h1] at this;split at this<;>omega)
      have HLN:Hid (∀(k:Nat) y,k<h+1→L[k]?=some y→y.1<t):=Lib.hid (fun k y hk hy=>by
       rcases Nat.lt_or_ge k h with h' | h'
       · have:=pw_asc HS.out hy HX.out h';have:=HLT.out;omega
       · have:k=h:=by omega
         subst this
         have:=HX.out
         rw [hy] at this;cases this;exact HLT.out)
      go_wp2_with fail
      go_roundw
      case rel=>exact ⟨h+1,j,by go_num,rfl,by omega,by omega,HLN,HHI,HE2⟩
      case measure=>simp [intOf];omega
    · have e1:decide (o<0)=false:=decide_eq_false hneg
      have HGE:Hid (¬x.1<t):=Lib.hid (fun h'=>hneg (by rw [HO.out,if_pos h'];omega))
      have HHN:Hid (∀(k:Nat) y,h≤k→L[k]?=some y→¬y.1<t):=Lib.hid (fun k y hk hy hlt'=>by
       rcases Nat.lt_or_ge h k with h' | h'
       · have:=pw_asc HS.out HX.out hy h';have:=HGE.out;omega
       · have:k=h:=by omega
         subst this
         have:=HX.out
         rw [hy] at this;cases this;exact HGE.out hlt')
      go_wp2_with fail
      go_roundw
      case rel=>exact ⟨i,h,rfl,rfl,by omega,by omega,HLO,HHN,HE2⟩
      case measure=>simp [intOf];omega
  · have hije:j=i:=by omega
    subst hije
    have HSR:Hid (SrchP L t j):=Lib.hid ⟨hj,HLO.out,HHI.out⟩
    by_cases hil:j<L.length
    · obtain ⟨x,hx⟩:∃x,L[j]?=some x:=⟨_,List.getElem?_eq_getElem hil⟩
      obtain ⟨xb,xo,rfl,-,x0,x1,x2,x3,x4,hx6,-⟩:=pwAt (HA.out.ext HE.out) hx
      obtain ⟨o,ho⟩:∃o:Int,o=if x.1<t then -1 else if t<x.1 then 1 else 0:=⟨_,rfl⟩
      have HCON:=Lib.hid (fun (w':World)=>icmp_ins (w:=w') (x:=x) hx6 ht)
      rw [←ho] at HCON
      have HR:Hid ((o==0)=decide (∃p∈L,p.1=t)):=Lib.hid (by
       have hge:=HHI.out j x (Nat.le_refl _) hx
       rw [Bool.eq_iff_iff,beq_iff_eq,decide_eq_true_eq,HSR.out.found HS.out,ho]
       constructor
       · intro h0
         refine ⟨x,hx,?_⟩
         rw [if_neg hge] at h0
         by_cases h1:t<x.1
         · rw [if_pos h1] at h0;omega
         · omega
       · rintro ⟨y,hy,rfl⟩
         rw [hx] at hy
         cases hy
         simp)
      have hilz:(j:Int)<(L.length:Int):=by omega
      have e1:decide ((j:Int)<(L.length:Int))=true:=decide_eq_true hilz
      clear hx ho
      go_wp2_with fail
      have HFCT:=Lib.hid (And.intro b0 (And.intro b1 (And.intro b2 (And.intro b3 (And.intro x0 (And.intro x1 (And.intro x2 (And.intro x3 x4))))))))
      refine wp_region_reg 16 false (by kernel_rfl) (by kernel_rfl) ?_
      refine reg_value (fun _=>rfl) ?_ (fun g w' vs hM hE hP=>?_) ?_
      rotate_left
      · (clear hP hM;have ⟨z0,z1,z2,z3,z4,z5,z6,z7,z8⟩:=cs_e9 hE HFCT.out;go_simp;first | done | rfl)
      refine reg_value (fun _=>rfl) ?_ (fun g w' vs hM hE hP=>?_) ?_
      rotate_left
      · (clear hP hM;have ⟨z0,z1,z2,z3,z4,z5,z6,z7,z8⟩:=cs_e9 hE HFCT.out;go_simp;first | done | rfl)
      refine reg_value (fun _=>rfl) ?_ (fun g w' vs hM hE hP=>?_) ?_
      rotate_left
      · (clear hP hM;have ⟨z0,z1,z2,z3,z4,z5,z6,z7,z8⟩:=cs_e9 hE HFCT.out;go_simp;first | done | rfl)
      refine reg_value (fun _=>rfl) ?_ (fun g w' vs hM hE hP=>?_) ?_
      rotate_left
      · (clear hP hM;have ⟨z0,z1,z2,z3,z4,z5,z6,z7,z8⟩:=cs_e9 hE HFCT.out;go_simp;first | done | rfl)
      refine reg_value (fun _=>rfl) ?_ (fun g w' vs hM hE hP=>?_) ?_
      rotate_left
      · (clear hP hM;have ⟨z0,z1,z2,z3,z4,z5,z6,z7,z8⟩:=cs_e9 hE HFCT.out;go_simp;first | done | rfl)
      refine reg_value (fun g=>by go_simp) ?_ (fun g w' vs hM hE hP=>?_) ?_
      rotate_left
      · (clear hP hM;have ⟨z0,z1,z2,z3,z4,z5,z6,z7,z8⟩:=cs_e9 hE HFCT.out;go_simp;first | done | rfl)
      refine reg_value (fun g=>by go_simp) ?_ (fun g w' vs hM hE hP=>?_) ?_
      rotate_left
      · (clear hP hM;have ⟨z0,z1,z2,z3,z4,z5,z6,z7,z8⟩:=cs_e9 hE HFCT.out;go_simp;first | done | rfl)
      refine reg_value (fun g=>by go_simp) ?_ (fun g w' vs hM hE hP=>?_) ?_
      rotate_left
      · (clear hP hM;have ⟨z0,z1,z2,z3,z4,z5,z6,z7,z8⟩:=cs_e9 hE HFCT.out;go_simp;first | done | rfl)
      refine reg_value (fun g=>by go_simp) ?_ (fun g w' vs hM hE hP=>?_) ?_
      rotate_left
      · (clear hP hM;have ⟨z0,z1,z2,z3,z4,z5,z6,z7,z8⟩:=cs_e9 hE HFCT.out;go_simp;first | done | rfl)
      refine reg_value (fun g=>by go_simp) ?_ (fun g w' vs hM hE hP=>?_) ?_
      rotate_left
      · (clear hP hM;have ⟨z0,z1,z2,z3,z4,z5,z6,z7,z8⟩:=cs_e9 hE HFCT.out;go_simp;first | done | rfl)
      refine reg_value (fun g=>by go_simp) ?_ (fun g w' vs hM hE hP=>?_) ?_
      rotate_left
      · (clear hP hM;have ⟨z0,z1,z2,z3,z4,z5,z6,z7,z8⟩:=cs_e9 hE HFCT.out;go_simp;first | done | rfl)
      refine reg_const (fun g=>by go_simp) 145 ?_ (fun g w' vs hM hE hP=>?_) ?_
      rotate_left
      · (clear hP hM;have ⟨z0,z1,z2,z3,z4,z5,z6,z7,z8⟩:=cs_e9 hE HFCT.out;go_simp;first | done | exact ⟨rfl,rfl⟩ | rfl)
      apply Exists.intro
      refine And.intro (fun g w' vs hM hE hP=>?_) ?_
      · exact HCON.out _
      refine reg_value (fun g=>by go_simp) ?_ (fun g w' vs hM hE hP=>?_) ?_
      rotate_left
      · (clear hP hM;have ⟨z0,z1,z2,z3,z4,z5,z6,z7,z8⟩:=cs_e9 hE HFCT.out;go_simp;first | done | rfl)
      refine reg_value (fun _=>rfl) ?_ (fun g w' vs hM hE hP=>?_) ?_
      rotate_left
      · (clear hP hM;have ⟨z0,z1,z2,z3,z4,z5,z6,z7,z8⟩:=cs_e9 hE HFCT.out;go_simp;first | done | rfl)
      refine reg_value (fun _=>rfl) ?_ (fun g w' vs hM hE hP=>?_) ?_
      rotate_left
      · (clear hP hM;have ⟨z0,z1,z2,z3,z4,z5,z6,z7,z8⟩:=cs_e9 hE HFCT.out;go_simp;first | done | rfl)
      refine reg_value (fun _=>rfl) ?_ (fun g w' vs hM hE hP=>?_) ?_
      rotate_left
      · (clear hP hM;have ⟨z0,z1,z2,z3,z4,z5,z6,z7,z8⟩:=cs_e9 hE HFCT.out;go_simp;first | done | rfl)
      intro g wz hE2 hF hQ
      simp only [List.drop_succ_cons,List.drop_zero,Act.put,List.setIfInBounds_toArray,List.set_cons_succ,List.set_cons_zero]
      clear hF hQ x0 x1 x2 x3 x4 b0 b1 b2 b3
      have HE2:=Lib.hid (HE.out.trans hE2)
      clear hE2
      go_wp2_with fail
      go_ret2
      exact ⟨j,by rw [←HR.out];rfl,HE1.out.trans HE2.out,HSR.out⟩
    · have HR:Hid (decide (∃p∈L,p.1=t)=false):=Lib.hid (by
       rw [decide_eq_false_iff_not,HSR.out.found HS.out]
       rintro ⟨y,hy,-⟩
       have:=(List.getElem?_eq_some_iff.1 hy).1
       omega)
      have hilz:¬(j:Int)<(L.length:Int):=by omega
      have e1:decide ((j:Int)<(L.length:Int))=false:=decide_eq_false hilz
      go_wp2_with fail
      have HFCT:=Lib.hid (And.intro b0 (And.intro b1 (And.intro b2 b3)))
      refine wp_region_reg 16 false (by kernel_rfl) (by kernel_rfl) ?_
      refine reg_value (fun _=>rfl) ?_ (fun g w' vs hM hE hP=>?_) ?_
      rotate_left
      · (clear hP hM;have ⟨z0,z1,z2,z3⟩:=cs_e4 hE HFCT.out;go_simp;first | done | rfl)
      refine reg_value (fun _=>rfl) ?_ (fun g w' vs hM hE hP=>?_) ?_
      rotate_left
      · (clear hP hM;have ⟨z0,z1,z2,z3⟩:=cs_e4 hE HFCT.out;go_simp;first | done | rfl)
      refine reg_value (fun _=>rfl) ?_ (fun g w' vs hM hE hP=>?_) ?_
      rotate_left
      · (clear hP hM;have ⟨z0,z1,z2,z3⟩:=cs_e4 hE HFCT.out;go_simp;first | done | rfl)
      refine reg_value (fun _=>rfl) ?_ (fun g w' vs hM hE hP=>?_) ?_
      rotate_left
      · (clear hP hM;have ⟨z0,z1,z2,z3⟩:=cs_e4 hE HFCT.out;go_simp;first | done | rfl)
      refine reg_value (fun _=>rfl) ?_ (fun g w' vs hM hE hP=>?_) ?_
      rotate_left
      · (clear hP hM;have ⟨z0,z1,z2,z3⟩:=cs_e4 hE HFCT.out;go_simp;first | done | rfl)
      refine reg_skip (fun g=>by go_simp;first | done | (intro h;cases h) | simp [undef]) ?_
      refine reg_skip (fun g=>by go_simp;first | done | (intro h;cases h) | simp [undef]) ?_
      refine reg_skip (fun g=>by go_simp;first | done | (intro h;cases h) | simp [undef]) ?_
      refine reg_skip (fun g=>by go_simp;first | done | (intro h;cases h) | simp [undef]) ?_
      refine reg_skip (fun g=>by go_simp;first | done | (intro h;cases h) | simp [undef]) ?_
      refine reg_skip (fun g=>by go_simp;first | done | (intro h;cases h) | simp [undef]) ?_
      refine reg_skip (fun g=>by go_simp;first | done | (intro h;cases h) | simp [undef]) ?_
      refine reg_skip (fun g=>by go_simp;first | done | (intro h;cases h) | simp [undef]) ?_
      refine reg_value (fun _=>rfl) ?_ (fun g w' vs hM hE hP=>?_) ?_
      rotate_left
      · (clear hP hM;have ⟨z0,z1,z2,z3⟩:=cs_e4 hE HFCT.out;go_simp;first | done | rfl)
      refine reg_value (fun _=>rfl) ?_ (fun g w' vs hM hE hP=>?_) ?_
      rotate_left
      · (clear hP hM;have ⟨z0,z1,z2,z3⟩:=cs_e4 hE HFCT.out;go_simp;first | done | rfl)
      refine reg_value (fun _=>rfl) ?_ (fun g w' vs hM hE hP=>?_) ?_
      rotate_left
      · (clear hP hM;have ⟨z0,z1,z2,z3⟩:=cs_e4 hE HFCT.out;go_simp;first | done | rfl)
      intro g wz hE2 hF hQ
      simp only [List.drop_succ_cons,List.drop_zero,Act.put,List.setIfInBounds_toArray,List.set_cons_succ,List.set_cons_zero]
      clear hF hQ b0 b1 b2 b3
      have HE2:=Lib.hid (HE.out.trans hE2)
      clear hE2
      go_wp2_with fail
      go_ret2
      exact ⟨j,by rw [HR.out];rfl,HE1.out.trans HE2.out,HSR.out⟩

/-- copy between rows whose elements have m cells -/
theorem copyP_run {P:Program} (w:World) (dT sT ty elem:TypeId) (m g o dLen dCap:Nat) (a:Addr) (sLen sCap:Nat) (cur:Array Value) (t:TypeId) (cs:List Value)
 (hu:P.underlying dT=some (.slice elem)) (hs:(P.info? elem).map (·.size)=some m)
 (hg:w.heap[g]?=some (.cells cur t (0,0))) (hn:cs.length=Nat.min sLen dLen*m)
 (hsrc:∀j v,cs[j]?=some v→w.cell? (a.add j)=some v) (hfit:o+cs.length≤cur.size) (h1:∀v∈cs,v.oneCell'=true) :
 (Builtin.copy_ #[dT,sT] ty #[.slice (some ⟨g,o,none⟩) dLen dCap,.slice (some a) sLen sCap]).run P w =
   .ok (goInt (Nat.min sLen dLen)) (w.setRow g (cur.toList.take o++cs++cur.toList.drop (o+cs.length)).toArray):=by
 have hl:=run_loadCells_list (P:=P) w a cs hsrc
 have hst:=run_storeCells_at P g o t cs 0 cur w hg (by simpa using hfit) h1
 cases hq:P.info? elem with
 | none=>simp [hq] at hs
 | some i =>
   have hi:i.size=m:=by simpa [hq] using hs
   simp [Builtin.copy_,run_underlying hu,Builtin.lenOf,Builtin.firstCells,sizeOf,typeInfo,hq,hi,←hn,hl,hst]
theorem step_copyP {P:Program} {ops:Array Oper} {o:Oper} {a:Act} {w:World} {K:Act→World→Prop} {Q:Exit→Act→World→Prop} {E:Prop} (hgd:o.guard=none) (d s:Operand) (dT sT:TypeId)
 (ho:o.op=.call { callee:=.builtin .copy,args:=#[d,s],argTypes:=#[dT,sT] }) (elem:TypeId) (m:Nat) (hu:P.underlying dT=some (.slice elem)) (hsz:(P.info? elem).map (·.size)=some m)
 (g off dLen dCap:Nat) (ad:Addr) (sLen sCap:Nat) (hd:a.eval d=.slice (some ⟨g,off,none⟩) dLen dCap) (hs:a.eval s=.slice (some ad) sLen sCap)
 (cur:Array Value) (t:TypeId) (hg:w.heap[g]?=some (.cells cur t (0,0))) (cs:List Value) (hn:cs.length=Nat.min sLen dLen*m)
 (hsrc:∀j v,cs[j]?=some v→w.cell? (ad.add j)=some v) (hfit:off+cs.length≤cur.size) (h1:∀v∈cs,v.oneCell'=true) (n:Nat) (hnn:Nat.min sLen dLen=n)
 (h:∀w',w'=w.setRow g (cur.toList.take off++(cs++cur.toList.drop (off+cs.length))).toArray→K (a.put o.dst (goInt n)) w') :
 if Region.wanted o (yielded ops a.tmps)=true then Oper.wp P o a w K Q else E:=by
 have hw:Region.wanted o (yielded ops a.tmps)=true:=by simp [Region.wanted,hgd]
 rw [if_pos hw]
 have hrun:=copyP_run (P:=P) w dT sT o.type elem m g off dLen dCap ad sLen sCap cur t cs hu hsz hg hn hsrc hfit h1
 unfold Oper.wp
 rw [hnn] at hrun
 simp [execOp,ho,resolve,invoke,builtin,hd,hs,hrun,Result.andThen]
 exact h _ rfl
theorem gr_trans0 {a b c:World} {r:Option Nat} (h:a.grownBy b r) (k:b.grownBy c r):a.grownBy c r :=
 ⟨k.os.trans h.os,k.tape.trans h.tape,k.output.trans h.output,Nat.le_trans h.size k.size,fun i hi hn=>(k.block i (Nat.lt_of_lt_of_le hi h.size) hn).trans (h.block i hi hn)⟩
/-- the cells of a product -/
def pwF (L:List Pw):List Value:=L.flatMap pwC
theorem pwF_len (L:List Pw):(pwF L).length=L.length*5:=by
 unfold pwF
 induction L with
 | nil=>rfl
 | cons x L ih=>rw [List.flatMap_cons,List.length_append,ih,List.length_cons];show 5+_=_;omega
theorem pwF_app (L M:List Pw):pwF (L++M)=pwF L++pwF M:=List.flatMap_append
theorem pwF_one (x:Pw):pwF [x]=pwC x:=by simp [pwF]
theorem pwF_cell (L:List Pw):∀v∈pwF L,v.oneCell'=true:=by
 intro v hv
 obtain ⟨x,-,hx⟩:=List.mem_flatMap.1 hv
 simp [pwC] at hx
 rcases hx with rfl | rfl | rfl | rfl | rfl<;>rfl
def WfP (L:List Pw):Prop:=∀p∈L,p.1<6∧I64 p.2
theorem own_cells {w:World} {base g cap:Nat} {S:Nat→Prop} {L:List Pw} {rest:List Value} (h:w.heap[g]?=some (.cells (pwF L++rest).toArray 66)) (hr:rest.length=(cap-L.length)*5) (hc:L.length≤cap) (hm:cap≤maxLen) (hb:base≤g) (hL:WfP L) :
 OwnG elPw w base 66 S (.slice (some ⟨g,0,none⟩) L.length cap) L:=by
 have hfl:(L.map (fun p=>(p,pwC p))).flatMap (·.2)=pwF L:=by unfold pwF;rw [List.flatMap_map]
 have hl:=pwF_len L
 refine ⟨L.map (fun p=>(p,pwC p)),by rw [List.map_map];show L.map id=L;rw [List.map_id],fun p hp=>?_,?_,?_⟩
 · obtain ⟨q,hq,rfl⟩:=List.mem_map.1 hp
   exact ⟨rfl,(hL q hq).1,(hL q hq).2⟩
 · rw [hfl,hl,List.length_map];rfl
 · rw [List.length_map]
   refine .inr ⟨g,cap,_,rfl,hb,h,hc,hm,?_,?_⟩
   · rw [List.size_toArray,List.length_append,hl,hr];show _=cap*5;rw [Nat.sub_mul];have:=Nat.mul_le_mul_right 5 hc;omega
   · rw [hfl]
     show (pwF L++rest).take (L.length*5)=pwF L
     rw [List.take_append_of_le_length (by omega),List.take_of_length_le (by omega)]
theorem own_split {w:World} {base n vc:Nat} {S:Nat→Prop} {va:Option Addr} {L:List Pw} (h:OwnG elPw w base 66 S (.slice va n vc) L) (hne:L≠[]) :
 ∃g rest,va=some ⟨g,0,none⟩∧w.heap[g]?=some (.cells (pwF L++rest).toArray 66)∧rest.length=(vc-L.length)*5∧base≤g∧L.length≤vc∧vc≤maxLen∧n=L.length∧WfP L:=by
 obtain ⟨Q,rfl,hR,h1,h2⟩:=h
 have hfl:Q.flatMap (·.2)=pwF (Q.map (·.1)):=by
  unfold pwF
  rw [List.flatMap_map]
  have:∀p∈Q,p.2=pwC p.1:=fun p hp=>(hR p hp).1
  clear h1 h2 hR hne
  induction Q with
  | nil=>rfl
  | cons p Q ih=>rw [List.flatMap_cons,List.flatMap_cons,this p (by simp),ih (fun q hq=>this q (by simp [hq]))]
 rcases h2 with ⟨-,h0⟩ | ⟨g,cap,cur,e,hb,hg,hn,hm,hs,ht⟩
 · have h0':Q=[]:=List.length_eq_zero_iff.1 h0
   subst h0'
   exact absurd rfl hne
 · cases e
   have hl:=pwF_len (Q.map (·.1))
   have e5:elPw.n=5:=rfl
   rw [e5] at hs ht
   rw [List.length_map] at hl ⊢
   have hcur:cur=(pwF (Q.map (·.1))++cur.toList.drop (Q.length*5)).toArray:=by
    apply Array.ext'
    rw [List.toList_toArray,←hfl,←ht,List.take_append_drop]
   refine ⟨g,cur.toList.drop (Q.length*5),rfl,by rw [←hcur];exact hg,?_,hb,hn,hm,rfl,fun p hp=>?_⟩
   · rw [List.length_drop,Array.length_toList,hs,Nat.sub_mul]
   · obtain ⟨q,hq,rfl⟩:=List.mem_map.1 hp
     exact (hR q hq).2
theorem pwF_at {w:World} {g T o:Nat} {A B:List Value} {L:List Pw} (h:w.heap[g]?=some (.cells (A++pwF L++B).toArray T)) (ho:A.length=o):∀(j:Nat) v,(pwF L)[j]?=some v→w.cell? ((⟨g,o,none⟩:Addr).add j)=some v:=by
 intro j v hv
 have hj:=(List.getElem?_eq_some_iff.1 hv).1
 rw [Addr.add_lit]
 rw [cellc h,List.getElem?_toArray,List.append_assoc,List.getElem?_append_right (by omega),ho,Nat.add_sub_cancel_left,List.getElem?_append_left hj]
 exact hv
theorem insP_any {w:World} {base:Nat} {va:Option Addr} {vc i vb:Nat} {L:List Pw} {x:Pw} (hO:OwnG elPw w base 66 (fun _=>False) (.slice va L.length vc) L) (hb:base≤w.heap.size) (hi:i≤L.length) (hl:L.length≤100) (hx6:x.1<6) (hxI:I64 x.2)
 (hv:w.heap[vb]?=some (.cells #[.int .i64 2,.string (ltr x.1),.int .i64 2,.slice none 0 0,.int .i64 x.2] 66)) (hne:∀g,(Value.slice va L.length vc).ownBlock=some g→g≠vb) :
 Calls Tryz.prog 146 #[.slice va L.length vc,.int .i64 i,.slice (some ⟨vb,0,none⟩) 1 1] w fun e w'=>∃v',e=.returned v'∧w.grownBy w' (Value.slice va L.length vc).ownBlock∧OwnG elPw w' base 66 (fun _=>False) v' (L.take i++[x]++L.drop i):=by
 obtain ⟨-,hvl,hvc⟩:=hO.any.len
 unfold maxLen at hvc
 have hx1:LsE elPw w (fun _=>False) (.slice (some ⟨vb,0,none⟩) 1 1) [x]:=pw_e hv hx6 hxI
 have HO:=Lib.hid hO
 have HX1:=Lib.hid hx1
 have HV:=Lib.hid hv
 clear hO hx1 hv
 obtain ⟨M,hM⟩:∃M,M=L.take i++[x]++L.drop i:=⟨_,rfl⟩
 rw [←hM]
 have HM:=Lib.hid hM
 clear hM
 by_cases hin:i=L.length
 · subst hin
   have HR:Hid (M=L++[x]):=Lib.hid (by rw [HM.out,List.take_of_length_le (Nat.le_refl _),List.drop_of_length_le (Nat.le_refl _),List.append_nil])
   clear HM
   by_cases hcv:vc=L.length
   · subst hcv
     go_enter Tryz.func146,Tryz.ntmps146
     go_wp2_with (
      at_builtin
      refine wpList_appG (E:=elPw) (T:=66) rfl 28 (.tmp 23) (.tmp 24) rfl rfl rfl Tryz.underlying28 infPw rfl (by decide) (by decide) HO.out hb (fun c h=>absurd h id) (by omega) (M:=[x]) (by simp) HX1.out ?_
      intro v8 w8 o8 g8 k8
      have HO8:=Lib.hid o8
      have HG8:Hid (w.grownBy w8 (Value.slice va L.length L.length).ownBlock):=Lib.hid g8
      clear o8 g8 k8)
     go_ret
     exact ⟨_,rfl,HG8.out,by rw [HR.out];exact HO8.out⟩
   · have hcv2:¬(L.length=vc):=fun e=>hcv e.symm
     go_enter Tryz.func146,Tryz.ntmps146
     go_wp2_with (
      at_builtin
      refine wpList_appG (E:=elPw) (T:=66) rfl 28 (.tmp 23) (.tmp 24) rfl rfl rfl Tryz.underlying28 infPw rfl (by decide) (by decide) HO.out hb (fun c h=>absurd h id) (by omega) (M:=[x]) (by simp) HX1.out ?_
      intro v8 w8 o8 g8 k8
      have HO8:=Lib.hid o8
      have HG8:Hid (w.grownBy w8 (Value.slice va L.length vc).ownBlock):=Lib.hid g8
      clear o8 g8 k8)
     go_ret
     exact ⟨_,rfl,HG8.out,by rw [HR.out];exact HO8.out⟩
 · obtain ⟨g,rest,rfl,hg,hrl,hbg,-,-,-,hwf⟩:=own_split HO.out (by intro e;rw [e] at hi hin;simp at hi hin;omega)
   have hgv:g≠vb:=hne g rfl
   have hlt:i<L.length:=by omega
   have hit:i≤L.length:=by omega
   have hzi:¬((i:Int)=(L.length:Int)):=by omega
   have hci:¬(vc=i):=by omega
   have HG:=Lib.hid hg
   have HRL:=Lib.hid hrl
   have HWF:=Lib.hid hwf
   clear hg hrl hwf
   obtain ⟨A,hA⟩:∃A,A=L.take i:=⟨_,rfl⟩
   obtain ⟨D,hD⟩:∃D,D=L.drop i:=⟨_,rfl⟩
   obtain ⟨n,hn⟩:∃n,n=L.length:=⟨_,rfl⟩
   have hAl:A.length=i:=by rw [hA,List.length_take];omega
   have hDl:D.length=n-i:=by rw [hD,List.length_drop,hn]
   have hLAD:L=A++D:=by rw [hA,hD,List.take_append_drop]
   have HMM:Hid (M=A++[x]++D):=Lib.hid (by rw [HM.out,hA,hD])
   have HWM:Hid (WfP M):=Lib.hid (by
    rw [HMM.out]
    intro p hp
    rcases List.mem_append.1 hp with hp | hp
    · rcases List.mem_append.1 hp with hp | hp
      · exact HWF.out p (by rw [hLAD];simp [hp])
      · simp at hp;subst hp;exact ⟨hx6,hxI⟩
    · exact HWF.out p (by rw [hLAD];simp [hp]))
   have hML:M.length=n+1:=by rw [HMM.out,List.length_append,List.length_append,hAl,hDl,List.length_singleton];omega
   have HGA:Hid (w.heap[g]?=some (.cells (pwF A++pwF D++rest).toArray 66)):=Lib.hid (by have:=HG.out;rw [hLAD,pwF_app] at this;exact this)
   have hrl2:=HRL.out
   rw [←hn] at hrl2 hi hl hin hlt hit hzi hvl ⊢
   have HRL:=Lib.hid hrl2
   clear hrl2
   have HNN:=Lib.hid hn
   clear hn
   have HAL:=Lib.hid (And.intro hAl hDl)
   have HML:=Lib.hid hML
   clear hA hD HM HG hLAD hML hAl hDl
   by_cases hroom:vc<n+1
   · obtain ⟨i0,hi0,hz0,hzs,hzb⟩:∃i0,Tryz.prog.info? 66=some i0∧i0.zero=some (.agg #[.int .i64 0,.string ⟨#[]⟩,.int .i64 0,.slice none 0 0,.int .i64 0])∧i0.size=5∧i0.bytes=64:=by
      have h:=infPw
      cases hq:Tryz.prog.info? 66 with
      | none=>rw [hq] at h;cases h
      | some j=>rw [hq] at h;simp at h;exact ⟨j,rfl,h.1,h.2.1,h.2.2⟩
     have hrl5:rest.length=(vc-n)*5:=HRL.out
     obtain ⟨hA5,hD5⟩:(pwF A).length=i*5∧(pwF D).length=(n-i)*5:=⟨by rw [pwF_len,HAL.out.1],by rw [pwF_len,HAL.out.2]⟩
     have hik:i+(n+1-i)=n+1:=by omega
     have hkk:(n:Int)+1-(i:Int)=((n+1-i:Nat):Int):=by omega
     have hg0:w.drew.heap[g]?=some (.cells ([]++pwF A++(pwF D++rest)).toArray 66):=by
      rw [List.nil_append,←List.append_assoc];exact hs_ext (Ext.drew w) HGA.out
     have hold:(Builtin.firstCells i0.size i (.slice (some ⟨g,0,none⟩) i vc)).run Tryz.prog w.drew=.ok (pwF A).toArray w.drew:=by
      rw [hzs]
      exact run_firstCells_some w.drew 5 i ⟨g,0,none⟩ i vc (pwF A) hA5 (pwF_at hg0 rfl)
     obtain ⟨G,hG⟩:∃G,G=grownCap w (n+1) vc 66:=⟨_,rfl⟩
     have hGn:n+1≤G:=by rw [hG];exact grownCap_ge w _ _ _
     have hG63:G≤maxLen:=by rw [hG];exact grownCap_le_maxLen w (n+1) vc 66 (by unfold maxLen;omega)
     obtain ⟨Z,W0,hZ,HW0,hrz⟩:∃(Z:List Value) (W0:World),Z.length=(G-i)*5∧Hid (W0=w.drew.alloc (.cells (pwF A++Z).toArray 66))∧(∀ty,(Builtin.append_ #[28,3] ty #[.slice (some ⟨g,0,none⟩) i vc,.int .i64 ((n:Int)+1-(i:Int))]).run Tryz.prog w=.ok (.slice (some ⟨w.heap.size,0,none⟩) (n+1) G) W0):=by
      refine ⟨(Builtin.zeroCells (Value.agg #[.int .i64 0,.string ⟨#[]⟩,.int .i64 0,.slice none 0 0,.int .i64 0]).cells (n+1-i)++Builtin.zeroCells (Value.agg #[.int .i64 0,.string ⟨#[]⟩,.int .i64 0,.slice none 0 0,.int .i64 0]).cells (G-(n+1))).toList,_,?_,Lib.hid rfl,fun ty=>?_⟩
      · rw [Array.length_toList,Array.size_append]
        simp only [Builtin.zeroCells,Array.size_map,Array.size_range]
        show (n+1-i)*5+(G-(n+1))*5=_
        rw [←Nat.add_mul]
        congr 1
        omega
      · have h:=Lib.run_append_grow_zeros (P:=Tryz.prog) w 28 3 ty 66 i0 _ .i64 .i64 Tryz.underlying28 Tryz.underlying3 hi0 hz0 (some ⟨g,0,none⟩) i vc (pwF A) hold (n+1-i) (by omega) (by omega) (by omega) (by omega) (by rw [hzb];omega) (by rw [hzb,hik];exact growslice_fits hroom (by omega))
        rw [hik,←hG] at h
        rw [hkk,h]
        have e:∀X Y:Array Value,(pwF A).toArray++X++Y=(pwF A++(X++Y).toList).toArray:=fun X Y=>by apply Array.ext';simp
        rw [e]
     obtain ⟨N,hN⟩:∃N,N=w.heap.size:=⟨_,rfl⟩
     rw [←hN] at hrz
     have hgN:g<w.heap.size:=(Array.getElem?_eq_some_iff.1 HGA.out).1
     have hvN:vb<w.heap.size:=(Array.getElem?_eq_some_iff.1 HV.out).1
     have HG0:Hid (W0.heap[N]?=some (.cells (pwF A++Z).toArray 66)):=Lib.hid (by rw [HW0.out,hN];exact hs_new (w:=w.drew))
     have hE0:Ext w W0:=by rw [HW0.out];exact (Ext.drew w).then_al _
     have HGR0:Hid (w.grownBy W0 (some g)):=Lib.hid (by rw [HW0.out];exact gr_trans0 (b:=w.drew) ⟨rfl,rfl,rfl,Nat.le_refl _,fun _ _ _=>rfl⟩ (World.grownBy_alloc w.drew _ _))
     have HS0:Hid (W0.heap[g]?=some (.cells (pwF A++pwF D++rest).toArray 66)):=Lib.hid (hs_ext hE0 HGA.out)
     have HV0:=Lib.hid (hs_ext hE0 HV.out)
     have HZ:=Lib.hid hZ
     have HRZ:=Lib.hid hrz
     have HN:=Lib.hid hN
     have hgN2:g≠N:=by omega
     have hvN2:vb≠N:=by omega
     have hbN:base≤N:=by omega
     have hvc0:((vc:Int)<(n:Int)+1):=by omega
     have hw1:IntKind.i64.wrap ((i:Int)+1)=(i:Int)+1:=by rw [IntKind.wrap_i64];omega
     have hw2:IntKind.i64.wrap ((n:Int)+1)=(n:Int)+1:=by rw [IntKind.wrap_i64];omega
     have hw3:IntKind.i64.wrap ((n:Int)+1-(i:Int))=(n:Int)+1-(i:Int):=by rw [IntKind.wrap_i64];omega
     have hb1:(0:Int)≤(i:Int)+1:=by omega
     have hb3:(i:Int)≤(n:Int)+1:=by omega
     have hb4:(i:Int)+1≤(n:Int)+1:=by omega
     have hb7:((i:Int)+1).toNat=i+1:=by omega
     have hb9:¬(G=i):=by omega
     have hb10:¬(G=i+1):=by omega
     have hb11:i≤n+1:=by omega
     clear hik hkk hg0 hold hG hi0 hz0 hzs hzb hE0 hZ hrz hN hgN hvN
     go_enter Tryz.func146,Tryz.ntmps146
     go_upto_region 10 with (at_builtin;refine Lib.wpList_append_run _ rfl _ _ _ _ rfl _ _ rfl rfl _ _ (HRZ.out _) ?_)
     -- the first copy
     obtain ⟨Z5,Z9,hZ5,hZ9,hZZ⟩:∃Z5 Z9:List Value,Z5.length=5∧Z9.length=(G-(i+1))*5∧Z=Z5++Z9:=by
      have:=HZ.out
      refine ⟨Z.take 5,Z.drop 5,?_,?_,(List.take_append_drop 5 Z).symm⟩
      · rw [List.length_take,this];have:1≤G-i:=by omega
        generalize G-i=e at *
        omega
      · rw [List.length_drop,this];omega
     obtain ⟨w1,HW1⟩:∃w1,Hid (w1=W0.setRow N (pwF A++(pwC x++Z9)).toArray):=⟨_,Lib.hid rfl⟩
     have h5:(pwC x).length=5:=rfl
     have hcp:∀ty,(Builtin.copy_ #[28,28] ty #[.slice (some ⟨N,i*5,none⟩) (n+1-i) (G-i),.slice (some ⟨vb,0,none⟩) 1 1]).run Tryz.prog W0=.ok (goInt 1) w1:=fun ty=>by
      have hmn:Nat.min 1 (n+1-i)=1:=by simp only [Nat.min_def];split<;>omega
      have hsrc:∀(j:Nat) v,(pwC x)[j]?=some v→W0.cell? ((⟨vb,0,none⟩:Addr).add j)=some v:=fun j v hv=>by
       rw [Addr.add_lit,Nat.zero_add,cellc HV0.out]
       rw [List.getElem?_toArray]
       exact hv
      have:=copyP_run (P:=Tryz.prog) W0 28 28 ty 66 5 N (i*5) (n+1-i) (G-i) ⟨vb,0,none⟩ 1 1 _ 66 (pwC x) Tryz.underlying28 (by kernel_rfl) HG0.out (by rw [h5,hmn]) hsrc (by rw [h5,List.size_toArray,List.length_append,HZ.out];omega) (by intro v hv;have:=pwF_cell [x];rw [pwF_one] at this;exact this v hv)
      have e1:(pwF A++Z).take (i*5)=pwF A:=by rw [List.take_append_of_le_length (by omega),List.take_of_length_le (by omega)]
      have e2:(pwF A++Z).drop (i*5+(pwC x).length)=Z9:=by
       rw [List.drop_append,List.drop_of_length_le (by omega),List.nil_append,hA5,Nat.add_sub_cancel_left,h5,hZZ,List.drop_append_of_le_length (by omega),List.drop_of_length_le (by omega),List.nil_append]
      rw [this,hmn,HW1.out,List.toList_toArray,e1,e2,List.append_assoc]
      rfl
     have HCP:=Lib.hid hcp
     have HG1:Hid (w1.heap[N]?=some (.cells (pwF A++(pwC x++Z9)).toArray 66)):=Lib.hid (by rw [HW1.out,setRow_heap _ _ _ _ _ _ HG0.out])
     have HS1:Hid (w1.heap[g]?=some (.cells (pwF A++pwF D++rest).toArray 66)):=Lib.hid (by rw [HW1.out,setRow_other _ _ _ _ hgN2];exact HS0.out)
     have HGR1:Hid (w.grownBy w1 (some g)):=Lib.hid ⟨by rw [HW1.out];exact HGR0.out.os,by rw [HW1.out];exact HGR0.out.tape,by rw [HW1.out];exact HGR0.out.output,by have:=HGR0.out.size;rw [HW1.out];simpa using this,fun q hq hne=>by rw [HW1.out,setRow_other _ _ _ _ (by have:=HN.out;omega)];exact HGR0.out.block q hq hne⟩
     have HZ9:=Lib.hid hZ9
     clear hcp hZ5 hZ9 hZZ HW1 HZ HG0 HS0 HGR0 HRZ
     go_upto_region 11 with (rw [HCP.out])
     have HS2:Hid (w1.drew.heap[g]?=some (.cells (pwF A++pwF D++rest).toArray 66)):=Lib.hid (hs_ext (Ext.drew w1) HS1.out)
     have HG2:Hid (w1.drew.heap[N]?=some (.cells (pwF A++(pwC x++Z9)).toArray 66)):=Lib.hid (hs_ext (Ext.drew w1) HG1.out)
     have hDc:∀(j:Nat) v,(pwF D)[j]?=some v→w1.drew.cell? ((⟨g,i*5,none⟩:Addr).add j)=some v:=pwF_at HS2.out hA5
     obtain ⟨R5,hR5,hDR⟩:∃R5:List Value,R5.length=(G-(n+1))*5∧(pwF A++(pwC x++Z9)).take ((i+1)*5)++(pwF D++(pwF A++(pwC x++Z9)).drop ((i+1)*5+(pwF D).length))=pwF M++R5:=by
      have h9:=HZ9.out
      refine ⟨Z9.drop ((n-i)*5),?_,?_⟩
      · rw [List.length_drop];omega
      · have e1:(pwF A++(pwC x++Z9)).take ((i+1)*5)=pwF A++pwC x:=by
         rw [←List.append_assoc,List.take_append_of_le_length (by rw [List.length_append];omega),List.take_of_length_le (by rw [List.length_append];omega)]
        have e2:(pwF A++(pwC x++Z9)).drop ((i+1)*5+(pwF D).length)=Z9.drop ((n-i)*5):=by
         rw [←List.append_assoc,List.drop_append,List.drop_of_length_le (by rw [List.length_append];omega),List.nil_append,List.length_append]
         congr 1
         omega
        rw [e1,e2,HMM.out,pwF_app,pwF_app,pwF_one]
        simp only [List.append_assoc]
     have HDR:=Lib.hid hDR
     have HR5:=Lib.hid hR5
     have h9:=HZ9.out
     clear hR5 hDR
     go_region_law (refine step_copyP rfl (.tmp 50) (.tmp 53) 28 28 rfl 66 5 Tryz.underlying28 (by kernel_rfl) N ((i+1)*5) (n+1-(i+1)) (G-(i+1)) ⟨g,i*5,none⟩ (n-i) (vc-i) (by simp [Act.eval,Act.put]) (by simp [Act.eval,Act.put]) _ 66 HG2.out (pwF D) (by rw [hD5];congr 1;simp only [Nat.min_def];split<;>omega) hDc (by rw [List.size_toArray,List.length_append,List.length_append];omega) (pwF_cell D) (n-i) (by simp only [Nat.min_def];split<;>omega) ?_;intro w2 hw2';rw [List.toList_toArray,HDR.out] at hw2';have HW2:=Lib.hid hw2';clear hw2')
     go_wp2
     go_ret
     refine ⟨_,rfl,?_,?_⟩
     · rw [HW2.out]
       exact ⟨HGR1.out.os,HGR1.out.tape,HGR1.out.output,by have:=HGR1.out.size;simpa using this,fun q hq hne=>by rw [setRow_other _ _ _ _ (by have:=HN.out;omega)];exact HGR1.out.block q hq hne⟩
     · have hm:=HML.out
       have:=own_cells (w:=w2) (base:=base) (g:=N) (cap:=G) (S:=fun _=>False) (L:=M) (rest:=R5) (by rw [HW2.out,setRow_heap _ _ _ _ _ _ HG2.out]) (by rw [hm];exact HR5.out) (by omega) hG63 hbN HWM.out
       rw [hm] at this
       exact this
   · have hroomi:¬((vc:Int)<(n:Int)+1):=by omega
     have hov:∀lb cb,(callFunc 158 #[.slice (some ⟨vb,0,none⟩) 1 1,.slice (some ⟨g,(i+1)*5,none⟩) lb cb]).run Tryz.prog w=.ok (.value (.bool false)) w:=fun lb cb=>by
      have hrg:w.shape? g=some (66,(pwF A++pwF D++rest).toArray.size):=by unfold World.shape?;rw [HGA.out]
      have hrv:w.shape? vb=some (66,5):=by unfold World.shape?;rw [HV.out];rfl
      rw [run_callFunc_extern Tryz.func158 (by kernel_rfl) (by kernel_rfl) (by kernel_rfl) (e:=Extern.SlicesOverlaps.overlaps #[28,28] #[4]) (by kernel_rfl),
       Lib.run_overlaps_apart w 28 4 66 Tryz.underlying28 5 Tryz.sizeOf66 ⟨vb,0,none⟩ ⟨g,(i+1)*5,none⟩ 1 1 lb cb (fun e=>hgv e.symm) _ _ _ _ hrv hrg (by rw [List.size_toArray,List.length_append,List.length_append,pwF_len,pwF_len];have:=HAL.out;omega) (frozenc HV.out) (frozenc HV.out)]
      try rfl
     have hrl5:rest.length=(vc-n)*5:=HRL.out
     obtain ⟨hA5,hD5⟩:(pwF A).length=i*5∧(pwF D).length=(n-i)*5:=⟨by rw [pwF_len,HAL.out.1],by rw [pwF_len,HAL.out.2]⟩
     have hc1:n-i+i=n:=by omega
     have hE:Ext w w.drew:=Ext.drew w
     have HGd:=Lib.hid (hs_ext hE HGA.out)
     have hw1:IntKind.i64.wrap ((i:Int)+1)=(i:Int)+1:=by rw [IntKind.wrap_i64];omega
     have hw2:IntKind.i64.wrap ((n:Int)+1)=(n:Int)+1:=by rw [IntKind.wrap_i64];omega
     have hb1:(0:Int)≤(i:Int)+1:=by omega
     have hb3:(i:Int)≤(n:Int)+1:=by omega
     have hb4:(i:Int)+1≤(n:Int)+1:=by omega
     have hb5:¬(vc=i+1):=by omega
     have hb6:(n:Int)+1≤(vc:Int):=by omega
     have hb7:((i:Int)+1).toNat=i+1:=by omega
     have hb8:((n:Int)+1).toNat=n+1:=by omega
     clear hE hroom
     go_enter Tryz.func146,Tryz.ntmps146
     go_upto_region 15 with (simp only [hov])
     have hDc:∀(j:Nat) v,(pwF D)[j]?=some v→w.drew.cell? ((⟨g,i*5,none⟩:Addr).add j)=some v:=pwF_at HGd.out hA5
     obtain ⟨X5,R5,hX5,hR5,hDR⟩:∃X5 R5:List Value,X5.length=5∧R5.length=(vc-(n+1))*5∧(pwF A++pwF D++rest).take ((i+1)*5)++(pwF D++(pwF A++pwF D++rest).drop ((i+1)*5+(pwF D).length))=pwF A++X5++pwF D++R5:=by
      refine ⟨(pwF D++rest).take 5,rest.drop 5,?_,?_,?_⟩
      · rw [List.length_take,List.length_append];omega
      · rw [List.length_drop];omega
      · have e1:(pwF A++pwF D++rest).take ((i+1)*5)=pwF A++(pwF D++rest).take 5:=by
         rw [List.append_assoc,List.take_append,List.take_of_length_le (by omega)]
         congr 2
         omega
        have e2:(pwF A++pwF D++rest).drop ((i+1)*5+(pwF D).length)=rest.drop 5:=by
         rw [List.drop_append,List.drop_of_length_le (by rw [List.length_append];omega),List.nil_append,List.length_append]
         congr 1
         omega
        rw [e1,e2]
        simp only [List.append_assoc]
     have HDR:=Lib.hid hDR
     have HX5:=Lib.hid (And.intro hX5 hR5)
     clear hX5 hR5 hDR
     go_region_law (refine step_copyP rfl (.tmp 73) (.tmp 76) 28 28 rfl 66 5 Tryz.underlying28 (by kernel_rfl) g ((i+1)*5) (n+1-(i+1)) (vc-(i+1)) ⟨g,i*5,none⟩ (n+1-i) (vc-i) (by simp [Act.eval,Act.put]) (by simp [Act.eval,Act.put]) _ 66 HGd.out (pwF D) (by rw [hD5];congr 1;simp only [Nat.min_def];split<;>omega) hDc (by rw [List.size_toArray,List.length_append,List.length_append];omega) (pwF_cell D) (n-i) (by simp only [Nat.min_def];split<;>omega) ?_;intro w1 hw1;rw [List.toList_toArray,HDR.out] at hw1;have HW1:=Lib.hid hw1;clear hw1)
     have HG1:Hid (w1.heap[g]?=some (.cells (pwF A++X5++(pwF D++R5)).toArray 66)):=Lib.hid (by rw [HW1.out,setRow_heap _ _ _ _ _ _ HGd.out,List.append_assoc])
     have HV1:Hid (w1.heap[vb]?=some (.cells #[.int .i64 2,.string (ltr x.1),.int .i64 2,.slice none 0 0,.int .i64 x.2] 66)):=Lib.hid (by rw [HW1.out,setRow_other _ _ _ _ (fun e=>hgv e.symm)];exact HV.out)
     have HGR1:Hid (w.grownBy w1 (some g)):=Lib.hid (by rw [HW1.out];exact ⟨rfl,rfl,rfl,by simp,fun q _ hne=>(setRow_other _ _ _ _ (fun e=>hne (by rw [e]))).trans rfl⟩)
     clear HW1 hDc
     have hsrc:∀(j:Nat) v,(pwC x)[j]?=some v→w1.cell? ((⟨vb,0,none⟩:Addr).add j)=some v:=fun j v hv=>by
      rw [Addr.add_lit,Nat.zero_add,cellc HV1.out]
      rw [List.getElem?_toArray]
      exact hv
     have h5:(pwC x).length=5:=rfl
     have hfin:(pwF A++X5++(pwF D++R5)).take (i*5)++(pwC x++(pwF A++X5++(pwF D++R5)).drop (i*5+(pwC x).length))=pwF M++R5:=by
      have e1:(pwF A++X5++(pwF D++R5)).take (i*5)=pwF A:=by
       rw [List.append_assoc,List.take_append_of_le_length (by omega),List.take_of_length_le (by omega)]
      have e2:(pwF A++X5++(pwF D++R5)).drop (i*5+(pwC x).length)=pwF D++R5:=by
       rw [h5]
       have:=HX5.out.1
       rw [List.drop_append_of_le_length (by rw [List.length_append];omega),List.drop_of_length_le (by rw [List.length_append];omega),List.nil_append]
      rw [e1,e2,HMM.out,pwF_app,pwF_app,pwF_one]
      simp only [List.append_assoc]
     obtain ⟨w2,HW2⟩:∃w2,Hid (w2=w1.setRow g (pwF M++R5).toArray):=⟨_,Lib.hid rfl⟩
     have hcp:∀ty,(Builtin.copy_ #[28,28] ty #[.slice (some ⟨g,i*5,none⟩) (n+1-i) (vc-i),.slice (some ⟨vb,0,none⟩) 1 1]).run Tryz.prog w1=.ok (goInt 1) w2:=fun ty=>by
      have hmn:Nat.min 1 (n+1-i)=1:=by simp only [Nat.min_def];split<;>omega
      have:=copyP_run (P:=Tryz.prog) w1 28 28 ty 66 5 g (i*5) (n+1-i) (vc-i) ⟨vb,0,none⟩ 1 1 _ 66 (pwC x) Tryz.underlying28 (by kernel_rfl) HG1.out (by rw [h5,hmn]) hsrc (by rw [h5,List.size_toArray,List.length_append,List.length_append];have:=HX5.out.1;omega) (by intro v hv;have:=pwF_cell [x];rw [pwF_one] at this;exact this v hv)
      rw [this,hmn,HW2.out,List.toList_toArray,List.append_assoc,hfin]
      rfl
     have HCP:=Lib.hid hcp
     clear hcp hsrc hfin h5
     go_upto_region 17 with (rw [HCP.out])
     go_wp2
     go_ret
     refine ⟨_,rfl,?_,?_⟩
     · have h2:w1.grownBy w2 (some g):=by rw [HW2.out];exact ⟨rfl,rfl,rfl,by simp,fun q _ hne=>setRow_other _ _ _ _ (fun e=>hne (by rw [e]))⟩
       exact gr_trans0 HGR1.out h2
     · have hm:=HML.out
       have:=own_cells (w:=w2) (base:=base) (g:=g) (cap:=vc) (S:=fun _=>False) (L:=M) (rest:=R5) (by rw [HW2.out,setRow_heap _ _ _ _ _ _ HG1.out]) (by rw [hm];exact HX5.out.2) (by omega) (by unfold maxLen;omega) hbg HWM.out
       rw [hm] at this
       exact this
end Go.Proofs.YtclijngnoepbiaaGreat
