/- Contracts: BinarySearchFunc on ascending terms; the closure of CheckRefute. Contracts: the program's CheckRefute. Contracts: the reference's CheckRefute. -/
import Derived.Test.YtclijngnoepbiaaGreatG6
import Derived.Test.YtclijngnoepbiaaGreatG5
import Derived.Test.YtclijngnoepbiaaGreatG7
import Derived.Test.YtclijngnoepbiaaGreatG4
set_option maxRecDepth 100000
set_option maxHeartbeats 8000000
namespace Go.Proofs.YtclijngnoepbiaaGreat
open Go Go.RowKit
set_option linter.unusedVariables false
set_option linter.unusedSimpArgs false

theorem asc_get {L:List Tm} (h:Asc L) {i j:Nat} {x y:Tm} (hi:L[i]?=some x) (hj:L[j]?=some y) (hij:i<j):ltT x y:=by
 obtain ⟨h1,rfl⟩:=List.getElem?_eq_some_iff.1 hi
 obtain ⟨h2,rfl⟩:=List.getElem?_eq_some_iff.1 hj
 exact List.pairwise_iff_getElem.1 h i j h1 h2 hij

theorem search_any {w:World} {S S':Nat→Prop} {a a':Option Addr} {cap cap':Nat} {L:List Tm} {p:Tm} (hL6:∀x∈L,sizeT x≤1000000) (hp6:sizeT p≤1000000) (hll:L.length≤1000000) (hs:Asc L) (hA:LsT w S (.slice a L.length cap) L) (hT:TmW w S' a' cap' p) :
 Calls Tryz.prog 126 #[.slice a L.length cap,.agg #[.int .i64 p.kind,.string p.name,.int .i64 p.sort,.slice a' p.kids.length cap'],.func (.func 42) #[] #[]] w fun e w'=>∃i:Nat,e=.returned (.tuple #[.int .i64 i,.bool (decide (p∈L))])∧Ext w w'∧(p∈L→L[i]?=some p):=by
 obtain ⟨-,hl,hc⟩:=hA.len
 have hl':=hT.len
 have hc':=hT.cap
 unfold maxLen at hc hc'
 obtain ⟨bx,hbx⟩:∃bx,bx=w.heap.size:=⟨_,rfl⟩
 obtain ⟨w1,hw1⟩:∃w1,w1=w.alloc (.cells #[.int .i64 p.kind,.string p.name,.int .i64 p.sort,.slice a' p.kids.length cap'] 33):=⟨_,rfl⟩
 have b0:w1.cell? ⟨bx,0,none⟩=some (.int .i64 p.kind):=by rw [hw1,hbx];exact cs_new rfl
 have b1:w1.cell? ⟨bx,1,none⟩=some (.string p.name):=by rw [hw1,hbx];exact cs_new rfl
 have b2:w1.cell? ⟨bx,2,none⟩=some (.int .i64 p.sort):=by rw [hw1,hbx];exact cs_new rfl
 have b3:w1.cell? ⟨bx,3,none⟩=some (.slice a' p.kids.length cap'):=by rw [hw1,hbx];exact cs_new rfl
 have HE1:Hid (Ext w w1):=Lib.hid (by rw [hw1];exact Ext.alloc w _)
 have HA:=Lib.hid (hA.ts.ext HE1.out)
 have HT:=Lib.hid (hT.ext HE1.out)
 have HL6:=Lib.hid hL6
 have HS:=Lib.hid hs
 have B0:=Lib.hid b0
 have B1:=Lib.hid b1
 have B2:=Lib.hid b2
 have B3:=Lib.hid b3
 clear hA hT hL6 hs b0 b1 b2 b3
 go_enter Tryz.func126,Tryz.ntmps126
 go_upto_region 1 with fail
 rw [←hw1,←hbx]
 clear hw1 hbx
 go_wp2_with fail
 go_loopw [9,10,11] (fun iv jv _ wr=>∃i j:Nat,iv=.int .i64 i∧jv=.int .i64 j∧i≤j∧j≤L.length∧(∀(k:Nat) x,k<i→L[k]?=some x→ltT x p)∧(∀(k:Nat) x,j≤k→L[k]?=some x→¬ltT x p)∧Ext w1 wr) (fun iv jv _ _=>(intOf jv).toNat-(intOf iv).toNat)
 case atStart=>exact ⟨0,L.length,rfl,rfl,by omega,by omega,fun k x h=>by omega,fun k x h hx=>by have:=(List.getElem?_eq_some_iff.1 hx).1;omega,Ext.refl _⟩
 case round =>
  obtain ⟨i,j,rfl,rfl,hij,hj,hlo,hhi,hE⟩:=hrel
  have HLO:=Lib.hid hlo
  have HHI:=Lib.hid hhi
  have HE:=Lib.hid hE
  have b0:=cs_ext hE B0.out
  have b1:=cs_ext hE B1.out
  have b2:=cs_ext hE B2.out
  have b3:=cs_ext hE B3.out
  clear hlo hhi hE
  by_cases hlt:i<j
  · obtain ⟨h,hh⟩:∃h:Nat,h=(i+j) / 2:=⟨_,rfl⟩
    have hhl:h<L.length:=by omega
    have hhi2:((i:Int)+(j:Int)) / 2=(h:Int):=by omega
    have hih:i≤h∧h<j:=by omega
    obtain ⟨x,hx⟩:∃x,L[h]?=some x:=⟨_,List.getElem?_eq_getElem hhl⟩
    obtain ⟨xb,xo,xa,xc,rfl,x0,x1,x2,x3,hTx⟩:=(HA.out.ext HE.out).at hx
    have hcon:=fun (w':World) (hE:Ext wr w')=>PCmp_any (w:=w') (HL6.out x (List.mem_of_getElem? hx)) hp6 (hTx.ext hE) ((HT.out.ext HE.out).ext hE)
    obtain ⟨o,ho⟩:∃o,o=cmpT x p:=⟨_,rfl⟩
    rw [←ho] at hcon
    have HX:=Lib.hid hx
    have HO:=Lib.hid ho
    have HCON:=Lib.hid hcon
    have HHI2:=Lib.hid hhi2
    clear hx ho hcon hh hhi2 hTx
    go_wp2_with fail
    rw [HHI2.out]
    have HFCT:=Lib.hid (And.intro b0 (And.intro b1 (And.intro b2 (And.intro b3 (And.intro x0 (And.intro x1 (And.intro x2 x3)))))))
    refine wp_region_reg 8 false (by kernel_rfl) (by kernel_rfl) ?_
    refine reg_value (fun _=>rfl) ?_ (fun g w' vs hM hE hP=>?_) ?_
    rotate_left
    · (clear hP hM;have ⟨z0,z1,z2,z3,z4,z5,z6,z7⟩:=cs_e8 hE HFCT.out;go_simp;first | done | rfl)
    refine reg_value (fun _=>rfl) ?_ (fun g w' vs hM hE hP=>?_) ?_
    rotate_left
    · (clear hP hM;have ⟨z0,z1,z2,z3,z4,z5,z6,z7⟩:=cs_e8 hE HFCT.out;go_simp;first | done | rfl)
    refine reg_value (fun _=>rfl) ?_ (fun g w' vs hM hE hP=>?_) ?_
    rotate_left
    · (clear hP hM;have ⟨z0,z1,z2,z3,z4,z5,z6,z7⟩:=cs_e8 hE HFCT.out;go_simp;first | done | rfl)
    refine reg_value (fun _=>rfl) ?_ (fun g w' vs hM hE hP=>?_) ?_
    rotate_left
    · (clear hP hM;have ⟨z0,z1,z2,z3,z4,z5,z6,z7⟩:=cs_e8 hE HFCT.out;go_simp;first | done | rfl)
    refine reg_value (fun _=>rfl) ?_ (fun g w' vs hM hE hP=>?_) ?_
    rotate_left
    · (clear hP hM;have ⟨z0,z1,z2,z3,z4,z5,z6,z7⟩:=cs_e8 hE HFCT.out;go_simp;first | done | rfl)
    refine reg_value (fun _=>rfl) ?_ (fun g w' vs hM hE hP=>?_) ?_
    rotate_left
    · (clear hP hM;have ⟨z0,z1,z2,z3,z4,z5,z6,z7⟩:=cs_e8 hE HFCT.out;go_simp;first | done | rfl)
    refine reg_const (fun _=>rfl) 42 ?_ (fun g w' vs hM hE hP=>?_) ?_
    rotate_left
    · (clear hP hM;have ⟨z0,z1,z2,z3,z4,z5,z6,z7⟩:=cs_e8 hE HFCT.out;go_simp;first | done | exact ⟨rfl,rfl⟩ | rfl)
    apply Exists.intro
    refine And.intro (fun g w' vs hM hE hP=>?_) ?_
    · exact HCON.out _ hE
    refine reg_value (fun _=>rfl) ?_ (fun g w' vs hM hE hP=>?_) ?_
    rotate_left
    · (clear hP hM;have ⟨z0,z1,z2,z3,z4,z5,z6,z7⟩:=cs_e8 hE HFCT.out;go_simp;first | done | rfl)
    intro g wz hE2 hF hQ
    simp only [List.drop_succ_cons,List.drop_zero,Act.put,List.setIfInBounds_toArray,List.set_cons_succ,List.set_cons_zero]
    clear hF hQ x0 x1 x2 x3 b0 b1 b2 b3
    have HE2:=Lib.hid (HE.out.trans hE2)
    clear hE2
    by_cases hneg:o<0
    · have e1:decide (o<0)=true:=decide_eq_true hneg
      have HLT:Hid (ltT x p):=Lib.hid (by unfold ltT;rw [←HO.out];exact hneg)
      go_wp2_with fail
      go_roundw
      case rel=>exact ⟨h+1,j,by go_num,rfl,by omega,by omega,fun k y hk hy=>by
        rcases Nat.lt_or_ge k h with h' | h'
        · exact ltT_trans (asc_get HS.out hy HX.out h') HLT.out
        · have:k=h:=by omega
          subst this
          rw [HX.out] at hy;cases hy;exact HLT.out,HHI.out,HE2.out⟩
      case measure=>simp [intOf];omega
    · have e1:decide (o<0)=false:=decide_eq_false hneg
      have HGE:Hid (¬ltT x p):=Lib.hid (fun h'=>hneg (by rw [HO.out];exact h'))
      go_wp2_with fail
      go_roundw
      case rel=>exact ⟨i,h,rfl,rfl,by omega,by omega,HLO.out,fun k y hk hy hlt'=>by
        rcases Nat.lt_or_ge h k with h' | h'
        · exact HGE.out (ltT_trans (asc_get HS.out HX.out hy h') hlt')
        · have:k=h:=by omega
          subst this
          rw [HX.out] at hy;cases hy;exact HGE.out hlt',HE2.out⟩
      case measure=>simp [intOf];omega
  · have hije:j=i:=by omega
    subst hije
    have HAT:Hid (∀k,L[k]?=some p→k=j):=Lib.hid (fun k hk=>by
     rcases Nat.lt_trichotomy k j with h | h | h
     · exact absurd (HLO.out k p h hk) ltT_irrefl
     · exact h
     · obtain ⟨y,hy⟩:∃y,L[j]?=some y:=⟨_,List.getElem?_eq_getElem (by have:=(List.getElem?_eq_some_iff.1 hk).1;omega)⟩
       exact absurd (asc_get HS.out hy hk h) (HHI.out j y (Nat.le_refl _) hy))
    have HIX:Hid (p∈L→L[j]?=some p):=Lib.hid (fun hp=>by
     obtain ⟨k,hk⟩:=List.mem_iff_getElem?.1 hp
     have:=HAT.out k hk
     subst this
     exact hk)
    by_cases hil:j<L.length
    · obtain ⟨x,hx⟩:∃x,L[j]?=some x:=⟨_,List.getElem?_eq_getElem hil⟩
      obtain ⟨xb,xo,xa,xc,rfl,x0,x1,x2,x3,hTx⟩:=(HA.out.ext HE.out).at hx
      have hcon:=fun (w':World) (hE:Ext wr w')=>PCmp_any (w:=w') (HL6.out x (List.mem_of_getElem? hx)) hp6 (hTx.ext hE) ((HT.out.ext HE.out).ext hE)
      obtain ⟨o,ho⟩:∃o,o=cmpT x p:=⟨_,rfl⟩
      rw [←ho] at hcon
      have HX:=Lib.hid hx
      have HO:=Lib.hid ho
      have HCON:=Lib.hid hcon
      have HR:Hid ((o==0)=decide (p∈L)):=Lib.hid (by
       rw [Bool.eq_iff_iff,beq_iff_eq,decide_eq_true_eq,HO.out,cmpT_zero]
       constructor
       · rintro rfl;exact List.mem_of_getElem? HX.out
       · intro hp
         have:=HIX.out hp
         rw [HX.out] at this
         exact Option.some.inj this)
      have hilz:(j:Int)<(L.length:Int):=by omega
      have e1:decide ((j:Int)<(L.length:Int))=true:=decide_eq_true hilz
      clear hx ho hcon hTx
      go_wp2_with fail
      have HFCT:=Lib.hid (And.intro b0 (And.intro b1 (And.intro b2 (And.intro b3 (And.intro x0 (And.intro x1 (And.intro x2 x3)))))))
      refine wp_region_reg 16 false (by kernel_rfl) (by kernel_rfl) ?_
      refine reg_value (fun _=>rfl) ?_ (fun g w' vs hM hE hP=>?_) ?_
      rotate_left
      · (clear hP hM;have ⟨z0,z1,z2,z3,z4,z5,z6,z7⟩:=cs_e8 hE HFCT.out;go_simp;first | done | rfl)
      refine reg_value (fun _=>rfl) ?_ (fun g w' vs hM hE hP=>?_) ?_
      rotate_left
      · (clear hP hM;have ⟨z0,z1,z2,z3,z4,z5,z6,z7⟩:=cs_e8 hE HFCT.out;go_simp;first | done | rfl)
      refine reg_value (fun _=>rfl) ?_ (fun g w' vs hM hE hP=>?_) ?_
      rotate_left
      · (clear hP hM;have ⟨z0,z1,z2,z3,z4,z5,z6,z7⟩:=cs_e8 hE HFCT.out;go_simp;first | done | rfl)
      refine reg_value (fun _=>rfl) ?_ (fun g w' vs hM hE hP=>?_) ?_
      rotate_left
      · (clear hP hM;have ⟨z0,z1,z2,z3,z4,z5,z6,z7⟩:=cs_e8 hE HFCT.out;go_simp;first | done | rfl)
      refine reg_value (fun _=>rfl) ?_ (fun g w' vs hM hE hP=>?_) ?_
      rotate_left
      · (clear hP hM;have ⟨z0,z1,z2,z3,z4,z5,z6,z7⟩:=cs_e8 hE HFCT.out;go_simp;first | done | rfl)
      refine reg_value (fun g=>by go_simp) ?_ (fun g w' vs hM hE hP=>?_) ?_
      rotate_left
      · (clear hP hM;have ⟨z0,z1,z2,z3,z4,z5,z6,z7⟩:=cs_e8 hE HFCT.out;go_simp;first | done | rfl)
      refine reg_value (fun g=>by go_simp) ?_ (fun g w' vs hM hE hP=>?_) ?_
      rotate_left
      · (clear hP hM;have ⟨z0,z1,z2,z3,z4,z5,z6,z7⟩:=cs_e8 hE HFCT.out;go_simp;first | done | rfl)
      refine reg_value (fun g=>by go_simp) ?_ (fun g w' vs hM hE hP=>?_) ?_
      rotate_left
      · (clear hP hM;have ⟨z0,z1,z2,z3,z4,z5,z6,z7⟩:=cs_e8 hE HFCT.out;go_simp;first | done | rfl)
      refine reg_value (fun g=>by go_simp) ?_ (fun g w' vs hM hE hP=>?_) ?_
      rotate_left
      · (clear hP hM;have ⟨z0,z1,z2,z3,z4,z5,z6,z7⟩:=cs_e8 hE HFCT.out;go_simp;first | done | rfl)
      refine reg_value (fun g=>by go_simp) ?_ (fun g w' vs hM hE hP=>?_) ?_
      rotate_left
      · (clear hP hM;have ⟨z0,z1,z2,z3,z4,z5,z6,z7⟩:=cs_e8 hE HFCT.out;go_simp;first | done | rfl)
      refine reg_value (fun g=>by go_simp) ?_ (fun g w' vs hM hE hP=>?_) ?_
      rotate_left
      · (clear hP hM;have ⟨z0,z1,z2,z3,z4,z5,z6,z7⟩:=cs_e8 hE HFCT.out;go_simp;first | done | rfl)
      refine reg_const (fun g=>by go_simp) 42 ?_ (fun g w' vs hM hE hP=>?_) ?_
      rotate_left
      · (clear hP hM;have ⟨z0,z1,z2,z3,z4,z5,z6,z7⟩:=cs_e8 hE HFCT.out;go_simp;first | done | exact ⟨rfl,rfl⟩ | rfl)
      apply Exists.intro
      refine And.intro (fun g w' vs hM hE hP=>?_) ?_
      · exact HCON.out _ hE
      refine reg_value (fun g=>by go_simp) ?_ (fun g w' vs hM hE hP=>?_) ?_
      rotate_left
      · (clear hP hM;have ⟨z0,z1,z2,z3,z4,z5,z6,z7⟩:=cs_e8 hE HFCT.out;go_simp;first | done | rfl)
      refine reg_value (fun _=>rfl) ?_ (fun g w' vs hM hE hP=>?_) ?_
      rotate_left
      · (clear hP hM;have ⟨z0,z1,z2,z3,z4,z5,z6,z7⟩:=cs_e8 hE HFCT.out;go_simp;first | done | rfl)
      refine reg_value (fun _=>rfl) ?_ (fun g w' vs hM hE hP=>?_) ?_
      rotate_left
      · (clear hP hM;have ⟨z0,z1,z2,z3,z4,z5,z6,z7⟩:=cs_e8 hE HFCT.out;go_simp;first | done | rfl)
      refine reg_value (fun _=>rfl) ?_ (fun g w' vs hM hE hP=>?_) ?_
      rotate_left
      · (clear hP hM;have ⟨z0,z1,z2,z3,z4,z5,z6,z7⟩:=cs_e8 hE HFCT.out;go_simp;first | done | rfl)
      intro g wz hE2 hF hQ
      simp only [List.drop_succ_cons,List.drop_zero,Act.put,List.setIfInBounds_toArray,List.set_cons_succ,List.set_cons_zero]
      clear hF hQ x0 x1 x2 x3 b0 b1 b2 b3
      have HE2:=Lib.hid (HE.out.trans hE2)
      clear hE2
      go_wp2_with fail
      go_ret2
      exact ⟨j,by rw [←HR.out];rfl,HE1.out.trans HE2.out,HIX.out⟩
    · have HR:Hid (decide (p∈L)=false):=Lib.hid (by
       rw [decide_eq_false_iff_not]
       intro hp
       have:=HIX.out hp
       have:=(List.getElem?_eq_some_iff.1 this).1
       omega)
      have e1:decide ((j:Int)<(L.length:Int))=false:=decide_eq_false (by omega)
      clear b0 b1 b2 b3
      go_wp2_with fail
      refine wp_region_reg 16 false (by kernel_rfl) (by kernel_rfl) ?_
      refine reg_value (fun _=>rfl) ?_ (fun g w' vs hM hE hP=>?_) ?_
      rotate_left
      · (clear hP hM;go_simp;first | done | rfl)
      refine reg_value (fun _=>rfl) ?_ (fun g w' vs hM hE hP=>?_) ?_
      rotate_left
      · (clear hP hM;go_simp;first | done | rfl)
      refine reg_value (fun _=>rfl) ?_ (fun g w' vs hM hE hP=>?_) ?_
      rotate_left
      · (clear hP hM;go_simp;first | done | rfl)
      refine reg_value (fun _=>rfl) ?_ (fun g w' vs hM hE hP=>?_) ?_
      rotate_left
      · (clear hP hM;go_simp;first | done | rfl)
      refine reg_value (fun _=>rfl) ?_ (fun g w' vs hM hE hP=>?_) ?_
      rotate_left
      · (clear hP hM;go_simp;first | done | rfl)
      refine reg_skip (fun g=>by go_simp;first | done | (intro h;cases h) | simp [undef]) ?_
      refine reg_skip (fun g=>by go_simp;first | done | (intro h;cases h) | simp [undef]) ?_
      refine reg_skip (fun g=>by go_simp;first | done | (intro h;cases h) | simp [undef]) ?_
      refine reg_skip (fun g=>by go_simp;first | done | (intro h;cases h) | simp [undef]) ?_
      refine reg_skip (fun g=>by go_simp;first | done | (intro h;cases h) | simp [undef]) ?_
      refine reg_skip (fun g=>by go_simp;first | done | (intro h;cases h) | simp [undef]) ?_
      refine reg_skip (fun g=>by go_simp;first | done | (intro h;cases h) | simp [undef]) ?_
      refine reg_skip (fun g=>by go_simp;first | done | (intro h;cases h) | simp [undef]) ?_
      refine reg_value (fun _=>rfl) ?_ (fun g w' vs hM hE hP=>?_) ?_
      rotate_left
      · (clear hP hM;go_simp;first | done | rfl)
      refine reg_value (fun _=>rfl) ?_ (fun g w' vs hM hE hP=>?_) ?_
      rotate_left
      · (clear hP hM;go_simp;first | done | rfl)
      refine reg_value (fun _=>rfl) ?_ (fun g w' vs hM hE hP=>?_) ?_
      rotate_left
      · (clear hP hM;go_simp;first | done | rfl)
      intro g wz hE2 hF hQ
      simp only [List.drop_succ_cons,List.drop_zero,Act.put,List.setIfInBounds_toArray,List.set_cons_succ,List.set_cons_zero]
      clear hF hQ
      have HE2:=Lib.hid (HE.out.trans hE2)
      clear hE2
      go_wp2_with fail
      go_ret2
      exact ⟨j,by rw [HR.out];rfl,HE1.out.trans HE2.out,HIX.out⟩

end Go.Proofs.YtclijngnoepbiaaGreat
