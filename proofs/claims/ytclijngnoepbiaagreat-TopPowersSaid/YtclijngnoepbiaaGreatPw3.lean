/- Contracts: sealringref09.Symbols and Kind. Contracts: sealringref09.Kind and fits. Contract: sealringref09.fits. Contracts: sealringref09.nodes and Valid. Contracts: sealringref09.nodes on towers, Valid, product. -/
import Derived.Test.YtclijngnoepbiaaGreatPw2
set_option maxRecDepth 100000
set_option maxHeartbeats 8000000
namespace Go.Proofs.YtclijngnoepbiaaGreat
open Go Go.RowKit
set_option linter.unusedVariables false
set_option linter.unusedSimpArgs false

def syC (x:Sy):List Value:=[.string x.1,.int .i64 x.2.1,.int .i64 x.2.2.1,.int .i64 x.2.2.2]
theorem rsymbols_any {w:World}:Calls Tryz.prog 100 #[] w fun e w'=>∃b,e=.returned (.slice (some ⟨b,0,none⟩) 21 21)∧Ext w w'∧LsG elSy w' (fun _=>True) (.slice (some ⟨b,0,none⟩) 21 21) symsL:=by
 obtain ⟨b,w1,hb,hw1,HB,hE1⟩:=box_new w (.cells (symsL.flatMap syC).toArray 127)
 have HL:Hid (LsG elSy w1 (fun _=>True) (.slice (some ⟨b,0,none⟩) 21 21) symsL):=Lib.hid (cells_lsG (P:=symsL.map fun x=>(x,syC x)) HB.out (by rw [List.flatMap_map]) (by rw [List.map_map];exact List.map_id' _) rfl (by show 21≤maxLen;unfold maxLen;omega) trivial (by
  intro p hp
  obtain ⟨x,-,rfl⟩:=List.mem_map.1 hp
  rfl))
 have HE1:=Lib.hid hE1
 have hc:(symsL.flatMap syC).toArray=#[]++(symsL.flatMap syC).toArray:=by simp
 clear hE1 hc
 simp only [symsL,syC,List.flatMap_cons,List.flatMap_nil,List.cons_append,List.nil_append] at hw1
 go_enter Tryz.func100,Tryz.ntmps100
 go_wp2_with fail
 rw [←hw1,←hb]
 go_ret
 exact ⟨b,rfl,HE1.out,HL.out⟩

theorem rkind_any {w:World} {n:ByteArray} {x:Sy} (hn:SymAt n x):Calls Tryz.prog 66 #[.string n] w fun e w'=>e=.returned (.int .i64 x.2.2.2)∧Ext w w':=by
 obtain ⟨rfl,m,hm,hlt⟩:=hn
 have HC:=Lib.hid (rsymbols_any (w:=w))
 have HM:=Lib.hid (And.intro hm hlt)
 have hm21:m<21:=(List.getElem?_eq_some_iff.1 hm).1
 clear hm hlt
 go_enter Tryz.func66,Tryz.ntmps66
 go_wp2_with fail
 refine HC.out.mono ?_
 rintro e w2 ⟨b,rfl,hE2,hL⟩
 have HL:=Lib.hid hL
 have HE2:=Lib.hid hE2
 have HE0:Hid (Ext w2 w2):=Lib.hid (Ext.refl _)
 clear hL hE2
 go_upto_region 3 with fail
 go_loopw [4] (fun kv wr=>∃q:Nat,kv=.int .i64 q∧q≤m∧Hid (Ext w2 wr)) (fun kv _=>21-(intOf kv).toNat)
 case atStart=>exact ⟨0,rfl,by omega,HE0⟩
 case round =>
  clear HE0
  obtain ⟨q,rfl,hq,HE⟩:=hrel
  have hqz:(q:Int)<21:=by omega
  have hq0:(0:Int)≤(q:Int):=by omega
  have wq:IntKind.i64.wrap ((q:Int)+1)=((q+1:Nat):Int):=by rw [IntKind.wrap_i64];omega
  obtain ⟨y,hy⟩:∃y,symsL[q]?=some y:=⟨_,List.getElem?_eq_getElem (show q<symsL.length by show q<21;omega)⟩
  obtain ⟨b2,off,cs,hbe,-,-,rfl,hc⟩:=(HL.out.ext HE.out).at (i:=q) (x:=y) hy
  cases hbe
  have c0:wr.cell? ⟨b,0+q*4,none⟩=some (.string y.1):=hc 0 _ rfl
  have c3:wr.cell? ⟨b,0+q*4+3,none⟩=some (.int .i64 y.2.2.2):=hc 3 _ rfl
  have c0':wr.cell? ⟨b,q*4,none⟩=some (.string y.1):=by rw [Nat.zero_add] at c0;exact c0
  have c3':wr.cell? ⟨b,q*4+3,none⟩=some (.int .i64 y.2.2.2):=by rw [Nat.zero_add] at c3;exact c3
  by_cases hqm:q<m
  · have hne:=HM.out.2 q hqm y hy
    have e1:(y.1==x.1)=false:=Bool.eq_false_iff.2 (fun h=>hne (by rw [MapKept.bytes_beq] at h;exact h))
    have e2:(y.1.toList==x.1.toList)=false:=by rw [tlN_eq];exact decide_eq_false hne
    clear hc hy
    go_wp2_with fail
    go_roundw
    case rel=>exact ⟨q+1,rfl,by omega,HE⟩
    case measure=>simp [intOf];omega
  · have hqe:q=m:=by omega
    have hyx:y=x:=by
     rw [hqe,HM.out.1] at hy
     exact (Option.some.inj hy).symm
    subst hyx
    clear hc hy hqe
    go_wp2_with fail
    go_ret
    exact ⟨rfl,HE2.out.trans HE.out⟩

theorem rfitsT_any {w:World} {n:ByteArray} {x:Sy} {a:Option Addr} {l cap:Nat} (hn:SymAt n x) (h1:x.2.1≤(l:Int)) (h2:(l:Int)≤x.2.2.1) (h8:l≤100):Calls Tryz.prog 98 #[.agg #[.int .i64 3,.string n,.int .i64 0,.slice a l cap]] w fun e w'=>e=.returned (.bool true)∧Ext w w':=by
 obtain ⟨rfl,m,hm,hlt⟩:=hn
 obtain ⟨bx,w1,hbx,hw1,HB,hE1⟩:=box_new w (.cells #[.int .i64 3,.string x.1,.int .i64 0,.slice a l cap] 33)
 have HC:=Lib.hid (rsymbols_any (w:=w1))
 have HM:=Lib.hid (And.intro hm hlt)
 have hm21:m<21:=(List.getElem?_eq_some_iff.1 hm).1
 have HE1:=Lib.hid hE1
 clear hm hlt hE1
 go_enter Tryz.func98,Tryz.ntmps98
 go_upto_region 1 with fail
 rw [←hw1,←hbx]
 clear hw1 hbx
 go_wp2_with fail
 refine HC.out.mono ?_
 rintro e w2 ⟨b,rfl,hE2,hL⟩
 have HL:=Lib.hid hL
 have HB2:=Lib.hid (hs_ext hE2 HB.out)
 have HE2:=Lib.hid (HE1.out.trans hE2)
 have HE0:Hid (Ext w2 w2):=Lib.hid (Ext.refl _)
 clear hL hE2
 go_upto_region 3 with fail
 go_loopw [4] (fun kv wr=>∃q:Nat,kv=.int .i64 q∧q≤m∧Hid (Ext w2 wr)) (fun kv _=>21-(intOf kv).toNat)
 case atStart=>exact ⟨0,rfl,by omega,HE0⟩
 case round =>
  clear HE0
  obtain ⟨q,rfl,hq,HE⟩:=hrel
  have hqz:(q:Int)<21:=by omega
  have hq0:(0:Int)≤(q:Int):=by omega
  have wq:IntKind.i64.wrap ((q:Int)+1)=((q+1:Nat):Int):=by rw [IntKind.wrap_i64];omega
  obtain ⟨b0,b1,b2,b3⟩:=box4r (hs_ext HE.out HB2.out)
  obtain ⟨y,hy⟩:∃y,symsL[q]?=some y:=⟨_,List.getElem?_eq_getElem (show q<symsL.length by show q<21;omega)⟩
  obtain ⟨b2',off,cs,hbe,-,-,rfl,hc⟩:=(HL.out.ext HE.out).at (i:=q) (x:=y) hy
  cases hbe
  have c0:wr.cell? ⟨b,0+q*4,none⟩=some (.string y.1):=hc 0 _ rfl
  have c1:wr.cell? ⟨b,0+q*4+1,none⟩=some (.int .i64 y.2.1):=hc 1 _ rfl
  have c2:wr.cell? ⟨b,0+q*4+2,none⟩=some (.int .i64 y.2.2.1):=hc 2 _ rfl
  have p0:wr.cell? ⟨b,q*4,none⟩=some (.string y.1):=by rw [Nat.zero_add] at c0;exact c0
  have p1:wr.cell? ⟨b,q*4+1,none⟩=some (.int .i64 y.2.1):=by rw [Nat.zero_add] at c1;exact c1
  have p2:wr.cell? ⟨b,q*4+2,none⟩=some (.int .i64 y.2.2.1):=by rw [Nat.zero_add] at c2;exact c2
  clear c0 c1 c2 hc
  by_cases hqm:q<m
  · have hne:=HM.out.2 q hqm y hy
    have e1:(y.1==x.1)=false:=Bool.eq_false_iff.2 (fun h=>hne (by rw [MapKept.bytes_beq] at h;exact h))
    have e2:(y.1.toList==x.1.toList)=false:=by rw [tlN_eq];exact decide_eq_false hne
    clear hy
    go_upto_region 5 with fail
    have HFCT:=Lib.hid (And.intro p0 b1)
    refine wp_region_reg 8 false (by kernel_rfl) (by kernel_rfl) ?_
    refine reg_value (fun _=>rfl) ?_ (fun g w' vs hM hE hP=>?_) ?_
    rotate_left
    · (clear hP hM;go_simp;first | done | rfl)
    refine reg_value (fun _=>rfl) ?_ (fun g w' vs hM hE hP=>?_) ?_
    rotate_left
    · (clear hP hM;go_simp;first | done | rfl)
    refine reg_value (fun _=>rfl) ?_ (fun g w' vs hM hE hP=>?_) ?_
    rotate_left
    · (clear hP hM;go_simp;first | done | rfl)
    refine reg_value (fun _=>rfl) ?_ (fun g w' vs hM hE hP=>?_) ?_
    rotate_left
    · (clear hP hM;go_simp;first | done | rfl)
    refine reg_value (fun _=>rfl) ?_ (fun g w' vs hM hE hP=>?_) ?_
    rotate_left
    · (clear hP hM;have ⟨z0,z1⟩:=cs_e2 hE HFCT.out;go_simp;first | done | rfl)
    refine reg_value (fun _=>rfl) ?_ (fun g w' vs hM hE hP=>?_) ?_
    rotate_left
    · (clear hP hM;go_simp;first | done | rfl)
    refine reg_value (fun _=>rfl) ?_ (fun g w' vs hM hE hP=>?_) ?_
    rotate_left
    · (clear hP hM;have ⟨z0,z1⟩:=cs_e2 hE HFCT.out;go_simp;first | done | rfl)
    refine reg_value (fun _=>rfl) ?_ (fun g w' vs hM hE hP=>?_) ?_
    rotate_left
    · (clear hP hM;go_simp;first | done | rfl)
    intro g wn hEn hFn hQn
    simp only [List.drop_succ_cons,List.drop_zero,Act.put,List.setIfInBounds_toArray,List.set_cons_succ,List.set_cons_zero]
    have HEn:=Lib.hid (HE.out.trans hEn)
    clear hEn hFn hQn p0 p1 p2 b0 b1 b2 b3
    go_wp2_with fail
    go_roundw
    case rel=>exact ⟨q+1,rfl,by omega,HEn⟩
    case measure=>simp [intOf];omega
  · have hqe:q=m:=by omega
    have hyx:y=x:=by
     rw [hqe,HM.out.1] at hy
     exact (Option.some.inj hy).symm
    subst hyx
    clear hy hqe
    have d1:¬(l:Int)<y.2.1:=by omega
    have d2:¬y.2.2.1<(l:Int):=by omega
    go_upto_region 5 with fail
    have HFCT:=Lib.hid (And.intro p0 b1)
    refine wp_region_reg 8 false (by kernel_rfl) (by kernel_rfl) ?_
    refine reg_value (fun _=>rfl) ?_ (fun g w' vs hM hE hP=>?_) ?_
    rotate_left
    · (clear hP hM;go_simp;first | done | rfl)
    refine reg_value (fun _=>rfl) ?_ (fun g w' vs hM hE hP=>?_) ?_
    rotate_left
    · (clear hP hM;go_simp;first | done | rfl)
    refine reg_value (fun _=>rfl) ?_ (fun g w' vs hM hE hP=>?_) ?_
    rotate_left
    · (clear hP hM;go_simp;first | done | rfl)
    refine reg_value (fun _=>rfl) ?_ (fun g w' vs hM hE hP=>?_) ?_
    rotate_left
    · (clear hP hM;go_simp;first | done | rfl)
    refine reg_value (fun _=>rfl) ?_ (fun g w' vs hM hE hP=>?_) ?_
    rotate_left
    · (clear hP hM;have ⟨z0,z1⟩:=cs_e2 hE HFCT.out;go_simp;first | done | rfl)
    refine reg_value (fun _=>rfl) ?_ (fun g w' vs hM hE hP=>?_) ?_
    rotate_left
    · (clear hP hM;go_simp;first | done | rfl)
    refine reg_value (fun _=>rfl) ?_ (fun g w' vs hM hE hP=>?_) ?_
    rotate_left
    · (clear hP hM;have ⟨z0,z1⟩:=cs_e2 hE HFCT.out;go_simp;first | done | rfl)
    refine reg_value (fun _=>rfl) ?_ (fun g w' vs hM hE hP=>?_) ?_
    rotate_left
    · (clear hP hM;go_simp;first | done | rfl)
    intro g wn hEn hFn hQn
    simp only [List.drop_succ_cons,List.drop_zero,Act.put,List.setIfInBounds_toArray,List.set_cons_succ,List.set_cons_zero]
    obtain ⟨p0,p1,p2,b0,b1,b2,b3⟩:=cs_e7 hEn ⟨p0,p1,p2,b0,b1,b2,b3⟩
    have HEn:=Lib.hid (HE.out.trans hEn)
    clear hEn hFn hQn
    go_upto_region 6 with fail
    have HFCT:=Lib.hid (And.intro p0 (And.intro p1 (And.intro p2 b3)))
    refine wp_region_reg 20 false (by kernel_rfl) (by kernel_rfl) ?_
    refine reg_value (fun _=>rfl) ?_ (fun g w' vs hM hE hP=>?_) ?_
    rotate_left
    · (clear hP hM;go_simp;first | done | rfl)
    refine reg_value (fun _=>rfl) ?_ (fun g w' vs hM hE hP=>?_) ?_
    rotate_left
    · (clear hP hM;have ⟨z0,z1,z2,z3⟩:=cs_e4 hE HFCT.out;go_simp;first | done | rfl)
    refine reg_value (fun _=>rfl) ?_ (fun g w' vs hM hE hP=>?_) ?_
    rotate_left
    · (clear hP hM;go_simp;first | done | rfl)
    refine reg_value (fun _=>rfl) ?_ (fun g w' vs hM hE hP=>?_) ?_
    rotate_left
    · (clear hP hM;go_simp;first | done | rfl)
    refine reg_value (fun _=>rfl) ?_ (fun g w' vs hM hE hP=>?_) ?_
    rotate_left
    · (clear hP hM;go_simp;first | done | rfl)
    refine reg_value (fun _=>rfl) ?_ (fun g w' vs hM hE hP=>?_) ?_
    rotate_left
    · (clear hP hM;go_simp;first | done | rfl)
    refine reg_value (fun _=>rfl) ?_ (fun g w' vs hM hE hP=>?_) ?_
    rotate_left
    · (clear hP hM;go_simp;first | done | rfl)
    refine reg_value (fun _=>rfl) ?_ (fun g w' vs hM hE hP=>?_) ?_
    rotate_left
    · (clear hP hM;have ⟨z0,z1,z2,z3⟩:=cs_e4 hE HFCT.out;go_simp;first | done | rfl)
    refine reg_value (fun _=>rfl) ?_ (fun g w' vs hM hE hP=>?_) ?_
    rotate_left
    · (clear hP hM;go_simp;first | done | rfl)
    refine reg_value (fun _=>rfl) ?_ (fun g w' vs hM hE hP=>?_) ?_
    rotate_left
    · (clear hP hM;go_simp;first | done | rfl)
    refine reg_value (fun g=>by go_simp) ?_ (fun g w' vs hM hE hP=>?_) ?_
    rotate_left
    · (clear hP hM;go_simp;first | done | rfl)
    refine reg_value (fun g=>by go_simp) ?_ (fun g w' vs hM hE hP=>?_) ?_
    rotate_left
    · (clear hP hM;have ⟨z0,z1,z2,z3⟩:=cs_e4 hE HFCT.out;go_simp;first | done | rfl)
    refine reg_value (fun g=>by go_simp) ?_ (fun g w' vs hM hE hP=>?_) ?_
    rotate_left
    · (clear hP hM;go_simp;first | done | rfl)
    refine reg_value (fun g=>by go_simp) ?_ (fun g w' vs hM hE hP=>?_) ?_
    rotate_left
    · (clear hP hM;go_simp;first | done | rfl)
    refine reg_value (fun g=>by go_simp) ?_ (fun g w' vs hM hE hP=>?_) ?_
    rotate_left
    · (clear hP hM;go_simp;first | done | rfl)
    refine reg_value (fun g=>by go_simp) ?_ (fun g w' vs hM hE hP=>?_) ?_
    rotate_left
    · (clear hP hM;go_simp;first | done | rfl)
    refine reg_value (fun g=>by go_simp) ?_ (fun g w' vs hM hE hP=>?_) ?_
    rotate_left
    · (clear hP hM;go_simp;first | done | rfl)
    refine reg_value (fun g=>by go_simp) ?_ (fun g w' vs hM hE hP=>?_) ?_
    rotate_left
    · (clear hP hM;have ⟨z0,z1,z2,z3⟩:=cs_e4 hE HFCT.out;go_simp;first | done | rfl)
    refine reg_value (fun g=>by go_simp) ?_ (fun g w' vs hM hE hP=>?_) ?_
    rotate_left
    · (clear hP hM;go_simp;first | done | rfl)
    refine reg_value (fun _=>rfl) ?_ (fun g w' vs hM hE hP=>?_) ?_
    rotate_left
    · (clear hP hM;go_simp;first | done | rfl)
    intro g wn2 hEn hFn hQn
    simp only [List.drop_succ_cons,List.drop_zero,Act.put,List.setIfInBounds_toArray,List.set_cons_succ,List.set_cons_zero]
    have HEm:=Lib.hid (HEn.out.trans hEn)
    clear hEn hFn hQn
    go_wp2_with fail
    go_ret
    exact ⟨rfl,HE2.out.trans HEm.out⟩

/-- a constructor with the right number of kids -/
def OkR (n:ByteArray) (k:Nat):Prop:=∃x:Sy,SymAt n x∧x.2.2.2=1∧x.2.1≤(k:Int)∧(k:Int)≤x.2.2.1
theorem rokInv:OkR invN 1:=⟨(invN,1,1,1),sym_find (by decide +kernel),rfl,by decide,by decide⟩
theorem rokOne:OkR oneN 0:=⟨(oneN,0,0,1),sym_find (by decide +kernel),rfl,by decide,by decide⟩
theorem rokMul {n:Nat} (h2:2≤n) (h8:n≤8):OkR mulN n:=⟨(mulN,2,8,1),sym_find (by decide +kernel),rfl,by show (2:Int)≤(n:Int);omega,by show (n:Int)≤(8:Int);omega⟩
theorem rokExp:OkR expN 2:=⟨(expN,2,2,1),sym_find (by decide +kernel),rfl,by decide,by decide⟩
theorem rnodes_atm {w:World} {n:ByteArray} {s:Int} {v:Value}:Calls Tryz.prog 65 #[.agg #[.int .i64 2,.string n,.int .i64 s,v]] w fun e w'=>e=.returned (.int .i64 0)∧Ext w w':=by
 obtain ⟨bx,w1,hbx,hw1,HB,hE1⟩:=box_new w (.cells #[.int .i64 2,.string n,.int .i64 s,v] 33)
 obtain ⟨b0,b1,b2,b3⟩:=box4r HB.out
 have HE1:=Lib.hid hE1
 clear hE1
 go_enter Tryz.func65,Tryz.ntmps65
 go_upto_region 1 with fail
 rw [←hw1,←hbx]
 clear hw1 hbx
 go_wp2_with fail
 go_ret
 exact ⟨rfl,HE1.out⟩
theorem rnodes_node {w:World} {a:Option Addr} {cap l:Nat} {n:ByteArray} {ks:List Tm} (hS:OkR n l) (hl:ks.length=l) (h8:l≤8) (hT:TmW w Any a cap (appTm n ks))
 (hK:∀k∈ks,∀(w':World) (ka:Option Addr) (kc:Nat),TmW w' Any ka kc k→Calls Tryz.prog 65 #[.agg #[.int .i64 k.kind,.string k.name,.int .i64 k.sort,.slice ka k.kids.length kc]] w' fun e w''=>e=.returned (.int .i64 0)∧Ext w' w'') :
 Calls Tryz.prog 65 #[.agg #[.int .i64 3,.string n,.int .i64 0,.slice a l cap]] w fun e w'=>e=.returned (.int .i64 0)∧Ext w w':=by
 obtain ⟨x,hx,hx0,hx1,hx2⟩:=hS
 obtain ⟨bx,w1,hbx,hw1,HB,hE1⟩:=box_new w (.cells #[.int .i64 3,.string n,.int .i64 0,.slice a l cap] 33)
 obtain ⟨b0,b1,b2,b3⟩:=box4r HB.out
 have HE1:=Lib.hid hE1
 have HT:=Lib.hid (hT.ext hE1)
 have HKI:Hid (∀w':World,Calls Tryz.prog 66 #[.string n] w' fun e w''=>e=.returned (.int .i64 1)∧Ext w' w''):=Lib.hid (fun w'=>by have h:=rkind_any (w:=w') hx;rw [hx0] at h;exact h)
 have HFI:=Lib.hid (fun (w':World)=>rfitsT_any (w:=w') (a:=a) (cap:=cap) hx hx1 hx2 (by omega))
 have HKC:=Lib.hid hK
 have HLL:=Lib.hid hl
 have hcm:=hT.cap
 have hcl2:l≤cap:=hl ▸ hT.len
 unfold maxLen at hcm
 clear hE1 hT hK hl hx hx0 hx1 hx2
 go_enter Tryz.func65,Tryz.ntmps65
 go_upto_region 1 with fail
 rw [←hw1,←hbx]
 clear hw1 hbx
 go_wp2_with fail
 refine (HKI.out _).mono ?_
 rintro e w2 ⟨rfl,hE2⟩
 obtain ⟨b0,b1,b2,b3⟩:=cs_e4 hE2 ⟨b0,b1,b2,b3⟩
 have HE2:=Lib.hid (HE1.out.trans hE2)
 have HT2:=Lib.hid (HT.out.ext hE2)
 have HB2:=Lib.hid (hs_ext hE2 HB.out)
 clear hE2
 go_wp2_with fail
 refine (HFI.out _).mono ?_
 rintro e w3 ⟨rfl,hE3⟩
 obtain ⟨b0,b1,b2,b3⟩:=cs_e4 hE3 ⟨b0,b1,b2,b3⟩
 have HE3:=Lib.hid (HE2.out.trans hE3)
 have HT3:=Lib.hid (HT2.out.ext hE3)
 have HB3:=Lib.hid (hs_ext hE3 HB2.out)
 clear hE3
 go_wp2_with fail
 clear b0 b1 b2 b3
 go_loopw [4,5] (fun kv _ wr=>∃k:Nat,kv=.int .i64 k∧k≤l∧Hid (Ext w3 wr)) (fun kv _ _=>l-(intOf kv).toNat)
 case atStart=>exact ⟨0,rfl,by omega,Lib.hid (Ext.refl _)⟩
 case round =>
  obtain ⟨k,rfl,hk,HE⟩:=hrel
  obtain ⟨b0,b1,b2,b3⟩:=box4r (hs_ext HE.out HB3.out)
  by_cases hlt:k<l
  · obtain ⟨y,hy⟩:∃y,ks[k]?=some y:=⟨_,List.getElem?_eq_getElem (by rw [HLL.out];exact hlt)⟩
    obtain ⟨kb,ko,ka,kc,rfl,z0,z1,z2,z3,hTy⟩:=(HT3.out.ext HE.out).ts.at (i:=k) (t:=y) hy
    have hki:(k:Int)<(l:Int):=by omega
    have hk0:(0:Int)≤(k:Int):=by omega
    have wk:IntKind.i64.wrap ((k:Int)+1)=((k+1:Nat):Int):=by rw [IntKind.wrap_i64];omega
    have HC:=Lib.hid (HKC.out y (List.mem_of_getElem? hy) wr ka kc hTy)
    clear hy hTy
    go_wp2_with fail
    refine HC.out.mono ?_
    rintro e w5 ⟨rfl,hE5⟩
    have HE5:=Lib.hid (HE.out.trans hE5)
    clear hE5
    go_wp2_with fail
    go_roundw
    case rel=>exact ⟨k+1,rfl,by omega,HE5⟩
    case measure=>simp [intOf];omega
  · have hki:¬(k:Int)<(l:Int):=by omega
    go_wp2_with fail
    go_ret
    exact ⟨rfl,HE3.out.trans HE.out⟩

theorem rnodes_lit {w:World} {a:Option Addr} {cap:Nat} {l:Lit} (hT:TmW w Any a cap (litT l)):Calls Tryz.prog 65 #[.agg #[.int .i64 (litT l).kind,.string (litT l).name,.int .i64 (litT l).sort,.slice a (litT l).kids.length cap]] w fun e w'=>e=.returned (.int .i64 0)∧Ext w w':=by
 obtain ⟨i,b⟩:=l
 cases b with
 | false=>exact rnodes_atm
 | true =>
   refine rnodes_node (ks:=[atmT i]) (l:=1) rokInv rfl (by omega) hT ?_
   intro k hk w' ka kc hTk
   rw [List.mem_singleton.1 hk]
   exact rnodes_atm
theorem rnodes_exp {w:World} {a:Option Addr} {cap:Nat} {ls:List Lit} (h8:ls.length≤8) (hT:TmW w Any a cap (expT ls)):Calls Tryz.prog 65 #[.agg #[.int .i64 (expT ls).kind,.string (expT ls).name,.int .i64 (expT ls).sort,.slice a (expT ls).kids.length cap]] w fun e w'=>e=.returned (.int .i64 0)∧Ext w w':=by
 match ls,h8,hT with
 | [],_,hT=>exact rnodes_node (ks:=[]) (l:=0) rokOne rfl (by omega) hT (fun k hk=>by simp at hk)
 | [l],_,hT=>exact rnodes_lit hT
 | l :: l' :: ls,h8,hT =>
   have hk:(appTm mulN ((l :: l' :: ls).map litT)).kids.length=(l :: l' :: ls).length:=by show ((l :: l' :: ls).map litT).length=_;rw [List.length_map]
   have h:=rnodes_node (w:=w) (a:=a) (cap:=cap) (n:=mulN) (ks:=(l :: l' :: ls).map litT) (l:=(l :: l' :: ls).length) (rokMul (by simp only [List.length_cons];omega) h8) (by rw [List.length_map]) h8 hT (fun k hk w' ka kc hTk=>by
    obtain ⟨y,-,rfl⟩:=List.mem_map.1 hk
    exact rnodes_lit hTk)
   show Calls Tryz.prog 65 #[.agg #[.int .i64 3,.string mulN,.int .i64 0,.slice a (appTm mulN ((l :: l' :: ls).map litT)).kids.length cap]] w _
   rw [hk]
   exact h
theorem rnodes_tow:∀{Ps:List (List Pw)},(∀P∈Ps,(litsP P).length≤8)→∀{w:World} {a:Option Addr} {cap:Nat},TmW w Any a cap (towT Ps)→Calls Tryz.prog 65 #[.agg #[.int .i64 (towT Ps).kind,.string (towT Ps).name,.int .i64 (towT Ps).sort,.slice a (towT Ps).kids.length cap]] w fun e w'=>e=.returned (.int .i64 0)∧Ext w w':=by
 intro Ps
 induction Ps with
 | nil=>intro _ w a cap _;exact rnodes_atm
 | cons P Ps ih =>
   intro h8 w a cap hT
   refine rnodes_node (ks:=[towT Ps,expT (litsP P)]) (l:=2) rokExp rfl (by omega) hT ?_
   intro k hk w' ka kc hTk
   rcases List.mem_cons.1 hk with rfl | hk
   · exact ih (fun Q hQ=>h8 Q (List.mem_cons_of_mem _ hQ)) hTk
   · rw [List.mem_singleton.1 hk] at hTk ⊢
     exact rnodes_exp (h8 P (List.mem_cons_self ..)) hTk
theorem RValidG_any {w:World} {a:Option Addr} {cap:Nat} {t:Tm} (hn:sizeT t≤1000000) (hv:validT t=0) (hT:TmW w Any a cap t)
 (hC:∀w':World,Ext w w'→Calls Tryz.prog 65 #[.agg #[.int .i64 t.kind,.string t.name,.int .i64 t.sort,.slice a t.kids.length cap]] w' fun e w''=>e=.returned (.int .i64 0)∧Ext w' w'') :
 Calls Tryz.prog 30 #[.agg #[.int .i64 t.kind,.string t.name,.int .i64 t.sort,.slice a t.kids.length cap]] w fun e w'=>e=.returned (.int .i64 0)∧Ext w w':=by
 obtain ⟨bx,w1,hbx,hw1,HB,hE1⟩:=box_new w (.cells #[.int .i64 t.kind,.string t.name,.int .i64 t.sort,.slice a t.kids.length cap] 33)
 obtain ⟨b0,b1,b2,b3⟩:=box4r HB.out
 have HE1:=Lib.hid hE1
 have HT:=Lib.hid (hT.ext hE1)
 have HV:=Lib.hid (RValid_any hn HT.out)
 rw [hv] at HV
 have HC:=Lib.hid hC
 clear hE1 hT hC hv hn
 go_enter Tryz.func30,Tryz.ntmps30
 go_upto_region 1 with fail
 rw [←hw1,←hbx]
 clear hw1 hbx
 go_wp2_with fail
 refine HV.out.mono ?_
 rintro e w2 ⟨rfl,hE2⟩
 obtain ⟨b0,b1,b2,b3⟩:=cs_e4 hE2 ⟨b0,b1,b2,b3⟩
 have HE1:=Lib.hid (HE1.out.trans hE2)
 have HT:=Lib.hid (HT.out.ext hE2)
 have HC2:=Lib.hid (HC.out _ HE1.out)
 clear hE2
 go_wp2_with fail
 refine HC2.out.mono ?_
 rintro e w3 ⟨rfl,hE3⟩
 have HE3:=Lib.hid (HE1.out.trans hE3)
 clear hE3
 go_wp2_with fail
 go_ret
 exact ⟨rfl,HE3.out⟩
theorem rproduct_any {w:World} {v:Value} {t:Tm} {a:Option Addr} {cap:Nat} {P:List Pw} (gP:Good P) (rP:Rng 1000 P) (h:∀w',Ext w w'→Calls Tryz.prog 107 #[.agg #[.int .i64 t.kind,.string t.name,.int .i64 t.sort,.slice a t.kids.length cap]] w' fun e w''=>∃a c,e=.returned (.tuple #[.slice a P.length c,.int .i64 0])∧Ext w' w''∧LsG elPw w'' (fun _=>True) (.slice a P.length c) P) :
 Calls Tryz.prog 69 #[.agg #[.int .i64 t.kind,.string t.name,.int .i64 t.sort,.slice a t.kids.length cap]] w (NorE w ((litsP P).length≤8) (expT (litsP P))):=by
 obtain ⟨bx,w1,hbx,hw1,HB,hE1⟩:=box_new w (.cells #[.int .i64 t.kind,.string t.name,.int .i64 t.sort,.slice a t.kids.length cap] 33)
 obtain ⟨rb,w2,hrb,hw2,HR,hE2⟩:=box_new w1 (.cells #[.int .i64 0,.string ⟨#[]⟩,.int .i64 0,.slice none 0 0] 33)
 have hrb1:rb=bx+1:=by rw [hrb,hw1,World.size_alloc,hbx]
 have HB2:=Lib.hid (hs_ext hE2 HB.out)
 obtain ⟨b0,b1,b2,b3⟩:=box4r HB2.out
 have HE2:=Lib.hid (hE1.trans hE2)
 have HRS:Hid (w.heap.size≤rb):=Lib.hid (by rw [hrb1,hbx];omega)
 have HO:=Lib.hid (h _ HE2.out)
 have HGP:=Lib.hid (And.intro gP rP)
 obtain ⟨X,hX⟩:∃X,X=expT (litsP P):=⟨_,rfl⟩
 have HXX:=Lib.hid hX
 clear hE1 hE2 h gP rP hX
 go_enter Tryz.func69,Tryz.ntmps69
 go_upto_region 1 with fail
 rw [←hw1,←hbx,←hw2,←hrb1]
 clear hw1 hbx hw2 hrb1 hrb
 go_wp2_with fail
 refine HO.out.mono ?_
 rintro e w3 ⟨pa,pc,rfl,hE3,hL3⟩
 have HT3:=Lib.hid (RTermP_any hL3 HGP.out.1 HGP.out.2)
 have HR3:=Lib.hid (hs_ext hE3 HR.out)
 have HE3:=Lib.hid (HE2.out.trans hE3)
 clear hE3 hL3 b0 b1 b2 b3
 go_wp2_with fail
 refine HT3.out.mono ?_
 rintro e w9 (⟨hl8,v,rfl,hE9,na,nc,rfl,hN9⟩ | ⟨hl8,rfl,hE9⟩)
 · have hN9:TnW w9 (fun c=>w3.heap.size≤c) na nc X:=by rw [HXX.out];exact hN9
   rw [←HXX.out]
   have HRB9:=Lib.hid (hs_ext hE9 HR3.out)
   have HE9:=Lib.hid (HE3.out.trans hE9)
   have HN9:=Lib.hid hN9
   have HL9:=Lib.hid hl8
   have HW8:Hid (rb<w3.heap.size∧w.heap.size≤w3.heap.size):=Lib.hid ⟨(Array.getElem?_eq_some_iff.1 HR3.out).1,HE3.out.size⟩
   clear hE9 hN9 hl8
   go_wp2_with (refine wpList_storeT rfl (.tmp 2) (.tmp 17) rfl (g:=rb) rfl (k:=X.kind) (s:=X.sort) (n:=X.name) (ka:=na) (kl:=X.kids.length) (kc:=nc) rfl HRB9.out rfl ?_)
   intro wz hz hoth hEz hsz
   go_wp2_with fail
   exact ret_term2 (g:=rb) rfl rfl hz rfl (.inl ⟨HL9.out,_,rfl,hEz w HE9.out HRS.out,by
    rw [←HXX.out]
    exact ⟨na,nc,rfl,HN9.out.keep (fun c hc _=>hoth c (by have:=HW8.out.1;omega)) (fun c hc _=>by have:=HW8.out.2;omega)⟩⟩)
 · have HRB9:=Lib.hid (hs_ext hE9 HR3.out)
   have HE9:=Lib.hid (HE3.out.trans hE9)
   have HL9:=Lib.hid hl8
   clear hE9 hl8
   go_wp2_with (refine wpList_storeT rfl (.tmp 2) (.tmp 17) rfl (g:=rb) rfl (k:=0) (s:=0) (n:=⟨#[]⟩) (ka:=none) (kl:=0) (kc:=0) rfl HRB9.out rfl ?_)
   intro wz hz hoth hEz hsz
   go_wp2_with fail
   exact ret_term2 (g:=rb) rfl rfl hz rfl (.inr ⟨by have:=HL9.out;omega,rfl,hEz w HE9.out HRS.out⟩)
end Go.Proofs.YtclijngnoepbiaaGreat
