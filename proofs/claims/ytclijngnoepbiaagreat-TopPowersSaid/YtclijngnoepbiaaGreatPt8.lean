/- Contracts: exponent: valid, clone, copied, at products of atoms. Contracts: exponent: copied, result, Times, at products of atoms. Contracts: exponent.Times at products of atoms. -/
import Derived.Test.YtclijngnoepbiaaGreatPt3
set_option maxRecDepth 100000
set_option maxHeartbeats 8000000
namespace Go.Proofs.YtclijngnoepbiaaGreat
open Go Go.RowKit
set_option linter.unusedVariables false
set_option linter.unusedSimpArgs false

theorem PValidP_any {w:World} {S:Nat→Prop} {a:Option Addr} {cap:Nat} {L:List Pw} (hL:LsG elPw w S (.slice a L.length cap) L) (hG:Good L) (hR:Rng 1000 L) :
 Calls Tryz.prog 23 #[.slice a L.length cap] w fun e w'=>e=.returned (.int .i64 0)∧Ext w w':=by
 obtain ⟨-,hl,hc⟩:=hL.len
 unfold maxLen at hc
 have h6:=hG.len
 have HL:=Lib.hid hL
 have HG:=Lib.hid hG
 have HR:=Lib.hid hR
 have hl2:¬(200:Int)<(L.length:Int):=by omega
 clear hL hG hR
 go_enter Tryz.func23,Tryz.ntmps23
 go_upto_region 4 with fail
 go_loopw [3,4,5,11,22,26,40] (fun _ _ _ iv _ _ _ wr=>∃q:Nat,iv=.int .i64 q∧q≤L.length∧Hid (Ext w wr)) (fun _ _ _ iv _ _ _ _=>L.length-(intOf iv).toNat)
 case atStart=>exact ⟨0,rfl,by omega,Lib.hid (Ext.refl _)⟩
 case round =>
  obtain ⟨q,rfl,hq,HE⟩:=hrel
  by_cases hlt:q<L.length
  · have hqi:(q:Int)<(L.length:Int):=by omega
    have hq0:(0:Int)≤(q:Int):=by omega
    obtain ⟨x,hx⟩:∃x,L[q]?=some x:=⟨_,List.getElem?_eq_getElem hlt⟩
    have HX:=Lib.hid hx
    obtain ⟨b,off,rfl,hb,p0,p1,p2,p3,p4,hx6,hI⟩:=pwAt (HL.out.ext HE.out) hx
    have hxr:=HR.out x (List.mem_of_getElem? hx)
    have hxn:=HG.out.nz x (List.mem_of_getElem? hx)
    have n1:(x.2==(0:Int))=false:=beq_eq_false_iff_ne.2 hxn
    have n2:¬x.2 < -1000:=by omega
    have n3:¬(1000:Int)<x.2:=by omega
    have HV:=Lib.hid (fun (w':World)=>pvalid_atm (w:=w') hx6)
    have HS:=Lib.hid (fun (w':World)=>symbol_atm (w:=w') (i:=x.1))
    unfold atmV at HV HS
    obtain ⟨zb,w1,hzb,hw1,HZ,hE1⟩:=box_new wr (.cells #[.int .i64 2,.string (ltr x.1),.int .i64 2,.slice none 0 0,.int .i64 x.2] 66)
    have z0:w1.cell? ⟨zb,0,none⟩=some (.int .i64 2):=by rw [cellc HZ.out];rfl
    have z1:w1.cell? ⟨zb,1,none⟩=some (.string (ltr x.1)):=by rw [cellc HZ.out];rfl
    have z2:w1.cell? ⟨zb,2,none⟩=some (.int .i64 2):=by rw [cellc HZ.out];rfl
    have z3:w1.cell? ⟨zb,3,none⟩=some (.slice none 0 0):=by rw [cellc HZ.out];rfl
    have z4:w1.cell? ⟨zb,4,none⟩=some (.int .i64 x.2):=by rw [cellc HZ.out];rfl
    have HE1:=Lib.hid (HE.out.trans hE1)
    clear hx hxr hxn hE1
    go_upto_region 6 with fail
    rw [←hw1,←hzb]
    clear hw1 hzb p0 p1 p2 p3 p4
    go_wp2_with fail
    refine (HV.out w1).mono ?_
    rintro e w2 ⟨rfl,hE2⟩
    obtain ⟨z0,z1,z2,z3,z4⟩:=cs_e5 hE2 ⟨z0,z1,z2,z3,z4⟩
    have HE2:=Lib.hid (HE1.out.trans hE2)
    clear hE2
    go_wp2_with fail
    refine (HS.out w2).mono ?_
    rintro e w3 ⟨rfl,hE3⟩
    obtain ⟨z0,z1,z2,z3,z4⟩:=cs_e5 hE3 ⟨z0,z1,z2,z3,z4⟩
    have HE3:=Lib.hid (HE2.out.trans hE3)
    clear hE3
    go_upto_region 13 with fail
    cases q with
    | zero =>
      have g0:decide ((0:Int)<((0:Nat):Int))=false:=by decide
      refine wp_region_reg 15 false (by kernel_rfl) (by kernel_rfl) ?_
      refine reg_value (fun _=>rfl) ?_ (fun g w' vs hM hE hP=>?_) ?_
      rotate_left
      · (clear hP hM;go_simp;first | done | rfl)
      refine reg_value (fun _=>rfl) ?_ (fun g w' vs hM hE hP=>?_) ?_
      rotate_left
      · (clear hP hM;go_simp;first | done | rfl)
      refine reg_value (fun _=>rfl) ?_ (fun g w' vs hM hE hP=>?_) ?_
      rotate_left
      · (clear hP hM;go_simp;first | done | rfl)
      refine reg_skip (fun g=>by go_simp;first | done | (intro h;cases h) | simp [undef]) ?_
      refine reg_skip (fun g=>by go_simp;first | done | (intro h;cases h) | simp [undef]) ?_
      refine reg_skip (fun g=>by go_simp;first | done | (intro h;cases h) | simp [undef]) ?_
      refine reg_skip (fun g=>by go_simp;first | done | (intro h;cases h) | simp [undef]) ?_
      refine reg_skip (fun g=>by go_simp;first | done | (intro h;cases h) | simp [undef]) ?_
      refine reg_skip (fun g=>by go_simp;first | done | (intro h;cases h) | simp [undef]) ?_
      refine reg_skip (fun g=>by go_simp;first | done | (intro h;cases h) | simp [undef]) ?_
      refine reg_skip (fun g=>by go_simp;first | done | (intro h;cases h) | simp [undef]) ?_
      refine reg_skip (fun g=>by go_simp;first | done | (intro h;cases h) | simp [undef]) ?_
      refine reg_skip (fun g=>by go_simp;first | done | (intro h;cases h) | simp [undef]) ?_
      refine reg_value (fun _=>rfl) ?_ (fun g w' vs hM hE hP=>?_) ?_
      rotate_left
      · (clear hP hM;go_simp;first | done | rfl)
      refine reg_value (fun _=>rfl) ?_ (fun g w' vs hM hE hP=>?_) ?_
      rotate_left
      · (clear hP hM;go_simp;first | done | rfl)
      intro g wn hEn hFn hQn
      simp only [List.drop_succ_cons,List.drop_zero,Act.put,List.setIfInBounds_toArray,List.set_cons_succ,List.set_cons_zero]
      have HEn:=Lib.hid (HE3.out.trans hEn)
      clear hEn hFn hQn
      go_wp2_with fail
      go_roundw
      case rel=>exact ⟨0+1,by go_num,by omega,HEn⟩
      case measure=>simp [intOf];omega
    | succ q =>
      obtain ⟨y,hy⟩:∃y,L[q]?=some y:=⟨_,List.getElem?_eq_getElem (by omega)⟩
      have hyx:=HG.out.lt hy HX.out
      obtain ⟨b',off',e1,-,r0,r1,r2,r3,r4,hy6,-⟩:=pwAt (HL.out.ext HE3.out) hy
      cases e1
      have hwr:IntKind.i64.wrap (q:Int)=(q:Int):=by rw [IntKind.wrap_i64];omega
      have hqq0:(0:Int)≤(q:Int):=by omega
      have hqq1:(q:Int)<(L.length:Int):=by omega
      have g0:(0:Int)<((q+1:Nat):Int):=by omega
      have HCM:=Lib.hid (fun (w':World)=>pcmp_atm (w:=w') hy6 hx6)
      rw [if_pos hyx] at HCM
      unfold atmV at HCM
      clear hy hyx hqi hq0
      have HFCT:=Lib.hid (And.intro z0 (And.intro z1 (And.intro z2 (And.intro z3 (And.intro r0 (And.intro r1 (And.intro r2 r3)))))))
      refine wp_region_reg 15 false (by kernel_rfl) (by kernel_rfl) ?_
      refine reg_value (fun _=>rfl) ?_ (fun g w' vs hM hE hP=>?_) ?_
      rotate_left
      · (clear hP hM;go_simp;first | done | rfl)
      refine reg_value (fun _=>rfl) ?_ (fun g w' vs hM hE hP=>?_) ?_
      rotate_left
      · (clear hP hM;go_simp;first | done | rfl)
      refine reg_value (fun _=>rfl) ?_ (fun g w' vs hM hE hP=>?_) ?_
      rotate_left
      · (clear hP hM;go_simp;first | done | rfl)
      refine reg_value (fun g=>by go_simp) ?_ (fun g w' vs hM hE hP=>?_) ?_
      rotate_left
      · (clear hP hM;go_simp;first | done | rfl)
      refine reg_value (fun g=>by go_simp) ?_ (fun g w' vs hM hE hP=>?_) ?_
      rotate_left
      · (clear hP hM;go_simp;first | done | rfl)
      refine reg_value (fun g=>by go_simp) ?_ (fun g w' vs hM hE hP=>?_) ?_
      rotate_left
      · (clear hP hM;go_simp;first | done | rfl)
      refine reg_value (fun g=>by go_simp) ?_ (fun g w' vs hM hE hP=>?_) ?_
      rotate_left
      · (clear hP hM;go_simp;first | done | rfl)
      refine reg_value (fun g=>by go_simp) ?_ (fun g w' vs hM hE hP=>?_) ?_
      rotate_left
      · (clear hP hM;go_simp;first | done | rfl)
      refine reg_value (fun g=>by go_simp) ?_ (fun g w' vs hM hE hP=>?_) ?_
      rotate_left
      · (clear hP hM;have ⟨z0,z1,z2,z3,z4,z5,z6,z7⟩:=cs_e8 hE HFCT.out;go_simp;first | done | rfl)
      refine reg_value (fun g=>by go_simp) ?_ (fun g w' vs hM hE hP=>?_) ?_
      rotate_left
      · (clear hP hM;go_simp;first | done | rfl)
      refine reg_value (fun g=>by go_simp) ?_ (fun g w' vs hM hE hP=>?_) ?_
      rotate_left
      · (clear hP hM;have ⟨z0,z1,z2,z3,z4,z5,z6,z7⟩:=cs_e8 hE HFCT.out;go_simp;first | done | rfl)
      refine reg_const (fun g=>by go_simp) 42 ?_ (fun g w' vs hM hE hP=>?_) ?_
      rotate_left
      · (clear hP hM;have ⟨z0,z1,z2,z3,z4,z5,z6,z7⟩:=cs_e8 hE HFCT.out;go_simp;first | done | exact ⟨rfl,rfl⟩ | rfl)
      apply Exists.intro
      refine And.intro (fun g w' vs hM hE hP=>?_) ?_
      · exact HCM.out w'
      refine reg_value (fun g=>by go_simp) ?_ (fun g w' vs hM hE hP=>?_) ?_
      rotate_left
      · (clear hP hM;go_simp;first | done | rfl)
      refine reg_value (fun _=>rfl) ?_ (fun g w' vs hM hE hP=>?_) ?_
      rotate_left
      · (clear hP hM;go_simp;first | done | rfl)
      refine reg_value (fun _=>rfl) ?_ (fun g w' vs hM hE hP=>?_) ?_
      rotate_left
      · (clear hP hM;go_simp;first | done | rfl)
      intro g wn hEn hFn hQn
      simp only [List.drop_succ_cons,List.drop_zero,Act.put,List.setIfInBounds_toArray,List.set_cons_succ,List.set_cons_zero]
      have HEn:=Lib.hid (HE3.out.trans hEn)
      clear hEn hFn hQn
      go_wp2_with fail
      go_roundw
      case rel=>exact ⟨q+1+1,by go_num,by omega,HEn⟩
      case measure=>simp [intOf];omega
  · have hqi:¬(q:Int)<(L.length:Int):=by omega
    go_wp2_with fail
    go_ret
    exact ⟨rfl,HE.out⟩
theorem set4P {w:World} {g T:Nat} {a b c d:Value} (a' b' c' d':Value) (h:w.heap[g]?=some (.cells #[a,b,c,d] T)) :
 ((((w.setCell ⟨g,0,none⟩ a').setCell ⟨g,1,none⟩ b').setCell ⟨g,2,none⟩ c').setCell ⟨g,3,none⟩ d').heap[g]?=some (.cells #[a',b',c',d'] T):=by
 have h1:=heap_setCell_same w g 0 _ _ a' h
 have h2:=heap_setCell_same _ g 1 _ _ b' h1
 have h3:=heap_setCell_same _ g 2 _ _ c' h2
 have h4:=heap_setCell_same _ g 3 _ _ d' h3
 exact h4
theorem tclone_nil {w:World}:Calls Tryz.prog 60 #[.slice none 0 0] w fun e w'=>e=.returned (.slice none 0 0)∧Ext w w':=by
 have q45:(binOp .eql 31 (.slice none 0 0) (.slice none 0 0)).run Tryz.prog w=.ok (.bool true) w:=Lib.run_eql_slice_nil w _ _ none 0 0 0 0 Tryz.underlying31
 go_enter Tryz.func60,Tryz.ntmps60
 go_wp2_with fail
 go_ret
 exact ⟨rfl,(by repeat (first | exact Ext.refl _ | exact Ext.alloc _ _ | apply Ext.then_dr | apply Ext.then_drN | apply Ext.then_drN2 | (refine Ext.then_al ?_ _)))⟩
theorem xclone_atm {w:World} {i:Nat}:Calls Tryz.prog 24 #[atmV i] w fun e w'=>e=.returned (atmV i)∧Ext w w':=by
 unfold atmV
 obtain ⟨bx,w1,hbx,hw1,HX,hE1⟩:=box_new w (.cells #[.int .i64 2,.string (ltr i),.int .i64 2,.slice none 0 0] 33)
 obtain ⟨rx,w2,hrx,hw2,HR,hE2⟩:=box_new w1 (.cells #[.int .i64 0,.string ⟨#[]⟩,.int .i64 0,.slice none 0 0] 33)
 have hrx1:rx=bx+1:=by rw [hrx,hw1,World.size_alloc,hbx]
 have hX2:=hs_ext hE2 HX.out
 have HCL:=Lib.hid (fun (w':World)=>tclone_nil (w:=w'))
 have HE2:=Lib.hid (hE1.trans hE2)
 have HS:Hid (w.heap.size=bx∧rx=bx+1):=Lib.hid ⟨by first | exact hbx | exact hbx.symm,hrx1⟩
 have c3:w2.cell? ⟨bx,3,none⟩=some (.slice none 0 0):=by rw [cellc hX2];rfl
 have HX2:=Lib.hid hX2
 clear hE1 hE2 hX2
 go_enter Tryz.func24,Tryz.ntmps24
 go_upto_region 1 with fail
 rw [←hw1,←hbx,←hw2,←hrx1]
 clear hw1 hbx hw2 hrx hrx1
 go_wp2_with fail
 refine (HCL.out _).mono ?_
 rintro e w3 ⟨rfl,hE3⟩
 have hX3:=hs_ext hE3 HX2.out
 have HR3:=Lib.hid (hs_ext hE3 HR.out)
 have d3:w3.cell? ⟨bx,3,none⟩=some (.slice none 0 0):=by rw [cellc hX3];rfl
 have f3:w3.frozen? ⟨bx,3,none⟩=false:=frozenc hX3
 have HE3:=Lib.hid (HE2.out.trans hE3)
 have HX3:=Lib.hid hX3
 clear hX3 hE3 c3
 go_upto_region 2 with fail
 obtain ⟨w4,hw4⟩:∃w4,w4=w3.setCell ⟨bx,3,none⟩ (.slice none 0 0):=⟨_,rfl⟩
 have hX4:w4.heap[bx]?=some (.cells #[.int .i64 2,.string (ltr i),.int .i64 2,.slice none 0 0] 33):=by rw [hw4,heap_setCell_same _ _ _ _ _ _ HX3.out];rfl
 have hR4:w4.heap[rx]?=some (.cells #[.int .i64 0,.string ⟨#[]⟩,.int .i64 0,.slice none 0 0] 33):=by rw [hw4];exact (heap_setCell_other _ _ _ _ (by have:=HS.out;show rx≠bx;omega)).trans HR3.out
 have HE4:Hid (Ext w w4):=Lib.hid (by rw [hw4];exact HE3.out.setCell (by have:=HS.out;omega) _)
 rw [←hw4]
 clear hw4 d3 f3
 have x0:w4.cell? ⟨bx,0,none⟩=some (.int .i64 2):=by rw [cellc hX4];rfl
 have x1:w4.cell? ⟨bx,1,none⟩=some (.string (ltr i)):=by rw [cellc hX4];rfl
 have x2:w4.cell? ⟨bx,2,none⟩=some (.int .i64 2):=by rw [cellc hX4];rfl
 have x3:w4.cell? ⟨bx,3,none⟩=some (.slice none 0 0):=by rw [cellc hX4];rfl
 obtain ⟨y0,y1,y2,y3⟩:=box4r hR4
 have f0:w4.frozen? ⟨rx,0,none⟩=false:=frozenc hR4
 have f1:w4.frozen? ⟨rx,1,none⟩=false:=frozenc hR4
 have f2:w4.frozen? ⟨rx,2,none⟩=false:=frozenc hR4
 have f3:w4.frozen? ⟨rx,3,none⟩=false:=frozenc hR4
 have HR4:=Lib.hid hR4
 clear hX4 hR4
 go_upto_region 3 with fail
 go_loopw [3,4,12] (fun _ _ iv wr=>iv=.int .i64 0∧wr=w4) (fun _ _ _ _=>1)
 case atStart=>exact ⟨rfl,rfl⟩
 case round =>
  obtain ⟨rfl,rfl⟩:=hrel
  go_wp2_with fail
  refine ret_term (g:=rx) rfl rfl (set4P _ _ _ _ HR4.out) rfl ?_
  have hs:=HS.out
  exact ⟨rfl,(((HE4.out.setCell (by omega) _).setCell (by omega) _).setCell (by omega) _).setCell (by omega) _⟩

theorem copied_any {w:World} {S:Nat→Prop} {a:Option Addr} {cap:Nat} {L:List Pw} (hL:LsG elPw w S (.slice a L.length cap) L) (hl6:L.length≤100) :
 Calls Tryz.prog 28 #[.slice a L.length cap] w fun e w'=>∃v,e=.returned v∧Ext w w'∧OwnG elPw w' w.heap.size 66 (fun _=>False) v L:=by
 obtain ⟨-,hl,hc⟩:=hL.len
 unfold maxLen at hc
 have HL:=Lib.hid hL
 clear hL
 go_enter Tryz.func28,Tryz.ntmps28
 go_upto_region 3 with fail
 go_loopw [3,5,8] (fun ov _ iv wr=>∃q:Nat,iv=.int .i64 q∧q≤L.length∧Hid (Ext w wr)∧Hid (OwnG elPw wr w.heap.size 66 (fun _=>False) ov (L.take q))) (fun _ _ iv _=>L.length-(intOf iv).toNat)
 case atStart=>exact ⟨0,rfl,by omega,Lib.hid (Ext.refl _),Lib.hid OwnG.nil⟩
 case round =>
  obtain ⟨q,rfl,hq,HE,HO⟩:=hrel
  obtain ⟨A,hA⟩:∃A,A=L.take q:=⟨_,rfl⟩
  have hAl:A.length≤100:=by rw [hA,List.length_take];omega
  rw [←hA] at HO
  have HA:=Lib.hid hA
  have HAL:=Lib.hid hAl
  obtain ⟨va,vc,rfl,-,-⟩:=HO.out.slice
  clear hA
  by_cases hlt:q<L.length
  · have hqi:(q:Int)<(L.length:Int):=by omega
    have hq0:(0:Int)≤(q:Int):=by omega
    obtain ⟨x,hx⟩:∃x,L[q]?=some x:=⟨_,List.getElem?_eq_getElem hlt⟩
    obtain ⟨b,off,rfl,hb,p0,p1,p2,p3,p4,hx6,hI⟩:=pwAt (HL.out.ext HE.out) hx
    have HN:Hid (L.take (q+1)=A++[(x.1,x.2)]):=Lib.hid (by rw [getT hx,HA.out])
    have HXF:Hid (x.1<6∧I64 x.2):=Lib.hid ⟨hx6,hI⟩
    obtain ⟨zb,w1,hzb,hw1,HZ,hE1⟩:=box_new wr (.cells #[.int .i64 2,.string (ltr x.1),.int .i64 2,.slice none 0 0,.int .i64 x.2] 66)
    have hEd:Ext w1 w1.drew:=Ext.drew w1
    have hZ:=hs_ext hEd HZ.out
    have z0:w1.drew.cell? ⟨zb,0,none⟩=some (.int .i64 2):=by rw [cellc hZ];rfl
    have z1:w1.drew.cell? ⟨zb,1,none⟩=some (.string (ltr x.1)):=by rw [cellc hZ];rfl
    have z2:w1.drew.cell? ⟨zb,2,none⟩=some (.int .i64 2):=by rw [cellc hZ];rfl
    have z3:w1.drew.cell? ⟨zb,3,none⟩=some (.slice none 0 0):=by rw [cellc hZ];rfl
    have z4:w1.drew.cell? ⟨zb,4,none⟩=some (.int .i64 x.2):=by rw [cellc hZ];rfl
    have HED:=Lib.hid (HE.out.trans (hE1.trans hEd))
    have HOD:=Lib.hid (HO.out.ext (hE1.trans hEd))
    have HCL:=Lib.hid (fun (w':World)=>xclone_atm (w:=w') (i:=x.1))
    unfold atmV at HCL
    clear hx hE1 hEd hZ
    go_upto_region 5 with fail
    rw [←hw1,←hzb]
    clear hw1 hzb p0 p1 p2 p3 p4
    go_region_law (first
     | (go_simp
        go_at_call 24
        refine (HCL.out _).mono ?_
        rintro e wa ⟨rfl,hEa⟩
        have HEA:Hid (Ext w1.drew wa):=Lib.hid (Ext.trans (by repeat (first | exact Ext.refl _ | exact Ext.alloc _ _ | apply Ext.then_dr | apply Ext.then_drN | apply Ext.then_drN2 | (refine Ext.then_al ?_ _))) hEa)
        have z4a:=cs_ext HEA.out z4
        clear hEa)
     | (refine step_appG (E:=elPw) (T:=66) rfl 28 (.tmp 12) (.tmp 19) rfl rfl rfl Tryz.underlying28 infPw rfl (by decide) (by decide) ((HOD.out.ext HEA.out).ext (by repeat (first | exact Ext.refl _ | exact Ext.alloc _ _ | apply Ext.then_dr | apply Ext.then_drN | apply Ext.then_drN2 | (refine Ext.then_al ?_ _)))) (Nat.le_trans (HED.out.trans HEA.out).size (Ext.size (by repeat (first | exact Ext.refl _ | exact Ext.alloc _ _ | apply Ext.then_dr | apply Ext.then_drN | apply Ext.then_drN2 | (refine Ext.then_al ?_ _))))) (fun c h=>absurd h id) (by have:=HAL.out;omega) (M:=[(x.1,x.2)]) (by simp) (pw_e hs_new HXF.out.1 HXF.out.2) ?_;intro v' w' h2 h3 h4;have HE3:=Lib.hid (((HED.out.trans HEA.out).trans (by repeat (first | exact Ext.refl _ | exact Ext.alloc _ _ | apply Ext.then_dr | apply Ext.then_drN | apply Ext.then_drN2 | (refine Ext.then_al ?_ _)))).grown h3 (fun k hk=>(HO.out.lt k hk).1));have HO2:=Lib.hid h2;clear h2 h3 h4))
    all_goals
     try simp only [Act.put,List.getElem_cons_succ,List.getElem_cons_zero]
     go_wp2_with fail
     first
     | (refine ⟨⟨q+1,by go_num,by omega,HE3,by rw [HN.out];exact HO2⟩,?_⟩
        simp [intOf];omega)
     | (go_roundw
        case rel=>exact ⟨q+1,by go_num,by omega,HE3,by rw [HN.out];exact HO2⟩
        case measure=>simp [intOf];omega)
  · have hqi:¬(q:Int)<(L.length:Int):=by omega
    have HF:Hid (A=L):=Lib.hid (by rw [HA.out];exact List.take_of_length_le (by omega))
    go_wp2_with fail
    go_ret
    exact ⟨_,rfl,HE.out,by rw [←HF.out];exact HO.out⟩
/-- outside of the powers -/
def outB (x:Pw):Bool:=decide (x.2 < -1000) || decide (1000<x.2)
theorem result1_any {w:World} {x:Pw} (hI:I64 x.2):Calls Tryz.prog 64 #[.agg #[.int .i64 2,.string (ltr x.1),.int .i64 2,.slice none 0 0,.int .i64 x.2]] w fun e w'=>e=.returned (.bool (outB x))∧Ext w w':=by
 obtain ⟨bx,w1,hbx,hw1,HX,hE1⟩:=box_new w (.cells #[.int .i64 2,.string (ltr x.1),.int .i64 2,.slice none 0 0,.int .i64 x.2] 66)
 have z4:w1.cell? ⟨bx,4,none⟩=some (.int .i64 x.2):=by rw [cellc HX.out];rfl
 obtain ⟨z,hz⟩:∃z,z=outB x:=⟨_,rfl⟩
 rw [←hz]
 have HZ:=Lib.hid hz
 have HE1:=Lib.hid hE1
 clear hz hE1
 go_enter Tryz.func64,Tryz.ntmps64
 go_upto_region 1 with fail
 rw [←hw1,←hbx]
 clear hw1 hbx
 by_cases h1:x.2 < -1000
 · have HZ1:Hid (z=true):=Lib.hid (by rw [HZ.out];unfold outB;simp [h1])
   go_wp2_with fail
   go_ret
   exact ⟨by rw [HZ1.out];rfl,HE1.out⟩
 · by_cases h2:1000<x.2
   · have HZ1:Hid (z=true):=Lib.hid (by rw [HZ.out];unfold outB;simp [h2])
     go_wp2_with fail
     go_ret
     exact ⟨by rw [HZ1.out];rfl,HE1.out⟩
   · have HZ1:Hid (z=false):=Lib.hid (by rw [HZ.out];unfold outB;simp;omega)
     go_wp2_with fail
     go_ret
     exact ⟨by rw [HZ1.out];rfl,HE1.out⟩
theorem indexPw_any {w:World} {S:Nat→Prop} {a:Option Addr} {n cap:Nat} {L:List Pw} (hL:LsG elPw w S (.slice a n cap) L) :
 Calls Tryz.prog 97 #[.slice a n cap,.func (.func 64) #[] #[]] w fun e w'=>∃k:Int,e=.returned (.int .i64 k)∧Ext w w'∧(decide (0≤k))=L.any outB∧-1≤k∧k≤L.length:=by
 obtain ⟨rfl,hl,hc⟩:=hL.len
 unfold maxLen at hc
 have HL:=Lib.hid hL
 clear hL
 go_enter Tryz.func97,Tryz.ntmps97
 go_wp2_with fail
 go_loopw [5,8] (fun x5 kv wr=>∃k:Nat,kv=.int .i64 k∧k≤L.length∧Hid ((L.take k).any outB=false)∧Hid (Ext w wr)) (fun x5 kv _=>L.length-(intOf kv).toNat)
 case atStart=>exact ⟨0,rfl,by omega,Lib.hid (by simp),Lib.hid (Ext.refl _)⟩
 case round =>
  obtain ⟨k,rfl,hk,HR,HE⟩:=hrel
  by_cases hlt:k<L.length
  · obtain ⟨x,hx⟩:∃x,L[k]?=some x:=⟨_,List.getElem?_eq_getElem hlt⟩
    obtain ⟨xb,xo,rfl,-,x0,x1,x2,x3,x4,-,hI⟩:=pwAt (HL.out.ext HE.out) hx
    obtain ⟨z,hz⟩:∃z,z=outB x:=⟨_,rfl⟩
    have HC:Hid (∀w',Calls Tryz.prog 64 #[.agg #[.int .i64 2,.string (ltr x.1),.int .i64 2,.slice none 0 0,.int .i64 x.2]] w' fun e w''=>e=.returned (.bool z)∧Ext w' w''):=Lib.hid (fun w'=>by rw [hz];exact result1_any hI)
    have HT:Hid ((L.take (k+1)).any outB=z):=Lib.hid (by rw [List.take_add_one,hx,List.any_append,HR.out,hz];simp)
    have HA:Hid (z=true→L.any outB=true):=Lib.hid (fun h=>List.any_eq_true.2 ⟨x,List.mem_of_getElem? hx,by rw [←h,hz]⟩)
    clear hz hx
    go_wp2_with fail
    refine (HC.out _).mono ?_
    rintro e w5 ⟨rfl,hE5⟩
    have HE5:=Lib.hid (HE.out.trans hE5)
    clear hE5 x0 x1 x2 x3 x4
    cases z with
    | true =>
      go_wp2_with fail
      go_ret
      exact ⟨k,rfl,HE5.out,by rw [HA.out (by first | rfl | trivial)];exact decide_eq_true (by omega),by omega,by omega⟩
    | false =>
      go_wp2_with fail
      go_roundw
      case rel=>exact ⟨k+1,by go_num,by omega,HT,HE5⟩
      case measure=>simp [intOf];omega
  · have HF:Hid (L.any outB=false):=Lib.hid (by have:=HR.out;rwa [List.take_of_length_le (by omega)] at this)
    go_wp2_with fail
    go_ret
    exact ⟨-1,rfl,HE.out,by rw [HF.out];rfl,by omega,by omega⟩
theorem containsPw_any {w:World} {S:Nat→Prop} {a:Option Addr} {n cap:Nat} {L:List Pw} (hL:LsG elPw w S (.slice a n cap) L) :
 Calls Tryz.prog 63 #[.slice a n cap,.func (.func 64) #[] #[]] w fun e w'=>e=.returned (.bool (L.any outB))∧Ext w w':=by
 have HI:=Lib.hid (indexPw_any hL)
 obtain ⟨z,hz⟩:∃z,z=L.any outB:=⟨_,rfl⟩
 rw [←hz] at HI ⊢
 clear hz hL
 go_enter Tryz.func63,Tryz.ntmps63
 go_wp2_with fail
 refine HI.out.mono ?_
 rintro e w1 ⟨k,rfl,hE1,hd,-,-⟩
 have HD:=Lib.hid hd
 clear hd
 go_wp2_with fail
 go_ret
 exact ⟨by rw [←HD.out];rfl,hE1⟩
theorem any_out {L:List Pw}:L.any outB=false↔Rng 1000 L:=by
 rw [List.any_eq_false]
 unfold Rng outB
 constructor
 · intro h p hp;have:=h p hp;simp at this;omega
 · intro h p hp;have:=h p hp;simp;omega
theorem presult_any {w:World} {S:Nat→Prop} {a:Option Addr} {cap:Nat} {L:List Pw} (hL:LsG elPw w S (.slice a L.length cap) L) (hl6:L.length≤100) :
 Calls Tryz.prog 29 #[.slice a L.length cap] w (PwR w L):=by
 have HC:=Lib.hid (containsPw_any hL)
 obtain ⟨z,hz⟩:∃z,z=L.any outB:=⟨_,rfl⟩
 rw [←hz] at HC
 have HZ:=Lib.hid hz
 have HL:=Lib.hid hL
 have hl2:¬(200:Int)<(L.length:Int):=by omega
 clear hz hL
 go_enter Tryz.func29,Tryz.ntmps29
 go_wp2_with fail
 refine HC.out.mono ?_
 rintro e w1 ⟨rfl,hE1⟩
 have HE1:=Lib.hid hE1
 clear hE1
 cases z with
 | true =>
   have HN:Hid (¬Rng 1000 L):=Lib.hid (fun h=>by have:=any_out.2 h;rw [←HZ.out] at this;cases this)
   clear HZ
   go_wp2_with fail
   go_ret2
   exact ⟨HE1.out,.inr ⟨HN.out,rfl⟩⟩
 | false =>
   have HN:Hid (Rng 1000 L):=Lib.hid (any_out.1 HZ.out.symm)
   clear HZ
   go_wp2_with fail
   go_ret2
   exact ⟨HE1.out,.inl ⟨HN.out,_,_,rfl,((HL.out.ext HE1.out).wide (fun _ _ _=>trivial))⟩⟩

/-- the power of an element of a row is stored -/
theorem pw_setN {w:World} {S:Nat→Prop} {T g n cap k:Nat} {cur:Array Value} {x:Pw} {m:Int} {L:List Pw} (h:LsG elPw w S (.slice (some ⟨g,0,none⟩) n cap) L) (hc:w.heap[g]?=some (.cells cur T)) (hk:L[k]?=some x) (hm:I64 m) :
 LsG elPw (w.setCell ⟨g,k*5+4,none⟩ (.int .i64 m)) S (.slice (some ⟨g,0,none⟩) n cap) (L.set k (x.1,m)):=by
 obtain ⟨rfl,hl,hcc⟩:=h.len
 have hg:=heap_setCell_same w g (k*5+4) _ _ (.int .i64 m) hc
 have hklt:=(List.getElem?_eq_some_iff.1 hk).1
 have hgl:g<(w.setCell ⟨g,k*5+4,none⟩ (.int .i64 m)).heap.size:=lt_of_get' hg
 have hsz:∀i,i<L.length→i*5+4<cur.size:=by
  intro i hi
  obtain ⟨b,off,e,-,-,-,-,-,h4,-,-⟩:=pwAt h (List.getElem?_eq_getElem hi)
  cases e
  rw [cellc hc,Nat.zero_add] at h4
  exact (Array.getElem?_eq_some_iff.1 h4).1
 refine ⟨_,_,by rw [List.length_set],by rw [List.length_set];exact hl,hcc,fun i y hi=>?_⟩
 rw [List.getElem?_set] at hi
 obtain ⟨b0,off0,cs0,e0,hSg,-,-,-⟩:=h.at hk
 cases e0
 by_cases hik:k=i
 · subst hik
   rw [if_pos rfl,if_pos hklt] at hi
   cases hi
   obtain ⟨b,off,e,-,h0,h1,h2,h3,h4,h6,-⟩:=pwAt h hk
   cases e
   rw [cellc hc,Nat.zero_add] at h0 h1 h2 h3 h4
   have hks:=hsz k hklt
   refine ⟨g,0,pwC (x.1,m),rfl,hSg,hgl,⟨rfl,h6,hm⟩,fun j u hu=>?_⟩
   have e5:elPw.n=5:=rfl
   rw [e5]
   match j,hu with
   | 0,hu=>simp [pwC] at hu;subst hu;show (w.setCell _ _).cell? ⟨g,0+k*5+0,none⟩=_;rw [cellc hg,Array.getElem?_setIfInBounds,if_neg (by omega),Nat.zero_add,Nat.add_zero];exact h0
   | 1,hu=>simp [pwC] at hu;subst hu;show (w.setCell _ _).cell? ⟨g,0+k*5+1,none⟩=_;rw [cellc hg,Array.getElem?_setIfInBounds,if_neg (by omega),Nat.zero_add];exact h1
   | 2,hu=>simp [pwC] at hu;subst hu;show (w.setCell _ _).cell? ⟨g,0+k*5+2,none⟩=_;rw [cellc hg,Array.getElem?_setIfInBounds,if_neg (by omega),Nat.zero_add];exact h2
   | 3,hu=>simp [pwC] at hu;subst hu;show (w.setCell _ _).cell? ⟨g,0+k*5+3,none⟩=_;rw [cellc hg,Array.getElem?_setIfInBounds,if_neg (by omega),Nat.zero_add];exact h3
   | 4,hu=>simp [pwC] at hu;subst hu;show (w.setCell _ _).cell? ⟨g,0+k*5+4,none⟩=_;rw [cellc hg,Array.getElem?_setIfInBounds,if_pos (by omega),if_pos hks]
   | j+5,hu=>simp [pwC] at hu
 · rw [if_neg hik] at hi
   obtain ⟨b,off,e,-,h0,h1,h2,h3,h4,h6,hI⟩:=pwAt h hi
   cases e
   rw [cellc hc,Nat.zero_add] at h0 h1 h2 h3 h4
   refine ⟨g,0,pwC y,rfl,hSg,hgl,⟨rfl,h6,hI⟩,fun j u hu=>?_⟩
   have e5:elPw.n=5:=rfl
   rw [e5]
   match j,hu with
   | 0,hu=>simp [pwC] at hu;subst hu;show (w.setCell _ _).cell? ⟨g,0+i*5+0,none⟩=_;rw [cellc hg,Array.getElem?_setIfInBounds,if_neg (by omega),Nat.zero_add,Nat.add_zero];exact h0
   | 1,hu=>simp [pwC] at hu;subst hu;show (w.setCell _ _).cell? ⟨g,0+i*5+1,none⟩=_;rw [cellc hg,Array.getElem?_setIfInBounds,if_neg (by omega),Nat.zero_add];exact h1
   | 2,hu=>simp [pwC] at hu;subst hu;show (w.setCell _ _).cell? ⟨g,0+i*5+2,none⟩=_;rw [cellc hg,Array.getElem?_setIfInBounds,if_neg (by omega),Nat.zero_add];exact h2
   | 3,hu=>simp [pwC] at hu;subst hu;show (w.setCell _ _).cell? ⟨g,0+i*5+3,none⟩=_;rw [cellc hg,Array.getElem?_setIfInBounds,if_neg (by omega),Nat.zero_add];exact h3
   | 4,hu=>simp [pwC] at hu;subst hu;show (w.setCell _ _).cell? ⟨g,0+i*5+4,none⟩=_;rw [cellc hg,Array.getElem?_setIfInBounds,if_neg (by omega),Nat.zero_add];exact h4
   | j+5,hu=>simp [pwC] at hu
/-- the row of a product while it is multiplied -/
def midP (L:List Pw) (n:Int) (q:Nat):List Pw:=(L.take q).map (fun p=>(p.1,n*p.2))++L.drop q
theorem midP_len (L:List Pw) (n:Int) (q:Nat):(midP L n q).length=L.length:=by
 unfold midP;rw [List.length_append,List.length_map,List.length_take,List.length_drop];omega
theorem midP_at {L:List Pw} {n:Int} {q:Nat} {x:Pw} (hx:L[q]?=some x):(midP L n q)[q]?=some x:=by
 have hlt:=(List.getElem?_eq_some_iff.1 hx).1
 unfold midP
 rw [List.getElem?_append_right (by rw [List.length_map,List.length_take];omega),List.length_map,List.length_take,Nat.min_eq_left (by omega),Nat.sub_self,List.getElem?_drop,Nat.add_zero]
 exact hx
theorem midP_next {L:List Pw} {n:Int} {q:Nat} {x:Pw} (hx:L[q]?=some x):(midP L n q).set q (x.1,n*x.2)=midP L n (q+1):=by
 have hlt:=(List.getElem?_eq_some_iff.1 hx).1
 unfold midP
 rw [List.set_append_right _ _ (by rw [List.length_map,List.length_take];omega),List.length_map,List.length_take,Nat.min_eq_left (by omega),Nat.sub_self,getT hx,List.map_append,List.append_assoc]
 congr 1
 obtain ⟨h1,e⟩:=List.getElem?_eq_some_iff.1 hx
 rw [List.drop_eq_getElem_cons h1,List.set_cons_zero]
 rfl
theorem midP_end (L:List Pw) (n:Int) {q:Nat} (h:L.length≤q) (hn:n≠0):midP L n q=timesP L n:=by
 unfold midP timesP
 rw [List.take_of_length_le h,List.drop_of_length_le h,if_neg hn,List.append_nil]
theorem PTimes_any {w:World} {S:Nat→Prop} {a:Option Addr} {cap:Nat} {n:Int} {L:List Pw} (hL:LsG elPw w S (.slice a L.length cap) L) (hG:Good L) (hR:Rng 1000 L) (hn:-1000≤n∧n≤1000) :
 Calls Tryz.prog 9 #[.slice a L.length cap,.int .i64 n] w (PwR w (timesP L n)):=by
 have h6:=hG.len
 have HV:=Lib.hid (PValidP_any hL hG hR)
 have HCP:=Lib.hid (fun (w':World) (hE:Ext w w')=>copied_any (hL.ext hE) (by omega))
 have HR:=Lib.hid hR
 have hn1:¬n < -1000:=by omega
 have hn2:¬(1000:Int)<n:=by omega
 have HTG:=Lib.hid (timesP_spec hG n).1
 clear hL hG hR
 go_enter Tryz.func9,Tryz.ntmps9
 go_wp2_with fail
 refine HV.out.mono ?_
 rintro e w1 ⟨rfl,hE1⟩
 have HE1:=Lib.hid hE1
 have HC1:=Lib.hid (HCP.out w1 hE1)
 clear hE1
 by_cases hn0:n=0
 · have g0:(n==(0:Int))=true:=by rw [hn0];rfl
   have HT:Hid (timesP L n=[]):=Lib.hid (by unfold timesP;rw [if_pos hn0])
   clear hn0 hn
   go_wp2_with fail
   go_ret2
   refine ⟨HE1.out,.inl ⟨by rw [HT.out];exact fun p h=>by simp at h,none,0,?_,?_⟩⟩
   · rw [HT.out];rfl
   · rw [HT.out];exact LsG.nil
 · have g0:(n==(0:Int))=false:=beq_eq_false_iff_ne.2 hn0
   have HN0:=Lib.hid hn0
   clear hn0
   go_wp2_with fail
   refine HC1.out.mono ?_
   rintro e w2 ⟨v,rfl,hE2,hO2⟩
   obtain ⟨va,vc,rfl,hv1,hv2⟩:=hO2.slice
   unfold maxLen at hv2
   have HE2:=Lib.hid (HE1.out.trans hE2)
   have HI:Hid (LsG elPw w2 (fun _=>True) (.slice va L.length vc) (midP L n 0)∧(L≠[]→∃g,va=some ⟨g,0,none⟩∧w.heap.size≤g∧∃cur T,w2.heap[g]?=some (.cells cur T))):=Lib.hid ⟨by show LsG elPw w2 _ _ (([]:List Pw).map _++L);exact hO2.any,fun hne=>by
    obtain ⟨g,cap',cs,e,hb,-,-,-⟩:=hO2.at (i:=0) (List.getElem?_eq_getElem (List.length_pos_iff.2 hne))
    cases e
    obtain ⟨cur,hc⟩:=hO2.block (g:=g) rfl
    exact ⟨g,rfl,Nat.le_trans HE1.out.size hb,cur,_,hc⟩⟩
   clear hE2 hO2
   go_upto_region 10 with fail
   go_loopw [8,26] (fun _ iv wr=>∃q:Nat,iv=.int .i64 q∧q≤L.length∧Hid (Ext w wr)∧Hid (LsG elPw wr (fun _=>True) (.slice va L.length vc) (midP L n q)∧(L≠[]→∃g,va=some ⟨g,0,none⟩∧w.heap.size≤g∧∃cur T,wr.heap[g]?=some (.cells cur T)))) (fun _ iv _=>L.length-(intOf iv).toNat)
   case atStart=>exact ⟨0,rfl,by omega,HE2,HI⟩
   case round =>
    obtain ⟨q,rfl,hq,HE,HQ⟩:=hrel
    by_cases hlt:q<L.length
    · have hqi:(q:Int)<(L.length:Int):=by omega
      have hq0:(0:Int)≤(q:Int):=by omega
      obtain ⟨x,hx⟩:∃x,L[q]?=some x:=⟨_,List.getElem?_eq_getElem hlt⟩
      have hml:=midP_len L n q
      have hxm:=midP_at (n:=n) hx
      obtain ⟨hLS,hOB⟩:=HQ.out
      obtain ⟨b,rfl,hbw,cur,T,hcur⟩:=hOB (by intro e;rw [e] at hlt;simp at hlt)
      have hLS2:=hLS
      rw [←hml] at hLS2
      obtain ⟨b',off,e1,-,p0,p1,p2,p3,p4,hx6,hI⟩:=pwAt hLS2 hxm
      cases e1
      simp only [Nat.zero_add] at p0 p1 p2 p3 p4
      have hxr:=HR.out x (List.mem_of_getElem? hx)
      have hprod:-1000000≤n*x.2∧n*x.2≤1000000:=by
       have h1:(n*x.2).natAbs≤1000*1000:=by
        rw [Int.natAbs_mul]
        exact Nat.mul_le_mul (by omega) (by omega)
       omega
      obtain ⟨m,hm⟩:∃m,m=n*x.2:=⟨_,rfl⟩
      have hwm:IntKind.i64.wrap (x.2*n)=m:=by rw [hm,Int.mul_comm,IntKind.wrap_i64];omega
      have hmI:I64 m:=by rw [hm];unfold I64;omega
      have fz:wr.frozen? ⟨b,q*5+4,none⟩=false:=frozenc hcur
      have HN:Hid (LsG elPw (wr.setCell ⟨b,q*5+4,none⟩ (.int .i64 m)) (fun _=>True) (.slice (some ⟨b,0,none⟩) L.length vc) (midP L n (q+1))∧(L≠[]→∃g,(some ⟨b,0,none⟩:Option Addr)=some ⟨g,0,none⟩∧w.heap.size≤g∧∃cur T,(wr.setCell ⟨b,q*5+4,none⟩ (.int .i64 m)).heap[g]?=some (.cells cur T))):=Lib.hid ⟨by rw [←midP_next hx,←hm];exact pw_setN hLS hcur hxm hmI,fun _=>⟨b,rfl,hbw,_,_,heap_setCell_same _ _ _ _ _ _ hcur⟩⟩
      have HEN:Hid (Ext w (wr.setCell ⟨b,q*5+4,none⟩ (.int .i64 m))):=Lib.hid (HE.out.setCell hbw _)
      clear hx hxm hml hLS hLS2 hOB hcur hxr hprod hm hmI HQ
      go_upto_region 12 with fail
      go_wp2_with fail
      go_roundw
      case rel=>exact ⟨q+1,by go_num,by omega,HEN,HN⟩
      case measure=>simp [intOf];omega
    · have hqi:¬(q:Int)<(L.length:Int):=by omega
      have hml:=midP_len L n q
      have hme:=midP_end L n (show L.length≤q by omega) HN0.out
      have hLS:=HQ.out.1
      rw [hme] at hLS hml
      have HRS:=Lib.hid (presult_any (w:=wr) (L:=timesP L n) (a:=va) (cap:=vc) (by rw [hml];exact hLS) (by rw [hml];omega))
      rw [hml] at HRS
      have HML:=Lib.hid hml
      clear hml hme hLS
      go_wp2_with fail
      refine HRS.out.mono ?_
      rintro e w5 ⟨hE5,hcase⟩
      have HE5:=Lib.hid (HE.out.trans hE5)
      clear hE5
      rcases hcase with ⟨hrg,ra,rc,rfl,hL5⟩ | ⟨hrg,rfl⟩
      · have HRG:=Lib.hid hrg
        have HL5:=Lib.hid hL5
        clear hrg hL5
        go_wp2_with fail
        go_ret2
        exact ⟨HE5.out,.inl ⟨HRG.out,_,_,rfl,HL5.out⟩⟩
      · have HRG:=Lib.hid hrg
        clear hrg
        go_wp2_with fail
        go_ret2
        exact ⟨HE5.out,.inr ⟨HRG.out,rfl⟩⟩
/-- a power out of range -/
theorem PTimes_out {w:World} {S:Nat→Prop} {a:Option Addr} {cap:Nat} {n:Int} {L:List Pw} (hL:LsG elPw w S (.slice a L.length cap) L) (hG:Good L) (hR:Rng 1000 L) (hn:n < -1000∨1000<n) :
 Calls Tryz.prog 9 #[.slice a L.length cap,.int .i64 n] w fun e w'=>e=.returned (.tuple #[.slice none 0 0,.int .i64 7])∧Ext w w':=by
 have HV:=Lib.hid (PValidP_any hL hG hR)
 clear hL hG hR
 go_enter Tryz.func9,Tryz.ntmps9
 go_wp2_with fail
 refine HV.out.mono ?_
 rintro e w1 ⟨rfl,hE1⟩
 have HE1:=Lib.hid hE1
 clear hE1
 by_cases h1:n < -1000
 · go_wp2_with fail
   go_ret2
   exact ⟨rfl,HE1.out⟩
 · have h2:1000<n:=by omega
   go_wp2_with fail
   go_ret2
   exact ⟨rfl,HE1.out⟩
end Go.Proofs.YtclijngnoepbiaaGreat
