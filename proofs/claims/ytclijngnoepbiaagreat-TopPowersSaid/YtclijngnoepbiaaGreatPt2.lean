/- Contracts: sealringref06: add, inRange. Contracts: sealringref06: inRange, Times, Mul. -/
import Derived.Test.YtclijngnoepbiaaGreatPt1
set_option maxRecDepth 100000
set_option maxHeartbeats 8000000
namespace Go.Proofs.YtclijngnoepbiaaGreat
open Go Go.RowKit
set_option linter.unusedVariables false
set_option linter.unusedSimpArgs false

theorem infPw:(Tryz.prog.info? 66).map (fun i=>(i.zero,i.size,i.bytes))=some (some (.agg #[.int .i64 0,.string ⟨#[]⟩,.int .i64 0,.slice none 0 0,.int .i64 0]),5,64):=by kernel_rfl
theorem pw_e {w:World} {p:Nat} {S:Nat→Prop} {x:Pw} (h:w.heap[p]?=some (.cells #[.int .i64 2,.string (ltr x.1),.int .i64 2,.slice none 0 0,.int .i64 x.2] 66)) (h6:x.1<6) (hI:I64 x.2):LsE elPw w S (.slice (some ⟨p,0,none⟩) 1 1) [x] :=
 cells_lsE (P:=[(x,pwC x)]) h rfl rfl rfl (by unfold maxLen;simp) (fun q hq=>by simp at hq;subst hq;exact ⟨rfl,h6,hI⟩)
theorem getT {α:Type} {L:List α} {q:Nat} {x:α} (h:L[q]?=some x):L.take (q+1)=L.take q++[x]:=by rw [List.take_add_one,h];rfl
/-- the list that add builds -/
def addQ (L:List Pw) (i:Nat) (n:Int) (q:Nat) (d:Bool):List Pw:=if d then addP (L.take q) i n else L.take q
theorem addQ_len {L:List Pw} (i:Nat) (n:Int) (q:Nat) (d:Bool) (h:L.length≤1000):(addQ L i n q d).length≤1001:=by
 have : ∀A:List Pw,(addP A i n).length≤A.length+1:=by
  intro A
  induction A with
  | nil=>simp [addP]
  | cons p A ih =>
    rw [addP]
    split
    · simp
    · split
      · split<;>simp<;>omega
      · simp;omega
 unfold addQ
 split
 · have:=this (L.take q);rw [List.length_take] at this;omega
 · rw [List.length_take];omega
theorem addQ_lt {L:List Pw} {i q:Nat} {n:Int} {x:Pw} (hx:L[q]?=some x) (hd:¬∃p∈L.take q,i≤p.1):addQ L i n (q+1) true=L.take q++addP [x] i n:=by
 unfold addQ
 rw [if_pos rfl,getT hx]
 exact addP_lt (fun p hp=>by
  by_cases h:p.1<i
  · exact h
  · exact absurd ⟨p,hp,by omega⟩ hd) [x]
theorem addQ_ge {L:List Pw} {i q:Nat} {n:Int} {x:Pw} (hx:L[q]?=some x) (hd:∃p∈L.take q,i≤p.1):addQ L i n (q+1) true=addQ L i n q true++[x]:=by
 unfold addQ
 rw [if_pos rfl,if_pos rfl,getT hx]
 exact addP_ge hd [x]
theorem addQ_no {L:List Pw} {i q:Nat} {n:Int} {x:Pw} (hx:L[q]?=some x):addQ L i n (q+1) false=L.take q++[x]:=by
 unfold addQ
 rw [if_neg (by decide),getT hx]
theorem Radd_any {w:World} {S:Nat→Prop} {a:Option Addr} {cap i:Nat} {n:Int} {L:List Pw} (hL:LsG elPw w S (.slice a L.length cap) L) (hG:Good L) (hR:Rng 1000000 L) (hi:i<6) (hn:-1000000≤n∧n≤1000000) :
 Calls Tryz.prog 57 #[.slice a L.length cap,atmV i,.int .i64 n] w fun e w'=>∃v,e=.returned v∧Ext w w'∧OwnG elPw w' w.heap.size 66 (fun _=>False) v (addP L i n):=by
 unfold atmV
 obtain ⟨bx,w1,hbx,hw1,HX,hE1⟩:=box_new w (.cells #[.int .i64 2,.string (ltr i),.int .i64 2,.slice none 0 0] 33)
 have t0:w1.cell? ⟨bx,0,none⟩=some (.int .i64 2):=by rw [cellc HX.out];rfl
 have t1:w1.cell? ⟨bx,1,none⟩=some (.string (ltr i)):=by rw [cellc HX.out];rfl
 have t2:w1.cell? ⟨bx,2,none⟩=some (.int .i64 2):=by rw [cellc HX.out];rfl
 have t3:w1.cell? ⟨bx,3,none⟩=some (.slice none 0 0):=by rw [cellc HX.out];rfl
 obtain ⟨-,hl,hc⟩:=hL.len
 unfold maxLen at hc
 have h6:=hG.len
 have HL:=Lib.hid (hL.ext hE1)
 have HG:=Lib.hid hG
 have HR:=Lib.hid hR
 have HE1:=Lib.hid hE1
 have HT:=Lib.hid (And.intro t0 (And.intro t1 (And.intro t2 t3)))
 clear hL hG hR hE1 t0 t1 t2 t3
 go_enter Tryz.func57,Tryz.ntmps57
 go_upto_region 4 with fail
 rw [←hw1,←hbx]
 clear hw1 hbx
 go_loopw [7,8,9,10,11] (fun ov dv iv _ _ wr=>∃(q:Nat) (d:Bool),iv=.int .i64 q∧dv=.bool d∧q≤L.length∧(d=true↔∃p∈L.take q,i≤p.1)∧Hid (Ext w1 wr)∧Hid (OwnG elPw wr w1.heap.size 66 (fun _=>False) ov (addQ L i n q d))) (fun _ _ iv _ _ _=>L.length-(intOf iv).toNat)
 case atStart=>exact ⟨0,false,rfl,rfl,by omega,by simp,Lib.hid (Ext.refl _),Lib.hid OwnG.nil⟩
 case round =>
  obtain ⟨q,d,rfl,rfl,hq,hd,HE,HO⟩:=hrel
  have hlen:(addQ L i n q d).length≤1001:=addQ_len i n q d (by omega)
  have HD:=Lib.hid hd
  obtain ⟨t0,t1,t2,t3⟩:=(show _∧_∧_∧_ from HT.out)
  have t0:=cs_ext HE.out t0
  have t1:=cs_ext HE.out t1
  have t2:=cs_ext HE.out t2
  have t3:=cs_ext HE.out t3
  obtain ⟨A,hA⟩:∃A,A=addQ L i n q d:=⟨_,rfl⟩
  rw [←hA] at HO hlen
  obtain ⟨va,vc,rfl,-,-⟩:=HO.out.slice
  clear hd
  by_cases hlt:q<L.length
  · have hqi:(q:Int)<(L.length:Int):=by omega
    have hq0:(0:Int)≤(q:Int):=by omega
    obtain ⟨x,hx⟩:∃x,L[q]?=some x:=⟨_,List.getElem?_eq_getElem hlt⟩
    have HX:=Lib.hid hx
    obtain ⟨b,off,rfl,hb,p0,p1,p2,p3,p4,hx6,hI⟩:=pwAt (HL.out.ext HE.out) hx
    have hxr:=HR.out x (List.mem_of_getElem? hx)
    have hxn:=HG.out.nz x (List.mem_of_getElem? hx)
    have n1:(x.2==(0:Int))=false:=beq_eq_false_iff_ne.2 hxn
    obtain ⟨c,hcc⟩:∃c:Int,c=if i<x.1 then -1 else if x.1<i then 1 else 0:=⟨_,rfl⟩
    have HCM:=Lib.hid (fun (w':World)=>rcmp_atm (w:=w') hi hx6)
    rw [←hcc] at HCM
    have HCC:=Lib.hid hcc
    have hci:I64 c:=by rw [hcc];unfold I64;split<;>(try split)<;>omega
    have hlow:∀p∈L.take q,p.1<x.1:=by
     intro p hp
     obtain ⟨j,hj⟩:=List.mem_iff_getElem?.1 hp
     rw [List.getElem?_take] at hj
     split at hj
     · obtain ⟨h1,rfl⟩:=List.getElem?_eq_some_iff.1 hj
       obtain ⟨h2,rfl⟩:=List.getElem?_eq_some_iff.1 hx
       exact List.pairwise_iff_getElem.1 HG.out.asc j q h1 h2 (by omega)
     · cases hj
    have HLOW:=Lib.hid hlow
    have HHA:=Lib.hid hA
    have HXF:Hid (x.1<6∧I64 x.2∧x.2≠0∧-1000000≤x.2∧x.2≤1000000):=Lib.hid ⟨hx6,hI,hxn,hxr⟩
    clear hx hxr hxn hcc hlow hA
    unfold atmV at HCM
    go_upto_region 6 with fail
    have HFCT:=Lib.hid (And.intro t0 (And.intro t1 (And.intro t2 (And.intro t3 (And.intro p0 (And.intro p1 (And.intro p2 p3)))))))
    refine wp_region_reg 7 false (by kernel_rfl) (by kernel_rfl) ?_
    refine reg_value (fun _=>rfl) ?_ (fun g w' vs hM hE hP=>?_) ?_
    rotate_left
    · (clear hP hM;have ⟨z0,z1,z2,z3,z4,z5,z6,z7⟩:=cs_e8 hE HFCT.out;go_simp;first | done | rfl)
    refine reg_value (fun _=>rfl) ?_ (fun g w' vs hM hE hP=>?_) ?_
    rotate_left
    · (clear hP hM;go_simp;first | done | rfl)
    refine reg_value (fun _=>rfl) ?_ (fun g w' vs hM hE hP=>?_) ?_
    rotate_left
    · (clear hP hM;go_simp;first | done | rfl)
    refine reg_value (fun _=>rfl) ?_ (fun g w' vs hM hE hP=>?_) ?_
    rotate_left
    · (clear hP hM;go_simp;first | done | rfl)
    refine reg_value (fun _=>rfl) ?_ (fun g w' vs hM hE hP=>?_) ?_
    rotate_left
    · (clear hP hM;go_simp;first | done | rfl)
    refine reg_value (fun _=>rfl) ?_ (fun g w' vs hM hE hP=>?_) ?_
    rotate_left
    · (clear hP hM;have ⟨z0,z1,z2,z3,z4,z5,z6,z7⟩:=cs_e8 hE HFCT.out;go_simp;first | done | rfl)
    refine reg_const (fun _=>rfl) 50 ?_ (fun g w' vs hM hE hP=>?_) ?_
    rotate_left
    · (clear hP hM;have ⟨z0,z1,z2,z3,z4,z5,z6,z7⟩:=cs_e8 hE HFCT.out;go_simp;first | done | exact ⟨rfl,rfl⟩ | rfl)
    apply Exists.intro
    refine And.intro (fun g w' vs hM hE hP=>?_) ?_
    · exact HCM.out w'
    intro g wn hEn hFn hQn
    simp only [List.drop_succ_cons,List.drop_zero,Act.put,List.setIfInBounds_toArray,List.set_cons_succ,List.set_cons_zero]
    have HEn:=Lib.hid (HE.out.trans hEn)
    have HOn:=Lib.hid (HO.out.ext hEn)
    obtain ⟨p0,p1,p2,p3,p4,t0,t1,t2,t3⟩:=cs_e9 hEn ⟨p0,p1,p2,p3,p4,t0,t1,t2,t3⟩
    clear hEn hFn hQn
    have hcas:(i<x.1∧c=-1)∨(i=x.1∧c=0)∨(x.1<i∧c=1):=by
     rw [HCC.out]
     by_cases h1:i<x.1
     · exact .inl ⟨h1,by rw [if_pos h1]⟩
     · by_cases h2:x.1<i
       · exact .inr (.inr ⟨h2,by rw [if_neg h1,if_pos h2]⟩)
       · exact .inr (.inl ⟨by omega,by rw [if_neg h1,if_neg h2]⟩)
    have HXN:Hid (I64 x.2):=Lib.hid HXF.out.2.1
    rcases hcas with ⟨hix,rfl⟩ | ⟨hix,rfl⟩ | ⟨hix,rfl⟩
    · cases d with
      | false =>
        have hno:¬∃p∈L.take q,i≤p.1:=fun h=>by have:=HD.out.2 h;cases this
        have HQ:Hid (addQ L i n (q+1) true=A++[(i,n)]++[(x.1,x.2)]):=Lib.hid (by
         rw [addQ_lt HX.out hno,HHA.out,addP,if_pos hix]
         show L.take q++_=L.take q++_++_
         simp)
        have HDN:Hid (true=true↔∃p∈L.take (q+1),i≤p.1):=Lib.hid ⟨fun _=>⟨x,by rw [getT HX.out];simp,by omega⟩,fun _=>rfl⟩
        have LNX:Hid ((A++[(i,n)]).length≤1000000):=Lib.hid (by rw [List.length_append];simp;omega)
        clear hno
        obtain ⟨nb,w3,hnb,hw3,HN3,hE3⟩:=box_new wn (.cells #[.int .i64 2,.string (ltr i),.int .i64 2,.slice none 0 0,.int .i64 n] 66)
        have HE3:=Lib.hid (HEn.out.trans hE3)
        have HO3:=Lib.hid (HOn.out.ext hE3)
        obtain ⟨p0,p1,p2,p3,p4⟩:=cs_e5 hE3 ⟨p0,p1,p2,p3,p4⟩
        clear hE3
        go_upto_region 8 with fail
        go_upto_region 10 with (
         at_builtin
         rw [←hw3,←hnb]
         refine wpList_appG (E:=elPw) (T:=66) rfl 28 (.tmp 31) (.tmp 35) rfl rfl rfl Tryz.underlying28 infPw rfl (by decide) (by decide) HO3.out HE3.out.size (fun c h=>absurd h id) (by omega) (M:=[(i,n)]) (by simp) (pw_e HN3.out hi (by unfold I64;omega)) ?_
         intro v4 w4 o4 g4 k4
         obtain ⟨va4,vc4,rfl,-,-⟩:=o4.slice
         have hl4:(A++[(i,n)]).length=A.length+1:=by simp
         rw [hl4] at o4 ⊢
         have HO4:=Lib.hid o4
         have HE4:Hid (Ext w1 w4):=Lib.hid (HE3.out.grown g4 (fun q hq=>(HO3.out.lt q hq).1))
         have HL4:=Lib.hid (HL.out.ext HE4.out)
         clear o4 g4 k4 p0 p1 p2 p3 p4 hl4)
        obtain ⟨b',off',e1,-,p0,p1,p2,p3,p4,-,-⟩:=pwAt HL4.out HX.out
        cases e1
        obtain ⟨pb,wz,hpb,hwz,HPZ,hEz⟩:=box_new w4 (.cells #[.int .i64 2,.string (ltr x.1),.int .i64 2,.slice none 0 0,.int .i64 x.2] 66)
        have z0:wz.cell? ⟨pb,0,none⟩=some (.int .i64 2):=by rw [cellc HPZ.out];rfl
        have z1:wz.cell? ⟨pb,1,none⟩=some (.string (ltr x.1)):=by rw [cellc HPZ.out];rfl
        have z2:wz.cell? ⟨pb,2,none⟩=some (.int .i64 2):=by rw [cellc HPZ.out];rfl
        have z3:wz.cell? ⟨pb,3,none⟩=some (.slice none 0 0):=by rw [cellc HPZ.out];rfl
        have z4:wz.cell? ⟨pb,4,none⟩=some (.int .i64 x.2):=by rw [cellc HPZ.out];rfl
        have HEz:=Lib.hid (HE4.out.trans hEz)
        have HOz:=Lib.hid (HO4.out.ext hEz)
        have HPB:Hid (w1.heap.size≤pb∧∀c,(Value.slice va4 (A.length+1) vc4).ownBlock=some c→c≠pb):=Lib.hid ⟨by have h1:=HE4.out.size;have h2:w4.heap.size=pb:=(by first | exact hpb | exact hpb.symm);omega,fun c hc=>by have h1:=(HO4.out.lt c hc).2;have h2:w4.heap.size=pb:=(by first | exact hpb | exact hpb.symm);omega⟩
        clear hEz
        go_upto_region 11 with fail
        rw [←hwz,←hpb]
        clear hwz hpb p0 p1 p2 p3 p4
        go_upto_region 15 with fail
        obtain ⟨sb,w5,hsb,hw5,HS5,hE5⟩:=box_new wz (.cells #[.int .i64 2,.string (ltr x.1),.int .i64 2,.slice none 0 0,.int .i64 x.2] 66)
        have HE5:=Lib.hid (HEz.out.trans hE5)
        have HO5:=Lib.hid (HOz.out.ext hE5)
        clear hE5
        go_wp2_with (
         at_builtin
         rw [←hw5,←hsb]
         refine wpList_appG (E:=elPw) (T:=66) rfl 28 (.tmp 51) (.tmp 53) rfl rfl rfl Tryz.underlying28 infPw rfl (by decide) (by decide) HO5.out HE5.out.size (fun c h=>absurd h id) LNX.out (M:=[(x.1,x.2)]) (by simp) (pw_e HS5.out HXF.out.1 HXN.out) ?_
         intro v8 w8 o8 g8 k8
         have HO8:=Lib.hid o8
         have HE8:Hid (Ext w1 w8):=Lib.hid (HE5.out.grown g8 (fun q hq=>(HO5.out.lt q hq).1))
         clear o8 g8 k8)
        go_roundw
        case rel=>exact ⟨q+1,true,by go_num,rfl,by omega,HDN.out,HE8,by rw [HQ.out];exact HO8⟩
        case measure=>simp [intOf];omega
      | true =>
        have HQ:Hid (addQ L i n (q+1) true=A++[(x.1,x.2)]):=Lib.hid (by rw [addQ_ge HX.out (HD.out.1 rfl),HHA.out])
        have HDN:Hid (true=true↔∃p∈L.take (q+1),i≤p.1):=Lib.hid ⟨fun _=>⟨x,by rw [getT HX.out];simp,by omega⟩,fun _=>rfl⟩
        have LNX:Hid (A.length≤1000000):=Lib.hid (by omega)
        go_upto_region 10 with fail
        obtain ⟨pb,wz,hpb,hwz,HPZ,hEz⟩:=box_new wn (.cells #[.int .i64 2,.string (ltr x.1),.int .i64 2,.slice none 0 0,.int .i64 x.2] 66)
        have z0:wz.cell? ⟨pb,0,none⟩=some (.int .i64 2):=by rw [cellc HPZ.out];rfl
        have z1:wz.cell? ⟨pb,1,none⟩=some (.string (ltr x.1)):=by rw [cellc HPZ.out];rfl
        have z2:wz.cell? ⟨pb,2,none⟩=some (.int .i64 2):=by rw [cellc HPZ.out];rfl
        have z3:wz.cell? ⟨pb,3,none⟩=some (.slice none 0 0):=by rw [cellc HPZ.out];rfl
        have z4:wz.cell? ⟨pb,4,none⟩=some (.int .i64 x.2):=by rw [cellc HPZ.out];rfl
        have HEz:=Lib.hid (HEn.out.trans hEz)
        have HOz:=Lib.hid (HOn.out.ext hEz)
        have HPB:Hid (w1.heap.size≤pb∧∀c,(Value.slice va A.length vc).ownBlock=some c→c≠pb):=Lib.hid ⟨by have h1:=HEn.out.size;have h2:wn.heap.size=pb:=(by first | exact hpb | exact hpb.symm);omega,fun c hc=>by have h1:=(HOn.out.lt c hc).2;have h2:wn.heap.size=pb:=(by first | exact hpb | exact hpb.symm);omega⟩
        clear hEz
        go_upto_region 11 with fail
        rw [←hwz,←hpb]
        clear hwz hpb p0 p1 p2 p3 p4
        go_upto_region 15 with fail
        obtain ⟨sb,w5,hsb,hw5,HS5,hE5⟩:=box_new wz (.cells #[.int .i64 2,.string (ltr x.1),.int .i64 2,.slice none 0 0,.int .i64 x.2] 66)
        have HE5:=Lib.hid (HEz.out.trans hE5)
        have HO5:=Lib.hid (HOz.out.ext hE5)
        clear hE5
        go_wp2_with (
         at_builtin
         rw [←hw5,←hsb]
         refine wpList_appG (E:=elPw) (T:=66) rfl 28 (.tmp 51) (.tmp 53) rfl rfl rfl Tryz.underlying28 infPw rfl (by decide) (by decide) HO5.out HE5.out.size (fun c h=>absurd h id) LNX.out (M:=[(x.1,x.2)]) (by simp) (pw_e HS5.out HXF.out.1 HXN.out) ?_
         intro v8 w8 o8 g8 k8
         have HO8:=Lib.hid o8
         have HE8:Hid (Ext w1 w8):=Lib.hid (HE5.out.grown g8 (fun q hq=>(HO5.out.lt q hq).1))
         clear o8 g8 k8)
        go_roundw
        case rel=>exact ⟨q+1,true,by go_num,rfl,by omega,HDN.out,HE8,by rw [HQ.out];exact HO8⟩
        case measure=>simp [intOf];omega
    · have hno:¬∃p∈L.take q,i≤p.1:=by
       rintro ⟨p,hp,hle⟩
       have:=HLOW.out p hp
       omega
      have hdf:d=false:=by
       cases d with
       | false=>rfl
       | true=>exact absurd (HD.out.1 rfl) hno
      subst hdf
      have HDN:Hid (true=true↔∃p∈L.take (q+1),i≤p.1):=Lib.hid ⟨fun _=>⟨x,by rw [getT HX.out];simp,by omega⟩,fun _=>rfl⟩
      have LNX:Hid (A.length≤1000000):=Lib.hid (by omega)
      have hxr:=HXF.out.2.2
      obtain ⟨sm,hsm⟩:∃sm,sm=x.2+n:=⟨_,rfl⟩
      have hws:IntKind.i64.wrap (x.2+n)=sm:=by rw [hsm,IntKind.wrap_i64];omega
      have HXN:Hid (I64 sm):=Lib.hid (by rw [hsm];unfold I64;omega)
      have HQ:Hid (addQ L i n (q+1) true=if sm=0 then A else A++[(x.1,sm)]):=Lib.hid (by
       rw [addQ_lt HX.out hno,HHA.out,addP,if_neg (by omega),if_pos hix.symm,hsm]
       show L.take q++_=_
       by_cases h0:x.2+n=0
       · rw [if_pos h0,if_pos h0,List.append_nil];rfl
       · rw [if_neg h0,if_neg h0,hix];rfl)
      clear hno hxr hsm hix
      go_upto_region 10 with fail
      obtain ⟨pb,wz,hpb,hwz,HPZ,hEz⟩:=box_new wn (.cells #[.int .i64 2,.string (ltr x.1),.int .i64 2,.slice none 0 0,.int .i64 x.2] 66)
      have z0:wz.cell? ⟨pb,0,none⟩=some (.int .i64 2):=by rw [cellc HPZ.out];rfl
      have z1:wz.cell? ⟨pb,1,none⟩=some (.string (ltr x.1)):=by rw [cellc HPZ.out];rfl
      have z2:wz.cell? ⟨pb,2,none⟩=some (.int .i64 2):=by rw [cellc HPZ.out];rfl
      have z3:wz.cell? ⟨pb,3,none⟩=some (.slice none 0 0):=by rw [cellc HPZ.out];rfl
      have z4:wz.cell? ⟨pb,4,none⟩=some (.int .i64 x.2):=by rw [cellc HPZ.out];rfl
      have HEz:=Lib.hid (HEn.out.trans hEz)
      have HOz:=Lib.hid (HOn.out.ext hEz)
      have HPB:Hid (w1.heap.size≤pb∧∀c,(Value.slice va A.length vc).ownBlock=some c→c≠pb):=Lib.hid ⟨by have h1:=HEn.out.size;have h2:wn.heap.size=pb:=(by first | exact hpb | exact hpb.symm);omega,fun c hc=>by have h1:=(HOn.out.lt c hc).2;have h2:wn.heap.size=pb:=(by first | exact hpb | exact hpb.symm);omega⟩
      clear hEz
      go_upto_region 11 with fail
      rw [←hwz,←hpb]
      clear hwz hpb p0 p1 p2 p3 p4
      have fz4:wz.frozen? ⟨pb,4,none⟩=false:=frozenc HPZ.out
      go_upto_region 14 with fail
      obtain ⟨wy,hwy⟩:∃wy,wy=wz.setCell ⟨pb,4,none⟩ (.int .i64 sm):=⟨_,rfl⟩
      have hy:wy.heap[pb]?=some (.cells #[.int .i64 2,.string (ltr x.1),.int .i64 2,.slice none 0 0,.int .i64 sm] 66):=by
       rw [hwy,heap_setCell_same _ _ _ _ _ _ HPZ.out];rfl
      have hoth:∀c,c≠pb→wy.heap[c]?=wz.heap[c]?:=fun c hc=>by rw [hwy];exact heap_setCell_other _ _ _ _ hc
      have HEY:Hid (Ext w1 wy):=Lib.hid (by rw [hwy];exact HEz.out.setCell HPB.out.1 _)
      have HOY:=Lib.hid (HOz.out.keep (w':=wy) (S':=fun _=>False) (fun c hc=>hoth c (HPB.out.2 c hc)) (fun c h _=>h.elim) (fun c h _=>h))
      rw [←hwy]
      clear hwy z0 z1 z2 z3 z4 fz4 hoth
      have z0:wy.cell? ⟨pb,0,none⟩=some (.int .i64 2):=by rw [cellc hy];rfl
      have z1:wy.cell? ⟨pb,1,none⟩=some (.string (ltr x.1)):=by rw [cellc hy];rfl
      have z2:wy.cell? ⟨pb,2,none⟩=some (.int .i64 2):=by rw [cellc hy];rfl
      have z3:wy.cell? ⟨pb,3,none⟩=some (.slice none 0 0):=by rw [cellc hy];rfl
      have z4:wy.cell? ⟨pb,4,none⟩=some (.int .i64 sm):=by rw [cellc hy];rfl
      clear hy
      have HDN2:=HDN
      by_cases h0:sm=0
      · have HQ2:Hid (addQ L i n (q+1) true=A):=Lib.hid (by rw [HQ.out,if_pos h0])
        have g0:(sm==(0:Int))=true:=by rw [h0];rfl
        clear h0
        go_wp2_with fail
        go_roundw
        case rel=>exact ⟨q+1,true,by go_num,rfl,by omega,HDN.out,HEY,by rw [HQ2.out];exact HOY⟩
        case measure=>simp [intOf];omega
      · have HQ2:Hid (addQ L i n (q+1) true=A++[(x.1,sm)]):=Lib.hid (by rw [HQ.out,if_neg h0])
        have g0:(sm==(0:Int))=false:=beq_eq_false_iff_ne.2 h0
        clear h0
        go_upto_region 15 with fail
        obtain ⟨sb,w5,hsb,hw5,HS5,hE5⟩:=box_new wy (.cells #[.int .i64 2,.string (ltr x.1),.int .i64 2,.slice none 0 0,.int .i64 sm] 66)
        have HE5:=Lib.hid (HEY.out.trans hE5)
        have HO5:=Lib.hid (HOY.out.ext hE5)
        clear hE5
        go_wp2_with (
         at_builtin
         rw [←hw5,←hsb]
         refine wpList_appG (E:=elPw) (T:=66) rfl 28 (.tmp 51) (.tmp 53) rfl rfl rfl Tryz.underlying28 infPw rfl (by decide) (by decide) HO5.out HE5.out.size (fun c h=>absurd h id) LNX.out (M:=[(x.1,sm)]) (by simp) (pw_e HS5.out HXF.out.1 HXN.out) ?_
         intro v8 w8 o8 g8 k8
         have HO8:=Lib.hid o8
         have HE8:Hid (Ext w1 w8):=Lib.hid (HE5.out.grown g8 (fun q hq=>(HO5.out.lt q hq).1))
         clear o8 g8 k8)
        go_roundw
        case rel=>exact ⟨q+1,true,by go_num,rfl,by omega,HDN.out,HE8,by rw [HQ2.out];exact HO8⟩
        case measure=>simp [intOf];omega
    · have hdf:d=false:=by
       cases d with
       | false=>rfl
       | true =>
         obtain ⟨p,hp,hle⟩:=HD.out.1 rfl
         have:=HLOW.out p hp
         omega
      subst hdf
      have hno:¬∃p∈L.take q,i≤p.1:=fun h=>by have:=HD.out.2 h;cases this
      have HQ:Hid (addQ L i n (q+1) false=A++[(x.1,x.2)]):=Lib.hid (by rw [addQ_no HX.out,HHA.out];rfl)
      have HDN:Hid (false=true↔∃p∈L.take (q+1),i≤p.1):=Lib.hid ⟨fun h=>Bool.noConfusion h,fun ⟨p,hp,hle⟩=>by
       rw [getT HX.out] at hp
       rcases List.mem_append.1 hp with hp | hp
       · exact absurd ⟨p,hp,hle⟩ hno
       · simp at hp;subst hp;omega⟩
      have LNX:Hid (A.length≤1000000):=Lib.hid (by omega)
      clear hno
      go_upto_region 10 with fail
      obtain ⟨pb,wz,hpb,hwz,HPZ,hEz⟩:=box_new wn (.cells #[.int .i64 2,.string (ltr x.1),.int .i64 2,.slice none 0 0,.int .i64 x.2] 66)
      have z0:wz.cell? ⟨pb,0,none⟩=some (.int .i64 2):=by rw [cellc HPZ.out];rfl
      have z1:wz.cell? ⟨pb,1,none⟩=some (.string (ltr x.1)):=by rw [cellc HPZ.out];rfl
      have z2:wz.cell? ⟨pb,2,none⟩=some (.int .i64 2):=by rw [cellc HPZ.out];rfl
      have z3:wz.cell? ⟨pb,3,none⟩=some (.slice none 0 0):=by rw [cellc HPZ.out];rfl
      have z4:wz.cell? ⟨pb,4,none⟩=some (.int .i64 x.2):=by rw [cellc HPZ.out];rfl
      have HEz:=Lib.hid (HEn.out.trans hEz)
      have HOz:=Lib.hid (HOn.out.ext hEz)
      have HPB:Hid (w1.heap.size≤pb∧∀c,(Value.slice va A.length vc).ownBlock=some c→c≠pb):=Lib.hid ⟨by have h1:=HEn.out.size;have h2:wn.heap.size=pb:=(by first | exact hpb | exact hpb.symm);omega,fun c hc=>by have h1:=(HOn.out.lt c hc).2;have h2:wn.heap.size=pb:=(by first | exact hpb | exact hpb.symm);omega⟩
      clear hEz
      go_upto_region 11 with fail
      rw [←hwz,←hpb]
      clear hwz hpb p0 p1 p2 p3 p4
      go_upto_region 15 with fail
      obtain ⟨sb,w5,hsb,hw5,HS5,hE5⟩:=box_new wz (.cells #[.int .i64 2,.string (ltr x.1),.int .i64 2,.slice none 0 0,.int .i64 x.2] 66)
      have HE5:=Lib.hid (HEz.out.trans hE5)
      have HO5:=Lib.hid (HOz.out.ext hE5)
      clear hE5
      go_wp2_with (
       at_builtin
       rw [←hw5,←hsb]
       refine wpList_appG (E:=elPw) (T:=66) rfl 28 (.tmp 51) (.tmp 53) rfl rfl rfl Tryz.underlying28 infPw rfl (by decide) (by decide) HO5.out HE5.out.size (fun c h=>absurd h id) LNX.out (M:=[(x.1,x.2)]) (by simp) (pw_e HS5.out HXF.out.1 HXN.out) ?_
       intro v8 w8 o8 g8 k8
       have HO8:=Lib.hid o8
       have HE8:Hid (Ext w1 w8):=Lib.hid (HE5.out.grown g8 (fun q hq=>(HO5.out.lt q hq).1))
       clear o8 g8 k8)
      go_roundw
      case rel=>exact ⟨q+1,false,by go_num,rfl,by omega,HDN.out,HE8,by rw [HQ.out];exact HO8⟩
      case measure=>simp [intOf];omega
  · have hqi:¬(q:Int)<(L.length:Int):=by omega
    have hql:q=L.length:=by omega
    have htk:L.take q=L:=by rw [hql];exact List.take_of_length_le (Nat.le_refl _)
    cases d with
    | true =>
      have HQ:Hid (A=addP L i n):=Lib.hid (by rw [hA];unfold addQ;rw [if_pos rfl,htk])
      clear hA htk hql
      go_wp2_with fail
      go_ret
      exact ⟨_,rfl,HE1.out.trans HE.out,by rw [←HQ.out];exact HO.out.low HE1.out.size⟩
    | false =>
      have HQ:Hid (A++[(i,n)]=addP L i n):=Lib.hid (by
       rw [hA]
       unfold addQ
       rw [if_neg (by decide),htk]
       have:=addP_lt (A:=L) (i:=i) (n:=n) (fun p hp=>by
        by_cases h:p.1<i
        · exact h
        · have:=HD.out.2 ⟨p,by rw [htk];exact hp,by omega⟩
          cases this) []
       rw [List.append_nil] at this
       rw [this];rfl)
      clear hA htk hql
      obtain ⟨nb,w3,hnb,hw3,HN3,hE3⟩:=box_new wr (.cells #[.int .i64 2,.string (ltr i),.int .i64 2,.slice none 0 0,.int .i64 n] 66)
      have HE3:=Lib.hid (HE.out.trans hE3)
      have HO3:=Lib.hid (HO.out.ext hE3)
      clear hE3
      go_upto_region 17 with fail
      go_wp2_with (
       at_builtin
       rw [←hw3,←hnb]
       refine wpList_appG (E:=elPw) (T:=66) rfl 28 (.tmp 57) (.tmp 61) rfl rfl rfl Tryz.underlying28 infPw rfl (by decide) (by decide) HO3.out HE3.out.size (fun c h=>absurd h id) (by omega) (M:=[(i,n)]) (by simp) (pw_e HN3.out hi (by unfold I64;omega)) ?_
       intro v4 w4 o4 g4 k4
       have HO4:=Lib.hid o4
       have HE4:Hid (Ext w1 w4):=Lib.hid (HE3.out.grown g4 (fun q hq=>(HO3.out.lt q hq).1))
       clear o4 g4 k4)
      go_ret
      exact ⟨_,rfl,HE1.out.trans HE4.out,by rw [←HQ.out];exact HO4.out.low HE1.out.size⟩

/-- all powers are within 1000 -/
def rngB (L:List Pw):Bool:=L.all fun p=>decide (-1000≤p.2) && decide (p.2≤1000)
theorem rngB_iff {L:List Pw}:rngB L=true↔Rng 1000 L:=by
 unfold rngB Rng
 rw [List.all_eq_true]
 constructor
 · intro h p hp;have:=h p hp;simp at this;exact this
 · intro h p hp;simp;exact h p hp
theorem rngB_take {L:List Pw} {q:Nat} {x:Pw} (hx:L[q]?=some x):rngB (L.take (q+1))=(rngB (L.take q) && (decide (-1000≤x.2) && decide (x.2≤1000))):=by
 unfold rngB
 rw [getT hx,List.all_append]
 simp
theorem RInRange_any {w:World} {S:Nat→Prop} {a:Option Addr} {cap:Nat} {L:List Pw} (hL:LsG elPw w S (.slice a L.length cap) L) (hl6:L.length≤100) :
 Calls Tryz.prog 56 #[.slice a L.length cap] w fun e w'=>e=.returned (.int .i64 (if rngB L then 0 else 7))∧Ext w w':=by
 obtain ⟨-,hl,hc⟩:=hL.len
 unfold maxLen at hc
 have HL:=Lib.hid hL
 have hl2:¬(200:Int)<(L.length:Int):=by omega
 obtain ⟨z,hz⟩:∃z:Int,z=if rngB L then 0 else 7:=⟨_,rfl⟩
 rw [←hz]
 have HZ:=Lib.hid hz
 clear hL hz
 go_enter Tryz.func56,Tryz.ntmps56
 go_upto_region 2 with fail
 go_loopw [3] (fun iv wr=>∃q:Nat,iv=.int .i64 q∧q≤L.length∧Hid (Ext w wr)∧Hid (rngB (L.take q)=true)) (fun iv _=>L.length-(intOf iv).toNat)
 case atStart=>exact ⟨0,rfl,by omega,Lib.hid (Ext.refl _),Lib.hid rfl⟩
 case round =>
  obtain ⟨q,rfl,hq,HE,HB⟩:=hrel
  by_cases hlt:q<L.length
  · have hqi:(q:Int)<(L.length:Int):=by omega
    have hq0:(0:Int)≤(q:Int):=by omega
    obtain ⟨x,hx⟩:∃x,L[q]?=some x:=⟨_,List.getElem?_eq_getElem hlt⟩
    have HX:=Lib.hid hx
    obtain ⟨b,off,rfl,hb,p0,p1,p2,p3,p4,hx6,hI⟩:=pwAt (HL.out.ext HE.out) hx
    clear hx p0 p1 p2 p3
    by_cases h1:x.2 < -1000
    · have HR:Hid (rngB L=false):=Lib.hid (by
       cases h:rngB L with
       | false=>rfl
       | true=>have:=(rngB_iff.1 h) x (List.mem_of_getElem? HX.out);omega)
      go_wp2_with fail
      go_ret
      have hz7:=HZ.out
      rw [HR.out] at hz7
      exact ⟨by rw [hz7];rfl,HE.out⟩
    · by_cases h2:1000<x.2
      · have HR:Hid (rngB L=false):=Lib.hid (by
         cases h:rngB L with
         | false=>rfl
         | true=>have:=(rngB_iff.1 h) x (List.mem_of_getElem? HX.out);omega)
        go_wp2_with fail
        go_ret
        have hz7:=HZ.out
        rw [HR.out] at hz7
        exact ⟨by rw [hz7];rfl,HE.out⟩
      · have HBN:Hid (rngB (L.take (q+1))=true):=Lib.hid (by rw [rngB_take HX.out,HB.out];simp;omega)
        go_wp2_with fail
        go_roundw
        case rel=>exact ⟨q+1,by go_num,by omega,HE,HBN⟩
        case measure=>simp [intOf];omega
  · have hqi:¬(q:Int)<(L.length:Int):=by omega
    have HR:Hid (rngB L=true):=Lib.hid (by have:=HB.out;rwa [List.take_of_length_le (by omega)] at this)
    go_wp2_with fail
    go_ret
    have hz7:=HZ.out
    rw [HR.out] at hz7
    exact ⟨by rw [hz7];rfl,HE.out⟩
/-- a product, or an error -/
def PwR (w:World) (L:List Pw) (e:Ending) (w':World):Prop :=
 Ext w w'∧((Rng 1000 L∧∃a c,e=.returned (.tuple #[.slice a L.length c,.int .i64 0])∧LsG elPw w' (fun _=>True) (.slice a L.length c) L)∨(¬Rng 1000 L∧e=.returned (.tuple #[.slice none 0 0,.int .i64 7])))
theorem timesP_take {L:List Pw} {n:Int} (hn:n≠0) {q:Nat} {x:Pw} (hx:L[q]?=some x):timesP (L.take (q+1)) n=timesP (L.take q) n++[(x.1,n*x.2)]:=by
 unfold timesP
 rw [if_neg hn,if_neg hn,getT hx,List.map_append]
 rfl
theorem RTimes_any {w:World} {S:Nat→Prop} {a:Option Addr} {cap:Nat} {n:Int} {L:List Pw} (hL:LsG elPw w S (.slice a L.length cap) L) (hG:Good L) (hR:Rng 1000 L) (hn:-1000≤n∧n≤1000) :
 Calls Tryz.prog 20 #[.slice a L.length cap,.int .i64 n] w (PwR w (timesP L n)):=by
 obtain ⟨-,hl,hc⟩:=hL.len
 unfold maxLen at hc
 have h6:=hG.len
 have HV:=Lib.hid (RValidP_any hL hG hR)
 have HL:=Lib.hid hL
 have HG:=Lib.hid hG
 have HR:=Lib.hid hR
 have hn1:¬n < -1000:=by omega
 have hn2:¬(1000:Int)<n:=by omega
 have HTL:Hid ((timesP L n).length≤6):=Lib.hid (timesP_spec hG n).1.len
 clear hL hG hR
 go_enter Tryz.func20,Tryz.ntmps20
 go_wp2_with fail
 refine HV.out.mono ?_
 rintro e w1 ⟨rfl,hE1⟩
 have HE1:=Lib.hid hE1
 clear hE1
 go_upto_region 8 with fail
 go_loopw [7,8] (fun ov iv wr=>∃q:Nat,iv=.int .i64 q∧q≤L.length∧Hid (n=0→q=0)∧Hid (Ext w1 wr)∧Hid (OwnG elPw wr w1.heap.size 66 (fun _=>False) ov (timesP (L.take q) n))) (fun _ iv _=>L.length-(intOf iv).toNat)
 case atStart=>exact ⟨0,rfl,by omega,Lib.hid (fun _=>rfl),Lib.hid (Ext.refl _),Lib.hid (by unfold timesP;split<;>exact OwnG.nil)⟩
 case round =>
  obtain ⟨q,rfl,hq,HQ0,HE,HO⟩:=hrel
  obtain ⟨A,hA⟩:∃A,A=timesP (L.take q) n:=⟨_,rfl⟩
  rw [←hA] at HO
  have hAl:A.length≤6:=by
   rw [hA];unfold timesP;split
   · simp
   · rw [List.length_map,List.length_take];omega
  have HAL:=Lib.hid hAl
  have HA:=Lib.hid hA
  obtain ⟨va,vc,rfl,-,-⟩:=HO.out.slice
  clear hA
  by_cases hlt:q<L.length
  · have hqi:(q:Int)<(L.length:Int):=by omega
    have hq0:(0:Int)≤(q:Int):=by omega
    obtain ⟨x,hx⟩:∃x,L[q]?=some x:=⟨_,List.getElem?_eq_getElem hlt⟩
    have HX:=Lib.hid hx
    by_cases hn0:n=0
    · have HFI:Hid (A=timesP L n):=Lib.hid (by rw [HA.out];unfold timesP;rw [if_pos hn0,if_pos hn0])
      have g0:(n==(0:Int))=true:=by rw [hn0];rfl
      clear hx hn0 hn
      go_upto_region 11 with fail
      have HIR:=Lib.hid (RInRange_any (HO.out.any) (show A.length≤100 by omega))
      have HLS:=Lib.hid HO.out.any
      go_wp2_with fail
      refine HIR.out.mono ?_
      rintro e w5 ⟨rfl,hE5⟩
      have HE5:=Lib.hid (HE1.out.trans (HE.out.trans hE5))
      have HLS5:=Lib.hid (HLS.out.ext hE5)
      clear hE5
      cases hb:rngB A with
      | true =>
        have HB:=Lib.hid hb
        clear hb
        go_wp2_with fail
        go_ret2
        refine ⟨HE5.out,.inl ⟨by rw [←HFI.out];exact rngB_iff.1 HB.out,?_⟩⟩
        rw [←HFI.out]
        exact ⟨_,_,rfl,HLS5.out⟩
      | false =>
        have HB:=Lib.hid hb
        clear hb
        go_wp2_with fail
        go_ret2
        refine ⟨HE5.out,.inr ⟨fun h=>?_,rfl⟩⟩
        rw [←HFI.out] at h
        have:=rngB_iff.2 h
        rw [HB.out] at this
        cases this
    · have g0:(n==(0:Int))=false:=beq_eq_false_iff_ne.2 hn0
      obtain ⟨b,off,rfl,hb,p0,p1,p2,p3,p4,hx6,hI⟩:=pwAt (HL.out.ext (HE1.out.trans HE.out)) hx
      have hxr:=HR.out x (List.mem_of_getElem? hx)
      have hprod:-1000000≤n*x.2∧n*x.2≤1000000:=by
       have h1:(n*x.2).natAbs≤1000*1000:=by
        rw [Int.natAbs_mul]
        exact Nat.mul_le_mul (by omega) (by omega)
       omega
      obtain ⟨m,hm⟩:∃m,m=n*x.2:=⟨_,rfl⟩
      have hwm:IntKind.i64.wrap (n*x.2)=m:=by rw [hm,IntKind.wrap_i64];omega
      have HM:Hid (I64 m∧x.1<6):=Lib.hid ⟨by rw [hm];unfold I64;omega,hx6⟩
      have HN:Hid (timesP (L.take (q+1)) n=A++[(x.1,m)]):=Lib.hid (by rw [timesP_take hn0 HX.out,HA.out,hm])
      have HQ1:Hid (n=0→q+1=0):=Lib.hid (fun h=>absurd h hn0)
      have hEd:Ext wr wr.drew:=Ext.drew wr
      have HED:=Lib.hid (HE.out.trans hEd)
      have HOD:=Lib.hid (HO.out.ext hEd)
      obtain ⟨p0,p1,p2,p3,p4⟩:=cs_e5 hEd ⟨p0,p1,p2,p3,p4⟩
      clear hx hn0 hn hm hprod hxr hEd
      go_upto_region 10 with fail
      go_region_law (refine step_appG (E:=elPw) (T:=66) rfl 28 (.tmp 31) (.tmp 45) rfl rfl rfl Tryz.underlying28 infPw rfl (by decide) (by decide) (HOD.out.ext (by repeat (first | exact Ext.refl _ | exact Ext.alloc _ _ | apply Ext.then_dr | apply Ext.then_drN | apply Ext.then_drN2 | (refine Ext.then_al ?_ _)))) (Nat.le_trans HED.out.size (Ext.size (by repeat (first | exact Ext.refl _ | exact Ext.alloc _ _ | apply Ext.then_dr | apply Ext.then_drN | apply Ext.then_drN2 | (refine Ext.then_al ?_ _))))) (fun c h=>absurd h id) (by have:=HAL.out;omega) (M:=[(x.1,m)]) (by simp) (pw_e hs_new HM.out.2 HM.out.1) ?_;intro v' w' h2 h3 h4;have HE3:=Lib.hid ((HED.out.trans (by repeat (first | exact Ext.refl _ | exact Ext.alloc _ _ | apply Ext.then_dr | apply Ext.then_drN | apply Ext.then_drN2 | (refine Ext.then_al ?_ _)))).grown h3 (fun k hk=>(HO.out.lt k hk).1));have HO2:=Lib.hid h2;clear h2 h3 h4)
      all_goals
       simp only [Act.put,List.getElem_cons_succ,List.getElem_cons_zero]
       go_wp2_with fail
       first
       | (refine ⟨⟨q+1,by go_num,by omega,HQ1,HE3,by rw [HN.out];exact HO2⟩,?_⟩
          simp [intOf];omega)
       | (go_roundw
          case rel=>exact ⟨q+1,by go_num,by omega,HQ1,HE3,by rw [HN.out];exact HO2⟩
          case measure=>simp [intOf];omega)
  · have hqi:¬(q:Int)<(L.length:Int):=by omega
    have HFI:Hid (A=timesP L n):=Lib.hid (by rw [HA.out,List.take_of_length_le (by omega)])
    go_upto_region 11 with fail
    have HIR:=Lib.hid (RInRange_any (HO.out.any) (show A.length≤100 by omega))
    have HLS:=Lib.hid HO.out.any
    go_wp2_with fail
    refine HIR.out.mono ?_
    rintro e w5 ⟨rfl,hE5⟩
    have HE5:=Lib.hid (HE1.out.trans (HE.out.trans hE5))
    have HLS5:=Lib.hid (HLS.out.ext hE5)
    clear hE5
    cases hb:rngB A with
    | true =>
      have HB:=Lib.hid hb
      clear hb
      go_wp2_with fail
      go_ret2
      refine ⟨HE5.out,.inl ⟨by rw [←HFI.out];exact rngB_iff.1 HB.out,?_⟩⟩
      rw [←HFI.out]
      exact ⟨_,_,rfl,HLS5.out⟩
    | false =>
      have HB:=Lib.hid hb
      clear hb
      go_wp2_with fail
      go_ret2
      refine ⟨HE5.out,.inr ⟨fun h=>?_,rfl⟩⟩
      rw [←HFI.out] at h
      have:=rngB_iff.2 h
      rw [HB.out] at this
      cases this
end Go.Proofs.YtclijngnoepbiaaGreat
