/- Contracts: the elimination of exponents: subtract. -/
import Derived.Test.YtclijngnoepbiaaGreatPt3
set_option maxRecDepth 100000
set_option maxHeartbeats 8000000
namespace Go.Proofs.YtclijngnoepbiaaGreat
open Go Go.RowKit
set_option linter.unusedVariables false
set_option linter.unusedSimpArgs false

/-- the state of subtract's inner loop -/
structure InnS (w0 wr:World) (xb:Nat) (c0 c1 c2:Value) (yb:Nat) (Y Z:List Int) (q:Int) (lg0:Bool) (j:Nat) (C:List Int) (lg:Bool):Prop where
 chg:Chg (fun k=>k=yb∨k=xb) w0 wr
 x:wr.heap[xb]?=some (.cells #[c0,c1,c2,.bool lg] 74)
 y:wr.heap[yb]?=some (.cells (intsC C) 3)
 len:C.length=Y.length
 dr:∀i,j≤i→C[i]?=Y[i]?
 rng:RngI C
 ok:lg=false→lg0=false∧∀i<j,C[i]?=(subL Y Z q)[i]?∧∀x,C[i]?=some x→-1099511627776≤x∧x≤1099511627776
theorem InnS.done {w0 wr:World} {xb yb:Nat} {c0 c1 c2:Value} {Y Z C:List Int} {q:Int} {lg0 lg:Bool} (h:InnS w0 wr xb c0 c1 c2 yb Y Z q lg0 Y.length C lg) (hl:Y.length=Z.length):lg=false→lg0=false∧C=subL Y Z q∧B40 C:=by
 intro hlg
 obtain ⟨h1,h2⟩:=h.ok hlg
 have hlen:=h.len
 refine ⟨h1,List.ext_getElem? (fun i=>?_),fun x hx=>?_⟩
 · by_cases hi:i<Y.length
   · exact (h2 i hi).1
   · rw [List.getElem?_eq_none (by omega),List.getElem?_eq_none (by rw [subL_len hl];omega)]
 · obtain ⟨i,hi⟩:=List.mem_iff_getElem?.1 hx
   exact (h2 i (by have:=(List.getElem?_eq_some_iff.1 hi).1;omega)).2 x hi
theorem subL_at {Y Z:List Int} {q:Int} {j:Nat} {a n:Int} (hy:Y[j]?=some a) (hz:Z[j]?=some n):(subL Y Z q)[j]?=some (a-q*n):=by
 unfold subL
 rw [List.getElem?_zipWith,hy,hz]
theorem mul_le_abs {q n d:Int} (h:absI q≤d) (hd:d*absI n≤4611686018427387904):-4611686018427387904≤q*n∧q*n≤4611686018427387904:=by
 have h0:0≤absI n:=by unfold absI;omega
 have h1:absI q*absI n≤d*absI n:=Int.mul_le_mul_of_nonneg_right h h0
 have h2:absI q*absI n=absI (q*n):=by
  rcases absI_cases q with ⟨a1,a2⟩ | ⟨a1,a2⟩<;>rcases absI_cases n with ⟨b1,b2⟩ | ⟨b1,b2⟩<;>rw [a2,b2]
  · have:=Int.mul_nonneg a1 b1;unfold absI;omega
  · have:=Int.mul_nonneg a1 (show 0≤-n by omega);rw [Int.mul_neg] at this ⊢;unfold absI;omega
  · have:=Int.mul_nonneg (show 0≤-q by omega) b1;rw [Int.neg_mul] at this ⊢;unfold absI;omega
  · have:=Int.mul_nonneg (show 0≤-q by omega) (show 0≤-n by omega);rw [Int.neg_mul_neg] at this ⊢;unfold absI;omega
 rw [h2] at h1
 have h3:absI (q*n)≤4611686018427387904:=Int.le_trans h1 hd
 unfold absI at h3
 omega
/-- what subtract leaves -/
def SubR (w:World) (xb:Nat) (c0 c1 c2:Value) (ax:Nat × Nat × Nat) (A B:ERow) (q:Int) (w':World):Prop :=
 ∃ P K lg,Chg (fun k=>k=ax.2.1∨k=ax.2.2∨k=xb) w w'∧w'.heap[xb]?=some (.cells #[c0,c1,c2,.bool lg] 74)∧w'.heap[ax.2.1]?=some (.cells (intsC P) 3)∧w'.heap[ax.2.2]?=some (.cells (intsC K) 3) ∧
   P.length=A.p.length∧K.length=A.k.length∧RngI P∧RngI K∧(lg=false→(P=subL A.p B.p q∧B40 P)∧K=subL A.k B.k q∧B40 K)
theorem B40.rng {L:List Int} (h:B40 L):RngI L:=fun x hx=>by have:=h x hx;unfold I64;omega
theorem InnS.next {w0 wi w':World} {xb yb j:Nat} {c0 c1 c2:Value} {Y Z C:List Int} {q a n v:Int} {lg0 lg lg2:Bool} (h:InnS w0 wi xb c0 c1 c2 yb Y Z q lg0 j C lg) (ha:Y[j]?=some a) (hn:Z[j]?=some n) (hv:v=a-q*n) (hI:I64 v)
 (hc:Chg (fun k=>k=yb∨k=xb) wi w') (hx:w'.heap[xb]?=some (.cells #[c0,c1,c2,.bool lg2] 74)) (hy:w'.heap[yb]?=some (.cells (intsC (C.set j v)) 3)) (hl:lg2=false→lg=false∧-1099511627776≤v∧v≤1099511627776) :
 InnS w0 w' xb c0 c1 c2 yb Y Z q lg0 (j+1) (C.set j v) lg2:=by
 have hlen:=h.len
 have hj:=(List.getElem?_eq_some_iff.1 ha).1
 refine ⟨h.chg.trans hc,hx,hy,by rw [List.length_set];exact hlen,fun i hi=>?_,fun x hx=>?_,fun hlg=>?_⟩
 · rw [List.getElem?_set_ne (by omega)];exact h.dr i (by omega)
 · rcases List.mem_or_eq_of_mem_set hx with h1 | h1
   · exact h.rng x h1
   · rw [h1];exact hI
 · obtain ⟨g1,g2,g3⟩:=hl hlg
   obtain ⟨g4,g5⟩:=h.ok g1
   refine ⟨g4,fun i hi=>?_⟩
   by_cases e:i=j
   · subst e
     rw [List.getElem?_set_self (by omega),subL_at ha hn,hv]
     exact ⟨rfl,fun x hx=>by cases hx;rw [←hv];exact ⟨g2,g3⟩⟩
   · rw [List.getElem?_set_ne (by omega)]
     exact g5 i (by omega)
/-- the state of subtract's outer loop -/
structure SubS (wn wr:World) (xb:Nat) (c0 c1 c2:Value) (pa ka:Nat) (A B:ERow) (q:Int) (s:Nat) (P K:List Int) (lg:Bool):Prop where
 chg:Chg (fun k=>k=pa∨k=ka∨k=xb) wn wr
 x:wr.heap[xb]?=some (.cells #[c0,c1,c2,.bool lg] 74)
 p:wr.heap[pa]?=some (.cells (intsC P) 3)
 k:wr.heap[ka]?=some (.cells (intsC K) 3)
 pl:P.length=A.p.length
 kl:K.length=A.k.length
 rp:RngI P
 rk:RngI K
 p0:s=0→P=A.p
 k0:s≤1→K=A.k
 p1:lg=false→1≤s→P=subL A.p B.p q∧B40 P
 k1:lg=false→2≤s→K=subL A.k B.k q∧B40 K
theorem subtract_any {w:World} {xb:Nat} {c0 c1 c2:Value} {a1 pa ka b1 pb kb:Nat} {A B:ERow} {q:Int} (hx:w.heap[xb]?=some (.cells #[c0,c1,c2,.bool false] 74))
 (hA:RowAt w (a1,pa,ka) A) (hB:RowAt w (b1,pb,kb) B) (bA:B40 A.p∧B40 A.k) (bB:B40 B.p∧B40 B.k) (lp:A.p.length=B.p.length) (lk:A.k.length=B.k.length) (l6:A.p.length≤1000∧A.k.length≤1000) (hq:-1099511627776≤q∧q≤1099511627776)
 (hd:[xb,a1,pa,ka,b1,pb,kb].Nodup) :
 Calls Tryz.prog 95 #[.pointer (some ⟨xb,0,none⟩),.pointer (some ⟨a1,0,none⟩),.pointer (some ⟨b1,0,none⟩),.int .i64 q] w fun e w'=>e=.returned (.tuple #[])∧SubR w xb c0 c1 c2 (a1,pa,ka) A B q w':=by
 have r0:w.cell? ⟨a1,0,none⟩=some (.slice (some ⟨pa,0,none⟩) A.p.length A.p.length):=by rw [cellc hA.row];rfl
 have r1:w.cell? ⟨a1,1,none⟩=some (.slice (some ⟨ka,0,none⟩) A.k.length A.k.length):=by rw [cellc hA.row];rfl
 have s0:w.cell? ⟨b1,0,none⟩=some (.slice (some ⟨pb,0,none⟩) B.p.length B.p.length):=by rw [cellc hB.row];rfl
 have s1:w.cell? ⟨b1,1,none⟩=some (.slice (some ⟨kb,0,none⟩) B.k.length B.k.length):=by rw [cellc hB.row];rfl
 simp only [List.nodup_cons,List.mem_cons,List.not_mem_nil,or_false,not_or,not_false_eq_true,List.nodup_nil,and_true] at hd
 have HD:=Lib.hid hd
 have HX:=Lib.hid hx
 have HA:=Lib.hid hA
 have HB:=Lib.hid hB
 have HBA:=Lib.hid bA
 have HBB:=Lib.hid bB
 have HLP:=Lib.hid (And.intro lp lk)
 rw [←lp] at s0
 rw [←lk] at s1
 obtain ⟨hl1,hl2⟩:=l6
 clear hx hA hB bA bB lp lk hd
 go_enter Tryz.func95,Tryz.ntmps95
 go_upto_region 0 with fail
 have HFCT:=Lib.hid (And.intro r0 (And.intro r1 (And.intro s0 s1)))
 refine wp_region_reg 21 false (by kernel_rfl) (by kernel_rfl) ?_
 refine reg_value (fun _=>rfl) ?_ (fun g w' vs hM hE hP=>?_) ?_
 rotate_left
 · (clear hP hM;have ⟨z0,z1,z2,z3⟩:=cs_e4 hE HFCT.out;go_simp;first | done | rfl)
 refine reg_value (fun _=>rfl) ?_ (fun g w' vs hM hE hP=>?_) ?_
 rotate_left
 · (clear hP hM;have ⟨z0,z1,z2,z3⟩:=cs_e4 hE HFCT.out;go_simp;first | done | rfl)
 refine reg_value (fun _=>rfl) ?_ (fun g w' vs hM hE hP=>?_) ?_
 rotate_left
 · (clear hP hM;have ⟨z0,z1,z2,z3⟩:=cs_e4 hE HFCT.out;go_simp;first | done | rfl)
 refine reg_value (fun _=>rfl) ?_ (fun g w' vs hM hE hP=>?_) ?_
 rotate_left
 · (clear hP hM;have ⟨z0,z1,z2,z3⟩:=cs_e4 hE HFCT.out;go_simp;first | done | rfl)
 refine reg_value (fun _=>rfl) ?_ (fun g w' vs hM hE hP=>?_) ?_
 rotate_left
 · (clear hP hM;have ⟨z0,z1,z2,z3⟩:=cs_e4 hE HFCT.out;go_simp;first | done | rfl)
 refine reg_value (fun _=>rfl) ?_ (fun g w' vs hM hE hP=>?_) ?_
 rotate_left
 · (clear hP hM;have ⟨z0,z1,z2,z3⟩:=cs_e4 hE HFCT.out;go_simp;first | done | rfl)
 refine reg_value (fun _=>rfl) ?_ (fun g w' vs hM hE hP=>?_) ?_
 rotate_left
 · (clear hP hM;have ⟨z0,z1,z2,z3⟩:=cs_e4 hE HFCT.out;go_simp;first | done | rfl)
 refine reg_value (fun _=>rfl) ?_ (fun g w' vs hM hE hP=>?_) ?_
 rotate_left
 · (clear hP hM;have ⟨z0,z1,z2,z3⟩:=cs_e4 hE HFCT.out;go_simp;first | done | rfl)
 refine reg_value (fun _=>rfl) ?_ (fun g w' vs hM hE hP=>?_) ?_
 rotate_left
 · (clear hP hM;have ⟨z0,z1,z2,z3⟩:=cs_e4 hE HFCT.out;go_simp;first | done | rfl)
 refine reg_value (fun _=>rfl) ?_ (fun g w' vs hM hE hP=>?_) ?_
 rotate_left
 · (clear hP hM;have ⟨z0,z1,z2,z3⟩:=cs_e4 hE HFCT.out;go_simp;first | done | rfl)
 refine reg_value (fun _=>rfl) ?_ (fun g w' vs hM hE hP=>?_) ?_
 rotate_left
 · (clear hP hM;have ⟨z0,z1,z2,z3⟩:=cs_e4 hE HFCT.out;go_simp;first | done | rfl)
 refine reg_value (fun _=>rfl) ?_ (fun g w' vs hM hE hP=>?_) ?_
 rotate_left
 · (clear hP hM;have ⟨z0,z1,z2,z3⟩:=cs_e4 hE HFCT.out;go_simp;first | done | rfl)
 refine reg_value (fun _=>rfl) ?_ (fun g w' vs hM hE hP=>?_) ?_
 rotate_left
 · (clear hP hM;have ⟨z0,z1,z2,z3⟩:=cs_e4 hE HFCT.out;go_simp;first | done | rfl)
 refine reg_value (fun _=>rfl) ?_ (fun g w' vs hM hE hP=>?_) ?_
 rotate_left
 · (clear hP hM;have ⟨z0,z1,z2,z3⟩:=cs_e4 hE HFCT.out;go_simp;first | done | rfl)
 refine reg_value (fun _=>rfl) ?_ (fun g w' vs hM hE hP=>?_) ?_
 rotate_left
 · (clear hP hM;have ⟨z0,z1,z2,z3⟩:=cs_e4 hE HFCT.out;go_simp;first | done | rfl)
 refine reg_value (fun _=>rfl) ?_ (fun g w' vs hM hE hP=>?_) ?_
 rotate_left
 · (clear hP hM;have ⟨z0,z1,z2,z3⟩:=cs_e4 hE HFCT.out;go_simp;first | done | rfl)
 refine reg_value (fun _=>rfl) ?_ (fun g w' vs hM hE hP=>?_) ?_
 rotate_left
 · (clear hP hM;have ⟨z0,z1,z2,z3⟩:=cs_e4 hE HFCT.out;go_simp;first | done | rfl)
 refine reg_value (fun _=>rfl) ?_ (fun g w' vs hM hE hP=>?_) ?_
 rotate_left
 · (clear hP hM;have ⟨z0,z1,z2,z3⟩:=cs_e4 hE HFCT.out;go_simp;first | done | rfl)
 refine reg_fresh (fun _=>rfl) (fun n=>.slice (some ⟨n,0,none⟩) 2 2) ?_ (fun g w' vs hM hE hP=>?_) ?_
 rotate_left
 · (clear hP hM;have ⟨z0,z1,z2,z3⟩:=cs_e4 hE HFCT.out;go_simp;first | done | rfl | exact ⟨rfl,rfl⟩)
 refine reg_value (fun _=>rfl) ?_ (fun g w' vs hM hE hP=>?_) ?_
 rotate_left
 · (clear hP hM;have ⟨z0,z1,z2,z3⟩:=cs_e4 hE HFCT.out;go_simp;first | done | rfl)
 refine reg_value (fun _=>rfl) ?_ (fun g w' vs hM hE hP=>?_) ?_
 rotate_left
 · (clear hP hM;have ⟨z0,z1,z2,z3⟩:=cs_e4 hE HFCT.out;go_simp;first | done | rfl)
 intro g wn hEn hFn hQn
 simp only [List.drop_succ_cons,List.drop_zero,Act.put,List.setIfInBounds_toArray,List.set_cons_succ,List.set_cons_zero]
 obtain ⟨-,hfs,-⟩:=hFn
 have hbl:=(hfs _ List.mem_cons_self).1
 obtain ⟨sb,hsb⟩:∃sb,sb=(g 18).n:=⟨_,rfl⟩
 rw [←hsb] at hbl ⊢
 have hsz:w.heap.size≤sb:=by
  have:=(hfs _ List.mem_cons_self).2
  rw [←hsb] at this
  exact Nat.le_trans (World.size_drew w ▸ Nat.le_refl _) this
 have hxl:=(Array.getElem?_eq_some_iff.1 HX.out).1
 have hpl:=(Array.getElem?_eq_some_iff.1 HA.out.pw).1
 have hkl:=(Array.getElem?_eq_some_iff.1 HA.out.ks).1
 have HSB:=Lib.hid hbl
 have HSZ:Hid (w.heap.size≤sb∧xb<w.heap.size∧pa<w.heap.size∧ka<w.heap.size):=Lib.hid ⟨hsz,hxl,hpl,hkl⟩
 have HEn:=Lib.hid hEn
 have HS0:Hid (∃P K lg,SubS wn wn xb c0 c1 c2 pa ka A B q 0 P K lg):=Lib.hid ⟨A.p,A.k,false,Chg.refl _ _,hs_ext hEn HX.out,hs_ext hEn HA.out.pw,hs_ext hEn HA.out.ks,rfl,rfl,HBA.out.1.rng,HBA.out.2.rng,fun _=>rfl,fun _=>rfl,fun _ h=>by omega,fun _ h=>by omega⟩
 clear hEn hQn hfs hbl hsb hsz hxl hpl hkl r0 r1 s0 s1
 go_upto_region 1 with fail
 go_loopw [9,10,11,32,39] (fun _ _ _ sv _ wr=>∃s:Nat,sv=.int .i64 s∧s≤2∧Hid (∃P K lg,SubS wn wr xb c0 c1 c2 pa ka A B q s P K lg)) (fun _ _ _ sv _ _=>2-(intOf sv).toNat)
 case atStart=>exact ⟨0,rfl,by omega,HS0⟩
 case round =>
  obtain ⟨s,rfl,hs,HS⟩:=hrel
  obtain ⟨P,K,lg,hS⟩:=HS.out
  have HSS:=Lib.hid hS
  clear HS hS
  have hch:∀(M:Nat→Prop) (w3 w'':World),Ext wr w3→Chg M w3 w''→(∀k,M k→k=pa∨k=ka∨k=xb)→Chg (fun k=>k=pa∨k=ka∨k=xb) wn w'':=fun M w3 w'' hE hC hM=>(HSS.out.chg.trans (Chg.of hE)).trans (hC.wide (fun k _ h=>hM k h))
  have HCH:=Lib.hid hch
  clear hch
  by_cases hs2:s<2
  · obtain ⟨YB,ZB,YY,ZZ,e0,e1,HYA,HZA,HDI,HBY,HLQ,hNN,HRES,HNEX⟩:∃(YB ZB:Nat) (YY ZZ:List Int),wr.cell? ⟨sb,s*2,none⟩=some (.slice (some ⟨YB,0,none⟩) YY.length YY.length)∧wr.cell? ⟨sb,s*2+1,none⟩=some (.slice (some ⟨ZB,0,none⟩) YY.length YY.length) ∧
     Hid (wr.heap[YB]?=some (.cells (intsC YY) 3))∧Hid (wr.heap[ZB]?=some (.cells (intsC ZZ) 3))∧Hid (¬ZB=YB∧¬ZB=xb∧¬YB=xb∧¬xb=YB∧YB<w.heap.size)∧Hid (B40 YY∧B40 ZZ)∧Hid (YY.length=ZZ.length)∧YY.length≤1000 ∧
     Hid (∀w3 w'' C,Ext wr w3→Chg (fun k=>k=YB∨k=xb) w3 w''→w''.heap[xb]?=some (.cells #[c0,c1,c2,.bool true] 74)→w''.heap[YB]?=some (.cells (intsC C) 3)→C.length=YY.length→RngI C→SubR w xb c0 c1 c2 (a1,pa,ka) A B q w'') ∧
     Hid (∀w3 w'' C lg2,Ext wr w3→Chg (fun k=>k=YB∨k=xb) w3 w''→w''.heap[xb]?=some (.cells #[c0,c1,c2,.bool lg2] 74)→w''.heap[YB]?=some (.cells (intsC C) 3)→C.length=YY.length→RngI C→(lg2=false→lg=false∧C=subL YY ZZ q∧B40 C)→∃P K lg,SubS wn w'' xb c0 c1 c2 pa ka A B q (s+1) P K lg):=by
     have hcell:=HSS.out.chg.keep HSB.out (by have:=HSZ.out;omega)
     have hd:=HD.out
     have hz:=HSZ.out
     rcases (by omega:s=0∨s=1) with hs0 | hs0
     · refine ⟨pa,pb,A.p,B.p,by rw [hs0,cellc hcell];rfl,by rw [hs0,cellc hcell];rfl,Lib.hid (by have:=HSS.out.p;rwa [HSS.out.p0 hs0] at this),Lib.hid (HSS.out.chg.keep (hs_ext HEn.out HB.out.pw) (by omega)),Lib.hid (by omega),Lib.hid ⟨HBA.out.1,HBB.out.1⟩,Lib.hid HLP.out.1,hl1,
        Lib.hid (fun w3 w'' C h0 h1 h2 h3 h4 h5=>⟨C,K,true,(Chg.of HEn.out).trans (HCH.out _ _ _ h0 h1 (fun k h=>by have h':k=pa∨k=xb:=h;omega)),h2,h3,h1.keep (hs_ext h0 HSS.out.k) (by show ¬(ka=pa∨ka=xb);omega),h4,HSS.out.kl,h5,HSS.out.rk,fun h=>by cases h⟩),
        Lib.hid (fun w3 w'' C lg2 h0 h1 h2 h3 h4 h5 h6=>⟨C,K,lg2,HCH.out _ _ _ h0 h1 (fun k h=>by have h':k=pa∨k=xb:=h;omega),h2,h3,h1.keep (hs_ext h0 HSS.out.k) (by show ¬(ka=pa∨ka=xb);omega),h4,HSS.out.kl,h5,HSS.out.rk,fun h=>by omega,fun _=>HSS.out.k0 (by omega),fun h _=>(h6 h).2,fun _ h=>by omega⟩)⟩
     · refine ⟨ka,kb,A.k,B.k,by rw [hs0,cellc hcell];rfl,by rw [hs0,cellc hcell];rfl,Lib.hid (by have:=HSS.out.k;rwa [HSS.out.k0 (by omega)] at this),Lib.hid (HSS.out.chg.keep (hs_ext HEn.out HB.out.ks) (by omega)),Lib.hid (by omega),Lib.hid ⟨HBA.out.2,HBB.out.2⟩,Lib.hid HLP.out.2,hl2,
        Lib.hid (fun w3 w'' C h0 h1 h2 h3 h4 h5=>⟨P,C,true,(Chg.of HEn.out).trans (HCH.out _ _ _ h0 h1 (fun k h=>by have h':k=ka∨k=xb:=h;omega)),h2,h1.keep (hs_ext h0 HSS.out.p) (by show ¬(pa=ka∨pa=xb);omega),h3,HSS.out.pl,h4,HSS.out.rp,h5,fun h=>by cases h⟩),
        Lib.hid (fun w3 w'' C lg2 h0 h1 h2 h3 h4 h5 h6=>⟨P,C,lg2,HCH.out _ _ _ h0 h1 (fun k h=>by have h':k=ka∨k=xb:=h;omega),h2,h1.keep (hs_ext h0 HSS.out.p) (by show ¬(pa=ka∨pa=xb);omega),h3,HSS.out.pl,h4,HSS.out.rp,h5,fun h=>by omega,fun h=>by omega,fun h _=>HSS.out.p1 (h6 h).1 (by omega),fun h _=>(h6 h).2⟩)⟩
    have hsi:(s:Int)<2:=by omega
    have hsi0:(0:Int)≤(s:Int):=by omega
    obtain ⟨qb,w3,hqb,hw3,HQ3,hE3⟩:=box_new wr (.cells #[.slice (some ⟨YB,0,none⟩) YY.length YY.length,.slice (some ⟨ZB,0,none⟩) YY.length YY.length] 143)
    have q0:w3.cell? ⟨qb,0,none⟩=some (.slice (some ⟨YB,0,none⟩) YY.length YY.length):=by rw [cellc HQ3.out];rfl
    have q1:w3.cell? ⟨qb,1,none⟩=some (.slice (some ⟨ZB,0,none⟩) YY.length YY.length):=by rw [cellc HQ3.out];rfl
    have HE3:=Lib.hid hE3
    have HRES:=Lib.hid (fun w'' C=>HRES.out w3 w'' C HE3.out)
    have HNEX:=Lib.hid (fun w'' C l=>HNEX.out w3 w'' C l HE3.out)
    have HNQ:Hid (¬(qb=YB∨qb=xb)):=Lib.hid (by have h1:=HSZ.out;have h0:=HDI.out;have h2:=HEn.out.size;have h3:=HSS.out.chg.size;have h4:wr.heap.size=qb:=(by first | exact hqb | exact hqb.symm);omega)
    have HZB:Hid (w3.heap[ZB]?=some (.cells (intsC ZZ) 3)):=Lib.hid (hs_ext hE3 HZA.out)
    have HI0:Hid (∃C lg',InnS w3 w3 xb c0 c1 c2 YB YY ZZ q lg 0 C lg'):=Lib.hid ⟨YY,lg,Chg.refl _ _,hs_ext hE3 HSS.out.x,hs_ext hE3 HYA.out,rfl,fun _ _=>rfl,HBY.out.1.rng,fun h=>⟨h,fun i hi=>by omega⟩⟩
    clear hE3
    go_upto_region 4 with fail
    rw [←hw3,←hqb]
    clear hw3 hqb e0 e1
    go_loopw [10,11,39] (fun _ _ jv wi=>∃j:Nat,jv=.int .i64 j∧j≤YY.length∧Hid (∃C lg',InnS w3 wi xb c0 c1 c2 YB YY ZZ q lg j C lg')) (fun _ _ jv _=>YY.length-(intOf jv).toNat)
    case atStart=>exact ⟨0,rfl,by omega,HI0⟩
    case round =>
     obtain ⟨j,rfl,hj,HI⟩:=hrel
     obtain ⟨C,lg2,hI⟩:=HI.out
     have HINN:=Lib.hid hI
     clear HI hI
     have HQI:=Lib.hid (HINN.out.chg.keep HQ3.out HNQ.out)
     have q0:wr.cell? ⟨qb,0,none⟩=some (.slice (some ⟨YB,0,none⟩) YY.length YY.length):=by rw [cellc (HINN.out.chg.keep HQ3.out HNQ.out)];rfl
     have q1:wr.cell? ⟨qb,1,none⟩=some (.slice (some ⟨ZB,0,none⟩) YY.length YY.length):=by rw [cellc (HINN.out.chg.keep HQ3.out HNQ.out)];rfl
     by_cases hlt:j<YY.length
     · have hji:(j:Int)<(YY.length:Int):=by omega
       have hj0:(0:Int)≤(j:Int):=by omega
       obtain ⟨a,ha⟩:∃a,YY[j]?=some a:=⟨_,List.getElem?_eq_getElem hlt⟩
       obtain ⟨n,hn⟩:∃n,ZZ[j]?=some n:=⟨_,List.getElem?_eq_getElem (by have:=HLQ.out;omega)⟩
       have har:=HBY.out.1 a (List.mem_of_getElem? ha)
       have hnr:=HBY.out.2 n (List.mem_of_getElem? hn)
       have zc:wr.cell? ⟨ZB,j,none⟩=some (.int .i64 n):=intsC_at (HINN.out.chg.keep HZB.out (by have:=HDI.out;omega)) hn
       have yc:wr.cell? ⟨YB,j,none⟩=some (.int .i64 a):=intsC_at HINN.out.y (by rw [HINN.out.dr j (Nat.le_refl _)];exact ha)
       have HAJ:=Lib.hid ha
       have HNJ:=Lib.hid hn
       have HNR:=Lib.hid hnr
       obtain ⟨m,hm⟩:∃m,m=q*n:=⟨_,rfl⟩
       obtain ⟨v,hv⟩:∃v,v=a-m:=⟨_,rfl⟩
       clear ha hn hnr
       by_cases hn0:n=0
       · subst hn0
         have fy:wr.frozen? ⟨YB,j,none⟩=false:=frozenc HINN.out.y
         have HYW:=Lib.hid HINN.out.y
         have HXW:=Lib.hid HINN.out.x
         have HCW:Hid (Chg (fun k=>k=YB∨k=xb) wr wr):=Lib.hid (Chg.refl _ _)
         have hwa:IntKind.i64.wrap a=a:=by rw [IntKind.wrap_i64];omega
         have HMV:Hid (a=a-q*0∧I64 a∧-9223372036854775808<a∧a≤9223372036854775807):=Lib.hid ⟨by omega,by unfold I64;omega,by omega,by omega⟩
         clear har hm hv
         go_upto_region 9 with fail
         go_upto_region 10 with fail
         obtain ⟨wy,hwy⟩:∃wy,wy=wr.setCell ⟨YB,j,none⟩ (.int .i64 a):=⟨_,rfl⟩
         have hyy:wy.heap[YB]?=some (.cells (intsC (C.set j a)) 3):=by rw [hwy];exact intsC_store HYW.out
         have hxx:wy.heap[xb]?=some (.cells #[c0,c1,c2,.bool lg2] 74):=by rw [hwy];exact (heap_setCell_other _ _ _ _ (by have:=HDI.out;show xb≠YB;omega)).trans HXW.out
         have hcy:Chg (fun k=>k=YB∨k=xb) wr wy:=by rw [hwy];exact HCW.out.set (.inl rfl) _
         have u0:wy.cell? ⟨qb,0,none⟩=some (.slice (some ⟨YB,0,none⟩) YY.length YY.length):=by rw [cellc (hcy.keep HQI.out HNQ.out)];rfl
         have u3:wy.cell? ⟨xb,3,none⟩=some (.bool lg2):=by rw [cellc hxx];rfl
         have fu:wy.frozen? ⟨xb,3,none⟩=false:=frozenc hxx
         have uy:wy.cell? ⟨YB,j,none⟩=some (.int .i64 a):=intsC_at hyy (by rw [List.getElem?_set_self (by rw [HINN.out.len];omega)])
         rw [←hwy]
         have HYY:=Lib.hid hyy
         have HXX:=Lib.hid hxx
         have HCY:=Lib.hid hcy
         clear hwy hyy hxx hcy
         cases lg2 with
         | true =>
           have HNX:Hid (∃C lg',InnS w3 (wy.setCell ⟨xb,3,none⟩ (.bool true)) xb c0 c1 c2 YB YY ZZ q lg (j+1) C lg'):=Lib.hid ⟨C.set j a,true,HINN.out.next HAJ.out HNJ.out HMV.out.1 HMV.out.2.1 (HCY.out.set (.inr rfl) _) (by rw [heap_setCell_same _ _ _ _ _ _ HXX.out];rfl) ((heap_setCell_other _ _ _ _ (by have:=HDI.out;show YB≠xb;omega)).trans HYY.out) (fun h=>by cases h)⟩
           go_wp2_with fail
           go_roundw
           case rel=>exact ⟨j+1,by go_num,by omega,HNX⟩
           case measure=>simp [intOf];omega
         | false =>
           have HABS:=Lib.hid (abs_any (w:=wy) HMV.out.2.2)
           obtain ⟨z,hz⟩:∃z,z=absI a:=⟨_,rfl⟩
           rw [←hz] at HABS
           have HZ:=Lib.hid hz
           clear hz
           go_wp2_with fail
           refine HABS.out.mono ?_
           rintro e wz ⟨rfl,hEz⟩
           have HEZ:=Lib.hid hEz
           have fz:wz.frozen? ⟨xb,3,none⟩=false:=frozenc (hs_ext hEz HXX.out)
           have u3:=cs_ext hEz u3
           clear hEz u0 fu uy
           obtain ⟨t,ht⟩:∃t:Bool,t=decide (1099511627776<z):=⟨_,rfl⟩
           have HNX:Hid (∃C lg',InnS w3 (wz.setCell ⟨xb,3,none⟩ (.bool t)) xb c0 c1 c2 YB YY ZZ q lg (j+1) C lg'):=Lib.hid ⟨C.set j a,t,HINN.out.next HAJ.out HNJ.out HMV.out.1 HMV.out.2.1 ((HCY.out.trans (Chg.of HEZ.out)).set (.inr rfl) _) (by rw [heap_setCell_same _ _ _ _ _ _ (hs_ext HEZ.out HXX.out)];rfl) ((heap_setCell_other _ _ _ _ (by have:=HDI.out;show YB≠xb;omega)).trans (hs_ext HEZ.out HYY.out)) (fun h=>⟨rfl,by rw [ht] at h;have h:=of_decide_eq_false h;rw [HZ.out] at h;unfold absI at h;omega⟩)⟩
           have hdec:decide (1099511627776<z)=t:=ht.symm
           clear ht
           go_wp2_with fail
           go_roundw
           case rel=>exact ⟨j+1,by go_num,by omega,HNX⟩
           case measure=>simp [intOf];omega
       · have g0:(n==(0:Int))=false:=beq_eq_false_iff_ne.2 hn0
         obtain ⟨zq,hzq⟩:∃zq,zq=absI q:=⟨_,rfl⟩
         obtain ⟨zn,hzn⟩:∃zn,zn=absI n:=⟨_,rfl⟩
         have hzn1:1≤zn∧zn≤1099511627776:=by have:=HNR.out;rw [hzn];unfold absI;omega
         obtain ⟨d,hdd⟩:∃d,d=Int.tdiv 4611686018427387904 zn:=⟨_,rfl⟩
         have hdd2:d=4611686018427387904 / zn:=by rw [hdd];exact Int.tdiv_eq_ediv_of_nonneg (by omega)
         have hdz:d*zn≤4611686018427387904∧0≤d∧d≤4611686018427387904:=by
          rw [hdd2]
          refine ⟨Int.ediv_mul_le _ (by omega),Int.ediv_nonneg (by omega) (by omega),?_⟩
          exact Int.ediv_le_self _ (by omega)
         have hdv:Int.tdiv 4611686018427387904 zn=d:=hdd.symm
         have hwd:IntKind.i64.wrap d=d:=by rw [IntKind.wrap_i64];omega
         have hz0:(zn==(0:Int))=false:=beq_eq_false_iff_ne.2 (by omega)
         have hz1:¬zn=0:=by omega
         have HABQ:=Lib.hid (fun (w':World)=>abs_any (w:=w') (x:=q) (by omega))
         have HABN:=Lib.hid (fun (w':World)=>abs_any (w:=w') (x:=n) (by have:=HNR.out;omega))
         rw [←hzq] at HABQ
         rw [←hzn] at HABN
         have HMD:Hid (zq≤d→-4611686018427387904≤q*n∧q*n≤4611686018427387904):=Lib.hid (fun h=>by rw [hzq] at h;refine mul_le_abs h ?_;rw [←hzn];exact hdz.1)
         have HDZ:=Lib.hid (And.intro hdz hzn1)
         have g1:(n != (0:Int))=true:=by simp [bne,g0]
         clear hzq hzn hdd hdd2 hdz hzn1
         go_upto_region 7 with fail
         go_wp2_with fail
         refine (HABQ.out wr).mono ?_
         rintro e we ⟨rfl,hEe⟩
         obtain ⟨q0,q1,yc,zc⟩:=cs_e4 hEe ⟨q0,q1,yc,zc⟩
         go_wp2_with fail
         refine (HABN.out we).mono ?_
         rintro e wf ⟨rfl,hEf⟩
         obtain ⟨q0,q1,yc,zc⟩:=cs_e4 hEf ⟨q0,q1,yc,zc⟩
         have HEF:=Lib.hid (hEe.trans hEf)
         clear hEe hEf
         have HYW:=Lib.hid (hs_ext HEF.out HINN.out.y)
         have HXW:=Lib.hid (hs_ext HEF.out HINN.out.x)
         have HCW:Hid (Chg (fun k=>k=YB∨k=xb) wr wf):=Lib.hid (Chg.of HEF.out)
         by_cases hqd:d<zq
         · have fx:wf.frozen? ⟨xb,3,none⟩=false:=frozenc HXW.out
           have x3:wf.cell? ⟨xb,3,none⟩=some (.bool lg2):=by rw [cellc HXW.out];rfl
           have HSR:Hid (SubR w xb c0 c1 c2 (a1,pa,ka) A B q (wf.setCell ⟨xb,3,none⟩ (.bool true))):=Lib.hid (HRES.out _ C ((HINN.out.chg.trans HCW.out).set (.inr rfl) _) (by rw [heap_setCell_same _ _ _ _ _ _ HXW.out];rfl) ((heap_setCell_other _ _ _ _ (by have:=HDI.out;show YB≠xb;omega)).trans HYW.out) HINN.out.len HINN.out.rng)
           clear hm hv
           go_wp2_with fail
           refine bodyPost_ret (results_none rfl _ _ _) rfl ?_
           exact ⟨rfl,HSR.out⟩
         · have hmul:=HMD.out (by omega)
           have fy:wf.frozen? ⟨YB,j,none⟩=false:=frozenc HYW.out
           have hwm:IntKind.i64.wrap (q*n)=m:=by rw [hm,IntKind.wrap_i64];omega
           have hws:IntKind.i64.wrap (a-m)=v:=by rw [hv,IntKind.wrap_i64];omega
           have HMV:Hid (v=a-q*n∧I64 v∧-9223372036854775808<v∧v≤9223372036854775807):=Lib.hid ⟨by rw [hv,hm],by rw [hv];unfold I64;omega,by omega,by omega⟩
           clear hm hv hmul har
           go_upto_region 9 with fail
           go_upto_region 10 with fail
           obtain ⟨wy,hwy⟩:∃wy,wy=wf.setCell ⟨YB,j,none⟩ (.int .i64 v):=⟨_,rfl⟩
           have hyy:wy.heap[YB]?=some (.cells (intsC (C.set j v)) 3):=by rw [hwy];exact intsC_store HYW.out
           have hxx:wy.heap[xb]?=some (.cells #[c0,c1,c2,.bool lg2] 74):=by rw [hwy];exact (heap_setCell_other _ _ _ _ (by have:=HDI.out;show xb≠YB;omega)).trans HXW.out
           have hcy:Chg (fun k=>k=YB∨k=xb) wr wy:=by rw [hwy];exact HCW.out.set (.inl rfl) _
           have u0:wy.cell? ⟨qb,0,none⟩=some (.slice (some ⟨YB,0,none⟩) YY.length YY.length):=by rw [cellc (hcy.keep HQI.out HNQ.out)];rfl
           have u3:wy.cell? ⟨xb,3,none⟩=some (.bool lg2):=by rw [cellc hxx];rfl
           have fu:wy.frozen? ⟨xb,3,none⟩=false:=frozenc hxx
           have uy:wy.cell? ⟨YB,j,none⟩=some (.int .i64 v):=intsC_at hyy (by rw [List.getElem?_set_self (by rw [HINN.out.len];omega)])
           rw [←hwy]
           have HYY:=Lib.hid hyy
           have HXX:=Lib.hid hxx
           have HCY:=Lib.hid hcy
           clear hwy hyy hxx hcy
           cases lg2 with
           | true =>
             have HNX:Hid (∃C lg',InnS w3 (wy.setCell ⟨xb,3,none⟩ (.bool true)) xb c0 c1 c2 YB YY ZZ q lg (j+1) C lg'):=Lib.hid ⟨C.set j v,true,HINN.out.next HAJ.out HNJ.out HMV.out.1 HMV.out.2.1 (HCY.out.set (.inr rfl) _) (by rw [heap_setCell_same _ _ _ _ _ _ HXX.out];rfl) ((heap_setCell_other _ _ _ _ (by have:=HDI.out;show YB≠xb;omega)).trans HYY.out) (fun h=>by cases h)⟩
             go_wp2_with fail
             go_roundw
             case rel=>exact ⟨j+1,by go_num,by omega,HNX⟩
             case measure=>simp [intOf];omega
           | false =>
             have HABS:=Lib.hid (abs_any (w:=wy) HMV.out.2.2)
             obtain ⟨z,hz⟩:∃z,z=absI v:=⟨_,rfl⟩
             rw [←hz] at HABS
             have HZ:=Lib.hid hz
             clear hz
             go_wp2_with fail
             refine HABS.out.mono ?_
             rintro e wz ⟨rfl,hEz⟩
             have HEZ:=Lib.hid hEz
             have fz:wz.frozen? ⟨xb,3,none⟩=false:=frozenc (hs_ext hEz HXX.out)
             have u3:=cs_ext hEz u3
             clear hEz u0 fu uy
             obtain ⟨t,ht⟩:∃t:Bool,t=decide (1099511627776<z):=⟨_,rfl⟩
             have HNX:Hid (∃C lg',InnS w3 (wz.setCell ⟨xb,3,none⟩ (.bool t)) xb c0 c1 c2 YB YY ZZ q lg (j+1) C lg'):=Lib.hid ⟨C.set j v,t,HINN.out.next HAJ.out HNJ.out HMV.out.1 HMV.out.2.1 ((HCY.out.trans (Chg.of HEZ.out)).set (.inr rfl) _) (by rw [heap_setCell_same _ _ _ _ _ _ (hs_ext HEZ.out HXX.out)];rfl) ((heap_setCell_other _ _ _ _ (by have:=HDI.out;show YB≠xb;omega)).trans (hs_ext HEZ.out HYY.out)) (fun h=>⟨rfl,by rw [ht] at h;have h:=of_decide_eq_false h;rw [HZ.out] at h;unfold absI at h;omega⟩)⟩
             have hdec:decide (1099511627776<z)=t:=ht.symm
             clear ht
             go_wp2_with fail
             go_roundw
             case rel=>exact ⟨j+1,by go_num,by omega,HNX⟩
             case measure=>simp [intOf];omega
     · have hji:¬(j:Int)<(YY.length:Int):=by omega
       have hjn:j=YY.length:=by omega
       have HNXT:Hid (∃P K lg,SubS wn wr xb c0 c1 c2 pa ka A B q (s+1) P K lg):=Lib.hid (HNEX.out _ C lg2 HINN.out.chg HINN.out.x HINN.out.y HINN.out.len HINN.out.rng (by have h:=HINN.out;rw [hjn] at h;exact h.done HLQ.out))
       clear hjn
       go_wp2_with fail
       go_roundw
       case rel=>exact ⟨s+1,by go_num,by omega,by exact HNXT⟩
       case measure=>simp [intOf];omega
  · have hs0:s=2:=by omega
    have HFR:Hid (SubR w xb c0 c1 c2 (a1,pa,ka) A B q wr):=Lib.hid (⟨P,K,lg,(Chg.of HEn.out).trans HSS.out.chg,HSS.out.x,HSS.out.p,HSS.out.k,HSS.out.pl,HSS.out.kl,HSS.out.rp,HSS.out.rk,fun h=>⟨HSS.out.p1 h (by omega),HSS.out.k1 h (by omega)⟩⟩)
    have hsi:¬(s:Int)<2:=by omega
    clear hs0
    go_wp2_with fail
    go_end0
    exact ⟨rfl,HFR.out⟩
end Go.Proofs.YtclijngnoepbiaaGreat
