/- Contracts: the elimination of exponents: the character with a value for a column. Contracts: the elimination of exponents: a character modulo a prime. Contracts: the elimination of exponents: prime. -/
import Derived.Test.YtclijngnoepbiaaGreatPt7
import Derived.Test.YtclijngnoepbiaaGreatPt9
import Derived.Laws.MakeOwn
set_option maxRecDepth 100000
set_option maxHeartbeats 8000000
namespace Go.Proofs.YtclijngnoepbiaaGreat
open Go Go.RowKit
set_option linter.unusedVariables false
set_option linter.unusedSimpArgs false

theorem made_zeroI (n:Nat):madeCells (Value.int .i64 0).cells n=intsC (List.replicate n 0):=by
 unfold intsC
 apply Array.ext
 · simp [size_madeCells]
 · intro i h1 h2
   simp [madeCells,Value.cells,Nat.mod_one]
theorem run_makeI (w:World) (n:Nat) (hn:n≤1000000):(Instr.makeSlice 35 (.int .i64 (n:Int)) (.int .i64 (n:Int))).run Tryz.prog w=.ok (.slice (some ⟨w.heap.size,0,none⟩) n n) (w.alloc (.cells (intsC (List.replicate n 0)) 3)):=by
 obtain ⟨i0,hi0,hi1,hi2,hi3⟩:=info_parts (show (Tryz.prog.info? 3).map (fun i=>(i.zero,i.size,i.bytes))=some (some (.int .i64 0),1,8) by kernel_rfl)
 have hmk:=run_makeSlice (P:=Tryz.prog) w 35 3 i0 _ Tryz.underlying35 hi0 hi1 .i64 .i64 (n:Int) (n:Int) (by omega) (by omega) (by rw [hi2];simp;omega) (by rw [hi3];omega) (by omega)
 rw [hi2,Int.toNat_natCast,Nat.mul_one,made_zeroI] at hmk
 exact hmk
/-- columns in memory: atoms -/
structure ColW (w:World) (ca:Option Addr) (X:List Nat):Prop where
 atom:∀(i x:Nat),X[i]?=some x→x<6∧∃b off,ca=some ⟨b,off,none⟩∧b<w.heap.size∧w.cell? ⟨b,off+i*4,none⟩=some (.int .i64 2)∧w.cell? ⟨b,off+i*4+1,none⟩=some (.string (ltr x))∧w.cell? ⟨b,off+i*4+2,none⟩=some (.int .i64 2)∧w.cell? ⟨b,off+i*4+3,none⟩=some (.slice none 0 0)
theorem ColW.ext {w w':World} {ca:Option Addr} {X:List Nat} (h:ColW w ca X) (hE:Ext w w'):ColW w' ca X :=
 ⟨fun i x hi=>by
  obtain ⟨h6,b,off,e,hb,c0,c1,c2,c3⟩:=h.atom i x hi
  exact ⟨h6,b,off,e,Nat.lt_of_lt_of_le hb hE.size,cs_ext hE c0,cs_ext hE c1,cs_ext hE c2,cs_ext hE c3⟩⟩
/-- the factors of a character whose value is not zero -/
def chrQ (Z:List Pw) (i:Nat):List Pw:=(Z.take i).filter (fun p=>p.2 != 0)
theorem chrQ_len (Z:List Pw) (i:Nat):(chrQ Z i).length≤i:=Nat.le_trans (List.length_filter_le _ _) (List.length_take_le _ _)
theorem chrQ_yes {Z:List Pw} {i:Nat} {p:Pw} (h:Z[i]?=some p) (hp:p.2≠0):chrQ Z (i+1)=chrQ Z i++[p]:=by
 unfold chrQ
 rw [getT h,List.filter_append]
 simp [hp]
theorem chrQ_no {Z:List Pw} {i:Nat} {p:Pw} (h:Z[i]?=some p) (hp:p.2=0):chrQ Z (i+1)=chrQ Z i:=by
 unfold chrQ
 rw [getT h,List.filter_append]
 simp [hp]
theorem sizChr:(Tryz.prog.info? 47).map (·.size)=some 2:=by kernel_rfl
theorem ret_chr {F:Func} {p g:Nat} {tmps:Array Value} {w:World} {cs:Array Value} {R:Ending→World→Prop} (hr:F.results=#[.cell p 47]) (hp:tmps.getD p undef=.pointer (some ⟨g,0,none⟩)) (hg:w.heap[g]?=some (.cells cs 47)) (hs:cs.size=2) (h:R (.returned (.agg cs)) w) :
 bodyPost Tryz.prog F R .ret ⟨tmps,[]⟩ w :=
 bodyPost_ret (results_cell_row hr tmps w g _ cs _ _ hp hg Tryz.underlying47 rfl (by rw [hs];exact sizChr)) rfl h
theorem wpList_storeC {ops:Array Oper} {rest:List Oper} {o:Oper} {a:Act} {w:World} {Q:Exit→Act→World→Prop} (hgd:o.guard=none) (x y:Operand) (ho:o.op=.store 47 x y)
 {g:Nat} (hx:a.eval x=.pointer (some ⟨g,0,none⟩)) {k:Int} {ka:Option Addr} {kl kc:Nat} (hy:a.eval y=.agg #[.int .i64 k,.slice ka kl kc])
 {old:Array Value} (hg:w.heap[g]?=some (.cells old 47)) (ho2:old.size=2)
 (hK:∀w',w'.heap[g]?=some (.cells #[.int .i64 k,.slice ka kl kc] 47)→(∀q,q≠g→w'.heap[q]?=w.heap[q]?)→(∀W0,Ext W0 w→W0.heap.size≤g→Ext W0 w')→w'.heap.size=w.heap.size→wpList Tryz.prog ops Q rest (a.put o.dst undef) w') :
 wpList Tryz.prog ops Q (o :: rest) a w:=by
 refine wpList_store_all hgd 47 x y ho g _ hx hy 47 old hg sizChr ho2 (by simp [Value.oneCell']) ?_
 exact hK _ (setRow_heap w g old _ _ _ hg) (fun q hq=>setRow_other w g q _ hq) (fun W0 h hg=>h.setRow hg _) (size_setRow _ _ _)
/-- the values under way -/
structure ChrI (w wr:World) (cb vb n:Nat) (M:Int) (V:List Int):Prop where
 ext:Ext w wr
 res:wr.heap[cb]?=some (.cells #[.int .i64 0,.slice none 0 0] 47)
 blk:wr.heap[vb]?=some (.cells (intsC V) 3)
 len:V.length=n
 rng:∀x∈V,0≤x∧x<M
theorem ChrI.next {w wr w':World} {cb vb n:Nat} {M:Int} {V:List Int} (h:ChrI w wr cb vb n M V) (hE:Ext wr w'):ChrI w w' cb vb n M V :=
 ⟨h.ext.trans hE,hs_ext hE h.res,hs_ext hE h.blk,h.len,h.rng⟩
theorem ChrI.put {w wr:World} {cb vb n c:Nat} {M z:Int} {V:List Int} (h:ChrI w wr cb vb n M V) (h1:w.heap.size≤vb) (h2:cb≠vb) (h3:0≤z) (h4:z<M):ChrI w (wr.setCell ⟨vb,c,none⟩ (.int .i64 z)) cb vb n M (V.set c z) :=
 ⟨h.ext.setCell h1 _,by rw [heap_setCell_other _ _ _ _ h2];exact h.res,intsC_store h.blk,by rw [List.length_set];exact h.len,fun x hx=>by
  rcases List.mem_or_eq_of_mem_set hx with h5 | h5
  · exact h.rng x h5
  · rw [h5];exact ⟨h3,h4⟩⟩
theorem echar_any {w:World} {B:XeB} {R:List ERow} {P:List Int} {lg:Bool} {G:List (List Int)} {n cc j fk:Nat} {env:Array Value} {ca:Option Addr} {X:List Nat} {v M:Int} {Inv:Nat→List Int→Prop}
 (hE:XeAt w B R P lg) (hI:EInv n G n R P) (hcv:B.cv=.slice ca n cc) (hX:ColW w ca X) (hXl:X.length=n) (hn:n≤1000) (hj:j<n) (hv:0≤v) (hM:0<M) (hMb:M≤4611686018427387904)
 (hfk:∀a w,Sem.run Tryz.prog (callFunc fk a) w=.ok (.enter fk a) w) (h0:Inv j ((List.replicate n 0).set j (v % M))) (hskip:∀c V,c<j→Inv (c+1) V→gt P c=-1→Inv c V)
 (hcall:∀(w':World) (c:Nat) (V:List Int) (vb i:Nat) (ad:Nat × Nat × Nat) (r:ERow),Ext w w'→c<j→Inv (c+1) V→gt P c=i→R[i]?=some r→RowAt w' ad r→w'.heap[vb]?=some (.cells (intsC V) 3)→V.length=n→(∀x∈V,0≤x∧x<M) →
   Calls Tryz.prog fk (env++#[.pointer (some ⟨ad.1,0,none⟩),.int .i64 c,.slice (some ⟨vb,0,none⟩) n n,.int .i64 M]) w' fun e w''=>∃z:Int,e=.returned (.int .i64 z)∧0≤z∧z<M∧Inv c (V.set c z)∧Ext w' w'') :
 Calls Tryz.prog 36 #[.pointer (some ⟨B.xb,0,none⟩),.int .i64 j,.int .i64 v,.int .i64 M,.func (.func fk) env #[]] w fun e w'=>∃vv V,e=.returned (.agg #[.int .i64 M,vv])∧Ext w w'∧Inv 0 V∧V.length=n∧(∀x∈V,0≤x∧x<M)∧OwnG elPw w' w.heap.size 66 (fun _=>False) vv (chrQ (X.zip V) n):=by
 obtain ⟨xb,hxb⟩:∃xb,xb=B.xb:=⟨_,rfl⟩
 rw [←hxb]
 have HX0:Hid (∀w',Ext w w'→w'.cell? ⟨xb,0,none⟩=some (.slice ca n cc)):=Lib.hid (fun w' hE'=>by rw [hxb];exact cs_ext hE' (by rw [cellc hE.x,←hcv];rfl))
 have HX1:Hid (∀w',Ext w w'→w'.cell? ⟨xb,1,none⟩=some (.slice B.ro R.length B.rc)):=Lib.hid (fun w' hE'=>by rw [hxb];exact cs_ext hE' (by rw [cellc hE.x];rfl))
 have HX2:Hid (∀w',Ext w w'→w'.cell? ⟨xb,2,none⟩=some (.slice B.po n B.pc)):=Lib.hid (fun w' hE'=>by rw [hxb];exact cs_ext hE' (by rw [cellc hE.x,←hI.pl];rfl))
 have HXE:=Lib.hid hE
 have HI:=Lib.hid hI
 have HXC:=Lib.hid hX
 have HXL:=Lib.hid hXl
 have HSK:=Lib.hid hskip
 have HCA:=Lib.hid hcall
 have HFK:=Lib.hid hfk
 have x0:=HX0.out w (Ext.refl _)
 clear hE hI hcv hX hXl hskip hcall hxb hfk
 obtain ⟨cb,w1,hcb,hw1,HCB,hE1⟩:=box_new w (.cells #[.int .i64 0,.slice none 0 0] 47)
 obtain ⟨vb,hvb⟩:∃vb,vb=w1.heap.size:=⟨_,rfl⟩
 obtain ⟨w2,hw2⟩:∃w2,w2=w1.alloc (.cells (intsC (List.replicate n 0)) 3):=⟨_,rfl⟩
 have hmk:(Instr.makeSlice 35 (.int .i64 (n:Int)) (.int .i64 (n:Int))).run Tryz.prog w1=.ok (.slice (some ⟨vb,0,none⟩) n n) w2:=by rw [hw2,hvb];exact run_makeI w1 n (by omega)
 have hE2:Ext w1 w2:=by rw [hw2];exact Ext.alloc _ _
 have hsz:cb=w.heap.size∧vb=cb+1:=⟨hcb,by rw [hvb,hw1,World.size_alloc,hcb]⟩
 have hvblk:w2.heap[vb]?=some (.cells (intsC (List.replicate n 0)) 3):=by rw [hw2,hvb];exact hs_new
 obtain ⟨z0,hz0⟩:∃z0,z0=v % M:=⟨_,rfl⟩
 have hz0r:0≤z0∧z0<M:=by rw [hz0];exact ⟨Int.emod_nonneg _ (by omega),Int.emod_lt_of_pos _ hM⟩
 rw [←hz0] at h0
 have HCI0:Hid (ChrI w w2 cb vb n M (List.replicate n 0)):=Lib.hid ⟨hE1.trans hE2,hs_ext hE2 HCB.out,hvblk,by simp,fun x hx=>by rw [List.eq_of_mem_replicate hx];omega⟩
 have HCI1:=Lib.hid (HCI0.out.put (c:=j) (z:=z0) (by omega) (by omega) hz0r.1 hz0r.2)
 have HIN:=Lib.hid h0
 have t1:Int.tmod v M=z0:=by rw [hz0];exact Int.tmod_eq_emod_of_nonneg hv
 have x0:=cs_ext hE1 x0
 have vc:w2.cell? ⟨vb,j,none⟩=some (.int .i64 0):=intsC_at hvblk (by rw [List.getElem?_replicate,if_pos hj])
 have vf:w2.frozen? ⟨vb,j,none⟩=false:=frozenc hvblk
 have hjz:(j:Int)<(n:Int):=by omega
 have hj0:(0:Int)≤(j:Int):=by omega
 have t2:IntKind.i64.wrap ((j:Int)-1)=(j:Int)-1:=by rw [IntKind.wrap_i64];omega
 have d1:¬M=0:=by omega
 have d2:(M==0)=false:=beq_eq_false_iff_ne.2 d1
 have HSZ:=Lib.hid hsz
 have hlt2:¬n > 1000000:=by omega
 clear h0 hz0 hvblk hE1 hE2 hsz hvb hw2
 go_enter Tryz.func36,Tryz.ntmps36
 go_upto_region 1 with fail
 rw [←hw1,←hcb]
 clear hw1 hcb
 go_upto_region 4 with fail
 obtain ⟨w3,hw3⟩:∃w3,w3=w2.setCell ⟨vb,j,none⟩ (.int .i64 z0):=⟨_,rfl⟩
 rw [←hw3] at HCI1
 rw [←hw3]
 clear hw3 vc vf x0 hmk HCI0 HCB t1
 go_loopw [12] (fun cv wr=>∃(k:Nat) (V:List Int),cv=.int .i64 ((k:Int)-1)∧k≤j∧Hid (ChrI w wr cb vb n M V)∧Hid (Inv k V)) (fun cv _=>(intOf cv+1).toNat)
 case atStart=>exact ⟨j,_,rfl,Nat.le_refl _,HCI1,HIN⟩
 case round =>
  obtain ⟨k,V,rfl,hk,HC,HIV⟩:=hrel
  rcases Nat.eq_zero_or_pos k with hk0 | hk0
  · have hkz:¬(0:Int)≤(k:Int)-1:=by omega
    rw [hk0] at HIV
    clear hk0
    obtain ⟨ob,wo,hob,hwo,HOB,hEo⟩:=box_new wr (.cells #[.int .i64 M,.slice none 0 0] 47)
    have HCO:=Lib.hid (HC.out.next hEo)
    have HEO:Hid (Ext w wo):=Lib.hid (HC.out.ext.trans hEo)
    have HLO:Hid (cb<ob∧vb<ob):=Lib.hid (by rw [hob];exact ⟨(Array.getElem?_eq_some_iff.1 HC.out.res).1,(Array.getElem?_eq_some_iff.1 HC.out.blk).1⟩)
    have HOS:Hid (w.heap.size≤ob):=Lib.hid (by rw [hob];exact HC.out.ext.size)
    have HBV:=Lib.hid (And.intro HC.out.len HC.out.rng)
    clear hEo
    go_upto_region 10 with fail
    rw [←hwo,←hob]
    clear hwo hob
    obtain ⟨Z,hZ⟩:∃Z,Z=X.zip V:=⟨_,rfl⟩
    have HZ:=Lib.hid hZ
    have HO0:Hid (OwnG elPw wo (ob+1) 66 (fun _=>False) (.slice none 0 0) (chrQ Z 0)):=Lib.hid OwnG.nil
    have HOO:=Lib.hid HOB.out
    clear HC HOB
    go_loopw [14,15,67] (fun x14 x15 kv wq=>∃(q:Nat) (va:Option Addr) (vc:Nat),kv=.int .i64 q∧q≤n∧Hid (ChrI w wq cb vb n M V)∧Hid (wq.heap[ob]?=some (.cells #[.int .i64 M,.slice va (chrQ Z q).length vc] 47))∧Hid (OwnG elPw wq (ob+1) 66 (fun _=>False) (.slice va (chrQ Z q).length vc) (chrQ Z q))) (fun _ _ kv _=>n-(intOf kv).toNat)
    case atStart=>exact ⟨0,none,0,rfl,by omega,HCO,HOO,HO0⟩
    case round =>
     obtain ⟨q,va,vc,rfl,hq,HCQ,HOQ,HRQ⟩:=hrel
     by_cases hlt:q<n
     · have hqz:(q:Int)<(n:Int):=by omega
       have hq0:(0:Int)≤(q:Int):=by omega
       obtain ⟨x,hx⟩:∃x,X[q]?=some x:=⟨_,List.getElem?_eq_getElem (by rw [HXL.out];exact hlt)⟩
       obtain ⟨h6,b,off,rfl,hb,p0,p1,p2,p3⟩:=(HXC.out.ext HCQ.out.ext).atom q x hx
       obtain ⟨z,hz⟩:∃z,z=gt V q:=⟨_,rfl⟩
       have hzq:Z[q]?=some (x,z):=by rw [hZ,List.getElem?_zip_eq_some];exact ⟨hx,by rw [hz];exact gt_at (by rw [HBV.out.1];exact hlt)⟩
       have vq:wr.cell? ⟨vb,q,none⟩=some (.int .i64 z):=by rw [hz];exact intsC_at HCQ.out.blk (gt_at (by rw [HBV.out.1];exact hlt))
       have hzr:=HBV.out.2 z (by rw [hz];exact gt_mem (by rw [HBV.out.1];exact hlt))
       have t5:IntKind.i64.wrap ((q:Int)+1)=((q+1:Nat):Int):=by rw [IntKind.wrap_i64];omega
       by_cases hz0:z=0
       · have d3:(z==(0:Int))=true:=beq_iff_eq.2 hz0
         have d4:decide (z=0)=true:=decide_eq_true hz0
         have HNQ:=Lib.hid (chrQ_no hzq hz0)
         clear hx hz hzq hz0 hZ p0 p1 p2 p3
         go_wp2_with fail
         go_roundw
         case rel=>exact ⟨q+1,va,vc,rfl,by omega,HCQ,by rw [HNQ.out];exact HOQ,by rw [HNQ.out];exact HRQ⟩
         case measure=>simp [intOf];omega
       · have d3:(z==(0:Int))=false:=beq_eq_false_iff_ne.2 hz0
         have d4:decide (z=0)=false:=decide_eq_false hz0
         have HNQ:=Lib.hid (chrQ_yes hzq hz0)
         have HCL:=Lib.hid (fun (w':World)=>xclone_atm (w:=w') (i:=x))
         unfold atmV at HCL
         have y0:=HX0.out wr HCQ.out.ext
         have o1:wr.cell? ⟨ob,1,none⟩=some (.slice va (chrQ Z q).length vc):=by rw [cellc HOQ.out];rfl
         have HW:Hid (x<6∧I64 z):=Lib.hid ⟨h6,by unfold I64;omega⟩
         obtain ⟨C,hC⟩:∃C,C=chrQ Z q:=⟨_,rfl⟩
         rw [←hC] at o1 HOQ HRQ HNQ
         have HCLN:Hid (C.length≤1000):=Lib.hid (by rw [hC];have:=chrQ_len Z q;omega)
         clear hx hz hzq hz0 hZ hzr hC
         go_upto_region 13 with fail
         have HFCT:=Lib.hid (And.intro o1 (And.intro y0 (And.intro p0 (And.intro p1 (And.intro p2 p3)))))
         refine wp_region_reg 13 false (by kernel_rfl) (by kernel_rfl) ?_
         refine reg_value (fun _=>rfl) ?_ (fun g w' vs hM hE hP=>?_) ?_
         rotate_left
         · (clear hP hM;have ⟨z0,z1,z2,z3,z4,z5⟩:=cs_e6 hE HFCT.out;go_simp;first | done | rfl)
         refine reg_value (fun _=>rfl) ?_ (fun g w' vs hM hE hP=>?_) ?_
         rotate_left
         · (clear hP hM;have ⟨z0,z1,z2,z3,z4,z5⟩:=cs_e6 hE HFCT.out;go_simp;first | done | rfl)
         refine reg_value (fun _=>rfl) ?_ (fun g w' vs hM hE hP=>?_) ?_
         rotate_left
         · (clear hP hM;have ⟨z0,z1,z2,z3,z4,z5⟩:=cs_e6 hE HFCT.out;go_simp;first | done | rfl)
         refine reg_value (fun _=>rfl) ?_ (fun g w' vs hM hE hP=>?_) ?_
         rotate_left
         · (clear hP hM;have ⟨z0,z1,z2,z3,z4,z5⟩:=cs_e6 hE HFCT.out;go_simp;first | done | rfl)
         refine reg_value (fun _=>rfl) ?_ (fun g w' vs hM hE hP=>?_) ?_
         rotate_left
         · (clear hP hM;have ⟨z0,z1,z2,z3,z4,z5⟩:=cs_e6 hE HFCT.out;go_simp;first | done | rfl)
         refine reg_value (fun _=>rfl) ?_ (fun g w' vs hM hE hP=>?_) ?_
         rotate_left
         · (clear hP hM;have ⟨z0,z1,z2,z3,z4,z5⟩:=cs_e6 hE HFCT.out;go_simp;first | done | rfl)
         refine reg_value (fun _=>rfl) ?_ (fun g w' vs hM hE hP=>?_) ?_
         rotate_left
         · (clear hP hM;have ⟨z0,z1,z2,z3,z4,z5⟩:=cs_e6 hE HFCT.out;go_simp;first | done | rfl)
         refine reg_value (fun _=>rfl) ?_ (fun g w' vs hM hE hP=>?_) ?_
         rotate_left
         · (clear hP hM;have ⟨z0,z1,z2,z3,z4,z5⟩:=cs_e6 hE HFCT.out;go_simp;first | done | rfl)
         refine reg_value (fun _=>rfl) ?_ (fun g w' vs hM hE hP=>?_) ?_
         rotate_left
         · (clear hP hM;have ⟨z0,z1,z2,z3,z4,z5⟩:=cs_e6 hE HFCT.out;go_simp;first | done | rfl)
         refine reg_const (fun _=>rfl) 24 ?_ (fun g w' vs hM hE hP=>?_) ?_
         rotate_left
         · (clear hP hM;have ⟨z0,z1,z2,z3,z4,z5⟩:=cs_e6 hE HFCT.out;go_simp;first | done | exact ⟨rfl,rfl⟩ | rfl)
         apply Exists.intro
         refine And.intro (fun g w' vs hM hE hP=>?_) ?_
         · exact HCL.out _
         refine reg_value (fun _=>rfl) ?_ (fun g w' vs hM hE hP=>?_) ?_
         rotate_left
         · (clear hP hM;have ⟨z0,z1,z2,z3,z4,z5⟩:=cs_e6 hE HFCT.out;go_simp;first | done | rfl)
         refine reg_value (fun _=>rfl) ?_ (fun g w' vs hM hE hP=>?_) ?_
         rotate_left
         · (clear hP hM;have ⟨z0,z1,z2,z3,z4,z5⟩:=cs_e6 hE HFCT.out;go_simp;first | done | rfl)
         refine reg_fresh (fun _=>rfl) (fun n=>.slice (some ⟨n,0,none⟩) 1 1) ?_ (fun g w' vs hM hE hP=>?_) ?_
         rotate_left
         · (clear hP hM;have ⟨z0,z1,z2,z3,z4,z5⟩:=cs_e6 hE HFCT.out;go_simp;first | done | rfl | exact ⟨rfl,rfl⟩)
         intro g w5 hE5 hF hQ
         simp only [List.drop_succ_cons,List.drop_zero,Act.put,List.setIfInBounds_toArray,List.set_cons_succ,List.set_cons_zero]
         obtain ⟨hf,-⟩:=hF.2.1 _ List.mem_cons_self
         obtain ⟨e,he⟩:∃e,e=(g 12).n:=⟨_,rfl⟩
         rw [←he]
         have hf:w5.heap[e]?=some (.cells #[.int .i64 2,.string (ltr x),.int .i64 2,.slice none 0 0,.int .i64 z] 66):=by rw [he];exact hf
         have HLS:Hid (LsE elPw w5 (fun _=>False) (.slice (some ⟨e,0,none⟩) 1 1) [(x,z)]):=Lib.hid (pw_e hf HW.out.1 HW.out.2)
         have HR5:=Lib.hid (HRQ.out.ext hE5)
         have HO5:=Lib.hid (hs_ext hE5 HOQ.out)
         have HC5:=Lib.hid (HCQ.out.next hE5)
         have HOL:Hid (ob<w5.heap.size):=Lib.hid (Array.getElem?_eq_some_iff.1 HO5.out).1
         have HCV:Hid (cb<ob∧vb<ob):=Lib.hid HLO.out
         clear hF hQ hf he hE5 o1 y0 p0 p1 p2 p3
         refine wpList_appG (E:=elPw) (T:=66) rfl 28 (.tmp 75) (.tmp 86) rfl rfl rfl Tryz.underlying28 infPw rfl (by decide) (by decide) HR5.out HOL.out (fun c h=>absurd h id) (by have:=HCLN.out;omega) (M:=[(x,z)]) (by simp) HLS.out ?_
         intro v8 w8 o8 g8 k8
         have hob8:=(g8.block ob HOL.out (fun e=>by have:=(HR5.out.lt ob e.symm).1;omega)).trans HO5.out
         have hcb8:=(g8.block cb (by have:=HOL.out;have:=HCV.out;omega) (fun e=>by have:=(HR5.out.lt cb e.symm).1;have:=HCV.out;omega)).trans HC5.out.res
         have hvb8:=(g8.block vb (by have:=HOL.out;have:=HCV.out;omega) (fun e=>by have:=(HR5.out.lt vb e.symm).1;have:=HCV.out;omega)).trans HC5.out.blk
         have HE8:=Lib.hid (Ext.grown HC5.out.ext g8 (fun c hc=>by have:=(HR5.out.lt c hc).1;have:=HOS.out;omega))
         obtain ⟨va8,vc8,rfl,-,-⟩:=id o8.slice
         have v1:w8.cell? ⟨ob,1,none⟩=some (.slice va C.length vc):=by rw [cellc hob8];rfl
         have vf:w8.frozen? ⟨ob,1,none⟩=false:=frozenc hob8
         have hl9:(C++[(x,z)]).length=C.length+1:=by simp
         rw [hl9] at o8
         obtain ⟨w9,hw9⟩:∃w9,w9=w8.setCell ⟨ob,1,none⟩ (.slice va8 (C.length+1) vc8):=⟨_,rfl⟩
         have hoth:∀q,q≠ob→w9.heap[q]?=w8.heap[q]?:=fun q h=>by rw [hw9];exact heap_setCell_other _ _ _ _ h
         have HB9:Hid (w9.heap[ob]?=some (.cells #[.int .i64 M,.slice va8 (C.length+1) vc8] 47)):=Lib.hid (by rw [hw9,heap_setCell_same w8 ob 1 _ _ _ hob8];rfl)
         have HC9:Hid (ChrI w w9 cb vb n M V):=Lib.hid ⟨by rw [hw9];exact HE8.out.setCell HOS.out _,by rw [hoth _ (by have:=HCV.out;omega)];exact hcb8,by rw [hoth _ (by have:=HCV.out;omega)];exact hvb8,HBV.out.1,HBV.out.2⟩
         have HR9:Hid (OwnG elPw w9 (ob+1) 66 (fun _=>False) (.slice va8 (C.length+1) vc8) (C++[(x,z)])):=Lib.hid (o8.keep (fun c hc=>hoth c (by have:=(o8.lt c hc).1;omega)) (fun c h=>absurd h id) (fun c h=>absurd h id))
         have HW9:=Lib.hid hw9
         have HL9:=Lib.hid hl9
         clear o8 g8 k8 hob8 hcb8 hvb8 hoth hw9 hl9
         go_wp2_with fail
         rw [←HW9.out]
         go_roundw
         case rel=>exact ⟨q+1,va8,vc8,rfl,by omega,HC9,by rw [HNQ.out,HL9.out];exact HB9,by rw [HNQ.out,HL9.out];exact HR9⟩
         case measure=>simp [intOf];omega
     · have hqz:¬(q:Int)<(n:Int):=by omega
       have hqn:q=n:=by omega
       have o0:wr.cell? ⟨ob,0,none⟩=some (.int .i64 M):=by rw [cellc HOQ.out];rfl
       have o1:wr.cell? ⟨ob,1,none⟩=some (.slice va (chrQ Z q).length vc):=by rw [cellc HOQ.out];rfl
       have HFI:Hid (OwnG elPw wr (ob+1) 66 (fun _=>False) (.slice va (chrQ Z q).length vc) (chrQ (X.zip V) n)):=Lib.hid (by have h:=HRQ.out;rw [hqn] at h ⊢;rw [←HZ.out];exact h)
       clear hqn hZ
       go_wp2_with (refine wpList_storeC rfl (.tmp 10) (.tmp 90) rfl rfl rfl HCQ.out.res rfl ?_)
       intro w9 h9 hoth hE9 hs9
       go_wp2_with fail
       have hcb:=HSZ.out
       have hlo:=HLO.out
       exact ret_chr (g:=cb) rfl rfl h9 rfl ⟨_,V,rfl,hE9 w HCQ.out.ext (by omega),HIV.out,HBV.out.1,HBV.out.2,(HFI.out.keep (fun c hc=>hoth c (by have:=(HFI.out.lt c hc).1;omega)) (fun c h=>absurd h id) (fun c h=>absurd h id)).low (by omega)⟩
  · obtain ⟨c,rfl⟩:∃c,k=c+1:=⟨k-1,by omega⟩
    have hcn:c<n:=by omega
    have e1:((c+1:Nat):Int)-1=(c:Int):=by omega
    rw [e1]
    have hkz:(0:Int)≤(c:Int):=by omega
    have hcz:(c:Int)<(n:Int):=by omega
    have t3:IntKind.i64.wrap ((c:Int)-1)=(c:Int)-1:=by rw [IntKind.wrap_i64];omega
    have y2:=HX2.out wr HC.out.ext
    have HXR:=Lib.hid (HXE.out.ext HC.out.ext)
    obtain ⟨pcell,hpo⟩:=HXR.out.pcell (c:=c) (by rw [HI.out.pl];exact hcn)
    rw [hpo] at y2
    obtain ⟨pg,hpg⟩:∃pg,pg=B.pg:=⟨_,rfl⟩
    rw [←hpg] at pcell y2
    clear hpo hpg
    rcases HI.out.piv c hcn with hp | ⟨i,r,hp,hr,hru,hr0,hrz⟩
    · have HIV2:=Lib.hid (HSK.out c V (by omega) HIV.out hp)
      rw [hp] at pcell
      clear hp
      go_wp2_with fail
      go_roundw
      case rel=>exact ⟨c,V,rfl,by omega,HC,HIV2⟩
      case measure=>simp [intOf]
    · have hil:i<R.length:=(List.getElem?_eq_some_iff.1 hr).1
      obtain ⟨ad,had,hrow,rc0,hro⟩:=HXR.out.adr hr
      obtain ⟨rg,hrg⟩:∃rg,rg=B.rg:=⟨_,rfl⟩
      have y1:=HX1.out wr HC.out.ext
      rw [hro] at y1
      rw [←hrg] at y1 rc0
      obtain ⟨l,hl⟩:∃l,l=R.length:=⟨_,rfl⟩
      rw [←hl] at y1 hil
      have hilz:(i:Int)<(l:Int):=by omega
      have hi0:(0:Int)≤(i:Int):=by omega
      obtain ⟨s1,hs1⟩:∃s1,s1=ad.1:=⟨_,rfl⟩
      have HCALL:=Lib.hid (fun (w':World) (hE:Ext wr w')=>hs1 ▸ HCA.out w' c V vb i ad r (HC.out.ext.trans hE) (by omega) HIV.out hp hr (by exact ⟨hs_ext hE hrow.row,hs_ext hE hrow.pw,hs_ext hE hrow.ks⟩) (hs_ext hE HC.out.blk) HC.out.len HC.out.rng)
      rw [←hs1] at rc0
      rw [hp] at pcell
      clear hp hr hru hr0 hrz had hrow hro hrg hl hs1
      go_upto_region 7 with fail
      have HFCT:=Lib.hid (And.intro y1 (And.intro y2 (And.intro pcell rc0)))
      refine wp_region_reg 21 false (by kernel_rfl) (by kernel_rfl) ?_
      refine reg_value (fun _=>rfl) ?_ (fun g w' vs hM hE hP=>?_) ?_
      rotate_left
      · (clear hP hM;have ⟨z0,z1,z2,z3⟩:=cs_e4 hE HFCT.out;go_simp;first | done | rfl)
      refine reg_value (fun _=>rfl) ?_ (fun g w' vs hM hE hP=>?_) ?_
      rotate_left
      · (clear hP hM;have ⟨z0,z1,z2,z3⟩:=cs_e4 hE HFCT.out;go_simp;first | done | rfl)
      refine reg_value (fun _=>rfl) ?_ (fun g w' vs hM hE hP=>?_) ?_
      rotate_left
      · (clear hP hM;have ⟨z0,z1,z2,z3⟩:=cs_e4 hE HFCT.out;go_simp;first | done | rfl)
      refine reg_value (fun _=>rfl) ?_ (fun g w' vs hM hE hP=>?_) ?_
      rotate_left
      · (clear hP hM;have ⟨z0,z1,z2,z3⟩:=cs_e4 hE HFCT.out;go_simp;first | done | rfl)
      refine reg_value (fun _=>rfl) ?_ (fun g w' vs hM hE hP=>?_) ?_
      rotate_left
      · (clear hP hM;have ⟨z0,z1,z2,z3⟩:=cs_e4 hE HFCT.out;go_simp;first | done | rfl)
      refine reg_value (fun _=>rfl) ?_ (fun g w' vs hM hE hP=>?_) ?_
      rotate_left
      · (clear hP hM;have ⟨z0,z1,z2,z3⟩:=cs_e4 hE HFCT.out;go_simp;first | done | rfl)
      refine reg_value (fun _=>rfl) ?_ (fun g w' vs hM hE hP=>?_) ?_
      rotate_left
      · (clear hP hM;have ⟨z0,z1,z2,z3⟩:=cs_e4 hE HFCT.out;go_simp;first | done | rfl)
      refine reg_value (fun _=>rfl) ?_ (fun g w' vs hM hE hP=>?_) ?_
      rotate_left
      · (clear hP hM;have ⟨z0,z1,z2,z3⟩:=cs_e4 hE HFCT.out;go_simp;first | done | rfl)
      refine reg_value (fun _=>rfl) ?_ (fun g w' vs hM hE hP=>?_) ?_
      rotate_left
      · (clear hP hM;have ⟨z0,z1,z2,z3⟩:=cs_e4 hE HFCT.out;go_simp;first | done | rfl)
      refine reg_value (fun _=>rfl) ?_ (fun g w' vs hM hE hP=>?_) ?_
      rotate_left
      · (clear hP hM;have ⟨z0,z1,z2,z3⟩:=cs_e4 hE HFCT.out;go_simp;first | done | rfl)
      refine reg_value (fun _=>rfl) ?_ (fun g w' vs hM hE hP=>?_) ?_
      rotate_left
      · (clear hP hM;have ⟨z0,z1,z2,z3⟩:=cs_e4 hE HFCT.out;go_simp;first | done | rfl)
      refine reg_value (fun _=>rfl) ?_ (fun g w' vs hM hE hP=>?_) ?_
      rotate_left
      · (clear hP hM;have ⟨z0,z1,z2,z3⟩:=cs_e4 hE HFCT.out;go_simp;first | done | rfl)
      refine reg_value (fun _=>rfl) ?_ (fun g w' vs hM hE hP=>?_) ?_
      rotate_left
      · (clear hP hM;have ⟨z0,z1,z2,z3⟩:=cs_e4 hE HFCT.out;go_simp;first | done | rfl)
      refine reg_value (fun _=>rfl) ?_ (fun g w' vs hM hE hP=>?_) ?_
      rotate_left
      · (clear hP hM;have ⟨z0,z1,z2,z3⟩:=cs_e4 hE HFCT.out;go_simp;first | done | rfl)
      refine reg_value (fun _=>rfl) ?_ (fun g w' vs hM hE hP=>?_) ?_
      rotate_left
      · (clear hP hM;have ⟨z0,z1,z2,z3⟩:=cs_e4 hE HFCT.out;go_simp;first | done | rfl)
      refine reg_value (fun _=>rfl) ?_ (fun g w' vs hM hE hP=>?_) ?_
      rotate_left
      · (clear hP hM;have ⟨z0,z1,z2,z3⟩:=cs_e4 hE HFCT.out;go_simp;first | done | rfl)
      refine reg_value (fun _=>rfl) ?_ (fun g w' vs hM hE hP=>?_) ?_
      rotate_left
      · (clear hP hM;have ⟨z0,z1,z2,z3⟩:=cs_e4 hE HFCT.out;go_simp;first | done | rfl)
      refine reg_value (fun _=>rfl) ?_ (fun g w' vs hM hE hP=>?_) ?_
      rotate_left
      · (clear hP hM;have ⟨z0,z1,z2,z3⟩:=cs_e4 hE HFCT.out;go_simp;first | done | rfl)
      refine reg_value (fun _=>rfl) ?_ (fun g w' vs hM hE hP=>?_) ?_
      rotate_left
      · (clear hP hM;have ⟨z0,z1,z2,z3⟩:=cs_e4 hE HFCT.out;go_simp;first | done | rfl)
      refine reg_call (fun _=>rfl) fk (fun _=>env++#[.pointer (some ⟨s1,0,none⟩),.int .i64 c,.slice (some ⟨vb,0,none⟩) n n,.int .i64 M]) (fun g w' m hM hE hP=>?_) (fun u _=>∃z:Int,u=.int .i64 z∧0≤z∧z<M∧Inv c (V.set c z)) ⟨fun _ _ _ h _=>h,(fun h=>nomatch h),fun h=>absurd rfl h⟩ (fun g w' m hM hE hP=>?_) ?_
      · clear hM hP
        go_simp
        exact HFK.out _ _
      · exact (HCALL.out w' hE).mono fun e w'' ⟨z,h1,h2,h3,h4,h5⟩=>⟨_,h1,h5,z,rfl,h2,h3,h4⟩
      refine reg_value (fun _=>rfl) ?_ (fun g w' vs hM hE hP=>?_) ?_
      rotate_left
      · (clear hP hM;have ⟨z0,z1,z2,z3⟩:=cs_e4 hE HFCT.out;go_simp;first | done | rfl)
      intro g wz hE2 hF hQ
      simp only [List.drop_succ_cons,List.drop_zero,Act.put,List.setIfInBounds_toArray,List.set_cons_succ,List.set_cons_zero]
      obtain ⟨z,hu,hz1,hz2,hz3⟩:=hQ _ List.mem_cons_self
      have hu:(g 19).v=_:=hu
      rw [hu]
      have HC2:=Lib.hid ((HC.out.next hE2).put (c:=c) (z:=z) (by have:=HSZ.out;omega) (by have:=HSZ.out;omega) hz1 hz2)
      have HIV2:=Lib.hid hz3
      have vc:wz.cell? ⟨vb,c,none⟩=some (.int .i64 (gt V c)):=intsC_at (hs_ext hE2 HC.out.blk) (gt_at (by rw [HC.out.len];exact hcn))
      have vf:wz.frozen? ⟨vb,c,none⟩=false:=frozenc (hs_ext hE2 HC.out.blk)
      clear hF hQ hE2 hu hz1 hz2 hz3 y1 y2 pcell rc0
      go_wp2_with fail
      go_roundw
      case rel=>exact ⟨c,_,rfl,by omega,HC2,HIV2⟩
      case measure=>simp [intOf]

/-- a character that refutes: its values -/
def RefV (G:List (List Int)) (m:List Int) (n:Nat) (M:Int) (V:List Int):Prop :=
 V.length=n∧(∀x∈V,0≤x∧x<M)∧2≤M∧M≤1073741824∧(∀g∈G,M∣dot g V)∧¬M∣dot m V
/-- the modulus so far has no divisor below d -/
def NoDiv (m d:Nat):Prop:=∀d',2≤d'→d'<d→m % d'≠0
theorem NoDiv.next {m d:Nat} (h:NoDiv m d) (hd:m % d≠0):NoDiv m (d+1):=fun d' h1 h2=>by
 by_cases e:d'=d
 · rw [e];exact hd
 · exact h d' h1 (by omega)
theorem NoDiv.prime {m d:Nat} (h:NoDiv m d) (hm:2≤m) (hd:m<d*d):PrimeS m:=⟨hm,fun d' h1 h2=>h d' h1 (by
 rcases Nat.lt_or_ge d' d with h3 | h3
 · exact h3
 · have:=Nat.mul_le_mul h3 h3;omega)⟩
/-- the pivots ahead of c are no multiples of the modulus -/
def FreeP (R:List ERow) (P:List Int) (m c:Nat):Prop:=∀c'<c,∀(i:Nat) r,gt P c'=i→R[i]?=some r→absI (gt r.p c') % (m:Int)≠0
theorem absI_mod {a:Int} {m:Nat} (hm:0<m) (h:absI a % (m:Int)≠0):a % (m:Int)≠0:=by
 intro h1
 apply h
 have h2:(m:Int)∣a:=Int.dvd_of_emod_eq_zero h1
 apply Int.emod_eq_zero_of_dvd
 rcases absI_cases a with ⟨-,e⟩ | ⟨-,e⟩
 · rw [e];exact h2
 · rw [e];exact Int.dvd_neg.2 h2
theorem hfk_prime1:∀a w,Sem.run Tryz.prog (callFunc 74 a) w=.ok (.enter 74 a) w:=by
 intro a w
 go_simp
/-- the character of a prime -/
theorem echarP_any {w:World} {B:XeB} {R:List ERow} {P m p k:List Int} {G:List (List Int)} {n cc j q:Nat} {ca:Option Addr} {X:List Nat}
 (hE:XeAt w B R P false) (hI:EInv n G n R P) (hT:TInv n G m j p k) (hcv:B.cv=.slice ca n cc) (hX:ColW w ca X) (hXl:X.length=n) (hn:n≤1000) (hj:j<n) (hq:PrimeS q) (hq2:q≤10000) (hF:FreeP R P q j) (hp:gt P j=-1) (hd:gt p j % (q:Int)≠0) :
 Calls Tryz.prog 36 #[.pointer (some ⟨B.xb,0,none⟩),.int .i64 j,.int .i64 1,.int .i64 q,.func (.func 74) #[] #[]] w fun e w'=>∃vv V,e=.returned (.agg #[.int .i64 q,vv])∧Ext w w'∧RefV G m n q V∧OwnG elPw w' w.heap.size 66 (fun _=>False) vv (chrQ (X.zip V) n):=by
 have hq1:=hq.1
 have hone:(1:Int) % (q:Int)=1:=Int.emod_eq_of_lt (by omega) (by omega)
 refine (echar_any (Inv:=fun c V=>Chi R P n c j q V∧gt V j=1) (env:=#[]) hE hI hcv hX hXl hn hj (by omega) (by omega) (by omega) hfk_prime1 ?_ ?_ ?_).mono ?_
 · rw [hone]
   have hz:∀c,gt (List.replicate n (0:Int)) c=0:=fun c=>by
    unfold gt
    rw [List.getD_eq_getElem?_getD,List.getElem?_replicate]
    split<;>rfl
   refine ⟨Chi.start (by simp) hz hj (by omega) (by omega),?_⟩
   rw [gt_set (by simp;exact hj),if_pos rfl]
 · exact fun c V h1 h2 h3=>⟨h2.1.skip h3,h2.2⟩
 · intro w' c V vb i ad r hEw hc hV hpi hr hrow hvb hvl hvr
   have hrm:=List.mem_of_getElem? hr
   have hrp:=(hI.len r hrm).1
   have hbn:=(hI.bnd r hrm).1
   have hr0:w'.cell? ⟨ad.1,0,none⟩=some (.slice (some ⟨ad.2.1,0,none⟩) n n):=by rw [cellc hrow.row,←hrp];rfl
   refine (eprime1_any hr0 hrow.pw hvb hrp hvl hbn (fun x hx=>⟨(hvr x hx).1,by have:=(hvr x hx).2;omega⟩) hq hq2 (by omega) (absI_mod (by omega) (hF c hc i r hpi hr)) (fun k hk=>.inr (hV.1.ahead k (by omega))) hn).mono ?_
   rintro e w'' ⟨z,rfl,h1,h2,h3,h4⟩
   refine ⟨z,rfl,h1,h2,⟨hV.1.put hI (by omega) hpi hr h3 h1 h2 hc hj,?_⟩,h4⟩
   rw [gt_set (by omega),if_neg (by omega)]
   exact hV.2
 · rintro e w' ⟨vv,V,rfl,h1,⟨h2,h3⟩,h4,h5,h6⟩
   have hfin:=h2.finalP hI hT hj hp h3 (fun hdv=>hd (Int.emod_eq_zero_of_dvd hdv))
   exact ⟨vv,V,rfl,h1,⟨h4,h5,by omega,by omega,hfin.1,hfin.2⟩,h6⟩

theorem sq_le {d m:Nat} (h:d*d≤m) (hm:m≤1429):d≤37:=by
 rcases Nat.lt_or_ge d 38 with h1 | h1
 · omega
 · have:=Nat.mul_le_mul h1 h1;omega
theorem eprime_any {w:World} {B:XeB} {R:List ERow} {P m p k:List Int} {G:List (List Int)} {n cc j:Nat} {t1 tp tk:Nat} {ca:Option Addr} {X:List Nat}
 (hE:XeAt w B R P false) (hI:EInv n G n R P) (hT:TInv n G m j p k) (ht:RowAt w (t1,tp,tk) ⟨p,k,false⟩) (hcv:B.cv=.slice ca n cc) (hX:ColW w ca X) (hXl:X.length=n) (hn:n≤12) (hj:j<n) (hp:gt P j=-1) (hd:gt p j≠0) :
 Calls Tryz.prog 34 #[.pointer (some ⟨B.xb,0,none⟩),.pointer (some ⟨t1,0,none⟩),.int .i64 j] w fun e w'=>∃M vv V,e=.returned (.agg #[.int .i64 M,vv])∧Ext w w'∧RefV G m n M V∧OwnG elPw w' w.heap.size 66 (fun _=>False) vv (chrQ (X.zip V) n):=by
 -- a prime that serves
 obtain ⟨q,hq,hq2,hqn,hqd⟩:∃q,PrimeS q∧q≤1429∧FreeP R P q j∧gt p j % (q:Int)≠0:=by
  have habs:∀c'<j,∀(i:Nat) r,gt P c'=i→R[i]?=some r→0<(gt r.p c').natAbs∧(gt r.p c').natAbs≤1099511627776:=fun c' hc' i r h1 h2=>by
   rcases hI.piv c' (by omega) with h3 | ⟨i',r',h3,h4,-,h5,-⟩
   · omega
   · have:i'=i:=by omega
     subst this
     rw [h2] at h4;cases h4
     have hb:=(hI.bnd r (List.mem_of_getElem? h2)).1 (gt r.p c') (gt_mem (by rw [(hI.len r (List.mem_of_getElem? h2)).1];omega))
     omega
  have hpj:0<(gt p j).natAbs∧(gt p j).natAbs≤1099511627776:=by
   have:=hT.bp (gt p j) (gt_mem (by rw [hT.pl];exact hj))
   omega
  obtain ⟨q,h1,h2,h3⟩:=free_prime (Ns:=(gt p j).natAbs :: (List.range j).map (fun c=>match R[(gt P c).toNat]? with | some r=>if gt P c=-1 then 1 else (gt r.p c).natAbs | none=>1)) (fun N hN=>by
   rcases List.mem_cons.1 hN with h | h
   · rw [h];exact hpj
   · obtain ⟨c,hc,rfl⟩:=List.mem_map.1 h
     have hc:=List.mem_range.1 hc
     rcases hI.piv c (by omega) with h3 | ⟨i',r',h3,h4,-,h5,-⟩
     · split
       · rw [if_pos h3];omega
       · omega
     · rw [h3,Int.toNat_natCast,h4]
       simp only
       rw [if_neg (by omega)]
       exact habs c hc i' r' h3 h4) (by simp;omega)
  refine ⟨q,h1,h2,fun c' hc' i r h4 h5 hz=>?_,fun hz=>?_⟩
  · have:=h3 (gt r.p c').natAbs (List.mem_cons_of_mem _ (List.mem_map.2 ⟨c',List.mem_range.2 hc',by rw [h4,Int.toNat_natCast,h5];simp only;rw [if_neg (by omega)]⟩))
    apply this
    have e:absI (gt r.p c')=((gt r.p c').natAbs:Int):=by rcases absI_cases (gt r.p c') with ⟨_,e⟩ | ⟨_,e⟩<;>omega
    rw [e] at hz
    exact Int.ofNat.inj hz
  · apply h3 (gt p j).natAbs (List.mem_cons_self ..)
    have hdv:(q:Int)∣gt p j:=Int.dvd_of_emod_eq_zero hz
    have:=Int.natAbs_dvd_natAbs.2 hdv
    exact Nat.mod_eq_zero_of_dvd this
 have HQ:Hid (∀m':Nat,m'=q→gt p j % (m':Int)≠0∧PrimeS m'∧FreeP R P m' j):=Lib.hid (by rintro m' rfl;exact ⟨hqd,hq,hqn⟩)
 have hq1:=hq.1
 have HCH:=Lib.hid (fun (w':World) (m':Nat) (hEw:Ext w w') (h1:PrimeS m') (h2:m'≤10000) (h3:FreeP R P m' j) (h4:gt p j % (m':Int)≠0)=>echarP_any (hE.ext hEw) hI hT hcv (hX.ext hEw) hXl (by omega) hj h1 h2 h3 hp h4)
 have HNU:=Lib.hid (fun (w':World) (hEw:Ext w w') (c i:Nat) (r:ERow) (hc:c<n) (h1:gt P c=i) (h2:R[i]?=some r)=>enumber_some (hE.ext hEw) (by rw [hI.pl];exact hc) h1 h2 (by rw [(hI.len r (List.mem_of_getElem? h2)).1];exact hc) (hI.bnd r (List.mem_of_getElem? h2)).1 (by rw [(hI.len r (List.mem_of_getElem? h2)).1];omega))
 obtain ⟨xb,hxb⟩:∃xb,xb=B.xb:=⟨_,rfl⟩
 rw [←hxb] at HCH HNU ⊢
 obtain ⟨pg,hpg⟩:∃pg,pg=B.pg:=⟨_,rfl⟩
 have hpo:B.po=some ⟨pg,0,none⟩:=by rw [hpg];exact (hE.pcell (c:=j) (by rw [hI.pl];exact hj)).2
 have x2:w.cell? ⟨xb,2,none⟩=some (.slice (some ⟨pg,0,none⟩) n B.pc):=by rw [hxb,cellc hE.x,←hpo,←hI.pl];rfl
 have HPC:Hid (∀c<n,w.cell? ⟨pg,c,none⟩=some (.int .i64 (gt P c))):=Lib.hid (fun c hc=>by rw [hpg];exact (hE.pcell (by rw [hI.pl];exact hc)).1)
 have y0:w.cell? ⟨t1,0,none⟩=some (.slice (some ⟨tp,0,none⟩) n n):=by rw [cellc ht.row,←hT.pl];rfl
 obtain ⟨pj,hpj⟩:∃pj,pj=gt p j:=⟨_,rfl⟩
 have y1:w.cell? ⟨tp,j,none⟩=some (.int .i64 pj):=by rw [hpj];exact intsC_at ht.pw (gt_at (by rw [hT.pl];exact hj))
 have HI:=Lib.hid hI
 rw [←hpj] at HQ HCH
 clear hE hT ht hcv hX hXl hqn hqd hq hxb hpg hpo hpj hp hd hI
 obtain ⟨rb,wa,hrb,hwa,HRB,hEa⟩:=box_new w (.cells #[.int .i64 0,.slice none 0 0] 47)
 have x2:=cs_ext hEa x2
 have y0:=cs_ext hEa y0
 have y1:=cs_ext hEa y1
 have HEA:=Lib.hid hEa
 have X2:=Lib.hid x2
 have HRS:Hid (w.heap.size=rb):=Lib.hid hrb.symm
 have hjz:(j:Int)<(n:Int):=by omega
 have hj0:(0:Int)≤(j:Int):=by omega
 clear hEa
 go_enter Tryz.func34,Tryz.ntmps34
 go_upto_region 1 with fail
 rw [←hwa,←hrb]
 clear hwa hrb
 go_upto_region 3 with fail
 go_loopw [7,8,9,10,38] (fun mv okv dv cv kv wr=>∃m':Nat,mv=.int .i64 m'∧2≤m'∧m'≤q∧Hid (Ext wa wr)) (fun mv _ _ _ _ _=>q+1-(intOf mv).toNat)
 case atStart=>exact ⟨2,rfl,by omega,hq1,Lib.hid (Ext.refl _)⟩
 case round =>
  obtain ⟨m',rfl,hm1,hm2,HEW⟩:=hrel
  have x2:=cs_ext HEW.out x2
  have y0:=cs_ext HEW.out y0
  have y1:=cs_ext HEW.out y1
  have hmz:¬(m':Int)=0:=by omega
  have hmn:¬m'=0:=by omega
  have wm:IntKind.i64.wrap ((m':Int)+1)=((m'+1:Nat):Int):=by rw [IntKind.wrap_i64];omega
  obtain ⟨f,hf⟩:∃f,f=Int.tmod pj (m':Int):=⟨_,rfl⟩
  have tf:Int.tmod pj (m':Int)=f:=hf.symm
  have HFZ:Hid (f=0↔¬pj % (m':Int)≠0):=Lib.hid (by
   rw [hf]
   constructor
   · intro h h2
     exact h2 (Int.emod_eq_zero_of_dvd (Int.dvd_of_tmod_eq_zero h))
   · intro h
     have h2:pj % (m':Int)=0:=Classical.byContradiction h
     exact Int.tmod_eq_zero_of_dvd (Int.dvd_of_emod_eq_zero h2))
  clear hf
  obtain ⟨b0,hb0⟩:∃b0,b0=!decide (f=0):=⟨_,rfl⟩
  have d0:(!decide (f=0))=b0:=hb0.symm
  have d1:(f != (0:Int))=b0:=by rw [hb0];rfl
  have HB0:Hid (b0=true↔pj % (m':Int)≠0):=Lib.hid (by
   have h:=HFZ.out
   rw [hb0]
   by_cases e:f=0
   · rw [decide_eq_true e]
     exact ⟨fun h1=>(nomatch h1),fun h1=>absurd h1 (h.1 e)⟩
   · rw [decide_eq_false e]
     exact ⟨fun _=>Classical.byContradiction (fun h1=>e (h.2 h1)),fun _=>rfl⟩)
  clear hb0
  go_upto_region 5 with fail
  have HM0:Hid (∀w',Ext wa w'→w'.cell? ⟨xb,2,none⟩=some (.slice (some ⟨pg,0,none⟩) n B.pc)):=Lib.hid (fun w' h=>cs_ext h X2.out)
  clear tf d0 d1 y0 y1 x2
  have HIN0:Hid (b0=true↔pj % (m':Int)≠0∧NoDiv m' 2):=Lib.hid (by
   rw [HB0.out]
   exact ⟨fun h=>⟨h,fun d' h1 h2=>absurd h1 (by omega)⟩,fun h=>h.1⟩)
  have HSQ0:Hid (∀d',2≤d'→d'<2→d'*d'≤m'):=Lib.hid (fun d' h1 h2=>absurd h1 (by omega))
  go_loopw [8,9] (fun okv dv wr=>∃(b:Bool) (d:Nat),okv=.bool b∧dv=.int .i64 d∧2≤d∧d≤38∧Hid (Ext wa wr)∧Hid (b=true↔pj % (m':Int)≠0∧NoDiv m' d)∧Hid (∀d',2≤d'→d'<d→d'*d'≤m')) (fun _ dv _=>40-(intOf dv).toNat)
  case atStart=>exact ⟨b0,2,rfl,rfl,by omega,by omega,HEW,HIN0,HSQ0⟩
  case round =>
   clear HIN0 HSQ0 HEW
   obtain ⟨b,d,rfl,rfl,hd1,hd2,HEW,HIN,HSQ⟩:=hrel
   obtain ⟨s2,hs2⟩:∃s2,s2=d*d:=⟨_,rfl⟩
   have hs2z:(d:Int)*(d:Int)=(s2:Int):=by rw [hs2];exact (Int.natCast_mul _ _).symm
   have hs2b:s2≤1444:=by rw [hs2];exact Nat.mul_le_mul hd2 hd2
   have ws:IntKind.i64.wrap ((d:Int)*(d:Int))=(s2:Int):=by rw [hs2z,IntKind.wrap_i64];omega
   by_cases hle:s2≤m'
   · have hlz:(s2:Int)≤(m':Int):=by omega
     have hd37:=sq_le (d:=d) (by omega) (by omega:m'≤1429)
     have wd:IntKind.i64.wrap ((d:Int)+1)=((d+1:Nat):Int):=by rw [IntKind.wrap_i64];omega
     have HSQ2:Hid (∀d',2≤d'→d'<d+1→d'*d'≤m'):=Lib.hid (fun d' h1 h2=>by
      by_cases e:d'=d
      · rw [e,←hs2];exact hle
      · exact HSQ.out d' h1 (by omega))
     clear hs2 hs2z
     rcases Bool.eq_false_or_eq_true b with hb | hb
     · rw [hb] at HIN ⊢
       clear hb
       obtain ⟨r,hr⟩:∃r,r=m' % d:=⟨_,rfl⟩
       have tr:Int.tmod (m':Int) (d:Int)=(r:Int):=by rw [hr];rfl
       have hdz:¬(d:Int)=0:=by omega
       have hdn:¬d=0:=by omega
       by_cases hr0:r=0
       · have HIN2:Hid (false=true↔pj % (m':Int)≠0∧NoDiv m' (d+1)):=Lib.hid ⟨fun h=>(nomatch h),fun h=>absurd (hr.symm.trans hr0) (h.2 d hd1 (by omega))⟩
         have tr0:Int.tmod (m':Int) (d:Int)=0:=by rw [tr,hr0];rfl
         clear hr hr0 tr HIN
         go_wp2_with fail
         go_roundw
         case rel=>exact ⟨false,d+1,rfl,rfl,by omega,by omega,HEW,HIN2,HSQ2⟩
         case measure=>simp [intOf];omega
       · have HIN2:Hid (true=true↔pj % (m':Int)≠0∧NoDiv m' (d+1)):=Lib.hid ⟨fun _=>⟨(HIN.out.1 rfl).1,(HIN.out.1 rfl).2.next (by rw [←hr];exact hr0)⟩,fun _=>rfl⟩
         have hrz:¬(r:Int)=0:=by omega
         have hrb:((r:Int) != (0:Int))=true:=bne_iff_ne.2 hrz
         clear hr HIN
         go_wp2_with fail
         go_roundw
         case rel=>exact ⟨true,d+1,rfl,rfl,by omega,by omega,HEW,HIN2,HSQ2⟩
         case measure=>simp [intOf];omega
     · rw [hb] at HIN ⊢
       clear hb
       have HIN2:Hid (false=true↔pj % (m':Int)≠0∧NoDiv m' (d+1)):=Lib.hid ⟨fun h=>(nomatch h),fun h=>HIN.out.2 ⟨h.1,fun d' h1 h2=>h.2 d' h1 (by omega)⟩⟩
       clear HIN
       go_wp2_with fail
       go_roundw
       case rel=>exact ⟨false,d+1,rfl,rfl,by omega,by omega,HEW,HIN2,HSQ2⟩
       case measure=>simp [intOf];omega
   · have hlz : ¬(s2:Int)≤(m':Int):=by omega
     have HP1:Hid (b=true↔pj % (m':Int)≠0∧PrimeS m'):=Lib.hid (by
      rw [HIN.out]
      refine ⟨fun h=>⟨h.1,h.2.prime hm1 (by omega)⟩,fun h=>⟨h.1,fun d' h1 h2=>h.2.2 d' h1 (HSQ.out d' h1 h2)⟩⟩)
     have HIN3:Hid (b=true↔(pj % (m':Int)≠0∧PrimeS m')∧FreeP R P m' 0):=Lib.hid (by
      rw [HP1.out]
      exact ⟨fun h=>⟨h,fun c hc=>absurd hc (by omega)⟩,fun h=>h.1⟩)
     clear hs2 hs2z HIN HSQ HP1
     go_upto_region 9 with fail
     clear ws hlz hle
     go_loopw [8,10,38] (fun okv cv kv wr=>∃(b:Bool) (c:Nat),okv=.bool b∧kv=.int .i64 c∧c≤j∧Hid (Ext wa wr)∧Hid (b=true↔(pj % (m':Int)≠0∧PrimeS m')∧FreeP R P m' c)) (fun _ _ kv _=>j-(intOf kv).toNat)
     case atStart=>exact ⟨b,0,rfl,rfl,by omega,HEW,HIN3⟩
     case round =>
      clear HIN3 HEW
      obtain ⟨b,c,rfl,rfl,hc,HEW,HIN⟩:=hrel
      by_cases hlt:c<j
      · have hcz:(c:Int)<(j:Int):=by omega
        have hcz2:(c:Int)<(n:Int):=by omega
        have hc0:(0:Int)≤(c:Int):=by omega
        have wc:IntKind.i64.wrap ((c:Int)+1)=((c+1:Nat):Int):=by rw [IntKind.wrap_i64];omega
        have x2:=HM0.out wr HEW.out
        have pc:=cs_ext (HEA.out.trans HEW.out) (HPC.out c (by omega))
        rcases Bool.eq_false_or_eq_true b with hb | hb
        · rw [hb] at HIN ⊢
          clear hb
          rcases HI.out.piv c (by omega) with hp | ⟨i,r,hp,hr,-,hr0,-⟩
          · have HIN2:Hid (true=true↔(pj % (m':Int)≠0∧PrimeS m')∧FreeP R P m' (c+1)):=Lib.hid ⟨fun _=>⟨(HIN.out.1 rfl).1,fun c' hc' i r h1 h2=>by
             by_cases e:c'=c
             · subst e;omega
             · exact (HIN.out.1 rfl).2 c' (by omega) i r h1 h2⟩,fun _=>rfl⟩
            rw [hp] at pc
            clear hp HIN
            go_wp2_with fail
            go_roundw
            case rel=>exact ⟨true,c+1,rfl,rfl,by omega,HEW,HIN2⟩
            case measure=>simp [intOf];omega
          · have HN1:=Lib.hid (fun (w':World) (hE:Ext w w')=>HNU.out w' hE c i r (by omega) hp hr)
            obtain ⟨z,hz⟩:∃z,z=absI (gt r.p c):=⟨_,rfl⟩
            have hz0:0≤z:=by rw [hz];rcases absI_cases (gt r.p c) with ⟨_,e⟩ | ⟨_,e⟩<;>omega
            rw [←hz] at HN1
            obtain ⟨y,hy⟩:∃y,y=z % (m':Int):=⟨_,rfl⟩
            have ty:Int.tmod z (m':Int)=y:=by rw [hy];exact Int.tmod_eq_emod_of_nonneg hz0
            have HIN2:Hid (decide (y≠0)=true↔(pj % (m':Int)≠0∧PrimeS m')∧FreeP R P m' (c+1)):=Lib.hid (by
             rw [decide_eq_true_eq]
             refine ⟨fun h=>⟨(HIN.out.1 rfl).1,fun c' hc' i' r' h1 h2=>?_⟩,fun h=>by rw [hy,hz];exact h.2 c (by omega) i r hp hr⟩
             by_cases e:c'=c
             · subst e
               have:i'=i:=by omega
               subst this
               rw [hr] at h2
               cases h2
               rw [←hz,←hy];exact h
             · exact (HIN.out.1 rfl).2 c' (by omega) i' r' h1 h2)
            have hi0:¬(i:Int)<0:=by omega
            rw [hp] at pc
            clear hp hr hz hy HIN
            by_cases hy0:y=0
            · have HIN3:Hid (false=true↔(pj % (m':Int)≠0∧PrimeS m')∧FreeP R P m' (c+1)):=Lib.hid (by rw [←HIN2.out,decide_eq_true_eq];exact ⟨fun h=>(nomatch h),fun h=>absurd hy0 h⟩)
              rw [hy0] at ty
              clear hy0 HIN2
              go_wp2_with fail
              refine (HN1.out _ (HEA.out.trans HEW.out)).mono ?_
              rintro e w5 ⟨rfl,hE5⟩
              have HE5:=Lib.hid (HEW.out.trans hE5)
              clear hE5 x2 pc
              go_wp2_with fail
              go_roundw
              case rel=>exact ⟨false,c+1,rfl,rfl,by omega,HE5,HIN3⟩
              case measure=>simp [intOf];omega
            · have HIN3:Hid (true=true↔(pj % (m':Int)≠0∧PrimeS m')∧FreeP R P m' (c+1)):=Lib.hid (by rw [←HIN2.out,decide_eq_true_eq];exact ⟨fun _=>hy0,fun _=>rfl⟩)
              have hyb:(y != (0:Int))=true:=bne_iff_ne.2 hy0
              clear HIN2
              go_wp2_with fail
              refine (HN1.out _ (HEA.out.trans HEW.out)).mono ?_
              rintro e w5 ⟨rfl,hE5⟩
              have HE5:=Lib.hid (HEW.out.trans hE5)
              clear hE5 x2 pc
              go_wp2_with fail
              go_roundw
              case rel=>exact ⟨true,c+1,rfl,rfl,by omega,HE5,Lib.hid ⟨fun _=>by simpa using HIN3.out,fun _=>rfl⟩⟩
              case measure=>simp [intOf];omega
        · rw [hb] at HIN ⊢
          clear hb
          have HIN2:Hid (false=true↔(pj % (m':Int)≠0∧PrimeS m')∧FreeP R P m' (c+1)):=Lib.hid ⟨fun h=>(nomatch h),fun h=>HIN.out.2 ⟨h.1,fun c' h1=>h.2 c' (by omega)⟩⟩
          clear HIN x2 pc
          go_wp2_with fail
          go_roundw
          case rel=>exact ⟨false,c+1,rfl,rfl,by omega,HEW,HIN2⟩
          case measure=>simp [intOf];omega
      · have hcz:¬(c:Int)<(j:Int):=by omega
        have hcj:c=j:=by omega
        rw [hcj] at HIN
        clear hcj
        rcases Bool.eq_false_or_eq_true b with hb | hb
        · rw [hb] at HIN ⊢
          have h:=HIN.out.1 rfl
          have HCA:=Lib.hid (HCH.out wr m' (HEA.out.trans HEW.out) h.1.2 (by omega) h.2 h.1.1)
          clear hb h HIN
          go_wp2_with fail
          refine HCA.out.mono ?_
          rintro e w6 ⟨vv,V,rfl,hE6,hV,hO⟩
          have HE6:=Lib.hid (HEW.out.trans hE6)
          have HRB6:=Lib.hid (hs_ext HE6.out HRB.out)
          have HV:=Lib.hid hV
          have HO:=Lib.hid hO
          have HSW:Hid (rb<wr.heap.size):=Lib.hid (Array.getElem?_eq_some_iff.1 (hs_ext HEW.out HRB.out)).1
          obtain ⟨va,vc,rfl,-,-⟩:=hO.slice
          clear hE6 hV hO
          go_wp2_with (refine wpList_storeC rfl (.tmp 6) (.tmp 65) rfl rfl rfl HRB6.out rfl ?_)
          intro w9 h9 hoth hE9 hs9
          go_wp2_with fail
          have hs:=HSW.out
          have hr:=HRS.out
          exact ret_chr (g:=rb) rfl rfl h9 rfl ⟨_,_,V,rfl,hE9 w (HEA.out.trans HE6.out) (by omega),HV.out,(HO.out.keep (fun c hc=>hoth c (by have:=(HO.out.lt c hc).1;omega)) (fun c h=>absurd h id) (fun c h=>absurd h id)).low (HEA.out.trans HEW.out).size⟩
        · rw [hb] at HIN ⊢
          have hne:m'<q:=by
           rcases Nat.lt_or_ge m' q with h | h
           · exact h
           · obtain ⟨g1,g2,g3⟩:=HQ.out m' (by omega)
             exact absurd (HIN.out.2 ⟨⟨g1,g2⟩,g3⟩) (by simp)
          clear hb HIN
          go_wp2_with fail
          go_roundw
          case rel=>exact ⟨m'+1,rfl,by omega,by omega,HEW⟩
          case measure=>simp [intOf];omega
end Go.Proofs.YtclijngnoepbiaaGreat
