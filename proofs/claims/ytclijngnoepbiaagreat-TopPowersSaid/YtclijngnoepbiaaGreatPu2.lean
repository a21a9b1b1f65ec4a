/- Contracts: CompactFunc on terms. Sorted columns: each term once. Contracts: a term's column, its row of bits. -/
import Derived.Test.YtclijngnoepbiaaGreatPu1
import Derived.Test.YtclijngnoepbiaaGreatG8
import Derived.Test.YtclijngnoepbiaaGreatG7
import Derived.Lib.SliceRun
set_option maxRecDepth 100000
set_option maxHeartbeats 8000000
namespace Go.Proofs.YtclijngnoepbiaaGreat
open Go Go.RowKit
set_option linter.unusedVariables false
set_option linter.unusedSimpArgs false

theorem eqT_any {w:World} {S S':Nat→Prop} {a a':Option Addr} {cap cap':Nat} {s t:Tm} (hs6:sizeT s≤1000000) (ht6:sizeT t≤1000000) (hT:TmW w S a cap s) (hT':TmW w S' a' cap' t) :
 Calls Tryz.prog 125 #[.agg #[.int .i64 s.kind,.string s.name,.int .i64 s.sort,.slice a s.kids.length cap],.agg #[.int .i64 t.kind,.string t.name,.int .i64 t.sort,.slice a' t.kids.length cap']] w fun e w'=>e=.returned (.bool (cmpT s t==0))∧Ext w w':=by
 have hl:=hT.len
 have hc:=hT.cap
 have hl':=hT'.len
 have hc':=hT'.cap
 have hcon:=fun (w':World) (hE:Ext w w')=>PCmp_any (w:=w') hs6 ht6 (hT.ext hE) (hT'.ext hE)
 obtain ⟨o,ho⟩:∃o,o=cmpT s t:=⟨_,rfl⟩
 rw [←ho] at hcon ⊢
 have HC:=Lib.hid hcon
 clear hcon hT hT' ho
 go_enter Tryz.func125,Tryz.ntmps125
 go_wp2_with (refine (HC.out _ (Ext.trans (Ext.alloc _ _) (Ext.alloc _ _))).mono ?_;rintro e w1 ⟨rfl,hE⟩)
 go_ret
 exact ⟨rfl,Ext.trans (Ext.trans (Ext.alloc _ _) (Ext.alloc _ _)) hE⟩

/-- whether the element at m stays -/
def keepC (E:List TE):Nat→Bool
 | 0=>true
 | m+1=>match E[m]?,E[m+1]? with
   | some a,some b=>!(cmpT b.t a.t==0)
   | _,_=>true
def compN (E:List TE):Nat→List TE
 | 0=>[]
 | m+1=>compN E m++(if keepC E m then (E[m]?).toList else [])
theorem keepC_at {E:List TE} {m:Nat} {a b:TE} (h:E[m]?=some a) (k:E[m+1]?=some b):keepC E (m+1)=!(cmpT b.t a.t==0):=by
 simp only [keepC,h,k]
theorem compN_skip {E:List TE} {m:Nat} (h:keepC E m=false):compN E (m+1)=compN E m:=by
 show compN E m++_=_
 rw [h];simp
theorem compN_keep {E:List TE} {m:Nat} {x:TE} (h:keepC E m=true) (hx:E[m]?=some x):compN E (m+1)=compN E m++[x]:=by
 show compN E m++_=_
 rw [h,hx];simp
theorem compN_one {E:List TE} (h:0<E.length):compN E 1=E.take 1:=by
 obtain ⟨x,hx⟩:∃x,E[0]?=some x:=⟨_,List.getElem?_eq_getElem h⟩
 rw [compN_keep rfl hx,List.take_add_one,hx];rfl
theorem compN_le (E:List TE):∀m,(compN E m).length≤m
 | 0=>Nat.le_refl _
 | m+1=>by
   show (compN E m++_).length≤_
   have:=compN_le E m
   rw [List.length_append]
   split
   · cases E[m]?<;>simp<;>omega
   · simp;omega

theorem run_clearT {w:World} {g off n c:Nat} {cur:Array Value} (hg:w.heap[g]?=some (.cells cur 33)) (hn:0<n) (ho:off+n*4≤cur.size) :
 ∃ w',(∀ty,(Builtin.clear_ #[31] ty #[.slice (some ⟨g,off,none⟩) n c]).run Tryz.prog w=.ok (.tuple #[]) w')∧w.grownBy w' (some g) ∧
   ∃cur':Array Value,w'.heap[g]?=some (.cells cur' 33)∧cur'.size=cur.size∧cur'.toList.take off=cur.toList.take off:=by
 obtain ⟨Z,hZ⟩:∃Z,Z=(Builtin.zeroCells (Value.agg #[.int .i64 0,.string ⟨#[]⟩,.int .i64 0,.slice none 0 0]).cells n).toList:=⟨_,rfl⟩
 have hzl:Z.length=n*4:=by rw [hZ];simp [Builtin.zeroCells,Value.cells]
 have hzo:∀v∈Z,v.oneCell'=true:=by
  intro v hv
  rw [hZ] at hv
  simp only [Builtin.zeroCells,Array.toList_map,List.mem_map] at hv
  obtain ⟨i,-,rfl⟩:=hv
  have h4:i % (Value.agg #[.int .i64 0,.string ⟨#[]⟩,.int .i64 0,.slice none 0 0]).cells.size<4:=Nat.mod_lt _ (by decide)
  generalize i % (Value.agg #[.int .i64 0,.string ⟨#[]⟩,.int .i64 0,.slice none 0 0]).cells.size=q at h4
  match q,h4 with
  | 0,_=>rfl
  | 1,_=>rfl
  | 2,_=>rfl
  | 3,_=>rfl
 have hr:=run_storeCells_at (P:=Tryz.prog) g off 33 Z 0 cur w hg (by omega) hzo
 rw [Nat.add_zero] at hr
 obtain ⟨m,rfl⟩:∃m,n=m+1:=⟨n-1,by omega⟩
 refine ⟨w.setRow g (cur.toList.take off++Z++cur.toList.drop (off+Z.length)).toArray,fun ty=>?_,?_,_,setRow_heap w g cur _ _ _ hg,?_,?_⟩
 · have hz:=Tryz.zeroValue33 w
   rw [hZ] at hr
   simp only [Builtin.clear_,run_underlying Tryz.underlying31,Sem.run_bind,Result.andThen_ok,List.getElem?_toArray,List.getElem?_cons_zero,hz,hr,Sem.run_pure]
   rw [hZ]
 · exact ⟨rfl,rfl,rfl,by simp,fun k _ hne=>setRow_other w g k _ (fun e=>hne (by rw [e]))⟩
 · simp;omega
 · simp only [List.append_assoc]
   rw [List.take_left' (by simp;omega)]

/-- the row under way -/
structure CpI (w wr:World) (g:Nat) (S:Nat→Prop) (R:List TE) (rest:List Value):Prop where
 row:wr.heap[g]?=some (.cells (R.flatMap encE++rest).toArray 33)
 kids:∀e∈R,TmW wr S e.a e.cap e.t
 grown:w.grownBy wr (some g)
theorem grown_ext {w wr w':World} {g:Option Nat} (h:w.grownBy wr g) (k:Ext wr w'):w.grownBy w' g:=grown_trans h (grown_put' k g)
theorem CpI.next {w wr w':World} {g:Nat} {S:Nat→Prop} {R:List TE} {rest:List Value} (h:CpI w wr g S R rest) (hE:Ext wr w'):CpI w w' g S R rest :=
 ⟨hs_ext hE h.row,fun e he=>(h.kids e he).ext hE,grown_ext h.grown hE⟩
theorem CpI.at {w wr:World} {g k:Nat} {S:Nat→Prop} {R:List TE} {rest:List Value} {e:TE} (h:CpI w wr g S R rest) (hk:R[k]?=some e) :
 wr.cell? ⟨g,k*4,none⟩=some (.int .i64 e.t.kind)∧wr.cell? ⟨g,k*4+1,none⟩=some (.string e.t.name)∧wr.cell? ⟨g,k*4+2,none⟩=some (.int .i64 e.t.sort)∧wr.cell? ⟨g,k*4+3,none⟩=some (.slice e.a e.t.kids.length e.cap)∧TmW wr S e.a e.cap e.t:=by
 have hlt:=(List.getElem?_eq_some_iff.1 hk).1
 have hl:=flatE_len encE_len R
 have hc:∀(j:Nat) v,(encE e)[j]?=some v→wr.cell? ⟨g,k*4+j,none⟩=some v:=fun j v hv=>by
  have hj:j<4:=by have:=(List.getElem?_eq_some_iff.1 hv).1;rw [encE_len] at this;exact this
  have e1:=flatE_get encE_len R k j e hk hj
  rw [hv] at e1
  simp only [World.cell?,h.row,List.getElem?_toArray,Option.bind]
  rw [List.getElem?_append_left (by omega)]
  exact e1
 exact ⟨hc 0 _ rfl,hc 1 _ rfl,hc 2 _ rfl,hc 3 _ rfl,h.kids e (List.mem_of_getElem? hk)⟩
theorem flat_set {R:List TE} {k:Nat} {e old:TE} {rest:List Value} (h:R[k]?=some old) :
 (R.flatMap encE++rest).take (k*4)++encE e++(R.flatMap encE++rest).drop (k*4+4)=(R.set k e).flatMap encE++rest:=by
 induction R generalizing k with
 | nil=>simp at h
 | cons x R ih =>
   cases k with
   | zero=>rfl
   | succ k =>
     have h':R[k]?=some old:=by simpa using h
     have i:=ih h'
     rw [List.set_cons_succ,List.flatMap_cons,List.flatMap_cons,List.append_assoc (encE x),List.append_assoc (encE x),←i]
     have e4:(encE x).length=4:=rfl
     rw [List.take_append,List.drop_append,e4,List.take_of_length_le (by rw [e4];omega),List.drop_of_length_le (by rw [e4];omega),show (k+1)*4-4=k*4 by omega,show (k+1)*4+4-4=k*4+4 by omega]
     simp

theorem wpList_storeG {ops:Array Oper} {rest:List Oper} {o:Oper} {a:Act} {w:World} {Q:Exit→Act→World→Prop} (hgd:o.guard=none) (x y:Operand) (ho:o.op=.store 33 x y)
 {g k:Nat} {R:List TE} {rs:List Value} {e old:TE} (hx:a.eval x=.pointer (some ⟨g,k*4,none⟩)) (hy:a.eval y=.agg #[.int .i64 e.t.kind,.string e.t.name,.int .i64 e.t.sort,.slice e.a e.t.kids.length e.cap])
 {W:World} {S:Nat→Prop} (hI:CpI W w g S R rs) (hS:∀c,S c→c≠g) (hk:R[k]?=some old) (hT:TmW w S e.a e.cap e.t)
 (hK:∀w',CpI W w' g S (R.set k e) rs→wpList Tryz.prog ops Q rest (a.put o.dst undef) w') :
 wpList Tryz.prog ops Q (o :: rest) a w:=by
 refine wpList_plain hgd fun K hK'=>?_
 have hlt:=(List.getElem?_eq_some_iff.1 hk).1
 have hl:=flatE_len encE_len R
 have hg:=hI.row
 have hr:=run_storeCells_at (P:=Tryz.prog) g (k*4) 33 (encE e) 0 _ w hg (by simp only [encE_len,List.size_toArray,List.length_append];omega) (fun v hv=>encE_one [e] v (by simpa using hv))
 have hsz:=sizT
 cases hq:Tryz.prog.info? 33 with
 | none=>rw [hq] at hsz;cases hsz
 | some i0 =>
   have hs:i0.size=4:=by rw [hq] at hsz;simpa using hsz
   have hn:w.setRow g ((R.flatMap encE++rs).take (k*4)++encE e++(R.flatMap encE++rs).drop (k*4+4)).toArray=w.setRow g ((R.set k e).flatMap encE++rs).toArray:=by rw [flat_set hk]
   have hv:(storeVar 33 ⟨g,k*4,none⟩ (.agg #[.int .i64 e.t.kind,.string e.t.name,.int .i64 e.t.sort,.slice e.a e.t.kids.length e.cap])).run Tryz.prog w=.ok () (w.setRow g ((R.set k e).flatMap encE++rs).toArray):=by
    rw [←hn]
    simp only [Nat.add_zero,encE_len] at hr
    simp only [encE] at hr
    simp [storeVar,sizeOf,typeInfo,hq,Value.cells,hs,hr,encE]
   unfold Oper.wp execOp
   simp only [ho,hx,hy,Instr.storeAt,Instr.sureAddr,Sem.run_bind,Sem.run_pure,Result.andThen_ok,hv]
   refine hK' _ _ (hK _ ⟨setRow_heap w g _ _ _ _ hg,fun x hx=>?_,?_⟩)
   · have:TmW w S x.a x.cap x.t:=by
      rcases List.mem_or_eq_of_mem_set hx with h | h
      · exact hI.kids x h
      · rw [h];exact hT
     exact this.keep (fun c hc _=>setRow_other w g c _ (hS c hc)) (fun _ h _=>h)
   · exact grown_trans hI.grown ⟨rfl,rfl,rfl,by simp,fun q _ hne=>setRow_other w g q _ (fun e=>hne (by rw [e]))⟩

theorem compact_any {w:World} {g cap:Nat} {S:Nat→Prop} {E:List TE} {rest:List Value} (hI0:CpI w w g S E rest) (hS:∀c,S c→c≠g) (hn:0<E.length) (hnc:E.length≤cap) (hcm:cap≤maxLen) (hrl:rest.length=(cap-E.length)*4) (h6:∀e∈E,sizeT e.t≤1000000) :
 Calls Tryz.prog 124 #[.slice (some ⟨g,0,none⟩) E.length cap,.func (.func 125) #[] #[]] w fun e w'=>∃(cur:Array Value),e=.returned (.slice (some ⟨g,0,none⟩) (compN E E.length).length cap) ∧
  cur.size=cap*4∧w'.heap[g]?=some (.cells cur 33)∧cur.toList.take ((compN E E.length).length*4)=(compN E E.length).flatMap encE∧(∀e∈compN E E.length,TmW w' S e.a e.cap e.t)∧w.grownBy w' (some g):=by
 unfold maxLen at hcm
 have HI0:=Lib.hid hI0
 have HS:=Lib.hid hS
 have H6:=Lib.hid h6
 have HRL:=Lib.hid hrl
 clear hI0 hS h6 hrl
 have FIN:Hid (∀w',Ext w w'→compN E E.length=E.take E.length→∃(cur:Array Value),Ending.returned (Value.slice (some ⟨g,0,none⟩) E.length cap)=Ending.returned (Value.slice (some ⟨g,0,none⟩) (compN E E.length).length cap) ∧
  cur.size=cap*4∧w'.heap[g]?=some (.cells cur 33)∧cur.toList.take ((compN E E.length).length*4)=(compN E E.length).flatMap encE∧(∀e∈compN E E.length,TmW w' S e.a e.cap e.t)∧w.grownBy w' (some g)):=Lib.hid (by
  intro w' hE hc
  have hI:=HI0.out.next hE
  have hl:=flatE_len encE_len E
  rw [hc,List.take_length]
  refine ⟨_,rfl,?_,hI.row,?_,hI.kids,hI.grown⟩
  · have:=HRL.out
    simp only [List.size_toArray,List.length_append]
    omega
  · rw [←hl,List.take_left])
 by_cases h2:E.length<2
 · have e2:decide ((E.length:Int)<2)=true:=decide_eq_true (by omega)
   have h1:Hid (E.length=1):=Lib.hid (by omega)
   go_enter Tryz.func124,Tryz.ntmps124
   go_wp2_with fail
   go_ret
   exact FIN.out _ (Ext.refl _) (by rw [h1.out];exact compN_one hn)
 · have e2 : decide ((E.length:Int)<2)=false:=decide_eq_false (by omega)
   go_enter Tryz.func124,Tryz.ntmps124
   go_wp2_with fail
   go_loopw [5] (fun kv wr=>∃i:Nat,kv=.int .i64 ((i:Int)+1)∧i+1≤E.length∧compN E (i+1)=E.take (i+1)∧Ext w wr) (fun kv _=>E.length-(intOf kv).toNat)
   case atStart=>exact ⟨0,rfl,by omega,compN_one hn,Ext.refl _⟩
   case round =>
    obtain ⟨i,rfl,hi,hc,hE⟩:=hrel
    have HC:=Lib.hid hc
    have HE:=Lib.hid hE
    clear hc hE
    by_cases hlt:i+1<E.length
    · obtain ⟨x,hx⟩:∃x,E[i]?=some x:=⟨_,List.getElem?_eq_getElem (by omega)⟩
      obtain ⟨y,hy⟩:∃y,E[i+1]?=some y:=⟨_,List.getElem?_eq_getElem hlt⟩
      obtain ⟨x0,x1,x2,x3,hTx⟩:=(HI0.out.next HE.out).at hx
      obtain ⟨y0,y1,y2,y3,hTy⟩:=(HI0.out.next HE.out).at hy
      have hcon:=fun (w':World) (hE:Ext wr w')=>eqT_any (w:=w') (H6.out y (List.mem_of_getElem? hy)) (H6.out x (List.mem_of_getElem? hx)) (hTy.ext hE) (hTx.ext hE)
      obtain ⟨o,ho⟩:∃o,o=(cmpT y.t x.t==0):=⟨_,rfl⟩
      rw [←ho] at hcon
      have HX:=Lib.hid hx
      have HY:=Lib.hid hy
      have HO:=Lib.hid ho
      have HCON:=Lib.hid hcon
      have hw1:IntKind.i64.wrap (i:Int)=i:=by rw [IntKind.wrap_i64];omega
      have hie:i<E.length:=by omega
      have e4:decide ((i:Int)+1<(E.length:Int))=true:=decide_eq_true (by omega)
      have hw2:((i:Int)+1).toNat=i+1:=by omega
      clear hx hy ho hcon hTx hTy
      go_wp2_with fail
      have hb0:(0:Int)≤(i:Int)+1:=by omega
      have hb1:(i:Int)+1<(E.length:Int):=by omega
      have HFCT:=Lib.hid (And.intro x0 (And.intro x1 (And.intro x2 (And.intro x3 (And.intro y0 (And.intro y1 (And.intro y2 y3)))))))
      refine wp_region_reg 11 false (by kernel_rfl) (by kernel_rfl) ?_
      refine reg_value (fun _=>rfl) ?_ (fun g w' vs hM hE hP=>?_) ?_
      rotate_left
      · (clear hP hM;have ⟨z0,z1,z2,z3,z4,z5,z6,z7⟩:=cs_e8 hE HFCT.out;go_simp;first | done | rfl)
      refine reg_value (fun _=>rfl) ?_ (fun g w' vs hM hE hP=>?_) ?_
      rotate_left
      · (clear hP hM;have ⟨z0,z1,z2,z3,z4,z5,z6,z7⟩:=cs_e8 hE HFCT.out;go_simp;first | done | rfl)
      refine reg_value (fun _=>rfl) ?_ (fun g w' vs hM hE hP=>?_) ?_
      rotate_left
      · (clear hP hM;have ⟨z0,z1,z2,z3,z4,z5,z6,z7⟩:=cs_e8 hE HFCT.out;go_simp;first | done | rfl)
      refine reg_value (fun _=>rfl) ?_ (fun g w' vs hM hE hP=>?_) ?_
      rotate_left
      · (clear hP hM;have ⟨z0,z1,z2,z3,z4,z5,z6,z7⟩:=cs_e8 hE HFCT.out;go_simp;first | done | rfl)
      refine reg_value (fun _=>rfl) ?_ (fun g w' vs hM hE hP=>?_) ?_
      rotate_left
      · (clear hP hM;have ⟨z0,z1,z2,z3,z4,z5,z6,z7⟩:=cs_e8 hE HFCT.out;go_simp;first | done | rfl)
      refine reg_value (fun _=>rfl) ?_ (fun g w' vs hM hE hP=>?_) ?_
      rotate_left
      · (clear hP hM;have ⟨z0,z1,z2,z3,z4,z5,z6,z7⟩:=cs_e8 hE HFCT.out;go_simp;first | done | rfl)
      refine reg_value (fun _=>rfl) ?_ (fun g w' vs hM hE hP=>?_) ?_
      rotate_left
      · (clear hP hM;have ⟨z0,z1,z2,z3,z4,z5,z6,z7⟩:=cs_e8 hE HFCT.out;go_simp;first | done | rfl)
      refine reg_value (fun _=>rfl) ?_ (fun g w' vs hM hE hP=>?_) ?_
      rotate_left
      · (clear hP hM;have ⟨z0,z1,z2,z3,z4,z5,z6,z7⟩:=cs_e8 hE HFCT.out;go_simp;first | done | rfl)
      refine reg_value (fun _=>rfl) ?_ (fun g w' vs hM hE hP=>?_) ?_
      rotate_left
      · (clear hP hM;have ⟨z0,z1,z2,z3,z4,z5,z6,z7⟩:=cs_e8 hE HFCT.out;go_simp;first | done | rfl)
      refine reg_value (fun _=>rfl) ?_ (fun g w' vs hM hE hP=>?_) ?_
      rotate_left
      · (clear hP hM;have ⟨z0,z1,z2,z3,z4,z5,z6,z7⟩:=cs_e8 hE HFCT.out;go_simp;first | done | rfl)
      refine reg_const (fun _=>rfl) 125 ?_ (fun g w' vs hM hE hP=>?_) ?_
      rotate_left
      · (clear hP hM;have ⟨z0,z1,z2,z3,z4,z5,z6,z7⟩:=cs_e8 hE HFCT.out;go_simp;first | done | exact ⟨rfl,rfl⟩ | rfl)
      apply Exists.intro
      refine And.intro (fun g w' vs hM hE hP=>?_) ?_
      · exact HCON.out _ hE
      intro gh wz hE2 hF hQ
      simp only [List.drop_succ_cons,List.drop_zero,Act.put,List.setIfInBounds_toArray,List.set_cons_succ,List.set_cons_zero]
      clear hF hQ x0 x1 x2 x3 y0 y1 y2 y3 hb0 hb1
      have HE2:=Lib.hid (HE.out.trans hE2)
      clear hE2
      cases o with
      | true =>
        have HSK:Hid (compN E (i+1+0+1)=E.take (i+1)):=Lib.hid (by rw [←HC.out];exact compN_skip (by rw [keepC_at HX.out HY.out,←HO.out];rfl))
        obtain ⟨w3,hw3⟩:∃w3,w3=wz:=⟨_,rfl⟩
        rw [←hw3] at HE2 ⊢
        clear hw3 HE
        go_wp2_with fail
        go_loopw [5,7] (fun kv jv wq=>Hid (∃(k j:Nat) (R:List TE),kv=.int .i64 (k:Int)∧jv=.int .i64 ((j:Int)+1)∧CpI w wq g S R rest∧R.length=E.length∧k≤i+1+j∧i+1+j+1≤E.length∧R.take k=compN E (i+1+j+1)∧R.drop (i+1+j)=E.drop (i+1+j))) (fun _ jv _=>E.length-(i+1)-(intOf jv).toNat)
        case atStart=>exact Lib.hid ⟨i+1,0,E,by simp,rfl,HI0.out.next HE2.out,rfl,by omega,by omega,HSK.out.symm,rfl⟩
        case round =>
         obtain ⟨k,j,R,rfl,rfl,hI,hR,hk,hj,htk,hdr⟩:=hrel.out
         have HI:=Lib.hid hI
         have HTK:=Lib.hid htk
         have HDR:=Lib.hid hdr
         have hR':=Lib.hid hR
         have hkc:k<cap:=by omega
         have hkn:k≤E.length:=by omega
         clear hI htk hdr hR
         by_cases hlt2:j+1<E.length-(i+1)
         · have hget:∀m,i+1+j≤m→R[m]?=E[m]?:=fun m hm=>by
            have h:=congrArg (fun l:List TE=>l[m-(i+1+j)]?) HDR.out
            simp only [List.getElem?_drop] at h
            rwa [show i+1+j+(m-(i+1+j))=m by omega] at h
           obtain ⟨u,hu⟩:∃u,E[i+1+j]?=some u:=⟨_,List.getElem?_eq_getElem (by omega)⟩
           obtain ⟨v,hv⟩:∃v,E[i+1+(j+1)]?=some v:=⟨_,List.getElem?_eq_getElem (by omega)⟩
           obtain ⟨old,hold⟩:∃old,R[k]?=some old:=⟨_,List.getElem?_eq_getElem (by rw [hR'.out];omega)⟩
           obtain ⟨x0,x1,x2,x3,hTx⟩:=HI.out.at ((hget _ (Nat.le_refl _)).trans hu)
           obtain ⟨y0,y1,y2,y3,hTy⟩:=HI.out.at ((hget _ (by omega)).trans hv)
           rw [Nat.add_mul (i+1)] at x0 x1 x2 x3 y0 y1 y2 y3
           have hcon:=fun (w':World) (hE:Ext wr w')=>eqT_any (w:=w') (H6.out v (List.mem_of_getElem? hv)) (H6.out u (List.mem_of_getElem? hu)) (hTy.ext hE) (hTx.ext hE)
           obtain ⟨o,ho⟩:∃o,o=(cmpT v.t u.t==0):=⟨_,rfl⟩
           rw [←ho] at hcon
           have HU:=Lib.hid hu
           have HV:=Lib.hid hv
           have HOL:=Lib.hid hold
           have HO2:=Lib.hid ho
           have HTY:=Lib.hid hTy
           have HCON2:=Lib.hid hcon
           have hw3:IntKind.i64.wrap (j:Int)=j:=by rw [IntKind.wrap_i64];omega
           have hw4:((j:Int)+1).toNat=j+1:=by omega
           have e5:decide ((j:Int)+1<((E.length-(i+1):Nat):Int))=true:=decide_eq_true (by omega)
           have hj2:j<E.length-(i+1):=by omega
           have Y0:=Lib.hid y0
           have Y1:=Lib.hid y1
           have Y2:=Lib.hid y2
           have Y3:=Lib.hid y3
           clear hu hv hold ho hcon hTx hTy hget
           go_wp2_with fail
           have hb0:(0:Int)≤(j:Int)+1:=by omega
           have hb1:(j:Int)+1<((E.length-(i+1):Nat):Int):=by omega
           have HFCT:=Lib.hid (And.intro x0 (And.intro x1 (And.intro x2 (And.intro x3 (And.intro y0 (And.intro y1 (And.intro y2 y3)))))))
           refine wp_region_reg 12 false (by kernel_rfl) (by kernel_rfl) ?_
           refine reg_value (fun _=>rfl) ?_ (fun g w' vs hM hE hP=>?_) ?_
           rotate_left
           · (clear hP hM;have ⟨z0,z1,z2,z3,z4,z5,z6,z7⟩:=cs_e8 hE HFCT.out;go_simp;first | done | rfl)
           refine reg_value (fun _=>rfl) ?_ (fun g w' vs hM hE hP=>?_) ?_
           rotate_left
           · (clear hP hM;have ⟨z0,z1,z2,z3,z4,z5,z6,z7⟩:=cs_e8 hE HFCT.out;go_simp;first | done | rfl)
           refine reg_value (fun _=>rfl) ?_ (fun g w' vs hM hE hP=>?_) ?_
           rotate_left
           · (clear hP hM;have ⟨z0,z1,z2,z3,z4,z5,z6,z7⟩:=cs_e8 hE HFCT.out;go_simp;first | done | rfl)
           refine reg_value (fun _=>rfl) ?_ (fun g w' vs hM hE hP=>?_) ?_
           rotate_left
           · (clear hP hM;have ⟨z0,z1,z2,z3,z4,z5,z6,z7⟩:=cs_e8 hE HFCT.out;go_simp;first | done | rfl)
           refine reg_value (fun _=>rfl) ?_ (fun g w' vs hM hE hP=>?_) ?_
           rotate_left
           · (clear hP hM;have ⟨z0,z1,z2,z3,z4,z5,z6,z7⟩:=cs_e8 hE HFCT.out;go_simp;first | done | rfl)
           refine reg_value (fun _=>rfl) ?_ (fun g w' vs hM hE hP=>?_) ?_
           rotate_left
           · (clear hP hM;have ⟨z0,z1,z2,z3,z4,z5,z6,z7⟩:=cs_e8 hE HFCT.out;go_simp;first | done | rfl)
           refine reg_value (fun _=>rfl) ?_ (fun g w' vs hM hE hP=>?_) ?_
           rotate_left
           · (clear hP hM;have ⟨z0,z1,z2,z3,z4,z5,z6,z7⟩:=cs_e8 hE HFCT.out;go_simp;first | done | rfl)
           refine reg_value (fun _=>rfl) ?_ (fun g w' vs hM hE hP=>?_) ?_
           rotate_left
           · (clear hP hM;have ⟨z0,z1,z2,z3,z4,z5,z6,z7⟩:=cs_e8 hE HFCT.out;go_simp;first | done | rfl)
           refine reg_value (fun _=>rfl) ?_ (fun g w' vs hM hE hP=>?_) ?_
           rotate_left
           · (clear hP hM;have ⟨z0,z1,z2,z3,z4,z5,z6,z7⟩:=cs_e8 hE HFCT.out;go_simp;first | done | rfl)
           refine reg_value (fun _=>rfl) ?_ (fun g w' vs hM hE hP=>?_) ?_
           rotate_left
           · (clear hP hM;have ⟨z0,z1,z2,z3,z4,z5,z6,z7⟩:=cs_e8 hE HFCT.out;go_simp;first | done | rfl)
           refine reg_const (fun _=>rfl) 125 ?_ (fun g w' vs hM hE hP=>?_) ?_
           rotate_left
           · (clear hP hM;have ⟨z0,z1,z2,z3,z4,z5,z6,z7⟩:=cs_e8 hE HFCT.out;go_simp;first | done | exact ⟨rfl,rfl⟩ | rfl)
           apply Exists.intro
           refine And.intro (fun g w' vs hM hE hP=>?_) ?_
           · exact HCON2.out _ hE
           refine reg_value (fun _=>rfl) ?_ (fun g w' vs hM hE hP=>?_) ?_
           rotate_left
           · (clear hP hM;have ⟨z0,z1,z2,z3,z4,z5,z6,z7⟩:=cs_e8 hE HFCT.out;go_simp;first | done | rfl)
           intro gh wz hE2 hF hQ
           simp only [List.drop_succ_cons,List.drop_zero,Act.put,List.setIfInBounds_toArray,List.set_cons_succ,List.set_cons_zero]
           clear hF hQ x0 x1 x2 x3 y0 y1 y2 y3 hb0 hb1
           have HEZ:=Lib.hid hE2
           have HIZ:=Lib.hid (HI.out.next hE2)
           have y0:=cs_ext hE2 Y0.out
           have y1:=cs_ext hE2 Y1.out
           have y2:=cs_ext hE2 Y2.out
           have y3:=cs_ext hE2 Y3.out
           clear hE2
           have HDN:Hid (R.drop (i+1+(j+1))=E.drop (i+1+(j+1))):=Lib.hid (by
            have h:=congrArg (fun l:List TE=>l.drop 1) HDR.out
            simp only [List.drop_drop] at h
            exact h)
           cases o with
           | true =>
             have HSK2:Hid (compN E (i+1+(j+1)+1)=compN E (i+1+j+1)):=Lib.hid (compN_skip (by rw [←Nat.add_assoc,keepC_at HU.out HV.out,←HO2.out];rfl))
             clear y0 y1 y2 y3
             go_wp2_with fail
             go_roundw
             case rel=>exact Lib.hid ⟨k,j+1,R,rfl,by go_num,HIZ.out,hR'.out,by omega,by omega,by rw [HSK2.out];exact HTK.out,HDN.out⟩
             case measure=>simp [intOf];omega
           | false =>
             have HSK2:Hid (compN E (i+1+(j+1)+1)=compN E (i+1+j+1)++[v]):=Lib.hid (compN_keep (by rw [←Nat.add_assoc,keepC_at HU.out HV.out,←HO2.out];rfl) HV.out)
             have hkl:k<E.length:=by omega
             go_upto_region 13 with (refine wpList_storeG rfl (.tmp 56) (.tmp 55) rfl (e:=v) rfl rfl HIZ.out HS.out HOL.out (HTY.out.ext HEZ.out) ?_;intro w5 i5;have HI5:=Lib.hid i5;clear i5)
             go_wp2_with fail
             go_roundw
             case rel=>exact Lib.hid ⟨k+1,j+1,R.set k v,by go_num,by go_num,HI5.out,by rw [List.length_set];exact hR'.out,by omega,by omega,by
               rw [HSK2.out,←HTK.out,List.take_add_one,List.getElem?_set_self (by rw [hR'.out];exact hkl),List.take_set_of_le (Nat.le_refl _)];rfl,by
               rw [List.drop_set_of_lt (by omega)];exact HDN.out⟩
             case measure=>simp [intOf];omega
         · have hend:Hid (E.length=i+1+j+1):=Lib.hid (by omega)
           have e5:decide ((j:Int)+1<((E.length-(i+1):Nat):Int))=false:=decide_eq_false (by omega)
           have hsz:(R.flatMap encE++rest).toArray.size=cap*4:=by
            have h1:=flatE_len encE_len R
            have h2:=HRL.out
            have h3:=hR'.out
            simp only [List.size_toArray,List.length_append]
            omega
           have hcl:=run_clearT (off:=k*4) (n:=E.length-k) (c:=cap-k) HI.out.row (by omega) (by rw [hsz];omega)
           obtain ⟨w7,hcl,hg7,cur7,hb7,hs7,ht7⟩:=hcl
           have HB:=Lib.hid hb7
           have HG:=Lib.hid hg7
           have HT:=Lib.hid ht7
           have HSZ:=Lib.hid (hs7.trans hsz)
           clear hb7 hg7 ht7 hs7 hsz
           go_wp2_with fail
           go_ret
           have hlk:(R.take k).length=k:=by rw [List.length_take,hR'.out];omega
           have hlen:compN E E.length=R.take k:=by rw [hend.out];exact HTK.out.symm
           rw [hlen,hlk]
           refine ⟨rfl,cur7,HSZ.out,HB.out,?_,fun e he=>(HI.out.kids e (List.mem_of_mem_take he)).keep (fun c hc h=>HG.out.block c h (fun e=>HS.out c hc (Option.some.inj e))) (fun _ h _=>h),grown_trans HI.out.grown HG.out⟩
           rw [HT.out]
           have h8:((R.take k).flatMap encE).length=k*4:=by rw [flatE_len encE_len,hlk]
           have h9:R.flatMap encE=(R.take k).flatMap encE++(R.drop k).flatMap encE:=by rw [←List.flatMap_append,List.take_append_drop]
           rw [h9,List.append_assoc,←h8]
           exact List.take_left
      | false =>
        have HSK:Hid (compN E (i+1+1)=E.take (i+1+1)):=Lib.hid (by
         rw [List.take_add_one (i:=i+1),HY.out,←HC.out]
         exact compN_keep (by rw [keepC_at HX.out HY.out,←HO.out];rfl) HY.out)
        go_wp2_with fail
        go_roundw
        case rel=>exact ⟨i+1,by go_num,by omega,HSK.out,HE2.out⟩
        case measure=>simp [intOf];omega
    · have hend:Hid (E.length=i+1):=Lib.hid (by omega)
      go_wp2_with fail
      go_ret
      exact FIN.out _ HE.out (by rw [hend.out];exact HC.out)

theorem ltT_of_not {a b:Tm} (h:¬ltT b a) (k:¬cmpT b a=0):ltT a b:=by
 rcases ltT_total a b with h' | h' | h'
 · exact h'
 · exact absurd ((cmpT_zero b a).2 h'.symm) k
 · exact absurd h' h

/-- what is kept of the first m+1: ascending, the last is the m-th's term, and the same terms -/
theorem compN_spec {E:List TE} (hs:(E.map (·.t)).Pairwise (fun a b=>¬ltT b a)):∀(m:Nat) (x:TE),E[m]?=some x →
 ((compN E (m+1)).map (·.t)).Pairwise ltT∧(∀y∈compN E (m+1),y.t=x.t∨ltT y.t x.t)∧(∀t,t∈(compN E (m+1)).map (·.t)↔t∈(E.take (m+1)).map (·.t))
 | 0,x,hx=>by
   rw [compN_keep rfl hx,List.take_add_one,hx]
   simp [compN]
 | m + 1, x,hx=>by
   have hlt:=(List.getElem?_eq_some_iff.1 hx).1
   obtain ⟨u,hu⟩:∃u,E[m]?=some u:=⟨_,List.getElem?_eq_getElem (by omega)⟩
   obtain ⟨h1,h2,h3⟩:=compN_spec hs m u hu
   have hux:¬ltT x.t u.t:=by
    have:=List.pairwise_iff_getElem.1 hs m (m+1) (by simp;omega) (by simpa using hlt) (by omega)
    obtain ⟨a1,rfl⟩:=List.getElem?_eq_some_iff.1 hu
    obtain ⟨a2,rfl⟩:=List.getElem?_eq_some_iff.1 hx
    simpa using this
   have ht:(E.take (m+1+1)).map (·.t)=(E.take (m+1)).map (·.t)++[x.t]:=by rw [List.take_add_one,hx];simp
   have hk:=keepC_at hu hx
   have hum:u.t∈(compN E (m+1)).map (·.t):=(h3 u.t).2 (List.mem_map_of_mem (List.mem_of_getElem? (i:=m) (by rw [List.getElem?_take_of_lt (by omega)];exact hu)))
   by_cases h0:cmpT x.t u.t=0
   · have hxu:x.t=u.t:=(cmpT_zero _ _).1 h0
     rw [compN_skip (by rw [hk,h0];rfl),ht]
     refine ⟨h1,fun y hy=>by rw [hxu];exact h2 y hy,fun t=>?_⟩
     rw [h3 t,List.mem_append]
     constructor
     · exact .inl
     · rintro (h | h)
       · exact h
       · rw [List.mem_singleton] at h
         rw [h,hxu]
         exact (h3 u.t).1 hum
   · have hlt':ltT u.t x.t:=ltT_of_not hux h0
     have hall:∀y∈compN E (m+1),ltT y.t x.t:=fun y hy=>by
      rcases h2 y hy with h | h
      · rw [h];exact hlt'
      · exact ltT_trans h hlt'
     rw [compN_keep (by rw [hk];simpa using h0) hx,ht,List.map_append]
     refine ⟨List.pairwise_append.2 ⟨h1,by simp,?_⟩,?_,fun t=>?_⟩
     · intro a ha b hb
       obtain ⟨y,hy,rfl⟩:=List.mem_map.1 ha
       simp at hb
       rw [hb]
       exact hall y hy
     · intro y hy
       rcases List.mem_append.1 hy with h | h
       · exact .inr (hall y h)
       · simp at h;rw [h];exact .inl rfl
     · rw [List.mem_append,List.mem_append,h3 t]
       simp
theorem compN_all {E:List TE} (hs:(E.map (·.t)).Pairwise (fun a b=>¬ltT b a)):Asc ((compN E E.length).map (·.t))∧∀t,t∈(compN E E.length).map (·.t)↔t∈E.map (·.t):=by
 by_cases h:E.length=0
 · rw [List.length_eq_zero_iff.1 h]
   exact ⟨List.Pairwise.nil,fun t=>by simp [compN]⟩
 · obtain ⟨m,hm⟩:∃m,E.length=m+1:=⟨E.length-1,by omega⟩
   obtain ⟨x,hx⟩:∃x,E[m]?=some x:=⟨_,List.getElem?_eq_getElem (by omega)⟩
   have h:=compN_spec hs m x hx
   rw [hm]
   refine ⟨h.1,fun t=>?_⟩
   rw [h.2.2 t,←hm,List.take_length]

theorem compact_none (p:Option Addr) (cap:Nat) (w:World) :
 Calls Tryz.prog 124 #[.slice p 0 cap,.func (.func 125) #[] #[]] w fun e w'=>e=.returned (.slice p 0 cap)∧Ext w w':=by
 go_enter Tryz.func124,Tryz.ntmps124
 go_wp2_with fail
 go_ret
 exact ⟨rfl,Ext.refl _⟩

theorem asc_inj {L:List Tm} (h:Asc L) {i j:Nat} {x:Tm} (hi:L[i]?=some x) (hj:L[j]?=some x):i=j:=by
 rcases Nat.lt_trichotomy i j with h' | h' | h'
 · exact absurd (asc_get h hi hj h') ltT_irrefl
 · exact h'
 · exact absurd (asc_get h hj hi h') ltT_irrefl
theorem search_at {w:World} {S S':Nat→Prop} {a a':Option Addr} {cap cap' i:Nat} {L:List Tm} {p:Tm} (hL6:∀x∈L,sizeT x≤1000000) (hp6:sizeT p≤1000000) (hll:L.length≤1000000) (hs:Asc L) (hA:LsT w S (.slice a L.length cap) L) (hT:TmW w S' a' cap' p) (hi:L[i]?=some p) :
 Calls Tryz.prog 126 #[.slice a L.length cap,.agg #[.int .i64 p.kind,.string p.name,.int .i64 p.sort,.slice a' p.kids.length cap'],.func (.func 42) #[] #[]] w fun e w'=>e=.returned (.tuple #[.int .i64 i,.bool true])∧Ext w w':=by
 refine (search_any hL6 hp6 hll hs hA hT).mono ?_
 rintro e w' ⟨j,rfl,hE,hj⟩
 have hm:=List.mem_of_getElem? hi
 rw [asc_inj hs hi (hj hm),decide_eq_true hm]
 exact ⟨rfl,hE⟩

end Go.Proofs.YtclijngnoepbiaaGreat
