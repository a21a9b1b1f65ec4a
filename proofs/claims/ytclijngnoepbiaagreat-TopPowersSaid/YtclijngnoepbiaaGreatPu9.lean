/- Contracts: slices.Delete of one power of an own product. Contracts: exponent.insert, at an own product of atoms. -/
import Derived.Test.YtclijngnoepbiaaGreatPu8
set_option maxRecDepth 100000
set_option maxHeartbeats 8000000
namespace Go.Proofs.YtclijngnoepbiaaGreat
open Go Go.RowKit
set_option linter.unusedVariables false
set_option linter.unusedSimpArgs false

theorem run_clearP {w:World} {g off n c:Nat} {cur:Array Value} (hg:w.heap[g]?=some (.cells cur 66)) (hn:0<n) (ho:off+n*5≤cur.size) :
 ∃ w',(∀ty,(Builtin.clear_ #[28] ty #[.slice (some ⟨g,off,none⟩) n c]).run Tryz.prog w=.ok (.tuple #[]) w')∧w.grownBy w' (some g) ∧
   ∃cur':Array Value,w'.heap[g]?=some (.cells cur' 66)∧cur'.size=cur.size∧cur'.toList.take off=cur.toList.take off:=by
 obtain ⟨Z,hZ⟩:∃Z,Z=(Builtin.zeroCells (Value.agg #[.int .i64 0,.string ⟨#[]⟩,.int .i64 0,.slice none 0 0,.int .i64 0]).cells n).toList:=⟨_,rfl⟩
 have hzl:Z.length=n*5:=by rw [hZ];simp [Builtin.zeroCells,Value.cells]
 have hzo:∀v∈Z,v.oneCell'=true:=by
  intro v hv
  rw [hZ] at hv
  simp only [Builtin.zeroCells,Array.toList_map,List.mem_map] at hv
  obtain ⟨i,-,rfl⟩:=hv
  have h4:i % (Value.agg #[.int .i64 0,.string ⟨#[]⟩,.int .i64 0,.slice none 0 0,.int .i64 0]).cells.size<5:=Nat.mod_lt _ (by decide)
  generalize i % (Value.agg #[.int .i64 0,.string ⟨#[]⟩,.int .i64 0,.slice none 0 0,.int .i64 0]).cells.size=q at h4
  match q,h4 with
  | 0,_=>rfl
  | 1,_=>rfl
  | 2,_=>rfl
  | 3,_=>rfl
  | 4,_=>rfl
 have hr:=run_storeCells_at (P:=Tryz.prog) g off 66 Z 0 cur w hg (by omega) hzo
 rw [Nat.add_zero] at hr
 obtain ⟨m,rfl⟩:∃m,n=m+1:=⟨n-1,by omega⟩
 refine ⟨w.setRow g (cur.toList.take off++Z++cur.toList.drop (off+Z.length)).toArray,fun ty=>?_,?_,_,setRow_heap w g cur _ _ _ hg,?_,?_⟩
 · have hz:=Tryz.zeroValue66 w
   rw [hZ] at hr
   simp only [Builtin.clear_,run_underlying Tryz.underlying28,Sem.run_bind,Result.andThen_ok,List.getElem?_toArray,List.getElem?_cons_zero,hz,hr,Sem.run_pure]
   rw [hZ]
 · exact ⟨rfl,rfl,rfl,by simp,fun k _ hne=>setRow_other w g k _ (fun e=>hne (by rw [e]))⟩
 · simp;omega
 · simp only [List.append_assoc]
   rw [List.take_left' (by simp;omega)]
theorem delP_any {w:World} {base:Nat} {va:Option Addr} {vc i j:Nat} {L:List Pw} (hO:OwnG elPw w base 66 (fun _=>False) (.slice va L.length vc) L) (hi:i<L.length) (hj:j=i+1) (hl:L.length≤100) :
 Calls Tryz.prog 147 #[.slice va L.length vc,.int .i64 i,.int .i64 j] w fun e w'=>∃v',e=.returned v'∧w.grownBy w' (Value.slice va L.length vc).ownBlock∧OwnG elPw w' base 66 (fun _=>False) v' (L.take i++L.drop (i+1))∧v'.ownBlock=(Value.slice va L.length vc).ownBlock:=by
 obtain ⟨g,rest,rfl,hg,hrl,hb,hn,hm,hob,hwf⟩:=own_split hO (by intro h;rw [h] at hi;simp at hi)
 have hm0:=hm
 unfold maxLen at hm
 obtain ⟨n,hnl⟩:∃n,n=L.length:=⟨_,rfl⟩
 obtain ⟨A,hA⟩:∃A,A=L.take i:=⟨_,rfl⟩
 obtain ⟨D,hD⟩:∃D,D=L.drop (i+1):=⟨_,rfl⟩
 obtain ⟨x,hx⟩:∃x,L[i]?=some x:=⟨_,List.getElem?_eq_getElem hi⟩
 have hLA:L=A++[x]++D:=by
  rw [hA,hD,←getT hx,List.take_append_drop]
 have hAl:A.length=i:=by rw [hA,List.length_take];omega
 have hDl:D.length=n-j:=by rw [hD,List.length_drop,hnl,hj]
 rw [←hnl] at hi hl hn hrl ⊢
 have HRES:Hid (L.take i++L.drop (i+1)=A++D):=Lib.hid (by rw [hA,hD])
 have HCUR:Hid ((pwF L++rest)=(pwF A++pwC x)++pwF D++rest):=Lib.hid (by rw [hLA,pwF_app,pwF_app,pwF_one])
 have HWF:Hid (WfP (A++D)):=Lib.hid (fun p hp=>hwf p (by
  rw [hLA]
  rcases List.mem_append.1 hp with h | h
  · exact List.mem_append_left _ (List.mem_append_left _ h)
  · exact List.mem_append_right _ h))
 have HLEN:=Lib.hid (And.intro hAl (And.intro hDl hrl))
 rw [HCUR.out] at hg
 have HG:=Lib.hid hg
 have HMX:=Lib.hid hm0
 have hiz:(i:Int)≤(n:Int):=by omega
 have hjz:(j:Int)≤(n:Int):=by omega
 have hij:(i:Int)≤(j:Int):=by omega
 have hne:¬(i:Int)=(j:Int):=by omega
 have hneb:((i:Int)==(j:Int))=false:=beq_eq_false_iff_ne.2 hne
 have hne2:¬i=j:=by omega
 have hnv:(n:Int)≤(vc:Int):=by omega
 have hjv:(j:Int)≤(vc:Int):=by omega
 have hiv:(i:Int)≤(vc:Int):=by omega
 have hi0:(0:Int)≤(i:Int):=by omega
 have hj0:(0:Int)≤(j:Int):=by omega
 have hn0:(0:Int)≤(n:Int):=by omega
 rw [HRES.out]
 have HJ:=Lib.hid hj
 have hin:i≤n:=by omega
 have hjn:j≤n:=by omega
 have hijn:i≤j:=by omega
 have hjvn:j≤vc:=by omega
 have hivn:i≤vc:=by omega
 clear hO hg hx hLA hA hD hAl hDl hrl hwf hnl hob hm0 hj
 go_enter Tryz.func147,Tryz.ntmps147
 go_upto_region 5 with fail
 refine wp_region_reg 6 false (by kernel_rfl) (by kernel_rfl) ?_
 refine reg_value (fun _=>rfl) ?_ (fun g w' vs hM hE hP=>?_) ?_
 rotate_left
 · (clear hP hM;go_simp;first | done | rfl)
 refine reg_value (fun _=>rfl) ?_ (fun g w' vs hM hE hP=>?_) ?_
 rotate_left
 · (clear hP hM;go_simp;first | done | rfl)
 refine reg_value (fun _=>rfl) ?_ (fun g w' vs hM hE hP=>?_) ?_
 rotate_left
 · (clear hP hM;go_simp;first | done | rfl)
 refine reg_value (fun _=>rfl) ?_ (fun g w' vs hM hE hP=>?_) ?_
 rotate_left
 · (clear hP hM;go_simp;first | done | rfl)
 refine reg_value (fun _=>rfl) ?_ (fun g w' vs hM hE hP=>?_) ?_
 rotate_left
 · (clear hP hM;go_simp;first | done | rfl)
 refine reg_value (fun _=>rfl) ?_ (fun g w' vs hM hE hP=>?_) ?_
 rotate_left
 · (clear hP hM;go_simp;first | done | rfl)
 intro u wz hEz hF hQ
 simp only [List.drop_succ_cons,List.drop_zero,Act.put,List.setIfInBounds_toArray,List.set_cons_succ,List.set_cons_zero]
 obtain ⟨aa,haa⟩:∃aa:Addr,aa=if vc=j then (⟨g,0,none⟩:Addr) else ⟨g,j*5,none⟩:=⟨_,rfl⟩
 have hif:(if vc=j then (some ⟨g,0,none⟩:Option Addr) else some ⟨g,j*5,none⟩)=some aa:=by rw [haa];split<;>rfl
 rw [hif]
 have hgz:=hs_ext hEz HG.out
 obtain ⟨cur2,hc2⟩:∃cur2,cur2=((pwF A++pwC x++pwF D++rest).take (i*5)++pwF D++(pwF A++pwC x++pwF D++rest).drop (i*5+(pwF D).length)):=⟨_,rfl⟩
 obtain ⟨i0,hi0,hi1,hi2,hi3⟩:=info_parts infPw
 have hA5:(pwF A).length=i*5:=by rw [pwF_len,HLEN.out.1]
 have hD5:(pwF D).length=(n-j)*5:=by rw [pwF_len,HLEN.out.2.1]
 have hx5:(pwC x).length=5:=rfl
 have hR5:=HLEN.out.2.2
 have hrun:=fun ty=>run_append_room (P:=Tryz.prog) wz 28 ty 66 i0 Tryz.underlying28 hi0 g i vc _ hgz aa (n-j) (vc-j) (pwF D) (by rw [hD5,hi2]) (fun q u hu=>by
  have hDne:vc≠j:=by
   intro e
   have h2:D=[]:=List.length_eq_zero_iff.1 (by have:=HLEN.out.2.1;omega)
   rw [h2] at hu
   simp [pwF] at hu
  rw [haa,if_neg hDne]
  exact pwF_at (A:=pwF A++pwC x) hgz (by rw [List.length_append,hA5,hx5,HJ.out];omega) q u hu) (pwF_cell D) (by have:=HJ.out;omega) (by
  rw [List.size_toArray,hi2]
  simp only [List.length_append,hA5,hD5,hx5]
  have:=HJ.out
  omega)
 rw [hi2,List.toList_toArray,hD5] at hrun
 obtain ⟨T,hT,hTl⟩:∃T:List Value,(pwF A++pwC x++pwF D++rest).take (i*5)++pwF D++(pwF A++pwC x++pwF D++rest).drop (i*5+(n-j)*5)=pwF A++pwF D++T∧T.length=(vc-(n-1))*5:=by
  refine ⟨(pwF A++pwC x++pwF D++rest).drop (i*5+(n-j)*5),?_,?_⟩
  · congr 2
    rw [List.append_assoc,List.append_assoc,List.take_append_of_le_length (by omega),List.take_of_length_le (by omega)]
  · rw [List.length_drop]
    simp only [List.length_append,hA5,hD5,hx5,hR5]
    have:=HJ.out
    omega
 rw [hT] at hrun
 obtain ⟨q,hq⟩:∃q,q=n-1:=⟨_,rfl⟩
 have e1:i+(n-j)=q:=by have:=HJ.out;omega
 rw [e1] at hrun
 rw [←hq] at hTl
 obtain ⟨w5,hw5⟩:∃w5,w5=wz.setRow g (pwF A++pwF D++T).toArray:=⟨_,rfl⟩
 rw [←hw5] at hrun
 have hb5:w5.heap[g]?=some (.cells (pwF A++pwF D++T).toArray 66):=by rw [hw5];exact setRow_heap wz g _ _ _ _ hgz
 have hg5:w.grownBy w5 (some g):=by
  refine grown_trans (grown_put' hEz (some g)) ?_
  rw [hw5]
  exact ⟨rfl,rfl,rfl,by simp,fun k _ hne=>setRow_other wz g k _ (fun e=>hne (by rw [e]))⟩
 have hAD:(pwF A++pwF D).length=q*5:=by rw [List.length_append,hA5,hD5];have:=HJ.out;omega
 obtain ⟨w7,hcl,hg7,cur7,hb7,hs7,ht7⟩:=run_clearP (off:=q*5) (n:=n-q) (c:=vc-q) hb5 (by omega) (by rw [List.size_toArray,List.length_append,hAD,hTl];have:=HMX.out;omega)
 have HG7:=Lib.hid (grown_trans hg5 hg7)
 have HOW:Hid (OwnG elPw w7 base 66 (fun _=>False) (.slice (some ⟨g,0,none⟩) q vc) (A++D)):=Lib.hid (by
  have h1:cur7=(pwF (A++D)++cur7.toList.drop (q*5)).toArray:=by
   apply Array.ext'
   rw [List.toList_toArray]
   have h2:cur7.toList.take (q*5)=pwF (A++D):=by
    rw [ht7,List.toList_toArray,List.take_append_of_le_length (by omega),List.take_of_length_le (by omega),pwF_app]
   rw [←h2,List.take_append_drop]
  have hADl:(A++D).length=q:=by rw [List.length_append,HLEN.out.1,HLEN.out.2.1];have:=HJ.out;omega
  have h3:=own_cells (w:=w7) (base:=base) (g:=g) (cap:=vc) (S:=fun _=>False) (L:=A++D) (rest:=cur7.toList.drop (q*5)) (by rw [←h1];exact hb7) (by rw [List.length_drop,Array.length_toList,hs7,List.size_toArray,List.length_append,hAD,hTl,hADl];omega) (by omega) HMX.out hb HWF.out
  rw [hADl] at h3
  exact h3)
 have hqv:¬vc=q:=by omega
 have hqz:(q:Int)≤(n:Int):=by omega
 have hq0:(0:Int)≤(q:Int):=by omega
 have hqn:q≤n:=by omega
 have hnvn:n≤vc:=by omega
 have hqvn:q≤vc:=by omega
 have hqvz:(q:Int)≤(vc:Int):=by omega
 clear hT hTl hw5 hb5 hg5 hb7 hs7 ht7 hg7 hgz hc2 hA5 hD5 hx5 hR5 hAD hi1 hi2 hi3 hi0 e1 hF hQ hEz haa hif hq hn hl hi
 refine Lib.wpList_append_run _ rfl (.tmp 22) (.tmp 25) _ _ rfl _ _ rfl rfl _ _ (hrun _) ?_
 clear hrun
 go_wp2_with fail
 go_ret
 exact ⟨_,rfl,HG7.out,HOW.out,rfl⟩

theorem pwF_set:∀{L:List Pw} {i:Nat} {x:Pw} {m:Int},L[i]?=some x→(pwF L).set (i*5+4) (.int .i64 m)=pwF (L.set i (x.1,m)):=by
 intro L
 induction L with
 | nil=>intro i x m h;simp at h
 | cons p L ih =>
   intro i x m h
   cases i with
   | zero=>cases h;rfl
   | succ i =>
     have h2:=ih (i:=i) (x:=x) (m:=m) (by simpa using h)
     show (pwC p++pwF L).set ((i+1)*5+4) _=pwC p++pwF (L.set i (x.1,m))
     rw [←h2,List.set_append_right _ _ (by show 5≤_;omega)]
     congr 2
     show (i+1)*5+4-5=i*5+4
     omega
theorem add_no {L:List Pw} {t i:Nat} {m:Int} (hS:SrchP L t i) (hn:¬∃p∈L,p.1=t):addP L t m=L.take i++[(t,m)]++L.drop i:=by
 have h1:∀p∈L.take i,p.1<t:=fun p hp=>by
  obtain ⟨k,hk⟩:=List.mem_iff_getElem?.1 hp
  have hki:k<i:=by
   have:=(List.getElem?_eq_some_iff.1 hk).1
   rw [List.length_take] at this;omega
  rw [List.getElem?_take_of_lt hki] at hk
  exact hS.lo k p hki hk
 conv=>lhs;rw [←List.take_append_drop i L]
 rw [addP_lt h1,List.append_assoc]
 congr 1
 cases hd:L.drop i with
 | nil=>rfl
 | cons x B =>
   have hx:L[i]?=some x:=by
    have:(L.drop i)[0]?=some x:=by rw [hd];rfl
    rwa [List.getElem?_drop,Nat.add_zero] at this
   have h2:=hS.hi i x (Nat.le_refl _) hx
   have h3:x.1≠t:=fun e=>hn ⟨x,List.mem_of_getElem? hx,e⟩
   show (if t<x.1 then _ else _)=_
   rw [if_pos (by omega)]
   rfl
theorem add_yes {L:List Pw} {t i:Nat} {m:Int} {x:Pw} (hS:SrchP L t i) (hx:L[i]?=some x) (ht:x.1=t):addP L t m=if x.2+m=0 then L.take i++L.drop (i+1) else L.set i (x.1,x.2+m):=by
 have h1:∀p∈L.take i,p.1<t:=fun p hp=>by
  obtain ⟨k,hk⟩:=List.mem_iff_getElem?.1 hp
  have hki:k<i:=by
   have:=(List.getElem?_eq_some_iff.1 hk).1
   rw [List.length_take] at this;omega
  rw [List.getElem?_take_of_lt hki] at hk
  exact hS.lo k p hki hk
 obtain ⟨hil,hxe⟩:=List.getElem?_eq_some_iff.1 hx
 conv=>lhs;rw [←List.take_append_drop i L]
 rw [addP_lt h1,List.drop_eq_getElem_cons hil,hxe]
 show _++(if t<x.1 then _ else if x.1=t then (if x.2+m=0 then L.drop (i+1) else (t,x.2+m) :: L.drop (i+1)) else _)=_
 rw [if_neg (by omega),if_pos ht]
 split
 · rfl
 · rw [List.set_eq_take_append_cons_drop,if_pos hil,ht]
theorem setCellP_grown {w:World} {g o:Nat} {v:Value} {W:World} (h:W.grownBy w (some g)):W.grownBy (w.setCell ⟨g,o,none⟩ v) (some g) :=
 ⟨h.os,h.tape,h.output,by simpa using h.size,fun q hq hne=>(heap_setCell_other _ _ _ _ (fun e=>hne (by rw [e]))).trans (h.block q hq hne)⟩
/-- the power of an element of an own row is changed -/
theorem own_setN {w:World} {base g n vc i:Nat} {L:List Pw} {x:Pw} {m:Int} (h:OwnG elPw w base 66 (fun _=>False) (.slice (some ⟨g,0,none⟩) n vc) L) (hx:L[i]?=some x) (hm:I64 m) :
 OwnG elPw (w.setCell ⟨g,i*5+4,none⟩ (.int .i64 m)) base 66 (fun _=>False) (.slice (some ⟨g,0,none⟩) n vc) (L.set i (x.1,m)):=by
 obtain ⟨g',rest,e,hg,hrl,hb,hn,hmx,hnl,hwf⟩:=own_split h (by intro e;rw [e] at hx;simp at hx)
 cases e
 have hil:=(List.getElem?_eq_some_iff.1 hx).1
 have h1:(w.setCell ⟨g,i*5+4,none⟩ (.int .i64 m)).heap[g]?=some (.cells (pwF (L.set i (x.1,m))++rest).toArray 66):=by
  rw [heap_setCell_same w g _ _ _ _ hg]
  congr 2
  rw [List.setIfInBounds_toArray,List.set_append_left _ _ (by rw [pwF_len];omega),pwF_set hx]
 have h2:=own_cells (w:=w.setCell ⟨g,i*5+4,none⟩ (.int .i64 m)) (base:=base) (g:=g) (cap:=vc) (S:=fun _=>False) h1 (by rw [hrl,List.length_set]) (by rw [List.length_set];omega) hmx hb (fun p hp=>by
  rcases List.mem_or_eq_of_mem_set hp with h3 | h3
  · exact hwf p h3
  · rw [h3];exact ⟨(hwf x (List.mem_of_getElem? hx)).1,hm⟩)
 rw [List.length_set] at h2
 rw [hnl]
 exact h2
theorem pinsert_any {w:World} {base:Nat} {va:Option Addr} {vc t:Nat} {m:Int} {L:List Pw} (hO:OwnG elPw w base 66 (fun _=>False) (.slice va L.length vc) L) (hb:base≤w.heap.size) (hG:Good L) (hR:Rng 1000000 L) (ht:t<6) (hm:-1000≤m∧m≤1000) :
 Calls Tryz.prog 137 #[.slice va L.length vc,.agg #[.int .i64 2,.string (ltr t),.int .i64 2,.slice none 0 0,.int .i64 m]] w fun e w'=>∃v',e=.returned v'∧w.grownBy w' (Value.slice va L.length vc).ownBlock∧OwnG elPw w' base 66 (fun _=>False) v' (addP L t m):=by
 have hl6:=hG.len
 obtain ⟨pb,w1,hpb,hw1,HPB,hE1⟩:=box_new w (.cells #[.int .i64 2,.string (ltr t),.int .i64 2,.slice none 0 0,.int .i64 m] 66)
 have HG:=Lib.hid (And.intro hG hR)
 have HLT:=Lib.hid hO.lt
 have HO:=Lib.hid (hO.ext hE1)
 have HSE:=Lib.hid (psearch_ins (hO.ext hE1).any hG ht)
 have HE1:=Lib.hid hE1
 have z0:w1.cell? ⟨pb,0,none⟩=some (.int .i64 2):=by rw [cellc HPB.out];rfl
 have z1:w1.cell? ⟨pb,1,none⟩=some (.string (ltr t)):=by rw [cellc HPB.out];rfl
 have z2:w1.cell? ⟨pb,2,none⟩=some (.int .i64 2):=by rw [cellc HPB.out];rfl
 have z3:w1.cell? ⟨pb,3,none⟩=some (.slice none 0 0):=by rw [cellc HPB.out];rfl
 have z4:w1.cell? ⟨pb,4,none⟩=some (.int .i64 m):=by rw [cellc HPB.out];rfl
 have HPW:Hid (w.heap.size=pb):=Lib.hid hpb.symm
 have HBS:=Lib.hid hb
 clear hO hG hR hE1 hb
 go_enter Tryz.func137,Tryz.ntmps137
 go_upto_region 1 with fail
 rw [←hw1,←hpb]
 clear hw1 hpb
 go_wp2_with fail
 refine HSE.out.mono ?_
 rintro e w2 ⟨i,rfl,hE2,hS⟩
 have HF:=Lib.hid (hS.found HG.out.1)
 have HSR:=Lib.hid hS
 have hil:=hS.le
 have HE2:=Lib.hid (HE1.out.trans hE2)
 have HO2:=Lib.hid (HO.out.ext hE2)
 obtain ⟨z0,z1,z2,z3,z4⟩:=cs_e5 hE2 ⟨z0,z1,z2,z3,z4⟩
 clear hE2 hS
 by_cases hf:∃p∈L,p.1=t
 · obtain ⟨x,hx,hxt⟩:=HF.out.1 hf
   have df:decide (∃p∈L,p.1=t)=true:=decide_eq_true hf
   rw [df]
   have hxr:=HG.out.2 x (List.mem_of_getElem? hx)
   have hiL:i<L.length:=(List.getElem?_eq_some_iff.1 hx).1
   obtain ⟨g,off,rfl,hgl,y0,y1,y2,y3,y4,hx6,hI⟩:=pwAt HO2.out.any hx
   obtain ⟨g',rest,hge,hgb,-,-,-,-,-,-⟩:=own_split HO2.out (by intro e;rw [e] at hx;simp at hx)
   cases hge
   rw [Nat.zero_add] at y4
   have HHX:=Lib.hid hx
   have HAD:=Lib.hid (add_yes (m:=m) HSR.out hx hxt)
   obtain ⟨N,hN⟩:∃N,N=x.2+m:=⟨_,rfl⟩
   rw [←hN] at HAD
   have wN:IntKind.i64.wrap (x.2+m)=N:=by rw [hN,IntKind.wrap_i64];omega
   have hNb:-2000000≤N∧N≤2000000:=by omega
   have hiz:(i:Int)<(L.length:Int):=by omega
   have hi0:(0:Int)≤(i:Int):=by omega
   have HNE:Hid (g≠pb):=Lib.hid (by
    have:=HLT.out g rfl
    have:=HPW.out
    omega)
   clear hf hx hxt hN hxr df hgb
   go_upto_region 4 with fail
   have HFCT:=Lib.hid (And.intro y4 z4)
   refine wp_region_reg 10 false (by kernel_rfl) (by kernel_rfl) ?_
   refine reg_value (fun _=>rfl) ?_ (fun g w' vs hM hE hP=>?_) ?_
   rotate_left
   · (clear hP hM;have ⟨z0,z1⟩:=cs_e2 hE HFCT.out;go_simp;first | done | rfl)
   refine reg_value (fun _=>rfl) ?_ (fun g w' vs hM hE hP=>?_) ?_
   rotate_left
   · (clear hP hM;have ⟨z0,z1⟩:=cs_e2 hE HFCT.out;go_simp;first | done | rfl)
   refine reg_value (fun _=>rfl) ?_ (fun g w' vs hM hE hP=>?_) ?_
   rotate_left
   · (clear hP hM;have ⟨z0,z1⟩:=cs_e2 hE HFCT.out;go_simp;first | done | rfl)
   refine reg_value (fun _=>rfl) ?_ (fun g w' vs hM hE hP=>?_) ?_
   rotate_left
   · (clear hP hM;have ⟨z0,z1⟩:=cs_e2 hE HFCT.out;go_simp;first | done | rfl)
   refine reg_value (fun _=>rfl) ?_ (fun g w' vs hM hE hP=>?_) ?_
   rotate_left
   · (clear hP hM;have ⟨z0,z1⟩:=cs_e2 hE HFCT.out;go_simp;first | done | rfl)
   refine reg_value (fun _=>rfl) ?_ (fun g w' vs hM hE hP=>?_) ?_
   rotate_left
   · (clear hP hM;have ⟨z0,z1⟩:=cs_e2 hE HFCT.out;go_simp;first | done | rfl)
   refine reg_value (fun _=>rfl) ?_ (fun g w' vs hM hE hP=>?_) ?_
   rotate_left
   · (clear hP hM;have ⟨z0,z1⟩:=cs_e2 hE HFCT.out;go_simp;first | done | rfl)
   refine reg_value (fun _=>rfl) ?_ (fun g w' vs hM hE hP=>?_) ?_
   rotate_left
   · (clear hP hM;have ⟨z0,z1⟩:=cs_e2 hE HFCT.out;go_simp;first | done | rfl)
   refine reg_value (fun _=>rfl) ?_ (fun g w' vs hM hE hP=>?_) ?_
   rotate_left
   · (clear hP hM;have ⟨z0,z1⟩:=cs_e2 hE HFCT.out;go_simp;first | done | rfl)
   refine reg_value (fun _=>rfl) ?_ (fun g w' vs hM hE hP=>?_) ?_
   rotate_left
   · (clear hP hM;have ⟨z0,z1⟩:=cs_e2 hE HFCT.out;go_simp;first | done | rfl)
   intro u w5 hE5 hF hQ
   simp only [List.drop_succ_cons,List.drop_zero,Act.put,List.setIfInBounds_toArray,List.set_cons_succ,List.set_cons_zero]
   have HO5:=Lib.hid (HO2.out.ext hE5)
   have HE5:=Lib.hid (HE2.out.trans hE5)
   have y4:=cs_ext hE5 y4
   obtain ⟨g',rest,hge,hgb,-,-,-,-,-,-⟩:=own_split HO5.out (by intro e;rw [e] at hiL;simp at hiL)
   cases hge
   have yf:w5.frozen? ⟨g,i*5+4,none⟩=false:=frozenc hgb
   obtain ⟨w6,hw6⟩:∃w6,w6=w5.setCell ⟨g,i*5+4,none⟩ (.int .i64 N):=⟨_,rfl⟩
   have HO6:Hid (OwnG elPw w6 base 66 (fun _=>False) (.slice (some ⟨g,0,none⟩) L.length vc) (L.set i (x.1,N))):=Lib.hid (by rw [hw6];exact own_setN HO5.out HHX.out (by unfold I64;omega))
   have HG6:Hid (w.grownBy w6 (some g)):=Lib.hid (by rw [hw6];exact setCellP_grown (grown_put' HE5.out (some g)))
   have c6:w6.cell? ⟨g,i*5+4,none⟩=some (.int .i64 N):=by
    obtain ⟨b2,o2,e2,-,-,-,-,-,c6,-⟩:=pwAt (w:=w6) (S:=fun _=>True) (cap:=vc) (L:=L.set i (x.1,N)) (q:=i) (x:=(x.1,N)) (by rw [List.length_set];exact HO6.out.any) (by rw [List.getElem?_set_self hiL])
    cases e2
    rw [Nat.zero_add] at c6
    exact c6
   clear hF hQ hE5 y0 y1 y2 y3 z0 z1 z2 z3 hgb
   by_cases hN0:N=0
   · have e1:(N==(0:Int))=true:=beq_iff_eq.2 hN0
     have e2:decide (N=0)=true:=decide_eq_true hN0
     have wi:IntKind.i64.wrap ((i:Int)+1)=((i+1:Nat):Int):=by rw [IntKind.wrap_i64];omega
     obtain ⟨j,hj⟩:∃j,j=i+1:=⟨_,rfl⟩
     rw [←hj] at wi
     have HDE:Hid (Calls Tryz.prog 147 #[.slice (some ⟨g,0,none⟩) L.length vc,.int .i64 i,.int .i64 j] w6 fun e w'=>∃v',e=.returned v'∧w6.grownBy w' (some g)∧OwnG elPw w' base 66 (fun _=>False) v' (L.take i++L.drop (i+1))∧v'.ownBlock=some g):=Lib.hid (by
      have h:=delP_any (w:=w6) (base:=base) (va:=some ⟨g,0,none⟩) (vc:=vc) (i:=i) (j:=j) (L:=L.set i (x.1,N)) (by rw [List.length_set];exact HO6.out) (by rw [List.length_set];exact hiL) hj (by rw [List.length_set];omega)
      rw [List.length_set,List.take_set_of_le (Nat.le_refl _),List.drop_set_of_lt (by omega)] at h
      exact h)
     have HA2:Hid (addP L t m=L.take i++L.drop (i+1)):=Lib.hid (by rw [HAD.out,if_pos hN0])
     clear hN0 hj
     go_upto_region 5 with fail
     rw [←hw6]
     clear hw6
     go_wp2_with fail
     refine HDE.out.mono ?_
     rintro e w7 ⟨v',rfl,hg7,hO7,hb7⟩
     have HG7:=Lib.hid (grown_trans HG6.out hg7)
     have HO7:=Lib.hid hO7
     clear hg7 hO7 hb7 c6
     go_wp2_with fail
     go_ret
     exact ⟨_,rfl,HG7.out,by rw [HA2.out];exact HO7.out⟩
   · have e1:(N==(0:Int))=false:=beq_eq_false_iff_ne.2 hN0
     have e2:decide (N=0)=false:=decide_eq_false hN0
     have HA2:Hid (addP L t m=L.set i (x.1,N)):=Lib.hid (by rw [HAD.out,if_neg hN0])
     clear hN0
     go_upto_region 5 with fail
     rw [←hw6]
     clear hw6
     go_wp2_with fail
     go_ret
     exact ⟨_,rfl,HG6.out,by rw [HA2.out];exact HO6.out⟩
 · have df:decide (∃p∈L,p.1=t)=false:=decide_eq_false hf
   rw [df]
   have HAD:=Lib.hid (add_no (m:=m) HSR.out hf)
   have HCL:=Lib.hid (fun (w':World)=>xclone_atm (w:=w') (i:=t))
   unfold atmV at HCL
   clear hf df
   go_upto_region 3 with fail
   have HFCT:=Lib.hid (And.intro z0 (And.intro z1 (And.intro z2 (And.intro z3 z4))))
   refine wp_region_reg 9 false (by kernel_rfl) (by kernel_rfl) ?_
   refine reg_value (fun _=>rfl) ?_ (fun g w' vs hM hE hP=>?_) ?_
   rotate_left
   · (clear hP hM;have ⟨z0,z1,z2,z3,z4⟩:=cs_e5 hE HFCT.out;go_simp;first | done | rfl)
   refine reg_value (fun _=>rfl) ?_ (fun g w' vs hM hE hP=>?_) ?_
   rotate_left
   · (clear hP hM;have ⟨z0,z1,z2,z3,z4⟩:=cs_e5 hE HFCT.out;go_simp;first | done | rfl)
   refine reg_value (fun _=>rfl) ?_ (fun g w' vs hM hE hP=>?_) ?_
   rotate_left
   · (clear hP hM;have ⟨z0,z1,z2,z3,z4⟩:=cs_e5 hE HFCT.out;go_simp;first | done | rfl)
   refine reg_value (fun _=>rfl) ?_ (fun g w' vs hM hE hP=>?_) ?_
   rotate_left
   · (clear hP hM;have ⟨z0,z1,z2,z3,z4⟩:=cs_e5 hE HFCT.out;go_simp;first | done | rfl)
   refine reg_const (fun _=>rfl) 24 ?_ (fun g w' vs hM hE hP=>?_) ?_
   rotate_left
   · (clear hP hM;have ⟨z0,z1,z2,z3,z4⟩:=cs_e5 hE HFCT.out;go_simp;first | done | exact ⟨rfl,rfl⟩ | rfl)
   apply Exists.intro
   refine And.intro (fun g w' vs hM hE hP=>?_) ?_
   · exact HCL.out _
   refine reg_value (fun _=>rfl) ?_ (fun g w' vs hM hE hP=>?_) ?_
   rotate_left
   · (clear hP hM;have ⟨z0,z1,z2,z3,z4⟩:=cs_e5 hE HFCT.out;go_simp;first | done | rfl)
   refine reg_value (fun _=>rfl) ?_ (fun g w' vs hM hE hP=>?_) ?_
   rotate_left
   · (clear hP hM;have ⟨z0,z1,z2,z3,z4⟩:=cs_e5 hE HFCT.out;go_simp;first | done | rfl)
   refine reg_value (fun _=>rfl) ?_ (fun g w' vs hM hE hP=>?_) ?_
   rotate_left
   · (clear hP hM;have ⟨z0,z1,z2,z3,z4⟩:=cs_e5 hE HFCT.out;go_simp;first | done | rfl)
   refine reg_fresh (fun _=>rfl) (fun n=>.slice (some ⟨n,0,none⟩) 1 1) ?_ (fun g w' vs hM hE hP=>?_) ?_
   rotate_left
   · (clear hP hM;have ⟨z0,z1,z2,z3,z4⟩:=cs_e5 hE HFCT.out;go_simp;first | done | rfl | exact ⟨rfl,rfl⟩)
   intro u w5 hE5 hF hQ
   simp only [List.drop_succ_cons,List.drop_zero,Act.put,List.setIfInBounds_toArray,List.set_cons_succ,List.set_cons_zero]
   obtain ⟨hf,hge0⟩:=hF.2.1 _ List.mem_cons_self
   obtain ⟨e,he⟩:∃e,e=(u 8).n:=⟨_,rfl⟩
   rw [←he]
   have hf:w5.heap[e]?=some (.cells #[.int .i64 2,.string (ltr t),.int .i64 2,.slice none 0 0,.int .i64 m] 66):=by rw [he];exact hf
   have hge:w2.heap.size≤e:=by rw [he];exact hge0
   have HIN:=Lib.hid (insP_any (base:=base) (i:=i) (x:=(t,m)) (vb:=e) (HO2.out.ext hE5) (by have:=HBS.out;have:=HE2.out.size;have:=hE5.size;omega) hil (by omega) ht (by unfold I64;omega) hf (fun g' h=>by have:=(HO2.out.lt g' h).2;omega))
   have HE5:=Lib.hid (HE2.out.trans hE5)
   clear hF hQ hE5 hf he hge hge0 z0 z1 z2 z3 z4
   go_wp2_with fail
   refine HIN.out.mono ?_
   rintro e w6 ⟨v',rfl,hg6,hO6⟩
   have HG6:=Lib.hid (grown_trans (grown_put' HE5.out _) hg6)
   have HO6:=Lib.hid hO6
   clear hg6 hO6
   go_wp2_with fail
   go_ret
   exact ⟨_,rfl,HG6.out,by rw [HAD.out];exact HO6.out⟩
end Go.Proofs.YtclijngnoepbiaaGreat
