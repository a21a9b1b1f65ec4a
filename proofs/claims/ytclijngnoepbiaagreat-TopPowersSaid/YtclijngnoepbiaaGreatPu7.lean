/- Plain law: a product on which the elimination fails is no combination of the generators. Contracts: exponent.Member. Contracts: exponent.Refute. Contracts: exponent.Refute. -/
import Derived.Test.YtclijngnoepbiaaGreatPu6
import Derived.Test.YtclijngnoepbiaaGreatPu3
set_option maxRecDepth 100000
set_option maxHeartbeats 8000000
namespace Go.Proofs.YtclijngnoepbiaaGreat
open Go Go.RowKit
set_option linter.unusedVariables false
set_option linter.unusedSimpArgs false

/-- the product is a combination of the generators -/
def Comb (LL:List (List Pw)) (m:List Pw) (C:List Int):Prop:=C.length=LL.length∧∀i,cf m i=dot C (LL.map fun L=>cf L i)
theorem prime_exists {R:List ERow} {P m p k:List Int} {G:List (List Int)} {n j:Nat} (hI:EInv n G n R P) (hT:TInv n G m j p k) (hn:n≤12) (hj:j<n) (hd:gt p j≠0):∃q,PrimeS q∧q≤1429∧FreeP R P q j∧gt p j % (q:Int)≠0:=by
 have habs:∀c'<j,∀(i:Nat) r,gt P c'=i→R[i]?=some r→0<(gt r.p c').natAbs∧(gt r.p c').natAbs≤1099511627776:=fun c' hc' i r h1 h2=>by
  rcases hI.piv c' (by omega) with h3 | ⟨i',r',h3,h4,-,h5,-⟩
  · omega
  · have:i'=i:=by omega
    subst this
    rw [h2] at h4;cases h4
    have hb:=(hI.bnd r (List.mem_of_getElem? h2)).1 (gt r.p c') (gt_mem (by rw [(hI.len r (List.mem_of_getElem? h2)).1];omega))
    omega
 have hpj:0<(gt p j).natAbs∧(gt p j).natAbs≤1099511627776:=by
  have:=hT.bp (gt p j) (gt_mem (by rw [hT.pl];exact hj))
  omega
 obtain ⟨q,h1,h2,h3⟩:=free_prime (Ns:=(gt p j).natAbs :: (List.range j).map (fun c=>match R[(gt P c).toNat]? with | some r=>if gt P c=-1 then 1 else (gt r.p c).natAbs | none=>1)) (fun N hN=>by
  rcases List.mem_cons.1 hN with h | h
  · rw [h];exact hpj
  · obtain ⟨c,hc,rfl⟩:=List.mem_map.1 h
    have hc:=List.mem_range.1 hc
    rcases hI.piv c (by omega) with h3 | ⟨i',r',h3,h4,-,h5,-⟩
    · split
      · rw [if_pos h3];omega
      · omega
    · rw [h3,Int.toNat_natCast,h4]
      simp only
      rw [if_neg (by omega)]
      exact habs c hc i' r' h3 h4) (by simp;omega)
 refine ⟨q,h1,h2,fun c' hc' i r h4 h5 hz=>?_,fun hz=>?_⟩
 · have:=h3 (gt r.p c').natAbs (List.mem_cons_of_mem _ (List.mem_map.2 ⟨c',List.mem_range.2 hc',by rw [h4,Int.toNat_natCast,h5];simp only;rw [if_neg (by omega)]⟩))
   apply this
   have e:absI (gt r.p c')=((gt r.p c').natAbs:Int):=by rcases absI_cases (gt r.p c') with ⟨_,e⟩ | ⟨_,e⟩<;>omega
   rw [e] at hz
   exact Int.ofNat.inj hz
 · apply h3 (gt p j).natAbs (List.mem_cons_self ..)
   have hdv:(q:Int)∣gt p j:=Int.dvd_of_emod_eq_zero hz
   have:=Int.natAbs_dvd_natAbs.2 hdv
   exact Nat.mod_eq_zero_of_dvd this
/-- a character by force -/
theorem char_prime {R:List ERow} {P m p k:List Int} {G:List (List Int)} {n j q:Nat} (hI:EInv n G n R P) (hT:TInv n G m j p k) (hj:j<n) (hp:gt P j=-1) (hq:PrimeS q) (hF:FreeP R P q j) (hd:gt p j % (q:Int)≠0):∃V:List Int,(∀g∈G,(q:Int)∣dot g V)∧¬(q:Int)∣dot m V:=by
 have hq1:=hq.1
 have hstep:∀i,i≤j→∃V,Chi R P n (j-i) j q V∧gt V j=1:=by
  intro i
  induction i with
  | zero =>
    intro _
    exact ⟨_,Chi.start (V:=List.replicate n 0) (z:=1) (by simp) (gt_rep n) hj (by omega) (by omega),by rw [gt_set (by simp;exact hj),if_pos (Nat.sub_zero j).symm]⟩
  | succ i ih =>
    intro hi
    obtain ⟨V,h1,h2⟩:=ih (by omega)
    obtain ⟨c,hc⟩:∃c,c=j-(i+1):=⟨_,rfl⟩
    have hc1:j-i=c+1:=by omega
    rw [hc1] at h1
    rw [←hc]
    rcases hI.piv c (by omega) with h3 | ⟨i',r',h3,h4,-,h5,-⟩
    · exact ⟨V,h1.skip h3,h2⟩
    · obtain ⟨z,hz1,hz2⟩:=prime_solve hq (n:=gt r'.p c) (s:=dot r'.p V) (absI_mod (by omega) (hF c (by omega) i' r' h3 h4))
      refine ⟨V.set c z,h1.put hI (by omega) h3 h4 (Int.dvd_of_emod_eq_zero hz2) (by omega) (by omega) (by omega) hj,?_⟩
      rw [gt_set (by rw [h1.len];omega),if_neg (by omega)]
      exact h2
 obtain ⟨V,h1,h2⟩:=hstep j (Nat.le_refl _)
 rw [Nat.sub_self] at h1
 exact ⟨V,h1.finalP hI hT hj hp h2 (fun h=>hd (Int.emod_eq_zero_of_dvd h))⟩
theorem char_exact {R:List ERow} {P m p k:List Int} {G:List (List Int)} {n j i:Nat} {r:ERow} (hI:EInv n G n R P) (hT:TInv n G m j p k) (hj:j<n) (hp:gt P j=i) (hr:R[i]?=some r) (hf:¬gt r.p j∣gt p j):∃(M:Int) (V:List Int),(∀g∈G,M∣dot g V)∧¬M∣dot m V:=by
 obtain ⟨b,hb⟩:∃b,b=bprod (numP R P) j:=⟨_,rfl⟩
 obtain ⟨M,hM⟩:∃M,M=b*numP R P j:=⟨_,rfl⟩
 have hb1:1≤b:=by rw [hb];exact bprod_pos (fun c' hc'=>numP_pos hI (by omega))
 have hn1:=numP_pos hI hj
 have hn2:numP R P j≠1:=by
  rw [numP_some hp hr]
  intro h
  apply hf
  rcases absI_cases (gt r.p j) with ⟨_,e⟩ | ⟨_,e⟩
  · rw [show gt r.p j=1 by omega];exact Int.one_dvd _
  · rw [show gt r.p j=-1 by omega];exact Int.neg_dvd.2 (Int.one_dvd _)
 have hbM:b<M:=by
  rw [hM]
  have:b*2≤b*numP R P j:=Int.mul_le_mul_of_nonneg_left (by omega) (by omega)
  omega
 have hdv:bprod (numP R P) j∣M:=by rw [hM,←hb];exact Int.dvd_mul_right _ _
 have hstep:∀i,i≤j→∃V,ChiX R P n (j-i) j M V∧gt V j=b:=by
  intro i
  induction i with
  | zero =>
    intro _
    refine ⟨_,⟨Chi.start (V:=List.replicate n 0) (z:=b) (by simp) (gt_rep n) hj (by omega) (by omega),fun c=>?_⟩,by rw [gt_set (by simp;exact hj),if_pos (Nat.sub_zero j).symm]⟩
    rw [gt_set (by simp;exact hj),Nat.sub_zero,←hb]
    split
    · exact Int.dvd_refl _
    · rw [gt_rep];exact Int.dvd_zero _
  | succ i ih =>
    intro hi
    obtain ⟨V,h1,h2⟩:=ih (by omega)
    obtain ⟨c,hc⟩:∃c,c=j-(i+1):=⟨_,rfl⟩
    have hc1:j-i=c+1:=by omega
    rw [hc1] at h1
    rw [←hc]
    rcases hI.piv c (by omega) with h3 | ⟨i',r',h3,h4,-,h5,-⟩
    · exact ⟨V,h1.skip h3,h2⟩
    · refine ⟨_,h1.put (s:=dot r'.p V) hI (by omega) hj (by omega) hdv h3 h4 (by rw [Int.sub_self];exact Int.dvd_zero _) rfl,?_⟩
      rw [gt_set (by rw [h1.chi.len];omega),if_neg (by omega)]
      exact h2
 obtain ⟨V,h1,h2⟩:=hstep j (Nat.le_refl _)
 rw [Nat.sub_self] at h1
 exact ⟨M,V,h1.final hI hT hj hp hr (by rw [hM,hb]) (by rw [h2,hb]) hf⟩
theorem dvd_dot {M:Int}:∀{C D:List Int},(∀x∈D,M∣x)→M∣dot C D:=by
 intro C
 induction C with
 | nil=>intro D _;unfold dot;exact Int.dvd_zero _
 | cons c C ih =>
   intro D h
   cases D with
   | nil=>exact Int.dvd_zero _
   | cons d D=>exact Int.dvd_add (Int.dvd_mul_of_dvd_right (h d (List.mem_cons_self ..))) (ih (fun x hx=>h x (List.mem_cons_of_mem _ hx)))
theorem dot_cons (a b:Int) (A B:List Int):dot (a :: A) (b :: B)=a*b+dot A B:=rfl
theorem dot_addR:∀{C A B:List Int},A.length=B.length→dot C (List.zipWith (·+·) A B)=dot C A+dot C B:=by
 intro C
 induction C with
 | nil=>intro A B _;simp [dot]
 | cons c C ih =>
   intro A B h
   cases A with
   | nil=>cases B with
     | nil=>simp [dot]
     | cons b B=>cases h
   | cons a A=>cases B with
     | nil=>cases h
     | cons b B =>
       show dot (c :: C) ((a+b) :: List.zipWith (·+·) A B)=_
       rw [dot_cons,dot_cons,dot_cons,ih (by simpa using h),Int.mul_add]
       omega
theorem dot_mulR:∀{C A:List Int} {z:Int},dot C (A.map (fun a=>a*z))=dot C A*z:=by
 intro C
 induction C with
 | nil=>intro A z;simp [dot]
 | cons c C ih =>
   intro A z
   cases A with
   | nil=>simp [dot]
   | cons a A=>rw [List.map_cons,dot_cons,dot_cons,ih,Int.add_mul,Int.mul_assoc]
theorem dot_zeros:∀{C:List Int} {α:Type} {A:List α},dot C (A.map fun _=>(0:Int))=0:=by
 intro C
 induction C with
 | nil=>intro α A;simp [dot]
 | cons c C ih =>
   intro α A
   cases A with
   | nil=>simp [dot]
   | cons a A=>rw [List.map_cons,dot_cons,ih,Int.mul_zero];rfl
/-- a combination, read through values of the columns -/
theorem comb_dot {LL:List (List Pw)} {m:List Pw} {C:List Int} (h:Comb LL m C):∀(X:List Nat) (V:List Int),dot (vecP X m) V=dot C ((LL.map (vecP X)).map fun g=>dot g V):=by
 intro X
 induction X with
 | nil =>
   intro V
   have:((LL.map (vecP [])).map fun g=>dot g V)=LL.map fun _=>(0:Int):=by
    rw [List.map_map]
    exact List.map_congr_left (fun L _=>by simp [vecP,dot])
   rw [this,dot_zeros]
   simp [vecP,dot]
 | cons x X ih =>
   intro V
   cases V with
   | nil =>
     have:((LL.map (vecP (x :: X))).map fun g=>dot g [])=LL.map fun _=>(0:Int):=by
      rw [List.map_map]
      exact List.map_congr_left (fun L _=>by simp [vecP,dot])
     rw [this,dot_zeros]
     simp [vecP,dot]
   | cons v V =>
     have h1:((LL.map (vecP (x :: X))).map fun g=>dot g (v :: V))=List.zipWith (·+·) ((LL.map fun L=>cf L x).map fun a=>a*v) ((LL.map (vecP X)).map fun g=>dot g V):=by
      rw [List.map_map,List.map_map,List.map_map,List.zipWith_map,List.zipWith_self]
      rfl
     rw [h1,dot_addR (by simp),dot_mulR,←ih V,←h.2 x]
     rfl
/-- where the elimination fails there is no combination -/
theorem fail_no {R:List ERow} {P p k:List Int} {LL:List (List Pw)} {m:List Pw} {X:List Nat} {j:Nat} (hI:EInv X.length (LL.map (vecP X)) X.length R P) (hT:TInv X.length (LL.map (vecP X)) (vecP X m) j p k) (hn:X.length≤12) (hj:j<X.length) (hd:gt p j≠0)
 (hf:gt P j=-1∨∃(i:Nat) (r:ERow),gt P j=i∧R[i]?=some r∧¬gt r.p j∣gt p j) (C:List Int):¬Comb LL m C:=by
 intro hC
 obtain ⟨M,V,h1,h2⟩:∃(M:Int) (V:List Int),(∀g∈LL.map (vecP X),M∣dot g V)∧¬M∣dot (vecP X m) V:=by
  rcases hf with hp | ⟨i,r,hp,hr,hf⟩
  · obtain ⟨q,a1,a2,a3,a4⟩:=prime_exists hI hT hn hj hd
    obtain ⟨V,b1,b2⟩:=char_prime hI hT hj hp a1 a3 a4
    exact ⟨q,V,b1,b2⟩
  · exact char_exact hI hT hj hp hr hf
 apply h2
 rw [comb_dot hC X V]
 exact dvd_dot (fun x hx=>by obtain ⟨g,hg,rfl⟩:=List.mem_map.1 hx;exact h1 g hg)
/-- reduced to nothing: a combination -/
theorem done_comb {p k:List Int} {LL:List (List Pw)} {m:List Pw} {X:List Nat} (hT:TInv X.length (LL.map (vecP X)) (vecP X m) X.length p k) (hX:ColsP (LL++[m]) X):Comb LL m (k.map fun x=>-x):=by
 refine ⟨by rw [List.length_map,hT.kl,List.length_map],fun i=>?_⟩
 by_cases hi:i∈X
 · obtain ⟨j,hj⟩:=List.mem_iff_getElem?.1 hi
   have hjl:=(List.getElem?_eq_some_iff.1 hj).1
   have h:=hT.done ((List.replicate X.length 0).set j 1)
   have hd:∀L:List Pw,dot (vecP X L) ((List.replicate X.length 0).set j 1)=cf L i:=fun L=>by
    rw [dot_set (gt_rep _ _) (by simp;exact hjl),dot_zero (fun c=>.inr (gt_rep _ _)),Int.zero_add,Int.mul_one]
    unfold gt vecP
    rw [List.getD_eq_getElem?_getD,List.getElem?_map,hj]
    rfl
   rw [hd] at h
   rw [h,List.map_map]
   congr 1
   exact List.map_congr_left (fun L _=>hd L)
 · have hz:∀L∈LL++[m],cf L i=0:=fun L hL=>cf_out (fun p hp e=>hi ((hX.mem i).2 ⟨L,hL,p,hp,e⟩))
   rw [hz m (by simp)]
   have:(LL.map fun L=>cf L i)=LL.map fun _=>(0:Int):=List.map_congr_left (fun L hL=>hz L (List.mem_append_left _ hL))
   rw [this,dot_zeros]

def MemE (w:World) (LL:List (List Pw)) (m:List Pw) (e:Ending) (w':World):Prop :=
 (e=.returned (.tuple #[.slice none 0 0,.int .i64 3])∧Ext w w')∨(e=.returned (.tuple #[.slice none 0 0,.int .i64 4])∧Ext w w'∧∀C,¬Comb LL m C) ∨
 ∃(v:Value) (C:List Int),e=.returned (.tuple #[v,.int .i64 0])∧Ext w w'∧Comb LL m C∧B40 C∧OwnG elI w' w.heap.size 3 (fun _=>False) v C
theorem PMember_any {w:World} {S:Nat→Prop} {a ma:Option Addr} {cap mc:Nat} {LL:List (List Pw)} {m:List Pw} (hL:LsG (elL elPw) w S (.slice a LL.length cap) LL) (hm:LsG elPw w S (.slice ma m.length mc) m) (hG:GoodL LL) (gm:Good m) (rm:Rng 1000 m) :
 Calls Tryz.prog 7 #[.slice a LL.length cap,.slice ma m.length mc] w fun e w'=>MemE w LL m e w':=by
 have HST:=Lib.hid (solve_any hL hm hG gm rm)
 have hll:=hG.len
 clear hL hm hG gm rm
 go_enter Tryz.func7,Tryz.ntmps7
 go_wp2_with fail
 refine HST.out.mono ?_
 rintro e w1 hS
 rcases hS with ⟨rfl,hE1⟩ | ⟨B,t,X,R,P,p,k,at_,rfl,hS⟩
 · have HE1:=Lib.hid hE1
   clear hE1
   go_wp2_with fail
   go_ret2
   exact .inl ⟨rfl,HE1.out⟩
 · have HS := Lib.hid hS
   have hx6:=asc_len hS.cols.asc hS.six
   obtain ⟨t1,ht1⟩:∃t1,t1=t.1:=⟨_,rfl⟩
   obtain ⟨t2,ht2⟩:∃t2,t2=t.2.2:=⟨_,rfl⟩
   have y1:w1.cell? ⟨t1,1,none⟩=some (.slice (some ⟨t2,0,none⟩) k.length k.length):=by rw [ht1,ht2,cellc hS.tr.row];rfl
   have HK:Hid (w1.heap[t2]?=some (.cells (intsC k) 3)):=Lib.hid (by rw [ht2];exact hS.tr.ks)
   rw [←ht1]
   have HE1:=Lib.hid hS.ext
   rcases hS.res with ⟨rfl,hT⟩ | ⟨c,hc,rfl,hT,hd,hf⟩
   · have HC := Lib.hid (done_comb hT hS.cols)
     have HKL:Hid (k.length=LL.length∧B40 k):=Lib.hid ⟨by rw [hT.kl,List.length_map],hT.bk⟩
     have hkl:k.length≤8:=by rw [hT.kl,List.length_map];exact hll
     have HO0:Hid (OwnG elI w1 w1.heap.size 3 (fun _=>False) (.slice none 0 0) ((k.take 0).map fun x=>-x)):=Lib.hid OwnG.nil
     obtain ⟨w1',hw1'⟩:∃z,z=w1:=⟨_,rfl⟩
     have HE0:Hid (Ext w1 w1):=Lib.hid (Ext.refl _)
     clear hS hT ht1 ht2 hw1'
     go_upto_region 8 with fail
     go_loopw [10,12,31] (fun ov _ kv wr=>∃(q:Nat) (va:Option Addr) (vc:Nat),ov=.slice va q vc∧kv=.int .i64 q∧q≤k.length∧Hid (Ext w1 wr)∧Hid (OwnG elI wr w1.heap.size 3 (fun _=>False) (.slice va q vc) ((k.take q).map fun x=>-x))) (fun _ _ kv _=>k.length-(intOf kv).toNat)
     case atStart=>exact ⟨0,none,0,rfl,rfl,by omega,HE0,HO0⟩
     case round =>
      clear HE0 HO0 y1
      obtain ⟨q,va,vc,rfl,rfl,hq,HE,HO⟩:=hrel
      by_cases hlt:q<k.length
      · have hqz : (q:Int)<(k.length:Int):=by omega
        have hq0:(0:Int)≤(q:Int):=by omega
        have wq:IntKind.i64.wrap ((q:Int)+1)=((q+1:Nat):Int):=by rw [IntKind.wrap_i64];omega
        obtain ⟨z,hz⟩:∃z,k[q]?=some z:=⟨_,List.getElem?_eq_getElem hlt⟩
        have hzr:=HKL.out.2 z (List.mem_of_getElem? hz)
        have c0:=intsC_at (hs_ext HE.out HK.out) hz
        have wz:IntKind.i64.wrap (-z)=-z:=by rw [IntKind.wrap_i64];omega
        have HN:Hid (((k.take (q+1)).map fun x=>-x)=((k.take q).map fun x=>-x)++[-z]):=Lib.hid (by rw [getT hz,List.map_append];rfl)
        have hpl:((k.take q).map fun x=>-x).length≤1000:=by rw [List.length_map,List.length_take];omega
        obtain ⟨w2,hw2⟩:∃w2,w2=wr.alloc (.cells #[.int .i64 (-z)] 3):=⟨_,rfl⟩
        have hE2:Ext wr w2:=by rw [hw2];exact Ext.alloc _ _
        have hO3:=HO.out.ext hE2
        have hone:LsE elI w2 (fun _=>False) (.slice (some ⟨wr.heap.size,0,none⟩) 1 1) [-z] :=
         cells_lsE (P:=[(-z,[.int .i64 (-z)])]) (by rw [hw2];exact hs_new) rfl rfl rfl (by simp [maxLen]) (by intro p hp;simp at hp;subst hp;exact ⟨rfl,by show I64 (-z);unfold I64;omega⟩)
        have hsz:w1.heap.size≤w2.heap.size:=(HE.out.trans hE2).size
        have HE2:=Lib.hid (HE.out.trans hE2)
        have HLT:=Lib.hid hO3.lt
        have HL9:Hid ((((k.take q).map fun x=>-x)++[-z]).length=q+1):=Lib.hid (by rw [List.length_append,List.length_map,List.length_take];simp;omega)
        rw [hw2] at hO3 hone hsz
        have HW2:=Lib.hid hw2
        clear hE2 hw2 hz hzr
        go_wp2_with (at_builtin;(refine wpList_appG (E:=elI) (T:=3) rfl 35 (.tmp 35) (.tmp 38) rfl rfl rfl Tryz.underlying35 infIn rfl (by decide) (by decide) hO3 hsz (fun c h=>absurd h id) (by omega) (M:=[-z]) (by simp) hone ?_);intro v8 w8 o8 g8 k8
                     rw [←HW2.out] at g8
                     obtain ⟨va8,vc8,hv8,-,-⟩:=id o8.slice
                     rw [HL9.out] at hv8
                     rw [hv8] at o8 ⊢
                     have HO9:Hid (OwnG elI w8 w1.heap.size 3 (fun _=>False) (.slice va8 (q+1) vc8) ((k.take (q+1)).map fun x=>-x)):=Lib.hid (by rw [HN.out];exact o8)
                     have HE9:Hid (Ext w1 w8):=Lib.hid (HE2.out.grown g8 (fun c hc=>(HLT.out c hc).1))
                     clear o8 g8 k8 hO3 hone hv8)
        go_roundw
        case rel=>exact ⟨q+1,va8,vc8,rfl,rfl,by omega,HE9,HO9⟩
        case measure=>simp [intOf];omega
      · have hqz:¬(q:Int)<(k.length:Int):=by omega
        have HFI:Hid (OwnG elI wr w1.heap.size 3 (fun _=>False) (.slice va q vc) (k.map fun x=>-x)):=Lib.hid (by have h:=HO.out;rwa [List.take_of_length_le (by omega)] at h)
        go_wp2_with fail
        go_ret2
        exact .inr (.inr ⟨_,_,rfl,HE1.out.trans HE.out,HC.out,fun x hx=>by obtain ⟨y,hy,rfl⟩:=List.mem_map.1 hx;have:=HKL.out.2 y hy;omega,HFI.out.low HE1.out.size⟩)
   · have hc0:(0:Int)≤(c:Int):=by omega
     have HNO:Hid (∀C,¬Comb LL m C):=Lib.hid (fail_no hS.inv hT (by omega) hc hd hf)
     clear hS hT hd hf ht1 ht2 y1
     go_wp2_with fail
     go_ret2
     exact .inr (.inl ⟨rfl,HE1.out,HNO.out⟩)

theorem hfk_exact:∀a w,Sem.run Tryz.prog (callFunc 37 a) w=.ok (.enter 37 a) w:=by
 intro a w
 go_simp
theorem numP_le {n j c:Nat} {G:List (List Int)} {R:List ERow} {P:List Int} (hI:EInv n G n R P) (hj:j<n) (hc:c<j):numP R P c≤bprod (numP R P) j:=by
 have h1:bprod (numP R P) (c+1)∣bprod (numP R P) j:=bprod_dvd (by omega)
 have h2:numP R P c∣bprod (numP R P) (c+1):=by unfold bprod;exact Int.dvd_mul_left _ _
 exact Int.le_of_dvd (by have:=bprod_pos (N:=numP R P) (c:=j) (fun c' hc'=>numP_pos hI (by omega));omega) (Int.dvd_trans h2 h1)
/-- the character of the pivots' product -/
theorem echarX_any {w:World} {B:XeB} {R:List ERow} {P m p k:List Int} {G:List (List Int)} {n cc j i b M:Nat} {r:ERow} {ca:Option Addr} {X:List Nat}
 (hE:XeAt w B R P false) (hI:EInv n G n R P) (hT:TInv n G m j p k) (hcv:B.cv=.slice ca n cc) (hX:ColW w ca X) (hXl:X.length=n) (hn:n≤1000) (hj:j<n) (hp:gt P j=i) (hr:R[i]?=some r) (hf:¬gt r.p j∣gt p j)
 (hb:(b:Int)=bprod (numP R P) j) (hM:(M:Int)=(b:Int)*numP R P j) (hb2:b≤1073741824) (hM2:M≤1073741824) :
 Calls Tryz.prog 36 #[.pointer (some ⟨B.xb,0,none⟩),.int .i64 j,.int .i64 b,.int .i64 M,.func (.func 37) #[.pointer (some ⟨B.xb,0,none⟩)] #[]] w fun e w'=>∃vv V,e=.returned (.agg #[.int .i64 M,vv])∧Ext w w'∧RefV G m n M V∧OwnG elPw w' w.heap.size 66 (fun _=>False) vv (chrQ (X.zip V) n):=by
 have hb1:1≤(b:Int):=by rw [hb];exact bprod_pos (fun c' hc'=>numP_pos hI (by omega))
 have hn1:=numP_pos hI hj
 have hn2:numP R P j≠1:=by
  rw [numP_some hp hr]
  intro h
  apply hf
  rcases absI_cases (gt r.p j) with ⟨_,e⟩ | ⟨_,e⟩
  · rw [show gt r.p j=1 by omega];exact Int.one_dvd _
  · rw [show gt r.p j=-1 by omega];exact Int.neg_dvd.2 (Int.one_dvd _)
 have hbM:(b:Int)<M:=by
  rw [hM]
  have:(b:Int)*2≤b*numP R P j:=Int.mul_le_mul_of_nonneg_left (by omega) (by omega)
  omega
 have hdv:bprod (numP R P) j∣(M:Int):=by rw [hM,←hb];exact Int.dvd_mul_right _ _
 have hone:(b:Int) % (M:Int)=b:=Int.emod_eq_of_lt (by omega) (by omega)
 refine (echar_any (Inv:=fun c V=>ChiX R P n c j M V∧gt V j=b) (env:=#[.pointer (some ⟨B.xb,0,none⟩)]) hE hI hcv hX hXl hn hj (by omega) (by omega) (by omega) hfk_exact ?_ ?_ ?_).mono ?_
 · rw [hone]
   refine ⟨⟨Chi.start (V:=List.replicate n 0) (by simp) (gt_rep n) hj (by omega) (by omega),fun c=>?_⟩,by rw [gt_set (by simp;exact hj),if_pos rfl]⟩
   rw [gt_set (by simp;exact hj),←hb]
   split
   · exact Int.dvd_refl _
   · rw [gt_rep];exact Int.dvd_zero _
 · exact fun c V h1 h2 h3=>⟨h2.1.skip h3,h2.2⟩
 · intro w' c V vb i' ad r' hEw hc hV hpi hr' hrow hvb hvl hvr
   have hrm:=List.mem_of_getElem? hr'
   have hrp:=(hI.len r' hrm).1
   have hbn:=(hI.bnd r' hrm).1
   have hr0:w'.cell? ⟨ad.1,0,none⟩=some (.slice (some ⟨ad.2.1,0,none⟩) n n):=by rw [cellc hrow.row,←hrp];rfl
   have hle:=numP_le hI hj hc
   rw [numP_some hpi hr',←hb] at hle
   have hne:gt r'.p c≠0:=by
    rcases hI.piv c (by omega) with h3 | ⟨i2,r2,h3,h4,-,h5,-⟩
    · omega
    · have:i2=i':=by omega
      subst this
      rw [hr'] at h4
      cases h4
      exact h5
   refine (eexact_any (x0:=.pointer (some ⟨B.xb,0,none⟩)) hr0 hrow.pw hvb hrp hvl hbn (fun x hx=>⟨(hvr x hx).1,by have:=(hvr x hx).2;omega⟩) (by omega) hM2 (by omega) hne (by omega) (fun k hk=>.inr (hV.1.chi.ahead k (by omega))) hn).mono ?_
   rintro e w'' ⟨s,z,rfl,h1,h2,h3⟩
   refine ⟨z,rfl,by rw [h2];exact Int.emod_nonneg _ (by omega),by rw [h2];exact Int.emod_lt_of_pos _ (by omega),⟨hV.1.put hI hc hj (by omega) hdv hpi hr' h1 h2,?_⟩,h3⟩
   rw [gt_set (by omega),if_neg (by omega)]
   exact hV.2
 · rintro e w' ⟨vv,V,rfl,h1,⟨h2,h3⟩,h4,h5,h6⟩
   have hfin:=h2.final hI hT hj hp hr (by rw [hM,hb]) (by rw [h3,hb]) hf
   exact ⟨vv,V,rfl,h1,⟨h4,h5,by omega,by omega,hfin.1,hfin.2⟩,h6⟩

theorem ret_chr2 {F:Func} {p u g:Nat} {tmps:Array Value} {w:World} {cs:Array Value} {R:Ending→World→Prop} (hr:F.results=#[.cell p 47,.tmp u]) (hp:tmps.getD p undef=.pointer (some ⟨g,0,none⟩)) (hg:w.heap[g]?=some (.cells cs 47)) (hs:cs.size=2) (h:R (.returned (.tuple #[.agg cs,tmps.getD u undef])) w) :
 bodyPost Tryz.prog F R .ret ⟨tmps,[]⟩ w:=by
 refine bodyPost_ret ?_ rfl h
 rw [results_cell_tmp hr,hp]
 simp only [asAddr,Sem.run_pure,Result.andThen_ok]
 rw [run_loadVar_row w g _ _ cs _ _ hg Tryz.underlying47 rfl (by rw [hs];exact sizChr)]
 rfl
def RefuE (w:World) (LL:List (List Pw)) (m:List Pw) (e:Ending) (w':World):Prop :=
 (e=.returned (.tuple #[.agg #[.int .i64 0,.slice none 0 0],.int .i64 3])∧Ext w w')∨(e=.returned (.tuple #[.agg #[.int .i64 0,.slice none 0 0],.int .i64 5])∧Ext w w'∧∃C,Comb LL m C) ∨
 ∃(M:Int) (vv:Value) (V:List Int) (X:List Nat),e=.returned (.tuple #[.agg #[.int .i64 M,vv],.int .i64 0])∧Ext w w'∧ColsP (LL++[m]) X∧(∀x∈X,x<6)∧RefV (LL.map (vecP X)) (vecP X m) X.length M V∧OwnG elPw w' w.heap.size 66 (fun _=>False) vv (chrQ (X.zip V) X.length)
theorem eRefute_any {w:World} {S:Nat→Prop} {a ma:Option Addr} {cap mc:Nat} {LL:List (List Pw)} {m:List Pw} (hL:LsG (elL elPw) w S (.slice a LL.length cap) LL) (hm:LsG elPw w S (.slice ma m.length mc) m) (hG:GoodL LL) (gm:Good m) (rm:Rng 1000 m) :
 Calls Tryz.prog 13 #[.slice a LL.length cap,.slice ma m.length mc] w fun e w'=>RefuE w LL m e w':=by
 obtain ⟨rb,wa,hrb,hwa,HRB,hEa⟩:=box_new w (.cells #[.int .i64 0,.slice none 0 0] 47)
 have HST:=Lib.hid (solve_any (hL.ext hEa) (hm.ext hEa) hG gm rm)
 have hll:=hG.len
 have HEA:=Lib.hid hEa
 have HRS:Hid (w.heap.size=rb):=Lib.hid hrb.symm
 have HRL:Hid (rb<wa.heap.size):=Lib.hid (Array.getElem?_eq_some_iff.1 HRB.out).1
 clear hL hm hG gm rm hEa
 -- a result is stored
 go_enter Tryz.func13,Tryz.ntmps13
 go_upto_region 1 with fail
 rw [←hwa,←hrb]
 clear hwa hrb
 go_wp2_with fail
 refine HST.out.mono ?_
 rintro e w1 hS
 rcases hS with ⟨rfl,hE1⟩ | ⟨B,t,X,R,P,p,k,at_,rfl,hS⟩
 · have HE1:=Lib.hid hE1
   have HRB1:=Lib.hid (hs_ext hE1 HRB.out)
   clear hE1
   go_wp2_with (refine wpList_storeC rfl (.tmp 4) (.tmp 24) rfl rfl rfl HRB1.out rfl ?_)
   intro w9 h9 hoth hE9 hs9
   go_wp2_with fail
   exact ret_chr2 (g:=rb) rfl rfl h9 rfl (.inl ⟨rfl,hE9 w (HEA.out.trans HE1.out) (by have:=HRS.out;omega)⟩)
 · have HS := Lib.hid hS
   have hx6:=asc_len hS.cols.asc hS.six
   have HE1:=Lib.hid hS.ext
   have HRB1:=Lib.hid (hs_ext hS.ext HRB.out)
   obtain ⟨n,hn⟩:∃n,n=X.length:=⟨_,rfl⟩
   rw [←hn] at hx6
   have HN:=Lib.hid hn
   rcases hS.res with ⟨rfl,hT⟩ | ⟨j,hj,rfl,hT,hd,hf⟩
   · have HC:=Lib.hid (done_comb hT hS.cols)
     clear hS hT hn
     go_wp2_with (refine wpList_storeC rfl (.tmp 4) (.tmp 28) rfl rfl rfl HRB1.out rfl ?_)
     intro w9 h9 hoth hE9 hs9
     go_wp2_with fail
     exact ret_chr2 (g:=rb) rfl rfl h9 rfl (.inr (.inl ⟨rfl,hE9 w (HEA.out.trans HE1.out) (by have:=HRS.out;omega),_,HC.out⟩))
   · obtain ⟨ca, cc,hcv,hcol⟩:=hS.cv
     have hjn:j<n:=by rw [hn];exact hj
     have HI:Hid (EInv n (LL.map (vecP X)) n R P):=Lib.hid (by rw [hn];exact hS.inv)
     have HT:Hid (TInv n (LL.map (vecP X)) (vecP X m) j p k):=Lib.hid (by rw [hn];exact hT)
     have HCV:Hid (B.cv=.slice ca n cc):=Lib.hid (by rw [hn];exact hcv)
     have HCL:=Lib.hid hcol
     have hpl:P.length=n:=HI.out.pl
     obtain ⟨pcell,hpo⟩:=hS.xe.pcell (c:=j) (by omega)
     obtain ⟨xb,hxb⟩:∃xb,xb=B.xb:=⟨_,rfl⟩
     obtain ⟨pg,hpg⟩:∃pg,pg=B.pg:=⟨_,rfl⟩
     obtain ⟨t1,ht1⟩:∃t1,t1=t.1:=⟨_,rfl⟩
     have x2:w1.cell? ⟨xb,2,none⟩=some (.slice (some ⟨pg,0,none⟩) n B.pc):=by rw [hxb,hpg,←hpo,←hpl,cellc hS.xe.x];rfl
     rw [←hpg] at pcell
     have HXB:=Lib.hid hxb
     have HT1:=Lib.hid ht1
     have HXE:=Lib.hid hS.xe
     have HTR:=Lib.hid hS.tr
     have HCO:=Lib.hid (And.intro hS.cols hS.six)
     rw [←hxb,←ht1]
     have hjz:(j:Int)<(n:Int):=by omega
     have hj0:(0:Int)≤(j:Int):=by omega
     have HD:=Lib.hid hd
     have HRL1:Hid (rb<w1.heap.size):=Lib.hid (Nat.lt_of_lt_of_le HRL.out HE1.out.size)
     clear hS hT hn hcv hcol hpo hxb hpg ht1 hj hd hpl
     rcases hf with hp | ⟨i,r,hp,hr,hf⟩
     · have HPR:Hid (Calls Tryz.prog 34 #[.pointer (some ⟨xb,0,none⟩),.pointer (some ⟨t1,0,none⟩),.int .i64 j] w1 fun e w'=>∃M vv V,e=.returned (.agg #[.int .i64 M,vv])∧Ext w1 w'∧RefV (LL.map (vecP X)) (vecP X m) n M V∧OwnG elPw w' w1.heap.size 66 (fun _=>False) vv (chrQ (X.zip V) n)):=Lib.hid (by
        rw [HXB.out,HT1.out]
        exact eprime_any (t1:=t.1) (tp:=t.2.1) (tk:=t.2.2) HXE.out HI.out HT.out HTR.out HCV.out HCL.out HN.out.symm (by omega) hjn hp HD.out)
       rw [hp] at pcell
       clear hp
       go_wp2_with fail
       refine HPR.out.mono ?_
       rintro e w2 ⟨M,vv,V,rfl,hE2,hV,hO⟩
       obtain ⟨va,vc,rfl,-,-⟩:=hO.slice
       have HE2:=Lib.hid (HE1.out.trans hE2)
       have HRB1:=Lib.hid (hs_ext hE2 HRB1.out)
       have HV:=Lib.hid hV
       have HO:=Lib.hid hO
       clear hE2 hV hO
       go_wp2_with (refine wpList_storeC rfl (.tmp 4) (.tmp 40) rfl rfl rfl HRB1.out rfl ?_)
       intro w9 h9 hoth hE9 hs9
       go_wp2_with fail
       exact ret_chr2 (g:=rb) rfl rfl h9 rfl (.inr (.inr ⟨_,_,V,X,rfl,hE9 w (HEA.out.trans HE2.out) (by have:=HRS.out;omega),HCO.out.1,HCO.out.2,by rw [←HN.out];exact HV.out,by rw [←HN.out];exact (HO.out.keep (fun c hc=>hoth c (by have:=(HO.out.lt c hc).1;have:=HRL1.out;omega)) (fun c h=>absurd h id) (fun c h=>absurd h id)).low (HEA.out.trans HE1.out).size⟩))
     · have hi0 : ¬(i:Int)<0:=by omega
       have HP:=Lib.hid hp
       have HR:=Lib.hid (And.intro hr hf)
       rw [hp] at pcell
       clear hp hr hf
       go_upto_region 10 with fail
       have HNN:=Lib.hid (fun (w':World) (hE:Ext w1 w') (c:Nat) (hc:c<n) (h:gt P c=-1)=>enumber_none (HXE.out.ext hE) (by rw [HI.out.pl];exact hc) h)
       have HNS:=Lib.hid (fun (w':World) (hE:Ext w1 w') (c i:Nat) (r:ERow) (hc:c<n) (h1:gt P c=i) (h2:R[i]?=some r)=>enumber_some (HXE.out.ext hE) (by rw [HI.out.pl];exact hc) h1 h2 (by rw [(HI.out.len r (List.mem_of_getElem? h2)).1];exact hc) (HI.out.bnd r (List.mem_of_getElem? h2)).1 (by rw [(HI.out.len r (List.mem_of_getElem? h2)).1];omega))
       rw [←HXB.out] at HNN HNS
       have HNB:Hid (∀(c i:Nat) (r:ERow),c<n→gt P c=i→R[i]?=some r→1≤absI (gt r.p c)∧absI (gt r.p c)≤1099511627776∧numP R P c=absI (gt r.p c)):=Lib.hid (fun c i r hc h1 h2=>by
        have h3:=numP_pos HI.out hc
        rw [numP_some h1 h2] at h3
        have h4:=(HI.out.bnd r (List.mem_of_getElem? h2)).1 (gt r.p c) (gt_mem (by rw [(HI.out.len r (List.mem_of_getElem? h2)).1];exact hc))
        refine ⟨h3,?_,numP_some h1 h2⟩
        rcases absI_cases (gt r.p c) with ⟨_,e⟩ | ⟨_,e⟩<;>omega)
       have HE0:Hid (Ext w1 w1):=Lib.hid (Ext.refl _)
       have HB0:Hid (((1:Nat):Int)=bprod (numP R P) 0):=Lib.hid rfl
       clear pcell x2 hi0
       go_loopw [10,11,12,42] (fun bv _ _ kv wr=>∃(c b:Nat),bv=.int .i64 b∧kv=.int .i64 c∧c≤j∧b≤1073741824∧Hid (Ext w1 wr)∧Hid ((b:Int)=bprod (numP R P) c)) (fun _ _ _ kv _=>j-(intOf kv).toNat)
       case atStart=>exact ⟨0,1,rfl,rfl,by omega,by omega,HE0,HB0⟩
       case round =>
        clear HE0 HB0
        obtain ⟨c,b,rfl,rfl,hc,hb,HE,HB⟩:=hrel
        by_cases hlt:c<j
        · have hcz:(c:Int)<(j:Int):=by omega
          have wc:IntKind.i64.wrap ((c:Int)+1)=((c+1:Nat):Int):=by rw [IntKind.wrap_i64];omega
          rcases HI.out.piv c (by omega) with hp | ⟨i2,r2,hp,hr,-,hr0,-⟩
          · have HNC:=Lib.hid (HNN.out wr HE.out c (by omega) hp)
            have HB2:Hid ((b:Int)=bprod (numP R P) (c+1)):=Lib.hid (by unfold bprod;rw [numP_none hp,Int.mul_one];exact HB.out)
            clear hp HB
            go_wp2_with fail
            refine HNC.out.mono ?_
            rintro e w2 ⟨rfl,hE2⟩
            have HE2:=Lib.hid (HE.out.trans hE2)
            clear hE2
            go_wp2_with fail
            go_roundw
            case rel=>exact ⟨c+1,b,rfl,rfl,by omega,hb,HE2,HB2⟩
            case measure=>simp [intOf];omega
          · have HNC:=Lib.hid (HNS.out wr HE.out c i2 r2 (by omega) hp hr)
            obtain ⟨h1,h2,h3⟩:=HNB.out c i2 r2 (by omega) hp hr
            obtain ⟨z,hz⟩:∃z:Nat,absI (gt r2.p c)=(z:Int):=⟨(absI (gt r2.p c)).toNat,by omega⟩
            rw [hz] at HNC h1 h2 h3
            have hz1:(0:Int)<(z:Int):=by omega
            obtain ⟨y,hy⟩:∃y:Nat,y=b*z:=⟨_,rfl⟩
            have HB2:Hid ((y:Int)=bprod (numP R P) (c+1)):=Lib.hid (by unfold bprod;rw [h3,←HB.out,hy];exact Int.natCast_mul _ _)
            have hyz:(b:Int)*(z:Int)=(y:Int):=by rw [hy];exact (Int.natCast_mul _ _).symm
            clear hp hr hr0 h3 hz HB
            by_cases hz2:z≤1073741824
            · have hyb:y≤1152921504606846976:=by rw [hy];exact Nat.mul_le_mul hb hz2
              have wy:IntKind.i64.wrap ((b:Int)*(z:Int))=(y:Int):=by rw [hyz,IntKind.wrap_i64];omega
              have d1:¬(1073741824:Int)<(z:Int):=by omega
              clear hy hyz
              by_cases hy2:y≤1073741824
              · have d2:¬(1073741824:Int)<(y:Int):=by omega
                go_wp2_with fail
                refine HNC.out.mono ?_
                rintro e w2 ⟨rfl,hE2⟩
                have HE2:=Lib.hid (HE.out.trans hE2)
                have HRB1:=Lib.hid (hs_ext HE2.out HRB1.out)
                clear hE2
                go_wp2_with fail
                go_roundw
                case rel=>exact ⟨c+1,y,rfl,rfl,by omega,hy2,HE2,HB2⟩
                case measure=>simp [intOf];omega
              · have d2:(1073741824:Int)<(y:Int):=by omega
                go_wp2_with fail
                refine HNC.out.mono ?_
                rintro e w2 ⟨rfl,hE2⟩
                have HE2:=Lib.hid (HE.out.trans hE2)
                have HRB1:=Lib.hid (hs_ext HE2.out HRB1.out)
                clear hE2
                go_wp2_with (refine wpList_storeC rfl (.tmp 4) (.tmp 58) rfl rfl rfl HRB1.out rfl ?_)
                intro w9 h9 hoth hE9 hs9
                go_wp2_with fail
                exact ret_chr2 (g:=rb) rfl rfl h9 rfl (.inl ⟨rfl,hE9 w (HEA.out.trans (HE1.out.trans HE2.out)) (by have:=HRS.out;omega)⟩)
            · have d1:(1073741824:Int)<(z:Int):=by omega
              clear hy hyz
              go_wp2_with fail
              refine HNC.out.mono ?_
              rintro e w2 ⟨rfl,hE2⟩
              have HE2:=Lib.hid (HE.out.trans hE2)
              have HRB1:=Lib.hid (hs_ext HE2.out HRB1.out)
              clear hE2
              go_wp2_with (refine wpList_storeC rfl (.tmp 4) (.tmp 58) rfl rfl rfl HRB1.out rfl ?_)
              intro w9 h9 hoth hE9 hs9
              go_wp2_with fail
              exact ret_chr2 (g:=rb) rfl rfl h9 rfl (.inl ⟨rfl,hE9 w (HEA.out.trans (HE1.out.trans HE2.out)) (by have:=HRS.out;omega)⟩)
        · have hcz:¬(c:Int)<(j:Int):=by omega
          have hcj:c=j:=by omega
          rw [hcj] at HB
          have HNC:=Lib.hid (fun (w':World) (hE:Ext w1 w')=>HNS.out w' hE j i r hjn HP.out HR.out.1)
          obtain ⟨h1,h2,h3⟩:=HNB.out j i r hjn HP.out HR.out.1
          obtain ⟨z,hz⟩:∃z:Nat,absI (gt r.p j)=(z:Int):=⟨(absI (gt r.p j)).toNat,by omega⟩
          rw [hz] at HNC h1 h2 h3
          have hz1:(0:Int)<(z:Int):=by omega
          obtain ⟨y,hy⟩:∃y:Nat,y=b*z:=⟨_,rfl⟩
          have HYM:Hid ((y:Int)=(b:Int)*numP R P j):=Lib.hid (by rw [h3,hy];exact Int.natCast_mul _ _)
          have hyz:(b:Int)*(z:Int)=(y:Int):=by rw [hy];exact (Int.natCast_mul _ _).symm
          clear hcj h3 hz
          have HEX:=HE
          by_cases hz2:z≤1073741824
          · have hyb:y≤1152921504606846976:=by rw [hy];exact Nat.mul_le_mul hb hz2
            have wy:IntKind.i64.wrap ((b:Int)*(z:Int))=(y:Int):=by rw [hyz,IntKind.wrap_i64];omega
            have d1:¬(1073741824:Int)<(z:Int):=by omega
            clear hy hyz
            by_cases hy2:y≤1073741824
            · have d2:¬(1073741824:Int)<(y:Int):=by omega
              have HCH:Hid (∀w',Ext w1 w'→Calls Tryz.prog 36 #[.pointer (some ⟨xb,0,none⟩),.int .i64 j,.int .i64 b,.int .i64 y,.func (.func 37) #[.pointer (some ⟨xb,0,none⟩)] #[]] w' fun e w''=>∃vv V,e=.returned (.agg #[.int .i64 y,vv])∧Ext w' w''∧RefV (LL.map (vecP X)) (vecP X m) n y V∧OwnG elPw w'' w'.heap.size 66 (fun _=>False) vv (chrQ (X.zip V) n)):=Lib.hid (fun w' hE=>by
               rw [HXB.out]
               exact echarX_any (HXE.out.ext hE) HI.out HT.out HCV.out (HCL.out.ext hE) HN.out.symm (by omega) hjn HP.out HR.out.1 HR.out.2 HB.out HYM.out hb hy2)
              go_wp2_with fail
              refine (HNC.out _ HEX.out).mono ?_
              rintro e w2 ⟨rfl,hE2⟩
              have HEX:=Lib.hid (HEX.out.trans hE2)
              clear hE2
              go_wp2_with fail
              refine (HNC.out _ HEX.out).mono ?_
              rintro e w2 ⟨rfl,hE2⟩
              have HEX:=Lib.hid (HEX.out.trans hE2)
              clear hE2
              go_wp2_with fail
              refine (HNC.out _ HEX.out).mono ?_
              rintro e w2 ⟨rfl,hE2⟩
              have HEX:=Lib.hid (HEX.out.trans hE2)
              clear hE2
              go_wp2_with fail
              refine (HCH.out _ HEX.out).mono ?_
              rintro e w5 ⟨vv,V,rfl,hE5,hV,hO⟩
              obtain ⟨va,vc,rfl,-,-⟩:=hO.slice
              have HE5:=Lib.hid (HEX.out.trans hE5)
              have HRB1:=Lib.hid (hs_ext HE5.out HRB1.out)
              have HV:=Lib.hid hV
              have HO:=Lib.hid hO
              clear hE5 hV hO
              go_wp2_with (refine wpList_storeC rfl (.tmp 4) (.tmp 87) rfl rfl rfl HRB1.out rfl ?_)
              intro w9 h9 hoth hE9 hs9
              go_wp2_with fail
              exact ret_chr2 (g:=rb) rfl rfl h9 rfl (.inr (.inr ⟨_,_,V,X,rfl,hE9 w (HEA.out.trans (HE1.out.trans HE5.out)) (by have:=HRS.out;omega),HCO.out.1,HCO.out.2,by rw [←HN.out];exact HV.out,by rw [←HN.out];exact (HO.out.keep (fun c hc=>hoth c (by have:=(HO.out.lt c hc).1;have:=HRL1.out;have:=HEX.out.size;omega)) (fun c h=>absurd h id) (fun c h=>absurd h id)).low (HEA.out.trans (HE1.out.trans HEX.out)).size⟩))
            · have d2:(1073741824:Int)<(y:Int):=by omega
              go_wp2_with fail
              refine (HNC.out _ HEX.out).mono ?_
              rintro e w2 ⟨rfl,hE2⟩
              have HEX:=Lib.hid (HEX.out.trans hE2)
              clear hE2
              go_wp2_with fail
              refine (HNC.out _ HEX.out).mono ?_
              rintro e w2 ⟨rfl,hE2⟩
              have HEX:=Lib.hid (HEX.out.trans hE2)
              clear hE2
              have HRB1:=Lib.hid (hs_ext HEX.out HRB1.out)
              go_wp2_with (refine wpList_storeC rfl (.tmp 4) (.tmp 75) rfl rfl rfl HRB1.out rfl ?_)
              intro w9 h9 hoth hE9 hs9
              go_wp2_with fail
              exact ret_chr2 (g:=rb) rfl rfl h9 rfl (.inl ⟨rfl,hE9 w (HEA.out.trans (HE1.out.trans HEX.out)) (by have:=HRS.out;omega)⟩)
          · have d1:(1073741824:Int)<(z:Int):=by omega
            clear hy hyz
            go_wp2_with fail
            refine (HNC.out _ HEX.out).mono ?_
            rintro e w2 ⟨rfl,hE2⟩
            have HEX:=Lib.hid (HEX.out.trans hE2)
            clear hE2
            have HRB1:=Lib.hid (hs_ext HEX.out HRB1.out)
            go_wp2_with (refine wpList_storeC rfl (.tmp 4) (.tmp 75) rfl rfl rfl HRB1.out rfl ?_)
            intro w9 h9 hoth hE9 hs9
            go_wp2_with fail
            exact ret_chr2 (g:=rb) rfl rfl h9 rfl (.inl ⟨rfl,hE9 w (HEA.out.trans (HE1.out.trans HEX.out)) (by have:=HRS.out;omega)⟩)
end Go.Proofs.YtclijngnoepbiaaGreat
