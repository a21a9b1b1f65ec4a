/- Contracts: sealringref06: Mul, Made. Contracts: the elimination of exponents: abs, subtract. -/
import Derived.Test.YtclijngnoepbiaaGreatPt2
set_option maxRecDepth 100000
set_option maxHeartbeats 8000000
namespace Go.Proofs.YtclijngnoepbiaaGreat
open Go Go.RowKit
set_option linter.unusedVariables false
set_option linter.unusedSimpArgs false

theorem pw_none {w:World} {base:Nat} {g:Nat} (h:w.heap[g]?=some (.cells #[] 66)) (hb:base≤g):OwnG elPw w base 66 (fun _=>False) (.slice (some ⟨g,0,none⟩) 0 0) [] :=
 ⟨[],rfl,by simp,⟨by simp,.inr ⟨g,0,#[],rfl,hb,h,Nat.le_refl _,by unfold maxLen;omega,by simp,by simp⟩⟩⟩
theorem mulP_take {A B:List Pw} {q:Nat} {x:Pw} (hx:B[q]?=some x):mulP A (B.take (q+1))=addP (mulP A (B.take q)) x.1 x.2:=by
 unfold mulP
 rw [getT hx,List.foldl_append]
 rfl
theorem Good.take {L:List Pw} (h:Good L) (q:Nat):Good (L.take q):=⟨h.asc.sublist (List.take_sublist q L),fun p hp=>h.six p (List.mem_of_mem_take hp),fun p hp=>h.nz p (List.mem_of_mem_take hp)⟩
theorem Rng.take {L:List Pw} {M:Int} (h:Rng M L) (q:Nat):Rng M (L.take q):=fun p hp=>h p (List.mem_of_mem_take hp)
theorem mul_rng {A B:List Pw} {q:Nat} (hA:Good A) (hB:Good B) (rA:Rng 1000 A) (rB:Rng 1000 B):Good (mulP A (B.take q))∧Rng 1000000 (mulP A (B.take q)):=by
 obtain ⟨g1,g2⟩:=mulP_spec hA (hB.take q)
 refine ⟨g1,rng_cf g1 (fun k=>?_)⟩
 have h1:=cf_bnd (by omega) rA k
 have h2:=cf_bnd (by omega) (rB.take q) k
 rw [g2]
 omega
theorem pw_ls {w w':World} {S:Nat→Prop} {v:Value} {L:List Pw} (h:LsG elPw w S v L):LsE elPw w (fun _=>False) v L:=by
 obtain ⟨a,cap,e,h1,h2,h3⟩:=h.e
 exact ⟨a,cap,e,h1,h2,fun i x hi=>by obtain ⟨b,off,cs,e1,e2,e3,e4⟩:=h3 i x hi;exact ⟨b,off,cs,e1,e2,e3,e4⟩⟩
/-- the result of a product, in new blocks -/
def PwN (w:World) (L:List Pw) (e:Ending) (w':World):Prop :=
 Ext w w'∧((Rng 1000 L∧∃a c,e=.returned (.tuple #[.slice a L.length c,.int .i64 0])∧LsG elPw w' (fun c=>w.heap.size≤c) (.slice a L.length c) L)∨(¬Rng 1000 L∧e=.returned (.tuple #[.slice none 0 0,.int .i64 7])))
theorem PwN.any {w w':World} {L:List Pw} {e:Ending} (h:PwN w L e w'):PwR w L e w':=by
 obtain ⟨hE,h | h⟩:=h
 · obtain ⟨hR,a,c,he,hL⟩:=h
   exact ⟨hE,.inl ⟨hR,a,c,he,hL.any⟩⟩
 · exact ⟨hE,.inr h⟩
theorem RMulN_any {w:World} {S S':Nat→Prop} {a b:Option Addr} {ac bc:Nat} {A B:List Pw} (hA:LsG elPw w S (.slice a A.length ac) A) (hB:LsG elPw w S' (.slice b B.length bc) B) (gA:Good A) (gB:Good B) (rA:Rng 1000 A) (rB:Rng 1000 B) :
 Calls Tryz.prog 21 #[.slice a A.length ac,.slice b B.length bc] w (PwN w (mulP A B)):=by
 obtain ⟨-,hla,hca⟩:=hA.len
 obtain ⟨-,hlb,hcb⟩:=hB.len
 unfold maxLen at hca hcb
 have h6a:=gA.len
 have h6b:=gB.len
 have HVA:=Lib.hid (RValidP_any hA gA rA)
 have HVB:=Lib.hid (fun (w':World) (hE:Ext w w')=>RValidP_any (hB.ext hE) gB rB)
 have HA:=Lib.hid hA
 have HB:=Lib.hid hB
 have HGM:=Lib.hid (fun (q:Nat)=>mul_rng (q:=q) gA gB rA rB)
 have HGB:=Lib.hid gB
 have HRB:=Lib.hid rB
 clear hA hB gA gB rA rB
 go_enter Tryz.func21,Tryz.ntmps21
 go_wp2_with fail
 refine HVA.out.mono ?_
 rintro e w1 ⟨rfl,hE1⟩
 have HV1:=Lib.hid (HVB.out w1 hE1)
 have HE1:=Lib.hid hE1
 clear hE1
 go_wp2_with fail
 refine HV1.out.mono ?_
 rintro e w2 ⟨rfl,hE2⟩
 have HE2:=Lib.hid (HE1.out.trans hE2)
 clear hE2
 obtain ⟨nb,w3,hnb,hw3,HN3,hE3⟩:=box_new w2 (.cells #[] 66)
 have HO3:Hid (OwnG elPw w3 w2.heap.size 66 (fun _=>False) (.slice (some ⟨nb,0,none⟩) 0 0) []):=Lib.hid (pw_none HN3.out (by have:w2.heap.size=nb:=(by first | exact hnb | exact hnb.symm);omega))
 have HE3:=Lib.hid (HE2.out.trans hE3)
 have HA3:=Lib.hid (pw_ls (w':=w3) (HA.out.ext HE3.out))
 have HS3:Hid (w2.heap.size≤w3.heap.size):=Lib.hid hE3.size
 clear hE3
 go_upto_region 7 with fail
 go_upto_region 9 with (
  at_builtin
  rw [←hw3,←hnb]
  refine wpList_appG (E:=elPw) (T:=66) rfl 28 (.tmp 21) (.tmp 22) rfl rfl rfl Tryz.underlying28 infPw rfl (by decide) (by decide) HO3.out HS3.out (fun c h=>absurd h id) (by simp) (M:=A) (by omega) HA3.out ?_
  intro v4 w4 o4 g4 k4
  rw [List.nil_append] at o4
  have HO4:=Lib.hid (o4.low HE2.out.size)
  have HE4:Hid (Ext w w4):=Lib.hid (HE3.out.grown g4 (fun k e=>by have:=(HO3.out.lt k e).1;have:=HE2.out.size;omega))
  clear o4 g4 k4)
 clear HO3 HA3
 go_loopw [8,9] (fun ov iv wr=>∃q:Nat,iv=.int .i64 q∧q≤B.length∧Hid (Ext w wr)∧Hid (OwnG elPw wr w.heap.size 66 (fun _=>False) ov (mulP A (B.take q)))) (fun _ iv _=>B.length-(intOf iv).toNat)
 case atStart=>exact ⟨0,rfl,by omega,HE4,HO4⟩
 case round =>
  obtain ⟨q,rfl,hq,HE,HO⟩:=hrel
  obtain ⟨M,hM⟩:∃M,M=mulP A (B.take q):=⟨_,rfl⟩
  have hg:=HGM.out q
  rw [←hM] at HO hg
  obtain ⟨va,vc,rfl,-,-⟩:=HO.out.slice
  by_cases hlt:q<B.length
  · have hqi:(q:Int)<(B.length:Int):=by omega
    have hq0:(0:Int)≤(q:Int):=by omega
    obtain ⟨x,hx⟩:∃x,B[q]?=some x:=⟨_,List.getElem?_eq_getElem hlt⟩
    obtain ⟨xb,off,rfl,hb,p0,p1,p2,p3,p4,hx6,hI⟩:=pwAt (HB.out.ext HE.out) hx
    have hxr:=HRB.out x (List.mem_of_getElem? hx)
    have HN:Hid (mulP A (B.take (q+1))=addP M x.1 x.2):=Lib.hid (by rw [mulP_take hx,hM])
    have hEd:Ext wr wr.drew:=Ext.drew wr
    have HED:=Lib.hid (HE.out.trans hEd)
    have HLM:=Lib.hid (HO.out.any.ext hEd)
    have HAD:=Lib.hid (fun (w':World) (hE:Ext wr.drew w')=>Radd_any (i:=x.1) (n:=x.2) (HLM.out.ext hE) hg.1 hg.2 hx6 (by omega))
    unfold atmV at HAD
    obtain ⟨p0,p1,p2,p3,p4⟩:=cs_e5 hEd ⟨p0,p1,p2,p3,p4⟩
    clear hx hM hg hxr hEd
    go_upto_region 11 with fail
    go_region_law (go_simp;go_at_call 57;refine (HAD.out _ (by repeat (first | exact Ext.refl _ | exact Ext.alloc _ _ | apply Ext.then_dr | apply Ext.then_drN | apply Ext.then_drN2 | (refine Ext.then_al ?_ _)))).mono ?_;rintro e wa ⟨v,rfl,hEa,hOa⟩;have HEA:=Lib.hid ((HED.out.trans (by repeat (first | exact Ext.refl _ | exact Ext.alloc _ _ | apply Ext.then_dr | apply Ext.then_drN | apply Ext.then_drN2 | (refine Ext.then_al ?_ _)))).trans hEa);have HOA:=Lib.hid (hOa.low (Nat.le_trans HED.out.size (Ext.size (by repeat (first | exact Ext.refl _ | exact Ext.alloc _ _ | apply Ext.then_dr | apply Ext.then_drN | apply Ext.then_drN2 | (refine Ext.then_al ?_ _))))));clear hEa hOa)
    all_goals
     try simp only [Act.put,List.getElem_cons_succ,List.getElem_cons_zero]
     go_wp2_with fail
     first
     | (refine ⟨⟨q+1,by go_num,by omega,HEA,by rw [HN.out];exact HOA⟩,?_⟩
        simp [intOf];omega)
     | (go_roundw
        case rel=>exact ⟨q+1,by go_num,by omega,HEA,by rw [HN.out];exact HOA⟩
        case measure=>simp [intOf];omega)
  · have hqi:¬(q:Int)<(B.length:Int):=by omega
    have HFI:Hid (M=mulP A B):=Lib.hid (by rw [hM,List.take_of_length_le (by omega)])
    have HIR:=Lib.hid (RInRange_any (HO.out.any) (show M.length≤100 by have:=hg.1.len;omega))
    have HLS:=Lib.hid (HO.out.new (fun c h=>absurd h id))
    clear hM hg
    go_wp2_with fail
    refine HIR.out.mono ?_
    rintro e w5 ⟨rfl,hE5⟩
    have HE5:=Lib.hid (HE.out.trans hE5)
    have HLS5:=Lib.hid (HLS.out.ext hE5)
    clear hE5
    cases hb:rngB M with
    | true =>
      have HB:=Lib.hid hb
      clear hb
      go_wp2_with fail
      go_ret2
      refine ⟨HE5.out,.inl ⟨by rw [←HFI.out];exact rngB_iff.1 HB.out,?_⟩⟩
      rw [←HFI.out]
      exact ⟨_,_,rfl,HLS5.out⟩
    | false =>
      have HB:=Lib.hid hb
      clear hb
      go_wp2_with fail
      go_ret2
      refine ⟨HE5.out,.inr ⟨fun h=>?_,rfl⟩⟩
      rw [←HFI.out] at h
      have:=rngB_iff.2 h
      rw [HB.out] at this
      cases this
theorem RMul_any {w:World} {S S':Nat→Prop} {a b:Option Addr} {ac bc:Nat} {A B:List Pw} (hA:LsG elPw w S (.slice a A.length ac) A) (hB:LsG elPw w S' (.slice b B.length bc) B) (gA:Good A) (gB:Good B) (rA:Rng 1000 A) (rB:Rng 1000 B) :
 Calls Tryz.prog 21 #[.slice a A.length ac,.slice b B.length bc] w (PwR w (mulP A B)) :=
 (RMulN_any hA hB gA gB rA rB).mono fun e w' h=>h.any
/-- numbers of eight bits in memory -/
def elI8:Elm Int where
 n:=1
 R w S x cs:=cs=[.int .i8 x]∧-128≤x∧x<128
 len:=by rintro w S x cs ⟨rfl,-⟩;rfl
 one:=by rintro w S x cs ⟨rfl,-⟩ u hu;simp at hu;subst hu;rfl
 keep:=by rintro w w' S S' x cs ⟨rfl,h1⟩ _ _;exact ⟨rfl,h1⟩
theorem i8At {w:World} {S:Nat→Prop} {a:Option Addr} {L:List Int} {cap q:Nat} {x:Int} (h:LsG elI8 w S (.slice a L.length cap) L) (hq:L[q]?=some x) :
 ∃b off,a=some ⟨b,off,none⟩∧w.cell? ⟨b,off+q,none⟩=some (.int .i8 x)∧-128≤x∧x<128:=by
 obtain ⟨b,off,cs,rfl,-,hlt,⟨rfl,h6,hI⟩,hcs⟩:=h.at hq
 have:=hcs 0 _ rfl
 rw [show off+q*elI8.n+0=off+q from by show off+q*1+0=_;omega] at this
 exact ⟨b,off,rfl,this,h6,hI⟩
theorem sub_abc {w:World} {q:Nat} (hq:q<6):(⟨#[97,98,99,100,101,102]⟩:ByteArray).extract q (q+1)=ltr q:=by
 have:∀q<6,((⟨#[97,98,99,100,101,102]⟩:ByteArray).extract q (q+1)).data=(ltr q).data:=by decide +kernel
 exact ByteArray.ext (this q hq)
theorem RMade6_any {w:World} {S:Nat→Prop} {a:Option Addr} {cap:Nat} {D:List Int} (hD:LsG elI8 w S (.slice a D.length cap) D) :
 Calls Tryz.prog 19 #[.slice a D.length cap] w fun e w'=>∃v,e=.returned v∧Ext w w'∧∃L,OwnG elPw w' w.heap.size 66 (fun _=>False) v L∧Good L∧Rng 128 L:=by
 obtain ⟨-,hl,hc⟩:=hD.len
 unfold maxLen at hc
 have HD:=Lib.hid hD
 clear hD
 go_enter Tryz.func19,Tryz.ntmps19
 go_upto_region 3 with fail
 go_loopw [3,4] (fun ov iv wr=>∃(q:Nat) (L:List Pw),iv=.int .i64 q∧q≤6∧q≤D.length∧Hid (Ext w wr)∧Hid (OwnG elPw wr w.heap.size 66 (fun _=>False) ov L)∧Hid (Good L∧Rng 128 L∧∀p∈L,p.1<q)) (fun _ iv _=>6-(intOf iv).toNat)
 case atStart=>exact ⟨0,[],rfl,by omega,by omega,Lib.hid (Ext.refl _),Lib.hid OwnG.nil,Lib.hid ⟨Good.nil,fun p h=>by simp at h,fun p h=>by simp at h⟩⟩
 case round =>
  obtain ⟨q,L,rfl,hq6,hq,HE,HO,HG⟩:=hrel
  have hl6:=HG.out.1.len
  have HL6:=Lib.hid hl6
  obtain ⟨va,vc,rfl,-,-⟩:=HO.out.slice
  clear hl6
  by_cases h6:q<6
  · have h6i:(q:Int)<6:=by omega
    by_cases hlt:q<D.length
    · have hqi:(q:Int)<(D.length:Int):=by omega
      have hq0:(0:Int)≤(q:Int):=by omega
      obtain ⟨x,hx⟩:∃x,D[q]?=some x:=⟨_,List.getElem?_eq_getElem hlt⟩
      obtain ⟨b,off,rfl,p0,hx1,hx2⟩:=i8At (HD.out.ext HE.out) hx
      clear hx
      by_cases hx0:x=0
      · have g0:(x==(0:Int))=true:=by rw [hx0];rfl
        have HGN:Hid (Good L∧Rng 128 L∧∀p∈L,p.1<q+1):=Lib.hid ⟨HG.out.1,HG.out.2.1,fun p hp=>by have:=HG.out.2.2 p hp;omega⟩
        clear hx0
        go_wp2_with fail
        go_roundw
        case rel=>exact ⟨q+1,L,by go_num,by omega,by omega,HE,HO,HGN⟩
        case measure=>simp [intOf];omega
      · have g0:(x==(0:Int))=false:=beq_eq_false_iff_ne.2 hx0
        have hw1:IntKind.i64.wrap ((q:Int)+1)=(q:Int)+1:=by rw [IntKind.wrap_i64];omega
        have hwx:IntKind.i64.wrap x=x:=by rw [IntKind.wrap_i64];omega
        have hb1:(q:Int)≤(q:Int)+1:=by omega
        have hb2:(q:Int)+1≤6:=by omega
        have hsub:=sub_abc (w:=wr) h6
        have HGN:Hid (Good (L++[(q,x)])∧Rng 128 (L++[(q,x)])∧∀p∈L++[(q,x)],p.1<q+1):=Lib.hid (by
         obtain ⟨k1,k2,k3⟩:=HG.out
         refine ⟨⟨List.pairwise_append.2 ⟨k1.asc,List.pairwise_singleton _ _,fun p hp r hr=>by simp at hr;subst hr;exact k3 p hp⟩,fun p hp=>?_,fun p hp=>?_⟩,fun p hp=>?_,fun p hp=>?_⟩
         all_goals
          rcases List.mem_append.1 hp with hp | hp
         · exact k1.six p hp
         · simp at hp;subst hp;exact h6
         · exact k1.nz p hp
         · simp at hp;subst hp;exact hx0
         · exact k2 p hp
         · simp at hp;subst hp;show -128≤x∧x≤128;omega
         · have:=k3 p hp;omega
         · simp at hp;subst hp;show q<q+1;omega)
        have HX:Hid (I64 x):=Lib.hid (by unfold I64;omega)
        have HAT:=Lib.hid (fun (w':World)=>Atom_any (w:=w') (n:=ltr q) (k:=2) (by show 1≤maxLen;unfold maxLen;omega) (by unfold I64;omega))
        have hEd:Ext wr wr.drew:=Ext.drew wr
        have HED:=Lib.hid (HE.out.trans hEd)
        have HOD:=Lib.hid (HO.out.ext hEd)
        have p0:=cs_ext hEd p0
        clear hx0 hEd
        go_upto_region 6 with fail
        go_region_law (first
         | (go_simp
            go_at_call 6
            try rw [hsub]
            refine (HAT.out _).mono ?_
            rintro e wa ⟨rfl,hEa⟩
            have HEA:Hid (Ext wr.drew wa):=Lib.hid (Ext.trans (by repeat (first | exact Ext.refl _ | exact Ext.alloc _ _ | apply Ext.then_dr | apply Ext.then_drN | apply Ext.then_drN2 | (refine Ext.then_al ?_ _))) hEa)
            have p0a:=cs_ext HEA.out p0
            clear hEa)
         | (refine step_appG (E:=elPw) (T:=66) rfl 28 (.tmp 20) (.tmp 32) rfl rfl rfl Tryz.underlying28 infPw rfl (by decide) (by decide) ((HOD.out.ext HEA.out).ext (by repeat (first | exact Ext.refl _ | exact Ext.alloc _ _ | apply Ext.then_dr | apply Ext.then_drN | apply Ext.then_drN2 | (refine Ext.then_al ?_ _)))) (Nat.le_trans (HED.out.trans HEA.out).size (Ext.size (by repeat (first | exact Ext.refl _ | exact Ext.alloc _ _ | apply Ext.then_dr | apply Ext.then_drN | apply Ext.then_drN2 | (refine Ext.then_al ?_ _))))) (fun c h=>absurd h id) (by have:=HL6.out;omega) (M:=[(q,x)]) (by simp) (pw_e hs_new h6 HX.out) ?_;intro v' w' h2 h3 h4;have HE3:=Lib.hid (((HED.out.trans HEA.out).trans (by repeat (first | exact Ext.refl _ | exact Ext.alloc _ _ | apply Ext.then_dr | apply Ext.then_drN | apply Ext.then_drN2 | (refine Ext.then_al ?_ _)))).grown h3 (fun k hk=>(HO.out.lt k hk).1));have HO2:=Lib.hid h2;clear h2 h3 h4))
        all_goals
         try simp only [Act.put,List.getElem_cons_succ,List.getElem_cons_zero]
         go_wp2_with fail
         first
         | (refine ⟨⟨q+1,L++[(q,x)],by go_num,by omega,by omega,HE3,HO2,HGN⟩,?_⟩
            simp [intOf];omega)
         | (go_roundw
            case rel=>exact ⟨q+1,L++[(q,x)],by go_num,by omega,by omega,HE3,HO2,HGN⟩
            case measure=>simp [intOf];omega)
    · have hqi:¬(q:Int)<(D.length:Int):=by omega
      go_wp2_with fail
      go_ret
      exact ⟨_,rfl,HE.out,L,HO.out,HG.out.1,HG.out.2.1⟩
  · have h6i:¬(q:Int)<6:=by omega
    go_wp2_with fail
    go_ret
    exact ⟨_,rfl,HE.out,L,HO.out,HG.out.1,HG.out.2.1⟩

theorem abs_any {w:World} {x:Int} (hx:-9223372036854775808<x∧x≤9223372036854775807):Calls Tryz.prog 76 #[.int .i64 x] w fun e w'=>e=.returned (.int .i64 (absI x))∧Ext w w':=by
 have hw:IntKind.i64.wrap (-x)=-x:=by rw [IntKind.wrap_i64];omega
 obtain ⟨z,hz⟩:∃z,z=absI x:=⟨_,rfl⟩
 rw [←hz]
 have HZ:=Lib.hid hz
 clear hz
 go_enter Tryz.func76,Tryz.ntmps76
 by_cases h:x < -x
 · have hz:z=-x:=by rw [HZ.out];unfold absI;omega
   have hm:max x (-x)=-x:=by omega
   go_wp2_with fail
   go_ret
   refine ⟨?_,(by repeat (first | exact Ext.refl _ | exact Ext.alloc _ _ | apply Ext.then_dr | apply Ext.then_drN | apply Ext.then_drN2 | (refine Ext.then_al ?_ _)))⟩
   first
   | rfl
   | (rw [hz];rfl)
   | (rw [hz,←hm];rfl)
 · have hz:z=x:=by rw [HZ.out];unfold absI;omega
   have hm:max x (-x)=x:=by omega
   go_wp2_with fail
   go_ret
   refine ⟨?_,(by repeat (first | exact Ext.refl _ | exact Ext.alloc _ _ | apply Ext.then_dr | apply Ext.then_drN | apply Ext.then_drN2 | (refine Ext.then_al ?_ _)))⟩
   first
   | rfl
   | (rw [hz];rfl)
   | (rw [hz,←hm];rfl)
/-- numbers as cells -/
def intsC (L:List Int):Array Value:=(L.map (Value.int .i64)).toArray
def RngI (L:List Int):Prop:=∀x∈L,I64 x
theorem intsC_at {w:World} {b T:Nat} {L:List Int} (h:w.heap[b]?=some (.cells (intsC L) T)) {j:Nat} {x:Int} (hx:L[j]?=some x):w.cell? ⟨b,j,none⟩=some (.int .i64 x):=by
 rw [cellc h]
 unfold intsC
 rw [List.getElem?_toArray,List.getElem?_map,hx]
 rfl
theorem intsC_set {L:List Int} {j:Nat} {x:Int}:(intsC L).setIfInBounds j (.int .i64 x)=intsC (L.set j x):=by
 unfold intsC
 rw [List.setIfInBounds_toArray,List.map_set]
theorem intsC_store {w:World} {b T:Nat} {L:List Int} (h:w.heap[b]?=some (.cells (intsC L) T)) {j:Nat} {x:Int}:(w.setCell ⟨b,j,none⟩ (.int .i64 x)).heap[b]?=some (.cells (intsC (L.set j x)) T):=by
 rw [heap_setCell_same w b j _ _ _ h,intsC_set]
/-- of the old blocks only those of M change -/
structure Chg (M:Nat→Prop) (w w':World):Prop where
 os:w'.os=w.os
 tape:w'.tape=w.tape
 output:w'.output=w.output
 size:w.heap.size≤w'.heap.size
 block:∀k,k<w.heap.size→¬M k→w'.heap[k]?=w.heap[k]?
theorem Chg.refl (M:Nat→Prop) (w:World):Chg M w w:=⟨rfl,rfl,rfl,Nat.le_refl _,fun _ _ _=>rfl⟩
theorem Chg.trans {M:Nat→Prop} {a b c:World} (h:Chg M a b) (k:Chg M b c):Chg M a c :=
 ⟨k.os.trans h.os,k.tape.trans h.tape,k.output.trans h.output,Nat.le_trans h.size k.size,fun i hi hn=>(k.block i (Nat.lt_of_lt_of_le hi h.size) hn).trans (h.block i hi hn)⟩
theorem Chg.of {M:Nat→Prop} {a b:World} (h:Ext a b):Chg M a b:=⟨h.os,h.tape,h.output,h.size,fun i hi _=>h.block hi⟩
theorem Chg.set {M:Nat→Prop} {a b:World} (h:Chg M a b) {k o:Nat} (hk:M k) (v:Value):Chg M a (b.setCell ⟨k,o,none⟩ v) :=
 ⟨h.os,h.tape,h.output,by rw [World.size_setCell];exact h.size,fun i hi hn=>(heap_setCell_other _ _ _ _ (by rintro rfl;exact hn hk)).trans (h.block i hi hn)⟩
theorem Chg.wide {M N:Nat→Prop} {a b:World} (h:Chg M a b) (hM:∀k,k<a.heap.size→M k→N k):Chg N a b:=⟨h.os,h.tape,h.output,h.size,fun i hi hn=>h.block i hi (fun e=>hn (hM i hi e))⟩
theorem Chg.keep {M:Nat→Prop} {a b:World} (h:Chg M a b) {k:Nat} {o:Obj} (ho:a.heap[k]?=some o) (hk:¬M k):b.heap[k]?=some o:=(h.block k (Array.getElem?_eq_some_iff.1 ho).1 hk).trans ho
theorem Chg.ext {M:Nat→Prop} {w a b:World} (h:Chg M a b) (hE:Ext w a) (hM:∀k,M k→w.heap.size≤k):Ext w b :=
 ⟨h.os.trans hE.os,h.tape.trans hE.tape,h.output.trans hE.output,Nat.le_trans hE.size h.size,fun {k} hk=>(h.block k (Nat.lt_of_lt_of_le hk hE.size) (fun e=>by have:=hM k e;omega)).trans (hE.block hk)⟩
/-- a row in memory: its blocks -/
structure RowAt (w:World) (ad:Nat × Nat × Nat) (r:ERow):Prop where
 row:w.heap[ad.1]?=some (.cells #[.slice (some ⟨ad.2.1,0,none⟩) r.p.length r.p.length,.slice (some ⟨ad.2.2,0,none⟩) r.k.length r.k.length,.bool r.u] 63)
 pw:w.heap[ad.2.1]?=some (.cells (intsC r.p) 3)
 ks:w.heap[ad.2.2]?=some (.cells (intsC r.k) 3)
end Go.Proofs.YtclijngnoepbiaaGreat
