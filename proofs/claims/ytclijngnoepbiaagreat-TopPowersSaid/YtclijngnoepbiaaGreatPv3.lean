/- Contracts: exponent.Term at products of atoms. Contracts: exponent.Mul at products of atoms. -/
import Derived.Test.YtclijngnoepbiaaGreatPv2
set_option maxRecDepth 100000
set_option maxHeartbeats 8000000
namespace Go.Proofs.YtclijngnoepbiaaGreat
open Go Go.RowKit
set_option linter.unusedVariables false
set_option linter.unusedSimpArgs false

theorem tn_g {w:World} {S:Nat→Prop} {p cap:Nat} {a:Option Addr} {t:Tm} (h:w.heap[p]?=some (.cells #[.int .i64 t.kind,.string t.name,.int .i64 t.sort,.slice a t.kids.length cap] 33)) (hS:S p) (hT:TnW w S a cap t):LsG elN w S (.slice (some ⟨p,0,none⟩) 1 1) [t] :=
 cells_lsG (P:=[(t,encE ⟨t,a,cap⟩)]) h rfl rfl rfl (by simp [maxLen]) hS (by intro p hp;simp at hp;subst hp;exact ⟨_,_,rfl,hT⟩)
def TerE (w:World) (P:List Pw) (e:Ending) (w':World):Prop :=
 ((litsP P).length≤8∧∃v,e=.returned (.tuple #[v,.int .i64 0])∧Ext w w'∧IsN w' (fun c=>w.heap.size≤c) v (expT (litsP P))) ∨
 (8<(litsP P).length∧e=.returned (.tuple #[.agg #[.int .i64 0,.string ⟨#[]⟩,.int .i64 0,.slice none 0 0],.int .i64 3])∧Ext w w')
theorem PTermP_any {w : World} {S:Nat→Prop} {a:Option Addr} {cap:Nat} {P:List Pw} (hL:LsG elPw w S (.slice a P.length cap) P) (hG:Good P) (hR:Rng 1000 P) :
 Calls Tryz.prog 8 #[.slice a P.length cap] w fun e w'=>TerE w P e w':=by
 have hl6:=hG.len
 obtain ⟨rb,w1,hrb,hw1,HRB,hE1⟩:=box_new w (.cells #[.int .i64 0,.string ⟨#[]⟩,.int .i64 0,.slice none 0 0] 33)
 have HVA:=Lib.hid (PValidP_any (hL.ext hE1) hG hR)
 have HL:=Lib.hid (hL.ext hE1)
 have HGR:=Lib.hid (And.intro hG hR)
 have HE1:=Lib.hid hE1
 have HRS:Hid (w.heap.size≤rb∧rb<w1.heap.size):=Lib.hid ⟨by rw [hrb];exact Nat.le_refl _,(Array.getElem?_eq_some_iff.1 HRB.out).1⟩
 have HWK:Hid (∀q:Nat,q≤1000000→IntKind.i64.wrap ((q:Int)+1)=((q+1:Nat):Int)):=Lib.hid (fun q hq=>by rw [IntKind.wrap_i64];omega)
 clear hL hG hR hE1
 go_enter Tryz.func8,Tryz.ntmps8
 go_upto_region 1 with fail
 rw [←hw1,←hrb]
 clear hw1 hrb
 go_wp2_with fail
 refine HVA.out.mono ?_
 rintro e w2 ⟨rfl,hE2⟩
 have HRB2:=Lib.hid (hs_ext hE2 HRB.out)
 have HI0:Hid (TerI w2 w2 w2.heap.size (.slice none 0 0) (.slice none 0 0) (plL (P.take 0)) (ngL (P.take 0))):=Lib.hid ⟨Ext.refl _,OwnG.nil,OwnG.nil,fun g h=>by cases h⟩
 have HE2:=Lib.hid (HE1.out.trans hE2)
 have HL2:=Lib.hid (HL.out.ext hE2)
 have HRL:Hid (rb<w2.heap.size):=Lib.hid (Array.getElem?_eq_some_iff.1 HRB2.out).1
 obtain ⟨wb,hwb⟩:∃wb,wb=w2:=⟨_,rfl⟩
 rw [←hwb] at HE2 HL2 HRB2 HRL
 have HI0:Hid (TerI wb w2 wb.heap.size (.slice none 0 0) (.slice none 0 0) (plL (P.take 0)) (ngL (P.take 0))):=Lib.hid (by rw [hwb];exact HI0.out)
 clear hE2 hwb
 go_upto_region 6 with fail
 go_loopw [5,6,8,20,35,47] (fun pv nv _ kv _ _ wr=>∃(q:Nat) (pa:Option Addr) (pn pc:Nat) (na:Option Addr) (nn nc:Nat),pv=.slice pa pn pc∧nv=.slice na nn nc∧kv=.int .i64 q∧q≤P.length∧Hid (∀p∈P.take q,-8≤p.2∧p.2≤8)∧Hid (TerI wb wr wb.heap.size (.slice pa pn pc) (.slice na nn nc) (plL (P.take q)) (ngL (P.take q)))) (fun _ _ _ kv _ _ _=>P.length-(intOf kv).toNat)
 case atStart=>exact ⟨0,none,0,0,none,0,0,rfl,rfl,rfl,by omega,Lib.hid (by intro p hp;simp at hp),HI0⟩
 case round =>
  clear HI0
  obtain ⟨q,pa,pn,pc,na,nn,nc,rfl,rfl,rfl,hq,H8,HI⟩:=hrel
  have HRB1:Hid (wr.heap[rb]?=some (.cells #[.int .i64 0,.string ⟨#[]⟩,.int .i64 0,.slice none 0 0] 33)):=Lib.hid (hs_ext HI.out.ext HRB2.out)
  by_cases hlt:q<P.length
  · have hqz : (q : Int) < (P.length:Int):=by omega
    have hq0:(0:Int)≤(q:Int):=by omega
    have wq:=HWK.out q (by omega)
    obtain ⟨x,hx⟩:∃x,P[q]?=some x:=⟨_,List.getElem?_eq_getElem hlt⟩
    obtain ⟨b,off,rfl,hbl,p0,p1,p2,p3,p4,hx6,hI64⟩:=pwAt (HL2.out.ext HI.out.ext) hx
    obtain ⟨pb,w3,hpb,hw3,HPB,hE3⟩:=box_new wr (.cells #[.int .i64 2,.string (ltr x.1),.int .i64 2,.slice none 0 0,.int .i64 x.2] 66)
    have z4:w3.cell? ⟨pb,4,none⟩=some (.int .i64 x.2):=by rw [cellc HPB.out];rfl
    by_cases hx8:-8≤x.2∧x.2≤8
    · have d1 : ¬ (8 : Int)<x.2:=by omega
      have d2:¬x.2 < -8:=by omega
      have H82:Hid (∀p∈P.take (q+1),-8≤p.2∧p.2≤8):=Lib.hid (fun p hp=>by
       rw [getT hx] at hp
       rcases List.mem_append.1 hp with h | h
       · exact H8.out p h
       · rw [List.mem_singleton.1 h];exact hx8)
      have HLB:=Lib.hid (len_bnd H8.out)
      have HNP:=Lib.hid (plL_next hx)
      have HNN:=Lib.hid (ngL_next hx)
      have hE3r:=HI.out.next hE3
      have HI3:Hid (TerI wb w3 wb.heap.size (.slice pa pn pc) (.slice na nn nc) (plL (P.take q)++List.replicate 0 (x.1,false)) (ngL (P.take q))):=Lib.hid (by rw [List.replicate_zero,List.append_nil];exact hE3r)
      have HPB0:=Lib.hid HPB.out
      have HTL:Hid ((P.take q).length≤6):=Lib.hid (by rw [List.length_take];omega)
      clear hx hE3 hE3r hI64
      go_upto_region 11 with fail
      rw [←hw3,←hpb]
      clear hw3 hpb p0 p1 p2 p3 p4
      obtain ⟨NL,hNL⟩:∃NL,NL=ngL (P.take q):=⟨_,rfl⟩
      obtain ⟨PL,hPL⟩:∃PL,PL=plL (P.take q):=⟨_,rfl⟩
      rw [←hNL] at HI3 HLB HNN
      rw [←hPL] at HI3 HLB HNP
      obtain ⟨N,hN⟩:∃N,N=x.2.toNat:=⟨_,rfl⟩
      obtain ⟨M,hM⟩:∃M,M=(-x.2).toNat:=⟨_,rfl⟩
      have hNM:(N=0∨x.2=(N:Int))∧(x.2≤(N:Int))∧N≤8∧M≤8∧(M=0∨-x.2=(M:Int))∧-x.2≤(M:Int):=by omega
      rw [←hN] at HNP
      rw [←hM] at HNN
      have HCL:=Lib.hid (fun (w':World)=>xclone_atm (w:=w') (i:=x.1))
      unfold atmV at HCL
      have hplen:PL.length≤48∧NL.length≤48:=by
       have h1:=HLB.out
       have h2:=HTL.out
       omega
      clear hNL hPL hN hM HI HPB z4
      go_loopw [5,35] (fun pv kv wr=>∃(r:Nat) (pa:Option Addr) (pn pc:Nat),pv=.slice pa pn pc∧kv=.int .i64 r∧r≤N∧Hid (wr.heap[pb]?=some (.cells #[.int .i64 2,.string (ltr x.1),.int .i64 2,.slice none 0 0,.int .i64 x.2] 66))∧Hid (TerI wb wr wb.heap.size (.slice pa pn pc) (.slice na nn nc) (PL++List.replicate r (x.1,false)) NL)) (fun _ kv _=>N-(intOf kv).toNat)
      case atStart=>exact ⟨0,pa,pn,pc,rfl,rfl,by omega,HPB0,HI3⟩
      case round =>
       clear HI3 HPB0 HRB1
       obtain ⟨r,pa,pn,pc,rfl,rfl,hr,HPR,HIR⟩:=hrel
       by_cases hrl:r<N
       · have hrz : (r : Int)<x.2:=by omega
         have wr':=HWK.out r (by omega)
         have z0:wr.cell? ⟨pb,0,none⟩=some (.int .i64 2):=by rw [cellc HPR.out];rfl
         have z1:wr.cell? ⟨pb,1,none⟩=some (.string (ltr x.1)):=by rw [cellc HPR.out];rfl
         have z2:wr.cell? ⟨pb,2,none⟩=some (.int .i64 2):=by rw [cellc HPR.out];rfl
         have z3:wr.cell? ⟨pb,3,none⟩=some (.slice none 0 0):=by rw [cellc HPR.out];rfl
         go_wp2_with fail
         refine (HCL.out _).mono ?_
         rintro e w4 ⟨rfl,hE4⟩
         obtain ⟨w5,hw5⟩:∃w5,w5=w4.alloc (.cells #[.int .i64 2,.string (ltr x.1),.int .i64 2,.slice none 0 0] 33):=⟨_,rfl⟩
         have hE5:Ext w4 w5:=by rw [hw5];exact Ext.alloc _ _
         have HI5:=Lib.hid (HIR.out.next (hE4.trans hE5))
         have HP5:=Lib.hid (hs_ext (hE4.trans hE5) HPR.out)
         have hO5:=HI5.out.pos
         have hone:LsE elN w5 (fun _=>False) (.slice (some ⟨w4.heap.size,0,none⟩) 1 1) [litT (x.1,false)]:=tn_e (t:=litT (x.1,false)) (by rw [hw5];exact hs_new) atm_tn
         have hsz:wb.heap.size≤w5.heap.size:=HI5.out.ext.size
         have hml:((PL++List.replicate r (x.1,false)).map litT).length≤1000:=by rw [List.length_map,List.length_append,List.length_replicate];omega
         have HW5:=Lib.hid hw5
         rw [hw5] at hO5 hone hsz
         clear hE4 hE5 hw5 z0 z1 z2 z3
         go_wp2_with (at_builtin;(refine wpList_appG (E:=elN) (T:=33) rfl 31 (.tmp 37) (.tmp 41) rfl rfl rfl Tryz.underlying31 infTm rfl (by decide) (by decide) hO5 hsz (fun c h=>absurd h id) (by omega) (M:=[litT (x.1,false)]) (by simp) hone ?_);intro v8 w8 o8 g8 k8
                      rw [←HW5.out] at g8 k8
                      obtain ⟨va8,vc8,hv8,-,-⟩:=id o8.slice
                      obtain ⟨n8,hn8⟩:∃n8,n8=(((PL++List.replicate r (x.1,false)).map litT)++[litT (x.1,false)]).length:=⟨_,rfl⟩
                      rw [←hn8] at hv8
                      rw [hv8] at o8 k8 ⊢
                      have HP8:Hid (w8.heap[pb]?=some (.cells #[.int .i64 2,.string (ltr x.1),.int .i64 2,.slice none 0 0,.int .i64 x.2] 66)):=Lib.hid ((g8.block pb (Array.getElem?_eq_some_iff.1 HP5.out).1 (fun e=>by
                       obtain ⟨cur,hcur⟩:=own_type HI5.out.pos e.symm
                       exact cells_ne HP5.out hcur (by decide) rfl)).trans HP5.out)
                      have HI8:Hid (TerI wb w8 wb.heap.size (.slice va8 n8 vc8) (.slice na nn nc) (PL++List.replicate (r+1) (x.1,false)) NL):=Lib.hid (by
                       rw [rep_next,←List.append_assoc]
                       exact HI5.out.putP (Nat.le_refl _) o8 g8 k8)
                      clear o8 g8 k8 hO5 hone hv8 hn8)
         go_roundw
         case rel=>exact ⟨r+1,va8,n8,vc8,rfl,rfl,by omega,HP8,HI8⟩
         case measure=>simp [intOf];omega
       · have hrz : ¬ (r : Int)<x.2:=by omega
         have HI4:Hid (TerI wb wr wb.heap.size (.slice pa pn pc) (.slice na nn nc) (plL (P.take (q+1))) (NL++List.replicate 0 (x.1,true))):=Lib.hid (by
          have h:=HIR.out
          rw [show r=N by omega,←HNP.out] at h
          rw [List.replicate_zero,List.append_nil]
          exact h)
         have z4:wr.cell? ⟨pb,4,none⟩=some (.int .i64 x.2):=by rw [cellc HPR.out];rfl
         have wneg:IntKind.i64.wrap (-x.2)=-x.2:=by rw [IntKind.wrap_i64];omega
         have HPB0:=HPR
         clear HIR HPR
         go_upto_region 15 with fail
         clear z4
         go_loopw [6,47] (fun nv kv wr=>∃(r:Nat) (na:Option Addr) (nn nc:Nat),nv=.slice na nn nc∧kv=.int .i64 r∧r≤M∧Hid (wr.heap[pb]?=some (.cells #[.int .i64 2,.string (ltr x.1),.int .i64 2,.slice none 0 0,.int .i64 x.2] 66))∧Hid (TerI wb wr wb.heap.size (.slice pa pn pc) (.slice na nn nc) (plL (P.take (q+1))) (NL++List.replicate r (x.1,true)))) (fun _ kv _=>M-(intOf kv).toNat)
         case atStart=>exact ⟨0,na,nn,nc,rfl,rfl,by omega,HPB0,HI4⟩
         case round =>
          clear HI4 HPB0
          obtain ⟨r,na,nn,nc,rfl,rfl,hr,HPR,HIR⟩:=hrel
          by_cases hrl:r<M
          · have hrz : (r : Int) < -x.2:=by omega
            have wr':=HWK.out r (by omega)
            have z0:wr.cell? ⟨pb,0,none⟩=some (.int .i64 2):=by rw [cellc HPR.out];rfl
            have z1:wr.cell? ⟨pb,1,none⟩=some (.string (ltr x.1)):=by rw [cellc HPR.out];rfl
            have z2:wr.cell? ⟨pb,2,none⟩=some (.int .i64 2):=by rw [cellc HPR.out];rfl
            have z3:wr.cell? ⟨pb,3,none⟩=some (.slice none 0 0):=by rw [cellc HPR.out];rfl
            go_wp2_with fail
            refine (HCL.out _).mono ?_
            rintro e w4 ⟨rfl,hE4⟩
            obtain ⟨kb,w5,hkb,hw5,HKB,hE5⟩:=box_new w4 (.cells #[.int .i64 2,.string (ltr x.1),.int .i64 2,.slice none 0 0] 33)
            have HK5:Hid (wr.heap.size≤kb∧kb<w5.heap.size):=Lib.hid ⟨by rw [hkb];exact hE4.size,(Array.getElem?_eq_some_iff.1 HKB.out).1⟩
            have HAP:=Lib.hid (xapp_any (w:=w5) (S:=fun c=>c=kb) (n:=invN) (a:=some ⟨kb,0,none⟩) (cap:=1) (L:=[atmT x.1]) (by show 3≤maxLen;unfold maxLen;omega) (tn_g (t:=litT (x.1,false)) HKB.out rfl atm_tn))
            unfold invN at HAP
            have HE5:=Lib.hid (hE4.trans hE5)
            clear hE4 hE5 z0 z1 z2 z3
            go_wp2_with fail
            rw [←hw5,←hkb]
            clear hw5 hkb
            refine HAP.out.mono ?_
            rintro e w6 ⟨rfl,hE6,hT6⟩
            obtain ⟨w7,hw7⟩:∃w7,w7=w6.alloc (.cells #[.int .i64 3,.string ⟨#[105,110,118]⟩,.int .i64 0,.slice (some ⟨kb,0,none⟩) 1 1] 33):=⟨_,rfl⟩
            have hE7:Ext w6 w7:=by rw [hw7];exact Ext.alloc _ _
            have HI7:=Lib.hid (HIR.out.next (HE5.out.trans (hE6.trans hE7)))
            have HP7:=Lib.hid (hs_ext (HE5.out.trans (hE6.trans hE7)) HPR.out)
            have hO7:=HI7.out.neg
            have hT7:TnW w7 (fun c=>wb.heap.size≤c∧c<w7.heap.size∧(Value.slice na nn nc).ownBlock≠some c∧(Value.slice pa pn pc).ownBlock≠some c) (some ⟨kb,0,none⟩) 1 (litT (x.1,true)):=(hT6.ext hE7).wide (fun c hc hlt=>by
             subst hc
             have h5:=HK5.out.1
             refine ⟨by have:=HIR.out.ext.size;omega,hlt,fun e=>?_,fun e=>?_⟩
             · have:=(HIR.out.neg.lt _ e).2;omega
             · have:=(HIR.out.pos.lt _ e).2;omega)
            have hone:LsE elN w7 (fun c=>wb.heap.size≤c∧c<w7.heap.size∧(Value.slice na nn nc).ownBlock≠some c∧(Value.slice pa pn pc).ownBlock≠some c) (.slice (some ⟨w6.heap.size,0,none⟩) 1 1) [litT (x.1,true)]:=tn_e (t:=litT (x.1,true)) (a:=some ⟨kb,0,none⟩) (cap:=1) (by rw [hw7];exact hs_new) hT7
            have hsz:wb.heap.size≤w7.heap.size:=HI7.out.ext.size
            have hml:((NL++List.replicate r (x.1,true)).map litT).length≤1000:=by rw [List.length_map,List.length_append,List.length_replicate];omega
            have HW7:=Lib.hid hw7
            obtain ⟨sz,hszz⟩:∃sz,sz=w7.heap.size:=⟨_,rfl⟩
            rw [←hszz] at hO7 hone
            have HSZ:=Lib.hid hszz
            rw [hw7] at hO7 hone hsz
            clear hE6 hE7 hw7 hT6 hT7 hszz
            go_wp2_with (at_builtin;(refine wpList_appG (E:=elN) (T:=33) rfl 31 (.tmp 49) (.tmp 55) rfl rfl rfl Tryz.underlying31 infTm rfl (by decide) (by decide) hO7 hsz (fun c h=>h.2.2.1) (by omega) (M:=[litT (x.1,true)]) (by simp) hone ?_);intro v8 w8 o8 g8 k8
                         rw [←HW7.out] at g8 k8
                         rw [HSZ.out] at o8
                         obtain ⟨va8,vc8,hv8,-,-⟩:=id o8.slice
                         obtain ⟨n8,hn8⟩:∃n8,n8=(((NL++List.replicate r (x.1,true)).map litT)++[litT (x.1,true)]).length:=⟨_,rfl⟩
                         rw [←hn8] at hv8
                         rw [hv8] at o8 k8 ⊢
                         have HP8:Hid (w8.heap[pb]?=some (.cells #[.int .i64 2,.string (ltr x.1),.int .i64 2,.slice none 0 0,.int .i64 x.2] 66)):=Lib.hid ((g8.block pb (Array.getElem?_eq_some_iff.1 HP7.out).1 (fun e=>by
                          obtain ⟨cur,hcur⟩:=own_type HI7.out.neg e.symm
                          exact cells_ne HP7.out hcur (by decide) rfl)).trans HP7.out)
                         have HI8:Hid (TerI wb w8 wb.heap.size (.slice pa pn pc) (.slice va8 n8 vc8) (plL (P.take (q+1))) (NL++List.replicate (r+1) (x.1,true))):=Lib.hid (by
                          rw [rep_next,←List.append_assoc]
                          exact HI7.out.putN (Nat.le_refl _) o8 g8 k8)
                         clear o8 g8 k8 hO7 hone hv8 hn8)
            go_roundw
            case rel=>exact ⟨r+1,va8,n8,vc8,rfl,rfl,by omega,HP8,HI8⟩
            case measure=>simp [intOf];omega
          · have hrz:¬(r:Int) < -x.2:=by omega
            have HI6:Hid (TerI wb wr wb.heap.size (.slice pa pn pc) (.slice na nn nc) (plL (P.take (q+1))) (ngL (P.take (q+1)))):=Lib.hid (by
             have h:=HIR.out
             rw [show r=M by omega,←HNN.out] at h
             exact h)
            go_wp2_with fail
            go_roundw
            case rel=>exact ⟨q+1,pa,pn,pc,na,nn,nc,rfl,rfl,rfl,by omega,H82,HI6⟩
            case measure=>simp [intOf];omega
    · have HBIG:Hid (8<(litsP P).length):=Lib.hid (by
       have:=lits_ge (List.mem_of_getElem? hx)
       omega)
      have HE3:=Lib.hid (HI.out.ext.trans hE3)
      have HRB1:=Lib.hid (hs_ext hE3 HRB1.out)
      by_cases hx9:(8:Int)<x.2
      · clear hx hE3 hI64 hx8
        go_upto_region 8 with fail
        rw [←hw3,←hpb]
        clear hw3 hpb p0 p1 p2 p3 p4
        go_wp2_with (refine wpList_storeT rfl (.tmp 2) (.tmp 32) rfl (g:=rb) rfl (k:=0) (s:=0) (n:=⟨#[]⟩) (ka:=none) (kl:=0) (kc:=0) rfl HRB1.out rfl ?_)
        intro w9 h9 hoth hE9 hs9
        go_wp2_with fail
        exact ret_term2 (g:=rb) rfl rfl h9 rfl (.inr ⟨HBIG.out,rfl,hE9 w (HE2.out.trans HE3.out) HRS.out.1⟩)
      · have d2:x.2 < -8:=by omega
        clear hx hE3 hI64 hx8
        go_upto_region 8 with fail
        rw [←hw3,←hpb]
        clear hw3 hpb p0 p1 p2 p3 p4
        go_wp2_with (refine wpList_storeT rfl (.tmp 2) (.tmp 32) rfl (g:=rb) rfl (k:=0) (s:=0) (n:=⟨#[]⟩) (ka:=none) (kl:=0) (kc:=0) rfl HRB1.out rfl ?_)
        intro w9 h9 hoth hE9 hs9
        go_wp2_with fail
        exact ret_term2 (g:=rb) rfl rfl h9 rfl (.inr ⟨HBIG.out,rfl,hE9 w (HE2.out.trans HE3.out) HRS.out.1⟩)
  · have hqz:¬(q:Int)<(P.length:Int):=by omega
    have HIF:Hid (TerI wb wr wb.heap.size (.slice pa pn pc) (.slice na nn nc) (plL P) (ngL P)):=Lib.hid (by have h:=HI.out;rwa [List.take_of_length_le (by omega)] at h)
    have HBN:Hid ((plL P).length≤48∧(ngL P).length≤48):=Lib.hid (by
     have h:=H8.out
     rw [List.take_of_length_le (by omega)] at h
     have:=len_bnd h
     omega)
    obtain ⟨A,hA⟩:∃A,A=(plL P).map litT:=⟨_,rfl⟩
    obtain ⟨B,hB⟩:∃B,B=(ngL P).map litT:=⟨_,rfl⟩
    have HAB:Hid (A++B=(litsP P).map litT):=Lib.hid (by rw [hA,hB,litsP_eq,List.map_append])
    have hAl:A.length≤48:=by rw [hA,List.length_map];exact HBN.out.1
    have hBl:B.length≤48:=by rw [hB,List.length_map];exact HBN.out.2
    have hpos:=HIF.out.pos
    have hneg:=HIF.out.neg
    rw [←hA] at hpos
    rw [←hB] at hneg
    obtain ⟨pa2,pc2,hpe,-,-⟩:=id hpos.slice
    obtain ⟨na2,nc2,hne,-,-⟩:=id hneg.slice
    cases hpe
    cases hne
    obtain ⟨xb,w3,hxb,hw3,HXB,hE3⟩:=box_new wr (.cells #[.slice pa A.length pc,.slice na B.length nc] 31)
    have hsr:=hE3.size
    have hbr3:wb.heap.size≤w3.heap.size:=Nat.le_trans HI.out.ext.size hsr
    have HLA:=(((hpos.ls (S':=fun c=>wb.heap.size≤c∧c<w3.heap.size) (fun c h _=>absurd h id) (fun g _ h1 h=>⟨h1,Nat.lt_of_lt_of_le h hsr⟩)).ext hE3))
    have HLB2:=(((hneg.ls (S':=fun c=>wb.heap.size≤c∧c<w3.heap.size) (fun c h _=>⟨h.1,Nat.lt_of_lt_of_le h.2.1 hsr⟩) (fun g _ h1 h=>⟨h1,Nat.lt_of_lt_of_le h hsr⟩)).ext hE3))
    have HCC:=Lib.hid (concat2N (by omega) (by omega) (fun c h=>h.2) HXB.out HLA HLB2)
    have HE3:Hid (Ext w w3):=Lib.hid (HE2.out.trans (HI.out.ext.trans hE3))
    have HRB1:=Lib.hid (hs_ext hE3 HRB1.out)
    clear hpos hneg HLA HLB2 hE3 hA hB hsr HI HIF
    go_wp2_with fail
    rw [←hw3,←hxb]
    clear hw3 hxb
    refine HCC.out.mono ?_
    rintro e w4 ⟨u,rfl,hE4,hO4⟩
    obtain ⟨ua,uc,hu,hul,huc⟩:=id hO4.slice
    rw [HAB.out,List.length_map] at hu hul
    rw [HAB.out] at hO4
    obtain ⟨K,hK⟩:∃K,K=litsP P:=⟨_,rfl⟩
    have HKK:=Lib.hid hK
    have HK6:Hid (∀l∈K,l.1<6):=Lib.hid (by rw [hK];exact lits_six HGR.out.1)
    rw [←hK] at hu hul hO4
    obtain ⟨n,hn⟩:∃n,n=K.length:=⟨_,rfl⟩
    rw [←hn] at hu hul
    subst hu
    unfold maxLen at huc
    have HN:=Lib.hid hn
    have HOU:Hid (LsG elN w4 (fun c=>w.heap.size≤c∧c≠rb) (.slice ua n uc) (K.map litT)):=Lib.hid (by
     have hr:=HRL.out
     have hwz:=HE2.out.size
     exact hO4.ls (fun c h _=>by omega) (fun g h1 h2 h3=>by omega))
    have HE4:=Lib.hid (HE3.out.trans hE4)
    have HRB1:=Lib.hid (hs_ext hE4 HRB1.out)
    clear hE4 hO4 hK hn
    have hRS:=HRS.out
    have hrb4:rb<w4.heap.size:=(Array.getElem?_eq_some_iff.1 HRB1.out).1
    by_cases hn8:n≤8
    · have d1:¬(8:Int)<(n:Int):=by omega
      have HLM:Hid (LsG elN w4 (fun c=>w.heap.size≤c∧c≠rb) (.slice ua (K.map litT).length uc) (K.map litT)):=Lib.hid (by rw [List.length_map,←HN.out];exact HOU.out)
      have HAP:Hid (Calls Tryz.prog 25 #[.string ⟨#[109,117,108]⟩,.slice ua n uc] w4 fun e w'=>e=.returned (.agg #[.int .i64 3,.string ⟨#[109,117,108]⟩,.int .i64 0,.slice ua n uc])∧Ext w4 w'∧TnW w' (fun c=>w.heap.size≤c∧c≠rb) ua uc (appTm mulN (K.map litT))):=Lib.hid (by
       have h:=xapp_any (n:=mulN) (by show 3≤maxLen;unfold maxLen;omega) HLM.out
       rw [List.length_map,←HN.out] at h
       exact h)
      have HFE:Hid (∀w',Ext w w'→∀(v:Value),IsN w' (fun c=>w.heap.size≤c) v (expT K)→TerE w P (.returned (.tuple #[v,.int .i64 0])) w'):=Lib.hid (fun w' hE v hv=>.inl ⟨by rw [←HKK.out,←HN.out];exact hn8,v,rfl,hE,by rw [←HKK.out];exact hv⟩)
      go_wp2_with fail
      refine HAP.out.mono ?_
      rintro e w5 ⟨rfl,hE5,hT5⟩
      obtain ⟨ob,w6,hob,hw6,HOB,hE6⟩:=box_new w5 (.cells #[.int .i64 3,.string ⟨#[109,117,108]⟩,.int .i64 0,.slice ua n uc] 33)
      have HT6:=Lib.hid (hT5.ext hE6)
      have HE6:=Lib.hid (HE4.out.trans (hE5.trans hE6))
      have HO6:=Lib.hid (HOU.out.ext (hE5.trans hE6))
      have HRB6:=Lib.hid (hs_ext (hE5.trans hE6) HRB1.out)
      have HE46:Hid (Ext w4 w6∧w4.heap.size≤ob):=Lib.hid ⟨hE5.trans hE6,by rw [hob];exact hE5.size⟩
      have HOS:Hid (w.heap.size≤ob∧ob≠rb):=Lib.hid ⟨by rw [hob];exact (HE4.out.trans hE5).size,by rw [hob];have:=hE5.size;omega⟩
      clear hT5 hE5 hE6
      go_upto_region 23 with fail
      rw [←hw6,←hob]
      clear hw6 hob
      have HN8:=Lib.hid hn8
      rcases Nat.lt_or_ge n 2 with hn2 | hn2
      · rcases (by omega:n=0∨n=1) with h0 | h0
        · have hK0:K=[]:=List.length_eq_zero_iff.1 (by rw [←HN.out];exact h0)
          subst h0
          obtain ⟨T,hT⟩:∃T,T=expT K:=⟨_,rfl⟩
          have HTK:=Lib.hid hT
          have hTe:T=appTm oneN []:=by rw [hT,hK0];rfl
          have HA1:Hid (Calls Tryz.prog 25 #[.string ⟨#[111,110,101]⟩,.slice none 0 0] w6 fun e w'=>e=.returned (.agg #[.int .i64 3,.string ⟨#[111,110,101]⟩,.int .i64 0,.slice none 0 0])∧Ext w6 w'∧TnW w' (fun c=>w.heap.size≤c∧c≠rb) none 0 T):=Lib.hid (by
           rw [hTe]
           exact xapp_any (n:=oneN) (L:=[]) (S:=fun c=>w.heap.size≤c∧c≠rb) (by show 3≤maxLen;unfold maxLen;omega) ⟨none,0,rfl,Nat.le_refl _,by show 0≤maxLen;omega,fun i x h=>by simp at h⟩)
          have HTC:Hid (T.kind=3∧T.name=⟨#[111,110,101]⟩∧T.sort=0∧T.kids.length=0):=Lib.hid (by rw [hTe];exact ⟨rfl,rfl,rfl,rfl⟩)
          clear hT hTe hK0 hn2
          go_wp2_with fail
          refine HA1.out.mono ?_
          rintro e w7 ⟨rfl,hE7,hT7⟩
          have HT7:=Lib.hid hT7
          have HOB7:=Lib.hid (hs_ext hE7 HOB.out)
          have HEQ7:=Lib.hid (HE6.out.trans hE7)
          have HRB7:=Lib.hid (hs_ext hE7 HRB6.out)
          clear hE7 hT7
          go_wp2_with (refine wpList_storeT rfl (.tmp 10) (.tmp 73) rfl (g:=ob) rfl (k:=3) (s:=0) (n:=⟨#[111,110,101]⟩) (ka:=none) (kl:=0) (kc:=0) rfl HOB7.out rfl ?_)
          intro wq hq hothq hEq hsq
          have HOQ:Hid (wq.heap[ob]?=some (.cells #[.int .i64 T.kind,.string T.name,.int .i64 T.sort,.slice none T.kids.length 0] 33)):=Lib.hid (by rw [HTC.out.1,HTC.out.2.1,HTC.out.2.2.1,HTC.out.2.2.2];exact hq)
          have HTQ:Hid (TnW wq (fun c=>w.heap.size≤c∧c≠rb) none 0 T):=Lib.hid (by
           obtain ⟨k1,k2,k3,k4,k5,k6,ba,oa,k7,k8⟩:=HT7.out
           have hkn:T.kids=[]:=List.length_eq_zero_iff.1 HTC.out.2.2.2
           exact ⟨k1,k2,k3,k4,k5,k6,0,0,fun h=>absurd hkn h,fun i k h=>by rw [hkn] at h;simp at h⟩)
          have HEQ:=Lib.hid (hEq w HEQ7.out HOS.out.1)
          have HRQ:=Lib.hid ((hothq rb (fun e=>HOS.out.2 e.symm)).trans HRB7.out)
          clear hq hothq hEq hsq
          have HVL:Hid (validT T=0∧sizeT T≤17):=Lib.hid (by rw [HTK.out];exact ⟨exp_valid HK6.out (by rw [←HN.out];exact HN8.out),(exp_err HK6.out (by rw [←HN.out];exact HN8.out)).2.1⟩)
          have y0:wq.cell? ⟨ob,0,none⟩=some (.int .i64 T.kind):=by rw [cellc HOQ.out];rfl
          have y1:wq.cell? ⟨ob,1,none⟩=some (.string T.name):=by rw [cellc HOQ.out];rfl
          have y2:wq.cell? ⟨ob,2,none⟩=some (.int .i64 T.sort):=by rw [cellc HOQ.out];rfl
          have y3:wq.cell? ⟨ob,3,none⟩=some (.slice none T.kids.length 0):=by rw [cellc HOQ.out];rfl
          have HVA:=Lib.hid (PValid_any (w:=wq) (t:=T) (by have:=HVL.out.2;omega) HTQ.out.tm)
          rw [HVL.out.1] at HVA
          go_upto_region 28 with fail
          go_wp2_with fail
          refine HVA.out.mono ?_
          rintro e w8 ⟨rfl,hE8⟩
          have HE8:=Lib.hid (HEQ.out.trans hE8)
          have HT8:=Lib.hid (HTQ.out.ext hE8)
          have HRB8:=Lib.hid (hs_ext hE8 HRQ.out)
          obtain ⟨y0,y1,y2,y3⟩:=cs_e4 hE8 ⟨y0,y1,y2,y3⟩
          clear hE8
          go_wp2_with (refine wpList_storeT rfl (.tmp 2) (.tmp 85) rfl (g:=rb) rfl (k:=T.kind) (s:=T.sort) (n:=T.name) (ka:=none) (kl:=T.kids.length) (kc:=0) rfl HRB8.out rfl ?_)
          intro w9 h9 hoth hE9 hs9
          go_wp2_with fail
          exact ret_term2 (g:=rb) rfl rfl h9 rfl (HFE.out _ (hE9 w HE8.out hRS.1) _ (by rw [←HTK.out];exact ⟨none,0,rfl,HT8.out.keep (fun c hc _=>hoth c hc.2) (fun c hc _=>hc.1)⟩))
        · subst h0
          obtain ⟨l,hKl⟩:∃l,K=[l]:=by
           match K,HN.out with
           | [l],_=>exact ⟨l,rfl⟩
          obtain ⟨T,hT⟩:∃T,T=expT K:=⟨_,rfl⟩
          have HTK:=Lib.hid hT
          have hTe:T=litT l:=by rw [hT,hKl];rfl
          have hls:=HOU.out
          rw [hKl] at hls
          obtain ⟨b2,o2,cs,hua,hS2,hlt2,⟨a2,c2,rfl,hT2⟩,hcs⟩:=hls.at (i:=0) (x:=litT l) rfl
          subst hua
          rw [←hTe] at hcs hT2
          have k0:w4.cell? ⟨b2,o2,none⟩=some (.int .i64 T.kind):=hcs 0 _ rfl
          have k1:w4.cell? ⟨b2,o2+1,none⟩=some (.string T.name):=hcs 1 _ rfl
          have k2:w4.cell? ⟨b2,o2+2,none⟩=some (.int .i64 T.sort):=hcs 2 _ rfl
          have k3:w4.cell? ⟨b2,o2+3,none⟩=some (.slice a2 T.kids.length c2):=hcs 3 _ rfl
          have HT7:=Lib.hid ((hT2.wide (S':=fun c=>w.heap.size≤c∧c≠rb∧c<w4.heap.size) (fun c h1 h2=>⟨h1.1,h1.2,h2⟩)).ext HE46.out.1)
          obtain ⟨k0,k1,k2,k3⟩:=cs_e4 HE46.out.1 ⟨k0,k1,k2,k3⟩
          clear hT hTe hKl hn2 hls hcs hT2 hS2 hlt2
          go_wp2_with (refine wpList_storeT rfl (.tmp 10) (.tmp 78) rfl (g:=ob) rfl (k:=T.kind) (s:=T.sort) (n:=T.name) (ka:=a2) (kl:=T.kids.length) (kc:=c2) rfl HOB.out rfl ?_)
          intro wq hq hothq hEq hsq
          have HOQ:Hid (wq.heap[ob]?=some (.cells #[.int .i64 T.kind,.string T.name,.int .i64 T.sort,.slice a2 T.kids.length c2] 33)):=Lib.hid hq
          have HTQ:Hid (TnW wq (fun c=>w.heap.size≤c∧c≠rb) a2 c2 T):=Lib.hid (HT7.out.keep (fun c h _=>hothq c (by have:=h.2.2;have:=HE46.out.2;omega)) (fun c h _=>⟨h.1,h.2.1⟩))
          have HEQ:=Lib.hid (hEq w HE6.out HOS.out.1)
          have HRQ:=Lib.hid ((hothq rb (fun e=>HOS.out.2 e.symm)).trans HRB6.out)
          clear hq hothq hEq hsq k0 k1 k2 k3
          have HVL:Hid (validT T=0∧sizeT T≤17):=Lib.hid (by rw [HTK.out];exact ⟨exp_valid HK6.out (by rw [←HN.out];exact HN8.out),(exp_err HK6.out (by rw [←HN.out];exact HN8.out)).2.1⟩)
          have y0:wq.cell? ⟨ob,0,none⟩=some (.int .i64 T.kind):=by rw [cellc HOQ.out];rfl
          have y1:wq.cell? ⟨ob,1,none⟩=some (.string T.name):=by rw [cellc HOQ.out];rfl
          have y2:wq.cell? ⟨ob,2,none⟩=some (.int .i64 T.sort):=by rw [cellc HOQ.out];rfl
          have y3:wq.cell? ⟨ob,3,none⟩=some (.slice a2 T.kids.length c2):=by rw [cellc HOQ.out];rfl
          have HVA:=Lib.hid (PValid_any (w:=wq) (t:=T) (by have:=HVL.out.2;omega) HTQ.out.tm)
          rw [HVL.out.1] at HVA
          go_upto_region 28 with fail
          go_wp2_with fail
          refine HVA.out.mono ?_
          rintro e w8 ⟨rfl,hE8⟩
          have HE8:=Lib.hid (HEQ.out.trans hE8)
          have HT8:=Lib.hid (HTQ.out.ext hE8)
          have HRB8:=Lib.hid (hs_ext hE8 HRQ.out)
          obtain ⟨y0,y1,y2,y3⟩:=cs_e4 hE8 ⟨y0,y1,y2,y3⟩
          clear hE8
          go_wp2_with (refine wpList_storeT rfl (.tmp 2) (.tmp 85) rfl (g:=rb) rfl (k:=T.kind) (s:=T.sort) (n:=T.name) (ka:=a2) (kl:=T.kids.length) (kc:=c2) rfl HRB8.out rfl ?_)
          intro w9 h9 hoth hE9 hs9
          go_wp2_with fail
          exact ret_term2 (g:=rb) rfl rfl h9 rfl (HFE.out _ (hE9 w HE8.out hRS.1) _ (by rw [←HTK.out];exact ⟨a2,c2,rfl,HT8.out.keep (fun c hc _=>hoth c hc.2) (fun c hc _=>hc.1)⟩))
      · have e0:¬n=0:=by omega
        have e1:¬n=1:=by omega
        have e2:((n:Int)==(0:Int))=false:=beq_eq_false_iff_ne.2 (by omega)
        have e3:((n:Int)==(1:Int))=false:=beq_eq_false_iff_ne.2 (by omega)
        obtain ⟨T,hT⟩:∃T,T=expT K:=⟨_,rfl⟩
        have HTK:=Lib.hid hT
        have hTe:T=appTm mulN (K.map litT):=by
         rw [hT]
         have hk2:2≤K.length:=by rw [←HN.out];exact hn2
         match K,hk2 with
         | l :: l' :: ls,_=>rfl
        have HOQ:Hid (w6.heap[ob]?=some (.cells #[.int .i64 T.kind,.string T.name,.int .i64 T.sort,.slice ua T.kids.length uc] 33)):=Lib.hid (by
         rw [hTe]
         have:(appTm mulN (K.map litT)).kids.length=n:=by show (K.map litT).length=n;rw [List.length_map,HN.out]
         rw [this];exact HOB.out)
        have HTQ:Hid (TnW w6 (fun c=>w.heap.size≤c∧c≠rb) ua uc T):=Lib.hid (by rw [hTe];exact HT6.out)
        have HEQ:=HE6
        have HRQ:=HRB6
        clear hT hTe hn2
        have HVL:Hid (validT T=0∧sizeT T≤17):=Lib.hid (by rw [HTK.out];exact ⟨exp_valid HK6.out (by rw [←HN.out];exact HN8.out),(exp_err HK6.out (by rw [←HN.out];exact HN8.out)).2.1⟩)
        have y0:w6.cell? ⟨ob,0,none⟩=some (.int .i64 T.kind):=by rw [cellc HOQ.out];rfl
        have y1:w6.cell? ⟨ob,1,none⟩=some (.string T.name):=by rw [cellc HOQ.out];rfl
        have y2:w6.cell? ⟨ob,2,none⟩=some (.int .i64 T.sort):=by rw [cellc HOQ.out];rfl
        have y3:w6.cell? ⟨ob,3,none⟩=some (.slice ua T.kids.length uc):=by rw [cellc HOQ.out];rfl
        have HVA:=Lib.hid (PValid_any (w:=w6) (t:=T) (by have:=HVL.out.2;omega) HTQ.out.tm)
        rw [HVL.out.1] at HVA
        go_upto_region 28 with fail
        go_wp2_with fail
        refine HVA.out.mono ?_
        rintro e w8 ⟨rfl,hE8⟩
        have HE8:=Lib.hid (HEQ.out.trans hE8)
        have HT8:=Lib.hid (HTQ.out.ext hE8)
        have HRB8:=Lib.hid (hs_ext hE8 HRQ.out)
        obtain ⟨y0,y1,y2,y3⟩:=cs_e4 hE8 ⟨y0,y1,y2,y3⟩
        clear hE8
        go_wp2_with (refine wpList_storeT rfl (.tmp 2) (.tmp 85) rfl (g:=rb) rfl (k:=T.kind) (s:=T.sort) (n:=T.name) (ka:=ua) (kl:=T.kids.length) (kc:=uc) rfl HRB8.out rfl ?_)
        intro w9 h9 hoth hE9 hs9
        go_wp2_with fail
        exact ret_term2 (g:=rb) rfl rfl h9 rfl (HFE.out _ (hE9 w HE8.out hRS.1) _ (by rw [←HTK.out];exact ⟨ua,uc,rfl,HT8.out.keep (fun c hc _=>hoth c hc.2) (fun c hc _=>hc.1)⟩))
    · have d1:(8:Int)<(n:Int):=by omega
      go_wp2_with (refine wpList_storeT rfl (.tmp 2) (.tmp 66) rfl (g:=rb) rfl (k:=0) (s:=0) (n:=⟨#[]⟩) (ka:=none) (kl:=0) (kc:=0) rfl HRB1.out rfl ?_)
      intro w9 h9 hoth hE9 hs9
      go_wp2_with fail
      exact ret_term2 (g:=rb) rfl rfl h9 rfl (.inr ⟨by rw [←HKK.out,←HN.out];omega,rfl,hE9 w HE4.out hRS.1⟩)

theorem PMul_any {w:World} {S S':Nat→Prop} {a b:Option Addr} {ac bc:Nat} {A B:List Pw} (hA:LsG elPw w S (.slice a A.length ac) A) (hB:LsG elPw w S' (.slice b B.length bc) B) (gA:Good A) (gB:Good B) (rA:Rng 1000 A) (rB:Rng 1000 B) :
 Calls Tryz.prog 122 #[.slice a A.length ac,.slice b B.length bc] w (PwR w (mulP A B)):=by
 have hla:=gA.len
 have hlb:=gB.len
 have HVA:=Lib.hid (PValidP_any hA gA rA)
 have HVB:=Lib.hid (fun (w':World) (hE:Ext w w')=>PValidP_any (hB.ext hE) gB rB)
 have HCP:=Lib.hid (fun (w':World) (hE:Ext w w')=>copied_any (hA.ext hE) (by omega))
 have HB:=Lib.hid hB
 have HG:=Lib.hid (fun q=>mul_rng (q:=q) gA gB rA rB)
 have HRB:=Lib.hid rB
 clear hA hB gA gB rA rB
 go_enter Tryz.func122,Tryz.ntmps122
 go_wp2_with fail
 refine HVA.out.mono ?_
 rintro e w1 ⟨rfl,hE1⟩
 have HE1:=Lib.hid hE1
 clear hE1
 go_wp2_with fail
 refine (HVB.out _ HE1.out).mono ?_
 rintro e w2 ⟨rfl,hE2⟩
 have HE2:=Lib.hid (HE1.out.trans hE2)
 clear hE2
 go_wp2_with fail
 refine (HCP.out _ HE2.out).mono ?_
 rintro e w3 ⟨v,rfl,hE3,hO3⟩
 obtain ⟨va,vc,rfl,-,-⟩:=id hO3.slice
 obtain ⟨wb,hwb⟩:∃wb,wb=w2:=⟨_,rfl⟩
 rw [←hwb] at hO3 hE3 HE2
 have HX0:Hid (Ext wb w3∧OwnG elPw w3 wb.heap.size 66 (fun _=>False) (.slice va (mulP A (B.take 0)).length vc) (mulP A (B.take 0))):=Lib.hid ⟨hE3,hO3⟩
 clear hE3 hO3 hwb
 go_upto_region 9 with fail
 go_loopw [8,10,25] (fun ov _ kv wr=>∃(q:Nat) (va:Option Addr) (vc:Nat),ov=.slice va (mulP A (B.take q)).length vc∧kv=.int .i64 q∧q≤B.length∧Hid (Ext wb wr∧OwnG elPw wr wb.heap.size 66 (fun _=>False) (.slice va (mulP A (B.take q)).length vc) (mulP A (B.take q)))) (fun _ _ kv _=>B.length-(intOf kv).toNat)
 case atStart=>exact ⟨0,va,vc,rfl,rfl,by omega,HX0⟩
 case round =>
  clear HX0
  obtain ⟨q,va,vc,rfl,rfl,hq,HX⟩:=hrel
  by_cases hlt:q<B.length
  · have hqz:(q:Int)<(B.length:Int):=by omega
    have hq0:(0:Int)≤(q:Int):=by omega
    have wq:IntKind.i64.wrap ((q:Int)+1)=((q+1:Nat):Int):=by rw [IntKind.wrap_i64];omega
    obtain ⟨x,hx⟩:∃x,B[q]?=some x:=⟨_,List.getElem?_eq_getElem hlt⟩
    obtain ⟨b2,off,rfl,hbl,p0,p1,p2,p3,p4,hx6,hI⟩:=pwAt (HB.out.ext (HE2.out.trans HX.out.1)) hx
    have hxr:=HRB.out x (List.mem_of_getElem? hx)
    have hgr:=HG.out q
    have HN:=Lib.hid (mulP_take (A:=A) hx)
    obtain ⟨pb,w4,hpb,hw4,HPB,hE4⟩:=box_new wr (.cells #[.int .i64 2,.string (ltr x.1),.int .i64 2,.slice none 0 0,.int .i64 x.2] 66)
    have HIN:=Lib.hid (pinsert_any (HX.out.2.ext hE4) (by have:=HX.out.1.size;have:=hE4.size;omega) hgr.1 hgr.2 hx6 hxr)
    have HE4:=Lib.hid (HX.out.1.trans hE4)
    have HLT:=Lib.hid HX.out.2.lt
    have z0:w4.cell? ⟨pb,0,none⟩=some (.int .i64 2):=by rw [cellc HPB.out];rfl
    have z1:w4.cell? ⟨pb,1,none⟩=some (.string (ltr x.1)):=by rw [cellc HPB.out];rfl
    have z2:w4.cell? ⟨pb,2,none⟩=some (.int .i64 2):=by rw [cellc HPB.out];rfl
    have z3:w4.cell? ⟨pb,3,none⟩=some (.slice none 0 0):=by rw [cellc HPB.out];rfl
    have z4:w4.cell? ⟨pb,4,none⟩=some (.int .i64 x.2):=by rw [cellc HPB.out];rfl
    clear hx hx6 hI hxr hgr hE4
    go_upto_region 11 with fail
    rw [←hw4,←hpb]
    clear hw4 hpb p0 p1 p2 p3 p4
    go_wp2_with fail
    refine HIN.out.mono ?_
    rintro e w5 ⟨v',rfl,hg5,hO5⟩
    rw [←HN.out] at hO5
    obtain ⟨va5,vc5,rfl,-,-⟩:=id hO5.slice
    have HX5:Hid (Ext wb w5∧_):=Lib.hid ⟨HE4.out.grown hg5 (fun c hc=>(HLT.out c hc).1),hO5⟩
    clear hg5 hO5 z0 z1 z2 z3 z4
    go_wp2_with fail
    go_roundw
    case rel=>exact ⟨q+1,va5,vc5,rfl,rfl,by omega,HX5⟩
    case measure=>simp [intOf];omega
  · have hqz:¬(q:Int)<(B.length:Int):=by omega
    obtain ⟨M,hM⟩:∃M,M=mulP A (B.take q):=⟨_,rfl⟩
    have hgl:=(HG.out q).1.len
    have hX:=HX.out
    rw [←hM] at hX hgl
    have HMM:Hid (M=mulP A B):=Lib.hid (by rw [hM,List.take_of_length_le (by omega)])
    have HRS:=Lib.hid (presult_any hX.2.any (by omega))
    have HEX:=Lib.hid (HE2.out.trans hX.1)
    rw [←hM]
    clear hM hX HX
    go_wp2_with fail
    refine HRS.out.mono ?_
    rintro e w6 ⟨hE6,⟨hr,a6,c6,rfl,hL6⟩ | ⟨hr,rfl⟩⟩
    · have HF6:Hid (PwR w (mulP A B) (.returned (.tuple #[.slice a6 M.length c6,.int .i64 0])) w6):=Lib.hid (by rw [←HMM.out];exact ⟨HEX.out.trans hE6,.inl ⟨hr,a6,c6,rfl,hL6⟩⟩)
      clear hE6 hr hL6
      go_wp2_with fail
      go_ret2
      exact HF6.out
    · have HF6:Hid (PwR w (mulP A B) (.returned (.tuple #[.slice none 0 0,.int .i64 7])) w6):=Lib.hid (by rw [←HMM.out];exact ⟨HEX.out.trans hE6,.inr ⟨hr,rfl⟩⟩)
      clear hE6 hr
      go_wp2_with fail
      go_ret2
      exact HF6.out
end Go.Proofs.YtclijngnoepbiaaGreat
