/- Contract: sealringref06.operands. -/
import Derived.Test.YtclijngnoepbiaaGreatPv8
set_option maxRecDepth 100000
set_option maxHeartbeats 8000000
namespace Go.Proofs.YtclijngnoepbiaaGreat
open Go Go.RowKit
set_option linter.unusedVariables false
set_option linter.unusedSimpArgs false

/-- the row of operands under way -/
structure OpI (w wr:World) (out:Value) (X:List Lit):Prop where
 ext:Ext w wr
 own:OwnG elN wr w.heap.size 33 (fun c=>w.heap.size≤c∧c<wr.heap.size∧out.ownBlock≠some c) out ((X.take 9).map litT)
theorem OpI.next {w wr w':World} {out:Value} {X:List Lit} (h:OpI w wr out X) (hE:Ext wr w'):OpI w w' out X :=
 ⟨h.ext.trans hE,(h.own.ext hE).wide (fun c hc _=>⟨hc.1,Nat.lt_of_lt_of_le hc.2.1 hE.size,hc.2.2⟩)⟩
theorem OpI.full {w wr:World} {out:Value} {X:List Lit} (h:OpI w wr out X) (hX:9≤X.length) (Y:List Lit):OpI w wr out (X++Y) :=
 ⟨h.ext,by rw [List.take_append_of_le_length hX];exact h.own⟩
theorem OpI.put {w wz w8:World} {out v8:Value} {X:List Lit} {l:Lit} (h:OpI w wz out X) (hX:X.length<9) (o8:OwnG elN w8 w.heap.size 33 (fun c=>w.heap.size≤c∧c<wz.heap.size∧out.ownBlock≠some c) v8 ((X.take 9).map litT++[litT l])) (g8:wz.grownBy w8 out.ownBlock) (k8:v8.ownBlock=out.ownBlock∨v8.ownBlock=some wz.heap.size):OpI w w8 v8 (X++[l]):=by
 have e:((X++[l]).take 9).map litT=(X.take 9).map litT++[litT l]:=by
  rw [List.take_of_length_le (by rw [List.length_append,List.length_singleton];omega),List.take_of_length_le (by omega),List.map_append]
  rfl
 refine ⟨h.ext.grown g8 (fun c hc=>(h.own.lt c hc).1),?_⟩
 rw [e]
 exact o8.wide (fun c hc _=>⟨hc.1,Nat.lt_of_lt_of_le hc.2.1 g8.size,fun e=>by
  rcases k8 with k | k
  · rw [k] at e;exact hc.2.2 e
  · rw [k] at e;cases e;exact absurd hc.2.1 (Nat.lt_irrefl _)⟩)
theorem OpI.len {w wr:World} {va:Option Addr} {n vc:Nat} {X:List Lit} (h:OpI w wr (.slice va n vc) X):n=min 9 X.length∧n≤vc∧vc≤maxLen:=by
 obtain ⟨a,c,e,h1,h2⟩:=h.own.slice
 cases e
 rw [List.length_map,List.length_take] at h1
 exact ⟨by rw [List.length_map,List.length_take],by rw [List.length_map,List.length_take];exact h1,h2⟩
theorem operands_any {w:World} {S:Nat→Prop} {a:Option Addr} {cap:Nat} {P:List Pw} (hL:LsG elPw w S (.slice a P.length cap) P) (hG:Good P) (hR:Rng 1000 P) :
 Calls Tryz.prog 131 #[.slice a P.length cap] w fun e w'=>∃va n vc,e=.returned (.slice va n vc)∧OpI w w' (.slice va n vc) (litsP P):=by
 obtain ⟨-,hlc,hcm⟩:=hL.len
 have hl6:=hG.len
 have HL:=Lib.hid hL
 have HGR:=Lib.hid (And.intro hG hR)
 unfold maxLen at hcm
 clear hL hG hR
 go_enter Tryz.func131,Tryz.ntmps131
 go_wp2_with fail
 go_loopw [3,4,5] (fun ov iv _ wr=>∃(q:Nat) (va:Option Addr) (n vc:Nat),ov=.slice va n vc∧iv=.int .i64 q∧q≤P.length∧Hid (OpI w wr (.slice va n vc) (plL (P.take q)))) (fun _ iv _ _=>P.length-(intOf iv).toNat)
 case atStart=>exact ⟨0,_,_,_,rfl,rfl,by omega,Lib.hid ⟨Ext.refl _,OwnG.nil⟩⟩
 case round =>
  obtain ⟨q,va,n,vc,rfl,rfl,hq,HI⟩:=hrel
  by_cases hlt:q<P.length
  · have hqz:(q:Int)<(P.length:Int):=by omega
    have hq0:(0:Int)≤(q:Int):=by omega
    have wq:IntKind.i64.wrap ((q:Int)+1)=((q+1:Nat):Int):=by rw [IntKind.wrap_i64];omega
    obtain ⟨x,hx⟩:∃x,P[q]?=some x:=⟨_,List.getElem?_eq_getElem hlt⟩
    have HX:=Lib.hid hx
    have hxr:=HGR.out.2 x (List.mem_of_getElem? hx)
    have HI0:Hid (OpI w wr (.slice va n vc) (plL (P.take q)++List.replicate 0 (x.1,false))):=Lib.hid (by rw [List.replicate_zero,List.append_nil];exact HI.out)
    clear HI hx
    go_wp2_with fail
    go_loopw [3,5] (fun ov kv wr=>∃(r:Nat) (va:Option Addr) (n vc:Nat),ov=.slice va n vc∧kv=.int .i64 r∧r≤x.2.toNat∧Hid (OpI w wr (.slice va n vc) (plL (P.take q)++List.replicate r (x.1,false)))) (fun _ kv _=>x.2.toNat-(intOf kv).toNat)
    case atStart=>exact ⟨0,va,n,vc,rfl,rfl,by omega,HI0⟩
    case round =>
     clear HI0
     obtain ⟨r,va,n,vc,rfl,rfl,hr,HI⟩:=hrel
     obtain ⟨hn,hnc,hvc⟩:=HI.out.len
     obtain ⟨xl,hxl⟩:∃xl,xl=(plL (P.take q)++List.replicate r (x.1,false)).length:=⟨_,rfl⟩
     rw [←hxl] at hn
     have HN:=Lib.hid hn
     have hn9b:n≤9:=by omega
     clear hn
     have HXL:=Lib.hid hxl
     obtain ⟨b2,off,rfl,hbl,p0,p1,p2,p3,p4,hx6,hIx⟩:=pwAt (HL.out.ext HI.out.ext) HX.out
     have wr1:IntKind.i64.wrap ((r:Int)+1)=((r+1:Nat):Int):=by rw [IntKind.wrap_i64];omega
     unfold maxLen at hvc
     clear hxl hbl
     by_cases hrx:(r:Int)<x.2
     · by_cases hn9:n<9
       · have hn9z:(n:Int)<9:=by omega
         obtain ⟨lb,w7,hlb,hw7,HLB,hE7⟩:=box_new wr (.cells #[.int .i64 2,.string (ltr x.1),.int .i64 2,.slice none 0 0] 33)
         have HI7:=Lib.hid (HI.out.next hE7)
         have hO7:=HI7.out.own
         have hone:LsE elN w7 (fun c=>w.heap.size≤c∧c<w7.heap.size∧(Value.slice va n vc).ownBlock≠some c) (.slice (some ⟨lb,0,none⟩) 1 1) [litT (x.1,false)]:=tn_e (t:=litT (x.1,false)) (a:=none) (cap:=0) HLB.out atm_tn
         have hsz:w.heap.size≤w7.heap.size:=HI7.out.ext.size
         have hml:(((plL (P.take q)++List.replicate r (x.1,false)).take 9).map litT).length≤1000:=by rw [List.length_map,List.length_take];omega
         have hX9:Hid ((plL (P.take q)++List.replicate r (x.1,false)).length<9):=Lib.hid (by have:=HN.out;rw [←HXL.out];omega)
         clear hE7
         go_wp2_with (
          at_builtin
          rw [←hw7,←hlb]
          refine wpList_appG (E:=elN) (T:=33) rfl 31 (.tmp 28) (.tmp 34) rfl rfl rfl Tryz.underlying31 infTm rfl (by decide) (by decide) hO7 hsz (fun c h=>h.2.2) (by omega) (M:=[litT (x.1,false)]) (by simp) hone ?_
          intro v8 w8 o8 g8 k8
          obtain ⟨va8,vc8,hv8,-,-⟩:=id o8.slice
          obtain ⟨n8,hn8⟩:∃n8,n8=(((plL (P.take q)++List.replicate r (x.1,false)).take 9).map litT++[litT (x.1,false)]).length:=⟨_,rfl⟩
          rw [←hn8] at hv8
          rw [hv8] at o8 k8 ⊢
          have HI8:Hid (OpI w w8 (.slice va8 n8 vc8) (plL (P.take q)++List.replicate (r+1) (x.1,false))):=Lib.hid (by
           rw [rep_next,←List.append_assoc]
           exact HI7.out.put hX9.out o8 g8 k8)
          clear o8 g8 k8 hO7 hone hv8 hn8 hw7 hlb)
         go_roundw
         case rel=>exact ⟨r+1,va8,n8,vc8,rfl,rfl,by omega,HI8⟩
         case measure=>simp [intOf];omega
       · have hn9z:¬(n:Int)<9:=by omega
         have HI6:Hid (OpI w wr (.slice va n vc) (plL (P.take (q+1)))):=Lib.hid (by
          rw [plL_next HX.out,show x.2.toNat=r+(x.2.toNat-r) by omega,←List.replicate_append_replicate,←List.append_assoc]
          exact HI.out.full (by have:=HN.out;rw [←HXL.out];omega) _)
         clear p0 p1 p2 p3
         go_wp2_with fail
         go_roundw
         case rel=>exact ⟨q+1,_,n,vc,rfl,rfl,by omega,HI6⟩
         case measure=>simp [intOf];omega
     · have HI6:Hid (OpI w wr (.slice va n vc) (plL (P.take (q+1)))):=Lib.hid (by
        rw [plL_next HX.out,show x.2.toNat=r by omega]
        exact HI.out)
       clear p0 p1 p2 p3
       go_wp2_with fail
       go_roundw
       case rel=>exact ⟨q+1,_,n,vc,rfl,rfl,by omega,HI6⟩
       case measure=>simp [intOf];omega
  · have hqz : ¬(q:Int)<(P.length:Int):=by omega
    have HI0:Hid (OpI w wr (.slice va n vc) (plL P++ngL (P.take 0))):=Lib.hid (by
     have h:=HI.out
     rw [List.take_of_length_le (by omega)] at h
     show OpI w wr _ (plL P++[])
     rw [List.append_nil]
     exact h)
    clear HI
    go_wp2_with fail
    go_loopw [3,6,7] (fun ov iv _ wr=>∃(q:Nat) (va:Option Addr) (n vc:Nat),ov=.slice va n vc∧iv=.int .i64 q∧q≤P.length∧Hid (OpI w wr (.slice va n vc) (plL P++ngL (P.take q)))) (fun _ iv _ _=>P.length-(intOf iv).toNat)
    case atStart=>exact ⟨0,_,_,_,rfl,rfl,by omega,HI0⟩
    case round =>
     clear HI0
     obtain ⟨q,va,n,vc,rfl,rfl,hq,HI⟩:=hrel
     by_cases hlt:q<P.length
     · have hqz:(q:Int)<(P.length:Int):=by omega
       have hq0:(0:Int)≤(q:Int):=by omega
       have wq:IntKind.i64.wrap ((q:Int)+1)=((q+1:Nat):Int):=by rw [IntKind.wrap_i64];omega
       obtain ⟨x,hx⟩:∃x,P[q]?=some x:=⟨_,List.getElem?_eq_getElem hlt⟩
       have HX:=Lib.hid hx
       have hxr:=HGR.out.2 x (List.mem_of_getElem? hx)
       have wx:IntKind.i64.wrap (-x.2)=-x.2:=by rw [IntKind.wrap_i64];omega
       have HI0:Hid (OpI w wr (.slice va n vc) (plL P++ngL (P.take q)++List.replicate 0 (x.1,true))):=Lib.hid (by rw [List.replicate_zero,List.append_nil];exact HI.out)
       clear HI hx
       go_wp2_with fail
       go_loopw [3,7] (fun ov kv wr=>∃(r:Nat) (va:Option Addr) (n vc:Nat),ov=.slice va n vc∧kv=.int .i64 r∧r≤(-x.2).toNat∧Hid (OpI w wr (.slice va n vc) (plL P++ngL (P.take q)++List.replicate r (x.1,true)))) (fun _ kv _=>(-x.2).toNat-(intOf kv).toNat)
       case atStart=>exact ⟨0,va,n,vc,rfl,rfl,by omega,HI0⟩
       case round =>
        clear HI0
        obtain ⟨r,va,n,vc,rfl,rfl,hr,HI⟩:=hrel
        obtain ⟨hn,hnc,hvc⟩:=HI.out.len
        obtain ⟨xl,hxl⟩:∃xl,xl=(plL P++ngL (P.take q)++List.replicate r (x.1,true)).length:=⟨_,rfl⟩
        rw [←hxl] at hn
        have HN:=Lib.hid hn
        have hn9b:n≤9:=by omega
        clear hn
        have HXL:=Lib.hid hxl
        obtain ⟨b2,off,rfl,hbl,p0,p1,p2,p3,p4,hx6,hIx⟩:=pwAt (HL.out.ext HI.out.ext) HX.out
        have wr1:IntKind.i64.wrap ((r:Int)+1)=((r+1:Nat):Int):=by rw [IntKind.wrap_i64];omega
        unfold maxLen at hvc
        clear hxl hbl
        by_cases hrx:(r:Int) < -x.2
        · by_cases hn9:n<9
          · have hn9z:(n:Int)<9:=by omega
            obtain ⟨kb,w5,hkb,hw5,HKB,hE5⟩:=box_new wr (.cells #[.int .i64 2,.string (ltr x.1),.int .i64 2,.slice none 0 0] 33)
            have HK5:Hid (wr.heap.size≤kb∧kb<w5.heap.size):=Lib.hid ⟨by rw [hkb];exact Nat.le_refl _,(Array.getElem?_eq_some_iff.1 HKB.out).1⟩
            have HAP:=Lib.hid (rappN (w:=w5) (S:=fun c=>c=kb) (n:=invN) (a:=some ⟨kb,0,none⟩) (cap:=1) (L:=[atmT x.1]) (by show 3≤maxLen;unfold maxLen;omega) (by simp) (tn_g (t:=litT (x.1,false)) HKB.out rfl atm_tn))
            unfold invN at HAP
            have HE5:=Lib.hid hE5
            clear hE5
            go_wp2_with fail
            rw [←hw5,←hkb]
            clear hw5 hkb
            refine HAP.out.mono ?_
            rintro e w6 ⟨u,rfl,hE6,na,nc,hu,hN6⟩
            have hu2:u=.agg #[.int .i64 3,.string ⟨#[105,110,118]⟩,.int .i64 0,.slice na 1 nc]:=hu
            clear hu
            subst hu2
            have hN6:TnW w6 (NewS (fun c=>c=kb) w5.heap.size) na nc (litT (x.1,true)):=hN6
            obtain ⟨lb,w7,hlb,hw7,HLB,hE7⟩:=box_new w6 (.cells #[.int .i64 3,.string ⟨#[105,110,118]⟩,.int .i64 0,.slice na 1 nc] 33)
            have HI7:=Lib.hid (HI.out.next (HE5.out.trans (hE6.trans hE7)))
            have hO7:=HI7.out.own
            have hT7:TnW w7 (fun c=>w.heap.size≤c∧c<w7.heap.size∧(Value.slice va n vc).ownBlock≠some c) na nc (litT (x.1,true)):=(hN6.ext hE7).wide (fun c hc hlt=>by
             have h5:=HK5.out
             have hs:=HI.out.ext.size
             have hcr:wr.heap.size≤c:=by
              rcases hc with h | h
              · omega
              · omega
             exact ⟨by omega,hlt,fun e=>by have:=(HI.out.own.lt _ e).2;omega⟩)
            have hone:LsE elN w7 (fun c=>w.heap.size≤c∧c<w7.heap.size∧(Value.slice va n vc).ownBlock≠some c) (.slice (some ⟨lb,0,none⟩) 1 1) [litT (x.1,true)]:=tn_e (t:=litT (x.1,true)) (a:=na) (cap:=nc) HLB.out hT7
            have hsz:w.heap.size≤w7.heap.size:=HI7.out.ext.size
            have hml:(((plL P++ngL (P.take q)++List.replicate r (x.1,true)).take 9).map litT).length≤1000:=by rw [List.length_map,List.length_take];omega
            have hX9:Hid ((plL P++ngL (P.take q)++List.replicate r (x.1,true)).length<9):=Lib.hid (by have:=HN.out;rw [←HXL.out];omega)
            clear hE6 hE7 hN6 hT7
            go_wp2_with (
             at_builtin
             rw [←hw7,←hlb]
             refine wpList_appG (E:=elN) (T:=33) rfl 31 (.tmp 57) (.tmp 65) rfl rfl rfl Tryz.underlying31 infTm rfl (by decide) (by decide) hO7 hsz (fun c h=>h.2.2) (by omega) (M:=[litT (x.1,true)]) (by simp) hone ?_
             intro v8 w8 o8 g8 k8
             obtain ⟨va8,vc8,hv8,-,-⟩:=id o8.slice
             obtain ⟨n8,hn8⟩:∃n8,n8=(((plL P++ngL (P.take q)++List.replicate r (x.1,true)).take 9).map litT++[litT (x.1,true)]).length:=⟨_,rfl⟩
             rw [←hn8] at hv8
             rw [hv8] at o8 k8 ⊢
             have HI8:Hid (OpI w w8 (.slice va8 n8 vc8) (plL P++ngL (P.take q)++List.replicate (r+1) (x.1,true))):=Lib.hid (by
              rw [rep_next,←List.append_assoc]
              exact HI7.out.put hX9.out o8 g8 k8)
             clear o8 g8 k8 hO7 hone hv8 hn8 hw7 hlb)
            go_roundw
            case rel=>exact ⟨r+1,va8,n8,vc8,rfl,rfl,by omega,HI8⟩
            case measure=>simp [intOf];omega
          · have hn9z:¬(n:Int)<9:=by omega
            have HI6:Hid (OpI w wr (.slice va n vc) (plL P++ngL (P.take (q+1)))):=Lib.hid (by
             rw [ngL_next HX.out,show (-x.2).toNat=r+((-x.2).toNat-r) by omega,←List.replicate_append_replicate,←List.append_assoc,←List.append_assoc]
             exact HI.out.full (by have:=HN.out;rw [←HXL.out];omega) _)
            clear p0 p1 p2 p3
            go_wp2_with fail
            go_roundw
            case rel=>exact ⟨q+1,_,n,vc,rfl,rfl,by omega,HI6⟩
            case measure=>simp [intOf];omega
        · have HI6:Hid (OpI w wr (.slice va n vc) (plL P++ngL (P.take (q+1)))):=Lib.hid (by
           rw [ngL_next HX.out,show (-x.2).toNat=r by omega,←List.append_assoc]
           exact HI.out)
          clear p0 p1 p2 p3
          go_wp2_with fail
          go_roundw
          case rel=>exact ⟨q+1,_,n,vc,rfl,rfl,by omega,HI6⟩
          case measure=>simp [intOf];omega
     · have hqz:¬(q:Int)<(P.length:Int):=by omega
       have HIF:Hid (OpI w wr (.slice va n vc) (litsP P)):=Lib.hid (by
        have h:=HI.out
        rw [List.take_of_length_le (by omega)] at h
        exact h)
       clear HI
       go_wp2_with fail
       go_ret
       exact ⟨va,n,vc,rfl,HIF.out⟩
end Go.Proofs.YtclijngnoepbiaaGreat
