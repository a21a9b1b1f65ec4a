/- Contract: sealringref01.App on terms whose atoms have no kids. Contracts: sealringref06.special, arity, collect on products of literals. Contracts: sealringref06.arity, collect, Of on products of literals. Contract: sealringref06.Of on products of literals. -/
import Derived.Test.YtclijngnoepbiaaGreatPv7
set_option maxRecDepth 100000
set_option maxHeartbeats 8000000
namespace Go.Proofs.YtclijngnoepbiaaGreat
open Go Go.RowKit
set_option linter.unusedVariables false
set_option linter.unusedSimpArgs false

theorem own_emptyN {w:World} {base:Nat} {S:Nat→Prop} (hb:base≤w.heap.size):OwnG elN (w.alloc (.cells #[] 33)) base 33 S (.slice (some ⟨w.heap.size,0,none⟩) 0 0) [] :=
 ⟨[],rfl,by simp,⟨by simp,.inr ⟨w.heap.size,0,#[],rfl,hb,hs_new,Nat.le_refl _,by unfold maxLen;omega,by simp,by simp⟩⟩⟩
theorem rappN {w:World} {S:Nat→Prop} {n:ByteArray} {a:Option Addr} {cap:Nat} {L:List Tm} (hn:n.size≤maxLen) (hll:L.length≤100000) (hL:LsG elN w S (.slice a L.length cap) L) :
 Calls Tryz.prog 10 #[.string n,.slice a L.length cap] w fun e w'=>∃u,e=.returned u∧Ext w w'∧IsN w' (NewS S w.heap.size) u (appTm n L):=by
 obtain ⟨w1,hw1⟩:∃w1,w1=w.alloc (.cells #[.int .i64 0,.string ⟨#[]⟩,.int .i64 0,.slice none 0 0] 33):=⟨_,rfl⟩
 have hE1:Ext w w1:=by rw [hw1];exact Ext.alloc _ _
 have hg:w1.heap[w.heap.size]?=some (.cells #[.int .i64 0,.string ⟨#[]⟩,.int .i64 0,.slice none 0 0] 33):=by rw [hw1];exact hs_new
 obtain ⟨g,hgg⟩:∃g,g=w.heap.size:=⟨_,rfl⟩
 rw [←hgg] at hg
 have hsz:w1.heap.size≤(w1.alloc (.cells #[] 33)).heap.size:=by simp
 have hO0:OwnG elN (w1.alloc (.cells #[] 33)) w1.heap.size 33 (fun c=>S c∧c<w.heap.size) (.slice (some ⟨w1.heap.size,0,none⟩) 0 0) []:=own_emptyN (Nat.le_refl _)
 have hoff:∀c,(S c∧c<w.heap.size)→(Value.slice (some ⟨w1.heap.size,0,none⟩) 0 0).ownBlock≠some c:=fun c hc e=>by
  have h:=(hO0.lt c e).1
  have:=hE1.size
  omega
 have hL0:=(((hL.keep (S':=fun c=>S c∧c<w.heap.size) (fun _ _ _=>rfl) (fun c h1 h2=>⟨h1,h2⟩) (Nat.le_refl _)).ext hE1).ext (Ext.alloc w1 (.cells #[] 33))).e
 have HG:=Lib.hid hg
 have HE1:=Lib.hid hE1
 have HFIN:Hid (∀v5 w5,OwnG elN w5 w1.heap.size 33 (fun c=>S c∧c<w.heap.size) v5 ([]++L)→∃va vc,v5=.slice va L.length vc∧TnW w5 (fun c=>c≠g∧NewS S w.heap.size c) va vc (appTm n L)):=Lib.hid (fun v5 w5 o5=>by
  have hlt:=o5.lt
  obtain ⟨va,vc,hv,hlc,hcm⟩:=o5.slice
  subst hv
  refine ⟨va,vc,rfl,tn_app hn (o5.ls (S':=fun c=>c≠g∧NewS S w.heap.size c) (fun c hc _=>⟨by omega,.inl hc.1⟩) (fun b _ h1 _=>?_))⟩
  have h2:=(Array.getElem?_eq_some_iff.1 hg).1
  have h3:=HE1.out.size
  exact ⟨by omega,.inr (by omega)⟩)
 clear hL hg hE1
 go_enter Tryz.func10,Tryz.ntmps10
 go_upto_region 1 with fail
 rw [←hw1,←hgg]
 have HGG:=Lib.hid hgg
 clear hw1 hgg
 go_wp2_with (first
  | (at_builtin;(refine wpList_appG (E:=elN) (T:=33) rfl 31 (.tmp 6) (.tmp 7) rfl rfl rfl Tryz.underlying31 infTm rfl (by decide) (by decide) hO0 hsz hoff (by simp) (M:=L) (by omega) hL0 ?_);intro v5 w5 o5 g5 k5
     have HE5:Hid (Ext w1 w5):=Lib.hid ((Ext.alloc w1 _).grown g5 (fun c hc=>(hO0.lt c hc).1))
     have HH:=HFIN.out v5 w5 o5
     obtain ⟨va,vc,hv,hT5⟩:=HH
     have HT5:=Lib.hid hT5
     subst hv
     have HG5:=Lib.hid (hs_ext HE5.out HG.out)
     clear o5 g5 k5 hO0 hL0 hoff hT5)
  | (refine wpList_buildT rfl [_,_,_] rfl [(0,.int .i64 3),(1,.string n),(3,.slice va L.length vc)] rfl (built_kn _ _ _ _ _) ?_)
  | ((refine wpList_storeT rfl (.tmp 4) (.tmp 9) rfl (g:=g) rfl (k:=3) (s:=0) (n:=n) (ka:=va) (kl:=L.length) (kc:=vc) rfl HG5.out rfl ?_);intro w6 c6 q6 e6 z6
     have HG6:=Lib.hid c6
     have HE6:=Lib.hid (e6 w (HE1.out.trans HE5.out) (Nat.le_of_eq HGG.out.symm))
     have HT6:=Lib.hid (HT5.out.keep (w':=w6) (fun c hc hlt=>q6 c hc.1) (fun _ h _=>h.2):TnW w6 (NewS S w.heap.size) va vc (appTm n L))
     clear c6 q6 e6 z6))
 refine ret_term (g:=g) rfl rfl HG6.out rfl ⟨_,rfl,HE6.out,va,vc,rfl,HT6.out⟩

theorem special_app {w:World} {n:ByteArray} {a:Option Addr} {k c:Nat} (hn:n=invN∨n=mulN∨n=oneN):Calls Tryz.prog 90 #[.agg #[.int .i64 3,.string n,.int .i64 0,.slice a k c]] w fun e w'=>e=.returned (.bool true)∧Ext w w':=by
 obtain ⟨bx,w1,hbx,hw1,HX,hE1⟩:=box_new w (.cells #[.int .i64 3,.string n,.int .i64 0,.slice a k c] 33)
 have x0:w1.cell? ⟨bx,0,none⟩=some (.int .i64 3):=by rw [cellc HX.out];rfl
 have x1:w1.cell? ⟨bx,1,none⟩=some (.string n):=by rw [cellc HX.out];rfl
 have HE1:=Lib.hid hE1
 clear hE1
 rcases hn with rfl | rfl | rfl
 all_goals
  try unfold invN at *
  try unfold mulN at *
  try unfold oneN at *
  go_enter Tryz.func90,Tryz.ntmps90
  go_upto_region 1 with fail
  rw [←hw1,←hbx]
  clear hw1 hbx
  go_wp2_with fail
  go_ret
  exact ⟨rfl,HE1.out⟩
theorem ArB.name {n:ByteArray} {l:Nat} (hA:ArB n l):n=invN∨n=mulN∨n=oneN:=by
 rcases hA with ⟨h,-⟩ | ⟨h,-⟩ | ⟨h,-⟩
 · exact .inl h
 · exact .inr (.inl h)
 · exact .inr (.inr h)
theorem arity_atm {w:World} {i:Nat}:Calls Tryz.prog 129 #[atmV i] w fun e w'=>e=.returned (.bool true)∧Ext w w':=by
 have HSP:=Lib.hid (fun (w':World)=>special_atm (w:=w') (i:=i))
 unfold atmV at *
 obtain ⟨bx,w1,hbx,hw1,HX,hE1⟩:=box_new w (.cells #[.int .i64 2,.string (ltr i),.int .i64 2,.slice none 0 0] 33)
 obtain ⟨b0,b1,b2,b3⟩:=box4r HX.out
 have HE1:=Lib.hid hE1
 clear hE1
 go_enter Tryz.func129,Tryz.ntmps129
 go_upto_region 1 with fail
 rw [←hw1,←hbx]
 clear hw1 hbx
 go_wp2_with fail
 refine (HSP.out _).mono ?_
 rintro e w2 ⟨rfl,hE2⟩
 have HE2:=Lib.hid (HE1.out.trans hE2)
 clear hE2
 go_wp2_with fail
 go_ret
 exact ⟨rfl,HE2.out⟩
theorem arity_node {w:World} {S:Nat→Prop} {a:Option Addr} {cap l:Nat} {n:ByteArray} {ks:List Tm} (hl:ks.length=l) (hA:ArB n l) (h8:l≤8) (hT:TnW w S a cap (appTm n ks))
 (hK:∀k∈ks,∀(w':World) (ka:Option Addr) (kc:Nat),TnW w' S ka kc k→Calls Tryz.prog 129 #[.agg #[.int .i64 k.kind,.string k.name,.int .i64 k.sort,.slice ka k.kids.length kc]] w' fun e w''=>e=.returned (.bool true)∧Ext w' w'') :
 Calls Tryz.prog 129 #[.agg #[.int .i64 3,.string n,.int .i64 0,.slice a l cap]] w fun e w'=>e=.returned (.bool true)∧Ext w w':=by
 obtain ⟨bx,w1,hbx,hw1,HB,hE1⟩:=box_new w (.cells #[.int .i64 3,.string n,.int .i64 0,.slice a l cap] 33)
 obtain ⟨b0,b1,b2,b3⟩:=box4r HB.out
 have HE1:=Lib.hid hE1
 have HT:=Lib.hid (hT.ext hE1)
 have HSP:=Lib.hid (special_app (w:=w1) (n:=n) (a:=a) (k:=l) (c:=cap) hA.name)
 have HKC:=Lib.hid hK
 have HLL:=Lib.hid hl
 have hcm:=hT.cap
 have hcl2:l≤cap:=hl ▸ hT.len
 have e1:=tlN_eq n invN
 have e2:=tlN_eq n mulN
 have e3:=tlN_eq n oneN
 have hne:invN≠mulN∧invN≠oneN∧mulN≠oneN∧mulN≠invN∧oneN≠invN∧oneN≠mulN:=by decide
 unfold maxLen at hcm
 clear hE1 hT hK hl
 rcases hA with ⟨hn,h1⟩ | ⟨hn,h1⟩ | ⟨hn,h1⟩
 · have e1:(n.toList==[105,110,118])=true:=by rw [show ([105,110,118]:List UInt8)=invN.toList by decide +kernel,e1,hn];simp
   have e2:(n.toList==[109,117,108])=false:=by rw [show ([109,117,108]:List UInt8)=mulN.toList by decide +kernel,e2,hn];simp [hne]
   have e3:(n.toList==[111,110,101])=false:=by rw [show ([111,110,101]:List UInt8)=oneN.toList by decide +kernel,e3,hn];simp [hne]
   have f1:((l:Int)==(1:Int))=true:=beq_iff_eq.2 (by omega)
   have f2:((l:Int) != (1:Int))=false:=by rw [bne,f1];rfl
   clear hne hn h1
   go_enter Tryz.func129,Tryz.ntmps129
   go_upto_region 1 with fail
   rw [←hw1,←hbx]
   clear hw1 hbx
   go_wp2_with fail
   refine HSP.out.mono ?_
   rintro e w2 ⟨rfl,hE2⟩
   obtain ⟨b0,b1,b2,b3⟩:=cs_e4 hE2 ⟨b0,b1,b2,b3⟩
   have HE2:=Lib.hid (HE1.out.trans hE2)
   have HT2:=Lib.hid (HT.out.ext hE2)
   have HB2:=Lib.hid (hs_ext hE2 HB.out)
   clear hE2
   go_wp2_with fail
   clear b0 b1 b2 b3
   go_loopw [4] (fun kv wr=>∃k:Nat,kv=.int .i64 k∧k≤l∧Hid (Ext w2 wr)) (fun kv _=>l-(intOf kv).toNat)
   case atStart=>exact ⟨0,rfl,by omega,Lib.hid (Ext.refl _)⟩
   case round =>
    obtain ⟨k,rfl,hk,HE⟩:=hrel
    by_cases hlt:k<l
    · obtain ⟨y,hy⟩:∃y,ks[k]?=some y:=⟨_,List.getElem?_eq_getElem (by rw [HLL.out];exact hlt)⟩
      obtain ⟨kb,ko,ka,kc,rfl,-,-,z0,z1,z2,z3,hTy⟩:=(HT2.out.ext HE.out).kid (i:=k) (k:=y) hy
      obtain ⟨b0,b1,b2,b3⟩:=box4r (hs_ext HE.out HB2.out)
      have hki:(k:Int)<(l:Int):=by omega
      have hk0:(0:Int)≤(k:Int):=by omega
      have wk:IntKind.i64.wrap ((k:Int)+1)=((k+1:Nat):Int):=by rw [IntKind.wrap_i64];omega
      have HC:=Lib.hid (HKC.out y (List.mem_of_getElem? hy) wr ka kc hTy)
      clear hy hTy
      go_wp2_with fail
      refine HC.out.mono ?_
      rintro e w5 ⟨rfl,hE5⟩
      have HE5:=Lib.hid (HE.out.trans hE5)
      clear hE5
      go_wp2_with fail
      go_roundw
      case rel=>exact ⟨k+1,rfl,by omega,HE5⟩
      case measure=>simp [intOf];omega
    · have hki:¬(k:Int)<(l:Int):=by omega
      go_wp2_with fail
      go_ret
      exact ⟨rfl,HE2.out.trans HE.out⟩
 · have e1:(n.toList==[105,110,118])=false:=by rw [show ([105,110,118]:List UInt8)=invN.toList by decide +kernel,e1,hn];simp [hne]
   have e2:(n.toList==[109,117,108])=true:=by rw [show ([109,117,108]:List UInt8)=mulN.toList by decide +kernel,e2,hn];simp
   have e3:(n.toList==[111,110,101])=false:=by rw [show ([111,110,101]:List UInt8)=oneN.toList by decide +kernel,e3,hn];simp [hne]
   have f1:¬(l:Int)<2:=by omega
   clear hne hn h1
   go_enter Tryz.func129,Tryz.ntmps129
   go_upto_region 1 with fail
   rw [←hw1,←hbx]
   clear hw1 hbx
   go_wp2_with fail
   refine HSP.out.mono ?_
   rintro e w2 ⟨rfl,hE2⟩
   obtain ⟨b0,b1,b2,b3⟩:=cs_e4 hE2 ⟨b0,b1,b2,b3⟩
   have HE2:=Lib.hid (HE1.out.trans hE2)
   have HT2:=Lib.hid (HT.out.ext hE2)
   have HB2:=Lib.hid (hs_ext hE2 HB.out)
   clear hE2
   go_wp2_with fail
   clear b0 b1 b2 b3
   go_loopw [4] (fun kv wr=>∃k:Nat,kv=.int .i64 k∧k≤l∧Hid (Ext w2 wr)) (fun kv _=>l-(intOf kv).toNat)
   case atStart=>exact ⟨0,rfl,by omega,Lib.hid (Ext.refl _)⟩
   case round =>
    obtain ⟨k,rfl,hk,HE⟩:=hrel
    by_cases hlt:k<l
    · obtain ⟨y,hy⟩:∃y,ks[k]?=some y:=⟨_,List.getElem?_eq_getElem (by rw [HLL.out];exact hlt)⟩
      obtain ⟨kb,ko,ka,kc,rfl,-,-,z0,z1,z2,z3,hTy⟩:=(HT2.out.ext HE.out).kid (i:=k) (k:=y) hy
      obtain ⟨b0,b1,b2,b3⟩:=box4r (hs_ext HE.out HB2.out)
      have hki:(k:Int)<(l:Int):=by omega
      have hk0:(0:Int)≤(k:Int):=by omega
      have wk:IntKind.i64.wrap ((k:Int)+1)=((k+1:Nat):Int):=by rw [IntKind.wrap_i64];omega
      have HC:=Lib.hid (HKC.out y (List.mem_of_getElem? hy) wr ka kc hTy)
      clear hy hTy
      go_wp2_with fail
      refine HC.out.mono ?_
      rintro e w5 ⟨rfl,hE5⟩
      have HE5:=Lib.hid (HE.out.trans hE5)
      clear hE5
      go_wp2_with fail
      go_roundw
      case rel=>exact ⟨k+1,rfl,by omega,HE5⟩
      case measure=>simp [intOf];omega
    · have hki:¬(k:Int)<(l:Int):=by omega
      go_wp2_with fail
      go_ret
      exact ⟨rfl,HE2.out.trans HE.out⟩
 · have e1:(n.toList==[105,110,118])=false:=by rw [show ([105,110,118]:List UInt8)=invN.toList by decide +kernel,e1,hn];simp [hne]
   have e2:(n.toList==[109,117,108])=false:=by rw [show ([109,117,108]:List UInt8)=mulN.toList by decide +kernel,e2,hn];simp [hne]
   have e3:(n.toList==[111,110,101])=true:=by rw [show ([111,110,101]:List UInt8)=oneN.toList by decide +kernel,e3,hn];simp
   have f1:((l:Int)==(0:Int))=true:=beq_iff_eq.2 (by omega)
   have f2:((l:Int) != (0:Int))=false:=by rw [bne,f1];rfl
   clear hne hn h1
   go_enter Tryz.func129,Tryz.ntmps129
   go_upto_region 1 with fail
   rw [←hw1,←hbx]
   clear hw1 hbx
   go_wp2_with fail
   refine HSP.out.mono ?_
   rintro e w2 ⟨rfl,hE2⟩
   obtain ⟨b0,b1,b2,b3⟩:=cs_e4 hE2 ⟨b0,b1,b2,b3⟩
   have HE2:=Lib.hid (HE1.out.trans hE2)
   have HT2:=Lib.hid (HT.out.ext hE2)
   have HB2:=Lib.hid (hs_ext hE2 HB.out)
   clear hE2
   go_wp2_with fail
   clear b0 b1 b2 b3
   go_loopw [4] (fun kv wr=>∃k:Nat,kv=.int .i64 k∧k≤l∧Hid (Ext w2 wr)) (fun kv _=>l-(intOf kv).toNat)
   case atStart=>exact ⟨0,rfl,by omega,Lib.hid (Ext.refl _)⟩
   case round =>
    obtain ⟨k,rfl,hk,HE⟩:=hrel
    by_cases hlt:k<l
    · obtain ⟨y,hy⟩:∃y,ks[k]?=some y:=⟨_,List.getElem?_eq_getElem (by rw [HLL.out];exact hlt)⟩
      obtain ⟨kb,ko,ka,kc,rfl,-,-,z0,z1,z2,z3,hTy⟩:=(HT2.out.ext HE.out).kid (i:=k) (k:=y) hy
      obtain ⟨b0,b1,b2,b3⟩:=box4r (hs_ext HE.out HB2.out)
      have hki:(k:Int)<(l:Int):=by omega
      have hk0:(0:Int)≤(k:Int):=by omega
      have wk:IntKind.i64.wrap ((k:Int)+1)=((k+1:Nat):Int):=by rw [IntKind.wrap_i64];omega
      have HC:=Lib.hid (HKC.out y (List.mem_of_getElem? hy) wr ka kc hTy)
      clear hy hTy
      go_wp2_with fail
      refine HC.out.mono ?_
      rintro e w5 ⟨rfl,hE5⟩
      have HE5:=Lib.hid (HE.out.trans hE5)
      clear hE5
      go_wp2_with fail
      go_roundw
      case rel=>exact ⟨k+1,rfl,by omega,HE5⟩
      case measure=>simp [intOf];omega
    · have hki:¬(k:Int)<(l:Int):=by omega
      go_wp2_with fail
      go_ret
      exact ⟨rfl,HE2.out.trans HE.out⟩

theorem arity_lit {w:World} {S:Nat→Prop} {a:Option Addr} {cap:Nat} {l:Lit} (hT:TnW w S a cap (litT l)):Calls Tryz.prog 129 #[.agg #[.int .i64 (litT l).kind,.string (litT l).name,.int .i64 (litT l).sort,.slice a (litT l).kids.length cap]] w fun e w'=>e=.returned (.bool true)∧Ext w w':=by
 obtain ⟨i,b⟩:=l
 cases b with
 | false =>
   obtain ⟨rfl,rfl⟩:=hT.nil rfl
   exact arity_atm
 | true =>
   refine arity_node (n:=invN) (ks:=[atmT i]) (l:=1) rfl (.inl ⟨rfl,rfl⟩) (by omega) hT (fun k hk w' ka kc hk'=>?_)
   rw [List.mem_singleton.1 hk] at hk' ⊢
   obtain ⟨rfl,rfl⟩:=hk'.nil rfl
   exact arity_atm
theorem arity_exp {w:World} {S:Nat→Prop} {a:Option Addr} {cap:Nat} {ls:List Lit} (h8:ls.length≤8) (hT:TnW w S a cap (expT ls)):Calls Tryz.prog 129 #[.agg #[.int .i64 (expT ls).kind,.string (expT ls).name,.int .i64 (expT ls).sort,.slice a (expT ls).kids.length cap]] w fun e w'=>e=.returned (.bool true)∧Ext w w':=by
 match ls,h8,hT with
 | [],_,hT=>exact arity_node (n:=oneN) (ks:=[]) (l:=0) rfl (.inr (.inr ⟨rfl,rfl⟩)) (by omega) hT (fun k hk=>by simp at hk)
 | [l],_,hT=>exact arity_lit hT
 | l :: l' :: ls,h8,hT =>
   have hk:(appTm mulN ((l :: l' :: ls).map litT)).kids.length=(l :: l' :: ls).length:=by show ((l :: l' :: ls).map litT).length=_;rw [List.length_map]
   have h:=arity_node (n:=mulN) (ks:=(l :: l' :: ls).map litT) (l:=(l :: l' :: ls).length) (by rw [List.length_map]) (.inr (.inl ⟨rfl,by simp⟩)) h8 hT (fun k hk w' ka kc hk'=>by
    obtain ⟨y,-,rfl⟩:=List.mem_map.1 hk
    exact arity_lit hk')
   show Calls Tryz.prog 129 #[.agg #[.int .i64 3,.string mulN,.int .i64 0,.slice a (appTm mulN ((l :: l' :: ls).map litT)).kids.length cap]] w _
   rw [hk]
   exact h
def ColX (w:World) (L:List Pw) (e:Ending) (w':World):Prop:=∃a c,e=.returned (.slice a L.length c)∧Ext w w'∧LsG elPw w' (fun _=>True) (.slice a L.length c) L
theorem rcollect_atm {w:World} {va:Option Addr} {vc i:Nat} {m:Int} {L:List Pw} (hL:LsG elPw w (fun _=>True) (.slice va L.length vc) L) (hG:Good L) (hR:Rng 1000000 L) (hi:i<6) (hm:-1000≤m∧m≤1000) :
 Calls Tryz.prog 130 #[.slice va L.length vc,atmV i,.int .i64 m] w fun e w'=>ColX w (addP L i m) e w':=by
 obtain ⟨tb,w1,htb,hw1,HT,hE1⟩:=box_new w (.cells #[.int .i64 2,.string (ltr i),.int .i64 2,.slice none 0 0] 33)
 obtain ⟨z0,z1,z2,z3⟩:=box4r HT.out
 have HSY:=Lib.hid (special_atm (w:=w1) (i:=i))
 have HIN:=Lib.hid (fun (w':World) (hE:Ext w w')=>Radd_any (n:=m) (hL.ext hE) hG hR hi (by omega))
 have HE1:=Lib.hid hE1
 unfold atmV at *
 clear hL hG hR hi hm hE1
 go_enter Tryz.func130,Tryz.ntmps130
 go_upto_region 1 with fail
 rw [←hw1,←htb]
 clear hw1 htb
 go_wp2_with fail
 refine HSY.out.mono ?_
 rintro e w2 ⟨rfl,hE2⟩
 have HE2:=Lib.hid (HE1.out.trans hE2)
 obtain ⟨z0,z1,z2,z3⟩:=cs_e4 hE2 ⟨z0,z1,z2,z3⟩
 clear hE2
 go_wp2_with fail
 refine (HIN.out _ HE2.out).mono ?_
 rintro e w3 ⟨v',rfl,hE3,hO3⟩
 obtain ⟨oa,oc,rfl,-,-⟩:=id hO3.slice
 have HE3:Hid (Ext w w3):=Lib.hid (HE2.out.trans hE3)
 have HO3:=Lib.hid (hO3.ls (S':=fun _=>True) (fun c h _=>trivial) (fun g _ _ _=>trivial))
 clear hE3 hO3
 go_wp2_with fail
 go_ret
 exact ⟨_,_,rfl,HE3.out,HO3.out⟩
theorem rcollect_node {w:World} {S:Nat→Prop} {va a:Option Addr} {vc cap l:Nat} {m s:Int} {n:ByteArray} {ks:List Tm} {Ps:Nat→List Pw} (hL:LsG elPw w (fun _=>True) (.slice va (Ps 0).length vc) (Ps 0)) (hl:ks.length=l) (hA:ArB n l) (h8:l≤8) (hm:-1000≤m∧m≤1000)
 (hs:s=if n=invN then -m else m) (hT:TnW w S a cap (appTm n ks))
 (hK:∀(w':World) (q:Nat) (k:Tm) (va:Option Addr) (vc:Nat) (ka:Option Addr) (kc:Nat),ks[q]?=some k→LsG elPw w' (fun _=>True) (.slice va (Ps q).length vc) (Ps q)→TnW w' S ka kc k →
   Calls Tryz.prog 130 #[.slice va (Ps q).length vc,.agg #[.int .i64 k.kind,.string k.name,.int .i64 k.sort,.slice ka k.kids.length kc],.int .i64 s] w' fun e w''=>ColX w' (Ps (q+1)) e w'') :
 Calls Tryz.prog 130 #[.slice va (Ps 0).length vc,.agg #[.int .i64 3,.string n,.int .i64 0,.slice a l cap],.int .i64 m] w fun e w'=>ColX w (Ps l) e w':=by
 obtain ⟨tb,w1,htb,hw1,HTB,hE1⟩:=box_new w (.cells #[.int .i64 3,.string n,.int .i64 0,.slice a l cap] 33)
 obtain ⟨z0,z1,z2,z3⟩:=box4r HTB.out
 have HSY:=Lib.hid (special_app (w:=w1) (n:=n) (a:=a) (k:=l) (c:=cap) hA.name)
 have HE1:=Lib.hid hE1
 have HT:=Lib.hid (hT.ext hE1)
 have HL1:=Lib.hid (hL.ext hE1)
 have HKC:=Lib.hid hK
 have HLL:=Lib.hid hl
 have wm:IntKind.i64.wrap (-m)=-m:=by rw [IntKind.wrap_i64];omega
 have hcm:=hT.cap
 have hcl2:l≤cap:=hl ▸ hT.len
 unfold maxLen at hcm
 have E1:Hid ((n.toList==[105,110,118])=decide (n=invN)):=Lib.hid (by rw [show ([105,110,118]:List UInt8)=invN.toList by decide +kernel];exact tlN_eq n invN)
 clear hE1 hT hL hK hl hA
 by_cases hi:n=invN
 · have e1:(n.toList==[105,110,118])=true:=by rw [E1.out];exact decide_eq_true hi
   rw [if_pos hi] at hs
   subst hs
   clear hi
   go_enter Tryz.func130,Tryz.ntmps130
   go_upto_region 1 with fail
   rw [←hw1,←htb]
   clear hw1 htb
   go_wp2_with fail
   refine HSY.out.mono ?_
   rintro e w2 ⟨rfl,hE2⟩
   obtain ⟨z0,z1,z2,z3⟩:=cs_e4 hE2 ⟨z0,z1,z2,z3⟩
   have HE2:=Lib.hid (HE1.out.trans hE2)
   have HT2:=Lib.hid (HT.out.ext hE2)
   have HB2:=Lib.hid (hs_ext hE2 HTB.out)
   have HL2:=Lib.hid (HL1.out.ext hE2)
   clear hE2
   go_wp2_with fail
   clear z0 z1 z2 z3
   go_loopw [0,7] (fun lv kv wr=>∃(q:Nat) (va:Option Addr) (vc:Nat),lv=.slice va (Ps q).length vc∧kv=.int .i64 q∧q≤l∧Hid (Ext w2 wr)∧Hid (LsG elPw wr (fun _=>True) (.slice va (Ps q).length vc) (Ps q))) (fun _ kv _=>l-(intOf kv).toNat)
   case atStart=>exact ⟨0,va,vc,rfl,rfl,by omega,Lib.hid (Ext.refl _),HL2⟩
   case round =>
    obtain ⟨q,va,vc,rfl,rfl,hq,HE,HLQ⟩:=hrel
    obtain ⟨b0,b1,b2,b3⟩:=box4r (hs_ext HE.out HB2.out)
    by_cases hlt:q<l
    · obtain ⟨y,hy⟩:∃y,ks[q]?=some y:=⟨_,List.getElem?_eq_getElem (by rw [HLL.out];exact hlt)⟩
      obtain ⟨kb,ko,ka,kc,rfl,-,-,z0,z1,z2,z3,hTy⟩:=(HT2.out.ext HE.out).kid (i:=q) (k:=y) hy
      have hki:(q:Int)<(l:Int):=by omega
      have hk0:(0:Int)≤(q:Int):=by omega
      have wk:IntKind.i64.wrap ((q:Int)+1)=((q+1:Nat):Int):=by rw [IntKind.wrap_i64];omega
      have HC:=Lib.hid (HKC.out wr q y va vc ka kc hy HLQ.out hTy)
      clear hy hTy
      go_wp2_with fail
      refine HC.out.mono ?_
      rintro e w5 ⟨va5,vc5,rfl,hE5,hL5⟩
      have HE5:=Lib.hid (HE.out.trans hE5)
      have HL5:=Lib.hid hL5
      clear hE5 hL5
      go_wp2_with fail
      go_roundw
      case rel=>exact ⟨q+1,va5,vc5,rfl,rfl,by omega,HE5,HL5⟩
      case measure=>simp [intOf];omega
    · have hki:¬(q:Int)<(l:Int):=by omega
      have hql:q=l:=by omega
      have HFI:Hid (LsG elPw wr (fun _=>True) (.slice va (Ps q).length vc) (Ps l)∧(Ps q).length=(Ps l).length):=Lib.hid (by have h:=HLQ.out;rw [hql] at h ⊢;exact ⟨h,rfl⟩)
      clear hql
      go_wp2_with fail
      go_ret
      exact ⟨va,vc,by rw [HFI.out.2];rfl,HE2.out.trans HE.out,by rw [←HFI.out.2];exact HFI.out.1⟩
 · have e1:(n.toList==[105,110,118])=false:=by rw [E1.out];exact decide_eq_false hi
   rw [if_neg hi] at hs
   subst hs
   clear hi
   go_enter Tryz.func130,Tryz.ntmps130
   go_upto_region 1 with fail
   rw [←hw1,←htb]
   clear hw1 htb
   go_wp2_with fail
   refine HSY.out.mono ?_
   rintro e w2 ⟨rfl,hE2⟩
   obtain ⟨z0,z1,z2,z3⟩:=cs_e4 hE2 ⟨z0,z1,z2,z3⟩
   have HE2:=Lib.hid (HE1.out.trans hE2)
   have HT2:=Lib.hid (HT.out.ext hE2)
   have HB2:=Lib.hid (hs_ext hE2 HTB.out)
   have HL2:=Lib.hid (HL1.out.ext hE2)
   clear hE2
   go_wp2_with fail
   clear z0 z1 z2 z3
   go_loopw [0,7] (fun lv kv wr=>∃(q:Nat) (va:Option Addr) (vc:Nat),lv=.slice va (Ps q).length vc∧kv=.int .i64 q∧q≤l∧Hid (Ext w2 wr)∧Hid (LsG elPw wr (fun _=>True) (.slice va (Ps q).length vc) (Ps q))) (fun _ kv _=>l-(intOf kv).toNat)
   case atStart=>exact ⟨0,va,vc,rfl,rfl,by omega,Lib.hid (Ext.refl _),HL2⟩
   case round =>
    obtain ⟨q,va,vc,rfl,rfl,hq,HE,HLQ⟩:=hrel
    obtain ⟨b0,b1,b2,b3⟩:=box4r (hs_ext HE.out HB2.out)
    by_cases hlt:q<l
    · obtain ⟨y,hy⟩:∃y,ks[q]?=some y:=⟨_,List.getElem?_eq_getElem (by rw [HLL.out];exact hlt)⟩
      obtain ⟨kb,ko,ka,kc,rfl,-,-,z0,z1,z2,z3,hTy⟩:=(HT2.out.ext HE.out).kid (i:=q) (k:=y) hy
      have hki:(q:Int)<(l:Int):=by omega
      have hk0:(0:Int)≤(q:Int):=by omega
      have wk:IntKind.i64.wrap ((q:Int)+1)=((q+1:Nat):Int):=by rw [IntKind.wrap_i64];omega
      have HC:=Lib.hid (HKC.out wr q y va vc ka kc hy HLQ.out hTy)
      clear hy hTy
      go_wp2_with fail
      refine HC.out.mono ?_
      rintro e w5 ⟨va5,vc5,rfl,hE5,hL5⟩
      have HE5:=Lib.hid (HE.out.trans hE5)
      have HL5:=Lib.hid hL5
      clear hE5 hL5
      go_wp2_with fail
      go_roundw
      case rel=>exact ⟨q+1,va5,vc5,rfl,rfl,by omega,HE5,HL5⟩
      case measure=>simp [intOf];omega
    · have hki:¬(q:Int)<(l:Int):=by omega
      have hql:q=l:=by omega
      have HFI:Hid (LsG elPw wr (fun _=>True) (.slice va (Ps q).length vc) (Ps l)∧(Ps q).length=(Ps l).length):=Lib.hid (by have h:=HLQ.out;rw [hql] at h ⊢;exact ⟨h,rfl⟩)
      clear hql
      go_wp2_with fail
      go_ret
      exact ⟨va,vc,by rw [HFI.out.2];rfl,HE2.out.trans HE.out,by rw [←HFI.out.2];exact HFI.out.1⟩

theorem rcollect_lit {w:World} {S:Nat→Prop} {va a:Option Addr} {vc cap:Nat} {l:Lit} {L:List Pw} (hL:LsG elPw w (fun _=>True) (.slice va L.length vc) L) (hG:Good L) (hR:Rng 1000000 L) (hl:l.1<6) (hT:TnW w S a cap (litT l)) :
 Calls Tryz.prog 130 #[.slice va L.length vc,.agg #[.int .i64 (litT l).kind,.string (litT l).name,.int .i64 (litT l).sort,.slice a (litT l).kids.length cap],.int .i64 1] w fun e w'=>ColX w (addP L l.1 (lsg l)) e w':=by
 obtain ⟨i,b⟩:=l
 cases b with
 | false =>
   obtain ⟨rfl,rfl⟩:=hT.nil rfl
   exact rcollect_atm (m:=1) hL hG hR hl (by omega)
 | true =>
   refine rcollect_node (n:=invN) (ks:=[atmT i]) (l:=1) (s:=-1) (Ps:=fun q=>if q=0 then L else addP L i (-1)) hL rfl (.inl ⟨rfl,rfl⟩) (by omega) (by omega) (by rw [if_pos rfl]) hT ?_
   intro w' q k va' vc' ka kc hk hL' hT'
   have hq:q=0:=by
    have:=(List.getElem?_eq_some_iff.1 hk).1
    simp at this;exact this
   subst hq
   cases hk
   obtain ⟨rfl,rfl⟩:=hT'.nil rfl
   exact rcollect_atm (m:=-1) hL' hG hR hl (by omega)
theorem rcollect_exp {w:World} {S:Nat→Prop} {va a:Option Addr} {vc cap:Nat} {ls:List Lit} {L:List Pw} (hL:LsG elPw w (fun _=>True) (.slice va L.length vc) L) (hG:Good L) (hR:Rng 100000 L) (hl:∀l∈ls,l.1<6) (h8:ls.length≤8) (hT:TnW w S a cap (expT ls)) :
 Calls Tryz.prog 130 #[.slice va L.length vc,.agg #[.int .i64 (expT ls).kind,.string (expT ls).name,.int .i64 (expT ls).sort,.slice a (expT ls).kids.length cap],.int .i64 1] w fun e w'=>ColX w (addLs L ls) e w':=by
 match ls,hl,h8,hT with
 | [],_,_,hT =>
   exact rcollect_node (n:=oneN) (ks:=[]) (l:=0) (s:=1) (Ps:=fun _=>L) hL rfl (.inr (.inr ⟨rfl,rfl⟩)) (by omega) (by omega) (by rw [if_neg (by decide)]) hT (fun w' q k va vc ka kc hk=>by simp at hk)
 | [l],hl,_,hT =>
   exact rcollect_lit hL hG (fun p hp=>by have:=hR p hp;omega) (hl l (List.mem_cons_self ..)) hT
 | l :: l' :: ls,hl,h8,hT =>
   obtain ⟨M,hM⟩:∃M,M=l :: l' :: ls:=⟨_,rfl⟩
   have h2:2≤M.length:=by rw [hM];simp
   have hT':TnW w S a cap (appTm mulN (M.map litT)):=by rw [hM];exact hT
   have hE:expT (l :: l' :: ls)=appTm mulN (M.map litT):=by rw [hM];rfl
   rw [hE,←hM]
   rw [←hM] at hl h8
   have h:=rcollect_node (w:=w) (S:=S) (va:=va) (a:=a) (vc:=vc) (cap:=cap) (m:=1) (n:=mulN) (ks:=M.map litT) (l:=M.length) (s:=1) (Ps:=fun q=>addLs L (M.take q)) hL (by rw [List.length_map]) (.inr (.inl ⟨rfl,h2⟩)) h8 (by omega) (by rw [if_neg (by decide)]) hT' (fun w' q k va' vc' ka kc hk hL' hT''=>by
    rw [List.getElem?_map] at hk
    cases hq:M[q]? with
    | none=>rw [hq] at hk;cases hk
    | some x =>
      rw [hq] at hk
      cases hk
      have hx:=hl x (List.mem_of_getElem? hq)
      have hgr:=addLs_rng (ls:=M.take q) hG hR (fun y hy=>hl y (List.mem_of_mem_take hy)) (by rw [List.length_take];omega)
      have:=rcollect_lit hL' hgr.1 hgr.2 hx hT''
      rw [←addLs_take hq] at this
      exact this)
   simp only [List.take_length] at h
   have hk:(appTm mulN (M.map litT)).kids.length=M.length:=by show (M.map litT).length=_;rw [List.length_map]
   rw [hk]
   exact h
theorem ROf_any {w:World} {S:Nat→Prop} {a:Option Addr} {cap:Nat} {ls:List Lit} (hl:∀l∈ls,l.1<6) (h8:ls.length≤8) (hT:TnW w S a cap (expT ls)) :
 Calls Tryz.prog 107 #[.agg #[.int .i64 (expT ls).kind,.string (expT ls).name,.int .i64 (expT ls).sort,.slice a (expT ls).kids.length cap]] w fun e w'=>∃a c,e=.returned (.tuple #[.slice a (addLs [] ls).length c,.int .i64 0])∧Ext w w'∧LsG elPw w' (fun _=>True) (.slice a (addLs [] ls).length c) (addLs [] ls):=by
 obtain ⟨T,hTT⟩:∃T,T=expT ls:=⟨_,rfl⟩
 have hval:=exp_valid hl h8
 have hsz:=(exp_err hl h8).2.1
 have HCO:=Lib.hid (fun (w':World) (hE:Ext w w')=>rcollect_exp (L:=[]) (va:=none) (vc:=0) ⟨none,0,rfl,Nat.le_refl _,by show 0≤maxLen;omega,fun i x h=>by simp at h⟩ Good.nil (fun p hp=>by simp at hp) hl h8 (hT.ext hE))
 have HAR:=Lib.hid (fun (w':World) (hE:Ext w w')=>arity_exp h8 (hT.ext hE))
 rw [←hTT] at hval hsz hT HCO HAR ⊢
 have hgl:=(addLs_rng (L:=[]) Good.nil (fun p hp=>by simp at hp) hl (by omega)).1.len
 obtain ⟨tb,w1,htb,hw1,HTB,hE1⟩:=box_new w (.cells #[.int .i64 T.kind,.string T.name,.int .i64 T.sort,.slice a T.kids.length cap] 33)
 have HVA:=Lib.hid (RValid_any (w:=w1) (t:=T) (by omega) (hT.tm.ext hE1))
 rw [hval] at HVA
 obtain ⟨z0,z1,z2,z3⟩:=box4r HTB.out
 have HE1:=Lib.hid hE1
 clear hTT hval hsz hT hE1 hl h8
 go_enter Tryz.func107,Tryz.ntmps107
 go_upto_region 1 with fail
 rw [←hw1,←htb]
 clear hw1 htb
 go_wp2_with fail
 refine HVA.out.mono ?_
 rintro e w2 ⟨rfl,hE2⟩
 have HE2:=Lib.hid (HE1.out.trans hE2)
 obtain ⟨z0,z1,z2,z3⟩:=cs_e4 hE2 ⟨z0,z1,z2,z3⟩
 clear hE2
 go_wp2_with fail
 refine (HAR.out _ HE2.out).mono ?_
 rintro e w3 ⟨rfl,hE3⟩
 have HE3:=Lib.hid (HE2.out.trans hE3)
 obtain ⟨z0,z1,z2,z3⟩:=cs_e4 hE3 ⟨z0,z1,z2,z3⟩
 clear hE3
 go_wp2_with fail
 refine (HCO.out _ HE3.out).mono ?_
 rintro e w4 ⟨va,vc,rfl,hE4,hL4⟩
 have HE4:Hid (Ext w w4):=Lib.hid (HE3.out.trans hE4)
 have HL4:=Lib.hid hL4
 have hln:¬(200:Int)<((addLs [] ls).length:Int):=by omega
 clear hE4 hL4
 go_wp2_with fail
 go_ret2
 exact ⟨_,_,rfl,HE4.out,HL4.out⟩
end Go.Proofs.YtclijngnoepbiaaGreat
