/- Contracts: theory.symbol, at any name that there is. Contracts: theory.check and Valid. Contracts: theory.Valid, is, app, same at any terms. -/
import Derived.Test.YtclijngnoepbiaaGreatPv3
import Derived.Test.YtclijngnoepbiaaGreatHA
set_option maxRecDepth 100000
set_option maxHeartbeats 8000000
namespace Go.Proofs.YtclijngnoepbiaaGreat
open Go Go.RowKit
set_option linter.unusedVariables false
set_option linter.unusedSimpArgs false

theorem tlN_eq (x s:ByteArray):(x.toList==s.toList)=decide (x=s):=by
 by_cases h:x=s
 · subst h;simp
 · rw [decide_eq_false h];simp only [beq_eq_false_iff_ne,ne_eq];exact fun e=>h (bytes_eq e)
/-- the symbol of a name -/
def SymAt (n:ByteArray) (x:Sy):Prop:=x.1=n∧∃k:Nat,symsL[k]?=some x∧∀(j:Nat),j<k→∀y:Sy,symsL[j]?=some y→y.1≠n
theorem sym_find {n:ByteArray} {x:Sy} (h:symsL.find? (fun (y:Sy)=>decide (y.1.data.toList=n.data.toList))=some x):SymAt n x:=by
 have hb:∀a b:ByteArray,a.data.toList=b.data.toList→a=b:=fun a b h=>by
  cases a;cases b
  exact congrArg ByteArray.mk (Array.ext' h)
 obtain ⟨h1,A,B,h2,h3⟩:=List.find?_eq_some_iff_append.1 h
 refine ⟨hb _ _ (of_decide_eq_true h1),A.length,?_,fun j hj y hy e=>?_⟩
 · rw [h2];simp
 · rw [h2,List.getElem?_append_left hj] at hy
   have:=h3 y (List.mem_of_getElem? hy)
   simp at this
   exact this (by rw [e])
theorem symbol_of {w:World} {n:ByteArray} {x:Sy} (hn:SymAt n x):Calls Tryz.prog 115 #[.string n] w fun e w'=>e=.returned (.agg #[.string n,.int .i64 x.2.1,.int .i64 x.2.2.1,.int .i64 x.2.2.2])∧Ext w w':=by
 obtain ⟨rfl,m,hm,hlt⟩:=hn
 obtain ⟨rb,w1,hrb,hw1,HRB,hE1⟩:=box_new w (.cells #[.string ⟨#[]⟩,.int .i64 0,.int .i64 0,.int .i64 0] 127)
 have HC:=Lib.hid (symbols_any (w:=w1))
 have HE1:=Lib.hid hE1
 have HRS:Hid (w.heap.size≤rb):=Lib.hid (by rw [hrb];exact Nat.le_refl _)
 have HM:=Lib.hid (And.intro hm hlt)
 have hm21:m<21:=(List.getElem?_eq_some_iff.1 hm).1
 clear hE1 hm hlt
 go_enter Tryz.func115,Tryz.ntmps115
 go_upto_region 1 with fail
 rw [←hw1,←hrb]
 clear hw1 hrb
 go_wp2_with fail
 refine HC.out.mono ?_
 rintro e w2 ⟨a,cap,rfl,hE2,hL⟩
 have HL:=Lib.hid hL
 have HR2:=Lib.hid (hs_ext hE2 HRB.out)
 have HE2:=Lib.hid (HE1.out.trans hE2)
 have hcap:=hL.len.2.2
 unfold maxLen at hcap
 have HE0:Hid (Ext w2 w2):=Lib.hid (Ext.refl _)
 obtain ⟨wb,hwb⟩:∃wb,wb=w2:=⟨_,rfl⟩
 clear hL hE2 hwb
 go_upto_region 2 with fail
 go_loopw [4,7] (fun x4 kv wr=>∃q:Nat,kv=.int .i64 q∧q≤m∧Hid (Ext w2 wr)) (fun x4 kv _=>21-(intOf kv).toNat)
 case atStart=>exact ⟨0,rfl,by omega,HE0⟩
 case round =>
  clear HE0
  obtain ⟨q,rfl,hq,HE⟩:=hrel
  have hqz:(q:Int)<21:=by omega
  have hq0:(0:Int)≤(q:Int):=by omega
  have wq:IntKind.i64.wrap ((q:Int)+1)=((q+1:Nat):Int):=by rw [IntKind.wrap_i64];omega
  obtain ⟨y,hy⟩:∃y,symsL[q]?=some y:=⟨_,List.getElem?_eq_getElem (show q<symsL.length by show q<21;omega)⟩
  obtain ⟨b,off,cs,rfl,-,-,rfl,hc⟩:=(HL.out.ext HE.out).at (i:=q) (x:=y) hy
  have c0:wr.cell? ⟨b,off+q*4,none⟩=some (.string y.1):=hc 0 _ rfl
  have c1:wr.cell? ⟨b,off+q*4+1,none⟩=some (.int .i64 y.2.1):=hc 1 _ rfl
  have c2:wr.cell? ⟨b,off+q*4+2,none⟩=some (.int .i64 y.2.2.1):=hc 2 _ rfl
  have c3:wr.cell? ⟨b,off+q*4+3,none⟩=some (.int .i64 y.2.2.2):=hc 3 _ rfl
  obtain ⟨xb,w3,hxb,hw3,HX,hE3⟩:=box_new wr (.cells #[.string y.1,.int .i64 y.2.1,.int .i64 y.2.2.1,.int .i64 y.2.2.2] 127)
  have x0:w3.cell? ⟨xb,0,none⟩=some (.string y.1):=by rw [cellc HX.out];rfl
  have x1:w3.cell? ⟨xb,1,none⟩=some (.int .i64 y.2.1):=by rw [cellc HX.out];rfl
  have x2:w3.cell? ⟨xb,2,none⟩=some (.int .i64 y.2.2.1):=by rw [cellc HX.out];rfl
  have x3:w3.cell? ⟨xb,3,none⟩=some (.int .i64 y.2.2.2):=by rw [cellc HX.out];rfl
  have hr3:=hs_ext (HE.out.trans hE3) HR2.out
  have r0:w3.cell? ⟨rb,0,none⟩=some (.string ⟨#[]⟩):=by rw [cellc hr3];rfl
  have r1:w3.cell? ⟨rb,1,none⟩=some (.int .i64 0):=by rw [cellc hr3];rfl
  have r2:w3.cell? ⟨rb,2,none⟩=some (.int .i64 0):=by rw [cellc hr3];rfl
  have r3:w3.cell? ⟨rb,3,none⟩=some (.int .i64 0):=by rw [cellc hr3];rfl
  have f0:w3.frozen? ⟨rb,0,none⟩=false:=frozenc hr3
  have f1:w3.frozen? ⟨rb,1,none⟩=false:=frozenc hr3
  have f2:w3.frozen? ⟨rb,2,none⟩=false:=frozenc hr3
  have f3:w3.frozen? ⟨rb,3,none⟩=false:=frozenc hr3
  have HR3:=Lib.hid hr3
  have HE3:=Lib.hid (HE2.out.trans (HE.out.trans hE3))
  have HEW:=Lib.hid (HE.out.trans hE3)
  by_cases hqm:q<m
  · have hne:=HM.out.2 q hqm y hy
    clear hr3 hE3 hc hy
    go_upto_region 4 with fail
    rw [←hw3,←hxb]
    clear hw3 hxb c0 c1 c2 c3
    have e1:(y.1==x.1)=false:=Bool.eq_false_iff.2 (fun h=>hne (by rw [MapKept.bytes_beq] at h;exact h))
    have e2:(y.1.toList==x.1.toList)=false:=by rw [tlN_eq];exact decide_eq_false hne
    go_wp2_with fail
    go_roundw
    case rel=>exact ⟨q+1,rfl,by omega,HEW⟩
    case measure=>simp [intOf];omega
  · have hqe:q=m:=by omega
    have hyx:y=x:=by
     rw [hqe,HM.out.1] at hy
     exact (Option.some.inj hy).symm
    subst hyx
    clear hr3 hE3 hc hy hqe
    go_upto_region 4 with fail
    rw [←hw3,←hxb]
    clear hw3 hxb c0 c1 c2 c3
    go_wp2_with fail
    refine bodyPost_ret (results_cell_row rfl _ _ rb _ _ _ _ rfl (set4s_box _ _ _ _ HR3.out).1 Tryz.underlying127 rfl (by kernel_rfl)) rfl ?_
    exact ⟨rfl,(set4s_box _ _ _ _ HR3.out).2 _ HE3.out HRS.out⟩

/-- what check accepts: a symbol with the right number of kids -/
structure OkSym (n:ByteArray) (k:Nat):Prop where
 sym:∃x:Sy,SymAt n x∧x.2.2.2≠0∧x.2.1≤(k:Int)∧(k:Int)≤x.2.2.1
 sk:(n.toList==[115,107])=false
 shk:(n.toList==[115,104,107])=false
 new:(n.toList==[110,101,119])=false
theorem okInv:OkSym invN 1:=⟨⟨(invN,1,1,1),sym_find (by decide +kernel),by decide,by decide,by decide⟩,by decide +kernel,by decide +kernel,by decide +kernel⟩
theorem okOne:OkSym oneN 0:=⟨⟨(oneN,0,0,1),sym_find (by decide +kernel),by decide,by decide,by decide⟩,by decide +kernel,by decide +kernel,by decide +kernel⟩
theorem okMul {n:Nat} (h2:2≤n) (h8:n≤8):OkSym mulN n:=⟨⟨(mulN,2,8,1),sym_find (by decide +kernel),by decide,by show (2:Int)≤(n:Int);omega,by show (n:Int)≤(8:Int);omega⟩,by decide +kernel,by decide +kernel,by decide +kernel⟩
theorem okExp:OkSym expN 2:=⟨⟨(expN,2,2,1),sym_find (by decide +kernel),by decide,by decide,by decide⟩,by decide +kernel,by decide +kernel,by decide +kernel⟩
theorem check_node {w:World} {a:Option Addr} {cap l:Nat} {n:ByteArray} {ks:List Tm} (hS:OkSym n l) (hl:ks.length=l) (h8:l≤8) (hT:TmW w Any a cap (appTm n ks))
 (hK:∀k∈ks,∀(w':World) (ka:Option Addr) (kc:Nat),TmW w' Any ka kc k→Calls Tryz.prog 84 #[.agg #[.int .i64 k.kind,.string k.name,.int .i64 k.sort,.slice ka k.kids.length kc]] w' fun e w''=>e=.returned (.int .i64 0)∧Ext w' w'') :
 Calls Tryz.prog 84 #[.agg #[.int .i64 3,.string n,.int .i64 0,.slice a l cap]] w fun e w'=>e=.returned (.int .i64 0)∧Ext w w':=by
 obtain ⟨⟨x,hx,hx0,hx1,hx2⟩,n1,n2,n3⟩:=hS
 obtain ⟨bx,w1,hbx,hw1,HB,hE1⟩:=box_new w (.cells #[.int .i64 3,.string n,.int .i64 0,.slice a l cap] 33)
 have b0:w1.cell? ⟨bx,0,none⟩=some (.int .i64 3):=by rw [cellc HB.out];rfl
 have b1:w1.cell? ⟨bx,1,none⟩=some (.string n):=by rw [cellc HB.out];rfl
 have b3:w1.cell? ⟨bx,3,none⟩=some (.slice a l cap):=by rw [cellc HB.out];rfl
 have HE1:=Lib.hid hE1
 have HT:=Lib.hid (hT.ext hE1)
 have HSY:=Lib.hid (fun (w':World)=>symbol_of (w:=w') hx)
 have HKC:=Lib.hid hK
 have HLL:=Lib.hid hl
 have hcl:=hT.len
 have hcm:=hT.cap
 have hcl2:l≤cap:=hl ▸ hcl
 unfold maxLen at hcm
 obtain ⟨x0,x1,x2,x3⟩:=x
 have hx0:¬x3=0:=hx0
 have hx0b:(x3==(0:Int))=false:=beq_eq_false_iff_ne.2 hx0
 have hx1:¬(l:Int)<x1:=by have:x1≤(l:Int):=hx1;omega
 have hx2:¬x2<(l:Int):=by have:(l:Int)≤x2:=hx2;omega
 clear hE1 hT hcl hK hx hl
 go_enter Tryz.func84,Tryz.ntmps84
 go_upto_region 1 with fail
 rw [←hw1,←hbx]
 clear hw1 hbx
 go_wp2_with fail
 refine (HSY.out _).mono ?_
 rintro e w2 ⟨rfl,hE2⟩
 obtain ⟨b0,b1,b3⟩:=cs_e3 hE2 ⟨b0,b1,b3⟩
 have HE1:=Lib.hid (HE1.out.trans hE2)
 have HT:=Lib.hid (HT.out.ext hE2)
 obtain ⟨sb,w3,hsb,hw3,HSB,hE3⟩:=box_new w2 (.cells #[.string n,.int .i64 x1,.int .i64 x2,.int .i64 x3] 127)
 have s1:w3.cell? ⟨sb,1,none⟩=some (.int .i64 x1):=by rw [cellc HSB.out];rfl
 have s2:w3.cell? ⟨sb,2,none⟩=some (.int .i64 x2):=by rw [cellc HSB.out];rfl
 have s3:w3.cell? ⟨sb,3,none⟩=some (.int .i64 x3):=by rw [cellc HSB.out];rfl
 obtain ⟨b0,b1,b3⟩:=cs_e3 hE3 ⟨b0,b1,b3⟩
 have HE1:=Lib.hid (HE1.out.trans hE3)
 have HT:=Lib.hid (HT.out.ext hE3)
 clear hE2 hE3
 go_upto_region 4 with fail
 rw [←hw3,←hsb]
 clear hw3 hsb
 go_wp2_with fail
 go_loopw [8,9,64] (fun x8 x9 kv wr=>∃k:Nat,kv=.int .i64 k∧k≤l∧Hid (Ext w3 wr)) (fun x8 x9 kv _=>l-(intOf kv).toNat)
 case atStart=>exact ⟨0,rfl,by omega,Lib.hid (Ext.refl _)⟩
 case round =>
  obtain ⟨k,rfl,hk,HE⟩:=hrel
  by_cases hlt:k<l
  · obtain ⟨y,hy⟩:∃y,ks[k]?=some y:=⟨_,List.getElem?_eq_getElem (by rw [HLL.out];exact hlt)⟩
    obtain ⟨kb,ko,ka,kc,rfl,z0,z1,z2,z3,hTy⟩:=(HT.out.ext HE.out).ts.at (i:=k) (t:=y) hy
    obtain ⟨yb,w4,hyb,hw4,HY,hE4⟩:=box_new wr (.cells #[.int .i64 y.kind,.string y.name,.int .i64 y.sort,.slice ka y.kids.length kc] 33)
    have y0:w4.cell? ⟨yb,0,none⟩=some (.int .i64 y.kind):=by rw [cellc HY.out];rfl
    have y1:w4.cell? ⟨yb,1,none⟩=some (.string y.name):=by rw [cellc HY.out];rfl
    have y2:w4.cell? ⟨yb,2,none⟩=some (.int .i64 y.sort):=by rw [cellc HY.out];rfl
    have y3:w4.cell? ⟨yb,3,none⟩=some (.slice ka y.kids.length kc):=by rw [cellc HY.out];rfl
    have hki:(k:Int)<(l:Int):=by omega
    have hk0:(0:Int)≤(k:Int):=by omega
    have wk:IntKind.i64.wrap ((k:Int)+1)=((k+1:Nat):Int):=by rw [IntKind.wrap_i64];omega
    have HC:=Lib.hid (HKC.out y (List.mem_of_getElem? hy) w4 ka kc (hTy.ext hE4))
    have HE4:=Lib.hid (HE.out.trans hE4)
    clear hE4 hy hTy
    go_upto_region 24 with fail
    rw [←hw4,←hyb]
    clear hw4 hyb z0 z1 z2 z3
    go_wp2_with fail
    refine HC.out.mono ?_
    rintro e w5 ⟨rfl,hE5⟩
    have HE5:=Lib.hid (HE4.out.trans hE5)
    clear hE5
    go_wp2_with fail
    go_roundw
    case rel=>exact ⟨k+1,rfl,by omega,HE5⟩
    case measure=>simp [intOf];omega
  · have hki:¬(k:Int)<(l:Int):=by omega
    go_wp2_with fail
    go_ret
    exact ⟨rfl,HE1.out.trans HE.out⟩
theorem check_lit {w:World} {a:Option Addr} {cap:Nat} {l:Lit} (hT:TmW w Any a cap (litT l)):Calls Tryz.prog 84 #[.agg #[.int .i64 (litT l).kind,.string (litT l).name,.int .i64 (litT l).sort,.slice a (litT l).kids.length cap]] w fun e w'=>e=.returned (.int .i64 0)∧Ext w w':=by
 obtain ⟨i,b⟩:=l
 cases b with
 | false=>exact checkA_any
 | true =>
   refine check_node (ks:=[atmT i]) (l:=1) okInv rfl (by omega) hT ?_
   intro k hk w' ka kc hTk
   rw [List.mem_singleton.1 hk]
   exact checkA_any
theorem check_exp {w:World} {a:Option Addr} {cap:Nat} {ls:List Lit} (h8:ls.length≤8) (hT:TmW w Any a cap (expT ls)):Calls Tryz.prog 84 #[.agg #[.int .i64 (expT ls).kind,.string (expT ls).name,.int .i64 (expT ls).sort,.slice a (expT ls).kids.length cap]] w fun e w'=>e=.returned (.int .i64 0)∧Ext w w':=by
 match ls,h8,hT with
 | [],_,hT=>exact check_node (ks:=[]) (l:=0) okOne rfl (by omega) hT (fun k hk=>by simp at hk)
 | [l],_,hT=>exact check_lit hT
 | l :: l' :: ls,h8,hT =>
   have hk:(appTm mulN ((l :: l' :: ls).map litT)).kids.length=(l :: l' :: ls).length:=by show ((l :: l' :: ls).map litT).length=_;rw [List.length_map]
   have h:=check_node (w:=w) (a:=a) (cap:=cap) (n:=mulN) (ks:=(l :: l' :: ls).map litT) (l:=(l :: l' :: ls).length) (okMul (by simp only [List.length_cons];omega) h8) (by rw [List.length_map]) h8 hT (fun k hk w' ka kc hTk=>by
    obtain ⟨y,-,rfl⟩:=List.mem_map.1 hk
    exact check_lit hTk)
   show Calls Tryz.prog 84 #[.agg #[.int .i64 3,.string mulN,.int .i64 0,.slice a (appTm mulN ((l :: l' :: ls).map litT)).kids.length cap]] w _
   rw [hk]
   exact h
/-- powers of g, one after the other -/
def gN:ByteArray:=⟨#[103]⟩
def gT:Tm:=.mk 2 gN 4 []
def towT:List (List Pw)→Tm
 | []=>gT
 | P :: Ps=>appTm expN [towT Ps,expT (litsP P)]
theorem check_tow:∀{Ps:List (List Pw)},(∀P∈Ps,(litsP P).length≤8)→∀{w:World} {a:Option Addr} {cap:Nat},TmW w Any a cap (towT Ps)→Calls Tryz.prog 84 #[.agg #[.int .i64 (towT Ps).kind,.string (towT Ps).name,.int .i64 (towT Ps).sort,.slice a (towT Ps).kids.length cap]] w fun e w'=>e=.returned (.int .i64 0)∧Ext w w':=by
 intro Ps
 induction Ps with
 | nil=>intro _ w a cap _;exact checkA_any
 | cons P Ps ih =>
   intro h8 w a cap hT
   refine check_node (ks:=[towT Ps,expT (litsP P)]) (l:=2) okExp rfl (by omega) hT ?_
   intro k hk w' ka kc hTk
   rcases List.mem_cons.1 hk with rfl | hk
   · exact ih (fun Q hQ=>h8 Q (List.mem_cons_of_mem _ hQ)) hTk
   · rw [List.mem_singleton.1 hk] at hTk ⊢
     exact check_exp (h8 P (List.mem_cons_self ..)) hTk

theorem ValidG_any {w:World} {a:Option Addr} {cap:Nat} {t:Tm} (hn:sizeT t≤1000000) (hv:validT t=0) (hT:TmW w Any a cap t)
 (hC:∀w':World,Ext w w'→Calls Tryz.prog 84 #[.agg #[.int .i64 t.kind,.string t.name,.int .i64 t.sort,.slice a t.kids.length cap]] w' fun e w''=>e=.returned (.int .i64 0)∧Ext w' w'') :
 Calls Tryz.prog 48 #[.agg #[.int .i64 t.kind,.string t.name,.int .i64 t.sort,.slice a t.kids.length cap]] w fun e w'=>e=.returned (.int .i64 0)∧Ext w w':=by
 obtain ⟨bx,w1,hbx,hw1,HB,hE1⟩:=box_new w (.cells #[.int .i64 t.kind,.string t.name,.int .i64 t.sort,.slice a t.kids.length cap] 33)
 obtain ⟨b0,b1,b2,b3⟩:=box4r HB.out
 have HE1:=Lib.hid hE1
 have HT:=Lib.hid (hT.ext hE1)
 have HV:=Lib.hid (PValid_any hn HT.out)
 rw [hv] at HV
 have HC:=Lib.hid hC
 clear hE1 hT hC hv hn
 go_enter Tryz.func48,Tryz.ntmps48
 go_upto_region 1 with fail
 rw [←hw1,←hbx]
 clear hw1 hbx
 go_wp2_with fail
 refine HV.out.mono ?_
 rintro e w2 ⟨rfl,hE2⟩
 obtain ⟨b0,b1,b2,b3⟩:=cs_e4 hE2 ⟨b0,b1,b2,b3⟩
 have HE1:=Lib.hid (HE1.out.trans hE2)
 have HT:=Lib.hid (HT.out.ext hE2)
 have HC2:=Lib.hid (HC.out _ HE1.out)
 clear hE2
 go_wp2_with fail
 refine HC2.out.mono ?_
 rintro e w3 ⟨rfl,hE3⟩
 have HE3:=Lib.hid (HE1.out.trans hE3)
 clear hE3
 go_wp2_with fail
 go_ret
 exact ⟨rfl,HE3.out⟩
theorem is_any {w:World} {k s:Int} {n m:ByteArray} {v:Value} (hk:I64 k):Calls Tryz.prog 116 #[.agg #[.int .i64 k,.string n,.int .i64 s,v],.string m] w fun e w'=>e=.returned (.bool (decide (k=3∧n=m)))∧Ext w w':=by
 obtain ⟨bx,w1,hbx,hw1,HB,hE1⟩:=box_new w (.cells #[.int .i64 k,.string n,.int .i64 s,v] 33)
 obtain ⟨b0,b1,b2,b3⟩:=box4r HB.out
 have HE1:=Lib.hid hE1
 have HTL:=Lib.hid (tlN_eq n m)
 have hk:=hk
 clear hE1
 by_cases h3:k=3
 · subst h3
   go_enter Tryz.func116,Tryz.ntmps116
   go_upto_region 1 with fail
   rw [←hw1,←hbx]
   clear hw1 hbx
   go_wp2_with fail
   go_ret
   exact ⟨by rw [HTL.out];simp,HE1.out⟩
 · have h3b:(k==(3:Int))=false:=beq_eq_false_iff_ne.2 h3
   go_enter Tryz.func116,Tryz.ntmps116
   go_upto_region 1 with fail
   rw [←hw1,←hbx]
   clear hw1 hbx
   go_wp2_with fail
   go_ret
   exact ⟨by simp [h3],HE1.out⟩
theorem tapp_any {w:World} {S:Nat→Prop} {n:ByteArray} {a:Option Addr} {cap:Nat} {L:List Tm} (hn:n.size≤maxLen) (hL:LsG elN w S (.slice a L.length cap) L) :
 Calls Tryz.prog 54 #[.string n,.slice a L.length cap] w fun e w'=>e=.returned (.agg #[.int .i64 3,.string n,.int .i64 0,.slice a L.length cap])∧Ext w w'∧TnW w' S a cap (appTm n L):=by
 obtain ⟨rb,w1,hrb,hw1,HRB,hE1⟩:=box_new w (.cells #[.int .i64 0,.string ⟨#[]⟩,.int .i64 0,.slice none 0 0] 33)
 have HT:=Lib.hid (tn_app hn hL)
 have HE1:=Lib.hid hE1
 have HRS:Hid (w.heap.size≤rb):=Lib.hid (by rw [hrb];exact Nat.le_refl _)
 clear hL hE1
 go_enter Tryz.func54,Tryz.ntmps54
 go_upto_region 1 with fail
 rw [←hw1,←hrb]
 clear hw1 hrb
 go_wp2_with (first
  | (refine wpList_buildT rfl [_,_,_] rfl [(0,.int .i64 3),(1,.string n),(3,.slice a L.length cap)] rfl (built_kn _ _ _ _ _) ?_)
  | ((refine wpList_storeT rfl (.tmp 4) (.tmp 7) rfl (g:=rb) rfl (k:=3) (s:=0) (n:=n) (ka:=a) (kl:=L.length) (kc:=cap) rfl HRB.out rfl ?_);intro w6 c6 q6 e6 z6
     have HE6:=Lib.hid (e6 w HE1.out HRS.out)
     have HG6:=Lib.hid c6
     clear c6 q6 e6 z6))
 exact ret_term (g:=rb) rfl rfl HG6.out rfl ⟨rfl,HE6.out,HT.out.ext HE6.out⟩
theorem same_any {w:World} {a b:Option Addr} {c d:Nat} {t u:Tm} (ht:sizeT t≤1000000) (hu:sizeT u≤1000000) (hT:TmW w Any a c t) (hU:TmW w Any b d u):Calls Tryz.prog 33 #[.agg #[.int .i64 t.kind,.string t.name,.int .i64 t.sort,.slice a t.kids.length c],.agg #[.int .i64 u.kind,.string u.name,.int .i64 u.sort,.slice b u.kids.length d]] w fun e w'=>e=.returned (.bool (cmpT t u==0))∧Ext w w':=by
 obtain ⟨bx,w1,hbx,hw1,HB,hE1⟩:=box_new w (.cells #[.int .i64 t.kind,.string t.name,.int .i64 t.sort,.slice a t.kids.length c] 33)
 obtain ⟨cx,w2,hcx,hw2,HC,hE2⟩:=box_new w1 (.cells #[.int .i64 u.kind,.string u.name,.int .i64 u.sort,.slice b u.kids.length d] 33)
 have hcx1:cx=bx+1:=by rw [hcx,hw1,World.size_alloc,hbx]
 have hb2:=hs_ext hE2 HB.out
 obtain ⟨b0,b1,b2,b3⟩:=box4r hb2
 obtain ⟨c0,c1,c2,c3⟩:=box4r HC.out
 have HE2:=Lib.hid (hE1.trans hE2)
 have HCM:=Lib.hid (PCmp_any (s:=t) (t:=u) ht hu (hT.ext HE2.out) (hU.ext HE2.out))
 clear hE1 hE2 hb2 hT hU
 go_enter Tryz.func33,Tryz.ntmps33
 go_upto_region 1 with fail
 rw [←hw1,←hbx,←hw2,←hcx1]
 clear hw1 hbx hw2 hcx hcx1
 go_wp2_with fail
 refine HCM.out.mono ?_
 rintro e w3 ⟨rfl,hE3⟩
 have HE3:=Lib.hid (HE2.out.trans hE3)
 clear hE3
 go_wp2_with fail
 go_ret
 exact ⟨rfl,HE3.out⟩
end Go.Proofs.YtclijngnoepbiaaGreat
