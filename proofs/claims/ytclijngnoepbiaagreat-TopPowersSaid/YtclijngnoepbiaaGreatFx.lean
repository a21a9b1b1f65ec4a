/- From the arguments of a row to memory, and back: terms, lists of terms, lists of numbers. From the arguments of a row to memory, seat top: drafts of products. -/
import Derived.Test.YtclijngnoepbiaaGreatH1
import Derived.Test.YtclijngnoepbiaaGreatRows
import Derived.ProofKit
import Derived.OpenShut
import Derived.Deep.Slices
import Derived.Deep.Fields
import Derived.ChangeSame
import Derived.Carry
import Derived.Test.YtclijngnoepbiaaGreatPt3
set_option maxRecDepth 100000
set_option maxHeartbeats 8000000
namespace Go.Proofs.YtclijngnoepbiaaGreat
open Go Go.RowKit Go.ChangeShapes Go.WideShapes Go.ChangeAt Go.Deep
set_option linter.unusedVariables false
set_option linter.unusedSimpArgs false

section
variable {H : Type} {enc : TypeId × Value → H} {P : Program}
theorem post_of_below {f:Func} {s:ChangeSpec} {apart fresh handsOn again:Bool} {W W':World} {args:Array Value} {v:Value} {ds gs:List (DataW H)} {before pa pv:List MemPlace}
 (hW:DataW.Whole enc P f.params.toList s.vars apart W args.toList ds gs before)
 (hres:∀(b:Nat) (sp:Nat→Bool) (hd:Bool),DataW.TrodAll enc P W' b sp hd f.resultTypes.toList (v.resultList f.resultTypes.size) (s.fn H (ds++gs)).results [])
 (hargs:∀sp:Nat→Bool,(∀p∈before,sp p.block=true)→DataW.TrodAll enc P W' 0 sp true f.params.toList args.toList (s.fn H (ds++gs)).args pa)
 (hvars:∀sp:Nat→Bool,(∀p∈before,sp p.block=true)→DataW.TrodVars enc P W' sp s.vars (s.fn H (ds++gs)).vars pv)
 (hps:before=pa++pv) (hb:Below W.heap.size W W')
 (hok:∀(j:Nat) (t:TypeId) (r:Value),f.resultTypes[j]?=some t→(v.resultList f.resultTypes.size)[j]?=some r→Value.okWide P W' .any 0 t r) :
 s.post enc P f apart fresh handsOn again W args v W':=by
 have hlt:∀p∈before,p.block<W.heap.size:=fun p hp=>hW.lt p hp
 have hold:∀p∈before,(fun b=>decide (b<W.heap.size)) p.block=true:=fun p hp=>by simpa using hlt p hp
 refine ⟨ds,gs,before,[],pa,pv,hW,hres _ _ _,hargs _ hold,hvars _ hold,World.keptBut_mono (fun p hp=>⟨hp,?_⟩) (hb.frame (·∈before)),fun _=>?_⟩
 · rw [hps,List.mem_append] at hp
   exact Or.inr hp
 · obtain ⟨_,_,_,_,_,hz,hn⟩:=hW
   refine ⟨hok,_,_,([]++pa)++pv,⟨[]++pa,pv,trodAll_append (hargs _ (fun _ _=>rfl)) (hres _ _ _),hvars _ (fun _ _=>rfl),rfl,?_,?_⟩,?_⟩
   · intro b off hp
     have hin:MemPlace.cell b off∈before:=by rw [hps];simpa using hp
     rw [hb.frozen (hlt _ hin)]
     exact hz b off hin
   · intro ha
     have:=hn ha
     rw [hps] at this
     simpa using this
   · intro p hp _
     rw [hps]
     simpa using hp
end

section
variable {H : Type} {enc : TypeId × Value → H} {W : World}

theorem add_plain {a:Addr} (h:a.spot=none) (k:Nat):a.add k=⟨a.block,a.off+k,none⟩:=by
 unfold Addr.add
 split
 · rename_i h0;subst h0;cases a;simp_all
 · rfl
theorem spot_none {w:World} {a:Addr} {v:Value} (h:w.cell? a=some v):a.spot=none:=by
 unfold World.cell? at h
 split at h
 · by_cases hs:a.spot=none
   · exact hs
   · simp [hs] at h
 · cases h
theorem add_zero (a:Addr):a.add 0=a:=by simp [Addr.add]
theorem list_choose {α:Type} {P:Nat→α→Prop}:∀(n:Nat),(∀i,i<n→∃x,P i x)→∃l:List α,l.length=n∧∀i x,l[i]?=some x→P i x
 | 0,_=>⟨[],rfl,by simp⟩
 | n + 1,h=>by
   obtain ⟨l,h1,h2⟩:=list_choose n (fun i hi=>h i (by omega))
   obtain ⟨x,hx⟩:=h n (by omega)
   refine ⟨l++[x],by simp [h1],fun i y hy=>?_⟩
   by_cases hi:i<n
   · rw [List.getElem?_append_left (by omega)] at hy
     exact h2 i y hy
   · have:=(List.getElem?_eq_some_iff.1 hy).1
     simp at this
     have:i=n:=by omega
     subst this
     rw [List.getElem?_append_right (by omega)] at hy
     simp [h1] at hy
     subst hy
     exact hx
end

theorem laidOut:laidOutB Tryz.prog=true:=by kernel_rfl
theorem ownK:ownKnob Tryz.prog.godebug=none:=by kernel_rfl
end Go.Proofs.YtclijngnoepbiaaGreat

namespace Go.Proofs.YtclijngnoepbiaaGreat
open Go Go.RowKit Go.ChangeShapes Go.WideShapes Go.ChangeAt Go.Deep
set_option linter.unusedVariables false
set_option linter.unusedSimpArgs false
set_option maxRecDepth 100000

section
variable {H : Type} {enc : TypeId × Value → H} {W : World}
/-- a slice whose elements read as such of a kind -/
theorem open_rowJ {α:Type} {E:Elm α} {T sl:TypeId} (hsl:Tryz.prog.underlying sl=some (.slice T)) (hc:Tryz.prog.cellsOf T=E.n) (hn0:0<E.n)
 (ho:∀(sp:Nat→Bool) (held:Bool) (fuel:Nat) (cs:List Value) (x:DataW H × List MemPlace),DataW.trod enc Tryz.prog W 0 sp held fuel T cs=some x→∃r,E.R W (fun c=>c<W.heap.size) r cs)
 {sp:Nat→Bool} {held:Bool} {fuel:Nat} {cs:List Value} {x:DataW H × List MemPlace} (h:DataW.trod enc Tryz.prog W 0 sp held fuel sl cs=some x) :
 ∃a cap,∃L:List α,cs=[.slice a L.length cap]∧LsG E W (fun c=>c<W.heap.size) (.slice a L.length cap) L∧(L=[]∨∃es sp',x.1=.slice es sp'∧es.length=L.length):=by
 rcases DataW.trod_slice hsl h with ⟨rfl,-⟩ | ⟨a,len,cap,elems,rest,n,hn,rfl,hx,-,hlc,hcm,hlen,hel,-,-⟩
 · exact ⟨none,0,[],rfl,LsG.nil,.inl rfl⟩
 · rw [hc] at hel
   have key:∀i,i<len→∃r:α,∃cs',E.R W (fun c=>c<W.heap.size) r cs'∧(∀(j:Nat) u,cs'[j]?=some u→W.cell? ⟨a.block,a.off+i*E.n+j,none⟩=some u)∧a.spot=none:=by
    intro i hi
    have h1:=hel i hi
    rw [List.getElem?_eq_getElem (show i<elems.length by omega)] at h1
    obtain ⟨cs',hcc,ht⟩:=Option.bind_eq_some_iff.1 h1
    have h0:=hel 0 (by omega)
    rw [List.getElem?_eq_getElem (show 0<elems.length by omega)] at h0
    obtain ⟨cs0,hc0,-⟩:=Option.bind_eq_some_iff.1 h0
    obtain ⟨-,hl0,hat0⟩:=World.cells?_some hc0
    have hs:=spot_none ((show W.cell? a=W.cell? ((a.add (0*E.n)).add 0) by rw [add_zero,Nat.zero_mul,add_zero]).trans ((hat0 0 hn0).trans (List.getElem?_eq_getElem (by omega))))
    obtain ⟨-,hl,hat⟩:=World.cells?_some hcc
    obtain ⟨r,hr⟩:=ho _ _ _ _ _ ht
    refine ⟨r,cs',hr,fun j u hu=>?_,hs⟩
    have hj:=(List.getElem?_eq_some_iff.1 hu).1
    have:=hat j (by rw [E.len hr] at hj;omega)
    rw [Go.Deep.add_add,add_plain hs,←Nat.add_assoc] at this
    exact this.trans hu
   obtain ⟨L,hl,hL⟩:=list_choose len key
   refine ⟨some a,cap,L,by rw [hl],⟨some a,cap,rfl,by omega,hcm,fun i t hi=>?_⟩,.inr ⟨_,_,by rw [hx],by rw [List.length_map,hlen,hl]⟩⟩
   obtain ⟨cs',h1,h2,h3⟩:=hL i t hi
   have hlt:a.block<W.heap.size:=by
    have hne:cs'.length=E.n:=E.len h1
    exact World.block_lt_of_cell? W ⟨a.block,a.off+i*E.n+0,none⟩ (h2 0 _ (List.getElem?_eq_getElem (by omega)))
   exact ⟨a.block,a.off,cs',by obtain ⟨b,o,s⟩:=a;simp only at h3;subst h3;rfl,hlt,hlt,h1,h2⟩
theorem cI8:Tryz.prog.cellsOf 56=1:=by kernel_rfl
theorem cI8s:Tryz.prog.cellsOf 23=1:=by kernel_rfl
theorem open_i8 {sp:Nat→Bool} {held:Bool} {fuel:Nat} {cs:List Value} {x:DataW H × List MemPlace} (h:DataW.trod enc Tryz.prog W 0 sp held fuel 56 cs=some x):∃k:Int,elI8.R W (fun c=>c<W.heap.size) k cs:=by
 obtain ⟨n,e,-,w⟩:=DataW.trod_int Tryz.underlying56 h
 have h1:-128≤n∧n<128:=by
  simp [Lit.wf,IntKind.min,IntKind.max,IntKind.signed,IntKind.bits] at w
  omega
 exact ⟨n,e,h1⟩
theorem open_i8s {sp:Nat→Bool} {held:Bool} {fuel:Nat} {cs:List Value} {x:DataW H × List MemPlace} (h:DataW.trod enc Tryz.prog W 0 sp held fuel 23 cs=some x):∃r:List Int,(elL elI8).R W (fun c=>c<W.heap.size) r cs:=by
 obtain ⟨a,cap,L,e,hL,-⟩:=open_rowJ (E:=elI8) Tryz.underlying23 cI8 (by decide) (fun _ _ _ _ _ h=>open_i8 h) h
 exact ⟨L,_,e,hL⟩
theorem open_draft6 {v:Value} {d:DataW H} {p:List MemPlace} {r:Reach} {b0:Nat} (h:DataW.Trod enc Tryz.prog W 0 (fun _=>true) true 25 v d p) (hv:Value.okWide Tryz.prog W r b0 25 v) :
 ∃ (D:List (List Int)) (X R:List Int) (da:Option Addr) (dc:Nat) (xa:Option Addr) (xc:Nat) (ra:Option Addr) (rc:Nat),v=.agg #[.slice da D.length dc,.slice xa X.length xc,.slice ra R.length rc] ∧
   LsG (elL elI8) W (fun c=>c<W.heap.size) (.slice da D.length dc) D∧LsG elI8 W (fun c=>c<W.heap.size) (.slice xa X.length xc) X∧LsG elI8 W (fun c=>c<W.heap.size) (.slice ra R.length rc) R:=by
 obtain ⟨cs,rfl,hs⟩:=okWide_struct Tryz.underlying25 hv
 obtain ⟨fuel,hf⟩:=h
 obtain ⟨ys,n,hn,-,hlen,hyl,hf2⟩:=DataW.trod_struct Tryz.underlying25 hf
 have hc:Tryz.prog.cellsOf 25=3:=by kernel_rfl
 rw [hc] at hlen
 have e:(Value.agg cs).cells.toList=cs.toList:=by simp [Value.cells]
 rw [e] at hlen hf2
 obtain ⟨v0,v1,v2,hcs⟩:∃v0 v1 v2,cs.toList=[v0,v1,v2]:=by
  match hh:cs.toList,hlen with
  | [v0,v1,v2],_=>exact ⟨v0,v1,v2,rfl⟩
 rw [hcs] at hf2
 have g0:∃y,DataW.trod enc Tryz.prog W 0 (fun _=>true) true n 22 [v0]=some y:=⟨ys[0]'(by rw [hyl];decide),(hf2 0 _ rfl).trans (List.getElem?_eq_getElem _)⟩
 have g1:∃y,DataW.trod enc Tryz.prog W 0 (fun _=>true) true n 23 [v1]=some y:=⟨ys[1]'(by rw [hyl];decide),(hf2 1 _ rfl).trans (List.getElem?_eq_getElem _)⟩
 have g2:∃y,DataW.trod enc Tryz.prog W 0 (fun _=>true) true n 23 [v2]=some y:=⟨ys[2]'(by rw [hyl];decide),(hf2 2 _ rfl).trans (List.getElem?_eq_getElem _)⟩
 obtain ⟨y0,t0⟩:=g0
 obtain ⟨y1,t1⟩:=g1
 obtain ⟨y2,t2⟩:=g2
 obtain ⟨da,dc,D,e0,hD,-⟩:=open_rowJ (E:=elL elI8) Tryz.underlying22 cI8s (by decide) (fun _ _ _ _ _ h=>open_i8s h) t0
 obtain ⟨xa,xc,X,e1,hX,-⟩:=open_rowJ (E:=elI8) Tryz.underlying23 cI8 (by decide) (fun _ _ _ _ _ h=>open_i8 h) t1
 obtain ⟨ra,rc,R,e2,hR,-⟩:=open_rowJ (E:=elI8) Tryz.underlying23 cI8 (by decide) (fun _ _ _ _ _ h=>open_i8 h) t2
 cases e0
 cases e1
 cases e2
 refine ⟨D,X,R,da,dc,xa,xc,ra,rc,?_,hD,hX,hR⟩
 have:cs=#[.slice da D.length dc,.slice xa X.length xc,.slice ra R.length rc]:=by apply Array.ext';rw [hcs]
 rw [this]
end
theorem readP6:Tryz.prog.readableRec 25=true:=by kernel_rfl
theorem rowP6:(25:TypeId)<Tryz.prog.types.size:=of_decide_eq_true (by kernel_rfl)
end Go.Proofs.YtclijngnoepbiaaGreat
