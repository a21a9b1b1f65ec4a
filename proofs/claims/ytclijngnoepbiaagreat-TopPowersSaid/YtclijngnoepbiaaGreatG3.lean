/- Contracts: the reference's equality, lists, sets. Contracts: a term put into a list, or taken out of it. Sums of terms: two ways to add lists. Contracts: the reference's sums. Contracts: the reference's summands, terms, errors of lists. A term as a result; a term stored. -/
import Derived.Test.YtclijngnoepbiaaGreatG2
import Derived.OwnWalk
import Derived.Test.YtclijngnoepbiaaGreatG1
import Derived.Laws.Rows
import Derived.Laws.ResultCell
import Derived.Outline
set_option maxRecDepth 100000
set_option maxHeartbeats 8000000
namespace Go.Proofs.YtclijngnoepbiaaGreat
open Go Go.RowKit
set_option linter.unusedVariables false
set_option linter.unusedSimpArgs false

theorem same_bool (s t:Tm):(cmpT s t==0)=decide (s=t):=by
 rw [Bool.eq_iff_iff,beq_iff_eq,decide_eq_true_eq,cmpT_zero]

theorem RSame_any {w:World} {S S':Nat→Prop} {a a':Option Addr} {cap cap':Nat} {s t:Tm} (hs6:sizeT s≤1000000) (ht6:sizeT t≤1000000) (hT:TmW w S a cap s) (hT':TmW w S' a' cap' t) :
 Calls Tryz.prog 17 #[.agg #[.int .i64 s.kind,.string s.name,.int .i64 s.sort,.slice a s.kids.length cap],.agg #[.int .i64 t.kind,.string t.name,.int .i64 t.sort,.slice a' t.kids.length cap']] w fun e w'=>e=.returned (.bool (decide (s=t)))∧Ext w w':=by
 have hl:=hT.len
 have hc:=hT.cap
 have hl':=hT'.len
 have hc':=hT'.cap
 unfold maxLen at hc hc'
 have HE1:Hid (Ext w ((w.alloc (.cells #[.int .i64 s.kind,.string s.name,.int .i64 s.sort,.slice a s.kids.length cap] 33)).alloc (.cells #[.int .i64 t.kind,.string t.name,.int .i64 t.sort,.slice a' t.kids.length cap'] 33))):=Lib.hid ((Ext.alloc w _).then_al _)
 have hcon:=RCompare_any 1000000 _ S S' a a' cap cap' s t hs6 hs6 ht6 (hT.ext HE1.out) (hT'.ext HE1.out)
 have HB:=Lib.hid (same_bool s t)
 obtain ⟨z,hz⟩:∃z,z=cmpT s t:=⟨_,rfl⟩
 rw [←hz] at hcon
 have HB2:Hid ((z==0)=decide (s=t)):=Lib.hid (by rw [hz];exact HB.out)
 have HCON:=Lib.hid hcon
 clear hcon hT hT' hz HB
 go_enter Tryz.func17,Tryz.ntmps17
 go_wp2_with fail
 refine HCON.out.mono ?_
 rintro e w2 ⟨rfl,hE⟩
 have HE:=Lib.hid (HE1.out.trans hE)
 clear hE
 go_wp2_with fail
 go_ret
 exact ⟨rb HB2.out,HE.out⟩

/-- a term put into an ascending list -/
def addS (t:Tm):List Tm→List Tm
 | []=>[t]
 | x :: L=>if cmpT t x<0 then t :: x :: L else if cmpT t x=0 then x :: L else x :: addS t L
/-- the state of Add: O is done, k elements are read -/
def AddI (t:Tm) (L:List Tm) (k:Nat) (O:List Tm) (d:Bool):Prop:=addS t L=O++(if d=true then L.drop k else addS t (L.drop k))∧O.length≤k+1
theorem AddI.start {t:Tm} {L:List Tm}:AddI t L 0 [] false:=by simp [AddI]
theorem drop_cons {α:Type} {L:List α} {k:Nat} {x:α} (h:L[k]?=some x):L.drop k=x :: L.drop (k+1):=by
 obtain ⟨h1,rfl⟩:=List.getElem?_eq_some_iff.1 h
 rw [List.drop_eq_getElem_cons h1]
theorem AddI.done {t x:Tm} {L O:List Tm} {k:Nat} (h:AddI t L k O true) (hx:L[k]?=some x):AddI t L (k+1) (O++[x]) true:=by
 unfold AddI at *
 simp only [if_true,drop_cons hx] at h
 simp only [if_true]
 exact ⟨by rw [h.1];simp,by simp;omega⟩
theorem AddI.lt {t x:Tm} {L O:List Tm} {k:Nat} (h:AddI t L k O false) (hx:L[k]?=some x) (hc:cmpT t x<0) (hO:O.length≤k):AddI t L (k+1) (O++[t]++[x]) true:=by
 unfold AddI at *
 simp only [Bool.false_eq_true,if_false,drop_cons hx,addS,if_pos hc] at h
 simp only [if_true]
 exact ⟨by rw [h.1];simp,by simp;omega⟩
theorem AddI.eq {t x:Tm} {L O:List Tm} {k:Nat} (h:AddI t L k O false) (hx:L[k]?=some x) (hc:cmpT t x=0):AddI t L (k+1) (O++[x]) true:=by
 unfold AddI at *
 simp only [Bool.false_eq_true,if_false,drop_cons hx,addS,hc,Int.lt_irrefl,if_true] at h
 simp only [if_true]
 exact ⟨by rw [h.1];simp,by simp;omega⟩
theorem OwnT.off {w0 w:World} {S:Nat→Prop} {v:Value} {L:List Tm} (hO:OwnT w w0.heap.size S v L) (hS:∀c,S c→c<w0.heap.size):∀c,S c→v.ownBlock≠some c:=fun c hc e=>by
 have:=(hO.lt c e).1
 have:=hS c hc
 omega

theorem OwnT.low {w:World} {base base':Nat} {S:Nat→Prop} {v:Value} {L:List Tm} (h:OwnT w base S v L) (hb:base'≤base):OwnT w base' S v L:=by
 obtain ⟨E,h1,⟨h2,h3⟩,h4⟩:=h
 refine ⟨E,h1,⟨h2,?_⟩,h4⟩
 rcases h3 with h | ⟨g,cap,cur,e,hg,h⟩
 · exact .inl h
 · exact .inr ⟨g,cap,cur,e,by omega,h⟩

end Go.Proofs.YtclijngnoepbiaaGreat

namespace Go.Proofs.YtclijngnoepbiaaGreat
open Go
set_option linter.unusedVariables false
set_option linter.unusedSimpArgs false

end Go.Proofs.YtclijngnoepbiaaGreat

namespace Go.Proofs.YtclijngnoepbiaaGreat
open Go Go.RowKit
set_option linter.unusedVariables false
set_option linter.unusedSimpArgs false

theorem sizT:(Tryz.prog.info? 33).map (·.size)=some 4:=by kernel_rfl

theorem wpList_storeT {ops:Array Oper} {rest:List Oper} {o:Oper} {a:Act} {w:World} {Q:Exit→Act→World→Prop} (hgd:o.guard=none) (x y:Operand) (ho:o.op=.store 33 x y)
 {g:Nat} (hx:a.eval x=.pointer (some ⟨g,0,none⟩)) {k s:Int} {n:ByteArray} {ka:Option Addr} {kl kc:Nat} (hy:a.eval y=.agg #[.int .i64 k,.string n,.int .i64 s,.slice ka kl kc])
 {old:Array Value} (hg:w.heap[g]?=some (.cells old 33)) (ho4:old.size=4)
 (hK:∀w',w'.heap[g]?=some (.cells #[.int .i64 k,.string n,.int .i64 s,.slice ka kl kc] 33)→(∀q,q≠g→w'.heap[q]?=w.heap[q]?)→(∀W0,Ext W0 w→W0.heap.size≤g→Ext W0 w')→w'.heap.size=w.heap.size→wpList Tryz.prog ops Q rest (a.put o.dst undef) w') :
 wpList Tryz.prog ops Q (o :: rest) a w:=by
 refine wpList_store_all hgd 33 x y ho g _ hx hy 33 old hg sizT ho4 (by simp [Value.oneCell']) ?_
 exact hK _ (setRow_heap w g old _ _ _ hg) (fun q hq=>setRow_other w g q _ hq) (fun W0 h hg=>h.setRow hg _) (size_setRow _ _ _)

theorem wpList_buildT {ops:Array Oper} {rest:List Oper} {o:Oper} {a:Act} {w:World} {Q:Exit→Act→World→Prop} (hg:o.guard=none) (parts:List (Nat × Operand)) (ho:o.op=.build 33 parts.toArray) (vals:List (Nat × Value)) (hv:parts.map (fun p=>(p.1,a.eval p.2))=vals) {cells:Array Value}
 (hb:Tryz.prog.built 33 vals=some cells) (h:wpList Tryz.prog ops Q rest (a.put o.dst (.agg cells)) w):wpList Tryz.prog ops Q (o :: rest) a w:=by
 have e:(parts.toArray.map fun (i,x)=>(i,a.eval x)).toList=vals:=by rw [←hv];simp
 refine wpList_build hg 33 parts.toArray ho (by rw [e,hb];rfl) ?_
 rw [e,hb]
 exact h
theorem built_kn (k:Int) (n:ByteArray) (a:Option Addr) (l c:Nat):Tryz.prog.built 33 [(0,.int .i64 k),(1,.string n),(3,.slice a l c)]=some #[.int .i64 k,.string n,.int .i64 0,.slice a l c]:=by kernel_rfl
theorem built_ks (k s:Int) (n:ByteArray):Tryz.prog.built 33 [(0,.int .i64 k),(1,.string n),(2,.int .i64 s)]=some #[.int .i64 k,.string n,.int .i64 s,.slice none 0 0]:=by kernel_rfl
theorem built_none:Tryz.prog.built 33 []=some #[.int .i64 0,.string ⟨#[]⟩,.int .i64 0,.slice none 0 0]:=by kernel_rfl

theorem ret_term {F:Func} {p g:Nat} {tmps:Array Value} {w:World} {cs:Array Value} {R:Ending→World→Prop} (hr:F.results=#[.cell p 33]) (hp:tmps.getD p undef=.pointer (some ⟨g,0,none⟩)) (hg:w.heap[g]?=some (.cells cs 33)) (hs:cs.size=4) (h:R (.returned (.agg cs)) w) :
 bodyPost Tryz.prog F R .ret ⟨tmps,[]⟩ w :=
 bodyPost_ret (results_cell_row hr tmps w g _ cs _ _ hp hg Tryz.underlying33 rfl (by rw [hs];exact sizT)) rfl h
theorem ret_term2 {F:Func} {p u g:Nat} {tmps:Array Value} {w:World} {cs:Array Value} {R:Ending→World→Prop} (hr:F.results=#[.cell p 33,.tmp u]) (hp:tmps.getD p undef=.pointer (some ⟨g,0,none⟩)) (hg:w.heap[g]?=some (.cells cs 33)) (hs:cs.size=4) (h:R (.returned (.tuple #[.agg cs,tmps.getD u undef])) w) :
 bodyPost Tryz.prog F R .ret ⟨tmps,[]⟩ w:=by
 refine bodyPost_ret ?_ rfl h
 rw [results_cell_tmp hr,hp]
 simp only [asAddr,Sem.run_pure,Result.andThen_ok]
 rw [run_loadVar_row w g _ _ cs _ _ hg Tryz.underlying33 rfl (by rw [hs];exact sizT)]
 rfl

/-- the term n(L) -/
def appTm (n:ByteArray) (L:List Tm):Tm:=.mk 3 n 0 L
end Go.Proofs.YtclijngnoepbiaaGreat
