/- Contracts: the reference's terms, sums, errors. Contracts: the reference's Term, valid, Parts, Sum. Contracts: the reference's Parts and Sum. -/
import Derived.Test.YtclijngnoepbiaaGreatG3
set_option maxRecDepth 100000
set_option maxHeartbeats 8000000
namespace Go.Proofs.YtclijngnoepbiaaGreat
open Go Go.RowKit
set_option linter.unusedVariables false
set_option linter.unusedSimpArgs false

abbrev Any:Nat→Prop:=fun _=>True
/-- the value v is the term t, its kids in S -/
def IsS (w:World) (S:Nat→Prop) (v:Value) (t:Tm):Prop:=∃a cap,v=.agg #[.int .i64 t.kind,.string t.name,.int .i64 t.sort,.slice a t.kids.length cap]∧TmW w S a cap t
abbrev IsT (w:World) (v:Value) (t:Tm):Prop:=IsS w Any v t
theorem IsS.ext {w w':World} {S:Nat→Prop} {v:Value} {t:Tm} (h:IsS w S v t) (hE:Ext w w'):IsS w' S v t :=
 let ⟨a,cap,e,h⟩:=h
 ⟨a,cap,e,h.ext hE⟩
theorem IsS.any {w:World} {S:Nat→Prop} {v:Value} {t:Tm} (h:IsS w S v t):IsT w v t :=
 let ⟨a,cap,e,h⟩:=h
 ⟨a,cap,e,h.wide (fun _ _ _=>trivial)⟩
/-- the blocks of S, and those from B on -/
def NewS (S:Nat→Prop) (B:Nat):Nat→Prop:=fun c=>S c∨B≤c
theorem TmW.any {w:World} {S:Nat→Prop} {a:Option Addr} {cap:Nat} {t:Tm} (h:TmW w S a cap t):TmW w Any a cap t:=h.wide (fun _ _ _=>trivial)
theorem LsT.any {w:World} {S:Nat→Prop} {v:Value} {L:List Tm} (h:LsT w S v L):LsT w Any v L:=h.wide (fun _ _ _=>trivial)
/-- what lies in memory now lies below -/
theorem TmW.below {w:World} {S:Nat→Prop} {a:Option Addr} {cap:Nat} {t:Tm} (h:TmW w S a cap t):TmW w (fun c=>c<w.heap.size) a cap t:=h.wide (fun _ _ h=>h)
theorem LsT.below {w:World} {S:Nat→Prop} {v:Value} {L:List Tm} (h:LsT w S v L):LsT w (fun c=>c<w.heap.size) v L:=h.wide (fun _ _ h=>h)

theorem lt_of_get' {α:Type} {l:Array α} {i:Nat} {x:α} (h:l[i]?=some x):i<l.size:=(Array.getElem?_eq_some_iff.1 h).1

theorem Atom_any {w:World} {n:ByteArray} {k:Int} (hn:n.size≤maxLen) (hk:I64 k) :
 Calls Tryz.prog 6 #[.string n,.int .i64 k] w fun e w'=>e=.returned (.agg #[.int .i64 2,.string n,.int .i64 k,.slice none 0 0])∧Ext w w':=by
 obtain ⟨w1,hw1⟩:∃w1,w1=w.alloc (.cells #[.int .i64 0,.string ⟨#[]⟩,.int .i64 0,.slice none 0 0] 33):=⟨_,rfl⟩
 have hE1:Ext w w1:=by rw [hw1];exact Ext.alloc _ _
 have hg:w1.heap[w.heap.size]?=some (.cells #[.int .i64 0,.string ⟨#[]⟩,.int .i64 0,.slice none 0 0] 33):=by rw [hw1];exact hs_new
 obtain ⟨g,hgg⟩:∃g,g=w.heap.size:=⟨_,rfl⟩
 rw [←hgg] at hg
 have HG:=Lib.hid hg
 have HE1:=Lib.hid hE1
 clear hg hE1
 go_enter Tryz.func6,Tryz.ntmps6
 go_upto_region 1 with fail
 rw [←hw1,←hgg]
 have HGG:=Lib.hid hgg
 clear hw1 hgg
 go_wp2_with (first
  | (refine wpList_buildT rfl [_,_,_] rfl [(0,.int .i64 2),(1,.string n),(2,.int .i64 k)] rfl (built_ks _ _ _) ?_)
  | ((refine wpList_storeT rfl (.tmp 4) (.tmp 7) rfl (g:=g) rfl (k:=2) (s:=k) (n:=n) (ka:=none) (kl:=0) (kc:=0) rfl HG.out rfl ?_);intro w6 c6 q6 e6 z6
     have HG6:=Lib.hid c6
     have HE6:=Lib.hid (e6 w HE1.out (Nat.le_of_eq HGG.out.symm))
     clear c6 q6 e6 z6))
 exact ret_term (g:=g) rfl rfl HG6.out rfl ⟨rfl,HE6.out⟩

end Go.Proofs.YtclijngnoepbiaaGreat
