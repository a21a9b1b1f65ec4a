/- Contracts: Go's Clone and Concat of lists of terms. Contracts: the program's errors of lists. Contracts: copies of lists of terms. -/
import Derived.Test.YtclijngnoepbiaaGreatG3
import Derived.Lib.AppendZeros
import Derived.Lib.SliceRun
import Derived.Test.YtclijngnoepbiaaGreatG6
import Derived.Laws.MakeOwn
import Derived.Laws.CopyRow
set_option maxRecDepth 100000
set_option maxHeartbeats 8000000
namespace Go.Proofs.YtclijngnoepbiaaGreat
open Go Go.RowKit
set_option linter.unusedVariables false
set_option linter.unusedSimpArgs false

theorem grow_any {w:World} {S:Nat→Prop} {n:Nat} (hn:n≤1000000) :
 Calls Tryz.prog 61 #[.slice none 0 0,.int .i64 n] w fun e w'=>∃u,e=.returned u∧Ext w w'∧OwnT w' w.heap.size S u []:=by
 by_cases h0:n=0
 · subst h0
   go_enter Tryz.func61,Tryz.ntmps61
   go_wp2
   go_ret
   exact ⟨_,rfl,Ext.refl _,OwnT.nil⟩
 · obtain ⟨i0,hi0,hi1,hi2,hi3⟩:=info_parts infT
   have hpos:0<n:=by omega
   have hr:=Lib.run_append_nil_zeros (P:=Tryz.prog) w 31 3 31 33 i0 _ .i64 .i64 Tryz.underlying31 Tryz.underlying3 hi0 hi1 n hpos (by rw [hi2];omega) (by omega) (by rw [hi3];omega)
   obtain ⟨c,hc⟩:∃c,c=grownCap w n 0 33:=⟨_,rfl⟩
   have hcn:n≤c:=by rw [hc];exact grownCap_ge w n 0 _
   have hcm:c≤maxLen:=by rw [hc];exact grownCap_le_maxLen w n 0 _ (by unfold maxLen;omega)
   rw [←hc] at hr
   obtain ⟨cur,hcur⟩:∃cur,cur=Builtin.zeroCells (Value.agg #[.int .i64 0,.string ⟨#[]⟩,.int .i64 0,.slice none 0 0]).cells n++Builtin.zeroCells (Value.agg #[.int .i64 0,.string ⟨#[]⟩,.int .i64 0,.slice none 0 0]).cells (c-n):=⟨_,rfl⟩
   rw [←hcur] at hr
   have hsz:cur.size=c*4:=by
    rw [hcur,Array.size_append,size_zeroCells,size_zeroCells]
    show n*4+(c-n)*4=c*4
    omega
   have HOWN:Hid (OwnT (w.drew.alloc (.cells cur 33)) w.heap.size S (.slice (some ⟨w.heap.size,0,none⟩) 0 c) []):=Lib.hid ⟨[],rfl,World.ownsRow_made w.drew cur c (Nat.le_refl _) hcm hsz,by simp⟩
   have HR:=Lib.hid hr
   have hcm2:c≤9223372036854775807:=hcm
   clear hr hc hcur hsz hcm hi0 hi1 hi2 hi3
   go_enter Tryz.func61,Tryz.ntmps61
   go_wp2_with (at_builtin;refine Lib.wpList_append_run _ rfl _ _ _ _ rfl _ _ rfl rfl _ _ HR.out ?_)
   go_ret
   exact ⟨_,rfl,(Ext.drew w).then_al _,HOWN.out⟩

/-- the parts that are joined so far -/
def joinN (A B:List Tm) (k:Nat):List Tm:=if k=0 then [] else if k=1 then A else A++B

/-- the row g holds E, and what is left -/
structure OwnI (w wr:World) (g n:Nat) (E:List TE) (rest:List Value):Prop where
 row:wr.heap[g]?=some (.cells (E.flatMap encE++rest).toArray 33)
 len:rest.length+E.length*4=n*4
 kids:∀e∈E,TmW wr (fun c=>w.heap.size≤c∧c≠g) e.a e.cap e.t
 ext:Ext w wr
theorem OwnI.next {w wr w':World} {g n:Nat} {E:List TE} {rest:List Value} (h:OwnI w wr g n E rest) (hE:Ext wr w'):OwnI w w' g n E rest :=
 ⟨hs_ext hE h.row,h.len,fun e he=>(h.kids e he).ext hE,h.ext.trans hE⟩
theorem OwnI.own {w wr:World} {g n:Nat} {E:List TE} (h:OwnI w wr g n E []) (hg:w.heap.size≤g) (hn:n≤1000000):E.length=n∧OwnT wr w.heap.size (fun c=>w.heap.size≤c) (.slice (some ⟨g,0,none⟩) n n) (E.map (·.t)):=by
 have hl:=flatE_len encE_len E
 have hEn:E.length=n:=by have:=h.len;simp at this;omega
 refine ⟨hEn,E,rfl,⟨hl,.inr ⟨g,n,_,by rw [hEn],hg,h.row,by omega,by unfold maxLen;omega,?_,?_⟩⟩,fun e he=>(h.kids e he).wide (fun c hc _=>hc.1)⟩
 · simp only [List.append_nil,List.size_toArray];omega
 · simp only [List.append_nil];rw [←hl,List.take_length]

end Go.Proofs.YtclijngnoepbiaaGreat
