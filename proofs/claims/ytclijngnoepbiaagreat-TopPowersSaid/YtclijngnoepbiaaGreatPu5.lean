/- The elimination of exponents as it begins, in memory. -/
import Derived.Test.YtclijngnoepbiaaGreatPu4
set_option maxRecDepth 100000
set_option maxHeartbeats 8000000
namespace Go.Proofs.YtclijngnoepbiaaGreat
open Go Go.RowKit
set_option linter.unusedVariables false
set_option linter.unusedSimpArgs false

/-- lists of products that the elimination takes -/
structure GoodL (LL:List (List Pw)):Prop where
 len:LL.length≤8
 all:∀L∈LL,Good L∧Rng 1000 L
theorem pl_e {w:World} {S:Nat→Prop} {e:Nat} {ma:Option Addr} {mc:Nat} {m:List Pw} (h:w.heap[e]?=some (.cells #[.slice ma m.length mc] 28)) (hm:LsG elPw w S (.slice ma m.length mc) m):LsE (elL elPw) w S (.slice (some ⟨e,0,none⟩) 1 1) [m] :=
 cells_lsE (P:=[(m,[.slice ma m.length mc])]) h rfl rfl rfl (by simp [maxLen]) (by intro p hp;simp at hp;subst hp;exact ⟨_,rfl,hm⟩)
theorem asc_len {X:List Nat} (h:X.Pairwise (·<·)) (h6:∀x∈X,x<6):X.length≤6:=by
 have hge:∀(i:Nat) (hi:i<X.length),i≤X[i]:=by
  intro i
  induction i with
  | zero=>intro _;omega
  | succ i ih =>
    intro hi
    have h1:=ih (by omega)
    have h2:=(List.pairwise_iff_getElem.1 h) i (i+1) (by omega) hi (by omega)
    omega
 rcases Nat.lt_or_ge 6 X.length with h1 | h1
 · have h2:=hge 6 h1
   have h3:=h6 X[6] (List.getElem_mem h1)
   omega
 · exact h1
/-- the new row of an elimination -/
structure RowN (w wx:World) (ad:Nat × Nat × Nat) (p k:List Int):Prop where
 ext:Ext w wx
 at_:RowAt wx ad ⟨p,k,false⟩
 new:w.heap.size≤ad.1∧w.heap.size≤ad.2.1∧w.heap.size≤ad.2.2
 ne:ad.1≠ad.2.1∧ad.1≠ad.2.2∧ad.2.1≠ad.2.2
theorem rowN_A {wr wa:World} {pb:Nat} {p k:List Int} {n nl:Nat} (hE:Ext wr wa) (hb:wr.heap.size≤pb) (hp:wa.heap[pb]?=some (.cells (intsC p) 3)) (ln:p.length=n) (lk:k.length=nl) :
 RowN wr ((wa.alloc (.cells (intsC k) 3)).alloc (.cells #[.slice (some ⟨pb,0,none⟩) n n,.slice (some ⟨wa.heap.size,0,none⟩) nl nl,.bool false] 63)) (wa.heap.size+1,pb,wa.heap.size) p k:=by
 subst ln lk
 have h1:Ext wa (wa.alloc (.cells (intsC k) 3)):=Ext.alloc _ _
 have hlt:=(Array.getElem?_eq_some_iff.1 hp).1
 have hs:=hE.size
 refine ⟨(hE.then_al _).then_al _,⟨?_,hs_ext (h1.then_al _) hp,hs_ext (Ext.alloc _ _) hs_new⟩,⟨by show _≤wa.heap.size+1;omega,hb,hs⟩,⟨by show wa.heap.size+1≠pb;omega,by show wa.heap.size+1≠wa.heap.size;omega,by show pb≠wa.heap.size;omega⟩⟩
 have h:=hs_new (w:=wa.alloc (.cells (intsC k) 3)) (o:=.cells #[.slice (some ⟨pb,0,none⟩) p.length p.length,.slice (some ⟨wa.heap.size,0,none⟩) k.length k.length,.bool false] 63)
 rw [World.size_alloc] at h
 exact h
theorem rowN_B {wr wa wk:World} {kb pb:Nat} {p k:List Int} {n nl:Nat} (h0:Ext wr wk) (hE:Ext wk wa) (hb:wk.heap.size≤pb) (hp:wa.heap[pb]?=some (.cells (intsC p) 3)) (hk:wk.heap[kb]?=some (.cells (intsC k) 3)) (hkb:wr.heap.size≤kb) (ln:p.length=n) (lk:k.length=nl) :
 RowN wr (wa.alloc (.cells #[.slice (some ⟨pb,0,none⟩) n n,.slice (some ⟨kb,0,none⟩) nl nl,.bool false] 63)) (wa.heap.size,pb,kb) p k:=by
 subst ln lk
 have hlt:=(Array.getElem?_eq_some_iff.1 hp).1
 have hlk:=(Array.getElem?_eq_some_iff.1 hk).1
 have hs:=hE.size
 have hs0:=h0.size
 exact ⟨(h0.trans hE).then_al _,⟨hs_new,hs_ext (Ext.alloc _ _) hp,hs_ext (hE.then_al _) hk⟩,⟨by show _≤wa.heap.size;omega,by show _≤pb;omega,hkb⟩,⟨by show wa.heap.size≠pb;omega,by show wa.heap.size≠kb;omega,by show pb≠kb;omega⟩⟩
/-- the rows under way -/
structure RowsI (w0 wr:World) (xb:Nat) (cv ro:Value) (X:List Nat) (LL:List (List Pw)) (i:Nat) (AD:List (Nat × Nat × Nat)):Prop where
 ext:Ext w0 wr
 x:wr.heap[xb]?=some (.cells #[cv,ro,.slice none 0 0,.bool false] 74)
 own:OwnG elRp wr (xb+1) 59 (fun _=>False) ro AD
 al:AD.length=i
 row:∀(j:Nat) ad,AD[j]?=some ad→RowAt wr ad (rowE X LL j)
 one:∀ad∈AD,(xb<ad.1∧xb<ad.2.1∧xb<ad.2.2)∧ad.1≠ad.2.1∧ad.1≠ad.2.2∧ad.2.1≠ad.2.2
 two:∀(i j:Nat) a b,AD[i]?=some a→AD[j]?=some b→i≠j→(a.1≠b.1∧a.1≠b.2.1∧a.1≠b.2.2)∧(a.2.1≠b.1∧a.2.1≠b.2.1∧a.2.1≠b.2.2)∧(a.2.2≠b.1∧a.2.2≠b.2.1∧a.2.2≠b.2.2)
theorem own_type {α:Type} {E:Elm α} {w:World} {base T g:Nat} {S:Nat→Prop} {v:Value} {L:List α} (h:OwnG E w base T S v L) (hg:v.ownBlock=some g):∃cur,w.heap[g]?=some (.cells cur T):=by
 obtain ⟨P,-,-,hrow⟩:=h
 rcases hrow.2 with ⟨rfl,-⟩ | ⟨g',cap',cur,rfl,-,hblk,-⟩
 · cases hg
 · cases hg
   exact ⟨cur,hblk⟩
theorem RowAt.lt {w:World} {ad:Nat × Nat × Nat} {r:ERow} (h:RowAt w ad r):ad.1<w.heap.size∧ad.2.1<w.heap.size∧ad.2.2<w.heap.size :=
 ⟨(Array.getElem?_eq_some_iff.1 h.row).1,(Array.getElem?_eq_some_iff.1 h.pw).1,(Array.getElem?_eq_some_iff.1 h.ks).1⟩
theorem RowAt.keep {w w':World} {ad:Nat × Nat × Nat} {r:ERow} (h:RowAt w ad r) (h1:w'.heap[ad.1]?=w.heap[ad.1]?) (h2:w'.heap[ad.2.1]?=w.heap[ad.2.1]?) (h3:w'.heap[ad.2.2]?=w.heap[ad.2.2]?):RowAt w' ad r :=
 ⟨h1.trans h.row,h2.trans h.pw,h3.trans h.ks⟩
theorem cells_ne {w:World} {a b T U:Nat} {x y:Array Value} (h1:w.heap[a]?=some (.cells x T)) (h2:w.heap[b]?=some (.cells y U)) (hn:T≠U):a≠b:=by
 rintro rfl
 rw [h1] at h2
 injection h2 with h2
 injection h2 with h2 h3
 exact hn h3
theorem RowN.coef {wr wx:World} {ad:Nat × Nat × Nat} {p:List Int} {nl i:Nat} (h:RowN wr wx ad p (List.replicate nl 0)):RowN wr (wx.setCell ⟨ad.2.2,i,none⟩ (.int .i64 1)) ad p (unitV nl i):=by
 have h2:=intsC_store (j:=i) (x:=1) h.at_.ks
 refine ⟨h.ext.setCell h.new.2.2 _,⟨?_,?_,h2⟩,h.new,h.ne⟩
 · rw [heap_setCell_other _ _ _ _ h.ne.2.1]
   have:=h.at_.row
   show _=some (Obj.cells #[.slice (some ⟨ad.2.1,0,none⟩) p.length p.length,.slice (some ⟨ad.2.2,0,none⟩) (unitV nl i).length (unitV nl i).length,.bool false] 63)
   rw [unitV_len]
   simpa using this
 · rw [heap_setCell_other _ _ _ _ h.ne.2.2]
   exact h.at_.pw
/-- one more row -/
theorem RowsI.next {w0 wr wy w8:World} {xb i:Nat} {cv ro ro':Value} {X:List Nat} {LL:List (List Pw)} {L:List Pw} {AD:List (Nat × Nat × Nat)} {ad:Nat × Nat × Nat} (h:RowsI w0 wr xb cv ro X LL i AD) (hx:xb<wr.heap.size) (hw:w0.heap.size≤xb) (hL:LL[i]?=some L) (hN:RowN wr wy ad (vecP X L) (unitV LL.length i))
 (hO:OwnG elRp w8 (xb+1) 59 (fun _=>False) ro' (AD++[ad])) (hg:(wy.alloc (.cells #[ptrA ad] 59)).grownBy w8 ro.ownBlock) (hk:ro'.ownBlock=ro.ownBlock∨ro'.ownBlock=some (wy.alloc (.cells #[ptrA ad] 59)).heap.size):RowsI w0 (w8.setCell ⟨xb,1,none⟩ ro') xb cv ro' X LL (i+1) (AD++[ad]):=by
 obtain ⟨wz,hwz⟩:∃wz,wz=wy.alloc (.cells #[ptrA ad] 59):=⟨_,rfl⟩
 rw [←hwz] at hg hk
 have hEz:Ext wr wz:=by rw [hwz];exact hN.ext.then_al _
 have hEyz:Ext wy wz:=by rw [hwz];exact Ext.alloc _ _
 have hown:=h.own.lt
 have hrN:rowE X LL i=⟨vecP X L,unitV LL.length i,false⟩:=by
  unfold rowE unitV
  rw [List.getD_eq_getElem?_getD,hL]
  rfl
 -- what stays in w8
 have keep:∀b,b<wz.heap.size→(∀g,ro.ownBlock=some g→b≠g)→b≠xb→(w8.setCell ⟨xb,1,none⟩ ro').heap[b]?=wz.heap[b]?:=fun b h1 h2 h3=>by
  rw [heap_setCell_other _ _ _ _ h3]
  exact hg.block b h1 (fun e=>h2 b e.symm rfl)
 have hx8:w8.heap[xb]?=some (.cells #[cv,ro,.slice none 0 0,.bool false] 74):=by
  rw [hg.block xb (Nat.lt_of_lt_of_le hx hEz.size) (fun e=>by have:=(hown xb e.symm).1;omega)]
  exact hs_ext hEz h.x
 have hrold:∀(j:Nat) bd,AD[j]?=some bd→RowAt (w8.setCell ⟨xb,1,none⟩ ro') bd (rowE X LL j):=fun j bd hj=>by
  have h1:=h.row j bd hj
  have h2:=h.one bd (List.mem_of_getElem? hj)
  have h3:=h1.lt
  have hne:∀g,ro.ownBlock=some g→bd.1≠g∧bd.2.1≠g∧bd.2.2≠g:=fun g hg'=>by
   obtain ⟨cur,hcur⟩:=own_type h.own hg'
   exact ⟨cells_ne h1.row hcur (by decide),cells_ne h1.pw hcur (by decide),cells_ne h1.ks hcur (by decide)⟩
  have h4:RowAt wz bd (rowE X LL j):=⟨hs_ext hEz h1.row,hs_ext hEz h1.pw,hs_ext hEz h1.ks⟩
  have hs:=hEz.size
  exact h4.keep (keep _ (by omega) (fun g e=>(hne g e).1) (by omega)) (keep _ (by omega) (fun g e=>(hne g e).2.1) (by omega)) (keep _ (by omega) (fun g e=>(hne g e).2.2) (by omega))
 have hrnew:RowAt (w8.setCell ⟨xb,1,none⟩ ro') ad (rowE X LL i):=by
  rw [hrN]
  have h4:RowAt wz ad ⟨vecP X L,unitV LL.length i,false⟩:=⟨hs_ext hEyz hN.at_.row,hs_ext hEyz hN.at_.pw,hs_ext hEyz hN.at_.ks⟩
  have hlt:=h4.lt
  have hnw:=hN.new
  have hgl:∀g,ro.ownBlock=some g→g<wr.heap.size:=fun g e=>(hown g e).2
  exact h4.keep (keep _ hlt.1 (fun g e=>by have:=hgl g e;omega) (by omega)) (keep _ hlt.2.1 (fun g e=>by have:=hgl g e;omega) (by omega)) (keep _ hlt.2.2 (fun g e=>by have:=hgl g e;omega) (by omega))
 have hal:=h.al
 have hsz:∀(j:Nat) bd,AD[j]?=some bd→bd.1<wr.heap.size∧bd.2.1<wr.heap.size∧bd.2.2<wr.heap.size:=fun j bd hj=>(h.row j bd hj).lt
 have hcase:∀(j:Nat) bd,(AD++[ad])[j]?=some bd→(j<AD.length∧AD[j]?=some bd)∨(j=AD.length∧bd=ad):=fun j bd hj=>by
  rcases Nat.lt_or_ge j AD.length with h1 | h1
  · rw [List.getElem?_append_left h1] at hj
    exact .inl ⟨h1,hj⟩
  · rw [List.getElem?_append_right h1] at hj
    have h2:j-AD.length=0:=by
     have:=(List.getElem?_eq_some_iff.1 hj).1
     simpa using this
    rw [h2] at hj
    cases hj
    exact .inr ⟨by omega,rfl⟩
 have hnw:=hN.new
 refine ⟨?_,?_,?_,by rw [List.length_append];simp;exact hal,fun j bd hj=>?_,fun bd hb=>?_,fun a b x y ha hb hne=>?_⟩
 · exact ((h.ext.trans hEz).grown hg (fun c hc=>by have:=(hown c hc).1;omega)).setCell hw _
 · rw [heap_setCell_same w8 xb 1 _ _ _ hx8];rfl
 · exact hO.keep (fun c hc=>heap_setCell_other _ _ _ _ (by have:=(hO.lt c hc).1;show c≠xb;omega)) (fun c h=>absurd h id) (fun c h=>absurd h id)
 · rcases hcase j bd hj with ⟨-,h1⟩ | ⟨h1,rfl⟩
   · exact hrold j bd h1
   · rw [h1,hal];exact hrnew
 · rcases List.mem_append.1 hb with h1 | h1
   · exact h.one bd h1
   · rw [List.mem_singleton.1 h1]
     exact ⟨⟨by omega,by omega,by omega⟩,hN.ne⟩
 · rcases hcase a x ha with ⟨h1,h2⟩ | ⟨h1,rfl⟩
   · rcases hcase b y hb with ⟨h3,h4⟩ | ⟨h3,rfl⟩
     · exact h.two a b x y h2 h4 hne
     · have:=hsz a x h2
       exact ⟨⟨by omega,by omega,by omega⟩,⟨by omega,by omega,by omega⟩,⟨by omega,by omega,by omega⟩⟩
   · rcases hcase b y hb with ⟨h3,h4⟩ | ⟨h3,rfl⟩
     · have:=hsz b y h4
       exact ⟨⟨by omega,by omega,by omega⟩,⟨by omega,by omega,by omega⟩,⟨by omega,by omega,by omega⟩⟩
     · omega
/-- the pivots under way -/
structure PivI (wa wr:World) (xb:Nat) (cv ro po:Value) (i:Nat):Prop where
 chg:Chg (fun k=>k=xb) wa wr
 x:wr.heap[xb]?=some (.cells #[cv,ro,po,.bool false] 74)
 own:OwnG elI wr wa.heap.size 3 (fun _=>False) po (List.replicate i (-1))
theorem PivI.next {wa wr w8:World} {xb i:Nat} {cv ro po po':Value} (h:PivI wa wr xb cv ro po i) (hx:xb<wa.heap.size) (hO:OwnG elI w8 wa.heap.size 3 (fun _=>False) po' (List.replicate i (-1)++[-1]))
 (hg:(wr.alloc (.cells #[.int .i64 (-1)] 3)).grownBy w8 po.ownBlock):PivI wa (w8.setCell ⟨xb,2,none⟩ po') xb cv ro po' (i+1):=by
 obtain ⟨wz,hwz⟩:∃wz,wz=wr.alloc (.cells #[.int .i64 (-1)] 3):=⟨_,rfl⟩
 rw [←hwz] at hg
 have hEz:Ext wr wz:=by rw [hwz];exact Ext.alloc _ _
 have hown:=h.own.lt
 have hs:=h.chg.size
 have hxr:xb<wr.heap.size:=by omega
 have hx8:w8.heap[xb]?=some (.cells #[cv,ro,po,.bool false] 74):=by
  rw [hg.block xb (Nat.lt_of_lt_of_le hxr hEz.size) (fun e=>by have:=(hown xb e.symm).1;omega)]
  exact hs_ext hEz h.x
 refine ⟨?_,?_,?_⟩
 · have h1:Chg (fun k=>k=xb) wa w8:=by
    have h2:=h.chg.trans (Chg.of hEz)
    refine ⟨hg.os.trans h2.os,hg.tape.trans h2.tape,hg.output.trans h2.output,Nat.le_trans h2.size hg.size,fun k hk hn=>?_⟩
    rw [hg.block k (Nat.lt_of_lt_of_le hk h2.size) (fun e=>by have:=(hown k e.symm).1;omega)]
    exact h2.block k hk hn
   exact h1.set rfl _
 · rw [heap_setCell_same w8 xb 2 _ _ _ hx8];rfl
 · rw [show List.replicate (i+1) (-1:Int)=List.replicate i (-1)++[-1] from List.replicate_succ']
   exact hO.keep (fun c hc=>heap_setCell_other _ _ _ _ (by have:=(hO.lt c hc).1;show c≠xb;omega)) (fun c h=>absurd h id) (fun c h=>absurd h id)
theorem cells_elI {w:World} {S:Nat→Prop} {x:Int} {cs:List Value} (h:elI.R w S x cs):cs=[Value.int .i64 x]:=h.1
theorem cells_elRp {w:World} {S:Nat→Prop} {x:Nat × Nat × Nat} {cs:List Value} (h:elRp.R w S x cs):cs=[ptrA x]:=h
/-- the elimination as a whole -/
theorem begin_xe {w0 wa wr:World} {xb n rc pc:Nat} {cv:Value} {ra pa:Option Addr} {X:List Nat} {LL:List (List Pw)} {AD:List (Nat × Nat × Nat)} (hR:RowsI w0 wa xb cv (.slice ra LL.length rc) X LL LL.length AD) (hP:PivI wa wr xb cv (.slice ra LL.length rc) (.slice pa n pc) n) (hw:w0.heap.size≤xb) :
 ∃B:XeB,B.xb=xb∧B.cv=cv∧B.Nd∧XeAt wr B (rowsE X LL) (List.replicate n (-1)) false∧(∀k,B.M k→w0.heap.size≤k)∧Ext w0 wr:=by
 have hx:=(Array.getElem?_eq_some_iff.1 hR.x).1
 have hsz:=hP.chg.size
 have hrl:(rowsE X LL).length=LL.length:=by unfold rowsE;simp
 have hrow:∀(i:Nat) ad r,AD[i]?=some ad→(rowsE X LL)[i]?=some r→RowAt wr ad r:=fun i ad r h1 h2=>by
  have hi:i<LL.length:=by rw [←hrl];exact (List.getElem?_eq_some_iff.1 h2).1
  rw [rowsE_at hi] at h2
  cases h2
  have h3:=hR.row i ad h1
  have h4:=hR.one ad (List.mem_of_getElem? h1)
  exact ⟨hP.chg.keep h3.row (by omega),hP.chg.keep h3.pw (by omega),hP.chg.keep h3.ks (by omega)⟩
 have hadlt:∀a∈AD,a.1<wa.heap.size∧a.2.1<wa.heap.size∧a.2.2<wa.heap.size:=fun a ha=>by
  obtain ⟨i,hi⟩:=List.mem_iff_getElem?.1 ha
  exact (hR.row i a hi).lt
 obtain ⟨rg,rr,hr1,hr2,hr3⟩:∃(rg:Nat) (rr:List Value),(rowsE X LL≠[]→ra=some ⟨rg,0,none⟩∧wr.heap[rg]?=some (.cells (AD.map ptrA++rr).toArray 59))∧(rg=wr.heap.size+1∨(xb<rg∧rg<wa.heap.size∧∀a∈AD,rg≠a.1∧rg≠a.2.1∧rg≠a.2.2))∧True:=by
  by_cases hne:LL=[]
  · exact ⟨wr.heap.size+1,[],fun h=>absurd (by rw [List.eq_nil_iff_length_eq_zero,hrl,hne];rfl) h,.inl rfl,trivial⟩
  · have hAne:AD≠[]:=by
     intro h
     have:=hR.al
     rw [h] at this
     exact hne (List.eq_nil_iff_length_eq_zero.2 this.symm)
    obtain ⟨g,rest,h1,h2,h3⟩:=own_block (f:=ptrA) cells_elRp rfl hR.own hAne
    have hlt:=(Array.getElem?_eq_some_iff.1 h3).1
    refine ⟨g,rest,fun _=>⟨h1,hP.chg.keep h3 (by omega)⟩,.inr ⟨by omega,hlt,fun a ha=>?_⟩,trivial⟩
    obtain ⟨i,hi⟩:=List.mem_iff_getElem?.1 ha
    have h4:=hR.row i a hi
    exact ⟨cells_ne h3 h4.row (by decide),cells_ne h3 h4.pw (by decide),cells_ne h3 h4.ks (by decide)⟩
 obtain ⟨pg,pr,hp1,hp2⟩:∃(pg:Nat) (pr:List Value),(List.replicate n (-1:Int)≠[]→pa=some ⟨pg,0,none⟩∧wr.heap[pg]?=some (.cells ((List.replicate n (-1:Int)).map (Value.int .i64)++pr).toArray 3))∧(pg=wr.heap.size+2∨(wa.heap.size≤pg∧pg<wr.heap.size)):=by
  by_cases hne:List.replicate n (-1:Int)=[]
  · exact ⟨wr.heap.size+2,[],fun h=>absurd hne h,.inl rfl⟩
  · obtain ⟨g,rest,h1,h2,h3⟩:=own_block (f:=Value.int .i64) cells_elI rfl hP.own hne
    exact ⟨g,rest,fun _=>⟨h1,h3⟩,.inr ⟨h2,(Array.getElem?_eq_some_iff.1 h3).1⟩⟩
 refine ⟨⟨xb,cv,ra,rc,rg,rr,pa,pc,pg,pr,AD⟩,rfl,rfl,⟨fun a ha=>?_,?_,hR.two⟩,⟨?_,hr1,hp1,by rw [hrl];exact hR.al,hrow⟩,fun k hk=>?_,?_⟩
 · have h1:=hR.one a ha
   have h2:=hadlt a ha
   refine ⟨⟨by show xb≠_;omega,by show xb≠_;omega,by show xb≠_;omega⟩,?_,⟨by show pg≠_;omega,by show pg≠_;omega,by show pg≠_;omega⟩,h1.2⟩
   rcases hr2 with h3 | ⟨-,-,h3⟩
   · exact ⟨by show rg≠_;omega,by show rg≠_;omega,by show rg≠_;omega⟩
   · exact h3 a ha
 · exact ⟨by show xb≠rg;omega,by show xb≠pg;omega,by show rg≠pg;omega⟩
 · rw [hrl,List.length_replicate];exact hP.x
 · rcases hk with h | h | ⟨a,ha,h⟩
   · rw [h];exact hw
   · rw [h]
     have:=hR.ext.size
     show w0.heap.size≤pg
     omega
   · have:=(hR.one a ha).1
     omega
 · exact hP.chg.ext hR.ext (fun k hk=>by rw [hk];exact hw)
/-- blocks that no row has are named anew -/
theorem XeAt.rename {w w':World} {B:XeB} {R:List ERow} {P:List Int} {lg:Bool} {t:Nat × Nat × Nat} {r:ERow} (h:XeAt w B R P lg) (hN:B.Nd) (hE:Ext w w') (ht:RowAt w' t r) (hn:w.heap.size≤t.1∧w.heap.size≤t.2.1∧w.heap.size≤t.2.2) (hne:t.1≠t.2.1∧t.1≠t.2.2∧t.2.1≠t.2.2) :
 ∃B':XeB,B'.xb=B.xb∧B'.cv=B.cv∧B'.Nd∧TrD B' t∧XeAt w' B' R P lg:=by
 have h':=h.ext hE
 have hx:=(Array.getElem?_eq_some_iff.1 h.x).1
 have hs:=hE.size
 have htl:=ht.lt
 have hadlt:∀a∈B.AD,a.1<w.heap.size∧a.2.1<w.heap.size∧a.2.2<w.heap.size:=fun a ha=>by
  obtain ⟨i,hi⟩:=List.mem_iff_getElem?.1 ha
  have hil:i<R.length:=by rw [←h.al];exact (List.getElem?_eq_some_iff.1 hi).1
  exact (h.row i a _ hi (List.getElem?_eq_getElem hil)).lt
 obtain ⟨rg,hr1,hr2⟩:∃rg,(R≠[]→rg=B.rg∧rg<w.heap.size)∧(R=[]→rg=w'.heap.size+1):=by
  by_cases e:R=[]
  · exact ⟨_,fun h=>absurd e h,fun _=>rfl⟩
  · exact ⟨B.rg,fun _=>⟨rfl,(Array.getElem?_eq_some_iff.1 (h.rows e).2).1⟩,fun h=>absurd h e⟩
 obtain ⟨pg,hp1,hp2⟩:∃pg,(P≠[]→pg=B.pg∧pg<w.heap.size)∧(P=[]→pg=w'.heap.size+2):=by
  by_cases e:P=[]
  · exact ⟨_,fun h=>absurd e h,fun _=>rfl⟩
  · exact ⟨B.pg,fun _=>⟨rfl,(Array.getElem?_eq_some_iff.1 (h.piv e).2).1⟩,fun h=>absurd h e⟩
 have hxr:=hN.xr
 have hrc:(rg=B.rg∧rg<w.heap.size)∨rg=w'.heap.size+1:=by
  by_cases e:R=[]
  · exact .inr (hr2 e)
  · exact .inl (hr1 e)
 have hpc:(pg=B.pg∧pg<w.heap.size)∨pg=w'.heap.size+2:=by
  by_cases e:P=[]
  · exact .inr (hp2 e)
  · exact .inl (hp1 e)
 refine ⟨{ B with rg:=rg,pg:=pg },rfl,rfl,⟨fun a ha=>?_,?_,hN.two⟩,⟨hne,⟨by show B.xb≠_;omega,by show B.xb≠_;omega,by show B.xb≠_;omega⟩,⟨by show rg≠_;omega,by show rg≠_;omega,by show rg≠_;omega⟩,⟨by show pg≠_;omega,by show pg≠_;omega,by show pg≠_;omega⟩,fun a ha=>?_⟩,⟨h'.x,fun e=>?_,fun e=>?_,h'.al,h'.row⟩⟩
 · have h1:=hN.x a ha
   have h2:=hadlt a ha
   refine ⟨h1.1,?_,?_,h1.2.2.2⟩
   · rcases hrc with ⟨e,-⟩ | e
     · show (rg≠_∧rg≠_∧rg≠_);rw [e];exact h1.2.1
     · exact ⟨by show rg≠_;omega,by show rg≠_;omega,by show rg≠_;omega⟩
   · rcases hpc with ⟨e,-⟩ | e
     · show (pg≠_∧pg≠_∧pg≠_);rw [e];exact h1.2.2.1
     · exact ⟨by show pg≠_;omega,by show pg≠_;omega,by show pg≠_;omega⟩
 · exact ⟨by show B.xb≠rg;omega,by show B.xb≠pg;omega,by show rg≠pg;omega⟩
 · have h2:=hadlt a ha
   exact ⟨⟨by omega,by omega,by omega⟩,⟨by omega,by omega,by omega⟩,⟨by omega,by omega,by omega⟩⟩
 · show _∧w'.heap[rg]?=_
   rw [(hr1 e).1];exact h'.rows e
 · show _∧w'.heap[pg]?=_
   rw [(hp1 e).1];exact h'.piv e
end Go.Proofs.YtclijngnoepbiaaGreat
