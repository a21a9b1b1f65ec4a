/- Contracts: the elimination of exponents: its columns. Contracts: the elimination of exponents: columns. Contracts: the elimination of exponents: the powers of a product in the columns. Contracts: lists of products: a copy; the rows of an elimination as it begins. -/
import Derived.Test.YtclijngnoepbiaaGreatPu2
import Derived.Test.YtclijngnoepbiaaGreatPu3
import Derived.Test.YtclijngnoepbiaaGreatPt8
import Derived.Test.YtclijngnoepbiaaGreatPt6
set_option maxRecDepth 100000
set_option maxHeartbeats 8000000
namespace Go.Proofs.YtclijngnoepbiaaGreat
open Go Go.RowKit
set_option linter.unusedVariables false
set_option linter.unusedSimpArgs false

theorem atm_inj {i j:Nat} (hi:i<6) (hj:j<6) (h:atmT i=atmT j):i=j:=by
 have h1:=atm_cmp hi hj
 rw [h,atm_cmp hj hj] at h1
 simp only [Nat.lt_irrefl,if_false] at h1
 by_cases a:i<j
 · rw [if_pos a] at h1;omega
 · rw [if_neg a] at h1
   by_cases b:j<i
   · rw [if_pos b] at h1;omega
   · omega
/-- atoms, ascending, as terms -/
theorem asc_atoms {L:List Tm} (h:Asc L) (hm:∀t∈L,∃i,i<6∧t=atmT i):∃X:List Nat,L=X.map atmT∧X.Pairwise (·<·)∧∀x∈X,x<6:=by
 induction L with
 | nil=>exact ⟨[],rfl,List.Pairwise.nil,fun x hx=>by simp at hx⟩
 | cons t L ih =>
   obtain ⟨X,rfl,h1,h2⟩:=ih (List.pairwise_cons.1 h).2 (fun u hu=>hm u (List.mem_cons_of_mem _ hu))
   obtain ⟨i,hi,rfl⟩:=hm t (List.mem_cons_self ..)
   refine ⟨i :: X,rfl,List.pairwise_cons.2 ⟨fun x hx=>?_,h1⟩,fun x hx=>?_⟩
   · have h3:=(List.pairwise_cons.1 h).1 (atmT x) (List.mem_map_of_mem hx)
     rw [ltT_iff,atm_cmp hi (h2 x hx)] at h3
     by_cases a:i<x
     · exact a
     · rw [if_neg a] at h3
       split at h3<;>omega
   · rcases List.mem_cons.1 hx with e | e
     · rw [e];exact hi
     · exact h2 x e
def atC (x:Nat):List Value:=[.int .i64 2,.string (ltr x),.int .i64 2,.slice none 0 0]
/-- atoms in memory -/
def elAt:Elm Nat where
 n:=4
 R w S x cs:=cs=atC x∧x<6
 len:=by rintro w S x cs ⟨rfl,-⟩;rfl
 one:=by
  rintro w S x cs ⟨rfl,-⟩ u hu
  simp [atC] at hu
  rcases hu with rfl | rfl | rfl | rfl<;>rfl
 keep:=by rintro w w' S S' x cs ⟨rfl,h1⟩ _ _;exact ⟨rfl,h1⟩
theorem atAt {w:World} {S:Nat→Prop} {a:Option Addr} {n cap q x:Nat} {X:List Nat} (h:LsG elAt w S (.slice a n cap) X) (hq:X[q]?=some x) :
 x<6∧∃b off,a=some ⟨b,off,none⟩∧b<w.heap.size∧w.cell? ⟨b,off+q*4,none⟩=some (.int .i64 2)∧w.cell? ⟨b,off+q*4+1,none⟩=some (.string (ltr x))∧w.cell? ⟨b,off+q*4+2,none⟩=some (.int .i64 2)∧w.cell? ⟨b,off+q*4+3,none⟩=some (.slice none 0 0):=by
 obtain ⟨b,off,cs,rfl,-,hlt,⟨rfl,h6⟩,hcs⟩:=h.at hq
 exact ⟨h6,b,off,rfl,hlt,hcs 0 _ rfl,hcs 1 _ rfl,hcs 2 _ rfl,hcs 3 _ rfl⟩
theorem ColW.of {w:World} {S:Nat→Prop} {ca:Option Addr} {n cc:Nat} {X:List Nat} (h:LsG elAt w S (.slice ca n cc) X):ColW w ca X:=⟨fun i x hi=>atAt h hi⟩
theorem at_e {w:World} {p x:Nat} {S:Nat→Prop} (h:w.heap[p]?=some (.cells #[.int .i64 2,.string (ltr x),.int .i64 2,.slice none 0 0] 33)) (h6:x<6):LsE elAt w S (.slice (some ⟨p,0,none⟩) 1 1) [x] :=
 cells_lsE (P:=[(x,atC x)]) h rfl rfl rfl (by simp [maxLen]) (by intro p hp;simp at hp;subst hp;exact ⟨rfl,h6⟩)
theorem flatMap_eq {α β:Type} {f g:α→List β}:∀{L:List α},(∀x∈L,f x=g x)→L.flatMap f=L.flatMap g:=by
 intro L
 induction L with
 | nil=>exact fun _=>rfl
 | cons x L ih =>
   intro h
   rw [List.flatMap_cons,List.flatMap_cons,h x (List.mem_cons_self ..),ih (fun y hy=>h y (List.mem_cons_of_mem _ hy))]
theorem own_row {w:World} {base:Nat} {S:Nat→Prop} {v:Value} {X:List Nat} (h:OwnG elAt w base 33 S v X):w.ownsRow base 33 4 v X.length (X.flatMap atC)∧∀x∈X,x<6:=by
 obtain ⟨P,rfl,h1,h2⟩:=h
 have h3:P.flatMap (·.2)=(P.map (·.1)).flatMap atC:=by
  rw [List.flatMap_map]
  exact flatMap_eq (fun p hp=>(h1 p hp).1)
 refine ⟨by rw [List.length_map,←h3];exact h2,fun x hx=>?_⟩
 obtain ⟨p,hp,rfl⟩:=List.mem_map.1 hx
 exact (h1 p hp).2
theorem row_own {w:World} {base:Nat} {S:Nat→Prop} {v:Value} {X:List Nat} (h:w.ownsRow base 33 4 v X.length (X.flatMap atC)) (h6:∀x∈X,x<6):OwnG elAt w base 33 S v X :=
 ⟨X.map (fun x=>(x,atC x)),by rw [List.map_map];exact List.map_id _,fun p hp=>by obtain ⟨x,hx,rfl⟩:=List.mem_map.1 hp;exact ⟨rfl,h6 x hx⟩,by rw [List.length_map,List.flatMap_map];exact h⟩
theorem row_terms {w:World} {base:Nat} {S:Nat→Prop} {v:Value} {X:List Nat} (h:w.ownsRow base 33 4 v X.length (X.flatMap atC)):OwnT w base S v (X.map atmT) :=
 ⟨X.map (fun x=>⟨atmT x,none,0⟩),by rw [List.map_map];rfl,by rw [List.length_map,List.flatMap_map];exact h,fun e he=>by obtain ⟨x,-,rfl⟩:=List.mem_map.1 he;exact atm_w x⟩
/-- atoms are sorted -/
theorem sort_atoms {w:World} {base:Nat} {v:Value} {X:List Nat} (hR:w.ownsRow base 33 4 v X.length (X.flatMap atC)) (h6:∀x∈X,x<6) (hl:X.length≤1000000) :
 Calls Tryz.prog 123 #[v,.func (.func 42) #[] #[]] w fun e w'=>e=.returned (.tuple #[]) ∧
  ∃X':List Nat,X'.Perm X∧(X'.map atmT).Pairwise (fun a b=>¬ltT b a)∧w'.ownsRow base 33 4 v X'.length (X'.flatMap atC)∧w.grownBy w' v.ownBlock:=by
 by_cases hE:X=[]
 · subst hE
   have hv:∃p cap,v=.slice p 0 cap:=by
    rcases hR.2 with ⟨h,-⟩ | ⟨g',cap',cur,h,-⟩
    · exact ⟨_,_,h⟩
    · exact ⟨_,_,h⟩
   obtain ⟨p,cap,hv⟩:=hv
   rw [hv]
   have hcon:=AnyF.slices_SortFunc_none sortT p cap (.func (.func 42) #[] #[]) w
   change Calls Tryz.prog 123 _ _ _ at hcon
   refine hcon.mono ?_
   rintro e w' ⟨rfl,rfl⟩
   rw [←hv]
   exact ⟨rfl,[],by simp,by simp,hR,grown_self _ _⟩
 · obtain ⟨e0,E0,rfl⟩:=List.exists_cons_of_ne_nil hE
   haveI:Inhabited {x:Nat // x<6}:=⟨⟨0,by omega⟩⟩
   obtain ⟨D,hD⟩:∃D:List {x:Nat // x<6},D.map (·.1)=e0 :: E0 :=
    ⟨(e0 :: E0).attach.map (fun e=>⟨e.1,h6 e.1 e.2⟩),by rw [List.map_map];exact List.attach_map_subtype_val _⟩
   obtain ⟨encA,hA⟩:∃encA:{x:Nat // x<6}→List Value,encA=fun x=>atC x.1:=⟨_,rfl⟩
   have hk:∀x,(encA x).length=4:=fun x=>by rw [hA];rfl
   have hn:(e0 :: E0).length=D.length:=by rw [←hD,List.length_map]
   have hf:(e0 :: E0).flatMap atC=D.flatMap encA:=by rw [←hD,hA,List.flatMap_map]
   have hpos:0<D.length:=by rw [←hn];simp
   rw [hf,hn] at hR
   obtain ⟨g,cap,rfl,-,-,-,-⟩:=row2_slice hR hpos
   obtain ⟨hH,hlt,hbs,hW⟩:=onw_holds hk hR rfl
   have hsz:D.toArray.size=D.length:=by simp
   have eg:∀args w,(callFunc 42 args).run Tryz.prog w=.ok (.enter 42 args) w:=enters_of Tryz.func42 (by kernel_rfl) rfl
   have hcmp:CmpLays Tryz.prog 42 #[] encA 4 (fun x y=>cmpT (atmT x.1) (atmT y.1)) g 0 D.toArray.size w:=by
    intro m os dk hdk x y
    rw [hA]
    have hsz:∀i,sizeT (atmT i)≤1000000:=fun i=>by unfold atmT sizeT sizeL;omega
    refine (PCompare_any _ _ (fun _=>False) (fun _=>False) _ _ _ _ (atmT x.1) (atmT y.1) (Nat.le_refl _) (hsz _) (hsz _) (atm_w _) (atm_w _)).mono ?_
    rintro e w' ⟨rfl,hE⟩
    exact ⟨rfl,hE.grw⟩
   have hcon:=AnyQ.slices_SortFunc sortT 4 Tryz.isAgg33 Tryz.sizeOf33 encA hk (fun x u hu=>by rw [hA] at hu;simp [atC] at hu;rcases hu with rfl | rfl | rfl | rfl<;>rfl) (fun x y=>cmpT (atmT x.1) (atmT y.1)) (swo_terms fun x:{x:Nat // x<6}=>atmT x.1) 42 #[] g 0 cap D.toArray w eg hcmp hH hlt (by rw [hsz,←hn];omega)
   rw [hsz] at hcon
   change Calls Tryz.prog 123 _ _ _ at hcon
   refine hcon.mono ?_
   rintro e w' ⟨rfl,d',m,os,hp,hs,rfl⟩
   have hd:d'.size=D.length:=by rw [hp.1,hsz]
   obtain ⟨r1,r2⟩:=hW m d' os hd
   have hperm:d'.toList.Perm D:=by
    have:=hp.2.2
    rw [←hd,Array.extract_size,hd,←hsz,Array.extract_size] at this
    simpa using this
   refine ⟨rfl,d'.toList.map (·.1),?_,?_,?_,r2⟩
   · rw [←hD];exact hperm.map _
   · rw [List.map_map,List.pairwise_map]
     refine List.pairwise_iff_getElem.2 (fun i j hi hj hij=>?_)
     have hi':i<d'.size:=by simpa using hi
     have hj':j<d'.size:=by simpa using hj
     have h3:=hs i j (Nat.zero_le _) hij (by omega)
     rw [getElem!_pos d' i hi',getElem!_pos d' j hj'] at h3
     unfold ltOf at h3
     exact fun h=>of_decide_eq_false h3 (ltT_iff.1 (by simpa using h))
   · have e1:(d'.toList.map (·.1)).length=D.length:=by rw [List.length_map];exact hd
     have e2:(d'.toList.map (·.1)).flatMap atC=d'.toList.flatMap encA:=by rw [List.flatMap_map,hA]
     rw [e1,e2]
     exact r1
theorem map_back {α β:Type} {f:α→β} {X:List α}:∀{L:List β},(∀y∈L,∃x,x∈X∧f x=y)→∃M:List α,M.map f=L∧∀m∈M,m∈X:=by
 intro L
 induction L with
 | nil=>exact fun _=>⟨[],rfl,fun m hm=>by simp at hm⟩
 | cons y L ih =>
   intro h
   obtain ⟨M,rfl,hM⟩:=ih (fun z hz=>h z (List.mem_cons_of_mem _ hz))
   obtain ⟨x,hx,rfl⟩:=h y (List.mem_cons_self ..)
   exact ⟨x :: M,rfl,fun m hm=>by rcases List.mem_cons.1 hm with e | e;rw [e];exact hx;exact hM m e⟩
theorem compN_mem {E:List TE}:∀{m:Nat} {e:TE},e∈compN E m→e∈E:=by
 intro m
 induction m with
 | zero=>intro e h;simp [compN] at h
 | succ m ih =>
   intro e h
   rw [compN] at h
   rcases List.mem_append.1 h with h1 | h1
   · exact ih h1
   · split at h1
     · exact List.mem_of_getElem? (Option.mem_toList.1 h1)
     · simp at h1
/-- sorted atoms are compacted -/
theorem compact_atoms {w:World} {base:Nat} {v:Value} {X:List Nat} (hR:w.ownsRow base 33 4 v X.length (X.flatMap atC)) (h6:∀x∈X,x<6) (hs:(X.map atmT).Pairwise (fun a b=>¬ltT b a)) :
 Calls Tryz.prog 124 #[v,.func (.func 125) #[] #[]] w fun e w'=>∃(v':Value) (X':List Nat),e=.returned v'∧X'.Pairwise (·<·)∧(∀x,x∈X'↔x∈X)∧OwnG elAt w' base 33 (fun _=>False) v' X'∧v'.ownBlock=v.ownBlock∧w.grownBy w' v.ownBlock:=by
 by_cases hE:X=[]
 · subst hE
   have hv:∃p cap,v=.slice p 0 cap:=by
    rcases hR.2 with ⟨h,-⟩ | ⟨g',cap',cur,h,-⟩
    · exact ⟨_,_,h⟩
    · exact ⟨_,_,h⟩
   obtain ⟨p,cap,hv⟩:=hv
   rw [hv]
   refine (compact_none p cap w).mono ?_
   rintro e w' ⟨rfl,hE⟩
   rw [←hv]
   exact ⟨v,[],rfl,List.Pairwise.nil,by simp,row_own (ownsRow_ext hR hE) (by simp),rfl,grown_put' hE _⟩
 · have hpos:0<X.length:=List.length_pos_iff.2 hE
   obtain ⟨g,cap,rfl,h1,h2,h3,h4⟩:=row2_slice hR hpos
   rcases hR.2 with ⟨h,-⟩ | ⟨g',cap',cur,hv,hb,hblk,hn,hc,hsz,htk⟩
   · cases h
   cases hv
   obtain ⟨E,hEE⟩:∃E,E=X.map (fun x=>(⟨atmT x,none,0⟩:TE)):=⟨_,rfl⟩
   have hEl:E.length=X.length:=by rw [hEE,List.length_map]
   have hEf:E.flatMap encE=X.flatMap atC:=by rw [hEE,List.flatMap_map];rfl
   have hEt:E.map (·.t)=X.map atmT:=by rw [hEE,List.map_map];rfl
   rw [←hEl] at hn htk
   rw [←hEf] at htk
   have hcur:cur=(E.flatMap encE++cur.toList.drop (E.length*4)).toArray:=by
    rw [←htk,List.take_append_drop]
   have hI:CpI w w g (fun _=>False) E (cur.toList.drop (E.length*4)):=⟨by rw [←hcur];exact hblk,fun e he=>by rw [hEE] at he;obtain ⟨x,-,rfl⟩:=List.mem_map.1 he;exact atm_w x,grown_self _ _⟩
   rw [←hEl]
   refine (compact_any hI (fun c hc h=>absurd hc id) (by rw [hEl];exact hpos) hn hc (by rw [List.length_drop,Array.length_toList,hsz,Nat.sub_mul]) (fun e he=>by rw [hEE] at he;obtain ⟨x,-,rfl⟩:=List.mem_map.1 he;show sizeT (atmT x)≤1000000;unfold atmT sizeT sizeL;omega)).mono ?_
   rintro e w' ⟨cur',rfl,c1,c2,c3,c4,c5⟩
   obtain ⟨a1,a2⟩:=compN_all (E:=E) (by rw [hEt];exact hs)
   obtain ⟨X',hX',hXm⟩:=map_back (X:=X) (f:=fun x=>(⟨atmT x,none,0⟩:TE)) (L:=compN E E.length) (fun e he=>by
    have:=compN_mem he
    rw [hEE] at this
    obtain ⟨x,hx,hxe⟩:=List.mem_map.1 this
    exact ⟨x,hx,hxe⟩)
   have hX6:∀x∈X',x<6:=fun x hx=>h6 x (hXm x hx)
   have hXl:X'.length=(compN E E.length).length:=by rw [←hX',List.length_map]
   have hXf:X'.flatMap atC=(compN E E.length).flatMap encE:=by rw [←hX',List.flatMap_map];rfl
   have hXt:(compN E E.length).map (·.t)=X'.map atmT:=by rw [←hX',List.map_map];rfl
   rw [hXt] at a1 a2
   obtain ⟨Y,hY,hY1,hY2⟩:=asc_atoms a1 (fun t ht=>by obtain ⟨x,hx,rfl⟩:=List.mem_map.1 ht;exact ⟨x,hX6 x hx,rfl⟩)
   have hXY:X'=Y:=by
    have hlen:X'.length=Y.length:=by have:=congrArg List.length hY;simpa using this
    refine List.ext_getElem hlen (fun i h1 h2=>?_)
    have h3:(X'.map atmT)[i]?=(Y.map atmT)[i]?:=by rw [hY]
    rw [List.getElem?_map,List.getElem?_map,List.getElem?_eq_getElem h1,List.getElem?_eq_getElem h2] at h3
    exact atm_inj (hX6 _ (List.getElem_mem h1)) (hY2 _ (List.getElem_mem h2)) (Option.some.inj h3)
   refine ⟨_,X',rfl,by rw [hXY];exact hY1,fun x=>?_,row_own ⟨?_,?_⟩ hX6,rfl,c5⟩
   · constructor
     · intro hx
       have h5:=(a2 (atmT x)).1 (List.mem_map_of_mem hx)
       rw [hEt] at h5
       obtain ⟨y,hy,he⟩:=List.mem_map.1 h5
       rw [←atm_inj (h6 y hy) (hX6 x hx) he];exact hy
     · intro hx
       have h5:=(a2 (atmT x)).2 (by rw [hEt];exact List.mem_map_of_mem hx)
       obtain ⟨y,hy,he⟩:=List.mem_map.1 h5
       rw [←atm_inj (hX6 y hy) (h6 x hx) he];exact hy
   · rw [hXl,hXf];exact flatE_len encE_len _
   · exact .inr ⟨g,cap,cur',by rw [hXl],hb,c2,by rw [hXl];exact Nat.le_trans (compN_le _ _) hn,hc,c1,by rw [hXf,hXl];exact c3⟩
/-- the terms of the first q products -/
def colF (LL:List (List Pw)) (q:Nat):List Pw:=(LL.take q).flatten
theorem colF_next {LL:List (List Pw)} {q:Nat} {L:List Pw} (h:LL[q]?=some L):colF LL (q+1)=colF LL q++L:=by
 unfold colF
 rw [List.take_add_one,h]
 simp
theorem colF_len {LL:List (List Pw)} (h:∀L∈LL,L.length≤6):∀q,(colF LL q).length≤q*6:=by
 intro q
 induction q with
 | zero=>simp [colF]
 | succ q ih =>
   rcases Nat.lt_or_ge q LL.length with h1 | h1
   · have h2:=List.getElem?_eq_getElem h1
     rw [colF_next h2,List.length_append]
     have:=h _ (List.getElem_mem h1)
     omega
   · have:colF LL (q+1)=colF LL q:=by unfold colF;rw [List.take_of_length_le (by omega),List.take_of_length_le (by omega)]
     rw [this];omega

theorem infTm:(Tryz.prog.info? 33).map (fun i=>(i.zero,i.size,i.bytes))=some (some (.agg #[.int .i64 0,.string ⟨#[]⟩,.int .i64 0,.slice none 0 0]),4,56):=by kernel_rfl
/-- the columns of products -/
structure ColsP (LL:List (List Pw)) (X:List Nat):Prop where
 asc:X.Pairwise (·<·)
 mem:∀x,x∈X↔∃L∈LL,∃p∈L,p.1=x
theorem columns_any {w:World} {S:Nat→Prop} {a:Option Addr} {cap:Nat} {LL:List (List Pw)} (hL:LsG (elL elPw) w S (.slice a LL.length cap) LL) (hl:LL.length≤20) (h6:∀L∈LL,L.length≤6) :
 Calls Tryz.prog 91 #[.slice a LL.length cap] w fun e w'=>∃(v:Value) (X:List Nat),e=.returned v∧Ext w w'∧ColsP LL X∧OwnG elAt w' w.heap.size 33 (fun _=>False) v X:=by
 have HL:=Lib.hid hL
 have HL6:=Lib.hid h6
 have HCF:=Lib.hid (colF_len h6)
 have HO0:Hid (OwnG elAt w w.heap.size 33 (fun _=>False) (.slice none 0 0) ((colF LL 0).map (·.1))):=Lib.hid OwnG.nil
 have HE0:Hid (Ext w w):=Lib.hid (Ext.refl _)
 have hwk:∀q:Nat,q≤1000000→IntKind.i64.wrap ((q:Int)+1)=((q+1:Nat):Int):=fun q hq=>by rw [IntKind.wrap_i64];omega
 clear hL h6
 obtain ⟨w0,hw0⟩:∃w0,w0=w:=⟨_,rfl⟩
 go_enter Tryz.func91,Tryz.ntmps91
 go_upto_region 3 with fail
 go_loopw [3,5,7,10,16] (fun ov _ _ kv _ wr=>∃(q:Nat) (va:Option Addr) (n vc:Nat),ov=.slice va n vc∧kv=.int .i64 q∧q≤LL.length∧Hid (Ext w wr)∧Hid (OwnG elAt wr w.heap.size 33 (fun _=>False) (.slice va n vc) ((colF LL q).map (·.1)))) (fun _ _ _ kv _ _=>LL.length-(intOf kv).toNat)
 case atStart=>exact ⟨0,none,0,0,rfl,rfl,by omega,HE0,HO0⟩
 case round =>
  clear HO0 HE0
  obtain ⟨q,va,n,vc,rfl,rfl,hq,HE,HO⟩:=hrel
  by_cases hlt:q<LL.length
  · have hqi : (q : Int)<(LL.length:Int):=by omega
    have hq0:(0:Int)≤(q:Int):=by omega
    have wq:=hwk q (by omega)
    obtain ⟨L,hx⟩:∃L,LL[q]?=some L:=⟨_,List.getElem?_eq_getElem hlt⟩
    obtain ⟨b,off,la,lc,rfl,p0,hlc1,hlc2,hLL⟩:=HL.out.lAt hx
    have p0:=cs_ext HE.out p0
    have HLW:=Lib.hid (hLL.any)
    have hL6:=HL6.out L (List.mem_of_getElem? hx)
    have HNX:Hid (colF LL (q+1)=colF LL q++L):=Lib.hid (colF_next hx)
    have HCQ:Hid ((colF LL q).length≤120):=Lib.hid (by have:=HCF.out q;omega)
    have HO0:Hid (OwnG elAt wr w.heap.size 33 (fun _=>False) (.slice va n vc) ((colF LL q++L.take 0).map (·.1))):=Lib.hid (by rw [List.take_zero,List.append_nil];exact HO.out)
    have HE0:=HE
    clear hx hLL HO HE
    go_upto_region 6 with fail
    go_loopw [3,7,16] (fun ov _ kv wr=>∃(r:Nat) (va:Option Addr) (n vc:Nat),ov=.slice va n vc∧kv=.int .i64 r∧r≤L.length∧Hid (Ext w wr)∧Hid (OwnG elAt wr w.heap.size 33 (fun _=>False) (.slice va n vc) ((colF LL q++L.take r).map (·.1)))) (fun _ _ kv _=>L.length-(intOf kv).toNat)
    case atStart=>exact ⟨0,va,n,vc,rfl,rfl,by omega,HE0,HO0⟩
    case round =>
     clear HO0 HE0
     obtain ⟨r,va,n,vc,rfl,rfl,hr,HER,HOR⟩:=hrel
     by_cases hlr:r<L.length
     · have hri : (r:Int)<(L.length:Int):=by omega
       have hr0:(0:Int)≤(r:Int):=by omega
       have wrr:=hwk r (by omega)
       obtain ⟨x,hx⟩:∃x,L[r]?=some x:=⟨_,List.getElem?_eq_getElem hlr⟩
       obtain ⟨b2,o2,rfl,hb,y0,y1,y2,y3,y4,hx6,hI⟩:=pwAt (HLW.out.ext HER.out) hx
       have HN2:Hid ((colF LL q++L.take (r+1)).map (·.1)=(colF LL q++L.take r).map (·.1)++[x.1]):=Lib.hid (by rw [getT hx,←List.append_assoc,List.map_append];rfl)
       have HXF:=Lib.hid hx6
       have HML:Hid (((colF LL q++L.take r).map (·.1)).length≤1000):=Lib.hid (by rw [List.length_map,List.length_append,List.length_take];have:=HCQ.out;omega)
       obtain ⟨pb,w2,hpb,hw2,HPB,hE2⟩:=box_new wr (.cells #[.int .i64 2,.string (ltr x.1),.int .i64 2,.slice none 0 0,.int .i64 x.2] 66)
       obtain ⟨w3,hw3⟩:∃w3,w3=w2.alloc (.cells #[.int .i64 2,.string (ltr x.1),.int .i64 2,.slice none 0 0] 33):=⟨_,rfl⟩
       have hE3:Ext w2 w3:=by rw [hw3];exact Ext.alloc _ _
       have z0:w2.cell? ⟨pb,0,none⟩=some (.int .i64 2):=by rw [cellc HPB.out];rfl
       have z1:w2.cell? ⟨pb,1,none⟩=some (.string (ltr x.1)):=by rw [cellc HPB.out];rfl
       have z2:w2.cell? ⟨pb,2,none⟩=some (.int .i64 2):=by rw [cellc HPB.out];rfl
       have z3:w2.cell? ⟨pb,3,none⟩=some (.slice none 0 0):=by rw [cellc HPB.out];rfl
       have hO3:=HOR.out.ext (hE2.trans hE3)
       have hone:LsE elAt w3 (fun _=>False) (.slice (some ⟨w2.heap.size,0,none⟩) 1 1) [x.1]:=at_e (by rw [hw3];exact hs_new) hx6
       have HE3:=Lib.hid (HER.out.trans (hE2.trans hE3))
       have hsz:w.heap.size≤w3.heap.size:=HE3.out.size
       have HLT:=Lib.hid hO3.lt
       rw [hw3] at hO3 hone hsz
       have HW3:=Lib.hid hw3
       clear hx hx6 hI hE2 hE3 hw3
       go_upto_region 8 with fail
       rw [←hw2,←hpb]
       clear hw2 hpb y0 y1 y2 y3 y4
       go_wp2_with (at_builtin;(refine wpList_appG (E:=elAt) (T:=33) rfl 31 (.tmp 20) (.tmp 23) rfl rfl rfl Tryz.underlying31 infTm rfl (by decide) (by decide) hO3 hsz (fun c h=>absurd h id) (by have:=HML.out;omega) (M:=[x.1]) (by simp) hone ?_);intro v13 w13 o13 g13 k13
                    rw [←HW3.out] at g13
                    obtain ⟨va8,vc8,hv8,-,-⟩:=id o13.slice
                    obtain ⟨n8,hn8⟩:∃n8,n8=((colF LL q++L.take r).map (·.1)++[x.1]).length:=⟨_,rfl⟩
                    rw [←hn8] at hv8
                    rw [hv8] at o13 ⊢
                    have HO9:Hid (OwnG elAt w13 w.heap.size 33 (fun _=>False) (.slice va8 n8 vc8) ((colF LL q++L.take (r+1)).map (·.1))):=Lib.hid (by rw [HN2.out];exact o13)
                    have HE9:Hid (Ext w w13):=Lib.hid (HE3.out.grown g13 (fun c hc=>(HLT.out c hc).1))
                    clear o13 g13 k13 hO3 hone hn8 hv8)
       go_roundw
       case rel=>exact ⟨r+1,va8,n8,vc8,rfl,rfl,by omega,HE9,HO9⟩
       case measure=>simp [intOf];omega
     · have hri:¬(r:Int)<(L.length:Int):=by omega
       have HO2:Hid (OwnG elAt wr w.heap.size 33 (fun _=>False) (.slice va n vc) ((colF LL (q+1)).map (·.1))):=Lib.hid (by rw [HNX.out];have h:=HOR.out;rwa [List.take_of_length_le (by omega)] at h)
       go_wp2_with fail
       go_roundw
       case rel=>exact ⟨q+1,va,n,vc,rfl,rfl,by omega,HER,HO2⟩
       case measure=>simp [intOf];omega
  · have hqi:¬(q:Int)<(LL.length:Int):=by omega
    obtain ⟨C,hC⟩:∃C,C=(colF LL q).map (·.1):=⟨_,rfl⟩
    rw [←hC] at HO
    have hCl:C.length≤1000000:=by rw [hC,List.length_map];have:=HCF.out q;omega
    have HCM:Hid (∀x,x∈C↔∃L∈LL,∃p∈L,p.1=x):=Lib.hid (fun x=>by
     rw [hC,List.mem_map]
     unfold colF
     rw [List.take_of_length_le (by omega)]
     constructor
     · rintro ⟨p,hp,rfl⟩
       obtain ⟨L,h1,h2⟩:=List.mem_flatten.1 hp
       exact ⟨L,h1,p,h2,rfl⟩
     · rintro ⟨L,h1,p,h2,rfl⟩
       exact ⟨p,List.mem_flatten.2 ⟨L,h1,h2⟩,rfl⟩)
    have hrow:=own_row HO.out
    have H6:=Lib.hid hrow.2
    have HS1:=Lib.hid (sort_atoms hrow.1 hrow.2 hCl)
    have HLT:=Lib.hid HO.out.lt
    clear hrow hC HO
    go_wp2_with fail
    refine HS1.out.mono ?_
    rintro e w4 ⟨rfl,X1,hp,hs,hR1,hg1⟩
    have HC1:=Lib.hid (compact_atoms hR1 (fun x hx=>H6.out x (hp.mem_iff.1 hx)) hs)
    have HPM:Hid (∀x,x∈X1↔x∈C):=Lib.hid (fun x=>hp.mem_iff)
    have HE4:Hid (Ext w w4):=Lib.hid (HE.out.grown hg1 (fun c hc=>(HLT.out c hc).1))
    clear hp hs hR1 hg1
    go_wp2_with fail
    refine HC1.out.mono ?_
    rintro e w5 ⟨v5,X5,rfl,hasc,hmem,hO5,hb5,hg5⟩
    have HFI:Hid (Ext w w5∧ColsP LL X5∧OwnG elAt w5 w.heap.size 33 (fun _=>False) v5 X5):=Lib.hid ⟨HE4.out.grown hg5 (fun c hc=>(HLT.out c hc).1),⟨hasc,fun x=>by rw [hmem,HPM.out,HCM.out]⟩,hO5⟩
    clear hasc hmem hO5 hb5 hg5
    go_wp2_with fail
    go_ret
    exact ⟨_,X5,rfl,HFI.out⟩

/-- a product as a vector -/
def vecP (X:List Nat) (L:List Pw):List Int:=X.map (cf L)
theorem vecP_len (X:List Nat) (L:List Pw):(vecP X L).length=X.length:=List.length_map _
theorem cf_snoc:∀{L:List Pw} {p:Pw} (i:Nat),(∀q∈L,q.1≠p.1)→cf (L++[p]) i=if i=p.1 then p.2 else cf L i:=by
 intro L
 induction L with
 | nil =>
   intro p i h
   show (if p.1=i then p.2 else 0)=_
   by_cases e:i=p.1
   · rw [if_pos e,if_pos e.symm]
   · rw [if_neg e,if_neg (fun h=>e h.symm)];rfl
 | cons q L ih =>
   intro p i h
   have h1:=h q (List.mem_cons_self ..)
   show (if q.1=i then q.2 else cf (L++[p]) i)=_
   rw [ih i (fun r hr=>h r (List.mem_cons_of_mem _ hr))]
   show _=if i=p.1 then p.2 else (if q.1=i then q.2 else cf L i)
   by_cases e:q.1=i
   · rw [if_pos e,if_pos e,if_neg (by omega)]
   · rw [if_neg e,if_neg e]
theorem ascN_inj {X:List Nat} (h:X.Pairwise (·<·)) {i j x:Nat} (hi:X[i]?=some x) (hj:X[j]?=some x):i=j:=by
 obtain ⟨h1,e1⟩:=List.getElem?_eq_some_iff.1 hi
 obtain ⟨h2,e2⟩:=List.getElem?_eq_some_iff.1 hj
 rw [List.pairwise_iff_getElem] at h
 rcases Nat.lt_trichotomy i j with h3 | h3 | h3
 · have:=h i j h1 h2 h3;omega
 · exact h3
 · have:=h j i h2 h1 h3;omega
theorem vecP_next {X:List Nat} {L:List Pw} {q i:Nat} {x:Pw} (hX:X.Pairwise (·<·)) (hG:Good L) (hx:L[q]?=some x) (hi:X[i]?=some x.1):vecP X (L.take (q+1))=(vecP X (L.take q)).set i x.2:=by
 unfold vecP
 rw [getT hx]
 have hne:∀p∈L.take q,p.1≠x.1:=fun p hp=>by
  obtain ⟨j,hj⟩:=List.mem_iff_getElem?.1 hp
  have hjq:j<q:=by
   have:=(List.getElem?_eq_some_iff.1 hj).1
   rw [List.length_take] at this;omega
  rw [List.getElem?_take_of_lt hjq] at hj
  have:=pw_asc hG hj hx hjq
  omega
 refine List.ext_getElem? (fun j=>?_)
 rw [List.getElem?_set,List.getElem?_map,List.getElem?_map,List.length_map]
 by_cases e:i=j
 · subst e
   rw [if_pos rfl,hi,if_pos (List.getElem?_eq_some_iff.1 hi).1]
   show some (cf (L.take q++[x]) x.1)=_
   rw [cf_snoc _ hne,if_pos rfl]
 · rw [if_neg e]
   cases hj:X[j]? with
   | none=>rfl
   | some y =>
     show some (cf (L.take q++[x]) y)=some (cf (L.take q) y)
     rw [cf_snoc _ hne,if_neg (fun h=>e (by rw [h] at hj;exact ascN_inj hX hi hj))]
theorem vecP_zero (X:List Nat):vecP X []=List.replicate X.length 0:=by
 unfold vecP
 refine List.ext_getElem (by simp) (fun i h1 h2=>?_)
 simp [cf]
theorem powersOf_any {w:World} {S:Nat→Prop} {base:Nat} {va la:Option Addr} {n vc lc:Nat} {X:List Nat} {L:List Pw} (hO:OwnG elAt w base 33 (fun _=>False) (.slice va n vc) X) (hn:X.length=n) (hX:X.Pairwise (·<·)) (hn2:n≤1000)
 (hL:LsG elPw w S (.slice la L.length lc) L) (hG:Good L) (hm:∀p∈L,p.1∈X) :
 Calls Tryz.prog 93 #[.slice va n vc,.slice la L.length lc] w fun e w'=>∃vb,e=.returned (.slice (some ⟨vb,0,none⟩) n n)∧w.heap.size≤vb∧Ext w w'∧w'.heap[vb]?=some (.cells (intsC (vecP X L)) 3):=by
 have HT:Hid (LsT w (fun _=>False) (.slice va (X.map atmT).length vc) (X.map atmT)):=Lib.hid (by
  have h:=(row_terms (S:=fun _=>False) (own_row hO).1).ls
  rw [List.length_map,hn];exact h)
 have HTL:Hid ((X.map atmT).length=n):=Lib.hid (by rw [List.length_map,hn])
 have HX6:=Lib.hid (own_row hO).2
 have HAS:Hid (Asc (X.map atmT)):=Lib.hid (by
  unfold Asc
  rw [List.pairwise_map]
  refine hX.imp_of_mem (fun {x y} hx hy h=>?_)
  rw [ltT_iff,atm_cmp ((own_row hO).2 x hx) ((own_row hO).2 y hy),if_pos h]
  omega)
 have HSZ:Hid (∀i,sizeT (atmT i)≤1000000):=Lib.hid (fun i=>by unfold atmT sizeT sizeL;omega)
 have HL:=Lib.hid hL
 have HM:=Lib.hid (And.intro hm (And.intro hX hG))
 have HXN:=Lib.hid hn
 have hl6:=hG.len
 have HSE:=Lib.hid (fun (w':World) (hE:Ext w w') (i x:Nat) (hi:X[i]?=some x)=>search_at (w:=w') (p:=atmT x) (a':=none) (cap':=0) (i:=i) (L:=X.map atmT) (fun t ht=>by obtain ⟨y,-,rfl⟩:=List.mem_map.1 ht;exact HSZ.out y) (HSZ.out x) (by rw [HTL.out];omega) HAS.out (HT.out.ext hE) (atm_w (S:=fun _=>False) x) (by rw [List.getElem?_map,hi];rfl))
 rw [HTL.out] at HSE
 obtain ⟨vb,hvb⟩:∃vb,vb=w.heap.size:=⟨_,rfl⟩
 obtain ⟨w1,hw1⟩:∃w1,w1=w.alloc (.cells (intsC (List.replicate n 0)) 3):=⟨_,rfl⟩
 have hmk:(Instr.makeSlice 35 (.int .i64 (n:Int)) (.int .i64 (n:Int))).run Tryz.prog w=.ok (.slice (some ⟨vb,0,none⟩) n n) w1:=by rw [hw1,hvb];exact run_makeI w n (by omega)
 have HE1:Hid (Ext w w1):=Lib.hid (by rw [hw1];exact Ext.alloc _ _)
 have HB1:Hid (w1.heap[vb]?=some (.cells (intsC (vecP X (L.take 0))) 3)):=Lib.hid (by rw [hw1,hvb,List.take_zero,vecP_zero,hn];exact hs_new)
 have HVB:=Lib.hid hvb
 have hwk:∀q:Nat,q≤1000000→IntKind.i64.wrap ((q:Int)+1)=((q+1:Nat):Int):=fun q hq=>by rw [IntKind.wrap_i64];omega
 clear hO hL hm hX hG hn hvb hw1
 go_enter Tryz.func93,Tryz.ntmps93
 go_upto_region 3 with fail
 go_loopw [7,8,9,15] (fun _ _ _ kv wr=>∃q:Nat,kv=.int .i64 q∧q≤L.length∧Hid (Ext w wr)∧Hid (wr.heap[vb]?=some (.cells (intsC (vecP X (L.take q))) 3))) (fun _ _ _ kv _=>L.length-(intOf kv).toNat)
 case atStart=>exact ⟨0,rfl,by omega,HE1,HB1⟩
 case round =>
  clear HE1 HB1 hmk
  obtain ⟨q,rfl,hq,HE,HB⟩:=hrel
  by_cases hlt:q<L.length
  · have hqi:(q:Int)<(L.length:Int):=by omega
    have hq0:(0:Int)≤(q:Int):=by omega
    have wq:=hwk q (by omega)
    obtain ⟨x,hx⟩:∃x,L[q]?=some x:=⟨_,List.getElem?_eq_getElem hlt⟩
    obtain ⟨b,off,rfl,hb,y0,y1,y2,y3,y4,hx6,hI⟩:=pwAt (HL.out.ext HE.out) hx
    obtain ⟨i,hi⟩:=List.mem_iff_getElem?.1 (HM.out.1 x (List.mem_of_getElem? hx))
    have hin:i<n:=by rw [←HXN.out];exact (List.getElem?_eq_some_iff.1 hi).1
    have hiz:(i:Int)<(n:Int):=by omega
    have hi0:(0:Int)≤(i:Int):=by omega
    have HNX:=Lib.hid (vecP_next HM.out.2.1 HM.out.2.2 hx hi)
    have HS1:=Lib.hid (fun (w':World) (hE:Ext wr w')=>HSE.out w' (HE.out.trans hE) i x.1 hi)
    have hxl:i<(vecP X (L.take q)).length:=by rw [vecP_len,HXN.out];exact hin
    obtain ⟨pb,w2,hpb,hw2,HPB,hE2⟩:=box_new wr (.cells #[.int .i64 2,.string (ltr x.1),.int .i64 2,.slice none 0 0,.int .i64 x.2] 66)
    have z0:w2.cell? ⟨pb,0,none⟩=some (.int .i64 2):=by rw [cellc HPB.out];rfl
    have z1:w2.cell? ⟨pb,1,none⟩=some (.string (ltr x.1)):=by rw [cellc HPB.out];rfl
    have z2:w2.cell? ⟨pb,2,none⟩=some (.int .i64 2):=by rw [cellc HPB.out];rfl
    have z3:w2.cell? ⟨pb,3,none⟩=some (.slice none 0 0):=by rw [cellc HPB.out];rfl
    have z4:w2.cell? ⟨pb,4,none⟩=some (.int .i64 x.2):=by rw [cellc HPB.out];rfl
    have HE2:=Lib.hid hE2
    clear hx hi hx6 hI hE2
    go_upto_region 5 with fail
    rw [←hw2,←hpb]
    clear hw2 hpb y0 y1 y2 y3 y4
    go_wp2_with fail
    refine (HS1.out _ HE2.out).mono ?_
    rintro e w3 ⟨rfl,hE3⟩
    have z4:=cs_ext hE3 z4
    have HB3:Hid (w3.heap[vb]?=_):=Lib.hid (hs_ext (HE2.out.trans hE3) HB.out)
    have vc1:w3.cell? ⟨vb,i,none⟩=some (.int .i64 (gt (vecP X (L.take q)) i)):=intsC_at HB3.out (gt_at hxl)
    have vf:w3.frozen? ⟨vb,i,none⟩=false:=frozenc HB3.out
    have HB4:Hid ((w3.setCell ⟨vb,i,none⟩ (.int .i64 x.2)).heap[vb]?=some (.cells (intsC (vecP X (L.take (q+1)))) 3)):=Lib.hid (by rw [HNX.out];exact intsC_store HB3.out)
    have HE4:Hid (Ext w (w3.setCell ⟨vb,i,none⟩ (.int .i64 x.2))):=Lib.hid ((HE.out.trans (HE2.out.trans hE3)).setCell (by rw [HVB.out];exact Nat.le_refl _) _)
    clear hE3 z0 z1 z2 z3 hxl
    go_wp2_with fail
    go_roundw
    case rel=>exact ⟨q+1,rfl,by omega,HE4,HB4⟩
    case measure=>simp [intOf];omega
  · have hqi:¬(q:Int)<(L.length:Int):=by omega
    have HFI:Hid (w.heap.size≤vb∧Ext w wr∧wr.heap[vb]?=some (.cells (intsC (vecP X L)) 3)):=Lib.hid ⟨by rw [HVB.out];exact Nat.le_refl _,HE.out,by have h:=HB.out;rwa [List.take_of_length_le (by omega)] at h⟩
    go_wp2_with fail
    go_ret
    exact ⟨vb,rfl,HFI.out⟩

theorem infLP:(Tryz.prog.info? 28).map (fun i=>(i.zero,i.size,i.bytes))=some (some (.slice none 0 0),1,24):=by kernel_rfl
theorem infRp:(Tryz.prog.info? 59).map (fun i=>(i.zero,i.size,i.bytes))=some (some (.pointer none),1,8):=by kernel_rfl
theorem infIn:(Tryz.prog.info? 3).map (fun i=>(i.zero,i.size,i.bytes))=some (some (.int .i64 0),1,8):=by kernel_rfl
theorem made_own {α:Type} {E:Elm α} {w:World} {base:Nat} {T:TypeId} {S:Nat→Prop} (hb:base≤w.heap.size):OwnG E (w.alloc (.cells #[] T)) base T S (.slice (some ⟨w.heap.size,0,none⟩) 0 0) ([]:List α) :=
 ⟨[],rfl,by simp,⟨by simp,.inr ⟨w.heap.size,0,#[],rfl,hb,hs_new,Nat.le_refl _,by unfold maxLen;omega,by simp,by simp⟩⟩⟩
theorem pClone_any {w:World} {Sq:Nat→Prop} {a:Option Addr} {cap:Nat} {C:List (List Pw)} (hll:C.length≤1000000) (hC:LsG (elL elPw) w Sq (.slice a C.length cap) C) :
 Calls Tryz.prog 92 #[.slice a C.length cap] w fun e w'=>∃u,e=.returned u∧Ext w w'∧OwnG (elL elPw) w' w.heap.size 28 (fun c=>c<w.heap.size) u C:=by
 have q45:∀(w:World) (a:Option Addr) (n c n' c':Nat),(binOp .eql 27 (.slice a n c) (.slice none n' c')).run Tryz.prog w=.ok (.bool a.isNone) w:=fun w a n c n' c'=>Lib.run_eql_slice_nil w _ _ a n c n' c' Tryz.underlying27
 cases a with
 | none =>
   have hC0:C=[]:=by
    cases C with
    | nil=>rfl
    | cons x L=>obtain ⟨b,off,a',c',e,-⟩:=hC.lAt (i:=0) (x:=x) rfl;cases e
   subst hC0
   go_enter Tryz.func92,Tryz.ntmps92
   go_wp2
   go_ret
   exact ⟨_,rfl,Ext.refl _,OwnG.nil⟩
 | some ad =>
   have hsz:w.heap.size≤(w.alloc (.cells #[] 28)).heap.size:=by simp
   have hO0:OwnG (elL elPw) (w.alloc (.cells #[] 28)) w.heap.size 28 (fun c=>c<w.heap.size) (.slice (some ⟨w.heap.size,0,none⟩) 0 0) []:=made_own (Nat.le_refl _)
   have hC0:=(hC.below.ext (Ext.alloc w (.cells #[] 28))).e
   have hoff:∀c,c<w.heap.size→(Value.slice (some ⟨w.heap.size,0,none⟩) 0 0).ownBlock≠some c:=fun c hc e=>by
    have:=Option.some.inj (show some w.heap.size=some c from e);omega
   have HE0:Hid (Ext w (w.alloc (.cells #[] 28))):=Lib.hid (Ext.alloc w _)
   clear hC
   go_enter Tryz.func92,Tryz.ntmps92
   go_wp2_with (
    at_builtin
    refine wpList_appG (E:=elL elPw) (T:=28) rfl 27 (.tmp 5) (.tmp 6) rfl rfl rfl Tryz.underlying27 infLP rfl (by decide) (by decide) hO0 hsz hoff (by simp) (M:=C) hll hC0 ?_
    intro v5 w5 o5 g5 k5
    have HO5:=Lib.hid o5
    have HE5:Hid (Ext w w5):=Lib.hid (HE0.out.grown g5 (fun q hq=>by cases hq;exact Nat.le_refl _))
    clear o5 g5 hO0 hC0)
   go_ret
   exact ⟨_,rfl,HE5.out,by have h:=HO5.out;rw [List.nil_append] at h;exact h⟩
/-- pointers to rows in memory -/
def elRp:Elm (Nat × Nat × Nat) where
 n:=1
 R w S x cs:=cs=[ptrA x]
 len:=by rintro w S x cs rfl;rfl
 one:=by
  rintro w S x cs rfl u hu
  simp at hu
  rw [hu];rfl
 keep:=by rintro w w' S S' x cs rfl _ _;rfl
/-- a row of elements of one cell, as a block -/
theorem own_block {α:Type} {E:Elm α} {f:α→Value} (hf:∀{w S x cs},E.R w S x cs→cs=[f x]) (h1:E.n=1) {w:World} {base T n cap:Nat} {S:Nat→Prop} {a:Option Addr} {L:List α} (h:OwnG E w base T S (.slice a n cap) L) (hne:L≠[]) :
 ∃(g:Nat) (rest:List Value),a=some ⟨g,0,none⟩∧base≤g∧w.heap[g]?=some (.cells (L.map f++rest).toArray T):=by
 obtain ⟨P,rfl,hR,hrow⟩:=h
 have hfl:P.flatMap (·.2)=(P.map (·.1)).map f:=by
  clear hrow hne
  induction P with
  | nil=>rfl
  | cons p P ih =>
    rw [List.flatMap_cons,ih (fun q hq=>hR q (List.mem_cons_of_mem _ hq)),hf (hR p (List.mem_cons_self ..))]
    rfl
 rw [hfl,h1] at hrow
 have hpos:0<P.length:=by
  cases P with
  | nil=>exact absurd rfl hne
  | cons p P=>simp
 rcases hrow.2 with ⟨h,h0⟩ | ⟨g,cap',cur,h,hb,hblk,hn,hc,hsz,htk⟩
 · exact absurd h0 (by first | omega | (intro h;simp at h;omega))
 · cases h
   refine ⟨g,cur.toList.drop P.length,rfl,hb,?_⟩
   rw [hblk,←htk,Nat.mul_one,List.take_append_drop]
/-- the coefficients of a row as it begins -/
def unitV (nl j:Nat):List Int:=(List.replicate nl 0).set j 1
theorem unitV_len (nl j:Nat):(unitV nl j).length=nl:=by unfold unitV;rw [List.length_set,List.length_replicate]
theorem gt_rep (n c:Nat):gt (List.replicate n 0) c=0:=by
 unfold gt
 rw [List.getD_eq_getElem?_getD,List.getElem?_replicate]
 split<;>rfl
theorem gt_unit {nl j c:Nat} (hj:j<nl):gt (unitV nl j) c=if c=j then 1 else 0:=by
 unfold unitV
 rw [gt_set (by simp;exact hj),gt_rep]
def rowE (X:List Nat) (LL:List (List Pw)) (j:Nat):ERow:=⟨vecP X (LL.getD j []),unitV LL.length j,false⟩
def rowsE (X:List Nat) (LL:List (List Pw)):List ERow:=(List.range LL.length).map (rowE X LL)
theorem rowsE_at {X:List Nat} {LL:List (List Pw)} {j:Nat} (h:j<LL.length):(rowsE X LL)[j]?=some (rowE X LL j):=by
 unfold rowsE
 rw [List.getElem?_map,List.getElem?_range h]
 rfl
theorem vecP_b40 {X:List Nat} {L:List Pw} (hR:Rng 1000 L):B40 (vecP X L):=fun x hx=>by
 obtain ⟨i,-,rfl⟩:=List.mem_map.1 hx
 have:=cf_bnd (M:=1000) (by omega) hR i
 omega
theorem EInv.init {X:List Nat} {LL:List (List Pw)} (hR:∀L∈LL,Rng 1000 L):EInv X.length (LL.map (vecP X)) 0 (rowsE X LL) (List.replicate X.length (-1)):=by
 have hmem:∀r∈rowsE X LL,∃j,j<LL.length∧r=rowE X LL j:=fun r hr=>by
  obtain ⟨j,hj,rfl⟩:=List.mem_map.1 hr
  exact ⟨j,List.mem_range.1 hj,rfl⟩
 have hget:∀j<LL.length,LL.getD j []∈LL∧LL[j]?=some (LL.getD j []):=fun j hj=>by
  rw [List.getD_eq_getElem?_getD,List.getElem?_eq_getElem hj]
  exact ⟨List.getElem_mem hj,rfl⟩
 refine ⟨by unfold rowsE;simp,fun r hr=>?_,fun r hr=>?_,fun r hr v=>?_,fun M v h g hg=>?_,by simp,fun c' hc'=>absurd hc' (by omega),fun c' _ hc'=>?_,fun i r hr hu=>?_,fun r hr hu c' hc'=>absurd hc' (by omega)⟩
 · obtain ⟨j,hj,rfl⟩:=hmem r hr
   exact ⟨vecP_len _ _,by rw [List.length_map];exact unitV_len _ _⟩
 · obtain ⟨j,hj,rfl⟩:=hmem r hr
   refine ⟨vecP_b40 (hR _ (hget j hj).1),fun x hx=>?_⟩
   rcases List.mem_or_eq_of_mem_set hx with h1 | h1
   · rw [List.eq_of_mem_replicate h1];omega
   · rw [h1];omega
 · obtain ⟨j,hj,rfl⟩:=hmem r hr
   show dot (vecP X (LL.getD j [])) v=dot (unitV LL.length j) _
   rw [dot_single (a:=unitV LL.length j) (j:=j) (fun c hc=>.inl (by rw [gt_unit hj,if_neg hc])),gt_unit hj,if_pos rfl,Int.one_mul]
   unfold gt
   rw [List.map_map,List.getD_eq_getElem?_getD (l:=List.map _ LL),List.getElem?_map,(hget j hj).2]
   rfl
 · obtain ⟨L,hL,rfl⟩:=List.mem_map.1 hg
   obtain ⟨j,hj⟩:=List.mem_iff_getElem?.1 hL
   have hjl:=(List.getElem?_eq_some_iff.1 hj).1
   have:=h _ (List.mem_of_getElem? (rowsE_at (X:=X) hjl))
   unfold rowE at this
   rw [List.getD_eq_getElem?_getD,hj] at this
   exact this
 · unfold gt
   rw [List.getD_eq_getElem?_getD,List.getElem?_replicate,if_pos hc']
   rfl
 · obtain ⟨j,hj,rfl⟩:=hmem r (List.mem_of_getElem? hr)
   cases hu
theorem TInv.init {X:List Nat} {G:List (List Int)} {m:List Pw} (hR:Rng 1000 m):TInv X.length G (vecP X m) 0 (vecP X m) (List.replicate G.length 0):=by
 refine ⟨vecP_len _ _,by simp,vecP_b40 hR,fun x hx=>by rw [List.eq_of_mem_replicate hx];omega,fun v=>?_,fun c' hc'=>absurd hc' (by omega)⟩
 rw [dot_zero (a:=List.replicate G.length 0) (fun c=>.inl (gt_rep _ _)),Int.add_zero]
end Go.Proofs.YtclijngnoepbiaaGreat
