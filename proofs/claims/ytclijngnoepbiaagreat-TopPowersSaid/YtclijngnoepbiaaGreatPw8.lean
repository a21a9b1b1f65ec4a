/- Contracts: the reference's read. Contracts: the reference's Parse. -/
import Derived.Test.YtclijngnoepbiaaGreatPw7
set_option maxRecDepth 100000
set_option maxHeartbeats 8000000
namespace Go.Proofs.YtclijngnoepbiaaGreat
open Go Go.RowKit
set_option linter.unusedVariables false
set_option linter.unusedSimpArgs false

/-- what stands behind the comma between kids -/
def sepP (kids:List Tm) (s:ByteArray):Option ByteArray :=
 if kids.length=0 then some s else if s.size<2 then none else if s.extract 0 2=⟨#[44,32]⟩ then some (s.extract 2 s.size) else none
/-- kids read one behind the other, to the closing bracket -/
def readL (rd:ByteArray→Option (Tm × ByteArray)):Nat→List Tm→ByteArray→Option (List Tm × ByteArray)
 | 0,_,_=>none
 | f+1,kids,s=>if h:0<s.size then (if s[0]=41 then some (kids,s.extract 1 s.size) else match sepP kids s with | none=>none | some s'=>match rd s' with | none=>none | some q=>readL rd f (kids++[q.1]) q.2) else none
def isQ (s:ByteArray):Bool:=if h:0<s.size then decide (s[0]=63) else false
def isB (s:ByteArray):Bool:=if h:0<s.size then decide (s[0]=40) else false
def bodyQ (s:ByteArray):ByteArray:=if isQ s then s.extract 1 s.size else s
def restN (s:ByteArray):ByteArray:=s.extract (nameP s).size s.size
/-- a term read; rd reads its kids -/
def readS (rd:ByteArray→Option (Tm × ByteArray)) (s:ByteArray):Option (Tm × ByteArray) :=
 if nameOk (nameP (bodyQ s))=false then none else
 if (isQ s || !isB (restN (bodyQ s)))=true then leafP (if isQ s then 1 else 2) (nameP (bodyQ s)) (restN (bodyQ s))
 else (readL rd (restN (bodyQ s)).size [] ((restN (bodyQ s)).extract 1 (restN (bodyQ s)).size)).map (fun q=>(.mk 3 (nameP (bodyQ s)) 0 q.1,q.2))
def readP:Nat→ByteArray→Option (Tm × ByteArray)
 | 0,_=>none
 | d+1,s=>readS (readP d) s
theorem nameP_size (s:ByteArray):(nameP s).size≤s.size:=by
 unfold nameP
 have:=nameN_le s s.size 0 (by omega)
 rw [ByteArray.size_extract]
 omega
theorem leafP_size {k:Int} {n s:ByteArray} {q:Tm × ByteArray} (h:leafP k n s=some q):q.2.size≤s.size:=by
 unfold leafP at h
 split at h
 · split at h
   · split at h
     · cases h;simp only [ByteArray.size_extract];omega
     · cases h
   · split at h
     · cases h;exact Nat.le_refl _
     · cases h
 · split at h
   · cases h;exact Nat.le_refl _
   · cases h
theorem sepP_size {kids:List Tm} {s s':ByteArray} (h:sepP kids s=some s'):s'.size≤s.size:=by
 unfold sepP at h
 split at h
 · cases h;exact Nat.le_refl _
 · split at h
   · cases h
   · split at h
     · cases h;rw [ByteArray.size_extract];omega
     · cases h
theorem readL_size {rd:ByteArray→Option (Tm × ByteArray)} (hrd:∀s q,rd s=some q→q.2.size<s.size):∀(f:Nat) (kids:List Tm) (s:ByteArray) (q:List Tm × ByteArray),readL rd f kids s=some q→q.2.size≤s.size
 | 0,kids,s,q,h=>by rw [readL] at h;cases h
 | f + 1, kids,s,q,h=>by
   rw [readL] at h
   split at h
   · split at h
     · cases h;simp only [ByteArray.size_extract];omega
     · split at h
       · cases h
       · rename_i s' hs
         split at h
         · cases h
         · rename_i p hp
           have h1:=sepP_size hs
           have h2:=hrd _ _ hp
           have h3:=readL_size hrd f _ _ q h
           omega
   · cases h
theorem bodyQ_size (s:ByteArray):(bodyQ s).size≤s.size:=by
 unfold bodyQ
 split
 · rw [ByteArray.size_extract];omega
 · exact Nat.le_refl _
theorem readS_size {rd:ByteArray→Option (Tm × ByteArray)} (hrd:∀s q,rd s=some q→q.2.size<s.size) {s:ByteArray} {q:Tm × ByteArray} (h:readS rd s=some q):q.2.size<s.size:=by
 unfold readS at h
 have hb:=bodyQ_size s
 have hns:=nameP_size (bodyQ s)
 have hr:(restN (bodyQ s)).size=(bodyQ s).size-(nameP (bodyQ s)).size:=by unfold restN;rw [ByteArray.size_extract];omega
 split at h
 · cases h
 · rename_i hn
   have hn':0<(nameP (bodyQ s)).size:=by
    simp only [nameOk,Bool.not_eq_false,decide_eq_true_eq] at hn
    exact hn.1
   split at h
   · have h1:=leafP_size h
     omega
   · obtain ⟨p,hp,rfl⟩:=Option.map_eq_some_iff.1 h
     have h1:=readL_size hrd _ _ _ _ hp
     simp only [ByteArray.size_extract] at h1
     simp only
     omega
theorem readP_size:∀(d:Nat) (s:ByteArray) (q:Tm × ByteArray),readP d s=some q→q.2.size<s.size
 | 0,s,q,h=>by rw [readP] at h;cases h
 | d+1,s,q,h=>by rw [readP] at h;exact readS_size (readP_size d) h

theorem box4 {w:World} {g T:Nat} {a b c d:Value} (h:w.heap[g]?=some (.cells #[a,b,c,d] T)):w.cell? ⟨g,0,none⟩=some a∧w.cell? ⟨g,1,none⟩=some b∧w.cell? ⟨g,2,none⟩=some c∧w.cell? ⟨g,3,none⟩=some d:=by
 refine ⟨?_,?_,?_,?_⟩<;>(rw [cellc h];rfl)
theorem box_set0 {w:World} {g T:Nat} {a b c d:Value} (v:Value) (h:w.heap[g]?=some (.cells #[a,b,c,d] T)):(w.setCell ⟨g,0,none⟩ v).heap[g]?=some (.cells #[v,b,c,d] T):=by have:=heap_setCell_same w g 0 _ _ v h;simpa using this
theorem box_set1 {w:World} {g T:Nat} {a b c d:Value} (v:Value) (h:w.heap[g]?=some (.cells #[a,b,c,d] T)):(w.setCell ⟨g,1,none⟩ v).heap[g]?=some (.cells #[a,v,c,d] T):=by have:=heap_setCell_same w g 1 _ _ v h;simpa using this
theorem box_set3 {w:World} {g T:Nat} {a b c d:Value} (v:Value) (h:w.heap[g]?=some (.cells #[a,b,c,d] T)):(w.setCell ⟨g,3,none⟩ v).heap[g]?=some (.cells #[a,b,c,v] T):=by have:=heap_setCell_same w g 3 _ _ v h;simpa using this
theorem built_k (k:Int):Tryz.prog.built 33 [(0,.int .i64 k)]=some #[.int .i64 k,.string ⟨#[]⟩,.int .i64 0,.slice none 0 0]:=by kernel_rfl
theorem OwnG.turn {α:Type} {E:Elm α} {w':World} {base n:Nat} {T:TypeId} {v v':Value} {L:List α} (h:OwnG E w' base T (fun c=>(base≤c∧v.ownBlock≠some c)∧c<n) v' L) (hat:v'.ownBlock=v.ownBlock∨v'.ownBlock=some n):OwnG E w' base T (fun c=>base≤c∧v'.ownBlock≠some c) v' L :=
 h.wide (fun c hc _=>⟨hc.1.1,fun e=>by
  rcases hat with h1 | h1
  · exact hc.1.2 (by rw [←h1];exact e)
  · rw [h1] at e
    have:=Option.some.inj e
    omega⟩)
theorem parR.keep {w w':World} {S S':Nat→Prop} {v sv:Value} {o:Option (Tm × ByteArray)} (h:parR w S v sv o) (h1:∀c,S c→c<w.heap.size→w'.heap[c]?=w.heap[c]?) (h2:∀c,S c→c<w.heap.size→S' c):parR w' S' v sv o:=by
 cases o with
 | none=>exact h
 | some q=>obtain ⟨h3,a,c,h4,h5⟩:=h;exact ⟨h3,a,c,h4,h5.keep h1 h2⟩
def strLen:Value→Nat | .string b=>b.size | _=>0
theorem parR.shape {w:World} {S:Nat→Prop} {v sv:Value} {o:Option (Tm × ByteArray)} (h:parR w S v sv o):∃(k s:Int) (n r:ByteArray) (a:Option Addr) (l c:Nat),v=.agg #[.int .i64 k,.string n,.int .i64 s,.slice a l c]∧sv=.string r:=by
 cases o with
 | none=>exact h
 | some q=>obtain ⟨h1,a,c,h3,-⟩:=h;exact ⟨_,_,_,_,_,_,_,h3,h1⟩
theorem u8_ne {a b:UInt8} {z:Int} (hb:(b.toNat:Int)=z) (h:a≠b):(((a.toNat:Nat):Int)==z)=false:=by
 simp only [beq_eq_false_iff_ne,ne_eq]
 intro e
 apply h
 apply UInt8.toNat_inj.1
 omega
theorem u8_neq {a b:UInt8} {z:Int} (hb:(b.toNat:Int)=z) (h:a≠b):(((a.toNat:Nat):Int) != z)=true:=by
 rw [bne,u8_ne hb h];rfl

theorem RRead_any : ∀ (d : Nat) (w:World) (s:ByteArray),d≤800→s.size≤100000 →
 Calls Tryz.prog 47 #[.string s,.int .i64 d] w fun e w'=>∃v sv,e=.returned (.tuple #[v,sv,.bool (readP d s).isSome])∧Ext w w'∧parR w' (fun c=>w.heap.size≤c) v sv (readP d s):=by
 intro d
 induction d with
 | zero =>
   intro w s hd hs
   obtain ⟨rx,hrx⟩:∃zz9,zz9=w.heap.size:=⟨_,rfl⟩
   obtain ⟨w1,hw1⟩:∃zz9,zz9=w.alloc (.cells #[.int .i64 0,.string ⟨#[]⟩,.int .i64 0,.slice none 0 0] 33):=⟨_,rfl⟩
   have hE1:Ext w w1:=by rw [hw1];exact Ext.alloc _ _
   have hs1:w1.heap.size=rx+1:=by rw [hw1,hrx,World.size_alloc]
   have hr1:w1.heap[rx]?=some (.cells #[.int .i64 0,.string ⟨#[]⟩,.int .i64 0,.slice none 0 0] 33):=by rw [hw1,hrx];exact hs_new
   obtain ⟨bx,hbx⟩:∃zz9,zz9=w1.heap.size:=⟨_,rfl⟩
   obtain ⟨w2,hw2⟩:∃zz9,zz9=w1.alloc (.cells #[.int .i64 2,.string ⟨#[]⟩,.int .i64 0,.slice none 0 0] 33):=⟨_,rfl⟩
   have hE2:Ext w1 w2:=by rw [hw2];exact Ext.alloc _ _
   have HBX:Hid (w2.heap[bx]?=some (.cells #[.int .i64 2,.string ⟨#[]⟩,.int .i64 0,.slice none 0 0] 33)):=Lib.hid (by rw [hw2,hbx];exact hs_new)
   have HBR:=Lib.hid (hs_ext hE2 hr1)
   have HE:=Lib.hid (hE1.trans hE2)
   have HNB:Hid (w.heap.size=rx∧bx=rx+1):=Lib.hid ⟨hrx.symm,by omega⟩
   have HSZ:Hid (w2.heap.size=bx+1):=Lib.hid (by rw [hw2,World.size_alloc,hbx])
   clear hE1 hE2 hs1 hr1
   obtain ⟨B,hB⟩:∃B,B=bodyQ s:=⟨_,rfl⟩
   obtain ⟨N,hN⟩:∃N,N=nameP B:=⟨_,rfl⟩
   obtain ⟨R,hR⟩:∃R,R=restN B:=⟨_,rfl⟩
   have hBs:B.size≤s.size:=by rw [hB];exact bodyQ_size s
   have hNs:N.size≤B.size:=by rw [hN];exact nameP_size B
   have hRe:R=B.extract N.size B.size:=by rw [hR,hN];rfl
   have HCN:=Lib.hid (fun w'=>RName_any B w' (by unfold maxLen;omega))
   rw [←hN] at HCN
   have HCI:=Lib.hid (fun w'=>RIsName_any N w' (by unfold maxLen;omega))
   have HRE:=Lib.hid hRe
   have HNL:Hid (N.size≤maxLen):=Lib.hid (by unfold maxLen;omega)
   have hRs:R.size≤100000:=by rw [hRe,ByteArray.size_extract];omega
   clear hRe
   have HBQ:=Lib.hid hB
   clear hB
   obtain ⟨Z,hZ⟩:∃Z,Z=readP 0 s:=⟨_,rfl⟩
   rw [←hZ]
   have HF:Hid (Z=none):=Lib.hid (by rw [hZ,readP])
   obtain ⟨o,ho⟩:∃o,o=nameOk N:=⟨_,rfl⟩
   rw [←ho] at HCI
   clear hZ hN hR ho
   by_cases h0:0<s.size
   · have h0z:(0:Int)<s.size:=by omega
     by_cases hq:s[0]=63
     · skip
       have e0:(((s[0].toNat:Nat):Int)==63)=true:=by rw [hq];decide
       have hQ:isQ s=true:=by unfold isQ;rw [dif_pos h0,hq];decide
       have HB1:Hid (s.extract 1 s.size=B):=Lib.hid (by rw [HBQ.out];unfold bodyQ;rw [if_pos hQ])
       have h1z:(1:Int)≤s.size:=by omega
       have f0:w2.frozen? ⟨bx,0,none⟩=false:=frozen_of HBX.out
       have b0:w2.cell? ⟨bx,0,none⟩=some (.int .i64 2):=by rw [cellc HBX.out];rfl
       clear hq
       go_enter Tryz.func47,Tryz.ntmps47
       go_upto_region 1 with fail
       rw [←hw1,←hrx]
       clear hw1 hrx
       go_upto_region 2 with (refine wpList_buildT rfl [_] rfl [(0,.int .i64 2)] rfl (built_k 2) ?_)
       rw [←hw2,←hbx]
       clear hw2 hbx
       go_upto_region 5 with fail
       rw [HB1.out]
       have hx5:=box_set0 (.int .i64 1) HBX.out
       have hr5:(w2.setCell ⟨bx,0,none⟩ (.int .i64 1)).heap[rx]?=_:=(heap_setCell_other _ _ _ _ (by show rx≠bx;have:=HNB.out;omega)).trans HBR.out
       have hE5:=HE.out.setCell (b:=bx) (o:=0) (by have:=HNB.out;omega) (.int .i64 1)
       have hz5:(w2.setCell ⟨bx,0,none⟩ (.int .i64 1)).heap.size=bx+1:=by rw [World.size_setCell];exact HSZ.out
       generalize hw5:World.setCell w2 _ _=w3 at hx5 hr5 hE5 hz5 ⊢
       have HBX:=Lib.hid hx5
       have HBR:=Lib.hid hr5
       have HE:=Lib.hid hE5
       have HSZ:=Lib.hid hz5
       clear hx5 hr5 hE5 hz5 hw5 f0 b0 HB1 h1z
       have f1:w3.frozen? ⟨bx,1,none⟩=false:=frozen_of HBX.out
       have b1:w3.cell? ⟨bx,1,none⟩=some (.string ⟨#[]⟩):=by rw [cellc HBX.out];rfl
       go_wp2_with fail
       refine (HCN.out _).mono ?_
       rintro e w9 ⟨rfl,rfl⟩
       go_upto_region 6 with fail
       have hx5:=box_set1 (.string N) HBX.out
       have hr5:(w3.setCell ⟨bx,1,none⟩ (.string N)).heap[rx]?=_:=(heap_setCell_other _ _ _ _ (by show rx≠bx;have:=HNB.out;omega)).trans HBR.out
       have hE5:=HE.out.setCell (b:=bx) (o:=1) (by have:=HNB.out;omega) (.string N)
       have hz5:(w3.setCell ⟨bx,1,none⟩ (.string N)).heap.size=bx+1:=by rw [World.size_setCell];exact HSZ.out
       generalize hw5:World.setCell w3 _ _=w4 at hx5 hr5 hE5 hz5 ⊢
       have HBX:=Lib.hid hx5
       have HBR:=Lib.hid hr5
       have HE:=Lib.hid hE5
       have HSZ:=Lib.hid hz5
       clear hx5 hr5 hE5 hz5 hw5 f1 b1
       obtain ⟨b0,b1,b2,b3⟩:=box4 HBX.out
       go_wp2_with fail
       refine (HCI.out _).mono ?_
       rintro e w9 ⟨rfl,rfl⟩
       cases o with
       | false =>
         go_upto_region 7 with fail
         go_wp2_with (
          refine wpList_storeT rfl (.tmp 4) (.tmp 34) rfl (g:=rx) rfl (k:=1) (s:=0) (n:=N) (ka:=none) (kl:=0) (kc:=0) rfl HBR.out rfl ?_
          intro w6 c6 q6 e6 z6
          have HG6:=Lib.hid c6
          have HE6:=Lib.hid (e6 w HE.out (by have:=HNB.out;omega))
          clear c6 q6 e6 z6)
         exact ret_term_tt (g:=rx) rfl rfl HG6.out rfl ⟨_,_,by rw [HF.out];rfl,HE6.out,by rw [HF.out];exact ⟨_,_,_,_,_,_,_,rfl,rfl⟩⟩
       | true =>
         go_upto_region 7 with fail
         go_wp2_with (
          refine wpList_storeT rfl (.tmp 4) (.tmp 34) rfl (g:=rx) rfl (k:=1) (s:=0) (n:=N) (ka:=none) (kl:=0) (kc:=0) rfl HBR.out rfl ?_
          intro w6 c6 q6 e6 z6
          have HG6:=Lib.hid c6
          have HE6:=Lib.hid (e6 w HE.out (by have:=HNB.out;omega))
          clear c6 q6 e6 z6)
         exact ret_term_tt (g:=rx) rfl rfl HG6.out rfl ⟨_,_,by rw [HF.out];rfl,HE6.out,by rw [HF.out];exact ⟨_,_,_,_,_,_,_,rfl,rfl⟩⟩
     · have e0:(((s[0].toNat:Nat):Int)==63)=false:=u8_ne (b:=63) (by decide) hq
       have hQ:isQ s=false:=by unfold isQ;rw [dif_pos h0];simp [hq]
       clear hq
       have HB1:Hid (B=s):=Lib.hid (by rw [HBQ.out];unfold bodyQ;rw [if_neg (by simp [hQ])])
       go_enter Tryz.func47,Tryz.ntmps47
       go_upto_region 1 with fail
       rw [←hw1,←hrx]
       clear hw1 hrx
       go_upto_region 2 with (refine wpList_buildT rfl [_] rfl [(0,.int .i64 2)] rfl (built_k 2) ?_)
       rw [←hw2,←hbx]
       clear hw2 hbx
       go_upto_region 5 with fail
       have HCN:=Lib.hid (fun w'=>by have h:=HCN.out w';rw [HB1.out] at h;exact h)
       have HRE:Hid (R=s.extract N.size s.size):=Lib.hid (by have h:=HRE.out;rw [HB1.out] at h;exact h)
       have hNs:N.size≤s.size:=by omega
       obtain ⟨w3,rfl⟩:∃w3,w3=w2:=⟨_,rfl⟩
       have f1:w3.frozen? ⟨bx,1,none⟩=false:=frozen_of HBX.out
       have b1:w3.cell? ⟨bx,1,none⟩=some (.string ⟨#[]⟩):=by rw [cellc HBX.out];rfl
       go_wp2_with fail
       refine (HCN.out _).mono ?_
       rintro e w9 ⟨rfl,rfl⟩
       go_upto_region 6 with fail
       have hx5:=box_set1 (.string N) HBX.out
       have hr5:(w3.setCell ⟨bx,1,none⟩ (.string N)).heap[rx]?=_:=(heap_setCell_other _ _ _ _ (by show rx≠bx;have:=HNB.out;omega)).trans HBR.out
       have hE5:=HE.out.setCell (b:=bx) (o:=1) (by have:=HNB.out;omega) (.string N)
       have hz5:(w3.setCell ⟨bx,1,none⟩ (.string N)).heap.size=bx+1:=by rw [World.size_setCell];exact HSZ.out
       generalize hw5:World.setCell w3 _ _=w4 at hx5 hr5 hE5 hz5 ⊢
       have HBX:=Lib.hid hx5
       have HBR:=Lib.hid hr5
       have HE:=Lib.hid hE5
       have HSZ:=Lib.hid hz5
       clear hx5 hr5 hE5 hz5 hw5 f1 b1
       obtain ⟨b0,b1,b2,b3⟩:=box4 HBX.out
       go_wp2_with fail
       refine (HCI.out _).mono ?_
       rintro e w9 ⟨rfl,rfl⟩
       cases o with
       | false =>
         go_upto_region 7 with fail
         go_wp2_with (
          refine wpList_storeT rfl (.tmp 4) (.tmp 34) rfl (g:=rx) rfl (k:=2) (s:=0) (n:=N) (ka:=none) (kl:=0) (kc:=0) rfl HBR.out rfl ?_
          intro w6 c6 q6 e6 z6
          have HG6:=Lib.hid c6
          have HE6:=Lib.hid (e6 w HE.out (by have:=HNB.out;omega))
          clear c6 q6 e6 z6)
         exact ret_term_tt (g:=rx) rfl rfl HG6.out rfl ⟨_,_,by rw [HF.out];rfl,HE6.out,by rw [HF.out];exact ⟨_,_,_,_,_,_,_,rfl,rfl⟩⟩
       | true =>
         go_upto_region 7 with fail
         go_wp2_with (
          refine wpList_storeT rfl (.tmp 4) (.tmp 34) rfl (g:=rx) rfl (k:=2) (s:=0) (n:=N) (ka:=none) (kl:=0) (kc:=0) rfl HBR.out rfl ?_
          intro w6 c6 q6 e6 z6
          have HG6:=Lib.hid c6
          have HE6:=Lib.hid (e6 w HE.out (by have:=HNB.out;omega))
          clear c6 q6 e6 z6)
         exact ret_term_tt (g:=rx) rfl rfl HG6.out rfl ⟨_,_,by rw [HF.out];rfl,HE6.out,by rw [HF.out];exact ⟨_,_,_,_,_,_,_,rfl,rfl⟩⟩
   · have hz0:¬((0:Int)<(s.size:Int)):=by omega
     have hQ:isQ s=false:=by unfold isQ;rw [dif_neg h0]
     have HB1:Hid (B=s):=Lib.hid (by rw [HBQ.out];unfold bodyQ;rw [if_neg (by simp [hQ])])
     go_enter Tryz.func47,Tryz.ntmps47
     go_upto_region 1 with fail
     rw [←hw1,←hrx]
     clear hw1 hrx
     go_upto_region 2 with (refine wpList_buildT rfl [_] rfl [(0,.int .i64 2)] rfl (built_k 2) ?_)
     rw [←hw2,←hbx]
     clear hw2 hbx
     go_upto_region 5 with fail
     have HCN:=Lib.hid (fun w'=>by have h:=HCN.out w';rw [HB1.out] at h;exact h)
     have HRE:Hid (R=s.extract N.size s.size):=Lib.hid (by have h:=HRE.out;rw [HB1.out] at h;exact h)
     have hNs:N.size≤s.size:=by omega
     obtain ⟨w3,rfl⟩:∃w3,w3=w2:=⟨_,rfl⟩
     have f1:w3.frozen? ⟨bx,1,none⟩=false:=frozen_of HBX.out
     have b1:w3.cell? ⟨bx,1,none⟩=some (.string ⟨#[]⟩):=by rw [cellc HBX.out];rfl
     go_wp2_with fail
     refine (HCN.out _).mono ?_
     rintro e w9 ⟨rfl,rfl⟩
     go_upto_region 6 with fail
     have hx5:=box_set1 (.string N) HBX.out
     have hr5:(w3.setCell ⟨bx,1,none⟩ (.string N)).heap[rx]?=_:=(heap_setCell_other _ _ _ _ (by show rx≠bx;have:=HNB.out;omega)).trans HBR.out
     have hE5:=HE.out.setCell (b:=bx) (o:=1) (by have:=HNB.out;omega) (.string N)
     have hz5:(w3.setCell ⟨bx,1,none⟩ (.string N)).heap.size=bx+1:=by rw [World.size_setCell];exact HSZ.out
     generalize hw5:World.setCell w3 _ _=w4 at hx5 hr5 hE5 hz5 ⊢
     have HBX:=Lib.hid hx5
     have HBR:=Lib.hid hr5
     have HE:=Lib.hid hE5
     have HSZ:=Lib.hid hz5
     clear hx5 hr5 hE5 hz5 hw5 f1 b1
     obtain ⟨b0,b1,b2,b3⟩:=box4 HBX.out
     go_wp2_with fail
     refine (HCI.out _).mono ?_
     rintro e w9 ⟨rfl,rfl⟩
     cases o with
     | false =>
       go_upto_region 7 with fail
       go_wp2_with (
        refine wpList_storeT rfl (.tmp 4) (.tmp 34) rfl (g:=rx) rfl (k:=2) (s:=0) (n:=N) (ka:=none) (kl:=0) (kc:=0) rfl HBR.out rfl ?_
        intro w6 c6 q6 e6 z6
        have HG6:=Lib.hid c6
        have HE6:=Lib.hid (e6 w HE.out (by have:=HNB.out;omega))
        clear c6 q6 e6 z6)
       exact ret_term_tt (g:=rx) rfl rfl HG6.out rfl ⟨_,_,by rw [HF.out];rfl,HE6.out,by rw [HF.out];exact ⟨_,_,_,_,_,_,_,rfl,rfl⟩⟩
     | true =>
       go_upto_region 7 with fail
       go_wp2_with (
        refine wpList_storeT rfl (.tmp 4) (.tmp 34) rfl (g:=rx) rfl (k:=2) (s:=0) (n:=N) (ka:=none) (kl:=0) (kc:=0) rfl HBR.out rfl ?_
        intro w6 c6 q6 e6 z6
        have HG6:=Lib.hid c6
        have HE6:=Lib.hid (e6 w HE.out (by have:=HNB.out;omega))
        clear c6 q6 e6 z6)
       exact ret_term_tt (g:=rx) rfl rfl HG6.out rfl ⟨_,_,by rw [HF.out];rfl,HE6.out,by rw [HF.out];exact ⟨_,_,_,_,_,_,_,rfl,rfl⟩⟩
 | succ d ih =>
   intro w s hd hs
   obtain ⟨rx,hrx⟩:∃zz9,zz9=w.heap.size:=⟨_,rfl⟩
   obtain ⟨w1,hw1⟩:∃zz9,zz9=w.alloc (.cells #[.int .i64 0,.string ⟨#[]⟩,.int .i64 0,.slice none 0 0] 33):=⟨_,rfl⟩
   have hE1:Ext w w1:=by rw [hw1];exact Ext.alloc _ _
   have hs1:w1.heap.size=rx+1:=by rw [hw1,hrx,World.size_alloc]
   have hr1:w1.heap[rx]?=some (.cells #[.int .i64 0,.string ⟨#[]⟩,.int .i64 0,.slice none 0 0] 33):=by rw [hw1,hrx];exact hs_new
   obtain ⟨bx,hbx⟩:∃zz9,zz9=w1.heap.size:=⟨_,rfl⟩
   obtain ⟨w2,hw2⟩:∃zz9,zz9=w1.alloc (.cells #[.int .i64 2,.string ⟨#[]⟩,.int .i64 0,.slice none 0 0] 33):=⟨_,rfl⟩
   have hE2:Ext w1 w2:=by rw [hw2];exact Ext.alloc _ _
   have HBX:Hid (w2.heap[bx]?=some (.cells #[.int .i64 2,.string ⟨#[]⟩,.int .i64 0,.slice none 0 0] 33)):=Lib.hid (by rw [hw2,hbx];exact hs_new)
   have HBR:=Lib.hid (hs_ext hE2 hr1)
   have HE:=Lib.hid (hE1.trans hE2)
   have HNB:Hid (w.heap.size=rx∧bx=rx+1):=Lib.hid ⟨hrx.symm,by omega⟩
   have HSZ:Hid (w2.heap.size=bx+1):=Lib.hid (by rw [hw2,World.size_alloc,hbx])
   clear hE1 hE2 hs1 hr1
   obtain ⟨B,hB⟩:∃B,B=bodyQ s:=⟨_,rfl⟩
   obtain ⟨N,hN⟩:∃N,N=nameP B:=⟨_,rfl⟩
   obtain ⟨R,hR⟩:∃R,R=restN B:=⟨_,rfl⟩
   have hBs:B.size≤s.size:=by rw [hB];exact bodyQ_size s
   have hNs:N.size≤B.size:=by rw [hN];exact nameP_size B
   have hRe:R=B.extract N.size B.size:=by rw [hR,hN];rfl
   have HCN:=Lib.hid (fun w'=>RName_any B w' (by unfold maxLen;omega))
   rw [←hN] at HCN
   have HCI:=Lib.hid (fun w'=>RIsName_any N w' (by unfold maxLen;omega))
   have HRE:=Lib.hid hRe
   have HNL:Hid (N.size≤maxLen):=Lib.hid (by unfold maxLen;omega)
   have hRs:R.size≤100000:=by rw [hRe,ByteArray.size_extract];omega
   clear hRe
   have HBQ:=Lib.hid hB
   clear hB
   obtain ⟨Z,hZ⟩:∃Z,Z=readP (d+1) s:=⟨_,rfl⟩
   rw [←hZ]
   rw [readP] at hZ
   unfold readS at hZ
   rw [←HBQ.out,←hN,←hR] at hZ
   obtain ⟨o,ho⟩:∃o,o=nameOk N:=⟨_,rfl⟩
   rw [←ho] at HCI hZ
   have HZ:=Lib.hid hZ
   have IH:=Lib.hid ih
   have hdz:((d:Int)+1==0)=false:=beq_eq_false_iff_ne.2 (by omega)
   have HO:=Lib.hid ho
   have HNP:=Lib.hid hN
   clear hZ ih hN hR ho
   by_cases h0:0<s.size
   · have h0z : (0 : Int) < s.size:=by omega
     by_cases hq:s[0]=63
     · skip
       have e0:(((s[0].toNat:Nat):Int)==63)=true:=by rw [hq];decide
       have hQ:isQ s=true:=by unfold isQ;rw [dif_pos h0,hq];decide
       have HB1:Hid (s.extract 1 s.size=B):=Lib.hid (by rw [HBQ.out];unfold bodyQ;rw [if_pos hQ])
       have h1z:(1:Int)≤s.size:=by omega
       have f0:w2.frozen? ⟨bx,0,none⟩=false:=frozen_of HBX.out
       have b0:w2.cell? ⟨bx,0,none⟩=some (.int .i64 2):=by rw [cellc HBX.out];rfl
       clear hq
       go_enter Tryz.func47,Tryz.ntmps47
       go_upto_region 1 with fail
       rw [←hw1,←hrx]
       clear hw1 hrx
       go_upto_region 2 with (refine wpList_buildT rfl [_] rfl [(0,.int .i64 2)] rfl (built_k 2) ?_)
       rw [←hw2,←hbx]
       clear hw2 hbx
       go_upto_region 5 with fail
       rw [HB1.out]
       have hx5:=box_set0 (.int .i64 1) HBX.out
       have hr5:(w2.setCell ⟨bx,0,none⟩ (.int .i64 1)).heap[rx]?=_:=(heap_setCell_other _ _ _ _ (by show rx≠bx;have:=HNB.out;omega)).trans HBR.out
       have hE5:=HE.out.setCell (b:=bx) (o:=0) (by have:=HNB.out;omega) (.int .i64 1)
       have hz5:(w2.setCell ⟨bx,0,none⟩ (.int .i64 1)).heap.size=bx+1:=by rw [World.size_setCell];exact HSZ.out
       generalize hw5:World.setCell w2 _ _=w3 at hx5 hr5 hE5 hz5 ⊢
       have HBX:=Lib.hid hx5
       have HBR:=Lib.hid hr5
       have HE:=Lib.hid hE5
       have HSZ:=Lib.hid hz5
       clear hx5 hr5 hE5 hz5 hw5 f0 b0 HB1 h1z
       have f1:w3.frozen? ⟨bx,1,none⟩=false:=frozen_of HBX.out
       have b1:w3.cell? ⟨bx,1,none⟩=some (.string ⟨#[]⟩):=by rw [cellc HBX.out];rfl
       go_wp2_with fail
       refine (HCN.out _).mono ?_
       rintro e w9 ⟨rfl,rfl⟩
       go_upto_region 6 with fail
       have hx5:=box_set1 (.string N) HBX.out
       have hr5:(w3.setCell ⟨bx,1,none⟩ (.string N)).heap[rx]?=_:=(heap_setCell_other _ _ _ _ (by show rx≠bx;have:=HNB.out;omega)).trans HBR.out
       have hE5:=HE.out.setCell (b:=bx) (o:=1) (by have:=HNB.out;omega) (.string N)
       have hz5:(w3.setCell ⟨bx,1,none⟩ (.string N)).heap.size=bx+1:=by rw [World.size_setCell];exact HSZ.out
       generalize hw5:World.setCell w3 _ _=w4 at hx5 hr5 hE5 hz5 ⊢
       have HBX:=Lib.hid hx5
       have HBR:=Lib.hid hr5
       have HE:=Lib.hid hE5
       have HSZ:=Lib.hid hz5
       clear hx5 hr5 hE5 hz5 hw5 f1 b1
       obtain ⟨b0,b1,b2,b3⟩:=box4 HBX.out
       go_wp2_with fail
       refine (HCI.out _).mono ?_
       rintro e w9 ⟨rfl,rfl⟩
       cases o with
       | false =>
         have HF:Hid (Z=none):=Lib.hid (by rw [HZ.out,if_pos rfl])
         go_wp2_with (
          refine wpList_storeT rfl (.tmp 4) (.tmp 34) rfl (g:=rx) rfl (k:=1) (s:=0) (n:=N) (ka:=none) (kl:=0) (kc:=0) rfl HBR.out rfl ?_
          intro w6 c6 q6 e6 z6
          have HG6:=Lib.hid c6
          have HE6:=Lib.hid (e6 w HE.out (by have:=HNB.out;omega))
          clear c6 q6 e6 z6)
         exact ret_term_tt (g:=rx) rfl rfl HG6.out rfl ⟨_,_,by rw [HF.out];rfl,HE6.out,by rw [HF.out];exact ⟨_,_,_,_,_,_,_,rfl,rfl⟩⟩
       | true =>
         have HZ2:Hid (Z=if (isQ s || !isB R)=true then leafP (if isQ s then 1 else 2) N R else (readL (readP d) R.size [] (R.extract 1 R.size)).map (fun q=>(.mk 3 N 0 q.1,q.2))):=Lib.hid (by rw [HZ.out,if_neg (by simp)])
         have hNz:(N.size:Int)≤B.size:=by omega
         go_upto_region 9 with fail
         rw [←HRE.out]
         have HF:Hid (Z=leafP 1 N R):=Lib.hid (by rw [HZ2.out,if_pos (by rw [hQ];rfl),if_pos hQ])
         have HCL:=Lib.hid (RLeaf_any (w:=w4) (S:=fun c=>bx<c) (k:=1) (n:=N) (s:=R) (by unfold I64;omega) HNL.out (by unfold maxLen;omega))
         go_wp2_with fail
         refine HCL.out.mono ?_
         rintro e w5 ⟨v,sv,rfl,hE5,hP5⟩
         obtain ⟨yk,ys,yn,yr,ya,yl,yc,rfl,rfl⟩:=hP5.shape
         have HBR:=Lib.hid (hs_ext hE5 HBR.out)
         have HE:=Lib.hid (HE.out.trans hE5)
         have HP5:=Lib.hid hP5
         clear hE5 hP5
         go_wp2_with (
          refine wpList_storeT rfl (.tmp 4) (.tmp 57) rfl (g:=rx) rfl (k:=yk) (s:=ys) (n:=yn) (ka:=ya) (kl:=yl) (kc:=yc) rfl HBR.out rfl ?_
          intro w6 c6 q6 e6 z6
          have HG6:=Lib.hid c6
          have HE6:=Lib.hid (e6 w HE.out (by have:=HNB.out;omega))
          have HP6:=Lib.hid (HP5.out.keep (S':=fun c=>w.heap.size≤c) (fun c hc _=>q6 c (by have:=HNB.out;omega)) (fun c hc _=>by have:=HNB.out;omega))
          clear c6 q6 e6 z6)
         exact ret_term_tt (g:=rx) rfl rfl HG6.out rfl ⟨_,_,by rw [HF.out];rfl,HE6.out,by rw [HF.out];exact HP6.out⟩
     · have e0 : (((s[0].toNat:Nat):Int)==63)=false:=u8_ne (b:=63) (by decide) hq
       have hQ:isQ s=false:=by unfold isQ;rw [dif_pos h0];simp [hq]
       clear hq
       have HB1:Hid (B=s):=Lib.hid (by rw [HBQ.out];unfold bodyQ;rw [if_neg (by simp [hQ])])
       go_enter Tryz.func47,Tryz.ntmps47
       go_upto_region 1 with fail
       rw [←hw1,←hrx]
       clear hw1 hrx
       go_upto_region 2 with (refine wpList_buildT rfl [_] rfl [(0,.int .i64 2)] rfl (built_k 2) ?_)
       rw [←hw2,←hbx]
       clear hw2 hbx
       go_upto_region 5 with fail
       have HCN:=Lib.hid (fun w'=>by have h:=HCN.out w';rw [HB1.out] at h;exact h)
       have HRE:Hid (R=s.extract N.size s.size):=Lib.hid (by have h:=HRE.out;rw [HB1.out] at h;exact h)
       have hNs:N.size≤s.size:=by omega
       obtain ⟨w3,rfl⟩:∃w3,w3=w2:=⟨_,rfl⟩
       have f1:w3.frozen? ⟨bx,1,none⟩=false:=frozen_of HBX.out
       have b1:w3.cell? ⟨bx,1,none⟩=some (.string ⟨#[]⟩):=by rw [cellc HBX.out];rfl
       go_wp2_with fail
       refine (HCN.out _).mono ?_
       rintro e w9 ⟨rfl,rfl⟩
       go_upto_region 6 with fail
       have hx5:=box_set1 (.string N) HBX.out
       have hr5:(w3.setCell ⟨bx,1,none⟩ (.string N)).heap[rx]?=_:=(heap_setCell_other _ _ _ _ (by show rx≠bx;have:=HNB.out;omega)).trans HBR.out
       have hE5:=HE.out.setCell (b:=bx) (o:=1) (by have:=HNB.out;omega) (.string N)
       have hz5:(w3.setCell ⟨bx,1,none⟩ (.string N)).heap.size=bx+1:=by rw [World.size_setCell];exact HSZ.out
       generalize hw5:World.setCell w3 _ _=w4 at hx5 hr5 hE5 hz5 ⊢
       have HBX:=Lib.hid hx5
       have HBR:=Lib.hid hr5
       have HE:=Lib.hid hE5
       have HSZ:=Lib.hid hz5
       clear hx5 hr5 hE5 hz5 hw5 f1 b1
       obtain ⟨b0,b1,b2,b3⟩:=box4 HBX.out
       go_wp2_with fail
       refine (HCI.out _).mono ?_
       rintro e w9 ⟨rfl,rfl⟩
       cases o with
       | false =>
         have HF:Hid (Z=none):=Lib.hid (by rw [HZ.out,if_pos rfl])
         go_wp2_with (
          refine wpList_storeT rfl (.tmp 4) (.tmp 34) rfl (g:=rx) rfl (k:=2) (s:=0) (n:=N) (ka:=none) (kl:=0) (kc:=0) rfl HBR.out rfl ?_
          intro w6 c6 q6 e6 z6
          have HG6:=Lib.hid c6
          have HE6:=Lib.hid (e6 w HE.out (by have:=HNB.out;omega))
          clear c6 q6 e6 z6)
         exact ret_term_tt (g:=rx) rfl rfl HG6.out rfl ⟨_,_,by rw [HF.out];rfl,HE6.out,by rw [HF.out];exact ⟨_,_,_,_,_,_,_,rfl,rfl⟩⟩
       | true =>
         have HZ2:Hid (Z=if (isQ s || !isB R)=true then leafP (if isQ s then 1 else 2) N R else (readL (readP d) R.size [] (R.extract 1 R.size)).map (fun q=>(.mk 3 N 0 q.1,q.2))):=Lib.hid (by rw [HZ.out,if_neg (by simp)])
         have hNz:(N.size:Int)≤s.size:=by omega
         go_upto_region 9 with fail
         rw [←HRE.out]
         by_cases hb:isB R=true
         · have hr0 : 0 < R.size:=by
            unfold isB at hb
            split at hb
            · assumption
            · cases hb
           have hr0z:(0:Int)<R.size:=by omega
           have e1:((R.size:Int)==0)=false:=beq_eq_false_iff_ne.2 (by omega)
           have e2:(((R[0].toNat:Nat):Int) != 40)=false:=by
            unfold isB at hb
            rw [dif_pos hr0] at hb
            rw [of_decide_eq_true hb];decide
           have hr1z:(1:Int)≤R.size:=by omega
           obtain ⟨T0,hT0⟩:∃T0,T0=R.extract 1 R.size:=⟨_,rfl⟩
           obtain ⟨Y,hY⟩:∃Y,Y=readL (readP d) R.size [] T0:=⟨_,rfl⟩
           have HF0:Hid (Z=Y.map (fun q=>(.mk 3 N 0 q.1,q.2))):=Lib.hid (by
            rw [HZ2.out,if_neg (by rw [hQ,hb];simp),hY,hT0])
           have hT0s:T0.size+1=R.size:=by rw [hT0,ByteArray.size_extract];omega
           have HT0:=Lib.hid hT0
           have HY:=Lib.hid hY
           have f0:w4.frozen? ⟨bx,0,none⟩=false:=frozen_of HBX.out
           clear hb hT0 hY
           go_upto_region 12 with fail
           have hx5:=box_set0 (.int .i64 3) HBX.out
           have hr5:(w4.setCell ⟨bx,0,none⟩ (.int .i64 3)).heap[rx]?=_:=(heap_setCell_other _ _ _ _ (by show rx≠bx;have:=HNB.out;omega)).trans HBR.out
           have hE5:=HE.out.setCell (b:=bx) (o:=0) (by have:=HNB.out;omega) (.int .i64 3)
           have hz5:(w4.setCell ⟨bx,0,none⟩ (.int .i64 3)).heap.size=bx+1:=by rw [World.size_setCell];exact HSZ.out
           generalize hw5:World.setCell w4 _ _=w5 at hx5 hr5 hE5 hz5 ⊢
           have HBX:=Lib.hid hx5
           have HBR:=Lib.hid hr5
           have HE:=Lib.hid hE5
           have HSZ:=Lib.hid hz5
           clear hx5 hr5 hE5 hz5 hw5 f0 b0 b1 b2 b3
           go_wp2_with fail
           rw [←HT0.out]
           go_loopw [0] (fun sv wr=>Hid (∃(kids:List Tm) (r:ByteArray) (f:Nat) (oa:Option Addr) (oc:Nat),sv=.string r∧r.size<f∧kids.length+r.size≤100000∧readL (readP d) f kids r=Y∧wr.heap[bx]?=some (.cells #[.int .i64 3,.string N,.int .i64 0,.slice oa kids.length oc] 33)∧wr.heap[rx]?=some (.cells #[.int .i64 0,.string ⟨#[]⟩,.int .i64 0,.slice none 0 0] 33)∧OwnG elN wr (bx+1) 33 (fun c=>bx+1≤c∧(Value.slice oa kids.length oc).ownBlock≠some c) (.slice oa kids.length oc) kids∧bx+1≤wr.heap.size∧Ext w wr)) (fun sv _=>strLen sv)
           case atStart=>exact Lib.hid ⟨[],T0,R.size,none,0,rfl,by omega,by simp;omega,HY.out.symm,HBX.out,HBR.out,OwnG.nil,Nat.le_of_eq HSZ.out.symm,HE.out⟩
           case round =>
            obtain ⟨kids,r,f,oa,oc,rfl,hrf,hks,hYr,hbx,hrx,hO,hB0,hE⟩:=hrel.out
            have HBX:=Lib.hid hbx
            have HBR:=Lib.hid hrx
            have HO9:=Lib.hid hO
            have HE:=Lib.hid hE
            have HB0:=Lib.hid hB0
            obtain ⟨-,hol,hoc⟩:=(hO.ls (S':=Any) (fun _ _ _=>trivial) (fun _ _ _ _=>trivial)).len
            unfold maxLen at hoc
            obtain ⟨f,rfl⟩:∃f',f=f'+1:=⟨f-1,by omega⟩
            rw [readL] at hYr
            have HYR:=Lib.hid hYr
            obtain ⟨b0,b1,b2,b3⟩:=box4 hbx
            have hrsz:r.size≤100000:=by omega
            clear hrel hbx hrx hO hB0 hE hYr
            by_cases hr:0<r.size
            · have hrz : (0:Int)<r.size:=by omega
              have ez:((r.size:Int)==0)=false:=beq_eq_false_iff_ne.2 (by omega)
              by_cases hc:r[0]=41
              · have ec:(((r[0].toNat:Nat):Int) != 41)=false:=by rw [hc];decide
                have HF:Hid (Z=some (.mk 3 N 0 kids,r.extract 1 r.size)):=Lib.hid (by
                 have h:=HYR.out
                 rw [dif_pos hr,if_pos hc] at h
                 rw [HF0.out,←h];rfl)
                have hr1z:(1:Int)≤r.size:=by omega
                clear hc
                go_upto_region 25 with fail
                obtain ⟨r0,r1,r2,r3⟩:=box4 HBR.out
                have f0:wr.frozen? ⟨rx,0,none⟩=false:=frozen_of HBR.out
                have f1:wr.frozen? ⟨rx,1,none⟩=false:=frozen_of HBR.out
                have f2:wr.frozen? ⟨rx,2,none⟩=false:=frozen_of HBR.out
                have f3:wr.frozen? ⟨rx,3,none⟩=false:=frozen_of HBR.out
                have hne:bx≠rx:=by have:=HNB.out;omega
                have HS4:=Lib.hid (set4_bx (.int .i64 3) (.string N) (.int .i64 0) (.slice oa kids.length oc) HBR.out)
                go_region
                generalize hwm:World.drew _=wm
                have hEm:Ext w wm:=by
                 rw [←hwm]
                 exact (HS4.out.2.2 w HE.out (by have:=HNB.out;omega)).then_dr
                have HEM:=Lib.hid hEm
                have HG6:Hid (wm.heap[rx]?=some (.cells #[.int .i64 3,.string N,.int .i64 0,.slice oa kids.length oc] 33)):=Lib.hid (by
                 rw [←hwm]
                 exact hs_ext (Ext.drew _) HS4.out.1)
                have HT6:Hid (TnW wm (fun c=>w.heap.size≤c) oa oc (.mk 3 N 0 kids)):=Lib.hid (by
                 have h1:=HO9.out.keep (w':=wm) (S':=fun c=>w.heap.size≤c) (fun g hg=>by
                  rw [←hwm]
                  exact HS4.out.2.1 g (by have:=(HO9.out.lt g hg).1;have:=HNB.out;omega)) (fun c hc _=>by
                  rw [←hwm]
                  exact HS4.out.2.1 c (by have:=hc.1;have:=HNB.out;omega)) (fun c hc _=>by have:=hc.1;have:=HNB.out;omega)
                 exact tn_app HNL.out (h1.ls (S':=fun c=>w.heap.size≤c) (fun c h _=>h) (fun g hg hb _=>by have:=HNB.out;omega)))
                clear hEm hwm
                go_wp2_with fail
                exact ret_term_tt (g:=rx) rfl rfl HG6.out rfl ⟨_,_,by rw [HF.out];rfl,HEM.out,by rw [HF.out];exact ⟨rfl,oa,oc,rfl,HT6.out⟩⟩
              · have ec : (((r[0].toNat:Nat):Int) != 41)=true:=u8_neq (b:=41) (by decide) hc
                have HY1:Hid ((match sepP kids r with | none=>none | some s'=>match readP d s' with | none=>none | some q=>readL (readP d) f (kids++[q.1]) q.2)=Y):=Lib.hid (by
                 have h:=HYR.out
                 rw [dif_pos hr,if_neg hc] at h
                 exact h)
                clear hc
                have HO0:Hid (∀c,(Value.slice oa kids.length oc).ownBlock=some c→c<wr.heap.size):=Lib.hid (fun c e=>(HO9.out.lt c e).2)
                by_cases hk0:kids.length=0
                · have hk0z:¬((0:Int)<kids.length):=by omega
                  have HY2:Hid ((readP d r).bind (fun q=>readL (readP d) f (kids++[q.1]) q.2)=Y):=Lib.hid (by
                   have h:=HY1.out
                   have e:sepP kids r=some r:=by unfold sepP;rw [if_pos hk0]
                   rw [e] at h
                   simp only at h
                   cases hh:readP d r<;>(rw [hh] at h;exact h))
                  clear hk0
                  have hcr:=IH.out wr r (by omega) (by omega)
                  have hrl:=readP_size d r
                  obtain ⟨P,hP⟩:∃P,P=readP d r:=⟨_,rfl⟩
                  rw [←hP] at hcr
                  have HY3:Hid (P.bind (fun q=>readL (readP d) f (kids++[q.1]) q.2)=Y):=Lib.hid (by rw [hP];exact HY2.out)
                  have HCR:=Lib.hid hcr
                  have HRL:=Lib.hid (fun q (e:P=some q)=>hrl q (by rw [←hP];exact e))
                  clear hcr hrl hP
                  go_wp2_with fail
                  try rw [←HT2.out]
                  refine HCR.out.mono ?_
                  rintro e w6 ⟨v,sv,rfl,hE6,hP6⟩
                  have HB6:=Lib.hid (Nat.le_trans HB0.out hE6.size)
                  obtain ⟨b0,b1,b2,b3⟩:=cs_e4 hE6 ⟨b0,b1,b2,b3⟩
                  have HBX:=Lib.hid (hs_ext hE6 HBX.out)
                  have HBR:=Lib.hid (hs_ext hE6 HBR.out)
                  have HE:=Lib.hid (HE.out.trans hE6)
                  have HO9:=Lib.hid (HO9.out.ext hE6)
                  cases P with
                  | none =>
                    obtain ⟨yk,ys,yn,yr,ya,yl,yc,rfl,rfl⟩:=hP6.shape
                    have HF:Hid (Z=none):=Lib.hid (by rw [HF0.out,←HY3.out];rfl)
                    obtain ⟨w7,hw7⟩:∃zz9,zz9=w6.alloc (.cells #[.int .i64 yk,.string yn,.int .i64 ys,.slice ya yl yc] 33):=⟨_,rfl⟩
                    have hE7:Ext w6 w7:=by rw [hw7];exact Ext.alloc _ _
                    obtain ⟨b0,b1,b2,b3⟩:=cs_e4 hE7 ⟨b0,b1,b2,b3⟩
                    have HBX:=Lib.hid (hs_ext hE7 HBX.out)
                    have HBR:=Lib.hid (hs_ext hE7 HBR.out)
                    have HE:=Lib.hid (HE.out.trans hE7)
                    clear hE6 hP6 hE7
                    go_upto_region 20 with fail
                    rw [←hw7]
                    clear hw7
                    go_wp2_with (
                     refine wpList_storeT rfl (.tmp 4) (.tmp 97) rfl (g:=rx) rfl (k:=3) (s:=0) (n:=N) (ka:=oa) (kl:=kids.length) (kc:=oc) rfl HBR.out rfl ?_
                     intro w6 c6 q6 e6 z6
                     have HG6:=Lib.hid c6
                     have HE6:=Lib.hid (e6 w HE.out (by have:=HNB.out;omega))
                     clear c6 q6 e6 z6)
                    exact ret_term_tt (g:=rx) rfl rfl HG6.out rfl ⟨_,_,by rw [HF.out];rfl,HE6.out,by rw [HF.out];exact ⟨_,_,_,_,_,_,_,rfl,rfl⟩⟩
                  | some q =>
                    obtain ⟨rfl,xa,xc,rfl,hT6⟩:=hP6
                    have HN:Hid (readL (readP d) f (kids++[q.1]) q.2=Y):=HY3
                    have hq2:=HRL.out q rfl
                    obtain ⟨xx,w7,hbxx,hwxx,HBxx,hExx⟩:=box_new w6 (.cells #[.int .i64 q.1.kind,.string q.1.name,.int .i64 q.1.sort,.slice xa q.1.kids.length xc] 33)
                    obtain ⟨b0,b1,b2,b3⟩:=cs_e4 hExx ⟨b0,b1,b2,b3⟩
                    have HBX:=Lib.hid (hs_ext hExx HBX.out)
                    have HBR:=Lib.hid (hs_ext hExx HBR.out)
                    have HE:=Lib.hid (HE.out.trans hExx)
                    have HO9:=Lib.hid (HO9.out.ext hExx)
                    have HB7:=Lib.hid (Nat.le_trans HB6.out hExx.size)
                    have HTX:=Lib.hid ((hT6.ext hExx).wide (S':=fun c=>bx+1≤c∧(Value.slice oa kids.length oc).ownBlock≠some c) (fun c h _=>⟨by have:=HB0.out;omega,fun e=>by have:=HO0.out c e;omega⟩))
                    clear hE6 hT6 hExx
                    go_upto_region 21 with fail
                    rw [←hwxx,←hbxx]
                    clear hwxx hbxx
                    obtain ⟨x0,x1,x2,x3⟩:=box4r (HBxx.out)
                    have hE8:Ext w7 (w7.alloc (.cells #[.int .i64 q.1.kind,.string q.1.name,.int .i64 q.1.sort,.slice xa q.1.kids.length xc] 33)):=Ext.alloc _ _
                    have HQ2:=Lib.hid hq2
                    clear hq2
                    go_wp2_with (
                     (at_builtin
                      refine wpList_appG (E:=elN) (T:=33) rfl 31 (.tmp 100) (.tmp 102) rfl rfl rfl Tryz.underlying31 infTm rfl (by decide) (by decide) ((HO9.out.ext hE8).wide (S':=fun c=>(bx+1≤c∧(Value.slice oa kids.length oc).ownBlock≠some c)∧c<w7.heap.size+1) (fun c h h2=>⟨h,by simpa using h2⟩)) (Nat.le_trans HB7.out hE8.size) (fun c h=>h.1.2) (by omega) (M:=[q.1]) (by simp) (tn_e hs_new ((HTX.out.ext hE8).wide (fun c h h2=>⟨h,by simpa using h2⟩))) ?_
                      intro v8 w8 o8 g8 k8
                      obtain ⟨a8,c8,hv8,-,hc8⟩:=o8.slice
                      have hl9:(kids++[q.1]).length=kids.length+1:=by simp
                      rw [hl9] at hv8
                      subst hv8
                      have HL9:=Lib.hid hl9
                      clear hl9
                      have hlt9:=fun c (e:(Value.slice oa kids.length oc).ownBlock=some c)=>(HO9.out.lt c e).1
                      have HBX8:Hid (w8.heap[bx]?=some (.cells #[.int .i64 3,.string N,.int .i64 0,.slice oa kids.length oc] 33)):=Lib.hid ((g8.block bx (by have:=HB7.out;have:=hE8.size;omega) (fun e=>by have:=hlt9 bx e.symm;omega)).trans (hs_ext hE8 HBX.out))
                      have HBR8:Hid (w8.heap[rx]?=some (.cells #[.int .i64 0,.string ⟨#[]⟩,.int .i64 0,.slice none 0 0] 33)):=Lib.hid ((g8.block rx (by have:=HB7.out;have:=hE8.size;have:=HNB.out;omega) (fun e=>by have:=hlt9 rx e.symm;have:=HNB.out;omega)).trans (hs_ext hE8 HBR.out))
                      have HE8:Hid (Ext w w8):=Lib.hid (Ext.grown (HE.out.trans hE8) g8 (fun c hc=>by have:=hlt9 c hc;have:=HNB.out;omega))
                      have HS8:Hid (bx+1≤w8.heap.size):=Lib.hid (Nat.le_trans HB7.out (Nat.le_trans hE8.size g8.size))
                      rw [World.size_alloc] at k8
                      have HO8:=Lib.hid (o8.turn k8)
                      have n0:w8.frozen? ⟨bx,3,none⟩=false:=frozen_of HBX8.out
                      have n3:=(box4 HBX8.out).2.2.2
                      clear o8 g8 k8 hlt9 hc8))
                    go_roundw
                    case rel=>exact Lib.hid ⟨kids++[q.1],q.2,f,a8,c8,rfl,by have:=HQ2.out;omega,by have:=HQ2.out;rw [List.length_append];simp;omega,HN.out,by rw [HL9.out];exact box_set3 _ HBX8.out,(heap_setCell_other _ _ _ _ (by show rx≠bx;have:=HNB.out;omega)).trans HBR8.out,by rw [HL9.out];exact HO8.out.keep (fun g hg=>heap_setCell_other _ _ _ _ (by show g≠bx;have:=(HO8.out.lt g hg).1;omega)) (fun c hc _=>heap_setCell_other _ _ _ _ (by show c≠bx;have:=hc.1;omega)) (fun _ h _=>h),by rw [World.size_setCell];exact HS8.out,HE8.out.setCell (by have:=HNB.out;omega) _⟩
                    case measure=>simp only [strLen];have:=HQ2.out;omega
                · have hk0z:(0:Int)<kids.length:=by omega
                  have hk0n:0<kids.length:=by omega
                  by_cases h2:r.size<2
                  · have HF:Hid (Z=none):=Lib.hid (by
                     have h:=HY1.out
                     have e:sepP kids r=none:=by unfold sepP;rw [if_neg hk0,if_pos h2]
                     rw [e] at h
                     rw [HF0.out,←h];rfl)
                    have h2z:(r.size:Int)<2:=by omega
                    go_upto_region 16 with fail
                    go_wp2_with (
                     refine wpList_storeT rfl (.tmp 4) (.tmp 83) rfl (g:=rx) rfl (k:=3) (s:=0) (n:=N) (ka:=oa) (kl:=kids.length) (kc:=oc) rfl HBR.out rfl ?_
                     intro w6 c6 q6 e6 z6
                     have HG6:=Lib.hid c6
                     have HE6:=Lib.hid (e6 w HE.out (by have:=HNB.out;omega))
                     clear c6 q6 e6 z6)
                    exact ret_term_tt (g:=rx) rfl rfl HG6.out rfl ⟨_,_,by rw [HF.out];rfl,HE6.out,by rw [HF.out];exact ⟨_,_,_,_,_,_,_,rfl,rfl⟩⟩
                  · have h2z:¬((r.size:Int)<2):=by omega
                    have h2y:(2:Int)≤r.size:=by omega
                    by_cases hc:r.extract 0 2=⟨#[44,32]⟩
                    · have HCC:=Lib.hid hc
                      have hcb:(r.extract 0 2).toList=[44,32]:=by rw [hc,ByteArray.toList_eq]
                      obtain ⟨T2,hT2⟩:∃T2,T2=r.extract 2 r.size:=⟨_,rfl⟩
                      have hTs:T2.size+2=r.size:=by rw [hT2,ByteArray.size_extract];omega
                      have HT2:=Lib.hid hT2
                      have HY2:Hid ((readP d T2).bind (fun q=>readL (readP d) f (kids++[q.1]) q.2)=Y):=Lib.hid (by
                       have h:=HY1.out
                       have e:sepP kids r=some T2:=by unfold sepP;rw [if_neg hk0,if_neg h2,if_pos hc,hT2]
                       rw [e] at h
                       simp only at h
                       cases hh:readP d T2<;>(rw [hh] at h;exact h))
                      clear hc hT2
                      go_upto_region 17 with fail
                      clear hcb
                      have hcr:=IH.out wr T2 (by omega) (by omega)
                      have hrl:=readP_size d T2
                      obtain ⟨P,hP⟩:∃P,P=readP d T2:=⟨_,rfl⟩
                      rw [←hP] at hcr
                      have HY3:Hid (P.bind (fun q=>readL (readP d) f (kids++[q.1]) q.2)=Y):=Lib.hid (by rw [hP];exact HY2.out)
                      have HCR:=Lib.hid hcr
                      have HRL:=Lib.hid (fun q (e:P=some q)=>hrl q (by rw [←hP];exact e))
                      clear hcr hrl hP
                      go_wp2_with fail
                      try rw [←HT2.out]
                      refine HCR.out.mono ?_
                      rintro e w6 ⟨v,sv,rfl,hE6,hP6⟩
                      have HB6:=Lib.hid (Nat.le_trans HB0.out hE6.size)
                      obtain ⟨b0,b1,b2,b3⟩:=cs_e4 hE6 ⟨b0,b1,b2,b3⟩
                      have HBX:=Lib.hid (hs_ext hE6 HBX.out)
                      have HBR:=Lib.hid (hs_ext hE6 HBR.out)
                      have HE:=Lib.hid (HE.out.trans hE6)
                      have HO9:=Lib.hid (HO9.out.ext hE6)
                      cases P with
                      | none =>
                        obtain ⟨yk,ys,yn,yr,ya,yl,yc,rfl,rfl⟩:=hP6.shape
                        have HF:Hid (Z=none):=Lib.hid (by rw [HF0.out,←HY3.out];rfl)
                        obtain ⟨w7,hw7⟩:∃zz9,zz9=w6.alloc (.cells #[.int .i64 yk,.string yn,.int .i64 ys,.slice ya yl yc] 33):=⟨_,rfl⟩
                        have hE7:Ext w6 w7:=by rw [hw7];exact Ext.alloc _ _
                        obtain ⟨b0,b1,b2,b3⟩:=cs_e4 hE7 ⟨b0,b1,b2,b3⟩
                        have HBX:=Lib.hid (hs_ext hE7 HBX.out)
                        have HBR:=Lib.hid (hs_ext hE7 HBR.out)
                        have HE:=Lib.hid (HE.out.trans hE7)
                        clear hE6 hP6 hE7
                        go_upto_region 20 with fail
                        rw [←hw7]
                        clear hw7
                        go_wp2_with (
                         refine wpList_storeT rfl (.tmp 4) (.tmp 97) rfl (g:=rx) rfl (k:=3) (s:=0) (n:=N) (ka:=oa) (kl:=kids.length) (kc:=oc) rfl HBR.out rfl ?_
                         intro w6 c6 q6 e6 z6
                         have HG6:=Lib.hid c6
                         have HE6:=Lib.hid (e6 w HE.out (by have:=HNB.out;omega))
                         clear c6 q6 e6 z6)
                        exact ret_term_tt (g:=rx) rfl rfl HG6.out rfl ⟨_,_,by rw [HF.out];rfl,HE6.out,by rw [HF.out];exact ⟨_,_,_,_,_,_,_,rfl,rfl⟩⟩
                      | some q =>
                        obtain ⟨rfl,xa,xc,rfl,hT6⟩:=hP6
                        have HN:Hid (readL (readP d) f (kids++[q.1]) q.2=Y):=HY3
                        have hq2:=HRL.out q rfl
                        obtain ⟨xx,w7,hbxx,hwxx,HBxx,hExx⟩:=box_new w6 (.cells #[.int .i64 q.1.kind,.string q.1.name,.int .i64 q.1.sort,.slice xa q.1.kids.length xc] 33)
                        obtain ⟨b0,b1,b2,b3⟩:=cs_e4 hExx ⟨b0,b1,b2,b3⟩
                        have HBX:=Lib.hid (hs_ext hExx HBX.out)
                        have HBR:=Lib.hid (hs_ext hExx HBR.out)
                        have HE:=Lib.hid (HE.out.trans hExx)
                        have HO9:=Lib.hid (HO9.out.ext hExx)
                        have HB7:=Lib.hid (Nat.le_trans HB6.out hExx.size)
                        have HTX:=Lib.hid ((hT6.ext hExx).wide (S':=fun c=>bx+1≤c∧(Value.slice oa kids.length oc).ownBlock≠some c) (fun c h _=>⟨by have:=HB0.out;omega,fun e=>by have:=HO0.out c e;omega⟩))
                        clear hE6 hT6 hExx
                        go_upto_region 21 with fail
                        rw [←hwxx,←hbxx]
                        clear hwxx hbxx
                        obtain ⟨x0,x1,x2,x3⟩:=box4r (HBxx.out)
                        have hE8:Ext w7 (w7.alloc (.cells #[.int .i64 q.1.kind,.string q.1.name,.int .i64 q.1.sort,.slice xa q.1.kids.length xc] 33)):=Ext.alloc _ _
                        have HQ2:=Lib.hid hq2
                        clear hq2
                        go_wp2_with (
                         (at_builtin
                          refine wpList_appG (E:=elN) (T:=33) rfl 31 (.tmp 100) (.tmp 102) rfl rfl rfl Tryz.underlying31 infTm rfl (by decide) (by decide) ((HO9.out.ext hE8).wide (S':=fun c=>(bx+1≤c∧(Value.slice oa kids.length oc).ownBlock≠some c)∧c<w7.heap.size+1) (fun c h h2=>⟨h,by simpa using h2⟩)) (Nat.le_trans HB7.out hE8.size) (fun c h=>h.1.2) (by omega) (M:=[q.1]) (by simp) (tn_e hs_new ((HTX.out.ext hE8).wide (fun c h h2=>⟨h,by simpa using h2⟩))) ?_
                          intro v8 w8 o8 g8 k8
                          obtain ⟨a8,c8,hv8,-,hc8⟩:=o8.slice
                          have hl9:(kids++[q.1]).length=kids.length+1:=by simp
                          rw [hl9] at hv8
                          subst hv8
                          have HL9:=Lib.hid hl9
                          clear hl9
                          have hlt9:=fun c (e:(Value.slice oa kids.length oc).ownBlock=some c)=>(HO9.out.lt c e).1
                          have HBX8:Hid (w8.heap[bx]?=some (.cells #[.int .i64 3,.string N,.int .i64 0,.slice oa kids.length oc] 33)):=Lib.hid ((g8.block bx (by have:=HB7.out;have:=hE8.size;omega) (fun e=>by have:=hlt9 bx e.symm;omega)).trans (hs_ext hE8 HBX.out))
                          have HBR8:Hid (w8.heap[rx]?=some (.cells #[.int .i64 0,.string ⟨#[]⟩,.int .i64 0,.slice none 0 0] 33)):=Lib.hid ((g8.block rx (by have:=HB7.out;have:=hE8.size;have:=HNB.out;omega) (fun e=>by have:=hlt9 rx e.symm;have:=HNB.out;omega)).trans (hs_ext hE8 HBR.out))
                          have HE8:Hid (Ext w w8):=Lib.hid (Ext.grown (HE.out.trans hE8) g8 (fun c hc=>by have:=hlt9 c hc;have:=HNB.out;omega))
                          have HS8:Hid (bx+1≤w8.heap.size):=Lib.hid (Nat.le_trans HB7.out (Nat.le_trans hE8.size g8.size))
                          rw [World.size_alloc] at k8
                          have HO8:=Lib.hid (o8.turn k8)
                          have n0:w8.frozen? ⟨bx,3,none⟩=false:=frozen_of HBX8.out
                          have n3:=(box4 HBX8.out).2.2.2
                          clear o8 g8 k8 hlt9 hc8))
                        go_roundw
                        case rel=>exact Lib.hid ⟨kids++[q.1],q.2,f,a8,c8,rfl,by have:=HQ2.out;omega,by have:=HQ2.out;rw [List.length_append];simp;omega,HN.out,by rw [HL9.out];exact box_set3 _ HBX8.out,(heap_setCell_other _ _ _ _ (by show rx≠bx;have:=HNB.out;omega)).trans HBR8.out,by rw [HL9.out];exact HO8.out.keep (fun g hg=>heap_setCell_other _ _ _ _ (by show g≠bx;have:=(HO8.out.lt g hg).1;omega)) (fun c hc _=>heap_setCell_other _ _ _ _ (by show c≠bx;have:=hc.1;omega)) (fun _ h _=>h),by rw [World.size_setCell];exact HS8.out,HE8.out.setCell (by have:=HNB.out;omega) _⟩
                        case measure=>simp only [strLen];have:=HQ2.out;omega
                    · have HF:Hid (Z=none):=Lib.hid (by
                       have h:=HY1.out
                       have e:sepP kids r=none:=by unfold sepP;rw [if_neg hk0,if_neg h2,if_neg hc]
                       rw [e] at h
                       rw [HF0.out,←h];rfl)
                      have hcb:((r.extract 0 2).toList==[44,32])=false:=beq_eq_false_iff_ne.2 (fun e=>hc (bytes_eq (by rw [e,ByteArray.toList_eq])))
                      clear hc
                      go_upto_region 16 with fail
                      go_wp2_with (
                       refine wpList_storeT rfl (.tmp 4) (.tmp 83) rfl (g:=rx) rfl (k:=3) (s:=0) (n:=N) (ka:=oa) (kl:=kids.length) (kc:=oc) rfl HBR.out rfl ?_
                       intro w6 c6 q6 e6 z6
                       have HG6:=Lib.hid c6
                       have HE6:=Lib.hid (e6 w HE.out (by have:=HNB.out;omega))
                       clear c6 q6 e6 z6)
                      exact ret_term_tt (g:=rx) rfl rfl HG6.out rfl ⟨_,_,by rw [HF.out];rfl,HE6.out,by rw [HF.out];exact ⟨_,_,_,_,_,_,_,rfl,rfl⟩⟩
            · have hrz:¬((0:Int)<r.size):=by omega
              have ez:((r.size:Int)==0)=true:=by rw [show r.size=0 by omega];decide
              have HF:Hid (Z=none):=Lib.hid (by
               have h:=HYR.out
               rw [dif_neg hr] at h
               rw [HF0.out,←h];rfl)
              go_upto_region 24 with fail
              go_wp2_with (
               refine wpList_storeT rfl (.tmp 4) (.tmp 109) rfl (g:=rx) rfl (k:=3) (s:=0) (n:=N) (ka:=oa) (kl:=kids.length) (kc:=oc) rfl HBR.out rfl ?_
               intro w6 c6 q6 e6 z6
               have HG6:=Lib.hid c6
               have HE6:=Lib.hid (e6 w HE.out (by have:=HNB.out;omega))
               clear c6 q6 e6 z6)
              exact ret_term_tt (g:=rx) rfl rfl HG6.out rfl ⟨_,_,by rw [HF.out];rfl,HE6.out,by rw [HF.out];exact ⟨_,_,_,_,_,_,_,rfl,rfl⟩⟩
         · have HF:Hid (Z=leafP 2 N R):=Lib.hid (by
            rw [HZ2.out,if_pos (by simp [hb]),if_neg (by rw [hQ];simp)])
           by_cases hr0:0<R.size
           · have hr0z:(0:Int)<R.size:=by omega
             have e1:((R.size:Int)==0)=false:=beq_eq_false_iff_ne.2 (by omega)
             have e2:(((R[0].toNat:Nat):Int) != 40)=true:=by
              have hne:R[0]≠40:=fun e=>hb (by unfold isB;rw [dif_pos hr0];simp [e])
              exact u8_neq (b:=40) (by decide) hne
             clear hb
             have HCL:=Lib.hid (RLeaf_any (w:=w4) (S:=fun c=>bx<c) (k:=2) (n:=N) (s:=R) (by unfold I64;omega) HNL.out (by unfold maxLen;omega))
             go_wp2_with fail
             refine HCL.out.mono ?_
             rintro e w5 ⟨v,sv,rfl,hE5,hP5⟩
             obtain ⟨yk,ys,yn,yr,ya,yl,yc,rfl,rfl⟩:=hP5.shape
             have HBR:=Lib.hid (hs_ext hE5 HBR.out)
             have HE:=Lib.hid (HE.out.trans hE5)
             have HP5:=Lib.hid hP5
             clear hE5 hP5
             go_wp2_with (
              refine wpList_storeT rfl (.tmp 4) (.tmp 57) rfl (g:=rx) rfl (k:=yk) (s:=ys) (n:=yn) (ka:=ya) (kl:=yl) (kc:=yc) rfl HBR.out rfl ?_
              intro w6 c6 q6 e6 z6
              have HG6:=Lib.hid c6
              have HE6:=Lib.hid (e6 w HE.out (by have:=HNB.out;omega))
              have HP6:=Lib.hid (HP5.out.keep (S':=fun c=>w.heap.size≤c) (fun c hc _=>q6 c (by have:=HNB.out;omega)) (fun c hc _=>by have:=HNB.out;omega))
              clear c6 q6 e6 z6)
             exact ret_term_tt (g:=rx) rfl rfl HG6.out rfl ⟨_,_,by rw [HF.out];rfl,HE6.out,by rw [HF.out];exact HP6.out⟩
           · have e1:((R.size:Int)==0)=true:=by rw [show R.size=0 by omega];rfl
             clear hb
             have HCL:=Lib.hid (RLeaf_any (w:=w4) (S:=fun c=>bx<c) (k:=2) (n:=N) (s:=R) (by unfold I64;omega) HNL.out (by unfold maxLen;omega))
             go_wp2_with fail
             refine HCL.out.mono ?_
             rintro e w5 ⟨v,sv,rfl,hE5,hP5⟩
             obtain ⟨yk,ys,yn,yr,ya,yl,yc,rfl,rfl⟩:=hP5.shape
             have HBR:=Lib.hid (hs_ext hE5 HBR.out)
             have HE:=Lib.hid (HE.out.trans hE5)
             have HP5:=Lib.hid hP5
             clear hE5 hP5
             go_wp2_with (
              refine wpList_storeT rfl (.tmp 4) (.tmp 57) rfl (g:=rx) rfl (k:=yk) (s:=ys) (n:=yn) (ka:=ya) (kl:=yl) (kc:=yc) rfl HBR.out rfl ?_
              intro w6 c6 q6 e6 z6
              have HG6:=Lib.hid c6
              have HE6:=Lib.hid (e6 w HE.out (by have:=HNB.out;omega))
              have HP6:=Lib.hid (HP5.out.keep (S':=fun c=>w.heap.size≤c) (fun c hc _=>q6 c (by have:=HNB.out;omega)) (fun c hc _=>by have:=HNB.out;omega))
              clear c6 q6 e6 z6)
             exact ret_term_tt (g:=rx) rfl rfl HG6.out rfl ⟨_,_,by rw [HF.out];rfl,HE6.out,by rw [HF.out];exact HP6.out⟩
   · have hz0:¬((0:Int)<(s.size:Int)):=by omega
     have hQ:isQ s=false:=by unfold isQ;rw [dif_neg h0]
     have hN0:nameOk N=false:=by
      have:N.size=0:=by omega
      simp [nameOk,this]
     obtain rfl:o=false:=by rw [HO.out,hN0]
     clear hN0
     have HB1:Hid (B=s):=Lib.hid (by rw [HBQ.out];unfold bodyQ;rw [if_neg (by simp [hQ])])
     go_enter Tryz.func47,Tryz.ntmps47
     go_upto_region 1 with fail
     rw [←hw1,←hrx]
     clear hw1 hrx
     go_upto_region 2 with (refine wpList_buildT rfl [_] rfl [(0,.int .i64 2)] rfl (built_k 2) ?_)
     rw [←hw2,←hbx]
     clear hw2 hbx
     go_upto_region 5 with fail
     have HCN:=Lib.hid (fun w'=>by have h:=HCN.out w';rw [HB1.out] at h;exact h)
     have HRE:Hid (R=s.extract N.size s.size):=Lib.hid (by have h:=HRE.out;rw [HB1.out] at h;exact h)
     have hNs:N.size≤s.size:=by omega
     obtain ⟨w3,rfl⟩:∃w3,w3=w2:=⟨_,rfl⟩
     have f1:w3.frozen? ⟨bx,1,none⟩=false:=frozen_of HBX.out
     have b1:w3.cell? ⟨bx,1,none⟩=some (.string ⟨#[]⟩):=by rw [cellc HBX.out];rfl
     go_wp2_with fail
     refine (HCN.out _).mono ?_
     rintro e w9 ⟨rfl,rfl⟩
     go_upto_region 6 with fail
     have hx5:=box_set1 (.string N) HBX.out
     have hr5:(w3.setCell ⟨bx,1,none⟩ (.string N)).heap[rx]?=_:=(heap_setCell_other _ _ _ _ (by show rx≠bx;have:=HNB.out;omega)).trans HBR.out
     have hE5:=HE.out.setCell (b:=bx) (o:=1) (by have:=HNB.out;omega) (.string N)
     have hz5:(w3.setCell ⟨bx,1,none⟩ (.string N)).heap.size=bx+1:=by rw [World.size_setCell];exact HSZ.out
     generalize hw5:World.setCell w3 _ _=w4 at hx5 hr5 hE5 hz5 ⊢
     have HBX:=Lib.hid hx5
     have HBR:=Lib.hid hr5
     have HE:=Lib.hid hE5
     have HSZ:=Lib.hid hz5
     clear hx5 hr5 hE5 hz5 hw5 f1 b1
     obtain ⟨b0,b1,b2,b3⟩:=box4 HBX.out
     go_wp2_with fail
     refine (HCI.out _).mono ?_
     rintro e w9 ⟨rfl,rfl⟩
     have HF:Hid (Z=none):=Lib.hid (by rw [HZ.out];simp)
     go_wp2_with (
      refine wpList_storeT rfl (.tmp 4) (.tmp 34) rfl (g:=rx) rfl (k:=2) (s:=0) (n:=N) (ka:=none) (kl:=0) (kc:=0) rfl HBR.out rfl ?_
      intro w6 c6 q6 e6 z6
      have HG6:=Lib.hid c6
      have HE6:=Lib.hid (e6 w HE.out (by have:=HNB.out;omega))
      clear c6 q6 e6 z6)
     exact ret_term_tt (g:=rx) rfl rfl HG6.out rfl ⟨_,_,by rw [HF.out];rfl,HE6.out,by rw [HF.out];exact ⟨_,_,_,_,_,_,_,rfl,rfl⟩⟩

theorem sizeL_app (l m:List Tm):sizeL (l++m)=sizeL l+sizeL m:=by
 induction l with
 | nil=>simp [sizeL]
 | cons t l ih=>rw [List.cons_append,sizeL,sizeL,ih];omega
theorem leafP_sz {k:Int} {n s:ByteArray} {q:Tm × ByteArray} (h:leafP k n s=some q):sizeT q.1=1:=by
 unfold leafP at h
 split at h
 · split at h
   · split at h
     · cases h;rfl
     · cases h
   · split at h
     · cases h;rfl
     · cases h
 · split at h
   · cases h;rfl
   · cases h
theorem readL_sz {rd:ByteArray→Option (Tm × ByteArray)} (hrd:∀s q,rd s=some q→sizeT q.1+q.2.size≤s.size):∀(f:Nat) (kids:List Tm) (s:ByteArray) (q:List Tm × ByteArray),readL rd f kids s=some q→sizeL q.1+q.2.size≤sizeL kids+s.size
 | 0,kids,s,q,h=>by rw [readL] at h;cases h
 | f + 1, kids,s,q,h=>by
   rw [readL] at h
   split at h
   · split at h
     · cases h;simp only [ByteArray.size_extract];omega
     · split at h
       · cases h
       · rename_i s' hs
         split at h
         · cases h
         · rename_i p hp
           have h1:=sepP_size hs
           have h2:=hrd _ _ hp
           have h3:=readL_sz hrd f _ _ q h
           rw [sizeL_app] at h3
           simp only [sizeL] at h3
           omega
   · cases h
theorem readS_sz {rd:ByteArray→Option (Tm × ByteArray)} (hrd:∀s q,rd s=some q→sizeT q.1+q.2.size≤s.size) {s:ByteArray} {q:Tm × ByteArray} (h:readS rd s=some q):sizeT q.1+q.2.size≤s.size:=by
 unfold readS at h
 have hb:=bodyQ_size s
 have hns:=nameP_size (bodyQ s)
 have hr:(restN (bodyQ s)).size=(bodyQ s).size-(nameP (bodyQ s)).size:=by unfold restN;rw [ByteArray.size_extract];omega
 split at h
 · cases h
 · rename_i hn
   have hn':0<(nameP (bodyQ s)).size:=by
    simp only [nameOk,Bool.not_eq_false,decide_eq_true_eq] at hn
    exact hn.1
   split at h
   · have h1:=leafP_size h
     have h2:=leafP_sz h
     omega
   · obtain ⟨p,hp,rfl⟩:=Option.map_eq_some_iff.1 h
     have h1:=readL_sz hrd _ _ _ _ hp
     simp only [ByteArray.size_extract,sizeL] at h1
     simp only [sizeT]
     omega
theorem readP_sz:∀(d:Nat) (s:ByteArray) (q:Tm × ByteArray),readP d s=some q→sizeT q.1+q.2.size≤s.size
 | 0,s,q,h=>by rw [readP] at h;cases h
 | d+1,s,q,h=>by rw [readP] at h;exact readS_sz (readP_sz d) h

def errR (w:World) (S:Nat→Prop) (v:Value) (er:Int) (x:Tm) (e:Int):Prop:=er=e∧(e=0→IsN w S v x)∧(e≠0→v=.agg #[.int .i64 0,.string ⟨#[]⟩,.int .i64 0,.slice none 0 0])
def zeroTm:Tm:=.mk 0 ⟨#[]⟩ 0 []
theorem errR_zero {w:World} {S:Nat→Prop} {e:Int} (h:e≠0):errR w S (.agg #[.int .i64 0,.string ⟨#[]⟩,.int .i64 0,.slice none 0 0]) e (e,zeroTm).2 (e,zeroTm).1:=⟨rfl,fun h'=>absurd h' h,fun _=>rfl⟩
/-- what Parse answers -/
def parseO (o:Option (Tm × ByteArray)):Int × Tm:=match o with | none=>(2,zeroTm) | some q=>if q.2.size≠0 then (2,zeroTm) else if validT q.1≠0 then (validT q.1,zeroTm) else (0,q.1)
def parseP (s:ByteArray):Int × Tm:=parseO (readP 800 s)

theorem RParse_any {w:World} {s:ByteArray} (hs:s.size≤100000) :
 Calls Tryz.prog 15 #[.string s] w fun e w'=>∃v er,e=.returned (.tuple #[v,.int .i64 er])∧Ext w w'∧errR w' (fun c=>w.heap.size≤c) v er (parseP s).2 (parseP s).1:=by
 obtain ⟨rx,hrx⟩:∃zz9,zz9=w.heap.size:=⟨_,rfl⟩
 obtain ⟨w1,hw1⟩:∃zz9,zz9=w.alloc (.cells #[.int .i64 0,.string ⟨#[]⟩,.int .i64 0,.slice none 0 0] 33):=⟨_,rfl⟩
 have hE1:Ext w w1:=by rw [hw1];exact Ext.alloc _ _
 have hr1:w1.heap[rx]?=some (.cells #[.int .i64 0,.string ⟨#[]⟩,.int .i64 0,.slice none 0 0] 33):=by rw [hw1,hrx];exact hs_new
 have HS1:Hid (w1.heap.size=rx+1):=Lib.hid (by rw [hw1,hrx,World.size_alloc])
 have HBR:=Lib.hid hr1
 have HE:=Lib.hid hE1
 have HNB:Hid (w.heap.size=rx):=Lib.hid hrx.symm
 have hcr:=RRead_any 800 w1 s (Nat.le_refl _) hs
 have hsz:=readP_sz 800 s
 obtain ⟨O,hO⟩:∃O,O=readP 800 s:=⟨_,rfl⟩
 obtain ⟨Z,hZ⟩:∃Z,Z=parseP s:=⟨_,rfl⟩
 rw [←hZ]
 unfold parseP at hZ
 rw [←hO] at hZ hsz hcr
 have HZ:=Lib.hid hZ
 have HCR:=Lib.hid hcr
 have HSZ:=Lib.hid hsz
 clear hE1 hr1 hcr hO hZ hsz
 go_enter Tryz.func15,Tryz.ntmps15
 go_upto_region 1 with fail
 rw [←hw1,←hrx]
 clear hw1 hrx
 go_wp2_with fail
 refine HCR.out.mono ?_
 rintro e w2 ⟨v,sv,rfl,hE2,hP2⟩
 have HBR:=Lib.hid (hs_ext hE2 HBR.out)
 have HE:=Lib.hid (HE.out.trans hE2)
 cases O with
 | none =>
   obtain ⟨yk,ys,yn,yr,ya,yl,yc,rfl,rfl⟩:=hP2.shape
   have HF:Hid (Z=(2,zeroTm)):=Lib.hid (by rw [HZ.out];rfl)
   obtain ⟨w3,hw3⟩:∃zz9,zz9=w2.alloc (.cells #[.int .i64 yk,.string yn,.int .i64 ys,.slice ya yl yc] 33):=⟨_,rfl⟩
   have hE3:Ext w2 w3:=by rw [hw3];exact Ext.alloc _ _
   have HBR:=Lib.hid (hs_ext hE3 HBR.out)
   have HE:=Lib.hid (HE.out.trans hE3)
   clear hE2 hP2 hE3
   go_upto_region 3 with fail
   rw [←hw3]
   clear hw3
   go_wp2_with (first
    | (refine wpList_buildT rfl [] rfl [] rfl built_none ?_)
    | (refine wpList_storeT rfl (.tmp 2) (.tmp 20) rfl (g:=rx) rfl (k:=0) (s:=0) (n:=⟨#[]⟩) (ka:=none) (kl:=0) (kc:=0) rfl HBR.out rfl ?_
       intro w6 c6 q6 e6 z6
       have HG6:=Lib.hid c6
       have HE6:=Lib.hid (e6 w HE.out (by have:=HNB.out;omega))
       clear c6 q6 e6 z6))
   exact ret_term2 (g:=rx) rfl rfl HG6.out rfl ⟨_,_,rfl,HE6.out,by rw [HF.out];exact errR_zero (by decide)⟩
 | some q =>
   obtain ⟨rfl,xa,xc,rfl,hT2⟩:=hP2
   have hq3:=HSZ.out q rfl
   obtain ⟨xx,w3,hbxx,hwxx,HBxx,hExx⟩:=box_new w2 (.cells #[.int .i64 q.1.kind,.string q.1.name,.int .i64 q.1.sort,.slice xa q.1.kids.length xc] 33)
   have HBR:=Lib.hid (hs_ext hExx HBR.out)
   have HE:=Lib.hid (HE.out.trans hExx)
   have HTX:=Lib.hid ((hT2.ext hExx).wide (S':=fun c=>rx<c) (fun c h _=>by have:=HS1.out;omega))
   clear hE2 hT2 hExx
   by_cases h0:q.2.size=0
   · have HZ2:Hid (Z=if validT q.1≠0 then (validT q.1,zeroTm) else (0,q.1)):=Lib.hid (by rw [HZ.out];simp only [parseO];rw [if_neg (by simp [h0])])
     have hqe:(q.2.toList==[])=true:=by
      rw [ByteArray.toList_eq]
      have:q.2.data.toList=[]:=List.length_eq_zero_iff.1 (by rw [Array.length_toList];exact h0)
      rw [this];rfl
     have hqn:q.2.toList=[]:=by simpa using hqe
     clear h0 hqe
     go_upto_region 4 with fail
     rw [←hwxx,←hbxx]
     clear hwxx hbxx
     obtain ⟨x0,x1,x2,x3⟩:=box4r (HBxx.out)
     obtain ⟨o,ho⟩:∃o,o=validT q.1:=⟨_,rfl⟩
     have hcv:=RValid_any (w:=w3) (t:=q.1) (by omega) HTX.out.tm
     rw [←ho] at hcv HZ2
     have HCV:=Lib.hid hcv
     clear hcv ho
     go_wp2_with fail
     refine HCV.out.mono ?_
     rintro e w4 ⟨rfl,hE4⟩
     obtain ⟨x0,x1,x2,x3⟩:=cs_e4 hE4 ⟨x0,x1,x2,x3⟩
     have HBR:=Lib.hid (hs_ext hE4 HBR.out)
     have HE:=Lib.hid (HE.out.trans hE4)
     have HTX:=Lib.hid (HTX.out.ext hE4)
     clear hE4
     by_cases h1:o=0
     · have e1:(o != 0)=false:=by simp [h1]
       have HF:Hid (Z=(0,q.1)):=Lib.hid (by rw [HZ2.out,if_neg (by simp [h1])])
       clear h1
       go_wp2_with (
        refine wpList_storeT rfl (.tmp 2) (.tmp 27) rfl (g:=rx) rfl (k:=q.1.kind) (s:=q.1.sort) (n:=q.1.name) (ka:=xa) (kl:=q.1.kids.length) (kc:=xc) rfl HBR.out rfl ?_
        intro w6 c6 q6 e6 z6
        have HG6:=Lib.hid c6
        have HE6:=Lib.hid (e6 w HE.out (by have:=HNB.out;omega))
        have HT6:=Lib.hid (HTX.out.keep (w':=w6) (S':=fun c=>w.heap.size≤c) (fun c h _=>q6 c (by omega)) (fun c h _=>by have:=HNB.out;omega))
        clear c6 q6 e6 z6)
       exact ret_term2 (g:=rx) rfl rfl HG6.out rfl ⟨_,_,rfl,HE6.out,by rw [HF.out];exact ⟨rfl,fun _=>⟨xa,xc,rfl,HT6.out⟩,fun h=>absurd rfl h⟩⟩
     · have e1:(o != 0)=true:=by simp [h1]
       have HF:Hid (Z=(o,zeroTm)):=Lib.hid (by rw [HZ2.out,if_pos h1])
       have H1:=Lib.hid h1
       clear h1
       go_wp2_with (first
        | (refine wpList_buildT rfl [] rfl [] rfl built_none ?_)
        | (refine wpList_storeT rfl (.tmp 2) (.tmp 25) rfl (g:=rx) rfl (k:=0) (s:=0) (n:=⟨#[]⟩) (ka:=none) (kl:=0) (kc:=0) rfl HBR.out rfl ?_
           intro w6 c6 q6 e6 z6
           have HG6:=Lib.hid c6
           have HE6:=Lib.hid (e6 w HE.out (by have:=HNB.out;omega))
           clear c6 q6 e6 z6))
       exact ret_term2 (g:=rx) rfl rfl HG6.out rfl ⟨_,_,rfl,HE6.out,by rw [HF.out];exact errR_zero H1.out⟩
   · have HF:Hid (Z=(2,zeroTm)):=Lib.hid (by rw [HZ.out,parseO,if_pos h0])
     have hqe:(q.2.toList==[])=false:=by
      rw [beq_eq_false_iff_ne,ByteArray.toList_eq]
      intro e
      apply h0
      have:=congrArg List.length e
      rw [Array.length_toList] at this
      exact this
     clear h0
     go_upto_region 3 with fail
     rw [←hwxx,←hbxx]
     clear hwxx hbxx
     go_wp2_with (first
      | (refine wpList_buildT rfl [] rfl [] rfl built_none ?_)
      | (refine wpList_storeT rfl (.tmp 2) (.tmp 20) rfl (g:=rx) rfl (k:=0) (s:=0) (n:=⟨#[]⟩) (ka:=none) (kl:=0) (kc:=0) rfl HBR.out rfl ?_
         intro w6 c6 q6 e6 z6
         have HG6:=Lib.hid c6
         have HE6:=Lib.hid (e6 w HE.out (by have:=HNB.out;omega))
         clear c6 q6 e6 z6))
     exact ret_term2 (g:=rx) rfl rfl HG6.out rfl ⟨_,_,rfl,HE6.out,by rw [HF.out];exact errR_zero (by decide)⟩

end Go.Proofs.YtclijngnoepbiaaGreat
