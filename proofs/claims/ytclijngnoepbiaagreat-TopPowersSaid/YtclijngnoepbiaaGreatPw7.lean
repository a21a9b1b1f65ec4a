/- Contracts: the reference's name. Contracts: the reference's words of sorts. Contracts: the reference's leaf, with terms whose atoms have no kids. -/
import Derived.Test.YtclijngnoepbiaaGreatG2
import Derived.Test.YtclijngnoepbiaaGreatH1
import Derived.Test.YtclijngnoepbiaaGreatPw6
import Derived.StillTailTactics
import Derived.Deep.QuietTactic
import Derived.BigQuiet
set_option maxRecDepth 100000
set_option maxHeartbeats 8000000
namespace Go.Proofs.YtclijngnoepbiaaGreat
open Go Go.RowKit
set_option linter.unusedVariables false
set_option linter.unusedSimpArgs false

def nmC (c:UInt8):Bool:=letterB c || (digitB c || (c.toNat==95 || c.toNat==35))
/-- the place behind the bytes of a name, from i on -/
def nameN (s:ByteArray):Nat→Nat→Nat
 | 0,i=>i
 | f+1,i=>if h:i<s.size then (if nmC s[i] then nameN s f (i+1) else i) else i
def nameP (s:ByteArray):ByteArray:=s.extract 0 (nameN s s.size 0)
theorem nameN_le (s:ByteArray):∀f i,i≤s.size→nameN s f i≤s.size
 | 0,i,h=>h
 | f + 1,i,h=>by
   rw [nameN]
   split
   · split
     · exact nameN_le s f (i+1) (by omega)
     · exact h
   · exact h
theorem nameN_go {s:ByteArray} {k:Nat} (h:k<s.size) (hc:nmC s[k]=true):nameN s (s.size-k) k=nameN s (s.size-(k+1)) (k+1):=by
 rw [show s.size-k=(s.size-(k+1))+1 by omega,nameN,dif_pos h,if_pos hc]
theorem nameN_stop {s:ByteArray} {k:Nat} (h:k<s.size) (hc:nmC s[k]=false):nameN s (s.size-k) k=k:=by
 rw [show s.size-k=(s.size-(k+1))+1 by omega,nameN,dif_pos h,if_neg (by simp [hc])]
theorem nameN_end {s:ByteArray} {k:Nat} (h:s.size≤k):nameN s (s.size-k) k=k:=by
 rw [show s.size-k=0 by omega,nameN]

theorem RName_any (s:ByteArray) (w:World) (hs:s.size≤maxLen) :
 Calls Tryz.prog 81 #[.string s] w fun e w'=>e=.returned (.string (nameP s))∧w=w':=by
 unfold maxLen at hs
 obtain ⟨Z,hZ⟩:∃Z,Z=nameN s s.size 0:=⟨_,rfl⟩
 have hZl:Z≤s.size:=by rw [hZ];exact nameN_le s _ _ (by omega)
 have HP:Hid (nameP s=s.extract 0 Z):=Lib.hid (by rw [hZ];rfl)
 have HZ:=Lib.hid hZ
 clear hZ
 go_enter Tryz.func81,Tryz.ntmps81
 go_wp2_with fail
 go_loop [3] (fun i=>Hid (∃k:Nat,k≤s.size∧i=.int .i64 k∧nameN s (s.size-k) k=Z)) (fun i=>s.size-(intOf i).toNat)
 case atStart=>exact Lib.hid ⟨0,Nat.zero_le _,rfl,HZ.out.symm⟩
 case round =>
  obtain ⟨k,hk,rfl,hN⟩:=hrel.out
  have HN:=Lib.hid hN
  clear hrel hN
  by_cases hlt:k<s.size
  · have hltz:(k:Int)<s.size:=by omega
    have HGO:Hid (nmC s[k]=true→nameN s (s.size-(k+1)) (k+1)=Z):=Lib.hid (fun h=>by rw [←nameN_go hlt h];exact HN.out)
    have HST:Hid (nmC s[k]=false→Z=k):=Lib.hid (fun h=>by rw [←HN.out];exact nameN_stop hlt h)
    have hb:=s[k].toNat_lt
    obtain ⟨l,hl⟩:∃l,l=letterB s[k]:=⟨_,rfl⟩
    obtain ⟨d,hd⟩:∃d,d=digitB s[k]:=⟨_,rfl⟩
    have hcl:=fun w'=>letter_any s[k] w'
    have hcd:=fun w'=>digit_any s[k] w'
    rw [←hl] at hcl
    rw [←hd] at hcd
    have HCL:=Lib.hid hcl
    have HCD:=Lib.hid hcd
    have HL2:=Lib.hid hl
    have HD2:=Lib.hid hd
    clear hcl hcd hl hd
    cases l with
    | true =>
      have HF:=Lib.hid (HGO.out (by simp [nmC,←HL2.out]))
      go_wp2_with fail
      refine (HCL.out _).mono ?_
      rintro e w2 ⟨rfl,rfl⟩
      go_wp2_with fail
      go_round
      case rel=>exact Lib.hid ⟨k+1,by omega,by go_num,HF.out⟩
      case measure=>simp [intOf];omega
    | false =>
      cases d with
      | true =>
        have HF:=Lib.hid (HGO.out (by simp [nmC,←HL2.out,←HD2.out]))
        go_wp2_with fail
        refine (HCL.out _).mono ?_
        rintro e w2 ⟨rfl,rfl⟩
        go_wp2_with fail
        refine (HCD.out _).mono ?_
        rintro e w3 ⟨rfl,rfl⟩
        go_wp2_with fail
        go_round
        case rel=>exact Lib.hid ⟨k+1,by omega,by go_num,HF.out⟩
        case measure=>simp [intOf];omega
      | false =>
        by_cases h95:s[k].toNat=95
        · have HF:=Lib.hid (HGO.out (by simp [nmC,h95]))
          have e2:(((s[k].toNat:Nat):Int)==95)=true:=by simp;omega
          clear h95
          go_wp2_with fail
          refine (HCL.out _).mono ?_
          rintro e w2 ⟨rfl,rfl⟩
          go_wp2_with fail
          refine (HCD.out _).mono ?_
          rintro e w3 ⟨rfl,rfl⟩
          go_wp2_with fail
          go_round
          case rel=>exact Lib.hid ⟨k+1,by omega,by go_num,HF.out⟩
          case measure=>simp [intOf];omega
        · have e2:(((s[k].toNat:Nat):Int)==95)=false:=by simp;omega
          by_cases h35:s[k].toNat=35
          · have HF:=Lib.hid (HGO.out (by simp [nmC,h35]))
            have e3:(((s[k].toNat:Nat):Int)==35)=true:=by simp;omega
            clear h95 h35
            go_wp2_with fail
            refine (HCL.out _).mono ?_
            rintro e w2 ⟨rfl,rfl⟩
            go_wp2_with fail
            refine (HCD.out _).mono ?_
            rintro e w3 ⟨rfl,rfl⟩
            go_wp2_with fail
            go_round
            case rel=>exact Lib.hid ⟨k+1,by omega,by go_num,HF.out⟩
            case measure=>simp [intOf];omega
          · have e3:(((s[k].toNat:Nat):Int)==35)=false:=by simp;omega
            have HF:=Lib.hid (HST.out (by simp [nmC,h95,h35,←HL2.out,←HD2.out]))
            clear h95 h35
            go_wp2_with fail
            refine (HCL.out _).mono ?_
            rintro e w2 ⟨rfl,rfl⟩
            go_wp2_with fail
            refine (HCD.out _).mono ?_
            rintro e w3 ⟨rfl,rfl⟩
            go_wp2_with fail
            go_ret
            exact ⟨by rw [HP.out,HF.out];rfl,rfl⟩
  · have HF:Hid (Z=k):=Lib.hid (by rw [←HN.out];exact nameN_end (by omega))
    have hkz:¬((k:Int)<(s.size:Int)):=by omega
    go_wp2_with fail
    go_ret
    exact ⟨by rw [HP.out,HF.out];rfl,rfl⟩

/-- the word of a sort -/
def wordS:Nat→ByteArray
 | 0=>⟨#[97,110,121]⟩
 | 1=>⟨#[97,103,101,110,116]⟩
 | 2=>⟨#[110,111,110,99,101]⟩
 | 3=>⟨#[107,101,121]⟩
 | 4=>⟨#[100,97,116,97]⟩
 | _=>⟨#[116,97,103]⟩
theorem RWord_any (k:Nat) (w:World) (hk:k<6) :
 Calls Tryz.prog 114 #[.int .i64 k] w fun e w'=>e=.returned (.string (wordS k))∧Ext w w':=by
 obtain ⟨bx,hbx⟩:∃zz9,zz9=w.heap.size:=⟨_,rfl⟩
 obtain ⟨w1,hw1⟩:∃zz9,zz9=w.alloc (.cells #[.string ⟨#[97,110,121]⟩,.string ⟨#[97,103,101,110,116]⟩,.string ⟨#[110,111,110,99,101]⟩,.string ⟨#[107,101,121]⟩,.string ⟨#[100,97,116,97]⟩,.string ⟨#[116,97,103]⟩] 9):=⟨_,rfl⟩
 have HE:Hid (Ext w w1):=Lib.hid (by rw [hw1];exact Ext.alloc _ _)
 have hb:w1.heap[bx]?=some (.cells #[.string ⟨#[97,110,121]⟩,.string ⟨#[97,103,101,110,116]⟩,.string ⟨#[110,111,110,99,101]⟩,.string ⟨#[107,101,121]⟩,.string ⟨#[100,97,116,97]⟩,.string ⟨#[116,97,103]⟩] 9):=by rw [hw1,hbx];exact hs_new
 have b0:w1.cell? ⟨bx,k,none⟩=some (.string (wordS k)):=by
  rw [cellc hb]
  match k,hk with
  | 0,_=>rfl
  | 1,_=>rfl
  | 2,_=>rfl
  | 3,_=>rfl
  | 4,_=>rfl
  | 5,_=>rfl
  | k+6,h=>omega
 have b0z:(w.alloc (.cells #[.string ⟨#[97,110,121]⟩,.string ⟨#[97,103,101,110,116]⟩,.string ⟨#[110,111,110,99,101]⟩,.string ⟨#[107,101,121]⟩,.string ⟨#[100,97,116,97]⟩,.string ⟨#[116,97,103]⟩] 9)).cell? ⟨w.heap.size,k,none⟩=some (.string (wordS k)):=by rw [←hw1,←hbx];exact b0
 have hkz:(k:Int)<6:=by omega
 have hkz2:(0:Int)≤(k:Int):=by omega
 clear hb
 go_enter Tryz.func114,Tryz.ntmps114
 go_wp2_with fail
 go_ret
 rw [←hw1]
 exact ⟨rfl,HE.out⟩

/-- the sort that a word names, from k on -/
def leafK (w:ByteArray) (kd:Int):Nat→Nat→Option Nat
 | 0,_=>none
 | f+1,k=>if w=wordS k∧(k≠0∨kd=2) then some k else leafK w kd f (k+1)
/-- the sort behind a name -/
def leafP (k:Int) (n:ByteArray) (s:ByteArray):Option (Tm × ByteArray) :=
 if h:0<s.size then (if s[0]=58 then (match leafK (nameP (s.extract 1 s.size)) k 6 0 with | some j=>some (.mk k n j [],s.extract (1+(nameP (s.extract 1 s.size)).size) s.size) | none=>none)
  else if k=1 then some (.mk k n 0 [],s) else none) else if k=1 then some (.mk k n 0 [],s) else none

theorem tn_nil {w:World} {S:Nat→Prop} {k s:Int} {n:ByteArray} (hk:I64 k) (hs:I64 s) (hn:n.size≤maxLen):TnW w S none 0 (.mk k n s []) :=
 ⟨hk,hs,hn,fun _=>⟨rfl,rfl⟩,Nat.le_refl _,by show 0≤maxLen;unfold maxLen;omega,0,0,fun h=>absurd rfl h,fun i k h=>by simp [Tm.kids] at h⟩
/-- what reading a term answers: the term, the rest of the text, whether it could be read -/
def parR (w:World) (S:Nat→Prop) (v sv:Value) (o:Option (Tm × ByteArray)):Prop :=
 match o with
 | some q=>sv=.string q.2∧IsN w S v q.1
 | none=>∃(k s:Int) (n r:ByteArray) (a:Option Addr) (l c:Nat),v=.agg #[.int .i64 k,.string n,.int .i64 s,.slice a l c]∧sv=.string r
theorem parR.ext {w w':World} {S:Nat→Prop} {v sv:Value} {o:Option (Tm × ByteArray)} (h:parR w S v sv o) (hE:Ext w w'):parR w' S v sv o:=by
 cases o with
 | none=>exact h
 | some q=>obtain ⟨h2,a,c,h3,h4⟩:=h;exact ⟨h2,a,c,h3,h4.ext hE⟩
theorem results_cell_tt {fn:Func} {p u x:Tmp} {ty:TypeId} (h:fn.results=#[.cell p ty,.tmp u,.tmp x]) (tmps:Array Value) (P:Program) (w:World) :
 (results fn tmps).run P w=((asAddr (tmps.getD p undef)).run P w).andThen fun a w₁=>((loadVar ty a).run P w₁).andThen fun v w₂=>.ok (.tuple #[v,tmps.getD u undef,tmps.getD x undef]) w₂:=by
 simp only [results,h]
 simp [Sem.run_bind,Result.andThen]
theorem ret_term_tt {F:Func} {p u x g:Nat} {tmps:Array Value} {w:World} {cs:Array Value} {R:Ending→World→Prop} (hr:F.results=#[.cell p 33,.tmp u,.tmp x]) (hp:tmps.getD p undef=.pointer (some ⟨g,0,none⟩)) (hg:w.heap[g]?=some (.cells cs 33)) (hs:cs.size=4) (h:R (.returned (.tuple #[.agg cs,tmps.getD u undef,tmps.getD x undef])) w) :
 bodyPost Tryz.prog F R .ret ⟨tmps,[]⟩ w:=by
 refine bodyPost_ret ?_ rfl h
 rw [results_cell_tt hr,hp]
 simp only [asAddr,Sem.run_pure,Result.andThen_ok]
 rw [run_loadVar_row w g _ _ cs _ _ hg Tryz.underlying33 rfl (by rw [hs];exact sizT)]
 rfl
/-- a box of a term, written over cell by cell -/
theorem set4_bx {w:World} {g T:Nat} {a b c d:Value} (a' b' c' d':Value) (h:w.heap[g]?=some (.cells #[a,b,c,d] T)) :
 ((((w.setCell ⟨g,0,none⟩ a').setCell ⟨g,1,none⟩ b').setCell ⟨g,2,none⟩ c').setCell ⟨g,3,none⟩ d').heap[g]?=some (.cells #[a',b',c',d'] T) ∧
   (∀q,q≠g→((((w.setCell ⟨g,0,none⟩ a').setCell ⟨g,1,none⟩ b').setCell ⟨g,2,none⟩ c').setCell ⟨g,3,none⟩ d').heap[q]?=w.heap[q]?) ∧
   ∀W,Ext W w→W.heap.size≤g→Ext W ((((w.setCell ⟨g,0,none⟩ a').setCell ⟨g,1,none⟩ b').setCell ⟨g,2,none⟩ c').setCell ⟨g,3,none⟩ d'):=by
 refine ⟨?_,fun q hq=>?_,fun W hE hW=>(((hE.setCell hW _).setCell hW _).setCell hW _).setCell hW _⟩
 · have h1:=heap_setCell_same w g 0 _ _ a' h
   have h5:=heap_setCell_same _ g 1 _ _ b' h1
   have h6:=heap_setCell_same _ g 2 _ _ c' h5
   have h7:=heap_setCell_same _ g 3 _ _ d' h6
   rw [h7];simp
 · rw [heap_setCell_other _ _ _ _ hq,heap_setCell_other _ _ _ _ hq,heap_setCell_other _ _ _ _ hq,heap_setCell_other _ _ _ _ hq]
theorem frozen_of {w:World} {g:Nat} {cs:Array Value} {T i:Nat} (h:w.heap[g]?=some (.cells cs T)):w.frozen? ⟨g,i,none⟩=false:=by simp [World.frozen?,h]

theorem RLeaf_any {w:World} {S:Nat→Prop} {k:Int} {n s:ByteArray} (hk:I64 k) (hn:n.size≤maxLen) (hs:s.size≤maxLen) :
 Calls Tryz.prog 83 #[.agg #[.int .i64 k,.string n,.int .i64 0,.slice none 0 0],.string s] w fun e w'=>∃v sv,e=.returned (.tuple #[v,sv,.bool (leafP k n s).isSome])∧Ext w w'∧parR w' S v sv (leafP k n s):=by
 obtain ⟨bx,hbx⟩:∃zz9,zz9=w.heap.size:=⟨_,rfl⟩
 obtain ⟨w1,hw1⟩:∃zz9,zz9=w.alloc (.cells #[.int .i64 k,.string n,.int .i64 0,.slice none 0 0] 33):=⟨_,rfl⟩
 have hE1:Ext w w1:=by rw [hw1];exact Ext.alloc _ _
 have hs1:w1.heap.size=bx+1:=by rw [hw1,hbx,World.size_alloc]
 have hb1:w1.heap[bx]?=some (.cells #[.int .i64 k,.string n,.int .i64 0,.slice none 0 0] 33):=by rw [hw1,hbx];exact hs_new
 obtain ⟨rx,hrx⟩:∃zz9,zz9=bx+1:=⟨_,rfl⟩
 obtain ⟨w2,hw2⟩:∃zz9,zz9=w1.alloc (.cells #[.int .i64 0,.string ⟨#[]⟩,.int .i64 0,.slice none 0 0] 33):=⟨_,rfl⟩
 have hE2:Ext w1 w2:=by rw [hw2];exact Ext.alloc _ _
 have HBR:Hid (w2.heap[rx]?=some (.cells #[.int .i64 0,.string ⟨#[]⟩,.int .i64 0,.slice none 0 0] 33)):=Lib.hid (by rw [hw2,hrx,←hs1];exact hs_new)
 have HBX:=Lib.hid (hs_ext hE2 hb1)
 have HE:=Lib.hid (hE1.trans hE2)
 have HNB:Hid (w.heap.size=bx∧rx=bx+1):=Lib.hid ⟨hbx.symm,hrx⟩
 have HKN:=Lib.hid (And.intro hk hn)
 have hk1:=hk.1
 have hk2:=hk.2
 have hsz:=hs
 unfold maxLen at hsz
 obtain ⟨Z,hZ⟩:∃Z,Z=leafP k n s:=⟨_,rfl⟩
 rw [←hZ]
 unfold leafP at hZ
 have HZ:=Lib.hid hZ
 have HS:=Lib.hid hs
 have b0:w2.cell? ⟨bx,0,none⟩=some (.int .i64 k):=by rw [cellc HBX.out];rfl
 have b1:w2.cell? ⟨bx,1,none⟩=some (.string n):=by rw [cellc HBX.out];rfl
 have b2:w2.cell? ⟨bx,2,none⟩=some (.int .i64 0):=by rw [cellc HBX.out];rfl
 have b3:w2.cell? ⟨bx,3,none⟩=some (.slice none 0 0):=by rw [cellc HBX.out];rfl
 clear hE1 hE2 hs1 hb1 hk hn hs hZ
 by_cases h0:0<s.size
 · have h0z : (0:Int)<s.size:=by omega
   have h0b:((s.size:Int)==0)=false:=beq_eq_false_iff_ne.2 (by omega)
   by_cases hc:s[0]=58
   · have e0 : (((s[0].toNat:Nat):Int) != 58)=false:=by rw [hc];decide
     obtain ⟨W,hW⟩:∃W,W=nameP (s.extract 1 s.size):=⟨_,rfl⟩
     have HY:Hid (Z=match leafK W k 6 0 with | some j=>some (.mk k n j [],s.extract (1+W.size) s.size) | none=>none):=Lib.hid (by rw [HZ.out,dif_pos h0,if_pos hc,←hW];first | done | (cases leafK W k 6 0<;>rfl))
     have hes:(s.extract 1 s.size).size=s.size-1:=by simp [ByteArray.size_extract]
     have hWs:W.size≤s.size-1:=by
      rw [hW]
      unfold nameP
      have:=nameN_le (s.extract 1 s.size) (s.extract 1 s.size).size 0 (by omega)
      rw [ByteArray.size_extract]
      omega
     have HCN:=Lib.hid (fun w'=>RName_any (s.extract 1 s.size) w' (by have:=HS.out;omega))
     rw [←hW] at HCN
     have h1z:(1:Int)≤s.size:=by omega
     clear hW hes hc
     go_enter Tryz.func83,Tryz.ntmps83
     go_upto_region 1 with fail
     rw [←hw1,←hbx,←hw2,←hrx]
     clear hw1 hbx hw2 hrx
     go_wp2_with fail
     refine (HCN.out _).mono ?_
     rintro e w3 ⟨rfl,rfl⟩
     go_wp2_with fail
     go_loopw [8] (fun iv wr=>Hid (∃i:Nat,iv=.int .i64 i∧i≤6∧leafK W k (6-i) i=leafK W k 6 0∧Ext w2 wr)) (fun iv _=>6-(intOf iv).toNat)
     case atStart=>exact Lib.hid ⟨0,rfl,by omega,rfl,Ext.refl _⟩
     case round =>
      obtain ⟨i,rfl,hi,hL,hE⟩:=hrel.out
      have HL:=Lib.hid hL
      have HER:=Lib.hid hE
      have HE:=Lib.hid (HE.out.trans hE)
      obtain ⟨b0,b1,b2,b3⟩:=cs_e4 hE ⟨b0,b1,b2,b3⟩
      have HBX:=Lib.hid (hs_ext hE HBX.out)
      have HBR:=Lib.hid (hs_ext hE HBR.out)
      clear hrel hL hE
      by_cases hlt:i<6
      · have hiz:(i:Int)≤5:=by omega
        have hiz2:(0:Int)≤(i:Int):=by omega
        have HCW:=Lib.hid (RWord_any i wr hlt)
        have HSTP:Hid (leafK W k (6-i) i=if W=wordS i∧(i≠0∨k=2) then some i else leafK W k (6-(i+1)) (i+1)):=Lib.hid (by rw [show 6-i=(6-(i+1))+1 by omega,leafK])
        obtain ⟨V,hV⟩:∃V,V=wordS i:=⟨_,rfl⟩
        rw [←hV] at HCW HSTP
        clear hV
        by_cases hw:W=V
        · have ew:(W.toList==V.toList)=true:=by rw [hw];simp
          by_cases h0:i=0
          · have e0:((i:Int) != 0)=false:=by rw [h0];rfl
            by_cases h2:k=2
            · have e2:(k==2)=true:=by simp [h2]
              have HF:Hid (Z=some (.mk k n i [],s.extract (1+W.size) s.size)):=Lib.hid (by rw [HY.out,←HL.out,HSTP.out,if_pos ⟨hw,.inr h2⟩])
              clear hw h0 h2
              go_wp2_with fail
              refine HCW.out.mono ?_
              rintro e w4 ⟨rfl,hE4⟩
              have HER:=Lib.hid (HER.out.trans hE4)
              obtain ⟨b0,b1,b2,b3⟩:=cs_e4 hE4 ⟨b0,b1,b2,b3⟩
              have HBX:=Lib.hid (hs_ext hE4 HBX.out)
              have HBR:=Lib.hid (hs_ext hE4 HBR.out)
              have HE:=Lib.hid (HE.out.trans hE4)
              clear hE4
              have hf:=frozen_of (i:=2) HBX.out
              go_upto_region 9 with fail
              have hx5:=heap_setCell_same w4 bx 2 _ _ (.int .i64 i) HBX.out
              have hr5:(w4.setCell ⟨bx,2,none⟩ (.int .i64 i)).heap[rx]?=_:=(heap_setCell_other _ _ _ _ (by show rx≠bx;have:=HNB.out;omega)).trans HBR.out
              have hE5:=HE.out.setCell (b:=bx) (o:=2) (by have:=HNB.out;omega) (.int .i64 i)
              generalize hw5:World.setCell w4 _ _=w5 at hx5 hr5 hE5 ⊢
              have HX5:Hid (w5.heap[bx]?=some (.cells #[.int .i64 k,.string n,.int .i64 i,.slice none 0 0] 33)):=Lib.hid hx5
              have HBR:=Lib.hid hr5
              have HE:=Lib.hid hE5
              clear hf hx5 hr5 hE5 hw5 b0 b1 b2 b3
              have b0:w5.cell? ⟨bx,0,none⟩=some (.int .i64 k):=by rw [cellc HX5.out];rfl
              have b1:w5.cell? ⟨bx,1,none⟩=some (.string n):=by rw [cellc HX5.out];rfl
              have b2:w5.cell? ⟨bx,2,none⟩=some (.int .i64 i):=by rw [cellc HX5.out];rfl
              have b3:w5.cell? ⟨bx,3,none⟩=some (.slice none 0 0):=by rw [cellc HX5.out];rfl
              have r0:w5.cell? ⟨rx,0,none⟩=some (.int .i64 0):=by rw [cellc HBR.out];rfl
              have r1:w5.cell? ⟨rx,1,none⟩=some (.string ⟨#[]⟩):=by rw [cellc HBR.out];rfl
              have r2:w5.cell? ⟨rx,2,none⟩=some (.int .i64 0):=by rw [cellc HBR.out];rfl
              have r3:w5.cell? ⟨rx,3,none⟩=some (.slice none 0 0):=by rw [cellc HBR.out];rfl
              have f0:w5.frozen? ⟨rx,0,none⟩=false:=frozen_of HBR.out
              have f1:w5.frozen? ⟨rx,1,none⟩=false:=frozen_of HBR.out
              have f2:w5.frozen? ⟨rx,2,none⟩=false:=frozen_of HBR.out
              have f3:w5.frozen? ⟨rx,3,none⟩=false:=frozen_of HBR.out
              have hne:bx≠rx:=by have:=HNB.out;omega
              have hw9:(1:Int)+(W.size:Int)≤s.size:=by omega
              have hw8:(0:Int)≤1+(W.size:Int):=by omega
              have HS4:=Lib.hid (set4_bx (.int .i64 k) (.string n) (.int .i64 i) (.slice none 0 0) HBR.out)
              go_region
              generalize hwm:World.drew _=wm
              have hEm:Ext w wm:=by
               rw [←hwm]
               exact (HS4.out.2.2 w HE.out (by have:=HNB.out;omega)).then_dr
              have HEM:=Lib.hid hEm
              have HG6:Hid (wm.heap[rx]?=some (.cells #[.int .i64 k,.string n,.int .i64 i,.slice none 0 0] 33)):=Lib.hid (by
               rw [←hwm]
               exact hs_ext (Ext.drew _) HS4.out.1)
              clear hEm hwm
              go_wp2_with fail
              refine ret_term_tt (g:=rx) rfl rfl HG6.out rfl ⟨_,_,by rw [HF.out];rfl,HEM.out,?_⟩
              rw [HF.out]
              exact ⟨rfl,_,_,rfl,tn_nil HKN.out.1 (by unfold I64;omega) HKN.out.2⟩
            · have e2:(k==2)=false:=by simp [h2]
              have HN:Hid (leafK W k (6-(i+1)) (i+1)=leafK W k 6 0):=Lib.hid (by rw [←HL.out,HSTP.out,if_neg];rintro ⟨-,h | h⟩<;>contradiction)
              clear hw h0 h2
              go_wp2_with fail
              refine HCW.out.mono ?_
              rintro e w4 ⟨rfl,hE4⟩
              have HER:=Lib.hid (HER.out.trans hE4)
              obtain ⟨b0,b1,b2,b3⟩:=cs_e4 hE4 ⟨b0,b1,b2,b3⟩
              have HBX:=Lib.hid (hs_ext hE4 HBX.out)
              have HBR:=Lib.hid (hs_ext hE4 HBR.out)
              have HE:=Lib.hid (HE.out.trans hE4)
              clear hE4
              go_wp2_with fail
              go_roundw
              case rel=>exact Lib.hid ⟨i+1,by go_num,by omega,HN.out,HER.out⟩
              case measure=>simp [intOf];omega
          · have e0:((i:Int) != 0)=true:=by simp;omega
            have HF:Hid (Z=some (.mk k n i [],s.extract (1+W.size) s.size)):=Lib.hid (by rw [HY.out,←HL.out,HSTP.out,if_pos ⟨hw,.inl h0⟩])
            clear hw h0
            go_wp2_with fail
            refine HCW.out.mono ?_
            rintro e w4 ⟨rfl,hE4⟩
            have HER:=Lib.hid (HER.out.trans hE4)
            obtain ⟨b0,b1,b2,b3⟩:=cs_e4 hE4 ⟨b0,b1,b2,b3⟩
            have HBX:=Lib.hid (hs_ext hE4 HBX.out)
            have HBR:=Lib.hid (hs_ext hE4 HBR.out)
            have HE:=Lib.hid (HE.out.trans hE4)
            clear hE4
            have hf:=frozen_of (i:=2) HBX.out
            go_upto_region 9 with fail
            have hx5:=heap_setCell_same w4 bx 2 _ _ (.int .i64 i) HBX.out
            have hr5:(w4.setCell ⟨bx,2,none⟩ (.int .i64 i)).heap[rx]?=_:=(heap_setCell_other _ _ _ _ (by show rx≠bx;have:=HNB.out;omega)).trans HBR.out
            have hE5:=HE.out.setCell (b:=bx) (o:=2) (by have:=HNB.out;omega) (.int .i64 i)
            generalize hw5:World.setCell w4 _ _=w5 at hx5 hr5 hE5 ⊢
            have HX5:Hid (w5.heap[bx]?=some (.cells #[.int .i64 k,.string n,.int .i64 i,.slice none 0 0] 33)):=Lib.hid hx5
            have HBR:=Lib.hid hr5
            have HE:=Lib.hid hE5
            clear hf hx5 hr5 hE5 hw5 b0 b1 b2 b3
            have b0:w5.cell? ⟨bx,0,none⟩=some (.int .i64 k):=by rw [cellc HX5.out];rfl
            have b1:w5.cell? ⟨bx,1,none⟩=some (.string n):=by rw [cellc HX5.out];rfl
            have b2:w5.cell? ⟨bx,2,none⟩=some (.int .i64 i):=by rw [cellc HX5.out];rfl
            have b3:w5.cell? ⟨bx,3,none⟩=some (.slice none 0 0):=by rw [cellc HX5.out];rfl
            have r0:w5.cell? ⟨rx,0,none⟩=some (.int .i64 0):=by rw [cellc HBR.out];rfl
            have r1:w5.cell? ⟨rx,1,none⟩=some (.string ⟨#[]⟩):=by rw [cellc HBR.out];rfl
            have r2:w5.cell? ⟨rx,2,none⟩=some (.int .i64 0):=by rw [cellc HBR.out];rfl
            have r3:w5.cell? ⟨rx,3,none⟩=some (.slice none 0 0):=by rw [cellc HBR.out];rfl
            have f0:w5.frozen? ⟨rx,0,none⟩=false:=frozen_of HBR.out
            have f1:w5.frozen? ⟨rx,1,none⟩=false:=frozen_of HBR.out
            have f2:w5.frozen? ⟨rx,2,none⟩=false:=frozen_of HBR.out
            have f3:w5.frozen? ⟨rx,3,none⟩=false:=frozen_of HBR.out
            have hne:bx≠rx:=by have:=HNB.out;omega
            have hw9:(1:Int)+(W.size:Int)≤s.size:=by omega
            have hw8:(0:Int)≤1+(W.size:Int):=by omega
            have HS4:=Lib.hid (set4_bx (.int .i64 k) (.string n) (.int .i64 i) (.slice none 0 0) HBR.out)
            go_region
            generalize hwm:World.drew _=wm
            have hEm:Ext w wm:=by
             rw [←hwm]
             exact (HS4.out.2.2 w HE.out (by have:=HNB.out;omega)).then_dr
            have HEM:=Lib.hid hEm
            have HG6:Hid (wm.heap[rx]?=some (.cells #[.int .i64 k,.string n,.int .i64 i,.slice none 0 0] 33)):=Lib.hid (by
             rw [←hwm]
             exact hs_ext (Ext.drew _) HS4.out.1)
            clear hEm hwm
            go_wp2_with fail
            refine ret_term_tt (g:=rx) rfl rfl HG6.out rfl ⟨_,_,by rw [HF.out];rfl,HEM.out,?_⟩
            rw [HF.out]
            exact ⟨rfl,_,_,rfl,tn_nil HKN.out.1 (by unfold I64;omega) HKN.out.2⟩
        · have ew:(W.toList==V.toList)=false:=by simp only [beq_eq_false_iff_ne,ne_eq];exact fun e=>hw (bytes_eq e)
          have HN:Hid (leafK W k (6-(i+1)) (i+1)=leafK W k 6 0):=Lib.hid (by rw [←HL.out,HSTP.out,if_neg];rintro ⟨h,-⟩;contradiction)
          clear hw
          go_wp2_with fail
          refine HCW.out.mono ?_
          rintro e w4 ⟨rfl,hE4⟩
          have HER:=Lib.hid (HER.out.trans hE4)
          obtain ⟨b0,b1,b2,b3⟩:=cs_e4 hE4 ⟨b0,b1,b2,b3⟩
          have HBX:=Lib.hid (hs_ext hE4 HBX.out)
          have HBR:=Lib.hid (hs_ext hE4 HBR.out)
          have HE:=Lib.hid (HE.out.trans hE4)
          clear hE4
          go_wp2_with fail
          go_roundw
          case rel=>exact Lib.hid ⟨i+1,by go_num,by omega,HN.out,HER.out⟩
          case measure=>simp [intOf];omega
      · have HF:Hid (Z=none):=Lib.hid (by
         have h:=HL.out
         rw [show 6-i=0 by omega,leafK] at h
         rw [HY.out,←h])
        have hiz:¬((i:Int)≤5):=by omega
        go_wp2_with (
         refine wpList_storeT rfl (.tmp 4) (.tmp 50) rfl (g:=rx) rfl (k:=k) (s:=0) (n:=n) (ka:=none) (kl:=0) (kc:=0) rfl HBR.out rfl ?_
         intro w6 c6 q6 e6 z6
         have HG6:=Lib.hid c6
         have HE6:=Lib.hid (e6 w HE.out (by have:=HNB.out;omega))
         clear c6 q6 e6 z6)
        refine ret_term_tt (g:=rx) rfl rfl HG6.out rfl ⟨_,_,by rw [HF.out];rfl,HE6.out,?_⟩
        rw [HF.out]
        exact ⟨_,_,_,_,_,_,_,rfl,rfl⟩
   · have e0:(((s[0].toNat:Nat):Int) != 58)=true:=by
      simp only [bne_iff_ne,ne_eq]
      intro e
      apply hc
      apply UInt8.toNat_inj.1
      have:(58:UInt8).toNat=58:=rfl
      omega
     have HY:Hid (Z=if k=1 then some (.mk k n 0 [],s) else none):=Lib.hid (by rw [HZ.out,dif_pos h0,if_neg hc])
     clear hc
     go_enter Tryz.func83,Tryz.ntmps83
     go_upto_region 1 with fail
     rw [←hw1,←hbx,←hw2,←hrx]
     clear hw1 hbx hw2 hrx
     go_upto_region 2 with fail
     have r0:w2.cell? ⟨rx,0,none⟩=some (.int .i64 0):=by rw [cellc HBR.out];rfl
     have r1:w2.cell? ⟨rx,1,none⟩=some (.string ⟨#[]⟩):=by rw [cellc HBR.out];rfl
     have r2:w2.cell? ⟨rx,2,none⟩=some (.int .i64 0):=by rw [cellc HBR.out];rfl
     have r3:w2.cell? ⟨rx,3,none⟩=some (.slice none 0 0):=by rw [cellc HBR.out];rfl
     have f0:w2.frozen? ⟨rx,0,none⟩=false:=frozen_of HBR.out
     have f1:w2.frozen? ⟨rx,1,none⟩=false:=frozen_of HBR.out
     have f2:w2.frozen? ⟨rx,2,none⟩=false:=frozen_of HBR.out
     have f3:w2.frozen? ⟨rx,3,none⟩=false:=frozen_of HBR.out
     have hne:bx≠rx:=by have:=HNB.out;omega
     have HS4:=Lib.hid (set4_bx (.int .i64 k) (.string n) (.int .i64 0) (.slice none 0 0) HBR.out)
     go_region
     generalize hwm:World.drew _=wm
     have hEm:Ext w wm:=by
      rw [←hwm]
      exact (HS4.out.2.2 w HE.out (by have:=HNB.out;omega)).then_dr
     have HEM:=Lib.hid hEm
     have HG6:Hid (wm.heap[rx]?=some (.cells #[.int .i64 k,.string n,.int .i64 0,.slice none 0 0] 33)):=Lib.hid (by
      rw [←hwm]
      exact hs_ext (Ext.drew _) HS4.out.1)
     clear hEm hwm
     go_wp2_with fail
     refine ret_term_tt (g:=rx) rfl rfl HG6.out rfl ⟨.agg #[.int .i64 k,.string n,.int .i64 0,.slice none 0 0],.string s,?_,HEM.out,?_⟩
     rotate_left
     · rw [HY.out]
       by_cases h1:k=1
       · rw [if_pos h1]
         exact ⟨rfl,_,_,rfl,tn_nil HKN.out.1 (by unfold I64;omega) HKN.out.2⟩
       · rw [if_neg h1]
         exact ⟨_,_,_,_,_,_,_,rfl,rfl⟩
     · rw [HY.out]
       by_cases h1:k=1
       · rw [if_pos h1,h1];rfl
       · have e1:(k==1)=false:=by simp [h1]
         rw [if_neg h1]
         show Ending.returned (.tuple #[_,_,.bool (k==1)])=_
         rw [e1];rfl
 · have h0b:((s.size:Int)==0)=true:=by rw [show s.size=0 by omega];rfl
   have HY:Hid (Z=if k=1 then some (.mk k n 0 [],s) else none):=Lib.hid (by rw [HZ.out,dif_neg h0])
   go_enter Tryz.func83,Tryz.ntmps83
   go_upto_region 1 with fail
   rw [←hw1,←hbx,←hw2,←hrx]
   clear hw1 hbx hw2 hrx
   go_upto_region 2 with fail
   have r0:w2.cell? ⟨rx,0,none⟩=some (.int .i64 0):=by rw [cellc HBR.out];rfl
   have r1:w2.cell? ⟨rx,1,none⟩=some (.string ⟨#[]⟩):=by rw [cellc HBR.out];rfl
   have r2:w2.cell? ⟨rx,2,none⟩=some (.int .i64 0):=by rw [cellc HBR.out];rfl
   have r3:w2.cell? ⟨rx,3,none⟩=some (.slice none 0 0):=by rw [cellc HBR.out];rfl
   have f0:w2.frozen? ⟨rx,0,none⟩=false:=frozen_of HBR.out
   have f1:w2.frozen? ⟨rx,1,none⟩=false:=frozen_of HBR.out
   have f2:w2.frozen? ⟨rx,2,none⟩=false:=frozen_of HBR.out
   have f3:w2.frozen? ⟨rx,3,none⟩=false:=frozen_of HBR.out
   have hne:bx≠rx:=by have:=HNB.out;omega
   have HS4:=Lib.hid (set4_bx (.int .i64 k) (.string n) (.int .i64 0) (.slice none 0 0) HBR.out)
   go_region
   generalize hwm:World.drew _=wm
   have hEm:Ext w wm:=by
    rw [←hwm]
    exact (HS4.out.2.2 w HE.out (by have:=HNB.out;omega)).then_dr
   have HEM:=Lib.hid hEm
   have HG6:Hid (wm.heap[rx]?=some (.cells #[.int .i64 k,.string n,.int .i64 0,.slice none 0 0] 33)):=Lib.hid (by
    rw [←hwm]
    exact hs_ext (Ext.drew _) HS4.out.1)
   clear hEm hwm
   go_wp2_with fail
   refine ret_term_tt (g:=rx) rfl rfl HG6.out rfl ⟨.agg #[.int .i64 k,.string n,.int .i64 0,.slice none 0 0],.string s,?_,HEM.out,?_⟩
   rotate_left
   · rw [HY.out]
     by_cases h1:k=1
     · rw [if_pos h1]
       exact ⟨rfl,_,_,rfl,tn_nil HKN.out.1 (by unfold I64;omega) HKN.out.2⟩
     · rw [if_neg h1]
       exact ⟨_,_,_,_,_,_,_,rfl,rfl⟩
   · rw [HY.out]
     by_cases h1:k=1
     · rw [if_pos h1,h1];rfl
     · have e1:(k==1)=false:=by simp [h1]
       rw [if_neg h1]
       show Ending.returned (.tuple #[_,_,.bool (k==1)])=_
       rw [e1];rfl

end Go.Proofs.YtclijngnoepbiaaGreat
