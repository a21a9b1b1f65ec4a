/- Contracts: the program's names, sizes, order. Contracts: the program's sizes and order. Contracts: a copy of a term. -/
import Derived.Test.YtclijngnoepbiaaGreatG2
import Derived.Lib.Bytealg
import Derived.Laws.Externs
import Derived.OwnWalk
import Derived.Test.YtclijngnoepbiaaGreatG1
import Derived.Test.YtclijngnoepbiaaGreatG4
set_option maxRecDepth 100000
set_option maxHeartbeats 8000000
namespace Go.Proofs.YtclijngnoepbiaaGreat
open Go Go.RowKit
set_option linter.unusedVariables false
set_option linter.unusedSimpArgs false

/-- a byte that can stand in a name -/
def partB (c:UInt8):Bool:=decide (97≤c.toNat∧c.toNat≤122∨65≤c.toNat∧c.toNat≤90∨48≤c.toNat∧c.toNat≤57∨c.toNat=95∨c.toNat=35)

theorem part_any (c:UInt8) (w:World) :
 Calls Tryz.prog 127 #[.int .u8 c.toNat] w fun e w'=>e=.returned (.bool (partB c))∧w=w':=by
 have hc:=c.toNat_lt
 rcases (by omega:c.toNat<48∧c.toNat≠35∨c.toNat=35∨(48≤c.toNat∧c.toNat≤57)∨(57<c.toNat∧c.toNat<65)∨(65≤c.toNat∧c.toNat≤90)∨(90<c.toNat∧c.toNat<97∧c.toNat≠95)∨c.toNat=95∨(97≤c.toNat∧c.toNat≤122)∨122<c.toNat) with ⟨h1,h2⟩ | h | ⟨h1,h2⟩ | ⟨h1,h2⟩ | ⟨h1,h2⟩ | ⟨h1,h2,h3⟩ | h | ⟨h1,h2⟩ | h1
 all_goals
  have HR:Hid (partB c=decide (97≤c.toNat∧c.toNat≤122∨65≤c.toNat∧c.toNat≤90∨48≤c.toNat∧c.toNat≤57∨c.toNat=95∨c.toNat=35)):=Lib.hid rfl
  go_enter Tryz.func127,Tryz.ntmps127
  go_wp2
  all_goals go_ret
  all_goals exact ⟨rb (by rw [HR.out,Bool.eq_iff_iff];simp;omega),rfl⟩

theorem part_okB {c:UInt8} {i:Nat} (hi:i≠0):okB i c=partB c:=by
 have:(i != 0)=true:=by simp [hi]
 rw [okB,this,Bool.eq_iff_iff]
 simp [letterB,digitB,partB]
 omega

theorem PIsName_any (s:ByteArray) (w:World) (hs:s.size≤maxLen) :
 Calls Tryz.prog 96 #[.string s] w fun e w'=>e=.returned (.bool (nameOk s))∧w=w':=by
 unfold maxLen at hs
 by_cases h0:s.size=0
 · have HR:Hid (false=nameOk s):=Lib.hid (by symm;simp only [nameOk,decide_eq_false_iff_not];omega)
   have e1:s.toList=[]:=by
    have:s=⟨#[]⟩:=by
     obtain ⟨⟨l⟩⟩:=s
     have:l.length=0:=h0
     rw [List.length_eq_zero_iff.1 this]
    rw [this,ByteArray.toList_eq]
   clear h0
   go_enter Tryz.func96,Tryz.ntmps96
   go_wp2
   go_ret
   exact ⟨rb HR.out,rfl⟩
 · have e1 : ¬ s.toList=[]:=by
    intro e
    have:=congrArg List.length e
    rw [ByteArray.toList_eq] at this
    exact h0 (by simpa using this)
   have e1':(s.toList==[])=false:=beq_eq_false_iff_ne.2 e1
   have hpos:0<s.size:=by omega
   have hposz:(0:Int)<s.size:=by omega
   by_cases h24:24<s.size
   · have h24z:(24:Int)<s.size:=by omega
     have HR:Hid (false=nameOk s):=Lib.hid (by symm;simp only [nameOk,decide_eq_false_iff_not];omega)
     clear h0
     go_enter Tryz.func96,Tryz.ntmps96
     go_wp2
     go_ret
     exact ⟨rb HR.out,rfl⟩
   · have h24z : ¬(24:Int)<s.size:=by omega
     have hb:=s[0].toNat_lt
     have hcon:=fun w'=>part_any s[0] w'
     obtain ⟨p,hp⟩:∃p,p=partB s[0]:=⟨_,rfl⟩
     rw [←hp] at hcon
     have HCON:=Lib.hid hcon
     have HP:=Lib.hid hp
     clear hcon hp h0
     by_cases hl:letterB s[0]=true
     · have HL := Lib.hid hl
       have hlt:(65≤s[0].toNat∧s[0].toNat≤90)∨(97≤s[0].toNat∧s[0].toNat≤122):=by simp [letterB] at hl;omega
       have hpt:p=true:=by rw [HP.out];simp [partB];omega
       subst hpt
       have f1:¬s[0].toNat≤57:=by omega
       have f2:(((s[0].toNat:Nat):Int)==95)=false:=beq_eq_false_iff_ne.2 (by omega)
       have f3:(((s[0].toNat:Nat):Int)==35)=false:=beq_eq_false_iff_ne.2 (by omega)
       have f4:decide (((s[0].toNat:Nat):Int)≤57)=false:=decide_eq_false (by omega)
       have f5:decide ((48:Int)≤((s[0].toNat:Nat):Int))=true:=decide_eq_true (by omega)
       clear hl hlt
       go_enter Tryz.func96,Tryz.ntmps96
       go_wp2_with fail
       refine (HCON.out _).mono ?_
       rintro e w1 ⟨rfl,rfl⟩
       go_wp2_with fail
       go_loop [3,39] (fun _ i=>∃k:Nat,k≤s.size∧i=.int .i64 k∧∀j (h:j<s.size),j<k→okB j s[j]=true) (fun _ i=>s.size-(intOf i).toNat)
       case atStart=>exact ⟨0,Nat.zero_le _,rfl,fun j h hj=>by omega⟩
       case round =>
        obtain ⟨k,hk,rfl,hall⟩:=hrel
        have HALL:=Lib.hid hall;clear hall
        by_cases hlt:k<s.size
        · have hltz:(k:Int)<s.size:=by omega
          have hbk:=s[k].toNat_lt
          have hcl:=fun w'=>part_any s[k] w'
          obtain ⟨d,hd⟩:∃d,d=partB s[k]:=⟨_,rfl⟩
          rw [←hd] at hcl
          have HCL:=Lib.hid hcl
          have HOK:Hid (d=okB k s[k]):=Lib.hid (by
           by_cases h0:k=0
           · subst h0
             rw [hd,okB0,HL.out,←HP.out]
           · rw [part_okB h0,hd])
          clear hcl hd
          go_wp2_with fail
          refine (HCL.out _).mono ?_
          rintro e w2 ⟨rfl,rfl⟩
          cases d with
          | true =>
            go_wp2_with fail
            go_round
            case rel=>exact ⟨k+1,by omega,by go_num,fun j h hj=>by
              rcases Nat.lt_or_ge j k with h' | h'
              · exact HALL.out j h h'
              · have:j=k:=by omega
                subst this
                exact HOK.out.symm⟩
            case measure=>simp [intOf];omega
          | false =>
            have HR:Hid (false=nameOk s):=Lib.hid (nameOk_false hlt HOK.out.symm)
            go_wp2_with fail
            go_ret
            exact ⟨rb HR.out,rfl⟩
        · have HR:Hid (true=nameOk s):=Lib.hid (by symm;simp only [nameOk,decide_eq_true_eq];exact ⟨by omega,by omega,fun i h=>HALL.out i h (by omega)⟩)
          go_wp2_with fail
          go_ret
          exact ⟨rb HR.out,rfl⟩
     · have hl':letterB s[0]=false:=by simpa using hl
       have HR:Hid (false=nameOk s):=Lib.hid (nameOk_false hpos (by rw [okB0];exact hl'))
       have hnl:¬(97≤s[0].toNat∧s[0].toNat≤122∨65≤s[0].toNat∧s[0].toNat≤90):=by simpa [letterB] using hl'
       clear hl hl'
       cases p with
       | false =>
         clear hnl
         go_enter Tryz.func96,Tryz.ntmps96
         go_wp2_with fail
         refine (HCON.out _).mono ?_
         rintro e w1 ⟨rfl,rfl⟩
         go_wp2_with fail
         go_ret
         exact ⟨rb HR.out,rfl⟩
       | true =>
         have hpp:(48≤s[0].toNat∧s[0].toNat≤57)∨s[0].toNat=95∨s[0].toNat=35:=by
          have:=HP.out.symm
          simp [partB] at this
          omega
         clear hnl
         rcases hpp with ⟨q1,q2⟩ | q | q
         · go_enter Tryz.func96,Tryz.ntmps96
           go_wp2_with fail
           refine (HCON.out _).mono ?_
           rintro e w1 ⟨rfl,rfl⟩
           go_wp2_with fail
           go_ret
           exact ⟨rb HR.out,rfl⟩
         · have f5:(((s[0].toNat:Nat):Int)==95)=true:=by simp [q]
           have f4:decide (((s[0].toNat:Nat):Int)≤57)=false:=decide_eq_false (by omega)
           have f6:decide ((48:Int)≤((s[0].toNat:Nat):Int))=true:=decide_eq_true (by omega)
           have q1:¬s[0].toNat≤57:=by omega
           clear q
           go_enter Tryz.func96,Tryz.ntmps96
           go_wp2_with fail
           refine (HCON.out _).mono ?_
           rintro e w1 ⟨rfl,rfl⟩
           go_wp2_with fail
           go_ret
           exact ⟨rb HR.out,rfl⟩
         · have f5:(((s[0].toNat:Nat):Int)==35)=true:=by simp [q]
           have f4:(((s[0].toNat:Nat):Int)==95)=false:=beq_eq_false_iff_ne.2 (by omega)
           have f6:decide ((48:Int)≤((s[0].toNat:Nat):Int))=false:=decide_eq_false (by omega)
           have q1:¬48≤s[0].toNat:=by omega
           clear q
           go_enter Tryz.func96,Tryz.ntmps96
           go_wp2_with fail
           refine (HCON.out _).mono ?_
           rintro e w1 ⟨rfl,rfl⟩
           go_wp2_with fail
           go_ret
           exact ⟨rb HR.out,rfl⟩

theorem sign_any (a b:Int) (w:World) :
 Calls Tryz.prog 78 #[.int .i64 a,.int .i64 b] w fun e w'=>e=.returned (.int .i64 (sgn a b))∧w=w':=by
 go_enter Tryz.func78,Tryz.ntmps78
 go_wp2
 all_goals go_ret
 all_goals exact ⟨ri (by unfold sgn;(repeat' split)<;>omega),rfl⟩

theorem nameC_cmp (a b:ByteArray):nameC a b=Lib.compareBytes a.data.toList b.data.toList:=by
 unfold nameC
 rw [ByteArray.toList_eq,ByteArray.toList_eq]
 generalize a.data.toList=l
 generalize b.data.toList=m
 induction l generalizing m with
 | nil=>cases m<;>simp [Op.bytesLess,Lib.compareBytes]
 | cons x l ih =>
   cases m with
   | nil=>simp [Op.bytesLess,Lib.compareBytes]
   | cons y m =>
     have:=ih m
     simp only [Op.bytesLess,Lib.compareBytes,Bool.or_eq_true,decide_eq_true_eq,Bool.and_eq_true,beq_iff_eq]
     by_cases h1:x<y
     · simp [h1]
     · by_cases h2:y<x
       · have h3:¬x=y:=fun e=>by subst e;exact h1 h2
         simp [h1,h2,h3]
       · have h3:x=y:=by
          rcases UInt8.lt_or_lt_of_ne (a:=x) (b:=y) |> fun f=>Classical.em (x=y) with h | h
          · exact h
          · rcases UInt8.lt_or_lt_of_ne h with h | h
            · exact absurd h h1
            · exact absurd h h2
         subst h3
         simp only [h1,false_or,true_and,if_false]
         exact this

theorem sCompare_any (a b:ByteArray) (w:World) :
 Calls Tryz.prog 80 #[.string a,.string b] w fun e w'=>e=.returned (.int .i64 (nameC a b))∧w=w':=by
 have hc:Calls Tryz.prog 111 #[.string a,.string b] w fun e w'=>e=.returned (.int .i64 (nameC a b))∧w=w':=by
  go_enter Tryz.func111,Tryz.ntmps111
  go_wp2
  rw [run_callFunc_extern Tryz.func134 (by kernel_rfl) (by kernel_rfl) (by kernel_rfl) (e:=Extern.BytealgCompare.compare) (by kernel_rfl),Lib.run_compareString]
  simp only [Result.andThen]
  rw [Oper.upon_value]
  go_wp2
  go_ret
  exact ⟨ri (nameC_cmp a b).symm,rfl⟩
 have HC:=Lib.hid hc
 clear hc
 go_enter Tryz.func80,Tryz.ntmps80
 go_wp2_with fail
 refine HC.out.mono ?_
 rintro e w1 ⟨rfl,rfl⟩
 go_wp2_with fail
 go_ret
 exact ⟨rfl,rfl⟩

theorem PSize_any (n:Nat):∀(w:World) (S:Nat→Prop) (a:Option Addr) (cap:Nat) (t:Tm),sizeT t≤n→n≤1000000→TmW w S a cap t →
 Calls Tryz.prog 79 #[.agg #[.int .i64 t.kind,.string t.name,.int .i64 t.sort,.slice a t.kids.length cap]] w fun e w'=>e=.returned (.int .i64 (sizeT t))∧ExtD w w':=by
 induction n with
 | zero=>intro w S a cap t hn;have:=sizeT_kids t;omega
 | succ n ih =>
   intro w S a cap t hn hn2 hT
   have hl:=hT.len
   have hc:=hT.cap
   unfold maxLen at hc
   obtain ⟨bx,hbx⟩:∃bx,bx=w.heap.size:=⟨_,rfl⟩
   obtain ⟨w1,hw1⟩:∃w1,w1=w.alloc (.cells #[.int .i64 t.kind,.string t.name,.int .i64 t.sort,.slice a t.kids.length cap] 33):=⟨_,rfl⟩
   have b3:w1.cell? ⟨bx,3,none⟩=some (.slice a t.kids.length cap):=by rw [hw1,hbx];exact cs_new rfl
   have HE1:Hid (ExtD w w1):=Lib.hid (by rw [hw1];exact ExtD.alloc w _)
   have HT:=Lib.hid (hT.ext HE1.out.e).ts
   have HK:=Lib.hid (sizeT_kids t)
   have HN:=Lib.hid hn
   have B3:=Lib.hid b3
   have IH:=Lib.hid ih
   clear hT b3 hn ih
   have b3:=B3.out
   go_enter Tryz.func79,Tryz.ntmps79
   go_upto_region 1 with fail
   rw [←hw1,←hbx]
   clear hw1 hbx
   go_wp2_with fail
   go_loopw [3,9] (fun nv iv wr=>∃i s:Nat,iv=.int .i64 i∧nv=.int .i64 s∧i≤t.kids.length∧s=1+sizeL (t.kids.take i)∧ExtD w1 wr) (fun _ iv _=>t.kids.length-(intOf iv).toNat)
   case atStart=>exact ⟨0,1,rfl,rfl,by omega,by simp [sizeL],ExtD.refl _⟩
   case round =>
    obtain ⟨i,s,rfl,rfl,hi,hs,hE⟩:=hrel
    have hsl:s≤sizeT t:=by rw [hs,HK.out];have:=sizeL_take_le t.kids i;omega
    have hs1:s≤1000000:=by have:=HN.out;omega
    have HS:=Lib.hid hs
    have HE:=Lib.hid hE
    clear hs hE b3
    by_cases hlt:i<t.kids.length
    · obtain ⟨x,hx⟩:∃x,t.kids[i]?=some x:=⟨_,List.getElem?_eq_getElem hlt⟩
      obtain ⟨b,off,a',cap',rfl,y0,y1,y2,y3,hTx⟩:=(HT.out.ext HE.out.e).at hx
      have hsx:=sizeL_get hx
      have hsl2:s+sizeT x≤sizeT t:=by rw [HS.out,HK.out,Nat.add_assoc,←sizeL_take hx];have:=sizeL_take_le t.kids (i+1);omega
      have hcon:=fun (w':World) (hE:Ext wr w')=>IH.out w' S a' cap' x (by have:=HK.out;have:=HN.out;omega) (by omega) (hTx.ext hE)
      obtain ⟨z,hz⟩:∃z,z=sizeT x:=⟨_,rfl⟩
      rw [←hz] at hcon hsl2
      have HZ:=Lib.hid hz
      have HX:=Lib.hid hx
      have HSX:=Lib.hid hsx
      have HCON:=Lib.hid hcon
      have hz2:s+z≤1000000:=by have:=HN.out;omega
      clear hz hx hsx hTx hcon
      go_wp2_with fail
      refine (HCON.out _ (Ext.alloc _ _)).mono ?_
      rintro e w2 ⟨rfl,hE2⟩
      have HE2:=Lib.hid (HE.out.trans ((ExtD.alloc _ _).trans hE2))
      clear hE2
      go_wp2_with fail
      go_roundw
      case rel=>exact ⟨i+1,s+z,by go_num,by go_num,by omega,by rw [sizeL_take HX.out,←HZ.out,HS.out];omega,HE2.out⟩
      case measure=>simp [intOf];omega
    · have HR:Hid (sizeT t=s):=Lib.hid (by rw [HK.out,HS.out,List.take_of_length_le (by omega)])
      go_wp2_with fail
      go_ret
      exact ⟨ri (by rw [HR.out]),HE1.out.trans HE.out⟩

theorem PCompare_any (n:Nat):∀(w:World) (S S':Nat→Prop) (a a':Option Addr) (cap cap':Nat) (s t:Tm),sizeT s≤n→sizeT s≤1000000→sizeT t≤1000000→TmW w S a cap s→TmW w S' a' cap' t →
 Calls Tryz.prog 42 #[.agg #[.int .i64 s.kind,.string s.name,.int .i64 s.sort,.slice a s.kids.length cap],.agg #[.int .i64 t.kind,.string t.name,.int .i64 t.sort,.slice a' t.kids.length cap']] w fun e w'=>e=.returned (.int .i64 (cmpT s t))∧ExtD w w':=by
 induction n with
 | zero=>intro w S S' a a' cap cap' s t hn;have:=sizeT_kids s;omega
 | succ n ih =>
   intro w S S' a a' cap cap' s t hn hs6 ht6 hT hT'
   have hl:=hT.len
   have hc:=hT.cap
   have hl':=hT'.len
   have hc':=hT'.cap
   unfold maxLen at hc hc'
   obtain ⟨bx,hbx⟩:∃bx,bx=w.heap.size:=⟨_,rfl⟩
   obtain ⟨w0,hw0⟩:∃w0,w0=w.alloc (.cells #[.int .i64 s.kind,.string s.name,.int .i64 s.sort,.slice a s.kids.length cap] 33):=⟨_,rfl⟩
   have hby:bx+1=w0.heap.size:=by rw [hw0,hbx,World.size_alloc]
   obtain ⟨w1,hw1⟩:∃w1,w1=w0.alloc (.cells #[.int .i64 t.kind,.string t.name,.int .i64 t.sort,.slice a' t.kids.length cap'] 33):=⟨_,rfl⟩
   have b0:w1.cell? ⟨bx,0,none⟩=some (.int .i64 s.kind):=by rw [hw1,hw0,hbx];exact cs_al (cs_new rfl)
   have b1:w1.cell? ⟨bx,1,none⟩=some (.string s.name):=by rw [hw1,hw0,hbx];exact cs_al (cs_new rfl)
   have b2:w1.cell? ⟨bx,2,none⟩=some (.int .i64 s.sort):=by rw [hw1,hw0,hbx];exact cs_al (cs_new rfl)
   have b3:w1.cell? ⟨bx,3,none⟩=some (.slice a s.kids.length cap):=by rw [hw1,hw0,hbx];exact cs_al (cs_new rfl)
   have c0:w1.cell? ⟨bx+1,0,none⟩=some (.int .i64 t.kind):=by rw [hw1,hby];exact cs_new rfl
   have c1:w1.cell? ⟨bx+1,1,none⟩=some (.string t.name):=by rw [hw1,hby];exact cs_new rfl
   have c2:w1.cell? ⟨bx+1,2,none⟩=some (.int .i64 t.sort):=by rw [hw1,hby];exact cs_new rfl
   have c3:w1.cell? ⟨bx+1,3,none⟩=some (.slice a' t.kids.length cap'):=by rw [hw1,hby];exact cs_new rfl
   have HE1:Hid (ExtD w w1):=Lib.hid (by rw [hw1,hw0];exact (ExtD.alloc w _).trans (ExtD.alloc _ _))
   have hT1:=hT.ext HE1.out.e
   have hT1':=hT'.ext HE1.out.e
   have hcs:=fun (w':World) (hE:ExtD w1 w')=>PSize_any 1000000 w' S a cap s hs6 (Nat.le_refl _) (hT1.ext hE.e)
   have hct:=fun (w':World) (hE:ExtD w1 w')=>PSize_any 1000000 w' S' a' cap' t ht6 (Nat.le_refl _) (hT1'.ext hE.e)
   have HT:=Lib.hid hT1.ts
   have HT':=Lib.hid hT1'.ts
   have HP:=Lib.hid (cmpT_parts s t)
   have HKS:=Lib.hid (sizeT_kids s)
   have HKT:=Lib.hid (sizeT_kids t)
   have HN:=Lib.hid hn
   have HS6:=Lib.hid hs6
   have HT6:=Lib.hid ht6
   have IH:=Lib.hid ih
   obtain ⟨zs,hzs⟩:∃zs,zs=sizeT s:=⟨_,rfl⟩
   obtain ⟨zt,hzt⟩:∃zt,zt=sizeT t:=⟨_,rfl⟩
   rw [←hzs] at hcs
   rw [←hzt] at hct
   obtain ⟨q1,hq1⟩:∃q1,q1=sgn (zs:Int) (zt:Int):=⟨_,rfl⟩
   obtain ⟨q2,hq2⟩:∃q2,q2=sgn s.kind t.kind:=⟨_,rfl⟩
   obtain ⟨q4,hq4⟩:∃q4,q4=sgn s.sort t.sort:=⟨_,rfl⟩
   obtain ⟨q5,hq5⟩:∃q5,q5=sgn (s.kids.length:Int) (t.kids.length:Int):=⟨_,rfl⟩
   have hn1:=fun w'=>sign_any (zs:Int) (zt:Int) w'
   have hn2:=fun w'=>sign_any s.kind t.kind w'
   have hn4:=fun w'=>sign_any s.sort t.sort w'
   have hn5:=fun w'=>sign_any (s.kids.length:Int) (t.kids.length:Int) w'
   rw [←hq1] at hn1
   rw [←hq2] at hn2
   rw [←hq4] at hn4
   rw [←hq5] at hn5
   have HP2:Hid (cmpT s t=orE q1 (orE q2 (orE (nameC s.name t.name) (orE q4 (orE q5 (cmpL s.kids t.kids)))))):=Lib.hid (by rw [HP.out,hq1,hq2,hq4,hq5,hzs,hzt])
   have HQ5:Hid (q5=0→s.kids.length=t.kids.length):=Lib.hid (fun h=>by rw [hq5] at h;have:=sgn_zero.1 h;omega)
   have HCS:=Lib.hid hcs
   have HCT:=Lib.hid hct
   have HN1:Hid (∀w':World,Calls Tryz.prog 78 #[.int .i64 zs,.int .i64 zt] w' fun e w''=>e=.returned (.int .i64 q1)∧ExtD w' w''):=Lib.hid (fun w'=>(hn1 w').mono (by rintro e w'' ⟨rfl,rfl⟩;exact ⟨rfl,ExtD.refl _⟩))
   have HN2:=Lib.hid hn2
   have HN4:=Lib.hid hn4
   have HN5:=Lib.hid hn5
   clear hT hT1 hT1' hT' hn ih hcs hct hzs hzt hq1 hq2 hq4 hq5 hn1 hn2 hn4 hn5 hs6 ht6 HP
   have B3:=Lib.hid b3
   have C3:=Lib.hid c3
   go_enter Tryz.func42,Tryz.ntmps42
   go_upto_region 1 with fail
   rw [←hw0,←hbx,←hw1]
   clear hw1 hw0 hbx hby
   have HFCT:=Lib.hid (And.intro b0 (And.intro b1 (And.intro b2 (And.intro b3 (And.intro c0 (And.intro c1 (And.intro c2 c3)))))))
   refine D.wp_region_reg 5 false (by kernel_rfl) (by kernel_rfl) ?_
   refine D.reg_value (fun _=>rfl) ?_ (fun g w' vs hM hE hP=>?_) ?_
   rotate_left
   · (clear hP hM;have ⟨z0,z1,z2,z3,z4,z5,z6,z7⟩:=cs_e8 hE.e HFCT.out;go_simp;first | done | rfl)
   refine D.reg_const (fun _=>rfl) 79 ?_ (fun g w' vs hM hE hP=>?_) ?_
   rotate_left
   · (clear hP hM;have ⟨z0,z1,z2,z3,z4,z5,z6,z7⟩:=cs_e8 hE.e HFCT.out;go_simp;first | done | exact ⟨rfl,rfl⟩ | rfl)
   apply Exists.intro
   refine And.intro (fun g w' vs hM hE hP=>?_) ?_
   · exact HCS.out _ hE
   refine D.reg_value (fun _=>rfl) ?_ (fun g w' vs hM hE hP=>?_) ?_
   rotate_left
   · (clear hP hM;have ⟨z0,z1,z2,z3,z4,z5,z6,z7⟩:=cs_e8 hE.e HFCT.out;go_simp;first | done | rfl)
   refine D.reg_const (fun _=>rfl) 79 ?_ (fun g w' vs hM hE hP=>?_) ?_
   rotate_left
   · (clear hP hM;have ⟨z0,z1,z2,z3,z4,z5,z6,z7⟩:=cs_e8 hE.e HFCT.out;go_simp;first | done | exact ⟨rfl,rfl⟩ | rfl)
   apply Exists.intro
   refine And.intro (fun g w' vs hM hE hP=>?_) ?_
   · exact HCT.out _ hE
   refine D.reg_const (fun _=>rfl) 78 ?_ (fun g w' vs hM hE hP=>?_) ?_
   rotate_left
   · (clear hP hM;have ⟨z0,z1,z2,z3,z4,z5,z6,z7⟩:=cs_e8 hE.e HFCT.out;go_simp;first | done | exact ⟨rfl,rfl⟩ | rfl)
   apply Exists.intro
   refine And.intro (fun g w' vs hM hE hP=>?_) ?_
   · exact HN1.out _
   intro g wz hE2 hF hQ
   simp only [List.drop_succ_cons,List.drop_zero,Act.put,List.setIfInBounds_toArray,List.set_cons_succ,List.set_cons_zero]
   have HE:=Lib.hid hE2
   have b0:=cs_ext hE2.e b0
   have b1:=cs_ext hE2.e b1
   have b2:=cs_ext hE2.e b2
   have b3:=cs_ext hE2.e b3
   have c0:=cs_ext hE2.e c0
   have c1:=cs_ext hE2.e c1
   have c2:=cs_ext hE2.e c2
   have c3:=cs_ext hE2.e c3
   clear hE2 hF hQ

   have HN3:Hid (∀w':World,Calls Tryz.prog 80 #[.string s.name,.string t.name] w' fun e w''=>e=.returned (.int .i64 (nameC s.name t.name))∧w'=w''):=Lib.hid (fun w'=>sCompare_any _ _ w')
   obtain ⟨q3,hq3⟩:∃q3,q3=nameC s.name t.name:=⟨_,rfl⟩
   rw [←hq3] at HN3 HP2
   clear hq3
   by_cases h1:q1=0
   case neg =>
    have HR:Hid (cmpT s t=q1):=Lib.hid (by rw [HP2.out];simp [orE,h1])
    have n1:(q1==0)=false:=by simp [h1]
    clear h1
    go_wp2_with fail
    go_loopw [5,6] (fun cv iv wr=>cv=.int .i64 q1∧iv=.int .i64 0∧ExtD w1 wr) (fun _ _ _=>0)
    case atStart=>exact ⟨rfl,rfl,HE.out⟩
    case round =>
     obtain ⟨rfl,rfl,hE⟩:=hrel
     have HEx:=Lib.hid (HE1.out.trans hE)
     clear hE
     go_wp2_with fail
     go_ret
     exact ⟨ri HR.out.symm,HEx.out⟩
   have e1:(q1==0)=true:=by simp [h1]
   have H1:=Lib.hid h1
   clear h1
   go_wp2_with fail
   refine (HN2.out _).mono ?_
   rintro e w2 ⟨rfl,rfl⟩
   by_cases h2:q2=0
   case neg =>
    have HR:Hid (cmpT s t=q2):=Lib.hid (by rw [HP2.out,H1.out];simp [orE,h2])
    have n2:(q2==0)=false:=by simp [h2]
    clear h2
    go_wp2_with fail
    go_loopw [5,6] (fun cv iv wr=>cv=.int .i64 q2∧iv=.int .i64 0∧ExtD w1 wr) (fun _ _ _=>0)
    case atStart=>exact ⟨rfl,rfl,HE.out⟩
    case round =>
     obtain ⟨rfl,rfl,hE⟩:=hrel
     have HEx:=Lib.hid (HE1.out.trans hE)
     clear hE
     go_wp2_with fail
     go_ret
     exact ⟨ri HR.out.symm,HEx.out⟩
   have e2:(q2==0)=true:=by simp [h2]
   have H2:=Lib.hid h2
   clear h2
   go_wp2_with fail
   refine (HN3.out _).mono ?_
   rintro e w3 ⟨rfl,rfl⟩
   by_cases h3:q3=0
   case neg =>
    have HR:Hid (cmpT s t=q3):=Lib.hid (by rw [HP2.out,H1.out,H2.out];simp [orE,h3])
    have n3:(q3==0)=false:=by simp [h3]
    clear h3
    go_wp2_with fail
    go_loopw [5,6] (fun cv iv wr=>cv=.int .i64 q3∧iv=.int .i64 0∧ExtD w1 wr) (fun _ _ _=>0)
    case atStart=>exact ⟨rfl,rfl,HE.out⟩
    case round =>
     obtain ⟨rfl,rfl,hE⟩:=hrel
     have HEx:=Lib.hid (HE1.out.trans hE)
     clear hE
     go_wp2_with fail
     go_ret
     exact ⟨ri HR.out.symm,HEx.out⟩
   have e3:(q3==0)=true:=by simp [h3]
   have H3:=Lib.hid h3
   clear h3
   go_wp2_with fail
   refine (HN4.out _).mono ?_
   rintro e w4 ⟨rfl,rfl⟩
   by_cases h4:q4=0
   case neg =>
    have HR:Hid (cmpT s t=q4):=Lib.hid (by rw [HP2.out,H1.out,H2.out,H3.out];simp [orE,h4])
    have n4:(q4==0)=false:=by simp [h4]
    clear h4
    go_wp2_with fail
    go_loopw [5,6] (fun cv iv wr=>cv=.int .i64 q4∧iv=.int .i64 0∧ExtD w1 wr) (fun _ _ _=>0)
    case atStart=>exact ⟨rfl,rfl,HE.out⟩
    case round =>
     obtain ⟨rfl,rfl,hE⟩:=hrel
     have HEx:=Lib.hid (HE1.out.trans hE)
     clear hE
     go_wp2_with fail
     go_ret
     exact ⟨ri HR.out.symm,HEx.out⟩
   have e4:(q4==0)=true:=by simp [h4]
   have H4:=Lib.hid h4
   clear h4
   go_wp2_with fail
   refine (HN5.out _).mono ?_
   rintro e w5 ⟨rfl,rfl⟩
   by_cases h5:q5=0
   case neg =>
    have HR:Hid (cmpT s t=q5):=Lib.hid (by rw [HP2.out,H1.out,H2.out,H3.out,H4.out];simp [orE,h5])
    have n5:(q5==0)=false:=by simp [h5]
    clear h5
    go_wp2_with fail
    go_loopw [5,6] (fun cv iv wr=>cv=.int .i64 q5∧iv=.int .i64 0∧ExtD w1 wr) (fun _ _ _=>0)
    case atStart=>exact ⟨rfl,rfl,HE.out⟩
    case round =>
     obtain ⟨rfl,rfl,hE⟩:=hrel
     have HEx:=Lib.hid (HE1.out.trans hE)
     clear hE
     go_wp2_with fail
     go_ret
     exact ⟨ri HR.out.symm,HEx.out⟩
   have e5:(q5==0)=true:=by simp [h5]
   have H5:=Lib.hid h5
   clear h5
   have HLEN:=Lib.hid (HQ5.out H5.out)
   have HP4:Hid (cmpT s t=cmpL s.kids t.kids):=Lib.hid (by rw [HP2.out,H1.out,H2.out,H3.out,H4.out,H5.out];simp [orE])
   obtain rfl:q5=0:=H5.out
   go_wp2_with fail
   go_loopw [5,6] (fun cv iv wr=>∃(i:Nat) (c:Int),iv=.int .i64 i∧cv=.int .i64 c∧i≤s.kids.length∧cmpL (s.kids.take i) (t.kids.take i)=c∧(c≠0→cmpT s t=c)∧ExtD w1 wr) (fun cv iv _=>s.kids.length-(intOf iv).toNat)
   case atStart=>exact ⟨0,0,rfl,rfl,by omega,by simp [cmpL],fun h=>absurd rfl h,HE.out⟩
   case round =>
    clear b0 b1 b2 c0 c1 c2
    obtain ⟨i,c,rfl,rfl,hi,hz,hcn,hEr⟩:=hrel
    have b3:=cs_ext hEr.e B3.out
    have c3:=cs_ext hEr.e C3.out
    have HZ:=Lib.hid hz
    have HCN:=Lib.hid hcn
    have HEr:=Lib.hid hEr
    clear hz hEr hcn
    by_cases hc0:c=0
    · have n0:(c==0)=true:=by simp [hc0]
      by_cases hlt:i<s.kids.length
      · have hlt':i<t.kids.length:=by rw [←HLEN.out];exact hlt
        obtain ⟨x,hx⟩:∃x,s.kids[i]?=some x:=⟨_,List.getElem?_eq_getElem hlt⟩
        obtain ⟨y,hy⟩:∃y,t.kids[i]?=some y:=⟨_,List.getElem?_eq_getElem hlt'⟩
        obtain ⟨xb,xo,xa,xc,rfl,x0,x1,x2,x3,hTx⟩:=(HT.out.ext HEr.out.e).at hx
        obtain ⟨yb,yo,ya,yc,rfl,y0,y1,y2,y3,hTy⟩:=(HT'.out.ext HEr.out.e).at hy
        have hsx:=sizeL_get hx
        have hsy:=sizeL_get hy
        have hcon:=fun (w':World) (hE:ExtD wr w')=>IH.out w' S S' xa ya xc yc x y (by have:=HKS.out;have:=HN.out;omega) (by have:=HKS.out;have:=HS6.out;omega) (by have:=HKT.out;have:=HT6.out;omega) (hTx.ext hE.e) (hTy.ext hE.e)
        obtain ⟨z,hzz⟩:∃z,z=cmpT x y:=⟨_,rfl⟩
        rw [←hzz] at hcon
        have HX:=Lib.hid hx
        have HY:=Lib.hid hy
        have HZZ:=Lib.hid hzz
        have HCON:=Lib.hid hcon
        have HC0:=Lib.hid hc0
        clear hx hy hsx hsy hTx hTy hzz hcon hc0
        go_wp2_with fail
        have HFCT:=Lib.hid (And.intro b3 (And.intro c3 (And.intro x0 (And.intro x1 (And.intro x2 (And.intro x3 (And.intro y0 (And.intro y1 (And.intro y2 y3)))))))))
        refine D.wp_region_reg 11 false (by kernel_rfl) (by kernel_rfl) ?_
        refine D.reg_value (fun _=>rfl) ?_ (fun g w' vs hM hE hP=>?_) ?_
        rotate_left
        · (clear hP hM;go_simp;first | done | rfl)
        refine D.reg_value (fun _=>rfl) ?_ (fun g w' vs hM hE hP=>?_) ?_
        rotate_left
        · (clear hP hM;have ⟨z0,z1,z2,z3,z4,z5,z6,z7,z8,z9⟩:=cs_e10 hE.e HFCT.out;go_simp;first | done | rfl)
        refine D.reg_value (fun _=>rfl) ?_ (fun g w' vs hM hE hP=>?_) ?_
        rotate_left
        · (clear hP hM;go_simp;first | done | rfl)
        refine D.reg_value (fun _=>rfl) ?_ (fun g w' vs hM hE hP=>?_) ?_
        rotate_left
        · (clear hP hM;go_simp;first | done | rfl)
        refine D.reg_value (fun _=>rfl) ?_ (fun g w' vs hM hE hP=>?_) ?_
        rotate_left
        · (clear hP hM;have ⟨z0,z1,z2,z3,z4,z5,z6,z7,z8,z9⟩:=cs_e10 hE.e HFCT.out;go_simp;first | done | rfl)
        refine D.reg_value (fun _=>rfl) ?_ (fun g w' vs hM hE hP=>?_) ?_
        rotate_left
        · (clear hP hM;go_simp;first | done | rfl)
        refine D.reg_value (fun _=>rfl) ?_ (fun g w' vs hM hE hP=>?_) ?_
        rotate_left
        · (clear hP hM;have ⟨z0,z1,z2,z3,z4,z5,z6,z7,z8,z9⟩:=cs_e10 hE.e HFCT.out;go_simp;first | done | rfl)
        refine D.reg_value (fun _=>rfl) ?_ (fun g w' vs hM hE hP=>?_) ?_
        rotate_left
        · (clear hP hM;go_simp;first | done | rfl)
        refine D.reg_value (fun _=>rfl) ?_ (fun g w' vs hM hE hP=>?_) ?_
        rotate_left
        · (clear hP hM;go_simp;first | done | rfl)
        refine D.reg_value (fun _=>rfl) ?_ (fun g w' vs hM hE hP=>?_) ?_
        rotate_left
        · (clear hP hM;have ⟨z0,z1,z2,z3,z4,z5,z6,z7,z8,z9⟩:=cs_e10 hE.e HFCT.out;go_simp;first | done | rfl)
        refine D.reg_const (fun _=>rfl) 42 ?_ (fun g w' vs hM hE hP=>?_) ?_
        rotate_left
        · (clear hP hM;have ⟨z0,z1,z2,z3,z4,z5,z6,z7,z8,z9⟩:=cs_e10 hE.e HFCT.out;go_simp;first | done | exact ⟨rfl,rfl⟩ | rfl)
        apply Exists.intro
        refine And.intro (fun g w' vs hM hE hP=>?_) ?_
        · exact HCON.out _ hE
        intro g wz hE2 hF hQ
        simp only [List.drop_succ_cons,List.drop_zero,Act.put,List.setIfInBounds_toArray,List.set_cons_succ,List.set_cons_zero]
        have HE3:=Lib.hid (HEr.out.trans hE2)
        clear hE2 hF hQ
        go_wp2_with fail
        go_roundw
        case rel=>exact ⟨i+1,z,by go_num,rfl,by omega,by rw [cmpL_take HX.out HY.out,HZ.out,←HZZ.out,HC0.out];simp [orE],fun hn=>by
          rw [HP4.out,HZZ.out]
          exact cmpL_at HLEN.out HX.out HY.out (by rw [HZ.out,HC0.out]) (by rw [←HZZ.out];exact hn),HE3.out⟩
        case measure=>simp [intOf];omega
      · have HR:Hid (cmpT s t=c):=Lib.hid (by rw [HP4.out,←HZ.out,List.take_of_length_le (by omega),List.take_of_length_le (by have:=HLEN.out;omega)])
        clear hc0
        go_wp2_with fail
        go_ret
        exact ⟨ri HR.out.symm,HE1.out.trans HEr.out⟩
    · have n0:(c==0)=false:=by simp [hc0]
      have HR:Hid (cmpT s t=c):=Lib.hid (HCN.out hc0)
      clear hc0
      go_wp2_with fail
      go_ret
      exact ⟨ri HR.out.symm,HE1.out.trans HEr.out⟩

theorem cellc {w:World} {b o:Nat} {c:Array Value} {T:TypeId} {fr:Nat × Nat} (h:w.heap[b]?=some (.cells c T fr)):w.cell? ⟨b,o,none⟩=c[o]?:=by simp [World.cell?,h]
theorem frozenc {w:World} {b o:Nat} {c:Array Value} {T:TypeId} (h:w.heap[b]?=some (.cells c T)):w.frozen? ⟨b,o,none⟩=false:=by simp [World.frozen?,h]
theorem Ext.setCell {w w':World} (h:Ext w w') {b o:Nat} (hb:w.heap.size≤b) (v:Value):Ext w (w'.setCell ⟨b,o,none⟩ v):=Below.setCell h (p:=⟨b,o,none⟩) hb v
/-- the copy under way: the block bx holds its fields, the row kv its kids -/
structure CloneI (w wr:World) (bx:Nat) (k:Int) (n:ByteArray) (s:Int) (kv:Value) (O:List Tm):Prop where
 own:OwnT wr (bx+2) (fun c=>bx+2≤c∧kv.ownBlock≠some c) kv O
 blk:wr.heap[bx]?=some (.cells #[.int .i64 k,.string n,.int .i64 s,kv] 33)
 res:wr.heap[bx+1]?=some (.cells #[.int .i64 0,.string ⟨#[]⟩,.int .i64 0,.slice none 0 0] 33)
 ext:Ext w wr
theorem CloneI.next {w wr w':World} {bx:Nat} {k s:Int} {n:ByteArray} {kv:Value} {O:List Tm} (h:CloneI w wr bx k n s kv O) (hE:Ext wr w'):CloneI w w' bx k n s kv O :=
 ⟨h.own.ext hE,hs_ext hE h.blk,hs_ext hE h.res,h.ext.trans hE⟩
theorem CloneI.put {w wr w':World} {bx:Nat} {k s:Int} {n:ByteArray} {kv v':Value} {O O':List Tm} (h:CloneI w wr bx k n s kv O) (hb:w.heap.size≤bx)
 (hO:OwnT w' (bx+2) (fun c=>(bx+2≤c∧kv.ownBlock≠some c)∧c<wr.heap.size) v' O') (hg:wr.grownBy w' kv.ownBlock) (hat:v'.ownBlock=kv.ownBlock∨v'.ownBlock=some wr.heap.size) :
 CloneI w (w'.setCell ⟨bx,3,none⟩ v') bx k n s v' O':=by
 have hk:=h.own.lt
 have hk':=hO.lt
 have n1:bx<wr.heap.size:=lt_of_get' h.blk
 have n2:bx+1<wr.heap.size:=lt_of_get' h.res
 have b1:w'.heap[bx]?=some (.cells #[.int .i64 k,.string n,.int .i64 s,kv] 33):=by rw [hg.block bx n1 (fun e=>by have:=(hk bx e.symm).1;omega)];exact h.blk
 have b2:w'.heap[bx+1]?=some (.cells #[.int .i64 0,.string ⟨#[]⟩,.int .i64 0,.slice none 0 0] 33):=by rw [hg.block _ n2 (fun e=>by have:=(hk _ e.symm).1;omega)];exact h.res
 have hE:Ext w w':=h.ext.grown hg (fun q hq=>by have:=(hk q hq).1;omega)
 refine ⟨?_,?_,?_,hE.setCell hb v'⟩
 · refine (hO.keep (w':=w'.setCell ⟨bx,3,none⟩ v') (fun q hq=>heap_setCell_other _ _ _ _ (by have:=(hk' q hq).1;show q≠bx;omega)) (fun c hc hlt=>heap_setCell_other _ _ _ _ (by show c≠bx;omega))).wide (fun c hc _=>⟨hc.1.1,fun e=>?_⟩)
   rcases hat with h1 | h1
   · exact hc.1.2 (by rw [←h1];exact e)
   · rw [h1] at e
     simp only [Option.some.injEq] at e
     omega
 · have:=heap_setCell_same w' bx 3 _ _ v' b1
   rw [this]
   simp
 · rw [heap_setCell_other _ _ _ _ (by show bx+1≠bx;omega)]
   exact b2

theorem CloneI.after {w wr w':World} {bx:Nat} {k s:Int} {n:ByteArray} {kv:Value} {O:List Tm} (h:CloneI w wr bx k n s kv O) (hg:wr.grownBy w' kv.ownBlock):w'.heap[bx]?=some (.cells #[.int .i64 k,.string n,.int .i64 s,kv] 33):=by
 rw [hg.block bx (lt_of_get' h.blk) (fun e=>by have:=(h.own.lt bx e.symm).1;omega)];exact h.blk

end Go.Proofs.YtclijngnoepbiaaGreat
