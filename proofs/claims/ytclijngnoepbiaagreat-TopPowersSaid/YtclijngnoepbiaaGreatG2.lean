/- Contracts: the reference's names, sizes, levels. Contracts: the reference's errors and budgets. Contracts: the reference's errors of terms, budgets, order. Contracts: the reference's order of terms. Lists of terms in memory; rows of our own that hold terms; append. -/
import Derived.Test.YtclijngnoepbiaaGreatProg
import Derived.Test.YtclijngnoepbiaaGreatG1
import Derived.Deep.Cut
import Derived.Deep.DeepCutAuto
import Derived.Deep.QuietTactic
import Derived.BigQuiet
import Derived.Outline
import Derived.Laws.Cover1
set_option maxRecDepth 100000
set_option maxHeartbeats 8000000
namespace Go.Proofs.YtclijngnoepbiaaGreat
open Go Go.RowKit
set_option linter.unusedVariables false
set_option linter.unusedSimpArgs false

theorem letter_any (c:UInt8) (w:World) :
 Calls Tryz.prog 112 #[.int .u8 c.toNat] w fun e w'=>e=.returned (.bool (letterB c))∧w=w':=by
 go_enter Tryz.func112,Tryz.ntmps112
 go_wp2
 all_goals go_ret
 all_goals exact ⟨rb (by rw [Bool.eq_iff_iff];simp [letterB];omega),rfl⟩

theorem digit_any (c:UInt8) (w:World) :
 Calls Tryz.prog 113 #[.int .u8 c.toNat] w fun e w'=>e=.returned (.bool (digitB c))∧w=w':=by
 go_enter Tryz.func113,Tryz.ntmps113
 go_wp2
 all_goals go_ret
 all_goals exact ⟨rb (by rw [Bool.eq_iff_iff];simp [digitB];omega),rfl⟩

theorem number_any (a b:Int) (w:World) :
 Calls Tryz.prog 89 #[.int .i64 a,.int .i64 b] w fun e w'=>e=.returned (.int .i64 (sgn a b))∧w=w':=by
 go_enter Tryz.func89,Tryz.ntmps89
 go_wp2
 all_goals go_ret
 all_goals exact ⟨ri (by unfold sgn;(repeat' split)<;>omega),rfl⟩

theorem sizeL_take {l:List Tm} {i:Nat} {x:Tm} (h:l[i]?=some x):sizeL (l.take (i+1))=sizeL (l.take i)+sizeT x:=by
 rw [List.take_add_one,h,sizeL_append]
 simp [sizeL]
theorem sizeL_take_le (l:List Tm) (i:Nat):sizeL (l.take i)≤sizeL l:=by
 have:=sizeL_append (l.take i) (l.drop i)
 rw [List.take_append_drop] at this
 omega

theorem Size_any (n:Nat):∀(w:World) (S:Nat→Prop) (a:Option Addr) (cap:Nat) (t:Tm),sizeT t≤n→n≤1000000→TmW w S a cap t →
 Calls Tryz.prog 72 #[.agg #[.int .i64 t.kind,.string t.name,.int .i64 t.sort,.slice a t.kids.length cap]] w fun e w'=>e=.returned (.int .i64 (sizeT t))∧Ext w w':=by
 induction n with
 | zero=>intro w S a cap t hn;have:=sizeT_kids t;omega
 | succ n ih =>
   intro w S a cap t hn hn2 hT
   have hl:=hT.len
   have hc:=hT.cap
   unfold maxLen at hc
   obtain ⟨bx,hbx⟩:∃bx,bx=w.heap.size:=⟨_,rfl⟩
   obtain ⟨w1,hw1⟩:∃w1,w1=w.alloc (.cells #[.int .i64 t.kind,.string t.name,.int .i64 t.sort,.slice a t.kids.length cap] 33):=⟨_,rfl⟩
   have b3:w1.cell? ⟨bx,3,none⟩=some (.slice a t.kids.length cap):=by rw [hw1,hbx];exact cs_new rfl
   have HE1:Hid (Ext w w1):=Lib.hid (by rw [hw1];exact Ext.alloc w _)
   have HT:=Lib.hid (hT.ext HE1.out).ts
   have HK:=Lib.hid (sizeT_kids t)
   have HN:=Lib.hid hn
   have B3:=Lib.hid b3
   have IH:=Lib.hid ih
   clear hT b3 hn ih
   go_enter Tryz.func72,Tryz.ntmps72
   go_upto_region 1 with fail
   rw [←hw1,←hbx]
   clear hw1 hbx
   go_wp2_with fail
   go_loopw [3,4] (fun nv iv wr=>∃i s:Nat,iv=.int .i64 i∧nv=.int .i64 s∧i≤t.kids.length∧s=1+sizeL (t.kids.take i)∧Ext w1 wr) (fun _ iv _=>t.kids.length-(intOf iv).toNat)
   case atStart=>exact ⟨0,1,rfl,rfl,by omega,by simp [sizeL],Ext.refl _⟩
   case round =>
    obtain ⟨i,s,rfl,rfl,hi,hs,hE⟩:=hrel
    have b3:=cs_ext hE B3.out
    have hsl:s≤sizeT t:=by rw [hs,HK.out];have:=sizeL_take_le t.kids i;omega
    have hs1:s≤1000000:=by have:=HN.out;omega
    have HS:=Lib.hid hs
    have HE:=Lib.hid hE
    clear hs hE
    by_cases hlt:i<t.kids.length
    · obtain ⟨x,hx⟩:∃x,t.kids[i]?=some x:=⟨_,List.getElem?_eq_getElem hlt⟩
      obtain ⟨b,off,a',cap',rfl,y0,y1,y2,y3,hTx⟩:=(HT.out.ext HE.out).at hx
      have hsx:=sizeL_get hx
      have hsl2:s+sizeT x≤sizeT t:=by rw [HS.out,HK.out,Nat.add_assoc,←sizeL_take hx];have:=sizeL_take_le t.kids (i+1);omega
      have hcon:=IH.out _ _ _ _ _ (by have:=HK.out;have:=HN.out;omega) (by omega) hTx
      obtain ⟨z,hz⟩:∃z,z=sizeT x:=⟨_,rfl⟩
      rw [←hz] at hcon hsl2
      have HZ:=Lib.hid hz
      have HX:=Lib.hid hx
      have HSX:=Lib.hid hsx
      have hz2:s+z≤1000000:=by have:=HN.out;omega
      clear hz hx hsx hTx
      go_wp2_with fail
      refine hcon.mono ?_
      rintro e w2 ⟨rfl,hE2⟩
      have HE2:=Lib.hid (HE.out.trans hE2)
      clear hE2 hcon
      go_wp2_with fail
      go_roundw
      case rel=>exact ⟨i+1,s+z,by go_num,by go_num,by omega,by rw [sizeL_take HX.out,←HZ.out,HS.out];omega,HE2.out⟩
      case measure=>simp [intOf];omega
    · have HR:Hid (sizeT t=s):=Lib.hid (by rw [HK.out,HS.out,List.take_of_length_le (by omega)])
      go_wp2_with fail
      go_ret
      exact ⟨ri (by rw [HR.out]),HE1.out.trans HE.out⟩

theorem depthL_take {l:List Tm} {i:Nat} {x:Tm} (h:l[i]?=some x):depthL (l.take (i+1))=max (depthL (l.take i)) (depthT x):=by
 induction l generalizing i with
 | nil=>simp at h
 | cons y l ih =>
   cases i with
   | zero=>simp at h;subst h;simp [depthL]
   | succ i=>simp at h;simp only [List.take_succ_cons,depthL];rw [ih h];omega

theorem Depth_any (n:Nat):∀(w:World) (S:Nat→Prop) (a:Option Addr) (cap:Nat) (t:Tm),sizeT t≤n→n≤1000000→TmW w S a cap t →
 Calls Tryz.prog 73 #[.agg #[.int .i64 t.kind,.string t.name,.int .i64 t.sort,.slice a t.kids.length cap]] w fun e w'=>e=.returned (.int .i64 (depthT t))∧Ext w w':=by
 induction n with
 | zero=>intro w S a cap t hn;have:=sizeT_kids t;omega
 | succ n ih =>
   intro w S a cap t hn hn2 hT
   have hl:=hT.len
   have hc:=hT.cap
   unfold maxLen at hc
   obtain ⟨bx,hbx⟩:∃bx,bx=w.heap.size:=⟨_,rfl⟩
   obtain ⟨w1,hw1⟩:∃w1,w1=w.alloc (.cells #[.int .i64 t.kind,.string t.name,.int .i64 t.sort,.slice a t.kids.length cap] 33):=⟨_,rfl⟩
   have b3:w1.cell? ⟨bx,3,none⟩=some (.slice a t.kids.length cap):=by rw [hw1,hbx];exact cs_new rfl
   have HE1:Hid (Ext w w1):=Lib.hid (by rw [hw1];exact Ext.alloc w _)
   have HT:=Lib.hid (hT.ext HE1.out).ts
   have HK:=Lib.hid (sizeT_kids t)
   have HD:=Lib.hid (depthT_kids t)
   have HN:=Lib.hid hn
   have B3:=Lib.hid b3
   have IH:=Lib.hid ih
   clear hT b3 hn ih
   go_enter Tryz.func73,Tryz.ntmps73
   go_upto_region 1 with fail
   rw [←hw1,←hbx]
   clear hw1 hbx
   go_wp2_with fail
   go_loopw [3,4] (fun nv iv wr=>∃i s:Nat,iv=.int .i64 i∧nv=.int .i64 s∧i≤t.kids.length∧s=depthL (t.kids.take i)∧Ext w1 wr) (fun _ iv _=>t.kids.length-(intOf iv).toNat)
   case atStart=>exact ⟨0,0,rfl,rfl,by omega,by simp [depthL],Ext.refl _⟩
   case round =>
    obtain ⟨i,s,rfl,rfl,hi,hs,hE⟩:=hrel
    have b3:=cs_ext hE B3.out
    have hs1:s≤1000000:=by rw [hs];have:=depthL_size (t.kids.take i);have:=sizeL_take_le t.kids i;have:=HN.out;have:=HK.out;omega
    have HS:=Lib.hid hs
    have HE:=Lib.hid hE
    clear hs hE
    by_cases hlt:i<t.kids.length
    · obtain ⟨x,hx⟩:∃x,t.kids[i]?=some x:=⟨_,List.getElem?_eq_getElem hlt⟩
      obtain ⟨b,off,a',cap',rfl,y0,y1,y2,y3,hTx⟩:=(HT.out.ext HE.out).at hx
      have hsx:=sizeL_get hx
      have hcon:=IH.out _ _ _ _ _ (by have:=HK.out;have:=HN.out;omega) (by omega) hTx
      obtain ⟨z,hz⟩:∃z,z=depthT x:=⟨_,rfl⟩
      rw [←hz] at hcon
      have hz2:z≤1000000:=by have:=depthT_size x;have:=HN.out;have:=HK.out;omega
      have HZ:=Lib.hid hz
      have HX:=Lib.hid hx
      clear hz hx hsx hTx
      go_wp2_with fail
      refine hcon.mono ?_
      rintro e w2 ⟨rfl,hE2⟩
      have HE2:=Lib.hid (HE.out.trans hE2)
      clear hE2 hcon
      have HR:Hid (depthL (t.kids.take (i+1))=max s z):=Lib.hid (by rw [depthL_take HX.out,←HZ.out,HS.out])
      by_cases hm:s<z
      · have hmz:(s:Int)<(z:Int):=by omega
        go_wp2_with fail
        go_roundw
        case rel=>exact ⟨i+1,z,by go_num,by go_num,by omega,by rw [HR.out];omega,HE2.out⟩
        case measure=>simp [intOf];omega
      · have hmz:¬(s:Int)<(z:Int):=by omega
        go_wp2_with fail
        go_roundw
        case rel=>exact ⟨i+1,s,by go_num,by go_num,by omega,by rw [HR.out];omega,HE2.out⟩
        case measure=>simp [intOf];omega
    · have HR:Hid (depthT t=s+1):=Lib.hid (by rw [HD.out,HS.out,List.take_of_length_le (by omega)])
      go_wp2_with fail
      go_ret
      exact ⟨ri (by rw [HR.out];rfl),HE1.out.trans HE.out⟩

theorem nameOk_false {s:ByteArray} {k:Nat} (h:k<s.size) (hf:okB k s[k]=false):false=nameOk s:=by
 symm
 simp only [nameOk,decide_eq_false_iff_not]
 rintro ⟨-,-,hall⟩
 rw [hall k h] at hf
 cases hf
theorem okB0 {c:UInt8}:okB 0 c=letterB c:=by simp [okB]

theorem RIsName_any (s:ByteArray) (w:World) (hs:s.size≤maxLen) :
 Calls Tryz.prog 82 #[.string s] w fun e w'=>e=.returned (.bool (nameOk s))∧w=w':=by
 unfold maxLen at hs
 by_cases h0:s.size=0
 · have HR:Hid (false=nameOk s):=Lib.hid (by symm;simp only [nameOk,decide_eq_false_iff_not];omega)
   have e1:((s.size:Int)==0)=true:=by simp [h0]
   clear h0
   go_enter Tryz.func82,Tryz.ntmps82
   go_wp2
   go_ret
   exact ⟨rb HR.out,rfl⟩
 · have e1 : ((s.size:Int)==0)=false:=by simp [h0]
   have hpos:0<s.size:=by omega
   have hposz:(0:Int)<s.size:=by omega
   by_cases h24:24<s.size
   · have HR:Hid (false=nameOk s):=Lib.hid (by symm;simp only [nameOk,decide_eq_false_iff_not];omega)
     clear h0
     go_enter Tryz.func82,Tryz.ntmps82
     go_wp2
     go_ret
     exact ⟨rb HR.out,rfl⟩
   · by_cases hl : letterB s[0]=true
     · have HL := Lib.hid hl
       have hcon:=fun w'=>letter_any s[0] w'
       rw [hl] at hcon
       have HCON:=Lib.hid hcon
       clear hl h0 hcon
       go_enter Tryz.func82,Tryz.ntmps82
       go_wp2_with fail
       refine (HCON.out _).mono ?_
       rintro e w1 ⟨rfl,rfl⟩
       go_wp2_with fail
       go_loop [3] (fun i=>∃k:Nat,k≤s.size∧i=.int .i64 k∧∀j (h:j<s.size),j<k→okB j s[j]=true) (fun i=>s.size-(intOf i).toNat)
       case atStart=>exact ⟨0,Nat.zero_le _,rfl,fun j h hj=>by omega⟩
       case round =>
        obtain ⟨k,hk,rfl,hall⟩:=hrel
        have HALL:=Lib.hid hall;clear hall
        by_cases hlt:k<s.size
        · have hltz:(k:Int)<s.size:=by omega
          have hstep:okB k s[k]=true→Hid (∀j (h:j<s.size),j<k+1→okB j s[j]=true):=fun hok=>Lib.hid (fun j h hj=>by
           rcases Nat.lt_or_ge j k with h' | h'
           · exact HALL.out j h h'
           · have:j=k:=by omega
             subst this
             exact hok)
          have HSTEP:=Lib.hid hstep
          have hb:=s[k].toNat_lt
          have hk0:letterB s[k]=false→k≠0:=fun h e=>by subst e;rw [HL.out] at h;cases h
          obtain ⟨l,hl⟩:∃l,l=letterB s[k]:=⟨_,rfl⟩
          obtain ⟨d,hd⟩:∃d,d=digitB s[k]:=⟨_,rfl⟩
          have hcl:=fun w'=>letter_any s[k] w'
          have hcd:=fun w'=>digit_any s[k] w'
          rw [←hl] at hcl
          rw [←hd] at hcd
          have HCL:=Lib.hid hcl
          have HCD:=Lib.hid hcd
          have HL2:=Lib.hid hl
          have HD2:=Lib.hid hd
          have HK0:=Lib.hid hk0
          clear hcl hcd hl hd hk0 hstep
          cases l with
          | true =>
            have hn:=HSTEP.out (by simp [okB,←HL2.out])
            go_wp2_with fail
            refine (HCL.out _).mono ?_
            rintro e w2 ⟨rfl,rfl⟩
            go_wp2_with fail
            go_round
            case rel=>exact ⟨k+1,by omega,by go_num,hn.out⟩
            case measure=>simp [intOf];omega
          | false =>
            cases d with
            | true =>
              have hn:=HSTEP.out (by simp [okB,←HL2.out,←HD2.out,HK0.out HL2.out.symm])
              go_wp2_with fail
              refine (HCL.out _).mono ?_
              rintro e w2 ⟨rfl,rfl⟩
              go_wp2_with fail
              refine (HCD.out _).mono ?_
              rintro e w3 ⟨rfl,rfl⟩
              go_wp2_with fail
              go_round
              case rel=>exact ⟨k+1,by omega,by go_num,hn.out⟩
              case measure=>simp [intOf];omega
            | false =>
              by_cases h95:s[k].toNat=95
              · have hn:=HSTEP.out (by simp [okB,h95,HK0.out HL2.out.symm])
                have e2:(((s[k].toNat:Nat):Int) != 95)=false:=by simp;omega
                clear h95
                go_wp2_with fail
                refine (HCL.out _).mono ?_
                rintro e w2 ⟨rfl,rfl⟩
                go_wp2_with fail
                refine (HCD.out _).mono ?_
                rintro e w3 ⟨rfl,rfl⟩
                go_wp2_with fail
                go_round
                case rel=>exact ⟨k+1,by omega,by go_num,hn.out⟩
                case measure=>simp [intOf];omega
              · have e2:(((s[k].toNat:Nat):Int) != 95)=true:=by simp;omega
                by_cases h35:s[k].toNat=35
                · have hn:=HSTEP.out (by simp [okB,h35,HK0.out HL2.out.symm])
                  have e3:(((s[k].toNat:Nat):Int) != 35)=false:=by simp;omega
                  clear h95 h35
                  go_wp2_with fail
                  refine (HCL.out _).mono ?_
                  rintro e w2 ⟨rfl,rfl⟩
                  go_wp2_with fail
                  refine (HCD.out _).mono ?_
                  rintro e w3 ⟨rfl,rfl⟩
                  go_wp2_with fail
                  go_round
                  case rel=>exact ⟨k+1,by omega,by go_num,hn.out⟩
                  case measure=>simp [intOf];omega
                · have e3:(((s[k].toNat:Nat):Int) != 35)=true:=by simp;omega
                  have HR:Hid (false=nameOk s):=Lib.hid (nameOk_false hlt (by simp [okB,h95,h35,←HL2.out,←HD2.out]))
                  clear h95 h35
                  go_wp2_with fail
                  refine (HCL.out _).mono ?_
                  rintro e w2 ⟨rfl,rfl⟩
                  go_wp2_with fail
                  refine (HCD.out _).mono ?_
                  rintro e w3 ⟨rfl,rfl⟩
                  go_wp2_with fail
                  go_ret
                  exact ⟨rb HR.out,rfl⟩
        · have HR:Hid (true=nameOk s):=Lib.hid (by symm;simp only [nameOk,decide_eq_true_eq];exact ⟨by omega,by omega,fun i h=>HALL.out i h (by omega)⟩)
          go_wp2_with fail
          go_ret
          exact ⟨rb HR.out,rfl⟩
     · have hl':letterB s[0]=false:=by simpa using hl
       have HR:Hid (false=nameOk s):=Lib.hid (nameOk_false hpos (by rw [okB0];exact hl'))
       have hcon:=fun w'=>letter_any s[0] w'
       rw [hl'] at hcon
       have HCON:=Lib.hid hcon
       clear hl h0 hl' hcon
       go_enter Tryz.func82,Tryz.ntmps82
       go_wp2_with fail
       refine (HCON.out _).mono ?_
       rintro e w1 ⟨rfl,rfl⟩
       go_wp2_with fail
       go_ret
       exact ⟨rb HR.out,rfl⟩

theorem node_any {k s:Int} {n:ByteArray} {a:Option Addr} {len cap:Nat} {w:World} (hn:n.size≤maxLen) (hl:len≤9223372036854775807) :
 Calls Tryz.prog 109 #[.agg #[.int .i64 k,.string n,.int .i64 s,.slice a len cap]] w fun e w'=>e=.returned (.int .i64 (nodeE k n s len))∧Ext w w':=by
 obtain ⟨b,hb⟩:∃b,b=nameOk n:=⟨_,rfl⟩
 have hcon:=fun w'=>RIsName_any n w' hn
 rw [←hb] at hcon
 have HCON:=Lib.hid hcon
 have HB:=Lib.hid hb
 clear hcon hb
 obtain ⟨bx,hbx⟩:∃bx,bx=w.heap.size:=⟨_,rfl⟩
 obtain ⟨w1,hw1⟩:∃w1,w1=w.alloc (.cells #[.int .i64 k,.string n,.int .i64 s,.slice a len cap] 33):=⟨_,rfl⟩
 have b0:w1.cell? ⟨bx,0,none⟩=some (.int .i64 k):=by rw [hw1,hbx];exact cs_new rfl
 have b1:w1.cell? ⟨bx,1,none⟩=some (.string n):=by rw [hw1,hbx];exact cs_new rfl
 have b2:w1.cell? ⟨bx,2,none⟩=some (.int .i64 s):=by rw [hw1,hbx];exact cs_new rfl
 have b3:w1.cell? ⟨bx,3,none⟩=some (.slice a len cap):=by rw [hw1,hbx];exact cs_new rfl
 have HE1:Hid (Ext w w1):=Lib.hid (by rw [hw1];exact Ext.alloc w _)
 have e1:((k==1)=true∨(k==1)=false):=by cases k==1<;>simp
 have hlz:(0:Int)≤len:=by omega
 by_cases hbad:¬((k=1∨k=2)∧0≤s∧s≤5∧len=0∨k=3∧s=0)
 · have HR:Hid (nodeE k n s len=1):=Lib.hid (by rw [nodeE,if_pos hbad])
   have HBAD:=Lib.hid hbad
   clear hbad
   go_enter Tryz.func109,Tryz.ntmps109
   go_upto_region 1 with fail
   rw [←hw1,←hbx]
   clear hw1 hbx e1
   rcases (by omega:k=1∨k=2∨k=3∨(k≠1∧k≠2∧k≠3)) with rfl | rfl | rfl | ⟨h1,h2,h3⟩
   · have:=HBAD.out
     rcases (by omega:s<0∨5<s∨(0≤s∧s≤5)) with h | h | ⟨h,h'⟩
     · go_wp2;go_ret;exact ⟨ri HR.out.symm,HE1.out⟩
     · go_wp2;go_ret;exact ⟨ri HR.out.symm,HE1.out⟩
     · have hp:(0:Int)<len:=by omega
       have hp2:0<len:=by omega
       go_wp2;go_ret;exact ⟨ri HR.out.symm,HE1.out⟩
   · have:=HBAD.out
     rcases (by omega:s<0∨5<s∨(0≤s∧s≤5)) with h | h | ⟨h,h'⟩
     · go_wp2;go_ret;exact ⟨ri HR.out.symm,HE1.out⟩
     · go_wp2;go_ret;exact ⟨ri HR.out.symm,HE1.out⟩
     · have hp:(0:Int)<len:=by omega
       have hp2:0<len:=by omega
       go_wp2;go_ret;exact ⟨ri HR.out.symm,HE1.out⟩
   · have:=HBAD.out
     have hs:s≠0:=by omega
     have e2:(s != 0)=true:=bne_iff_ne.2 hs
     rcases (by omega:s<0∨5<s∨(0≤s∧s≤5)) with h | h | ⟨h,h'⟩
     · go_wp2;go_ret;exact ⟨ri HR.out.symm,HE1.out⟩
     · go_wp2;go_ret;exact ⟨ri HR.out.symm,HE1.out⟩
     · go_wp2;go_ret;exact ⟨ri HR.out.symm,HE1.out⟩
   · have e1:(k==1)=false:=beq_eq_false_iff_ne.2 h1
     have e2:(k==2)=false:=beq_eq_false_iff_ne.2 h2
     have e3:(k != 3)=true:=bne_iff_ne.2 h3
     go_wp2;go_ret;exact ⟨ri HR.out.symm,HE1.out⟩
 · have hgood:(k=1∨k=2)∧0≤s∧s≤5∧len=0∨k=3∧s=0:=Classical.not_not.1 hbad
   have HR:Hid (nodeE k n s len=if b=false then 2 else if 8<len then 3 else 0):=Lib.hid (by rw [nodeE,if_neg hbad,←HB.out])
   clear hbad e1
   go_enter Tryz.func109,Tryz.ntmps109
   go_upto_region 1 with fail
   rw [←hw1,←hbx]
   clear hw1 hbx
   rcases hgood with ⟨rfl | rfl,h1,h2,rfl⟩ | ⟨rfl,rfl⟩
   · cases b
     all_goals
      go_wp2_with (go_at_call 82;refine (HCON.out _).mono ?_;rintro e w2 ⟨rfl,rfl⟩)
      go_ret
      exact ⟨ri (by rw [HR.out];simp),HE1.out⟩
   · cases b
     all_goals
      go_wp2_with (go_at_call 82;refine (HCON.out _).mono ?_;rintro e w2 ⟨rfl,rfl⟩)
      go_ret
      exact ⟨ri (by rw [HR.out];simp),HE1.out⟩
   · by_cases h8:8<len
     · have h8z:(8:Int)<len:=by omega
       cases b
       all_goals
        go_wp2_with (go_at_call 82;refine (HCON.out _).mono ?_;rintro e w2 ⟨rfl,rfl⟩)
        go_ret
        exact ⟨ri (by rw [HR.out];simp [h8]),HE1.out⟩
     · have h8z:¬(8:Int)<len:=by omega
       cases b
       all_goals
        go_wp2_with (go_at_call 82;refine (HCON.out _).mono ?_;rintro e w2 ⟨rfl,rfl⟩)
        go_ret
        exact ⟨ri (by rw [HR.out];simp [h8]),HE1.out⟩

/-- the first error of a list, by places -/
theorem errL_take {l:List Tm} {i:Nat} {x:Tm} (h:l[i]?=some x):errL (l.take (i+1))=orE (errL (l.take i)) (errT x):=by
 induction l generalizing i with
 | nil=>simp at h
 | cons y l ih =>
   cases i with
   | zero=>simp at h;subst h;simp only [Nat.zero_add,List.take_succ_cons,List.take_zero,errL];unfold orE;(repeat' split)<;>simp_all
   | succ i =>
     simp at h
     simp only [List.take_succ_cons,errL]
     rw [ih h]
     unfold orE;(repeat' split)<;>simp_all
theorem errL_split (l m:List Tm):errL (l++m)=orE (errL l) (errL m):=by
 induction l with
 | nil=>simp [errL,orE]
 | cons y l ih=>simp only [List.cons_append,errL,ih];unfold orE;(repeat' split)<;>simp_all
theorem errL_at {l:List Tm} {i:Nat} {x:Tm} (h:l[i]?=some x) (h0:errL (l.take i)=0):errL l=orE (errT x) (errL (l.drop (i+1))):=by
 have:=errL_split (l.take (i+1)) (l.drop (i+1))
 rw [List.take_append_drop,errL_take h,h0] at this
 rw [this]
 simp [orE]

theorem nodes_any (n:Nat):∀(w:World) (S:Nat→Prop) (a:Option Addr) (cap:Nat) (t:Tm),sizeT t≤n→n≤1000000→TmW w S a cap t →
 Calls Tryz.prog 71 #[.agg #[.int .i64 t.kind,.string t.name,.int .i64 t.sort,.slice a t.kids.length cap]] w fun e w'=>e=.returned (.int .i64 (errT t))∧Ext w w':=by
 induction n with
 | zero=>intro w S a cap t hn;have:=sizeT_kids t;omega
 | succ n ih =>
   intro w S a cap t hn hn2 hT
   have hl:=hT.len
   have hc:=hT.cap
   unfold maxLen at hc
   obtain ⟨bx,hbx⟩:∃bx,bx=w.heap.size:=⟨_,rfl⟩
   obtain ⟨w1,hw1⟩:∃w1,w1=w.alloc (.cells #[.int .i64 t.kind,.string t.name,.int .i64 t.sort,.slice a t.kids.length cap] 33):=⟨_,rfl⟩
   have b0:w1.cell? ⟨bx,0,none⟩=some (.int .i64 t.kind):=by rw [hw1,hbx];exact cs_new rfl
   have b1:w1.cell? ⟨bx,1,none⟩=some (.string t.name):=by rw [hw1,hbx];exact cs_new rfl
   have b2:w1.cell? ⟨bx,2,none⟩=some (.int .i64 t.sort):=by rw [hw1,hbx];exact cs_new rfl
   have b3:w1.cell? ⟨bx,3,none⟩=some (.slice a t.kids.length cap):=by rw [hw1,hbx];exact cs_new rfl
   have HE1:Hid (Ext w w1):=Lib.hid (by rw [hw1];exact Ext.alloc w _)
   have HT:=Lib.hid (hT.ext HE1.out).ts
   have hcn:=fun (w':World)=>node_any (k:=t.kind) (s:=t.sort) (n:=t.name) (a:=a) (len:=t.kids.length) (cap:=cap) (w:=w') hT.name (by omega)
   obtain ⟨ne,hne⟩:∃ne,ne=nodeE t.kind t.name t.sort t.kids.length:=⟨_,rfl⟩
   rw [←hne] at hcn
   have HCN:=Lib.hid hcn
   have HK:=Lib.hid (sizeT_kids t)
   have HER:Hid (errT t=orE ne (errL t.kids)):=Lib.hid (by rw [errT_kids t,hne])
   have HN:=Lib.hid hn
   have B3:=Lib.hid b3
   have IH:=Lib.hid ih
   clear hT hn ih hcn hne
   go_enter Tryz.func71,Tryz.ntmps71
   go_upto_region 1 with fail
   rw [←hw1,←hbx]
   clear hw1 hbx
   go_wp2_with fail
   refine (HCN.out _).mono ?_
   rintro e w2 ⟨rfl,hE2⟩
   have HE2:=Lib.hid hE2
   clear hE2 b0 b1 b2 b3
   by_cases hz:ne=0
   · have e1:(ne != 0)=false:=by simp [hz]
     have HZ:=Lib.hid hz
     clear hz
     go_wp2_with fail
     go_loopw [4,5] (fun iv _ wr=>∃i:Nat,iv=.int .i64 i∧i≤t.kids.length∧errL (t.kids.take i)=0∧Ext w1 wr) (fun iv _ _=>t.kids.length-(intOf iv).toNat)
     case atStart=>exact ⟨0,rfl,by omega,by simp [errL],HE2.out⟩
     case round =>
      obtain ⟨i,rfl,hi,hs,hE⟩:=hrel
      have b3:=cs_ext hE B3.out
      have HS:=Lib.hid hs
      have HE:=Lib.hid hE
      clear hs hE
      by_cases hlt:i<t.kids.length
      · obtain ⟨x,hx⟩:∃x,t.kids[i]?=some x:=⟨_,List.getElem?_eq_getElem hlt⟩
        obtain ⟨b,off,a',cap',rfl,y0,y1,y2,y3,hTx⟩:=(HT.out.ext HE.out).at hx
        have hsx:=sizeL_get hx
        have hcon:=IH.out _ _ _ _ _ (by have:=HK.out;have:=HN.out;omega) (by omega) hTx
        obtain ⟨z,hzz⟩:∃z,z=errT x:=⟨_,rfl⟩
        rw [←hzz] at hcon
        have HX:=Lib.hid hx
        have HZZ:=Lib.hid hzz
        clear hx hsx hTx hzz
        go_wp2_with fail
        refine hcon.mono ?_
        rintro e w3 ⟨rfl,hE3⟩
        have HE3:=Lib.hid (HE.out.trans hE3)
        clear hE3 hcon
        by_cases hz0:z=0
        · have e2:(z != 0)=false:=by simp [hz0]
          have HZ0:=Lib.hid hz0
          clear hz0
          go_wp2_with fail
          go_roundw
          case rel=>exact ⟨i+1,by go_num,by omega,by rw [errL_take HX.out,HS.out,←HZZ.out,HZ0.out];rfl,HE3.out⟩
          case measure=>simp [intOf];omega
        · have e2:(z != 0)=true:=by simp [hz0]
          have HR:Hid (errT t=z):=Lib.hid (by rw [HER.out,HZ.out,errL_at HX.out HS.out,←HZZ.out];simp [orE,hz0])
          clear hz0
          go_wp2_with fail
          go_ret
          exact ⟨ri HR.out.symm,HE1.out.trans HE3.out⟩
      · have HR:Hid (errT t=0):=Lib.hid (by rw [HER.out,HZ.out,←List.take_of_length_le (i:=i) (l:=t.kids) (by omega),HS.out];rfl)
        go_wp2_with fail
        go_ret
        exact ⟨ri HR.out.symm,HE1.out.trans HE.out⟩
   · have e1:(ne != 0)=true:=by simp [hz]
     have HR:Hid (errT t=ne):=Lib.hid (by rw [HER.out];simp [orE,hz])
     clear hz
     go_wp2_with fail
     go_ret
     exact ⟨ri HR.out.symm,HE1.out.trans HE2.out⟩

theorem RValid_any {w:World} {S:Nat→Prop} {a:Option Addr} {cap:Nat} {t:Tm} (hn:sizeT t≤1000000) (hT:TmW w S a cap t) :
 Calls Tryz.prog 32 #[.agg #[.int .i64 t.kind,.string t.name,.int .i64 t.sort,.slice a t.kids.length cap]] w fun e w'=>e=.returned (.int .i64 (validT t))∧Ext w w':=by
 have hl:=hT.len
 have hc:=hT.cap
 unfold maxLen at hc
 obtain ⟨bx,hbx⟩:∃bx,bx=w.heap.size:=⟨_,rfl⟩
 obtain ⟨w1,hw1⟩:∃w1,w1=w.alloc (.cells #[.int .i64 t.kind,.string t.name,.int .i64 t.sort,.slice a t.kids.length cap] 33):=⟨_,rfl⟩
 have b0:w1.cell? ⟨bx,0,none⟩=some (.int .i64 t.kind):=by rw [hw1,hbx];exact cs_new rfl
 have b1:w1.cell? ⟨bx,1,none⟩=some (.string t.name):=by rw [hw1,hbx];exact cs_new rfl
 have b2:w1.cell? ⟨bx,2,none⟩=some (.int .i64 t.sort):=by rw [hw1,hbx];exact cs_new rfl
 have b3:w1.cell? ⟨bx,3,none⟩=some (.slice a t.kids.length cap):=by rw [hw1,hbx];exact cs_new rfl
 have HE1:Hid (Ext w w1):=Lib.hid (by rw [hw1];exact Ext.alloc w _)
 have hT1:=hT.ext HE1.out
 have hc1:=nodes_any 1000000 w1 S a cap t hn (Nat.le_refl _) hT1
 have hc2:=fun (w':World) (hE:Ext w1 w')=>Size_any 1000000 w' S a cap t hn (Nat.le_refl _) (hT1.ext hE)
 have hc3:=fun (w':World) (hE:Ext w1 w')=>Depth_any 1000000 w' S a cap t hn (Nat.le_refl _) (hT1.ext hE)
 have hd:=depthT_size t
 obtain ⟨er,her⟩:∃er,er=errT t:=⟨_,rfl⟩
 obtain ⟨sz,hsz⟩:∃sz,sz=sizeT t:=⟨_,rfl⟩
 obtain ⟨dp,hdp⟩:∃dp,dp=depthT t:=⟨_,rfl⟩
 rw [←her] at hc1
 rw [←hsz] at hc2 hn hd
 rw [←hdp] at hc3 hd
 have HR:Hid (validT t=orE er (if 400<sz∨40<dp then 3 else 0)):=Lib.hid (by rw [validT,her,hsz,hdp])
 have HC2:=Lib.hid hc2
 have HC3:=Lib.hid hc3
 have HC1:=Lib.hid hc1
 clear hT hT1 hc2 hc3 hc1 her hsz hdp
 go_enter Tryz.func32,Tryz.ntmps32
 go_upto_region 1 with fail
 rw [←hw1,←hbx]
 clear hw1 hbx
 go_wp2_with fail
 refine HC1.out.mono ?_
 rintro e w2 ⟨rfl,hE2⟩
 have HE2:=Lib.hid hE2
 have b0:=cs_ext hE2 b0
 have b1:=cs_ext hE2 b1
 have b2:=cs_ext hE2 b2
 have b3:=cs_ext hE2 b3
 clear hE2
 by_cases hz:er=0
 · have e1:(er != 0)=false:=by simp [hz]
   have HZ:=Lib.hid hz
   clear hz
   go_wp2_with fail
   refine (HC2.out _ HE2.out).mono ?_
   rintro e w3 ⟨rfl,hE3⟩
   have b0:=cs_ext hE3 b0
   have b1:=cs_ext hE3 b1
   have b2:=cs_ext hE3 b2
   have b3:=cs_ext hE3 b3
   have HE3:=Lib.hid (HE2.out.trans hE3)
   clear hE3
   by_cases h4:400<sz
   · have h4z:(400:Int)<sz:=by omega
     have HRR:Hid (validT t=3):=Lib.hid (by rw [HR.out,HZ.out,if_pos (.inl h4)];rfl)
     go_wp2_with fail
     go_ret
     exact ⟨ri HRR.out.symm,HE1.out.trans HE3.out⟩
   · have h4z:¬(400:Int)<sz:=by omega
     go_wp2_with fail
     refine (HC3.out _ HE3.out).mono ?_
     rintro e w4 ⟨rfl,hE4⟩
     have HE4:=Lib.hid (HE3.out.trans hE4)
     clear hE4
     by_cases h5:40<dp
     · have h5z:(40:Int)<dp:=by omega
       have HRR:Hid (validT t=3):=Lib.hid (by rw [HR.out,HZ.out,if_pos (.inr h5)];rfl)
       go_wp2_with fail
       go_ret
       exact ⟨ri HRR.out.symm,HE1.out.trans HE4.out⟩
     · have h5z:¬(40:Int)<dp:=by omega
       have HRR:Hid (validT t=0):=Lib.hid (by rw [HR.out,HZ.out,if_neg (by omega)];rfl)
       go_wp2_with fail
       go_ret
       exact ⟨ri HRR.out.symm,HE1.out.trans HE4.out⟩
 · have e1:(er != 0)=true:=by simp [hz]
   have HRR:Hid (validT t=er):=Lib.hid (by rw [HR.out];simp [orE,hz])
   clear hz
   go_wp2_with fail
   go_ret
   exact ⟨ri HRR.out.symm,HE1.out.trans HE2.out⟩

theorem cmpL_take {l l':List Tm} {i:Nat} {x y:Tm} (h:l[i]?=some x) (h':l'[i]?=some y):cmpL (l.take (i+1)) (l'.take (i+1))=orE (cmpL (l.take i) (l'.take i)) (cmpT x y):=by
 induction l generalizing i l' with
 | nil=>simp at h
 | cons z l ih =>
   cases l' with
   | nil=>simp at h'
   | cons z' l' =>
     cases i with
     | zero=>simp at h h';subst h h';simp only [Nat.zero_add,List.take_succ_cons,List.take_zero,cmpL];unfold orE;(repeat' split)<;>simp_all
     | succ i =>
       simp at h h'
       simp only [List.take_succ_cons,cmpL]
       rw [ih h h']
       unfold orE;(repeat' split)<;>simp_all
theorem cmpL_split {l l' m m':List Tm} (hl:l.length=l'.length):cmpL (l++m) (l'++m')=orE (cmpL l l') (cmpL m m'):=by
 induction l generalizing l' with
 | nil=>cases l' with
   | nil=>simp [cmpL,orE]
   | cons y l'=>simp at hl
 | cons x l ih=>cases l' with
   | nil=>simp at hl
   | cons y l' =>
     simp only [List.cons_append,cmpL]
     rw [ih (by simpa using hl)]
     unfold orE;(repeat' split)<;>simp_all
theorem cmpL_at {l l':List Tm} {i:Nat} {x y:Tm} (hl:l.length=l'.length) (h:l[i]?=some x) (h':l'[i]?=some y) (h0:cmpL (l.take i) (l'.take i)=0) (hn:cmpT x y≠0):cmpL l l'=cmpT x y:=by
 have:=cmpL_split (l:=l.take (i+1)) (l':=l'.take (i+1)) (m:=l.drop (i+1)) (m':=l'.drop (i+1)) (by simp [hl])
 rw [List.take_append_drop,List.take_append_drop,cmpL_take h h',h0] at this
 rw [this]
 simp [orE,hn]
theorem cmpT_parts (s t:Tm):cmpT s t=orE (sgn (sizeT s:Int) (sizeT t:Int)) (orE (sgn s.kind t.kind) (orE (nameC s.name t.name) (orE (sgn s.sort t.sort) (orE (sgn (s.kids.length:Int) (t.kids.length:Int)) (cmpL s.kids t.kids))))):=by
 cases s;cases t
 rw [cmpT,sizeT,sizeT]
 rfl
theorem RCompare_any (n:Nat):∀(w:World) (S S':Nat→Prop) (a a':Option Addr) (cap cap':Nat) (s t:Tm),sizeT s≤n→sizeT s≤1000000→sizeT t≤1000000→TmW w S a cap s→TmW w S' a' cap' t →
 Calls Tryz.prog 50 #[.agg #[.int .i64 s.kind,.string s.name,.int .i64 s.sort,.slice a s.kids.length cap],.agg #[.int .i64 t.kind,.string t.name,.int .i64 t.sort,.slice a' t.kids.length cap']] w fun e w'=>e=.returned (.int .i64 (cmpT s t))∧Ext w w':=by
 induction n with
 | zero=>intro w S S' a a' cap cap' s t hn;have:=sizeT_kids s;omega
 | succ n ih =>
   intro w S S' a a' cap cap' s t hn hs6 ht6 hT hT'
   have hl:=hT.len
   have hc:=hT.cap
   have hl':=hT'.len
   have hc':=hT'.cap
   unfold maxLen at hc hc'
   obtain ⟨bx,hbx⟩:∃bx,bx=w.heap.size:=⟨_,rfl⟩
   obtain ⟨w0,hw0⟩:∃w0,w0=w.alloc (.cells #[.int .i64 s.kind,.string s.name,.int .i64 s.sort,.slice a s.kids.length cap] 33):=⟨_,rfl⟩
   have hby:bx+1=w0.heap.size:=by rw [hw0,hbx,World.size_alloc]
   obtain ⟨w1,hw1⟩:∃w1,w1=w0.alloc (.cells #[.int .i64 t.kind,.string t.name,.int .i64 t.sort,.slice a' t.kids.length cap'] 33):=⟨_,rfl⟩
   have b0:w1.cell? ⟨bx,0,none⟩=some (.int .i64 s.kind):=by rw [hw1,hw0,hbx];exact cs_al (cs_new rfl)
   have b1:w1.cell? ⟨bx,1,none⟩=some (.string s.name):=by rw [hw1,hw0,hbx];exact cs_al (cs_new rfl)
   have b2:w1.cell? ⟨bx,2,none⟩=some (.int .i64 s.sort):=by rw [hw1,hw0,hbx];exact cs_al (cs_new rfl)
   have b3:w1.cell? ⟨bx,3,none⟩=some (.slice a s.kids.length cap):=by rw [hw1,hw0,hbx];exact cs_al (cs_new rfl)
   have c0:w1.cell? ⟨bx+1,0,none⟩=some (.int .i64 t.kind):=by rw [hw1,hby];exact cs_new rfl
   have c1:w1.cell? ⟨bx+1,1,none⟩=some (.string t.name):=by rw [hw1,hby];exact cs_new rfl
   have c2:w1.cell? ⟨bx+1,2,none⟩=some (.int .i64 t.sort):=by rw [hw1,hby];exact cs_new rfl
   have c3:w1.cell? ⟨bx+1,3,none⟩=some (.slice a' t.kids.length cap'):=by rw [hw1,hby];exact cs_new rfl
   have HE1:Hid (Ext w w1):=Lib.hid (by rw [hw1,hw0];exact (Ext.alloc w _).then_al _)
   have hT1:=hT.ext HE1.out
   have hT1':=hT'.ext HE1.out
   have hcs:=fun (w':World) (hE:Ext w1 w')=>Size_any 1000000 w' S a cap s hs6 (Nat.le_refl _) (hT1.ext hE)
   have hct:=fun (w':World) (hE:Ext w1 w')=>Size_any 1000000 w' S' a' cap' t ht6 (Nat.le_refl _) (hT1'.ext hE)
   have HT:=Lib.hid hT1.ts
   have HT':=Lib.hid hT1'.ts
   have HP:=Lib.hid (cmpT_parts s t)
   have HKS:=Lib.hid (sizeT_kids s)
   have HKT:=Lib.hid (sizeT_kids t)
   have HN:=Lib.hid hn
   have HS6:=Lib.hid hs6
   have HT6:=Lib.hid ht6
   have IH:=Lib.hid ih
   obtain ⟨zs,hzs⟩:∃zs,zs=sizeT s:=⟨_,rfl⟩
   obtain ⟨zt,hzt⟩:∃zt,zt=sizeT t:=⟨_,rfl⟩
   rw [←hzs] at hcs
   rw [←hzt] at hct
   obtain ⟨q1,hq1⟩:∃q1,q1=sgn (zs:Int) (zt:Int):=⟨_,rfl⟩
   obtain ⟨q2,hq2⟩:∃q2,q2=sgn s.kind t.kind:=⟨_,rfl⟩
   obtain ⟨q4,hq4⟩:∃q4,q4=sgn s.sort t.sort:=⟨_,rfl⟩
   obtain ⟨q5,hq5⟩:∃q5,q5=sgn (s.kids.length:Int) (t.kids.length:Int):=⟨_,rfl⟩
   have hn1:=fun w'=>number_any (zs:Int) (zt:Int) w'
   have hn2:=fun w'=>number_any s.kind t.kind w'
   have hn4:=fun w'=>number_any s.sort t.sort w'
   have hn5:=fun w'=>number_any (s.kids.length:Int) (t.kids.length:Int) w'
   rw [←hq1] at hn1
   rw [←hq2] at hn2
   rw [←hq4] at hn4
   rw [←hq5] at hn5
   have HP2:Hid (cmpT s t=orE q1 (orE q2 (orE (nameC s.name t.name) (orE q4 (orE q5 (cmpL s.kids t.kids)))))):=Lib.hid (by rw [HP.out,hq1,hq2,hq4,hq5,hzs,hzt])
   have HQ5:Hid (q5=0→s.kids.length=t.kids.length):=Lib.hid (fun h=>by rw [hq5] at h;have:=sgn_zero.1 h;omega)
   have HCS:=Lib.hid hcs
   have HCT:=Lib.hid hct
   have HN1:Hid (∀w':World,Calls Tryz.prog 89 #[.int .i64 zs,.int .i64 zt] w' fun e w''=>e=.returned (.int .i64 q1)∧Ext w' w''):=Lib.hid (fun w'=>(hn1 w').mono (by rintro e w'' ⟨rfl,rfl⟩;exact ⟨rfl,Ext.refl _⟩))
   have HN2:=Lib.hid hn2
   have HN4:=Lib.hid hn4
   have HN5:=Lib.hid hn5
   clear hT hT1 hT1' hT' hn ih hcs hct hzs hzt hq1 hq2 hq4 hq5 hn1 hn2 hn4 hn5 hs6 ht6 HP
   have B3:=Lib.hid b3
   have C3:=Lib.hid c3
   go_enter Tryz.func50,Tryz.ntmps50
   go_upto_region 1 with fail
   rw [←hw0,←hbx,←hw1]
   clear hw1 hw0 hbx hby
   have HFCT:=Lib.hid (And.intro b0 (And.intro b1 (And.intro b2 (And.intro b3 (And.intro c0 (And.intro c1 (And.intro c2 c3)))))))
   refine wp_region_reg 5 false (by kernel_rfl) (by kernel_rfl) ?_
   refine reg_value (fun _=>rfl) ?_ (fun g w' vs hM hE hP=>?_) ?_
   rotate_left
   · (clear hP hM;have ⟨z0,z1,z2,z3,z4,z5,z6,z7⟩:=cs_e8 hE HFCT.out;go_simp;first | done | rfl)
   refine reg_const (fun _=>rfl) 72 ?_ (fun g w' vs hM hE hP=>?_) ?_
   rotate_left
   · (clear hP hM;have ⟨z0,z1,z2,z3,z4,z5,z6,z7⟩:=cs_e8 hE HFCT.out;go_simp;first | done | exact ⟨rfl,rfl⟩ | rfl)
   apply Exists.intro
   refine And.intro (fun g w' vs hM hE hP=>?_) ?_
   · exact HCS.out _ hE
   refine reg_value (fun _=>rfl) ?_ (fun g w' vs hM hE hP=>?_) ?_
   rotate_left
   · (clear hP hM;have ⟨z0,z1,z2,z3,z4,z5,z6,z7⟩:=cs_e8 hE HFCT.out;go_simp;first | done | rfl)
   refine reg_const (fun _=>rfl) 72 ?_ (fun g w' vs hM hE hP=>?_) ?_
   rotate_left
   · (clear hP hM;have ⟨z0,z1,z2,z3,z4,z5,z6,z7⟩:=cs_e8 hE HFCT.out;go_simp;first | done | exact ⟨rfl,rfl⟩ | rfl)
   apply Exists.intro
   refine And.intro (fun g w' vs hM hE hP=>?_) ?_
   · exact HCT.out _ hE
   refine reg_const (fun _=>rfl) 89 ?_ (fun g w' vs hM hE hP=>?_) ?_
   rotate_left
   · (clear hP hM;have ⟨z0,z1,z2,z3,z4,z5,z6,z7⟩:=cs_e8 hE HFCT.out;go_simp;first | done | exact ⟨rfl,rfl⟩ | rfl)
   apply Exists.intro
   refine And.intro (fun g w' vs hM hE hP=>?_) ?_
   · exact HN1.out _
   intro g wz hE2 hF hQ
   simp only [List.drop_succ_cons,List.drop_zero,Act.put,List.setIfInBounds_toArray,List.set_cons_succ,List.set_cons_zero]
   have HE:=Lib.hid hE2
   have b0:=cs_ext hE2 b0
   have b1:=cs_ext hE2 b1
   have b2:=cs_ext hE2 b2
   have b3:=cs_ext hE2 b3
   have c0:=cs_ext hE2 c0
   have c1:=cs_ext hE2 c1
   have c2:=cs_ext hE2 c2
   have c3:=cs_ext hE2 c3
   clear hE2 hF hQ
   by_cases h1:q1=0
   case neg =>
    have e1:(q1 != 0)=true:=by simp [h1]
    have HR:Hid (cmpT s t=q1):=Lib.hid (by rw [HP2.out];simp [orE,h1])
    clear h1
    go_wp2_with fail
    go_ret
    exact ⟨ri HR.out.symm,HE1.out.trans HE.out⟩
   have e1:(q1 != 0)=false:=by simp [h1]
   have H1:=Lib.hid h1
   clear h1
   go_wp2_with fail
   refine (HN2.out _).mono ?_
   rintro e w2 ⟨rfl,rfl⟩
   by_cases h2:q2=0
   case neg =>
    have e2:(q2 != 0)=true:=by simp [h2]
    have HR:Hid (cmpT s t=q2):=Lib.hid (by rw [HP2.out,H1.out];simp [orE,h2])
    clear h2
    go_wp2_with fail
    go_ret
    exact ⟨ri HR.out.symm,HE1.out.trans HE.out⟩
   have e2:(q2 != 0)=false:=by simp [h2]
   have H2:=Lib.hid h2
   clear h2
   by_cases h3:Op.bytesLess s.name.toList t.name.toList=true
   case pos =>
    have HR:Hid (cmpT s t=-1):=Lib.hid (by rw [HP2.out,H1.out,H2.out];simp [orE,nameC,h3])
    go_wp2_with fail
    go_ret
    exact ⟨ri HR.out.symm,HE1.out.trans HE.out⟩
   have h3':Op.bytesLess s.name.toList t.name.toList=false:=by simpa using h3
   clear h3
   by_cases h4:Op.bytesLess t.name.toList s.name.toList=true
   case pos =>
    have HR:Hid (cmpT s t=1):=Lib.hid (by rw [HP2.out,H1.out,H2.out];simp [orE,nameC,h3',h4])
    have hne:(s.name.toList==t.name.toList)=false:=by
     rw [beq_eq_false_iff_ne];intro e;rw [e,bl_irrefl] at h4;cases h4
    go_wp2_with fail
    go_ret
    exact ⟨ri HR.out.symm,HE1.out.trans HE.out⟩
   have h4':Op.bytesLess t.name.toList s.name.toList=false:=by simpa using h4
   clear h4
   have hne:(s.name.toList==t.name.toList)=true:=by rw [beq_iff_eq];exact bl_total _ _ h3' h4'
   have HP3:Hid (cmpT s t=orE q4 (orE q5 (cmpL s.kids t.kids))):=Lib.hid (by rw [HP2.out,H1.out,H2.out];simp [orE,nameC,h3',h4'])
   go_wp2_with fail
   refine (HN4.out _).mono ?_
   rintro e w2 ⟨rfl,rfl⟩
   by_cases h5:q4=0
   case neg =>
    have e2:(q4 != 0)=true:=by simp [h5]
    have HR:Hid (cmpT s t=q4):=Lib.hid (by rw [HP3.out];simp [orE,h5])
    clear h5
    go_wp2_with fail
    go_ret
    exact ⟨ri HR.out.symm,HE1.out.trans HE.out⟩
   have e4:(q4 != 0)=false:=by simp [h5]
   have H5:=Lib.hid h5
   clear h5
   go_wp2_with fail
   refine (HN5.out _).mono ?_
   rintro e w2 ⟨rfl,rfl⟩
   by_cases h6:q5=0
   case neg =>
    have e2:(q5 != 0)=true:=by simp [h6]
    have HR:Hid (cmpT s t=q5):=Lib.hid (by rw [HP3.out,H5.out];simp [orE,h6])
    clear h6
    go_wp2_with fail
    go_ret
    exact ⟨ri HR.out.symm,HE1.out.trans HE.out⟩
   have e5:(q5 != 0)=false:=by simp [h6]
   have HLEN:=Lib.hid (HQ5.out h6)
   have HP4:Hid (cmpT s t=cmpL s.kids t.kids):=Lib.hid (by rw [HP3.out,H5.out,h6];simp [orE])
   clear h6
   go_wp2_with fail
   go_loopw [9,10] (fun iv _ wr=>∃i:Nat,iv=.int .i64 i∧i≤s.kids.length∧cmpL (s.kids.take i) (t.kids.take i)=0∧Ext w1 wr) (fun iv _ _=>s.kids.length-(intOf iv).toNat)
   case atStart=>exact ⟨0,rfl,by omega,by simp [cmpL],HE.out⟩
   case round =>
    clear b0 b1 b2 c0 c1 c2
    obtain ⟨i,rfl,hi,hz,hEr⟩:=hrel
    have b3:=cs_ext hEr B3.out
    have c3:=cs_ext hEr C3.out
    have HZ:=Lib.hid hz
    have HEr:=Lib.hid hEr
    clear hz hEr
    by_cases hlt:i<s.kids.length
    · have hlt':i<t.kids.length:=by rw [←HLEN.out];exact hlt
      obtain ⟨x,hx⟩:∃x,s.kids[i]?=some x:=⟨_,List.getElem?_eq_getElem hlt⟩
      obtain ⟨y,hy⟩:∃y,t.kids[i]?=some y:=⟨_,List.getElem?_eq_getElem hlt'⟩
      obtain ⟨xb,xo,xa,xc,rfl,x0,x1,x2,x3,hTx⟩:=(HT.out.ext HEr.out).at hx
      obtain ⟨yb,yo,ya,yc,rfl,y0,y1,y2,y3,hTy⟩:=(HT'.out.ext HEr.out).at hy
      have hsx:=sizeL_get hx
      have hsy:=sizeL_get hy
      have hcon:=fun (w':World) (hE:Ext wr w')=>IH.out w' S S' xa ya xc yc x y (by have:=HKS.out;have:=HN.out;omega) (by have:=HKS.out;have:=HS6.out;omega) (by have:=HKT.out;have:=HT6.out;omega) (hTx.ext hE) (hTy.ext hE)
      obtain ⟨z,hzz⟩:∃z,z=cmpT x y:=⟨_,rfl⟩
      rw [←hzz] at hcon
      have HX:=Lib.hid hx
      have HY:=Lib.hid hy
      have HZZ:=Lib.hid hzz
      have HCON:=Lib.hid hcon
      clear hx hy hsx hsy hTx hTy hzz hcon
      go_wp2_with fail
      have HFCT:=Lib.hid (And.intro b3 (And.intro c3 (And.intro x0 (And.intro x1 (And.intro x2 (And.intro x3 (And.intro y0 (And.intro y1 (And.intro y2 y3)))))))))
      refine wp_region_reg 11 false (by kernel_rfl) (by kernel_rfl) ?_
      refine reg_value (fun _=>rfl) ?_ (fun g w' vs hM hE hP=>?_) ?_
      rotate_left
      · (clear hP hM;go_simp;first | done | rfl)
      refine reg_value (fun _=>rfl) ?_ (fun g w' vs hM hE hP=>?_) ?_
      rotate_left
      · (clear hP hM;have ⟨z0,z1,z2,z3,z4,z5,z6,z7,z8,z9⟩:=cs_e10 hE HFCT.out;go_simp;first | done | rfl)
      refine reg_value (fun _=>rfl) ?_ (fun g w' vs hM hE hP=>?_) ?_
      rotate_left
      · (clear hP hM;go_simp;first | done | rfl)
      refine reg_value (fun _=>rfl) ?_ (fun g w' vs hM hE hP=>?_) ?_
      rotate_left
      · (clear hP hM;go_simp;first | done | rfl)
      refine reg_value (fun _=>rfl) ?_ (fun g w' vs hM hE hP=>?_) ?_
      rotate_left
      · (clear hP hM;have ⟨z0,z1,z2,z3,z4,z5,z6,z7,z8,z9⟩:=cs_e10 hE HFCT.out;go_simp;first | done | rfl)
      refine reg_value (fun _=>rfl) ?_ (fun g w' vs hM hE hP=>?_) ?_
      rotate_left
      · (clear hP hM;go_simp;first | done | rfl)
      refine reg_value (fun _=>rfl) ?_ (fun g w' vs hM hE hP=>?_) ?_
      rotate_left
      · (clear hP hM;have ⟨z0,z1,z2,z3,z4,z5,z6,z7,z8,z9⟩:=cs_e10 hE HFCT.out;go_simp;first | done | rfl)
      refine reg_value (fun _=>rfl) ?_ (fun g w' vs hM hE hP=>?_) ?_
      rotate_left
      · (clear hP hM;go_simp;first | done | rfl)
      refine reg_value (fun _=>rfl) ?_ (fun g w' vs hM hE hP=>?_) ?_
      rotate_left
      · (clear hP hM;go_simp;first | done | rfl)
      refine reg_value (fun _=>rfl) ?_ (fun g w' vs hM hE hP=>?_) ?_
      rotate_left
      · (clear hP hM;have ⟨z0,z1,z2,z3,z4,z5,z6,z7,z8,z9⟩:=cs_e10 hE HFCT.out;go_simp;first | done | rfl)
      refine reg_const (fun _=>rfl) 50 ?_ (fun g w' vs hM hE hP=>?_) ?_
      rotate_left
      · (clear hP hM;have ⟨z0,z1,z2,z3,z4,z5,z6,z7,z8,z9⟩:=cs_e10 hE HFCT.out;go_simp;first | done | exact ⟨rfl,rfl⟩ | rfl)
      apply Exists.intro
      refine And.intro (fun g w' vs hM hE hP=>?_) ?_
      · exact HCON.out _ hE
      intro g wz hE2 hF hQ
      simp only [List.drop_succ_cons,List.drop_zero,Act.put,List.setIfInBounds_toArray,List.set_cons_succ,List.set_cons_zero]
      have HE3:=Lib.hid (HEr.out.trans hE2)
      clear hE2 hF hQ
      by_cases hz0:z=0
      · have e6:(z != 0)=false:=by simp [hz0]
        have HZ0:=Lib.hid hz0
        clear hz0
        go_wp2_with fail
        go_roundw
        case rel=>exact ⟨i+1,by go_num,by omega,by rw [cmpL_take HX.out HY.out,HZ.out,←HZZ.out,HZ0.out];rfl,HE3.out⟩
        case measure=>simp [intOf];omega
      · have e6:(z != 0)=true:=by simp [hz0]
        have HR:Hid (cmpT s t=z):=Lib.hid (by rw [HP4.out,HZZ.out];exact cmpL_at HLEN.out HX.out HY.out HZ.out (by rw [←HZZ.out];exact hz0))
        clear hz0
        go_wp2_with fail
        go_ret
        exact ⟨ri HR.out.symm,HE1.out.trans HE3.out⟩
    · have HR:Hid (cmpT s t=0):=Lib.hid (by rw [HP4.out,←List.take_of_length_le (i:=i) (l:=s.kids) (by omega),←List.take_of_length_le (i:=i) (l:=t.kids) (by have:=HLEN.out;omega)];exact HZ.out)
      go_wp2_with fail
      go_ret
      exact ⟨ri HR.out.symm,HE1.out.trans HEr.out⟩

/-- a term with the place and the room of its kids -/
structure TE where
 t:Tm
 a:Option Addr
 cap:Nat
instance:Inhabited TE:=⟨⟨default,none,0⟩⟩
def encE (e:TE):List Value:=[.int .i64 e.t.kind,.string e.t.name,.int .i64 e.t.sort,.slice e.a e.t.kids.length e.cap]
theorem encE_len (e:TE):(encE e).length=4:=rfl
theorem encE_one (L:List TE):∀u∈L.flatMap encE,u.oneCell'=true:=by
 intro u hu
 obtain ⟨e,-,he⟩:=List.mem_flatMap.1 hu
 simp [encE] at he
 rcases he with rfl | rfl | rfl | rfl<;>rfl
/-- the slice v reads as the terms L -/
def LsT (w:World) (S:Nat→Prop) (v:Value) (L:List Tm):Prop:=∃a cap,v=.slice a L.length cap∧L.length≤cap∧cap≤maxLen∧TsA w S a L
/-- the row v of our own holds the terms L -/
def OwnT (w:World) (base:Nat) (S:Nat→Prop) (v:Value) (L:List Tm):Prop :=
 ∃E:List TE,E.map (·.t)=L∧w.ownsRow base 33 4 v E.length (E.flatMap encE)∧∀e∈E,TmW w S e.a e.cap e.t

section
variable {w w' : World} {S S' : Nat → Prop} {base : Nat} {v v' : Value} {L L' : List Tm} {a : Option Addr}
theorem LsT.ext (h:LsT w S v L) (hE:Ext w w'):LsT w' S v L :=
 let ⟨a,cap,e,h1,h2,h3⟩:=h
 ⟨a,cap,e,h1,h2,h3.ext hE⟩
theorem LsT.wide (h:LsT w S v L) (hS:∀c,S c→c<w.heap.size→S' c):LsT w S' v L :=
 let ⟨a,cap,e,h1,h2,h3⟩:=h
 ⟨a,cap,e,h1,h2,h3.wide hS⟩
theorem LsT.nil:LsT w S (.slice none 0 0) []:=⟨none,0,rfl,by simp,by unfold maxLen;omega,fun i t h=>by simp at h⟩
theorem LsT.ts {n cap:Nat} (h:LsT w S (.slice a n cap) L):TsA w S a L:=by
 obtain ⟨a',cap',e,-,-,h⟩:=h
 cases e
 exact h
theorem LsT.len {n cap:Nat} (h:LsT w S (.slice a n cap) L):n=L.length∧L.length≤cap∧cap≤maxLen:=by
 obtain ⟨a',cap',e,h1,h2,-⟩:=h
 cases e
 exact ⟨rfl,h1,h2⟩
theorem TmW.ls {cap:Nat} {t:Tm} (h:TmW w S a cap t):LsT w S (.slice a t.kids.length cap) t.kids:=⟨a,cap,rfl,h.len,h.cap,h.ts⟩
/-- the kids of a list that lies in S -/
theorem LsT.kids {n cap:Nat} (h:LsT w S (.slice a n cap) L) (hS:∀b o,a=some ⟨b,o,none⟩→S b):KidsA w S a L:=by
 have ht:=h.ts
 cases hL:L with
 | nil=>exact ⟨0,0,fun h=>absurd rfl h,fun i t hi=>by simp at hi⟩
 | cons x M =>
   obtain ⟨b,off,rfl,-⟩:=ht 0 x (by rw [hL];rfl)
   refine ⟨b,off,fun _=>⟨rfl,hS b off rfl⟩,fun i t hi=>?_⟩
   obtain ⟨b',off',e,h'⟩:=ht i t (by rw [hL];exact hi)
   cases e
   exact h'

/-- a list read as entries -/
theorem TsA.entries (h:TsA w S a L):∃E:List TE,E.map (·.t)=L∧(∀e∈E,TmW w S e.a e.cap e.t)∧∀(i:Nat) e,E[i]?=some e→∃b off,a=some ⟨b,off,none⟩∧∀j u,(encE e)[j]?=some u→w.cell? ⟨b,off+i*4+j,none⟩=some u:=by
 have key:∀n,n≤L.length→∃E:List TE,E.map (·.t)=L.take n∧(∀e∈E,TmW w S e.a e.cap e.t)∧∀(i:Nat) e,E[i]?=some e→∃b off,a=some ⟨b,off,none⟩∧∀j u,(encE e)[j]?=some u→w.cell? ⟨b,off+i*4+j,none⟩=some u:=by
  intro n
  induction n with
  | zero=>intro _;exact ⟨[],by simp,by simp,by simp⟩
  | succ n ih =>
    intro hn
    obtain ⟨E,h1,h2,h3⟩:=ih (by omega)
    obtain ⟨x,hx⟩:∃x,L[n]?=some x:=⟨_,List.getElem?_eq_getElem (by omega)⟩
    obtain ⟨b,off,a',cap',e,c0,c1,c2,c3,hW⟩:=h.at hx
    have hEl:E.length=n:=by have:=congrArg List.length h1;simp at this;omega
    refine ⟨E++[⟨x,a',cap'⟩],by rw [List.map_append,h1,List.take_add_one,hx];rfl,fun y hy=>?_,fun i y hi=>?_⟩
    · rcases List.mem_append.1 hy with hy | hy
      · exact h2 y hy
      · simp at hy;subst hy;exact hW
    · by_cases hlt:i<n
      · rw [List.getElem?_append_left (by omega)] at hi
        exact h3 i y hi
      · have:i<(E++[(⟨x,a',cap'⟩:TE)]).length:=(List.getElem?_eq_some_iff.1 hi).1
        simp at this
        have:i=n:=by omega
        subst this
        rw [List.getElem?_append_right (by omega),hEl] at hi
        simp at hi
        subst hi
        refine ⟨b,off,e,fun j u hu=>?_⟩
        match j,hu with
        | 0,hu=>simp [encE] at hu;subst hu;exact c0
        | 1,hu=>simp [encE] at hu;subst hu;exact c1
        | 2,hu=>simp [encE] at hu;subst hu;exact c2
        | 3,hu=>simp [encE] at hu;subst hu;exact c3
        | j+4,hu=>simp [encE] at hu
 obtain ⟨E,h1,h2⟩:=key L.length (Nat.le_refl _)
 exact ⟨E,by rw [h1,List.take_length],h2⟩
theorem add_none {b o j:Nat}:(⟨b,o,none⟩:Addr).add j=⟨b,o+j,none⟩:=by
 unfold Addr.add
 split
 · rename_i e;subst e;rfl
 · rfl
theorem OwnT.ext (h:OwnT w base S v L) (hE:Ext w w'):OwnT w' base S v L :=
 let ⟨E,h1,h2,h3⟩:=h
 ⟨E,h1,ownsRow_ext h2 hE,fun e he=>(h3 e he).ext hE⟩
theorem OwnT.wide (h:OwnT w base S v L) (hS:∀c,S c→c<w.heap.size→S' c):OwnT w base S' v L :=
 let ⟨E,h1,h2,h3⟩:=h
 ⟨E,h1,h2,fun e he=>(h3 e he).wide hS⟩
theorem OwnT.nil:OwnT w base S (.slice none 0 0) []:=⟨[],rfl,World.ownsRow_nil _ _ _ _,by simp⟩
theorem OwnT.lt (h:OwnT w base S v L):∀k,v.ownBlock=some k→base≤k∧k<w.heap.size :=
 let ⟨_,_,h2,_⟩:=h
 h2.lt
theorem OwnT.keep (h:OwnT w base S v L) (h1:∀g,v.ownBlock=some g→w'.heap[g]?=w.heap[g]?) (h2:∀c,S c→c<w.heap.size→w'.heap[c]?=w.heap[c]?):OwnT w' base S v L :=
 let ⟨E,e1,e2,e3⟩:=h
 ⟨E,e1,ownsRow_same e2 h1,fun e he=>(e3 e he).keep h2 (fun _ h _=>h)⟩
theorem OwnT.ls (h:OwnT w base S v L):LsT w S v L:=by
 obtain ⟨E,rfl,h2,h3⟩:=h
 have hne:∀i t,(E.map (·.t))[i]?=some t→∃e:TE,E[i]?=some e∧e.t=t:=fun i t hi=>by
  rw [List.getElem?_map] at hi
  obtain ⟨e,he,h⟩:=Option.map_eq_some_iff.1 hi
  exact ⟨e,he,h⟩
 rcases h2.2 with ⟨rfl,h0⟩ | ⟨g,cap,cur,rfl,-,hg,hn,hc,-⟩
 · have:E=[]:=List.length_eq_zero_iff.1 h0
   subst this
   exact LsT.nil
 · refine ⟨some ⟨g,0,none⟩,cap,by rw [List.length_map],by rw [List.length_map];exact hn,hc,fun i t hi=>?_⟩
   obtain ⟨e,he,rfl⟩:=hne i t hi
   obtain ⟨g',cap',e',-,-,-,hcell⟩:=rowN_at encE_len h2 he
   cases e'
   refine ⟨g,0,rfl,?_⟩
   have hW:=h3 e (List.mem_of_getElem? he)
   rw [Nat.zero_add]
   exact TmAt.close (hcell 0 _ rfl) (hcell 1 _ rfl) (hcell 2 _ rfl) (hcell 3 _ rfl) hW

theorem info_parts {P:Program} {t:Nat} {z:Option Value} {a b:Nat} (h:(P.info? t).map (fun i=>(i.zero,i.size,i.bytes))=some (z,a,b)):∃i,P.info? t=some i∧i.zero=z∧i.size=a∧i.bytes=b:=by
 cases hi:P.info? t with
 | none=>rw [hi] at h;cases h
 | some i =>
   rw [hi] at h
   simp at h
   exact ⟨i,rfl,h.1,h.2.1,h.2.2⟩
theorem infT:(Tryz.prog.info? 33).map (fun i=>(i.zero,i.size,i.bytes))=some (some (.agg #[.int .i64 0,.string ⟨#[]⟩,.int .i64 0,.slice none 0 0]),4,56):=by kernel_rfl

theorem append_of_nil {P:Program} {t ty e:TypeId} {i:TypeInfo} {size n c:Nat} {xs:List Value} (ht:P.underlying t=some (.slice e)) (hi:P.info? e=some i) (hown:w.ownsRow base e size v n xs) :
 (Builtin.append_ #[t,t] ty #[v,.slice none 0 c]).run P w=.ok v w:=by
 have hu:=hown.2
 clear hown
 rcases hu with ⟨h1,h2⟩ | ⟨g,cap,cur,h1,-,-,hnc,-⟩
 · subst h1 h2
   simp [Builtin.append_,run_underlying ht,sizeOf,typeInfo,hi,Builtin.lenOf,Builtin.firstCells]
 · subst h1
   simp [Builtin.append_,run_underlying ht,sizeOf,typeInfo,hi,Builtin.lenOf,Builtin.firstCells,hnc,storeCells]

end

/-- a part of a list -/
theorem LsT.drop {w:World} {S:Nat→Prop} {b off n cap m:Nat} {L:List Tm} (h:LsT w S (.slice (some ⟨b,off,none⟩) n cap) L) (hm:m≤L.length):LsT w S (.slice (some ⟨b,off+m*4,none⟩) (n-m) (cap-m)) (L.drop m):=by
 obtain ⟨a',cap',e,h1,h2,h3⟩:=h
 cases e
 refine ⟨_,cap-m,by rw [List.length_drop],by rw [List.length_drop];omega,by omega,fun k x hk=>?_⟩
 rw [List.getElem?_drop] at hk
 obtain ⟨b',off',e,h4⟩:=h3 _ x hk
 cases e
 exact ⟨b,off+m*4,rfl,by rwa [show off+(m+k)*4=off+m*4+k*4 by omega] at h4⟩
theorem LsT.take {w:World} {S:Nat→Prop} {a:Option Addr} {n cap m:Nat} {L:List Tm} (h:LsT w S (.slice a n cap) L) (hm:m≤L.length):LsT w S (.slice a m cap) (L.take m):=by
 obtain ⟨a',cap',e,h1,h2,h3⟩:=h
 cases e
 refine ⟨a,cap,by rw [List.length_take,Nat.min_eq_left hm],by rw [List.length_take];omega,h2,fun k x hk=>?_⟩
 rw [List.getElem?_take] at hk
 split at hk
 · exact h3 k x hk
 · cases hk
theorem LsT.tail {w:World} {S:Nat→Prop} {b off cap:Nat} {x:Tm} {L:List Tm} (h:LsT w S (.slice (some ⟨b,off,none⟩) (L.length+1) cap) (x :: L)):LsT w S (.slice (if cap=1 then some ⟨b,off,none⟩ else some ⟨b,off+4,none⟩) L.length (cap-1)) L:=by
 have hd:=h.drop (m:=1) (by simp)
 simp only [List.drop_succ_cons,List.drop_zero,Nat.add_sub_cancel,Nat.one_mul] at hd
 split
 · rename_i e
   subst e
   have hl:=h.len.2.1
   have:L=[]:=by simpa using hl
   subst this
   exact ⟨_,_,rfl,by simp,by unfold maxLen;omega,fun i t h=>by simp at h⟩
 · exact hd
end Go.Proofs.YtclijngnoepbiaaGreat
