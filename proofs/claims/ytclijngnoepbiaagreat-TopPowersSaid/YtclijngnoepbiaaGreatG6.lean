/- Contracts: the program's errors of terms. Contracts: the program's Valid, Replace. Contracts: a term replaced whole. Contracts: two ascending lists merged. Contracts: the program's summands. -/
import Derived.Test.YtclijngnoepbiaaGreatG5
import Derived.Test.YtclijngnoepbiaaGreatG4
import Derived.Test.YtclijngnoepbiaaGreatG3
import Derived.Deep.RegionLaw
set_option maxRecDepth 100000
set_option maxHeartbeats 8000000
namespace Go.Proofs.YtclijngnoepbiaaGreat
open Go Go.RowKit
set_option linter.unusedVariables false
set_option linter.unusedSimpArgs false

/-- only the blocks nb and db change, and new ones come -/
structure Two (nb db:Nat) (w w':World):Prop where
 os:w'.os=w.os
 tape:w'.tape=w.tape
 output:w'.output=w.output
 size:w.heap.size≤w'.heap.size
 block:∀k,k<w.heap.size→k≠nb→k≠db→w'.heap[k]?=w.heap[k]?
theorem Two.refl (nb db:Nat) (w:World):Two nb db w w:=⟨rfl,rfl,rfl,Nat.le_refl _,fun _ _ _ _=>rfl⟩
theorem Two.trans {nb db:Nat} {a b c:World} (h:Two nb db a b) (k:Two nb db b c):Two nb db a c :=
 ⟨k.os.trans h.os,k.tape.trans h.tape,k.output.trans h.output,Nat.le_trans h.size k.size,fun i h1 h2 h3=>(k.block i (Nat.lt_of_lt_of_le h1 h.size) h2 h3).trans (h.block i h1 h2 h3)⟩
theorem Two.alloc (nb db:Nat) (w:World) (o:Obj):Two nb db w (w.alloc o):=⟨rfl,rfl,rfl,(Ext.alloc w o).size,fun k hk _ _=>(Ext.alloc w o).block hk⟩
theorem Two.set {nb db b o:Nat} {w w':World} (h:Two nb db w w') (hb:b=nb∨b=db) (v:Value):Two nb db w (w'.setCell ⟨b,o,none⟩ v) :=
 h.trans ⟨rfl,rfl,rfl,by simp,fun k hk h1 h2=>heap_setCell_other _ _ _ _ (by show k≠b;rcases hb with rfl | rfl<;>assumption)⟩
theorem TmW.two {w w':World} {S:Nat→Prop} {nb db:Nat} {a:Option Addr} {cap:Nat} {t:Tm} (h:TmW w S a cap t) (hE:Two nb db w w') (hS:∀c,S c→c≠nb∧c≠db):TmW w' S a cap t :=
 h.keep (fun c hc hlt=>hE.block c hlt (hS c hc).1 (hS c hc).2) (fun _ h _=>h)

/-- the counters hold N and D -/
structure Cnt (w:World) (nb db:Nat) (N D:Int):Prop where
 n:w.heap[nb]?=some (.cells #[.int .i64 N] 3)
 d:w.heap[db]?=some (.cells #[.int .i64 D] 3)
theorem Cnt.al {w:World} {nb db:Nat} {N D:Int} (h:Cnt w nb db N D) (o:Obj):Cnt (w.alloc o) nb db N D:=⟨hs_al h.n,hs_al h.d⟩

/-- what check answers -/
def ChkR (w:World) (nb db:Nat) (N D lv:Int) (t:Tm) (w':World):Prop :=
 ∃N' D':Int,Cnt w' nb db N' D'∧Two nb db w w'∧N≤N'∧N'≤N+sizeT t∧D≤D'∧D'≤max D (lv-1+depthT t)∧(errT t=0→N'=N+sizeT t∧D'=max D (lv-1+depthT t))
theorem depthL_take_le (l:List Tm) (i:Nat):depthL (l.take i)≤depthL l:=by
 induction l generalizing i with
 | nil=>simp
 | cons x l ih =>
   cases i with
   | zero=>simp [depthL]
   | succ i=>have:=ih i;simp only [List.take_succ_cons,depthL];omega
theorem check_any (n:Nat):∀(w:World) (S:Nat→Prop) (a:Option Addr) (cap:Nat) (t:Tm) (lv N D:Int) (nb db:Nat),sizeT t≤n→n≤1000000→0≤lv→lv+n≤2000000→0≤N→N+sizeT t≤2000000→0≤D→D≤4000000→nb≠db→(∀c,S c→c≠nb∧c≠db)→Cnt w nb db N D→TmW w S a cap t →
 Calls Tryz.prog 62 #[.agg #[.int .i64 t.kind,.string t.name,.int .i64 t.sort,.slice a t.kids.length cap],.int .i64 lv,.pointer (some ⟨nb,0,none⟩),.pointer (some ⟨db,0,none⟩)] w fun e w'=>e=.returned (.int .i64 (errT t))∧ChkR w nb db N D lv t w':=by
 induction n with
 | zero=>intro w S a cap t lv N D nb db hn;have:=sizeT_kids t;omega
 | succ n ih =>
   intro w S a cap t lv N D nb db hn hn2 hlv hlv2 hN hN2 hD hD2 hnd hS hC hT
   have hl:=hT.len
   have hc:=hT.cap
   unfold maxLen at hc
   have hN1:N+1≤2000000:=by have:=sizeT_kids t;omega
   have hnb:=lt_of_get' hC.n
   have hdb:=lt_of_get' hC.d
   obtain ⟨bx,hbx⟩:∃bx,bx=w.heap.size:=⟨_,rfl⟩
   obtain ⟨w1,hw1⟩:∃w1,w1=w.alloc (.cells #[.int .i64 t.kind,.string t.name,.int .i64 t.sort,.slice a t.kids.length cap] 33):=⟨_,rfl⟩
   have h0:w1.heap[bx]?=some (.cells #[.int .i64 t.kind,.string t.name,.int .i64 t.sort,.slice a t.kids.length cap] 33):=by rw [hw1,hbx];exact hs_new
   have hC1:Cnt w1 nb db N D:=by rw [hw1];exact hC.al _
   have hW1:Two nb db w w1:=by rw [hw1];exact Two.alloc _ _ _ _
   have n0:w1.cell? ⟨nb,0,none⟩=some (.int .i64 N):=by rw [cellc hC1.n];rfl
   have nf:w1.frozen? ⟨nb,0,none⟩=false:=frozenc hC1.n
   have d0:w1.cell? ⟨db,0,none⟩=some (.int .i64 D):=by rw [cellc hC1.d];rfl
   have df:w1.frozen? ⟨db,0,none⟩=false:=frozenc hC1.d
   obtain ⟨D1,hD1⟩:∃D1,D1=max D lv:=⟨_,rfl⟩
   obtain ⟨w2,hw2⟩:∃w2,w2=(w1.setCell ⟨nb,0,none⟩ (.int .i64 (N+1))).setCell ⟨db,0,none⟩ (.int .i64 D1):=⟨_,rfl⟩
   have hC2:Cnt w2 nb db (N+1) D1:=by
    rw [hw2]
    have e1:(w1.setCell ⟨nb,0,none⟩ (.int .i64 (N+1))).heap[db]?=some (.cells #[.int .i64 D] 3):=by rw [heap_setCell_other _ _ _ _ (by show db≠nb;omega)];exact hC1.d
    constructor
    · rw [heap_setCell_other _ _ _ _ (by show nb≠db;omega),heap_setCell_same _ _ _ _ _ _ hC1.n];simp
    · rw [heap_setCell_same _ _ _ _ _ _ e1];simp
   have hW2:Two nb db w w2:=by rw [hw2];exact (hW1.set (.inl rfl) _).set (.inr rfl) _
   have h2:w2.heap[bx]?=some (.cells #[.int .i64 t.kind,.string t.name,.int .i64 t.sort,.slice a t.kids.length cap] 33):=by
    rw [hw2,heap_setCell_other _ _ _ _ (by show bx≠db;omega),heap_setCell_other _ _ _ _ (by show bx≠nb;omega)]
    exact h0
   have b0:w2.cell? ⟨bx,0,none⟩=some (.int .i64 t.kind):=by rw [cellc h2];rfl
   have b1:w2.cell? ⟨bx,1,none⟩=some (.string t.name):=by rw [cellc h2];rfl
   have b2:w2.cell? ⟨bx,2,none⟩=some (.int .i64 t.sort):=by rw [cellc h2];rfl
   have b3:w2.cell? ⟨bx,3,none⟩=some (.slice a t.kids.length cap):=by rw [cellc h2];rfl
   have HT:=Lib.hid hT
   obtain ⟨k,hk⟩:∃k,k=t.kind:=⟨_,rfl⟩
   obtain ⟨sr,hsr⟩:∃sr,sr=t.sort:=⟨_,rfl⟩
   obtain ⟨len,hlen⟩:∃len,len=t.kids.length:=⟨_,rfl⟩
   obtain ⟨b,hb⟩:∃b,b=nameOk t.name:=⟨_,rfl⟩
   have hcon:=fun w'=>PIsName_any t.name w' hT.name
   rw [←hb] at hcon
   have HCON:=Lib.hid hcon
   have HB:=Lib.hid hb
   have HER:Hid (errT t=orE (nodeE k t.name sr len) (errL t.kids)):=Lib.hid (by rw [errT_kids t,hk,hsr,hlen])
   have HK:=Lib.hid (sizeT_kids t)
   have HDK:=Lib.hid (depthT_kids t)
   have HN:=Lib.hid hn
   have HN2:=Lib.hid hN2
   have HD1:=Lib.hid hD1
   have HC2:=Lib.hid hC2
   have HW2:=Lib.hid hW2
   have HS:=Lib.hid hS
   have IH:=Lib.hid ih
   have HBAD:Hid (errT t≠0→ChkR w nb db N D lv t w2):=Lib.hid (fun h=>⟨N+1,D1,hC2,hW2,by omega,by have:=sizeT_kids t;omega,by omega,by have:=depthT_kids t;omega,fun e=>absurd e h⟩)
   have hlenz:(len:Int)=t.kids.length:=by rw [hlen]
   rw [←hlen] at b3 hl
   rw [←hk] at b0
   rw [←hsr] at b2
   rw [←hk,←hsr,←hlen] at hw1
   have HLEN:=Lib.hid hlen
   have hlz:(0:Int)≤len:=by omega
   rw [←hk,←hsr,←hlen]
   clear hT hn ih h0 h2 hC hC1 hW1 hC2 hW2 hN2 hS hcon hb hk hsr hlen hlenz
   go_enter Tryz.func62,Tryz.ntmps62
   go_upto_region 1 with fail
   rw [←hw1,←hbx]
   clear hw1 hbx
   go_upto_region 3 with fail
   rw [←HD1.out,←hw2]
   clear hw2 n0 nf d0 df
   by_cases hbad:¬((k=1∨k=2)∧0≤sr∧sr≤5∧len=0∨k=3∧sr=0)
   · have HR:Hid (errT t=1):=Lib.hid (by rw [HER.out,nodeE,if_pos hbad];rfl)
     have HRR:=Lib.hid (HBAD.out (by rw [HR.out];decide))
     have HBAD2:=Lib.hid hbad
     clear hbad
     rcases (by omega:k=1∨k=2∨k=3∨(k≠1∧k≠2∧k≠3)) with rfl | rfl | rfl | ⟨h1,h2,h3⟩
     · have:=HBAD2.out
       rcases (by omega:sr<0∨5<sr∨(0≤sr∧sr≤5)) with h | h | ⟨h,h'⟩
       · go_wp2;go_ret;exact ⟨ri HR.out.symm,HRR.out⟩
       · go_wp2;go_ret;exact ⟨ri HR.out.symm,HRR.out⟩
       · have hp:(0:Int)<len:=by omega
         have hp2:0<len:=by omega
         go_wp2;go_ret;exact ⟨ri HR.out.symm,HRR.out⟩
     · have:=HBAD2.out
       rcases (by omega:sr<0∨5<sr∨(0≤sr∧sr≤5)) with h | h | ⟨h,h'⟩
       · go_wp2;go_ret;exact ⟨ri HR.out.symm,HRR.out⟩
       · go_wp2;go_ret;exact ⟨ri HR.out.symm,HRR.out⟩
       · have hp:(0:Int)<len:=by omega
         have hp2:0<len:=by omega
         go_wp2;go_ret;exact ⟨ri HR.out.symm,HRR.out⟩
     · have:=HBAD2.out
       have hs:sr≠0:=by omega
       have e2:(sr != 0)=true:=bne_iff_ne.2 hs
       go_wp2;go_ret;exact ⟨ri HR.out.symm,HRR.out⟩
     · have e1:(k==1)=false:=beq_eq_false_iff_ne.2 h1
       have e2:(k==2)=false:=beq_eq_false_iff_ne.2 h2
       have e3:(k==3)=false:=beq_eq_false_iff_ne.2 h3
       go_wp2;go_ret;exact ⟨ri HR.out.symm,HRR.out⟩
   · have hgood : (k=1∨k=2)∧0≤sr∧sr≤5∧len=0∨k=3∧sr=0:=Classical.not_not.1 hbad
     have HR:Hid (errT t=orE (if b=false then 2 else if 8<len then 3 else 0) (errL t.kids)):=Lib.hid (by rw [HER.out,nodeE,if_neg hbad,←HB.out])
     clear hbad
     rcases hgood with ⟨rfl | rfl,h1,h2,hl0⟩ | ⟨rfl,rfl⟩
     · have hl0z : decide ((0:Int)<len)=false:=decide_eq_false (by omega)
       have hl0n:decide (0<len)=false:=decide_eq_false (by omega)
       have HL0:=Lib.hid hl0
       clear hl0
       skip
       cases b with
       | false =>
         have HRR:Hid (errT t=2):=Lib.hid (by rw [HR.out];rfl)
         have HRF:=Lib.hid (HBAD.out (by rw [HRR.out];decide))
         go_wp2_with fail
         refine (HCON.out _).mono ?_
         rintro e w3 ⟨rfl,rfl⟩
         go_wp2_with fail
         go_ret
         exact ⟨ri HRR.out.symm,HRF.out⟩
       | true =>
         by_cases h8:8<len
         · have h8z:(8:Int)<len:=by omega
           have HRR:Hid (errT t=3):=Lib.hid (by rw [HR.out,if_neg (by simp),if_pos h8];rfl)
           have HRF:=Lib.hid (HBAD.out (by rw [HRR.out];decide))
           go_wp2_with fail
           refine (HCON.out _).mono ?_
           rintro e w3 ⟨rfl,rfl⟩
           go_wp2_with fail
           go_ret
           exact ⟨ri HRR.out.symm,HRF.out⟩
         · have h8z:¬(8:Int)<len:=by omega
           have HRE:Hid (errT t=errL t.kids):=Lib.hid (by rw [HR.out,if_neg (by simp),if_neg h8];simp [orE])
           go_wp2_with fail
           refine (HCON.out _).mono ?_
           rintro e w3 ⟨rfl,rfl⟩
           go_wp2_with fail
           clear b0 b1 b2 b3
           go_loopw [10,11,59] (fun _ _ iv wr=>∃(i:Nat) (Ni Di:Int),iv=.int .i64 i∧i≤len∧errL (t.kids.take i)=0∧Cnt wr nb db Ni Di∧Two nb db w2 wr∧Ni=N+1+sizeL (t.kids.take i)∧Di=max D1 (lv+depthL (t.kids.take i))) (fun _ _ iv _=>len-(intOf iv).toNat)
           case atStart=>exact ⟨0,N+1,D1,rfl,by omega,by simp [errL],HC2.out,Two.refl _ _ _,by simp [sizeL],by simp [depthL];rw [HD1.out];omega⟩
           case round =>
            obtain ⟨i,Ni,Di,rfl,hi,hz,hCi,hWi,hNi,hDi⟩:=hrel
            by_cases hlt:i<len
            · obtain ⟨x,hx⟩:∃x,t.kids[i]?=some x:=⟨_,List.getElem?_eq_getElem (by rw [←HLEN.out];exact hlt)⟩
              have HWi:=Lib.hid (HW2.out.trans hWi)
              obtain ⟨xb,xo,xa,xc,rfl,x0,x1,x2,x3,hTx⟩:=(HT.out.two HWi.out HS.out).ts.at hx
              have hsx:=sizeL_take hx
              have hsle:=sizeL_take_le t.kids (i+1)
              have hdle:=depthL_take_le t.kids i
              have hdx:=depthL_take hx
              have hdl2:=depthL_size t.kids
              have hk1:=HK.out
              have hk2:=HN.out
              have hk3:=HN2.out
              have hk4:=HD1.out
              have hcon:=IH.out (wr.alloc (.cells #[.int .i64 x.kind,.string x.name,.int .i64 x.sort,.slice xa x.kids.length xc] 33)) S xa xc x (lv+1) Ni Di nb db (by omega) (by omega) (by omega) (by omega) (by omega) (by omega) (by omega) (by omega) hnd HS.out (hCi.al _) (hTx.ext (Ext.alloc _ _))
              have hlv3:lv+1≤2000000:=by omega
              obtain ⟨z,hzz⟩:∃z,z=errT x:=⟨_,rfl⟩
              rw [←hzz] at hcon
              have HCON2:=Lib.hid hcon
              have HX:=Lib.hid hx
              have HZ:=Lib.hid hz
              have HZZ:=Lib.hid hzz
              have HNi:=Lib.hid hNi
              have HDi:=Lib.hid hDi
              have HWi2:=Lib.hid hWi
              have HSX:=Lib.hid hsx
              have HDX:=Lib.hid hdx
              clear hx hsx hsle hdle hdx hdl2 hk1 hk2 hk3 hk4 hcon hz hzz hNi hDi hWi hTx hCi
              go_wp2_with fail
              refine HCON2.out.mono ?_
              rintro e w4 ⟨rfl,hCh⟩
              have HCh:=Lib.hid hCh
              clear hCh
              by_cases hz0:z=0
              · have e2:(z != 0)=false:=by simp [hz0]
                have HZ0:=Lib.hid hz0
                clear hz0
                go_wp2_with fail
                obtain ⟨N',D',q1,q2,q3,q4,q5,q6,q7⟩:=HCh.out
                obtain ⟨q8,q9⟩:=q7 (by rw [←HZZ.out];exact HZ0.out)
                go_roundw
                case rel=>exact ⟨i+1,N',D',by go_num,by omega,by rw [errL_take HX.out,HZ.out,←HZZ.out,HZ0.out];rfl,q1,HWi2.out.trans ((Two.alloc _ _ _ _).trans q2),by rw [q8,HNi.out,HSX.out];omega,by rw [q9,HDi.out,HDX.out];omega⟩
                case measure=>simp [intOf];omega
              · have e2:(z != 0)=true:=by simp [hz0]
                have HRR:Hid (errT t=z):=Lib.hid (by rw [HRE.out,errL_at HX.out HZ.out,←HZZ.out];simp [orE,hz0])
                have HFIN:Hid (ChkR w nb db N D lv t w4):=Lib.hid (by
                 obtain ⟨N',D',q1,q2,q3,q4,q5,q6,q7⟩:=HCh.out
                 have hk1:=HK.out
                 have hk4:=HD1.out
                 have hk5:=HDK.out
                 have hk6:=HNi.out
                 have hk7:=HDi.out
                 have hk8:=HSX.out
                 have hk9:=HDX.out
                 have hsle:=sizeL_take_le t.kids (i+1)
                 have hdle:=depthL_take_le t.kids (i+1)
                 exact ⟨N',D',q1,HWi.out.trans ((Two.alloc _ _ _ _).trans q2),by omega,by omega,by omega,by omega,fun e=>absurd (HRR.out ▸ e) hz0⟩)
                clear hz0
                go_wp2_with fail
                go_ret
                exact ⟨ri HRR.out.symm,HFIN.out⟩
            · have HTK:Hid (t.kids.take i=t.kids):=Lib.hid (List.take_of_length_le (by have:=HLEN.out;omega))
              have HRR:Hid (errT t=0):=Lib.hid (by rw [HRE.out,←HTK.out];exact hz)
              have HFIN:Hid (ChkR w nb db N D lv t wr):=Lib.hid (by
               rw [HTK.out] at hNi hDi
               have hk1:=HK.out
               have hk4:=HD1.out
               have hk5:=HDK.out
               exact ⟨Ni,Di,hCi,HW2.out.trans hWi,by omega,by omega,by omega,by omega,fun _=>⟨by omega,by omega⟩⟩)
              clear hz hCi hWi hNi hDi
              go_wp2_with fail
              go_ret
              exact ⟨ri HRR.out.symm,HFIN.out⟩
     · have hl0z : decide ((0:Int)<len)=false:=decide_eq_false (by omega)
       have hl0n:decide (0<len)=false:=decide_eq_false (by omega)
       have HL0:=Lib.hid hl0
       clear hl0
       skip
       cases b with
       | false =>
         have HRR:Hid (errT t=2):=Lib.hid (by rw [HR.out];rfl)
         have HRF:=Lib.hid (HBAD.out (by rw [HRR.out];decide))
         go_wp2_with fail
         refine (HCON.out _).mono ?_
         rintro e w3 ⟨rfl,rfl⟩
         go_wp2_with fail
         go_ret
         exact ⟨ri HRR.out.symm,HRF.out⟩
       | true =>
         by_cases h8:8<len
         · have h8z:(8:Int)<len:=by omega
           have HRR:Hid (errT t=3):=Lib.hid (by rw [HR.out,if_neg (by simp),if_pos h8];rfl)
           have HRF:=Lib.hid (HBAD.out (by rw [HRR.out];decide))
           go_wp2_with fail
           refine (HCON.out _).mono ?_
           rintro e w3 ⟨rfl,rfl⟩
           go_wp2_with fail
           go_ret
           exact ⟨ri HRR.out.symm,HRF.out⟩
         · have h8z:¬(8:Int)<len:=by omega
           have HRE:Hid (errT t=errL t.kids):=Lib.hid (by rw [HR.out,if_neg (by simp),if_neg h8];simp [orE])
           go_wp2_with fail
           refine (HCON.out _).mono ?_
           rintro e w3 ⟨rfl,rfl⟩
           go_wp2_with fail
           clear b0 b1 b2 b3
           go_loopw [10,11,59] (fun _ _ iv wr=>∃(i:Nat) (Ni Di:Int),iv=.int .i64 i∧i≤len∧errL (t.kids.take i)=0∧Cnt wr nb db Ni Di∧Two nb db w2 wr∧Ni=N+1+sizeL (t.kids.take i)∧Di=max D1 (lv+depthL (t.kids.take i))) (fun _ _ iv _=>len-(intOf iv).toNat)
           case atStart=>exact ⟨0,N+1,D1,rfl,by omega,by simp [errL],HC2.out,Two.refl _ _ _,by simp [sizeL],by simp [depthL];rw [HD1.out];omega⟩
           case round =>
            obtain ⟨i,Ni,Di,rfl,hi,hz,hCi,hWi,hNi,hDi⟩:=hrel
            by_cases hlt:i<len
            · obtain ⟨x,hx⟩:∃x,t.kids[i]?=some x:=⟨_,List.getElem?_eq_getElem (by rw [←HLEN.out];exact hlt)⟩
              have HWi:=Lib.hid (HW2.out.trans hWi)
              obtain ⟨xb,xo,xa,xc,rfl,x0,x1,x2,x3,hTx⟩:=(HT.out.two HWi.out HS.out).ts.at hx
              have hsx:=sizeL_take hx
              have hsle:=sizeL_take_le t.kids (i+1)
              have hdle:=depthL_take_le t.kids i
              have hdx:=depthL_take hx
              have hdl2:=depthL_size t.kids
              have hk1:=HK.out
              have hk2:=HN.out
              have hk3:=HN2.out
              have hk4:=HD1.out
              have hcon:=IH.out (wr.alloc (.cells #[.int .i64 x.kind,.string x.name,.int .i64 x.sort,.slice xa x.kids.length xc] 33)) S xa xc x (lv+1) Ni Di nb db (by omega) (by omega) (by omega) (by omega) (by omega) (by omega) (by omega) (by omega) hnd HS.out (hCi.al _) (hTx.ext (Ext.alloc _ _))
              have hlv3:lv+1≤2000000:=by omega
              obtain ⟨z,hzz⟩:∃z,z=errT x:=⟨_,rfl⟩
              rw [←hzz] at hcon
              have HCON2:=Lib.hid hcon
              have HX:=Lib.hid hx
              have HZ:=Lib.hid hz
              have HZZ:=Lib.hid hzz
              have HNi:=Lib.hid hNi
              have HDi:=Lib.hid hDi
              have HWi2:=Lib.hid hWi
              have HSX:=Lib.hid hsx
              have HDX:=Lib.hid hdx
              clear hx hsx hsle hdle hdx hdl2 hk1 hk2 hk3 hk4 hcon hz hzz hNi hDi hWi hTx hCi
              go_wp2_with fail
              refine HCON2.out.mono ?_
              rintro e w4 ⟨rfl,hCh⟩
              have HCh:=Lib.hid hCh
              clear hCh
              by_cases hz0:z=0
              · have e2:(z != 0)=false:=by simp [hz0]
                have HZ0:=Lib.hid hz0
                clear hz0
                go_wp2_with fail
                obtain ⟨N',D',q1,q2,q3,q4,q5,q6,q7⟩:=HCh.out
                obtain ⟨q8,q9⟩:=q7 (by rw [←HZZ.out];exact HZ0.out)
                go_roundw
                case rel=>exact ⟨i+1,N',D',by go_num,by omega,by rw [errL_take HX.out,HZ.out,←HZZ.out,HZ0.out];rfl,q1,HWi2.out.trans ((Two.alloc _ _ _ _).trans q2),by rw [q8,HNi.out,HSX.out];omega,by rw [q9,HDi.out,HDX.out];omega⟩
                case measure=>simp [intOf];omega
              · have e2:(z != 0)=true:=by simp [hz0]
                have HRR:Hid (errT t=z):=Lib.hid (by rw [HRE.out,errL_at HX.out HZ.out,←HZZ.out];simp [orE,hz0])
                have HFIN:Hid (ChkR w nb db N D lv t w4):=Lib.hid (by
                 obtain ⟨N',D',q1,q2,q3,q4,q5,q6,q7⟩:=HCh.out
                 have hk1:=HK.out
                 have hk4:=HD1.out
                 have hk5:=HDK.out
                 have hk6:=HNi.out
                 have hk7:=HDi.out
                 have hk8:=HSX.out
                 have hk9:=HDX.out
                 have hsle:=sizeL_take_le t.kids (i+1)
                 have hdle:=depthL_take_le t.kids (i+1)
                 exact ⟨N',D',q1,HWi.out.trans ((Two.alloc _ _ _ _).trans q2),by omega,by omega,by omega,by omega,fun e=>absurd (HRR.out ▸ e) hz0⟩)
                clear hz0
                go_wp2_with fail
                go_ret
                exact ⟨ri HRR.out.symm,HFIN.out⟩
            · have HTK:Hid (t.kids.take i=t.kids):=Lib.hid (List.take_of_length_le (by have:=HLEN.out;omega))
              have HRR:Hid (errT t=0):=Lib.hid (by rw [HRE.out,←HTK.out];exact hz)
              have HFIN:Hid (ChkR w nb db N D lv t wr):=Lib.hid (by
               rw [HTK.out] at hNi hDi
               have hk1:=HK.out
               have hk4:=HD1.out
               have hk5:=HDK.out
               exact ⟨Ni,Di,hCi,HW2.out.trans hWi,by omega,by omega,by omega,by omega,fun _=>⟨by omega,by omega⟩⟩)
              clear hz hCi hWi hNi hDi
              go_wp2_with fail
              go_ret
              exact ⟨ri HRR.out.symm,HFIN.out⟩
     · skip
       cases b with
       | false =>
         have HRR:Hid (errT t=2):=Lib.hid (by rw [HR.out];rfl)
         have HRF:=Lib.hid (HBAD.out (by rw [HRR.out];decide))
         go_wp2_with fail
         refine (HCON.out _).mono ?_
         rintro e w3 ⟨rfl,rfl⟩
         go_wp2_with fail
         go_ret
         exact ⟨ri HRR.out.symm,HRF.out⟩
       | true =>
         by_cases h8:8<len
         · have h8z:(8:Int)<len:=by omega
           have HRR:Hid (errT t=3):=Lib.hid (by rw [HR.out,if_neg (by simp),if_pos h8];rfl)
           have HRF:=Lib.hid (HBAD.out (by rw [HRR.out];decide))
           go_wp2_with fail
           refine (HCON.out _).mono ?_
           rintro e w3 ⟨rfl,rfl⟩
           go_wp2_with fail
           go_ret
           exact ⟨ri HRR.out.symm,HRF.out⟩
         · have h8z:¬(8:Int)<len:=by omega
           have HRE:Hid (errT t=errL t.kids):=Lib.hid (by rw [HR.out,if_neg (by simp),if_neg h8];simp [orE])
           go_wp2_with fail
           refine (HCON.out _).mono ?_
           rintro e w3 ⟨rfl,rfl⟩
           go_wp2_with fail
           clear b0 b1 b2 b3
           go_loopw [10,11,59] (fun _ _ iv wr=>∃(i:Nat) (Ni Di:Int),iv=.int .i64 i∧i≤len∧errL (t.kids.take i)=0∧Cnt wr nb db Ni Di∧Two nb db w2 wr∧Ni=N+1+sizeL (t.kids.take i)∧Di=max D1 (lv+depthL (t.kids.take i))) (fun _ _ iv _=>len-(intOf iv).toNat)
           case atStart=>exact ⟨0,N+1,D1,rfl,by omega,by simp [errL],HC2.out,Two.refl _ _ _,by simp [sizeL],by simp [depthL];rw [HD1.out];omega⟩
           case round =>
            obtain ⟨i,Ni,Di,rfl,hi,hz,hCi,hWi,hNi,hDi⟩:=hrel
            by_cases hlt:i<len
            · obtain ⟨x,hx⟩:∃x,t.kids[i]?=some x:=⟨_,List.getElem?_eq_getElem (by rw [←HLEN.out];exact hlt)⟩
              have HWi:=Lib.hid (HW2.out.trans hWi)
              obtain ⟨xb,xo,xa,xc,rfl,x0,x1,x2,x3,hTx⟩:=(HT.out.two HWi.out HS.out).ts.at hx
              have hsx:=sizeL_take hx
              have hsle:=sizeL_take_le t.kids (i+1)
              have hdle:=depthL_take_le t.kids i
              have hdx:=depthL_take hx
              have hdl2:=depthL_size t.kids
              have hk1:=HK.out
              have hk2:=HN.out
              have hk3:=HN2.out
              have hk4:=HD1.out
              have hcon:=IH.out (wr.alloc (.cells #[.int .i64 x.kind,.string x.name,.int .i64 x.sort,.slice xa x.kids.length xc] 33)) S xa xc x (lv+1) Ni Di nb db (by omega) (by omega) (by omega) (by omega) (by omega) (by omega) (by omega) (by omega) hnd HS.out (hCi.al _) (hTx.ext (Ext.alloc _ _))
              have hlv3:lv+1≤2000000:=by omega
              obtain ⟨z,hzz⟩:∃z,z=errT x:=⟨_,rfl⟩
              rw [←hzz] at hcon
              have HCON2:=Lib.hid hcon
              have HX:=Lib.hid hx
              have HZ:=Lib.hid hz
              have HZZ:=Lib.hid hzz
              have HNi:=Lib.hid hNi
              have HDi:=Lib.hid hDi
              have HWi2:=Lib.hid hWi
              have HSX:=Lib.hid hsx
              have HDX:=Lib.hid hdx
              clear hx hsx hsle hdle hdx hdl2 hk1 hk2 hk3 hk4 hcon hz hzz hNi hDi hWi hTx hCi
              go_wp2_with fail
              refine HCON2.out.mono ?_
              rintro e w4 ⟨rfl,hCh⟩
              have HCh:=Lib.hid hCh
              clear hCh
              by_cases hz0:z=0
              · have e2:(z != 0)=false:=by simp [hz0]
                have HZ0:=Lib.hid hz0
                clear hz0
                go_wp2_with fail
                obtain ⟨N',D',q1,q2,q3,q4,q5,q6,q7⟩:=HCh.out
                obtain ⟨q8,q9⟩:=q7 (by rw [←HZZ.out];exact HZ0.out)
                go_roundw
                case rel=>exact ⟨i+1,N',D',by go_num,by omega,by rw [errL_take HX.out,HZ.out,←HZZ.out,HZ0.out];rfl,q1,HWi2.out.trans ((Two.alloc _ _ _ _).trans q2),by rw [q8,HNi.out,HSX.out];omega,by rw [q9,HDi.out,HDX.out];omega⟩
                case measure=>simp [intOf];omega
              · have e2:(z != 0)=true:=by simp [hz0]
                have HRR:Hid (errT t=z):=Lib.hid (by rw [HRE.out,errL_at HX.out HZ.out,←HZZ.out];simp [orE,hz0])
                have HFIN:Hid (ChkR w nb db N D lv t w4):=Lib.hid (by
                 obtain ⟨N',D',q1,q2,q3,q4,q5,q6,q7⟩:=HCh.out
                 have hk1:=HK.out
                 have hk4:=HD1.out
                 have hk5:=HDK.out
                 have hk6:=HNi.out
                 have hk7:=HDi.out
                 have hk8:=HSX.out
                 have hk9:=HDX.out
                 have hsle:=sizeL_take_le t.kids (i+1)
                 have hdle:=depthL_take_le t.kids (i+1)
                 exact ⟨N',D',q1,HWi.out.trans ((Two.alloc _ _ _ _).trans q2),by omega,by omega,by omega,by omega,fun e=>absurd (HRR.out ▸ e) hz0⟩)
                clear hz0
                go_wp2_with fail
                go_ret
                exact ⟨ri HRR.out.symm,HFIN.out⟩
            · have HTK:Hid (t.kids.take i=t.kids):=Lib.hid (List.take_of_length_le (by have:=HLEN.out;omega))
              have HRR:Hid (errT t=0):=Lib.hid (by rw [HRE.out,←HTK.out];exact hz)
              have HFIN:Hid (ChkR w nb db N D lv t wr):=Lib.hid (by
               rw [HTK.out] at hNi hDi
               have hk1:=HK.out
               have hk4:=HD1.out
               have hk5:=HDK.out
               exact ⟨Ni,Di,hCi,HW2.out.trans hWi,by omega,by omega,by omega,by omega,fun _=>⟨by omega,by omega⟩⟩)
              clear hz hCi hWi hNi hDi
              go_wp2_with fail
              go_ret
              exact ⟨ri HRR.out.symm,HFIN.out⟩

theorem Two.ext {nb db:Nat} {w w1 w':World} (h:Ext w w1) (k:Two nb db w1 w') (hn:w.heap.size≤nb) (hd:w.heap.size≤db):Ext w w' :=
 ⟨k.os.trans h.os,k.tape.trans h.tape,k.output.trans h.output,Nat.le_trans h.size k.size,fun i hi=>(k.block i (Nat.lt_of_lt_of_le hi h.size) (by omega) (by omega)).trans (h.block hi)⟩

theorem PValid_any {w:World} {S:Nat→Prop} {a:Option Addr} {cap:Nat} {t:Tm} (hn:sizeT t≤1000000) (hT:TmW w S a cap t) :
 Calls Tryz.prog 27 #[.agg #[.int .i64 t.kind,.string t.name,.int .i64 t.sort,.slice a t.kids.length cap]] w fun e w'=>e=.returned (.int .i64 (validT t))∧Ext w w':=by
 have hl:=hT.len
 have hc:=hT.cap
 unfold maxLen at hc
 obtain ⟨bx,hbx⟩:∃bx,bx=w.heap.size:=⟨_,rfl⟩
 obtain ⟨w1,hw1⟩:∃w1,w1=w.alloc (.cells #[.int .i64 t.kind,.string t.name,.int .i64 t.sort,.slice a t.kids.length cap] 33):=⟨_,rfl⟩
 have h0:w1.heap[bx]?=some (.cells #[.int .i64 t.kind,.string t.name,.int .i64 t.sort,.slice a t.kids.length cap] 33):=by rw [hw1,hbx];exact hs_new
 have hs1:w1.heap.size=bx+1:=by rw [hw1,hbx,World.size_alloc]
 have hE1:Ext w w1:=by rw [hw1];exact Ext.alloc w _
 obtain ⟨w3,hw3⟩:∃w3,w3=(w1.alloc (.cells #[.int .i64 0] 3)).alloc (.cells #[.int .i64 0] 3):=⟨_,rfl⟩
 have hC:Cnt w3 (bx+1) (bx+1+1) 0 0:=by
  rw [hw3]
  constructor
  · rw [←hs1];exact hs_al hs_new
  · have e:bx+1+1=(w1.alloc (.cells #[.int .i64 0] 3)).heap.size:=by rw [World.size_alloc,hs1]
    rw [e];exact hs_new
 have hE3:Ext w1 w3:=by rw [hw3];exact (Ext.alloc _ _).then_al _
 have h3:=hs_ext hE3 h0
 have b0:w3.cell? ⟨bx,0,none⟩=some (.int .i64 t.kind):=by rw [cellc h3];rfl
 have b1:w3.cell? ⟨bx,1,none⟩=some (.string t.name):=by rw [cellc h3];rfl
 have b2:w3.cell? ⟨bx,2,none⟩=some (.int .i64 t.sort):=by rw [cellc h3];rfl
 have b3:w3.cell? ⟨bx,3,none⟩=some (.slice a t.kids.length cap):=by rw [cellc h3];rfl
 have hT3:=((hT.wide (S':=fun c=>c<w.heap.size) (fun _ _ h=>h)).ext (hE1.trans hE3))
 have hcon:=check_any 1000000 w3 _ a cap t 1 0 0 (bx+1) (bx+1+1) hn (Nat.le_refl _) (by omega) (by omega) (by omega) (by omega) (by omega) (by omega) (by omega) (fun c hc=>by omega) hC hT3
 obtain ⟨er,her⟩:∃er,er=errT t:=⟨_,rfl⟩
 rw [←her] at hcon
 have HR:Hid (validT t=orE er (if 400<sizeT t∨40<depthT t then 3 else 0)):=Lib.hid (by rw [validT,her])
 have HCON:=Lib.hid hcon
 have HE1:=Lib.hid (hE1.trans hE3)
 have HER:=Lib.hid her
 have HBX:Hid (bx=w.heap.size):=Lib.hid hbx
 have HS1:=Lib.hid hs1
 clear hT hT3 hcon her h0 hC hE1 hE3 h3
 go_enter Tryz.func27,Tryz.ntmps27
 go_upto_region 1 with fail
 rw [←hw1,←hbx]
 clear hw1 hbx
 go_upto_region 2 with fail
 rw [←hw3]
 clear hw3 hs1
 go_wp2_with fail
 refine HCON.out.mono ?_
 rintro e w4 ⟨rfl,hR⟩
 have HCH:=Lib.hid hR
 clear hR
 by_cases hz:er=0
 · have e1:(er != 0)=false:=by simp [hz]
   obtain ⟨N',D',q1,q2,q3,q4,q5,q6,q7⟩:=HCH.out
   obtain ⟨q8,q9⟩:=q7 (by rw [←HER.out];exact hz)
   have n0:w4.cell? ⟨bx+1,0,none⟩=some (.int .i64 N'):=by rw [cellc q1.n];rfl
   have d0:w4.cell? ⟨bx+1+1,0,none⟩=some (.int .i64 D'):=by rw [cellc q1.d];rfl
   have HE4:Hid (Ext w w4):=Lib.hid (q2.ext HE1.out (by have:=HBX.out;omega) (by have:=HBX.out;omega))
   have HR2:Hid (validT t=if 400<N'∨40<D' then 3 else 0):=Lib.hid (by
    rw [HR.out,hz]
    have e1:(400<sizeT t∨40<depthT t)↔(400<N'∨40<D'):=by omega
    simp only [orE,if_true,e1])
   have HZ:=Lib.hid hz
   clear hz q1 q2 q3 q4 q5 q6 q7 q8 q9 b0 b1 b2 b3
   by_cases h4:400<N'
   · have HRR:Hid (validT t=3):=Lib.hid (by rw [HR2.out,if_pos (.inl h4)])
     go_wp2_with fail
     go_ret
     exact ⟨ri HRR.out.symm,HE4.out⟩
   · by_cases h5:40<D'
     · have HRR:Hid (validT t=3):=Lib.hid (by rw [HR2.out,if_pos (.inr h5)])
       go_wp2_with fail
       go_ret
       exact ⟨ri HRR.out.symm,HE4.out⟩
     · have HRR:Hid (validT t=0):=Lib.hid (by rw [HR2.out,if_neg (by omega)])
       go_wp2_with fail
       go_ret
       exact ⟨ri HRR.out.symm,HE4.out⟩
 · have e1:(er != 0)=true:=by simp [hz]
   have HRR:Hid (validT t=er):=Lib.hid (by rw [HR.out];simp [orE,hz])
   have HE4:Hid (Ext w w4):=Lib.hid (by
    obtain ⟨N',D',q1,q2,-⟩:=HCH.out
    exact q2.ext HE1.out (by have:=HBX.out;omega) (by have:=HBX.out;omega))
   clear hz
   go_wp2_with fail
   go_ret
   exact ⟨ri HRR.out.symm,HE4.out⟩

theorem PCmp_any {w:World} {S S':Nat→Prop} {a a':Option Addr} {cap cap':Nat} {s t:Tm} (hs6:sizeT s≤1000000) (ht6:sizeT t≤1000000) (hT:TmW w S a cap s) (hT':TmW w S' a' cap' t) :
 Calls Tryz.prog 42 #[.agg #[.int .i64 s.kind,.string s.name,.int .i64 s.sort,.slice a s.kids.length cap],.agg #[.int .i64 t.kind,.string t.name,.int .i64 t.sort,.slice a' t.kids.length cap']] w fun e w'=>e=.returned (.int .i64 (cmpT s t))∧Ext w w' :=
 (PCompare_any 1000000 w S S' a a' cap cap' s t hs6 hs6 ht6 hT hT').mono fun e w' h=>⟨h.1,h.2.e⟩
/-- the merge under way -/
structure PlusI (w wr:World) (S:Nat→Prop) (av bv ov:Value) (R O A B:List Tm):Prop where
 own:OwnT wr w.heap.size S ov O
 a:LsT w S av A
 b:LsT w S bv B
 sum:O++plusS A B=R
 ext:Ext w wr
 len:O.length+A.length+B.length≤200000
theorem PlusI.next {w wr w':World} {S:Nat→Prop} {av bv ov:Value} {R O A B:List Tm} (h:PlusI w wr S av bv ov R O A B) (hE:Ext wr w'):PlusI w w' S av bv ov R O A B :=
 ⟨h.own.ext hE,h.a,h.b,h.sum,h.ext.trans hE,h.len⟩

end Go.Proofs.YtclijngnoepbiaaGreat
