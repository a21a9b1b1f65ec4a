/- Contracts: theory.Symbols, theory.symbol. Contracts: theory.check, Valid, every at a pair of atoms. Contracts: theory.every, normal, Plain at a pair of atoms. -/
import Derived.Test.YtclijngnoepbiaaGreatG6
import Derived.Test.YtclijngnoepbiaaGreatG4
import Derived.Test.YtclijngnoepbiaaGreatH1
import Derived.Laws.EntriesVeiled
set_option maxRecDepth 100000
set_option maxHeartbeats 8000000
namespace Go.Proofs.YtclijngnoepbiaaGreat
open Go Go.RowKit
set_option linter.unusedVariables false
set_option linter.unusedSimpArgs false

abbrev Sy:=ByteArray × Int × Int × Int
/-- symbols -/
def elSy:Elm Sy where
 n:=4
 R w S x cs:=cs=[.string x.1,.int .i64 x.2.1,.int .i64 x.2.2.1,.int .i64 x.2.2.2]
 len:=by rintro w S t cs rfl;rfl
 one:=by rintro w S t cs rfl u hu;simp at hu;rcases hu with rfl | rfl | rfl | rfl<;>rfl
 keep:=by rintro w w' S S' t cs rfl h1 h2;rfl
theorem infSy:(Tryz.prog.info? 127).map (fun i=>(i.zero,i.size,i.bytes))=some (some (.agg #[.string ⟨#[]⟩,.int .i64 0,.int .i64 0,.int .i64 0]),4,40):=by kernel_rfl
def symsL:List Sy:=[(⟨#[112,97,105,114]⟩,2,2,1),(⟨#[101,110,99]⟩,2,2,1),(⟨#[97,101,110,99]⟩,2,2,1),(⟨#[112,107]⟩,1,1,1),(⟨#[115,105,103,110]⟩,2,2,1),(⟨#[104,97,115,104]⟩,1,1,1),(⟨#[120,111,114]⟩,2,8,1),(⟨#[122,101,114,111]⟩,0,0,1),(⟨#[101,120,112]⟩,2,2,1),(⟨#[109,117,108]⟩,2,8,1),(⟨#[105,110,118]⟩,1,1,1),(⟨#[111,110,101]⟩,0,0,1),(⟨#[115,107]⟩,1,1,2),(⟨#[115,104,107]⟩,2,2,2),(⟨#[110,101,119]⟩,1,8,2),(⟨#[102,115,116]⟩,1,1,3),(⟨#[115,110,100]⟩,1,1,3),(⟨#[100,101,99]⟩,2,2,3),(⟨#[97,100,101,99]⟩,2,2,3),(⟨#[111,112,101,110]⟩,2,2,3),(⟨#[114,101,97,100]⟩,1,1,3)]
/-- the symbols so far -/
structure SyI (w0 w:World) (ob:Nat) (k:Nat):Prop where
 ext:Ext w0 w
 sz:w0.heap.size≤ob
 box:∃v,w.heap[ob]?=some (.cells #[v] 124)∧OwnG elSy w (ob+1) 127 (fun _=>False) v (symsL.take k)
theorem sym1_any {w0 w:World} {ob k:Nat} {x:Sy} (h:SyI w0 w ob k) (hk:symsL[k]?=some x) :
 Calls Tryz.prog 143 #[.int .i64 x.2.2.2,.string x.1,.int .i64 x.2.1,.int .i64 x.2.2.1,.pointer (some ⟨ob,0,none⟩)] w fun e w'=>e=.returned (.tuple #[])∧SyI w0 w' ob (k+1):=by
 obtain ⟨v,hb,hO⟩:=h.box
 obtain ⟨va,vc,rfl,-,-⟩:=id hO.slice
 have b0:w.cell? ⟨ob,0,none⟩=some (.slice va (symsL.take k).length vc):=by rw [cellc hb];rfl
 obtain ⟨xb,w1,hxb,hw1,HX,hE1⟩:=box_new w (.cells #[.string x.1,.int .i64 x.2.1,.int .i64 x.2.2.1,.int .i64 x.2.2.2] 127)
 have HLS:Hid (LsE elSy w1 (fun _=>False) (.slice (some ⟨xb,0,none⟩) 1 1) [x]):=Lib.hid (cells_lsE (P:=[(x,[.string x.1,.int .i64 x.2.1,.int .i64 x.2.2.1,.int .i64 x.2.2.2])]) HX.out rfl rfl rfl (by simp [maxLen]) (by intro p hp;simp at hp;subst hp;rfl))
 have HO1:=Lib.hid (hO.ext hE1)
 have HB1:=Lib.hid (hs_ext hE1 hb)
 have HS:=Lib.hid h
 have HE1:=Lib.hid (h.ext.trans hE1)
 have hln:(symsL.take k).length≤1000000:=by rw [List.length_take];have:symsL.length=21:=rfl;omega
 have HTK:Hid (symsL.take (k+1)=symsL.take k++[x]):=Lib.hid (by rw [List.take_add_one,hk];rfl)
 have HSZ:Hid (ob+1≤w1.heap.size):=Lib.hid (Array.getElem?_eq_some_iff.1 HB1.out).1
 obtain ⟨m,hm⟩:∃m,m=(symsL.take k).length:=⟨_,rfl⟩
 have HM:=Lib.hid hm
 rw [←hm] at b0 HO1 HB1
 clear h hb hO hE1 hk hm
 go_enter Tryz.func143,Tryz.ntmps143
 go_wp2_with (
  at_builtin
  rw [←hw1,←hxb]
  refine wpList_appG (E:=elSy) (T:=127) rfl 124 (.tmp 9) (.tmp 15) rfl rfl rfl Tryz.underlying124 infSy rfl (by decide) (by decide) HO1.out HSZ.out (fun c h=>absurd h id) hln (M:=[x]) (by simp) HLS.out ?_
  intro v2 w2 o2 g2 k2
  obtain ⟨va2,vc2,rfl,-,-⟩:=id o2.slice
  obtain ⟨m2,hm2⟩:∃m2,m2=(symsL.take k++[x]).length:=⟨_,rfl⟩
  rw [←hm2] at o2 k2
  rw [←hm2]
  clear hm2
  have hb2:=(g2.block ob HSZ.out (fun e=>by have:=(HO1.out.lt ob e.symm).1;omega)).trans HB1.out
  have HE2:=Lib.hid (Ext.grown HE1.out g2 (fun c hc=>by have:=(HO1.out.lt c hc).1;have:=HS.out.sz;omega))
  have c0:w2.cell? ⟨ob,0,none⟩=some (.slice va m vc):=by rw [cellc hb2];rfl
  have f0:w2.frozen? ⟨ob,0,none⟩=false:=frozenc hb2
  have HI2:Hid (SyI w0 (w2.setCell ⟨ob,0,none⟩ (.slice va2 m2 vc2)) ob (k+1)):=Lib.hid ⟨HE2.out.setCell HS.out.sz _,HS.out.sz,_,by rw [heap_setCell_same w2 ob 0 _ _ _ hb2];rfl,by rw [HTK.out];exact o2.keep (fun c hc=>heap_setCell_other _ _ _ _ (by have:=(o2.lt c hc).1;show c≠ob;omega)) (fun c h=>absurd h id) (fun c h=>absurd h id)⟩
  clear o2 g2 k2 hb2)
 go_end0
 exact ⟨rfl,HI2.out⟩
theorem symbols_any {w:World}:Calls Tryz.prog 135 #[] w fun e w'=>∃a cap,e=.returned (.slice a 21 cap)∧Ext w w'∧LsG elSy w' (fun _=>True) (.slice a 21 cap) symsL:=by
 obtain ⟨ob,w1,hob,hw1,HB,hE1⟩:=box_new w (.cells #[.slice none 0 0] 124)
 have HS:Hid (SyI w w1 ob 0):=Lib.hid ⟨hE1,by rw [hob];exact Nat.le_refl _,_,HB.out,OwnG.nil⟩
 have hmf:∀(fn:Fn) (first cap:Array Value) (w:World),(Instr.makeFunc fn first cap).run Tryz.prog w=.ok (.func fn first cap) w:=fun _ _ _ _=>rfl
 clear hE1 HB
 go_enter Tryz.func135,Tryz.ntmps135
 go_upto_region 4 with fail
 rw [←hw1,←hob]
 clear hw1 hob
 go_wp2_with fail
 refine (sym1_any (x:=(⟨#[112,97,105,114]⟩,2,2,1)) HS.out rfl).mono ?_
 rintro e w2 ⟨rfl,hS⟩
 have HS:=Lib.hid hS
 clear hS
 go_wp2_with fail
 refine (sym1_any (x:=(⟨#[101,110,99]⟩,2,2,1)) HS.out rfl).mono ?_
 rintro e w2 ⟨rfl,hS⟩
 have HS:=Lib.hid hS
 clear hS
 go_wp2_with fail
 refine (sym1_any (x:=(⟨#[97,101,110,99]⟩,2,2,1)) HS.out rfl).mono ?_
 rintro e w2 ⟨rfl,hS⟩
 have HS:=Lib.hid hS
 clear hS
 go_wp2_with fail
 refine (sym1_any (x:=(⟨#[112,107]⟩,1,1,1)) HS.out rfl).mono ?_
 rintro e w2 ⟨rfl,hS⟩
 have HS:=Lib.hid hS
 clear hS
 go_wp2_with fail
 refine (sym1_any (x:=(⟨#[115,105,103,110]⟩,2,2,1)) HS.out rfl).mono ?_
 rintro e w2 ⟨rfl,hS⟩
 have HS:=Lib.hid hS
 clear hS
 go_wp2_with fail
 refine (sym1_any (x:=(⟨#[104,97,115,104]⟩,1,1,1)) HS.out rfl).mono ?_
 rintro e w2 ⟨rfl,hS⟩
 have HS:=Lib.hid hS
 clear hS
 go_wp2_with fail
 refine (sym1_any (x:=(⟨#[120,111,114]⟩,2,8,1)) HS.out rfl).mono ?_
 rintro e w2 ⟨rfl,hS⟩
 have HS:=Lib.hid hS
 clear hS
 go_wp2_with fail
 refine (sym1_any (x:=(⟨#[122,101,114,111]⟩,0,0,1)) HS.out rfl).mono ?_
 rintro e w2 ⟨rfl,hS⟩
 have HS:=Lib.hid hS
 clear hS
 go_wp2_with fail
 refine (sym1_any (x:=(⟨#[101,120,112]⟩,2,2,1)) HS.out rfl).mono ?_
 rintro e w2 ⟨rfl,hS⟩
 have HS:=Lib.hid hS
 clear hS
 go_wp2_with fail
 refine (sym1_any (x:=(⟨#[109,117,108]⟩,2,8,1)) HS.out rfl).mono ?_
 rintro e w2 ⟨rfl,hS⟩
 have HS:=Lib.hid hS
 clear hS
 go_wp2_with fail
 refine (sym1_any (x:=(⟨#[105,110,118]⟩,1,1,1)) HS.out rfl).mono ?_
 rintro e w2 ⟨rfl,hS⟩
 have HS:=Lib.hid hS
 clear hS
 go_wp2_with fail
 refine (sym1_any (x:=(⟨#[111,110,101]⟩,0,0,1)) HS.out rfl).mono ?_
 rintro e w2 ⟨rfl,hS⟩
 have HS:=Lib.hid hS
 clear hS
 go_wp2_with fail
 refine (sym1_any (x:=(⟨#[115,107]⟩,1,1,2)) HS.out rfl).mono ?_
 rintro e w2 ⟨rfl,hS⟩
 have HS:=Lib.hid hS
 clear hS
 go_wp2_with fail
 refine (sym1_any (x:=(⟨#[115,104,107]⟩,2,2,2)) HS.out rfl).mono ?_
 rintro e w2 ⟨rfl,hS⟩
 have HS:=Lib.hid hS
 clear hS
 go_wp2_with fail
 refine (sym1_any (x:=(⟨#[110,101,119]⟩,1,8,2)) HS.out rfl).mono ?_
 rintro e w2 ⟨rfl,hS⟩
 have HS:=Lib.hid hS
 clear hS
 go_wp2_with fail
 refine (sym1_any (x:=(⟨#[102,115,116]⟩,1,1,3)) HS.out rfl).mono ?_
 rintro e w2 ⟨rfl,hS⟩
 have HS:=Lib.hid hS
 clear hS
 go_wp2_with fail
 refine (sym1_any (x:=(⟨#[115,110,100]⟩,1,1,3)) HS.out rfl).mono ?_
 rintro e w2 ⟨rfl,hS⟩
 have HS:=Lib.hid hS
 clear hS
 go_wp2_with fail
 refine (sym1_any (x:=(⟨#[100,101,99]⟩,2,2,3)) HS.out rfl).mono ?_
 rintro e w2 ⟨rfl,hS⟩
 have HS:=Lib.hid hS
 clear hS
 go_wp2_with fail
 refine (sym1_any (x:=(⟨#[97,100,101,99]⟩,2,2,3)) HS.out rfl).mono ?_
 rintro e w2 ⟨rfl,hS⟩
 have HS:=Lib.hid hS
 clear hS
 go_wp2_with fail
 refine (sym1_any (x:=(⟨#[111,112,101,110]⟩,2,2,3)) HS.out rfl).mono ?_
 rintro e w2 ⟨rfl,hS⟩
 have HS:=Lib.hid hS
 clear hS
 go_wp2_with fail
 refine (sym1_any (x:=(⟨#[114,101,97,100]⟩,1,1,3)) HS.out rfl).mono ?_
 rintro e w2 ⟨rfl,hS⟩
 have HS:=Lib.hid hS
 clear hS
 obtain ⟨v,hb,hO⟩:=HS.out.box
 obtain ⟨va,vc,rfl,-,-⟩:=id hO.slice
 have b0:w2.cell? ⟨ob,0,none⟩=some (.slice va 21 vc):=by rw [cellc hb];rfl
 have HL:Hid (LsG elSy w2 (fun _=>True) (.slice va 21 vc) symsL):=Lib.hid hO.any
 clear hb hO
 go_wp2_with fail
 go_ret
 exact ⟨va,vc,rfl,HS.out.ext,HL.out⟩

theorem set4s_box {w:World} {g T:Nat} {a b c d:Value} (a' b' c' d':Value) (h:w.heap[g]?=some (.cells #[a,b,c,d] T)) :
 ((((w.setCell ⟨g,0,none⟩ a').setCell ⟨g,1,none⟩ b').setCell ⟨g,2,none⟩ c').setCell ⟨g,3,none⟩ d').heap[g]?=some (.cells #[a',b',c',d'] T) ∧
   ∀W,Ext W w→W.heap.size≤g→Ext W ((((w.setCell ⟨g,0,none⟩ a').setCell ⟨g,1,none⟩ b').setCell ⟨g,2,none⟩ c').setCell ⟨g,3,none⟩ d'):=by
 refine ⟨?_,fun W hE hW=>(((hE.setCell hW _).setCell hW _).setCell hW _).setCell hW _⟩
 have h1:=heap_setCell_same w g 0 _ _ a' h
 have h5:=heap_setCell_same _ g 1 _ _ b' h1
 have h6:=heap_setCell_same _ g 2 _ _ c' h5
 have h7:=heap_setCell_same _ g 3 _ _ d' h6
 rw [h7];simp
theorem checkA_any {w:World} {n:ByteArray} {s:Int} {v:Value}:Calls Tryz.prog 84 #[.agg #[.int .i64 2,.string n,.int .i64 s,v]] w fun e w'=>e=.returned (.int .i64 0)∧Ext w w':=by
 obtain ⟨bx,w1,hbx,hw1,HB,hE1⟩:=box_new w (.cells #[.int .i64 2,.string n,.int .i64 s,v] 33)
 have b0:w1.cell? ⟨bx,0,none⟩=some (.int .i64 2):=by rw [cellc HB.out];rfl
 have HE1:=Lib.hid hE1
 clear hE1
 go_enter Tryz.func84,Tryz.ntmps84
 go_upto_region 1 with fail
 rw [←hw1,←hbx]
 clear hw1 hbx
 go_wp2_with fail
 go_ret
 exact ⟨rfl,HE1.out⟩

theorem normalA_any {w:World} {n:ByteArray} {s:Int} {a:Option Addr} {c:Nat}:Calls Tryz.prog 49 #[.agg #[.int .i64 2,.string n,.int .i64 s,.slice a 0 c]] w fun e w'=>e=.returned (.tuple #[.agg #[.int .i64 2,.string n,.int .i64 s,.slice a 0 c],.int .i64 0])∧Ext w w':=by
 obtain ⟨bx,w1,hbx,hw1,HB,hE1⟩:=box_new w (.cells #[.int .i64 2,.string n,.int .i64 s,.slice a 0 c] 33)
 obtain ⟨rb,w2,hrb,hw2,HR,hE2⟩:=box_new w1 (.cells #[.int .i64 0,.string ⟨#[]⟩,.int .i64 0,.slice none 0 0] 33)
 have hrb1:rb=bx+1:=by rw [hrb,hw1,World.size_alloc,hbx]
 have hb2:=hs_ext hE2 HB.out
 obtain ⟨b0,b1,b2,b3⟩:=box4r hb2
 obtain ⟨r0,r1,r2,r3⟩:=box4r HR.out
 have f0:w2.frozen? ⟨rb,0,none⟩=false:=frozenc HR.out
 have f1:w2.frozen? ⟨rb,1,none⟩=false:=frozenc HR.out
 have f2:w2.frozen? ⟨rb,2,none⟩=false:=frozenc HR.out
 have f3:w2.frozen? ⟨rb,3,none⟩=false:=frozenc HR.out
 have HE2:=Lib.hid (hE1.trans hE2)
 have HRS:Hid (w.heap.size≤rb):=Lib.hid (by rw [hrb1,hbx];omega)
 clear hE1 hE2 hb2
 go_enter Tryz.func49,Tryz.ntmps49
 go_upto_region 1 with fail
 rw [←hw1,←hbx,←hw2,←hrb1]
 clear hw1 hbx hw2 hrb1 hrb
 go_wp2_with fail
 refine ret_term2 (g:=rb) rfl rfl (set4s_box _ _ _ _ HR.out).1 rfl ?_
 exact ⟨rfl,(set4s_box _ _ _ _ HR.out).2 _ HE2.out HRS.out⟩
end Go.Proofs.YtclijngnoepbiaaGreat
