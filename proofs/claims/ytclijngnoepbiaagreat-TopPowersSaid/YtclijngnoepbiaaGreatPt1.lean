/- Products of atoms: memory, order; validity. Contracts: Valid of products of atoms, in the reference and in the program. Products: a power added, powers, products; plain. -/
import Derived.Test.YtclijngnoepbiaaGreatH1
import Derived.Test.YtclijngnoepbiaaGreatPX
import Derived.Test.YtclijngnoepbiaaGreatG6
import Derived.Test.YtclijngnoepbiaaGreatG4
set_option maxRecDepth 100000
set_option maxHeartbeats 8000000
namespace Go.Proofs.YtclijngnoepbiaaGreat
open Go Go.RowKit
set_option linter.unusedVariables false
set_option linter.unusedSimpArgs false

/-- the name of an atom -/
def ltr (i:Nat):ByteArray:=⟨#[UInt8.ofNat (97+i)]⟩
def atmT (i:Nat):Tm:=.mk 2 (ltr i) 2 []
def atmV (i:Nat):Value:=.agg #[.int .i64 2,.string (ltr i),.int .i64 2,.slice none 0 0]
/-- a power of an atom -/
abbrev Pw:=Nat × Int
def pwC (x:Pw):List Value:=[.int .i64 2,.string (ltr x.1),.int .i64 2,.slice none 0 0,.int .i64 x.2]
def elPw:Elm Pw where
 n:=5
 R w S x cs:=cs=pwC x∧x.1<6∧I64 x.2
 len:=by rintro w S x cs ⟨rfl,-⟩;rfl
 one:=by
  rintro w S x cs ⟨rfl,-⟩ u hu
  simp [pwC] at hu
  rcases hu with rfl | rfl | rfl | rfl | rfl<;>rfl
 keep:=by rintro w w' S S' x cs ⟨rfl,h1,h2⟩ _ _;exact ⟨rfl,h1,h2⟩
/-- the power of an atom in a product -/
def cf:List Pw→Nat→Int
 | [],_=>0
 | p :: L,i=>if p.1=i then p.2 else cf L i
/-- products: ascending, no power is zero -/
structure Good (L:List Pw):Prop where
 asc:L.Pairwise (fun p q=>p.1<q.1)
 six:∀p∈L,p.1<6
 nz:∀p∈L,p.2≠0
def Rng (M:Int) (L:List Pw):Prop:=∀p∈L,-M≤p.2∧p.2≤M
theorem Good.nil:Good []:=⟨List.Pairwise.nil,fun p h=>by simp at h,fun p h=>by simp at h⟩
theorem Good.tail {p:Pw} {L:List Pw} (h:Good (p :: L)):Good L:=⟨(List.pairwise_cons.1 h.asc).2,fun q hq=>h.six q (by simp [hq]),fun q hq=>h.nz q (by simp [hq])⟩
theorem cf_out {L:List Pw} {i:Nat} (h:∀p∈L,p.1≠i):cf L i=0:=by
 induction L with
 | nil=>rfl
 | cons p L ih=>rw [cf,if_neg (h p (by simp))];exact ih (fun q hq=>h q (by simp [hq]))
theorem Good.uniq:∀{L M:List Pw},Good L→Good M→(∀i,cf L i=cf M i)→L=M
 | [],[],_,_,_=>rfl
 | [],q :: M,_,h,e=>by
   exfalso
   have:=e q.1
   rw [cf,cf,if_pos rfl] at this
   exact h.nz q (by simp) this.symm
 | p :: L,[],h,_,e=>by
   exfalso
   have:=e p.1
   rw [cf,cf,if_pos rfl] at this
   exact h.nz p (by simp) this
 | p :: L,q :: M,h,k,e=>by
   have h1:=(List.pairwise_cons.1 h.asc).1
   have k1:=(List.pairwise_cons.1 k.asc).1
   have e1:=e p.1
   have e2:=e q.1
   rw [cf,cf,if_pos rfl] at e1
   rw [cf,cf] at e2
   rw [if_pos (show q.1=q.1 from rfl)] at e2
   have hpq:p.1=q.1:=by
    by_cases hlt:p.1<q.1
    · rw [if_neg (by omega),cf_out (fun r hr=>by have:=k1 r hr;omega)] at e1
      exact absurd e1 (h.nz p (by simp))
    · by_cases hgt:q.1<p.1
      · rw [if_neg (by omega),cf_out (fun r hr=>by have:=h1 r hr;omega)] at e2
        exact absurd e2.symm (k.nz q (by simp))
      · omega
   rw [if_pos hpq.symm] at e1
   have hp:p=q:=Prod.ext hpq e1
   subst hp
   rw [Good.uniq h.tail k.tail (fun i=>by
    by_cases hi:p.1=i
    · subst hi
      rw [cf_out (fun r hr=>by have:=h1 r hr;omega),cf_out (fun r hr=>by have:=k1 r hr;omega)]
    · have:=e i
      rw [cf,cf,if_neg hi,if_neg hi] at this
      exact this)]
theorem Good.len {L:List Pw} (h:Good L):L.length≤6:=by
 have:∀(M:List Pw) (n:Nat),M.Pairwise (fun p q=>p.1<q.1)→(∀p∈M,p.1<6)→(∀p∈M,n≤p.1)→n≤6→M.length+n≤6:=by
  intro M
  induction M with
  | nil=>intro n _ _ _ h;simpa using h
  | cons p M ih =>
    intro n h1 h2 h3 h4
    obtain ⟨g1,g2⟩:=List.pairwise_cons.1 h1
    have:=ih (p.1+1) g2 (fun q hq=>h2 q (by simp [hq])) (fun q hq=>g1 q hq) (h2 p (by simp))
    have:=h3 p (by simp)
    rw [List.length_cons]
    omega
 exact this L 0 h.asc h.six (fun p _=>Nat.zero_le _) (by omega)
theorem pwAt {w:World} {S:Nat→Prop} {a:Option Addr} {L:List Pw} {cap q:Nat} {x:Pw} (h:LsG elPw w S (.slice a L.length cap) L) (hq:L[q]?=some x) :
 ∃b off,a=some ⟨b,off,none⟩∧b<w.heap.size∧w.cell? ⟨b,off+q*5,none⟩=some (.int .i64 2)∧w.cell? ⟨b,off+q*5+1,none⟩=some (.string (ltr x.1))∧w.cell? ⟨b,off+q*5+2,none⟩=some (.int .i64 2)∧w.cell? ⟨b,off+q*5+3,none⟩=some (.slice none 0 0)∧w.cell? ⟨b,off+q*5+4,none⟩=some (.int .i64 x.2)∧x.1<6∧I64 x.2:=by
 obtain ⟨b,off,cs,rfl,-,hlt,⟨rfl,h6,hI⟩,hcs⟩:=h.at hq
 exact ⟨b,off,rfl,hlt,hcs 0 _ rfl,hcs 1 _ rfl,hcs 2 _ rfl,hcs 3 _ rfl,hcs 4 _ rfl,h6,hI⟩
theorem atm_w {w:World} {S:Nat→Prop} (i:Nat):TmW w S none 0 (atmT i):=by
 refine ⟨?_,?_,?_,Nat.le_refl _,by unfold maxLen;omega,0,0,fun h=>absurd rfl h,fun j t h=>by simp [atmT,Tm.kids] at h⟩
 · show I64 2;unfold I64;omega
 · show I64 2;unfold I64;omega
 · show 1≤maxLen;unfold maxLen;omega
theorem atm_valid {i:Nat} (h:i<6):validT (atmT i)=0:=by
 have:∀i<6,validT (atmT i)=0:=by decide +kernel
 exact this i h
theorem atm_cmp {i j:Nat} (hi:i<6) (hj:j<6):cmpT (atmT i) (atmT j)=if i<j then -1 else if j<i then 1 else 0:=by
 have:∀i<6,∀j<6,cmpT (atmT i) (atmT j)=if i<j then -1 else if j<i then 1 else 0:=by decide +kernel
 exact this i hi j hj
theorem rvalid_atm {w:World} {i:Nat} (h:i<6):Calls Tryz.prog 32 #[atmV i] w fun e w'=>e=.returned (.int .i64 0)∧Ext w w':=by
 have:=RValid_any (w:=w) (S:=fun _=>False) (t:=atmT i) (a:=none) (cap:=0) (by show 1≤1000000;omega) (atm_w i)
 rw [atm_valid h] at this
 exact this
theorem pvalid_atm {w:World} {i:Nat} (h:i<6):Calls Tryz.prog 27 #[atmV i] w fun e w'=>e=.returned (.int .i64 0)∧Ext w w':=by
 have:=PValid_any (w:=w) (S:=fun _=>False) (t:=atmT i) (a:=none) (cap:=0) (by show 1≤1000000;omega) (atm_w i)
 rw [atm_valid h] at this
 exact this
theorem rcmp_atm {w:World} {i j:Nat} (hi:i<6) (hj:j<6):Calls Tryz.prog 50 #[atmV i,atmV j] w fun e w'=>e=.returned (.int .i64 (if i<j then -1 else if j<i then 1 else 0))∧Ext w w':=by
 have:=RCompare_any 1 w (fun _=>False) (fun _=>False) none none 0 0 (atmT i) (atmT j) (by show 1≤1;omega) (by show 1≤1000000;omega) (by show 1≤1000000;omega) (atm_w i) (atm_w j)
 rw [atm_cmp hi hj] at this
 exact this
theorem pcmp_atm {w:World} {i j:Nat} (hi:i<6) (hj:j<6):Calls Tryz.prog 42 #[atmV i,atmV j] w fun e w'=>e=.returned (.int .i64 (if i<j then -1 else if j<i then 1 else 0))∧Ext w w':=by
 have:=PCmp_any (w:=w) (S:=fun _=>False) (S':=fun _=>False) (s:=atmT i) (t:=atmT j) (a:=none) (a':=none) (cap:=0) (cap':=0) (by show 1≤1000000;omega) (by show 1≤1000000;omega) (atm_w i) (atm_w j)
 rw [atm_cmp hi hj] at this
 exact this
theorem special_atm {w:World} {i:Nat}:Calls Tryz.prog 90 #[atmV i] w fun e w'=>e=.returned (.bool false)∧Ext w w':=by
 unfold atmV
 obtain ⟨bx,w1,hbx,hw1,HX,hE1⟩:=box_new w (.cells #[.int .i64 2,.string (ltr i),.int .i64 2,.slice none 0 0] 33)
 have c0:w1.cell? ⟨bx,0,none⟩=some (.int .i64 2):=by rw [cellc HX.out];rfl
 go_enter Tryz.func90,Tryz.ntmps90
 go_upto_region 1 with fail
 rw [←hw1,←hbx]
 clear hw1 hbx
 go_wp2_with fail
 go_ret
 exact ⟨rfl,hE1⟩
theorem symbol_atm {w:World} {i:Nat}:Calls Tryz.prog 40 #[atmV i] w fun e w'=>e=.returned (.bool false)∧Ext w w':=by
 unfold atmV
 obtain ⟨bx,w1,hbx,hw1,HX,hE1⟩:=box_new w (.cells #[.int .i64 2,.string (ltr i),.int .i64 2,.slice none 0 0] 33)
 have c0:w1.cell? ⟨bx,0,none⟩=some (.int .i64 2):=by rw [cellc HX.out];rfl
 go_enter Tryz.func40,Tryz.ntmps40
 go_upto_region 1 with fail
 rw [←hw1,←hbx]
 clear hw1 hbx
 go_wp2_with fail
 go_ret
 exact ⟨rfl,hE1⟩

theorem Good.lt {L:List Pw} (h:Good L) {q:Nat} {x y:Pw} (hx:L[q]?=some x) (hy:L[q+1]?=some y):x.1<y.1:=by
 obtain ⟨h1,rfl⟩:=List.getElem?_eq_some_iff.1 hx
 obtain ⟨h2,rfl⟩:=List.getElem?_eq_some_iff.1 hy
 exact List.pairwise_iff_getElem.1 h.asc q (q+1) h1 h2 (by omega)
theorem RValidP_any {w:World} {S:Nat→Prop} {a:Option Addr} {cap:Nat} {L:List Pw} (hL:LsG elPw w S (.slice a L.length cap) L) (hG:Good L) (hR:Rng 1000 L) :
 Calls Tryz.prog 55 #[.slice a L.length cap] w fun e w'=>e=.returned (.int .i64 0)∧Ext w w':=by
 obtain ⟨-,hl,hc⟩:=hL.len
 unfold maxLen at hc
 have h6:=hG.len
 have HL:=Lib.hid hL
 have HG:=Lib.hid hG
 have HR:=Lib.hid hR
 have hl2:¬(200:Int)<(L.length:Int):=by omega
 clear hL hG hR
 go_enter Tryz.func55,Tryz.ntmps55
 go_upto_region 4 with fail
 go_loopw [3,4] (fun iv _ wr=>∃q:Nat,iv=.int .i64 q∧q≤L.length∧Hid (Ext w wr)) (fun iv _ _=>L.length-(intOf iv).toNat)
 case atStart=>exact ⟨0,rfl,by omega,Lib.hid (Ext.refl _)⟩
 case round =>
  obtain ⟨q,rfl,hq,HE⟩:=hrel
  by_cases hlt:q<L.length
  · have hqi:(q:Int)<(L.length:Int):=by omega
    have hq0:(0:Int)≤(q:Int):=by omega
    obtain ⟨x,hx⟩:∃x,L[q]?=some x:=⟨_,List.getElem?_eq_getElem hlt⟩
    have HX:=Lib.hid hx
    obtain ⟨b,off,rfl,hb,p0,p1,p2,p3,p4,hx6,hI⟩:=pwAt (HL.out.ext HE.out) hx
    have hxr:=HR.out x (List.mem_of_getElem? hx)
    have hxn:=HG.out.nz x (List.mem_of_getElem? hx)
    have n1:(x.2==(0:Int))=false:=beq_eq_false_iff_ne.2 hxn
    have n2:¬x.2 < -1000:=by omega
    have n3:¬(1000:Int)<x.2:=by omega
    have HV:=Lib.hid (rvalid_atm (w:=wr) hx6)
    have HS:=Lib.hid (fun (w':World)=>special_atm (w:=w') (i:=x.1))
    unfold atmV at HV HS
    clear hx hxr hxn
    go_upto_region 6 with fail
    go_wp2_with fail
    refine HV.out.mono ?_
    rintro e w2 ⟨rfl,hE2⟩
    obtain ⟨p0,p1,p2,p3,p4⟩:=cs_e5 hE2 ⟨p0,p1,p2,p3,p4⟩
    have HE2:=Lib.hid (HE.out.trans hE2)
    clear hE2
    go_wp2_with fail
    refine (HS.out w2).mono ?_
    rintro e w3 ⟨rfl,hE3⟩
    obtain ⟨p0,p1,p2,p3,p4⟩:=cs_e5 hE3 ⟨p0,p1,p2,p3,p4⟩
    have HE3:=Lib.hid (HE2.out.trans hE3)
    clear hE3
    go_upto_region 13 with fail
    cases q with
    | zero =>
      have g0:decide ((0:Int)<((0:Nat):Int))=false:=by decide
      refine wp_region_reg 17 false (by kernel_rfl) (by kernel_rfl) ?_
      refine reg_value (fun _=>rfl) ?_ (fun g w' vs hM hE hP=>?_) ?_
      rotate_left
      · (clear hP hM;go_simp;first | done | rfl)
      refine reg_value (fun _=>rfl) ?_ (fun g w' vs hM hE hP=>?_) ?_
      rotate_left
      · (clear hP hM;go_simp;first | done | rfl)
      refine reg_value (fun _=>rfl) ?_ (fun g w' vs hM hE hP=>?_) ?_
      rotate_left
      · (clear hP hM;go_simp;first | done | rfl)
      refine reg_skip (fun g=>by go_simp;first | done | (intro h;cases h) | simp [undef]) ?_
      refine reg_skip (fun g=>by go_simp;first | done | (intro h;cases h) | simp [undef]) ?_
      refine reg_skip (fun g=>by go_simp;first | done | (intro h;cases h) | simp [undef]) ?_
      refine reg_skip (fun g=>by go_simp;first | done | (intro h;cases h) | simp [undef]) ?_
      refine reg_skip (fun g=>by go_simp;first | done | (intro h;cases h) | simp [undef]) ?_
      refine reg_skip (fun g=>by go_simp;first | done | (intro h;cases h) | simp [undef]) ?_
      refine reg_skip (fun g=>by go_simp;first | done | (intro h;cases h) | simp [undef]) ?_
      refine reg_skip (fun g=>by go_simp;first | done | (intro h;cases h) | simp [undef]) ?_
      refine reg_skip (fun g=>by go_simp;first | done | (intro h;cases h) | simp [undef]) ?_
      refine reg_skip (fun g=>by go_simp;first | done | (intro h;cases h) | simp [undef]) ?_
      refine reg_skip (fun g=>by go_simp;first | done | (intro h;cases h) | simp [undef]) ?_
      refine reg_skip (fun g=>by go_simp;first | done | (intro h;cases h) | simp [undef]) ?_
      refine reg_skip (fun g=>by go_simp;first | done | (intro h;cases h) | simp [undef]) ?_
      refine reg_value (fun _=>rfl) ?_ (fun g w' vs hM hE hP=>?_) ?_
      rotate_left
      · (clear hP hM;go_simp;first | done | rfl)
      intro g wn hEn hFn hQn
      simp only [List.drop_succ_cons,List.drop_zero,Act.put,List.setIfInBounds_toArray,List.set_cons_succ,List.set_cons_zero]
      have HEn:=Lib.hid (HE3.out.trans hEn)
      clear hEn hFn hQn
      go_wp2_with fail
      go_roundw
      case rel=>exact ⟨0+1,by go_num,by omega,HEn⟩
      case measure=>simp [intOf];omega
    | succ q =>
      obtain ⟨y,hy⟩:∃y,L[q]?=some y:=⟨_,List.getElem?_eq_getElem (by omega)⟩
      have hyx:=HG.out.lt hy HX.out
      obtain ⟨b',off',e1,-,r0,r1,r2,r3,r4,hy6,-⟩:=pwAt (HL.out.ext HE3.out) hy
      cases e1
      have hwr:IntKind.i64.wrap (q:Int)=(q:Int):=by rw [IntKind.wrap_i64];omega
      have hqq0:(0:Int)≤(q:Int):=by omega
      have hqs0:(0:Int)≤(q:Int)+1:=by omega
      have hqs1:(q:Int)+1<(L.length:Int):=by omega
      have hqq1:(q:Int)<(L.length:Int):=by omega
      have g0:(0:Int)<((q+1:Nat):Int):=by omega
      have HCM:=Lib.hid (fun (w':World)=>rcmp_atm (w:=w') hy6 hx6)
      rw [if_pos hyx] at HCM
      clear hqi hq0
      unfold atmV at HCM
      clear hy hyx
      have HFCT:=Lib.hid (And.intro p0 (And.intro p1 (And.intro p2 (And.intro p3 (And.intro r0 (And.intro r1 (And.intro r2 r3)))))))
      refine wp_region_reg 17 false (by kernel_rfl) (by kernel_rfl) ?_
      refine reg_value (fun _=>rfl) ?_ (fun g w' vs hM hE hP=>?_) ?_
      rotate_left
      · (clear hP hM;go_simp;first | done | rfl)
      refine reg_value (fun _=>rfl) ?_ (fun g w' vs hM hE hP=>?_) ?_
      rotate_left
      · (clear hP hM;go_simp;first | done | rfl)
      refine reg_value (fun _=>rfl) ?_ (fun g w' vs hM hE hP=>?_) ?_
      rotate_left
      · (clear hP hM;go_simp;first | done | rfl)
      refine reg_value (fun g=>by go_simp) ?_ (fun g w' vs hM hE hP=>?_) ?_
      rotate_left
      · (clear hP hM;go_simp;first | done | rfl)
      refine reg_value (fun g=>by go_simp) ?_ (fun g w' vs hM hE hP=>?_) ?_
      rotate_left
      · (clear hP hM;go_simp;first | done | rfl)
      refine reg_value (fun g=>by go_simp) ?_ (fun g w' vs hM hE hP=>?_) ?_
      rotate_left
      · (clear hP hM;go_simp;first | done | rfl)
      refine reg_value (fun g=>by go_simp) ?_ (fun g w' vs hM hE hP=>?_) ?_
      rotate_left
      · (clear hP hM;go_simp;first | done | rfl)
      refine reg_value (fun g=>by go_simp) ?_ (fun g w' vs hM hE hP=>?_) ?_
      rotate_left
      · (clear hP hM;go_simp;first | done | rfl)
      refine reg_value (fun g=>by go_simp) ?_ (fun g w' vs hM hE hP=>?_) ?_
      rotate_left
      · (clear hP hM;have ⟨z0,z1,z2,z3,z4,z5,z6,z7⟩:=cs_e8 hE HFCT.out;go_simp;first | done | rfl)
      refine reg_value (fun g=>by go_simp) ?_ (fun g w' vs hM hE hP=>?_) ?_
      rotate_left
      · (clear hP hM;go_simp;first | done | rfl)
      refine reg_value (fun g=>by go_simp) ?_ (fun g w' vs hM hE hP=>?_) ?_
      rotate_left
      · (clear hP hM;go_simp;first | done | rfl)
      refine reg_value (fun g=>by go_simp) ?_ (fun g w' vs hM hE hP=>?_) ?_
      rotate_left
      · (clear hP hM;go_simp;first | done | rfl)
      refine reg_value (fun g=>by go_simp) ?_ (fun g w' vs hM hE hP=>?_) ?_
      rotate_left
      · (clear hP hM;go_simp;first | done | rfl)
      refine reg_value (fun g=>by go_simp) ?_ (fun g w' vs hM hE hP=>?_) ?_
      rotate_left
      · (clear hP hM;have ⟨z0,z1,z2,z3,z4,z5,z6,z7⟩:=cs_e8 hE HFCT.out;go_simp;first | done | rfl)
      refine reg_const (fun g=>by go_simp) 50 ?_ (fun g w' vs hM hE hP=>?_) ?_
      rotate_left
      · (clear hP hM;have ⟨z0,z1,z2,z3,z4,z5,z6,z7⟩:=cs_e8 hE HFCT.out;go_simp;first | done | exact ⟨rfl,rfl⟩ | rfl)
      apply Exists.intro
      refine And.intro (fun g w' vs hM hE hP=>?_) ?_
      · exact HCM.out w'
      refine reg_value (fun g=>by go_simp) ?_ (fun g w' vs hM hE hP=>?_) ?_
      rotate_left
      · (clear hP hM;go_simp;first | done | rfl)
      refine reg_value (fun _=>rfl) ?_ (fun g w' vs hM hE hP=>?_) ?_
      rotate_left
      · (clear hP hM;go_simp;first | done | rfl)
      intro g wn hEn hFn hQn
      simp only [List.drop_succ_cons,List.drop_zero,Act.put,List.setIfInBounds_toArray,List.set_cons_succ,List.set_cons_zero]
      have HEn:=Lib.hid (HE3.out.trans hEn)
      clear hEn hFn hQn
      go_wp2_with fail
      go_roundw
      case rel=>exact ⟨q+1+1,by go_num,by omega,HEn⟩
      case measure=>simp [intOf];omega
  · have hqi:¬(q:Int)<(L.length:Int):=by omega
    go_wp2_with fail
    go_ret
    exact ⟨rfl,HE.out⟩

def addP:List Pw→Nat→Int→List Pw
 | [],i,n=>[(i,n)]
 | p :: L,i,n=>if i<p.1 then (i,n) :: p :: L else if p.1=i then (if p.2+n=0 then L else (i,p.2+n) :: L) else p :: addP L i n
theorem addP_lt {A:List Pw} {i:Nat} {n:Int} (h:∀p∈A,p.1<i) (B:List Pw):addP (A++B) i n=A++addP B i n:=by
 induction A with
 | nil=>rfl
 | cons p A ih =>
   have:=h p (by simp)
   rw [List.cons_append,addP,if_neg (by omega),if_neg (by omega),ih (fun q hq=>h q (by simp [hq]))]
   rfl
theorem addP_ge {A:List Pw} {i:Nat} {n:Int} (h:∃p∈A,i≤p.1) (B:List Pw):addP (A++B) i n=addP A i n++B:=by
 induction A with
 | nil=>obtain ⟨p,hp,-⟩:=h;simp at hp
 | cons p A ih =>
   rw [List.cons_append,addP,addP]
   by_cases h1:i<p.1
   · rw [if_pos h1,if_pos h1];rfl
   · rw [if_neg h1,if_neg h1]
     by_cases h2:p.1=i
     · rw [if_pos h2,if_pos h2]
       split<;>rfl
     · rw [if_neg h2,if_neg h2,ih]
       · rfl
       · obtain ⟨q,hq,hge⟩:=h
         rcases List.mem_cons.1 hq with rfl | hq
         · omega
         · exact ⟨q,hq,hge⟩
theorem addP_spec {i:Nat} {n:Int} (hi:i<6) (hn:n≠0):∀{L:List Pw},Good L→Good (addP L i n)∧(∀k,cf (addP L i n) k=cf L k+(if k=i then n else 0))∧∀p∈addP L i n,p.1=i∨∃q∈L,q.1=p.1
 | [],h=>by
   refine ⟨⟨List.pairwise_singleton _ _,fun p hp=>by simp [addP] at hp;subst hp;exact hi,fun p hp=>by simp [addP] at hp;subst hp;exact hn⟩,fun k=>?_,fun p hp=>by simp [addP] at hp;subst hp;exact .inl rfl⟩
   simp only [addP,cf]
   by_cases hk:i=k
   · rw [if_pos hk,if_pos hk.symm];omega
   · rw [if_neg hk,if_neg (fun e=>hk e.symm)];omega
 | p :: L, h=>by
   have h1:=(List.pairwise_cons.1 h.asc).1
   have h6:=h.six p (by simp)
   have hz:=h.nz p (by simp)
   rw [addP]
   by_cases hlt:i<p.1
   · rw [if_pos hlt]
     refine ⟨⟨List.pairwise_cons.2 ⟨fun q hq=>?_,h.asc⟩,fun q hq=>?_,fun q hq=>?_⟩,fun k=>?_,fun q hq=>?_⟩
     · rcases List.mem_cons.1 hq with rfl | hq
       · exact hlt
       · have:=h1 q hq;show i<q.1;omega
     · rcases List.mem_cons.1 hq with rfl | hq
       · exact hi
       · exact h.six q hq
     · rcases List.mem_cons.1 hq with rfl | hq
       · exact hn
       · exact h.nz q hq
     · rw [cf]
       by_cases hk:i=k
       · subst hk
         rw [if_pos rfl,if_pos rfl,cf_out (fun q hq=>by
          rcases List.mem_cons.1 hq with rfl | hq
          · omega
          · have:=h1 q hq;omega)]
         omega
       · rw [if_neg hk,if_neg (fun e=>hk e.symm)];omega
     · rcases List.mem_cons.1 hq with rfl | hq
       · exact .inl rfl
       · exact .inr ⟨q,hq,rfl⟩
   · rw [if_neg hlt]
     by_cases he:p.1=i
     · rw [if_pos he]
       by_cases hs:p.2+n=0
       · rw [if_pos hs]
         refine ⟨h.tail,fun k=>?_,fun q hq=>.inr ⟨q,by simp [hq],rfl⟩⟩
         rw [cf]
         by_cases hk:p.1=k
         · rw [if_pos hk,if_pos (by omega),cf_out (fun q hq=>by have:=h1 q hq;omega)];omega
         · rw [if_neg hk,if_neg (by omega)];omega
       · rw [if_neg hs]
         refine ⟨⟨List.pairwise_cons.2 ⟨fun q hq=>by have:=h1 q hq;show i<q.1;omega,h.tail.asc⟩,fun q hq=>?_,fun q hq=>?_⟩,fun k=>?_,fun q hq=>?_⟩
         · rcases List.mem_cons.1 hq with rfl | hq
           · exact hi
           · exact h.six q (by simp [hq])
         · rcases List.mem_cons.1 hq with rfl | hq
           · exact hs
           · exact h.nz q (by simp [hq])
         · rw [cf,cf]
           by_cases hk:i=k
           · rw [if_pos hk,if_pos (by omega),if_pos hk.symm]
           · rw [if_neg hk,if_neg (by omega),if_neg (fun e=>hk e.symm)];omega
         · rcases List.mem_cons.1 hq with rfl | hq
           · exact .inl rfl
           · exact .inr ⟨q,by simp [hq],rfl⟩
     · rw [if_neg he]
       obtain ⟨g1,g2,g3⟩:=addP_spec hi hn h.tail
       refine ⟨⟨List.pairwise_cons.2 ⟨fun q hq=>?_,g1.asc⟩,fun q hq=>?_,fun q hq=>?_⟩,fun k=>?_,fun q hq=>?_⟩
       · rcases g3 q hq with e | ⟨r,hr,e⟩
         · omega
         · have:=h1 r hr;omega
       · rcases List.mem_cons.1 hq with rfl | hq
         · exact h6
         · exact g1.six q hq
       · rcases List.mem_cons.1 hq with rfl | hq
         · exact hz
         · exact g1.nz q hq
       · rw [cf,cf,g2]
         by_cases hk:p.1=k
         · rw [if_pos hk,if_pos hk,if_neg (by omega)];omega
         · rw [if_neg hk,if_neg hk]
       · rcases List.mem_cons.1 hq with rfl | hq
         · exact .inr ⟨q,by simp,rfl⟩
         · rcases g3 q hq with e | ⟨r,hr,e⟩
           · exact .inl e
           · exact .inr ⟨r,by simp [hr],e⟩
/-- a product multiplied by another one -/
def mulP (A B:List Pw):List Pw:=B.foldl (fun l p=>addP l p.1 p.2) A
theorem mulP_spec {A:List Pw} (hA:Good A):∀{B:List Pw},Good B→Good (mulP A B)∧∀k,cf (mulP A B) k=cf A k+cf B k:=by
 intro B
 have gen:∀(B A:List Pw),Good A→(∀p∈B,p.1<6∧p.2≠0)→B.Pairwise (fun p q=>p.1<q.1)→Good (mulP A B)∧∀k,cf (mulP A B) k=cf A k+cf B k:=by
  intro B
  induction B with
  | nil=>intro A hA _ _;exact ⟨hA,fun k=>by show cf A k=cf A k+0;omega⟩
  | cons p B ih =>
    intro A hA hB hP
    obtain ⟨b1,b2⟩:=hB p (by simp)
    obtain ⟨h1,h2⟩:=List.pairwise_cons.1 hP
    obtain ⟨g1,g2,-⟩:=addP_spec b1 b2 hA
    obtain ⟨k1,k2⟩:=ih (addP A p.1 p.2) g1 (fun q hq=>hB q (by simp [hq])) h2
    refine ⟨k1,fun k=>?_⟩
    have e:mulP A (p :: B)=mulP (addP A p.1 p.2) B:=rfl
    rw [e,k2,g2,cf]
    by_cases hk:p.1=k
    · rw [if_pos hk.symm,if_pos hk,cf_out (L:=B) (fun q hq=>by have:=h1 q hq;omega)];omega
    · rw [if_neg (fun e=>hk e.symm),if_neg hk];omega
 intro hB
 exact gen B A hA (fun p hp=>⟨hB.six p hp,hB.nz p hp⟩) hB.asc
/-- the power of a product -/
def timesP (A:List Pw) (n:Int):List Pw:=if n=0 then [] else A.map (fun p=>(p.1,n*p.2))
theorem timesP_spec {A:List Pw} (hA:Good A) (n:Int):Good (timesP A n)∧∀k,cf (timesP A n) k=n*cf A k:=by
 unfold timesP
 by_cases hn:n=0
 · rw [if_pos hn];exact ⟨Good.nil,fun k=>by rw [hn];show (0:Int)=_;omega⟩
 · rw [if_neg hn]
   refine ⟨⟨?_,fun p hp=>?_,fun p hp=>?_⟩,fun k=>?_⟩
   · rw [List.pairwise_map];exact hA.asc
   · obtain ⟨q,hq,rfl⟩:=List.mem_map.1 hp;exact hA.six q hq
   · obtain ⟨q,hq,rfl⟩:=List.mem_map.1 hp;exact Int.mul_ne_zero hn (hA.nz q hq)
   · clear hA
     induction A with
     | nil=>show (0:Int)=n*0;omega
     | cons p A ih =>
       rw [List.map_cons,cf,cf,ih]
       by_cases hk:p.1=k
       · rw [if_pos hk,if_pos hk]
       · rw [if_neg hk,if_neg hk]
theorem cf_bnd {L:List Pw} {M:Int} (hM:0≤M) (h:Rng M L) (k:Nat):-M≤cf L k∧cf L k≤M:=by
 induction L with
 | nil=>exact ⟨by show -M≤0;omega,hM⟩
 | cons p L ih =>
   rw [cf]
   split
   · exact h p (by simp)
   · exact ih (fun q hq=>h q (by simp [hq]))
theorem cf_mem {L:List Pw} (hG:Good L) {p:Pw} (hp:p∈L):cf L p.1=p.2:=by
 induction L with
 | nil=>simp at hp
 | cons q L ih =>
   rw [cf]
   rcases List.mem_cons.1 hp with rfl | hp
   · rw [if_pos rfl]
   · have:=(List.pairwise_cons.1 hG.asc).1 p hp
     rw [if_neg (by omega)]
     exact ih hG.tail hp
theorem rng_cf {L:List Pw} {M:Int} (hG:Good L) (h:∀k,-M≤cf L k∧cf L k≤M):Rng M L:=fun p hp=>by
 have:=h p.1
 rwa [cf_mem hG hp] at this
end Go.Proofs.YtclijngnoepbiaaGreat
