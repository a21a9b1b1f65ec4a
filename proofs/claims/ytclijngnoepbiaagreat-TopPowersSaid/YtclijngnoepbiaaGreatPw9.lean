/- Contract: theory.destroy at dec(enc(a, k), k). Contract: theory.Normal at dec(enc(a, k), k). Contract: theory.Rules. Contract: awake10, the example of the document. -/
import Derived.Test.YtclijngnoepbiaaGreatPw6
import Derived.Test.YtclijngnoepbiaaGreatPw8
set_option maxRecDepth 100000
set_option maxHeartbeats 8000000
namespace Go.Proofs.YtclijngnoepbiaaGreat
open Go Go.RowKit
set_option linter.unusedVariables false
set_option linter.unusedSimpArgs false

theorem tn_kid {w:World} {S:Nat→Prop} {a:Option Addr} {cap:Nat} {t k:Tm} {i:Nat} (h:TnW w S a cap t) (hi:t.kids[i]?=some k):∃b off a' cap',a=some ⟨b,off,none⟩∧w.cell? ⟨b,off+i*4,none⟩=some (.int .i64 k.kind)∧w.cell? ⟨b,off+i*4+1,none⟩=some (.string k.name)∧w.cell? ⟨b,off+i*4+2,none⟩=some (.int .i64 k.sort)∧w.cell? ⟨b,off+i*4+3,none⟩=some (.slice a' k.kids.length cap')∧TnW w S a' cap' k:=by
 obtain ⟨b,off,a',c',h1,-,-,h2,h3,h4,h5,h6⟩:=h.kid hi
 exact ⟨b,off,a',c',h1,h2,h3,h4,h5,h6⟩
theorem destroy_dec {w:World} {S:Nat→Prop} {a:Option Addr} {cap:Nat} {A K:Tm} (hK:sizeT K≤1000000) (hT:TnW w S a cap (appTm decN [appTm encN [A,K],K])) :
 Calls Tryz.prog 85 #[.agg #[.int .i64 3,.string decN,.int .i64 0,.slice a 2 cap]] w fun e w'=>∃va vc,e=.returned (.agg #[.int .i64 A.kind,.string A.name,.int .i64 A.sort,.slice va A.kids.length vc])∧Ext w w'∧TnW w' S va vc A:=by
 obtain ⟨kb,ko,ea,ec,rfl,p0,p1,p2,p3,hTE⟩:=tn_kid hT (i:=0) (k:=appTm encN [A,K]) rfl
 obtain ⟨kb',ko',ka,kc,e1,q0,q1,q2,q3,hTK⟩:=tn_kid hT (i:=1) (k:=K) rfl
 cases e1
 obtain ⟨fb,fo,aa,ac,rfl,r0,r1,r2,r3,hTA⟩:=tn_kid hTE (i:=0) (k:=A) rfl
 obtain ⟨fb',fo',la,lc,e2,s0,s1,s2,s3,hTL⟩:=tn_kid hTE (i:=1) (k:=K) rfl
 cases e2
 have p0:w.cell? ⟨kb,ko,none⟩=some (.int .i64 3):=p0
 have p1:w.cell? ⟨kb,ko+1,none⟩=some (.string encN):=p1
 have p2:w.cell? ⟨kb,ko+2,none⟩=some (.int .i64 0):=p2
 have p3:w.cell? ⟨kb,ko+3,none⟩=some (.slice (some ⟨fb,fo,none⟩) 2 ec):=p3
 have q0:w.cell? ⟨kb,ko+4,none⟩=some (.int .i64 K.kind):=q0
 have q1:w.cell? ⟨kb,ko+5,none⟩=some (.string K.name):=q1
 have q2:w.cell? ⟨kb,ko+6,none⟩=some (.int .i64 K.sort):=q2
 have q3:w.cell? ⟨kb,ko+7,none⟩=some (.slice ka K.kids.length kc):=q3
 have r0:w.cell? ⟨fb,fo,none⟩=some (.int .i64 A.kind):=r0
 have r1:w.cell? ⟨fb,fo+1,none⟩=some (.string A.name):=r1
 have r2:w.cell? ⟨fb,fo+2,none⟩=some (.int .i64 A.sort):=r2
 have r3:w.cell? ⟨fb,fo+3,none⟩=some (.slice aa A.kids.length ac):=r3
 have s0:w.cell? ⟨fb,fo+4,none⟩=some (.int .i64 K.kind):=s0
 have s1:w.cell? ⟨fb,fo+5,none⟩=some (.string K.name):=s1
 have s2:w.cell? ⟨fb,fo+6,none⟩=some (.int .i64 K.sort):=s2
 have s3:w.cell? ⟨fb,fo+7,none⟩=some (.slice la K.kids.length lc):=s3
 have HC2:Hid (2≤cap∧2≤ec):=Lib.hid ⟨hT.len,hTE.len⟩
 have hc2:=HC2.out.1
 have hc3:=HC2.out.2
 obtain ⟨bx,w1,hbx,hw1,HB,hE1⟩:=box_new w (.cells #[.int .i64 3,.string decN,.int .i64 0,.slice (some ⟨kb,ko,none⟩) 2 cap] 33)
 obtain ⟨rb,w2,hrb,hw2,HR,hE2⟩:=box_new w1 (.cells #[.int .i64 0,.string ⟨#[]⟩,.int .i64 0,.slice none 0 0] 33)
 obtain ⟨ab,w3,hab,hw3,HA,hE3⟩:=box_new w2 (.cells #[.int .i64 3,.string encN,.int .i64 0,.slice (some ⟨fb,fo,none⟩) 2 ec] 33)
 obtain ⟨cb,w4,hcb,hw4,HC,hE4⟩:=box_new w3 (.cells #[.int .i64 0,.string ⟨#[]⟩,.int .i64 0,.slice none 0 0] 33)
 have hrb1:rb=bx+1:=by rw [hrb,hw1,World.size_alloc,hbx]
 have HE2:=Lib.hid (hE1.trans hE2)
 have HE3:=Lib.hid (HE2.out.trans hE3)
 have HE4:=Lib.hid (HE3.out.trans hE4)
 have HRS:Hid (w.heap.size≤rb∧rb<ab∧ab<cb∧bx<rb∧w.heap.size≤bx):=Lib.hid (by
  have e1:=World.size_alloc
  refine ⟨by rw [hrb1,hbx];omega,?_,?_,by omega,by omega⟩
  · rw [hab,hw2,e1,hrb];omega
  · rw [hcb,hw3,e1,hab];omega)
 have HT:=Lib.hid (And.intro hTK (And.intro hTA hTL))
 have hb2:=hs_ext hE2 HB.out
 have HBX4:=Lib.hid (hs_ext (hE3.trans hE4) hb2)
 have HRB4:=Lib.hid (hs_ext (hE3.trans hE4) HR.out)
 have HAB4:=Lib.hid (hs_ext hE4 HA.out)
 obtain ⟨b0,b1,b2,b3⟩:=box4r hb2
 obtain ⟨p0,p1,p2,p3,q0,q1,q2,q3,r0,r1,r2,r3,s0,s1,s2,s3⟩:=cs_e16 HE2.out ⟨p0,p1,p2,p3,q0,q1,q2,q3,r0,r1,r2,r3,s0,s1,s2,s3⟩
 clear hE1 hE2 hT hTE hTK hTA hTL hb2
 go_enter Tryz.func85,Tryz.ntmps85
 go_upto_region 1 with fail
 rw [←hw1,←hbx,←hw2,←hrb1]
 clear hw1 hbx hw2 hrb1 hrb
 go_upto_region 2 with fail
 rw [←hw3,←hab]
 clear hw3 hab
 obtain ⟨p0,p1,p2,p3,q0,q1,q2,q3,r0,r1,r2,r3,s0,s1,s2,s3,b0,b1,b2,b3⟩:=cs_e20 hE3 ⟨p0,p1,p2,p3,q0,q1,q2,q3,r0,r1,r2,r3,s0,s1,s2,s3,b0,b1,b2,b3⟩
 go_upto_region 3 with fail
 rw [←hw4,←hcb]
 clear hw4
 have x0:=cs_ext hE4 q0
 have x1:=cs_ext hE4 q1
 have x2:=cs_ext hE4 q2
 have x3:=cs_ext hE4 q3
 have x4:=cs_ext hE4 b3
 have HS34:Hid (w3.heap.size≤cb):=Lib.hid (by rw [hcb];omega)
 have HE34:=Lib.hid hE4
 have HRB3:=Lib.hid (hs_ext hE3 HR.out)
 clear hE3 hE4 hcb
 go_upto_region 4 with fail
 go_wp2_with (refine wpList_storeT rfl (.tmp 4) (.tmp 18) rfl (g:=cb) rfl (k:=K.kind) (s:=K.sort) (n:=K.name) (ka:=ka) (kl:=K.kids.length) (kc:=kc) rfl HC.out rfl ?_)
 intro w5 h5 hoth hE5 hs5
 have HE35:=Lib.hid (hE5 w3 HE34.out HS34.out)
 have HRB5:=Lib.hid (hs_ext HE35.out HRB3.out)
 have HE5:=Lib.hid (HE3.out.trans HE35.out)
 have HIE:Hid (∀w':World,Calls Tryz.prog 116 #[.agg #[.int .i64 3,.string encN,.int .i64 0,.slice (some ⟨fb,fo,none⟩) 2 ec],.string ⟨#[101,110,99]⟩] w' fun e w''=>e=.returned (.bool true)∧Ext w' w''):=Lib.hid (fun w'=>by
  have h:=is_any (w:=w') (k:=3) (s:=0) (n:=encN) (m:=⟨#[101,110,99]⟩) (v:=.slice (some ⟨fb,fo,none⟩) 2 ec) (by unfold I64;omega)
  rw [decide_eq_true (show (3:Int)=3∧encN=⟨#[101,110,99]⟩ from ⟨rfl,rfl⟩)] at h
  exact h)
 have HSA:Hid (∀w':World,Ext w5 w'→Calls Tryz.prog 33 #[.agg #[.int .i64 K.kind,.string K.name,.int .i64 K.sort,.slice la K.kids.length lc],.agg #[.int .i64 K.kind,.string K.name,.int .i64 K.sort,.slice ka K.kids.length kc]] w' fun e w''=>e=.returned (.bool true)∧Ext w' w''):=Lib.hid (fun w' hE=>by
  have h:=same_any (w:=w') hK hK ((HT.out.2.2.ext (HE5.out.trans hE)).tm.any) ((HT.out.1.ext (HE5.out.trans hE)).tm.any)
  rw [(cmpT_zero K K).2 rfl] at h
  exact h)
 obtain ⟨c0,c1,c2,c3⟩:=box4r h5
 obtain ⟨a0,a1,a2,a3⟩:=box4r (hs_ext HE35.out HA.out)
 obtain ⟨p0,p1,p2,p3,q0,q1,q2,q3,r0,r1,r2,r3,s0,s1,s2,s3,b0,b1,b2,b3⟩:=cs_e20 HE35.out ⟨p0,p1,p2,p3,q0,q1,q2,q3,r0,r1,r2,r3,s0,s1,s2,s3,b0,b1,b2,b3⟩
 clear x0 x1 x2 x3 x4 h5 hoth hE5 hs5 hK
 go_upto_region 13 with fail
 have HFCT:=Lib.hid (And.intro a0 (And.intro a1 (And.intro a2 (And.intro a3 (And.intro s0 (And.intro s1 (And.intro s2 (And.intro s3 (And.intro c0 (And.intro c1 (And.intro c2 c3)))))))))))
 refine wp_region_reg 10 false (by kernel_rfl) (by kernel_rfl) ?_
 refine reg_value (fun _=>rfl) ?_ (fun g w' vs hM hE hP=>?_) ?_
 rotate_left
 · (clear hP hM;have ⟨z0,z1,z2,z3,z4,z5,z6,z7,z8,z9,z10,z11⟩:=cs_e12 hE HFCT.out;go_simp;first | done | rfl)
 refine reg_const (fun _=>rfl) 116 ?_ (fun g w' vs hM hE hP=>?_) ?_
 rotate_left
 · (clear hP hM;have ⟨z0,z1,z2,z3,z4,z5,z6,z7,z8,z9,z10,z11⟩:=cs_e12 hE HFCT.out;go_simp;first | done | exact ⟨rfl,rfl⟩ | rfl)
 apply Exists.intro
 refine And.intro (fun g w' vs hM hE hP=>?_) ?_
 · exact HIE.out w'
 refine reg_value (fun _=>rfl) ?_ (fun g w' vs hM hE hP=>?_) ?_
 rotate_left
 · (clear hP hM;go_simp;first | done | rfl)
 refine reg_value (fun g=>by go_simp) ?_ (fun g w' vs hM hE hP=>?_) ?_
 rotate_left
 · (clear hP hM;go_simp;first | done | rfl)
 refine reg_value (fun g=>by go_simp) ?_ (fun g w' vs hM hE hP=>?_) ?_
 rotate_left
 · (clear hP hM;have ⟨z0,z1,z2,z3,z4,z5,z6,z7,z8,z9,z10,z11⟩:=cs_e12 hE HFCT.out;go_simp;first | done | rfl)
 refine reg_value (fun g=>by go_simp) ?_ (fun g w' vs hM hE hP=>?_) ?_
 rotate_left
 · (clear hP hM;go_simp;first | done | rfl)
 refine reg_value (fun g=>by go_simp) ?_ (fun g w' vs hM hE hP=>?_) ?_
 rotate_left
 · (clear hP hM;have ⟨z0,z1,z2,z3,z4,z5,z6,z7,z8,z9,z10,z11⟩:=cs_e12 hE HFCT.out;go_simp;first | done | rfl)
 refine reg_value (fun g=>by go_simp) ?_ (fun g w' vs hM hE hP=>?_) ?_
 rotate_left
 · (clear hP hM;have ⟨z0,z1,z2,z3,z4,z5,z6,z7,z8,z9,z10,z11⟩:=cs_e12 hE HFCT.out;go_simp;first | done | rfl)
 refine reg_const (fun g=>by go_simp) 33 ?_ (fun g w' vs hM hE hP=>?_) ?_
 rotate_left
 · (clear hP hM;have ⟨z0,z1,z2,z3,z4,z5,z6,z7,z8,z9,z10,z11⟩:=cs_e12 hE HFCT.out;go_simp;first | done | exact ⟨rfl,rfl⟩ | rfl)
 apply Exists.intro
 refine And.intro (fun g w' vs hM hE hP=>?_) ?_
 · exact HSA.out w' hE
 refine reg_value (fun _=>rfl) ?_ (fun g w' vs hM hE hP=>?_) ?_
 rotate_left
 · (clear hP hM;go_simp;first | done | rfl)
 intro g wn hEn hFn hQn
 simp only [List.drop_succ_cons,List.drop_zero,Act.put,List.setIfInBounds_toArray,List.set_cons_succ,List.set_cons_zero]
 obtain ⟨p0,p1,p2,p3,q0,q1,q2,q3,r0,r1,r2,r3,s0,s1,s2,s3,b0,b1,b2,b3⟩:=cs_e20 hEn ⟨p0,p1,p2,p3,q0,q1,q2,q3,r0,r1,r2,r3,s0,s1,s2,s3,b0,b1,b2,b3⟩
 obtain ⟨a0,a1,a2,a3⟩:=cs_e4 hEn ⟨a0,a1,a2,a3⟩
 have HEn:=Lib.hid (HE5.out.trans hEn)
 have HRBn:=Lib.hid (hs_ext hEn HRB5.out)
 clear hEn hFn hQn c0 c1 c2 c3
 go_wp2_with (refine wpList_storeT rfl (.tmp 2) (.tmp 91) rfl (g:=rb) rfl (k:=A.kind) (s:=A.sort) (n:=A.name) (ka:=aa) (kl:=A.kids.length) (kc:=ac) rfl HRBn.out rfl ?_)
 intro w9 h9 hoth9 hE9 hs9
 go_wp2_with fail
 exact ret_term (g:=rb) rfl rfl h9 rfl ⟨aa,ac,rfl,hE9 w HEn.out HRS.out.1,HT.out.2.1.ext (hE9 w HEn.out HRS.out.1)⟩

def aT:Tm:=.mk 2 ⟨#[97]⟩ 0 []
def kT:Tm:=.mk 2 ⟨#[107]⟩ 3 []
def eT:Tm:=appTm encN [aT,kT]
def dT:Tm:=appTm decN [eT,kT]
def dS:ByteArray:=⟨#[100,101,99,40,101,110,99,40,97,58,97,110,121,44,32,107,58,107,101,121,41,44,32,107,58,107,101,121,41]⟩
theorem parse_d:parseP dS=(0,dT):=by decide +kernel
theorem d_valid:validT dT=0∧sizeT dT≤10:=by decide +kernel
theorem a_valid:validT aT=0∧sizeT aT≤10:=by decide +kernel
theorem okEnc:OkSym encN 2:=⟨⟨(encN,2,2,1),sym_find (by decide +kernel),by decide,by decide,by decide⟩,by decide +kernel,by decide +kernel,by decide +kernel⟩
theorem okDec:OkSym decN 2:=⟨⟨(decN,2,2,3),sym_find (by decide +kernel),by decide,by decide,by decide⟩,by decide +kernel,by decide +kernel,by decide +kernel⟩
theorem check_at {w:World} {n:ByteArray} {s:Int} {a:Option Addr} {cap:Nat}:Calls Tryz.prog 84 #[.agg #[.int .i64 2,.string n,.int .i64 s,.slice a 0 cap]] w fun e w'=>e=.returned (.int .i64 0)∧Ext w w':=checkA_any
theorem check_d {w:World} {a:Option Addr} {cap:Nat} (hT:TmW w Any a cap dT):Calls Tryz.prog 84 #[.agg #[.int .i64 3,.string decN,.int .i64 0,.slice a 2 cap]] w fun e w'=>e=.returned (.int .i64 0)∧Ext w w':=by
 refine check_node (ks:=[eT,kT]) (l:=2) okDec rfl (by omega) hT ?_
 intro k hk w' ka kc hTk
 rcases List.mem_cons.1 hk with rfl | hk
 · refine check_node (ks:=[aT,kT]) (l:=2) okEnc rfl (by omega) hTk ?_
   intro k hk w' ka kc hTk
   rcases List.mem_cons.1 hk with rfl | hk
   · exact check_at
   · rw [List.mem_singleton.1 hk];exact check_at
 · rw [List.mem_singleton.1 hk];exact check_at
theorem normal_e {w:World} {S:Nat→Prop} {a:Option Addr} {cap:Nat} (hT:TnW w S a cap eT):Calls Tryz.prog 49 #[.agg #[.int .i64 3,.string encN,.int .i64 0,.slice a 2 cap]] w (NorE w True eT):=by
 have h:=normal_node (w:=w) (S:=S) (a:=a) (cap:=cap) (l:=2) (n:=encN) (ks:=[aT,kT]) (Ns:=[aT,kT]) (Pk:=fun _=>True) (R:=True) (N:=eT) rfl rfl (by omega) (fun _=>.enc trivial) hT
  (fun k x nx hx hnx w' ka kc hTx=>by
    rw [hx] at hnx
    cases hnx
    match k,hx with
    | 0,hx=>cases hx;exact normal_atom hTx
    | 1,hx=>cases hx;exact normal_atom hTx
    | k+2,hx=>simp at hx)
 exact h.mono fun e w' h=>h.congr ⟨fun _=>trivial,fun _=>⟨fun _ _=>trivial,trivial⟩⟩
theorem normal_d {w:World} {S:Nat→Prop} {a:Option Addr} {cap:Nat} (hT:TnW w S a cap dT):Calls Tryz.prog 49 #[.agg #[.int .i64 3,.string decN,.int .i64 0,.slice a 2 cap]] w (NorE w True aT):=by
 have h:=normal_node (w:=w) (S:=S) (a:=a) (cap:=cap) (l:=2) (n:=decN) (ks:=[eT,kT]) (Ns:=[eT,kT]) (Pk:=fun _=>True) (R:=True) (N:=aT) rfl rfl (by omega)
  (fun _=>.dec trivial (fun w' S' va vc hT'=>(destroy_dec (A:=aT) (K:=kT) (by decide) hT').mono fun e w2 ⟨va,vc,he,hE,hA⟩=>by
    obtain ⟨rfl,rfl⟩:=hA.nil rfl
    exact ⟨_,he,hE,none,0,rfl,tn_atom hA.name hA.sort⟩)) hT
  (fun k x nx hx hnx w' ka kc hTx=>by
    rw [hx] at hnx
    cases hnx
    match k,hx with
    | 0,hx=>cases hx;exact normal_e hTx
    | 1,hx=>cases hx;exact normal_atom hTx
    | k+2,hx=>simp at hx)
 exact h.mono fun e w' h=>h.congr ⟨fun _=>trivial,fun _=>⟨fun _ _=>trivial,trivial⟩⟩
theorem NormalD_any {w:World} {S:Nat→Prop} {a:Option Addr} {cap:Nat} (hT:TnW w S a cap dT):Calls Tryz.prog 16 #[.agg #[.int .i64 3,.string decN,.int .i64 0,.slice a 2 cap]] w (NorE w True aT) :=
 NormalG_any (t:=dT) (fun w' hE=>ValidG_any (t:=dT) (by have:=d_valid.2;omega) d_valid.1 (hT.ext hE).tm.any (fun w2 hE2=>check_d ((hT.ext hE).ext hE2).tm.any)) (fun w' hE=>normal_d (hT.ext hE)) (fun _=>⟨a_valid.1,by have:=a_valid.2;omega⟩)

theorem tapp_raw {w:World} {n:ByteArray} {a:Option Addr} {l cap:Nat}:Calls Tryz.prog 54 #[.string n,.slice a l cap] w fun e w'=>e=.returned (.agg #[.int .i64 3,.string n,.int .i64 0,.slice a l cap])∧Ext w w':=by
 obtain ⟨rb,w1,hrb,hw1,HRB,hE1⟩:=box_new w (.cells #[.int .i64 0,.string ⟨#[]⟩,.int .i64 0,.slice none 0 0] 33)
 have HE1:=Lib.hid hE1
 have HRS:Hid (w.heap.size≤rb):=Lib.hid (by rw [hrb];exact Nat.le_refl _)
 clear hE1
 go_enter Tryz.func54,Tryz.ntmps54
 go_upto_region 1 with fail
 rw [←hw1,←hrb]
 clear hw1 hrb
 go_wp2_with (first
  | (refine wpList_buildT rfl [_,_,_] rfl [(0,.int .i64 3),(1,.string n),(3,.slice a l cap)] rfl (built_kn _ _ _ _ _) ?_)
  | ((refine wpList_storeT rfl (.tmp 4) (.tmp 7) rfl (g:=rb) rfl (k:=3) (s:=0) (n:=n) (ka:=a) (kl:=l) (kc:=cap) rfl HRB.out rfl ?_);intro w6 c6 q6 e6 z6
     have HE6:=Lib.hid (e6 w HE1.out HRS.out)
     have HG6:=Lib.hid c6
     clear c6 q6 e6 z6))
 exact ret_term (g:=rb) rfl rfl HG6.out rfl ⟨rfl,HE6.out⟩
theorem built_v (k:Int) (n:ByteArray):Tryz.prog.built 33 [(0,.int .i64 k),(1,.string n)]=some #[.int .i64 k,.string n,.int .i64 0,.slice none 0 0]:=by kernel_rfl
theorem rlx_any {w:World}:Calls Tryz.prog 51 #[] w fun e w'=>e=.returned (.agg #[.int .i64 1,.string ⟨#[120]⟩,.int .i64 0,.slice none 0 0])∧Ext w w':=by
 obtain ⟨rb,w1,hrb,hw1,HRB,hE1⟩:=box_new w (.cells #[.int .i64 0,.string ⟨#[]⟩,.int .i64 0,.slice none 0 0] 33)
 have HE1:=Lib.hid hE1
 have HRS:Hid (w.heap.size≤rb):=Lib.hid (by rw [hrb];exact Nat.le_refl _)
 clear hE1
 go_enter Tryz.func51,Tryz.ntmps51
 go_upto_region 1 with fail
 rw [←hw1,←hrb]
 clear hw1 hrb
 go_wp2_with (first
  | (refine wpList_buildT rfl [_,_] rfl [(0,.int .i64 1),(1,.string ⟨#[120]⟩)] rfl (built_v _ _) ?_)
  | ((refine wpList_storeT rfl (.tmp 0) (.tmp 1) rfl (g:=rb) rfl (k:=1) (s:=0) (n:=⟨#[120]⟩) (ka:=none) (kl:=0) (kc:=0) rfl HRB.out rfl ?_);intro w6 c6 q6 e6 z6
     have HE6:=Lib.hid (e6 w HE1.out HRS.out)
     have HG6:=Lib.hid c6
     clear c6 q6 e6 z6))
 exact ret_term (g:=rb) rfl rfl HG6.out rfl ⟨rfl,HE6.out⟩
theorem rly_any {w:World}:Calls Tryz.prog 52 #[] w fun e w'=>e=.returned (.agg #[.int .i64 1,.string ⟨#[121]⟩,.int .i64 0,.slice none 0 0])∧Ext w w':=by
 obtain ⟨rb,w1,hrb,hw1,HRB,hE1⟩:=box_new w (.cells #[.int .i64 0,.string ⟨#[]⟩,.int .i64 0,.slice none 0 0] 33)
 have HE1:=Lib.hid hE1
 have HRS:Hid (w.heap.size≤rb):=Lib.hid (by rw [hrb];exact Nat.le_refl _)
 clear hE1
 go_enter Tryz.func52,Tryz.ntmps52
 go_upto_region 1 with fail
 rw [←hw1,←hrb]
 clear hw1 hrb
 go_wp2_with (first
  | (refine wpList_buildT rfl [_,_] rfl [(0,.int .i64 1),(1,.string ⟨#[121]⟩)] rfl (built_v _ _) ?_)
  | ((refine wpList_storeT rfl (.tmp 0) (.tmp 1) rfl (g:=rb) rfl (k:=1) (s:=0) (n:=⟨#[121]⟩) (ka:=none) (kl:=0) (kc:=0) rfl HRB.out rfl ?_);intro w6 c6 q6 e6 z6
     have HE6:=Lib.hid (e6 w HE1.out HRS.out)
     have HG6:=Lib.hid c6
     clear c6 q6 e6 z6))
 exact ret_term (g:=rb) rfl rfl HG6.out rfl ⟨rfl,HE6.out⟩
theorem sizRu:(Tryz.prog.info? 91).map (·.size)=some 8:=by kernel_rfl
theorem rl3_any {w:World} {k s:Int} {n m:ByteArray} {a b:Option Addr} {l c l2 c2:Nat}:Calls Tryz.prog 53 #[.agg #[.int .i64 k,.string n,.int .i64 s,.slice a l c],.string m,.slice b l2 c2] w fun e w'=>e=.returned (.agg #[.int .i64 3,.string m,.int .i64 0,.slice b l2 c2,.int .i64 k,.string n,.int .i64 s,.slice a l c])∧Ext w w':=by
 obtain ⟨bx,w1,hbx,hw1,HB,hE1⟩:=box_new w (.cells #[.int .i64 k,.string n,.int .i64 s,.slice a l c] 33)
 obtain ⟨rb,w2,hrb,hw2,HR,hE2⟩:=box_new w1 (.cells #[.int .i64 0,.string ⟨#[]⟩,.int .i64 0,.slice none 0 0,.int .i64 0,.string ⟨#[]⟩,.int .i64 0,.slice none 0 0] 91)
 have hrb1:rb=bx+1:=by rw [hrb,hw1,World.size_alloc,hbx]
 have HE2:=Lib.hid (hE1.trans hE2)
 have hb2:=hs_ext hE2 HB.out
 obtain ⟨b0,b1,b2,b3⟩:=box4r hb2
 have HRS:Hid (w.heap.size≤rb):=Lib.hid (by rw [hrb1,hbx];omega)
 have HAP:=Lib.hid (fun (w':World)=>tapp_raw (w:=w') (n:=m) (a:=b) (l:=l2) (cap:=c2))
 clear hE1 hE2 hb2
 go_enter Tryz.func53,Tryz.ntmps53
 go_upto_region 1 with fail
 rw [←hw1,←hbx,←hw2,←hrb1]
 clear hw1 hbx hw2 hrb1 hrb
 have HFCT:=Lib.hid (And.intro b0 (And.intro b1 (And.intro b2 b3)))
 refine wp_region_reg 5 false (by kernel_rfl) (by kernel_rfl) ?_
 refine reg_value (fun _=>rfl) ?_ (fun g w' vs hM hE hP=>?_) ?_
 rotate_left
 · (clear hP hM;go_simp;first | done | rfl)
 refine reg_value (fun _=>rfl) ?_ (fun g w' vs hM hE hP=>?_) ?_
 rotate_left
 · (clear hP hM;go_simp;first | done | rfl)
 refine reg_const (fun _=>rfl) 54 ?_ (fun g w' vs hM hE hP=>?_) ?_
 rotate_left
 · (clear hP hM;have ⟨z0,z1,z2,z3⟩:=cs_e4 hE HFCT.out;go_simp;first | done | exact ⟨rfl,rfl⟩ | rfl)
 apply Exists.intro
 refine And.intro (fun g w' vs hM hE hP=>?_) ?_
 · exact HAP.out w'
 refine reg_value (fun _=>rfl) ?_ (fun g w' vs hM hE hP=>?_) ?_
 rotate_left
 · (clear hP hM;have ⟨z0,z1,z2,z3⟩:=cs_e4 hE HFCT.out;go_simp;first | done | rfl)
 refine reg_value (fun _=>rfl) ?_ (fun g w' vs hM hE hP=>?_) ?_
 rotate_left
 · (clear hP hM;go_simp;first | done | rfl)
 intro g wn hEn hFn hQn
 simp only [List.drop_succ_cons,List.drop_zero,Act.put,List.setIfInBounds_toArray,List.set_cons_succ,List.set_cons_zero]
 have HRn:=Lib.hid (hs_ext hEn HR.out)
 have HEn:=Lib.hid (HE2.out.trans hEn)
 clear hEn hFn hQn b0 b1 b2 b3
 refine wpList_store_all rfl 91 (.tmp 6) (.tmp 11) rfl rb _ rfl rfl 91 _ HRn.out sizRu rfl (by simp [Value.oneCell']) ?_
 have hz:=setRow_heap wn rb _ #[.int .i64 3,.string m,.int .i64 0,.slice b l2 c2,.int .i64 k,.string n,.int .i64 s,.slice a l c] _ _ HRn.out
 have HEz:=Lib.hid (HEn.out.setRow HRS.out #[.int .i64 3,.string m,.int .i64 0,.slice b l2 c2,.int .i64 k,.string n,.int .i64 s,.slice a l c])
 generalize World.setRow _ _ _=wz at hz HEz ⊢
 go_wp2_with fail
 exact bodyPost_ret (results_cell_row rfl _ wz rb _ _ _ _ rfl hz Tryz.underlying91 rfl sizRu) rfl ⟨rfl,HEz.out⟩
theorem rules_any {w:World}:Calls Tryz.prog 18 #[] w fun e w'=>∃a c,e=.returned (.slice a 6 c)∧Ext w w':=by
 have HX:=Lib.hid (fun (w':World)=>rlx_any (w:=w'))
 have HY:=Lib.hid (fun (w':World)=>rly_any (w:=w'))
 have HA:=Lib.hid (fun (w':World) n a l c=>tapp_raw (w:=w') (n:=n) (a:=a) (l:=l) (cap:=c))
 have HR:=Lib.hid (fun (w':World) (k s:Int) (n m:ByteArray) (a b:Option Addr) (l c l2 c2:Nat)=>rl3_any (w:=w') (k:=k) (s:=s) (n:=n) (m:=m) (a:=a) (b:=b) (l:=l) (c:=c) (l2:=l2) (c2:=c2))
 have HE:=Lib.hid (Ext.refl w)
 go_enter Tryz.func18,Tryz.ntmps18
 iterate 35
  go_wp2_with fail
  first
  | refine (HX.out _).mono ?_
  | refine (HY.out _).mono ?_
  | refine (HA.out _ _ _ _ _).mono ?_
  | refine (HR.out _ _ _ _ _ _ _ _ _ _ _).mono ?_
  rintro e w3 ⟨rfl,hE3⟩
  have HE:Hid (Ext w w3):=Lib.hid (by
   refine Ext.trans ?_ hE3
   repeat (first | exact HE.out | apply Ext.then_dr | (refine Ext.then_al ?_ _)))
  clear hE3
 go_wp2_with fail
 go_ret
 exact ⟨_,_,rfl,by repeat (first | exact HE.out | apply Ext.then_dr | (refine Ext.then_al ?_ _))⟩

theorem awake10_any {w:World}:Calls Tryz.prog 4 #[] w fun e w'=>e=.returned (.bool true)∧Ext w w':=by
 have HP:Hid (Calls Tryz.prog 15 #[.string dS] w fun e w'=>∃a cap,e=.returned (.tuple #[.agg #[.int .i64 3,.string decN,.int .i64 0,.slice a 2 cap],.int .i64 0])∧Ext w w'∧TnW w' (fun c=>w.heap.size≤c) a cap dT):=Lib.hid (by
  refine (RParse_any (w:=w) (s:=dS) (by decide)).mono ?_
  rintro e w' ⟨v,er,he,hE,h1,h2,-⟩
  rw [parse_d] at h1 h2
  obtain ⟨a,cap,hv,hT⟩:=h2 rfl
  exact ⟨a,cap,by rw [he,hv,h1];rfl,hE,hT⟩)
 go_enter Tryz.func4,Tryz.ntmps4
 unfold dS at HP
 go_wp2_with fail
 refine HP.out.mono ?_
 rintro e w1 ⟨a,cap,rfl,hE1,hT1⟩
 obtain ⟨tb,w2,htb,hw2,HB,hE2⟩:=box_new w1 (.cells #[.int .i64 3,.string decN,.int .i64 0,.slice a 2 cap] 33)
 obtain ⟨b0,b1,b2,b3⟩:=box4r HB.out
 have HN:Hid (Calls Tryz.prog 16 #[.agg #[.int .i64 3,.string decN,.int .i64 0,.slice a 2 cap]] w2 fun e w'=>e=.returned (.tuple #[.agg #[.int .i64 2,.string ⟨#[97]⟩,.int .i64 0,.slice none 0 0],.int .i64 0])∧Ext w2 w'):=Lib.hid (by
  refine (NormalD_any (hT1.ext hE2)).mono ?_
  rintro e w' (⟨-,v,rfl,hE,na,nc,rfl,hN⟩ | ⟨h,-⟩)
  · obtain ⟨rfl,rfl⟩:=hN.nil rfl
    exact ⟨rfl,hE⟩
  · exact absurd trivial h)
 have HE2:=Lib.hid (hE1.trans hE2)
 clear hE1 hE2 hT1
 go_upto_region 2 with fail
 rw [←hw2,←htb]
 clear hw2 htb
 go_wp2_with fail
 refine HN.out.mono ?_
 rintro e w3 ⟨rfl,hE3⟩
 obtain ⟨ub,w4,hub,hw4,HU,hE4⟩:=box_new w3 (.cells #[.int .i64 2,.string ⟨#[97]⟩,.int .i64 0,.slice none 0 0] 33)
 obtain ⟨u0,u1,u2,u3⟩:=box4r HU.out
 have HE4:=Lib.hid (HE2.out.trans (hE3.trans hE4))
 have HAT:=Lib.hid (fun (w':World)=>Atom_any (w:=w') (n:=⟨#[97]⟩) (k:=0) (by decide) (by unfold I64;omega))
 have HSA:Hid (∀w':World,Calls Tryz.prog 17 #[.agg #[.int .i64 2,.string ⟨#[97]⟩,.int .i64 0,.slice none 0 0],.agg #[.int .i64 2,.string ⟨#[97]⟩,.int .i64 0,.slice none 0 0]] w' fun e w''=>e=.returned (.bool true)∧Ext w' w''):=Lib.hid (fun w'=>by
  have hA:TmW w' (fun _=>True) none 0 aT:=(tn_atom (w:=w') (S:=fun _=>True) (n:=⟨#[97]⟩) (s:=0) (by decide) (by unfold I64;omega)).tm
  have h:=RSame_any (w:=w') (s:=aT) (t:=aT) (by decide) (by decide) hA hA
  rw [decide_eq_true rfl] at h
  exact h)
 have HRU:=Lib.hid (fun (w':World)=>rules_any (w:=w'))
 clear hE3 hE4 b0 b1 b2 b3
 go_upto_region 3 with fail
 rw [←hw4,←hub]
 clear hw4 hub
 have HFCT:=Lib.hid (And.intro u0 (And.intro u1 (And.intro u2 u3)))
 refine wp_region_reg 16 false (by kernel_rfl) (by kernel_rfl) ?_
 refine reg_value (fun _=>rfl) ?_ (fun g w' vs hM hE hP=>?_) ?_
 rotate_left
 · (clear hP hM;have ⟨z0,z1,z2,z3⟩:=cs_e4 hE HFCT.out;go_simp;first | done | rfl)
 refine reg_value (fun _=>rfl) ?_ (fun g w' vs hM hE hP=>?_) ?_
 rotate_left
 · (clear hP hM;have ⟨z0,z1,z2,z3⟩:=cs_e4 hE HFCT.out;go_simp;first | done | rfl)
 refine reg_value (fun _=>rfl) ?_ (fun g w' vs hM hE hP=>?_) ?_
 rotate_left
 · (clear hP hM;have ⟨z0,z1,z2,z3⟩:=cs_e4 hE HFCT.out;go_simp;first | done | rfl)
 refine reg_value (fun g=>by go_simp) ?_ (fun g w' vs hM hE hP=>?_) ?_
 rotate_left
 · (clear hP hM;go_simp;first | done | rfl)
 refine reg_value (fun g=>by go_simp) ?_ (fun g w' vs hM hE hP=>?_) ?_
 rotate_left
 · (clear hP hM;go_simp;first | done | rfl)
 refine reg_value (fun _=>rfl) ?_ (fun g w' vs hM hE hP=>?_) ?_
 rotate_left
 · (clear hP hM;have ⟨z0,z1,z2,z3⟩:=cs_e4 hE HFCT.out;go_simp;first | done | rfl)
 refine reg_value (fun _=>rfl) ?_ (fun g w' vs hM hE hP=>?_) ?_
 rotate_left
 · (clear hP hM;have ⟨z0,z1,z2,z3⟩:=cs_e4 hE HFCT.out;go_simp;first | done | rfl)
 refine reg_value (fun g=>by go_simp) ?_ (fun g w' vs hM hE hP=>?_) ?_
 rotate_left
 · (clear hP hM;have ⟨z0,z1,z2,z3⟩:=cs_e4 hE HFCT.out;go_simp;first | done | rfl)
 refine reg_const (fun g=>by go_simp) 6 ?_ (fun g w' vs hM hE hP=>?_) ?_
 rotate_left
 · (clear hP hM;have ⟨z0,z1,z2,z3⟩:=cs_e4 hE HFCT.out;go_simp;first | done | exact ⟨rfl,rfl⟩ | rfl)
 apply Exists.intro
 refine And.intro (fun g w' vs hM hE hP=>?_) ?_
 · exact HAT.out w'
 refine reg_const (fun g=>by go_simp) 17 ?_ (fun g w' vs hM hE hP=>?_) ?_
 rotate_left
 · (clear hP hM;have ⟨z0,z1,z2,z3⟩:=cs_e4 hE HFCT.out;go_simp;first | done | exact ⟨rfl,rfl⟩ | rfl)
 apply Exists.intro
 refine And.intro (fun g w' vs hM hE hP=>?_) ?_
 · exact HSA.out w'
 refine reg_value (fun _=>rfl) ?_ (fun g w' vs hM hE hP=>?_) ?_
 rotate_left
 · (clear hP hM;have ⟨z0,z1,z2,z3⟩:=cs_e4 hE HFCT.out;go_simp;first | done | rfl)
 refine reg_value (fun _=>rfl) ?_ (fun g w' vs hM hE hP=>?_) ?_
 rotate_left
 · (clear hP hM;have ⟨z0,z1,z2,z3⟩:=cs_e4 hE HFCT.out;go_simp;first | done | rfl)
 refine reg_call (fun g=>by go_simp) 18 (fun _=>#[]) (fun g w' m hM hE hP=>?_) (fun u _=>∃(a:Option Addr) (c:Nat),u=.slice a 6 c) ⟨fun _ _ _ h _=>h,(fun h=>nomatch h),fun h=>absurd rfl h⟩ (fun g w' m hM hE hP=>?_) ?_
 · clear hM hP
   go_simp
 · exact (HRU.out w').mono fun e w'' ⟨a,c,h1,h2⟩=>⟨_,h1,h2,a,c,rfl⟩
 refine reg_value (fun g=>by go_simp) (fun g=>.int .i64 6) (fun g w' vs hM hE hP=>?_) ?_
 · obtain ⟨a,c,hu⟩:=hP _ List.mem_cons_self (anc_of 3 (by kernel_rfl))
   have hu:(g 12).v=_:=hu
   clear hP hM
   go_simp
   first | done | simp [hu]
 refine reg_value (fun g=>by go_simp) ?_ (fun g w' vs hM hE hP=>?_) ?_
 rotate_left
 · (clear hP hM;have ⟨z0,z1,z2,z3⟩:=cs_e4 hE HFCT.out;go_simp;first | done | rfl)
 refine reg_value (fun _=>rfl) ?_ (fun g w' vs hM hE hP=>?_) ?_
 rotate_left
 · (clear hP hM;have ⟨z0,z1,z2,z3⟩:=cs_e4 hE HFCT.out;go_simp;first | done | rfl)
 intro g wn hEn hFn hQn
 simp only [List.drop_succ_cons,List.drop_zero,Act.put,List.setIfInBounds_toArray,List.set_cons_succ,List.set_cons_zero]
 have HEn:=Lib.hid (HE4.out.trans hEn)
 clear hEn hFn hQn u0 u1 u2 u3
 go_wp2_with fail
 go_ret
 exact ⟨rfl,HEn.out⟩
end Go.Proofs.YtclijngnoepbiaaGreat
