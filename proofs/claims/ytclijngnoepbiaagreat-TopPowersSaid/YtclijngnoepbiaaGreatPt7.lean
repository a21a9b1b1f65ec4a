/- The kit's contracts for the library, laid. Contracts: math/bits.Div64. Contracts: the remainder of a product. Contracts: the sum of the values of a row behind a column. Contracts: the value of a column that a pivot's row determines, exactly. Contracts: the value of a column that a pivot's row determines, modulo a prime. -/
import Derived.Test.YtclijngnoepbiaaGreatG1
import Derived.Test.YtclijngnoepbiaaGreatProg
import Derived.Shelf.Small.Bits
import Derived.Shelf.Small.Strs
import Derived.Shelf.Strconv.Itoa0
import Derived.Shelf.Bits.Mul64
import Derived.Test.YtclijngnoepbiaaGreatPt6
import Derived.Laws.Bits64b
import Derived.Lib.ItoaNum
set_option maxRecDepth 100000
set_option maxHeartbeats 8000000
namespace Go.Proofs
open Go.Shelf
def Tryz.lays134_ren:Go.Shelf.Ren:=⟨fun | 134=>142 | 129=>157 | n=>n,fun | 53=>147 | 3=>3 | 4=>4 | 46=>113 | 5=>5 | 9=>9 | n=>n,fun | n=>n⟩
theorem Tryz.lays134:Go.Proofs.Lays.n134 Tryz.prog Tryz.lays134_ren:={
 mixed:=by kernel_rfl
 f129:=Tryz.func157.trans (congrArg some (by kernel_rfl))
 f134:=Tryz.func142.trans (congrArg some (by kernel_rfl))
 t3:=Tryz.underlying3
 a3:=Tryz.isAgg3
 z3:=Tryz.sizeOf3
 v3:=Tryz.zeroValue3
 t4:=Tryz.underlying4
 a4:=Tryz.isAgg4
 z4:=Tryz.sizeOf4
 v4:=Tryz.zeroValue4
 t5:=Tryz.underlying5
 a5:=Tryz.isAgg5
 z5:=Tryz.sizeOf5
 v5:=Tryz.zeroValue5
 t9:=Tryz.underlying9
 a9:=Tryz.isAgg9
 z9:=Tryz.sizeOf9
 v9:=Tryz.zeroValue9
 t46:=Tryz.underlying113
 a46:=Tryz.isAgg113
 z46:=Tryz.sizeOf113
 v46:=Tryz.zeroValue113
 t53:=Tryz.underlying147
 a53:=Tryz.isAgg147
 z53:=Tryz.sizeOf147
 v53:=Tryz.zeroValue147 }
theorem Tryz.bits_LeadingZeros64 (x:Int) (w:World) (h0:0≤x) (h1:x≤18446744073709551615) :
 Calls Tryz.prog 142 #[.int .u64 x] w fun e w'=>e=.returned (.int .i64 (64-(Lib.bitLen x.toNat:Int)))∧w'=w:=Any.bits_LeadingZeros64 Tryz.lays134 x w h0 h1
def Tryz.lays264_ren:Go.Shelf.Ren:=⟨fun | 264=>132 | n=>n,fun | 53=>147 | 46=>113 | n=>n,fun | n=>n⟩
theorem Tryz.lays264:Go.Proofs.Lays.n264 Tryz.prog Tryz.lays264_ren:={
 mixed:=by kernel_rfl
 f264:=Tryz.func132.trans (congrArg some (by kernel_rfl))
 t46:=Tryz.underlying113
 a46:=Tryz.isAgg113
 z46:=Tryz.sizeOf113
 v46:=Tryz.zeroValue113
 t53:=Tryz.underlying147
 a53:=Tryz.isAgg147
 z53:=Tryz.sizeOf147
 v53:=Tryz.zeroValue147 }
open Go.RowKit Go.Lib in
theorem Tryz.bits_Mul64 (x y:Nat) (hx:x<18446744073709551616) (hy:y<18446744073709551616) (w:World) :
 Calls Tryz.prog 132 #[.int .u64 x,.int .u64 y] w fun e w'=>e=.returned (.tuple #[.int .u64 ((x*y / 18446744073709551616:Nat):Int),.int .u64 ((x*y % 18446744073709551616:Nat):Int)])∧w'=w:=Any.bits_Mul64 Tryz.lays264 x y hx hy w
end Go.Proofs

namespace Go.Proofs.YtclijngnoepbiaaGreat
open Go Go.RowKit
set_option linter.unusedVariables false
set_option linter.unusedSimpArgs false

/-- the shift that brings a divisor to its full width -/
theorem lz_shift {y:Nat} (hy:0<y) (hy64:y<18446744073709551616):∃s:Nat,(64-(Lib.bitLen (y:Int).toNat:Int))=(s:Int)∧s≤63∧9223372036854775808≤y*2 ^ s∧y*2 ^ s<18446744073709551616:=by
 have hb:=Lib.bitLenAux_bounds 64 y (by omega) (by omega)
 have hle:Lib.bitLen y≤64:=Lib.bitLen_le y 64 (by omega) (by omega)
 have he:Lib.bitLenAux 64 y=Lib.bitLen y:=rfl
 rw [he] at hb
 obtain ⟨l,hl⟩:∃l,l=Lib.bitLen y:=⟨_,rfl⟩
 rw [←hl] at hb hle
 obtain ⟨h1,h2,h3⟩:=hb
 refine ⟨64-l,by rw [Int.toNat_natCast,←hl];omega,by omega,?_,?_⟩
 · have h4:=Nat.mul_le_mul_right (2 ^ (64-l)) h2
   rw [←Nat.pow_add] at h4
   have e:l-1+(64-l)=63:=by omega
   rw [e] at h4
   exact h4
 · have h4:=Nat.mul_lt_mul_of_pos_right h3 (Nat.two_pow_pos (64-l))
   rw [←Nat.pow_add] at h4
   have e:l+(64-l)=64:=by omega
   rw [e] at h4
   exact h4
/-- the two words after the shift -/
theorem div_norm {hi lo y s:Nat} (hs:s≤63) (h64:y*2 ^ s<18446744073709551616) (hhi:hi<y) (hlo:lo<18446744073709551616) :
 (hi*18446744073709551616+lo)*2 ^ s=(hi*2 ^ s+lo / 2 ^ (64-s))*18446744073709551616+lo*2 ^ s % 18446744073709551616∧hi*2 ^ s+lo / 2 ^ (64-s)<y*2 ^ s∧lo / 2 ^ (64-s)<2 ^ s:=by
 have e64:2 ^ (64-s)*2 ^ s=18446744073709551616:=by rw [←Nat.pow_add,Nat.sub_add_cancel (by omega)]
 have hd:lo*2 ^ s / 18446744073709551616=lo / 2 ^ (64-s):=by rw [←e64,Nat.mul_div_mul_right _ _ (Nat.two_pow_pos s)]
 have hdm:=Nat.div_add_mod (lo*2 ^ s) 18446744073709551616
 rw [hd] at hdm
 have hid:(hi*18446744073709551616+lo)*2 ^ s=(hi*2 ^ s+lo / 2 ^ (64-s))*18446744073709551616+lo*2 ^ s % 18446744073709551616:=by
  rw [Nat.add_mul,Nat.add_mul,Nat.mul_right_comm]
  omega
 have hT:lo / 2 ^ (64-s)<2 ^ s:=by
  refine (Nat.div_lt_iff_lt_mul (Nat.two_pow_pos _)).2 ?_
  rw [Nat.mul_comm,e64]
  exact hlo
 refine ⟨hid,?_,hT⟩
 have h1:(hi+1)*2 ^ s≤y*2 ^ s:=Nat.mul_le_mul_right _ hhi
 rw [Nat.succ_mul] at h1
 omega
theorem wrap_rest {ub u1 z v:Nat} (h:z+v=ub+u1) (hv:v<18446744073709551616):IntKind.u64.wrap ((((ub % 18446744073709551616+u1) % 18446744073709551616:Nat):Int)-((z % 18446744073709551616:Nat):Int))=(v:Int):=by
 rw [IntKind.wrap_u64]
 omega
theorem int_div_pow (z s:Nat):(z:Int) / 2 ^ s=((z / 2 ^ s:Nat):Int):=by push_cast;rfl
theorem div64_any {w:World} {hi lo y:Nat} (hy:0<y) (hhi:hi<y) (hy64:y<18446744073709551616) (hlo:lo<18446744073709551616) :
 Calls Tryz.prog 133 #[.int .u64 hi,.int .u64 lo,.int .u64 y] w fun e w'=>∃q:Int,e=.returned (.tuple #[.int .u64 q,.int .u64 (((hi*18446744073709551616+lo) % y:Nat):Int)])∧Ext w w':=by
 have h1:((y:Int)==(0:Int))=false:=beq_eq_false_iff_ne.2 (by omega)
 have h2:¬(y:Int)≤(hi:Int):=by omega
 have h3:¬(y:Int)=0:=by omega
 obtain ⟨rm,hrm⟩:∃rm:Int,rm=(((hi*18446744073709551616+lo) % y:Nat):Int):=⟨_,rfl⟩
 rw [←hrm]
 have HRM:=Lib.hid hrm
 clear hrm
 go_enter Tryz.func133,Tryz.ntmps133
 by_cases hz:hi=0
 · subst hz
   have f2:Int.tmod (lo:Int) (y:Int)=rm:=by
    rw [HRM.out,Nat.zero_mul,Nat.zero_add]
    rfl
   go_wp2_with fail
   go_region
   all_goals
    go_wp2_with fail
    go_ret2
    exact ⟨_,rfl,(by repeat (first | exact Ext.refl _ | exact Ext.alloc _ _ | apply Ext.then_dr | apply Ext.then_drN | apply Ext.then_drN2 | (refine Ext.then_al ?_ _)))⟩
 · have h4 : ((hi : Int)==(0:Int))=false:=beq_eq_false_iff_ne.2 (by omega)
   go_upto_region 7 with fail
   go_wp2_with fail
   refine (Tryz.bits_LeadingZeros64 y w (by omega) (by omega)).mono ?_
   rintro e w1 ⟨rfl,rfl⟩
   obtain ⟨s,hs,hs2,hn1,hn2⟩:=lz_shift hy hy64
   obtain ⟨hid,hUY,hT⟩:=div_norm hs2 hn2 hhi hlo
   rw [hs]
   obtain ⟨Y,Y1,Y0,H,T,U,L,U1,U0,e1,e2,e3,e4,e5,e6,e7,e8,e9,HNM⟩:∃Y Y1 Y0 H T U L U1 U0:Nat,IntKind.u64.wrap ((y:Int)*2 ^ s)=(Y:Int)∧(Y:Int) / 4294967296=(Y1:Int)∧bits BinOp.and IntKind.u64 (Y:Int) 4294967295=(Y0:Int) ∧
    IntKind.u64.wrap ((hi:Int)*2 ^ s)=(H:Int)∧(lo:Int) / 2 ^ (64-s)=(T:Int)∧bits BinOp.or IntKind.u64 (H:Int) (T:Int)=(U:Int)∧IntKind.u64.wrap ((lo:Int)*2 ^ s)=(L:Int)∧(L:Int) / 4294967296=(U1:Int)∧bits BinOp.and IntKind.u64 (L:Int) 4294967295=(U0:Int) ∧
    Hid (Y=y*2 ^ s∧Y1=Y / 4294967296∧Y0=Y % 4294967296∧U<Y∧L<18446744073709551616∧U1=L / 4294967296∧U0=L % 4294967296∧(hi*18446744073709551616+lo)*2 ^ s=U*18446744073709551616+L∧9223372036854775808≤Y∧Y<18446744073709551616):=by
    have hLlt:=Nat.mod_lt (lo*2 ^ s) (show 0<18446744073709551616 by omega)
    have hH:hi*2 ^ s<18446744073709551616:=Nat.lt_of_le_of_lt (Nat.mul_le_mul_right _ (Nat.le_of_lt hhi)) hn2
    have hT64:lo / 2 ^ (64-s)<18446744073709551616:=Nat.lt_of_le_of_lt (Nat.div_le_self _ _) hlo
    have mask:∀x:Nat,x<18446744073709551616→bits BinOp.and IntKind.u64 (x:Int) 4294967295=((x % 4294967296:Nat):Int):=fun x hx=>by
     have h:=bits_and_u64_nat x 4294967295 hx (by omega)
     have e:x &&& 4294967295=x % 4294967296:=Nat.and_two_pow_sub_one_eq_mod x 32
     rw [e] at h
     exact h
    refine ⟨y*2 ^ s,y*2 ^ s / 4294967296,y*2 ^ s % 4294967296,hi*2 ^ s,lo / 2 ^ (64-s),hi*2 ^ s+lo / 2 ^ (64-s),lo*2 ^ s % 18446744073709551616,lo*2 ^ s % 18446744073709551616 / 4294967296,lo*2 ^ s % 18446744073709551616 % 4294967296,?_,rfl,mask _ hn2,?_,?_,?_,?_,rfl,mask _ hLlt,Lib.hid ⟨rfl,rfl,rfl,hUY,hLlt,rfl,rfl,hid,hn1,hn2⟩⟩
    · have e:((y:Int)*2 ^ s)=((y*2 ^ s:Nat):Int):=by push_cast;rfl
      rw [e,IntKind.wrap_u64]
      generalize y*2 ^ s=u at *
      omega
    · have e:((hi:Int)*2 ^ s)=((hi*2 ^ s:Nat):Int):=by push_cast;rfl
      rw [e,IntKind.wrap_u64]
      generalize hi*2 ^ s=u at *
      omega
    · push_cast;rfl
    · have h:=bits_or_u64_nat (hi*2 ^ s) (lo / 2 ^ (64-s)) hH hT64
      have e:hi*2 ^ s ||| lo / 2 ^ (64-s)=hi*2 ^ s+lo / 2 ^ (64-s):=by
       rw [Nat.mul_comm hi]
       exact (Nat.two_pow_add_eq_or_of_lt hT hi).symm
      rw [e] at h
      exact h
    · have e:((lo:Int)*2 ^ s)=((lo*2 ^ s:Nat):Int):=by push_cast;rfl
      rw [e,IntKind.wrap_u64]
      generalize lo*2 ^ s=u at *
      omega
   have hY1:¬(Y1:Int)=0:=by have:=HNM.out;omega
   have hY1b:((Y1:Int)==(0:Int))=false:=beq_eq_false_iff_ne.2 hY1
   clear hid hUY hT hn1 hn2
   have HU:Hid (U<Y1*4294967296+Y0∧4294967296≤2*Y1∧Y0<4294967296∧U1<4294967296∧U0<4294967296∧Y1<4294967296):=Lib.hid (by have:=HNM.out;omega)
   obtain ⟨Q,QY,R,f1,f2,f3,hR,HD0⟩:∃Q QY R:Nat,IntKind.u64.wrap ((U:Int) / (Y1:Int))=(Q:Int)∧IntKind.u64.wrap ((Q:Int)*(Y1:Int))=(QY:Int)∧IntKind.u64.wrap ((U:Int)-(QY:Int))=(R:Int)∧R<4294967296∧Hid (Dg 4294967296 Y1 Y0 U U1 Q R):=by
    have h:=HU.out
    have hd:=Dg.start (n:=U1) h.1 h.2.1 h.2.2.1 h.2.2.2.1
    have hm:=Nat.mod_lt U (show 0<Y1 by omega)
    have he:=hd.eq
    have hl:=hd.le
    have hU64:U<18446744073709551616:=by have:=HNM.out;omega
    refine ⟨U / Y1,U / Y1*Y1,U % Y1,?_,?_,?_,by omega,Lib.hid hd⟩
    · rw [←Int.natCast_ediv,IntKind.wrap_u64]
      generalize U / Y1=u at *
      omega
    · rw [←Int.natCast_mul,IntKind.wrap_u64]
      generalize U / Y1*Y1=u at *
      omega
    · rw [IntKind.wrap_u64]
      generalize U / Y1*Y1=u at *
      generalize U % Y1=v at *
      omega
   have HE0:Hid (Ext w1 w1):=Lib.hid (Ext.refl _)
   obtain ⟨D,hD⟩:∃D,D=(U*4294967296+U1) / (Y1*4294967296+Y0):=⟨_,rfl⟩
   have HDD:=Lib.hid hD
   clear hD
   go_upto_region 17 with fail
   go_loopw [15,16] (fun qv rv wr=>∃q r:Nat,qv=.int .u64 q∧rv=.int .u64 r∧r<4294967296∧Hid (Dg 4294967296 Y1 Y0 U U1 q r)∧Hid (Ext w1 wr)) (fun qv _ _=>(intOf qv).toNat)
   case atStart=>exact ⟨Q,R,rfl,rfl,hR,HD0,HE0⟩
   case round =>
    obtain ⟨q,r,rfl,rfl,hr,HD,HE⟩:=hrel
    clear f1 f2 f3
    have hq:=HD.out.le
    obtain ⟨M,hM,m1⟩:∃M:Nat,M=q*Y0∧IntKind.u64.wrap ((q:Int)*(Y0:Int))=(M:Int):=by
     refine ⟨_,rfl,?_⟩
     have h1:q*Y0≤4294967297*4294967295:=Nat.mul_le_mul hq (by have:=HU.out;omega)
     rw [←Int.natCast_mul,IntKind.wrap_u64]
     omega
    obtain ⟨N,hN,m2⟩:∃N:Nat,N=4294967296*r∧IntKind.u64.wrap (4294967296*(r:Int))=(N:Int):=by
     refine ⟨_,rfl,?_⟩
     rw [IntKind.wrap_u64]
     omega
    obtain ⟨N2,hN2,m3⟩:∃N2:Nat,N2=N+U1∧IntKind.u64.wrap ((N:Int)+(U1:Int))=(N2:Int):=by
     refine ⟨_,rfl,?_⟩
     rw [IntKind.wrap_u64]
     have:=HU.out
     omega
    have HMN:Hid (M=q*Y0∧N2=4294967296*r+U1):=Lib.hid ⟨hM,by rw [hN2,hN]⟩
    clear hM hN hN2
    by_cases hb:4294967296≤q
    · have hb2 : (4294967296:Int)≤(q:Int):=by omega
      have HT:Hid (4294967296≤q∨4294967296*r+U1<q*Y0):=Lib.hid (.inl hb)
      obtain ⟨k1,k2,k3⟩:=HD.out.dec HU.out.1 HU.out.2.2.2.1 HT.out
      obtain ⟨p,hp⟩:∃p,p=q-1:=⟨_,rfl⟩
      obtain ⟨r2,hr2⟩:∃r2,r2=r+Y1:=⟨_,rfl⟩
      rw [←hp,←hr2] at k2
      rw [←hp] at k3
      have n1:IntKind.u64.wrap ((q:Int)-1)=(p:Int):=by rw [IntKind.wrap_u64];omega
      have n2:IntKind.u64.wrap ((r:Int)+(Y1:Int))=(r2:Int):=by rw [IntKind.wrap_u64];have:=HU.out;omega
      have HD2:=Lib.hid k2
      have hpq:p<q:=by omega
      clear k2 hp hr2
      by_cases hov:4294967296≤r2
      · have hov2:(4294967296:Int)≤(r2:Int):=by omega
        have hfin:p=D:=by rw [HDD.out];exact HD2.out.over (by have:=HU.out;omega) HU.out.2.2.1 k3 hov
        obtain ⟨A,g1,g1'⟩:∃A:Nat,IntKind.u64.wrap ((U:Int)*4294967296)=(A:Int)∧A=U*4294967296 % 18446744073709551616:=⟨_,by rw [IntKind.wrap_u64];omega,rfl⟩
        obtain ⟨A2,g2,g2'⟩:∃A2:Nat,IntKind.u64.wrap ((A:Int)+(U1:Int))=(A2:Int)∧A2=(A+U1) % 18446744073709551616:=⟨_,by rw [IntKind.wrap_u64];omega,rfl⟩
        obtain ⟨C,g3,g3'⟩:∃C:Nat,IntKind.u64.wrap ((p:Int)*(Y:Int))=(C:Int)∧C=p*Y % 18446744073709551616:=⟨_,by rw [←Int.natCast_mul,IntKind.wrap_u64];omega,rfl⟩
        have HYS:Hid (Y1*4294967296+Y0=Y):=Lib.hid (by have:=HNM.out;omega)
        obtain ⟨U2,g4,hu2,hu2lt⟩:∃U2:Nat,IntKind.u64.wrap ((A2:Int)-(C:Int))=(U2:Int)∧U2=(U*4294967296+U1) % Y∧U2<Y:=by
         have h1:=Nat.div_add_mod (U*4294967296+U1) Y
         have h2:=Nat.mod_lt (U*4294967296+U1) (show 0<Y by have:=HNM.out;omega)
         have h3:p=(U*4294967296+U1) / Y:=by rw [hfin,HDD.out,HYS.out]
         rw [←h3,Nat.mul_comm] at h1
         refine ⟨_,?_,rfl,h2⟩
         rw [g2',g1',g3']
         exact wrap_rest h1 (Nat.lt_trans h2 HNM.out.2.2.2.2.2.2.2.2.2)
        have HU2:=Lib.hid hu2
        obtain ⟨Q0,QY0,R0,f1,f2,f3,hR0,HD0⟩:∃Q QY R:Nat,IntKind.u64.wrap ((U2:Int) / (Y1:Int))=(Q:Int)∧IntKind.u64.wrap ((Q:Int)*(Y1:Int))=(QY:Int)∧IntKind.u64.wrap ((U2:Int)-(QY:Int))=(R:Int)∧R<4294967296∧Hid (Dg 4294967296 Y1 Y0 U2 U0 Q R):=by
         have h:=HU.out
         have hd:=Dg.start (n:=U0) (show U2<Y1*4294967296+Y0 by rw [HYS.out];exact hu2lt) h.2.1 h.2.2.1 h.2.2.2.2.1
         have hm:=Nat.mod_lt U2 (show 0<Y1 by omega)
         have he:=hd.eq
         have hl:=hd.le
         have hU64:U2<18446744073709551616:=by have:=HNM.out;omega
         refine ⟨U2 / Y1,U2 / Y1*Y1,U2 % Y1,?_,?_,?_,by omega,Lib.hid hd⟩
         · rw [←Int.natCast_ediv,IntKind.wrap_u64]
           generalize U2 / Y1=u at *
           omega
         · rw [←Int.natCast_mul,IntKind.wrap_u64]
           generalize U2 / Y1*Y1=u at *
           omega
         · rw [IntKind.wrap_u64]
           generalize U2 / Y1*Y1=u at *
           generalize U2 % Y1=v at *
           omega
        have HFN:=Lib.hid hfin
        clear g1' g2' g3' hu2 hfin
        go_upto_region 24 with fail
        go_loopw [16,18] (fun rv qv wr=>∃q0 r0:Nat,qv=.int .u64 q0∧rv=.int .u64 r0∧r0<4294967296∧Hid (Dg 4294967296 Y1 Y0 U2 U0 q0 r0)∧Hid (Ext w1 wr)) (fun _ qv _=>(intOf qv).toNat)
        case atStart=>exact ⟨Q0,R0,rfl,rfl,hR0,HD0,HE⟩
        case round =>
         obtain ⟨q0,r0,rfl,rfl,hr0,HD,HE⟩:=hrel
         clear f1 f2 f3 g1 g2 g3 g4
         have hq0:=HD.out.le
         obtain ⟨M0,hM,j1⟩:∃M:Nat,M=q0*Y0∧IntKind.u64.wrap ((q0:Int)*(Y0:Int))=(M:Int):=by
          refine ⟨_,rfl,?_⟩
          have h1:q0*Y0≤4294967297*4294967295:=Nat.mul_le_mul hq0 (by have:=HU.out;omega)
          rw [←Int.natCast_mul,IntKind.wrap_u64]
          omega
         obtain ⟨N0,hN,j2⟩:∃N:Nat,N=4294967296*r0∧IntKind.u64.wrap (4294967296*(r0:Int))=(N:Int):=by
          refine ⟨_,rfl,?_⟩
          rw [IntKind.wrap_u64]
          omega
         obtain ⟨N3,hN2,j3⟩:∃N2:Nat,N2=N0+U0∧IntKind.u64.wrap ((N0:Int)+(U0:Int))=(N2:Int):=by
          refine ⟨_,rfl,?_⟩
          rw [IntKind.wrap_u64]
          have:=HU.out
          omega
         have HMN0:Hid (M0=q0*Y0∧N3=4294967296*r0+U0):=Lib.hid ⟨hM,by rw [hN2,hN]⟩
         clear hM hN hN2
         by_cases hb0:4294967296≤q0
         · have hb02:(4294967296:Int)≤(q0:Int):=by omega
           have HT:Hid (4294967296≤q0∨4294967296*r0+U0<q0*Y0):=Lib.hid (.inl hb0)
           obtain ⟨k1,k2,k3⟩:=HD.out.dec (show U2<Y1*4294967296+Y0 by rw [HYS.out];exact hu2lt) HU.out.2.2.2.2.1 HT.out
           obtain ⟨p0,hp⟩:∃p,p=q0-1:=⟨_,rfl⟩
           obtain ⟨r2,hr2⟩:∃r2,r2=r0+Y1:=⟨_,rfl⟩
           rw [←hp,←hr2] at k2
           rw [←hp] at k3
           have n1:IntKind.u64.wrap ((q0:Int)-1)=(p0:Int):=by rw [IntKind.wrap_u64];omega
           have n2:IntKind.u64.wrap ((r0:Int)+(Y1:Int))=(r2:Int):=by rw [IntKind.wrap_u64];have:=HU.out;omega
           have HD2:=Lib.hid k2
           have hpq:p0<q0:=by omega
           clear k2 hp hr2
           by_cases hov:4294967296≤r2
           · have hov2:(4294967296:Int)≤(r2:Int):=by omega
             have hfin0:p0=(U2*4294967296+U0) / (Y1*4294967296+Y0):=HD2.out.over (by have:=HU.out;omega) HU.out.2.2.1 k3 hov
             obtain ⟨A3,l1⟩:∃A3:Nat,IntKind.u64.wrap ((U2:Int)*4294967296)=(A3:Int)∧A3=U2*4294967296 % 18446744073709551616:=⟨_,by rw [IntKind.wrap_u64];omega,rfl⟩
             obtain ⟨A4,l2⟩:∃A4:Nat,IntKind.u64.wrap ((A3:Int)+(U0:Int))=(A4:Int)∧A4=(A3+U0) % 18446744073709551616:=⟨_,by rw [IntKind.wrap_u64];omega,rfl⟩
             obtain ⟨C2,l3⟩:∃C2:Nat,IntKind.u64.wrap ((p0:Int)*(Y:Int))=(C2:Int)∧C2=p0*Y % 18446744073709551616:=⟨_,by rw [←Int.natCast_mul,IntKind.wrap_u64];omega,rfl⟩
             obtain ⟨U3,l4,l5⟩:∃U3:Nat,IntKind.u64.wrap ((A4:Int)-(C2:Int))=(U3:Int)∧U3=(U2*4294967296+U0) % Y:=by
              have h1:=Nat.div_add_mod (U2*4294967296+U0) Y
              have h2:=Nat.mod_lt (U2*4294967296+U0) (show 0<Y by have:=HNM.out;omega)
              have h3:p0=(U2*4294967296+U0) / Y:=by rw [hfin0,HYS.out]
              rw [←h3,Nat.mul_comm] at h1
              refine ⟨_,?_,rfl⟩
              rw [l2.2,l1.2,l3.2]
              exact wrap_rest h1 (Nat.lt_trans h2 HNM.out.2.2.2.2.2.2.2.2.2)
             have l6:(U3:Int) / 2 ^ s=rm:=by
              have h1:U*(4294967296*4294967296)+(U1*4294967296+U0)=(hi*18446744073709551616+lo)*2 ^ s:=by have:=HNM.out;omega
              have h2:=shift_mod (a:=hi*18446744073709551616+lo) (y:=y) (s:=s)
              have h3:U3=(hi*18446744073709551616+lo)*2 ^ s % (y*2 ^ s):=by rw [l5,HU2.out,two_digits (show 0<Y by have:=HNM.out;omega),h1,HNM.out.1]
              rw [int_div_pow,HRM.out,h3,h2]
             obtain ⟨l1,-⟩:=l1
             obtain ⟨l2,-⟩:=l2
             obtain ⟨l3,-⟩:=l3
             clear l5 hfin0
             go_wp2_with fail
             go_ret2
             first | exact ⟨⟨_,rfl⟩,HE.out⟩ | exact ⟨_,rfl,HE.out⟩ | exact ⟨⟨_,rfl⟩,Ext.then_dr HE.out⟩
           · have hov2:¬(4294967296:Int)≤(r2:Int):=by omega
             go_wp2_with fail
             go_roundw
             case rel=>exact ⟨p0,r2,rfl,rfl,by omega,HD2,HE⟩
             case measure=>simp [intOf];omega
         · have hb02:¬(4294967296:Int)≤(q0:Int):=by omega
           by_cases ht0:N3<M0
           · have ht02:(N3:Int)<(M0:Int):=by omega
             have HT:Hid (4294967296≤q0∨4294967296*r0+U0<q0*Y0):=Lib.hid (.inr (by rw [←HMN0.out.1,←HMN0.out.2];exact ht0))
             obtain ⟨k1,k2,k3⟩:=HD.out.dec (show U2<Y1*4294967296+Y0 by rw [HYS.out];exact hu2lt) HU.out.2.2.2.2.1 HT.out
             obtain ⟨p0,hp⟩:∃p,p=q0-1:=⟨_,rfl⟩
             obtain ⟨r2,hr2⟩:∃r2,r2=r0+Y1:=⟨_,rfl⟩
             rw [←hp,←hr2] at k2
             rw [←hp] at k3
             have n1:IntKind.u64.wrap ((q0:Int)-1)=(p0:Int):=by rw [IntKind.wrap_u64];omega
             have n2:IntKind.u64.wrap ((r0:Int)+(Y1:Int))=(r2:Int):=by rw [IntKind.wrap_u64];have:=HU.out;omega
             have HD2:=Lib.hid k2
             have hpq:p0<q0:=by omega
             clear k2 hp hr2
             by_cases hov:4294967296≤r2
             · have hov2:(4294967296:Int)≤(r2:Int):=by omega
               have hfin0:p0=(U2*4294967296+U0) / (Y1*4294967296+Y0):=HD2.out.over (by have:=HU.out;omega) HU.out.2.2.1 k3 hov
               obtain ⟨A3,l1⟩:∃A3:Nat,IntKind.u64.wrap ((U2:Int)*4294967296)=(A3:Int)∧A3=U2*4294967296 % 18446744073709551616:=⟨_,by rw [IntKind.wrap_u64];omega,rfl⟩
               obtain ⟨A4,l2⟩:∃A4:Nat,IntKind.u64.wrap ((A3:Int)+(U0:Int))=(A4:Int)∧A4=(A3+U0) % 18446744073709551616:=⟨_,by rw [IntKind.wrap_u64];omega,rfl⟩
               obtain ⟨C2,l3⟩:∃C2:Nat,IntKind.u64.wrap ((p0:Int)*(Y:Int))=(C2:Int)∧C2=p0*Y % 18446744073709551616:=⟨_,by rw [←Int.natCast_mul,IntKind.wrap_u64];omega,rfl⟩
               obtain ⟨U3,l4,l5⟩:∃U3:Nat,IntKind.u64.wrap ((A4:Int)-(C2:Int))=(U3:Int)∧U3=(U2*4294967296+U0) % Y:=by
                have h1:=Nat.div_add_mod (U2*4294967296+U0) Y
                have h2:=Nat.mod_lt (U2*4294967296+U0) (show 0<Y by have:=HNM.out;omega)
                have h3:p0=(U2*4294967296+U0) / Y:=by rw [hfin0,HYS.out]
                rw [←h3,Nat.mul_comm] at h1
                refine ⟨_,?_,rfl⟩
                rw [l2.2,l1.2,l3.2]
                exact wrap_rest h1 (Nat.lt_trans h2 HNM.out.2.2.2.2.2.2.2.2.2)
               have l6:(U3:Int) / 2 ^ s=rm:=by
                have h1:U*(4294967296*4294967296)+(U1*4294967296+U0)=(hi*18446744073709551616+lo)*2 ^ s:=by have:=HNM.out;omega
                have h2:=shift_mod (a:=hi*18446744073709551616+lo) (y:=y) (s:=s)
                have h3:U3=(hi*18446744073709551616+lo)*2 ^ s % (y*2 ^ s):=by rw [l5,HU2.out,two_digits (show 0<Y by have:=HNM.out;omega),h1,HNM.out.1]
                rw [int_div_pow,HRM.out,h3,h2]
               obtain ⟨l1,-⟩:=l1
               obtain ⟨l2,-⟩:=l2
               obtain ⟨l3,-⟩:=l3
               clear l5 hfin0
               go_wp2_with fail
               go_ret2
               first | exact ⟨⟨_,rfl⟩,HE.out⟩ | exact ⟨_,rfl,HE.out⟩ | exact ⟨⟨_,rfl⟩,Ext.then_dr HE.out⟩
             · have hov2:¬(4294967296:Int)≤(r2:Int):=by omega
               go_wp2_with fail
               go_roundw
               case rel=>exact ⟨p0,r2,rfl,rfl,by omega,HD2,HE⟩
               case measure=>simp [intOf];omega
           · have ht02:¬(N3:Int)<(M0:Int):=by omega
             have hfin0:q0=(U2*4294967296+U0) / (Y1*4294967296+Y0):=HD.out.fit (by have:=HU.out;omega) (by rw [←HMN0.out.1,←HMN0.out.2];omega)
             obtain ⟨A3,l1⟩:∃A3:Nat,IntKind.u64.wrap ((U2:Int)*4294967296)=(A3:Int)∧A3=U2*4294967296 % 18446744073709551616:=⟨_,by rw [IntKind.wrap_u64];omega,rfl⟩
             obtain ⟨A4,l2⟩:∃A4:Nat,IntKind.u64.wrap ((A3:Int)+(U0:Int))=(A4:Int)∧A4=(A3+U0) % 18446744073709551616:=⟨_,by rw [IntKind.wrap_u64];omega,rfl⟩
             obtain ⟨C2,l3⟩:∃C2:Nat,IntKind.u64.wrap ((q0:Int)*(Y:Int))=(C2:Int)∧C2=q0*Y % 18446744073709551616:=⟨_,by rw [←Int.natCast_mul,IntKind.wrap_u64];omega,rfl⟩
             obtain ⟨U3,l4,l5⟩:∃U3:Nat,IntKind.u64.wrap ((A4:Int)-(C2:Int))=(U3:Int)∧U3=(U2*4294967296+U0) % Y:=by
              have h1:=Nat.div_add_mod (U2*4294967296+U0) Y
              have h2:=Nat.mod_lt (U2*4294967296+U0) (show 0<Y by have:=HNM.out;omega)
              have h3:q0=(U2*4294967296+U0) / Y:=by rw [hfin0,HYS.out]
              rw [←h3,Nat.mul_comm] at h1
              refine ⟨_,?_,rfl⟩
              rw [l2.2,l1.2,l3.2]
              exact wrap_rest h1 (Nat.lt_trans h2 HNM.out.2.2.2.2.2.2.2.2.2)
             have l6:(U3:Int) / 2 ^ s=rm:=by
              have h1:U*(4294967296*4294967296)+(U1*4294967296+U0)=(hi*18446744073709551616+lo)*2 ^ s:=by have:=HNM.out;omega
              have h2:=shift_mod (a:=hi*18446744073709551616+lo) (y:=y) (s:=s)
              have h3:U3=(hi*18446744073709551616+lo)*2 ^ s % (y*2 ^ s):=by rw [l5,HU2.out,two_digits (show 0<Y by have:=HNM.out;omega),h1,HNM.out.1]
              rw [int_div_pow,HRM.out,h3,h2]
             obtain ⟨l1,-⟩:=l1
             obtain ⟨l2,-⟩:=l2
             obtain ⟨l3,-⟩:=l3
             clear l5 hfin0
             go_wp2_with fail
             go_ret2
             first | exact ⟨⟨_,rfl⟩,HE.out⟩ | exact ⟨_,rfl,HE.out⟩ | exact ⟨⟨_,rfl⟩,Ext.then_dr HE.out⟩
      · have hov2:¬(4294967296:Int)≤(r2:Int):=by omega
        go_wp2_with fail
        go_roundw
        case rel=>exact ⟨p,r2,rfl,rfl,by omega,HD2,HE⟩
        case measure=>simp [intOf];omega
    · have hb2 : ¬ (4294967296:Int)≤(q:Int):=by omega
      by_cases ht:N2<M
      · have ht2 : (N2:Int)<(M:Int):=by omega
        have HT:Hid (4294967296≤q∨4294967296*r+U1<q*Y0):=Lib.hid (.inr (by rw [←HMN.out.1,←HMN.out.2];exact ht))
        obtain ⟨k1,k2,k3⟩:=HD.out.dec HU.out.1 HU.out.2.2.2.1 HT.out
        obtain ⟨p,hp⟩:∃p,p=q-1:=⟨_,rfl⟩
        obtain ⟨r2,hr2⟩:∃r2,r2=r+Y1:=⟨_,rfl⟩
        rw [←hp,←hr2] at k2
        rw [←hp] at k3
        have n1:IntKind.u64.wrap ((q:Int)-1)=(p:Int):=by rw [IntKind.wrap_u64];omega
        have n2:IntKind.u64.wrap ((r:Int)+(Y1:Int))=(r2:Int):=by rw [IntKind.wrap_u64];have:=HU.out;omega
        have HD2:=Lib.hid k2
        have hpq:p<q:=by omega
        clear k2 hp hr2
        by_cases hov:4294967296≤r2
        · have hov2:(4294967296:Int)≤(r2:Int):=by omega
          have hfin:p=D:=by rw [HDD.out];exact HD2.out.over (by have:=HU.out;omega) HU.out.2.2.1 k3 hov
          obtain ⟨A,g1,g1'⟩:∃A:Nat,IntKind.u64.wrap ((U:Int)*4294967296)=(A:Int)∧A=U*4294967296 % 18446744073709551616:=⟨_,by rw [IntKind.wrap_u64];omega,rfl⟩
          obtain ⟨A2,g2,g2'⟩:∃A2:Nat,IntKind.u64.wrap ((A:Int)+(U1:Int))=(A2:Int)∧A2=(A+U1) % 18446744073709551616:=⟨_,by rw [IntKind.wrap_u64];omega,rfl⟩
          obtain ⟨C,g3,g3'⟩:∃C:Nat,IntKind.u64.wrap ((p:Int)*(Y:Int))=(C:Int)∧C=p*Y % 18446744073709551616:=⟨_,by rw [←Int.natCast_mul,IntKind.wrap_u64];omega,rfl⟩
          have HYS:Hid (Y1*4294967296+Y0=Y):=Lib.hid (by have:=HNM.out;omega)
          obtain ⟨U2,g4,hu2,hu2lt⟩:∃U2:Nat,IntKind.u64.wrap ((A2:Int)-(C:Int))=(U2:Int)∧U2=(U*4294967296+U1) % Y∧U2<Y:=by
           have h1:=Nat.div_add_mod (U*4294967296+U1) Y
           have h2:=Nat.mod_lt (U*4294967296+U1) (show 0<Y by have:=HNM.out;omega)
           have h3:p=(U*4294967296+U1) / Y:=by rw [hfin,HDD.out,HYS.out]
           rw [←h3,Nat.mul_comm] at h1
           refine ⟨_,?_,rfl,h2⟩
           rw [g2',g1',g3']
           exact wrap_rest h1 (Nat.lt_trans h2 HNM.out.2.2.2.2.2.2.2.2.2)
          have HU2:=Lib.hid hu2
          obtain ⟨Q0,QY0,R0,f1,f2,f3,hR0,HD0⟩:∃Q QY R:Nat,IntKind.u64.wrap ((U2:Int) / (Y1:Int))=(Q:Int)∧IntKind.u64.wrap ((Q:Int)*(Y1:Int))=(QY:Int)∧IntKind.u64.wrap ((U2:Int)-(QY:Int))=(R:Int)∧R<4294967296∧Hid (Dg 4294967296 Y1 Y0 U2 U0 Q R):=by
           have h:=HU.out
           have hd:=Dg.start (n:=U0) (show U2<Y1*4294967296+Y0 by rw [HYS.out];exact hu2lt) h.2.1 h.2.2.1 h.2.2.2.2.1
           have hm:=Nat.mod_lt U2 (show 0<Y1 by omega)
           have he:=hd.eq
           have hl:=hd.le
           have hU64:U2<18446744073709551616:=by have:=HNM.out;omega
           refine ⟨U2 / Y1,U2 / Y1*Y1,U2 % Y1,?_,?_,?_,by omega,Lib.hid hd⟩
           · rw [←Int.natCast_ediv,IntKind.wrap_u64]
             generalize U2 / Y1=u at *
             omega
           · rw [←Int.natCast_mul,IntKind.wrap_u64]
             generalize U2 / Y1*Y1=u at *
             omega
           · rw [IntKind.wrap_u64]
             generalize U2 / Y1*Y1=u at *
             generalize U2 % Y1=v at *
             omega
          have HFN:=Lib.hid hfin
          clear g1' g2' g3' hu2 hfin
          go_upto_region 24 with fail
          go_loopw [16,18] (fun rv qv wr=>∃q0 r0:Nat,qv=.int .u64 q0∧rv=.int .u64 r0∧r0<4294967296∧Hid (Dg 4294967296 Y1 Y0 U2 U0 q0 r0)∧Hid (Ext w1 wr)) (fun _ qv _=>(intOf qv).toNat)
          case atStart=>exact ⟨Q0,R0,rfl,rfl,hR0,HD0,HE⟩
          case round =>
           obtain ⟨q0,r0,rfl,rfl,hr0,HD,HE⟩:=hrel
           clear f1 f2 f3 g1 g2 g3 g4
           have hq0:=HD.out.le
           obtain ⟨M0,hM,j1⟩:∃M:Nat,M=q0*Y0∧IntKind.u64.wrap ((q0:Int)*(Y0:Int))=(M:Int):=by
            refine ⟨_,rfl,?_⟩
            have h1:q0*Y0≤4294967297*4294967295:=Nat.mul_le_mul hq0 (by have:=HU.out;omega)
            rw [←Int.natCast_mul,IntKind.wrap_u64]
            omega
           obtain ⟨N0,hN,j2⟩:∃N:Nat,N=4294967296*r0∧IntKind.u64.wrap (4294967296*(r0:Int))=(N:Int):=by
            refine ⟨_,rfl,?_⟩
            rw [IntKind.wrap_u64]
            omega
           obtain ⟨N3,hN2,j3⟩:∃N2:Nat,N2=N0+U0∧IntKind.u64.wrap ((N0:Int)+(U0:Int))=(N2:Int):=by
            refine ⟨_,rfl,?_⟩
            rw [IntKind.wrap_u64]
            have:=HU.out
            omega
           have HMN0:Hid (M0=q0*Y0∧N3=4294967296*r0+U0):=Lib.hid ⟨hM,by rw [hN2,hN]⟩
           clear hM hN hN2
           by_cases hb0:4294967296≤q0
           · have hb02:(4294967296:Int)≤(q0:Int):=by omega
             have HT:Hid (4294967296≤q0∨4294967296*r0+U0<q0*Y0):=Lib.hid (.inl hb0)
             obtain ⟨k1,k2,k3⟩:=HD.out.dec (show U2<Y1*4294967296+Y0 by rw [HYS.out];exact hu2lt) HU.out.2.2.2.2.1 HT.out
             obtain ⟨p0,hp⟩:∃p,p=q0-1:=⟨_,rfl⟩
             obtain ⟨r2,hr2⟩:∃r2,r2=r0+Y1:=⟨_,rfl⟩
             rw [←hp,←hr2] at k2
             rw [←hp] at k3
             have n1:IntKind.u64.wrap ((q0:Int)-1)=(p0:Int):=by rw [IntKind.wrap_u64];omega
             have n2:IntKind.u64.wrap ((r0:Int)+(Y1:Int))=(r2:Int):=by rw [IntKind.wrap_u64];have:=HU.out;omega
             have HD2:=Lib.hid k2
             have hpq:p0<q0:=by omega
             clear k2 hp hr2
             by_cases hov:4294967296≤r2
             · have hov2:(4294967296:Int)≤(r2:Int):=by omega
               have hfin0:p0=(U2*4294967296+U0) / (Y1*4294967296+Y0):=HD2.out.over (by have:=HU.out;omega) HU.out.2.2.1 k3 hov
               obtain ⟨A3,l1⟩:∃A3:Nat,IntKind.u64.wrap ((U2:Int)*4294967296)=(A3:Int)∧A3=U2*4294967296 % 18446744073709551616:=⟨_,by rw [IntKind.wrap_u64];omega,rfl⟩
               obtain ⟨A4,l2⟩:∃A4:Nat,IntKind.u64.wrap ((A3:Int)+(U0:Int))=(A4:Int)∧A4=(A3+U0) % 18446744073709551616:=⟨_,by rw [IntKind.wrap_u64];omega,rfl⟩
               obtain ⟨C2,l3⟩:∃C2:Nat,IntKind.u64.wrap ((p0:Int)*(Y:Int))=(C2:Int)∧C2=p0*Y % 18446744073709551616:=⟨_,by rw [←Int.natCast_mul,IntKind.wrap_u64];omega,rfl⟩
               obtain ⟨U3,l4,l5⟩:∃U3:Nat,IntKind.u64.wrap ((A4:Int)-(C2:Int))=(U3:Int)∧U3=(U2*4294967296+U0) % Y:=by
                have h1:=Nat.div_add_mod (U2*4294967296+U0) Y
                have h2:=Nat.mod_lt (U2*4294967296+U0) (show 0<Y by have:=HNM.out;omega)
                have h3:p0=(U2*4294967296+U0) / Y:=by rw [hfin0,HYS.out]
                rw [←h3,Nat.mul_comm] at h1
                refine ⟨_,?_,rfl⟩
                rw [l2.2,l1.2,l3.2]
                exact wrap_rest h1 (Nat.lt_trans h2 HNM.out.2.2.2.2.2.2.2.2.2)
               have l6:(U3:Int) / 2 ^ s=rm:=by
                have h1:U*(4294967296*4294967296)+(U1*4294967296+U0)=(hi*18446744073709551616+lo)*2 ^ s:=by have:=HNM.out;omega
                have h2:=shift_mod (a:=hi*18446744073709551616+lo) (y:=y) (s:=s)
                have h3:U3=(hi*18446744073709551616+lo)*2 ^ s % (y*2 ^ s):=by rw [l5,HU2.out,two_digits (show 0<Y by have:=HNM.out;omega),h1,HNM.out.1]
                rw [int_div_pow,HRM.out,h3,h2]
               obtain ⟨l1,-⟩:=l1
               obtain ⟨l2,-⟩:=l2
               obtain ⟨l3,-⟩:=l3
               clear l5 hfin0
               go_wp2_with fail
               go_ret2
               first | exact ⟨⟨_,rfl⟩,HE.out⟩ | exact ⟨_,rfl,HE.out⟩ | exact ⟨⟨_,rfl⟩,Ext.then_dr HE.out⟩
             · have hov2:¬(4294967296:Int)≤(r2:Int):=by omega
               go_wp2_with fail
               go_roundw
               case rel=>exact ⟨p0,r2,rfl,rfl,by omega,HD2,HE⟩
               case measure=>simp [intOf];omega
           · have hb02:¬(4294967296:Int)≤(q0:Int):=by omega
             by_cases ht0:N3<M0
             · have ht02:(N3:Int)<(M0:Int):=by omega
               have HT:Hid (4294967296≤q0∨4294967296*r0+U0<q0*Y0):=Lib.hid (.inr (by rw [←HMN0.out.1,←HMN0.out.2];exact ht0))
               obtain ⟨k1,k2,k3⟩:=HD.out.dec (show U2<Y1*4294967296+Y0 by rw [HYS.out];exact hu2lt) HU.out.2.2.2.2.1 HT.out
               obtain ⟨p0,hp⟩:∃p,p=q0-1:=⟨_,rfl⟩
               obtain ⟨r2,hr2⟩:∃r2,r2=r0+Y1:=⟨_,rfl⟩
               rw [←hp,←hr2] at k2
               rw [←hp] at k3
               have n1:IntKind.u64.wrap ((q0:Int)-1)=(p0:Int):=by rw [IntKind.wrap_u64];omega
               have n2:IntKind.u64.wrap ((r0:Int)+(Y1:Int))=(r2:Int):=by rw [IntKind.wrap_u64];have:=HU.out;omega
               have HD2:=Lib.hid k2
               have hpq:p0<q0:=by omega
               clear k2 hp hr2
               by_cases hov:4294967296≤r2
               · have hov2:(4294967296:Int)≤(r2:Int):=by omega
                 have hfin0:p0=(U2*4294967296+U0) / (Y1*4294967296+Y0):=HD2.out.over (by have:=HU.out;omega) HU.out.2.2.1 k3 hov
                 obtain ⟨A3,l1⟩:∃A3:Nat,IntKind.u64.wrap ((U2:Int)*4294967296)=(A3:Int)∧A3=U2*4294967296 % 18446744073709551616:=⟨_,by rw [IntKind.wrap_u64];omega,rfl⟩
                 obtain ⟨A4,l2⟩:∃A4:Nat,IntKind.u64.wrap ((A3:Int)+(U0:Int))=(A4:Int)∧A4=(A3+U0) % 18446744073709551616:=⟨_,by rw [IntKind.wrap_u64];omega,rfl⟩
                 obtain ⟨C2,l3⟩:∃C2:Nat,IntKind.u64.wrap ((p0:Int)*(Y:Int))=(C2:Int)∧C2=p0*Y % 18446744073709551616:=⟨_,by rw [←Int.natCast_mul,IntKind.wrap_u64];omega,rfl⟩
                 obtain ⟨U3,l4,l5⟩:∃U3:Nat,IntKind.u64.wrap ((A4:Int)-(C2:Int))=(U3:Int)∧U3=(U2*4294967296+U0) % Y:=by
                  have h1:=Nat.div_add_mod (U2*4294967296+U0) Y
                  have h2:=Nat.mod_lt (U2*4294967296+U0) (show 0<Y by have:=HNM.out;omega)
                  have h3:p0=(U2*4294967296+U0) / Y:=by rw [hfin0,HYS.out]
                  rw [←h3,Nat.mul_comm] at h1
                  refine ⟨_,?_,rfl⟩
                  rw [l2.2,l1.2,l3.2]
                  exact wrap_rest h1 (Nat.lt_trans h2 HNM.out.2.2.2.2.2.2.2.2.2)
                 have l6:(U3:Int) / 2 ^ s=rm:=by
                  have h1:U*(4294967296*4294967296)+(U1*4294967296+U0)=(hi*18446744073709551616+lo)*2 ^ s:=by have:=HNM.out;omega
                  have h2:=shift_mod (a:=hi*18446744073709551616+lo) (y:=y) (s:=s)
                  have h3:U3=(hi*18446744073709551616+lo)*2 ^ s % (y*2 ^ s):=by rw [l5,HU2.out,two_digits (show 0<Y by have:=HNM.out;omega),h1,HNM.out.1]
                  rw [int_div_pow,HRM.out,h3,h2]
                 obtain ⟨l1,-⟩:=l1
                 obtain ⟨l2,-⟩:=l2
                 obtain ⟨l3,-⟩:=l3
                 clear l5 hfin0
                 go_wp2_with fail
                 go_ret2
                 first | exact ⟨⟨_,rfl⟩,HE.out⟩ | exact ⟨_,rfl,HE.out⟩ | exact ⟨⟨_,rfl⟩,Ext.then_dr HE.out⟩
               · have hov2:¬(4294967296:Int)≤(r2:Int):=by omega
                 go_wp2_with fail
                 go_roundw
                 case rel=>exact ⟨p0,r2,rfl,rfl,by omega,HD2,HE⟩
                 case measure=>simp [intOf];omega
             · have ht02:¬(N3:Int)<(M0:Int):=by omega
               have hfin0:q0=(U2*4294967296+U0) / (Y1*4294967296+Y0):=HD.out.fit (by have:=HU.out;omega) (by rw [←HMN0.out.1,←HMN0.out.2];omega)
               obtain ⟨A3,l1⟩:∃A3:Nat,IntKind.u64.wrap ((U2:Int)*4294967296)=(A3:Int)∧A3=U2*4294967296 % 18446744073709551616:=⟨_,by rw [IntKind.wrap_u64];omega,rfl⟩
               obtain ⟨A4,l2⟩:∃A4:Nat,IntKind.u64.wrap ((A3:Int)+(U0:Int))=(A4:Int)∧A4=(A3+U0) % 18446744073709551616:=⟨_,by rw [IntKind.wrap_u64];omega,rfl⟩
               obtain ⟨C2,l3⟩:∃C2:Nat,IntKind.u64.wrap ((q0:Int)*(Y:Int))=(C2:Int)∧C2=q0*Y % 18446744073709551616:=⟨_,by rw [←Int.natCast_mul,IntKind.wrap_u64];omega,rfl⟩
               obtain ⟨U3,l4,l5⟩:∃U3:Nat,IntKind.u64.wrap ((A4:Int)-(C2:Int))=(U3:Int)∧U3=(U2*4294967296+U0) % Y:=by
                have h1:=Nat.div_add_mod (U2*4294967296+U0) Y
                have h2:=Nat.mod_lt (U2*4294967296+U0) (show 0<Y by have:=HNM.out;omega)
                have h3:q0=(U2*4294967296+U0) / Y:=by rw [hfin0,HYS.out]
                rw [←h3,Nat.mul_comm] at h1
                refine ⟨_,?_,rfl⟩
                rw [l2.2,l1.2,l3.2]
                exact wrap_rest h1 (Nat.lt_trans h2 HNM.out.2.2.2.2.2.2.2.2.2)
               have l6:(U3:Int) / 2 ^ s=rm:=by
                have h1:U*(4294967296*4294967296)+(U1*4294967296+U0)=(hi*18446744073709551616+lo)*2 ^ s:=by have:=HNM.out;omega
                have h2:=shift_mod (a:=hi*18446744073709551616+lo) (y:=y) (s:=s)
                have h3:U3=(hi*18446744073709551616+lo)*2 ^ s % (y*2 ^ s):=by rw [l5,HU2.out,two_digits (show 0<Y by have:=HNM.out;omega),h1,HNM.out.1]
                rw [int_div_pow,HRM.out,h3,h2]
               obtain ⟨l1,-⟩:=l1
               obtain ⟨l2,-⟩:=l2
               obtain ⟨l3,-⟩:=l3
               clear l5 hfin0
               go_wp2_with fail
               go_ret2
               first | exact ⟨⟨_,rfl⟩,HE.out⟩ | exact ⟨_,rfl,HE.out⟩ | exact ⟨⟨_,rfl⟩,Ext.then_dr HE.out⟩
        · have hov2:¬(4294967296:Int)≤(r2:Int):=by omega
          go_wp2_with fail
          go_roundw
          case rel=>exact ⟨p,r2,rfl,rfl,by omega,HD2,HE⟩
          case measure=>simp [intOf];omega
      · have ht2:¬(N2:Int)<(M:Int):=by omega
        have hfin:q=D:=by rw [HDD.out];exact HD.out.fit (by have:=HU.out;omega) (by rw [←HMN.out.1,←HMN.out.2];omega)
        obtain ⟨A,g1,g1'⟩:∃A:Nat,IntKind.u64.wrap ((U:Int)*4294967296)=(A:Int)∧A=U*4294967296 % 18446744073709551616:=⟨_,by rw [IntKind.wrap_u64];omega,rfl⟩
        obtain ⟨A2,g2,g2'⟩:∃A2:Nat,IntKind.u64.wrap ((A:Int)+(U1:Int))=(A2:Int)∧A2=(A+U1) % 18446744073709551616:=⟨_,by rw [IntKind.wrap_u64];omega,rfl⟩
        obtain ⟨C,g3,g3'⟩:∃C:Nat,IntKind.u64.wrap ((q:Int)*(Y:Int))=(C:Int)∧C=q*Y % 18446744073709551616:=⟨_,by rw [←Int.natCast_mul,IntKind.wrap_u64];omega,rfl⟩
        have HYS:Hid (Y1*4294967296+Y0=Y):=Lib.hid (by have:=HNM.out;omega)
        obtain ⟨U2,g4,hu2,hu2lt⟩:∃U2:Nat,IntKind.u64.wrap ((A2:Int)-(C:Int))=(U2:Int)∧U2=(U*4294967296+U1) % Y∧U2<Y:=by
         have h1:=Nat.div_add_mod (U*4294967296+U1) Y
         have h2:=Nat.mod_lt (U*4294967296+U1) (show 0<Y by have:=HNM.out;omega)
         have h3:q=(U*4294967296+U1) / Y:=by rw [hfin,HDD.out,HYS.out]
         rw [←h3,Nat.mul_comm] at h1
         refine ⟨_,?_,rfl,h2⟩
         rw [g2',g1',g3']
         exact wrap_rest h1 (Nat.lt_trans h2 HNM.out.2.2.2.2.2.2.2.2.2)
        have HU2:=Lib.hid hu2
        obtain ⟨Q0,QY0,R0,f1,f2,f3,hR0,HD0⟩:∃Q QY R:Nat,IntKind.u64.wrap ((U2:Int) / (Y1:Int))=(Q:Int)∧IntKind.u64.wrap ((Q:Int)*(Y1:Int))=(QY:Int)∧IntKind.u64.wrap ((U2:Int)-(QY:Int))=(R:Int)∧R<4294967296∧Hid (Dg 4294967296 Y1 Y0 U2 U0 Q R):=by
         have h:=HU.out
         have hd:=Dg.start (n:=U0) (show U2<Y1*4294967296+Y0 by rw [HYS.out];exact hu2lt) h.2.1 h.2.2.1 h.2.2.2.2.1
         have hm:=Nat.mod_lt U2 (show 0<Y1 by omega)
         have he:=hd.eq
         have hl:=hd.le
         have hU64:U2<18446744073709551616:=by have:=HNM.out;omega
         refine ⟨U2 / Y1,U2 / Y1*Y1,U2 % Y1,?_,?_,?_,by omega,Lib.hid hd⟩
         · rw [←Int.natCast_ediv,IntKind.wrap_u64]
           generalize U2 / Y1=u at *
           omega
         · rw [←Int.natCast_mul,IntKind.wrap_u64]
           generalize U2 / Y1*Y1=u at *
           omega
         · rw [IntKind.wrap_u64]
           generalize U2 / Y1*Y1=u at *
           generalize U2 % Y1=v at *
           omega
        have HFN:=Lib.hid hfin
        clear g1' g2' g3' hu2 hfin
        go_upto_region 24 with fail
        go_loopw [16,18] (fun rv qv wr=>∃q0 r0:Nat,qv=.int .u64 q0∧rv=.int .u64 r0∧r0<4294967296∧Hid (Dg 4294967296 Y1 Y0 U2 U0 q0 r0)∧Hid (Ext w1 wr)) (fun _ qv _=>(intOf qv).toNat)
        case atStart=>exact ⟨Q0,R0,rfl,rfl,hR0,HD0,HE⟩
        case round =>
         obtain ⟨q0,r0,rfl,rfl,hr0,HD,HE⟩:=hrel
         clear f1 f2 f3 g1 g2 g3 g4
         have hq0:=HD.out.le
         obtain ⟨M0,hM,j1⟩:∃M:Nat,M=q0*Y0∧IntKind.u64.wrap ((q0:Int)*(Y0:Int))=(M:Int):=by
          refine ⟨_,rfl,?_⟩
          have h1:q0*Y0≤4294967297*4294967295:=Nat.mul_le_mul hq0 (by have:=HU.out;omega)
          rw [←Int.natCast_mul,IntKind.wrap_u64]
          omega
         obtain ⟨N0,hN,j2⟩:∃N:Nat,N=4294967296*r0∧IntKind.u64.wrap (4294967296*(r0:Int))=(N:Int):=by
          refine ⟨_,rfl,?_⟩
          rw [IntKind.wrap_u64]
          omega
         obtain ⟨N3,hN2,j3⟩:∃N2:Nat,N2=N0+U0∧IntKind.u64.wrap ((N0:Int)+(U0:Int))=(N2:Int):=by
          refine ⟨_,rfl,?_⟩
          rw [IntKind.wrap_u64]
          have:=HU.out
          omega
         have HMN0:Hid (M0=q0*Y0∧N3=4294967296*r0+U0):=Lib.hid ⟨hM,by rw [hN2,hN]⟩
         clear hM hN hN2
         by_cases hb0:4294967296≤q0
         · have hb02:(4294967296:Int)≤(q0:Int):=by omega
           have HT:Hid (4294967296≤q0∨4294967296*r0+U0<q0*Y0):=Lib.hid (.inl hb0)
           obtain ⟨k1,k2,k3⟩:=HD.out.dec (show U2<Y1*4294967296+Y0 by rw [HYS.out];exact hu2lt) HU.out.2.2.2.2.1 HT.out
           obtain ⟨p0,hp⟩:∃p,p=q0-1:=⟨_,rfl⟩
           obtain ⟨r2,hr2⟩:∃r2,r2=r0+Y1:=⟨_,rfl⟩
           rw [←hp,←hr2] at k2
           rw [←hp] at k3
           have n1:IntKind.u64.wrap ((q0:Int)-1)=(p0:Int):=by rw [IntKind.wrap_u64];omega
           have n2:IntKind.u64.wrap ((r0:Int)+(Y1:Int))=(r2:Int):=by rw [IntKind.wrap_u64];have:=HU.out;omega
           have HD2:=Lib.hid k2
           have hpq:p0<q0:=by omega
           clear k2 hp hr2
           by_cases hov:4294967296≤r2
           · have hov2:(4294967296:Int)≤(r2:Int):=by omega
             have hfin0:p0=(U2*4294967296+U0) / (Y1*4294967296+Y0):=HD2.out.over (by have:=HU.out;omega) HU.out.2.2.1 k3 hov
             obtain ⟨A3,l1⟩:∃A3:Nat,IntKind.u64.wrap ((U2:Int)*4294967296)=(A3:Int)∧A3=U2*4294967296 % 18446744073709551616:=⟨_,by rw [IntKind.wrap_u64];omega,rfl⟩
             obtain ⟨A4,l2⟩:∃A4:Nat,IntKind.u64.wrap ((A3:Int)+(U0:Int))=(A4:Int)∧A4=(A3+U0) % 18446744073709551616:=⟨_,by rw [IntKind.wrap_u64];omega,rfl⟩
             obtain ⟨C2,l3⟩:∃C2:Nat,IntKind.u64.wrap ((p0:Int)*(Y:Int))=(C2:Int)∧C2=p0*Y % 18446744073709551616:=⟨_,by rw [←Int.natCast_mul,IntKind.wrap_u64];omega,rfl⟩
             obtain ⟨U3,l4,l5⟩:∃U3:Nat,IntKind.u64.wrap ((A4:Int)-(C2:Int))=(U3:Int)∧U3=(U2*4294967296+U0) % Y:=by
              have h1:=Nat.div_add_mod (U2*4294967296+U0) Y
              have h2:=Nat.mod_lt (U2*4294967296+U0) (show 0<Y by have:=HNM.out;omega)
              have h3:p0=(U2*4294967296+U0) / Y:=by rw [hfin0,HYS.out]
              rw [←h3,Nat.mul_comm] at h1
              refine ⟨_,?_,rfl⟩
              rw [l2.2,l1.2,l3.2]
              exact wrap_rest h1 (Nat.lt_trans h2 HNM.out.2.2.2.2.2.2.2.2.2)
             have l6:(U3:Int) / 2 ^ s=rm:=by
              have h1:U*(4294967296*4294967296)+(U1*4294967296+U0)=(hi*18446744073709551616+lo)*2 ^ s:=by have:=HNM.out;omega
              have h2:=shift_mod (a:=hi*18446744073709551616+lo) (y:=y) (s:=s)
              have h3:U3=(hi*18446744073709551616+lo)*2 ^ s % (y*2 ^ s):=by rw [l5,HU2.out,two_digits (show 0<Y by have:=HNM.out;omega),h1,HNM.out.1]
              rw [int_div_pow,HRM.out,h3,h2]
             obtain ⟨l1,-⟩:=l1
             obtain ⟨l2,-⟩:=l2
             obtain ⟨l3,-⟩:=l3
             clear l5 hfin0
             go_wp2_with fail
             go_ret2
             first | exact ⟨⟨_,rfl⟩,HE.out⟩ | exact ⟨_,rfl,HE.out⟩ | exact ⟨⟨_,rfl⟩,Ext.then_dr HE.out⟩
           · have hov2:¬(4294967296:Int)≤(r2:Int):=by omega
             go_wp2_with fail
             go_roundw
             case rel=>exact ⟨p0,r2,rfl,rfl,by omega,HD2,HE⟩
             case measure=>simp [intOf];omega
         · have hb02:¬(4294967296:Int)≤(q0:Int):=by omega
           by_cases ht0:N3<M0
           · have ht02:(N3:Int)<(M0:Int):=by omega
             have HT:Hid (4294967296≤q0∨4294967296*r0+U0<q0*Y0):=Lib.hid (.inr (by rw [←HMN0.out.1,←HMN0.out.2];exact ht0))
             obtain ⟨k1,k2,k3⟩:=HD.out.dec (show U2<Y1*4294967296+Y0 by rw [HYS.out];exact hu2lt) HU.out.2.2.2.2.1 HT.out
             obtain ⟨p0,hp⟩:∃p,p=q0-1:=⟨_,rfl⟩
             obtain ⟨r2,hr2⟩:∃r2,r2=r0+Y1:=⟨_,rfl⟩
             rw [←hp,←hr2] at k2
             rw [←hp] at k3
             have n1:IntKind.u64.wrap ((q0:Int)-1)=(p0:Int):=by rw [IntKind.wrap_u64];omega
             have n2:IntKind.u64.wrap ((r0:Int)+(Y1:Int))=(r2:Int):=by rw [IntKind.wrap_u64];have:=HU.out;omega
             have HD2:=Lib.hid k2
             have hpq:p0<q0:=by omega
             clear k2 hp hr2
             by_cases hov:4294967296≤r2
             · have hov2:(4294967296:Int)≤(r2:Int):=by omega
               have hfin0:p0=(U2*4294967296+U0) / (Y1*4294967296+Y0):=HD2.out.over (by have:=HU.out;omega) HU.out.2.2.1 k3 hov
               obtain ⟨A3,l1⟩:∃A3:Nat,IntKind.u64.wrap ((U2:Int)*4294967296)=(A3:Int)∧A3=U2*4294967296 % 18446744073709551616:=⟨_,by rw [IntKind.wrap_u64];omega,rfl⟩
               obtain ⟨A4,l2⟩:∃A4:Nat,IntKind.u64.wrap ((A3:Int)+(U0:Int))=(A4:Int)∧A4=(A3+U0) % 18446744073709551616:=⟨_,by rw [IntKind.wrap_u64];omega,rfl⟩
               obtain ⟨C2,l3⟩:∃C2:Nat,IntKind.u64.wrap ((p0:Int)*(Y:Int))=(C2:Int)∧C2=p0*Y % 18446744073709551616:=⟨_,by rw [←Int.natCast_mul,IntKind.wrap_u64];omega,rfl⟩
               obtain ⟨U3,l4,l5⟩:∃U3:Nat,IntKind.u64.wrap ((A4:Int)-(C2:Int))=(U3:Int)∧U3=(U2*4294967296+U0) % Y:=by
                have h1:=Nat.div_add_mod (U2*4294967296+U0) Y
                have h2:=Nat.mod_lt (U2*4294967296+U0) (show 0<Y by have:=HNM.out;omega)
                have h3:p0=(U2*4294967296+U0) / Y:=by rw [hfin0,HYS.out]
                rw [←h3,Nat.mul_comm] at h1
                refine ⟨_,?_,rfl⟩
                rw [l2.2,l1.2,l3.2]
                exact wrap_rest h1 (Nat.lt_trans h2 HNM.out.2.2.2.2.2.2.2.2.2)
               have l6:(U3:Int) / 2 ^ s=rm:=by
                have h1:U*(4294967296*4294967296)+(U1*4294967296+U0)=(hi*18446744073709551616+lo)*2 ^ s:=by have:=HNM.out;omega
                have h2:=shift_mod (a:=hi*18446744073709551616+lo) (y:=y) (s:=s)
                have h3:U3=(hi*18446744073709551616+lo)*2 ^ s % (y*2 ^ s):=by rw [l5,HU2.out,two_digits (show 0<Y by have:=HNM.out;omega),h1,HNM.out.1]
                rw [int_div_pow,HRM.out,h3,h2]
               obtain ⟨l1,-⟩:=l1
               obtain ⟨l2,-⟩:=l2
               obtain ⟨l3,-⟩:=l3
               clear l5 hfin0
               go_wp2_with fail
               go_ret2
               first | exact ⟨⟨_,rfl⟩,HE.out⟩ | exact ⟨_,rfl,HE.out⟩ | exact ⟨⟨_,rfl⟩,Ext.then_dr HE.out⟩
             · have hov2:¬(4294967296:Int)≤(r2:Int):=by omega
               go_wp2_with fail
               go_roundw
               case rel=>exact ⟨p0,r2,rfl,rfl,by omega,HD2,HE⟩
               case measure=>simp [intOf];omega
           · have ht02:¬(N3:Int)<(M0:Int):=by omega
             have hfin0:q0=(U2*4294967296+U0) / (Y1*4294967296+Y0):=HD.out.fit (by have:=HU.out;omega) (by rw [←HMN0.out.1,←HMN0.out.2];omega)
             obtain ⟨A3,l1⟩:∃A3:Nat,IntKind.u64.wrap ((U2:Int)*4294967296)=(A3:Int)∧A3=U2*4294967296 % 18446744073709551616:=⟨_,by rw [IntKind.wrap_u64];omega,rfl⟩
             obtain ⟨A4,l2⟩:∃A4:Nat,IntKind.u64.wrap ((A3:Int)+(U0:Int))=(A4:Int)∧A4=(A3+U0) % 18446744073709551616:=⟨_,by rw [IntKind.wrap_u64];omega,rfl⟩
             obtain ⟨C2,l3⟩:∃C2:Nat,IntKind.u64.wrap ((q0:Int)*(Y:Int))=(C2:Int)∧C2=q0*Y % 18446744073709551616:=⟨_,by rw [←Int.natCast_mul,IntKind.wrap_u64];omega,rfl⟩
             obtain ⟨U3,l4,l5⟩:∃U3:Nat,IntKind.u64.wrap ((A4:Int)-(C2:Int))=(U3:Int)∧U3=(U2*4294967296+U0) % Y:=by
              have h1:=Nat.div_add_mod (U2*4294967296+U0) Y
              have h2:=Nat.mod_lt (U2*4294967296+U0) (show 0<Y by have:=HNM.out;omega)
              have h3:q0=(U2*4294967296+U0) / Y:=by rw [hfin0,HYS.out]
              rw [←h3,Nat.mul_comm] at h1
              refine ⟨_,?_,rfl⟩
              rw [l2.2,l1.2,l3.2]
              exact wrap_rest h1 (Nat.lt_trans h2 HNM.out.2.2.2.2.2.2.2.2.2)
             have l6:(U3:Int) / 2 ^ s=rm:=by
              have h1:U*(4294967296*4294967296)+(U1*4294967296+U0)=(hi*18446744073709551616+lo)*2 ^ s:=by have:=HNM.out;omega
              have h2:=shift_mod (a:=hi*18446744073709551616+lo) (y:=y) (s:=s)
              have h3:U3=(hi*18446744073709551616+lo)*2 ^ s % (y*2 ^ s):=by rw [l5,HU2.out,two_digits (show 0<Y by have:=HNM.out;omega),h1,HNM.out.1]
              rw [int_div_pow,HRM.out,h3,h2]
             obtain ⟨l1,-⟩:=l1
             obtain ⟨l2,-⟩:=l2
             obtain ⟨l3,-⟩:=l3
             clear l5 hfin0
             go_wp2_with fail
             go_ret2
             first | exact ⟨⟨_,rfl⟩,HE.out⟩ | exact ⟨_,rfl,HE.out⟩ | exact ⟨⟨_,rfl⟩,Ext.then_dr HE.out⟩

theorem rem_words {X m:Nat} (hm:0<m):(X / 18446744073709551616 % m*18446744073709551616+X % 18446744073709551616) % m=X % m:=by
 have h:=Nat.div_add_mod X 18446744073709551616
 have h1:(X / 18446744073709551616 % m*18446744073709551616+X % 18446744073709551616) % m=(X / 18446744073709551616*18446744073709551616+X % 18446744073709551616) % m:=by
  rw [Nat.add_mod,Nat.mul_mod,Nat.mod_mod,←Nat.mul_mod,←Nat.add_mod]
 rw [h1,Nat.mul_comm,h]
theorem remI_pos {a b:Int} {m:Nat} {X:Nat} (h:a*b=(X:Int)):remI a b m=((X % m:Nat):Int):=by
 unfold remI
 rw [h]
 rfl
theorem remI_neg {a b:Int} {m:Nat} {X:Nat} (hm:0<m) (h:a*b=-(X:Int)):remI a b m=if X % m=0 then 0 else (m:Int)-((X % m:Nat):Int):=by
 unfold remI
 rw [h]
 have h1:=Nat.div_add_mod X m
 have h2:=Nat.mod_lt X hm
 split
 · rename_i h3
   rw [Int.neg_emod_eq_sub_emod]
   have:(X:Int)=(m:Int)*((X / m:Nat):Int):=by
    rw [←Int.natCast_mul];congr 1;omega
   rw [this]
   simp
 · rename_i h3
   have e:-(X:Int)=((m:Int)-((X % m:Nat):Int))+(m:Int)*(-((X / m:Nat):Int)-1):=by
    have:(X:Int)=(m:Int)*((X / m:Nat):Int)+((X % m:Nat):Int):=by
     rw [←Int.natCast_mul,←Int.natCast_add];congr 1;omega
    rw [Int.mul_sub,Int.mul_neg]
    omega
   rw [e,Int.add_mul_emod_self_left]
   exact Int.emod_eq_of_lt (by omega) (by omega)
theorem remainder_any {w:World} {a b:Int} {m:Nat} (ha:-4611686018427387904≤a∧a≤4611686018427387904) (hb:-4611686018427387904≤b∧b≤4611686018427387904) (hm:0<m) (hm2:m≤4611686018427387904) :
 Calls Tryz.prog 110 #[.int .i64 a,.int .i64 b,.int .i64 m] w fun e w'=>e=.returned (.int .i64 (remI a b m))∧Ext w w':=by
 obtain ⟨x,hx⟩:∃x:Nat,x=a.natAbs:=⟨_,rfl⟩
 obtain ⟨y,hy⟩:∃y:Nat,y=b.natAbs:=⟨_,rfl⟩
 have hxa:absI a=(x:Int):=by rw [hx];unfold absI;omega
 have hyb:absI b=(y:Int):=by rw [hy];unfold absI;omega
 have HABA:=Lib.hid (fun (w':World)=>abs_any (w:=w') (x:=a) (by omega))
 have HABB:=Lib.hid (fun (w':World)=>abs_any (w:=w') (x:=b) (by omega))
 rw [hxa] at HABA
 rw [hyb] at HABB
 have c1:IntKind.u64.wrap (x:Int)=x:=by rw [IntKind.wrap_u64];omega
 have c2:IntKind.u64.wrap (y:Int)=y:=by rw [IntKind.wrap_u64];omega
 have c3:IntKind.u64.wrap (m:Int)=m:=by rw [IntKind.wrap_u64];omega
 have HMUL:=Lib.hid (fun (w':World)=>Tryz.bits_Mul64 x y (by omega) (by omega) w')
 obtain ⟨hi,hhi⟩:∃hi,hi=x*y / 18446744073709551616:=⟨_,rfl⟩
 obtain ⟨lo,hlo⟩:∃lo,lo=x*y % 18446744073709551616:=⟨_,rfl⟩
 rw [←hhi,←hlo] at HMUL
 obtain ⟨h2,hh2,hh2lt⟩:∃h2,h2=hi % m∧h2<m:=⟨_,rfl,Nat.mod_lt _ hm⟩
 have hlt:lo<18446744073709551616:=by rw [hlo];exact Nat.mod_lt _ (by omega)
 have HDIV:=Lib.hid (fun (w':World)=>div64_any (w:=w') (hi:=h2) (lo:=lo) (y:=m) hm hh2lt (by omega) hlt)
 have hr:(h2*18446744073709551616+lo) % m=x*y % m:=by rw [hh2,hhi,hlo];exact rem_words hm
 rw [hr] at HDIV
 obtain ⟨r,hrr,hrm⟩:∃r,r=x*y % m∧r<m:=⟨_,rfl,Nat.mod_lt _ hm⟩
 rw [←hrr] at HDIV
 have d1:Int.tmod (hi:Int) (m:Int)=(h2:Int):=by rw [hh2];rfl
 have d2:¬(m:Int)=0:=by omega
 have d3:((m:Int)==(0:Int))=false:=beq_eq_false_iff_ne.2 d2
 have d4:IntKind.i64.wrap (r:Int)=r:=by rw [IntKind.wrap_i64];omega
 have d5:IntKind.i64.wrap ((m:Int)-(r:Int))=(m:Int)-(r:Int):=by rw [IntKind.wrap_i64];omega
 have HX:=Lib.hid (And.intro hx (And.intro hy hrr))
 obtain ⟨z,hz⟩:∃z,z=remI a b m:=⟨_,rfl⟩
 rw [←hz]
 have HZ:=Lib.hid hz
 clear hx hy hxa hyb hhi hlo hh2 hlt hr hrr hz
 go_enter Tryz.func110,Tryz.ntmps110
 go_wp2_with fail
 refine (HABA.out _).mono ?_
 rintro e w1 ⟨rfl,hE1⟩
 go_wp2_with fail
 refine (HABB.out _).mono ?_
 rintro e w2 ⟨rfl,hE2⟩
 go_wp2_with fail
 refine (HMUL.out _).mono ?_
 rintro e w3 ⟨rfl,rfl⟩
 go_wp2_with fail
 refine (HDIV.out _).mono ?_
 rintro e w4 ⟨q,rfl,hE4⟩
 have HE:=Lib.hid ((hE1.trans hE2).trans hE4)
 clear hE1 hE2 hE4
 have hpos:a*b=((x*y:Nat):Int)→z=(r:Int):=fun h=>by rw [HZ.out,remI_pos h,HX.out.2.2]
 have hneg:a*b=-((x*y:Nat):Int)→z=if r=0 then 0 else (m:Int)-(r:Int):=fun h=>by rw [HZ.out,remI_neg hm h,HX.out.2.2]
 have HPN:=Lib.hid (And.intro hpos hneg)
 clear hpos hneg
 by_cases sa:a<0
 · have da:decide (a<0)=true:=decide_eq_true sa
   have ea:a=-(x:Int):=by have:=HX.out.1;omega
   by_cases sb:b<0
   · have db:decide (b<0)=true:=decide_eq_true sb
     have eb:b=-(y:Int):=by have:=HX.out.2.1;omega
     have hv:z=(r:Int):=HPN.out.1 (by rw [ea,eb,Int.neg_mul_neg,Int.natCast_mul])
     clear ea eb
     by_cases hr0:0<(r:Int)
     · skip
       have HV:=Lib.hid hv
       clear hv
       go_wp2_with fail
       all_goals
        go_ret
        refine ⟨?_,HE.out⟩
        rw [HV.out]
        first | rfl | (simp [d4,d5];done) | (exfalso;omega)
     · skip
       have HV:=Lib.hid hv
       clear hv
       go_wp2_with fail
       all_goals
        go_ret
        refine ⟨?_,HE.out⟩
        rw [HV.out]
        first | rfl | (simp [d4,d5];done) | (exfalso;omega)
   · have db:decide (b<0)=false:=decide_eq_false sb
     have eb:b=(y:Int):=by have:=HX.out.2.1;omega
     have hv:=HPN.out.2 (by rw [ea,eb,Int.neg_mul,Int.natCast_mul])
     clear ea eb
     by_cases hr0:0<(r:Int)
     · rw [if_neg (by omega)] at hv
       have HV:=Lib.hid hv
       clear hv
       go_wp2_with fail
       all_goals
        go_ret
        refine ⟨?_,HE.out⟩
        rw [HV.out]
        first | rfl | (simp [d4,d5];done) | (exfalso;omega)
     · have hv:z=(r:Int):=by rw [hv,if_pos (by omega)];omega
       have HV:=Lib.hid hv
       clear hv
       go_wp2_with fail
       all_goals
        go_ret
        refine ⟨?_,HE.out⟩
        rw [HV.out]
        first | rfl | (simp [d4,d5];done) | (exfalso;omega)
 · have da:decide (a<0)=false:=decide_eq_false sa
   have ea:a=(x:Int):=by have:=HX.out.1;omega
   by_cases sb:b<0
   · have db:decide (b<0)=true:=decide_eq_true sb
     have eb:b=-(y:Int):=by have:=HX.out.2.1;omega
     have hv:=HPN.out.2 (by rw [ea,eb,Int.mul_neg,Int.natCast_mul])
     clear ea eb
     by_cases hr0:0<(r:Int)
     · rw [if_neg (by omega)] at hv
       have HV:=Lib.hid hv
       clear hv
       go_wp2_with fail
       all_goals
        go_ret
        refine ⟨?_,HE.out⟩
        rw [HV.out]
        first | rfl | (simp [d4,d5];done) | (exfalso;omega)
     · have hv:z=(r:Int):=by rw [hv,if_pos (by omega)];omega
       have HV:=Lib.hid hv
       clear hv
       go_wp2_with fail
       all_goals
        go_ret
        refine ⟨?_,HE.out⟩
        rw [HV.out]
        first | rfl | (simp [d4,d5];done) | (exfalso;omega)
   · have db:decide (b<0)=false:=decide_eq_false sb
     have eb:b=(y:Int):=by have:=HX.out.2.1;omega
     have hv:z=(r:Int):=HPN.out.1 (by rw [ea,eb,Int.natCast_mul])
     clear ea eb
     by_cases hr0:0<(r:Int)
     · skip
       have HV:=Lib.hid hv
       clear hv
       go_wp2_with fail
       all_goals
        go_ret
        refine ⟨?_,HE.out⟩
        rw [HV.out]
        first | rfl | (simp [d4,d5];done) | (exfalso;omega)
     · skip
       have HV:=Lib.hid hv
       clear hv
       go_wp2_with fail
       all_goals
        go_ret
        refine ⟨?_,HE.out⟩
        rw [HV.out]
        first | rfl | (simp [d4,d5];done) | (exfalso;omega)

theorem dot_take:∀{p V:List Int} {k:Nat},k<p.length→k<V.length→dot (p.take (k+1)) (V.take (k+1))=dot (p.take k) (V.take k)+gt p k*gt V k:=by
 intro p
 induction p with
 | nil=>intro V k h;simp at h
 | cons a p ih =>
   intro V k h1 h2
   cases V with
   | nil=>simp at h2
   | cons v V =>
     cases k with
     | zero=>simp [dot,gt]
     | succ k =>
       have h:=ih (V:=V) (k:=k) (by simpa using h1) (by simpa using h2)
       rw [List.take_succ_cons,List.take_succ_cons,List.take_succ_cons,List.take_succ_cons]
       show a*v+dot (p.take (k+1)) (V.take (k+1))=a*v+dot (p.take k) (V.take k)+gt p k*gt V k
       rw [h]
       omega
/-- a partial sum -/
structure SumI (p V:List Int) (m:Nat) (k:Nat) (s:Int):Prop where
 lo:0≤s
 hi:s<m
 dv:(m:Int)∣dot (p.take k) (V.take k)-s
theorem SumI.start {p V:List Int} {m c:Nat} (hm:0<m) (hz:∀k≤c,gt p k=0∨gt V k=0):SumI p V m (c+1) 0:=by
 refine ⟨by omega,by omega,?_⟩
 have:dot (p.take (c+1)) (V.take (c+1))=0:=dot_zero (fun k=>by
  by_cases hk:k≤c
  · rcases hz k hk with h | h
    · left;unfold gt at h ⊢;rw [List.getD_eq_getElem?_getD] at h ⊢;rw [List.getElem?_take_of_lt (by omega)];exact h
    · right;unfold gt at h ⊢;rw [List.getD_eq_getElem?_getD] at h ⊢;rw [List.getElem?_take_of_lt (by omega)];exact h
  · left;exact gt_out (by rw [List.length_take];omega))
 rw [this]
 simp
theorem SumI.next {p V:List Int} {m k:Nat} {s:Int} (h:SumI p V m k s) (hm:0<m) (h1:k<p.length) (h2:k<V.length):SumI p V m (k+1) ((s+remI (gt p k) (gt V k) m) % m):=by
 have hm':(m:Int)≠0:=by omega
 refine ⟨Int.emod_nonneg _ hm',Int.emod_lt_of_pos _ (by omega),?_⟩
 rw [dot_take h1 h2]
 have d1:(m:Int)∣(s+remI (gt p k) (gt V k) m)-(s+remI (gt p k) (gt V k) m) % m:=Int.dvd_self_sub_emod
 have d2:(m:Int)∣gt p k*gt V k-remI (gt p k) (gt V k) m:=Int.dvd_self_sub_emod
 have e:dot (p.take k) (V.take k)+gt p k*gt V k-(s+remI (gt p k) (gt V k) m) % m=(dot (p.take k) (V.take k)-s)+(gt p k*gt V k-remI (gt p k) (gt V k) m)+((s+remI (gt p k) (gt V k) m)-(s+remI (gt p k) (gt V k) m) % m):=by omega
 rw [e]
 exact Int.dvd_add (Int.dvd_add h.dv d2) d1
theorem SumI.full {p V:List Int} {m n:Nat} {s:Int} (h:SumI p V m n s) (h1:p.length=n) (h2:V.length=n):(m:Int)∣dot p V-s:=by
 have:=h.dv
 rwa [List.take_of_length_le (by omega),List.take_of_length_le (by omega)] at this
theorem esum_any {w:World} {s1 pb vb n c m:Nat} {p V:List Int} (h0:w.cell? ⟨s1,0,none⟩=some (.slice (some ⟨pb,0,none⟩) n n)) (hp:w.heap[pb]?=some (.cells (intsC p) 3)) (hv:w.heap[vb]?=some (.cells (intsC V) 3)) (lp:p.length=n) (lv:V.length=n) (bp:B40 p)
 (bv:∀x∈V,0≤x∧x≤4611686018427387904) (hm:0<m) (hm2:m≤2305843009213693952) (hc:c<n) (hz:∀k≤c,gt p k=0∨gt V k=0) (hn:n≤1000) :
 Calls Tryz.prog 75 #[.pointer (some ⟨s1,0,none⟩),.int .i64 c,.slice (some ⟨vb,0,none⟩) n n,.int .i64 m] w fun e w'=>∃s:Int,e=.returned (.int .i64 s)∧0≤s∧s<m∧(m:Int)∣dot p V-s∧Ext w w':=by
 have HP:=Lib.hid hp
 have HV:=Lib.hid hv
 have HC0:=Lib.hid h0
 have HL:=Lib.hid (And.intro lp lv)
 have HB:=Lib.hid (And.intro bp bv)
 have HS0:Hid (SumI p V m (c+1) 0):=Lib.hid (SumI.start hm hz)
 have hw1:IntKind.i64.wrap ((c:Int)+1)=((c+1:Nat):Int):=by rw [IntKind.wrap_i64];omega
 have d2:¬(m:Int)=0:=by omega
 have d4:¬m=0:=by omega
 have d3:((m:Int)==(0:Int))=false:=beq_eq_false_iff_ne.2 d2
 clear hp hv h0 lp lv bp bv hz
 obtain ⟨k0,hk0,hk1⟩:∃k0,k0=c+1∧k0≤n:=⟨_,rfl,by omega⟩
 rw [←hk0] at hw1 HS0
 clear hk0
 have HE0:Hid (Ext w w):=Lib.hid (Ext.refl _)
 go_enter Tryz.func75,Tryz.ntmps75
 go_upto_region 3 with fail
 obtain ⟨w0,hw0⟩:∃w0,w0=w:=⟨_,rfl⟩
 go_loopw [9,10] (fun sv kv wr=>∃(k:Nat) (s:Int),kv=.int .i64 k∧sv=.int .i64 s∧k≤n∧Hid (SumI p V m k s)∧Hid (Ext w wr)) (fun _ kv _=>n-(intOf kv).toNat)
 case atStart=>exact ⟨k0,0,rfl,rfl,hk1,HS0,HE0⟩
 case round =>
  obtain ⟨k,s,rfl,rfl,hk,HS,HE⟩:=hrel
  by_cases hlt:k<n
  · have hkz:(k:Int)<(n:Int):=by omega
    have hk0:(0:Int)≤(k:Int):=by omega
    obtain ⟨a,ha⟩:∃a,a=gt p k:=⟨_,rfl⟩
    obtain ⟨b,hb⟩:∃b,b=gt V k:=⟨_,rfl⟩
    have c0:=cs_ext HE.out HC0.out
    have c1:wr.cell? ⟨pb,k,none⟩=some (.int .i64 a):=by rw [ha];exact intsC_at (hs_ext HE.out HP.out) (gt_at (by rw [HL.out.1];exact hlt))
    have c2:wr.cell? ⟨vb,k,none⟩=some (.int .i64 b):=by rw [hb];exact intsC_at (hs_ext HE.out HV.out) (gt_at (by rw [HL.out.2];exact hlt))
    have har:=HB.out.1 a (by rw [ha];exact gt_mem (by rw [HL.out.1];exact hlt))
    have hbr:=HB.out.2 b (by rw [hb];exact gt_mem (by rw [HL.out.2];exact hlt))
    have HREM:=Lib.hid (fun (w':World)=>remainder_any (w:=w') (a:=a) (b:=b) (m:=m) (by omega) (by omega) hm (by omega))
    obtain ⟨t,ht⟩:∃t,t=remI a b m:=⟨_,rfl⟩
    have htr:0≤t∧t<m:=by rw [ht];exact ⟨Int.emod_nonneg _ d2,Int.emod_lt_of_pos _ (by omega)⟩
    rw [←ht] at HREM
    have hs1:=HS.out.lo
    have hs2:=HS.out.hi
    obtain ⟨u,hu⟩:∃u,u=s+t:=⟨_,rfl⟩
    have hwu:IntKind.i64.wrap (s+t)=u:=by rw [hu,IntKind.wrap_i64];omega
    obtain ⟨v,hv⟩:∃v,v=u % (m:Int):=⟨_,rfl⟩
    have htm:Int.tmod u (m:Int)=v:=by rw [hv];exact Int.tmod_eq_emod_of_nonneg (by omega)
    have HNX:Hid (SumI p V m (k+1) v):=Lib.hid (by rw [hv,hu,ht,ha,hb];exact HS.out.next hm (by rw [HL.out.1];exact hlt) (by rw [HL.out.2];exact hlt))
    have hwk:IntKind.i64.wrap ((k:Int)+1)=((k+1:Nat):Int):=by rw [IntKind.wrap_i64];omega
    clear ha hb ht hu hv har hbr htr hs1 hs2
    go_upto_region 5 with fail
    have HFCT:=Lib.hid (And.intro c0 (And.intro c1 c2))
    refine wp_region_reg 17 false (by kernel_rfl) (by kernel_rfl) ?_
    refine reg_value (fun _=>rfl) ?_ (fun g w' vs hM hE hP=>?_) ?_
    rotate_left
    · (clear hP hM;go_simp;first | done | rfl)
    refine reg_value (fun _=>rfl) ?_ (fun g w' vs hM hE hP=>?_) ?_
    rotate_left
    · (clear hP hM;go_simp;first | done | rfl)
    refine reg_value (fun _=>rfl) ?_ (fun g w' vs hM hE hP=>?_) ?_
    rotate_left
    · (clear hP hM;go_simp;first | done | rfl)
    refine reg_value (fun _=>rfl) ?_ (fun g w' vs hM hE hP=>?_) ?_
    rotate_left
    · (clear hP hM;go_simp;first | done | rfl)
    refine reg_value (fun _=>rfl) ?_ (fun g w' vs hM hE hP=>?_) ?_
    rotate_left
    · (clear hP hM;have ⟨z0,z1,z2⟩:=cs_e3 hE HFCT.out;go_simp;first | done | rfl)
    refine reg_value (fun _=>rfl) ?_ (fun g w' vs hM hE hP=>?_) ?_
    rotate_left
    · (clear hP hM;go_simp;first | done | rfl)
    refine reg_value (fun _=>rfl) ?_ (fun g w' vs hM hE hP=>?_) ?_
    rotate_left
    · (clear hP hM;go_simp;first | done | rfl)
    refine reg_value (fun _=>rfl) ?_ (fun g w' vs hM hE hP=>?_) ?_
    rotate_left
    · (clear hP hM;have ⟨z0,z1,z2⟩:=cs_e3 hE HFCT.out;go_simp;first | done | rfl)
    refine reg_value (fun _=>rfl) ?_ (fun g w' vs hM hE hP=>?_) ?_
    rotate_left
    · (clear hP hM;go_simp;first | done | rfl)
    refine reg_value (fun _=>rfl) ?_ (fun g w' vs hM hE hP=>?_) ?_
    rotate_left
    · (clear hP hM;go_simp;first | done | rfl)
    refine reg_value (fun _=>rfl) ?_ (fun g w' vs hM hE hP=>?_) ?_
    rotate_left
    · (clear hP hM;go_simp;first | done | rfl)
    refine reg_value (fun _=>rfl) ?_ (fun g w' vs hM hE hP=>?_) ?_
    rotate_left
    · (clear hP hM;have ⟨z0,z1,z2⟩:=cs_e3 hE HFCT.out;go_simp;first | done | rfl)
    refine reg_value (fun _=>rfl) ?_ (fun g w' vs hM hE hP=>?_) ?_
    rotate_left
    · (clear hP hM;go_simp;first | done | rfl)
    refine reg_const (fun _=>rfl) 110 ?_ (fun g w' vs hM hE hP=>?_) ?_
    rotate_left
    · (clear hP hM;have ⟨z0,z1,z2⟩:=cs_e3 hE HFCT.out;go_simp;first | done | exact ⟨rfl,rfl⟩ | rfl)
    apply Exists.intro
    refine And.intro (fun g w' vs hM hE hP=>?_) ?_
    · exact HREM.out _
    refine reg_value (fun _=>rfl) ?_ (fun g w' vs hM hE hP=>?_) ?_
    rotate_left
    · (clear hP hM;go_simp;first | done | rfl)
    refine reg_value (fun _=>rfl) ?_ (fun g w' vs hM hE hP=>?_) ?_
    rotate_left
    · (clear hP hM;go_simp;first | done | rfl)
    refine reg_value (fun _=>rfl) ?_ (fun g w' vs hM hE hP=>?_) ?_
    rotate_left
    · (clear hP hM;go_simp;first | done | rfl)
    intro g wz hE2 hF hQ
    simp only [List.drop_succ_cons,List.drop_zero,Act.put,List.setIfInBounds_toArray,List.set_cons_succ,List.set_cons_zero]
    have HEZ:Hid (Ext w wz):=Lib.hid (HE.out.trans hE2)
    clear hE2 hF hQ c0 c1 c2
    go_wp2_with fail
    go_roundw
    case rel=>exact ⟨k+1,v,rfl,rfl,by omega,HNX,HEZ⟩
    case measure=>simp [intOf];omega
  · have hkz:¬(k:Int)<(n:Int):=by omega
    have hkn:k=n:=by omega
    have HF:Hid (0≤s∧s<m∧(m:Int)∣dot p V-s∧Ext w wr):=Lib.hid (by
     have h:=HS.out
     rw [hkn] at h
     exact ⟨h.lo,h.hi,h.full HL.out.1 HL.out.2,HE.out⟩)
    clear hkn
    go_wp2_with fail
    go_ret
    exact ⟨s,rfl,HF.out⟩

theorem tmod_fix {e M:Int} (hM:0<M):Int.tmod (Int.tmod e M+M) M=e % M∧-M<Int.tmod e M∧Int.tmod e M<M:=by
 have h1:(Int.tmod e M).natAbs<M.natAbs:=by rw [Int.natAbs_tmod];exact Nat.mod_lt _ (by omega)
 have h2:=Int.tmod_add_tdiv_mul e M
 refine ⟨?_,by omega,by omega⟩
 rw [Int.tmod_eq_emod_of_nonneg (by omega)]
 have h3:Int.tmod e M+M=e+M*(1-Int.tdiv e M):=by rw [Int.mul_sub,Int.mul_one,Int.mul_comm M];omega
 rw [h3,Int.add_mul_emod_self_left]
theorem eexact_any {w:World} {x0:Value} {s1 pb vb n c m:Nat} {p V:List Int} (h0:w.cell? ⟨s1,0,none⟩=some (.slice (some ⟨pb,0,none⟩) n n)) (hp:w.heap[pb]?=some (.cells (intsC p) 3)) (hv:w.heap[vb]?=some (.cells (intsC V) 3)) (lp:p.length=n) (lv:V.length=n) (bp:B40 p)
 (bv:∀x∈V,0≤x∧x≤4611686018427387904) (hm:0<m) (hm2:m≤1073741824) (hc:c<n) (ha0:gt p c≠0) (ha1:absI (gt p c)≤1073741824) (hz:∀k≤c,gt p k=0∨gt V k=0) (hn:n≤1000) :
 Calls Tryz.prog 37 #[x0,.pointer (some ⟨s1,0,none⟩),.int .i64 c,.slice (some ⟨vb,0,none⟩) n n,.int .i64 m] w fun e w'=>∃s z:Int,e=.returned (.int .i64 z)∧(m:Int)*absI (gt p c)∣dot p V-s∧z=(if 0<gt p c then -(s / absI (gt p c)) else s / absI (gt p c)) % (m:Int)∧Ext w w':=by
 obtain ⟨a,ha⟩:∃a,a=gt p c:=⟨_,rfl⟩
 have c1:w.cell? ⟨pb,c,none⟩=some (.int .i64 a):=by rw [ha];exact intsC_at hp (gt_at (by omega))
 rw [←ha] at ha0 ha1 ⊢
 obtain ⟨za,hza⟩:∃za:Nat,za=a.natAbs:=⟨_,rfl⟩
 have hab:absI a=(za:Int):=by rw [hza];unfold absI;omega
 rw [hab] at ha1 ⊢
 have hz1:1≤za:=by omega
 obtain ⟨M,hM⟩:∃M,M=m*za:=⟨_,rfl⟩
 have hM1:0<M∧M≤1152921504606846976:=by
  rw [hM]
  refine ⟨Nat.mul_pos hm (by omega),?_⟩
  exact Nat.mul_le_mul hm2 (by omega:za≤1073741824)
 have e1:IntKind.i64.wrap ((m:Int)*(za:Int))=(M:Int):=by rw [←Int.natCast_mul,←hM,IntKind.wrap_i64];omega
 have HABS:=Lib.hid (fun (w':World)=>abs_any (w:=w') (x:=a) (by omega))
 rw [hab] at HABS
 have HSUM:=Lib.hid (fun (w':World) (hE:Ext w w')=>esum_any (w:=w') (c:=c) (m:=M) (cs_ext hE h0) (hs_ext hE hp) (hs_ext hE hv) lp lv bp bv hM1.1 (by omega) hc hz hn)
 have HMZ:Hid ((M:Int)=(m:Int)*(za:Int)):=Lib.hid (by rw [hM];exact Int.natCast_mul _ _)
 have hcz:(c:Int)<(n:Int):=by omega
 have hc0:(0:Int)≤(c:Int):=by omega
 have d2:¬(m:Int)=0:=by omega
 have d4:¬m=0:=by omega
 have d5:¬(za:Int)=0:=by omega
 have d6:¬za=0:=by omega
 have hzz:(za:Int)≤1073741824:=by omega
 clear ha hp hv lp lv bp bv hz hza hab hM
 go_enter Tryz.func37,Tryz.ntmps37
 go_wp2_with fail
 refine (HABS.out _).mono ?_
 rintro e w1 ⟨rfl,hE1⟩
 go_wp2_with fail
 refine (HSUM.out _ (by first | exact hE1 | exact (by repeat (first | exact Ext.refl _ | exact Ext.alloc _ _ | apply Ext.then_dr | apply Ext.then_drN | apply Ext.then_drN2 | (refine Ext.then_al ?_ _))))).mono ?_
 rintro e w2 ⟨s,rfl,hs1,hs2,hs3,hE2⟩
 go_wp2_with fail
 refine (HABS.out _).mono ?_
 rintro e w3 ⟨rfl,hE3⟩
 have HE:=Lib.hid ((hE1.trans hE2).trans hE3)
 have HS3:=Lib.hid hs3
 obtain ⟨d,hd⟩:∃d,d=s / (za:Int):=⟨_,rfl⟩
 have hd1:0≤d∧d≤1152921504606846976:=by
  rw [hd]
  refine ⟨Int.ediv_nonneg hs1 (by omega),?_⟩
  have:=Int.ediv_le_self (za:Int) hs1
  omega
 have t1:Int.tdiv s (za:Int)=d:=by rw [hd];exact Int.tdiv_eq_ediv_of_nonneg hs1
 have t2:s / (za:Int)=d:=hd.symm
 have t3:IntKind.i64.wrap d=d:=by rw [IntKind.wrap_i64];omega
 have t4:IntKind.i64.wrap (-d)=-d:=by rw [IntKind.wrap_i64];omega
 clear hE1 hE2 hE3 hs3 hd
 by_cases hap:0<a
 · have hap2:decide (0<a)=true:=decide_eq_true hap
   have HPP:∀x y:Int,(if 0<a then x else y)=x:=fun x y=>if_pos hap
   have HIF:Hid ((if 0<a then -(s / (za:Int)) else s / (za:Int))=-d):=Lib.hid (by rw [if_pos hap,t2])
   obtain ⟨f,hf⟩:∃f,f=Int.tmod (-d) (m:Int):=⟨_,rfl⟩
   obtain ⟨k1,k2,k3⟩:=tmod_fix (e:=(-d)) (M:=(m:Int)) (by omega)
   rw [←hf] at k1 k2 k3
   have t5:Int.tmod (-d) (m:Int)=f:=hf.symm
   have t6:IntKind.i64.wrap (f+(m:Int))=f+(m:Int):=by rw [IntKind.wrap_i64];omega
   have HRES:Hid (∃s z:Int,(-d) % (m:Int)=z∧(m:Int)*(za:Int)∣dot p V-s∧z=(if 0<a then -(s / (za:Int)) else s / (za:Int)) % (m:Int)):=Lib.hid ⟨s,(-d) % (m:Int),rfl,by rw [←HMZ.out];exact HS3.out,by rw [HIF.out]⟩
   clear hf t2
   go_wp2_with fail
   go_ret
   obtain ⟨s',z,r1,r2,r3⟩:=HRES.out
   rw [HPP] at r3
   exact ⟨s',z,by rw [←r1];rfl,r2,r3,HE.out⟩
 · have hap2:decide (0<a)=false:=decide_eq_false hap
   have HPP:∀x y:Int,(if 0<a then x else y)=y:=fun x y=>if_neg hap
   have HIF:Hid ((if 0<a then -(s / (za:Int)) else s / (za:Int))=d):=Lib.hid (by rw [if_neg hap,t2])
   obtain ⟨f,hf⟩:∃f,f=Int.tmod d (m:Int):=⟨_,rfl⟩
   obtain ⟨k1,k2,k3⟩:=tmod_fix (e:=d) (M:=(m:Int)) (by omega)
   rw [←hf] at k1 k2 k3
   have t5:Int.tmod d (m:Int)=f:=hf.symm
   have t6:IntKind.i64.wrap (f+(m:Int))=f+(m:Int):=by rw [IntKind.wrap_i64];omega
   have HRES:Hid (∃s z:Int,d % (m:Int)=z∧(m:Int)*(za:Int)∣dot p V-s∧z=(if 0<a then -(s / (za:Int)) else s / (za:Int)) % (m:Int)):=Lib.hid ⟨s,d % (m:Int),rfl,by rw [←HMZ.out];exact HS3.out,by rw [HIF.out]⟩
   clear hf t2
   go_wp2_with fail
   go_ret
   obtain ⟨s',z,r1,r2,r3⟩:=HRES.out
   rw [HPP] at r3
   exact ⟨s',z,by rw [←r1];rfl,r2,r3,HE.out⟩

theorem eprime1_any {w:World} {s1 pb vb n c m:Nat} {p V:List Int} (h0:w.cell? ⟨s1,0,none⟩=some (.slice (some ⟨pb,0,none⟩) n n)) (hp:w.heap[pb]?=some (.cells (intsC p) 3)) (hv:w.heap[vb]?=some (.cells (intsC V) 3)) (lp:p.length=n) (lv:V.length=n) (bp:B40 p)
 (bv:∀x∈V,0≤x∧x≤4611686018427387904) (hm:PrimeS m) (hm2:m≤10000) (hc:c<n) (hx:gt p c % (m:Int)≠0) (hz:∀k≤c,gt p k=0∨gt V k=0) (hn:n≤1000) :
 Calls Tryz.prog 74 #[.pointer (some ⟨s1,0,none⟩),.int .i64 c,.slice (some ⟨vb,0,none⟩) n n,.int .i64 m] w fun e w'=>∃z:Int,e=.returned (.int .i64 z)∧0≤z∧z<m∧(m:Int)∣dot p V+gt p c*z∧Ext w w':=by
 have hm0:0<m:=by have:=hm.1;omega
 obtain ⟨a,ha⟩:∃a,a=gt p c:=⟨_,rfl⟩
 have y0:=h0
 have c1:w.cell? ⟨pb,c,none⟩=some (.int .i64 a):=by rw [ha];exact intsC_at hp (gt_at (by omega))
 rw [←ha] at hx ⊢
 have har:=bp a (by rw [ha];exact gt_mem (by omega))
 have HSUM:=Lib.hid (fun (w':World) (hE:Ext w w')=>esum_any (w:=w') (c:=c) (m:=m) (cs_ext hE h0) (hs_ext hE hp) (hs_ext hE hv) lp lv bp bv hm0 (by omega) hc hz hn)
 obtain ⟨f,hf⟩:∃f,f=Int.tmod a (m:Int):=⟨_,rfl⟩
 have hfr:-(m:Int)<f∧f<m:=by
  have h1:(Int.tmod a (m:Int)).natAbs<(m:Int).natAbs:=by rw [Int.natAbs_tmod];exact Nat.mod_lt _ (by omega)
  omega
 obtain ⟨b,hb⟩:∃b,b=a % (m:Int):=⟨_,rfl⟩
 obtain ⟨k1,k2,k3⟩:=tmod_fix (e:=a) (M:=(m:Int)) (by omega)
 rw [←hf,←hb] at k1
 have t1:Int.tmod a (m:Int)=f:=hf.symm
 have t2:IntKind.i64.wrap (f+(m:Int))=f+(m:Int):=by rw [IntKind.wrap_i64];omega
 have t3:Int.tmod (f+(m:Int)) (m:Int)=b:=k1
 have hbr:0≤b∧b<m:=by rw [hb];exact ⟨Int.emod_nonneg _ (by omega),Int.emod_lt_of_pos _ (by omega)⟩
 have HB:Hid (∀z:Int,(m:Int)∣(a-b)*z):=Lib.hid (fun z=>by rw [hb];exact Int.dvd_mul_of_dvd_left Int.dvd_self_sub_emod)
 have HPR:=Lib.hid hm
 have HBX:Hid (b % (m:Int)≠0):=Lib.hid (by rw [hb,Int.emod_emod_of_dvd _ (Int.dvd_refl _)];exact hx)
 have hcz:(c:Int)<(n:Int):=by omega
 have hc0:(0:Int)≤(c:Int):=by omega
 have d2:¬(m:Int)=0:=by omega
 have d4:¬m=0:=by omega
 have d3:((m:Int)==(0:Int))=false:=beq_eq_false_iff_ne.2 d2
 clear ha h0 hp hv lp lv bp bv hz hm hx hf hb k1 k2 k3 har
 go_enter Tryz.func74,Tryz.ntmps74
 go_upto_region 1 with fail
 have HFCT:=Lib.hid (And.intro y0 c1)
 refine wp_region_reg 20 false (by kernel_rfl) (by kernel_rfl) ?_
 refine reg_value (fun _=>rfl) ?_ (fun g w' vs hM hE hP=>?_) ?_
 rotate_left
 · (clear hP hM;have ⟨z0,z1⟩:=cs_e2 hE HFCT.out;go_simp;first | done | rfl)
 refine reg_value (fun _=>rfl) ?_ (fun g w' vs hM hE hP=>?_) ?_
 rotate_left
 · (clear hP hM;have ⟨z0,z1⟩:=cs_e2 hE HFCT.out;go_simp;first | done | rfl)
 refine reg_value (fun _=>rfl) ?_ (fun g w' vs hM hE hP=>?_) ?_
 rotate_left
 · (clear hP hM;have ⟨z0,z1⟩:=cs_e2 hE HFCT.out;go_simp;first | done | rfl)
 refine reg_value (fun _=>rfl) ?_ (fun g w' vs hM hE hP=>?_) ?_
 rotate_left
 · (clear hP hM;have ⟨z0,z1⟩:=cs_e2 hE HFCT.out;go_simp;first | done | rfl)
 refine reg_call (fun _=>rfl) 75 (fun _=>#[.pointer (some ⟨s1,0,none⟩),.int .i64 c,.slice (some ⟨vb,0,none⟩) n n,.int .i64 m]) (fun g w' m hM hE hP=>?_) (fun u _=>∃s:Int,u=.int .i64 s∧0≤s∧s<m∧(m:Int)∣dot p V-s) ⟨fun _ _ _ h _=>h,(fun h=>nomatch h),fun h=>absurd rfl h⟩ (fun g w' m hM hE hP=>?_) ?_
 · clear hM hP
   go_simp
 · exact (HSUM.out w' hE).mono fun e w'' ⟨s,h1,h2,h3,h4,h5⟩=>⟨_,h1,h5,s,rfl,h2,h3,h4⟩
 refine reg_value (fun _=>rfl) ?_ (fun g w' vs hM hE hP=>?_) ?_
 rotate_left
 · (clear hP hM;have ⟨z0,z1⟩:=cs_e2 hE HFCT.out;go_simp;first | done | rfl)
 refine reg_value (fun _=>rfl) ?_ (fun g w' vs hM hE hP=>?_) ?_
 rotate_left
 · (clear hP hM;have ⟨z0,z1⟩:=cs_e2 hE HFCT.out;go_simp;first | done | rfl)
 refine reg_value (fun _=>rfl) ?_ (fun g w' vs hM hE hP=>?_) ?_
 rotate_left
 · (clear hP hM;have ⟨z0,z1⟩:=cs_e2 hE HFCT.out;go_simp;first | done | rfl)
 refine reg_value (fun _=>rfl) ?_ (fun g w' vs hM hE hP=>?_) ?_
 rotate_left
 · (clear hP hM;have ⟨z0,z1⟩:=cs_e2 hE HFCT.out;go_simp;first | done | rfl)
 refine reg_value (fun _=>rfl) ?_ (fun g w' vs hM hE hP=>?_) ?_
 rotate_left
 · (clear hP hM;have ⟨z0,z1⟩:=cs_e2 hE HFCT.out;go_simp;first | done | rfl)
 refine reg_value (fun _=>rfl) ?_ (fun g w' vs hM hE hP=>?_) ?_
 rotate_left
 · (clear hP hM;have ⟨z0,z1⟩:=cs_e2 hE HFCT.out;go_simp;first | done | rfl)
 refine reg_value (fun _=>rfl) ?_ (fun g w' vs hM hE hP=>?_) ?_
 rotate_left
 · (clear hP hM;have ⟨z0,z1⟩:=cs_e2 hE HFCT.out;go_simp;first | done | rfl)
 refine reg_value (fun _=>rfl) ?_ (fun g w' vs hM hE hP=>?_) ?_
 rotate_left
 · (clear hP hM;have ⟨z0,z1⟩:=cs_e2 hE HFCT.out;go_simp;first | done | rfl)
 refine reg_value (fun _=>rfl) ?_ (fun g w' vs hM hE hP=>?_) ?_
 rotate_left
 · (clear hP hM;have ⟨z0,z1⟩:=cs_e2 hE HFCT.out;go_simp;first | done | rfl)
 refine reg_value (fun _=>rfl) ?_ (fun g w' vs hM hE hP=>?_) ?_
 rotate_left
 · (clear hP hM;have ⟨z0,z1⟩:=cs_e2 hE HFCT.out;go_simp;first | done | rfl)
 refine reg_value (fun _=>rfl) ?_ (fun g w' vs hM hE hP=>?_) ?_
 rotate_left
 · (clear hP hM;have ⟨z0,z1⟩:=cs_e2 hE HFCT.out;go_simp;first | done | rfl)
 refine reg_value (fun _=>rfl) ?_ (fun g w' vs hM hE hP=>?_) ?_
 rotate_left
 · (clear hP hM;have ⟨z0,z1⟩:=cs_e2 hE HFCT.out;go_simp;first | done | rfl)
 refine reg_value (fun _=>rfl) ?_ (fun g w' vs hM hE hP=>?_) ?_
 rotate_left
 · (clear hP hM;have ⟨z0,z1⟩:=cs_e2 hE HFCT.out;go_simp;first | done | rfl)
 refine reg_value (fun _=>rfl) (fun g=>(g 4).v) (fun g w' vs hM hE hP=>by clear hM hP;go_simp) ?_
 refine reg_value (fun _=>rfl) ?_ (fun g w' vs hM hE hP=>?_) ?_
 rotate_left
 · (clear hP hM;have ⟨z0,z1⟩:=cs_e2 hE HFCT.out;go_simp;first | done | rfl)
 intro g w5 hE5 hF hQ
 simp only [List.drop_succ_cons,List.drop_zero,Act.put,List.setIfInBounds_toArray,List.set_cons_succ,List.set_cons_zero]
 obtain ⟨s,hu,hs1,hs2,hs3⟩:=hQ _ List.mem_cons_self
 have hu:(g 4).v=_:=hu
 rw [hu]
 have HE5:=Lib.hid hE5
 have HS3:=Lib.hid hs3
 have HST:Hid (∀v:Nat,v<0→(s+b*v) % (m:Int)≠0):=Lib.hid (fun v h=>absurd h (by omega))
 clear hF hQ hE5 hu hs3 t1 t3 c1 y0
 go_upto_region 3 with fail
 go_loopw [8,11,31] (fun x8 x9 vv wr=>∃v:Nat,vv=.int .i64 v∧v≤m∧Hid (Ext w wr)∧Hid (∀z:Nat,z<v→(s+b*z) % (m:Int)≠0)) (fun _ _ vv _=>m-(intOf vv).toNat)
 case atStart=>exact ⟨0,rfl,by omega,HE5,HST⟩
 case round =>
  obtain ⟨v,rfl,hv,HEV,HV⟩:=hrel
  by_cases hlt:v<m
  · have hvz:(v:Int)<(m:Int):=by omega
    obtain ⟨q,hq⟩:∃q,q=b*(v:Int):=⟨_,rfl⟩
    have hqr:0≤q∧q≤100000000:=by
     rw [hq]
     refine ⟨Int.mul_nonneg hbr.1 (by omega),?_⟩
     exact Int.mul_le_mul (by omega:b≤10000) (by omega:(v:Int)≤10000) (by omega) (by omega)
    have t4:IntKind.i64.wrap (b*(v:Int))=q:=by rw [←hq,IntKind.wrap_i64];omega
    have t5:IntKind.i64.wrap (s+q)=s+q:=by rw [IntKind.wrap_i64];omega
    obtain ⟨r,hr⟩:∃r,r=(s+q) % (m:Int):=⟨_,rfl⟩
    have t6:Int.tmod (s+q) (m:Int)=r:=by rw [hr];exact Int.tmod_eq_emod_of_nonneg (by omega)
    have t7:IntKind.i64.wrap ((v:Int)+1)=((v+1:Nat):Int):=by rw [IntKind.wrap_i64];omega
    by_cases hr0:r=0
    · have t8:(r==(0:Int))=true:=beq_iff_eq.2 hr0
      have t9:decide (r=0)=true:=decide_eq_true hr0
      have HRES:Hid (∃z:Int,z=(v:Int)∧0≤z∧z<m∧(m:Int)∣dot p V+a*z∧Ext w wr):=Lib.hid ⟨v,rfl,by omega,by omega,by
       have h1:(m:Int)∣s+q:=Int.dvd_of_emod_eq_zero (hr.symm.trans hr0)
       have e:dot p V+a*(v:Int)=(dot p V-s)+(s+q)+(a-b)*(v:Int):=by rw [Int.sub_mul,←hq];omega
       rw [e]
       exact Int.dvd_add (Int.dvd_add HS3.out h1) (HB.out _),HEV.out⟩
      clear hq hr hr0
      go_wp2_with fail
      go_ret
      obtain ⟨z,hz,r1,r2,r3,r4⟩:=HRES.out
      exact ⟨z,by rw [hz];rfl,r1,r2,r3,r4⟩
    · have t8:(r==(0:Int))=false:=beq_eq_false_iff_ne.2 hr0
      have t9:decide (r=0)=false:=decide_eq_false hr0
      have HNX:Hid (∀z:Nat,z<v+1→(s+b*z) % (m:Int)≠0):=Lib.hid (fun z hz=>by
       by_cases e:z=v
       · rw [e,←hq,←hr];exact hr0
       · exact HV.out z (by omega))
      clear hq hr hr0
      go_wp2_with fail
      go_roundw
      case rel=>exact ⟨v+1,rfl,by omega,HEV,HNX⟩
      case measure=>simp [intOf];omega
  · have hvz:¬(v:Int)<(m:Int):=by omega
    exfalso
    obtain ⟨z,hz1,hz2⟩:=prime_solve HPR.out (n:=b) (s:=s) HBX.out
    exact HV.out z (by omega) hz2
end Go.Proofs.YtclijngnoepbiaaGreat
