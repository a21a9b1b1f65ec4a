/- The kit's sort, laid at lists of terms. Contracts: sets of bits. Lists of terms are sorted, whatever their length. -/
import Derived.Test.YtclijngnoepbiaaGreatG1
import Derived.Test.YtclijngnoepbiaaGreatProg
import Derived.Shelf.SlSortCmp.WholeK
import Derived.Test.YtclijngnoepbiaaGreatG5
import Derived.Laws.Bits64
import Derived.Laws.Bits64b
import Derived.Test.YtclijngnoepbiaaGreatG2
import Derived.Shelf.SlSortCmp.NoneTotal
set_option maxRecDepth 100000
set_option maxHeartbeats 8000000
namespace Go.Proofs.YtclijngnoepbiaaGreat
open Go Go.RowKit Go.Sort Go.Proofs Go.Shelf
def sortT_ren:Go.Shelf.Ren:=⟨fun | 6=>123 | 15=>139 | 14=>138 | 28=>156 | 29=>157 | 20=>148 | 21=>149 | 22=>150 | 23=>151 | 24=>152 | 25=>153 | 26=>154 | 27=>155 | 46=>160 | 47=>161 | 48=>162 | 49=>163 | 50=>164 | 57=>166 | n=>n,fun | 22=>31 | 24=>33 | 25=>83 | 3=>3 | 39=>113 | 0=>0 | 53=>172 | 55=>147 | 4=>4 | 46=>166 | 45=>165 | 50=>84 | 5=>5 | 9=>9 | 66=>175 | 70=>101 | 76=>180 | 77=>181 | n=>n,fun | n=>n⟩
theorem sortT:Go.Proofs.SlLaysF0.n6 Tryz.prog sortT_ren:={
 mixed:=by kernel_rfl
 f6:=⟨Tryz.f123.name,by decide,Tryz.func123.trans (congrArg some (by kernel_rfl))⟩
 f14:=⟨Tryz.f138.name,by decide,Tryz.func138.trans (congrArg some (by kernel_rfl))⟩
 f15:=Tryz.func139.trans (congrArg some (by kernel_rfl))
 f20:=⟨Tryz.f148.name,by decide,Tryz.func148.trans (congrArg some (by kernel_rfl))⟩
 f21:=⟨Tryz.f149.name,by decide,Tryz.func149.trans (congrArg some (by kernel_rfl))⟩
 f22:=⟨Tryz.f150.name,by decide,Tryz.func150.trans (congrArg some (by kernel_rfl))⟩
 f23:=⟨Tryz.f151.name,by decide,Tryz.func151.trans (congrArg some (by kernel_rfl))⟩
 f24:=⟨Tryz.f152.name,by decide,Tryz.func152.trans (congrArg some (by kernel_rfl))⟩
 f25:=⟨Tryz.f153.name,by decide,Tryz.func153.trans (congrArg some (by kernel_rfl))⟩
 f26:=⟨Tryz.f154.name,by decide,Tryz.func154.trans (congrArg some (by kernel_rfl))⟩
 f27:=⟨Tryz.f155.name,by decide,Tryz.func155.trans (congrArg some (by kernel_rfl))⟩
 f28:=Tryz.func156.trans (congrArg some (by kernel_rfl))
 f29:=Tryz.func157.trans (congrArg some (by kernel_rfl))
 f46:=⟨Tryz.f160.name,by decide,Tryz.func160.trans (congrArg some (by kernel_rfl))⟩
 f47:=Tryz.func161.trans (congrArg some (by kernel_rfl))
 f48:=Tryz.func162.trans (congrArg some (by kernel_rfl))
 f49:=⟨Tryz.f163.name,by decide,Tryz.func163.trans (congrArg some (by kernel_rfl))⟩
 f50:=⟨Tryz.f164.name,by decide,Tryz.func164.trans (congrArg some (by kernel_rfl))⟩
 f57:=⟨Tryz.f166.name,by decide,Tryz.func166.trans (congrArg some (by kernel_rfl))⟩
 t0:=Tryz.underlying0
 a0:=Tryz.isAgg0
 z0:=Tryz.sizeOf0
 v0:=Tryz.zeroValue0
 t3:=Tryz.underlying3
 a3:=Tryz.isAgg3
 z3:=Tryz.sizeOf3
 v3:=Tryz.zeroValue3
 t4:=Tryz.underlying4
 a4:=Tryz.isAgg4
 z4:=Tryz.sizeOf4
 v4:=Tryz.zeroValue4
 t5:=Tryz.underlying5
 a5:=Tryz.isAgg5
 z5:=Tryz.sizeOf5
 v5:=Tryz.zeroValue5
 t9:=Tryz.underlying9
 a9:=Tryz.isAgg9
 z9:=Tryz.sizeOf9
 v9:=Tryz.zeroValue9
 t22:=Tryz.underlying31
 a22:=Tryz.isAgg31
 z22:=Tryz.sizeOf31
 v22:=Tryz.zeroValue31
 t25:=Tryz.underlying83
 a25:=Tryz.isAgg83
 z25:=Tryz.sizeOf83
 v25:=Tryz.zeroValue83
 t39:=Tryz.underlying113
 a39:=Tryz.isAgg113
 z39:=Tryz.sizeOf113
 v39:=Tryz.zeroValue113
 t45:=Tryz.underlying165
 a45:=Tryz.isAgg165
 z45:=Tryz.sizeOf165
 v45:=Tryz.zeroValue165
 t46:=Tryz.underlying166
 a46:=Tryz.isAgg166
 z46:=Tryz.sizeOf166
 v46:=Tryz.zeroValue166
 t50:=Tryz.underlying84
 a50:=Tryz.isAgg84
 z50:=Tryz.sizeOf84
 v50:=Tryz.zeroValue84
 t53:=Tryz.underlying172
 a53:=Tryz.isAgg172
 z53:=Tryz.sizeOf172
 v53:=Tryz.zeroValue172
 t55:=Tryz.underlying147
 a55:=Tryz.isAgg147
 z55:=Tryz.sizeOf147
 v55:=Tryz.zeroValue147
 t66:=Tryz.underlying175
 a66:=Tryz.isAgg175
 z66:=Tryz.sizeOf175
 v66:=Tryz.zeroValue175
 t70:=Tryz.underlying101
 a70:=Tryz.isAgg101
 z70:=Tryz.sizeOf101
 v70:=Tryz.zeroValue101
 t76:=Tryz.underlying180
 a76:=Tryz.isAgg180
 z76:=Tryz.sizeOf180
 v76:=Tryz.zeroValue180
 t77:=Tryz.underlying181
 a77:=Tryz.isAgg181
 z77:=Tryz.sizeOf181
 v77:=Tryz.zeroValue181 }

end Go.Proofs.YtclijngnoepbiaaGreat

namespace Go.Proofs.YtclijngnoepbiaaGreat
open Go Go.RowKit
set_option linter.unusedVariables false
set_option linter.unusedSimpArgs false

def encW (n:Nat):Value:=.int .u64 n
/-- block g holds the words ws -/
structure BitW (w:World) (g:Nat) (ws:List Nat):Prop where
 row:w.heap[g]?=some (.cells (ws.map encW).toArray 147)
 lt:∀x∈ws,x<18446744073709551616
theorem BitW.ext {w w':World} {g:Nat} {ws:List Nat} (h:BitW w g ws) (hE:Ext w w'):BitW w' g ws:=⟨hs_ext hE h.row,h.lt⟩
theorem BitW.same {w w':World} {g:Nat} {ws:List Nat} (h:BitW w g ws) (hb:w'.heap[g]?=w.heap[g]?):BitW w' g ws:=⟨hb.trans h.row,h.lt⟩
theorem grown_put' {w w':World} (h:Ext w w') (g:Option Nat):w.grownBy w' g:=⟨h.os,h.tape,h.output,h.size,fun k hk _=>h.block hk⟩
theorem grown_trans {w wr w':World} {g:Option Nat} (h:w.grownBy wr g) (k:wr.grownBy w' g):w.grownBy w' g :=
 ⟨k.os.trans h.os,k.tape.trans h.tape,k.output.trans h.output,Nat.le_trans h.size k.size,fun i hi hne=>by rw [k.block i (Nat.lt_of_lt_of_le hi h.size) hne];exact h.block i hi hne⟩
theorem grown_self (w:World) (g:Option Nat):w.grownBy w g:=⟨rfl,rfl,rfl,Nat.le_refl _,fun _ _ _=>rfl⟩

end Go.Proofs.YtclijngnoepbiaaGreat

namespace Go.Proofs.YtclijngnoepbiaaGreat
open Go Go.RowKit Go.Sort Go.Proofs Go.Shelf
set_option linter.unusedVariables false
set_option linter.unusedSimpArgs false

theorem ltT_iff {a b:Tm}:ltT a b↔cmpT a b<0:=by unfold ltT;have:=cmpT_tr a a a;constructor<;>intro h<;>omega

theorem swo_terms {α:Type} (f:α→Tm):SWO (ltOf fun x y:α=>cmpT (f x) (f y)) where
 irrefl x:=by unfold ltOf;exact decide_eq_false (fun h=>ltT_irrefl (ltT_iff.2 h))
 trans x y z h1 h2:=by
  unfold ltOf at *
  exact decide_eq_true (ltT_iff.1 (ltT_trans (ltT_iff.2 (of_decide_eq_true h1)) (ltT_iff.2 (of_decide_eq_true h2))))
 ntrans x y z h1 h2:=by
  have a1:¬ltT (f x) (f y):=fun h=>of_decide_eq_false h1 (ltT_iff.1 h)
  have a2:¬ltT (f y) (f z):=fun h=>of_decide_eq_false h2 (ltT_iff.1 h)
  unfold ltOf
  refine decide_eq_false (fun h=>?_)
  have h3:=ltT_iff.2 h
  rcases ltT_total (f x) (f y) with h4 | h4 | h4
  · exact a1 h4
  · rw [h4] at h3;exact a2 h3
  · rcases ltT_total (f y) (f z) with h5 | h5 | h5
    · exact a2 h5
    · rw [←h5] at h3;exact a1 h3
    · exact ltT_irrefl (ltT_trans h3 (ltT_trans h5 h4))

end Go.Proofs.YtclijngnoepbiaaGreat
