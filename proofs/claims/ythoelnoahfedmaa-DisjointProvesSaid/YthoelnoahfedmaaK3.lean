/- Lists of pairs are sorted, whatever their length. -/
import Derived.Test.YthoelnoahfedmaaS21
import Derived.Test.YthoelnoahfedmaaK1
import Derived.Test.YthoelnoahfedmaaK2
import Derived.Shelf.SlSortCmp.WholeK
namespace Go.Proofs.Ythoelnoahfedmaa
open Go Go.RowKit Go.Sort Go.Proofs Go.Shelf
set_option linter.unusedVariables false
set_option linter.unusedSimpArgs false

def sort47_ren : Go.Shelf.Ren := ⟨fun | 6 => 47 | 15 => 74 | 14 => 73 | 28 => 91 | 29 => 92 | 20 => 83 | 21 => 84 | 22 => 85 | 23 => 86 | 24 => 87 | 25 => 88 | 26 => 89 | 27 => 90 | 46 => 94 | 47 => 95 | 48 => 96 | 49 => 97 | 50 => 98 | 57 => 99 | n => n, fun | 22 => 48 | 24 => 53 | 25 => 87 | 3 => 3 | 39 => 116 | 0 => 0 | 53 => 129 | 55 => 131 | 4 => 4 | 46 => 123 | 45 => 122 | 50 => 90 | 5 => 5 | 9 => 9 | 66 => 132 | 70 => 136 | 76 => 138 | 77 => 139 | n => n, fun | n => n⟩
theorem sort47 : Go.Proofs.SlLaysF0.n6 Try.prog sort47_ren := {
  mixed := by kernel_rfl
  f6 := ⟨Try.f47.name, by decide, Try.func47.trans (congrArg some (by kernel_rfl))⟩
  f14 := ⟨Try.f73.name, by decide, Try.func73.trans (congrArg some (by kernel_rfl))⟩
  f15 := Try.func74.trans (congrArg some (by kernel_rfl))
  f20 := ⟨Try.f83.name, by decide, Try.func83.trans (congrArg some (by kernel_rfl))⟩
  f21 := ⟨Try.f84.name, by decide, Try.func84.trans (congrArg some (by kernel_rfl))⟩
  f22 := ⟨Try.f85.name, by decide, Try.func85.trans (congrArg some (by kernel_rfl))⟩
  f23 := ⟨Try.f86.name, by decide, Try.func86.trans (congrArg some (by kernel_rfl))⟩
  f24 := ⟨Try.f87.name, by decide, Try.func87.trans (congrArg some (by kernel_rfl))⟩
  f25 := ⟨Try.f88.name, by decide, Try.func88.trans (congrArg some (by kernel_rfl))⟩
  f26 := ⟨Try.f89.name, by decide, Try.func89.trans (congrArg some (by kernel_rfl))⟩
  f27 := ⟨Try.f90.name, by decide, Try.func90.trans (congrArg some (by kernel_rfl))⟩
  f28 := Try.func91.trans (congrArg some (by kernel_rfl))
  f29 := Try.func92.trans (congrArg some (by kernel_rfl))
  f46 := ⟨Try.f94.name, by decide, Try.func94.trans (congrArg some (by kernel_rfl))⟩
  f47 := Try.func95.trans (congrArg some (by kernel_rfl))
  f48 := Try.func96.trans (congrArg some (by kernel_rfl))
  f49 := ⟨Try.f97.name, by decide, Try.func97.trans (congrArg some (by kernel_rfl))⟩
  f50 := ⟨Try.f98.name, by decide, Try.func98.trans (congrArg some (by kernel_rfl))⟩
  f57 := ⟨Try.f99.name, by decide, Try.func99.trans (congrArg some (by kernel_rfl))⟩
  t0 := Try.underlying0
  a0 := Try.isAgg0
  z0 := Try.sizeOf0
  v0 := Try.zeroValue0
  t3 := Try.underlying3
  a3 := Try.isAgg3
  z3 := Try.sizeOf3
  v3 := Try.zeroValue3
  t4 := Try.underlying4
  a4 := Try.isAgg4
  z4 := Try.sizeOf4
  v4 := Try.zeroValue4
  t5 := Try.underlying5
  a5 := Try.isAgg5
  z5 := Try.sizeOf5
  v5 := Try.zeroValue5
  t9 := Try.underlying9
  a9 := Try.isAgg9
  z9 := Try.sizeOf9
  v9 := Try.zeroValue9
  t22 := Try.underlying48
  a22 := Try.isAgg48
  z22 := Try.sizeOf48
  v22 := Try.zeroValue48
  t25 := Try.underlying87
  a25 := Try.isAgg87
  z25 := Try.sizeOf87
  v25 := Try.zeroValue87
  t39 := Try.underlying116
  a39 := Try.isAgg116
  z39 := Try.sizeOf116
  v39 := Try.zeroValue116
  t45 := Try.underlying122
  a45 := Try.isAgg122
  z45 := Try.sizeOf122
  v45 := Try.zeroValue122
  t46 := Try.underlying123
  a46 := Try.isAgg123
  z46 := Try.sizeOf123
  v46 := Try.zeroValue123
  t50 := Try.underlying90
  a50 := Try.isAgg90
  z50 := Try.sizeOf90
  v50 := Try.zeroValue90
  t53 := Try.underlying129
  a53 := Try.isAgg129
  z53 := Try.sizeOf129
  v53 := Try.zeroValue129
  t55 := Try.underlying131
  a55 := Try.isAgg131
  z55 := Try.sizeOf131
  v55 := Try.zeroValue131
  t66 := Try.underlying132
  a66 := Try.isAgg132
  z66 := Try.sizeOf132
  v66 := Try.zeroValue132
  t70 := Try.underlying136
  a70 := Try.isAgg136
  z70 := Try.sizeOf136
  v70 := Try.zeroValue136
  t76 := Try.underlying138
  a76 := Try.isAgg138
  z76 := Try.sizeOf138
  v76 := Try.zeroValue138
  t77 := Try.underlying139
  a77 := Try.isAgg139
  z77 := Try.sizeOf139
  v77 := Try.zeroValue139 }

theorem swo_pairs : SWO (ltOf fun x y : Int × Int => ordS x.1 x.2 y.1 y.2) where
  irrefl x := by unfold ltOf; exact decide_eq_false (fun h => ltP_irrefl (ord_lt.1 h))
  trans x y z h1 h2 := by
    unfold ltOf at *
    exact decide_eq_true (ord_lt.2 (ltP_trans (ord_lt.1 (of_decide_eq_true h1)) (ord_lt.1 (of_decide_eq_true h2))))
  ntrans x y z h1 h2 := by
    have a1 : ¬ ltP x y := fun h => of_decide_eq_false h1 (ord_lt.2 h)
    have a2 : ¬ ltP y z := fun h => of_decide_eq_false h2 (ord_lt.2 h)
    unfold ltOf
    refine decide_eq_false (fun h => ?_)
    have h3 := ord_lt.1 h
    clear h h1 h2
    simp only [ltP] at a1 a2 h3
    omega

set_option maxHeartbeats 800000 in
theorem sortOk_all {n : Nat} (h1 : 0 < n) (hn : n ≤ 4000000000000000000) : SortOk n := by
  intro w base v L hl hI hnd hO
  obtain ⟨g, cap, rfl, -, -, -, -⟩ := row2_slice hO h1
  obtain ⟨hH, hlt, hbs, hR⟩ := onw_holds (enc := encP2) (fun _ => rfl) hO hl
  have hsz : L.toArray.size = n := by simp [hl]
  have eg : ∀ args w, (callFunc 48 args).run Try.prog w = .ok (.enter 48 args) w := enters_of Try.func48 (by kernel_rfl) rfl
  have hcon := AnyQ.slices_SortFunc sort47 2 Try.isAgg53 Try.sizeOf53 encP2 (fun _ => rfl) (fun x v hv => by simp [encP2] at hv; rcases hv with rfl | rfl <;> rfl) (fun x y => ordS x.1 x.2 y.1 y.2) swo_pairs 48 #[] g 0 cap L.toArray w eg (fun _ _ _ _ x y => order_grow x.1 x.2 y.1 y.2 _) hH hlt (by rw [hsz]; omega)
  rw [hsz] at hcon
  change Calls Try.prog 47 _ _ _ at hcon
  refine hcon.mono ?_
  rintro e w' ⟨rfl, d', m, os, hp, hs, rfl⟩
  have hd : d'.size = n := by rw [hp.1, hsz]
  obtain ⟨r1, r2⟩ := hR m d' os hd
  have hperm : d'.toList.Perm L := by
    have := hp.2.2
    rw [← hd, Array.extract_size, hd, ← hsz, Array.extract_size] at this
    simpa using this
  refine ⟨rfl, d'.toList, hperm, ?_, r1, r2⟩
  have hnd2 := hperm.nodup_iff.2 hnd
  refine List.pairwise_iff_getElem.2 (fun i j hi hj hij => ?_)
  have hi' : i < d'.size := by simpa using hi
  have hj' : j < d'.size := by simpa using hj
  have h3 := hs i j (Nat.zero_le _) hij (by omega)
  rw [getElem!_pos d' i hi', getElem!_pos d' j hj'] at h3
  have h4 : ¬ ltP d'.toList[j] d'.toList[i] := fun h => by
    unfold ltOf at h3
    exact of_decide_eq_false h3 (ord_lt.2 (by simpa using h))
  rcases ltP_total (x := d'.toList[i]) (y := d'.toList[j]) with h | h | h
  · exact h
  · exact absurd ((List.getElem_inj hnd2).1 h) (by omega)
  · exact absurd h h4

end Go.Proofs.Ythoelnoahfedmaa
