/- Contracts: the program's Add, its result in new memory. -/
import Derived.Test.YtckgjebcehbkfaaG7
import Derived.Test.YtckgjebcehbkfaaZ8
namespace Go.Proofs.Ytckgjebcehbkfaa
open Go Go.RowKit
set_option linter.unusedVariables false
set_option linter.unusedSimpArgs false

theorem hs_new1a {w : World} {o o' : Obj} : ((w.alloc o).alloc o').heap[w.heap.size + 1]? = some o' := by
  have h := hs_new (w := w.alloc o) (o := o')
  rw [World.size_alloc] at h
  exact h
theorem hs_new2a {w : World} {o o' o2 : Obj} : (((w.alloc o).alloc o').alloc o2).heap[w.heap.size + 1 + 1]? = some o2 := by
  have h := hs_new (w := (w.alloc o).alloc o') (o := o2)
  rw [World.size_alloc, World.size_alloc] at h
  exact h
theorem sumR_size (L : List Tm) : sizeT (sumR L) ≤ 1 + sizeL L := by
  unfold sumR
  split
  · have h1 := termOf_size (sumL L [])
    have h2 := sumL_sizeL L []
    simp only [sizeL] at h2
    omega
  · rw [show sizeT zT = 1 by decide +kernel]; omega

set_option maxRecDepth 100000 in
set_option maxHeartbeats 1000000 in
theorem PAdd_new {w : World} {S S' : Nat → Prop} {a a' : Option Addr} {cap cap' : Nat} {s t : Tm} (hn : sizeT s + sizeT t ≤ 80000) (hT : TmW w S a cap s) (hT' : TmW w S' a' cap' t) :
    Calls Try.prog 21 #[.agg #[.int .i64 s.kind, .string s.name, .int .i64 s.sort, .slice a s.kids.length cap], .agg #[.int .i64 t.kind, .string t.name, .int .i64 t.sort, .slice a' t.kids.length cap']] w fun e w' => ∃ u, e = .returned (.tuple #[u, .int .i64 (errSum [s, t])]) ∧ Ext w w' ∧ IsS w' (fun c => w.heap.size ≤ c) u (sumR [s, t]) := by
  have hl := hT.len
  have hc := hT.cap
  have hl' := hT'.len
  have hc' := hT'.cap
  unfold maxLen at hc hc'
  obtain ⟨bx, hbx⟩ : ∃ bx, bx = w.heap.size := ⟨_, rfl⟩
  obtain ⟨w0, hw0⟩ : ∃ w0, w0 = w.alloc (.cells #[.int .i64 s.kind, .string s.name, .int .i64 s.sort, .slice a s.kids.length cap] 24) := ⟨_, rfl⟩
  obtain ⟨w00, hw00⟩ : ∃ w00, w00 = w0.alloc (.cells #[.int .i64 t.kind, .string t.name, .int .i64 t.sort, .slice a' t.kids.length cap'] 24) := ⟨_, rfl⟩
  obtain ⟨w1, hw1⟩ : ∃ w1, w1 = w00.alloc (.cells #[.int .i64 0, .string ⟨#[]⟩, .int .i64 0, .slice none 0 0] 24) := ⟨_, rfl⟩
  have hs0 : bx + 1 = w0.heap.size := by rw [hw0, hbx, World.size_alloc]
  have hs00 : bx + 1 + 1 = w00.heap.size := by rw [hw00, World.size_alloc, hs0]
  have h0 : w1.heap[bx]? = some (.cells #[.int .i64 s.kind, .string s.name, .int .i64 s.sort, .slice a s.kids.length cap] 24) := by rw [hw1, hw00, hw0, hbx]; exact hs_al (hs_al hs_new)
  have h1 : w1.heap[bx + 1]? = some (.cells #[.int .i64 t.kind, .string t.name, .int .i64 t.sort, .slice a' t.kids.length cap'] 24) := by rw [hw1, hw00, hs0]; exact hs_al hs_new
  have h2 : w1.heap[bx + 1 + 1]? = some (.cells #[.int .i64 0, .string ⟨#[]⟩, .int .i64 0, .slice none 0 0] 24) := by rw [hw1, hs00]; exact hs_new
  have hE1 : Ext w w1 := by rw [hw1, hw00, hw0]; exact ((Ext.alloc w _).then_al _).then_al _
  have b0 : w1.cell? ⟨bx, 0, none⟩ = some (.int .i64 s.kind) := by rw [cellc h0]; rfl
  have b1 : w1.cell? ⟨bx, 1, none⟩ = some (.string s.name) := by rw [cellc h0]; rfl
  have b2 : w1.cell? ⟨bx, 2, none⟩ = some (.int .i64 s.sort) := by rw [cellc h0]; rfl
  have b3 : w1.cell? ⟨bx, 3, none⟩ = some (.slice a s.kids.length cap) := by rw [cellc h0]; rfl
  have c0 : w1.cell? ⟨bx + 1, 0, none⟩ = some (.int .i64 t.kind) := by rw [cellc h1]; rfl
  have c1 : w1.cell? ⟨bx + 1, 1, none⟩ = some (.string t.name) := by rw [cellc h1]; rfl
  have c2 : w1.cell? ⟨bx + 1, 2, none⟩ = some (.int .i64 t.sort) := by rw [cellc h1]; rfl
  have c3 : w1.cell? ⟨bx + 1, 3, none⟩ = some (.slice a' t.kids.length cap') := by rw [cellc h1]; rfl
  have hE2 : Ext w (w1.alloc (.cells #[.int .i64 s.kind, .string s.name, .int .i64 s.sort, .slice a s.kids.length cap, .int .i64 t.kind, .string t.name, .int .i64 t.sort, .slice a' t.kids.length cap'] 24)) := hE1.then_al _
  have hcon := PSum_any (w := w1.alloc (.cells #[.int .i64 s.kind, .string s.name, .int .i64 s.sort, .slice a s.kids.length cap, .int .i64 t.kind, .string t.name, .int .i64 t.sort, .slice a' t.kids.length cap'] 24)) (L := [s, t]) (cap := 2) (by simp [sizeL]; omega) (two_ls hs_new (hT.any.ext hE2) (hT'.any.ext hE2))
  have H2 := Lib.hid h2
  have HE1 := Lib.hid hE1
  have HBX := Lib.hid hbx
  have HCON := Lib.hid hcon
  clear hT hT' h0 h1 h2 hE1 hE2 hs0 hs00 hcon
  go_enter Try.func21, Try.ntmps21
  go_upto_region 1 with fail
  rw [← hw0, ← hw00, ← hw1, ← hbx]
  clear hw0 hw00 hw1 hbx
  go_wp2_with fail
  refine HCON.out.mono ?_
  rintro e w2 ⟨u, rfl, hE2, va, vc, rfl, hV⟩
  have hE2 := (Ext.alloc w1 _).trans hE2
  have HG2 := Lib.hid (hs_ext hE2 H2.out)
  have HE2 := Lib.hid (HE1.out.trans hE2)
  have HV := Lib.hid hV
  have HW1 : Hid (bx + 1 + 1 < w1.heap.size) := Lib.hid (lt_of_get' H2.out)
  clear hE2 hV
  go_wp2_with ((refine wpList_storeT rfl (.tmp 4) (.tmp 10) rfl (g := bx + 1 + 1) rfl (k := (sumR [s, t]).kind) (s := (sumR [s, t]).sort) (n := (sumR [s, t]).name) (ka := va) (kl := (sumR [s, t]).kids.length) (kc := vc) rfl HG2.out rfl ?_); intro w6 c6 q6 e6 s6
               have HG6 := Lib.hid c6
               have HE6 := Lib.hid (e6 w HE2.out (by have := HBX.out; omega))
               have HT6 : Hid (TmW w6 (fun c => w.heap.size ≤ c) va vc (sumR [s, t])) := Lib.hid (HV.out.keep (fun c hc hlt => q6 c (by have := HW1.out; simp at hc; omega)) (fun c hc _ => by have := HE1.out.size; simp at hc; show w.heap.size ≤ c; omega))
               clear c6 q6 e6 s6)
  exact ret_term2 (g := bx + 1 + 1) rfl rfl HG6.out rfl ⟨_, rfl, HE6.out, va, vc, rfl, HT6.out⟩

end Go.Proofs.Ytckgjebcehbkfaa
