/- Contracts: a term is put into a forest. -/
import Derived.Test.YtkobikdkbpdjeaaDoorB9
import Derived.Deep.RegionLawGrows
namespace Go.Proofs.YtkobikdkbpdjeaaDoor
open Go Go.RowKit
set_option linter.unusedVariables false
set_option linter.unusedSimpArgs false

theorem len_sizeL : ∀ L : List Tm, L.length ≤ sizeL L
 | [] => Nat.zero_le _
 | t :: L => by rw [List.length_cons, sizeL]; have := len_sizeL L; have := sizeT_kids t; omega
theorem sizBu : (Tryd.prog.info? 82).map (fun i => i.size) = some 2 := by kernel_rfl
theorem wpList_storeBu {ops : Array Oper} {rest : List Oper} {o : Oper} {a : Act} {w : World} {Q : Exit → Act → World → Prop} (hgd : o.guard = none) (x y : Operand) (ho : o.op = .store 82 x y)
 {g : Nat} (hx : a.eval x = .pointer (some ⟨g, 0, none⟩)) (hy : a.eval y = .agg #[.pointer none, .slice none 0 0])
 {old : Array Value} (hg : w.heap[g]? = some (.cells old 82)) (ho4 : old.size = 2)
 (hK : ∀ w', w'.heap[g]? = some (.cells #[.pointer none, .slice none 0 0] 82) → (∀ q, q ≠ g → w'.heap[q]? = w.heap[q]?) → (∀ W0, Ext W0 w → W0.heap.size ≤ g → Ext W0 w') → w'.heap.size = w.heap.size → wpList Tryd.prog ops Q rest (a.put o.dst undef) w') :
 wpList Tryd.prog ops Q (o :: rest) a w := by
 refine wpList_store_all hgd 82 x y ho g _ hx hy 82 old hg sizBu ho4 (by simp [Value.oneCell']) ?_
 exact hK _ (setRow_heap w g old _ _ _ hg) (fun q hq => setRow_other w g q _ hq) (fun W0 h hg => h.setRow hg _) (size_setRow _ _ _)
theorem Bu.of {w : World} {bb : Nat} (h : w.heap[bb]? = some (.cells #[.pointer none, .slice none 0 0] 82)) : Bu w bb bb [] :=
 .inl ⟨Nat.le_refl _, .slice none 0 0, h, World.ownsRowF_nil _ _ _ _, by simp [Value.ownBlock]⟩
theorem rnk_i64 (l : List ByteArray) (s : ByteArray) (hl : l.length ≤ 1000000) : I64 (rnk l s) := by
 have key : ∀ l : List ByteArray, -1 ≤ rnk l s ∧ rnk l s < l.length := by
  intro l
  induction l with
  | nil => simp [rnk]
  | cons x l ih => rw [rnk, List.length_cons]; push_cast; split <;> (try split) <;> omega
 have := key l
 unfold I64
 omega

/-- what is in a list without repetition lies in a list that is as long -/
theorem nodup_len {α : Type} [DecidableEq α] : ∀ {L U : List α}, L.Nodup → (∀ x ∈ L, x ∈ U) → L.length ≤ U.length
 | [], _, _, _ => Nat.zero_le _
 | x :: L, U, hn, h => by
   have hx := h x (by simp)
   rw [List.nodup_cons] at hn
   have h2 := nodup_len (U := U.erase x) hn.2 (fun y hy => (List.mem_erase_of_ne (fun e => by subst e; exact hn.1 hy)).2 (h y (by simp [hy])))
   rw [List.length_erase_of_mem hx] at h2
   have := List.length_pos_of_mem hx
   rw [List.length_cons]
   omega
theorem grown_len {l : List ByteArray} {N : List Nd} {U : List Tm} (h : Grown l N) (hU : ∀ q ∈ N, q.t ∈ U) : N.length ≤ U.length := by
 have h1 : (N.map (·.t)).Nodup := by
  rw [List.nodup_iff_pairwise_ne, List.pairwise_iff_getElem]
  intro i j hi hj hij e
  simp only [List.getElem_map] at e
  simp only [List.length_map] at hi hj
  have := h.once i j N[i] N[j] (List.getElem?_eq_getElem hi) (List.getElem?_eq_getElem hj) e
  omega
 have h2 := nodup_len h1 (fun x hx => by
  obtain ⟨q, hq, rfl⟩ := List.mem_map.1 hx
  exact hU q hq)
 rwa [List.length_map] at h2
/-- a forest and a term lie in a list of at most a hundred terms -/
def Fit4 (N : List Nd) (t : Tm) : Prop := ∃ U : List Tm, sizeT t ≤ 100 ∧ U.length ≤ 100 ∧ (∀ q ∈ N, q.t ∈ U) ∧ ∀ x ∈ allT t, x ∈ U

set_option maxRecDepth 100000 in
set_option maxHeartbeats 8000000 in
theorem add_any (n : Nat) : ∀ (w : World) (B fb ib mb : Nat) (l : List ByteArray) (lv nv : Value) (N : List Nd) (S : Nat → Prop) (a : Option Addr) (cap : Nat) (t : Tm), sizeT t ≤ n →
 FW w B fb ib mb l lv nv N S → mb < w.heap.size → l.length ≤ 100 → tameT t → Fit4 N t → TmW w (fun c => c < B) a cap t →
 Calls Tryd.prog 47 #[.pointer (some ⟨fb, 0, none⟩), .agg #[.int .i64 t.kind, .string t.name, .int .i64 t.sort, .slice a t.kids.length cap]] w fun e w' => ∃ i ok, e = .returned (.tuple #[.int .i64 i, .bool ok]) ∧ Added w w' B fb ib mb l lv nv N S t i ok := by
 induction n with
 | zero => intro w B fb ib mb l lv nv N S a cap t hn; have := sizeT_kids t; omega
 | succ n ih =>
   intro w B fb ib mb l lv nv N S a cap t hn hF hmb hl100 ht hfit hT
   obtain ⟨U, hN, hUU⟩ := hfit
   have HUU := Lib.hid hUU
   clear hUU
   obtain ⟨lva, lvc, rfl, hlv1, hlv2⟩ := hF.names.slice
   have hf := hF.blk
   have hkl := hT.len
   have hkc := hT.cap
   have hsk := sizeT_kids t
   have hkn := len_sizeL t.kids
   unfold maxLen at hlv2 hkc
   obtain ⟨bx, w1, hbbx, hwbx, HBbx, hEbx⟩ := box_new w (.cells #[.int .i64 t.kind, .string t.name, .int .i64 t.sort, .slice a t.kids.length cap] 38)
   obtain ⟨b0, b1, b2, b3⟩ := box4r HBbx.out
   have f0 : w1.cell? ⟨fb, 0, none⟩ = some (.slice lva l.length lvc) := cs_ext hEbx (by rw [cellc hf]; rfl)
   have HNM := Lib.hid (hF.names.ext hEbx)
   have HF0 := Lib.hid hF
   have HN := Lib.hid hN
   have HTS := Lib.hid hT
   have HTM := Lib.hid (tameT_open ht)
   have HE1 := Lib.hid hEbx
   have HMB := Lib.hid hmb
   have HBX : Hid (bx = w.heap.size) := Lib.hid hbbx
   obtain ⟨rk, hrk⟩ : ∃ rk, rk = rnk l t.name := ⟨_, rfl⟩
   have HRK := Lib.hid hrk
   have hidx : ∀ w', Ext w1 w' → Calls Tryd.prog 39 #[.slice lva l.length lvc, .string t.name] w' fun e w'' => e = .returned (.int .i64 rk) ∧ Ext w' w'' := fun w' h => (index_any (x := t.name) (HNM.out.ext h)).mono (fun e w'' h => ⟨by rw [h.1, hrk], h.2 ▸ Ext.refl _⟩)
   have HIX : Hid (∀ w', Ext w1 w' → Calls Tryd.prog 39 #[.slice lva l.length lvc, .string t.name] w' fun e w'' => e = .returned (.int .i64 rk) ∧ Ext w' w'') := Lib.hid hidx
   have HRI : Hid (I64 rk) := Lib.hid (by rw [hrk]; exact rnk_i64 l _ (by omega))
   clear hF hN hT hf hEbx hmb ht hidx hrk
   go_enter Tryd.func47, Tryd.ntmps47
   go_upto_region 1 with fail
   rw [← hwbx, ← hbbx]
   clear hwbx hbbx
   have HFCT := Lib.hid (And.intro b0 (And.intro b1 (And.intro b2 (And.intro b3 f0))))
   refine wp_region_reg 10 false (by kernel_rfl) (by kernel_rfl) ?_
   refine reg_value (fun _ => rfl) ?_ (fun g w' vs hM hE hP => ?_) ?_
   rotate_left
   · (clear hP hM; have ⟨z0, z1, z2, z3, z4⟩ := cs_e5 hE HFCT.out; go_simp; first | done | rfl)
   refine reg_value (fun _ => rfl) ?_ (fun g w' vs hM hE hP => ?_) ?_
   rotate_left
   · (clear hP hM; go_simp; first | done | rfl)
   refine reg_value (fun _ => rfl) ?_ (fun g w' vs hM hE hP => ?_) ?_
   rotate_left
   · (clear hP hM; go_simp; first | done | rfl)
   refine reg_value (fun _ => rfl) ?_ (fun g w' vs hM hE hP => ?_) ?_
   rotate_left
   · (clear hP hM; go_simp; first | done | rfl)
   refine reg_value (fun _ => rfl) ?_ (fun g w' vs hM hE hP => ?_) ?_
   rotate_left
   · (clear hP hM; have ⟨z0, z1, z2, z3, z4⟩ := cs_e5 hE HFCT.out; go_simp; first | done | rfl)
   refine reg_value (fun _ => rfl) ?_ (fun g w' vs hM hE hP => ?_) ?_
   rotate_left
   · (clear hP hM; go_simp; first | done | rfl)
   refine reg_value (fun _ => rfl) ?_ (fun g w' vs hM hE hP => ?_) ?_
   rotate_left
   · (clear hP hM; have ⟨z0, z1, z2, z3, z4⟩ := cs_e5 hE HFCT.out; go_simp; first | done | rfl)
   refine reg_const (fun _ => rfl) 39 ?_ (fun g w' vs hM hE hP => ?_) ?_
   rotate_left
   · (clear hP hM; have ⟨z0, z1, z2, z3, z4⟩ := cs_e5 hE HFCT.out; go_simp; first | done | exact ⟨rfl, rfl⟩ | rfl)
   apply Exists.intro
   refine And.intro (fun g w' vs hM hE hP => ?_) ?_
   · exact HIX.out _ hE
   refine reg_value (fun _ => rfl) ?_ (fun g w' vs hM hE hP => ?_) ?_
   rotate_left
   · (clear hP hM; go_simp; first | done | rfl)
   refine reg_fresh (fun _ => rfl) (fun n => .pointer (some ⟨n, 0, none⟩)) ?_ (fun g w' vs hM hE hP => ?_) ?_
   rotate_left
   · (clear hP hM; have ⟨z0, z1, z2, z3, z4⟩ := cs_e5 hE HFCT.out; go_simp; first | done | rfl | exact ⟨rfl, rfl⟩)
   intro g w2 hE2 hF2 hQ2
   simp only [List.drop_succ_cons, List.drop_zero, Act.put, List.setIfInBounds_toArray, List.set_cons_succ, List.set_cons_zero]
   obtain ⟨hFb, hFo⟩ := hF2.2.1 ((9, fun _ => Obj.cells #[Value.int .i64 0, Value.string ⟨#[]⟩, Value.int .i64 0, Value.slice none 0 0, Value.int .i64 0, Value.slice none 0 0] 67) : Nat × (Ghs → Obj)) (by simp)
   simp only at hFb hFo
   obtain ⟨nb, hnb⟩ : ∃ nb, nb = (g 9).n := ⟨_, rfl⟩
   rw [← hnb] at hFb hFo
   rw [← hnb]
   have HFB := Lib.hid hFb
   have HNB := Lib.hid hFo
   have HE2 := Lib.hid hE2
   clear hF2 hQ2 hFb hFo hnb hE2
   go_upto_region 2 with (
    refine wpList_storeN rfl (.tmp 6) (.tmp 22) rfl (g := nb) rfl (k := t.kind) (s := t.sort) (n := t.name) (ka := a) (kl := t.kids.length) (kc := cap) (r := rk) (ks := none) (sl := 0) (sc := 0) rfl HFB.out rfl ?_
    intro w3 c3 q3 e3 z3
    have HB3 := Lib.hid c3
    have HE3 := Lib.hid (e3 w1 HE2.out HNB.out)
    have HS3 : Hid (nb < w3.heap.size) := Lib.hid (lt_of_get' c3)
    obtain ⟨n0, n1, n2, n3, n4, n5⟩ := box6 c3
    have b0 := cs_ext HE3.out b0
    have b1 := cs_ext HE3.out b1
    have b2 := cs_ext HE3.out b2
    have b3 := cs_ext HE3.out b3
    clear c3 q3 e3 z3)
   have HF3 := Lib.hid (HF0.out.ext (HE1.out.trans HE3.out))
   have HE03 := Lib.hid (HE1.out.trans HE3.out)
   by_cases hbad : t.kind ≠ 1 ∧ rk < 0
   · have hb1 : ¬ t.kind = 1 := hbad.1
     have hb2 : rk < 0 := hbad.2
     have z3 : (t.kind != 1 && decide (rk < 0)) = true := by simp [hb1, hb2]
     go_wp2_with fail
     go_ret2
     refine ⟨_, _, rfl, nv, N, S, HF3.out, (AFr.refl w).below (HE03.out.below (Nat.le_refl _)), List.prefix_refl _, by omega, fun x hx => .inl hx, ?_, fun h => by cases h⟩
     rw [knT_kids, ← HRK.out]
     simp [hb1]
     intro h; omega
   · have HKN : Hid (t.kind = 1 ∨ 0 ≤ rk) := Lib.hid (by
      by_cases h : t.kind = 1
      · exact .inl h
      · right; have := fun h2 => hbad ⟨h, h2⟩; omega)
     have hgo : (decide (t.kind = 1) || decide (0 ≤ rk)) = true := by
      rcases HKN.out with h | h <;> simp [h]
     have HGO := Lib.hid hgo
     obtain ⟨bb, hbb⟩ : ∃ bb, bb = w3.heap.size := ⟨_, rfl⟩
     obtain ⟨w4, hw4⟩ : ∃ w4, w4 = w3.alloc (.cells #[.pointer none, .slice none 0 0] 82) := ⟨_, rfl⟩
     have hB4 : w4.heap[bb]? = some (.cells #[.pointer none, .slice none 0 0] 82) := by rw [hw4, hbb]; exact hs_new
     have hE4 : Ext w3 w4 := by rw [hw4]; exact Ext.alloc _ _
     have HB4 := Lib.hid hB4
     have HE4 := Lib.hid hE4
     have HBB := Lib.hid hbb
     by_cases hk1 : t.kind = 1
     · have z3 : (t.kind != 1 && decide (rk < 0)) = false := by simp [hk1]
       clear hbad hgo hB4 hE4
       go_upto_region 4 with fail
       clear hk1 z3
       go_upto_region 5 with (
        rw [← hbb, ← hw4]
        refine wpList_storeBu rfl (.tmp 7) (.tmp 31) rfl (g := bb) rfl rfl HB4.out rfl ?_
        intro w5 c5 q5 e5 z5
        have HB5 := Lib.hid (Bu.of c5)
        have HE5 := Lib.hid (e5 w3 HE4.out (Nat.le_of_eq HBB.out.symm))
        have HS5 : Hid (bb < w5.heap.size) := Lib.hid (lt_of_get' c5)
        clear c5 q5 e5 z5)
       have b0 := cs_ext HE5.out b0
       have b1 := cs_ext HE5.out b1
       have b2 := cs_ext HE5.out b2
       have b3 := cs_ext HE5.out b3
       have HFA : Hid (FAdd w w5 B fb ib mb l (.slice lva l.length lvc) nv S t a cap bx nb bb nv N S (.slice none 0 0) [] []) := Lib.hid (by
        refine FAdd.start (HF0.out.ext (HE03.out.trans HE5.out)) (HE03.out.trans HE5.out) HF0.out HMB.out ⟨Nat.le_of_eq HBX.out.symm, ?_, ?_, HS5.out⟩ (hs_ext HE5.out (hs_ext HE3.out HBbx.out)) (hs_ext HE5.out (by rw [← HRK.out]; exact HB3.out)) HB5.out
        · have := HNB.out; have := lt_of_get' HBbx.out; omega
        · have := HS3.out; have := HBB.out; omega)
       obtain ⟨sk, hsk⟩ : ∃ sk : ByteArray, sk = ⟨(num t.kind).toArray⟩ := ⟨_, rfl⟩
       obtain ⟨ss, hss⟩ : ∃ ss : ByteArray, ss = ⟨(num t.sort).toArray⟩ := ⟨_, rfl⟩
       have HTK := Lib.hid HTM.out.1
       have hik : ∀ w', Calls Tryd.prog 60 #[.int .i64 t.kind] w' fun e w'' => e = .returned (.string sk) ∧ Ext w' w'' := fun w' => (itoa_any HTK.out.1.1 HTK.out.1.2).mono (fun e w'' h => ⟨by rw [h.1, hsk], h.2 ▸ Ext.refl _⟩)
       have his : ∀ w', Calls Tryd.prog 60 #[.int .i64 t.sort] w' fun e w'' => e = .returned (.string ss) ∧ Ext w' w'' := fun w' => (itoa_any HTK.out.2.1.1 HTK.out.2.1.2).mono (fun e w'' h => ⟨by rw [h.1, hss], h.2 ▸ Ext.refl _⟩)
       have hz1 : sk.size ≤ 2 := by rw [hsk]; exact num_len HTK.out.1.1 HTK.out.1.2
       have hz2 : ss.size ≤ 2 := by rw [hss]; exact num_len HTK.out.2.1.1 HTK.out.2.1.2
       have hz3 : t.name.size ≤ 24 := HTK.out.2.2.2.1
       have q1 : ¬ (9223372036854775807 < sk.size + 1) := by omega
       have q2 : ¬ (9223372036854775807 < sk.size + 1 + ss.size) := by omega
       have q3 : ¬ (9223372036854775807 < sk.size + 1 + ss.size + 1) := by omega
       have q4 : ¬ (9223372036854775807 < sk.size + 1 + ss.size + 1 + t.name.size) := by omega
       have HIK := Lib.hid hik
       have HIS := Lib.hid his
       have HZ := Lib.hid (And.intro hz1 (And.intro hz2 hz3))
       have HSK := Lib.hid (And.intro hsk hss)
       clear hbb hw4 hik his hz1 hz2 hz3 hsk hss n0 n1 n2 n3 n4 n5
       have HFCT := Lib.hid (And.intro b0 (And.intro b1 (And.intro b2 b3)))
       refine wp_region_reg 12 false (by kernel_rfl) (by kernel_rfl) ?_
       refine reg_value (fun _ => rfl) ?_ (fun g w' vs hM hE hP => ?_) ?_
       rotate_left
       · (clear hP hM; have ⟨z0, z1, z2, z3⟩ := cs_e4 hE HFCT.out; go_simp; first | done | rfl)
       refine reg_value (fun _ => rfl) ?_ (fun g w' vs hM hE hP => ?_) ?_
       rotate_left
       · (clear hP hM; have ⟨z0, z1, z2, z3⟩ := cs_e4 hE HFCT.out; go_simp; first | done | rfl)
       refine reg_const (fun _ => rfl) 60 ?_ (fun g w' vs hM hE hP => ?_) ?_
       rotate_left
       · (clear hP hM; have ⟨z0, z1, z2, z3⟩ := cs_e4 hE HFCT.out; go_simp; first | done | exact ⟨rfl, rfl⟩ | rfl)
       apply Exists.intro
       refine And.intro (fun g w' vs hM hE hP => ?_) ?_
       · exact HIK.out _
       refine reg_value (fun _ => rfl) ?_ (fun g w' vs hM hE hP => ?_) ?_
       rotate_left
       · (clear hP hM; have ⟨z0, z1, z2, z3⟩ := cs_e4 hE HFCT.out; go_simp; first | done | rfl)
       refine reg_value (fun _ => rfl) ?_ (fun g w' vs hM hE hP => ?_) ?_
       rotate_left
       · (clear hP hM; have ⟨z0, z1, z2, z3⟩ := cs_e4 hE HFCT.out; go_simp; first | done | rfl)
       refine reg_value (fun _ => rfl) ?_ (fun g w' vs hM hE hP => ?_) ?_
       rotate_left
       · (clear hP hM; have ⟨z0, z1, z2, z3⟩ := cs_e4 hE HFCT.out; go_simp; first | done | rfl)
       refine reg_const (fun _ => rfl) 60 ?_ (fun g w' vs hM hE hP => ?_) ?_
       rotate_left
       · (clear hP hM; have ⟨z0, z1, z2, z3⟩ := cs_e4 hE HFCT.out; go_simp; first | done | exact ⟨rfl, rfl⟩ | rfl)
       apply Exists.intro
       refine And.intro (fun g w' vs hM hE hP => ?_) ?_
       · exact HIS.out _
       refine reg_value (fun _ => rfl) ?_ (fun g w' vs hM hE hP => ?_) ?_
       rotate_left
       · (clear hP hM; have ⟨z0, z1, z2, z3⟩ := cs_e4 hE HFCT.out; go_simp; first | done | rfl)
       refine reg_value (fun _ => rfl) ?_ (fun g w' vs hM hE hP => ?_) ?_
       rotate_left
       · (clear hP hM; have ⟨z0, z1, z2, z3⟩ := cs_e4 hE HFCT.out; go_simp; first | done | rfl)
       refine reg_value (fun _ => rfl) ?_ (fun g w' vs hM hE hP => ?_) ?_
       rotate_left
       · (clear hP hM; have ⟨z0, z1, z2, z3⟩ := cs_e4 hE HFCT.out; go_simp; first | done | rfl)
       refine reg_value (fun _ => rfl) ?_ (fun g w' vs hM hE hP => ?_) ?_
       rotate_left
       · (clear hP hM; have ⟨z0, z1, z2, z3⟩ := cs_e4 hE HFCT.out; go_simp; first | done | rfl)
       refine reg_value (fun _ => rfl) ?_ (fun g w' vs hM hE hP => ?_) ?_
       rotate_left
       · (clear hP hM; have ⟨z0, z1, z2, z3⟩ := cs_e4 hE HFCT.out; go_simp; first | done | rfl)
       intro g6 w6 hE6 hF6 hQ6
       simp only [List.drop_succ_cons, List.drop_zero, Act.put, List.setIfInBounds_toArray, List.set_cons_succ, List.set_cons_zero]
       have HA6 := Lib.hid (HFA.out.ext hE6)
       clear hE6 hF6 hQ6
       go_wp2_with fail
       obtain ⟨st, hst⟩ : ∃ st : ByteArray, st = sk ++ ⟨#[32]⟩ ++ ss ++ ⟨#[32]⟩ ++ t.name := ⟨_, rfl⟩
       rw [← hst]
       have hlen : ([] : List UInt8).length + st.size ≤ 1000000 := by
        have := HZ.out
        have e : (⟨#[32]⟩ : ByteArray).size = 1 := rfl
        rw [hst]
        simp only [ByteArray.size_append, List.length_nil]
        omega
       have hdat : [] ++ st.data.toList = keyL t.kind t.sort t.name.data.toList [] := by
        rw [hst, HSK.out.1, HSK.out.2]
        unfold keyL
        simp [ByteArray.data_append]
       refine (writeStr_any HA6.out.bu hlen (Nat.le_of_lt HA6.out.ord.2.2.2.1)).mono ?_
       rintro e w7 ⟨rfl, k1, k2⟩
       rw [hdat] at k1
       have HA7 := Lib.hid (HA6.out.wrote k2 k1)
       clear k1 k2 hdat hlen hst
       have HP := Lib.hid (show ∃ nv1 N1 S1 kvv ks, FAdd w w7 B fb ib mb l (.slice lva l.length lvc) nv S t a cap bx nb bb nv1 N1 S1 kvv ks (keyL t.kind t.sort t.name.data.toList ks) ∧ KidsOk N1 ks (t.kids.take 0) ∧ knL l (t.kids.take 0) = true ∧ N <+: N1 ∧ N1.length ≤ N.length + sizeL (t.kids.take 0) ∧ (∀ x ∈ N1, x ∈ N ∨ x.t ∈ allT t) from
        ⟨nv, N, S, _, [], HA7.out, ⟨by simp, by simp⟩, by simp [knL], List.prefix_refl _, by simp [sizeL], fun x hx => .inl hx⟩)
       obtain ⟨b0, b1, b2, b3⟩ := box4r HA7.out.tb
       go_wp2_with fail
       go_loopw [48] (fun kv wr => ∃ k : Nat, kv = .int .i64 k ∧ k ≤ t.kids.length ∧ Hid (∃ nv1 N1 S1 kvv ks, FAdd w wr B fb ib mb l (.slice lva l.length lvc) nv S t a cap bx nb bb nv1 N1 S1 kvv ks (keyL t.kind t.sort t.name.data.toList ks) ∧ KidsOk N1 ks (t.kids.take k) ∧ knL l (t.kids.take k) = true ∧ N <+: N1 ∧ N1.length ≤ N.length + sizeL (t.kids.take k) ∧ (∀ x ∈ N1, x ∈ N ∨ x.t ∈ allT t))) (fun kv _ => t.kids.length - (intOf kv).toNat)
       case atStart => exact ⟨0, rfl, by omega, HP⟩
       case round =>
        clear HP b0 b1 b2 b3
        obtain ⟨k, rfl, hk, HR⟩ := hrel
        obtain ⟨nv1, N1, S1, kvv, ks, hA, hK, hL, hPf, hLn, hSb⟩ := HR.out
        have HSB := Lib.hid hSb
        have HA := Lib.hid hA
        have HK := Lib.hid hK
        have HL := Lib.hid hL
        have HPF := Lib.hid hPf
        have HLN := Lib.hid hLn
        clear hA hK hL hPf hLn hSb HR
        by_cases hlt : k < t.kids.length
        · obtain ⟨x, hx⟩ : ∃ x, t.kids[k]? = some x := ⟨_, List.getElem?_eq_getElem hlt⟩
          have hTr := HA.out.term HF0.out HTS.out
          obtain ⟨xb, xo, xa, xc, rfl, x0, x1, x2, x3, hTx⟩ := hTr.ts.at hx
          obtain ⟨cx, w8, hcx, hw8, HBC, hE8⟩ := box_new wr (.cells #[.int .i64 0, .string ⟨#[]⟩, .int .i64 0, .slice none 0 0] 38)
          have HA8 := Lib.hid (HA.out.ext hE8)
          have HTX := Lib.hid (hTx.ext hE8)
          have HX := Lib.hid hx
          have HE8 := Lib.hid hE8
          have HSC : Hid (cx = wr.heap.size) := Lib.hid hcx
          clear hTr hTx hx hE8
          go_upto_region 9 with (
           rw [← hcx, ← hw8]
           refine wpList_storeT rfl (.tmp 9) (.tmp 51) rfl (g := cx) rfl (k := x.kind) (s := x.sort) (n := x.name) (ka := xa) (kl := x.kids.length) (kc := xc) rfl HBC.out rfl ?_
           intro w9 c9 q9 e9 z9
           have HE9 := Lib.hid (e9 wr HE8.out (Nat.le_of_eq HSC.out.symm))
           obtain ⟨y0, y1, y2, y3⟩ := box4r c9
           clear c9 q9 e9 z9)
          have HA9 := Lib.hid (HA.out.ext HE9.out)
          have hxz := sizeL_take' HX.out
          have hxm := sizeL_take_le t.kids (k + 1)
          have hcall := ih w9 B fb ib mb l _ nv1 N1 S1 xa xc x (by omega) HA9.out.fw (by have := HMB.out; have := HA9.out.size; omega) hl100 (HTM.out.2 x (List.mem_of_getElem? HX.out)) ⟨U, by have := HN.out; omega, HUU.out.1, fun q hq => (HSB.out q hq).elim (HUU.out.2.1 q) (HUU.out.2.2 _), fun z hz => HUU.out.2.2 z (allT_kid (List.mem_of_getElem? HX.out) hz)⟩ (HTX.out.keep (fun c hc hlt => by
           rw [HE9.out.block (by have := HA.out.ord; have := HA.out.size; omega), HE8.out.block (by have := HA.out.ord; have := HA.out.size; omega)]) (fun _ h _ => h))
          have HCALL := Lib.hid hcall
          clear hcall hw8 hcx x0 x1 x2 x3 hxz hxm
          go_wp2_with fail
          refine HCALL.out.mono ?_
          rintro e w10 ⟨i, ok, rfl, nv2, N2, S2, hF2, hfr2, hpf2, hln2, hsb2, hok, hmem⟩
          have HSB2 : Hid (∀ q ∈ N2, q ∈ N ∨ q.t ∈ allT t) := Lib.hid (fun q hq => by
           rcases hsb2 q hq with h | h
           · exact HSB.out q h
           · exact .inr (allT_kid (List.mem_of_getElem? HX.out) h))
          have HL2 : Hid (N2.length ≤ 100) := Lib.hid (Nat.le_trans (grown_len hF2.grown (fun q hq => (HSB2.out q hq).elim (HUU.out.2.1 q) (HUU.out.2.2 _))) HUU.out.1)
          have HA10 := Lib.hid (HA9.out.call hfr2 hF2)
          have HPF2 := Lib.hid (List.IsPrefix.trans HPF.out hpf2)
          have HPF12 := Lib.hid hpf2
          have HOK := Lib.hid hok
          have HMEM := Lib.hid hmem
          have HLN2 : Hid (N2.length ≤ N.length + sizeL (t.kids.take (k + 1))) := Lib.hid (by rw [sizeL_take' HX.out]; have := HLN.out; omega)
          clear hF2 hfr2 hpf2 hln2 hsb2 hok hmem
          cases ok with
          | false =>
            go_wp2_with fail
            go_ret2
            refine ⟨_, _, rfl, nv2, N2, S2, HA10.out.fw, HA10.out.fr, HPF2.out, by have := HLN2.out; have := sizeL_take_le t.kids (k + 1); omega, HSB2.out, ?_, fun h => by cases h⟩
            rw [knT_kids, knL_false HOK.out.symm (List.mem_of_getElem? HX.out)]
            simp
          | true =>
            obtain ⟨m, y, rfl, hm, hy⟩ := HMEM.out rfl
            have HM := Lib.hid hm
            have HY := Lib.hid hy
            clear HMEM hm hy
            obtain ⟨ka, kc, hkv, hkv1, hkv2⟩ := HA10.out.own.slice
            subst hkv
            unfold maxLen at hkv2
            obtain ⟨n0, n1, n2, n3, n4, n5⟩ := box6 HA10.out.nd
            have hm100 : m < 100 := by have := (List.getElem?_eq_some_iff.1 HM.out).1; have := HL2.out; omega
            have hks : ks.length = k := by have := HK.out.1; rw [this, List.length_take]; omega
            have hk100 : ks.length ≤ 100 := by have := HN.out; omega
            have HKS := Lib.hid hks
            clear hks
            obtain ⟨ob, wa, hob, hwa, HBO, hEa⟩ := box_new w10 (.cells #[.int .i64 (m : Int)] 3)
            have HAa := Lib.hid (HA10.out.ext hEa)
            have HLSE := Lib.hid (one_intF (S := fun _ => False) HBO.out (k := (m : Int)) (by unfold I64; omega))
            have n5a := cs_ext hEa n5
            have HK2 := Lib.hid (HK.out.mono HPF12.out)
            clear n0 n1 n2 n3 n4 hEa
            go_upto_region 13 with (
             at_builtin
             rw [← hob, ← hwa]
             refine wpList_appG (E := elI) (T := 3) rfl 23 (.tmp 61) (.tmp 63) rfl rfl rfl Tryd.underlying23 infInt rfl (by decide) (by decide) HAa.out.own (Nat.succ_le_of_lt HAa.out.ord.2.2.2.1) (fun c h => absurd h id) (by omega) (M := [(m : Int)]) (by simp) HLSE.out ?_
             intro v6 w6 o6 g6 k6
             obtain ⟨u1, u2, hu, hu1, hu2⟩ := o6.slice
             have hl6 : (ks ++ [(m : Int)]).length = ks.length + 1 := by simp
             rw [hl6] at hu
             subst hu
             unfold maxLen at hu2
             have hn6 := (g6.block nb (by have := HAa.out.ord; omega) (fun e => by have := (HAa.out.own.lt nb e.symm).1; have := HAa.out.ord; omega)).trans HAa.out.nd
             have z5 : w6.cell? ⟨nb, 5, none⟩ = some (.slice ka ks.length kc) := by rw [cellc hn6]; rfl
             have zf : w6.frozen? ⟨nb, 5, none⟩ = false := frozenc hn6
             have HP6 := Lib.hid (HAa.out.push o6 g6 k6)
             clear o6 g6 k6 hn6)
            obtain ⟨w11, hw11⟩ : ∃ w11, w11 = w6.setCell ⟨nb, 5, none⟩ (.slice u1 (ks.length + 1) u2) := ⟨_, rfl⟩
            rw [← hw11]
            have HA11 : Hid (FAdd w w11 B fb ib mb l (.slice lva l.length lvc) nv S t _ cap bx nb bb nv2 N2 S2 (.slice u1 (ks.length + 1) u2) (ks ++ [(m : Int)]) (keyL t.kind t.sort t.name.data.toList ks)) := Lib.hid (by rw [hw11]; exact HP6.out)
            obtain ⟨sm, hsm⟩ : ∃ sm : ByteArray, sm = ⟨(num (m : Int)).toArray⟩ := ⟨_, rfl⟩
            have him : ∀ w', Calls Tryd.prog 60 #[.int .i64 (m : Int)] w' fun e w'' => e = .returned (.string sm) ∧ w' = w'' := fun w' => (itoa_any (by omega) (by omega)).mono (fun e w'' h => ⟨by rw [h.1, hsm], h.2⟩)
            have hz1 : sm.size ≤ 2 := by rw [hsm]; exact num_len (by omega) (by omega)
            have q1 : ¬ (9223372036854775807 < 1 + sm.size) := by omega
            have HIM := Lib.hid him
            have HSM := Lib.hid hsm
            clear hw11 HP6 z5 zf him hsm n5a n5 hob hwa
            go_wp2_with fail
            refine (HIM.out _).mono ?_
            rintro e w12 ⟨rfl, rfl⟩
            go_wp2_with fail
            obtain ⟨st, hst⟩ : ∃ st : ByteArray, st = ⟨#[32]⟩ ++ sm := ⟨_, rfl⟩
            rw [← hst]
            have h100 : ∀ i ∈ ks, 0 ≤ i ∧ i < 100 := fun i hi => by have := HK2.out.lt i hi; have := HL2.out; omega
            have hlen : (keyL t.kind t.sort t.name.data.toList ks).length + st.size ≤ 1000000 := by
             have h1 := keyL_len (k := t.kind) (s := t.sort) (n := t.name.data.toList) HTK.out.1 HTK.out.2.1 h100
             have e : (⟨#[32]⟩ : ByteArray).size = 1 := rfl
             have e2 : t.name.data.toList.length = t.name.size := Array.length_toList
             have := HTK.out.2.2.2.1
             rw [hst]
             simp only [ByteArray.size_append]
             omega
            have hdat : keyL t.kind t.sort t.name.data.toList ks ++ st.data.toList = keyL t.kind t.sort t.name.data.toList (ks ++ [(m : Int)]) := by
             rw [keyL_snoc, hst, HSM.out]
             simp [ByteArray.data_append]
            refine (writeStr_any HA11.out.bu hlen (Nat.le_of_lt HA11.out.ord.2.2.2.1)).mono ?_
            rintro e w13 ⟨rfl, k1, k2⟩
            rw [hdat] at k1
            have HA13 := Lib.hid (HA11.out.wrote k2 k1)
            clear k1 k2 hdat hlen hst h100
            go_wp2_with fail
            go_roundw
            case rel =>
             refine ⟨k + 1, by go_num, by omega, Lib.hid ⟨nv2, N2, S2, _, _, HA13.out, ?_, ?_, HPF2.out, HLN2.out, HSB2.out⟩⟩
             · have := HK2.out.snoc HM.out HY.out
               rw [List.take_add_one, HX.out]
               exact this
             · rw [knL_take HX.out, HL.out, ← HOK.out]; rfl
            case measure => simp [intOf]; omega
        · have hke : k = t.kids.length := by omega
          subst hke
          rw [List.take_length] at HK HL HLN
          obtain ⟨D, nn, hD, hM⟩ := HA.out.fw.ids
          have hN1 : N1.length ≤ 100 := Nat.le_trans (grown_len HA.out.fw.grown (fun q hq => (HSB.out q hq).elim (HUU.out.2.1 q) (HUU.out.2.2 _))) HUU.out.1
          have HN1H := Lib.hid hN1
          have h100 : ∀ i ∈ ks, 0 ≤ i ∧ i < 100 := fun i hi => by have := HK.out.lt i hi; have := HN1H.out; omega
          have hkl : (keyL t.kind t.sort t.name.data.toList ks).length ≤ 1000000 := by
           have h1 := keyL_len (k := t.kind) (s := t.sort) (n := t.name.data.toList) HTK.out.1 HTK.out.2.1 h100
           have e2 : t.name.data.toList.length = t.name.size := Array.length_toList
           have := HTK.out.2.2.2.1
           have := HK.out.1
           have := HN.out
           omega
          obtain ⟨key, hkey⟩ : ∃ key, key = keyL t.kind t.sort t.name.data.toList ks := ⟨_, rfl⟩
          rw [← hkey] at HA hkl
          have HKEY := Lib.hid hkey
          have HKL := Lib.hid hkl
          have HD := Lib.hid hD
          have HM := Lib.hid hM
          have hlook := forest_look HA.out.fw.grown hD hN1 HTK.out HK.out
          rw [← hkey] at hlook
          have f2 : wr.drew.cell? ⟨fb, 2, none⟩ = some (.map (some ib)) := by rw [cs_dr (w := wr) (p := ⟨fb, 2, none⟩) (v := .map (some ib)) (by rw [cellc HA.out.fw.blk]; rfl)]
          have HAd := Lib.hid (HA.out.ext (Ext.drew wr))
          have HMd := Lib.hid (hM.ext (Ext.drew wr))
          clear hD hM hN1 h100 hkl hkey
          rcases hlook with ⟨m, y, hd, hm, hy⟩ | ⟨hd, hne⟩
          · have HDK := Lib.hid hd
            have HMY := Lib.hid (And.intro hm hy)
            clear hd hm hy
            go_upto_region 15 with fail
            go_cut [12, 13] from 71 to 79 (fun v12 v13 wy => v12 = .int .i64 (m : Int) ∧ v13 = .bool true ∧ Hid (FAdd w wy B fb ib mb l (.slice lva l.length lvc) nv S t a cap bx nb bb nv1 N1 S1 kvv ks key))
            case first =>
             go_region_law (
              go_simp
              go_at_call 54
              refine (buStr_any (HAd.out.bu.ext (by repeat (first | exact Ext.refl _ | exact Ext.alloc _ _ | apply Ext.then_dr | apply Ext.then_drN | apply Ext.then_drN2 | (refine Ext.then_al ?_ _)))) (Nat.le_of_lt (HAd.out.ext (by repeat (first | exact Ext.refl _ | exact Ext.alloc _ _ | apply Ext.then_dr | apply Ext.then_drN | apply Ext.then_drN2 | (refine Ext.then_al ?_ _)))).ord.2.2.2.1)).mono ?_
              rintro e w6 ⟨rfl, k1, k2⟩
              have hA6 := (HAd.out.ext (by repeat (first | exact Ext.refl _ | exact Ext.alloc _ _ | apply Ext.then_dr | apply Ext.then_drN | apply Ext.then_drN2 | (refine Ext.then_al ?_ _)))).wrote k2 k1
              have g2 : w6.cell? ⟨fb, 2, none⟩ = some (.map (some ib)) := (by rw [cellc hA6.fw.blk]; rfl)
              have hlk := ids_look (w := w6) ((HMd.out.ext (by repeat (first | exact Ext.refl _ | exact Ext.alloc _ _ | apply Ext.then_dr | apply Ext.then_drN | apply Ext.then_drN2 | (refine Ext.then_al ?_ _)))).same (k2.below.block ib (by have := (HAd.out).ord; have := (HAd.out).old; omega))) HKL.out
              rw [HDK.out] at hlk
              simp only [Option.getD_some, Option.isSome_some] at hlk
              have HA6 := Lib.hid hA6
              clear k1 k2 hA6)
             all_goals
              go_wp2_with fail
              go_meet
              case rel => exact ⟨rfl, rfl, HA6⟩
            case rest =>
             obtain ⟨rfl, rfl, HA6⟩ := hcut
             go_wp2_with fail
             go_ret2
             have := HLN.out
             refine ⟨_, _, rfl, nv1, N1, S1, HA6.out.fw, HA6.out.fr, HPF.out, by omega, HSB.out, by rw [knT_kids, HL.out, ← HRK.out, HGO.out]; rfl, fun _ => ⟨m, y, rfl, HMY.out⟩⟩
          · have HDK := Lib.hid hd
            have HNE := Lib.hid hne
            clear hd hne
            go_upto_region 15 with fail
            go_cut [12, 13] from 71 to 79 (fun v12 v13 wy => v12 = .int .i64 0 ∧ v13 = .bool false ∧ Hid (FAdd w wy B fb ib mb l (.slice lva l.length lvc) nv S t a cap bx nb bb nv1 N1 S1 kvv ks key ∧ MapK encB wy ib nn (fun s => (D s.1.data.toList).map (.int .i64))))
            case first =>
             go_region_law (
              go_simp
              go_at_call 54
              refine (buStr_any (HAd.out.bu.ext (by repeat (first | exact Ext.refl _ | exact Ext.alloc _ _ | apply Ext.then_dr | apply Ext.then_drN | apply Ext.then_drN2 | (refine Ext.then_al ?_ _)))) (Nat.le_of_lt (HAd.out.ext (by repeat (first | exact Ext.refl _ | exact Ext.alloc _ _ | apply Ext.then_dr | apply Ext.then_drN | apply Ext.then_drN2 | (refine Ext.then_al ?_ _)))).ord.2.2.2.1)).mono ?_
              rintro e w6 ⟨rfl, k1, k2⟩
              have hA6 := (HAd.out.ext (by repeat (first | exact Ext.refl _ | exact Ext.alloc _ _ | apply Ext.then_dr | apply Ext.then_drN | apply Ext.then_drN2 | (refine Ext.then_al ?_ _)))).wrote k2 k1
              have g2 : w6.cell? ⟨fb, 2, none⟩ = some (.map (some ib)) := (by rw [cellc hA6.fw.blk]; rfl)
              have hM6 := (HMd.out.ext (by repeat (first | exact Ext.refl _ | exact Ext.alloc _ _ | apply Ext.then_dr | apply Ext.then_drN | apply Ext.then_drN2 | (refine Ext.then_al ?_ _)))).same (k2.below.block ib (by have := (HAd.out).ord; have := (HAd.out).old; omega))
              have hlk := ids_look (w := w6) hM6 HKL.out
              rw [HDK.out] at hlk
              simp only [Option.getD_none, Option.isSome_none] at hlk
              have HA6 := Lib.hid (And.intro hA6 hM6)
              clear k1 k2 hA6 hM6)
             all_goals
              go_wp2_with fail
              go_meet
              case rel => exact ⟨rfl, rfl, HA6⟩
            case rest =>
             obtain ⟨rfl, rfl, HA6⟩ := hcut
             clear HAd HMd HM f2
             obtain ⟨na, nc, hnv, hnv1, hnv2⟩ := HA6.out.1.fw.row.slice
             subst hnv
             unfold maxLen at hnv2
             have HAd := Lib.hid (HA6.out.1.ext (Ext.drew wc))
             have HMd := Lib.hid (HA6.out.2.ext (Ext.drew wc))
             obtain ⟨f0, f1, f2, f3⟩ := box4r HA6.out.1.fw.blk
             have f2d : wc.drew.cell? ⟨fb, 2, none⟩ = some (.map (some ib)) := f2
             go_upto_region 18 with fail
             go_cut [12] from 87 to 92 (fun v12 wy => v12 = .int .i64 (N1.length : Int) ∧ Hid (∃ w6 ob, FAdd w w6 B fb ib mb l (.slice lva l.length lvc) nv S t a cap bx nb bb (.slice na N1.length nc) N1 S1 kvv ks key ∧ wy = ChangeMaps.setBlock w6 ib ob ∧ MapK encB wy ib (nn + 1) (fun s => if s.1.data.toList = key then some (.int .i64 (N1.length : Int)) else (D s.1.data.toList).map (.int .i64))))
             case first =>
              go_region_law (
               go_simp
               go_at_call 54
               refine (buStr_any (HAd.out.bu.ext (by repeat (first | exact Ext.refl _ | exact Ext.alloc _ _ | apply Ext.then_dr | apply Ext.then_drN | apply Ext.then_drN2 | (refine Ext.then_al ?_ _)))) (Nat.le_of_lt (HAd.out.ext (by repeat (first | exact Ext.refl _ | exact Ext.alloc _ _ | apply Ext.then_dr | apply Ext.then_drN | apply Ext.then_drN2 | (refine Ext.then_al ?_ _)))).ord.2.2.2.1)).mono ?_
               rintro e w6 ⟨rfl, k1, k2⟩
               have hA6 := (HAd.out.ext (by repeat (first | exact Ext.refl _ | exact Ext.alloc _ _ | apply Ext.then_dr | apply Ext.then_drN | apply Ext.then_drN2 | (refine Ext.then_al ?_ _)))).wrote k2 k1
               have g2 : w6.cell? ⟨fb, 2, none⟩ = some (.map (some ib)) := (by rw [cellc hA6.fw.blk]; rfl)
               have hM6 := (HMd.out.ext (by repeat (first | exact Ext.refl _ | exact Ext.alloc _ _ | apply Ext.then_dr | apply Ext.then_drN | apply Ext.then_drN2 | (refine Ext.then_al ?_ _)))).same (k2.below.block ib (by have := (HAd.out).ord; have := (HAd.out).old; omega))
               obtain ⟨ob, hpt, hM7⟩ := ids_put (w := w6) (i := (N1.length : Int)) hM6 HKL.out
               have HA7 := Lib.hid hA6
               have HM7 := Lib.hid hM7
               clear k1 k2 hA6 hM6 hM7)
              all_goals
               go_wp2_with fail
               go_meet
               case rel => exact ⟨rfl, Lib.hid ⟨w6, ob, HA7.out, rfl, HM7.out⟩⟩
             case rest =>
              obtain ⟨rfl, HA7⟩ := hcut
              obtain ⟨w6, ob, hA7, hw7, hM7⟩ := HA7.out
              obtain ⟨ka, kc, hkv, hkv1, hkv2⟩ := hA7.own.slice
              subst hkv
              unfold maxLen at hkv2
              obtain ⟨r1, r2, r3, r4, r5, r6, r7⟩ := hA7.after HF0.out HTS.out hw7
              have HWB := Lib.hid hw7
              have HM7 := Lib.hid hM7
              have HA9 := Lib.hid hA7
              have HFB7 := Lib.hid r1
              have HFN : Hid ((Value.slice na N1.length nc).ownBlock ≠ some fb) := Lib.hid (fun e => by
               obtain ⟨cur, e1⟩ := r3.block e
               rw [r1] at e1; simp at e1)
              have HR3 := Lib.hid r3
              have HR4 := Lib.hid r4
              have HR5 := Lib.hid r5
              have HR6 := Lib.hid r6
              have HR7 := Lib.hid r7
              have hnl : N1.length ≤ 1000000 := by have := HN1H.out; omega
              have HNL := Lib.hid hnl
              obtain ⟨f0, f1, f2, f3⟩ := box4r r1
              obtain ⟨n0, n1, n2, n3, n4, n5⟩ := box6 r2
              have d1 : wc.drew.cell? ⟨fb, 1, none⟩ = some (.slice na N1.length nc) := f1
              have e0 : wc.drew.cell? ⟨nb, 0, none⟩ = some (.int .i64 t.kind) := n0
              have e1 : wc.drew.cell? ⟨nb, 1, none⟩ = some (.string t.name) := n1
              have e2 : wc.drew.cell? ⟨nb, 2, none⟩ = some (.int .i64 t.sort) := n2
              have e3 : wc.drew.cell? ⟨nb, 3, none⟩ = _ := n3
              have e4 : wc.drew.cell? ⟨nb, 4, none⟩ = some (.int .i64 (rnk l t.name)) := n4
              have e5 : wc.drew.cell? ⟨nb, 5, none⟩ = some (.slice ka ks.length kc) := n5
              have g1 := cs_al (o := .cells #[.int .i64 t.kind, .string t.name, .int .i64 t.sort, .slice a t.kids.length cap, .int .i64 (rnk l t.name), .slice ka ks.length kc] 67) f1
              clear hA7 hw7 hM7 r1 r2 r3 r4 r5 r6 r7 f0 f2 f3 f2d hnl
              go_upto_region 19 with fail
              go_cut [12] from 93 to 102 (fun v12 wz => v12 = .int .i64 (N1.length : Int) ∧ Hid (∃ nv3 N3 S3, FW wz B fb ib mb l (.slice lva l.length lvc) nv3 N3 S3 ∧ AFr w wz fb ib nv nv3 S S3 ∧ N3 = N1 ++ [⟨t, rnk l t.name, ks⟩]))
              case first =>
               go_region_law (
                refine step_appG (E := elN) (T := 67) rfl 61 (.tmp 97) (.tmp 99) rfl rfl rfl Tryd.underlying61 infNode rfl (by decide) (by decide) (HR3.out.ext (by repeat (first | exact Ext.refl _ | exact Ext.alloc _ _ | apply Ext.then_dr | apply Ext.then_drN | apply Ext.then_drN2 | (refine Ext.then_al ?_ _)))) (Nat.le_trans HR7.out (Ext.size (by repeat (first | exact Ext.refl _ | exact Ext.alloc _ _ | apply Ext.then_dr | apply Ext.then_drN | apply Ext.then_drN2 | (refine Ext.then_al ?_ _))))) HR6.out HNL.out (M := [⟨t, rnk l t.name, ks⟩]) (by simp) (one_nodF (x := ⟨t, rnk l t.name, ks⟩) hs_new (HR4.out.ext (by repeat (first | exact Ext.refl _ | exact Ext.alloc _ _ | apply Ext.then_dr | apply Ext.then_drN | apply Ext.then_drN2 | (refine Ext.then_al ?_ _)))) (by rw [← HRK.out]; exact HRI.out) (HR5.out.ext (by repeat (first | exact Ext.refl _ | exact Ext.alloc _ _ | apply Ext.then_dr | apply Ext.then_drN | apply Ext.then_drN2 | (refine Ext.then_al ?_ _))))) ?_
                intro v5 w5 o5 g5 k5
                obtain ⟨u1, u2, hu, hu1, hu2⟩ := o5.slice
                rw [List.length_append, List.length_singleton] at hu
                subst hu
                unfold maxLen at hu2
                have hFD := HA9.out.done HK.out HD.out (by rw [← HKEY.out]; exact HDK.out) HNE.out HTK.out (by rw [← HRK.out]; exact HKN.out) HWB.out (by rw [← HKEY.out]; exact HM7.out) (by repeat (first | exact Ext.refl _ | exact Ext.alloc _ _ | apply Ext.then_dr | apply Ext.then_drN | apply Ext.then_drN2 | (refine Ext.then_al ?_ _))) g5 o5 k5
                have hf5 : w5.heap[fb]? = _ := (g5.block fb (Nat.lt_of_lt_of_le (lt_of_get' HFB7.out) (Ext.size (by repeat (first | exact Ext.refl _ | exact Ext.alloc _ _ | apply Ext.then_dr | apply Ext.then_drN | apply Ext.then_drN2 | (refine Ext.then_al ?_ _))))) (fun e => HFN.out e.symm)).trans (hs_ext (by repeat (first | exact Ext.refl _ | exact Ext.alloc _ _ | apply Ext.then_dr | apply Ext.then_drN | apply Ext.then_drN2 | (refine Ext.then_al ?_ _))) HFB7.out)
                have z1 : w5.cell? ⟨fb, 1, none⟩ = some (.slice na N1.length nc) := (by rw [cellc hf5]; rfl)
                have zf : w5.frozen? ⟨fb, 1, none⟩ = false := frozenc hf5
                have HFD := Lib.hid hFD
                clear o5 g5 k5 hFD hf5)
               all_goals
                go_wp2_with fail
                go_meet
                case rel => exact ⟨rfl, Lib.hid ⟨_, _, _, HFD.out.1, HFD.out.2, rfl⟩⟩
              case rest =>
               obtain ⟨rfl, HZ⟩ := hcut
               obtain ⟨nv3, N3, S3, hz1, hz2, rfl⟩ := HZ.out
               go_wp2_with fail
               go_ret2
               have := HLN.out
               refine ⟨_, _, rfl, nv3, _, S3, hz1, hz2, HPF.out.trans (List.prefix_append _ _), by simp; omega, (fun q hq => by
                rcases List.mem_append.1 hq with h | h
                · exact HSB.out q h
                · simp at h; subst h; exact .inr (allT_self t)), by rw [knT_kids, HL.out, ← HRK.out, HGO.out]; rfl, fun _ => ⟨N1.length, ⟨t, rnk l t.name, ks⟩, rfl, by simp, rfl⟩⟩
     · have hk2 : ¬ rk < 0 := fun h => hbad ⟨hk1, h⟩
       have z3 : (t.kind != 1 && decide (rk < 0)) = false := by simp; omega
       clear hbad hgo hB4 hE4
       go_upto_region 5 with (
        rw [← hbb, ← hw4]
        refine wpList_storeBu rfl (.tmp 7) (.tmp 31) rfl (g := bb) rfl rfl HB4.out rfl ?_
        intro w5 c5 q5 e5 z5
        have HB5 := Lib.hid (Bu.of c5)
        have HE5 := Lib.hid (e5 w3 HE4.out (Nat.le_of_eq HBB.out.symm))
        have HS5 : Hid (bb < w5.heap.size) := Lib.hid (lt_of_get' c5)
        clear c5 q5 e5 z5)
       have b0 := cs_ext HE5.out b0
       have b1 := cs_ext HE5.out b1
       have b2 := cs_ext HE5.out b2
       have b3 := cs_ext HE5.out b3
       have HFA : Hid (FAdd w w5 B fb ib mb l (.slice lva l.length lvc) nv S t a cap bx nb bb nv N S (.slice none 0 0) [] []) := Lib.hid (by
        refine FAdd.start (HF0.out.ext (HE03.out.trans HE5.out)) (HE03.out.trans HE5.out) HF0.out HMB.out ⟨Nat.le_of_eq HBX.out.symm, ?_, ?_, HS5.out⟩ (hs_ext HE5.out (hs_ext HE3.out HBbx.out)) (hs_ext HE5.out (by rw [← HRK.out]; exact HB3.out)) HB5.out
        · have := HNB.out; have := lt_of_get' HBbx.out; omega
        · have := HS3.out; have := HBB.out; omega)
       obtain ⟨sk, hsk⟩ : ∃ sk : ByteArray, sk = ⟨(num t.kind).toArray⟩ := ⟨_, rfl⟩
       obtain ⟨ss, hss⟩ : ∃ ss : ByteArray, ss = ⟨(num t.sort).toArray⟩ := ⟨_, rfl⟩
       have HTK := Lib.hid HTM.out.1
       have hik : ∀ w', Calls Tryd.prog 60 #[.int .i64 t.kind] w' fun e w'' => e = .returned (.string sk) ∧ Ext w' w'' := fun w' => (itoa_any HTK.out.1.1 HTK.out.1.2).mono (fun e w'' h => ⟨by rw [h.1, hsk], h.2 ▸ Ext.refl _⟩)
       have his : ∀ w', Calls Tryd.prog 60 #[.int .i64 t.sort] w' fun e w'' => e = .returned (.string ss) ∧ Ext w' w'' := fun w' => (itoa_any HTK.out.2.1.1 HTK.out.2.1.2).mono (fun e w'' h => ⟨by rw [h.1, hss], h.2 ▸ Ext.refl _⟩)
       have hz1 : sk.size ≤ 2 := by rw [hsk]; exact num_len HTK.out.1.1 HTK.out.1.2
       have hz2 : ss.size ≤ 2 := by rw [hss]; exact num_len HTK.out.2.1.1 HTK.out.2.1.2
       have hz3 : t.name.size ≤ 24 := HTK.out.2.2.2.1
       have q1 : ¬ (9223372036854775807 < sk.size + 1) := by omega
       have q2 : ¬ (9223372036854775807 < sk.size + 1 + ss.size) := by omega
       have q3 : ¬ (9223372036854775807 < sk.size + 1 + ss.size + 1) := by omega
       have q4 : ¬ (9223372036854775807 < sk.size + 1 + ss.size + 1 + t.name.size) := by omega
       have HIK := Lib.hid hik
       have HIS := Lib.hid his
       have HZ := Lib.hid (And.intro hz1 (And.intro hz2 hz3))
       have HSK := Lib.hid (And.intro hsk hss)
       clear hbb hw4 hik his hz1 hz2 hz3 hsk hss n0 n1 n2 n3 n4 n5
       have HFCT := Lib.hid (And.intro b0 (And.intro b1 (And.intro b2 b3)))
       refine wp_region_reg 12 false (by kernel_rfl) (by kernel_rfl) ?_
       refine reg_value (fun _ => rfl) ?_ (fun g w' vs hM hE hP => ?_) ?_
       rotate_left
       · (clear hP hM; have ⟨z0, z1, z2, z3⟩ := cs_e4 hE HFCT.out; go_simp; first | done | rfl)
       refine reg_value (fun _ => rfl) ?_ (fun g w' vs hM hE hP => ?_) ?_
       rotate_left
       · (clear hP hM; have ⟨z0, z1, z2, z3⟩ := cs_e4 hE HFCT.out; go_simp; first | done | rfl)
       refine reg_const (fun _ => rfl) 60 ?_ (fun g w' vs hM hE hP => ?_) ?_
       rotate_left
       · (clear hP hM; have ⟨z0, z1, z2, z3⟩ := cs_e4 hE HFCT.out; go_simp; first | done | exact ⟨rfl, rfl⟩ | rfl)
       apply Exists.intro
       refine And.intro (fun g w' vs hM hE hP => ?_) ?_
       · exact HIK.out _
       refine reg_value (fun _ => rfl) ?_ (fun g w' vs hM hE hP => ?_) ?_
       rotate_left
       · (clear hP hM; have ⟨z0, z1, z2, z3⟩ := cs_e4 hE HFCT.out; go_simp; first | done | rfl)
       refine reg_value (fun _ => rfl) ?_ (fun g w' vs hM hE hP => ?_) ?_
       rotate_left
       · (clear hP hM; have ⟨z0, z1, z2, z3⟩ := cs_e4 hE HFCT.out; go_simp; first | done | rfl)
       refine reg_value (fun _ => rfl) ?_ (fun g w' vs hM hE hP => ?_) ?_
       rotate_left
       · (clear hP hM; have ⟨z0, z1, z2, z3⟩ := cs_e4 hE HFCT.out; go_simp; first | done | rfl)
       refine reg_const (fun _ => rfl) 60 ?_ (fun g w' vs hM hE hP => ?_) ?_
       rotate_left
       · (clear hP hM; have ⟨z0, z1, z2, z3⟩ := cs_e4 hE HFCT.out; go_simp; first | done | exact ⟨rfl, rfl⟩ | rfl)
       apply Exists.intro
       refine And.intro (fun g w' vs hM hE hP => ?_) ?_
       · exact HIS.out _
       refine reg_value (fun _ => rfl) ?_ (fun g w' vs hM hE hP => ?_) ?_
       rotate_left
       · (clear hP hM; have ⟨z0, z1, z2, z3⟩ := cs_e4 hE HFCT.out; go_simp; first | done | rfl)
       refine reg_value (fun _ => rfl) ?_ (fun g w' vs hM hE hP => ?_) ?_
       rotate_left
       · (clear hP hM; have ⟨z0, z1, z2, z3⟩ := cs_e4 hE HFCT.out; go_simp; first | done | rfl)
       refine reg_value (fun _ => rfl) ?_ (fun g w' vs hM hE hP => ?_) ?_
       rotate_left
       · (clear hP hM; have ⟨z0, z1, z2, z3⟩ := cs_e4 hE HFCT.out; go_simp; first | done | rfl)
       refine reg_value (fun _ => rfl) ?_ (fun g w' vs hM hE hP => ?_) ?_
       rotate_left
       · (clear hP hM; have ⟨z0, z1, z2, z3⟩ := cs_e4 hE HFCT.out; go_simp; first | done | rfl)
       refine reg_value (fun _ => rfl) ?_ (fun g w' vs hM hE hP => ?_) ?_
       rotate_left
       · (clear hP hM; have ⟨z0, z1, z2, z3⟩ := cs_e4 hE HFCT.out; go_simp; first | done | rfl)
       intro g6 w6 hE6 hF6 hQ6
       simp only [List.drop_succ_cons, List.drop_zero, Act.put, List.setIfInBounds_toArray, List.set_cons_succ, List.set_cons_zero]
       have HA6 := Lib.hid (HFA.out.ext hE6)
       clear hE6 hF6 hQ6
       go_wp2_with fail
       obtain ⟨st, hst⟩ : ∃ st : ByteArray, st = sk ++ ⟨#[32]⟩ ++ ss ++ ⟨#[32]⟩ ++ t.name := ⟨_, rfl⟩
       rw [← hst]
       have hlen : ([] : List UInt8).length + st.size ≤ 1000000 := by
        have := HZ.out
        have e : (⟨#[32]⟩ : ByteArray).size = 1 := rfl
        rw [hst]
        simp only [ByteArray.size_append, List.length_nil]
        omega
       have hdat : [] ++ st.data.toList = keyL t.kind t.sort t.name.data.toList [] := by
        rw [hst, HSK.out.1, HSK.out.2]
        unfold keyL
        simp [ByteArray.data_append]
       refine (writeStr_any HA6.out.bu hlen (Nat.le_of_lt HA6.out.ord.2.2.2.1)).mono ?_
       rintro e w7 ⟨rfl, k1, k2⟩
       rw [hdat] at k1
       have HA7 := Lib.hid (HA6.out.wrote k2 k1)
       clear k1 k2 hdat hlen hst
       have HP := Lib.hid (show ∃ nv1 N1 S1 kvv ks, FAdd w w7 B fb ib mb l (.slice lva l.length lvc) nv S t a cap bx nb bb nv1 N1 S1 kvv ks (keyL t.kind t.sort t.name.data.toList ks) ∧ KidsOk N1 ks (t.kids.take 0) ∧ knL l (t.kids.take 0) = true ∧ N <+: N1 ∧ N1.length ≤ N.length + sizeL (t.kids.take 0) ∧ (∀ x ∈ N1, x ∈ N ∨ x.t ∈ allT t) from
        ⟨nv, N, S, _, [], HA7.out, ⟨by simp, by simp⟩, by simp [knL], List.prefix_refl _, by simp [sizeL], fun x hx => .inl hx⟩)
       obtain ⟨b0, b1, b2, b3⟩ := box4r HA7.out.tb
       go_wp2_with fail
       go_loopw [48] (fun kv wr => ∃ k : Nat, kv = .int .i64 k ∧ k ≤ t.kids.length ∧ Hid (∃ nv1 N1 S1 kvv ks, FAdd w wr B fb ib mb l (.slice lva l.length lvc) nv S t a cap bx nb bb nv1 N1 S1 kvv ks (keyL t.kind t.sort t.name.data.toList ks) ∧ KidsOk N1 ks (t.kids.take k) ∧ knL l (t.kids.take k) = true ∧ N <+: N1 ∧ N1.length ≤ N.length + sizeL (t.kids.take k) ∧ (∀ x ∈ N1, x ∈ N ∨ x.t ∈ allT t))) (fun kv _ => t.kids.length - (intOf kv).toNat)
       case atStart => exact ⟨0, rfl, by omega, HP⟩
       case round =>
        clear HP b0 b1 b2 b3
        obtain ⟨k, rfl, hk, HR⟩ := hrel
        obtain ⟨nv1, N1, S1, kvv, ks, hA, hK, hL, hPf, hLn, hSb⟩ := HR.out
        have HSB := Lib.hid hSb
        have HA := Lib.hid hA
        have HK := Lib.hid hK
        have HL := Lib.hid hL
        have HPF := Lib.hid hPf
        have HLN := Lib.hid hLn
        clear hA hK hL hPf hLn hSb HR
        by_cases hlt : k < t.kids.length
        · obtain ⟨x, hx⟩ : ∃ x, t.kids[k]? = some x := ⟨_, List.getElem?_eq_getElem hlt⟩
          have hTr := HA.out.term HF0.out HTS.out
          obtain ⟨xb, xo, xa, xc, rfl, x0, x1, x2, x3, hTx⟩ := hTr.ts.at hx
          obtain ⟨cx, w8, hcx, hw8, HBC, hE8⟩ := box_new wr (.cells #[.int .i64 0, .string ⟨#[]⟩, .int .i64 0, .slice none 0 0] 38)
          have HA8 := Lib.hid (HA.out.ext hE8)
          have HTX := Lib.hid (hTx.ext hE8)
          have HX := Lib.hid hx
          have HE8 := Lib.hid hE8
          have HSC : Hid (cx = wr.heap.size) := Lib.hid hcx
          clear hTr hTx hx hE8
          go_upto_region 9 with (
           rw [← hcx, ← hw8]
           refine wpList_storeT rfl (.tmp 9) (.tmp 51) rfl (g := cx) rfl (k := x.kind) (s := x.sort) (n := x.name) (ka := xa) (kl := x.kids.length) (kc := xc) rfl HBC.out rfl ?_
           intro w9 c9 q9 e9 z9
           have HE9 := Lib.hid (e9 wr HE8.out (Nat.le_of_eq HSC.out.symm))
           obtain ⟨y0, y1, y2, y3⟩ := box4r c9
           clear c9 q9 e9 z9)
          have HA9 := Lib.hid (HA.out.ext HE9.out)
          have hxz := sizeL_take' HX.out
          have hxm := sizeL_take_le t.kids (k + 1)
          have hcall := ih w9 B fb ib mb l _ nv1 N1 S1 xa xc x (by omega) HA9.out.fw (by have := HMB.out; have := HA9.out.size; omega) hl100 (HTM.out.2 x (List.mem_of_getElem? HX.out)) ⟨U, by have := HN.out; omega, HUU.out.1, fun q hq => (HSB.out q hq).elim (HUU.out.2.1 q) (HUU.out.2.2 _), fun z hz => HUU.out.2.2 z (allT_kid (List.mem_of_getElem? HX.out) hz)⟩ (HTX.out.keep (fun c hc hlt => by
           rw [HE9.out.block (by have := HA.out.ord; have := HA.out.size; omega), HE8.out.block (by have := HA.out.ord; have := HA.out.size; omega)]) (fun _ h _ => h))
          have HCALL := Lib.hid hcall
          clear hcall hw8 hcx x0 x1 x2 x3 hxz hxm
          go_wp2_with fail
          refine HCALL.out.mono ?_
          rintro e w10 ⟨i, ok, rfl, nv2, N2, S2, hF2, hfr2, hpf2, hln2, hsb2, hok, hmem⟩
          have HSB2 : Hid (∀ q ∈ N2, q ∈ N ∨ q.t ∈ allT t) := Lib.hid (fun q hq => by
           rcases hsb2 q hq with h | h
           · exact HSB.out q h
           · exact .inr (allT_kid (List.mem_of_getElem? HX.out) h))
          have HL2 : Hid (N2.length ≤ 100) := Lib.hid (Nat.le_trans (grown_len hF2.grown (fun q hq => (HSB2.out q hq).elim (HUU.out.2.1 q) (HUU.out.2.2 _))) HUU.out.1)
          have HA10 := Lib.hid (HA9.out.call hfr2 hF2)
          have HPF2 := Lib.hid (List.IsPrefix.trans HPF.out hpf2)
          have HPF12 := Lib.hid hpf2
          have HOK := Lib.hid hok
          have HMEM := Lib.hid hmem
          have HLN2 : Hid (N2.length ≤ N.length + sizeL (t.kids.take (k + 1))) := Lib.hid (by rw [sizeL_take' HX.out]; have := HLN.out; omega)
          clear hF2 hfr2 hpf2 hln2 hsb2 hok hmem
          cases ok with
          | false =>
            go_wp2_with fail
            go_ret2
            refine ⟨_, _, rfl, nv2, N2, S2, HA10.out.fw, HA10.out.fr, HPF2.out, by have := HLN2.out; have := sizeL_take_le t.kids (k + 1); omega, HSB2.out, ?_, fun h => by cases h⟩
            rw [knT_kids, knL_false HOK.out.symm (List.mem_of_getElem? HX.out)]
            simp
          | true =>
            obtain ⟨m, y, rfl, hm, hy⟩ := HMEM.out rfl
            have HM := Lib.hid hm
            have HY := Lib.hid hy
            clear HMEM hm hy
            obtain ⟨ka, kc, hkv, hkv1, hkv2⟩ := HA10.out.own.slice
            subst hkv
            unfold maxLen at hkv2
            obtain ⟨n0, n1, n2, n3, n4, n5⟩ := box6 HA10.out.nd
            have hm100 : m < 100 := by have := (List.getElem?_eq_some_iff.1 HM.out).1; have := HL2.out; omega
            have hks : ks.length = k := by have := HK.out.1; rw [this, List.length_take]; omega
            have hk100 : ks.length ≤ 100 := by have := HN.out; omega
            have HKS := Lib.hid hks
            clear hks
            obtain ⟨ob, wa, hob, hwa, HBO, hEa⟩ := box_new w10 (.cells #[.int .i64 (m : Int)] 3)
            have HAa := Lib.hid (HA10.out.ext hEa)
            have HLSE := Lib.hid (one_intF (S := fun _ => False) HBO.out (k := (m : Int)) (by unfold I64; omega))
            have n5a := cs_ext hEa n5
            have HK2 := Lib.hid (HK.out.mono HPF12.out)
            clear n0 n1 n2 n3 n4 hEa
            go_upto_region 13 with (
             at_builtin
             rw [← hob, ← hwa]
             refine wpList_appG (E := elI) (T := 3) rfl 23 (.tmp 61) (.tmp 63) rfl rfl rfl Tryd.underlying23 infInt rfl (by decide) (by decide) HAa.out.own (Nat.succ_le_of_lt HAa.out.ord.2.2.2.1) (fun c h => absurd h id) (by omega) (M := [(m : Int)]) (by simp) HLSE.out ?_
             intro v6 w6 o6 g6 k6
             obtain ⟨u1, u2, hu, hu1, hu2⟩ := o6.slice
             have hl6 : (ks ++ [(m : Int)]).length = ks.length + 1 := by simp
             rw [hl6] at hu
             subst hu
             unfold maxLen at hu2
             have hn6 := (g6.block nb (by have := HAa.out.ord; omega) (fun e => by have := (HAa.out.own.lt nb e.symm).1; have := HAa.out.ord; omega)).trans HAa.out.nd
             have z5 : w6.cell? ⟨nb, 5, none⟩ = some (.slice ka ks.length kc) := by rw [cellc hn6]; rfl
             have zf : w6.frozen? ⟨nb, 5, none⟩ = false := frozenc hn6
             have HP6 := Lib.hid (HAa.out.push o6 g6 k6)
             clear o6 g6 k6 hn6)
            obtain ⟨w11, hw11⟩ : ∃ w11, w11 = w6.setCell ⟨nb, 5, none⟩ (.slice u1 (ks.length + 1) u2) := ⟨_, rfl⟩
            rw [← hw11]
            have HA11 : Hid (FAdd w w11 B fb ib mb l (.slice lva l.length lvc) nv S t _ cap bx nb bb nv2 N2 S2 (.slice u1 (ks.length + 1) u2) (ks ++ [(m : Int)]) (keyL t.kind t.sort t.name.data.toList ks)) := Lib.hid (by rw [hw11]; exact HP6.out)
            obtain ⟨sm, hsm⟩ : ∃ sm : ByteArray, sm = ⟨(num (m : Int)).toArray⟩ := ⟨_, rfl⟩
            have him : ∀ w', Calls Tryd.prog 60 #[.int .i64 (m : Int)] w' fun e w'' => e = .returned (.string sm) ∧ w' = w'' := fun w' => (itoa_any (by omega) (by omega)).mono (fun e w'' h => ⟨by rw [h.1, hsm], h.2⟩)
            have hz1 : sm.size ≤ 2 := by rw [hsm]; exact num_len (by omega) (by omega)
            have q1 : ¬ (9223372036854775807 < 1 + sm.size) := by omega
            have HIM := Lib.hid him
            have HSM := Lib.hid hsm
            clear hw11 HP6 z5 zf him hsm n5a n5 hob hwa
            go_wp2_with fail
            refine (HIM.out _).mono ?_
            rintro e w12 ⟨rfl, rfl⟩
            go_wp2_with fail
            obtain ⟨st, hst⟩ : ∃ st : ByteArray, st = ⟨#[32]⟩ ++ sm := ⟨_, rfl⟩
            rw [← hst]
            have h100 : ∀ i ∈ ks, 0 ≤ i ∧ i < 100 := fun i hi => by have := HK2.out.lt i hi; have := HL2.out; omega
            have hlen : (keyL t.kind t.sort t.name.data.toList ks).length + st.size ≤ 1000000 := by
             have h1 := keyL_len (k := t.kind) (s := t.sort) (n := t.name.data.toList) HTK.out.1 HTK.out.2.1 h100
             have e : (⟨#[32]⟩ : ByteArray).size = 1 := rfl
             have e2 : t.name.data.toList.length = t.name.size := Array.length_toList
             have := HTK.out.2.2.2.1
             rw [hst]
             simp only [ByteArray.size_append]
             omega
            have hdat : keyL t.kind t.sort t.name.data.toList ks ++ st.data.toList = keyL t.kind t.sort t.name.data.toList (ks ++ [(m : Int)]) := by
             rw [keyL_snoc, hst, HSM.out]
             simp [ByteArray.data_append]
            refine (writeStr_any HA11.out.bu hlen (Nat.le_of_lt HA11.out.ord.2.2.2.1)).mono ?_
            rintro e w13 ⟨rfl, k1, k2⟩
            rw [hdat] at k1
            have HA13 := Lib.hid (HA11.out.wrote k2 k1)
            clear k1 k2 hdat hlen hst h100
            go_wp2_with fail
            go_roundw
            case rel =>
             refine ⟨k + 1, by go_num, by omega, Lib.hid ⟨nv2, N2, S2, _, _, HA13.out, ?_, ?_, HPF2.out, HLN2.out, HSB2.out⟩⟩
             · have := HK2.out.snoc HM.out HY.out
               rw [List.take_add_one, HX.out]
               exact this
             · rw [knL_take HX.out, HL.out, ← HOK.out]; rfl
            case measure => simp [intOf]; omega
        · have hke : k = t.kids.length := by omega
          subst hke
          rw [List.take_length] at HK HL HLN
          obtain ⟨D, nn, hD, hM⟩ := HA.out.fw.ids
          have hN1 : N1.length ≤ 100 := Nat.le_trans (grown_len HA.out.fw.grown (fun q hq => (HSB.out q hq).elim (HUU.out.2.1 q) (HUU.out.2.2 _))) HUU.out.1
          have HN1H := Lib.hid hN1
          have h100 : ∀ i ∈ ks, 0 ≤ i ∧ i < 100 := fun i hi => by have := HK.out.lt i hi; have := HN1H.out; omega
          have hkl : (keyL t.kind t.sort t.name.data.toList ks).length ≤ 1000000 := by
           have h1 := keyL_len (k := t.kind) (s := t.sort) (n := t.name.data.toList) HTK.out.1 HTK.out.2.1 h100
           have e2 : t.name.data.toList.length = t.name.size := Array.length_toList
           have := HTK.out.2.2.2.1
           have := HK.out.1
           have := HN.out
           omega
          obtain ⟨key, hkey⟩ : ∃ key, key = keyL t.kind t.sort t.name.data.toList ks := ⟨_, rfl⟩
          rw [← hkey] at HA hkl
          have HKEY := Lib.hid hkey
          have HKL := Lib.hid hkl
          have HD := Lib.hid hD
          have HM := Lib.hid hM
          have hlook := forest_look HA.out.fw.grown hD hN1 HTK.out HK.out
          rw [← hkey] at hlook
          have f2 : wr.drew.cell? ⟨fb, 2, none⟩ = some (.map (some ib)) := by rw [cs_dr (w := wr) (p := ⟨fb, 2, none⟩) (v := .map (some ib)) (by rw [cellc HA.out.fw.blk]; rfl)]
          have HAd := Lib.hid (HA.out.ext (Ext.drew wr))
          have HMd := Lib.hid (hM.ext (Ext.drew wr))
          clear hD hM hN1 h100 hkl hkey
          rcases hlook with ⟨m, y, hd, hm, hy⟩ | ⟨hd, hne⟩
          · have HDK := Lib.hid hd
            have HMY := Lib.hid (And.intro hm hy)
            clear hd hm hy
            go_upto_region 15 with fail
            go_cut [12, 13] from 71 to 79 (fun v12 v13 wy => v12 = .int .i64 (m : Int) ∧ v13 = .bool true ∧ Hid (FAdd w wy B fb ib mb l (.slice lva l.length lvc) nv S t a cap bx nb bb nv1 N1 S1 kvv ks key))
            case first =>
             go_region_law (
              go_simp
              go_at_call 54
              refine (buStr_any (HAd.out.bu.ext (by repeat (first | exact Ext.refl _ | exact Ext.alloc _ _ | apply Ext.then_dr | apply Ext.then_drN | apply Ext.then_drN2 | (refine Ext.then_al ?_ _)))) (Nat.le_of_lt (HAd.out.ext (by repeat (first | exact Ext.refl _ | exact Ext.alloc _ _ | apply Ext.then_dr | apply Ext.then_drN | apply Ext.then_drN2 | (refine Ext.then_al ?_ _)))).ord.2.2.2.1)).mono ?_
              rintro e w6 ⟨rfl, k1, k2⟩
              have hA6 := (HAd.out.ext (by repeat (first | exact Ext.refl _ | exact Ext.alloc _ _ | apply Ext.then_dr | apply Ext.then_drN | apply Ext.then_drN2 | (refine Ext.then_al ?_ _)))).wrote k2 k1
              have g2 : w6.cell? ⟨fb, 2, none⟩ = some (.map (some ib)) := (by rw [cellc hA6.fw.blk]; rfl)
              have hlk := ids_look (w := w6) ((HMd.out.ext (by repeat (first | exact Ext.refl _ | exact Ext.alloc _ _ | apply Ext.then_dr | apply Ext.then_drN | apply Ext.then_drN2 | (refine Ext.then_al ?_ _)))).same (k2.below.block ib (by have := (HAd.out).ord; have := (HAd.out).old; omega))) HKL.out
              rw [HDK.out] at hlk
              simp only [Option.getD_some, Option.isSome_some] at hlk
              have HA6 := Lib.hid hA6
              clear k1 k2 hA6)
             all_goals
              go_wp2_with fail
              go_meet
              case rel => exact ⟨rfl, rfl, HA6⟩
            case rest =>
             obtain ⟨rfl, rfl, HA6⟩ := hcut
             go_wp2_with fail
             go_ret2
             have := HLN.out
             refine ⟨_, _, rfl, nv1, N1, S1, HA6.out.fw, HA6.out.fr, HPF.out, by omega, HSB.out, by rw [knT_kids, HL.out, ← HRK.out, HGO.out]; rfl, fun _ => ⟨m, y, rfl, HMY.out⟩⟩
          · have HDK := Lib.hid hd
            have HNE := Lib.hid hne
            clear hd hne
            go_upto_region 15 with fail
            go_cut [12, 13] from 71 to 79 (fun v12 v13 wy => v12 = .int .i64 0 ∧ v13 = .bool false ∧ Hid (FAdd w wy B fb ib mb l (.slice lva l.length lvc) nv S t a cap bx nb bb nv1 N1 S1 kvv ks key ∧ MapK encB wy ib nn (fun s => (D s.1.data.toList).map (.int .i64))))
            case first =>
             go_region_law (
              go_simp
              go_at_call 54
              refine (buStr_any (HAd.out.bu.ext (by repeat (first | exact Ext.refl _ | exact Ext.alloc _ _ | apply Ext.then_dr | apply Ext.then_drN | apply Ext.then_drN2 | (refine Ext.then_al ?_ _)))) (Nat.le_of_lt (HAd.out.ext (by repeat (first | exact Ext.refl _ | exact Ext.alloc _ _ | apply Ext.then_dr | apply Ext.then_drN | apply Ext.then_drN2 | (refine Ext.then_al ?_ _)))).ord.2.2.2.1)).mono ?_
              rintro e w6 ⟨rfl, k1, k2⟩
              have hA6 := (HAd.out.ext (by repeat (first | exact Ext.refl _ | exact Ext.alloc _ _ | apply Ext.then_dr | apply Ext.then_drN | apply Ext.then_drN2 | (refine Ext.then_al ?_ _)))).wrote k2 k1
              have g2 : w6.cell? ⟨fb, 2, none⟩ = some (.map (some ib)) := (by rw [cellc hA6.fw.blk]; rfl)
              have hM6 := (HMd.out.ext (by repeat (first | exact Ext.refl _ | exact Ext.alloc _ _ | apply Ext.then_dr | apply Ext.then_drN | apply Ext.then_drN2 | (refine Ext.then_al ?_ _)))).same (k2.below.block ib (by have := (HAd.out).ord; have := (HAd.out).old; omega))
              have hlk := ids_look (w := w6) hM6 HKL.out
              rw [HDK.out] at hlk
              simp only [Option.getD_none, Option.isSome_none] at hlk
              have HA6 := Lib.hid (And.intro hA6 hM6)
              clear k1 k2 hA6 hM6)
             all_goals
              go_wp2_with fail
              go_meet
              case rel => exact ⟨rfl, rfl, HA6⟩
            case rest =>
             obtain ⟨rfl, rfl, HA6⟩ := hcut
             clear HAd HMd HM f2
             obtain ⟨na, nc, hnv, hnv1, hnv2⟩ := HA6.out.1.fw.row.slice
             subst hnv
             unfold maxLen at hnv2
             have HAd := Lib.hid (HA6.out.1.ext (Ext.drew wc))
             have HMd := Lib.hid (HA6.out.2.ext (Ext.drew wc))
             obtain ⟨f0, f1, f2, f3⟩ := box4r HA6.out.1.fw.blk
             have f2d : wc.drew.cell? ⟨fb, 2, none⟩ = some (.map (some ib)) := f2
             go_upto_region 18 with fail
             go_cut [12] from 87 to 92 (fun v12 wy => v12 = .int .i64 (N1.length : Int) ∧ Hid (∃ w6 ob, FAdd w w6 B fb ib mb l (.slice lva l.length lvc) nv S t a cap bx nb bb (.slice na N1.length nc) N1 S1 kvv ks key ∧ wy = ChangeMaps.setBlock w6 ib ob ∧ MapK encB wy ib (nn + 1) (fun s => if s.1.data.toList = key then some (.int .i64 (N1.length : Int)) else (D s.1.data.toList).map (.int .i64))))
             case first =>
              go_region_law (
               go_simp
               go_at_call 54
               refine (buStr_any (HAd.out.bu.ext (by repeat (first | exact Ext.refl _ | exact Ext.alloc _ _ | apply Ext.then_dr | apply Ext.then_drN | apply Ext.then_drN2 | (refine Ext.then_al ?_ _)))) (Nat.le_of_lt (HAd.out.ext (by repeat (first | exact Ext.refl _ | exact Ext.alloc _ _ | apply Ext.then_dr | apply Ext.then_drN | apply Ext.then_drN2 | (refine Ext.then_al ?_ _)))).ord.2.2.2.1)).mono ?_
               rintro e w6 ⟨rfl, k1, k2⟩
               have hA6 := (HAd.out.ext (by repeat (first | exact Ext.refl _ | exact Ext.alloc _ _ | apply Ext.then_dr | apply Ext.then_drN | apply Ext.then_drN2 | (refine Ext.then_al ?_ _)))).wrote k2 k1
               have g2 : w6.cell? ⟨fb, 2, none⟩ = some (.map (some ib)) := (by rw [cellc hA6.fw.blk]; rfl)
               have hM6 := (HMd.out.ext (by repeat (first | exact Ext.refl _ | exact Ext.alloc _ _ | apply Ext.then_dr | apply Ext.then_drN | apply Ext.then_drN2 | (refine Ext.then_al ?_ _)))).same (k2.below.block ib (by have := (HAd.out).ord; have := (HAd.out).old; omega))
               obtain ⟨ob, hpt, hM7⟩ := ids_put (w := w6) (i := (N1.length : Int)) hM6 HKL.out
               have HA7 := Lib.hid hA6
               have HM7 := Lib.hid hM7
               clear k1 k2 hA6 hM6 hM7)
              all_goals
               go_wp2_with fail
               go_meet
               case rel => exact ⟨rfl, Lib.hid ⟨w6, ob, HA7.out, rfl, HM7.out⟩⟩
             case rest =>
              obtain ⟨rfl, HA7⟩ := hcut
              obtain ⟨w6, ob, hA7, hw7, hM7⟩ := HA7.out
              obtain ⟨ka, kc, hkv, hkv1, hkv2⟩ := hA7.own.slice
              subst hkv
              unfold maxLen at hkv2
              obtain ⟨r1, r2, r3, r4, r5, r6, r7⟩ := hA7.after HF0.out HTS.out hw7
              have HWB := Lib.hid hw7
              have HM7 := Lib.hid hM7
              have HA9 := Lib.hid hA7
              have HFB7 := Lib.hid r1
              have HFN : Hid ((Value.slice na N1.length nc).ownBlock ≠ some fb) := Lib.hid (fun e => by
               obtain ⟨cur, e1⟩ := r3.block e
               rw [r1] at e1; simp at e1)
              have HR3 := Lib.hid r3
              have HR4 := Lib.hid r4
              have HR5 := Lib.hid r5
              have HR6 := Lib.hid r6
              have HR7 := Lib.hid r7
              have hnl : N1.length ≤ 1000000 := by have := HN1H.out; omega
              have HNL := Lib.hid hnl
              obtain ⟨f0, f1, f2, f3⟩ := box4r r1
              obtain ⟨n0, n1, n2, n3, n4, n5⟩ := box6 r2
              have d1 : wc.drew.cell? ⟨fb, 1, none⟩ = some (.slice na N1.length nc) := f1
              have e0 : wc.drew.cell? ⟨nb, 0, none⟩ = some (.int .i64 t.kind) := n0
              have e1 : wc.drew.cell? ⟨nb, 1, none⟩ = some (.string t.name) := n1
              have e2 : wc.drew.cell? ⟨nb, 2, none⟩ = some (.int .i64 t.sort) := n2
              have e3 : wc.drew.cell? ⟨nb, 3, none⟩ = _ := n3
              have e4 : wc.drew.cell? ⟨nb, 4, none⟩ = some (.int .i64 (rnk l t.name)) := n4
              have e5 : wc.drew.cell? ⟨nb, 5, none⟩ = some (.slice ka ks.length kc) := n5
              have g1 := cs_al (o := .cells #[.int .i64 t.kind, .string t.name, .int .i64 t.sort, .slice a t.kids.length cap, .int .i64 (rnk l t.name), .slice ka ks.length kc] 67) f1
              clear hA7 hw7 hM7 r1 r2 r3 r4 r5 r6 r7 f0 f2 f3 f2d hnl
              go_upto_region 19 with fail
              go_cut [12] from 93 to 102 (fun v12 wz => v12 = .int .i64 (N1.length : Int) ∧ Hid (∃ nv3 N3 S3, FW wz B fb ib mb l (.slice lva l.length lvc) nv3 N3 S3 ∧ AFr w wz fb ib nv nv3 S S3 ∧ N3 = N1 ++ [⟨t, rnk l t.name, ks⟩]))
              case first =>
               go_region_law (
                refine step_appG (E := elN) (T := 67) rfl 61 (.tmp 97) (.tmp 99) rfl rfl rfl Tryd.underlying61 infNode rfl (by decide) (by decide) (HR3.out.ext (by repeat (first | exact Ext.refl _ | exact Ext.alloc _ _ | apply Ext.then_dr | apply Ext.then_drN | apply Ext.then_drN2 | (refine Ext.then_al ?_ _)))) (Nat.le_trans HR7.out (Ext.size (by repeat (first | exact Ext.refl _ | exact Ext.alloc _ _ | apply Ext.then_dr | apply Ext.then_drN | apply Ext.then_drN2 | (refine Ext.then_al ?_ _))))) HR6.out HNL.out (M := [⟨t, rnk l t.name, ks⟩]) (by simp) (one_nodF (x := ⟨t, rnk l t.name, ks⟩) hs_new (HR4.out.ext (by repeat (first | exact Ext.refl _ | exact Ext.alloc _ _ | apply Ext.then_dr | apply Ext.then_drN | apply Ext.then_drN2 | (refine Ext.then_al ?_ _)))) (by rw [← HRK.out]; exact HRI.out) (HR5.out.ext (by repeat (first | exact Ext.refl _ | exact Ext.alloc _ _ | apply Ext.then_dr | apply Ext.then_drN | apply Ext.then_drN2 | (refine Ext.then_al ?_ _))))) ?_
                intro v5 w5 o5 g5 k5
                obtain ⟨u1, u2, hu, hu1, hu2⟩ := o5.slice
                rw [List.length_append, List.length_singleton] at hu
                subst hu
                unfold maxLen at hu2
                have hFD := HA9.out.done HK.out HD.out (by rw [← HKEY.out]; exact HDK.out) HNE.out HTK.out (by rw [← HRK.out]; exact HKN.out) HWB.out (by rw [← HKEY.out]; exact HM7.out) (by repeat (first | exact Ext.refl _ | exact Ext.alloc _ _ | apply Ext.then_dr | apply Ext.then_drN | apply Ext.then_drN2 | (refine Ext.then_al ?_ _))) g5 o5 k5
                have hf5 : w5.heap[fb]? = _ := (g5.block fb (Nat.lt_of_lt_of_le (lt_of_get' HFB7.out) (Ext.size (by repeat (first | exact Ext.refl _ | exact Ext.alloc _ _ | apply Ext.then_dr | apply Ext.then_drN | apply Ext.then_drN2 | (refine Ext.then_al ?_ _))))) (fun e => HFN.out e.symm)).trans (hs_ext (by repeat (first | exact Ext.refl _ | exact Ext.alloc _ _ | apply Ext.then_dr | apply Ext.then_drN | apply Ext.then_drN2 | (refine Ext.then_al ?_ _))) HFB7.out)
                have z1 : w5.cell? ⟨fb, 1, none⟩ = some (.slice na N1.length nc) := (by rw [cellc hf5]; rfl)
                have zf : w5.frozen? ⟨fb, 1, none⟩ = false := frozenc hf5
                have HFD := Lib.hid hFD
                clear o5 g5 k5 hFD hf5)
               all_goals
                go_wp2_with fail
                go_meet
                case rel => exact ⟨rfl, Lib.hid ⟨_, _, _, HFD.out.1, HFD.out.2, rfl⟩⟩
              case rest =>
               obtain ⟨rfl, HZ⟩ := hcut
               obtain ⟨nv3, N3, S3, hz1, hz2, rfl⟩ := HZ.out
               go_wp2_with fail
               go_ret2
               have := HLN.out
               refine ⟨_, _, rfl, nv3, _, S3, hz1, hz2, HPF.out.trans (List.prefix_append _ _), by simp; omega, (fun q hq => by
                rcases List.mem_append.1 hq with h | h
                · exact HSB.out q h
                · simp at h; subst h; exact .inr (allT_self t)), by rw [knT_kids, HL.out, ← HRK.out, HGO.out]; rfl, fun _ => ⟨N1.length, ⟨t, rnk l t.name, ks⟩, rfl, by simp, rfl⟩⟩

end Go.Proofs.YtkobikdkbpdjeaaDoor
