-- Written by wip/tools/myprint.py (a program of this session's, over the kit's print.py) out of the translation, but for the functions that it takes by contract.
import Derived.Test.YtlggmdlbhndacaaDoorLxx0
import Derived.Test.YtlggmdlbhndacaaDoorLxx1
namespace Go.Proofs.YtlggmdlbhndacaaDoor.Lx
open Go.RowKit Go.Proofs.YtlggmdlbhndacaaDoorW.PrintWords Go.Proofs.YtlggmdlbhndacaaDoorW.PrintLast Go.Proofs.YtlggmdlbhndacaaDoorW.PrintMore
attribute [local go_sem] max2_int min2_int max_two min_two max_three min_three max_four min_four   -- for this text's walks alone
set_option linter.unusedVariables false
set_option linter.unusedSimpArgs false

attribute [local go_sem high] eqA25
/-! ### tourbillonref04_Same: function 21 -/
mutual
def tourbillonref04_Same.j0 : Nat → Bool → Bool → ByteArray → List (S52) → Bool → Int → Int → ByteArray → List (S52) → Bool → Int → Int → Option (Bool)
  | 0, _, _, _, _, _, _, _, _, _, _, _, _ => none
  | k + 1, x2, x38, x366000, x366001, x366002, x366003, x366004, x367000, x367001, x367002, x367003, x367004 => if x38 = true then (some false) else (tourbillonref04_Same.l0 k x2 (x366001.length : Int) 0 x366000 x366001 x366002 x366003 x366004 x367000 x367001 x367002 x367003 x367004)
def tourbillonref04_Same.l0 : Nat → Bool → Int → Int → ByteArray → List (S52) → Bool → Int → Int → ByteArray → List (S52) → Bool → Int → Int → Option (Bool)
  | 0, _, _, _, _, _, _, _, _, _, _, _, _, _ => none
  | k + 1, x2, x41, x42, x366000, x366001, x366002, x366003, x366004, x367000, x367001, x367002, x367003, x367004 => if x42 < x41 then (if 0 ≤ x42 then (if x42 < (x366001.length : Int) then (if x42 < (x367001.length : Int) then ((tourbillonref04_Same.f k ((rd_T52 x366001 x42).f0) ((rd_T52 x366001 x42).f1) ((rd_T52 x366001 x42).f2) ((rd_T52 x366001 x42).f3.f0) ((rd_T52 x366001 x42).f3.f1) ((rd_T52 x367001 x42).f0) ((rd_T52 x367001 x42).f1) ((rd_T52 x367001 x42).f2) ((rd_T52 x367001 x42).f3.f0) ((rd_T52 x367001 x42).f3.f1) x2).bind fun t369 => (if t369 = true then (tourbillonref04_Same.l0 k x2 x41 (wrap64 (x42 + 1)) x366000 x366001 x366002 x366003 x366004 x367000 x367001 x367002 x367003 x367004) else (some false))) else (none)) else (none)) else (none)) else (some true)
def tourbillonref04_Same.f : Nat → ByteArray → List (S52) → Bool → Int → Int → ByteArray → List (S52) → Bool → Int → Int → Bool → Option (Bool)
  | 0, _, _, _, _, _, _, _, _, _, _, _ => none
  | k + 1, a0_0, l0_1, a0_2, a0_3, a0_4, a1_0, l1_1, a1_2, a1_3, a1_4, a2 => if a0_0.toList = a1_0.toList then (if (a0_2 != a1_2) = true then (tourbillonref04_Same.j0 k a2 true a0_0 l0_1 a0_2 a0_3 a0_4 a1_0 l1_1 a1_2 a1_3 a1_4) else (if a2 = true then (if (!(a0_3 == a1_3) || (!(a0_4 == a1_4))) = true then (tourbillonref04_Same.j0 k a2 true a0_0 l0_1 a0_2 a0_3 a0_4 a1_0 l1_1 a1_2 a1_3 a1_4) else (tourbillonref04_Same.j0 k a2 ((l0_1.length : Int) != (l1_1.length : Int)) a0_0 l0_1 a0_2 a0_3 a0_4 a1_0 l1_1 a1_2 a1_3 a1_4)) else (tourbillonref04_Same.j0 k a2 ((l0_1.length : Int) != (l1_1.length : Int)) a0_0 l0_1 a0_2 a0_3 a0_4 a1_0 l1_1 a1_2 a1_3 a1_4))) else (tourbillonref04_Same.j0 k a2 true a0_0 l0_1 a0_2 a0_3 a0_4 a1_0 l1_1 a1_2 a1_3 a1_4)
end
theorem tourbillonref04_Same.mono_l : ∀ k, (∀ y0 y1 y2 y3 y4 y5 y6 y7 y8 y9 y10, LeO (tourbillonref04_Same.f k y0 y1 y2 y3 y4 y5 y6 y7 y8 y9 y10) (tourbillonref04_Same.f (k + 1) y0 y1 y2 y3 y4 y5 y6 y7 y8 y9 y10)) ∧ (∀ y0 y1 y2 y3 y4 y5 y6 y7 y8 y9 y10 y11, LeO (tourbillonref04_Same.j0 k y0 y1 y2 y3 y4 y5 y6 y7 y8 y9 y10 y11) (tourbillonref04_Same.j0 (k + 1) y0 y1 y2 y3 y4 y5 y6 y7 y8 y9 y10 y11)) ∧ (∀ y0 y1 y2 y3 y4 y5 y6 y7 y8 y9 y10 y11 y12, LeO (tourbillonref04_Same.l0 k y0 y1 y2 y3 y4 y5 y6 y7 y8 y9 y10 y11 y12) (tourbillonref04_Same.l0 (k + 1) y0 y1 y2 y3 y4 y5 y6 y7 y8 y9 y10 y11 y12))
  | 0 => ⟨fun _ _ _ _ _ _ _ _ _ _ _ r h => by simp [tourbillonref04_Same.f] at h, fun _ _ _ _ _ _ _ _ _ _ _ _ r h => by simp [tourbillonref04_Same.j0] at h, fun _ _ _ _ _ _ _ _ _ _ _ _ _ r h => by simp [tourbillonref04_Same.l0] at h⟩
  | k + 1 => by
    obtain ⟨ih0, ih1, ih2⟩ := tourbillonref04_Same.mono_l k
    refine ⟨?_, ?_, ?_⟩
    · intro y0 y1 y2 y3 y4 y5 y6 y7 y8 y9 y10
      unfold tourbillonref04_Same.f
      repeat' first
      | (with_reducible exact ih0 _ _ _ _ _ _ _ _ _ _ _)
      | (with_reducible exact ih1 _ _ _ _ _ _ _ _ _ _ _ _)
      | (with_reducible exact ih2 _ _ _ _ _ _ _ _ _ _ _ _ _)
      | (with_reducible exact LeO.refl _)
      | (with_reducible exact LeO.none _)
      | (with_reducible refine LeO.ite ?_ ?_)
      | (with_reducible refine LeO.bind ?_ (fun _ => ?_))
      | exact ih0 _ _ _ _ _ _ _ _ _ _ _
      | exact ih1 _ _ _ _ _ _ _ _ _ _ _ _
      | exact ih2 _ _ _ _ _ _ _ _ _ _ _ _ _
      | exact LeO.none _
      | refine LeO.ite ?_ ?_
      | refine LeO.bind ?_ (fun _ => ?_)
    · intro y0 y1 y2 y3 y4 y5 y6 y7 y8 y9 y10 y11
      unfold tourbillonref04_Same.j0
      repeat' first
      | (with_reducible exact ih0 _ _ _ _ _ _ _ _ _ _ _)
      | (with_reducible exact ih1 _ _ _ _ _ _ _ _ _ _ _ _)
      | (with_reducible exact ih2 _ _ _ _ _ _ _ _ _ _ _ _ _)
      | (with_reducible exact LeO.refl _)
      | (with_reducible exact LeO.none _)
      | (with_reducible refine LeO.ite ?_ ?_)
      | (with_reducible refine LeO.bind ?_ (fun _ => ?_))
      | exact ih0 _ _ _ _ _ _ _ _ _ _ _
      | exact ih1 _ _ _ _ _ _ _ _ _ _ _ _
      | exact ih2 _ _ _ _ _ _ _ _ _ _ _ _ _
      | exact LeO.none _
      | refine LeO.ite ?_ ?_
      | refine LeO.bind ?_ (fun _ => ?_)
    · intro y0 y1 y2 y3 y4 y5 y6 y7 y8 y9 y10 y11 y12
      unfold tourbillonref04_Same.l0
      repeat' first
      | (with_reducible exact ih0 _ _ _ _ _ _ _ _ _ _ _)
      | (with_reducible exact ih1 _ _ _ _ _ _ _ _ _ _ _ _)
      | (with_reducible exact ih2 _ _ _ _ _ _ _ _ _ _ _ _ _)
      | (with_reducible exact LeO.refl _)
      | (with_reducible exact LeO.none _)
      | (with_reducible refine LeO.ite ?_ ?_)
      | (with_reducible refine LeO.bind ?_ (fun _ => ?_))
      | exact ih0 _ _ _ _ _ _ _ _ _ _ _
      | exact ih1 _ _ _ _ _ _ _ _ _ _ _ _
      | exact ih2 _ _ _ _ _ _ _ _ _ _ _ _ _
      | exact LeO.none _
      | refine LeO.ite ?_ ?_
      | refine LeO.bind ?_ (fun _ => ?_)
theorem tourbillonref04_Same.mono : ∀ a0 a1 a2 a3 a4 a5 a6 a7 a8 a9 a10 k, LeO (tourbillonref04_Same.f k a0 a1 a2 a3 a4 a5 a6 a7 a8 a9 a10) (tourbillonref04_Same.f (k + 1) a0 a1 a2 a3 a4 a5 a6 a7 a8 a9 a10) := by
  intro a0 a1 a2 a3 a4 a5 a6 a7 a8 a9 a10 k
  obtain ⟨ih0, ih1, ih2⟩ := tourbillonref04_Same.mono_l k
  exact ih0 a0 a1 a2 a3 a4 a5 a6 a7 a8 a9 a10
def tourbillonref04_Same.T6 : Bool × List (List Nat × List Nat) := (true, [([], []), ([0], [0]), ([], []), ([1, 2], [1, 2]), ([3], [3]), ([], []), ([5], [5]), ([], []), ([6, 7], [6, 7]), ([8], [8]), ([], []), ([4, 9, 10], [4, 9, 10]), ([11], [11])])
def tourbillonref04_Same.B6 : List Nat := [0, 1, 0, 7, 15, 0, 32, 0, 224, 480, 0, 2047, 4095]
theorem tourbillonref04_Same.tab6 : rtab .any (opsOf Tryd.f21 6) = tourbillonref04_Same.T6 := by kernel_rfl
theorem tourbillonref04_Same.bits6 : waitsOk tourbillonref04_Same.T6.2 tourbillonref04_Same.B6 = true := by kernel_rfl
set_option maxHeartbeats 8000000 in
set_option maxRecDepth 100000 in
theorem tourbillonref04_Same.calls (k : Nat) : ∀ (a0_0 : ByteArray) (A0_1 : Option Addr) (c0_1 : Nat) (l0_1 : List (S52)) (a0_2 : Bool) (a0_3 : Int) (a0_4 : Int) (a1_0 : ByteArray) (A1_1 : Option Addr) (c1_1 : Nat) (l1_1 : List (S52)) (a1_2 : Bool) (a1_3 : Int) (a1_4 : Int) (a2 : Bool) (r : Bool) (w : World) (hr0_1 : Kd.C k52 w A0_1 l0_1.length l0_1) (hc0_1 : l0_1.length ≤ c0_1) (hr1_1 : Kd.C k52 w A1_1 l1_1.length l1_1) (hc1_1 : l1_1.length ≤ c1_1) (h : tourbillonref04_Same.f k a0_0 l0_1 a0_2 a0_3 a0_4 a1_0 l1_1 a1_2 a1_3 a1_4 a2 = some r),
    Calls Tryd.prog 21 #[.agg #[.string a0_0, .slice A0_1 l0_1.length c0_1, .bool a0_2, .int .i64 a0_3, .int .i64 a0_4], .agg #[.string a1_0, .slice A1_1 l1_1.length c1_1, .bool a1_2, .int .i64 a1_3, .int .i64 a1_4], .bool a2] w fun e w' => e = .returned (.bool r) ∧ Below w.heap.size w w' := by
  induction k using Nat.strongRecOn with
  | _ k ih =>
  intro a0_0 A0_1 c0_1 l0_1 a0_2 a0_3 a0_4 a1_0 A1_1 c1_1 l1_1 a1_2 a1_3 a1_4 a2 r w hr0_1 hc0_1 hr1_1 hc1_1 h
  cases k with
  | zero => exact absurd h (by simp [tourbillonref04_Same.f])
  | succ k =>
  simp only [tourbillonref04_Same.f] at h
  have hu52 := Tryd.underlying52
  have hu25 := Tryd.underlying25
  have HR0_1 := Aside0.mk hr0_1
  have HC0_1 := Aside0.mk hc0_1
  clear hr0_1 hc0_1
  have HR1_1 := Aside0.mk hr1_1
  have HC1_1 := Aside0.mk hc1_1
  clear hr1_1 hc1_1
  have HB := Aside0.mk (Below.refl w.heap.size w)
  have H : (if a0_0.toList = a1_0.toList then (if (a0_2 != a1_2) = true then (tourbillonref04_Same.j0 k a2 true a0_0 l0_1 a0_2 a0_3 a0_4 a1_0 l1_1 a1_2 a1_3 a1_4) else (if a2 = true then (if (!(a0_3 == a1_3) || (!(a0_4 == a1_4))) = true then (tourbillonref04_Same.j0 k a2 true a0_0 l0_1 a0_2 a0_3 a0_4 a1_0 l1_1 a1_2 a1_3 a1_4) else (tourbillonref04_Same.j0 k a2 ((l0_1.length : Int) != (l1_1.length : Int)) a0_0 l0_1 a0_2 a0_3 a0_4 a1_0 l1_1 a1_2 a1_3 a1_4)) else (tourbillonref04_Same.j0 k a2 ((l0_1.length : Int) != (l1_1.length : Int)) a0_0 l0_1 a0_2 a0_3 a0_4 a1_0 l1_1 a1_2 a1_3 a1_4))) else (tourbillonref04_Same.j0 k a2 true a0_0 l0_1 a0_2 a0_3 a0_4 a1_0 l1_1 a1_2 a1_3 a1_4)) = some r := h
  clear h
  have HC4 := Aside0.mk H
  clear H
  go_enter Tryd.func21, Tryd.ntmps21
  go_upto_region 1 with (first | ((with_reducible refine gate_dst (N := 3) rfl ?_); (try (refine gate_guard (by rfl) ?_; dsimp only)); refine box_event ?hg (N := 3) ?hd (cs := #[.string a0_0, .slice A0_1 l0_1.length c0_1, .bool a0_2, .int .i64 a0_3, .int .i64 a0_4]) (t := 52) ?hr ?_; (case hd => rfl); (case hg => rfl); (case hr => first | (go_simp; done) | (go_simp; rfl)); intro gb365 hg w5 hbox hb; have n0_ := Aside0.mk (below_step (by repeat (first | (with_reducible first | exact HB.out | apply below_alloc | apply pw_below_drewN | apply below_drew1) | exact HB.out)) hb); have n1_ := Aside0.mk (hbox); have n2_ := Aside0.mk ((by rw [hg]; exact (below_size (by repeat (first | (with_reducible first | exact HB.out | apply below_alloc | apply pw_below_drewN | apply below_drew1) | exact HB.out))) : w.heap.size ≤ gb365)); have n3_ := Aside0.mk ((by rw [hg]; exact (below_size (by repeat (first | (with_reducible first | exact HB.out | apply below_alloc | apply pw_below_drewN | apply below_drew1) | exact HB.out))) : w.heap.size ≤ gb365)); clear HB; have HB := n0_; have BK365 := n1_; have GW365 := n2_; have GE365 := n3_; clear n0_ n1_ n2_ n3_; clear hb hbox hg) | ((with_reducible refine gate_dst (N := 4) rfl ?_); (try (refine gate_guard (by rfl) ?_; dsimp only)); refine box_event ?hg (N := 4) ?hd (cs := #[.string a1_0, .slice A1_1 l1_1.length c1_1, .bool a1_2, .int .i64 a1_3, .int .i64 a1_4]) (t := 52) ?hr ?_; (case hd => rfl); (case hg => rfl); (case hr => first | (go_simp; done) | (go_simp; rfl)); intro gb366 hg w6 hbox hb; have n0_ := Aside0.mk (blk_below (g := gb365) (o := .cells #[.string a0_0, .slice A0_1 l0_1.length c0_1, .bool a0_2, .int .i64 a0_3, .int .i64 a0_4] 52 (0, 0)) (by (with_reducible repeat (first | refine blk_drewN ?_ _ | refine blk_drew ?_ | refine blk_alloc ?_ _)); exact BK365.out) hb); have n1_ := Aside0.mk (below_step (by repeat (first | (with_reducible first | exact HB.out | apply below_alloc | apply pw_below_drewN | apply below_drew1 | refine below_set ?_ GE365.out) | exact HB.out)) hb); have n2_ := Aside0.mk (hbox); have n3_ := Aside0.mk ((by rw [hg]; exact (below_size (by repeat (first | (with_reducible first | exact HB.out | apply below_alloc | apply pw_below_drewN | apply below_drew1 | refine below_set ?_ GE365.out) | exact HB.out))) : w.heap.size ≤ gb366)); have n4_ := Aside0.mk ((by rw [hg]; exact (below_size (by repeat (first | (with_reducible first | exact HB.out | apply below_alloc | apply pw_below_drewN | apply below_drew1 | refine below_set ?_ GE365.out) | exact HB.out))) : w.heap.size ≤ gb366)); have n5_ := Aside0.mk ((by rw [hg]; exact Nat.ne_of_lt (blk_lt (g := gb365) (o := .cells #[.string a0_0, .slice A0_1 l0_1.length c0_1, .bool a0_2, .int .i64 a0_3, .int .i64 a0_4] 52 (0, 0)) (by (with_reducible repeat (first | refine blk_drewN ?_ _ | refine blk_drew ?_ | refine blk_alloc ?_ _)); exact BK365.out)) : gb365 ≠ gb366)); have n6_ := Aside0.mk ((by rw [hg]; exact Nat.ne_of_gt (blk_lt (g := gb365) (o := .cells #[.string a0_0, .slice A0_1 l0_1.length c0_1, .bool a0_2, .int .i64 a0_3, .int .i64 a0_4] 52 (0, 0)) (by (with_reducible repeat (first | refine blk_drewN ?_ _ | refine blk_drew ?_ | refine blk_alloc ?_ _)); exact BK365.out)) : gb366 ≠ gb365)); clear BK365; clear HB; have BK365 := n0_; have HB := n1_; have BK366 := n2_; have GW366 := n3_; have GE366 := n4_; have NB365_366 := n5_; have NB366_365 := n6_; clear n0_ n1_ n2_ n3_ n4_ n5_ n6_; clear hb hbox hg))
  (try simp only [Act.put, List.setIfInBounds_toArray, List.set_cons_zero, List.set_cons_succ])
  go_cut [38] (fun v38 wc => ∃ (kq : Nat) (x38_3 : Bool), v38 = .bool x38_3 ∧ Aside0 (tourbillonref04_Same.j0 kq a2 x38_3 a0_0 l0_1 a0_2 a0_3 a0_4 a1_0 l1_1 a1_2 a1_3 a1_4 = some r) ∧ Aside0 (kq ≤ k) ∧ Aside0 (wc.heap[gb365]? = some (.cells #[.string a0_0, (.slice A0_1 l0_1.length c0_1), .bool a0_2, .int .i64 a0_3, .int .i64 a0_4] 52 (0, 0))) ∧ Aside0 (wc.heap[gb366]? = some (.cells #[.string a1_0, (.slice A1_1 l1_1.length c1_1), .bool a1_2, .int .i64 a1_3, .int .i64 a1_4] 52 (0, 0))) ∧ Aside0 (Below w.heap.size w wc))
  case first =>
    have H := HC4.out
    clear HC4
    by_cases c7 : a0_0.toList = a1_0.toList
    · rw [if_pos c7] at H
      have c7b0 : (a0_0.toList == a1_0.toList) = true := beq_iff_eq.mpr c7
      have c7b1 : (a0_0.toList != a1_0.toList) = false := bne_eq_false_iff_eq.mpr c7
      clear c7
      (first | rw [c7b0] | (simp only [i64_w, i32_w]; rw [c7b0]) | skip)
      by_cases c8 : (a0_2 != a1_2) = true
      · rw [if_pos c8] at H
        have c8b0 : (a0_2 != a1_2) = true := c8
        (try (have c8b1 : decide (a0_2 = a1_2) = false := by simpa using c8))
        (try (have c8b2 : (a0_2 == a1_2) = false := by simpa using c8))
        (try (have c8b3 : ¬ (a0_2 = a1_2) := by simpa using c8))
        clear c8
        have H' := Aside0.mk H
        clear H
        have hnb9 := NB365_366.out
        have hnc9 := NB366_365.out
        have hcz10_0 : w6.cell? ⟨gb365, 0, none⟩ = some (.string a0_0) := (blk_cell BK365.out 0).trans rfl
        have hcz10_1 : w6.cell? ⟨gb365, 1, none⟩ = some (.slice A0_1 l0_1.length c0_1) := (blk_cell BK365.out 1).trans rfl
        have hcz10_2 : w6.cell? ⟨gb365, 2, none⟩ = some (.bool a0_2) := (blk_cell BK365.out 2).trans rfl
        have hcz10_3 : w6.cell? ⟨gb365, 3, none⟩ = some (.int .i64 a0_3) := (blk_cell BK365.out 3).trans rfl
        have hcz10_4 : w6.cell? ⟨gb365, 4, none⟩ = some (.int .i64 a0_4) := (blk_cell BK365.out 4).trans rfl
        have hfz10_0 := blk_frozen BK365.out 0
        have hfz10_1 := blk_frozen BK365.out 1
        have hfz10_2 := blk_frozen BK365.out 2
        have hfz10_3 := blk_frozen BK365.out 3
        have hfz10_4 := blk_frozen BK365.out 4
        have hcz11_0 : w6.cell? ⟨gb366, 0, none⟩ = some (.string a1_0) := (blk_cell BK366.out 0).trans rfl
        have hcz11_1 : w6.cell? ⟨gb366, 1, none⟩ = some (.slice A1_1 l1_1.length c1_1) := (blk_cell BK366.out 1).trans rfl
        have hcz11_2 : w6.cell? ⟨gb366, 2, none⟩ = some (.bool a1_2) := (blk_cell BK366.out 2).trans rfl
        have hcz11_3 : w6.cell? ⟨gb366, 3, none⟩ = some (.int .i64 a1_3) := (blk_cell BK366.out 3).trans rfl
        have hcz11_4 : w6.cell? ⟨gb366, 4, none⟩ = some (.int .i64 a1_4) := (blk_cell BK366.out 4).trans rfl
        have hfz11_0 := blk_frozen BK366.out 0
        have hfz11_1 := blk_frozen BK366.out 1
        have hfz11_2 := blk_frozen BK366.out 2
        have hfz11_3 := blk_frozen BK366.out 3
        have hfz11_4 := blk_frozen BK366.out 4
        go_wp2
        go_meet
        case rel => exact ⟨_, (true), (by first | rfl | (simp; done) | (simp [*]; done)), H', ⟨by first | omega | exact Nat.le_refl _⟩, ⟨by (with_reducible repeat (first | refine blk_drewN ?_ _ | refine blk_drew ?_ | refine blk_alloc ?_ _)); exact BK365.out⟩, ⟨by (with_reducible repeat (first | refine blk_drewN ?_ _ | refine blk_drew ?_ | refine blk_alloc ?_ _)); exact BK366.out⟩, ⟨by repeat (first | (with_reducible first | exact HB.out | apply below_alloc | apply pw_below_drewN | apply below_drew1 | refine below_set ?_ GE365.out | refine below_set ?_ GE366.out) | exact HB.out)⟩⟩
      · rw [if_neg c8] at H
        have c8b0 : (a0_2 != a1_2) = false := by simpa using c8
        (try (have c8b1 : decide (a0_2 = a1_2) = true := by simpa using c8))
        (try (have c8b2 : (a0_2 == a1_2) = true := by simpa using c8))
        clear c8
        by_cases c12 : a2 = true
        · subst c12
          have H1 : (if (!(a0_3 == a1_3) || (!(a0_4 == a1_4))) = true then (tourbillonref04_Same.j0 k true true a0_0 l0_1 a0_2 a0_3 a0_4 a1_0 l1_1 a1_2 a1_3 a1_4) else (tourbillonref04_Same.j0 k true ((l0_1.length : Int) != (l1_1.length : Int)) a0_0 l0_1 a0_2 a0_3 a0_4 a1_0 l1_1 a1_2 a1_3 a1_4)) = some r := by rw [if_pos rfl] at H; exact H
          clear H
          have H := H1
          clear H1
          by_cases c13 : (!(a0_3 == a1_3) || (!(a0_4 == a1_4))) = true
          · rw [if_pos c13] at H
            have c13b0 : (!(a0_3 == a1_3) || (!(a0_4 == a1_4))) = true := c13
            clear c13
            have H' := Aside0.mk H
            clear H
            have hnb14 := NB365_366.out
            have hnc14 := NB366_365.out
            have hcz15_0 : w6.cell? ⟨gb365, 0, none⟩ = some (.string a0_0) := (blk_cell BK365.out 0).trans rfl
            have hcz15_1 : w6.cell? ⟨gb365, 1, none⟩ = some (.slice A0_1 l0_1.length c0_1) := (blk_cell BK365.out 1).trans rfl
            have hcz15_2 : w6.cell? ⟨gb365, 2, none⟩ = some (.bool a0_2) := (blk_cell BK365.out 2).trans rfl
            have hcz15_3 : w6.cell? ⟨gb365, 3, none⟩ = some (.int .i64 a0_3) := (blk_cell BK365.out 3).trans rfl
            have hcz15_4 : w6.cell? ⟨gb365, 4, none⟩ = some (.int .i64 a0_4) := (blk_cell BK365.out 4).trans rfl
            have hfz15_0 := blk_frozen BK365.out 0
            have hfz15_1 := blk_frozen BK365.out 1
            have hfz15_2 := blk_frozen BK365.out 2
            have hfz15_3 := blk_frozen BK365.out 3
            have hfz15_4 := blk_frozen BK365.out 4
            have hcz16_0 : w6.cell? ⟨gb366, 0, none⟩ = some (.string a1_0) := (blk_cell BK366.out 0).trans rfl
            have hcz16_1 : w6.cell? ⟨gb366, 1, none⟩ = some (.slice A1_1 l1_1.length c1_1) := (blk_cell BK366.out 1).trans rfl
            have hcz16_2 : w6.cell? ⟨gb366, 2, none⟩ = some (.bool a1_2) := (blk_cell BK366.out 2).trans rfl
            have hcz16_3 : w6.cell? ⟨gb366, 3, none⟩ = some (.int .i64 a1_3) := (blk_cell BK366.out 3).trans rfl
            have hcz16_4 : w6.cell? ⟨gb366, 4, none⟩ = some (.int .i64 a1_4) := (blk_cell BK366.out 4).trans rfl
            have hfz16_0 := blk_frozen BK366.out 0
            have hfz16_1 := blk_frozen BK366.out 1
            have hfz16_2 := blk_frozen BK366.out 2
            have hfz16_3 := blk_frozen BK366.out 3
            have hfz16_4 := blk_frozen BK366.out 4
            go_wp2
            go_meet
            case rel => exact ⟨_, (true), (by first | rfl | (simp; done) | (simp [*]; done)), H', ⟨by first | omega | exact Nat.le_refl _⟩, ⟨by (with_reducible repeat (first | refine blk_drewN ?_ _ | refine blk_drew ?_ | refine blk_alloc ?_ _)); exact BK365.out⟩, ⟨by (with_reducible repeat (first | refine blk_drewN ?_ _ | refine blk_drew ?_ | refine blk_alloc ?_ _)); exact BK366.out⟩, ⟨by repeat (first | (with_reducible first | exact HB.out | apply below_alloc | apply pw_below_drewN | apply below_drew1 | refine below_set ?_ GE365.out | refine below_set ?_ GE366.out) | exact HB.out)⟩⟩
          · rw [if_neg c13] at H
            have c13b0 : (!(a0_3 == a1_3) || (!(a0_4 == a1_4))) = false := by simpa using c13
            clear c13
            have H' := Aside0.mk H
            clear H
            have hnb17 := NB365_366.out
            have hnc17 := NB366_365.out
            have hcz18_0 : w6.cell? ⟨gb365, 0, none⟩ = some (.string a0_0) := (blk_cell BK365.out 0).trans rfl
            have hcz18_1 : w6.cell? ⟨gb365, 1, none⟩ = some (.slice A0_1 l0_1.length c0_1) := (blk_cell BK365.out 1).trans rfl
            have hcz18_2 : w6.cell? ⟨gb365, 2, none⟩ = some (.bool a0_2) := (blk_cell BK365.out 2).trans rfl
            have hcz18_3 : w6.cell? ⟨gb365, 3, none⟩ = some (.int .i64 a0_3) := (blk_cell BK365.out 3).trans rfl
            have hcz18_4 : w6.cell? ⟨gb365, 4, none⟩ = some (.int .i64 a0_4) := (blk_cell BK365.out 4).trans rfl
            have hfz18_0 := blk_frozen BK365.out 0
            have hfz18_1 := blk_frozen BK365.out 1
            have hfz18_2 := blk_frozen BK365.out 2
            have hfz18_3 := blk_frozen BK365.out 3
            have hfz18_4 := blk_frozen BK365.out 4
            have hcz19_0 : w6.cell? ⟨gb366, 0, none⟩ = some (.string a1_0) := (blk_cell BK366.out 0).trans rfl
            have hcz19_1 : w6.cell? ⟨gb366, 1, none⟩ = some (.slice A1_1 l1_1.length c1_1) := (blk_cell BK366.out 1).trans rfl
            have hcz19_2 : w6.cell? ⟨gb366, 2, none⟩ = some (.bool a1_2) := (blk_cell BK366.out 2).trans rfl
            have hcz19_3 : w6.cell? ⟨gb366, 3, none⟩ = some (.int .i64 a1_3) := (blk_cell BK366.out 3).trans rfl
            have hcz19_4 : w6.cell? ⟨gb366, 4, none⟩ = some (.int .i64 a1_4) := (blk_cell BK366.out 4).trans rfl
            have hfz19_0 := blk_frozen BK366.out 0
            have hfz19_1 := blk_frozen BK366.out 1
            have hfz19_2 := blk_frozen BK366.out 2
            have hfz19_3 := blk_frozen BK366.out 3
            have hfz19_4 := blk_frozen BK366.out 4
            go_wp2
            go_meet
            case rel => exact ⟨_, (((l0_1.length : Int) != (l1_1.length : Int))), (by first | rfl | (simp; done) | (simp [*]; done)), H', ⟨by first | omega | exact Nat.le_refl _⟩, ⟨by (with_reducible repeat (first | refine blk_drewN ?_ _ | refine blk_drew ?_ | refine blk_alloc ?_ _)); exact BK365.out⟩, ⟨by (with_reducible repeat (first | refine blk_drewN ?_ _ | refine blk_drew ?_ | refine blk_alloc ?_ _)); exact BK366.out⟩, ⟨by repeat (first | (with_reducible first | exact HB.out | apply below_alloc | apply pw_below_drewN | apply below_drew1 | refine below_set ?_ GE365.out | refine below_set ?_ GE366.out) | exact HB.out)⟩⟩
        · replace c12 := Bool.eq_false_iff.mpr c12
          subst c12
          have H1 : (tourbillonref04_Same.j0 k false ((l0_1.length : Int) != (l1_1.length : Int)) a0_0 l0_1 a0_2 a0_3 a0_4 a1_0 l1_1 a1_2 a1_3 a1_4) = some r := by rw [if_neg (show ¬ (false = true) by decide)] at H; exact H
          clear H
          have H := H1
          clear H1
          have H' := Aside0.mk H
          clear H
          have hnb20 := NB365_366.out
          have hnc20 := NB366_365.out
          have hcz21_0 : w6.cell? ⟨gb365, 0, none⟩ = some (.string a0_0) := (blk_cell BK365.out 0).trans rfl
          have hcz21_1 : w6.cell? ⟨gb365, 1, none⟩ = some (.slice A0_1 l0_1.length c0_1) := (blk_cell BK365.out 1).trans rfl
          have hcz21_2 : w6.cell? ⟨gb365, 2, none⟩ = some (.bool a0_2) := (blk_cell BK365.out 2).trans rfl
          have hcz21_3 : w6.cell? ⟨gb365, 3, none⟩ = some (.int .i64 a0_3) := (blk_cell BK365.out 3).trans rfl
          have hcz21_4 : w6.cell? ⟨gb365, 4, none⟩ = some (.int .i64 a0_4) := (blk_cell BK365.out 4).trans rfl
          have hfz21_0 := blk_frozen BK365.out 0
          have hfz21_1 := blk_frozen BK365.out 1
          have hfz21_2 := blk_frozen BK365.out 2
          have hfz21_3 := blk_frozen BK365.out 3
          have hfz21_4 := blk_frozen BK365.out 4
          have hcz22_0 : w6.cell? ⟨gb366, 0, none⟩ = some (.string a1_0) := (blk_cell BK366.out 0).trans rfl
          have hcz22_1 : w6.cell? ⟨gb366, 1, none⟩ = some (.slice A1_1 l1_1.length c1_1) := (blk_cell BK366.out 1).trans rfl
          have hcz22_2 : w6.cell? ⟨gb366, 2, none⟩ = some (.bool a1_2) := (blk_cell BK366.out 2).trans rfl
          have hcz22_3 : w6.cell? ⟨gb366, 3, none⟩ = some (.int .i64 a1_3) := (blk_cell BK366.out 3).trans rfl
          have hcz22_4 : w6.cell? ⟨gb366, 4, none⟩ = some (.int .i64 a1_4) := (blk_cell BK366.out 4).trans rfl
          have hfz22_0 := blk_frozen BK366.out 0
          have hfz22_1 := blk_frozen BK366.out 1
          have hfz22_2 := blk_frozen BK366.out 2
          have hfz22_3 := blk_frozen BK366.out 3
          have hfz22_4 := blk_frozen BK366.out 4
          go_wp2
          go_meet
          case rel => exact ⟨_, (((l0_1.length : Int) != (l1_1.length : Int))), (by first | rfl | (simp; done) | (simp [*]; done)), H', ⟨by first | omega | exact Nat.le_refl _⟩, ⟨by (with_reducible repeat (first | refine blk_drewN ?_ _ | refine blk_drew ?_ | refine blk_alloc ?_ _)); exact BK365.out⟩, ⟨by (with_reducible repeat (first | refine blk_drewN ?_ _ | refine blk_drew ?_ | refine blk_alloc ?_ _)); exact BK366.out⟩, ⟨by repeat (first | (with_reducible first | exact HB.out | apply below_alloc | apply pw_below_drewN | apply below_drew1 | refine below_set ?_ GE365.out | refine below_set ?_ GE366.out) | exact HB.out)⟩⟩
    · rw [if_neg c7] at H
      have c7b0 : (a0_0.toList == a1_0.toList) = false := beq_eq_false_iff_ne.mpr c7
      have c7b1 : (a0_0.toList != a1_0.toList) = true := bne_iff_ne.mpr c7
      (first | rw [c7b0] | (simp only [i64_w, i32_w]; rw [c7b0]) | skip)
      have H' := Aside0.mk H
      clear H
      have hnb23 := NB365_366.out
      have hnc23 := NB366_365.out
      have hcz24_0 : w6.cell? ⟨gb365, 0, none⟩ = some (.string a0_0) := (blk_cell BK365.out 0).trans rfl
      have hcz24_1 : w6.cell? ⟨gb365, 1, none⟩ = some (.slice A0_1 l0_1.length c0_1) := (blk_cell BK365.out 1).trans rfl
      have hcz24_2 : w6.cell? ⟨gb365, 2, none⟩ = some (.bool a0_2) := (blk_cell BK365.out 2).trans rfl
      have hcz24_3 : w6.cell? ⟨gb365, 3, none⟩ = some (.int .i64 a0_3) := (blk_cell BK365.out 3).trans rfl
      have hcz24_4 : w6.cell? ⟨gb365, 4, none⟩ = some (.int .i64 a0_4) := (blk_cell BK365.out 4).trans rfl
      have hfz24_0 := blk_frozen BK365.out 0
      have hfz24_1 := blk_frozen BK365.out 1
      have hfz24_2 := blk_frozen BK365.out 2
      have hfz24_3 := blk_frozen BK365.out 3
      have hfz24_4 := blk_frozen BK365.out 4
      have hcz25_0 : w6.cell? ⟨gb366, 0, none⟩ = some (.string a1_0) := (blk_cell BK366.out 0).trans rfl
      have hcz25_1 : w6.cell? ⟨gb366, 1, none⟩ = some (.slice A1_1 l1_1.length c1_1) := (blk_cell BK366.out 1).trans rfl
      have hcz25_2 : w6.cell? ⟨gb366, 2, none⟩ = some (.bool a1_2) := (blk_cell BK366.out 2).trans rfl
      have hcz25_3 : w6.cell? ⟨gb366, 3, none⟩ = some (.int .i64 a1_3) := (blk_cell BK366.out 3).trans rfl
      have hcz25_4 : w6.cell? ⟨gb366, 4, none⟩ = some (.int .i64 a1_4) := (blk_cell BK366.out 4).trans rfl
      have hfz25_0 := blk_frozen BK366.out 0
      have hfz25_1 := blk_frozen BK366.out 1
      have hfz25_2 := blk_frozen BK366.out 2
      have hfz25_3 := blk_frozen BK366.out 3
      have hfz25_4 := blk_frozen BK366.out 4
      go_wp2
      go_meet
      case rel => exact ⟨_, (true), (by first | rfl | (simp; done) | (simp [*]; done)), H', ⟨by first | omega | exact Nat.le_refl _⟩, ⟨by (with_reducible repeat (first | refine blk_drewN ?_ _ | refine blk_drew ?_ | refine blk_alloc ?_ _)); exact BK365.out⟩, ⟨by (with_reducible repeat (first | refine blk_drewN ?_ _ | refine blk_drew ?_ | refine blk_alloc ?_ _)); exact BK366.out⟩, ⟨by repeat (first | (with_reducible first | exact HB.out | apply below_alloc | apply pw_below_drewN | apply below_drew1 | refine below_set ?_ GE365.out | refine below_set ?_ GE366.out) | exact HB.out)⟩⟩
  case rest =>
    clear HC4
    try clear c1
    try clear c2
    try clear p2
    try clear c7
    try clear c7b0
    try clear c7b1
    try clear c8
    try clear c8b0
    try clear c8b1
    try clear c8b2
    try clear c9
    try clear c12
    try clear c13
    try clear c13b0
    try clear c14
    try clear c17
    try clear c20
    try clear c21
    try clear c23
    try clear hcz10_0
    try clear hcz10_1
    try clear hcz10_2
    try clear hcz10_3
    try clear hcz10_4
    try clear hcz11_0
    try clear hcz11_1
    try clear hcz11_2
    try clear hcz11_3
    try clear hcz11_4
    try clear hcz15_0
    try clear hcz15_1
    try clear hcz15_2
    try clear hcz15_3
    try clear hcz15_4
    try clear hcz16_0
    try clear hcz16_1
    try clear hcz16_2
    try clear hcz16_3
    try clear hcz16_4
    try clear hcz18_0
    try clear hcz18_1
    try clear hcz18_2
    try clear hcz18_3
    try clear hcz18_4
    try clear hcz19_0
    try clear hcz19_1
    try clear hcz19_2
    try clear hcz19_3
    try clear hcz19_4
    try clear hcz21_0
    try clear hcz21_1
    try clear hcz21_2
    try clear hcz21_3
    try clear hcz21_4
    try clear hcz22_0
    try clear hcz22_1
    try clear hcz22_2
    try clear hcz22_3
    try clear hcz22_4
    try clear hcz24_0
    try clear hcz24_1
    try clear hcz24_2
    try clear hcz24_3
    try clear hcz24_4
    try clear hcz25_0
    try clear hcz25_1
    try clear hcz25_2
    try clear hcz25_3
    try clear hcz25_4
    try clear hfz10_0
    try clear hfz10_1
    try clear hfz10_2
    try clear hfz10_3
    try clear hfz10_4
    try clear hfz11_0
    try clear hfz11_1
    try clear hfz11_2
    try clear hfz11_3
    try clear hfz11_4
    try clear hfz15_0
    try clear hfz15_1
    try clear hfz15_2
    try clear hfz15_3
    try clear hfz15_4
    try clear hfz16_0
    try clear hfz16_1
    try clear hfz16_2
    try clear hfz16_3
    try clear hfz16_4
    try clear hfz18_0
    try clear hfz18_1
    try clear hfz18_2
    try clear hfz18_3
    try clear hfz18_4
    try clear hfz19_0
    try clear hfz19_1
    try clear hfz19_2
    try clear hfz19_3
    try clear hfz19_4
    try clear hfz21_0
    try clear hfz21_1
    try clear hfz21_2
    try clear hfz21_3
    try clear hfz21_4
    try clear hfz22_0
    try clear hfz22_1
    try clear hfz22_2
    try clear hfz22_3
    try clear hfz22_4
    try clear hfz24_0
    try clear hfz24_1
    try clear hfz24_2
    try clear hfz24_3
    try clear hfz24_4
    try clear hfz25_0
    try clear hfz25_1
    try clear hfz25_2
    try clear hfz25_3
    try clear hfz25_4
    obtain ⟨kq, x38_3, rfl, HA, HJ3, BK365, BK366, HB⟩ := hcut
    cases kq with
    | zero => exact absurd HA.out (by simp [tourbillonref04_Same.j0])
    | succ kj3 =>
      have H := HA.out
      clear HA
      simp only [tourbillonref04_Same.j0] at H
      by_cases c26 : x38_3 = true
      · subst c26
        have H1 : (some false) = some r := by rw [if_pos rfl] at H; exact H
        clear H
        have H := H1
        clear H1
        obtain rfl := Option.some.inj H
        go_wp2
        go_ret
        exact ⟨by first | rfl | (simp [errW_none, errW_some] <;> rfl) | (simp [*, errW_none, errW_some] <;> rfl), by repeat (first | (with_reducible first | exact HB.out | apply below_alloc | apply pw_below_drewN | apply below_drew1 | refine below_set ?_ GE365.out | refine below_set ?_ GE366.out) | exact HB.out)⟩
      · replace c26 := Bool.eq_false_iff.mpr c26
        subst c26
        have H1 : (tourbillonref04_Same.l0 kj3 a2 (l0_1.length : Int) 0 a0_0 l0_1 a0_2 a0_3 a0_4 a1_0 l1_1 a1_2 a1_3 a1_4) = some r := by rw [if_neg (show ¬ (false = true) by decide)] at H; exact H
        clear H
        have H := H1
        clear H1
        have H' := Aside0.mk H
        clear H
        have hnb27 := NB365_366.out
        have hnc27 := NB366_365.out
        have hcz28_0 : wc.cell? ⟨gb365, 0, none⟩ = some (.string a0_0) := (blk_cell BK365.out 0).trans rfl
        have hcz28_1 : wc.cell? ⟨gb365, 1, none⟩ = some (.slice A0_1 l0_1.length c0_1) := (blk_cell BK365.out 1).trans rfl
        have hcz28_2 : wc.cell? ⟨gb365, 2, none⟩ = some (.bool a0_2) := (blk_cell BK365.out 2).trans rfl
        have hcz28_3 : wc.cell? ⟨gb365, 3, none⟩ = some (.int .i64 a0_3) := (blk_cell BK365.out 3).trans rfl
        have hcz28_4 : wc.cell? ⟨gb365, 4, none⟩ = some (.int .i64 a0_4) := (blk_cell BK365.out 4).trans rfl
        have hfz28_0 := blk_frozen BK365.out 0
        have hfz28_1 := blk_frozen BK365.out 1
        have hfz28_2 := blk_frozen BK365.out 2
        have hfz28_3 := blk_frozen BK365.out 3
        have hfz28_4 := blk_frozen BK365.out 4
        go_wp2
        go_loopg [42] kj3 (fun kq v42 w' => ∃ (x42_2 : Int), v42 = .int .i64 x42_2 ∧ Aside0 (tourbillonref04_Same.l0 kq a2 (l0_1.length : Int) x42_2 a0_0 l0_1 a0_2 a0_3 a0_4 a1_0 l1_1 a1_2 a1_3 a1_4 = some r) ∧ Aside0 (kq ≤ kj3) ∧ Aside0 (w'.heap[gb365]? = some (.cells #[.string a0_0, (.slice A0_1 l0_1.length c0_1), .bool a0_2, .int .i64 a0_3, .int .i64 a0_4] 52 (0, 0))) ∧ Aside0 (w'.heap[gb366]? = some (.cells #[.string a1_0, (.slice A1_1 l1_1.length c1_1), .bool a1_2, .int .i64 a1_3, .int .i64 a1_4] 52 (0, 0))) ∧ Aside0 (Below w.heap.size w w'))
        case atStart => exact ⟨(0), (by first | rfl | (simp; done) | (simp [*]; done)), H', ⟨Nat.le_refl _⟩, ⟨by (with_reducible repeat (first | refine blk_drewN ?_ _ | refine blk_drew ?_ | refine blk_alloc ?_ _)); exact BK365.out⟩, ⟨by (with_reducible repeat (first | refine blk_drewN ?_ _ | refine blk_drew ?_ | refine blk_alloc ?_ _)); exact BK366.out⟩, ⟨by repeat (first | (with_reducible first | exact HB.out | apply below_alloc | apply pw_below_drewN | apply below_drew1 | refine below_set ?_ GE365.out | refine below_set ?_ GE366.out) | exact HB.out)⟩⟩
        case round =>
          clear H'
          try clear c1
          try clear c2
          try clear p2
          try clear c7
          try clear c7b0
          try clear c7b1
          try clear c8
          try clear c8b0
          try clear c8b1
          try clear c8b2
          try clear c9
          try clear c12
          try clear c13
          try clear c13b0
          try clear c14
          try clear c17
          try clear c20
          try clear c21
          try clear c23
          try clear c26
          try clear c27
          try clear hcz10_0
          try clear hcz10_1
          try clear hcz10_2
          try clear hcz10_3
          try clear hcz10_4
          try clear hcz11_0
          try clear hcz11_1
          try clear hcz11_2
          try clear hcz11_3
          try clear hcz11_4
          try clear hcz15_0
          try clear hcz15_1
          try clear hcz15_2
          try clear hcz15_3
          try clear hcz15_4
          try clear hcz16_0
          try clear hcz16_1
          try clear hcz16_2
          try clear hcz16_3
          try clear hcz16_4
          try clear hcz18_0
          try clear hcz18_1
          try clear hcz18_2
          try clear hcz18_3
          try clear hcz18_4
          try clear hcz19_0
          try clear hcz19_1
          try clear hcz19_2
          try clear hcz19_3
          try clear hcz19_4
          try clear hcz21_0
          try clear hcz21_1
          try clear hcz21_2
          try clear hcz21_3
          try clear hcz21_4
          try clear hcz22_0
          try clear hcz22_1
          try clear hcz22_2
          try clear hcz22_3
          try clear hcz22_4
          try clear hcz24_0
          try clear hcz24_1
          try clear hcz24_2
          try clear hcz24_3
          try clear hcz24_4
          try clear hcz25_0
          try clear hcz25_1
          try clear hcz25_2
          try clear hcz25_3
          try clear hcz25_4
          try clear hcz28_0
          try clear hcz28_1
          try clear hcz28_2
          try clear hcz28_3
          try clear hcz28_4
          try clear hfz10_0
          try clear hfz10_1
          try clear hfz10_2
          try clear hfz10_3
          try clear hfz10_4
          try clear hfz11_0
          try clear hfz11_1
          try clear hfz11_2
          try clear hfz11_3
          try clear hfz11_4
          try clear hfz15_0
          try clear hfz15_1
          try clear hfz15_2
          try clear hfz15_3
          try clear hfz15_4
          try clear hfz16_0
          try clear hfz16_1
          try clear hfz16_2
          try clear hfz16_3
          try clear hfz16_4
          try clear hfz18_0
          try clear hfz18_1
          try clear hfz18_2
          try clear hfz18_3
          try clear hfz18_4
          try clear hfz19_0
          try clear hfz19_1
          try clear hfz19_2
          try clear hfz19_3
          try clear hfz19_4
          try clear hfz21_0
          try clear hfz21_1
          try clear hfz21_2
          try clear hfz21_3
          try clear hfz21_4
          try clear hfz22_0
          try clear hfz22_1
          try clear hfz22_2
          try clear hfz22_3
          try clear hfz22_4
          try clear hfz24_0
          try clear hfz24_1
          try clear hfz24_2
          try clear hfz24_3
          try clear hfz24_4
          try clear hfz25_0
          try clear hfz25_1
          try clear hfz25_2
          try clear hfz25_3
          try clear hfz25_4
          try clear hfz28_0
          try clear hfz28_1
          try clear hfz28_2
          try clear hfz28_3
          try clear hfz28_4
          try clear p2
          obtain ⟨x42_2, rfl, HA, HK2, BK365, BK366, HB⟩ := hrel
          cases gk with
          | zero => exact absurd HA.out (by simp [tourbillonref04_Same.l0])
          | succ k2 =>
            have H := HA.out
            clear HA
            simp only [tourbillonref04_Same.l0] at H
            by_cases c29 : x42_2 < (l0_1.length : Int)
            · rw [if_pos c29] at H
              have c29b0 : decide (x42_2 < (l0_1.length : Int)) = true := decide_eq_true c29
              clear c29
              by_cases c30 : 0 ≤ x42_2
              · rw [if_pos c30] at H
                have c30b0 : decide (0 ≤ x42_2) = true := decide_eq_true c30
                clear c30
                by_cases c31 : x42_2 < (l0_1.length : Int)
                · rw [if_pos c31] at H
                  have c31b0 : decide (x42_2 < (l0_1.length : Int)) = true := decide_eq_true c31
                  clear c31
                  by_cases c32 : x42_2 < (l1_1.length : Int)
                  · rw [if_pos c32] at H
                    have c32b0 : decide (x42_2 < (l1_1.length : Int)) = true := decide_eq_true c32
                    clear c32
                    replace H := Option.bind_eq_some_iff.mp H
                    obtain ⟨t369, A330, H⟩ := H
                    replace H : (if t369 = true then (tourbillonref04_Same.l0 k2 a2 (l0_1.length : Int) (wrap64 (x42_2 + 1)) a0_0 l0_1 a0_2 a0_3 a0_4 a1_0 l1_1 a1_2 a1_3 a1_4) else (some false)) = some r := H
                    have A33 := Aside0.mk A330
                    clear A330
                    by_cases c34 : t369 = true
                    · subst c34
                      have H1 : (tourbillonref04_Same.l0 k2 a2 (l0_1.length : Int) (wrap64 (x42_2 + 1)) a0_0 l0_1 a0_2 a0_3 a0_4 a1_0 l1_1 a1_2 a1_3 a1_4) = some r := by rw [if_pos rfl] at H; exact H
                      clear H
                      have H := H1
                      clear H1
                      have H' := Aside0.mk H
                      clear H
                      try go_wp2
                      have n0_ := Aside0.mk (blk_drew BK365.out)
                      have n1_ := Aside0.mk (blk_drew BK366.out)
                      have n2_ := Aside0.mk (below_drew1 HB.out)
                      clear BK365
                      clear BK366
                      clear HB
                      have BK365 := n0_
                      have BK366 := n1_
                      have HB := n2_
                      clear n0_ n1_ n2_
                      have p367 : 0 ≤ (x42_2 : Int) := of_decide_eq_true (by first | (with_reducible assumption) | assumption)
                      have q367 : x42_2 < (l0_1.length : Int) := of_decide_eq_true (by first | (with_reducible assumption) | assumption)
                      obtain ⟨ad367, A367_1, c367_1, e367, hx367_0, hx367_1, hx367_2, hx367_3, hx367_4, hl367_1, hi367_1⟩ := at_T52 HR0_1.out x42_2 p367 q367
                      have hw367_4 := hx367_4
                      have hw367_3 := hx367_3
                      have hw367_2 := hx367_2
                      have hw367_1 := hx367_1
                      have hw367_0 := hx367_0
                      cases e367
                      replace hx367_0 := (HB.out.cell (World.block_lt_of_cell? w _ hx367_0)).trans hx367_0
                      replace hx367_1 := (HB.out.cell (World.block_lt_of_cell? w _ hx367_1)).trans hx367_1
                      replace hx367_2 := (HB.out.cell (World.block_lt_of_cell? w _ hx367_2)).trans hx367_2
                      replace hx367_3 := (HB.out.cell (World.block_lt_of_cell? w _ hx367_3)).trans hx367_3
                      replace hx367_4 := (HB.out.cell (World.block_lt_of_cell? w _ hx367_4)).trans hx367_4
                      have HR367_1 := Aside0.mk hi367_1
                      have HC367_1 := Aside0.mk hl367_1
                      clear hi367_1 hl367_1
                      replace p367 := eq_true p367
                      replace q367 := eq_true q367
                      have p368 : 0 ≤ (x42_2 : Int) := of_decide_eq_true (by first | (with_reducible assumption) | assumption)
                      have q368 : x42_2 < (l1_1.length : Int) := of_decide_eq_true (by first | (with_reducible assumption) | assumption)
                      obtain ⟨ad368, A368_1, c368_1, e368, hx368_0, hx368_1, hx368_2, hx368_3, hx368_4, hl368_1, hi368_1⟩ := at_T52 HR1_1.out x42_2 p368 q368
                      have hw368_4 := hx368_4
                      have hw368_3 := hx368_3
                      have hw368_2 := hx368_2
                      have hw368_1 := hx368_1
                      have hw368_0 := hx368_0
                      cases e368
                      replace hx368_0 := (HB.out.cell (World.block_lt_of_cell? w _ hx368_0)).trans hx368_0
                      replace hx368_1 := (HB.out.cell (World.block_lt_of_cell? w _ hx368_1)).trans hx368_1
                      replace hx368_2 := (HB.out.cell (World.block_lt_of_cell? w _ hx368_2)).trans hx368_2
                      replace hx368_3 := (HB.out.cell (World.block_lt_of_cell? w _ hx368_3)).trans hx368_3
                      replace hx368_4 := (HB.out.cell (World.block_lt_of_cell? w _ hx368_4)).trans hx368_4
                      have HR368_1 := Aside0.mk hi368_1
                      have HC368_1 := Aside0.mk hl368_1
                      clear hi368_1 hl368_1
                      replace p368 := eq_true p368
                      replace q368 := eq_true q368
                      refine start_ (n := 13) (S := fun w' => w'.cell? ⟨gb365, 0, none⟩ = some (.string a0_0) ∧ w'.cell? ⟨gb365, 1, none⟩ = some (.slice (some ad367) l0_1.length c0_1) ∧ w'.cell? ⟨gb365, 2, none⟩ = some (.bool a0_2) ∧ w'.cell? ⟨gb365, 3, none⟩ = some (.int .i64 a0_3) ∧ w'.cell? ⟨gb365, 4, none⟩ = some (.int .i64 a0_4) ∧ w'.cell? ⟨gb366, 0, none⟩ = some (.string a1_0) ∧ w'.cell? ⟨gb366, 1, none⟩ = some (.slice (some ad368) l1_1.length c1_1) ∧ w'.cell? ⟨gb366, 2, none⟩ = some (.bool a1_2) ∧ w'.cell? ⟨gb366, 3, none⟩ = some (.int .i64 a1_3) ∧ w'.cell? ⟨gb366, 4, none⟩ = some (.int .i64 a1_4) ∧ w'.cell? (ad367.add ((x42_2).toNat * 5)) = some (.string ((rd_T52 l0_1 x42_2).f0)) ∧ w'.cell? ⟨(ad367.add ((x42_2).toNat * 5)).block, (ad367.add ((x42_2).toNat * 5)).off + 1, none⟩ = some (.slice A367_1 ((rd_T52 l0_1 x42_2).f1).length c367_1) ∧ w'.cell? ⟨(ad367.add ((x42_2).toNat * 5)).block, (ad367.add ((x42_2).toNat * 5)).off + 2, none⟩ = some (.bool ((rd_T52 l0_1 x42_2).f2)) ∧ w'.cell? ⟨(ad367.add ((x42_2).toNat * 5)).block, (ad367.add ((x42_2).toNat * 5)).off + 3, none⟩ = some (.int .i64 ((rd_T52 l0_1 x42_2).f3.f0)) ∧ w'.cell? ⟨(ad367.add ((x42_2).toNat * 5)).block, (ad367.add ((x42_2).toNat * 5)).off + 4, none⟩ = some (.int .i64 ((rd_T52 l0_1 x42_2).f3.f1)) ∧ w'.cell? (ad368.add ((x42_2).toNat * 5)) = some (.string ((rd_T52 l1_1 x42_2).f0)) ∧ w'.cell? ⟨(ad368.add ((x42_2).toNat * 5)).block, (ad368.add ((x42_2).toNat * 5)).off + 1, none⟩ = some (.slice A368_1 ((rd_T52 l1_1 x42_2).f1).length c368_1) ∧ w'.cell? ⟨(ad368.add ((x42_2).toNat * 5)).block, (ad368.add ((x42_2).toNat * 5)).off + 2, none⟩ = some (.bool ((rd_T52 l1_1 x42_2).f2)) ∧ w'.cell? ⟨(ad368.add ((x42_2).toNat * 5)).block, (ad368.add ((x42_2).toNat * 5)).off + 3, none⟩ = some (.int .i64 ((rd_T52 l1_1 x42_2).f3.f0)) ∧ w'.cell? ⟨(ad368.add ((x42_2).toNat * 5)).block, (ad368.add ((x42_2).toNat * 5)).off + 4, none⟩ = some (.int .i64 ((rd_T52 l1_1 x42_2).f3.f1))) (ds := []) #[false, false, false, false, false, false, false, false, false, false, false, false, false] (by kernel_rfl) rfl rfl ⟨(blk_cell BK365.out 0).trans rfl, (blk_cell BK365.out 1).trans rfl, (blk_cell BK365.out 2).trans rfl, (blk_cell BK365.out 3).trans rfl, (blk_cell BK365.out 4).trans rfl, (blk_cell BK366.out 0).trans rfl, (blk_cell BK366.out 1).trans rfl, (blk_cell BK366.out 2).trans rfl, (blk_cell BK366.out 3).trans rfl, (blk_cell BK366.out 4).trans rfl, ((HB.out.cell (World.block_lt_of_cell? w _ hw367_0)).trans hw367_0), ((HB.out.cell (World.block_lt_of_cell? w _ hw367_1)).trans hw367_1), ((HB.out.cell (World.block_lt_of_cell? w _ hw367_2)).trans hw367_2), ((HB.out.cell (World.block_lt_of_cell? w _ hw367_3)).trans hw367_3), ((HB.out.cell (World.block_lt_of_cell? w _ hw367_4)).trans hw367_4), ((HB.out.cell (World.block_lt_of_cell? w _ hw368_0)).trans hw368_0), ((HB.out.cell (World.block_lt_of_cell? w _ hw368_1)).trans hw368_1), ((HB.out.cell (World.block_lt_of_cell? w _ hw368_2)).trans hw368_2), ((HB.out.cell (World.block_lt_of_cell? w _ hw368_3)).trans hw368_3), ((HB.out.cell (World.block_lt_of_cell? w _ hw368_4)).trans hw368_4)⟩ (fun hHeld => ?_); refine with_tabW tourbillonref04_Same.tab6 tourbillonref04_Same.bits6 (fun HT_ HW_ => ?_)
                      generalize wr.drew = w35 at BK365 BK366 HB HR367_1 HR368_1 hx367_0 hx367_1 hx367_2 hx367_3 hx367_4 hx368_0 hx368_1 hx368_2 hx368_3 hx368_4 hHeld ⊢
                      refine pure_ (i := 0) (N := some 45) (v := ?_) (a' := ?_) #[true, false, false, false, false, false, false, false, false, false, false, false, false] rfl rfl (any_of HT_.out (by kernel_rfl)) (fun _ _ _ h => h) (Or.inl ⟨by rfl, ?_⟩) ?_ ?_
                      rotate_left
                      · intro w'
                        go_simp
                        with_reducible rfl
                      rotate_left
                      · simp only [Act.put, List.setIfInBounds_toArray, List.set_cons_zero, List.set_cons_succ, i64_w, i32_w]
                        rfl
                      refine pure_ (i := 2) (N := some 47) (v := ?_) (a' := ?_) #[true, false, true, false, false, false, false, false, false, false, false, false, false] rfl rfl (any_of HT_.out (by kernel_rfl)) (fun _ _ _ h => h) (Or.inl ⟨by rfl, ?_⟩) ?_ ?_
                      rotate_left
                      · intro w'
                        go_simp
                        with_reducible rfl
                      rotate_left
                      · simp only [Act.put, List.setIfInBounds_toArray, List.set_cons_zero, List.set_cons_succ, i64_w, i32_w]
                        rfl
                      refine pure_ (i := 5) (N := some 50) (v := ?_) (a' := ?_) #[true, false, true, false, false, true, false, false, false, false, false, false, false] rfl rfl (any_of HT_.out (by kernel_rfl)) (fun _ _ _ h => h) (Or.inl ⟨by rfl, ?_⟩) ?_ ?_
                      rotate_left
                      · intro w'
                        go_simp
                        with_reducible rfl
                      rotate_left
                      · simp only [Act.put, List.setIfInBounds_toArray, List.set_cons_zero, List.set_cons_succ, i64_w, i32_w]
                        rfl
                      refine pure_ (i := 7) (N := some 52) (v := ?_) (a' := ?_) #[true, false, true, false, false, true, false, true, false, false, false, false, false] rfl rfl (any_of HT_.out (by kernel_rfl)) (fun _ _ _ h => h) (Or.inl ⟨by rfl, ?_⟩) ?_ ?_
                      rotate_left
                      · intro w'
                        go_simp
                        with_reducible rfl
                      rotate_left
                      · simp only [Act.put, List.setIfInBounds_toArray, List.set_cons_zero, List.set_cons_succ, i64_w, i32_w]
                        rfl
                      refine pure_ (i := 10) (N := some 55) (v := ?_) (a' := ?_) #[true, false, true, false, false, true, false, true, false, false, true, false, false] rfl rfl (any_of HT_.out (by kernel_rfl)) (fun _ _ _ h => h) (Or.inl ⟨by rfl, ?_⟩) ?_ ?_
                      rotate_left
                      · intro w'
                        go_simp
                        with_reducible rfl
                      rotate_left
                      · simp only [Act.put, List.setIfInBounds_toArray, List.set_cons_zero, List.set_cons_succ, i64_w, i32_w]
                        rfl
                      refine take_ (i := 1) (N := some 46) (v := ?_) (a' := ?_) #[true, true, true, false, false, true, false, true, false, false, true, false, false] rfl rfl (take_ofW HT_.out HW_.out (by kernel_rfl)) (fun _ _ _ h => h) (Or.inl ⟨by rfl, ?_⟩) hHeld ?_ ?_
                      rotate_left
                      · rintro w' ⟨s0, s1, s2, s3, s4, s5, s6, s7, s8, s9, s10, s11, s12, s13, s14, s15, s16, s17, s18, s19⟩
                        go_simp
                        with_reducible rfl
                      rotate_left
                      · simp only [Act.put, List.setIfInBounds_toArray, List.set_cons_zero, List.set_cons_succ, i64_w, i32_w]
                        rfl
                      refine pure_ (i := 3) (N := some 48) (v := ?_) (a' := ?_) #[true, true, true, true, false, true, false, true, false, false, true, false, false] rfl rfl (any_of HT_.out (by kernel_rfl)) (fun _ _ _ h => h) (Or.inl ⟨by rfl, ?_⟩) ?_ ?_
                      rotate_left
                      · intro w'
                        go_simp
                        with_reducible rfl
                      rotate_left
                      · simp only [Act.put, List.setIfInBounds_toArray, List.set_cons_zero, List.set_cons_succ, i64_w, i32_w]
                        rfl
                      refine take_ (i := 4) (N := some 49) (v := ?_) (a' := ?_) #[true, true, true, true, true, true, false, true, false, false, true, false, false] rfl rfl (take_ofW HT_.out HW_.out (by kernel_rfl)) (fun _ _ _ h => h) (Or.inl ⟨by rfl, ?_⟩) hHeld ?_ ?_
                      rotate_left
                      · rintro w' ⟨s0, s1, s2, s3, s4, s5, s6, s7, s8, s9, s10, s11, s12, s13, s14, s15, s16, s17, s18, s19⟩
                        go_simp
                        with_reducible rfl
                      rotate_left
                      · simp only [Act.put, List.setIfInBounds_toArray, List.set_cons_zero, List.set_cons_succ, i64_w, i32_w]
                        rfl
                      refine take_ (i := 6) (N := some 51) (v := ?_) (a' := ?_) #[true, true, true, true, true, true, true, true, false, false, true, false, false] rfl rfl (take_ofW HT_.out HW_.out (by kernel_rfl)) (fun _ _ _ h => h) (Or.inl ⟨by rfl, ?_⟩) hHeld ?_ ?_
                      rotate_left
                      · rintro w' ⟨s0, s1, s2, s3, s4, s5, s6, s7, s8, s9, s10, s11, s12, s13, s14, s15, s16, s17, s18, s19⟩
                        go_simp
                        with_reducible rfl
                      rotate_left
                      · simp only [Act.put, List.setIfInBounds_toArray, List.set_cons_zero, List.set_cons_succ, i64_w, i32_w]
                        rfl
                      refine pure_ (i := 8) (N := some 53) (v := ?_) (a' := ?_) #[true, true, true, true, true, true, true, true, true, false, true, false, false] rfl rfl (any_of HT_.out (by kernel_rfl)) (fun _ _ _ h => h) (Or.inl ⟨by rfl, ?_⟩) ?_ ?_
                      rotate_left
                      · intro w'
                        go_simp
                        with_reducible rfl
                      rotate_left
                      · simp only [Act.put, List.setIfInBounds_toArray, List.set_cons_zero, List.set_cons_succ, i64_w, i32_w]
                        rfl
                      refine take_ (i := 9) (N := some 54) (v := ?_) (a' := ?_) #[true, true, true, true, true, true, true, true, true, true, true, false, false] rfl rfl (take_ofW HT_.out HW_.out (by kernel_rfl)) (fun _ _ _ h => h) (Or.inl ⟨by rfl, ?_⟩) hHeld ?_ ?_
                      rotate_left
                      · rintro w' ⟨s0, s1, s2, s3, s4, s5, s6, s7, s8, s9, s10, s11, s12, s13, s14, s15, s16, s17, s18, s19⟩
                        go_simp
                        with_reducible rfl
                      rotate_left
                      · simp only [Act.put, List.setIfInBounds_toArray, List.set_cons_zero, List.set_cons_succ, i64_w, i32_w]
                        rfl
                      refine one_ (i := 11) (N := some 56) #[true, true, true, true, true, true, true, true, true, true, true, true, false] rfl rfl (one_of HT_.out (by kernel_rfl)) (by decide) (fun K hK => ?_)
                      refine goes_ Tryd.func21 (by kernel_rfl) rfl #[.agg #[.string ((rd_T52 l0_1 x42_2).f0), .slice A367_1 ((rd_T52 l0_1 x42_2).f1).length c367_1, .bool ((rd_T52 l0_1 x42_2).f2), .int .i64 ((rd_T52 l0_1 x42_2).f3.f0), .int .i64 ((rd_T52 l0_1 x42_2).f3.f1)], .agg #[.string ((rd_T52 l1_1 x42_2).f0), .slice A368_1 ((rd_T52 l1_1 x42_2).f1).length c368_1, .bool ((rd_T52 l1_1 x42_2).f2), .int .i64 ((rd_T52 l1_1 x42_2).f3.f0), .int .i64 ((rd_T52 l1_1 x42_2).f3.f1)], .bool a2] (by rfl) rfl rfl (by (try simp only [List.map_toArray, List.map_cons, List.map_nil]); first | done | rfl | (simp only [List.length_drop, List.length_take]; rfl)) ?_
                      with_reducible refine (ih k2 (by have := HJ3.out; have := HK2.out; omega) ((rd_T52 l0_1 x42_2).f0) _ _ ((rd_T52 l0_1 x42_2).f1) ((rd_T52 l0_1 x42_2).f2) ((rd_T52 l0_1 x42_2).f3.f0) ((rd_T52 l0_1 x42_2).f3.f1) ((rd_T52 l1_1 x42_2).f0) _ _ ((rd_T52 l1_1 x42_2).f1) ((rd_T52 l1_1 x42_2).f2) ((rd_T52 l1_1 x42_2).f3.f0) ((rd_T52 l1_1 x42_2).f3.f1) a2 true _ ?side1 ?side2 ?side3 ?side4 A33.out).mono ?_
                      (case side1 => repeat (first | exact (Kd.C_below HR367_1.out HB.out) | (with_reducible refine Kd.C_alloc ?_ _) | (with_reducible refine Kd.C_drewN ?_ _) | (with_reducible refine Kd.C_drew ?_)))
                      (case side2 => exact HC367_1.out)
                      (case side3 => repeat (first | exact (Kd.C_below HR368_1.out HB.out) | (with_reducible refine Kd.C_alloc ?_ _) | (with_reducible refine Kd.C_drewN ?_ _) | (with_reducible refine Kd.C_drew ?_)))
                      (case side4 => exact HC368_1.out)
                      rintro e w36 ⟨rfl, hb⟩
                      refine ⟨_, rfl, ?_⟩
                      have n0_ := Aside0.mk (blk_below (g := gb365) (o := .cells #[.string a0_0, .slice (some ad367) l0_1.length c0_1, .bool a0_2, .int .i64 a0_3, .int .i64 a0_4] 52 (0, 0)) (by (with_reducible repeat (first | refine blk_drewN ?_ _ | refine blk_drew ?_ | refine blk_alloc ?_ _)); exact BK365.out) hb)
                      have n1_ := Aside0.mk (blk_below (g := gb366) (o := .cells #[.string a1_0, .slice (some ad368) l1_1.length c1_1, .bool a1_2, .int .i64 a1_3, .int .i64 a1_4] 52 (0, 0)) (by (with_reducible repeat (first | refine blk_drewN ?_ _ | refine blk_drew ?_ | refine blk_alloc ?_ _)); exact BK366.out) hb)
                      have n2_ := Aside0.mk (below_step (by repeat (first | (with_reducible first | exact HB.out | apply below_alloc | apply pw_below_drewN | apply below_drew1 | refine below_set ?_ GE365.out | refine below_set ?_ GE366.out) | exact HB.out)) hb)
                      clear BK365
                      clear BK366
                      clear HB
                      have BK365 := n0_
                      have BK366 := n1_
                      have HB := n2_
                      clear n0_ n1_ n2_
                      (try clear hb)
                      (try clear hb2)
                      (try clear hk)
                      (try clear hi)
                      refine hK.out _ _ ⟨(blk_cell BK365.out 0).trans rfl, (blk_cell BK365.out 1).trans rfl, (blk_cell BK365.out 2).trans rfl, (blk_cell BK365.out 3).trans rfl, (blk_cell BK365.out 4).trans rfl, (blk_cell BK366.out 0).trans rfl, (blk_cell BK366.out 1).trans rfl, (blk_cell BK366.out 2).trans rfl, (blk_cell BK366.out 3).trans rfl, (blk_cell BK366.out 4).trans rfl, ((HB.out.cell (World.block_lt_of_cell? w _ hw367_0)).trans hw367_0), ((HB.out.cell (World.block_lt_of_cell? w _ hw367_1)).trans hw367_1), ((HB.out.cell (World.block_lt_of_cell? w _ hw367_2)).trans hw367_2), ((HB.out.cell (World.block_lt_of_cell? w _ hw367_3)).trans hw367_3), ((HB.out.cell (World.block_lt_of_cell? w _ hw367_4)).trans hw367_4), ((HB.out.cell (World.block_lt_of_cell? w _ hw368_0)).trans hw368_0), ((HB.out.cell (World.block_lt_of_cell? w _ hw368_1)).trans hw368_1), ((HB.out.cell (World.block_lt_of_cell? w _ hw368_2)).trans hw368_2), ((HB.out.cell (World.block_lt_of_cell? w _ hw368_3)).trans hw368_3), ((HB.out.cell (World.block_lt_of_cell? w _ hw368_4)).trans hw368_4)⟩ (fun hHeld => ?_)
                      clear hK K
                      refine norm_ (a' := ?_) ?_ ?_
                      rotate_left
                      · show Act.put _ (some 56) _ = _
                        simp only [Act.put, List.setIfInBounds_toArray, List.set_cons_zero, List.set_cons_succ, i64_w, i32_w]
                        rfl
                      refine pure_ (i := 12) (N := some 57) (v := ?_) (a' := ?_) #[true, true, true, true, true, true, true, true, true, true, true, true, true] rfl rfl (any_of HT_.out (by kernel_rfl)) (fun _ _ _ h => h) (Or.inl ⟨by rfl, ?_⟩) ?_ ?_
                      rotate_left
                      · intro w'
                        go_simp
                        with_reducible rfl
                      rotate_left
                      · simp only [Act.put, List.setIfInBounds_toArray, List.set_cons_zero, List.set_cons_succ, i64_w, i32_w]
                        rfl
                      refine done_ (done_of HT_.out (by kernel_rfl)) ?_
                      try go_wp2
                      go_roundg k2
                      case measure => have := HJ3.out; have := HK2.out; omega
                      case rel => exact ⟨(wrap64 (x42_2 + 1)), (by first | rfl | (simp; done) | (simp [*]; done)), H', ⟨by have := HJ3.out; have := HK2.out; omega⟩, ⟨by (with_reducible repeat (first | refine blk_drewN ?_ _ | refine blk_drew ?_ | refine blk_alloc ?_ _)); exact BK365.out⟩, ⟨by (with_reducible repeat (first | refine blk_drewN ?_ _ | refine blk_drew ?_ | refine blk_alloc ?_ _)); exact BK366.out⟩, ⟨by repeat (first | (with_reducible first | exact HB.out | apply below_alloc | apply pw_below_drewN | apply below_drew1 | refine below_set ?_ GE365.out | refine below_set ?_ GE366.out) | exact HB.out)⟩⟩
                    · replace c34 := Bool.eq_false_iff.mpr c34
                      subst c34
                      have H1 : (some false) = some r := by rw [if_neg (show ¬ (false = true) by decide)] at H; exact H
                      clear H
                      have H := H1
                      clear H1
                      obtain rfl := Option.some.inj H
                      try go_wp2
                      have n0_ := Aside0.mk (blk_drew BK365.out)
                      have n1_ := Aside0.mk (blk_drew BK366.out)
                      have n2_ := Aside0.mk (below_drew1 HB.out)
                      clear BK365
                      clear BK366
                      clear HB
                      have BK365 := n0_
                      have BK366 := n1_
                      have HB := n2_
                      clear n0_ n1_ n2_
                      have p367 : 0 ≤ (x42_2 : Int) := of_decide_eq_true (by first | (with_reducible assumption) | assumption)
                      have q367 : x42_2 < (l0_1.length : Int) := of_decide_eq_true (by first | (with_reducible assumption) | assumption)
                      obtain ⟨ad367, A367_1, c367_1, e367, hx367_0, hx367_1, hx367_2, hx367_3, hx367_4, hl367_1, hi367_1⟩ := at_T52 HR0_1.out x42_2 p367 q367
                      have hw367_4 := hx367_4
                      have hw367_3 := hx367_3
                      have hw367_2 := hx367_2
                      have hw367_1 := hx367_1
                      have hw367_0 := hx367_0
                      cases e367
                      replace hx367_0 := (HB.out.cell (World.block_lt_of_cell? w _ hx367_0)).trans hx367_0
                      replace hx367_1 := (HB.out.cell (World.block_lt_of_cell? w _ hx367_1)).trans hx367_1
                      replace hx367_2 := (HB.out.cell (World.block_lt_of_cell? w _ hx367_2)).trans hx367_2
                      replace hx367_3 := (HB.out.cell (World.block_lt_of_cell? w _ hx367_3)).trans hx367_3
                      replace hx367_4 := (HB.out.cell (World.block_lt_of_cell? w _ hx367_4)).trans hx367_4
                      have HR367_1 := Aside0.mk hi367_1
                      have HC367_1 := Aside0.mk hl367_1
                      clear hi367_1 hl367_1
                      replace p367 := eq_true p367
                      replace q367 := eq_true q367
                      have p368 : 0 ≤ (x42_2 : Int) := of_decide_eq_true (by first | (with_reducible assumption) | assumption)
                      have q368 : x42_2 < (l1_1.length : Int) := of_decide_eq_true (by first | (with_reducible assumption) | assumption)
                      obtain ⟨ad368, A368_1, c368_1, e368, hx368_0, hx368_1, hx368_2, hx368_3, hx368_4, hl368_1, hi368_1⟩ := at_T52 HR1_1.out x42_2 p368 q368
                      have hw368_4 := hx368_4
                      have hw368_3 := hx368_3
                      have hw368_2 := hx368_2
                      have hw368_1 := hx368_1
                      have hw368_0 := hx368_0
                      cases e368
                      replace hx368_0 := (HB.out.cell (World.block_lt_of_cell? w _ hx368_0)).trans hx368_0
                      replace hx368_1 := (HB.out.cell (World.block_lt_of_cell? w _ hx368_1)).trans hx368_1
                      replace hx368_2 := (HB.out.cell (World.block_lt_of_cell? w _ hx368_2)).trans hx368_2
                      replace hx368_3 := (HB.out.cell (World.block_lt_of_cell? w _ hx368_3)).trans hx368_3
                      replace hx368_4 := (HB.out.cell (World.block_lt_of_cell? w _ hx368_4)).trans hx368_4
                      have HR368_1 := Aside0.mk hi368_1
                      have HC368_1 := Aside0.mk hl368_1
                      clear hi368_1 hl368_1
                      replace p368 := eq_true p368
                      replace q368 := eq_true q368
                      refine start_ (n := 13) (S := fun w' => w'.cell? ⟨gb365, 0, none⟩ = some (.string a0_0) ∧ w'.cell? ⟨gb365, 1, none⟩ = some (.slice (some ad367) l0_1.length c0_1) ∧ w'.cell? ⟨gb365, 2, none⟩ = some (.bool a0_2) ∧ w'.cell? ⟨gb365, 3, none⟩ = some (.int .i64 a0_3) ∧ w'.cell? ⟨gb365, 4, none⟩ = some (.int .i64 a0_4) ∧ w'.cell? ⟨gb366, 0, none⟩ = some (.string a1_0) ∧ w'.cell? ⟨gb366, 1, none⟩ = some (.slice (some ad368) l1_1.length c1_1) ∧ w'.cell? ⟨gb366, 2, none⟩ = some (.bool a1_2) ∧ w'.cell? ⟨gb366, 3, none⟩ = some (.int .i64 a1_3) ∧ w'.cell? ⟨gb366, 4, none⟩ = some (.int .i64 a1_4) ∧ w'.cell? (ad367.add ((x42_2).toNat * 5)) = some (.string ((rd_T52 l0_1 x42_2).f0)) ∧ w'.cell? ⟨(ad367.add ((x42_2).toNat * 5)).block, (ad367.add ((x42_2).toNat * 5)).off + 1, none⟩ = some (.slice A367_1 ((rd_T52 l0_1 x42_2).f1).length c367_1) ∧ w'.cell? ⟨(ad367.add ((x42_2).toNat * 5)).block, (ad367.add ((x42_2).toNat * 5)).off + 2, none⟩ = some (.bool ((rd_T52 l0_1 x42_2).f2)) ∧ w'.cell? ⟨(ad367.add ((x42_2).toNat * 5)).block, (ad367.add ((x42_2).toNat * 5)).off + 3, none⟩ = some (.int .i64 ((rd_T52 l0_1 x42_2).f3.f0)) ∧ w'.cell? ⟨(ad367.add ((x42_2).toNat * 5)).block, (ad367.add ((x42_2).toNat * 5)).off + 4, none⟩ = some (.int .i64 ((rd_T52 l0_1 x42_2).f3.f1)) ∧ w'.cell? (ad368.add ((x42_2).toNat * 5)) = some (.string ((rd_T52 l1_1 x42_2).f0)) ∧ w'.cell? ⟨(ad368.add ((x42_2).toNat * 5)).block, (ad368.add ((x42_2).toNat * 5)).off + 1, none⟩ = some (.slice A368_1 ((rd_T52 l1_1 x42_2).f1).length c368_1) ∧ w'.cell? ⟨(ad368.add ((x42_2).toNat * 5)).block, (ad368.add ((x42_2).toNat * 5)).off + 2, none⟩ = some (.bool ((rd_T52 l1_1 x42_2).f2)) ∧ w'.cell? ⟨(ad368.add ((x42_2).toNat * 5)).block, (ad368.add ((x42_2).toNat * 5)).off + 3, none⟩ = some (.int .i64 ((rd_T52 l1_1 x42_2).f3.f0)) ∧ w'.cell? ⟨(ad368.add ((x42_2).toNat * 5)).block, (ad368.add ((x42_2).toNat * 5)).off + 4, none⟩ = some (.int .i64 ((rd_T52 l1_1 x42_2).f3.f1))) (ds := []) #[false, false, false, false, false, false, false, false, false, false, false, false, false] (by kernel_rfl) rfl rfl ⟨(blk_cell BK365.out 0).trans rfl, (blk_cell BK365.out 1).trans rfl, (blk_cell BK365.out 2).trans rfl, (blk_cell BK365.out 3).trans rfl, (blk_cell BK365.out 4).trans rfl, (blk_cell BK366.out 0).trans rfl, (blk_cell BK366.out 1).trans rfl, (blk_cell BK366.out 2).trans rfl, (blk_cell BK366.out 3).trans rfl, (blk_cell BK366.out 4).trans rfl, ((HB.out.cell (World.block_lt_of_cell? w _ hw367_0)).trans hw367_0), ((HB.out.cell (World.block_lt_of_cell? w _ hw367_1)).trans hw367_1), ((HB.out.cell (World.block_lt_of_cell? w _ hw367_2)).trans hw367_2), ((HB.out.cell (World.block_lt_of_cell? w _ hw367_3)).trans hw367_3), ((HB.out.cell (World.block_lt_of_cell? w _ hw367_4)).trans hw367_4), ((HB.out.cell (World.block_lt_of_cell? w _ hw368_0)).trans hw368_0), ((HB.out.cell (World.block_lt_of_cell? w _ hw368_1)).trans hw368_1), ((HB.out.cell (World.block_lt_of_cell? w _ hw368_2)).trans hw368_2), ((HB.out.cell (World.block_lt_of_cell? w _ hw368_3)).trans hw368_3), ((HB.out.cell (World.block_lt_of_cell? w _ hw368_4)).trans hw368_4)⟩ (fun hHeld => ?_); refine with_tabW tourbillonref04_Same.tab6 tourbillonref04_Same.bits6 (fun HT_ HW_ => ?_)
                      generalize wr.drew = w37 at BK365 BK366 HB HR367_1 HR368_1 hx367_0 hx367_1 hx367_2 hx367_3 hx367_4 hx368_0 hx368_1 hx368_2 hx368_3 hx368_4 hHeld ⊢
                      refine pure_ (i := 0) (N := some 45) (v := ?_) (a' := ?_) #[true, false, false, false, false, false, false, false, false, false, false, false, false] rfl rfl (any_of HT_.out (by kernel_rfl)) (fun _ _ _ h => h) (Or.inl ⟨by rfl, ?_⟩) ?_ ?_
                      rotate_left
                      · intro w'
                        go_simp
                        with_reducible rfl
                      rotate_left
                      · simp only [Act.put, List.setIfInBounds_toArray, List.set_cons_zero, List.set_cons_succ, i64_w, i32_w]
                        rfl
                      refine pure_ (i := 2) (N := some 47) (v := ?_) (a' := ?_) #[true, false, true, false, false, false, false, false, false, false, false, false, false] rfl rfl (any_of HT_.out (by kernel_rfl)) (fun _ _ _ h => h) (Or.inl ⟨by rfl, ?_⟩) ?_ ?_
                      rotate_left
                      · intro w'
                        go_simp
                        with_reducible rfl
                      rotate_left
                      · simp only [Act.put, List.setIfInBounds_toArray, List.set_cons_zero, List.set_cons_succ, i64_w, i32_w]
                        rfl
                      refine pure_ (i := 5) (N := some 50) (v := ?_) (a' := ?_) #[true, false, true, false, false, true, false, false, false, false, false, false, false] rfl rfl (any_of HT_.out (by kernel_rfl)) (fun _ _ _ h => h) (Or.inl ⟨by rfl, ?_⟩) ?_ ?_
                      rotate_left
                      · intro w'
                        go_simp
                        with_reducible rfl
                      rotate_left
                      · simp only [Act.put, List.setIfInBounds_toArray, List.set_cons_zero, List.set_cons_succ, i64_w, i32_w]
                        rfl
                      refine pure_ (i := 7) (N := some 52) (v := ?_) (a' := ?_) #[true, false, true, false, false, true, false, true, false, false, false, false, false] rfl rfl (any_of HT_.out (by kernel_rfl)) (fun _ _ _ h => h) (Or.inl ⟨by rfl, ?_⟩) ?_ ?_
                      rotate_left
                      · intro w'
                        go_simp
                        with_reducible rfl
                      rotate_left
                      · simp only [Act.put, List.setIfInBounds_toArray, List.set_cons_zero, List.set_cons_succ, i64_w, i32_w]
                        rfl
                      refine pure_ (i := 10) (N := some 55) (v := ?_) (a' := ?_) #[true, false, true, false, false, true, false, true, false, false, true, false, false] rfl rfl (any_of HT_.out (by kernel_rfl)) (fun _ _ _ h => h) (Or.inl ⟨by rfl, ?_⟩) ?_ ?_
                      rotate_left
                      · intro w'
                        go_simp
                        with_reducible rfl
                      rotate_left
                      · simp only [Act.put, List.setIfInBounds_toArray, List.set_cons_zero, List.set_cons_succ, i64_w, i32_w]
                        rfl
                      refine take_ (i := 1) (N := some 46) (v := ?_) (a' := ?_) #[true, true, true, false, false, true, false, true, false, false, true, false, false] rfl rfl (take_ofW HT_.out HW_.out (by kernel_rfl)) (fun _ _ _ h => h) (Or.inl ⟨by rfl, ?_⟩) hHeld ?_ ?_
                      rotate_left
                      · rintro w' ⟨s0, s1, s2, s3, s4, s5, s6, s7, s8, s9, s10, s11, s12, s13, s14, s15, s16, s17, s18, s19⟩
                        go_simp
                        with_reducible rfl
                      rotate_left
                      · simp only [Act.put, List.setIfInBounds_toArray, List.set_cons_zero, List.set_cons_succ, i64_w, i32_w]
                        rfl
                      refine pure_ (i := 3) (N := some 48) (v := ?_) (a' := ?_) #[true, true, true, true, false, true, false, true, false, false, true, false, false] rfl rfl (any_of HT_.out (by kernel_rfl)) (fun _ _ _ h => h) (Or.inl ⟨by rfl, ?_⟩) ?_ ?_
                      rotate_left
                      · intro w'
                        go_simp
                        with_reducible rfl
                      rotate_left
                      · simp only [Act.put, List.setIfInBounds_toArray, List.set_cons_zero, List.set_cons_succ, i64_w, i32_w]
                        rfl
                      refine take_ (i := 4) (N := some 49) (v := ?_) (a' := ?_) #[true, true, true, true, true, true, false, true, false, false, true, false, false] rfl rfl (take_ofW HT_.out HW_.out (by kernel_rfl)) (fun _ _ _ h => h) (Or.inl ⟨by rfl, ?_⟩) hHeld ?_ ?_
                      rotate_left
                      · rintro w' ⟨s0, s1, s2, s3, s4, s5, s6, s7, s8, s9, s10, s11, s12, s13, s14, s15, s16, s17, s18, s19⟩
                        go_simp
                        with_reducible rfl
                      rotate_left
                      · simp only [Act.put, List.setIfInBounds_toArray, List.set_cons_zero, List.set_cons_succ, i64_w, i32_w]
                        rfl
                      refine take_ (i := 6) (N := some 51) (v := ?_) (a' := ?_) #[true, true, true, true, true, true, true, true, false, false, true, false, false] rfl rfl (take_ofW HT_.out HW_.out (by kernel_rfl)) (fun _ _ _ h => h) (Or.inl ⟨by rfl, ?_⟩) hHeld ?_ ?_
                      rotate_left
                      · rintro w' ⟨s0, s1, s2, s3, s4, s5, s6, s7, s8, s9, s10, s11, s12, s13, s14, s15, s16, s17, s18, s19⟩
                        go_simp
                        with_reducible rfl
                      rotate_left
                      · simp only [Act.put, List.setIfInBounds_toArray, List.set_cons_zero, List.set_cons_succ, i64_w, i32_w]
                        rfl
                      refine pure_ (i := 8) (N := some 53) (v := ?_) (a' := ?_) #[true, true, true, true, true, true, true, true, true, false, true, false, false] rfl rfl (any_of HT_.out (by kernel_rfl)) (fun _ _ _ h => h) (Or.inl ⟨by rfl, ?_⟩) ?_ ?_
                      rotate_left
                      · intro w'
                        go_simp
                        with_reducible rfl
                      rotate_left
                      · simp only [Act.put, List.setIfInBounds_toArray, List.set_cons_zero, List.set_cons_succ, i64_w, i32_w]
                        rfl
                      refine take_ (i := 9) (N := some 54) (v := ?_) (a' := ?_) #[true, true, true, true, true, true, true, true, true, true, true, false, false] rfl rfl (take_ofW HT_.out HW_.out (by kernel_rfl)) (fun _ _ _ h => h) (Or.inl ⟨by rfl, ?_⟩) hHeld ?_ ?_
                      rotate_left
                      · rintro w' ⟨s0, s1, s2, s3, s4, s5, s6, s7, s8, s9, s10, s11, s12, s13, s14, s15, s16, s17, s18, s19⟩
                        go_simp
                        with_reducible rfl
                      rotate_left
                      · simp only [Act.put, List.setIfInBounds_toArray, List.set_cons_zero, List.set_cons_succ, i64_w, i32_w]
                        rfl
                      refine one_ (i := 11) (N := some 56) #[true, true, true, true, true, true, true, true, true, true, true, true, false] rfl rfl (one_of HT_.out (by kernel_rfl)) (by decide) (fun K hK => ?_)
                      refine goes_ Tryd.func21 (by kernel_rfl) rfl #[.agg #[.string ((rd_T52 l0_1 x42_2).f0), .slice A367_1 ((rd_T52 l0_1 x42_2).f1).length c367_1, .bool ((rd_T52 l0_1 x42_2).f2), .int .i64 ((rd_T52 l0_1 x42_2).f3.f0), .int .i64 ((rd_T52 l0_1 x42_2).f3.f1)], .agg #[.string ((rd_T52 l1_1 x42_2).f0), .slice A368_1 ((rd_T52 l1_1 x42_2).f1).length c368_1, .bool ((rd_T52 l1_1 x42_2).f2), .int .i64 ((rd_T52 l1_1 x42_2).f3.f0), .int .i64 ((rd_T52 l1_1 x42_2).f3.f1)], .bool a2] (by rfl) rfl rfl (by (try simp only [List.map_toArray, List.map_cons, List.map_nil]); first | done | rfl | (simp only [List.length_drop, List.length_take]; rfl)) ?_
                      with_reducible refine (ih k2 (by have := HJ3.out; have := HK2.out; omega) ((rd_T52 l0_1 x42_2).f0) _ _ ((rd_T52 l0_1 x42_2).f1) ((rd_T52 l0_1 x42_2).f2) ((rd_T52 l0_1 x42_2).f3.f0) ((rd_T52 l0_1 x42_2).f3.f1) ((rd_T52 l1_1 x42_2).f0) _ _ ((rd_T52 l1_1 x42_2).f1) ((rd_T52 l1_1 x42_2).f2) ((rd_T52 l1_1 x42_2).f3.f0) ((rd_T52 l1_1 x42_2).f3.f1) a2 false _ ?side1 ?side2 ?side3 ?side4 A33.out).mono ?_
                      (case side1 => repeat (first | exact (Kd.C_below HR367_1.out HB.out) | (with_reducible refine Kd.C_alloc ?_ _) | (with_reducible refine Kd.C_drewN ?_ _) | (with_reducible refine Kd.C_drew ?_)))
                      (case side2 => exact HC367_1.out)
                      (case side3 => repeat (first | exact (Kd.C_below HR368_1.out HB.out) | (with_reducible refine Kd.C_alloc ?_ _) | (with_reducible refine Kd.C_drewN ?_ _) | (with_reducible refine Kd.C_drew ?_)))
                      (case side4 => exact HC368_1.out)
                      rintro e w38 ⟨rfl, hb⟩
                      refine ⟨_, rfl, ?_⟩
                      have n0_ := Aside0.mk (blk_below (g := gb365) (o := .cells #[.string a0_0, .slice (some ad367) l0_1.length c0_1, .bool a0_2, .int .i64 a0_3, .int .i64 a0_4] 52 (0, 0)) (by (with_reducible repeat (first | refine blk_drewN ?_ _ | refine blk_drew ?_ | refine blk_alloc ?_ _)); exact BK365.out) hb)
                      have n1_ := Aside0.mk (blk_below (g := gb366) (o := .cells #[.string a1_0, .slice (some ad368) l1_1.length c1_1, .bool a1_2, .int .i64 a1_3, .int .i64 a1_4] 52 (0, 0)) (by (with_reducible repeat (first | refine blk_drewN ?_ _ | refine blk_drew ?_ | refine blk_alloc ?_ _)); exact BK366.out) hb)
                      have n2_ := Aside0.mk (below_step (by repeat (first | (with_reducible first | exact HB.out | apply below_alloc | apply pw_below_drewN | apply below_drew1 | refine below_set ?_ GE365.out | refine below_set ?_ GE366.out) | exact HB.out)) hb)
                      clear BK365
                      clear BK366
                      clear HB
                      have BK365 := n0_
                      have BK366 := n1_
                      have HB := n2_
                      clear n0_ n1_ n2_
                      (try clear hb)
                      (try clear hb2)
                      (try clear hk)
                      (try clear hi)
                      refine hK.out _ _ ⟨(blk_cell BK365.out 0).trans rfl, (blk_cell BK365.out 1).trans rfl, (blk_cell BK365.out 2).trans rfl, (blk_cell BK365.out 3).trans rfl, (blk_cell BK365.out 4).trans rfl, (blk_cell BK366.out 0).trans rfl, (blk_cell BK366.out 1).trans rfl, (blk_cell BK366.out 2).trans rfl, (blk_cell BK366.out 3).trans rfl, (blk_cell BK366.out 4).trans rfl, ((HB.out.cell (World.block_lt_of_cell? w _ hw367_0)).trans hw367_0), ((HB.out.cell (World.block_lt_of_cell? w _ hw367_1)).trans hw367_1), ((HB.out.cell (World.block_lt_of_cell? w _ hw367_2)).trans hw367_2), ((HB.out.cell (World.block_lt_of_cell? w _ hw367_3)).trans hw367_3), ((HB.out.cell (World.block_lt_of_cell? w _ hw367_4)).trans hw367_4), ((HB.out.cell (World.block_lt_of_cell? w _ hw368_0)).trans hw368_0), ((HB.out.cell (World.block_lt_of_cell? w _ hw368_1)).trans hw368_1), ((HB.out.cell (World.block_lt_of_cell? w _ hw368_2)).trans hw368_2), ((HB.out.cell (World.block_lt_of_cell? w _ hw368_3)).trans hw368_3), ((HB.out.cell (World.block_lt_of_cell? w _ hw368_4)).trans hw368_4)⟩ (fun hHeld => ?_)
                      clear hK K
                      refine norm_ (a' := ?_) ?_ ?_
                      rotate_left
                      · show Act.put _ (some 56) _ = _
                        simp only [Act.put, List.setIfInBounds_toArray, List.set_cons_zero, List.set_cons_succ, i64_w, i32_w]
                        rfl
                      refine pure_ (i := 12) (N := some 57) (v := ?_) (a' := ?_) #[true, true, true, true, true, true, true, true, true, true, true, true, true] rfl rfl (any_of HT_.out (by kernel_rfl)) (fun _ _ _ h => h) (Or.inl ⟨by rfl, ?_⟩) ?_ ?_
                      rotate_left
                      · intro w'
                        go_simp
                        with_reducible rfl
                      rotate_left
                      · simp only [Act.put, List.setIfInBounds_toArray, List.set_cons_zero, List.set_cons_succ, i64_w, i32_w]
                        rfl
                      refine done_ (done_of HT_.out (by kernel_rfl)) ?_
                      try go_wp2
                      go_ret
                      exact ⟨by first | rfl | (simp [errW_none, errW_some] <;> rfl) | (simp [*, errW_none, errW_some] <;> rfl), by repeat (first | (with_reducible first | exact HB.out | apply below_alloc | apply pw_below_drewN | apply below_drew1 | refine below_set ?_ GE365.out | refine below_set ?_ GE366.out) | exact HB.out)⟩
                  · rw [if_neg c32] at H
                    exact absurd H (by simp)
                · rw [if_neg c31] at H
                  exact absurd H (by simp)
              · rw [if_neg c30] at H
                exact absurd H (by simp)
            · rw [if_neg c29] at H
              have c29b0 : decide (x42_2 < (l0_1.length : Int)) = false := decide_eq_false c29
              clear c29
              obtain rfl := Option.some.inj H
              go_wp2
              go_ret
              exact ⟨by first | rfl | (simp [errW_none, errW_some] <;> rfl) | (simp [*, errW_none, errW_some] <;> rfl), by repeat (first | (with_reducible first | exact HB.out | apply below_alloc | apply pw_below_drewN | apply below_drew1 | refine below_set ?_ GE365.out | refine below_set ?_ GE366.out) | exact HB.out)⟩

end Go.Proofs.YtlggmdlbhndacaaDoor.Lx
