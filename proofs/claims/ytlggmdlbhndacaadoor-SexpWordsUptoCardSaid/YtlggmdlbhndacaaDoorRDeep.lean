-- Written by wip/tools/myprint.py (a program of this session's, over the kit's print.py) out of the translation, but for the functions that it takes by contract.
import Derived.Test.YtlggmdlbhndacaaDoorLxx0
namespace Go.Proofs.YtlggmdlbhndacaaDoor.Lx
open Go.RowKit Go.Proofs.YtlggmdlbhndacaaDoorW.PrintWords Go.Proofs.YtlggmdlbhndacaaDoorW.PrintLast Go.Proofs.YtlggmdlbhndacaaDoorW.PrintMore
attribute [local go_sem] max2_int min2_int max_two min_two max_three min_three max_four min_four   -- for this text's walks alone
set_option linter.unusedVariables false
set_option linter.unusedSimpArgs false

/-! ### tourbillonref04_Deep: function 23 -/
mutual
def tourbillonref04_Deep.l0 : Nat → Int → Int → List (S52) → Int → Int → ByteArray → List (S52) → Bool → Int → Int → Option (Int × Int)
  | 0, _, _, _, _, _, _, _, _, _, _ => none
  | k + 1, x4, x5, x11, x12, x13, x418000, x418001, x418002, x418003, x418004 => if x13 < x12 then (if 0 ≤ x13 then (if x13 < (x11.length : Int) then ((tourbillonref04_Deep.f k ((rd_T52 x11 x13).f0) ((rd_T52 x11 x13).f1) ((rd_T52 x11 x13).f2) ((rd_T52 x11 x13).f3.f0) ((rd_T52 x11 x13).f3.f1)).bind fun bt420 => (if bt420.1 > x4 then (tourbillonref04_Deep.l0 k bt420.1 (wrap64 (x5 + bt420.2)) x11 x12 (wrap64 (x13 + 1)) x418000 x418001 x418002 x418003 x418004) else (tourbillonref04_Deep.l0 k x4 (wrap64 (x5 + bt420.2)) x11 x12 (wrap64 (x13 + 1)) x418000 x418001 x418002 x418003 x418004))) else (none)) else (none)) else (if x418002 = true then (some (wrap64 (x4 + 1), x5)) else (some (x4, x5)))
def tourbillonref04_Deep.f : Nat → ByteArray → List (S52) → Bool → Int → Int → Option (Int × Int)
  | 0, _, _, _, _, _ => none
  | k + 1, a0_0, l0_1, a0_2, a0_3, a0_4 => tourbillonref04_Deep.l0 k 0 1 l0_1 (l0_1.length : Int) 0 a0_0 l0_1 a0_2 a0_3 a0_4
end
theorem tourbillonref04_Deep.mono_l : ∀ k, (∀ y0 y1 y2 y3 y4, LeO (tourbillonref04_Deep.f k y0 y1 y2 y3 y4) (tourbillonref04_Deep.f (k + 1) y0 y1 y2 y3 y4)) ∧ (∀ y0 y1 y2 y3 y4 y5 y6 y7 y8 y9, LeO (tourbillonref04_Deep.l0 k y0 y1 y2 y3 y4 y5 y6 y7 y8 y9) (tourbillonref04_Deep.l0 (k + 1) y0 y1 y2 y3 y4 y5 y6 y7 y8 y9))
  | 0 => ⟨fun _ _ _ _ _ r h => by simp [tourbillonref04_Deep.f] at h, fun _ _ _ _ _ _ _ _ _ _ r h => by simp [tourbillonref04_Deep.l0] at h⟩
  | k + 1 => by
    obtain ⟨ih0, ih1⟩ := tourbillonref04_Deep.mono_l k
    refine ⟨?_, ?_⟩
    · intro y0 y1 y2 y3 y4
      unfold tourbillonref04_Deep.f
      repeat' first
      | (with_reducible exact ih0 _ _ _ _ _)
      | (with_reducible exact ih1 _ _ _ _ _ _ _ _ _ _)
      | (with_reducible exact LeO.refl _)
      | (with_reducible exact LeO.none _)
      | (with_reducible refine LeO.ite ?_ ?_)
      | (with_reducible refine LeO.bind ?_ (fun _ => ?_))
      | exact ih0 _ _ _ _ _
      | exact ih1 _ _ _ _ _ _ _ _ _ _
      | exact LeO.none _
      | refine LeO.ite ?_ ?_
      | refine LeO.bind ?_ (fun _ => ?_)
    · intro y0 y1 y2 y3 y4 y5 y6 y7 y8 y9
      unfold tourbillonref04_Deep.l0
      repeat' first
      | (with_reducible exact ih0 _ _ _ _ _)
      | (with_reducible exact ih1 _ _ _ _ _ _ _ _ _ _)
      | (with_reducible exact LeO.refl _)
      | (with_reducible exact LeO.none _)
      | (with_reducible refine LeO.ite ?_ ?_)
      | (with_reducible refine LeO.bind ?_ (fun _ => ?_))
      | exact ih0 _ _ _ _ _
      | exact ih1 _ _ _ _ _ _ _ _ _ _
      | exact LeO.none _
      | refine LeO.ite ?_ ?_
      | refine LeO.bind ?_ (fun _ => ?_)
theorem tourbillonref04_Deep.mono : ∀ a0 a1 a2 a3 a4 k, LeO (tourbillonref04_Deep.f k a0 a1 a2 a3 a4) (tourbillonref04_Deep.f (k + 1) a0 a1 a2 a3 a4) := by
  intro a0 a1 a2 a3 a4 k
  obtain ⟨ih0, ih1⟩ := tourbillonref04_Deep.mono_l k
  exact ih0 a0 a1 a2 a3 a4
set_option maxHeartbeats 8000000 in
set_option maxRecDepth 100000 in
theorem tourbillonref04_Deep.calls (k : Nat) : ∀ (a0_0 : ByteArray) (A0_1 : Option Addr) (c0_1 : Nat) (l0_1 : List (S52)) (a0_2 : Bool) (a0_3 : Int) (a0_4 : Int) (r1 : Int) (r2 : Int) (w : World) (hr0_1 : Kd.C k52 w A0_1 l0_1.length l0_1) (hc0_1 : l0_1.length ≤ c0_1) (h : tourbillonref04_Deep.f k a0_0 l0_1 a0_2 a0_3 a0_4 = some (r1, r2)),
    Calls Tryd.prog 23 #[.agg #[.string a0_0, .slice A0_1 l0_1.length c0_1, .bool a0_2, .int .i64 a0_3, .int .i64 a0_4]] w fun e w' => e = .returned (.tuple #[.int .i64 r1, .int .i64 r2]) ∧ Below w.heap.size w w' := by
  induction k using Nat.strongRecOn with
  | _ k ih =>
  intro a0_0 A0_1 c0_1 l0_1 a0_2 a0_3 a0_4 r1 r2 w hr0_1 hc0_1 h
  cases k with
  | zero => exact absurd h (by simp [tourbillonref04_Deep.f])
  | succ k =>
  simp only [tourbillonref04_Deep.f] at h
  have hu52 := Tryd.underlying52
  have HR0_1 := Aside0.mk hr0_1
  have HC0_1 := Aside0.mk hc0_1
  clear hr0_1 hc0_1
  have HB := Aside0.mk (Below.refl w.heap.size w)
  have H : (tourbillonref04_Deep.l0 k 0 1 l0_1 (l0_1.length : Int) 0 a0_0 l0_1 a0_2 a0_3 a0_4) = some (r1, r2) := h
  clear h
  have H' := Aside0.mk H
  clear H
  go_enter Tryd.func23, Tryd.ntmps23
  go_wp2_with (first | ((with_reducible refine gate_dst (N := 1) rfl ?_); refine box_event ?hg (N := 1) ?hd (cs := #[.string a0_0, .slice A0_1 l0_1.length c0_1, .bool a0_2, .int .i64 a0_3, .int .i64 a0_4]) (t := 52) ?hr ?_; (case hd => rfl); (case hg => rfl); (case hr => first | (go_simp; done) | (go_simp; rfl)); intro gb417 hg w2 hbox hb; have n0_ := Aside0.mk (below_step (by repeat (first | (with_reducible first | exact HB.out | apply below_alloc | apply pw_below_drewN | apply below_drew1) | exact HB.out)) hb); have n1_ := Aside0.mk (hbox); have n2_ := Aside0.mk ((by rw [hg]; exact (below_size (by repeat (first | (with_reducible first | exact HB.out | apply below_alloc | apply pw_below_drewN | apply below_drew1) | exact HB.out))) : w.heap.size ≤ gb417)); have n3_ := Aside0.mk ((by rw [hg]; exact (below_size (by repeat (first | (with_reducible first | exact HB.out | apply below_alloc | apply pw_below_drewN | apply below_drew1) | exact HB.out))) : w.heap.size ≤ gb417)); clear HB; have HB := n0_; have BK417 := n1_; have GW417 := n2_; have GE417 := n3_; clear n0_ n1_ n2_ n3_; clear hb hbox hg; have hcz3_0 : w2.cell? ⟨gb417, 0, none⟩ = some (.string a0_0) := (blk_cell BK417.out 0).trans rfl; have hcz3_1 : w2.cell? ⟨gb417, 1, none⟩ = some (.slice A0_1 l0_1.length c0_1) := (blk_cell BK417.out 1).trans rfl; have hcz3_2 : w2.cell? ⟨gb417, 2, none⟩ = some (.bool a0_2) := (blk_cell BK417.out 2).trans rfl; have hcz3_3 : w2.cell? ⟨gb417, 3, none⟩ = some (.int .i64 a0_3) := (blk_cell BK417.out 3).trans rfl; have hcz3_4 : w2.cell? ⟨gb417, 4, none⟩ = some (.int .i64 a0_4) := (blk_cell BK417.out 4).trans rfl; have hfz3_0 := blk_frozen BK417.out 0; have hfz3_1 := blk_frozen BK417.out 1; have hfz3_2 := blk_frozen BK417.out 2; have hfz3_3 := blk_frozen BK417.out 3; have hfz3_4 := blk_frozen BK417.out 4))
  go_loopg [4, 5, 13] k (fun kq v4 v5 v13 w' => ∃ (x4_1 : Int) (x5_1 : Int) (x13_1 : Int), v4 = .int .i64 x4_1 ∧ v5 = .int .i64 x5_1 ∧ v13 = .int .i64 x13_1 ∧ Aside0 (tourbillonref04_Deep.l0 kq x4_1 x5_1 l0_1 (l0_1.length : Int) x13_1 a0_0 l0_1 a0_2 a0_3 a0_4 = some (r1, r2)) ∧ Aside0 (kq ≤ k) ∧ Aside0 (w'.heap[gb417]? = some (.cells #[.string a0_0, (.slice A0_1 l0_1.length c0_1), .bool a0_2, .int .i64 a0_3, .int .i64 a0_4] 52 (0, 0))) ∧ Aside0 (Below w.heap.size w w'))
  case atStart => exact ⟨(0), (1), (0), (by first | rfl | (simp; done) | (simp [*]; done)), (by first | rfl | (simp; done) | (simp [*]; done)), (by first | rfl | (simp; done) | (simp [*]; done)), H', ⟨Nat.le_refl _⟩, ⟨by (with_reducible repeat (first | refine blk_drewN ?_ _ | refine blk_drew ?_ | refine blk_alloc ?_ _)); exact BK417.out⟩, ⟨by repeat (first | (with_reducible first | exact HB.out | apply below_alloc | apply pw_below_drewN | apply below_drew1 | refine below_set ?_ GE417.out) | exact HB.out)⟩⟩
  case round =>
    clear H'
    try clear c2
    try clear p2
    try clear hcz3_0
    try clear hcz3_1
    try clear hcz3_2
    try clear hcz3_3
    try clear hcz3_4
    try clear hfz3_0
    try clear hfz3_1
    try clear hfz3_2
    try clear hfz3_3
    try clear hfz3_4
    obtain ⟨x4_1, x5_1, x13_1, rfl, rfl, rfl, HA, HK1, BK417, HB⟩ := hrel
    cases gk with
    | zero => exact absurd HA.out (by simp [tourbillonref04_Deep.l0])
    | succ k1 =>
      have H := HA.out
      clear HA
      simp only [tourbillonref04_Deep.l0] at H
      by_cases c4 : x13_1 < (l0_1.length : Int)
      · rw [if_pos c4] at H
        have c4b0 : decide (x13_1 < (l0_1.length : Int)) = true := decide_eq_true c4
        clear c4
        by_cases c5 : 0 ≤ x13_1
        · rw [if_pos c5] at H
          have c5b0 : decide (0 ≤ x13_1) = true := decide_eq_true c5
          clear c5
          by_cases c6 : x13_1 < (l0_1.length : Int)
          · rw [if_pos c6] at H
            have c6b0 : decide (x13_1 < (l0_1.length : Int)) = true := decide_eq_true c6
            clear c6
            replace H := Option.bind_eq_some_iff.mp H
            obtain ⟨⟨t420, t421⟩, A70, H⟩ := H
            replace H : (if t420 > x4_1 then (tourbillonref04_Deep.l0 k1 t420 (wrap64 (x5_1 + t421)) l0_1 (l0_1.length : Int) (wrap64 (x13_1 + 1)) a0_0 l0_1 a0_2 a0_3 a0_4) else (tourbillonref04_Deep.l0 k1 x4_1 (wrap64 (x5_1 + t421)) l0_1 (l0_1.length : Int) (wrap64 (x13_1 + 1)) a0_0 l0_1 a0_2 a0_3 a0_4)) = some (r1, r2) := H
            have A7 := Aside0.mk A70
            clear A70
            by_cases c8 : t420 > x4_1
            · rw [if_pos c8] at H
              have c8b0 : decide (x4_1 < t420) = true := decide_eq_true c8
              clear c8
              have H' := Aside0.mk H
              clear H
              have p418 : 0 ≤ (x13_1 : Int) := of_decide_eq_true (by first | (with_reducible assumption) | assumption)
              have q418 : x13_1 < (l0_1.length : Int) := of_decide_eq_true (by first | (with_reducible assumption) | assumption)
              obtain ⟨ad418, A418_1, c418_1, e418, hx418_0, hx418_1, hx418_2, hx418_3, hx418_4, hl418_1, hi418_1⟩ := at_T52 HR0_1.out x13_1 p418 q418
              cases e418
              replace hx418_0 := (HB.out.cell (World.block_lt_of_cell? w _ hx418_0)).trans hx418_0
              replace hx418_1 := (HB.out.cell (World.block_lt_of_cell? w _ hx418_1)).trans hx418_1
              replace hx418_2 := (HB.out.cell (World.block_lt_of_cell? w _ hx418_2)).trans hx418_2
              replace hx418_3 := (HB.out.cell (World.block_lt_of_cell? w _ hx418_3)).trans hx418_3
              replace hx418_4 := (HB.out.cell (World.block_lt_of_cell? w _ hx418_4)).trans hx418_4
              have HR418_1 := Aside0.mk hi418_1
              have HC418_1 := Aside0.mk hl418_1
              clear hi418_1 hl418_1
              replace p418 := eq_true p418
              replace q418 := eq_true q418
              go_wp2_with (first | ((with_reducible refine gate_dst (N := 7) rfl ?_); refine box_event ?hg (N := 7) ?hd (cs := #[.string (⟨#[]⟩ : ByteArray), .slice none 0 0, .bool false, .int .i64 0, .int .i64 0]) (t := 52) ?hr ?_; (case hd => rfl); (case hg => rfl); (case hr => first | (go_simp; done) | (go_simp; rfl)); intro gb419 hg w9 hbox hb; have n0_ := Aside0.mk (blk_below (g := gb417) (o := .cells #[.string a0_0, .slice (some ad418) l0_1.length c0_1, .bool a0_2, .int .i64 a0_3, .int .i64 a0_4] 52 (0, 0)) (by (with_reducible repeat (first | refine blk_drewN ?_ _ | refine blk_drew ?_ | refine blk_alloc ?_ _)); exact BK417.out) hb); have n1_ := Aside0.mk (below_step (by repeat (first | (with_reducible first | exact HB.out | apply below_alloc | apply pw_below_drewN | apply below_drew1 | refine below_set ?_ GE417.out) | exact HB.out)) hb); have n2_ := Aside0.mk (hbox); have n3_ := Aside0.mk ((by rw [hg]; exact (below_size (by repeat (first | (with_reducible first | exact HB.out | apply below_alloc | apply pw_below_drewN | apply below_drew1 | refine below_set ?_ GE417.out) | exact HB.out))) : w.heap.size ≤ gb419)); have n4_ := Aside0.mk ((by rw [hg]; exact (below_size (by repeat (first | (with_reducible first | exact HB.out | apply below_alloc | apply pw_below_drewN | apply below_drew1 | refine below_set ?_ GE417.out) | exact HB.out))) : w.heap.size ≤ gb419)); have n5_ := Aside0.mk ((by rw [hg]; exact Nat.ne_of_lt (blk_lt (g := gb417) (o := .cells #[.string a0_0, .slice (some ad418) l0_1.length c0_1, .bool a0_2, .int .i64 a0_3, .int .i64 a0_4] 52 (0, 0)) (by (with_reducible repeat (first | refine blk_drewN ?_ _ | refine blk_drew ?_ | refine blk_alloc ?_ _)); exact BK417.out)) : gb417 ≠ gb419)); have n6_ := Aside0.mk ((by rw [hg]; exact Nat.ne_of_gt (blk_lt (g := gb417) (o := .cells #[.string a0_0, .slice (some ad418) l0_1.length c0_1, .bool a0_2, .int .i64 a0_3, .int .i64 a0_4] 52 (0, 0)) (by (with_reducible repeat (first | refine blk_drewN ?_ _ | refine blk_drew ?_ | refine blk_alloc ?_ _)); exact BK417.out)) : gb419 ≠ gb417)); clear BK417; clear HB; have BK417 := n0_; have HB := n1_; have BK419 := n2_; have GW419 := n3_; have GE419 := n4_; have NB417_419 := n5_; have NB419_417 := n6_; clear n0_ n1_ n2_ n3_ n4_ n5_ n6_; clear hb hbox hg; have hnb10 := NB419_417.out; have hnc10 := NB417_419.out; have hcz11_0 : w9.cell? ⟨gb419, 0, none⟩ = some (.string (⟨#[]⟩ : ByteArray)) := (blk_cell BK419.out 0).trans rfl; have hcz11_1 : w9.cell? ⟨gb419, 1, none⟩ = some (.slice none 0 0) := (blk_cell BK419.out 1).trans rfl; have hcz11_2 : w9.cell? ⟨gb419, 2, none⟩ = some (.bool false) := (blk_cell BK419.out 2).trans rfl; have hcz11_3 : w9.cell? ⟨gb419, 3, none⟩ = some (.int .i64 0) := (blk_cell BK419.out 3).trans rfl; have hcz11_4 : w9.cell? ⟨gb419, 4, none⟩ = some (.int .i64 0) := (blk_cell BK419.out 4).trans rfl; have hfz11_0 := blk_frozen BK419.out 0; have hfz11_1 := blk_frozen BK419.out 1; have hfz11_2 := blk_frozen BK419.out 2; have hfz11_3 := blk_frozen BK419.out 3; have hfz11_4 := blk_frozen BK419.out 4) | ((with_reducible refine gate_callee (f := 23) rfl ?_); refine goesL_ (some 19) rfl rfl Tryd.func23 (by kernel_rfl) rfl #[.agg #[.string ((rd_T52 l0_1 x13_1).f0), .slice A418_1 ((rd_T52 l0_1 x13_1).f1).length c418_1, .bool ((rd_T52 l0_1 x13_1).f2), .int .i64 ((rd_T52 l0_1 x13_1).f3.f0), .int .i64 ((rd_T52 l0_1 x13_1).f3.f1)]] rfl (by (try simp only [List.map_toArray, List.map_cons, List.map_nil]); first | done | rfl | (simp only [List.length_drop, List.length_take]; rfl)) ?_; (with_reducible refine (ih k1 (by have := HK1.out; omega) ((rd_T52 l0_1 x13_1).f0) _ _ ((rd_T52 l0_1 x13_1).f1) ((rd_T52 l0_1 x13_1).f2) ((rd_T52 l0_1 x13_1).f3.f0) ((rd_T52 l0_1 x13_1).f3.f1) t420 t421 _ ?side1 ?side2 A7.out).mono ?_); (case side1 => exact Kd.C_below HR418_1.out (by repeat (first | (with_reducible first | exact HB.out | apply below_alloc | apply pw_below_drewN | apply below_drew1 | refine below_set ?_ GE417.out | refine below_set ?_ GE419.out) | exact HB.out))); (case side2 => exact HC418_1.out); rintro e w12 ⟨rfl, hb⟩; refine ⟨_, rfl, ?_⟩; have n0_ := Aside0.mk (blk_below (g := gb417) (o := .cells #[.string a0_0, .slice (some ad418) l0_1.length c0_1, .bool a0_2, .int .i64 a0_3, .int .i64 a0_4] 52 (0, 0)) (by (with_reducible repeat (first | refine blk_drewN ?_ _ | refine blk_drew ?_ | refine blk_alloc ?_ _)); refine blk_far ?_ NB417_419.out _; (with_reducible repeat (first | refine blk_drewN ?_ _ | refine blk_drew ?_ | refine blk_alloc ?_ _)); refine blk_far ?_ NB417_419.out _; (with_reducible repeat (first | refine blk_drewN ?_ _ | refine blk_drew ?_ | refine blk_alloc ?_ _)); refine blk_far ?_ NB417_419.out _; (with_reducible repeat (first | refine blk_drewN ?_ _ | refine blk_drew ?_ | refine blk_alloc ?_ _)); refine blk_far ?_ NB417_419.out _; (with_reducible repeat (first | refine blk_drewN ?_ _ | refine blk_drew ?_ | refine blk_alloc ?_ _)); refine blk_far ?_ NB417_419.out _; (with_reducible repeat (first | refine blk_drewN ?_ _ | refine blk_drew ?_ | refine blk_alloc ?_ _)); exact BK417.out) hb); have n1_ := Aside0.mk (blk_below (g := gb419) (o := .cells #[.string ((rd_T52 l0_1 x13_1).f0), .slice A418_1 ((rd_T52 l0_1 x13_1).f1).length c418_1, .bool ((rd_T52 l0_1 x13_1).f2), .int .i64 ((rd_T52 l0_1 x13_1).f3.f0), .int .i64 ((rd_T52 l0_1 x13_1).f3.f1)] 52 (0, 0)) (by (with_reducible repeat (first | refine blk_drewN ?_ _ | refine blk_drew ?_ | refine blk_alloc ?_ _)); refine blk_put (cs := #[.string ((rd_T52 l0_1 x13_1).f0), .slice A418_1 ((rd_T52 l0_1 x13_1).f1).length c418_1, .bool ((rd_T52 l0_1 x13_1).f2), .int .i64 ((rd_T52 l0_1 x13_1).f3.f0), .int .i64 0]) ?_ 4 _ rfl; (with_reducible repeat (first | refine blk_drewN ?_ _ | refine blk_drew ?_ | refine blk_alloc ?_ _)); refine blk_put (cs := #[.string ((rd_T52 l0_1 x13_1).f0), .slice A418_1 ((rd_T52 l0_1 x13_1).f1).length c418_1, .bool ((rd_T52 l0_1 x13_1).f2), .int .i64 0, .int .i64 0]) ?_ 3 _ rfl; (with_reducible repeat (first | refine blk_drewN ?_ _ | refine blk_drew ?_ | refine blk_alloc ?_ _)); refine blk_put (cs := #[.string ((rd_T52 l0_1 x13_1).f0), .slice A418_1 ((rd_T52 l0_1 x13_1).f1).length c418_1, .bool false, .int .i64 0, .int .i64 0]) ?_ 2 _ rfl; (with_reducible repeat (first | refine blk_drewN ?_ _ | refine blk_drew ?_ | refine blk_alloc ?_ _)); refine blk_put (cs := #[.string ((rd_T52 l0_1 x13_1).f0), .slice none 0 0, .bool false, .int .i64 0, .int .i64 0]) ?_ 1 _ rfl; (with_reducible repeat (first | refine blk_drewN ?_ _ | refine blk_drew ?_ | refine blk_alloc ?_ _)); refine blk_put (cs := #[.string (⟨#[]⟩ : ByteArray), .slice none 0 0, .bool false, .int .i64 0, .int .i64 0]) ?_ 0 _ rfl; (with_reducible repeat (first | refine blk_drewN ?_ _ | refine blk_drew ?_ | refine blk_alloc ?_ _)); exact BK419.out) hb); have n2_ := Aside0.mk (below_step (by repeat (first | (with_reducible first | exact HB.out | apply below_alloc | apply pw_below_drewN | apply below_drew1 | refine below_set ?_ GE417.out | refine below_set ?_ GE419.out) | exact HB.out)) hb); clear BK417; clear BK419; clear HB; have BK417 := n0_; have BK419 := n1_; have HB := n2_; clear n0_ n1_ n2_; (try clear hb); (try clear hb2); (try clear hk); (try clear hi)))
              go_roundg k1
              case measure => have := HK1.out; omega
              case rel => exact ⟨(t420), (wrap64 (x5_1 + t421)), (wrap64 (x13_1 + 1)), (by first | rfl | (simp; done) | (simp [*]; done)), (by first | rfl | (simp; done) | (simp [*]; done)), (by first | rfl | (simp; done) | (simp [*]; done)), H', ⟨by have := HK1.out; omega⟩, ⟨by (with_reducible repeat (first | refine blk_drewN ?_ _ | refine blk_drew ?_ | refine blk_alloc ?_ _)); exact BK417.out⟩, ⟨by repeat (first | (with_reducible first | exact HB.out | apply below_alloc | apply pw_below_drewN | apply below_drew1 | refine below_set ?_ GE417.out | refine below_set ?_ GE419.out) | exact HB.out)⟩⟩
            · rw [if_neg c8] at H
              have c8b0 : decide (x4_1 < t420) = false := decide_eq_false c8
              clear c8
              have H' := Aside0.mk H
              clear H
              have p418 : 0 ≤ (x13_1 : Int) := of_decide_eq_true (by first | (with_reducible assumption) | assumption)
              have q418 : x13_1 < (l0_1.length : Int) := of_decide_eq_true (by first | (with_reducible assumption) | assumption)
              obtain ⟨ad418, A418_1, c418_1, e418, hx418_0, hx418_1, hx418_2, hx418_3, hx418_4, hl418_1, hi418_1⟩ := at_T52 HR0_1.out x13_1 p418 q418
              cases e418
              replace hx418_0 := (HB.out.cell (World.block_lt_of_cell? w _ hx418_0)).trans hx418_0
              replace hx418_1 := (HB.out.cell (World.block_lt_of_cell? w _ hx418_1)).trans hx418_1
              replace hx418_2 := (HB.out.cell (World.block_lt_of_cell? w _ hx418_2)).trans hx418_2
              replace hx418_3 := (HB.out.cell (World.block_lt_of_cell? w _ hx418_3)).trans hx418_3
              replace hx418_4 := (HB.out.cell (World.block_lt_of_cell? w _ hx418_4)).trans hx418_4
              have HR418_1 := Aside0.mk hi418_1
              have HC418_1 := Aside0.mk hl418_1
              clear hi418_1 hl418_1
              replace p418 := eq_true p418
              replace q418 := eq_true q418
              go_wp2_with (first | ((with_reducible refine gate_dst (N := 7) rfl ?_); refine box_event ?hg (N := 7) ?hd (cs := #[.string (⟨#[]⟩ : ByteArray), .slice none 0 0, .bool false, .int .i64 0, .int .i64 0]) (t := 52) ?hr ?_; (case hd => rfl); (case hg => rfl); (case hr => first | (go_simp; done) | (go_simp; rfl)); intro gb419 hg w13 hbox hb; have n0_ := Aside0.mk (blk_below (g := gb417) (o := .cells #[.string a0_0, .slice (some ad418) l0_1.length c0_1, .bool a0_2, .int .i64 a0_3, .int .i64 a0_4] 52 (0, 0)) (by (with_reducible repeat (first | refine blk_drewN ?_ _ | refine blk_drew ?_ | refine blk_alloc ?_ _)); exact BK417.out) hb); have n1_ := Aside0.mk (below_step (by repeat (first | (with_reducible first | exact HB.out | apply below_alloc | apply pw_below_drewN | apply below_drew1 | refine below_set ?_ GE417.out) | exact HB.out)) hb); have n2_ := Aside0.mk (hbox); have n3_ := Aside0.mk ((by rw [hg]; exact (below_size (by repeat (first | (with_reducible first | exact HB.out | apply below_alloc | apply pw_below_drewN | apply below_drew1 | refine below_set ?_ GE417.out) | exact HB.out))) : w.heap.size ≤ gb419)); have n4_ := Aside0.mk ((by rw [hg]; exact (below_size (by repeat (first | (with_reducible first | exact HB.out | apply below_alloc | apply pw_below_drewN | apply below_drew1 | refine below_set ?_ GE417.out) | exact HB.out))) : w.heap.size ≤ gb419)); have n5_ := Aside0.mk ((by rw [hg]; exact Nat.ne_of_lt (blk_lt (g := gb417) (o := .cells #[.string a0_0, .slice (some ad418) l0_1.length c0_1, .bool a0_2, .int .i64 a0_3, .int .i64 a0_4] 52 (0, 0)) (by (with_reducible repeat (first | refine blk_drewN ?_ _ | refine blk_drew ?_ | refine blk_alloc ?_ _)); exact BK417.out)) : gb417 ≠ gb419)); have n6_ := Aside0.mk ((by rw [hg]; exact Nat.ne_of_gt (blk_lt (g := gb417) (o := .cells #[.string a0_0, .slice (some ad418) l0_1.length c0_1, .bool a0_2, .int .i64 a0_3, .int .i64 a0_4] 52 (0, 0)) (by (with_reducible repeat (first | refine blk_drewN ?_ _ | refine blk_drew ?_ | refine blk_alloc ?_ _)); exact BK417.out)) : gb419 ≠ gb417)); clear BK417; clear HB; have BK417 := n0_; have HB := n1_; have BK419 := n2_; have GW419 := n3_; have GE419 := n4_; have NB417_419 := n5_; have NB419_417 := n6_; clear n0_ n1_ n2_ n3_ n4_ n5_ n6_; clear hb hbox hg; have hnb14 := NB419_417.out; have hnc14 := NB417_419.out; have hcz15_0 : w13.cell? ⟨gb419, 0, none⟩ = some (.string (⟨#[]⟩ : ByteArray)) := (blk_cell BK419.out 0).trans rfl; have hcz15_1 : w13.cell? ⟨gb419, 1, none⟩ = some (.slice none 0 0) := (blk_cell BK419.out 1).trans rfl; have hcz15_2 : w13.cell? ⟨gb419, 2, none⟩ = some (.bool false) := (blk_cell BK419.out 2).trans rfl; have hcz15_3 : w13.cell? ⟨gb419, 3, none⟩ = some (.int .i64 0) := (blk_cell BK419.out 3).trans rfl; have hcz15_4 : w13.cell? ⟨gb419, 4, none⟩ = some (.int .i64 0) := (blk_cell BK419.out 4).trans rfl; have hfz15_0 := blk_frozen BK419.out 0; have hfz15_1 := blk_frozen BK419.out 1; have hfz15_2 := blk_frozen BK419.out 2; have hfz15_3 := blk_frozen BK419.out 3; have hfz15_4 := blk_frozen BK419.out 4) | ((with_reducible refine gate_callee (f := 23) rfl ?_); refine goesL_ (some 19) rfl rfl Tryd.func23 (by kernel_rfl) rfl #[.agg #[.string ((rd_T52 l0_1 x13_1).f0), .slice A418_1 ((rd_T52 l0_1 x13_1).f1).length c418_1, .bool ((rd_T52 l0_1 x13_1).f2), .int .i64 ((rd_T52 l0_1 x13_1).f3.f0), .int .i64 ((rd_T52 l0_1 x13_1).f3.f1)]] rfl (by (try simp only [List.map_toArray, List.map_cons, List.map_nil]); first | done | rfl | (simp only [List.length_drop, List.length_take]; rfl)) ?_; (with_reducible refine (ih k1 (by have := HK1.out; omega) ((rd_T52 l0_1 x13_1).f0) _ _ ((rd_T52 l0_1 x13_1).f1) ((rd_T52 l0_1 x13_1).f2) ((rd_T52 l0_1 x13_1).f3.f0) ((rd_T52 l0_1 x13_1).f3.f1) t420 t421 _ ?side1 ?side2 A7.out).mono ?_); (case side1 => exact Kd.C_below HR418_1.out (by repeat (first | (with_reducible first | exact HB.out | apply below_alloc | apply pw_below_drewN | apply below_drew1 | refine below_set ?_ GE417.out | refine below_set ?_ GE419.out) | exact HB.out))); (case side2 => exact HC418_1.out); rintro e w16 ⟨rfl, hb⟩; refine ⟨_, rfl, ?_⟩; have n0_ := Aside0.mk (blk_below (g := gb417) (o := .cells #[.string a0_0, .slice (some ad418) l0_1.length c0_1, .bool a0_2, .int .i64 a0_3, .int .i64 a0_4] 52 (0, 0)) (by (with_reducible repeat (first | refine blk_drewN ?_ _ | refine blk_drew ?_ | refine blk_alloc ?_ _)); refine blk_far ?_ NB417_419.out _; (with_reducible repeat (first | refine blk_drewN ?_ _ | refine blk_drew ?_ | refine blk_alloc ?_ _)); refine blk_far ?_ NB417_419.out _; (with_reducible repeat (first | refine blk_drewN ?_ _ | refine blk_drew ?_ | refine blk_alloc ?_ _)); refine blk_far ?_ NB417_419.out _; (with_reducible repeat (first | refine blk_drewN ?_ _ | refine blk_drew ?_ | refine blk_alloc ?_ _)); refine blk_far ?_ NB417_419.out _; (with_reducible repeat (first | refine blk_drewN ?_ _ | refine blk_drew ?_ | refine blk_alloc ?_ _)); refine blk_far ?_ NB417_419.out _; (with_reducible repeat (first | refine blk_drewN ?_ _ | refine blk_drew ?_ | refine blk_alloc ?_ _)); exact BK417.out) hb); have n1_ := Aside0.mk (blk_below (g := gb419) (o := .cells #[.string ((rd_T52 l0_1 x13_1).f0), .slice A418_1 ((rd_T52 l0_1 x13_1).f1).length c418_1, .bool ((rd_T52 l0_1 x13_1).f2), .int .i64 ((rd_T52 l0_1 x13_1).f3.f0), .int .i64 ((rd_T52 l0_1 x13_1).f3.f1)] 52 (0, 0)) (by (with_reducible repeat (first | refine blk_drewN ?_ _ | refine blk_drew ?_ | refine blk_alloc ?_ _)); refine blk_put (cs := #[.string ((rd_T52 l0_1 x13_1).f0), .slice A418_1 ((rd_T52 l0_1 x13_1).f1).length c418_1, .bool ((rd_T52 l0_1 x13_1).f2), .int .i64 ((rd_T52 l0_1 x13_1).f3.f0), .int .i64 0]) ?_ 4 _ rfl; (with_reducible repeat (first | refine blk_drewN ?_ _ | refine blk_drew ?_ | refine blk_alloc ?_ _)); refine blk_put (cs := #[.string ((rd_T52 l0_1 x13_1).f0), .slice A418_1 ((rd_T52 l0_1 x13_1).f1).length c418_1, .bool ((rd_T52 l0_1 x13_1).f2), .int .i64 0, .int .i64 0]) ?_ 3 _ rfl; (with_reducible repeat (first | refine blk_drewN ?_ _ | refine blk_drew ?_ | refine blk_alloc ?_ _)); refine blk_put (cs := #[.string ((rd_T52 l0_1 x13_1).f0), .slice A418_1 ((rd_T52 l0_1 x13_1).f1).length c418_1, .bool false, .int .i64 0, .int .i64 0]) ?_ 2 _ rfl; (with_reducible repeat (first | refine blk_drewN ?_ _ | refine blk_drew ?_ | refine blk_alloc ?_ _)); refine blk_put (cs := #[.string ((rd_T52 l0_1 x13_1).f0), .slice none 0 0, .bool false, .int .i64 0, .int .i64 0]) ?_ 1 _ rfl; (with_reducible repeat (first | refine blk_drewN ?_ _ | refine blk_drew ?_ | refine blk_alloc ?_ _)); refine blk_put (cs := #[.string (⟨#[]⟩ : ByteArray), .slice none 0 0, .bool false, .int .i64 0, .int .i64 0]) ?_ 0 _ rfl; (with_reducible repeat (first | refine blk_drewN ?_ _ | refine blk_drew ?_ | refine blk_alloc ?_ _)); exact BK419.out) hb); have n2_ := Aside0.mk (below_step (by repeat (first | (with_reducible first | exact HB.out | apply below_alloc | apply pw_below_drewN | apply below_drew1 | refine below_set ?_ GE417.out | refine below_set ?_ GE419.out) | exact HB.out)) hb); clear BK417; clear BK419; clear HB; have BK417 := n0_; have BK419 := n1_; have HB := n2_; clear n0_ n1_ n2_; (try clear hb); (try clear hb2); (try clear hk); (try clear hi)))
              go_roundg k1
              case measure => have := HK1.out; omega
              case rel => exact ⟨(x4_1), (wrap64 (x5_1 + t421)), (wrap64 (x13_1 + 1)), (by first | rfl | (simp; done) | (simp [*]; done)), (by first | rfl | (simp; done) | (simp [*]; done)), (by first | rfl | (simp; done) | (simp [*]; done)), H', ⟨by have := HK1.out; omega⟩, ⟨by (with_reducible repeat (first | refine blk_drewN ?_ _ | refine blk_drew ?_ | refine blk_alloc ?_ _)); exact BK417.out⟩, ⟨by repeat (first | (with_reducible first | exact HB.out | apply below_alloc | apply pw_below_drewN | apply below_drew1 | refine below_set ?_ GE417.out | refine below_set ?_ GE419.out) | exact HB.out)⟩⟩
          · rw [if_neg c6] at H
            exact absurd H (by simp)
        · rw [if_neg c5] at H
          exact absurd H (by simp)
      · rw [if_neg c4] at H
        have c4b0 : decide (x13_1 < (l0_1.length : Int)) = false := decide_eq_false c4
        clear c4
        by_cases c17 : a0_2 = true
        · subst c17
          have H1 : (some (wrap64 (x4_1 + 1), x5_1)) = some (r1, r2) := by rw [if_pos rfl] at H; exact H
          clear H
          have H := H1
          clear H1
          simp only [Option.some.injEq, Prod.mk.injEq] at H
          obtain ⟨rfl, rfl⟩ := H
          have hcz18_0 : wr.cell? ⟨gb417, 0, none⟩ = some (.string a0_0) := (blk_cell BK417.out 0).trans rfl
          have hcz18_1 : wr.cell? ⟨gb417, 1, none⟩ = some (.slice A0_1 l0_1.length c0_1) := (blk_cell BK417.out 1).trans rfl
          have hcz18_2 : wr.cell? ⟨gb417, 2, none⟩ = some (.bool true) := (blk_cell BK417.out 2).trans rfl
          have hcz18_3 : wr.cell? ⟨gb417, 3, none⟩ = some (.int .i64 a0_3) := (blk_cell BK417.out 3).trans rfl
          have hcz18_4 : wr.cell? ⟨gb417, 4, none⟩ = some (.int .i64 a0_4) := (blk_cell BK417.out 4).trans rfl
          have hfz18_0 := blk_frozen BK417.out 0
          have hfz18_1 := blk_frozen BK417.out 1
          have hfz18_2 := blk_frozen BK417.out 2
          have hfz18_3 := blk_frozen BK417.out 3
          have hfz18_4 := blk_frozen BK417.out 4
          go_wp2
          go_ret2
          exact ⟨by first | rfl | (simp [errW_none, errW_some] <;> rfl) | (simp [*, errW_none, errW_some] <;> rfl), by repeat (first | (with_reducible first | exact HB.out | apply below_alloc | apply pw_below_drewN | apply below_drew1 | refine below_set ?_ GE417.out) | exact HB.out)⟩
        · replace c17 := Bool.eq_false_iff.mpr c17
          subst c17
          have H1 : (some (x4_1, x5_1)) = some (r1, r2) := by rw [if_neg (show ¬ (false = true) by decide)] at H; exact H
          clear H
          have H := H1
          clear H1
          simp only [Option.some.injEq, Prod.mk.injEq] at H
          obtain ⟨rfl, rfl⟩ := H
          have hcz19_0 : wr.cell? ⟨gb417, 0, none⟩ = some (.string a0_0) := (blk_cell BK417.out 0).trans rfl
          have hcz19_1 : wr.cell? ⟨gb417, 1, none⟩ = some (.slice A0_1 l0_1.length c0_1) := (blk_cell BK417.out 1).trans rfl
          have hcz19_2 : wr.cell? ⟨gb417, 2, none⟩ = some (.bool false) := (blk_cell BK417.out 2).trans rfl
          have hcz19_3 : wr.cell? ⟨gb417, 3, none⟩ = some (.int .i64 a0_3) := (blk_cell BK417.out 3).trans rfl
          have hcz19_4 : wr.cell? ⟨gb417, 4, none⟩ = some (.int .i64 a0_4) := (blk_cell BK417.out 4).trans rfl
          have hfz19_0 := blk_frozen BK417.out 0
          have hfz19_1 := blk_frozen BK417.out 1
          have hfz19_2 := blk_frozen BK417.out 2
          have hfz19_3 := blk_frozen BK417.out 3
          have hfz19_4 := blk_frozen BK417.out 4
          go_wp2
          go_ret2
          exact ⟨by first | rfl | (simp [errW_none, errW_some] <;> rfl) | (simp [*, errW_none, errW_some] <;> rfl), by repeat (first | (with_reducible first | exact HB.out | apply below_alloc | apply pw_below_drewN | apply below_drew1 | refine below_set ?_ GE417.out) | exact HB.out)⟩

-- NOT PRINTED: function 12 (tourbillonlaw04_SexpWords)

end Go.Proofs.YtlggmdlbhndacaaDoor.Lx
