-- Written by wip/tools/myprint.py (a program of this session's, over the kit's print.py) out of the translation, but for the functions that it takes by contract.
import Derived.Test.YtlggmdlbhndacaaDoorLxx0
namespace Go.Proofs.YtlggmdlbhndacaaDoor.Lx
open Go.RowKit Go.Proofs.YtlggmdlbhndacaaDoorW.PrintWords Go.Proofs.YtlggmdlbhndacaaDoorW.PrintLast Go.Proofs.YtlggmdlbhndacaaDoorW.PrintMore
attribute [local go_sem] max2_int min2_int max_two min_two max_three min_three max_four min_four   -- for this text's walks alone
set_option linter.unusedVariables false
set_option linter.unusedSimpArgs false

/-! ### tourbillonref03_Line: function 32 -/
mutual
def tourbillonref03_Line.l0 : Nat → ByteArray → Int → List (S40) → Int → Option ((List (S40)) × Int)
  | 0, _, _, _, _ => none
  | k + 1, x0, x1, x6, x7 => if x7 < (x0.size : Int) then (if 0 ≤ x7 then (tourbillonref03_Line.j1 k x0 x1 x6 x7 ((bt x0 x7) != 59)) else (none)) else (tourbillonref03_Line.j1 k x0 x1 x6 x7 false)
def tourbillonref03_Line.j1 : Nat → ByteArray → Int → List (S40) → Int → Bool → Option ((List (S40)) × Int)
  | 0, _, _, _, _, _ => none
  | k + 1, x0, x1, x6, x7, x20 => if x20 = true then (if 0 ≤ x7 then (if x7 < (x0.size : Int) then (if (bt x0 x7) = 32 then (tourbillonref03_Line.j2 k x0 x1 x6 x7 (bt x0 x7) true) else (if (bt x0 x7) = 9 then (tourbillonref03_Line.j2 k x0 x1 x6 x7 (bt x0 x7) true) else (tourbillonref03_Line.j2 k x0 x1 x6 x7 (bt x0 x7) ((bt x0 x7) == 13)))) else (none)) else (none)) else (some (x6, 0))
def tourbillonref03_Line.j2 : Nat → ByteArray → Int → List (S40) → Int → Int → Bool → Option ((List (S40)) × Int)
  | 0, _, _, _, _, _, _ => none
  | k + 1, x0, x1, x6, x7, x8, x33 => if x33 = true then (tourbillonref03_Line.l0 k x0 x1 x6 (wrap64 (x7 + 1))) else (if x8 = 40 then (tourbillonref03_Line.j3 k x0 x1 x6 x7 x8 true 0 (⟨#[]⟩ : ByteArray) x1 (wrap64 (x7 + 1))) else (tourbillonref03_Line.j3 k x0 x1 x6 x7 x8 (x8 == 41) 0 (⟨#[]⟩ : ByteArray) x1 (wrap64 (x7 + 1))))
def tourbillonref03_Line.j3 : Nat → ByteArray → Int → List (S40) → Int → Int → Bool → Int → ByteArray → Int → Int → Option ((List (S40)) × Int)
  | 0, _, _, _, _, _, _, _, _, _, _ => none
  | k + 1, x0, x1, x6, x7, x8, x46, x131000, x131001, x131002, x131003 => if x46 = true then (if x8 = 41 then (if 0 ≤ x7 then (if x7 ≤ (wrap64 (x7 + 1)) then (if (wrap64 (x7 + 1)) ≤ (x0.size : Int) then (if x6.length < 3518437208883 then (tourbillonref03_Line.l0 k x0 x1 (x6 ++ [(⟨2, x0.extract (x7 : Int).toNat ((wrap64 (x7 + 1)) : Int).toNat, (⟨x131002, x131003⟩ : S25)⟩ : S40)]) (wrap64 (x7 + ((x0.extract (x7 : Int).toNat ((wrap64 (x7 + 1)) : Int).toNat).size : Int)))) else (none)) else (none)) else (none)) else (none)) else (if 0 ≤ x7 then (if x7 ≤ (wrap64 (x7 + 1)) then (if (wrap64 (x7 + 1)) ≤ (x0.size : Int) then (if x6.length < 3518437208883 then (tourbillonref03_Line.l0 k x0 x1 (x6 ++ [(⟨1, x0.extract (x7 : Int).toNat ((wrap64 (x7 + 1)) : Int).toNat, (⟨x131002, x131003⟩ : S25)⟩ : S40)]) (wrap64 (x7 + ((x0.extract (x7 : Int).toNat ((wrap64 (x7 + 1)) : Int).toNat).size : Int)))) else (none)) else (none)) else (none)) else (none))) else (tourbillonref03_Line.l1 k x0 x1 x6 x7 0 x131000 x131001 x131002 x131003)
def tourbillonref03_Line.l1 : Nat → ByteArray → Int → List (S40) → Int → Int → Int → ByteArray → Int → Int → Option ((List (S40)) × Int)
  | 0, _, _, _, _, _, _, _, _, _ => none
  | k + 1, x0, x1, x6, x7, x10, x131000, x131001, x131002, x131003 => if (wrap64 (x7 + x10)) < (x0.size : Int) then (if 0 ≤ (wrap64 (x7 + x10)) then (if (bt x0 (wrap64 (x7 + x10))) ≥ 33 then (if (bt x0 (wrap64 (x7 + x10))) ≤ 126 then (if (bt x0 (wrap64 (x7 + x10))) = 40 then (if x10 = 0 then (some (([] : List (S40)), wrap64 (x7 + 1))) else (if x10 > 32 then (some (([] : List (S40)), wrap64 (x7 + 1))) else (if 0 ≤ x7 then (if x7 ≤ (wrap64 (x7 + x10)) then (if (wrap64 (x7 + x10)) ≤ (x0.size : Int) then (if x6.length < 3518437208883 then (tourbillonref03_Line.l0 k x0 x1 (x6 ++ [(⟨3, x0.extract (x7 : Int).toNat ((wrap64 (x7 + x10)) : Int).toNat, (⟨x131002, x131003⟩ : S25)⟩ : S40)]) (wrap64 (x7 + ((x0.extract (x7 : Int).toNat ((wrap64 (x7 + x10)) : Int).toNat).size : Int)))) else (none)) else (none)) else (none)) else (none)))) else (if (bt x0 (wrap64 (x7 + x10))) = 41 then (if x10 = 0 then (some (([] : List (S40)), wrap64 (x7 + 1))) else (if x10 > 32 then (some (([] : List (S40)), wrap64 (x7 + 1))) else (if 0 ≤ x7 then (if x7 ≤ (wrap64 (x7 + x10)) then (if (wrap64 (x7 + x10)) ≤ (x0.size : Int) then (if x6.length < 3518437208883 then (tourbillonref03_Line.l0 k x0 x1 (x6 ++ [(⟨3, x0.extract (x7 : Int).toNat ((wrap64 (x7 + x10)) : Int).toNat, (⟨x131002, x131003⟩ : S25)⟩ : S40)]) (wrap64 (x7 + ((x0.extract (x7 : Int).toNat ((wrap64 (x7 + x10)) : Int).toNat).size : Int)))) else (none)) else (none)) else (none)) else (none)))) else (if (bt x0 (wrap64 (x7 + x10))) = 59 then (if x10 = 0 then (some (([] : List (S40)), wrap64 (x7 + 1))) else (if x10 > 32 then (some (([] : List (S40)), wrap64 (x7 + 1))) else (if 0 ≤ x7 then (if x7 ≤ (wrap64 (x7 + x10)) then (if (wrap64 (x7 + x10)) ≤ (x0.size : Int) then (if x6.length < 3518437208883 then (tourbillonref03_Line.l0 k x0 x1 (x6 ++ [(⟨3, x0.extract (x7 : Int).toNat ((wrap64 (x7 + x10)) : Int).toNat, (⟨x131002, x131003⟩ : S25)⟩ : S40)]) (wrap64 (x7 + ((x0.extract (x7 : Int).toNat ((wrap64 (x7 + x10)) : Int).toNat).size : Int)))) else (none)) else (none)) else (none)) else (none)))) else (tourbillonref03_Line.l1 k x0 x1 x6 x7 (wrap64 (x10 + 1)) x131000 x131001 x131002 x131003)))) else (if x10 = 0 then (some (([] : List (S40)), wrap64 (x7 + 1))) else (if x10 > 32 then (some (([] : List (S40)), wrap64 (x7 + 1))) else (if 0 ≤ x7 then (if x7 ≤ (wrap64 (x7 + x10)) then (if (wrap64 (x7 + x10)) ≤ (x0.size : Int) then (if x6.length < 3518437208883 then (tourbillonref03_Line.l0 k x0 x1 (x6 ++ [(⟨3, x0.extract (x7 : Int).toNat ((wrap64 (x7 + x10)) : Int).toNat, (⟨x131002, x131003⟩ : S25)⟩ : S40)]) (wrap64 (x7 + ((x0.extract (x7 : Int).toNat ((wrap64 (x7 + x10)) : Int).toNat).size : Int)))) else (none)) else (none)) else (none)) else (none))))) else (if x10 = 0 then (some (([] : List (S40)), wrap64 (x7 + 1))) else (if x10 > 32 then (some (([] : List (S40)), wrap64 (x7 + 1))) else (if 0 ≤ x7 then (if x7 ≤ (wrap64 (x7 + x10)) then (if (wrap64 (x7 + x10)) ≤ (x0.size : Int) then (if x6.length < 3518437208883 then (tourbillonref03_Line.l0 k x0 x1 (x6 ++ [(⟨3, x0.extract (x7 : Int).toNat ((wrap64 (x7 + x10)) : Int).toNat, (⟨x131002, x131003⟩ : S25)⟩ : S40)]) (wrap64 (x7 + ((x0.extract (x7 : Int).toNat ((wrap64 (x7 + x10)) : Int).toNat).size : Int)))) else (none)) else (none)) else (none)) else (none))))) else (none)) else (if x10 = 0 then (some (([] : List (S40)), wrap64 (x7 + 1))) else (if x10 > 32 then (some (([] : List (S40)), wrap64 (x7 + 1))) else (if 0 ≤ x7 then (if x7 ≤ (wrap64 (x7 + x10)) then (if (wrap64 (x7 + x10)) ≤ (x0.size : Int) then (if x6.length < 3518437208883 then (tourbillonref03_Line.l0 k x0 x1 (x6 ++ [(⟨3, x0.extract (x7 : Int).toNat ((wrap64 (x7 + x10)) : Int).toNat, (⟨x131002, x131003⟩ : S25)⟩ : S40)]) (wrap64 (x7 + ((x0.extract (x7 : Int).toNat ((wrap64 (x7 + x10)) : Int).toNat).size : Int)))) else (none)) else (none)) else (none)) else (none))))
end
def tourbillonref03_Line.f (k : Nat) (a0 : ByteArray) (a1 : Int) : Option ((List (S40)) × Int) := tourbillonref03_Line.l0 k a0 a1 ([] : List (S40)) 0
theorem tourbillonref03_Line.mono_l : ∀ k, (∀ y0 y1 y2 y3, LeO (tourbillonref03_Line.l0 k y0 y1 y2 y3) (tourbillonref03_Line.l0 (k + 1) y0 y1 y2 y3)) ∧ (∀ y0 y1 y2 y3 y4, LeO (tourbillonref03_Line.j1 k y0 y1 y2 y3 y4) (tourbillonref03_Line.j1 (k + 1) y0 y1 y2 y3 y4)) ∧ (∀ y0 y1 y2 y3 y4 y5, LeO (tourbillonref03_Line.j2 k y0 y1 y2 y3 y4 y5) (tourbillonref03_Line.j2 (k + 1) y0 y1 y2 y3 y4 y5)) ∧ (∀ y0 y1 y2 y3 y4 y5 y6 y7 y8 y9, LeO (tourbillonref03_Line.j3 k y0 y1 y2 y3 y4 y5 y6 y7 y8 y9) (tourbillonref03_Line.j3 (k + 1) y0 y1 y2 y3 y4 y5 y6 y7 y8 y9)) ∧ (∀ y0 y1 y2 y3 y4 y5 y6 y7 y8, LeO (tourbillonref03_Line.l1 k y0 y1 y2 y3 y4 y5 y6 y7 y8) (tourbillonref03_Line.l1 (k + 1) y0 y1 y2 y3 y4 y5 y6 y7 y8))
  | 0 => ⟨fun _ _ _ _ r h => by simp [tourbillonref03_Line.l0] at h, fun _ _ _ _ _ r h => by simp [tourbillonref03_Line.j1] at h, fun _ _ _ _ _ _ r h => by simp [tourbillonref03_Line.j2] at h, fun _ _ _ _ _ _ _ _ _ _ r h => by simp [tourbillonref03_Line.j3] at h, fun _ _ _ _ _ _ _ _ _ r h => by simp [tourbillonref03_Line.l1] at h⟩
  | k + 1 => by
    obtain ⟨ih0, ih1, ih2, ih3, ih4⟩ := tourbillonref03_Line.mono_l k
    refine ⟨?_, ?_, ?_, ?_, ?_⟩
    · intro y0 y1 y2 y3
      unfold tourbillonref03_Line.l0
      repeat' first
      | (with_reducible exact ih0 _ _ _ _)
      | (with_reducible exact ih1 _ _ _ _ _)
      | (with_reducible exact ih2 _ _ _ _ _ _)
      | (with_reducible exact ih3 _ _ _ _ _ _ _ _ _ _)
      | (with_reducible exact ih4 _ _ _ _ _ _ _ _ _)
      | (with_reducible exact LeO.refl _)
      | (with_reducible exact LeO.none _)
      | (with_reducible refine LeO.ite ?_ ?_)
      | (with_reducible refine LeO.bind ?_ (fun _ => ?_))
      | exact ih0 _ _ _ _
      | exact ih1 _ _ _ _ _
      | exact ih2 _ _ _ _ _ _
      | exact ih3 _ _ _ _ _ _ _ _ _ _
      | exact ih4 _ _ _ _ _ _ _ _ _
      | exact LeO.none _
      | refine LeO.ite ?_ ?_
      | refine LeO.bind ?_ (fun _ => ?_)
    · intro y0 y1 y2 y3 y4
      unfold tourbillonref03_Line.j1
      repeat' first
      | (with_reducible exact ih0 _ _ _ _)
      | (with_reducible exact ih1 _ _ _ _ _)
      | (with_reducible exact ih2 _ _ _ _ _ _)
      | (with_reducible exact ih3 _ _ _ _ _ _ _ _ _ _)
      | (with_reducible exact ih4 _ _ _ _ _ _ _ _ _)
      | (with_reducible exact LeO.refl _)
      | (with_reducible exact LeO.none _)
      | (with_reducible refine LeO.ite ?_ ?_)
      | (with_reducible refine LeO.bind ?_ (fun _ => ?_))
      | exact ih0 _ _ _ _
      | exact ih1 _ _ _ _ _
      | exact ih2 _ _ _ _ _ _
      | exact ih3 _ _ _ _ _ _ _ _ _ _
      | exact ih4 _ _ _ _ _ _ _ _ _
      | exact LeO.none _
      | refine LeO.ite ?_ ?_
      | refine LeO.bind ?_ (fun _ => ?_)
    · intro y0 y1 y2 y3 y4 y5
      unfold tourbillonref03_Line.j2
      repeat' first
      | (with_reducible exact ih0 _ _ _ _)
      | (with_reducible exact ih1 _ _ _ _ _)
      | (with_reducible exact ih2 _ _ _ _ _ _)
      | (with_reducible exact ih3 _ _ _ _ _ _ _ _ _ _)
      | (with_reducible exact ih4 _ _ _ _ _ _ _ _ _)
      | (with_reducible exact LeO.refl _)
      | (with_reducible exact LeO.none _)
      | (with_reducible refine LeO.ite ?_ ?_)
      | (with_reducible refine LeO.bind ?_ (fun _ => ?_))
      | exact ih0 _ _ _ _
      | exact ih1 _ _ _ _ _
      | exact ih2 _ _ _ _ _ _
      | exact ih3 _ _ _ _ _ _ _ _ _ _
      | exact ih4 _ _ _ _ _ _ _ _ _
      | exact LeO.none _
      | refine LeO.ite ?_ ?_
      | refine LeO.bind ?_ (fun _ => ?_)
    · intro y0 y1 y2 y3 y4 y5 y6 y7 y8 y9
      unfold tourbillonref03_Line.j3
      repeat' first
      | (with_reducible exact ih0 _ _ _ _)
      | (with_reducible exact ih1 _ _ _ _ _)
      | (with_reducible exact ih2 _ _ _ _ _ _)
      | (with_reducible exact ih3 _ _ _ _ _ _ _ _ _ _)
      | (with_reducible exact ih4 _ _ _ _ _ _ _ _ _)
      | (with_reducible exact LeO.refl _)
      | (with_reducible exact LeO.none _)
      | (with_reducible refine LeO.ite ?_ ?_)
      | (with_reducible refine LeO.bind ?_ (fun _ => ?_))
      | exact ih0 _ _ _ _
      | exact ih1 _ _ _ _ _
      | exact ih2 _ _ _ _ _ _
      | exact ih3 _ _ _ _ _ _ _ _ _ _
      | exact ih4 _ _ _ _ _ _ _ _ _
      | exact LeO.none _
      | refine LeO.ite ?_ ?_
      | refine LeO.bind ?_ (fun _ => ?_)
    · intro y0 y1 y2 y3 y4 y5 y6 y7 y8
      unfold tourbillonref03_Line.l1
      repeat' first
      | (with_reducible exact ih0 _ _ _ _)
      | (with_reducible exact ih1 _ _ _ _ _)
      | (with_reducible exact ih2 _ _ _ _ _ _)
      | (with_reducible exact ih3 _ _ _ _ _ _ _ _ _ _)
      | (with_reducible exact ih4 _ _ _ _ _ _ _ _ _)
      | (with_reducible exact LeO.refl _)
      | (with_reducible exact LeO.none _)
      | (with_reducible refine LeO.ite ?_ ?_)
      | (with_reducible refine LeO.bind ?_ (fun _ => ?_))
      | exact ih0 _ _ _ _
      | exact ih1 _ _ _ _ _
      | exact ih2 _ _ _ _ _ _
      | exact ih3 _ _ _ _ _ _ _ _ _ _
      | exact ih4 _ _ _ _ _ _ _ _ _
      | exact LeO.none _
      | refine LeO.ite ?_ ?_
      | refine LeO.bind ?_ (fun _ => ?_)
theorem tourbillonref03_Line.mono : ∀ a0 a1 k, LeO (tourbillonref03_Line.f k a0 a1) (tourbillonref03_Line.f (k + 1) a0 a1) := by
  intro a0 a1 k
  obtain ⟨ih0, ih1, ih2, ih3, ih4⟩ := tourbillonref03_Line.mono_l k
  unfold tourbillonref03_Line.f
  repeat' first
      | (with_reducible exact ih0 _ _ _ _)
      | (with_reducible exact ih1 _ _ _ _ _)
      | (with_reducible exact ih2 _ _ _ _ _ _)
      | (with_reducible exact ih3 _ _ _ _ _ _ _ _ _ _)
      | (with_reducible exact ih4 _ _ _ _ _ _ _ _ _)
      | (with_reducible exact LeO.refl _)
      | (with_reducible exact LeO.none _)
      | (with_reducible refine LeO.ite ?_ ?_)
      | (with_reducible refine LeO.bind ?_ (fun _ => ?_))
      | exact ih0 _ _ _ _
      | exact ih1 _ _ _ _ _
      | exact ih2 _ _ _ _ _ _
      | exact ih3 _ _ _ _ _ _ _ _ _ _
      | exact ih4 _ _ _ _ _ _ _ _ _
      | exact LeO.none _
      | refine LeO.ite ?_ ?_
      | refine LeO.bind ?_ (fun _ => ?_)
set_option maxHeartbeats 8000000 in
set_option maxRecDepth 100000 in
theorem tourbillonref03_Line.calls (k : Nat) (a0 : ByteArray) (a1 : Int) (r1 : List (S40)) (r2 : Int) (w : World) (h : tourbillonref03_Line.f k a0 a1 = some (r1, r2)) :
    Calls Tryd.prog 32 #[.string a0, .int .i64 a1] w fun e w' => ∃ v0_ : Value, e = .returned (.tuple #[v0_, .int .i64 r2]) ∧ Kd.R k40 40 w' w.heap.size (fun _ => True) v0_ r1 ∧ Below w.heap.size w w' := by
  have hu25 := Tryd.underlying25
  have hu40 := Tryd.underlying40
  have HB := Aside0.mk (Below.refl w.heap.size w)
  have H : (tourbillonref03_Line.l0 k a0 a1 ([] : List (S40)) 0) = some (r1, r2) := h
  clear h
  have H' := Aside0.mk H
  clear H
  go_enter Tryd.func32, Tryd.ntmps32
  go_wp2
  go_loopg [6, 7] k (fun kq v6 v7 w' => ∃ (x6_1 : List (S40)) (x7_1 : Int), v7 = .int .i64 x7_1 ∧ Aside0 (tourbillonref03_Line.l0 kq a0 a1 x6_1 x7_1 = some (r1, r2)) ∧ Aside0 (kq ≤ k) ∧ Aside0 (Kd.R k40 40 w' w.heap.size (fun _ => True) v6 x6_1) ∧ Aside0 (Below w.heap.size w w'))
  case atStart => exact ⟨(([] : List (S40))), (0), (by first | rfl | (simp; done) | (simp [*]; done)), H', ⟨Nat.le_refl _⟩, ⟨by first | exact Kd.R_nil _ _ _ _ _ | exact Kd.N_nil _ _ _ _ _ | exact Kd.V_nil _ _ _ _ _ | exact Kd.Q_nil _ _ _ _ _ | exact Kd.S_nil _ _ _ _ _⟩, ⟨by repeat (first | (with_reducible first | exact HB.out | apply below_alloc | apply pw_below_drewN | apply below_drew1) | exact HB.out)⟩⟩
  case round =>
    clear H'
    try clear p2
    obtain ⟨x6_1, x7_1, rfl, HA, HK1, HO_6, HB⟩ := hrel
    cases gk with
    | zero => exact absurd HA.out (by simp [tourbillonref03_Line.l0])
    | succ k1 =>
      have H := HA.out
      clear HA
      simp only [tourbillonref03_Line.l0] at H
      have HC3 := Aside0.mk H
      clear H
      go_upto_region 3 with (fail)
      go_cut [20] (fun v20 wc => ∃ (kq : Nat) (x20_2 : Bool), v20 = .bool x20_2 ∧ Aside0 (tourbillonref03_Line.j1 kq a0 a1 x6_1 x7_1 x20_2 = some (r1, r2)) ∧ Aside0 (kq ≤ k1) ∧ Aside0 (Kd.R k40 40 wc w.heap.size (fun _ => True) u6 x6_1) ∧ Aside0 (Below w.heap.size w wc))
      case first =>
        have H := HC3.out
        clear HC3
        by_cases c4 : x7_1 < (a0.size : Int)
        · rw [if_pos c4] at H
          have c4b0 : decide (x7_1 < (a0.size : Int)) = true := decide_eq_true c4
          clear c4
          (first | rw [c4b0] | (simp only [i64_w, i32_w]; rw [c4b0]) | skip)
          by_cases c5 : 0 ≤ x7_1
          · rw [if_pos c5] at H
            have c5b0 : decide (0 ≤ x7_1) = true := decide_eq_true c5
            clear c5
            have H' := Aside0.mk H
            clear H
            have p6 : 0 ≤ (x7_1 : Int) := of_decide_eq_true (by first | (with_reducible assumption) | assumption)
            have q6 : x7_1 < (a0.size : Int) := of_decide_eq_true (by first | (with_reducible assumption) | assumption)
            have hx6 := bt_at a0 x7_1
            replace p6 := eq_true p6
            replace q6 := eq_true q6
            go_wp2
            go_meet
            case rel => exact ⟨_, (((bt a0 x7_1) != 59)), (by first | rfl | (simp; done) | (simp [*]; done)), H', ⟨by have := HK1.out; first | omega | exact Nat.le_refl _⟩, ⟨by (with_reducible repeat (first | apply Kd.R_alloc | apply Kd.R_drewN | apply Kd.R_drew)); exact HO_6.out⟩, ⟨by repeat (first | (with_reducible first | exact HB.out | apply below_alloc | apply pw_below_drewN | apply below_drew1) | exact HB.out)⟩⟩
          · rw [if_neg c5] at H
            exact absurd H (by simp)
        · rw [if_neg c4] at H
          have c4b0 : decide (x7_1 < (a0.size : Int)) = false := decide_eq_false c4
          clear c4
          (first | rw [c4b0] | (simp only [i64_w, i32_w]; rw [c4b0]) | skip)
          have H' := Aside0.mk H
          clear H
          go_wp2
          go_meet
          case rel => exact ⟨_, (false), (by first | rfl | (simp; done) | (simp [*]; done)), H', ⟨by have := HK1.out; first | omega | exact Nat.le_refl _⟩, ⟨by (with_reducible repeat (first | apply Kd.R_alloc | apply Kd.R_drewN | apply Kd.R_drew)); exact HO_6.out⟩, ⟨by repeat (first | (with_reducible first | exact HB.out | apply below_alloc | apply pw_below_drewN | apply below_drew1) | exact HB.out)⟩⟩
      case rest =>
        clear HC3
        try clear p2
        try clear c3
        try clear c4
        try clear c4b0
        try clear c5
        try clear c5b0
        try clear p6
        try clear q6
        try clear hx6
        try clear p2
        try clear p6
        try clear q6
        obtain ⟨kq, x20_2, rfl, HA, HJ2, HO_6, HB⟩ := hcut
        cases kq with
        | zero => exact absurd HA.out (by simp [tourbillonref03_Line.j1])
        | succ kj2 =>
          have H := HA.out
          clear HA
          simp only [tourbillonref03_Line.j1] at H
          by_cases c7 : x20_2 = true
          · subst c7
            have H1 : (if 0 ≤ x7_1 then (if x7_1 < (a0.size : Int) then (if (bt a0 x7_1) = 32 then (tourbillonref03_Line.j2 kj2 a0 a1 x6_1 x7_1 (bt a0 x7_1) true) else (if (bt a0 x7_1) = 9 then (tourbillonref03_Line.j2 kj2 a0 a1 x6_1 x7_1 (bt a0 x7_1) true) else (tourbillonref03_Line.j2 kj2 a0 a1 x6_1 x7_1 (bt a0 x7_1) ((bt a0 x7_1) == 13)))) else (none)) else (none)) = some (r1, r2) := by rw [if_pos rfl] at H; exact H
            clear H
            have H := H1
            clear H1
            by_cases c8 : 0 ≤ x7_1
            · rw [if_pos c8] at H
              have c8b0 : decide (0 ≤ x7_1) = true := decide_eq_true c8
              clear c8
              by_cases c9 : x7_1 < (a0.size : Int)
              · rw [if_pos c9] at H
                have c9b0 : decide (x7_1 < (a0.size : Int)) = true := decide_eq_true c9
                clear c9
                have HC11 := Aside0.mk H
                clear H
                have p10 : 0 ≤ (x7_1 : Int) := of_decide_eq_true (by first | (with_reducible assumption) | assumption)
                have q10 : x7_1 < (a0.size : Int) := of_decide_eq_true (by first | (with_reducible assumption) | assumption)
                have hx10 := bt_at a0 x7_1
                replace p10 := eq_true p10
                replace q10 := eq_true q10
                go_upto_region 5 with (fail)
                go_cut [33] (fun v33 wc => ∃ (kq : Nat) (x33_10 : Bool), v33 = .bool x33_10 ∧ Aside0 (tourbillonref03_Line.j2 kq a0 a1 x6_1 x7_1 (bt a0 x7_1) x33_10 = some (r1, r2)) ∧ Aside0 (kq ≤ kj2) ∧ Aside0 (Kd.R k40 40 wc w.heap.size (fun _ => True) u6 x6_1) ∧ Aside0 (Below w.heap.size w wc))
                case first =>
                  have H := HC11.out
                  clear HC11
                  by_cases c12 : (bt a0 x7_1) = 32
                  · rw [if_pos c12] at H
                    have c12b0 : ((bt a0 x7_1) == 32) = true := beq_iff_eq.mpr c12
                    have c12b1 : ((bt a0 x7_1) != 32) = false := bne_eq_false_iff_eq.mpr c12
                    clear c12
                    (first | rw [c12b0] | (simp only [i64_w, i32_w]; rw [c12b0]) | skip)
                    have H' := Aside0.mk H
                    clear H
                    go_wp2
                    go_meet
                    case rel => exact ⟨_, (true), (by first | rfl | (simp; done) | (simp [*]; done)), H', ⟨by have := HK1.out; have := HJ2.out; first | omega | exact Nat.le_refl _⟩, ⟨by (with_reducible repeat (first | apply Kd.R_alloc | apply Kd.R_drewN | apply Kd.R_drew)); exact HO_6.out⟩, ⟨by repeat (first | (with_reducible first | exact HB.out | apply below_alloc | apply pw_below_drewN | apply below_drew1) | exact HB.out)⟩⟩
                  · rw [if_neg c12] at H
                    have c12b0 : ((bt a0 x7_1) == 32) = false := beq_eq_false_iff_ne.mpr c12
                    have c12b1 : ((bt a0 x7_1) != 32) = true := bne_iff_ne.mpr c12
                    (first | rw [c12b0] | (simp only [i64_w, i32_w]; rw [c12b0]) | skip)
                    by_cases c13 : (bt a0 x7_1) = 9
                    · rw [if_pos c13] at H
                      have c13b0 : ((bt a0 x7_1) == 9) = true := beq_iff_eq.mpr c13
                      have c13b1 : ((bt a0 x7_1) != 9) = false := bne_eq_false_iff_eq.mpr c13
                      clear c13
                      have H' := Aside0.mk H
                      clear H
                      go_wp2
                      go_meet
                      case rel => exact ⟨_, (true), (by first | rfl | (simp; done) | (simp [*]; done)), H', ⟨by have := HK1.out; have := HJ2.out; first | omega | exact Nat.le_refl _⟩, ⟨by (with_reducible repeat (first | apply Kd.R_alloc | apply Kd.R_drewN | apply Kd.R_drew)); exact HO_6.out⟩, ⟨by repeat (first | (with_reducible first | exact HB.out | apply below_alloc | apply pw_below_drewN | apply below_drew1) | exact HB.out)⟩⟩
                    · rw [if_neg c13] at H
                      have c13b0 : ((bt a0 x7_1) == 9) = false := beq_eq_false_iff_ne.mpr c13
                      have c13b1 : ((bt a0 x7_1) != 9) = true := bne_iff_ne.mpr c13
                      have H' := Aside0.mk H
                      clear H
                      go_wp2
                      go_meet
                      case rel => exact ⟨_, (((bt a0 x7_1) == 13)), (by first | rfl | (simp; done) | (simp [*]; done)), H', ⟨by have := HK1.out; have := HJ2.out; first | omega | exact Nat.le_refl _⟩, ⟨by (with_reducible repeat (first | apply Kd.R_alloc | apply Kd.R_drewN | apply Kd.R_drew)); exact HO_6.out⟩, ⟨by repeat (first | (with_reducible first | exact HB.out | apply below_alloc | apply pw_below_drewN | apply below_drew1) | exact HB.out)⟩⟩
                case rest =>
                  clear HC11
                  try clear c1
                  try clear p1
                  try clear q1
                  try clear hx1
                  try clear p2
                  try clear c3
                  try clear c4
                  try clear c4b0
                  try clear c5
                  try clear c5b0
                  try clear p6
                  try clear q6
                  try clear hx6
                  try clear c7
                  try clear c8
                  try clear c8b0
                  try clear c9
                  try clear c9b0
                  try clear p10
                  try clear q10
                  try clear hx10
                  try clear c12
                  try clear c12b0
                  try clear c12b1
                  try clear c13
                  try clear c13b0
                  try clear c13b1
                  try clear p10
                  try clear p2
                  try clear p6
                  try clear q10
                  try clear q6
                  obtain ⟨kq, x33_10, rfl, HA, HJ10, HO_6, HB⟩ := hcut
                  cases kq with
                  | zero => exact absurd HA.out (by simp [tourbillonref03_Line.j2])
                  | succ kj10 =>
                    have H := HA.out
                    clear HA
                    simp only [tourbillonref03_Line.j2] at H
                    by_cases c14 : x33_10 = true
                    · subst c14
                      have H1 : (tourbillonref03_Line.l0 kj10 a0 a1 x6_1 (wrap64 (x7_1 + 1))) = some (r1, r2) := by rw [if_pos rfl] at H; exact H
                      clear H
                      have H := H1
                      clear H1
                      have H' := Aside0.mk H
                      clear H
                      go_wp2
                      go_roundg kj10
                      case measure => have := HK1.out; have := HJ2.out; have := HJ10.out; omega
                      case rel => exact ⟨(x6_1), (wrap64 (x7_1 + 1)), (by first | rfl | (simp; done) | (simp [*]; done)), H', ⟨by have := HK1.out; have := HJ2.out; have := HJ10.out; omega⟩, ⟨by (with_reducible repeat (first | apply Kd.R_alloc | apply Kd.R_drewN | apply Kd.R_drew)); exact HO_6.out⟩, ⟨by repeat (first | (with_reducible first | exact HB.out | apply below_alloc | apply pw_below_drewN | apply below_drew1) | exact HB.out)⟩⟩
                    · replace c14 := Bool.eq_false_iff.mpr c14
                      subst c14
                      have H1 : (if (bt a0 x7_1) = 40 then (tourbillonref03_Line.j3 kj10 a0 a1 x6_1 x7_1 (bt a0 x7_1) true 0 (⟨#[]⟩ : ByteArray) a1 (wrap64 (x7_1 + 1))) else (tourbillonref03_Line.j3 kj10 a0 a1 x6_1 x7_1 (bt a0 x7_1) ((bt a0 x7_1) == 41) 0 (⟨#[]⟩ : ByteArray) a1 (wrap64 (x7_1 + 1)))) = some (r1, r2) := by rw [if_neg (show ¬ (false = true) by decide)] at H; exact H
                      clear H
                      have H := H1
                      clear H1
                      have HC15 := Aside0.mk H
                      clear H
                      go_upto_region 8 with (first | ((with_reducible refine gate_dst (N := 9) rfl ?_); refine box_event ?hg (N := 9) ?hd (cs := #[.int .i64 0, .string (⟨#[]⟩ : ByteArray), .int .i64 0, .int .i64 0]) (t := 40) ?hr ?_; (case hd => rfl); (case hg => rfl); (case hr => first | (go_simp; done) | (go_simp; rfl)); intro gb130 hg w16 hbox hb; have n0_ := Aside0.mk (Kd.R_below (Kd.R_elderB (by (with_reducible repeat (first | apply Kd.R_alloc | apply Kd.R_drewN | apply Kd.R_drew)); exact HO_6.out) gb130 (Nat.le_of_eq hg.symm)) hb); have n1_ := Aside0.mk (below_step (by repeat (first | (with_reducible first | exact HB.out | apply below_alloc | apply pw_below_drewN | apply below_drew1) | exact HB.out)) hb); have n2_ := Aside0.mk (hbox); have n3_ := Aside0.mk ((by rw [hg]; exact (below_size (by repeat (first | (with_reducible first | exact HB.out | apply below_alloc | apply pw_below_drewN | apply below_drew1) | exact HB.out))) : w.heap.size ≤ gb130)); have n4_ := Aside0.mk ((by rw [hg]; exact (below_size (by repeat (first | (with_reducible first | exact HB.out | apply below_alloc | apply pw_below_drewN | apply below_drew1) | exact HB.out))) : w.heap.size ≤ gb130)); clear HO_6; clear HB; have HO_6 := n0_; have HB := n1_; have BK130 := n2_; have GW130 := n3_; have GE130 := n4_; clear n0_ n1_ n2_ n3_ n4_; clear hb hbox hg; have hcz17_0 : w16.cell? ⟨gb130, 0, none⟩ = some (.int .i64 0) := (blk_cell BK130.out 0).trans rfl; have hcz17_1 : w16.cell? ⟨gb130, 1, none⟩ = some (.string (⟨#[]⟩ : ByteArray)) := (blk_cell BK130.out 1).trans rfl; have hcz17_2 : w16.cell? ⟨gb130, 2, none⟩ = some (.int .i64 0) := (blk_cell BK130.out 2).trans rfl; have hcz17_3 : w16.cell? ⟨gb130, 3, none⟩ = some (.int .i64 0) := (blk_cell BK130.out 3).trans rfl; have hfz17_0 := blk_frozen BK130.out 0; have hfz17_1 := blk_frozen BK130.out 1; have hfz17_2 := blk_frozen BK130.out 2; have hfz17_3 := blk_frozen BK130.out 3))
                      (try simp only [Act.put, List.setIfInBounds_toArray, List.set_cons_zero, List.set_cons_succ])
                      go_cut [46] (fun v46 wc => ∃ (kq : Nat) (x46_14 : Bool), v46 = .bool x46_14 ∧ Aside0 (tourbillonref03_Line.j3 kq a0 a1 x6_1 x7_1 (bt a0 x7_1) x46_14 0 (⟨#[]⟩ : ByteArray) a1 (wrap64 (x7_1 + 1)) = some (r1, r2)) ∧ Aside0 (kq ≤ kj10) ∧ Aside0 (Kd.R k40 40 wc w.heap.size (fun k_ => k_ ≠ gb130) u6 x6_1) ∧ Aside0 (wc.heap[gb130]? = some (.cells #[.int .i64 0, .string (⟨#[]⟩ : ByteArray), .int .i64 a1, .int .i64 (wrap64 (x7_1 + 1))] 40 (0, 0))) ∧ Aside0 (Below w.heap.size w wc))
                      case first =>
                        have H := HC15.out
                        clear HC15
                        by_cases c18 : (bt a0 x7_1) = 40
                        · rw [if_pos c18] at H
                          have c18b0 : ((bt a0 x7_1) == 40) = true := beq_iff_eq.mpr c18
                          have c18b1 : ((bt a0 x7_1) != 40) = false := bne_eq_false_iff_eq.mpr c18
                          clear c18
                          (first | rw [c18b0] | (simp only [i64_w, i32_w]; rw [c18b0]) | skip)
                          have H' := Aside0.mk H
                          clear H
                          go_wp2
                          go_meet
                          case rel => exact ⟨_, (true), (by first | rfl | (simp; done) | (simp [*]; done)), H', ⟨by have := HK1.out; have := HJ2.out; have := HJ10.out; first | omega | exact Nat.le_refl _⟩, ⟨by (with_reducible repeat (first | apply Kd.R_alloc | apply Kd.R_drewN | apply Kd.R_drew)); exact Kd.R_mono (Kd.R_far (p := ⟨gb130, 3, none⟩) (Kd.R_far (p := ⟨gb130, 2, none⟩) (Kd.R_far (p := ⟨gb130, 1, none⟩) (Kd.R_far (p := ⟨gb130, 0, none⟩) (Kd.R_mono HO_6.out (fun k_ hk => (⟨hk, hk.2⟩ : _ ∧ k_ ≠ gb130))) (fun _ hk => hk.2) (.int .i64 0)) (fun _ hk => hk.2) (.string (⟨#[]⟩ : ByteArray))) (fun _ hk => hk.2) (.int .i64 a1)) (fun _ hk => hk.2) (.int .i64 (wrap64 (x7_1 + 1)))) (fun _ hk => hk.1.2)⟩, ⟨by (with_reducible repeat (first | refine blk_drewN ?_ _ | refine blk_drew ?_ | refine blk_alloc ?_ _)); refine blk_put (cs := #[.int .i64 0, .string (⟨#[]⟩ : ByteArray), .int .i64 a1, .int .i64 0]) ?_ 3 _ rfl; (with_reducible repeat (first | refine blk_drewN ?_ _ | refine blk_drew ?_ | refine blk_alloc ?_ _)); refine blk_put (cs := #[.int .i64 0, .string (⟨#[]⟩ : ByteArray), .int .i64 0, .int .i64 0]) ?_ 2 _ rfl; (with_reducible repeat (first | refine blk_drewN ?_ _ | refine blk_drew ?_ | refine blk_alloc ?_ _)); refine blk_put (cs := #[.int .i64 0, .string (⟨#[]⟩ : ByteArray), .int .i64 0, .int .i64 0]) ?_ 1 _ rfl; (with_reducible repeat (first | refine blk_drewN ?_ _ | refine blk_drew ?_ | refine blk_alloc ?_ _)); refine blk_put (cs := #[.int .i64 0, .string (⟨#[]⟩ : ByteArray), .int .i64 0, .int .i64 0]) ?_ 0 _ rfl; (with_reducible repeat (first | refine blk_drewN ?_ _ | refine blk_drew ?_ | refine blk_alloc ?_ _)); exact BK130.out⟩, ⟨by repeat (first | (with_reducible first | exact HB.out | apply below_alloc | apply pw_below_drewN | apply below_drew1 | refine below_set ?_ GE130.out) | exact HB.out)⟩⟩
                        · rw [if_neg c18] at H
                          have c18b0 : ((bt a0 x7_1) == 40) = false := beq_eq_false_iff_ne.mpr c18
                          have c18b1 : ((bt a0 x7_1) != 40) = true := bne_iff_ne.mpr c18
                          (first | rw [c18b0] | (simp only [i64_w, i32_w]; rw [c18b0]) | skip)
                          have H' := Aside0.mk H
                          clear H
                          go_wp2
                          go_meet
                          case rel => exact ⟨_, (((bt a0 x7_1) == 41)), (by first | rfl | (simp; done) | (simp [*]; done)), H', ⟨by have := HK1.out; have := HJ2.out; have := HJ10.out; first | omega | exact Nat.le_refl _⟩, ⟨by (with_reducible repeat (first | apply Kd.R_alloc | apply Kd.R_drewN | apply Kd.R_drew)); exact Kd.R_mono (Kd.R_far (p := ⟨gb130, 3, none⟩) (Kd.R_far (p := ⟨gb130, 2, none⟩) (Kd.R_far (p := ⟨gb130, 1, none⟩) (Kd.R_far (p := ⟨gb130, 0, none⟩) (Kd.R_mono HO_6.out (fun k_ hk => (⟨hk, hk.2⟩ : _ ∧ k_ ≠ gb130))) (fun _ hk => hk.2) (.int .i64 0)) (fun _ hk => hk.2) (.string (⟨#[]⟩ : ByteArray))) (fun _ hk => hk.2) (.int .i64 a1)) (fun _ hk => hk.2) (.int .i64 (wrap64 (x7_1 + 1)))) (fun _ hk => hk.1.2)⟩, ⟨by (with_reducible repeat (first | refine blk_drewN ?_ _ | refine blk_drew ?_ | refine blk_alloc ?_ _)); refine blk_put (cs := #[.int .i64 0, .string (⟨#[]⟩ : ByteArray), .int .i64 a1, .int .i64 0]) ?_ 3 _ rfl; (with_reducible repeat (first | refine blk_drewN ?_ _ | refine blk_drew ?_ | refine blk_alloc ?_ _)); refine blk_put (cs := #[.int .i64 0, .string (⟨#[]⟩ : ByteArray), .int .i64 0, .int .i64 0]) ?_ 2 _ rfl; (with_reducible repeat (first | refine blk_drewN ?_ _ | refine blk_drew ?_ | refine blk_alloc ?_ _)); refine blk_put (cs := #[.int .i64 0, .string (⟨#[]⟩ : ByteArray), .int .i64 0, .int .i64 0]) ?_ 1 _ rfl; (with_reducible repeat (first | refine blk_drewN ?_ _ | refine blk_drew ?_ | refine blk_alloc ?_ _)); refine blk_put (cs := #[.int .i64 0, .string (⟨#[]⟩ : ByteArray), .int .i64 0, .int .i64 0]) ?_ 0 _ rfl; (with_reducible repeat (first | refine blk_drewN ?_ _ | refine blk_drew ?_ | refine blk_alloc ?_ _)); exact BK130.out⟩, ⟨by repeat (first | (with_reducible first | exact HB.out | apply below_alloc | apply pw_below_drewN | apply below_drew1 | refine below_set ?_ GE130.out) | exact HB.out)⟩⟩
                      case rest =>
                        clear HC15
                        try clear c1
                        try clear p1
                        try clear q1
                        try clear hx1
                        try clear p2
                        try clear c3
                        try clear c4
                        try clear c4b0
                        try clear c5
                        try clear c5b0
                        try clear p6
                        try clear q6
                        try clear hx6
                        try clear c7
                        try clear c8
                        try clear c8b0
                        try clear c9
                        try clear c9b0
                        try clear p10
                        try clear q10
                        try clear hx10
                        try clear c12
                        try clear c12b0
                        try clear c12b1
                        try clear c13
                        try clear c13b0
                        try clear c13b1
                        try clear c14
                        try clear c18
                        try clear c18b0
                        try clear c18b1
                        try clear hcz17_0
                        try clear hcz17_1
                        try clear hcz17_2
                        try clear hcz17_3
                        try clear hfz17_0
                        try clear hfz17_1
                        try clear hfz17_2
                        try clear hfz17_3
                        try clear p1
                        try clear p10
                        try clear p2
                        try clear p6
                        try clear q1
                        try clear q10
                        try clear q6
                        obtain ⟨kq, x46_14, rfl, HA, HJ14, HO_6, BK130, HB⟩ := hcut
                        cases kq with
                        | zero => exact absurd HA.out (by simp [tourbillonref03_Line.j3])
                        | succ kj14 =>
                          have H := HA.out
                          clear HA
                          simp only [tourbillonref03_Line.j3] at H
                          by_cases c19 : x46_14 = true
                          · subst c19
                            have H1 : (if (bt a0 x7_1) = 41 then (if 0 ≤ x7_1 then (if x7_1 ≤ (wrap64 (x7_1 + 1)) then (if (wrap64 (x7_1 + 1)) ≤ (a0.size : Int) then (if x6_1.length < 3518437208883 then (tourbillonref03_Line.l0 kj14 a0 a1 (x6_1 ++ [(⟨2, a0.extract (x7_1 : Int).toNat ((wrap64 (x7_1 + 1)) : Int).toNat, (⟨a1, (wrap64 (x7_1 + 1))⟩ : S25)⟩ : S40)]) (wrap64 (x7_1 + ((a0.extract (x7_1 : Int).toNat ((wrap64 (x7_1 + 1)) : Int).toNat).size : Int)))) else (none)) else (none)) else (none)) else (none)) else (if 0 ≤ x7_1 then (if x7_1 ≤ (wrap64 (x7_1 + 1)) then (if (wrap64 (x7_1 + 1)) ≤ (a0.size : Int) then (if x6_1.length < 3518437208883 then (tourbillonref03_Line.l0 kj14 a0 a1 (x6_1 ++ [(⟨1, a0.extract (x7_1 : Int).toNat ((wrap64 (x7_1 + 1)) : Int).toNat, (⟨a1, (wrap64 (x7_1 + 1))⟩ : S25)⟩ : S40)]) (wrap64 (x7_1 + ((a0.extract (x7_1 : Int).toNat ((wrap64 (x7_1 + 1)) : Int).toNat).size : Int)))) else (none)) else (none)) else (none)) else (none))) = some (r1, r2) := by rw [if_pos rfl] at H; exact H
                            clear H
                            have H := H1
                            clear H1
                            by_cases c20 : (bt a0 x7_1) = 41
                            · rw [if_pos c20] at H
                              have c20b0 : ((bt a0 x7_1) == 41) = true := beq_iff_eq.mpr c20
                              have c20b1 : ((bt a0 x7_1) != 41) = false := bne_eq_false_iff_eq.mpr c20
                              clear c20
                              by_cases c21 : 0 ≤ x7_1
                              · rw [if_pos c21] at H
                                have c21b0 := eq_true c21
                                have c21b1 : decide (0 ≤ x7_1) = true := decide_eq_true c21
                                clear c21
                                by_cases c22 : x7_1 ≤ (wrap64 (x7_1 + 1))
                                · rw [if_pos c22] at H
                                  have c22b0 := eq_true c22
                                  have c22b1 : decide (x7_1 ≤ (wrap64 (x7_1 + 1))) = true := decide_eq_true c22
                                  by_cases c23 : (wrap64 (x7_1 + 1)) ≤ (a0.size : Int)
                                  · rw [if_pos c23] at H
                                    have c23b0 := eq_true c23
                                    have c23b1 : decide ((wrap64 (x7_1 + 1)) ≤ (a0.size : Int)) = true := decide_eq_true c23
                                    by_cases c24 : x6_1.length < 3518437208883
                                    · rw [if_pos c24] at H
                                      have LMc24 := Aside0.mk c24
                                      clear c24
                                      obtain ⟨y131, hy131⟩ : ∃ y_ : List (S40), y_ = (x6_1 ++ [(⟨2, a0.extract (x7_1 : Int).toNat ((wrap64 (x7_1 + 1)) : Int).toNat, (⟨a1, (wrap64 (x7_1 + 1))⟩ : S25)⟩ : S40)]) := ⟨_, rfl⟩
                                      replace H : (tourbillonref03_Line.l0 kj14 a0 a1 y131 (wrap64 (x7_1 + ((a0.extract (x7_1 : Int).toNat ((wrap64 (x7_1 + 1)) : Int).toNat).size : Int)))) = some (r1, r2) := by first | (rw [hy131]; with_reducible exact H) | (have H2_ := (Option.bind_some _ _).symm.trans H; rw [hy131]; with_reducible exact H2_) | (have H2_ := (Option.bind_some _ _).symm.trans H; with_reducible exact H2_) | with_reducible exact H | (rw [hy131]; exact H) | exact H
                                      have Ny131 := Aside0.mk hy131
                                      clear hy131
                                      have H' := Aside0.mk H
                                      clear H
                                      have hcz25_0 : wc.cell? ⟨gb130, 0, none⟩ = some (.int .i64 0) := (blk_cell BK130.out 0).trans rfl
                                      have hcz25_1 : wc.cell? ⟨gb130, 1, none⟩ = some (.string (⟨#[]⟩ : ByteArray)) := (blk_cell BK130.out 1).trans rfl
                                      have hcz25_2 : wc.cell? ⟨gb130, 2, none⟩ = some (.int .i64 a1) := (blk_cell BK130.out 2).trans rfl
                                      have hcz25_3 : wc.cell? ⟨gb130, 3, none⟩ = some (.int .i64 (wrap64 (x7_1 + 1))) := (blk_cell BK130.out 3).trans rfl
                                      have hfz25_0 := blk_frozen BK130.out 0
                                      have hfz25_1 := blk_frozen BK130.out 1
                                      have hfz25_2 := blk_frozen BK130.out 2
                                      have hfz25_3 := blk_frozen BK130.out 3
                                      go_wp2_with (first | ((with_reducible refine gate_builtin (b := .append) (xs := #[.tmp 121, .tmp 123]) rfl ?_); at_builtin; refine Kd.R_append k40 (w0 := w) w.heap.size rfl (.tmp 121) (.tmp 123) 35 40 (.agg #[(.int .i64 0), (.string ⟨#[]⟩), (.int .i64 0), (.int .i64 0)]) 40 rfl Tryd.underlying35 info40 rfl (by decide) (by omega) u6 x6_1 (⟨2, a0.extract (x7_1 : Int).toNat ((wrap64 (x7_1 + 1)) : Int).toNat, (⟨a1, (wrap64 (x7_1 + 1))⟩ : S25)⟩ : S40) [.int .i64 2, .string (a0.extract (x7_1 : Int).toNat ((wrap64 (x7_1 + 1)) : Int).toNat), .int .i64 a1, .int .i64 (wrap64 (x7_1 + 1))] (fun k_ => k_ ≠ gb130) (fun _ => False) rfl (by first | (go_simp; done) | (go_simp; rfl)) ?aP (fun _ hk => hk.elim) ?aF ?aO ?aB ?aS ?aL ?_; (case aP => exact k40_mkM _ _ _ (⟨2, a0.extract (x7_1 : Int).toNat ((wrap64 (x7_1 + 1)) : Int).toNat, (⟨a1, (wrap64 (x7_1 + 1))⟩ : S25)⟩ : S40)); (case aB => exact (by repeat (first | (with_reducible first | exact HB.out | apply below_alloc | apply pw_below_drewN | apply below_drew1 | refine below_set ?_ GE130.out) | exact HB.out))); (case aF => exact (fun k_ hk => Kd.freshB (g := gb130) (o := .cells #[.int .i64 2, .string (a0.extract (x7_1 : Int).toNat ((wrap64 (x7_1 + 1)) : Int).toNat), .int .i64 a1, .int .i64 (wrap64 (x7_1 + 1))] 40 (0, 0)) (by (with_reducible repeat (first | refine blk_drewN ?_ _ | refine blk_drew ?_ | refine blk_alloc ?_ _)); refine blk_put (cs := #[.int .i64 2, .string (⟨#[]⟩ : ByteArray), .int .i64 a1, .int .i64 (wrap64 (x7_1 + 1))]) ?_ 1 _ rfl; (with_reducible repeat (first | refine blk_drewN ?_ _ | refine blk_drew ?_ | refine blk_alloc ?_ _)); refine blk_put (cs := #[.int .i64 1, .string (⟨#[]⟩ : ByteArray), .int .i64 a1, .int .i64 (wrap64 (x7_1 + 1))]) ?_ 0 _ rfl; (with_reducible repeat (first | refine blk_drewN ?_ _ | refine blk_drew ?_ | refine blk_alloc ?_ _)); refine blk_put (cs := #[.int .i64 0, .string (⟨#[]⟩ : ByteArray), .int .i64 a1, .int .i64 (wrap64 (x7_1 + 1))]) ?_ 0 _ rfl; (with_reducible repeat (first | refine blk_drewN ?_ _ | refine blk_drew ?_ | refine blk_alloc ?_ _)); exact BK130.out) k_ hk)); (case aO => exact (by (with_reducible repeat (first | apply Kd.R_alloc | apply Kd.R_drewN | apply Kd.R_drew)); exact Kd.R_mono (Kd.R_far (p := ⟨gb130, 1, none⟩) (Kd.R_far (p := ⟨gb130, 0, none⟩) (Kd.R_far (p := ⟨gb130, 0, none⟩) (Kd.R_mono HO_6.out (fun k_ hk => (⟨hk, hk⟩ : _ ∧ k_ ≠ gb130))) (fun _ hk => hk.2) (.int .i64 1)) (fun _ hk => hk.2) (.int .i64 2)) (fun _ hk => hk.2) (.string (a0.extract (x7_1 : Int).toNat ((wrap64 (x7_1 + 1)) : Int).toNat))) (fun _ hk => hk.1))); (case aS => exact (below_size (by repeat (first | (with_reducible first | exact HB.out | apply below_alloc | apply pw_below_drewN | apply below_drew1 | refine below_set ?_ GE130.out) | exact HB.out)))); (case aL => have := LMc24.out; omega); intro v132 w26 ho hb hg hat; rw [← Ny131.out] at ho; have n0_ := Aside0.mk (blk_grown (g := gb130) (o := .cells #[.int .i64 2, .string (a0.extract (x7_1 : Int).toNat ((wrap64 (x7_1 + 1)) : Int).toNat), .int .i64 a1, .int .i64 (wrap64 (x7_1 + 1))] 40 (0, 0)) (by (with_reducible repeat (first | refine blk_drewN ?_ _ | refine blk_drew ?_ | refine blk_alloc ?_ _)); refine blk_put (cs := #[.int .i64 2, .string (⟨#[]⟩ : ByteArray), .int .i64 a1, .int .i64 (wrap64 (x7_1 + 1))]) ?_ 1 _ rfl; (with_reducible repeat (first | refine blk_drewN ?_ _ | refine blk_drew ?_ | refine blk_alloc ?_ _)); refine blk_put (cs := #[.int .i64 1, .string (⟨#[]⟩ : ByteArray), .int .i64 a1, .int .i64 (wrap64 (x7_1 + 1))]) ?_ 0 _ rfl; (with_reducible repeat (first | refine blk_drewN ?_ _ | refine blk_drew ?_ | refine blk_alloc ?_ _)); refine blk_put (cs := #[.int .i64 0, .string (⟨#[]⟩ : ByteArray), .int .i64 a1, .int .i64 (wrap64 (x7_1 + 1))]) ?_ 0 _ rfl; (with_reducible repeat (first | refine blk_drewN ?_ _ | refine blk_drew ?_ | refine blk_alloc ?_ _)); exact BK130.out) hg (Kd.R_away HO_6.out (fun _ hk => hk))); have n1_ := Aside0.mk (hb); have n2_ := Aside0.mk (ho); clear BK130; clear HB; clear HO_6; have BK130 := n0_; have HB := n1_; have HO133 := n2_; clear n0_ n1_ n2_; clear ho hb hg hat; have hcz27_0 : w26.cell? ⟨gb130, 0, none⟩ = some (.int .i64 2) := (blk_cell BK130.out 0).trans rfl; have hcz27_1 : w26.cell? ⟨gb130, 1, none⟩ = some (.string (a0.extract (x7_1 : Int).toNat ((wrap64 (x7_1 + 1)) : Int).toNat)) := (blk_cell BK130.out 1).trans rfl; have hcz27_2 : w26.cell? ⟨gb130, 2, none⟩ = some (.int .i64 a1) := (blk_cell BK130.out 2).trans rfl; have hcz27_3 : w26.cell? ⟨gb130, 3, none⟩ = some (.int .i64 (wrap64 (x7_1 + 1))) := (blk_cell BK130.out 3).trans rfl; have hfz27_0 := blk_frozen BK130.out 0; have hfz27_1 := blk_frozen BK130.out 1; have hfz27_2 := blk_frozen BK130.out 2; have hfz27_3 := blk_frozen BK130.out 3))
                                      go_roundg kj14
                                      case measure => have := HK1.out; have := HJ2.out; have := HJ10.out; have := HJ14.out; omega
                                      case rel => exact ⟨(y131), (wrap64 (x7_1 + ((a0.extract (x7_1 : Int).toNat ((wrap64 (x7_1 + 1)) : Int).toNat).size : Int))), (by first | rfl | (simp; done) | (simp [*]; done)), H', ⟨by have := HK1.out; have := HJ2.out; have := HJ10.out; have := HJ14.out; omega⟩, ⟨by (with_reducible repeat (first | apply Kd.R_alloc | apply Kd.R_drewN | apply Kd.R_drew)); exact Kd.R_mono HO133.out (fun _ hk => trivial)⟩, ⟨by repeat (first | (with_reducible first | exact HB.out | apply below_alloc | apply pw_below_drewN | apply below_drew1 | refine below_set ?_ GE130.out) | exact HB.out)⟩⟩
                                    · rw [if_neg c24] at H
                                      exact absurd H (by simp)
                                  · rw [if_neg c23] at H
                                    exact absurd H (by simp)
                                · rw [if_neg c22] at H
                                  exact absurd H (by simp)
                              · rw [if_neg c21] at H
                                exact absurd H (by simp)
                            · rw [if_neg c20] at H
                              have c20b0 : ((bt a0 x7_1) == 41) = false := beq_eq_false_iff_ne.mpr c20
                              have c20b1 : ((bt a0 x7_1) != 41) = true := bne_iff_ne.mpr c20
                              by_cases c28 : 0 ≤ x7_1
                              · rw [if_pos c28] at H
                                have c28b0 := eq_true c28
                                have c28b1 : decide (0 ≤ x7_1) = true := decide_eq_true c28
                                clear c28
                                by_cases c29 : x7_1 ≤ (wrap64 (x7_1 + 1))
                                · rw [if_pos c29] at H
                                  have c29b0 := eq_true c29
                                  have c29b1 : decide (x7_1 ≤ (wrap64 (x7_1 + 1))) = true := decide_eq_true c29
                                  by_cases c30 : (wrap64 (x7_1 + 1)) ≤ (a0.size : Int)
                                  · rw [if_pos c30] at H
                                    have c30b0 := eq_true c30
                                    have c30b1 : decide ((wrap64 (x7_1 + 1)) ≤ (a0.size : Int)) = true := decide_eq_true c30
                                    by_cases c31 : x6_1.length < 3518437208883
                                    · rw [if_pos c31] at H
                                      have LMc31 := Aside0.mk c31
                                      clear c31
                                      obtain ⟨y134, hy134⟩ : ∃ y_ : List (S40), y_ = (x6_1 ++ [(⟨1, a0.extract (x7_1 : Int).toNat ((wrap64 (x7_1 + 1)) : Int).toNat, (⟨a1, (wrap64 (x7_1 + 1))⟩ : S25)⟩ : S40)]) := ⟨_, rfl⟩
                                      replace H : (tourbillonref03_Line.l0 kj14 a0 a1 y134 (wrap64 (x7_1 + ((a0.extract (x7_1 : Int).toNat ((wrap64 (x7_1 + 1)) : Int).toNat).size : Int)))) = some (r1, r2) := by first | (rw [hy134]; with_reducible exact H) | (have H2_ := (Option.bind_some _ _).symm.trans H; rw [hy134]; with_reducible exact H2_) | (have H2_ := (Option.bind_some _ _).symm.trans H; with_reducible exact H2_) | with_reducible exact H | (rw [hy134]; exact H) | exact H
                                      have Ny134 := Aside0.mk hy134
                                      clear hy134
                                      have H' := Aside0.mk H
                                      clear H
                                      have hcz32_0 : wc.cell? ⟨gb130, 0, none⟩ = some (.int .i64 0) := (blk_cell BK130.out 0).trans rfl
                                      have hcz32_1 : wc.cell? ⟨gb130, 1, none⟩ = some (.string (⟨#[]⟩ : ByteArray)) := (blk_cell BK130.out 1).trans rfl
                                      have hcz32_2 : wc.cell? ⟨gb130, 2, none⟩ = some (.int .i64 a1) := (blk_cell BK130.out 2).trans rfl
                                      have hcz32_3 : wc.cell? ⟨gb130, 3, none⟩ = some (.int .i64 (wrap64 (x7_1 + 1))) := (blk_cell BK130.out 3).trans rfl
                                      have hfz32_0 := blk_frozen BK130.out 0
                                      have hfz32_1 := blk_frozen BK130.out 1
                                      have hfz32_2 := blk_frozen BK130.out 2
                                      have hfz32_3 := blk_frozen BK130.out 3
                                      go_wp2_with (first | ((with_reducible refine gate_builtin (b := .append) (xs := #[.tmp 121, .tmp 123]) rfl ?_); at_builtin; refine Kd.R_append k40 (w0 := w) w.heap.size rfl (.tmp 121) (.tmp 123) 35 40 (.agg #[(.int .i64 0), (.string ⟨#[]⟩), (.int .i64 0), (.int .i64 0)]) 40 rfl Tryd.underlying35 info40 rfl (by decide) (by omega) u6 x6_1 (⟨1, a0.extract (x7_1 : Int).toNat ((wrap64 (x7_1 + 1)) : Int).toNat, (⟨a1, (wrap64 (x7_1 + 1))⟩ : S25)⟩ : S40) [.int .i64 1, .string (a0.extract (x7_1 : Int).toNat ((wrap64 (x7_1 + 1)) : Int).toNat), .int .i64 a1, .int .i64 (wrap64 (x7_1 + 1))] (fun k_ => k_ ≠ gb130) (fun _ => False) rfl (by first | (go_simp; done) | (go_simp; rfl)) ?aP (fun _ hk => hk.elim) ?aF ?aO ?aB ?aS ?aL ?_; (case aP => exact k40_mkM _ _ _ (⟨1, a0.extract (x7_1 : Int).toNat ((wrap64 (x7_1 + 1)) : Int).toNat, (⟨a1, (wrap64 (x7_1 + 1))⟩ : S25)⟩ : S40)); (case aB => exact (by repeat (first | (with_reducible first | exact HB.out | apply below_alloc | apply pw_below_drewN | apply below_drew1 | refine below_set ?_ GE130.out) | exact HB.out))); (case aF => exact (fun k_ hk => Kd.freshB (g := gb130) (o := .cells #[.int .i64 1, .string (a0.extract (x7_1 : Int).toNat ((wrap64 (x7_1 + 1)) : Int).toNat), .int .i64 a1, .int .i64 (wrap64 (x7_1 + 1))] 40 (0, 0)) (by (with_reducible repeat (first | refine blk_drewN ?_ _ | refine blk_drew ?_ | refine blk_alloc ?_ _)); refine blk_put (cs := #[.int .i64 1, .string (⟨#[]⟩ : ByteArray), .int .i64 a1, .int .i64 (wrap64 (x7_1 + 1))]) ?_ 1 _ rfl; (with_reducible repeat (first | refine blk_drewN ?_ _ | refine blk_drew ?_ | refine blk_alloc ?_ _)); refine blk_put (cs := #[.int .i64 0, .string (⟨#[]⟩ : ByteArray), .int .i64 a1, .int .i64 (wrap64 (x7_1 + 1))]) ?_ 0 _ rfl; (with_reducible repeat (first | refine blk_drewN ?_ _ | refine blk_drew ?_ | refine blk_alloc ?_ _)); exact BK130.out) k_ hk)); (case aO => exact (by (with_reducible repeat (first | apply Kd.R_alloc | apply Kd.R_drewN | apply Kd.R_drew)); exact Kd.R_mono (Kd.R_far (p := ⟨gb130, 1, none⟩) (Kd.R_far (p := ⟨gb130, 0, none⟩) (Kd.R_mono HO_6.out (fun k_ hk => (⟨hk, hk⟩ : _ ∧ k_ ≠ gb130))) (fun _ hk => hk.2) (.int .i64 1)) (fun _ hk => hk.2) (.string (a0.extract (x7_1 : Int).toNat ((wrap64 (x7_1 + 1)) : Int).toNat))) (fun _ hk => hk.1))); (case aS => exact (below_size (by repeat (first | (with_reducible first | exact HB.out | apply below_alloc | apply pw_below_drewN | apply below_drew1 | refine below_set ?_ GE130.out) | exact HB.out)))); (case aL => have := LMc31.out; omega); intro v135 w33 ho hb hg hat; rw [← Ny134.out] at ho; have n0_ := Aside0.mk (blk_grown (g := gb130) (o := .cells #[.int .i64 1, .string (a0.extract (x7_1 : Int).toNat ((wrap64 (x7_1 + 1)) : Int).toNat), .int .i64 a1, .int .i64 (wrap64 (x7_1 + 1))] 40 (0, 0)) (by (with_reducible repeat (first | refine blk_drewN ?_ _ | refine blk_drew ?_ | refine blk_alloc ?_ _)); refine blk_put (cs := #[.int .i64 1, .string (⟨#[]⟩ : ByteArray), .int .i64 a1, .int .i64 (wrap64 (x7_1 + 1))]) ?_ 1 _ rfl; (with_reducible repeat (first | refine blk_drewN ?_ _ | refine blk_drew ?_ | refine blk_alloc ?_ _)); refine blk_put (cs := #[.int .i64 0, .string (⟨#[]⟩ : ByteArray), .int .i64 a1, .int .i64 (wrap64 (x7_1 + 1))]) ?_ 0 _ rfl; (with_reducible repeat (first | refine blk_drewN ?_ _ | refine blk_drew ?_ | refine blk_alloc ?_ _)); exact BK130.out) hg (Kd.R_away HO_6.out (fun _ hk => hk))); have n1_ := Aside0.mk (hb); have n2_ := Aside0.mk (ho); clear BK130; clear HB; clear HO_6; have BK130 := n0_; have HB := n1_; have HO136 := n2_; clear n0_ n1_ n2_; clear ho hb hg hat; have hcz34_0 : w33.cell? ⟨gb130, 0, none⟩ = some (.int .i64 1) := (blk_cell BK130.out 0).trans rfl; have hcz34_1 : w33.cell? ⟨gb130, 1, none⟩ = some (.string (a0.extract (x7_1 : Int).toNat ((wrap64 (x7_1 + 1)) : Int).toNat)) := (blk_cell BK130.out 1).trans rfl; have hcz34_2 : w33.cell? ⟨gb130, 2, none⟩ = some (.int .i64 a1) := (blk_cell BK130.out 2).trans rfl; have hcz34_3 : w33.cell? ⟨gb130, 3, none⟩ = some (.int .i64 (wrap64 (x7_1 + 1))) := (blk_cell BK130.out 3).trans rfl; have hfz34_0 := blk_frozen BK130.out 0; have hfz34_1 := blk_frozen BK130.out 1; have hfz34_2 := blk_frozen BK130.out 2; have hfz34_3 := blk_frozen BK130.out 3))
                                      go_roundg kj14
                                      case measure => have := HK1.out; have := HJ2.out; have := HJ10.out; have := HJ14.out; omega
                                      case rel => exact ⟨(y134), (wrap64 (x7_1 + ((a0.extract (x7_1 : Int).toNat ((wrap64 (x7_1 + 1)) : Int).toNat).size : Int))), (by first | rfl | (simp; done) | (simp [*]; done)), H', ⟨by have := HK1.out; have := HJ2.out; have := HJ10.out; have := HJ14.out; omega⟩, ⟨by (with_reducible repeat (first | apply Kd.R_alloc | apply Kd.R_drewN | apply Kd.R_drew)); exact Kd.R_mono HO136.out (fun _ hk => trivial)⟩, ⟨by repeat (first | (with_reducible first | exact HB.out | apply below_alloc | apply pw_below_drewN | apply below_drew1 | refine below_set ?_ GE130.out) | exact HB.out)⟩⟩
                                    · rw [if_neg c31] at H
                                      exact absurd H (by simp)
                                  · rw [if_neg c30] at H
                                    exact absurd H (by simp)
                                · rw [if_neg c29] at H
                                  exact absurd H (by simp)
                              · rw [if_neg c28] at H
                                exact absurd H (by simp)
                          · replace c19 := Bool.eq_false_iff.mpr c19
                            subst c19
                            have H1 : (tourbillonref03_Line.l1 kj14 a0 a1 x6_1 x7_1 0 0 (⟨#[]⟩ : ByteArray) a1 (wrap64 (x7_1 + 1))) = some (r1, r2) := by rw [if_neg (show ¬ (false = true) by decide)] at H; exact H
                            clear H
                            have H := H1
                            clear H1
                            have H' := Aside0.mk H
                            clear H
                            go_wp2
                            go_loopg [10] kj14 (fun kq v10 w' => ∃ (x10_5 : Int), v10 = .int .i64 x10_5 ∧ Aside0 (tourbillonref03_Line.l1 kq a0 a1 x6_1 x7_1 x10_5 0 (⟨#[]⟩ : ByteArray) a1 (wrap64 (x7_1 + 1)) = some (r1, r2)) ∧ Aside0 (kq ≤ kj14) ∧ Aside0 (Kd.R k40 40 w' w.heap.size (fun k_ => k_ ≠ gb130) u6 x6_1) ∧ Aside0 (w'.heap[gb130]? = some (.cells #[.int .i64 0, .string (⟨#[]⟩ : ByteArray), .int .i64 a1, .int .i64 (wrap64 (x7_1 + 1))] 40 (0, 0))) ∧ Aside0 (Below w.heap.size w w'))
                            case atStart => exact ⟨(0), (by first | rfl | (simp; done) | (simp [*]; done)), H', ⟨Nat.le_refl _⟩, ⟨by (with_reducible repeat (first | apply Kd.R_alloc | apply Kd.R_drewN | apply Kd.R_drew)); exact HO_6.out⟩, ⟨by (with_reducible repeat (first | refine blk_drewN ?_ _ | refine blk_drew ?_ | refine blk_alloc ?_ _)); exact BK130.out⟩, ⟨by repeat (first | (with_reducible first | exact HB.out | apply below_alloc | apply pw_below_drewN | apply below_drew1 | refine below_set ?_ GE130.out) | exact HB.out)⟩⟩
                            case round =>
                              clear H'
                              try clear c1
                              try clear p1
                              try clear q1
                              try clear hx1
                              try clear c2
                              try clear p2
                              try clear c3
                              try clear c4
                              try clear c4b0
                              try clear c5
                              try clear c5b0
                              try clear p6
                              try clear q6
                              try clear hx6
                              try clear c7
                              try clear c8
                              try clear c8b0
                              try clear c9
                              try clear c9b0
                              try clear p10
                              try clear q10
                              try clear hx10
                              try clear c12
                              try clear c12b0
                              try clear c12b1
                              try clear c13
                              try clear c13b0
                              try clear c13b1
                              try clear c14
                              try clear c18
                              try clear c18b0
                              try clear c18b1
                              try clear c19
                              try clear c20
                              try clear c20b0
                              try clear c20b1
                              try clear c21
                              try clear c21b0
                              try clear c21b1
                              try clear c22
                              try clear c22b0
                              try clear c22b1
                              try clear c23
                              try clear c23b0
                              try clear c23b1
                              try clear c24
                              try clear c28
                              try clear c28b0
                              try clear c28b1
                              try clear c29
                              try clear c29b0
                              try clear c29b1
                              try clear c30
                              try clear c30b0
                              try clear c30b1
                              try clear c31
                              try clear c32
                              try clear hcz17_0
                              try clear hcz17_1
                              try clear hcz17_2
                              try clear hcz17_3
                              try clear hcz25_0
                              try clear hcz25_1
                              try clear hcz25_2
                              try clear hcz25_3
                              try clear hcz27_0
                              try clear hcz27_1
                              try clear hcz27_2
                              try clear hcz27_3
                              try clear hcz32_0
                              try clear hcz32_1
                              try clear hcz32_2
                              try clear hcz32_3
                              try clear hcz34_0
                              try clear hcz34_1
                              try clear hcz34_2
                              try clear hcz34_3
                              try clear hfz17_0
                              try clear hfz17_1
                              try clear hfz17_2
                              try clear hfz17_3
                              try clear hfz25_0
                              try clear hfz25_1
                              try clear hfz25_2
                              try clear hfz25_3
                              try clear hfz27_0
                              try clear hfz27_1
                              try clear hfz27_2
                              try clear hfz27_3
                              try clear hfz32_0
                              try clear hfz32_1
                              try clear hfz32_2
                              try clear hfz32_3
                              try clear hfz34_0
                              try clear hfz34_1
                              try clear hfz34_2
                              try clear hfz34_3
                              try clear p1
                              try clear p10
                              try clear p2
                              try clear p6
                              try clear q1
                              try clear q10
                              try clear q6
                              obtain ⟨x10_5, rfl, HA, HK5, HO_6, BK130, HB⟩ := hrel
                              cases gk with
                              | zero => exact absurd HA.out (by simp [tourbillonref03_Line.l1])
                              | succ k5 =>
                                have H := HA.out
                                clear HA
                                simp only [tourbillonref03_Line.l1] at H
                                by_cases c35 : (wrap64 (x7_1 + x10_5)) < (a0.size : Int)
                                · rw [if_pos c35] at H
                                  have c35b0 : decide ((wrap64 (x7_1 + x10_5)) < (a0.size : Int)) = true := decide_eq_true c35
                                  clear c35
                                  obtain ⟨ji36, hji36⟩ : ∃ j_ : Int, (wrap64 (x7_1 + x10_5)) = j_ := ⟨_, rfl⟩
                                  replace H : (if 0 ≤ (ji36) then (if (bt a0 (ji36)) ≥ 33 then (if (bt a0 (ji36)) ≤ 126 then (if (bt a0 (ji36)) = 40 then (if x10_5 = 0 then (some (([] : List (S40)), wrap64 (x7_1 + 1))) else (if x10_5 > 32 then (some (([] : List (S40)), wrap64 (x7_1 + 1))) else (if 0 ≤ x7_1 then (if x7_1 ≤ (ji36) then (if (ji36) ≤ (a0.size : Int) then (if x6_1.length < 3518437208883 then (tourbillonref03_Line.l0 k5 a0 a1 (x6_1 ++ [(⟨3, a0.extract (x7_1 : Int).toNat ((ji36) : Int).toNat, (⟨a1, (wrap64 (x7_1 + 1))⟩ : S25)⟩ : S40)]) (wrap64 (x7_1 + ((a0.extract (x7_1 : Int).toNat ((ji36) : Int).toNat).size : Int)))) else (none)) else (none)) else (none)) else (none)))) else (if (bt a0 (ji36)) = 41 then (if x10_5 = 0 then (some (([] : List (S40)), wrap64 (x7_1 + 1))) else (if x10_5 > 32 then (some (([] : List (S40)), wrap64 (x7_1 + 1))) else (if 0 ≤ x7_1 then (if x7_1 ≤ (ji36) then (if (ji36) ≤ (a0.size : Int) then (if x6_1.length < 3518437208883 then (tourbillonref03_Line.l0 k5 a0 a1 (x6_1 ++ [(⟨3, a0.extract (x7_1 : Int).toNat ((ji36) : Int).toNat, (⟨a1, (wrap64 (x7_1 + 1))⟩ : S25)⟩ : S40)]) (wrap64 (x7_1 + ((a0.extract (x7_1 : Int).toNat ((ji36) : Int).toNat).size : Int)))) else (none)) else (none)) else (none)) else (none)))) else (if (bt a0 (ji36)) = 59 then (if x10_5 = 0 then (some (([] : List (S40)), wrap64 (x7_1 + 1))) else (if x10_5 > 32 then (some (([] : List (S40)), wrap64 (x7_1 + 1))) else (if 0 ≤ x7_1 then (if x7_1 ≤ (ji36) then (if (ji36) ≤ (a0.size : Int) then (if x6_1.length < 3518437208883 then (tourbillonref03_Line.l0 k5 a0 a1 (x6_1 ++ [(⟨3, a0.extract (x7_1 : Int).toNat ((ji36) : Int).toNat, (⟨a1, (wrap64 (x7_1 + 1))⟩ : S25)⟩ : S40)]) (wrap64 (x7_1 + ((a0.extract (x7_1 : Int).toNat ((ji36) : Int).toNat).size : Int)))) else (none)) else (none)) else (none)) else (none)))) else (tourbillonref03_Line.l1 k5 a0 a1 x6_1 x7_1 (wrap64 (x10_5 + 1)) 0 (⟨#[]⟩ : ByteArray) a1 (wrap64 (x7_1 + 1)))))) else (if x10_5 = 0 then (some (([] : List (S40)), wrap64 (x7_1 + 1))) else (if x10_5 > 32 then (some (([] : List (S40)), wrap64 (x7_1 + 1))) else (if 0 ≤ x7_1 then (if x7_1 ≤ (ji36) then (if (ji36) ≤ (a0.size : Int) then (if x6_1.length < 3518437208883 then (tourbillonref03_Line.l0 k5 a0 a1 (x6_1 ++ [(⟨3, a0.extract (x7_1 : Int).toNat ((ji36) : Int).toNat, (⟨a1, (wrap64 (x7_1 + 1))⟩ : S25)⟩ : S40)]) (wrap64 (x7_1 + ((a0.extract (x7_1 : Int).toNat ((ji36) : Int).toNat).size : Int)))) else (none)) else (none)) else (none)) else (none))))) else (if x10_5 = 0 then (some (([] : List (S40)), wrap64 (x7_1 + 1))) else (if x10_5 > 32 then (some (([] : List (S40)), wrap64 (x7_1 + 1))) else (if 0 ≤ x7_1 then (if x7_1 ≤ (ji36) then (if (ji36) ≤ (a0.size : Int) then (if x6_1.length < 3518437208883 then (tourbillonref03_Line.l0 k5 a0 a1 (x6_1 ++ [(⟨3, a0.extract (x7_1 : Int).toNat ((ji36) : Int).toNat, (⟨a1, (wrap64 (x7_1 + 1))⟩ : S25)⟩ : S40)]) (wrap64 (x7_1 + ((a0.extract (x7_1 : Int).toNat ((ji36) : Int).toNat).size : Int)))) else (none)) else (none)) else (none)) else (none))))) else (none)) = some (r1, r2) := by first | (rw [hji36] at H; exact H) | (simp only [hji36] at H ⊢; exact H)
                                  (try rw [hji36] at c35b0)
                                  have hji36w : (IntKind.i64.wrap (x7_1 + x10_5)) = ji36 := (i64_w _).trans hji36
                                  by_cases c37 : 0 ≤ (ji36)
                                  · rw [if_pos c37] at H
                                    have c37b0 : decide (0 ≤ (ji36)) = true := decide_eq_true c37
                                    clear c37
                                    by_cases c39 : (bt a0 (ji36)) ≥ 33
                                    · rw [if_pos c39] at H
                                      have c39b0 : decide (33 ≤ (bt a0 (ji36))) = true := decide_eq_true c39
                                      clear c39
                                      by_cases c41 : (bt a0 (ji36)) ≤ 126
                                      · rw [if_pos c41] at H
                                        have c41b0 : decide ((bt a0 (ji36)) ≤ 126) = true := decide_eq_true c41
                                        clear c41
                                        by_cases c43 : (bt a0 (ji36)) = 40
                                        · rw [if_pos c43] at H
                                          have c43b0 : ((bt a0 (ji36)) == 40) = true := beq_iff_eq.mpr c43
                                          have c43b1 : ((bt a0 (ji36)) != 40) = false := bne_eq_false_iff_eq.mpr c43
                                          clear c43
                                          by_cases c44 : x10_5 = 0
                                          · rw [if_pos c44] at H
                                            have c44b0 : (x10_5 == 0) = true := beq_iff_eq.mpr c44
                                            have c44b1 : (x10_5 != 0) = false := bne_eq_false_iff_eq.mpr c44
                                            clear c44
                                            simp only [Option.some.injEq, Prod.mk.injEq] at H
                                            obtain ⟨rfl, rfl⟩ := H
                                            have p38 : 0 ≤ ((ji36) : Int) := of_decide_eq_true (by first | (with_reducible assumption) | assumption)
                                            have q38 : (ji36) < (a0.size : Int) := of_decide_eq_true (by first | (with_reducible assumption) | assumption)
                                            have hx38 := bt_at a0 (ji36)
                                            replace p38 := eq_true p38
                                            replace q38 := eq_true q38
                                            have p40 : 0 ≤ ((ji36) : Int) := of_decide_eq_true (by first | (with_reducible assumption) | assumption)
                                            have q40 : (ji36) < (a0.size : Int) := of_decide_eq_true (by first | (with_reducible assumption) | assumption)
                                            have hx40 := bt_at a0 (ji36)
                                            replace p40 := eq_true p40
                                            replace q40 := eq_true q40
                                            have p42 : 0 ≤ ((ji36) : Int) := of_decide_eq_true (by first | (with_reducible assumption) | assumption)
                                            have q42 : (ji36) < (a0.size : Int) := of_decide_eq_true (by first | (with_reducible assumption) | assumption)
                                            have hx42 := bt_at a0 (ji36)
                                            replace p42 := eq_true p42
                                            replace q42 := eq_true q42
                                            go_wp2
                                            go_ret2
                                            exact ⟨_, by first | rfl | (simp [errW_none, errW_some] <;> rfl) | (simp only [← hji36]; first | rfl | (simp [errW_none, errW_some] <;> rfl)) | (simp [*, errW_none, errW_some] <;> rfl), by first | exact Kd.R_nil _ _ _ _ _ | exact Kd.N_nil _ _ _ _ _ | exact Kd.V_nil _ _ _ _ _ | exact Kd.Q_nil _ _ _ _ _ | exact Kd.S_nil _ _ _ _ _, by repeat (first | (with_reducible first | exact HB.out | apply below_alloc | apply pw_below_drewN | apply below_drew1 | refine below_set ?_ GE130.out) | exact HB.out)⟩
                                          · rw [if_neg c44] at H
                                            have c44b0 : (x10_5 == 0) = false := beq_eq_false_iff_ne.mpr c44
                                            have c44b1 : (x10_5 != 0) = true := bne_iff_ne.mpr c44
                                            by_cases c45 : x10_5 > 32
                                            · rw [if_pos c45] at H
                                              have c45b0 : decide (32 < x10_5) = true := decide_eq_true c45
                                              clear c45
                                              simp only [Option.some.injEq, Prod.mk.injEq] at H
                                              obtain ⟨rfl, rfl⟩ := H
                                              have p38 : 0 ≤ ((ji36) : Int) := of_decide_eq_true (by first | (with_reducible assumption) | assumption)
                                              have q38 : (ji36) < (a0.size : Int) := of_decide_eq_true (by first | (with_reducible assumption) | assumption)
                                              have hx38 := bt_at a0 (ji36)
                                              replace p38 := eq_true p38
                                              replace q38 := eq_true q38
                                              have p40 : 0 ≤ ((ji36) : Int) := of_decide_eq_true (by first | (with_reducible assumption) | assumption)
                                              have q40 : (ji36) < (a0.size : Int) := of_decide_eq_true (by first | (with_reducible assumption) | assumption)
                                              have hx40 := bt_at a0 (ji36)
                                              replace p40 := eq_true p40
                                              replace q40 := eq_true q40
                                              have p42 : 0 ≤ ((ji36) : Int) := of_decide_eq_true (by first | (with_reducible assumption) | assumption)
                                              have q42 : (ji36) < (a0.size : Int) := of_decide_eq_true (by first | (with_reducible assumption) | assumption)
                                              have hx42 := bt_at a0 (ji36)
                                              replace p42 := eq_true p42
                                              replace q42 := eq_true q42
                                              go_wp2
                                              go_ret2
                                              exact ⟨_, by first | rfl | (simp [errW_none, errW_some] <;> rfl) | (simp only [← hji36]; first | rfl | (simp [errW_none, errW_some] <;> rfl)) | (simp [*, errW_none, errW_some] <;> rfl), by first | exact Kd.R_nil _ _ _ _ _ | exact Kd.N_nil _ _ _ _ _ | exact Kd.V_nil _ _ _ _ _ | exact Kd.Q_nil _ _ _ _ _ | exact Kd.S_nil _ _ _ _ _, by repeat (first | (with_reducible first | exact HB.out | apply below_alloc | apply pw_below_drewN | apply below_drew1 | refine below_set ?_ GE130.out) | exact HB.out)⟩
                                            · rw [if_neg c45] at H
                                              have c45b0 : decide (32 < x10_5) = false := decide_eq_false c45
                                              clear c45
                                              by_cases c46 : 0 ≤ x7_1
                                              · rw [if_pos c46] at H
                                                have c46b0 := eq_true c46
                                                have c46b1 : decide (0 ≤ x7_1) = true := decide_eq_true c46
                                                clear c46
                                                by_cases c47 : x7_1 ≤ (ji36)
                                                · rw [if_pos c47] at H
                                                  have c47b0 := eq_true c47
                                                  have c47b1 : decide (x7_1 ≤ (ji36)) = true := decide_eq_true c47
                                                  clear c47
                                                  by_cases c48 : (ji36) ≤ (a0.size : Int)
                                                  · rw [if_pos c48] at H
                                                    have c48b0 := eq_true c48
                                                    have c48b1 : decide ((ji36) ≤ (a0.size : Int)) = true := decide_eq_true c48
                                                    clear c48
                                                    by_cases c49 : x6_1.length < 3518437208883
                                                    · rw [if_pos c49] at H
                                                      have LMc49 := Aside0.mk c49
                                                      clear c49
                                                      obtain ⟨y137, hy137⟩ : ∃ y_ : List (S40), y_ = (x6_1 ++ [(⟨3, a0.extract (x7_1 : Int).toNat ((ji36) : Int).toNat, (⟨a1, (wrap64 (x7_1 + 1))⟩ : S25)⟩ : S40)]) := ⟨_, rfl⟩
                                                      replace H : (tourbillonref03_Line.l0 k5 a0 a1 y137 (wrap64 (x7_1 + ((a0.extract (x7_1 : Int).toNat ((ji36) : Int).toNat).size : Int)))) = some (r1, r2) := by first | (rw [hy137]; with_reducible exact H) | (have H2_ := (Option.bind_some _ _).symm.trans H; rw [hy137]; with_reducible exact H2_) | (have H2_ := (Option.bind_some _ _).symm.trans H; with_reducible exact H2_) | with_reducible exact H | (rw [hy137]; exact H) | exact H
                                                      have Ny137 := Aside0.mk hy137
                                                      clear hy137
                                                      have H' := Aside0.mk H
                                                      clear H
                                                      have p38 : 0 ≤ ((ji36) : Int) := of_decide_eq_true (by first | (with_reducible assumption) | assumption)
                                                      have q38 : (ji36) < (a0.size : Int) := of_decide_eq_true (by first | (with_reducible assumption) | assumption)
                                                      have hx38 := bt_at a0 (ji36)
                                                      replace p38 := eq_true p38
                                                      replace q38 := eq_true q38
                                                      have p40 : 0 ≤ ((ji36) : Int) := of_decide_eq_true (by first | (with_reducible assumption) | assumption)
                                                      have q40 : (ji36) < (a0.size : Int) := of_decide_eq_true (by first | (with_reducible assumption) | assumption)
                                                      have hx40 := bt_at a0 (ji36)
                                                      replace p40 := eq_true p40
                                                      replace q40 := eq_true q40
                                                      have p42 : 0 ≤ ((ji36) : Int) := of_decide_eq_true (by first | (with_reducible assumption) | assumption)
                                                      have q42 : (ji36) < (a0.size : Int) := of_decide_eq_true (by first | (with_reducible assumption) | assumption)
                                                      have hx42 := bt_at a0 (ji36)
                                                      replace p42 := eq_true p42
                                                      replace q42 := eq_true q42
                                                      have hcz50_0 : wr.cell? ⟨gb130, 0, none⟩ = some (.int .i64 0) := (blk_cell BK130.out 0).trans rfl
                                                      have hcz50_1 : wr.cell? ⟨gb130, 1, none⟩ = some (.string (⟨#[]⟩ : ByteArray)) := (blk_cell BK130.out 1).trans rfl
                                                      have hcz50_2 : wr.cell? ⟨gb130, 2, none⟩ = some (.int .i64 a1) := (blk_cell BK130.out 2).trans rfl
                                                      have hcz50_3 : wr.cell? ⟨gb130, 3, none⟩ = some (.int .i64 (wrap64 (x7_1 + 1))) := (blk_cell BK130.out 3).trans rfl
                                                      have hfz50_0 := blk_frozen BK130.out 0
                                                      have hfz50_1 := blk_frozen BK130.out 1
                                                      have hfz50_2 := blk_frozen BK130.out 2
                                                      have hfz50_3 := blk_frozen BK130.out 3
                                                      go_wp2_with (first | ((with_reducible refine gate_builtin (b := .append) (xs := #[.tmp 121, .tmp 123]) rfl ?_); at_builtin; refine Kd.R_append k40 (w0 := w) w.heap.size rfl (.tmp 121) (.tmp 123) 35 40 (.agg #[(.int .i64 0), (.string ⟨#[]⟩), (.int .i64 0), (.int .i64 0)]) 40 rfl Tryd.underlying35 info40 rfl (by decide) (by omega) u6 x6_1 (⟨3, a0.extract (x7_1 : Int).toNat ((ji36) : Int).toNat, (⟨a1, (wrap64 (x7_1 + 1))⟩ : S25)⟩ : S40) [.int .i64 3, .string (a0.extract (x7_1 : Int).toNat ((ji36) : Int).toNat), .int .i64 a1, .int .i64 (wrap64 (x7_1 + 1))] (fun k_ => k_ ≠ gb130) (fun _ => False) rfl (by first | (go_simp; done) | (go_simp; rfl)) ?aP (fun _ hk => hk.elim) ?aF ?aO ?aB ?aS ?aL ?_; (case aP => exact k40_mkM _ _ _ (⟨3, a0.extract (x7_1 : Int).toNat ((ji36) : Int).toNat, (⟨a1, (wrap64 (x7_1 + 1))⟩ : S25)⟩ : S40)); (case aB => exact (by repeat (first | (with_reducible first | exact HB.out | apply below_alloc | apply pw_below_drewN | apply below_drew1 | refine below_set ?_ GE130.out) | exact HB.out))); (case aF => exact (fun k_ hk => Kd.freshB (g := gb130) (o := .cells #[.int .i64 3, .string (a0.extract (x7_1 : Int).toNat ((ji36) : Int).toNat), .int .i64 a1, .int .i64 (wrap64 (x7_1 + 1))] 40 (0, 0)) (by (with_reducible repeat (first | refine blk_drewN ?_ _ | refine blk_drew ?_ | refine blk_alloc ?_ _)); refine blk_put (cs := #[.int .i64 3, .string (⟨#[]⟩ : ByteArray), .int .i64 a1, .int .i64 (wrap64 (x7_1 + 1))]) ?_ 1 _ rfl; (with_reducible repeat (first | refine blk_drewN ?_ _ | refine blk_drew ?_ | refine blk_alloc ?_ _)); refine blk_put (cs := #[.int .i64 0, .string (⟨#[]⟩ : ByteArray), .int .i64 a1, .int .i64 (wrap64 (x7_1 + 1))]) ?_ 0 _ rfl; (with_reducible repeat (first | refine blk_drewN ?_ _ | refine blk_drew ?_ | refine blk_alloc ?_ _)); exact BK130.out) k_ hk)); (case aO => exact (by (with_reducible repeat (first | apply Kd.R_alloc | apply Kd.R_drewN | apply Kd.R_drew)); exact Kd.R_mono (Kd.R_far (p := ⟨gb130, 1, none⟩) (Kd.R_far (p := ⟨gb130, 0, none⟩) (Kd.R_mono HO_6.out (fun k_ hk => (⟨hk, hk⟩ : _ ∧ k_ ≠ gb130))) (fun _ hk => hk.2) (.int .i64 3)) (fun _ hk => hk.2) (.string (a0.extract (x7_1 : Int).toNat ((ji36) : Int).toNat))) (fun _ hk => hk.1))); (case aS => exact (below_size (by repeat (first | (with_reducible first | exact HB.out | apply below_alloc | apply pw_below_drewN | apply below_drew1 | refine below_set ?_ GE130.out) | exact HB.out)))); (case aL => have := LMc49.out; omega); intro v138 w51 ho hb hg hat; rw [← Ny137.out] at ho; have n0_ := Aside0.mk (blk_grown (g := gb130) (o := .cells #[.int .i64 3, .string (a0.extract (x7_1 : Int).toNat ((ji36) : Int).toNat), .int .i64 a1, .int .i64 (wrap64 (x7_1 + 1))] 40 (0, 0)) (by (with_reducible repeat (first | refine blk_drewN ?_ _ | refine blk_drew ?_ | refine blk_alloc ?_ _)); refine blk_put (cs := #[.int .i64 3, .string (⟨#[]⟩ : ByteArray), .int .i64 a1, .int .i64 (wrap64 (x7_1 + 1))]) ?_ 1 _ rfl; (with_reducible repeat (first | refine blk_drewN ?_ _ | refine blk_drew ?_ | refine blk_alloc ?_ _)); refine blk_put (cs := #[.int .i64 0, .string (⟨#[]⟩ : ByteArray), .int .i64 a1, .int .i64 (wrap64 (x7_1 + 1))]) ?_ 0 _ rfl; (with_reducible repeat (first | refine blk_drewN ?_ _ | refine blk_drew ?_ | refine blk_alloc ?_ _)); exact BK130.out) hg (Kd.R_away HO_6.out (fun _ hk => hk))); have n1_ := Aside0.mk (hb); have n2_ := Aside0.mk (ho); clear BK130; clear HB; clear HO_6; have BK130 := n0_; have HB := n1_; have HO139 := n2_; clear n0_ n1_ n2_; clear ho hb hg hat; have hcz52_0 : w51.cell? ⟨gb130, 0, none⟩ = some (.int .i64 3) := (blk_cell BK130.out 0).trans rfl; have hcz52_1 : w51.cell? ⟨gb130, 1, none⟩ = some (.string (a0.extract (x7_1 : Int).toNat ((ji36) : Int).toNat)) := (blk_cell BK130.out 1).trans rfl; have hcz52_2 : w51.cell? ⟨gb130, 2, none⟩ = some (.int .i64 a1) := (blk_cell BK130.out 2).trans rfl; have hcz52_3 : w51.cell? ⟨gb130, 3, none⟩ = some (.int .i64 (wrap64 (x7_1 + 1))) := (blk_cell BK130.out 3).trans rfl; have hfz52_0 := blk_frozen BK130.out 0; have hfz52_1 := blk_frozen BK130.out 1; have hfz52_2 := blk_frozen BK130.out 2; have hfz52_3 := blk_frozen BK130.out 3))
                                                      go_roundg k5
                                                      case measure => have := HK1.out; have := HJ2.out; have := HJ10.out; have := HJ14.out; have := HK5.out; omega
                                                      case rel => exact ⟨(y137), (wrap64 (x7_1 + ((a0.extract (x7_1 : Int).toNat ((ji36) : Int).toNat).size : Int))), (by first | rfl | (simp only [ByteArray.size_extract]; rw [Nat.min_eq_left (Int.toNat_le.mpr (of_eq_true (by assumption)))]; done) | (simp; done) | (simp only [← hji36] <;> (first | rfl | simp)) | (simp [*]; done)), H', ⟨by have := HK1.out; have := HJ2.out; have := HJ10.out; have := HJ14.out; have := HK5.out; omega⟩, ⟨by (with_reducible repeat (first | apply Kd.R_alloc | apply Kd.R_drewN | apply Kd.R_drew)); exact Kd.R_mono HO139.out (fun _ hk => trivial)⟩, ⟨by repeat (first | (with_reducible first | exact HB.out | apply below_alloc | apply pw_below_drewN | apply below_drew1 | refine below_set ?_ GE130.out) | exact HB.out)⟩⟩
                                                    · rw [if_neg c49] at H
                                                      exact absurd H (by simp)
                                                  · rw [if_neg c48] at H
                                                    exact absurd H (by simp)
                                                · rw [if_neg c47] at H
                                                  exact absurd H (by simp)
                                              · rw [if_neg c46] at H
                                                exact absurd H (by simp)
                                        · rw [if_neg c43] at H
                                          have c43b0 : ((bt a0 (ji36)) == 40) = false := beq_eq_false_iff_ne.mpr c43
                                          have c43b1 : ((bt a0 (ji36)) != 40) = true := bne_iff_ne.mpr c43
                                          by_cases c54 : (bt a0 (ji36)) = 41
                                          · rw [if_pos c54] at H
                                            have c54b0 : ((bt a0 (ji36)) == 41) = true := beq_iff_eq.mpr c54
                                            have c54b1 : ((bt a0 (ji36)) != 41) = false := bne_eq_false_iff_eq.mpr c54
                                            clear c54
                                            by_cases c55 : x10_5 = 0
                                            · rw [if_pos c55] at H
                                              have c55b0 : (x10_5 == 0) = true := beq_iff_eq.mpr c55
                                              have c55b1 : (x10_5 != 0) = false := bne_eq_false_iff_eq.mpr c55
                                              clear c55
                                              simp only [Option.some.injEq, Prod.mk.injEq] at H
                                              obtain ⟨rfl, rfl⟩ := H
                                              have p38 : 0 ≤ ((ji36) : Int) := of_decide_eq_true (by first | (with_reducible assumption) | assumption)
                                              have q38 : (ji36) < (a0.size : Int) := of_decide_eq_true (by first | (with_reducible assumption) | assumption)
                                              have hx38 := bt_at a0 (ji36)
                                              replace p38 := eq_true p38
                                              replace q38 := eq_true q38
                                              have p40 : 0 ≤ ((ji36) : Int) := of_decide_eq_true (by first | (with_reducible assumption) | assumption)
                                              have q40 : (ji36) < (a0.size : Int) := of_decide_eq_true (by first | (with_reducible assumption) | assumption)
                                              have hx40 := bt_at a0 (ji36)
                                              replace p40 := eq_true p40
                                              replace q40 := eq_true q40
                                              have p42 : 0 ≤ ((ji36) : Int) := of_decide_eq_true (by first | (with_reducible assumption) | assumption)
                                              have q42 : (ji36) < (a0.size : Int) := of_decide_eq_true (by first | (with_reducible assumption) | assumption)
                                              have hx42 := bt_at a0 (ji36)
                                              replace p42 := eq_true p42
                                              replace q42 := eq_true q42
                                              have p53 : 0 ≤ ((ji36) : Int) := of_decide_eq_true (by first | (with_reducible assumption) | assumption)
                                              have q53 : (ji36) < (a0.size : Int) := of_decide_eq_true (by first | (with_reducible assumption) | assumption)
                                              have hx53 := bt_at a0 (ji36)
                                              replace p53 := eq_true p53
                                              replace q53 := eq_true q53
                                              go_wp2
                                              go_ret2
                                              exact ⟨_, by first | rfl | (simp [errW_none, errW_some] <;> rfl) | (simp only [← hji36]; first | rfl | (simp [errW_none, errW_some] <;> rfl)) | (simp [*, errW_none, errW_some] <;> rfl), by first | exact Kd.R_nil _ _ _ _ _ | exact Kd.N_nil _ _ _ _ _ | exact Kd.V_nil _ _ _ _ _ | exact Kd.Q_nil _ _ _ _ _ | exact Kd.S_nil _ _ _ _ _, by repeat (first | (with_reducible first | exact HB.out | apply below_alloc | apply pw_below_drewN | apply below_drew1 | refine below_set ?_ GE130.out) | exact HB.out)⟩
                                            · rw [if_neg c55] at H
                                              have c55b0 : (x10_5 == 0) = false := beq_eq_false_iff_ne.mpr c55
                                              have c55b1 : (x10_5 != 0) = true := bne_iff_ne.mpr c55
                                              by_cases c56 : x10_5 > 32
                                              · rw [if_pos c56] at H
                                                have c56b0 : decide (32 < x10_5) = true := decide_eq_true c56
                                                clear c56
                                                simp only [Option.some.injEq, Prod.mk.injEq] at H
                                                obtain ⟨rfl, rfl⟩ := H
                                                have p38 : 0 ≤ ((ji36) : Int) := of_decide_eq_true (by first | (with_reducible assumption) | assumption)
                                                have q38 : (ji36) < (a0.size : Int) := of_decide_eq_true (by first | (with_reducible assumption) | assumption)
                                                have hx38 := bt_at a0 (ji36)
                                                replace p38 := eq_true p38
                                                replace q38 := eq_true q38
                                                have p40 : 0 ≤ ((ji36) : Int) := of_decide_eq_true (by first | (with_reducible assumption) | assumption)
                                                have q40 : (ji36) < (a0.size : Int) := of_decide_eq_true (by first | (with_reducible assumption) | assumption)
                                                have hx40 := bt_at a0 (ji36)
                                                replace p40 := eq_true p40
                                                replace q40 := eq_true q40
                                                have p42 : 0 ≤ ((ji36) : Int) := of_decide_eq_true (by first | (with_reducible assumption) | assumption)
                                                have q42 : (ji36) < (a0.size : Int) := of_decide_eq_true (by first | (with_reducible assumption) | assumption)
                                                have hx42 := bt_at a0 (ji36)
                                                replace p42 := eq_true p42
                                                replace q42 := eq_true q42
                                                have p53 : 0 ≤ ((ji36) : Int) := of_decide_eq_true (by first | (with_reducible assumption) | assumption)
                                                have q53 : (ji36) < (a0.size : Int) := of_decide_eq_true (by first | (with_reducible assumption) | assumption)
                                                have hx53 := bt_at a0 (ji36)
                                                replace p53 := eq_true p53
                                                replace q53 := eq_true q53
                                                go_wp2
                                                go_ret2
                                                exact ⟨_, by first | rfl | (simp [errW_none, errW_some] <;> rfl) | (simp only [← hji36]; first | rfl | (simp [errW_none, errW_some] <;> rfl)) | (simp [*, errW_none, errW_some] <;> rfl), by first | exact Kd.R_nil _ _ _ _ _ | exact Kd.N_nil _ _ _ _ _ | exact Kd.V_nil _ _ _ _ _ | exact Kd.Q_nil _ _ _ _ _ | exact Kd.S_nil _ _ _ _ _, by repeat (first | (with_reducible first | exact HB.out | apply below_alloc | apply pw_below_drewN | apply below_drew1 | refine below_set ?_ GE130.out) | exact HB.out)⟩
                                              · rw [if_neg c56] at H
                                                have c56b0 : decide (32 < x10_5) = false := decide_eq_false c56
                                                clear c56
                                                by_cases c57 : 0 ≤ x7_1
                                                · rw [if_pos c57] at H
                                                  have c57b0 := eq_true c57
                                                  have c57b1 : decide (0 ≤ x7_1) = true := decide_eq_true c57
                                                  clear c57
                                                  by_cases c58 : x7_1 ≤ (ji36)
                                                  · rw [if_pos c58] at H
                                                    have c58b0 := eq_true c58
                                                    have c58b1 : decide (x7_1 ≤ (ji36)) = true := decide_eq_true c58
                                                    clear c58
                                                    by_cases c59 : (ji36) ≤ (a0.size : Int)
                                                    · rw [if_pos c59] at H
                                                      have c59b0 := eq_true c59
                                                      have c59b1 : decide ((ji36) ≤ (a0.size : Int)) = true := decide_eq_true c59
                                                      clear c59
                                                      by_cases c60 : x6_1.length < 3518437208883
                                                      · rw [if_pos c60] at H
                                                        have LMc60 := Aside0.mk c60
                                                        clear c60
                                                        obtain ⟨y140, hy140⟩ : ∃ y_ : List (S40), y_ = (x6_1 ++ [(⟨3, a0.extract (x7_1 : Int).toNat ((ji36) : Int).toNat, (⟨a1, (wrap64 (x7_1 + 1))⟩ : S25)⟩ : S40)]) := ⟨_, rfl⟩
                                                        replace H : (tourbillonref03_Line.l0 k5 a0 a1 y140 (wrap64 (x7_1 + ((a0.extract (x7_1 : Int).toNat ((ji36) : Int).toNat).size : Int)))) = some (r1, r2) := by first | (rw [hy140]; with_reducible exact H) | (have H2_ := (Option.bind_some _ _).symm.trans H; rw [hy140]; with_reducible exact H2_) | (have H2_ := (Option.bind_some _ _).symm.trans H; with_reducible exact H2_) | with_reducible exact H | (rw [hy140]; exact H) | exact H
                                                        have Ny140 := Aside0.mk hy140
                                                        clear hy140
                                                        have H' := Aside0.mk H
                                                        clear H
                                                        have p38 : 0 ≤ ((ji36) : Int) := of_decide_eq_true (by first | (with_reducible assumption) | assumption)
                                                        have q38 : (ji36) < (a0.size : Int) := of_decide_eq_true (by first | (with_reducible assumption) | assumption)
                                                        have hx38 := bt_at a0 (ji36)
                                                        replace p38 := eq_true p38
                                                        replace q38 := eq_true q38
                                                        have p40 : 0 ≤ ((ji36) : Int) := of_decide_eq_true (by first | (with_reducible assumption) | assumption)
                                                        have q40 : (ji36) < (a0.size : Int) := of_decide_eq_true (by first | (with_reducible assumption) | assumption)
                                                        have hx40 := bt_at a0 (ji36)
                                                        replace p40 := eq_true p40
                                                        replace q40 := eq_true q40
                                                        have p42 : 0 ≤ ((ji36) : Int) := of_decide_eq_true (by first | (with_reducible assumption) | assumption)
                                                        have q42 : (ji36) < (a0.size : Int) := of_decide_eq_true (by first | (with_reducible assumption) | assumption)
                                                        have hx42 := bt_at a0 (ji36)
                                                        replace p42 := eq_true p42
                                                        replace q42 := eq_true q42
                                                        have p53 : 0 ≤ ((ji36) : Int) := of_decide_eq_true (by first | (with_reducible assumption) | assumption)
                                                        have q53 : (ji36) < (a0.size : Int) := of_decide_eq_true (by first | (with_reducible assumption) | assumption)
                                                        have hx53 := bt_at a0 (ji36)
                                                        replace p53 := eq_true p53
                                                        replace q53 := eq_true q53
                                                        have hcz61_0 : wr.cell? ⟨gb130, 0, none⟩ = some (.int .i64 0) := (blk_cell BK130.out 0).trans rfl
                                                        have hcz61_1 : wr.cell? ⟨gb130, 1, none⟩ = some (.string (⟨#[]⟩ : ByteArray)) := (blk_cell BK130.out 1).trans rfl
                                                        have hcz61_2 : wr.cell? ⟨gb130, 2, none⟩ = some (.int .i64 a1) := (blk_cell BK130.out 2).trans rfl
                                                        have hcz61_3 : wr.cell? ⟨gb130, 3, none⟩ = some (.int .i64 (wrap64 (x7_1 + 1))) := (blk_cell BK130.out 3).trans rfl
                                                        have hfz61_0 := blk_frozen BK130.out 0
                                                        have hfz61_1 := blk_frozen BK130.out 1
                                                        have hfz61_2 := blk_frozen BK130.out 2
                                                        have hfz61_3 := blk_frozen BK130.out 3
                                                        go_wp2_with (first | ((with_reducible refine gate_builtin (b := .append) (xs := #[.tmp 121, .tmp 123]) rfl ?_); at_builtin; refine Kd.R_append k40 (w0 := w) w.heap.size rfl (.tmp 121) (.tmp 123) 35 40 (.agg #[(.int .i64 0), (.string ⟨#[]⟩), (.int .i64 0), (.int .i64 0)]) 40 rfl Tryd.underlying35 info40 rfl (by decide) (by omega) u6 x6_1 (⟨3, a0.extract (x7_1 : Int).toNat ((ji36) : Int).toNat, (⟨a1, (wrap64 (x7_1 + 1))⟩ : S25)⟩ : S40) [.int .i64 3, .string (a0.extract (x7_1 : Int).toNat ((ji36) : Int).toNat), .int .i64 a1, .int .i64 (wrap64 (x7_1 + 1))] (fun k_ => k_ ≠ gb130) (fun _ => False) rfl (by first | (go_simp; done) | (go_simp; rfl)) ?aP (fun _ hk => hk.elim) ?aF ?aO ?aB ?aS ?aL ?_; (case aP => exact k40_mkM _ _ _ (⟨3, a0.extract (x7_1 : Int).toNat ((ji36) : Int).toNat, (⟨a1, (wrap64 (x7_1 + 1))⟩ : S25)⟩ : S40)); (case aB => exact (by repeat (first | (with_reducible first | exact HB.out | apply below_alloc | apply pw_below_drewN | apply below_drew1 | refine below_set ?_ GE130.out) | exact HB.out))); (case aF => exact (fun k_ hk => Kd.freshB (g := gb130) (o := .cells #[.int .i64 3, .string (a0.extract (x7_1 : Int).toNat ((ji36) : Int).toNat), .int .i64 a1, .int .i64 (wrap64 (x7_1 + 1))] 40 (0, 0)) (by (with_reducible repeat (first | refine blk_drewN ?_ _ | refine blk_drew ?_ | refine blk_alloc ?_ _)); refine blk_put (cs := #[.int .i64 3, .string (⟨#[]⟩ : ByteArray), .int .i64 a1, .int .i64 (wrap64 (x7_1 + 1))]) ?_ 1 _ rfl; (with_reducible repeat (first | refine blk_drewN ?_ _ | refine blk_drew ?_ | refine blk_alloc ?_ _)); refine blk_put (cs := #[.int .i64 0, .string (⟨#[]⟩ : ByteArray), .int .i64 a1, .int .i64 (wrap64 (x7_1 + 1))]) ?_ 0 _ rfl; (with_reducible repeat (first | refine blk_drewN ?_ _ | refine blk_drew ?_ | refine blk_alloc ?_ _)); exact BK130.out) k_ hk)); (case aO => exact (by (with_reducible repeat (first | apply Kd.R_alloc | apply Kd.R_drewN | apply Kd.R_drew)); exact Kd.R_mono (Kd.R_far (p := ⟨gb130, 1, none⟩) (Kd.R_far (p := ⟨gb130, 0, none⟩) (Kd.R_mono HO_6.out (fun k_ hk => (⟨hk, hk⟩ : _ ∧ k_ ≠ gb130))) (fun _ hk => hk.2) (.int .i64 3)) (fun _ hk => hk.2) (.string (a0.extract (x7_1 : Int).toNat ((ji36) : Int).toNat))) (fun _ hk => hk.1))); (case aS => exact (below_size (by repeat (first | (with_reducible first | exact HB.out | apply below_alloc | apply pw_below_drewN | apply below_drew1 | refine below_set ?_ GE130.out) | exact HB.out)))); (case aL => have := LMc60.out; omega); intro v141 w62 ho hb hg hat; rw [← Ny140.out] at ho; have n0_ := Aside0.mk (blk_grown (g := gb130) (o := .cells #[.int .i64 3, .string (a0.extract (x7_1 : Int).toNat ((ji36) : Int).toNat), .int .i64 a1, .int .i64 (wrap64 (x7_1 + 1))] 40 (0, 0)) (by (with_reducible repeat (first | refine blk_drewN ?_ _ | refine blk_drew ?_ | refine blk_alloc ?_ _)); refine blk_put (cs := #[.int .i64 3, .string (⟨#[]⟩ : ByteArray), .int .i64 a1, .int .i64 (wrap64 (x7_1 + 1))]) ?_ 1 _ rfl; (with_reducible repeat (first | refine blk_drewN ?_ _ | refine blk_drew ?_ | refine blk_alloc ?_ _)); refine blk_put (cs := #[.int .i64 0, .string (⟨#[]⟩ : ByteArray), .int .i64 a1, .int .i64 (wrap64 (x7_1 + 1))]) ?_ 0 _ rfl; (with_reducible repeat (first | refine blk_drewN ?_ _ | refine blk_drew ?_ | refine blk_alloc ?_ _)); exact BK130.out) hg (Kd.R_away HO_6.out (fun _ hk => hk))); have n1_ := Aside0.mk (hb); have n2_ := Aside0.mk (ho); clear BK130; clear HB; clear HO_6; have BK130 := n0_; have HB := n1_; have HO142 := n2_; clear n0_ n1_ n2_; clear ho hb hg hat; have hcz63_0 : w62.cell? ⟨gb130, 0, none⟩ = some (.int .i64 3) := (blk_cell BK130.out 0).trans rfl; have hcz63_1 : w62.cell? ⟨gb130, 1, none⟩ = some (.string (a0.extract (x7_1 : Int).toNat ((ji36) : Int).toNat)) := (blk_cell BK130.out 1).trans rfl; have hcz63_2 : w62.cell? ⟨gb130, 2, none⟩ = some (.int .i64 a1) := (blk_cell BK130.out 2).trans rfl; have hcz63_3 : w62.cell? ⟨gb130, 3, none⟩ = some (.int .i64 (wrap64 (x7_1 + 1))) := (blk_cell BK130.out 3).trans rfl; have hfz63_0 := blk_frozen BK130.out 0; have hfz63_1 := blk_frozen BK130.out 1; have hfz63_2 := blk_frozen BK130.out 2; have hfz63_3 := blk_frozen BK130.out 3))
                                                        go_roundg k5
                                                        case measure => have := HK1.out; have := HJ2.out; have := HJ10.out; have := HJ14.out; have := HK5.out; omega
                                                        case rel => exact ⟨(y140), (wrap64 (x7_1 + ((a0.extract (x7_1 : Int).toNat ((ji36) : Int).toNat).size : Int))), (by first | rfl | (simp only [ByteArray.size_extract]; rw [Nat.min_eq_left (Int.toNat_le.mpr (of_eq_true (by assumption)))]; done) | (simp; done) | (simp only [← hji36] <;> (first | rfl | simp)) | (simp [*]; done)), H', ⟨by have := HK1.out; have := HJ2.out; have := HJ10.out; have := HJ14.out; have := HK5.out; omega⟩, ⟨by (with_reducible repeat (first | apply Kd.R_alloc | apply Kd.R_drewN | apply Kd.R_drew)); exact Kd.R_mono HO142.out (fun _ hk => trivial)⟩, ⟨by repeat (first | (with_reducible first | exact HB.out | apply below_alloc | apply pw_below_drewN | apply below_drew1 | refine below_set ?_ GE130.out) | exact HB.out)⟩⟩
                                                      · rw [if_neg c60] at H
                                                        exact absurd H (by simp)
                                                    · rw [if_neg c59] at H
                                                      exact absurd H (by simp)
                                                  · rw [if_neg c58] at H
                                                    exact absurd H (by simp)
                                                · rw [if_neg c57] at H
                                                  exact absurd H (by simp)
                                          · rw [if_neg c54] at H
                                            have c54b0 : ((bt a0 (ji36)) == 41) = false := beq_eq_false_iff_ne.mpr c54
                                            have c54b1 : ((bt a0 (ji36)) != 41) = true := bne_iff_ne.mpr c54
                                            by_cases c65 : (bt a0 (ji36)) = 59
                                            · rw [if_pos c65] at H
                                              have c65b0 : ((bt a0 (ji36)) == 59) = true := beq_iff_eq.mpr c65
                                              have c65b1 : ((bt a0 (ji36)) != 59) = false := bne_eq_false_iff_eq.mpr c65
                                              clear c65
                                              by_cases c66 : x10_5 = 0
                                              · rw [if_pos c66] at H
                                                have c66b0 : (x10_5 == 0) = true := beq_iff_eq.mpr c66
                                                have c66b1 : (x10_5 != 0) = false := bne_eq_false_iff_eq.mpr c66
                                                clear c66
                                                simp only [Option.some.injEq, Prod.mk.injEq] at H
                                                obtain ⟨rfl, rfl⟩ := H
                                                have p38 : 0 ≤ ((ji36) : Int) := of_decide_eq_true (by first | (with_reducible assumption) | assumption)
                                                have q38 : (ji36) < (a0.size : Int) := of_decide_eq_true (by first | (with_reducible assumption) | assumption)
                                                have hx38 := bt_at a0 (ji36)
                                                replace p38 := eq_true p38
                                                replace q38 := eq_true q38
                                                have p40 : 0 ≤ ((ji36) : Int) := of_decide_eq_true (by first | (with_reducible assumption) | assumption)
                                                have q40 : (ji36) < (a0.size : Int) := of_decide_eq_true (by first | (with_reducible assumption) | assumption)
                                                have hx40 := bt_at a0 (ji36)
                                                replace p40 := eq_true p40
                                                replace q40 := eq_true q40
                                                have p42 : 0 ≤ ((ji36) : Int) := of_decide_eq_true (by first | (with_reducible assumption) | assumption)
                                                have q42 : (ji36) < (a0.size : Int) := of_decide_eq_true (by first | (with_reducible assumption) | assumption)
                                                have hx42 := bt_at a0 (ji36)
                                                replace p42 := eq_true p42
                                                replace q42 := eq_true q42
                                                have p53 : 0 ≤ ((ji36) : Int) := of_decide_eq_true (by first | (with_reducible assumption) | assumption)
                                                have q53 : (ji36) < (a0.size : Int) := of_decide_eq_true (by first | (with_reducible assumption) | assumption)
                                                have hx53 := bt_at a0 (ji36)
                                                replace p53 := eq_true p53
                                                replace q53 := eq_true q53
                                                have p64 : 0 ≤ ((ji36) : Int) := of_decide_eq_true (by first | (with_reducible assumption) | assumption)
                                                have q64 : (ji36) < (a0.size : Int) := of_decide_eq_true (by first | (with_reducible assumption) | assumption)
                                                have hx64 := bt_at a0 (ji36)
                                                replace p64 := eq_true p64
                                                replace q64 := eq_true q64
                                                go_wp2
                                                go_ret2
                                                exact ⟨_, by first | rfl | (simp [errW_none, errW_some] <;> rfl) | (simp only [← hji36]; first | rfl | (simp [errW_none, errW_some] <;> rfl)) | (simp [*, errW_none, errW_some] <;> rfl), by first | exact Kd.R_nil _ _ _ _ _ | exact Kd.N_nil _ _ _ _ _ | exact Kd.V_nil _ _ _ _ _ | exact Kd.Q_nil _ _ _ _ _ | exact Kd.S_nil _ _ _ _ _, by repeat (first | (with_reducible first | exact HB.out | apply below_alloc | apply pw_below_drewN | apply below_drew1 | refine below_set ?_ GE130.out) | exact HB.out)⟩
                                              · rw [if_neg c66] at H
                                                have c66b0 : (x10_5 == 0) = false := beq_eq_false_iff_ne.mpr c66
                                                have c66b1 : (x10_5 != 0) = true := bne_iff_ne.mpr c66
                                                by_cases c67 : x10_5 > 32
                                                · rw [if_pos c67] at H
                                                  have c67b0 : decide (32 < x10_5) = true := decide_eq_true c67
                                                  clear c67
                                                  simp only [Option.some.injEq, Prod.mk.injEq] at H
                                                  obtain ⟨rfl, rfl⟩ := H
                                                  have p38 : 0 ≤ ((ji36) : Int) := of_decide_eq_true (by first | (with_reducible assumption) | assumption)
                                                  have q38 : (ji36) < (a0.size : Int) := of_decide_eq_true (by first | (with_reducible assumption) | assumption)
                                                  have hx38 := bt_at a0 (ji36)
                                                  replace p38 := eq_true p38
                                                  replace q38 := eq_true q38
                                                  have p40 : 0 ≤ ((ji36) : Int) := of_decide_eq_true (by first | (with_reducible assumption) | assumption)
                                                  have q40 : (ji36) < (a0.size : Int) := of_decide_eq_true (by first | (with_reducible assumption) | assumption)
                                                  have hx40 := bt_at a0 (ji36)
                                                  replace p40 := eq_true p40
                                                  replace q40 := eq_true q40
                                                  have p42 : 0 ≤ ((ji36) : Int) := of_decide_eq_true (by first | (with_reducible assumption) | assumption)
                                                  have q42 : (ji36) < (a0.size : Int) := of_decide_eq_true (by first | (with_reducible assumption) | assumption)
                                                  have hx42 := bt_at a0 (ji36)
                                                  replace p42 := eq_true p42
                                                  replace q42 := eq_true q42
                                                  have p53 : 0 ≤ ((ji36) : Int) := of_decide_eq_true (by first | (with_reducible assumption) | assumption)
                                                  have q53 : (ji36) < (a0.size : Int) := of_decide_eq_true (by first | (with_reducible assumption) | assumption)
                                                  have hx53 := bt_at a0 (ji36)
                                                  replace p53 := eq_true p53
                                                  replace q53 := eq_true q53
                                                  have p64 : 0 ≤ ((ji36) : Int) := of_decide_eq_true (by first | (with_reducible assumption) | assumption)
                                                  have q64 : (ji36) < (a0.size : Int) := of_decide_eq_true (by first | (with_reducible assumption) | assumption)
                                                  have hx64 := bt_at a0 (ji36)
                                                  replace p64 := eq_true p64
                                                  replace q64 := eq_true q64
                                                  go_wp2
                                                  go_ret2
                                                  exact ⟨_, by first | rfl | (simp [errW_none, errW_some] <;> rfl) | (simp only [← hji36]; first | rfl | (simp [errW_none, errW_some] <;> rfl)) | (simp [*, errW_none, errW_some] <;> rfl), by first | exact Kd.R_nil _ _ _ _ _ | exact Kd.N_nil _ _ _ _ _ | exact Kd.V_nil _ _ _ _ _ | exact Kd.Q_nil _ _ _ _ _ | exact Kd.S_nil _ _ _ _ _, by repeat (first | (with_reducible first | exact HB.out | apply below_alloc | apply pw_below_drewN | apply below_drew1 | refine below_set ?_ GE130.out) | exact HB.out)⟩
                                                · rw [if_neg c67] at H
                                                  have c67b0 : decide (32 < x10_5) = false := decide_eq_false c67
                                                  clear c67
                                                  by_cases c68 : 0 ≤ x7_1
                                                  · rw [if_pos c68] at H
                                                    have c68b0 := eq_true c68
                                                    have c68b1 : decide (0 ≤ x7_1) = true := decide_eq_true c68
                                                    clear c68
                                                    by_cases c69 : x7_1 ≤ (ji36)
                                                    · rw [if_pos c69] at H
                                                      have c69b0 := eq_true c69
                                                      have c69b1 : decide (x7_1 ≤ (ji36)) = true := decide_eq_true c69
                                                      clear c69
                                                      by_cases c70 : (ji36) ≤ (a0.size : Int)
                                                      · rw [if_pos c70] at H
                                                        have c70b0 := eq_true c70
                                                        have c70b1 : decide ((ji36) ≤ (a0.size : Int)) = true := decide_eq_true c70
                                                        clear c70
                                                        by_cases c71 : x6_1.length < 3518437208883
                                                        · rw [if_pos c71] at H
                                                          have LMc71 := Aside0.mk c71
                                                          clear c71
                                                          obtain ⟨y143, hy143⟩ : ∃ y_ : List (S40), y_ = (x6_1 ++ [(⟨3, a0.extract (x7_1 : Int).toNat ((ji36) : Int).toNat, (⟨a1, (wrap64 (x7_1 + 1))⟩ : S25)⟩ : S40)]) := ⟨_, rfl⟩
                                                          replace H : (tourbillonref03_Line.l0 k5 a0 a1 y143 (wrap64 (x7_1 + ((a0.extract (x7_1 : Int).toNat ((ji36) : Int).toNat).size : Int)))) = some (r1, r2) := by first | (rw [hy143]; with_reducible exact H) | (have H2_ := (Option.bind_some _ _).symm.trans H; rw [hy143]; with_reducible exact H2_) | (have H2_ := (Option.bind_some _ _).symm.trans H; with_reducible exact H2_) | with_reducible exact H | (rw [hy143]; exact H) | exact H
                                                          have Ny143 := Aside0.mk hy143
                                                          clear hy143
                                                          have H' := Aside0.mk H
                                                          clear H
                                                          have p38 : 0 ≤ ((ji36) : Int) := of_decide_eq_true (by first | (with_reducible assumption) | assumption)
                                                          have q38 : (ji36) < (a0.size : Int) := of_decide_eq_true (by first | (with_reducible assumption) | assumption)
                                                          have hx38 := bt_at a0 (ji36)
                                                          replace p38 := eq_true p38
                                                          replace q38 := eq_true q38
                                                          have p40 : 0 ≤ ((ji36) : Int) := of_decide_eq_true (by first | (with_reducible assumption) | assumption)
                                                          have q40 : (ji36) < (a0.size : Int) := of_decide_eq_true (by first | (with_reducible assumption) | assumption)
                                                          have hx40 := bt_at a0 (ji36)
                                                          replace p40 := eq_true p40
                                                          replace q40 := eq_true q40
                                                          have p42 : 0 ≤ ((ji36) : Int) := of_decide_eq_true (by first | (with_reducible assumption) | assumption)
                                                          have q42 : (ji36) < (a0.size : Int) := of_decide_eq_true (by first | (with_reducible assumption) | assumption)
                                                          have hx42 := bt_at a0 (ji36)
                                                          replace p42 := eq_true p42
                                                          replace q42 := eq_true q42
                                                          have p53 : 0 ≤ ((ji36) : Int) := of_decide_eq_true (by first | (with_reducible assumption) | assumption)
                                                          have q53 : (ji36) < (a0.size : Int) := of_decide_eq_true (by first | (with_reducible assumption) | assumption)
                                                          have hx53 := bt_at a0 (ji36)
                                                          replace p53 := eq_true p53
                                                          replace q53 := eq_true q53
                                                          have p64 : 0 ≤ ((ji36) : Int) := of_decide_eq_true (by first | (with_reducible assumption) | assumption)
                                                          have q64 : (ji36) < (a0.size : Int) := of_decide_eq_true (by first | (with_reducible assumption) | assumption)
                                                          have hx64 := bt_at a0 (ji36)
                                                          replace p64 := eq_true p64
                                                          replace q64 := eq_true q64
                                                          have hcz72_0 : wr.cell? ⟨gb130, 0, none⟩ = some (.int .i64 0) := (blk_cell BK130.out 0).trans rfl
                                                          have hcz72_1 : wr.cell? ⟨gb130, 1, none⟩ = some (.string (⟨#[]⟩ : ByteArray)) := (blk_cell BK130.out 1).trans rfl
                                                          have hcz72_2 : wr.cell? ⟨gb130, 2, none⟩ = some (.int .i64 a1) := (blk_cell BK130.out 2).trans rfl
                                                          have hcz72_3 : wr.cell? ⟨gb130, 3, none⟩ = some (.int .i64 (wrap64 (x7_1 + 1))) := (blk_cell BK130.out 3).trans rfl
                                                          have hfz72_0 := blk_frozen BK130.out 0
                                                          have hfz72_1 := blk_frozen BK130.out 1
                                                          have hfz72_2 := blk_frozen BK130.out 2
                                                          have hfz72_3 := blk_frozen BK130.out 3
                                                          go_wp2_with (first | ((with_reducible refine gate_builtin (b := .append) (xs := #[.tmp 121, .tmp 123]) rfl ?_); at_builtin; refine Kd.R_append k40 (w0 := w) w.heap.size rfl (.tmp 121) (.tmp 123) 35 40 (.agg #[(.int .i64 0), (.string ⟨#[]⟩), (.int .i64 0), (.int .i64 0)]) 40 rfl Tryd.underlying35 info40 rfl (by decide) (by omega) u6 x6_1 (⟨3, a0.extract (x7_1 : Int).toNat ((ji36) : Int).toNat, (⟨a1, (wrap64 (x7_1 + 1))⟩ : S25)⟩ : S40) [.int .i64 3, .string (a0.extract (x7_1 : Int).toNat ((ji36) : Int).toNat), .int .i64 a1, .int .i64 (wrap64 (x7_1 + 1))] (fun k_ => k_ ≠ gb130) (fun _ => False) rfl (by first | (go_simp; done) | (go_simp; rfl)) ?aP (fun _ hk => hk.elim) ?aF ?aO ?aB ?aS ?aL ?_; (case aP => exact k40_mkM _ _ _ (⟨3, a0.extract (x7_1 : Int).toNat ((ji36) : Int).toNat, (⟨a1, (wrap64 (x7_1 + 1))⟩ : S25)⟩ : S40)); (case aB => exact (by repeat (first | (with_reducible first | exact HB.out | apply below_alloc | apply pw_below_drewN | apply below_drew1 | refine below_set ?_ GE130.out) | exact HB.out))); (case aF => exact (fun k_ hk => Kd.freshB (g := gb130) (o := .cells #[.int .i64 3, .string (a0.extract (x7_1 : Int).toNat ((ji36) : Int).toNat), .int .i64 a1, .int .i64 (wrap64 (x7_1 + 1))] 40 (0, 0)) (by (with_reducible repeat (first | refine blk_drewN ?_ _ | refine blk_drew ?_ | refine blk_alloc ?_ _)); refine blk_put (cs := #[.int .i64 3, .string (⟨#[]⟩ : ByteArray), .int .i64 a1, .int .i64 (wrap64 (x7_1 + 1))]) ?_ 1 _ rfl; (with_reducible repeat (first | refine blk_drewN ?_ _ | refine blk_drew ?_ | refine blk_alloc ?_ _)); refine blk_put (cs := #[.int .i64 0, .string (⟨#[]⟩ : ByteArray), .int .i64 a1, .int .i64 (wrap64 (x7_1 + 1))]) ?_ 0 _ rfl; (with_reducible repeat (first | refine blk_drewN ?_ _ | refine blk_drew ?_ | refine blk_alloc ?_ _)); exact BK130.out) k_ hk)); (case aO => exact (by (with_reducible repeat (first | apply Kd.R_alloc | apply Kd.R_drewN | apply Kd.R_drew)); exact Kd.R_mono (Kd.R_far (p := ⟨gb130, 1, none⟩) (Kd.R_far (p := ⟨gb130, 0, none⟩) (Kd.R_mono HO_6.out (fun k_ hk => (⟨hk, hk⟩ : _ ∧ k_ ≠ gb130))) (fun _ hk => hk.2) (.int .i64 3)) (fun _ hk => hk.2) (.string (a0.extract (x7_1 : Int).toNat ((ji36) : Int).toNat))) (fun _ hk => hk.1))); (case aS => exact (below_size (by repeat (first | (with_reducible first | exact HB.out | apply below_alloc | apply pw_below_drewN | apply below_drew1 | refine below_set ?_ GE130.out) | exact HB.out)))); (case aL => have := LMc71.out; omega); intro v144 w73 ho hb hg hat; rw [← Ny143.out] at ho; have n0_ := Aside0.mk (blk_grown (g := gb130) (o := .cells #[.int .i64 3, .string (a0.extract (x7_1 : Int).toNat ((ji36) : Int).toNat), .int .i64 a1, .int .i64 (wrap64 (x7_1 + 1))] 40 (0, 0)) (by (with_reducible repeat (first | refine blk_drewN ?_ _ | refine blk_drew ?_ | refine blk_alloc ?_ _)); refine blk_put (cs := #[.int .i64 3, .string (⟨#[]⟩ : ByteArray), .int .i64 a1, .int .i64 (wrap64 (x7_1 + 1))]) ?_ 1 _ rfl; (with_reducible repeat (first | refine blk_drewN ?_ _ | refine blk_drew ?_ | refine blk_alloc ?_ _)); refine blk_put (cs := #[.int .i64 0, .string (⟨#[]⟩ : ByteArray), .int .i64 a1, .int .i64 (wrap64 (x7_1 + 1))]) ?_ 0 _ rfl; (with_reducible repeat (first | refine blk_drewN ?_ _ | refine blk_drew ?_ | refine blk_alloc ?_ _)); exact BK130.out) hg (Kd.R_away HO_6.out (fun _ hk => hk))); have n1_ := Aside0.mk (hb); have n2_ := Aside0.mk (ho); clear BK130; clear HB; clear HO_6; have BK130 := n0_; have HB := n1_; have HO145 := n2_; clear n0_ n1_ n2_; clear ho hb hg hat; have hcz74_0 : w73.cell? ⟨gb130, 0, none⟩ = some (.int .i64 3) := (blk_cell BK130.out 0).trans rfl; have hcz74_1 : w73.cell? ⟨gb130, 1, none⟩ = some (.string (a0.extract (x7_1 : Int).toNat ((ji36) : Int).toNat)) := (blk_cell BK130.out 1).trans rfl; have hcz74_2 : w73.cell? ⟨gb130, 2, none⟩ = some (.int .i64 a1) := (blk_cell BK130.out 2).trans rfl; have hcz74_3 : w73.cell? ⟨gb130, 3, none⟩ = some (.int .i64 (wrap64 (x7_1 + 1))) := (blk_cell BK130.out 3).trans rfl; have hfz74_0 := blk_frozen BK130.out 0; have hfz74_1 := blk_frozen BK130.out 1; have hfz74_2 := blk_frozen BK130.out 2; have hfz74_3 := blk_frozen BK130.out 3))
                                                          go_roundg k5
                                                          case measure => have := HK1.out; have := HJ2.out; have := HJ10.out; have := HJ14.out; have := HK5.out; omega
                                                          case rel => exact ⟨(y143), (wrap64 (x7_1 + ((a0.extract (x7_1 : Int).toNat ((ji36) : Int).toNat).size : Int))), (by first | rfl | (simp only [ByteArray.size_extract]; rw [Nat.min_eq_left (Int.toNat_le.mpr (of_eq_true (by assumption)))]; done) | (simp; done) | (simp only [← hji36] <;> (first | rfl | simp)) | (simp [*]; done)), H', ⟨by have := HK1.out; have := HJ2.out; have := HJ10.out; have := HJ14.out; have := HK5.out; omega⟩, ⟨by (with_reducible repeat (first | apply Kd.R_alloc | apply Kd.R_drewN | apply Kd.R_drew)); exact Kd.R_mono HO145.out (fun _ hk => trivial)⟩, ⟨by repeat (first | (with_reducible first | exact HB.out | apply below_alloc | apply pw_below_drewN | apply below_drew1 | refine below_set ?_ GE130.out) | exact HB.out)⟩⟩
                                                        · rw [if_neg c71] at H
                                                          exact absurd H (by simp)
                                                      · rw [if_neg c70] at H
                                                        exact absurd H (by simp)
                                                    · rw [if_neg c69] at H
                                                      exact absurd H (by simp)
                                                  · rw [if_neg c68] at H
                                                    exact absurd H (by simp)
                                            · rw [if_neg c65] at H
                                              have c65b0 : ((bt a0 (ji36)) == 59) = false := beq_eq_false_iff_ne.mpr c65
                                              have c65b1 : ((bt a0 (ji36)) != 59) = true := bne_iff_ne.mpr c65
                                              have H' := Aside0.mk H
                                              clear H
                                              have p38 : 0 ≤ ((ji36) : Int) := of_decide_eq_true (by first | (with_reducible assumption) | assumption)
                                              have q38 : (ji36) < (a0.size : Int) := of_decide_eq_true (by first | (with_reducible assumption) | assumption)
                                              have hx38 := bt_at a0 (ji36)
                                              replace p38 := eq_true p38
                                              replace q38 := eq_true q38
                                              have p40 : 0 ≤ ((ji36) : Int) := of_decide_eq_true (by first | (with_reducible assumption) | assumption)
                                              have q40 : (ji36) < (a0.size : Int) := of_decide_eq_true (by first | (with_reducible assumption) | assumption)
                                              have hx40 := bt_at a0 (ji36)
                                              replace p40 := eq_true p40
                                              replace q40 := eq_true q40
                                              have p42 : 0 ≤ ((ji36) : Int) := of_decide_eq_true (by first | (with_reducible assumption) | assumption)
                                              have q42 : (ji36) < (a0.size : Int) := of_decide_eq_true (by first | (with_reducible assumption) | assumption)
                                              have hx42 := bt_at a0 (ji36)
                                              replace p42 := eq_true p42
                                              replace q42 := eq_true q42
                                              have p53 : 0 ≤ ((ji36) : Int) := of_decide_eq_true (by first | (with_reducible assumption) | assumption)
                                              have q53 : (ji36) < (a0.size : Int) := of_decide_eq_true (by first | (with_reducible assumption) | assumption)
                                              have hx53 := bt_at a0 (ji36)
                                              replace p53 := eq_true p53
                                              replace q53 := eq_true q53
                                              have p64 : 0 ≤ ((ji36) : Int) := of_decide_eq_true (by first | (with_reducible assumption) | assumption)
                                              have q64 : (ji36) < (a0.size : Int) := of_decide_eq_true (by first | (with_reducible assumption) | assumption)
                                              have hx64 := bt_at a0 (ji36)
                                              replace p64 := eq_true p64
                                              replace q64 := eq_true q64
                                              go_wp2
                                              go_roundg k5
                                              case measure => have := HK1.out; have := HJ2.out; have := HJ10.out; have := HJ14.out; have := HK5.out; omega
                                              case rel => exact ⟨(wrap64 (x10_5 + 1)), (by first | rfl | (simp; done) | (simp [*]; done)), H', ⟨by have := HK1.out; have := HJ2.out; have := HJ10.out; have := HJ14.out; have := HK5.out; omega⟩, ⟨by (with_reducible repeat (first | apply Kd.R_alloc | apply Kd.R_drewN | apply Kd.R_drew)); exact HO_6.out⟩, ⟨by (with_reducible repeat (first | refine blk_drewN ?_ _ | refine blk_drew ?_ | refine blk_alloc ?_ _)); exact BK130.out⟩, ⟨by repeat (first | (with_reducible first | exact HB.out | apply below_alloc | apply pw_below_drewN | apply below_drew1 | refine below_set ?_ GE130.out) | exact HB.out)⟩⟩
                                      · rw [if_neg c41] at H
                                        have c41b0 : decide ((bt a0 (ji36)) ≤ 126) = false := decide_eq_false c41
                                        clear c41
                                        by_cases c75 : x10_5 = 0
                                        · rw [if_pos c75] at H
                                          have c75b0 : (x10_5 == 0) = true := beq_iff_eq.mpr c75
                                          have c75b1 : (x10_5 != 0) = false := bne_eq_false_iff_eq.mpr c75
                                          clear c75
                                          simp only [Option.some.injEq, Prod.mk.injEq] at H
                                          obtain ⟨rfl, rfl⟩ := H
                                          have p38 : 0 ≤ ((ji36) : Int) := of_decide_eq_true (by first | (with_reducible assumption) | assumption)
                                          have q38 : (ji36) < (a0.size : Int) := of_decide_eq_true (by first | (with_reducible assumption) | assumption)
                                          have hx38 := bt_at a0 (ji36)
                                          replace p38 := eq_true p38
                                          replace q38 := eq_true q38
                                          have p40 : 0 ≤ ((ji36) : Int) := of_decide_eq_true (by first | (with_reducible assumption) | assumption)
                                          have q40 : (ji36) < (a0.size : Int) := of_decide_eq_true (by first | (with_reducible assumption) | assumption)
                                          have hx40 := bt_at a0 (ji36)
                                          replace p40 := eq_true p40
                                          replace q40 := eq_true q40
                                          go_wp2
                                          go_ret2
                                          exact ⟨_, by first | rfl | (simp [errW_none, errW_some] <;> rfl) | (simp only [← hji36]; first | rfl | (simp [errW_none, errW_some] <;> rfl)) | (simp [*, errW_none, errW_some] <;> rfl), by first | exact Kd.R_nil _ _ _ _ _ | exact Kd.N_nil _ _ _ _ _ | exact Kd.V_nil _ _ _ _ _ | exact Kd.Q_nil _ _ _ _ _ | exact Kd.S_nil _ _ _ _ _, by repeat (first | (with_reducible first | exact HB.out | apply below_alloc | apply pw_below_drewN | apply below_drew1 | refine below_set ?_ GE130.out) | exact HB.out)⟩
                                        · rw [if_neg c75] at H
                                          have c75b0 : (x10_5 == 0) = false := beq_eq_false_iff_ne.mpr c75
                                          have c75b1 : (x10_5 != 0) = true := bne_iff_ne.mpr c75
                                          by_cases c76 : x10_5 > 32
                                          · rw [if_pos c76] at H
                                            have c76b0 : decide (32 < x10_5) = true := decide_eq_true c76
                                            clear c76
                                            simp only [Option.some.injEq, Prod.mk.injEq] at H
                                            obtain ⟨rfl, rfl⟩ := H
                                            have p38 : 0 ≤ ((ji36) : Int) := of_decide_eq_true (by first | (with_reducible assumption) | assumption)
                                            have q38 : (ji36) < (a0.size : Int) := of_decide_eq_true (by first | (with_reducible assumption) | assumption)
                                            have hx38 := bt_at a0 (ji36)
                                            replace p38 := eq_true p38
                                            replace q38 := eq_true q38
                                            have p40 : 0 ≤ ((ji36) : Int) := of_decide_eq_true (by first | (with_reducible assumption) | assumption)
                                            have q40 : (ji36) < (a0.size : Int) := of_decide_eq_true (by first | (with_reducible assumption) | assumption)
                                            have hx40 := bt_at a0 (ji36)
                                            replace p40 := eq_true p40
                                            replace q40 := eq_true q40
                                            go_wp2
                                            go_ret2
                                            exact ⟨_, by first | rfl | (simp [errW_none, errW_some] <;> rfl) | (simp only [← hji36]; first | rfl | (simp [errW_none, errW_some] <;> rfl)) | (simp [*, errW_none, errW_some] <;> rfl), by first | exact Kd.R_nil _ _ _ _ _ | exact Kd.N_nil _ _ _ _ _ | exact Kd.V_nil _ _ _ _ _ | exact Kd.Q_nil _ _ _ _ _ | exact Kd.S_nil _ _ _ _ _, by repeat (first | (with_reducible first | exact HB.out | apply below_alloc | apply pw_below_drewN | apply below_drew1 | refine below_set ?_ GE130.out) | exact HB.out)⟩
                                          · rw [if_neg c76] at H
                                            have c76b0 : decide (32 < x10_5) = false := decide_eq_false c76
                                            clear c76
                                            by_cases c77 : 0 ≤ x7_1
                                            · rw [if_pos c77] at H
                                              have c77b0 := eq_true c77
                                              have c77b1 : decide (0 ≤ x7_1) = true := decide_eq_true c77
                                              clear c77
                                              by_cases c78 : x7_1 ≤ (ji36)
                                              · rw [if_pos c78] at H
                                                have c78b0 := eq_true c78
                                                have c78b1 : decide (x7_1 ≤ (ji36)) = true := decide_eq_true c78
                                                clear c78
                                                by_cases c79 : (ji36) ≤ (a0.size : Int)
                                                · rw [if_pos c79] at H
                                                  have c79b0 := eq_true c79
                                                  have c79b1 : decide ((ji36) ≤ (a0.size : Int)) = true := decide_eq_true c79
                                                  clear c79
                                                  by_cases c80 : x6_1.length < 3518437208883
                                                  · rw [if_pos c80] at H
                                                    have LMc80 := Aside0.mk c80
                                                    clear c80
                                                    obtain ⟨y146, hy146⟩ : ∃ y_ : List (S40), y_ = (x6_1 ++ [(⟨3, a0.extract (x7_1 : Int).toNat ((ji36) : Int).toNat, (⟨a1, (wrap64 (x7_1 + 1))⟩ : S25)⟩ : S40)]) := ⟨_, rfl⟩
                                                    replace H : (tourbillonref03_Line.l0 k5 a0 a1 y146 (wrap64 (x7_1 + ((a0.extract (x7_1 : Int).toNat ((ji36) : Int).toNat).size : Int)))) = some (r1, r2) := by first | (rw [hy146]; with_reducible exact H) | (have H2_ := (Option.bind_some _ _).symm.trans H; rw [hy146]; with_reducible exact H2_) | (have H2_ := (Option.bind_some _ _).symm.trans H; with_reducible exact H2_) | with_reducible exact H | (rw [hy146]; exact H) | exact H
                                                    have Ny146 := Aside0.mk hy146
                                                    clear hy146
                                                    have H' := Aside0.mk H
                                                    clear H
                                                    have p38 : 0 ≤ ((ji36) : Int) := of_decide_eq_true (by first | (with_reducible assumption) | assumption)
                                                    have q38 : (ji36) < (a0.size : Int) := of_decide_eq_true (by first | (with_reducible assumption) | assumption)
                                                    have hx38 := bt_at a0 (ji36)
                                                    replace p38 := eq_true p38
                                                    replace q38 := eq_true q38
                                                    have p40 : 0 ≤ ((ji36) : Int) := of_decide_eq_true (by first | (with_reducible assumption) | assumption)
                                                    have q40 : (ji36) < (a0.size : Int) := of_decide_eq_true (by first | (with_reducible assumption) | assumption)
                                                    have hx40 := bt_at a0 (ji36)
                                                    replace p40 := eq_true p40
                                                    replace q40 := eq_true q40
                                                    have hcz81_0 : wr.cell? ⟨gb130, 0, none⟩ = some (.int .i64 0) := (blk_cell BK130.out 0).trans rfl
                                                    have hcz81_1 : wr.cell? ⟨gb130, 1, none⟩ = some (.string (⟨#[]⟩ : ByteArray)) := (blk_cell BK130.out 1).trans rfl
                                                    have hcz81_2 : wr.cell? ⟨gb130, 2, none⟩ = some (.int .i64 a1) := (blk_cell BK130.out 2).trans rfl
                                                    have hcz81_3 : wr.cell? ⟨gb130, 3, none⟩ = some (.int .i64 (wrap64 (x7_1 + 1))) := (blk_cell BK130.out 3).trans rfl
                                                    have hfz81_0 := blk_frozen BK130.out 0
                                                    have hfz81_1 := blk_frozen BK130.out 1
                                                    have hfz81_2 := blk_frozen BK130.out 2
                                                    have hfz81_3 := blk_frozen BK130.out 3
                                                    go_wp2_with (first | ((with_reducible refine gate_builtin (b := .append) (xs := #[.tmp 121, .tmp 123]) rfl ?_); at_builtin; refine Kd.R_append k40 (w0 := w) w.heap.size rfl (.tmp 121) (.tmp 123) 35 40 (.agg #[(.int .i64 0), (.string ⟨#[]⟩), (.int .i64 0), (.int .i64 0)]) 40 rfl Tryd.underlying35 info40 rfl (by decide) (by omega) u6 x6_1 (⟨3, a0.extract (x7_1 : Int).toNat ((ji36) : Int).toNat, (⟨a1, (wrap64 (x7_1 + 1))⟩ : S25)⟩ : S40) [.int .i64 3, .string (a0.extract (x7_1 : Int).toNat ((ji36) : Int).toNat), .int .i64 a1, .int .i64 (wrap64 (x7_1 + 1))] (fun k_ => k_ ≠ gb130) (fun _ => False) rfl (by first | (go_simp; done) | (go_simp; rfl)) ?aP (fun _ hk => hk.elim) ?aF ?aO ?aB ?aS ?aL ?_; (case aP => exact k40_mkM _ _ _ (⟨3, a0.extract (x7_1 : Int).toNat ((ji36) : Int).toNat, (⟨a1, (wrap64 (x7_1 + 1))⟩ : S25)⟩ : S40)); (case aB => exact (by repeat (first | (with_reducible first | exact HB.out | apply below_alloc | apply pw_below_drewN | apply below_drew1 | refine below_set ?_ GE130.out) | exact HB.out))); (case aF => exact (fun k_ hk => Kd.freshB (g := gb130) (o := .cells #[.int .i64 3, .string (a0.extract (x7_1 : Int).toNat ((ji36) : Int).toNat), .int .i64 a1, .int .i64 (wrap64 (x7_1 + 1))] 40 (0, 0)) (by (with_reducible repeat (first | refine blk_drewN ?_ _ | refine blk_drew ?_ | refine blk_alloc ?_ _)); refine blk_put (cs := #[.int .i64 3, .string (⟨#[]⟩ : ByteArray), .int .i64 a1, .int .i64 (wrap64 (x7_1 + 1))]) ?_ 1 _ rfl; (with_reducible repeat (first | refine blk_drewN ?_ _ | refine blk_drew ?_ | refine blk_alloc ?_ _)); refine blk_put (cs := #[.int .i64 0, .string (⟨#[]⟩ : ByteArray), .int .i64 a1, .int .i64 (wrap64 (x7_1 + 1))]) ?_ 0 _ rfl; (with_reducible repeat (first | refine blk_drewN ?_ _ | refine blk_drew ?_ | refine blk_alloc ?_ _)); exact BK130.out) k_ hk)); (case aO => exact (by (with_reducible repeat (first | apply Kd.R_alloc | apply Kd.R_drewN | apply Kd.R_drew)); exact Kd.R_mono (Kd.R_far (p := ⟨gb130, 1, none⟩) (Kd.R_far (p := ⟨gb130, 0, none⟩) (Kd.R_mono HO_6.out (fun k_ hk => (⟨hk, hk⟩ : _ ∧ k_ ≠ gb130))) (fun _ hk => hk.2) (.int .i64 3)) (fun _ hk => hk.2) (.string (a0.extract (x7_1 : Int).toNat ((ji36) : Int).toNat))) (fun _ hk => hk.1))); (case aS => exact (below_size (by repeat (first | (with_reducible first | exact HB.out | apply below_alloc | apply pw_below_drewN | apply below_drew1 | refine below_set ?_ GE130.out) | exact HB.out)))); (case aL => have := LMc80.out; omega); intro v147 w82 ho hb hg hat; rw [← Ny146.out] at ho; have n0_ := Aside0.mk (blk_grown (g := gb130) (o := .cells #[.int .i64 3, .string (a0.extract (x7_1 : Int).toNat ((ji36) : Int).toNat), .int .i64 a1, .int .i64 (wrap64 (x7_1 + 1))] 40 (0, 0)) (by (with_reducible repeat (first | refine blk_drewN ?_ _ | refine blk_drew ?_ | refine blk_alloc ?_ _)); refine blk_put (cs := #[.int .i64 3, .string (⟨#[]⟩ : ByteArray), .int .i64 a1, .int .i64 (wrap64 (x7_1 + 1))]) ?_ 1 _ rfl; (with_reducible repeat (first | refine blk_drewN ?_ _ | refine blk_drew ?_ | refine blk_alloc ?_ _)); refine blk_put (cs := #[.int .i64 0, .string (⟨#[]⟩ : ByteArray), .int .i64 a1, .int .i64 (wrap64 (x7_1 + 1))]) ?_ 0 _ rfl; (with_reducible repeat (first | refine blk_drewN ?_ _ | refine blk_drew ?_ | refine blk_alloc ?_ _)); exact BK130.out) hg (Kd.R_away HO_6.out (fun _ hk => hk))); have n1_ := Aside0.mk (hb); have n2_ := Aside0.mk (ho); clear BK130; clear HB; clear HO_6; have BK130 := n0_; have HB := n1_; have HO148 := n2_; clear n0_ n1_ n2_; clear ho hb hg hat; have hcz83_0 : w82.cell? ⟨gb130, 0, none⟩ = some (.int .i64 3) := (blk_cell BK130.out 0).trans rfl; have hcz83_1 : w82.cell? ⟨gb130, 1, none⟩ = some (.string (a0.extract (x7_1 : Int).toNat ((ji36) : Int).toNat)) := (blk_cell BK130.out 1).trans rfl; have hcz83_2 : w82.cell? ⟨gb130, 2, none⟩ = some (.int .i64 a1) := (blk_cell BK130.out 2).trans rfl; have hcz83_3 : w82.cell? ⟨gb130, 3, none⟩ = some (.int .i64 (wrap64 (x7_1 + 1))) := (blk_cell BK130.out 3).trans rfl; have hfz83_0 := blk_frozen BK130.out 0; have hfz83_1 := blk_frozen BK130.out 1; have hfz83_2 := blk_frozen BK130.out 2; have hfz83_3 := blk_frozen BK130.out 3))
                                                    go_roundg k5
                                                    case measure => have := HK1.out; have := HJ2.out; have := HJ10.out; have := HJ14.out; have := HK5.out; omega
                                                    case rel => exact ⟨(y146), (wrap64 (x7_1 + ((a0.extract (x7_1 : Int).toNat ((ji36) : Int).toNat).size : Int))), (by first | rfl | (simp only [ByteArray.size_extract]; rw [Nat.min_eq_left (Int.toNat_le.mpr (of_eq_true (by assumption)))]; done) | (simp; done) | (simp only [← hji36] <;> (first | rfl | simp)) | (simp [*]; done)), H', ⟨by have := HK1.out; have := HJ2.out; have := HJ10.out; have := HJ14.out; have := HK5.out; omega⟩, ⟨by (with_reducible repeat (first | apply Kd.R_alloc | apply Kd.R_drewN | apply Kd.R_drew)); exact Kd.R_mono HO148.out (fun _ hk => trivial)⟩, ⟨by repeat (first | (with_reducible first | exact HB.out | apply below_alloc | apply pw_below_drewN | apply below_drew1 | refine below_set ?_ GE130.out) | exact HB.out)⟩⟩
                                                  · rw [if_neg c80] at H
                                                    exact absurd H (by simp)
                                                · rw [if_neg c79] at H
                                                  exact absurd H (by simp)
                                              · rw [if_neg c78] at H
                                                exact absurd H (by simp)
                                            · rw [if_neg c77] at H
                                              exact absurd H (by simp)
                                    · rw [if_neg c39] at H
                                      have c39b0 : decide (33 ≤ (bt a0 (ji36))) = false := decide_eq_false c39
                                      clear c39
                                      by_cases c84 : x10_5 = 0
                                      · rw [if_pos c84] at H
                                        have c84b0 : (x10_5 == 0) = true := beq_iff_eq.mpr c84
                                        have c84b1 : (x10_5 != 0) = false := bne_eq_false_iff_eq.mpr c84
                                        clear c84
                                        simp only [Option.some.injEq, Prod.mk.injEq] at H
                                        obtain ⟨rfl, rfl⟩ := H
                                        have p38 : 0 ≤ ((ji36) : Int) := of_decide_eq_true (by first | (with_reducible assumption) | assumption)
                                        have q38 : (ji36) < (a0.size : Int) := of_decide_eq_true (by first | (with_reducible assumption) | assumption)
                                        have hx38 := bt_at a0 (ji36)
                                        replace p38 := eq_true p38
                                        replace q38 := eq_true q38
                                        go_wp2
                                        go_ret2
                                        exact ⟨_, by first | rfl | (simp [errW_none, errW_some] <;> rfl) | (simp only [← hji36]; first | rfl | (simp [errW_none, errW_some] <;> rfl)) | (simp [*, errW_none, errW_some] <;> rfl), by first | exact Kd.R_nil _ _ _ _ _ | exact Kd.N_nil _ _ _ _ _ | exact Kd.V_nil _ _ _ _ _ | exact Kd.Q_nil _ _ _ _ _ | exact Kd.S_nil _ _ _ _ _, by repeat (first | (with_reducible first | exact HB.out | apply below_alloc | apply pw_below_drewN | apply below_drew1 | refine below_set ?_ GE130.out) | exact HB.out)⟩
                                      · rw [if_neg c84] at H
                                        have c84b0 : (x10_5 == 0) = false := beq_eq_false_iff_ne.mpr c84
                                        have c84b1 : (x10_5 != 0) = true := bne_iff_ne.mpr c84
                                        by_cases c85 : x10_5 > 32
                                        · rw [if_pos c85] at H
                                          have c85b0 : decide (32 < x10_5) = true := decide_eq_true c85
                                          clear c85
                                          simp only [Option.some.injEq, Prod.mk.injEq] at H
                                          obtain ⟨rfl, rfl⟩ := H
                                          have p38 : 0 ≤ ((ji36) : Int) := of_decide_eq_true (by first | (with_reducible assumption) | assumption)
                                          have q38 : (ji36) < (a0.size : Int) := of_decide_eq_true (by first | (with_reducible assumption) | assumption)
                                          have hx38 := bt_at a0 (ji36)
                                          replace p38 := eq_true p38
                                          replace q38 := eq_true q38
                                          go_wp2
                                          go_ret2
                                          exact ⟨_, by first | rfl | (simp [errW_none, errW_some] <;> rfl) | (simp only [← hji36]; first | rfl | (simp [errW_none, errW_some] <;> rfl)) | (simp [*, errW_none, errW_some] <;> rfl), by first | exact Kd.R_nil _ _ _ _ _ | exact Kd.N_nil _ _ _ _ _ | exact Kd.V_nil _ _ _ _ _ | exact Kd.Q_nil _ _ _ _ _ | exact Kd.S_nil _ _ _ _ _, by repeat (first | (with_reducible first | exact HB.out | apply below_alloc | apply pw_below_drewN | apply below_drew1 | refine below_set ?_ GE130.out) | exact HB.out)⟩
                                        · rw [if_neg c85] at H
                                          have c85b0 : decide (32 < x10_5) = false := decide_eq_false c85
                                          clear c85
                                          by_cases c86 : 0 ≤ x7_1
                                          · rw [if_pos c86] at H
                                            have c86b0 := eq_true c86
                                            have c86b1 : decide (0 ≤ x7_1) = true := decide_eq_true c86
                                            clear c86
                                            by_cases c87 : x7_1 ≤ (ji36)
                                            · rw [if_pos c87] at H
                                              have c87b0 := eq_true c87
                                              have c87b1 : decide (x7_1 ≤ (ji36)) = true := decide_eq_true c87
                                              clear c87
                                              by_cases c88 : (ji36) ≤ (a0.size : Int)
                                              · rw [if_pos c88] at H
                                                have c88b0 := eq_true c88
                                                have c88b1 : decide ((ji36) ≤ (a0.size : Int)) = true := decide_eq_true c88
                                                clear c88
                                                by_cases c89 : x6_1.length < 3518437208883
                                                · rw [if_pos c89] at H
                                                  have LMc89 := Aside0.mk c89
                                                  clear c89
                                                  obtain ⟨y149, hy149⟩ : ∃ y_ : List (S40), y_ = (x6_1 ++ [(⟨3, a0.extract (x7_1 : Int).toNat ((ji36) : Int).toNat, (⟨a1, (wrap64 (x7_1 + 1))⟩ : S25)⟩ : S40)]) := ⟨_, rfl⟩
                                                  replace H : (tourbillonref03_Line.l0 k5 a0 a1 y149 (wrap64 (x7_1 + ((a0.extract (x7_1 : Int).toNat ((ji36) : Int).toNat).size : Int)))) = some (r1, r2) := by first | (rw [hy149]; with_reducible exact H) | (have H2_ := (Option.bind_some _ _).symm.trans H; rw [hy149]; with_reducible exact H2_) | (have H2_ := (Option.bind_some _ _).symm.trans H; with_reducible exact H2_) | with_reducible exact H | (rw [hy149]; exact H) | exact H
                                                  have Ny149 := Aside0.mk hy149
                                                  clear hy149
                                                  have H' := Aside0.mk H
                                                  clear H
                                                  have p38 : 0 ≤ ((ji36) : Int) := of_decide_eq_true (by first | (with_reducible assumption) | assumption)
                                                  have q38 : (ji36) < (a0.size : Int) := of_decide_eq_true (by first | (with_reducible assumption) | assumption)
                                                  have hx38 := bt_at a0 (ji36)
                                                  replace p38 := eq_true p38
                                                  replace q38 := eq_true q38
                                                  have hcz90_0 : wr.cell? ⟨gb130, 0, none⟩ = some (.int .i64 0) := (blk_cell BK130.out 0).trans rfl
                                                  have hcz90_1 : wr.cell? ⟨gb130, 1, none⟩ = some (.string (⟨#[]⟩ : ByteArray)) := (blk_cell BK130.out 1).trans rfl
                                                  have hcz90_2 : wr.cell? ⟨gb130, 2, none⟩ = some (.int .i64 a1) := (blk_cell BK130.out 2).trans rfl
                                                  have hcz90_3 : wr.cell? ⟨gb130, 3, none⟩ = some (.int .i64 (wrap64 (x7_1 + 1))) := (blk_cell BK130.out 3).trans rfl
                                                  have hfz90_0 := blk_frozen BK130.out 0
                                                  have hfz90_1 := blk_frozen BK130.out 1
                                                  have hfz90_2 := blk_frozen BK130.out 2
                                                  have hfz90_3 := blk_frozen BK130.out 3
                                                  go_wp2_with (first | ((with_reducible refine gate_builtin (b := .append) (xs := #[.tmp 121, .tmp 123]) rfl ?_); at_builtin; refine Kd.R_append k40 (w0 := w) w.heap.size rfl (.tmp 121) (.tmp 123) 35 40 (.agg #[(.int .i64 0), (.string ⟨#[]⟩), (.int .i64 0), (.int .i64 0)]) 40 rfl Tryd.underlying35 info40 rfl (by decide) (by omega) u6 x6_1 (⟨3, a0.extract (x7_1 : Int).toNat ((ji36) : Int).toNat, (⟨a1, (wrap64 (x7_1 + 1))⟩ : S25)⟩ : S40) [.int .i64 3, .string (a0.extract (x7_1 : Int).toNat ((ji36) : Int).toNat), .int .i64 a1, .int .i64 (wrap64 (x7_1 + 1))] (fun k_ => k_ ≠ gb130) (fun _ => False) rfl (by first | (go_simp; done) | (go_simp; rfl)) ?aP (fun _ hk => hk.elim) ?aF ?aO ?aB ?aS ?aL ?_; (case aP => exact k40_mkM _ _ _ (⟨3, a0.extract (x7_1 : Int).toNat ((ji36) : Int).toNat, (⟨a1, (wrap64 (x7_1 + 1))⟩ : S25)⟩ : S40)); (case aB => exact (by repeat (first | (with_reducible first | exact HB.out | apply below_alloc | apply pw_below_drewN | apply below_drew1 | refine below_set ?_ GE130.out) | exact HB.out))); (case aF => exact (fun k_ hk => Kd.freshB (g := gb130) (o := .cells #[.int .i64 3, .string (a0.extract (x7_1 : Int).toNat ((ji36) : Int).toNat), .int .i64 a1, .int .i64 (wrap64 (x7_1 + 1))] 40 (0, 0)) (by (with_reducible repeat (first | refine blk_drewN ?_ _ | refine blk_drew ?_ | refine blk_alloc ?_ _)); refine blk_put (cs := #[.int .i64 3, .string (⟨#[]⟩ : ByteArray), .int .i64 a1, .int .i64 (wrap64 (x7_1 + 1))]) ?_ 1 _ rfl; (with_reducible repeat (first | refine blk_drewN ?_ _ | refine blk_drew ?_ | refine blk_alloc ?_ _)); refine blk_put (cs := #[.int .i64 0, .string (⟨#[]⟩ : ByteArray), .int .i64 a1, .int .i64 (wrap64 (x7_1 + 1))]) ?_ 0 _ rfl; (with_reducible repeat (first | refine blk_drewN ?_ _ | refine blk_drew ?_ | refine blk_alloc ?_ _)); exact BK130.out) k_ hk)); (case aO => exact (by (with_reducible repeat (first | apply Kd.R_alloc | apply Kd.R_drewN | apply Kd.R_drew)); exact Kd.R_mono (Kd.R_far (p := ⟨gb130, 1, none⟩) (Kd.R_far (p := ⟨gb130, 0, none⟩) (Kd.R_mono HO_6.out (fun k_ hk => (⟨hk, hk⟩ : _ ∧ k_ ≠ gb130))) (fun _ hk => hk.2) (.int .i64 3)) (fun _ hk => hk.2) (.string (a0.extract (x7_1 : Int).toNat ((ji36) : Int).toNat))) (fun _ hk => hk.1))); (case aS => exact (below_size (by repeat (first | (with_reducible first | exact HB.out | apply below_alloc | apply pw_below_drewN | apply below_drew1 | refine below_set ?_ GE130.out) | exact HB.out)))); (case aL => have := LMc89.out; omega); intro v150 w91 ho hb hg hat; rw [← Ny149.out] at ho; have n0_ := Aside0.mk (blk_grown (g := gb130) (o := .cells #[.int .i64 3, .string (a0.extract (x7_1 : Int).toNat ((ji36) : Int).toNat), .int .i64 a1, .int .i64 (wrap64 (x7_1 + 1))] 40 (0, 0)) (by (with_reducible repeat (first | refine blk_drewN ?_ _ | refine blk_drew ?_ | refine blk_alloc ?_ _)); refine blk_put (cs := #[.int .i64 3, .string (⟨#[]⟩ : ByteArray), .int .i64 a1, .int .i64 (wrap64 (x7_1 + 1))]) ?_ 1 _ rfl; (with_reducible repeat (first | refine blk_drewN ?_ _ | refine blk_drew ?_ | refine blk_alloc ?_ _)); refine blk_put (cs := #[.int .i64 0, .string (⟨#[]⟩ : ByteArray), .int .i64 a1, .int .i64 (wrap64 (x7_1 + 1))]) ?_ 0 _ rfl; (with_reducible repeat (first | refine blk_drewN ?_ _ | refine blk_drew ?_ | refine blk_alloc ?_ _)); exact BK130.out) hg (Kd.R_away HO_6.out (fun _ hk => hk))); have n1_ := Aside0.mk (hb); have n2_ := Aside0.mk (ho); clear BK130; clear HB; clear HO_6; have BK130 := n0_; have HB := n1_; have HO151 := n2_; clear n0_ n1_ n2_; clear ho hb hg hat; have hcz92_0 : w91.cell? ⟨gb130, 0, none⟩ = some (.int .i64 3) := (blk_cell BK130.out 0).trans rfl; have hcz92_1 : w91.cell? ⟨gb130, 1, none⟩ = some (.string (a0.extract (x7_1 : Int).toNat ((ji36) : Int).toNat)) := (blk_cell BK130.out 1).trans rfl; have hcz92_2 : w91.cell? ⟨gb130, 2, none⟩ = some (.int .i64 a1) := (blk_cell BK130.out 2).trans rfl; have hcz92_3 : w91.cell? ⟨gb130, 3, none⟩ = some (.int .i64 (wrap64 (x7_1 + 1))) := (blk_cell BK130.out 3).trans rfl; have hfz92_0 := blk_frozen BK130.out 0; have hfz92_1 := blk_frozen BK130.out 1; have hfz92_2 := blk_frozen BK130.out 2; have hfz92_3 := blk_frozen BK130.out 3))
                                                  go_roundg k5
                                                  case measure => have := HK1.out; have := HJ2.out; have := HJ10.out; have := HJ14.out; have := HK5.out; omega
                                                  case rel => exact ⟨(y149), (wrap64 (x7_1 + ((a0.extract (x7_1 : Int).toNat ((ji36) : Int).toNat).size : Int))), (by first | rfl | (simp only [ByteArray.size_extract]; rw [Nat.min_eq_left (Int.toNat_le.mpr (of_eq_true (by assumption)))]; done) | (simp; done) | (simp only [← hji36] <;> (first | rfl | simp)) | (simp [*]; done)), H', ⟨by have := HK1.out; have := HJ2.out; have := HJ10.out; have := HJ14.out; have := HK5.out; omega⟩, ⟨by (with_reducible repeat (first | apply Kd.R_alloc | apply Kd.R_drewN | apply Kd.R_drew)); exact Kd.R_mono HO151.out (fun _ hk => trivial)⟩, ⟨by repeat (first | (with_reducible first | exact HB.out | apply below_alloc | apply pw_below_drewN | apply below_drew1 | refine below_set ?_ GE130.out) | exact HB.out)⟩⟩
                                                · rw [if_neg c89] at H
                                                  exact absurd H (by simp)
                                              · rw [if_neg c88] at H
                                                exact absurd H (by simp)
                                            · rw [if_neg c87] at H
                                              exact absurd H (by simp)
                                          · rw [if_neg c86] at H
                                            exact absurd H (by simp)
                                  · rw [if_neg c37] at H
                                    exact absurd H (by simp)
                                · rw [if_neg c35] at H
                                  have c35b0 : decide ((wrap64 (x7_1 + x10_5)) < (a0.size : Int)) = false := decide_eq_false c35
                                  clear c35
                                  by_cases c93 : x10_5 = 0
                                  · rw [if_pos c93] at H
                                    have c93b0 : (x10_5 == 0) = true := beq_iff_eq.mpr c93
                                    have c93b1 : (x10_5 != 0) = false := bne_eq_false_iff_eq.mpr c93
                                    clear c93
                                    simp only [Option.some.injEq, Prod.mk.injEq] at H
                                    obtain ⟨rfl, rfl⟩ := H
                                    go_wp2
                                    go_ret2
                                    exact ⟨_, by first | rfl | (simp [errW_none, errW_some] <;> rfl) | (simp [*, errW_none, errW_some] <;> rfl), by first | exact Kd.R_nil _ _ _ _ _ | exact Kd.N_nil _ _ _ _ _ | exact Kd.V_nil _ _ _ _ _ | exact Kd.Q_nil _ _ _ _ _ | exact Kd.S_nil _ _ _ _ _, by repeat (first | (with_reducible first | exact HB.out | apply below_alloc | apply pw_below_drewN | apply below_drew1 | refine below_set ?_ GE130.out) | exact HB.out)⟩
                                  · rw [if_neg c93] at H
                                    have c93b0 : (x10_5 == 0) = false := beq_eq_false_iff_ne.mpr c93
                                    have c93b1 : (x10_5 != 0) = true := bne_iff_ne.mpr c93
                                    by_cases c94 : x10_5 > 32
                                    · rw [if_pos c94] at H
                                      have c94b0 : decide (32 < x10_5) = true := decide_eq_true c94
                                      clear c94
                                      simp only [Option.some.injEq, Prod.mk.injEq] at H
                                      obtain ⟨rfl, rfl⟩ := H
                                      go_wp2
                                      go_ret2
                                      exact ⟨_, by first | rfl | (simp [errW_none, errW_some] <;> rfl) | (simp [*, errW_none, errW_some] <;> rfl), by first | exact Kd.R_nil _ _ _ _ _ | exact Kd.N_nil _ _ _ _ _ | exact Kd.V_nil _ _ _ _ _ | exact Kd.Q_nil _ _ _ _ _ | exact Kd.S_nil _ _ _ _ _, by repeat (first | (with_reducible first | exact HB.out | apply below_alloc | apply pw_below_drewN | apply below_drew1 | refine below_set ?_ GE130.out) | exact HB.out)⟩
                                    · rw [if_neg c94] at H
                                      have c94b0 : decide (32 < x10_5) = false := decide_eq_false c94
                                      clear c94
                                      by_cases c95 : 0 ≤ x7_1
                                      · rw [if_pos c95] at H
                                        have c95b0 := eq_true c95
                                        have c95b1 : decide (0 ≤ x7_1) = true := decide_eq_true c95
                                        clear c95
                                        by_cases c96 : x7_1 ≤ (wrap64 (x7_1 + x10_5))
                                        · rw [if_pos c96] at H
                                          have c96b0 := eq_true c96
                                          have c96b1 : decide (x7_1 ≤ (wrap64 (x7_1 + x10_5))) = true := decide_eq_true c96
                                          by_cases c97 : (wrap64 (x7_1 + x10_5)) ≤ (a0.size : Int)
                                          · rw [if_pos c97] at H
                                            have c97b0 := eq_true c97
                                            have c97b1 : decide ((wrap64 (x7_1 + x10_5)) ≤ (a0.size : Int)) = true := decide_eq_true c97
                                            by_cases c98 : x6_1.length < 3518437208883
                                            · rw [if_pos c98] at H
                                              have LMc98 := Aside0.mk c98
                                              clear c98
                                              obtain ⟨y152, hy152⟩ : ∃ y_ : List (S40), y_ = (x6_1 ++ [(⟨3, a0.extract (x7_1 : Int).toNat ((wrap64 (x7_1 + x10_5)) : Int).toNat, (⟨a1, (wrap64 (x7_1 + 1))⟩ : S25)⟩ : S40)]) := ⟨_, rfl⟩
                                              replace H : (tourbillonref03_Line.l0 k5 a0 a1 y152 (wrap64 (x7_1 + ((a0.extract (x7_1 : Int).toNat ((wrap64 (x7_1 + x10_5)) : Int).toNat).size : Int)))) = some (r1, r2) := by first | (rw [hy152]; with_reducible exact H) | (have H2_ := (Option.bind_some _ _).symm.trans H; rw [hy152]; with_reducible exact H2_) | (have H2_ := (Option.bind_some _ _).symm.trans H; with_reducible exact H2_) | with_reducible exact H | (rw [hy152]; exact H) | exact H
                                              have Ny152 := Aside0.mk hy152
                                              clear hy152
                                              have H' := Aside0.mk H
                                              clear H
                                              have hcz99_0 : wr.cell? ⟨gb130, 0, none⟩ = some (.int .i64 0) := (blk_cell BK130.out 0).trans rfl
                                              have hcz99_1 : wr.cell? ⟨gb130, 1, none⟩ = some (.string (⟨#[]⟩ : ByteArray)) := (blk_cell BK130.out 1).trans rfl
                                              have hcz99_2 : wr.cell? ⟨gb130, 2, none⟩ = some (.int .i64 a1) := (blk_cell BK130.out 2).trans rfl
                                              have hcz99_3 : wr.cell? ⟨gb130, 3, none⟩ = some (.int .i64 (wrap64 (x7_1 + 1))) := (blk_cell BK130.out 3).trans rfl
                                              have hfz99_0 := blk_frozen BK130.out 0
                                              have hfz99_1 := blk_frozen BK130.out 1
                                              have hfz99_2 := blk_frozen BK130.out 2
                                              have hfz99_3 := blk_frozen BK130.out 3
                                              go_wp2_with (first | ((with_reducible refine gate_builtin (b := .append) (xs := #[.tmp 121, .tmp 123]) rfl ?_); at_builtin; refine Kd.R_append k40 (w0 := w) w.heap.size rfl (.tmp 121) (.tmp 123) 35 40 (.agg #[(.int .i64 0), (.string ⟨#[]⟩), (.int .i64 0), (.int .i64 0)]) 40 rfl Tryd.underlying35 info40 rfl (by decide) (by omega) u6 x6_1 (⟨3, a0.extract (x7_1 : Int).toNat ((wrap64 (x7_1 + x10_5)) : Int).toNat, (⟨a1, (wrap64 (x7_1 + 1))⟩ : S25)⟩ : S40) [.int .i64 3, .string (a0.extract (x7_1 : Int).toNat ((wrap64 (x7_1 + x10_5)) : Int).toNat), .int .i64 a1, .int .i64 (wrap64 (x7_1 + 1))] (fun k_ => k_ ≠ gb130) (fun _ => False) rfl (by first | (go_simp; done) | (go_simp; rfl)) ?aP (fun _ hk => hk.elim) ?aF ?aO ?aB ?aS ?aL ?_; (case aP => exact k40_mkM _ _ _ (⟨3, a0.extract (x7_1 : Int).toNat ((wrap64 (x7_1 + x10_5)) : Int).toNat, (⟨a1, (wrap64 (x7_1 + 1))⟩ : S25)⟩ : S40)); (case aB => exact (by repeat (first | (with_reducible first | exact HB.out | apply below_alloc | apply pw_below_drewN | apply below_drew1 | refine below_set ?_ GE130.out) | exact HB.out))); (case aF => exact (fun k_ hk => Kd.freshB (g := gb130) (o := .cells #[.int .i64 3, .string (a0.extract (x7_1 : Int).toNat ((wrap64 (x7_1 + x10_5)) : Int).toNat), .int .i64 a1, .int .i64 (wrap64 (x7_1 + 1))] 40 (0, 0)) (by (with_reducible repeat (first | refine blk_drewN ?_ _ | refine blk_drew ?_ | refine blk_alloc ?_ _)); refine blk_put (cs := #[.int .i64 3, .string (⟨#[]⟩ : ByteArray), .int .i64 a1, .int .i64 (wrap64 (x7_1 + 1))]) ?_ 1 _ rfl; (with_reducible repeat (first | refine blk_drewN ?_ _ | refine blk_drew ?_ | refine blk_alloc ?_ _)); refine blk_put (cs := #[.int .i64 0, .string (⟨#[]⟩ : ByteArray), .int .i64 a1, .int .i64 (wrap64 (x7_1 + 1))]) ?_ 0 _ rfl; (with_reducible repeat (first | refine blk_drewN ?_ _ | refine blk_drew ?_ | refine blk_alloc ?_ _)); exact BK130.out) k_ hk)); (case aO => exact (by (with_reducible repeat (first | apply Kd.R_alloc | apply Kd.R_drewN | apply Kd.R_drew)); exact Kd.R_mono (Kd.R_far (p := ⟨gb130, 1, none⟩) (Kd.R_far (p := ⟨gb130, 0, none⟩) (Kd.R_mono HO_6.out (fun k_ hk => (⟨hk, hk⟩ : _ ∧ k_ ≠ gb130))) (fun _ hk => hk.2) (.int .i64 3)) (fun _ hk => hk.2) (.string (a0.extract (x7_1 : Int).toNat ((wrap64 (x7_1 + x10_5)) : Int).toNat))) (fun _ hk => hk.1))); (case aS => exact (below_size (by repeat (first | (with_reducible first | exact HB.out | apply below_alloc | apply pw_below_drewN | apply below_drew1 | refine below_set ?_ GE130.out) | exact HB.out)))); (case aL => have := LMc98.out; omega); intro v153 w100 ho hb hg hat; rw [← Ny152.out] at ho; have n0_ := Aside0.mk (blk_grown (g := gb130) (o := .cells #[.int .i64 3, .string (a0.extract (x7_1 : Int).toNat ((wrap64 (x7_1 + x10_5)) : Int).toNat), .int .i64 a1, .int .i64 (wrap64 (x7_1 + 1))] 40 (0, 0)) (by (with_reducible repeat (first | refine blk_drewN ?_ _ | refine blk_drew ?_ | refine blk_alloc ?_ _)); refine blk_put (cs := #[.int .i64 3, .string (⟨#[]⟩ : ByteArray), .int .i64 a1, .int .i64 (wrap64 (x7_1 + 1))]) ?_ 1 _ rfl; (with_reducible repeat (first | refine blk_drewN ?_ _ | refine blk_drew ?_ | refine blk_alloc ?_ _)); refine blk_put (cs := #[.int .i64 0, .string (⟨#[]⟩ : ByteArray), .int .i64 a1, .int .i64 (wrap64 (x7_1 + 1))]) ?_ 0 _ rfl; (with_reducible repeat (first | refine blk_drewN ?_ _ | refine blk_drew ?_ | refine blk_alloc ?_ _)); exact BK130.out) hg (Kd.R_away HO_6.out (fun _ hk => hk))); have n1_ := Aside0.mk (hb); have n2_ := Aside0.mk (ho); clear BK130; clear HB; clear HO_6; have BK130 := n0_; have HB := n1_; have HO154 := n2_; clear n0_ n1_ n2_; clear ho hb hg hat; have hcz101_0 : w100.cell? ⟨gb130, 0, none⟩ = some (.int .i64 3) := (blk_cell BK130.out 0).trans rfl; have hcz101_1 : w100.cell? ⟨gb130, 1, none⟩ = some (.string (a0.extract (x7_1 : Int).toNat ((wrap64 (x7_1 + x10_5)) : Int).toNat)) := (blk_cell BK130.out 1).trans rfl; have hcz101_2 : w100.cell? ⟨gb130, 2, none⟩ = some (.int .i64 a1) := (blk_cell BK130.out 2).trans rfl; have hcz101_3 : w100.cell? ⟨gb130, 3, none⟩ = some (.int .i64 (wrap64 (x7_1 + 1))) := (blk_cell BK130.out 3).trans rfl; have hfz101_0 := blk_frozen BK130.out 0; have hfz101_1 := blk_frozen BK130.out 1; have hfz101_2 := blk_frozen BK130.out 2; have hfz101_3 := blk_frozen BK130.out 3))
                                              go_roundg k5
                                              case measure => have := HK1.out; have := HJ2.out; have := HJ10.out; have := HJ14.out; have := HK5.out; omega
                                              case rel => exact ⟨(y152), (wrap64 (x7_1 + ((a0.extract (x7_1 : Int).toNat ((wrap64 (x7_1 + x10_5)) : Int).toNat).size : Int))), (by first | rfl | (simp; done) | (simp [*]; done)), H', ⟨by have := HK1.out; have := HJ2.out; have := HJ10.out; have := HJ14.out; have := HK5.out; omega⟩, ⟨by (with_reducible repeat (first | apply Kd.R_alloc | apply Kd.R_drewN | apply Kd.R_drew)); exact Kd.R_mono HO154.out (fun _ hk => trivial)⟩, ⟨by repeat (first | (with_reducible first | exact HB.out | apply below_alloc | apply pw_below_drewN | apply below_drew1 | refine below_set ?_ GE130.out) | exact HB.out)⟩⟩
                                            · rw [if_neg c98] at H
                                              exact absurd H (by simp)
                                          · rw [if_neg c97] at H
                                            exact absurd H (by simp)
                                        · rw [if_neg c96] at H
                                          exact absurd H (by simp)
                                      · rw [if_neg c95] at H
                                        exact absurd H (by simp)
              · rw [if_neg c9] at H
                exact absurd H (by simp)
            · rw [if_neg c8] at H
              exact absurd H (by simp)
          · replace c7 := Bool.eq_false_iff.mpr c7
            subst c7
            have H1 : (some (x6_1, 0)) = some (r1, r2) := by rw [if_neg (show ¬ (false = true) by decide)] at H; exact H
            clear H
            have H := H1
            clear H1
            simp only [Option.some.injEq, Prod.mk.injEq] at H
            obtain ⟨rfl, rfl⟩ := H
            go_wp2
            go_ret2
            exact ⟨_, by first | rfl | (simp [errW_none, errW_some] <;> rfl) | (simp [*, errW_none, errW_some] <;> rfl), by (with_reducible repeat (first | apply Kd.R_alloc | apply Kd.R_drewN | apply Kd.R_drew)); exact HO_6.out, by repeat (first | (with_reducible first | exact HB.out | apply below_alloc | apply pw_below_drewN | apply below_drew1) | exact HB.out)⟩

end Go.Proofs.YtlggmdlbhndacaaDoor.Lx
