import Derived.Test.YtgkfenekaagllaaProg
import Derived.Test.YtgkfenekaagllaaNum
import Derived.Below
import Derived.Deep.Draws
import Derived.Tactics
import Derived.WalkKit
import Derived.IntWalk
import Derived.KernelRfl
import Derived.RowKit3
import Derived.Deep.LoopGhost
import Derived.Deep.QuietTactic
import Derived.BigQuiet
import Derived.Deep.DeepCutAuto
import Derived.Laws.BitsLemmas
import Derived.Lib.Hide
import Derived.Outline
/- The word functions, walked: each by one contract that tells its answer in plain numbers. -/
namespace Go.Proofs.Ytgkfenekaagllaa.Walk
open Go.RowKit Go.Proofs.Ytgkfenekaagllaa.Num

theorem max2_ints (k : IntKind) (a b : Int) : Builtin.max2 (.int k a) (.int k b) = (pure (.int k (if a < b then b else a)) : Sem Value) := by
  simp only [Builtin.max2, gt_iff_lt]
theorem max_of_two (ats : Array TypeId) (ty : TypeId) (a b : Value) : Builtin.max_ ats ty #[a, b] = (Builtin.max2 a b >>= fun s => pure s) := by simp only [Builtin.max_, List.foldlM_cons, List.foldlM_nil]
theorem ret_int {k : IntKind} {a b : Int} (h : a = b) : Ending.returned (.int k a) = .returned (.int k b) := by rw [h]
theorem ret_bool {a b : Bool} (h : a = b) : Ending.returned (.bool a) = .returned (.bool b) := by rw [h]
def goodB (f n : Int) : Bool := decide (0 ≤ f ∧ 0 ≤ n ∧ f ≤ 32 ∧ f + n ≤ 32)
theorem goodB_true {f n : Int} (h : goodB f n = true) : 0 ≤ f ∧ 0 ≤ n ∧ f ≤ 32 ∧ f + n ≤ 32 := by simpa [goodB] using h
theorem goodB_false {f n : Int} (h : ¬ (0 ≤ f ∧ 0 ≤ n ∧ f ≤ 32 ∧ f + n ≤ 32)) : goodB f n = false := by simpa [goodB] using h
theorem good_any (f n : Int) (w : World) (hn : -9223372036854775808 ≤ n) (hn1 : n ≤ 9223372036854775807) :
    Calls Try.prog 19 #[.int .i64 f, .int .i64 n] w fun e w' => e = .returned (.bool (goodB f n)) ∧ w' = w := by
  by_cases h1 : 0 ≤ f
  · by_cases h2 : 0 ≤ n
    · by_cases h3 : f ≤ 32
      · go_enter Try.func19, Try.ntmps19
        go_wp2
        go_ret
        exact ⟨ret_bool (by unfold goodB; rw [decide_eq_decide]; omega), rfl⟩
      · go_enter Try.func19, Try.ntmps19
        go_wp2
        go_ret
        exact ⟨ret_bool (goodB_false (by omega)).symm, rfl⟩
    · go_enter Try.func19, Try.ntmps19
      go_wp2
      go_ret
      exact ⟨ret_bool (goodB_false (by omega)).symm, rfl⟩
  · go_enter Try.func19, Try.ntmps19
    go_wp2
    go_ret
    exact ⟨ret_bool (goodB_false (by omega)).symm, rfl⟩
theorem rgood_any (f n : Int) (w : World) (hn : -9223372036854775808 ≤ n) (hn1 : n ≤ 9223372036854775807) :
    Calls Try.prog 18 #[.int .i64 f, .int .i64 n] w fun e w' => e = .returned (.bool (goodB f n)) ∧ w' = w := by
  by_cases h1 : 0 ≤ f
  · by_cases h2 : 0 ≤ n
    · by_cases h3 : f ≤ 32
      · by_cases h4 : n ≤ 32
        · go_enter Try.func18, Try.ntmps18
          go_wp2
          go_ret
          exact ⟨ret_bool (by unfold goodB; rw [decide_eq_decide]; omega), rfl⟩
        · go_enter Try.func18, Try.ntmps18
          go_wp2
          go_ret
          exact ⟨ret_bool (goodB_false (by omega)).symm, rfl⟩
      · go_enter Try.func18, Try.ntmps18
        go_wp2
        go_ret
        exact ⟨ret_bool (goodB_false (by omega)).symm, rfl⟩
    · go_enter Try.func18, Try.ntmps18
      go_wp2
      go_ret
      exact ⟨ret_bool (goodB_false (by omega)).symm, rfl⟩
  · go_enter Try.func18, Try.ntmps18
    go_wp2
    go_ret
    exact ⟨ret_bool (goodB_false (by omega)).symm, rfl⟩
attribute [local go_sem] max2_ints max_of_two
/-- A mask of n bits, all of them from 32 on, none below 1. -/
def maskN (n : Int) : Nat := 2 ^ (min n 32).toNat - 1
theorem maskN_lt (n : Int) : maskN n < 4294967296 := by
  have := pow_le32 (n := (min n 32).toNat) (by omega)
  have := pow_pos' (min n 32).toNat
  unfold maskN; omega
theorem mask_val (m : Nat) (h : m < 32) : ((2 : Int) ^ m - 1) % 4294967296 = ((2 ^ m - 1 : Nat) : Int) := by
  have h2 : 2 ^ m ≤ 2147483648 := by rw [show (2147483648 : Nat) = 2 ^ 31 from rfl]; exact Nat.pow_le_pow_right (by decide) (by omega)
  have h3 := pow_pos' m
  rw [show ((2 : Int) ^ m) = ((2 ^ m : Nat) : Int) by simp]
  omega
theorem mask_any (n : Int) (w : World) : Calls Try.prog 20 #[.int .i64 n] w fun e w' => e = .returned (.int .u32 (maskN n : Nat)) ∧ w' = w := by
  by_cases h1 : n < 32
  · by_cases h2 : n < 0
    · go_enter Try.func20, Try.ntmps20
      go_wp2
      go_ret
      exact ⟨ret_int (by unfold maskN; rw [show (min n 32).toNat = 0 by omega]; rfl), rfl⟩
    · have h3 : 0 ≤ n := by omega
      go_enter Try.func20, Try.ntmps20
      go_wp2
      go_ret
      refine ⟨ret_int ?_, rfl⟩
      unfold maskN
      rw [show (min n 32).toNat = n.toNat by omega]
      exact mask_val n.toNat (by omega)
  · go_enter Try.func20, Try.ntmps20
    go_wp2
    go_ret
    exact ⟨ret_int (by unfold maskN; rw [show (min n 32).toNat = 32 by omega]; rfl), rfl⟩
/-- The world is the old one, some orders having been drawn. -/
structure Drawn (w w' : World) : Prop where mk :: (out : ∃ n, w' = w.drewN n)
theorem Drawn.refl (w : World) : Drawn w w := ⟨⟨0, rfl⟩⟩
theorem Drawn.step {w w' : World} (h : Drawn w w') (n : Nat) : Drawn w (w'.drewN n) := by
  obtain ⟨m, rfl⟩ := h
  exact ⟨⟨m + n, World.drewN_drewN ..⟩⟩
theorem Drawn.trans {w w' w2 : World} (h : Drawn w w') (h' : Drawn w' w2) : Drawn w w2 := by
  obtain ⟨m, rfl⟩ := h'
  exact h.step m
theorem Drawn.grown {w w' : World} (h : Drawn w w') : Grown w w' := by
  obtain ⟨n, rfl⟩ := h
  induction n with
  | zero => exact Grown.refl _
  | succ n ih => rw [← World.drew_drewN]; exact Grown.drew ih
theorem maskN_nat {n : Nat} (h : n ≤ 32) : maskN (n : Int) = 2 ^ n - 1 := by
  unfold maskN; rw [show (min (n : Int) 32).toNat = n by omega]
theorem get_val {x s n : Nat} (hx : x < 4294967296) (hn : n ≤ 32) : bits .and .u32 ((x : Int) / 2 ^ s) ((maskN (n : Int) : Nat) : Int) = ((GetN x s n : Nat) : Int) := by
  rw [maskN_nat hn, show ((x : Int) / 2 ^ s) = ((x / 2 ^ s : Nat) : Int) by simp]
  exact and_mask (Nat.lt_of_le_of_lt (Nat.div_le_self _ _) hx) hn
/-- Get, where there is such a part. -/
theorem get_yes (x f n : Nat) (hx : x < 4294967296) (h : f + n ≤ 32) (w : World) :
    Calls Try.prog 9 #[.int .u32 x, .int .i64 f, .int .i64 n] w fun e w' => e = .returned (.int .u32 (GetN x (32 - f - n) n : Nat)) ∧ Drawn w w' := by
  have hg : goodB (f : Int) (n : Int) = true := by simp [goodB]; omega
  have G : ∀ w, Calls Try.prog 19 #[.int .i64 f, .int .i64 n] w fun e w' => e = .returned (.bool true) ∧ w' = w := fun w => by
    have := good_any f n w (by omega) (by omega); rw [hg] at this; exact this
  have h0 : 0 ≤ (32 : Int) - f - n := by omega
  have h1 : (32 : Int) - f - n ≤ 32 := by omega
  clear hg
  go_enter Try.func9, Try.ntmps9
  go_wp2_with (go_at_call 19; refine (G _).mono ?_; rintro e w' ⟨rfl, rfl⟩)
  go_quiet ((go_at_call 20; exact Calls.quiet_of_same (mask_any _ _)))
  go_wp2
  go_ret
  exact ⟨ret_int (get_val hx (by omega)), ⟨⟨_, rfl⟩⟩⟩
/-- Get, where there is none. -/
theorem get_no (x f n : Int) (hn : -9223372036854775808 ≤ n) (hn1 : n ≤ 9223372036854775807) (h : goodB f n = false) (w : World) :
    Calls Try.prog 9 #[.int .u32 x, .int .i64 f, .int .i64 n] w fun e w' => e = .returned (.int .u32 0) ∧ w' = w := by
  have G : ∀ w, Calls Try.prog 19 #[.int .i64 f, .int .i64 n] w fun e w' => e = .returned (.bool false) ∧ w' = w := fun w => by
    have := good_any f n w (by omega) (by omega); rw [h] at this; exact this
  clear h
  go_enter Try.func9, Try.ntmps9
  go_wp2_with (go_at_call 19; refine (G _).mono ?_; rintro e w' ⟨rfl, rfl⟩)
  go_ret
  exact ⟨rfl, rfl⟩
theorem cast_shl (m s : Nat) : ((m : Nat) : Int) * 2 ^ s % 4294967296 = ((m * 2 ^ s % 4294967296 : Nat) : Int) := by simp
theorem put_val {x s n y : Nat} (hy : y < 4294967296) (hn : n ≤ 32) :
    bits .or .u32 (bits .andNot .u32 (x : Int) (((maskN (n : Int) : Nat) : Int) * 2 ^ s % 4294967296)) (bits .and .u32 (y : Int) ((maskN (n : Int) : Nat) : Int) * 2 ^ s % 4294967296) = ((PutN x s n y : Nat) : Int) := by
  rw [maskN_nat hn, and_mask hy hn, cast_shl, cast_shl, andNot_u32, or_u32 (BitVec.isLt _) (Nat.mod_lt _ (by decide))]
  rfl
/-- Put, where there is such a part. -/
theorem put_yes (x f n y : Nat) (hy : y < 4294967296) (h : f + n ≤ 32) (w : World) :
    Calls Try.prog 11 #[.int .u32 x, .int .i64 f, .int .i64 n, .int .u32 y] w fun e w' => e = .returned (.int .u32 (PutN x (32 - f - n) n y : Nat)) ∧ Drawn w w' := by
  have hg : goodB (f : Int) (n : Int) = true := by simp [goodB]; omega
  have G : ∀ w, Calls Try.prog 19 #[.int .i64 f, .int .i64 n] w fun e w' => e = .returned (.bool true) ∧ w' = w := fun w => by
    have := good_any f n w (by omega) (by omega); rw [hg] at this; exact this
  have h0 : 0 ≤ (32 : Int) - f - n := by omega
  have h1 : (32 : Int) - f - n ≤ 32 := by omega
  clear hg
  go_enter Try.func11, Try.ntmps11
  go_wp2_with (go_at_call 19; refine (G _).mono ?_; rintro e w' ⟨rfl, rfl⟩)
  go_quiet ((go_at_call 20; exact Calls.quiet_of_same (mask_any _ _)))
  go_wp2
  go_ret
  exact ⟨ret_int (put_val hy (by omega)), ⟨⟨_, rfl⟩⟩⟩
/-- Put, where there is none. -/
theorem put_no (x f n y : Int) (hn : -9223372036854775808 ≤ n) (hn1 : n ≤ 9223372036854775807) (h : goodB f n = false) (w : World) :
    Calls Try.prog 11 #[.int .u32 x, .int .i64 f, .int .i64 n, .int .u32 y] w fun e w' => e = .returned (.int .u32 x) ∧ w' = w := by
  have G : ∀ w, Calls Try.prog 19 #[.int .i64 f, .int .i64 n] w fun e w' => e = .returned (.bool false) ∧ w' = w := fun w => by
    have := good_any f n w (by omega) (by omega); rw [h] at this; exact this
  clear h
  go_enter Try.func11, Try.ntmps11
  go_wp2_with (go_at_call 19; refine (G _).mono ?_; rintro e w' ⟨rfl, rfl⟩)
  go_ret
  exact ⟨rfl, rfl⟩
/-- Bits. -/
theorem bits_any (x n : Int) (w : World) : Calls Try.prog 17 #[.int .i64 x, .int .i64 n] w fun e w' => e = .returned (.int .u32 (bits .and .u32 (x % 4294967296) (maskN n : Nat))) ∧ w' = w := by
  go_enter Try.func17, Try.ntmps17
  go_wp2_with (go_at_call 20; refine (mask_any _ _).mono ?_; rintro e w' ⟨rfl, rfl⟩)
  go_ret
  exact ⟨rfl, rfl⟩
theorem half_pow {x m : Nat} (h1 : 0 < m) (h2 : m ≤ 31) : x / 2 ^ (31 - m) / 2 = x / 2 ^ (31 - (m - 1)) := by
  rw [Nat.div_div_eq_div_mul, ← Nat.pow_succ, show (31 - m).succ = 31 - (m - 1) by omega]
theorem bit_last (x s : Nat) : (((x / 2 ^ s : Nat) : Int) % 2 == 1) = x.testBit s := by
  rw [Nat.testBit_eq_decide_div_mod_eq]
  rw [Bool.eq_iff_iff, beq_iff_eq, decide_eq_true_iff]; omega
/-- One bit, bit by bit. -/
theorem bit_any (x i : Nat) (hx : x < 4294967296) (hi : i ≤ 31) (w : World) :
    Calls Try.prog 21 #[.int .u32 x, .int .i64 i] w fun e w' => e = .returned (.bool (x.testBit (31 - i))) ∧ w' = w := by
  go_enter Try.func21, Try.ntmps21
  go_wp2
  go_loop [0, 5] (fun a k => ∃ m q : Nat, i ≤ m ∧ m ≤ 31 ∧ q < 4294967296 ∧ Hid (q = x / 2 ^ (31 - m)) ∧ k = .int .i64 m ∧ a = .int .u32 q) (fun _ k => (intOf k).toNat)
  case atStart => exact ⟨31, x, hi, by omega, hx, Lib.hid (by simp), rfl, rfl⟩
  case round =>
    obtain ⟨m, q, h1, h2, h3, hq, rfl, rfl⟩ := hrel
    by_cases hlt : i < m
    · go_wp2
      go_round
      case rel => exact ⟨m - 1, q / 2, by omega, by omega, by omega, Lib.hid (by rw [hq.out]; exact half_pow (by omega) h2), by go_num, by go_num⟩
      case measure => simp [intOf]; omega
    · go_wp2
      go_ret
      obtain rfl : i = m := by omega
      refine ⟨ret_bool ?_, rfl⟩
      rw [← bit_last, ← hq.out]

/-! ### The references -/
theorem getN_half {x a n : Nat} (hn : n < 32) : GetN x a n < 2147483648 := by
  have h1 : GetN x a n < 2 ^ n := Nat.mod_lt _ (pow_pos' n)
  have h2 : 2 ^ n ≤ 2 ^ 31 := Nat.pow_le_pow_right (by decide) (by omega)
  have h3 : (2 : Nat) ^ 31 = 2147483648 := rfl
  omega
theorem getN_one {x s j : Nat} (h : x.testBit s = true) : GetN x s (j + 1) = 2 * GetN x (s + 1) j + 1 := by
  unfold GetN; rw [part_step, if_pos h]
theorem getN_zero {x s j : Nat} (h : x.testBit s = false) : GetN x s (j + 1) = 2 * GetN x (s + 1) j := by
  unfold GetN; rw [part_step, if_neg (by simp [h])]; rfl
theorem rget_yes (x f n : Nat) (hx : x < 4294967296) (h : f + n ≤ 32) (w : World) :
    Calls Try.prog 10 #[.int .u32 x, .int .i64 f, .int .i64 n] w fun e w' => e = .returned (.int .u32 (GetN x (32 - f - n) n : Nat)) ∧ w' = w := by
  have hg : goodB (f : Int) (n : Int) = true := by simp [goodB]; omega
  have G : ∀ w, Calls Try.prog 18 #[.int .i64 f, .int .i64 n] w fun e w' => e = .returned (.bool true) ∧ w' = w := fun w => by
    have := rgood_any f n w (by omega) (by omega); rw [hg] at this; exact this
  clear hg
  go_enter Try.func10, Try.ntmps10
  go_wp2_with (go_at_call 18; refine (G _).mono ?_; rintro e w' ⟨rfl, rfl⟩)
  go_loop [7, 8] (fun v i => ∃ j q : Nat, j ≤ n ∧ q < 4294967296 ∧ Hid (q = GetN x (32 - f - j) j) ∧ i = .int .i64 (f + j : Nat) ∧ v = .int .u32 q) (fun _ i => (f + n) - (intOf i).toNat)
  case atStart => exact ⟨0, 0, by omega, by omega, Lib.hid (by unfold GetN; rw [Nat.pow_zero, Nat.mod_one]), rfl, rfl⟩
  case round =>
    obtain ⟨j, q, h1, h2, hq, rfl, rfl⟩ := hrel
    by_cases hlt : j < n
    · have hq2 : q < 2147483648 := by rw [hq.out]; exact getN_half (by omega)
      have hb : ∀ b, x.testBit (31 - (f + j)) = b → ∀ w, Calls Try.prog 21 #[.int .u32 x, .int .i64 (f + j : Nat)] w fun e w' => e = .returned (.bool b) ∧ w' = w := fun b hb w => by
        rw [← hb]; exact bit_any x (f + j) hx (by omega) w
      have HS : 32 - f - j = 31 - (f + j) + 1 := by omega
      have HT : 32 - f - (j + 1) = 31 - (f + j) := by omega
      have HS := Lib.hid HS
      have HT := Lib.hid HT
      cases hbit : x.testBit (31 - (f + j))
      all_goals
        have HB := Lib.hid hbit
        replace hb := hb _ hbit
        clear hbit
        go_wp2_with (go_at_call 21; refine (hb _).mono ?_; rintro e w' ⟨rfl, rfl⟩)
      · go_round
        case rel => exact ⟨j + 1, 2 * q, by omega, by omega, Lib.hid (by rw [hq.out, HS.out, HT.out, getN_zero HB.out]), by go_num, by go_num⟩
        case measure => simp [intOf]; omega
      · go_round
        case rel => exact ⟨j + 1, 2 * q + 1, by omega, by omega, Lib.hid (by rw [hq.out, HS.out, HT.out, getN_one HB.out]), by go_num, by go_num⟩
        case measure => simp [intOf]; omega
    · go_wp2
      go_ret
      obtain rfl : j = n := by omega
      exact ⟨ret_int (by rw [← hq.out]), rfl⟩
theorem rget_no (x f n : Int) (hn : -9223372036854775808 ≤ n) (hn1 : n ≤ 9223372036854775807) (h : goodB f n = false) (w : World) :
    Calls Try.prog 10 #[.int .u32 x, .int .i64 f, .int .i64 n] w fun e w' => e = .returned (.int .u32 0) ∧ w' = w := by
  have G : ∀ w, Calls Try.prog 18 #[.int .i64 f, .int .i64 n] w fun e w' => e = .returned (.bool false) ∧ w' = w := fun w => by
    have := rgood_any f n w (by omega) (by omega); rw [h] at this; exact this
  clear h
  go_enter Try.func10, Try.ntmps10
  go_wp2_with (go_at_call 18; refine (G _).mono ?_; rintro e w' ⟨rfl, rfl⟩)
  go_ret
  exact ⟨rfl, rfl⟩

theorem putP_step {p s : Nat} : p / 2 ^ s = 2 * (p / 2 ^ (s + 1)) + (if p.testBit s = true then 1 else 0) := bit_val p s
set_option maxHeartbeats 2000000 in
theorem rput_yes (x f n y : Nat) (hx : x < 4294967296) (hy : y < 4294967296) (h : f + n ≤ 32) (w : World) :
    Calls Try.prog 12 #[.int .u32 x, .int .i64 f, .int .i64 n, .int .u32 y] w fun e w' => e = .returned (.int .u32 (PutN x (32 - f - n) n y : Nat)) ∧ w' = w := by
  have hg : goodB (f : Int) (n : Int) = true := by simp [goodB]; omega
  have G : ∀ w, Calls Try.prog 18 #[.int .i64 f, .int .i64 n] w fun e w' => e = .returned (.bool true) ∧ w' = w := fun w => by
    have := rgood_any f n w (by omega) (by omega); rw [hg] at this; exact this
  clear hg
  have hbit : ∀ j, j < 32 → (PutN x (32 - f - n) n y).testBit j = if 32 - f - n ≤ j ∧ j < 32 - f - n + n then y.testBit (j - (32 - f - n)) else x.testBit j := fun j hj => PutN_bit x (32 - f - n) n y j hj
  have hlt := PutN_lt x (32 - f - n) n y
  generalize PutN x (32 - f - n) n y = p at hbit hlt ⊢
  go_enter Try.func12, Try.ntmps12
  go_wp2_with (go_at_call 18; refine (G _).mono ?_; rintro e w' ⟨rfl, rfl⟩)
  go_loop [9, 10] (fun v i => ∃ j q : Nat, j ≤ 32 ∧ q < 4294967296 ∧ Hid (q = p / 2 ^ (32 - j)) ∧ i = .int .i64 j ∧ v = .int .u32 q) (fun _ i => 32 - (intOf i).toNat)
  case atStart => exact ⟨0, 0, by omega, by omega, Lib.hid (by symm; exact Nat.div_eq_of_lt hlt), rfl, rfl⟩
  case round =>
    obtain ⟨j, q, h1, h2, hq, rfl, rfl⟩ := hrel
    have HLT := Lib.hid hlt
    have HBI := Lib.hid hbit
    clear hlt hbit
    by_cases hlt : j < 32
    · have hq2 : q < 2147483648 := by
        rw [hq.out]
        have h4 : p / 2 ^ (32 - j) ≤ p / 2 ^ 1 := Nat.div_le_div_left (Nat.pow_le_pow_right (by decide) (by omega)) (by decide)
        have := HLT.out
        omega
      have hb : ∀ (x i : Nat) b, x < 4294967296 → i ≤ 31 → x.testBit (31 - i) = b → ∀ w, Calls Try.prog 21 #[.int .u32 x, .int .i64 i] w fun e w' => e = .returned (.bool b) ∧ w' = w := fun x i b hx hi hb w => by
        rw [← hb]; exact bit_any x i hx hi w
      have hs := putP_step (p := p) (s := 31 - j)
      rw [show 31 - j + 1 = 32 - j by omega, ← hq.out] at hs
      have hp := HBI.out (31 - j) (by omega)
      have hb1 := hb x j _ hx (by omega) rfl
      have HE := Lib.hid (show 31 - j = 32 - (j + 1) by omega)
      by_cases hin : f ≤ j ∧ j < f + n
      · obtain ⟨hin1, hin2⟩ := hin
        rw [if_pos (by omega)] at hp
        rw [hp] at hs
        clear hp
        have hb2 := hb y (32 - f - n + j) _ hy (by omega) rfl
        rw [show 31 - (32 - f - n + j) = 31 - j - (32 - f - n) by omega] at hb2
        have e2 : ((32 - f - n + j : Nat) : Int) = 32 - (f : Int) - n + j := by omega
        rw [e2] at hb2
        clear hb e2
        cases hbit : y.testBit (31 - j - (32 - f - n))
        all_goals
          rw [hbit] at hs hb2
          have HS := Lib.hid hs
          clear hs hbit
          go_wp2_with (first | (go_at_call 21; (with_reducible refine (hb1 _).mono ?_); rintro e w' ⟨rfl, rfl⟩) | (go_at_call 21; (with_reducible refine (hb2 _).mono ?_); rintro e w' ⟨rfl, rfl⟩))
        · go_round
          case rel => exact ⟨j + 1, 2 * q, by omega, by omega, Lib.hid (by have h_ := HS.out; rw [HE.out] at h_; simpa using h_.symm), by go_num, by go_num⟩
          case measure => simp [intOf]; omega
        · go_round
          case rel => exact ⟨j + 1, 2 * q + 1, by omega, by omega, Lib.hid (by have h_ := HS.out; rw [HE.out] at h_; simpa using h_.symm), by go_num, by go_num⟩
          case measure => simp [intOf]; omega
      · rw [if_neg (by omega)] at hp
        rw [hp] at hs
        clear hp
        clear hb
        by_cases hin1 : f ≤ j
        all_goals
          cases hbit : x.testBit (31 - j)
          · rw [hbit] at hs hb1
            have HS := Lib.hid hs
            clear hs hbit
            go_wp2_with (go_at_call 21; (with_reducible refine (hb1 _).mono ?_); rintro e w' ⟨rfl, rfl⟩)
            go_round
            case rel => exact ⟨j + 1, 2 * q, by omega, by omega, Lib.hid (by have h_ := HS.out; rw [HE.out] at h_; simpa using h_.symm), by go_num, by go_num⟩
            case measure => simp [intOf]; omega
          · rw [hbit] at hs hb1
            have HS := Lib.hid hs
            clear hs hbit
            go_wp2_with (go_at_call 21; (with_reducible refine (hb1 _).mono ?_); rintro e w' ⟨rfl, rfl⟩)
            go_round
            case rel => exact ⟨j + 1, 2 * q + 1, by omega, by omega, Lib.hid (by have h_ := HS.out; rw [HE.out] at h_; simpa using h_.symm), by go_num, by go_num⟩
            case measure => simp [intOf]; omega
    · go_wp2
      go_ret
      obtain rfl : j = 32 := by omega
      exact ⟨ret_int (by rw [hq.out]; simp), rfl⟩
theorem rput_no (x f n y : Int) (hn : -9223372036854775808 ≤ n) (hn1 : n ≤ 9223372036854775807) (h : goodB f n = false) (w : World) :
    Calls Try.prog 12 #[.int .u32 x, .int .i64 f, .int .i64 n, .int .u32 y] w fun e w' => e = .returned (.int .u32 x) ∧ w' = w := by
  have G : ∀ w, Calls Try.prog 18 #[.int .i64 f, .int .i64 n] w fun e w' => e = .returned (.bool false) ∧ w' = w := fun w => by
    have := rgood_any f n w (by omega) (by omega); rw [h] at this; exact this
  clear h
  go_enter Try.func12, Try.ntmps12
  go_wp2_with (go_at_call 18; refine (G _).mono ?_; rintro e w' ⟨rfl, rfl⟩)
  go_ret
  exact ⟨rfl, rfl⟩
end Go.Proofs.Ytgkfenekaagllaa.Walk
