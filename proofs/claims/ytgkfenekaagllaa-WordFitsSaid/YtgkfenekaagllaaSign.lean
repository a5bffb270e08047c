import Derived.Test.YtgkfenekaagllaaWalk
/- Signed and Fits, the program's and the reference's, walked. -/
namespace Go.Proofs.Ytgkfenekaagllaa.Walk
open Go.RowKit Go.Proofs.Ytgkfenekaagllaa.Num

/-- The lowest n bits with a sign. -/
def sgn (x n : Nat) : Int := ((x % 2 ^ n : Nat) : Int) - (if x.testBit (n - 1) = true then ((2 ^ n : Nat) : Int) else 0)
theorem top_div {x n : Nat} (h : 1 ≤ n) : x % 2 ^ n / 2 ^ (n - 1) = if x.testBit (n - 1) = true then 1 else 0 := by
  have h1 : (x % 2 ^ n).testBit (n - 1) = x.testBit (n - 1) := by rw [Nat.testBit_mod_two_pow]; simp; omega
  have h2 := Nat.testBit_eq_decide_div_mod_eq (x := x % 2 ^ n) (i := n - 1)
  have h3 : x % 2 ^ n < 2 ^ n := Nat.mod_lt _ (pow_pos' n)
  have h4 : x % 2 ^ n / 2 ^ (n - 1) < 2 := by
    rw [Nat.div_lt_iff_lt_mul (pow_pos' _), show 2 * 2 ^ (n - 1) = 2 ^ n by rw [← Nat.pow_succ']; congr 1; omega]
    exact h3
  rw [← h1, h2]
  generalize x % 2 ^ n / 2 ^ (n - 1) = t at h4 ⊢
  by_cases h5 : t % 2 = 1
  · simp [h5]; omega
  · simp [h5]; omega
theorem cast_pow (n : Nat) : ((2 : Int) ^ n) = ((2 ^ n : Nat) : Int) := by simp
theorem pow_le62 {n : Nat} (hn : n ≤ 62) : 2 ^ n ≤ 4611686018427387904 := Nat.pow_le_pow_right (by decide) hn
theorem sgn_val {x n : Nat} {mk : Nat} (hn : 1 ≤ n) (hn2 : n ≤ 32) (hv : bits .and .u32 (x : Int) (mk : Int) = ((x % 2 ^ n : Nat) : Int)) :
    ((wrap64 (bits .and .u32 (x : Int) (mk : Int)) / 2 ^ (n - 1) == 1) = false → wrap64 (bits .and .u32 (x : Int) (mk : Int)) = sgn x n) ∧
    ((wrap64 (bits .and .u32 (x : Int) (mk : Int)) / 2 ^ (n - 1) == 1) = true → wrap64 (wrap64 (bits .and .u32 (x : Int) (mk : Int)) - wrap64 (2 ^ n)) = sgn x n) := by
  have ht := top_div (x := x) hn
  have hp := pow_le32 hn2
  have hl : x % 2 ^ n < 4294967296 := Nat.lt_of_lt_of_le (Nat.mod_lt _ (pow_pos' n)) hp
  have hs : sgn x n = ((x % 2 ^ n : Nat) : Int) - (if x.testBit (n - 1) = true then ((2 ^ n : Nat) : Int) else 0) := rfl
  have hc : ((x % 2 ^ n : Nat) : Int) / 2 ^ (n - 1) = ((x % 2 ^ n / 2 ^ (n - 1) : Nat) : Int) := by rw [cast_pow, ← Int.natCast_ediv]
  rw [hv, w64 (n := ((x % 2 ^ n : Nat) : Int)) (by omega) (by omega), cast_pow n, w64 (n := ((2 ^ n : Nat) : Int)) (by omega) (by omega), hs, hc, ht, w64 (by omega) (by omega)]
  cases x.testBit (n - 1) <;> simp
theorem signed_yes (x n : Nat) (hx : x < 4294967296) (hn : 1 ≤ n) (hn2 : n ≤ 32) (w : World) :
    Calls Try.prog 14 #[.int .u32 x, .int .i64 n] w fun e w' => e = .returned (.int .i64 (sgn x n)) ∧ w' = w := by
  have hv : bits .and .u32 (x : Int) ((maskN (n : Int) : Nat) : Int) = ((x % 2 ^ n : Nat) : Int) := by
    rw [maskN_nat hn2]; exact and_mask hx hn2
  have hM : ∀ w, Calls Try.prog 20 #[.int .i64 n] w fun e w' => e = .returned (.int .u32 (maskN n : Nat)) ∧ w' = w := fun w => mask_any n w
  generalize (maskN (n : Int)) = mk at hv hM
  have HV := Lib.hid hv
  clear hv
  go_enter Try.func14, Try.ntmps14
  go_wp2_with (go_at_call 20; refine (hM _).mono ?_; rintro e w' ⟨rfl, rfl⟩)
  · go_ret
    exact ⟨ret_int ((sgn_val hn hn2 HV.out).2 (by assumption)), rfl⟩
  · go_ret
    exact ⟨ret_int ((sgn_val hn hn2 HV.out).1 (by assumption)), rfl⟩
theorem signed_no (x n : Int) (h : n < 1 ∨ 32 < n) (w : World) :
    Calls Try.prog 14 #[.int .u32 x, .int .i64 n] w fun e w' => e = .returned (.int .i64 0) ∧ w' = w := by
  rcases h with h | h
  · go_enter Try.func14, Try.ntmps14
    go_wp2
    go_ret
    exact ⟨rfl, rfl⟩
  · have h' : ¬ n < 1 := by omega
    go_enter Try.func14, Try.ntmps14
    go_wp2
    go_ret
    exact ⟨rfl, rfl⟩
def fitsB (x n : Int) : Bool := decide (1 ≤ n ∧ (63 < n ∨ -((2 ^ (n.toNat - 1) : Nat) : Int) ≤ x ∧ x < ((2 ^ (n.toNat - 1) : Nat) : Int)))
theorem fits_any (x n : Int) (w : World) (hn : -9223372036854775808 ≤ n) (hn1 : n ≤ 9223372036854775807) :
    Calls Try.prog 13 #[.int .i64 x, .int .i64 n] w fun e w' => e = .returned (.bool (fitsB x n)) ∧ w' = w := by
  by_cases h1 : n < 1
  · go_enter Try.func13, Try.ntmps13
    go_wp2
    go_ret
    exact ⟨ret_bool (by unfold fitsB; simp; omega), rfl⟩
  · by_cases h2 : 63 < n
    · go_enter Try.func13, Try.ntmps13
      go_wp2
      go_ret
      exact ⟨ret_bool (by unfold fitsB; simp; omega), rfl⟩
    · obtain ⟨m, rfl⟩ : ∃ m : Nat, n = (m : Int) := ⟨n.toNat, by omega⟩
      have h3 : 1 ≤ m := by omega
      have h4 : m ≤ 63 := by omega
      have hp := pow_le62 (n := m - 1) (by omega)
      have hA : wrap64 (-2 ^ (m - 1)) = -((2 ^ (m - 1) : Nat) : Int) := by
        rw [cast_pow]; generalize 2 ^ (m - 1) = q at hp ⊢; exact w64 (by omega) (by omega)
      have hB : wrap64 (2 ^ (m - 1)) = ((2 ^ (m - 1) : Nat) : Int) := by
        rw [cast_pow]; generalize 2 ^ (m - 1) = q at hp ⊢; exact w64 (by omega) (by omega)
      have hF : fitsB x m = decide (-((2 ^ (m - 1) : Nat) : Int) ≤ x ∧ x < ((2 ^ (m - 1) : Nat) : Int)) := by
        unfold fitsB
        rw [show ((m : Int)).toNat = m from rfl, decide_eq_decide]; omega
      have HA := Lib.hid hA
      have HB := Lib.hid hB
      have HF := Lib.hid hF
      clear hA hB hF hp
      go_enter Try.func13, Try.ntmps13
      go_wp2
      · go_ret
        have hw : wrap64 (-2 ^ (m - 1)) ≤ x := by assumption
        rw [HA.out] at hw
        exact ⟨ret_bool (by rw [HF.out, HB.out, decide_eq_decide]; omega), rfl⟩
      · go_ret
        have hw : x < wrap64 (-2 ^ (m - 1)) := by assumption
        rw [HA.out] at hw
        exact ⟨ret_bool (by rw [HF.out]; generalize ((2 ^ (m - 1) : Nat) : Int) = q at hw ⊢; simp; omega), rfl⟩
theorem rfits_any (x n : Int) (w : World) (hn : -9223372036854775808 ≤ n) (hn1 : n ≤ 9223372036854775807) :
    Calls Try.prog 16 #[.int .i64 x, .int .i64 n] w fun e w' => e = .returned (.bool (fitsB x n)) ∧ w' = w := by
  by_cases h1 : n < 1
  · go_enter Try.func16, Try.ntmps16
    go_wp2
    go_ret
    exact ⟨ret_bool (by unfold fitsB; simp; omega), rfl⟩
  · by_cases h2 : 63 < n
    · go_enter Try.func16, Try.ntmps16
      go_wp2
      go_ret
      exact ⟨ret_bool (by unfold fitsB; simp; omega), rfl⟩
    · obtain ⟨m, rfl⟩ : ∃ m : Nat, n = (m : Int) := ⟨n.toNat, by omega⟩
      have h3 : 1 ≤ m := by omega
      have h4 : m ≤ 63 := by omega
      have hF : fitsB x m = decide (-((2 ^ (m - 1) : Nat) : Int) ≤ x ∧ x < ((2 ^ (m - 1) : Nat) : Int)) := by
        unfold fitsB
        rw [show ((m : Int)).toNat = m from rfl, decide_eq_decide]; omega
      have HF := Lib.hid hF
      clear hF
      go_enter Try.func16, Try.ntmps16
      go_wp2
      go_loop [5, 6, 7] (fun a b i => ∃ j q : Nat, 1 ≤ j ∧ j ≤ m ∧ 1 ≤ q ∧ q ≤ 4611686018427387904 ∧ Hid (q = 2 ^ (j - 1)) ∧ i = .int .i64 j ∧ a = .int .i64 (-(q : Int)) ∧ b = .int .i64 (q - 1 : Int)) (fun _ _ i => m - (intOf i).toNat)
      case atStart => exact ⟨1, 1, by omega, by omega, by omega, by omega, Lib.hid (by rfl), rfl, rfl, rfl⟩
      case round =>
        obtain ⟨j, q, h5, h6, h7, h8, hq, rfl, rfl, rfl⟩ := hrel
        by_cases hlt : j < m
        · have h9 : q ≤ 2305843009213693952 := by
            rw [hq.out]; exact Nat.pow_le_pow_right (n := 2) (j := 61) (by decide) (by omega)
          go_wp2
          go_round
          case rel => exact ⟨j + 1, 2 * q, by omega, by omega, by omega, by omega, Lib.hid (by rw [hq.out, ← Nat.pow_succ']; congr 1; omega), by go_num, by go_num, by go_num⟩
          case measure => simp [intOf]; omega
        · obtain rfl : j = m := by omega
          go_wp2
          · go_ret
            have hw : -(q : Int) ≤ x := by assumption
            exact ⟨ret_bool (by rw [HF.out, ← hq.out, decide_eq_decide]; omega), rfl⟩
          · go_ret
            have hw : x < -(q : Int) := by assumption
            exact ⟨ret_bool (by rw [HF.out, ← hq.out]; simp; omega), rfl⟩
/-- The reference's Signed after so many bits. -/
def sg (x n j : Nat) : Int := ((x % 2 ^ n / 2 ^ (n - j) : Nat) : Int) - (if 1 ≤ j ∧ x.testBit (n - 1) = true then ((2 ^ j : Nat) : Int) else 0)
theorem sg_zero (x n : Nat) : sg x n 0 = 0 := by
  unfold sg
  rw [if_neg (by omega), Nat.sub_zero, Nat.div_eq_of_lt (Nat.mod_lt _ (pow_pos' n))]; rfl
theorem sg_all (x n : Nat) (h : 1 ≤ n) : sg x n n = sgn x n := by
  unfold sg sgn
  rw [Nat.sub_self, Nat.pow_zero, Nat.div_one]
  by_cases hb : x.testBit (n - 1) = true
  · rw [if_pos ⟨h, hb⟩, if_pos hb]
  · rw [if_neg (fun h' => hb h'.2), if_neg hb]
theorem sg_step (x n j : Nat) (hn : n ≤ 32) (h : j < n) : sg x n (j + 1) = 2 * sg x n j + (if x.testBit (31 - (32 - n + j)) = true then (if j = 0 then -1 else 1) else 0) := by
  have h1 := bit_val (x % 2 ^ n) (n - (j + 1))
  have h2 : (x % 2 ^ n).testBit (n - (j + 1)) = x.testBit (31 - (32 - n + j)) := by
    rw [Nat.testBit_mod_two_pow, show n - (j + 1) = 31 - (32 - n + j) by omega]; simp; omega
  rw [h2, show n - (j + 1) + 1 = n - j by omega] at h1
  unfold sg
  rw [h1]
  by_cases h0 : j = 0
  · subst h0
    rw [show 31 - (32 - n + 0) = n - 1 by omega, Nat.sub_zero, Nat.div_eq_of_lt (Nat.mod_lt _ (pow_pos' n))]
    cases x.testBit (n - 1) <;> simp
  · cases x.testBit (31 - (32 - n + j)) <;> cases x.testBit (n - 1) <;> simp [h0, Nat.pow_succ, show 1 ≤ j by omega] <;> omega
theorem sg_bound (x n j : Nat) (h : j ≤ n) (hn : n ≤ 32) : -4294967296 ≤ sg x n j ∧ sg x n j ≤ 4294967296 := by
  have h1 : 2 ^ j ≤ 4294967296 := pow_le32 (by omega)
  have h2 : x % 2 ^ n / 2 ^ (n - j) ≤ x % 2 ^ n := Nat.div_le_self _ _
  have h3 : x % 2 ^ n < 2 ^ n := Nat.mod_lt _ (pow_pos' n)
  have h4 : 2 ^ n ≤ 4294967296 := pow_le32 hn
  unfold sg
  generalize x % 2 ^ n / 2 ^ (n - j) = a at h2 ⊢
  generalize 2 ^ j = b at h1 ⊢
  split <;> omega
theorem rsigned_yes (x n : Nat) (hx : x < 4294967296) (hn : 1 ≤ n) (hn2 : n ≤ 32) (w : World) :
    Calls Try.prog 15 #[.int .u32 x, .int .i64 n] w fun e w' => e = .returned (.int .i64 (sgn x n)) ∧ w' = w := by
  go_enter Try.func15, Try.ntmps15
  go_wp2
  go_loop [5, 6] (fun v i => ∃ (j : Nat) (q : Int), j ≤ n ∧ -4294967296 ≤ q ∧ q ≤ 4294967296 ∧ Hid (q = sg x n j) ∧ i = .int .i64 (32 - n + j : Nat) ∧ v = .int .i64 q) (fun _ i => 32 - (intOf i).toNat)
  case atStart => exact ⟨0, 0, by omega, by omega, by omega, Lib.hid (sg_zero x n).symm, by go_num, rfl⟩
  case round =>
    obtain ⟨j, q, h1, h2, h3, hq, rfl, rfl⟩ := hrel
    by_cases hlt : j < n
    · have hb := bit_any x (32 - n + j) hx (by omega)
      have hs := sg_step x n j hn2 hlt
      have hl := sg_bound x n (j + 1) (by omega) hn2
      rw [hs, ← hq.out] at hl
      have HS := Lib.hid hs
      clear hs
      by_cases h0 : j = 0
      · subst h0
        cases hbit : x.testBit (31 - (32 - n + 0))
        all_goals
          rw [hbit] at hb hl
          have HB := Lib.hid hbit
          simp only [Bool.false_eq_true, if_false, if_true] at hl
          obtain ⟨hl1, hl2⟩ := hl
          clear hbit
          go_wp2_with (go_at_call 21; refine (hb _).mono ?_; rintro e w' ⟨rfl, rfl⟩)
        · go_round
          case rel => exact ⟨0 + 1, 2 * q, by omega, by omega, by omega, Lib.hid (by rw [HS.out, HB.out, hq.out]; simp), by go_num, by go_num⟩
          case measure => simp [intOf]; omega
        · go_round
          case rel => exact ⟨0 + 1, 2 * q - 1, by omega, by omega, by omega, Lib.hid (by rw [HS.out, HB.out, hq.out]; simp; omega), by go_num, by go_num⟩
          case measure => simp [intOf]; omega
      · have hne : (((32 - n + j : Nat) : Int) == 32 - (n : Int)) = false := by simp; omega
        cases hbit : x.testBit (31 - (32 - n + j))
        all_goals
          rw [hbit] at hb hl
          have HB := Lib.hid hbit
          simp only [h0, Bool.false_eq_true, if_false, if_true] at hl
          obtain ⟨hl1, hl2⟩ := hl
          clear hbit
          go_wp2_with (go_at_call 21; refine (hb _).mono ?_; rintro e w' ⟨rfl, rfl⟩)
        · go_round
          case rel => exact ⟨j + 1, 2 * q, by omega, by omega, by omega, Lib.hid (by rw [HS.out, HB.out, hq.out]; simp), by go_num, by go_num⟩
          case measure => simp [intOf]; omega
        · go_round
          case rel => exact ⟨j + 1, 2 * q + 1, by omega, by omega, by omega, Lib.hid (by rw [HS.out, HB.out, hq.out]; simp [h0]), by go_num, by go_num⟩
          case measure => simp [intOf]; omega
    · go_wp2
      go_ret
      obtain rfl : j = n := by omega
      exact ⟨ret_int (by rw [hq.out, sg_all _ _ hn]), rfl⟩
theorem rsigned_no (x n : Int) (h : n < 1 ∨ 32 < n) (w : World) :
    Calls Try.prog 15 #[.int .u32 x, .int .i64 n] w fun e w' => e = .returned (.int .i64 0) ∧ w' = w := by
  rcases h with h | h
  · go_enter Try.func15, Try.ntmps15
    go_wp2
    go_ret
    exact ⟨rfl, rfl⟩
  · have h' : ¬ n < 1 := by omega
    go_enter Try.func15, Try.ntmps15
    go_wp2
    go_ret
    exact ⟨rfl, rfl⟩
end Go.Proofs.Ytgkfenekaagllaa.Walk
