import Derived.Test.YtgkfenekaagllaaSign
/- The laws of layer 1, walked: each call answers true. -/
namespace Go.Proofs.Ytgkfenekaagllaa.Walk
open Go.RowKit Go.Proofs.Ytgkfenekaagllaa.Num

/-! ### One contract a function, for all arguments -/
def getV (x : Nat) (f n : Int) : Nat := if goodB f n = true then GetN x (32 - f - n).toNat n.toNat else 0
def putV (x : Nat) (f n : Int) (y : Nat) : Nat := if goodB f n = true then PutN x (32 - f - n).toNat n.toNat y else x
def sgnV (x : Nat) (n : Int) : Int := if 1 ≤ n ∧ n ≤ 32 then sgn x n.toNat else 0
theorem goodB_nats {f n : Int} (h : goodB f n = true) : ∃ f' n' : Nat, f = f' ∧ n = n' ∧ f' + n' ≤ 32 := by
  have := goodB_true h
  exact ⟨f.toNat, n.toNat, by omega, by omega, by omega⟩
theorem getV_yes {x f n : Nat} (h : f + n ≤ 32) : getV x f n = GetN x (32 - f - n) n := by
  unfold getV
  rw [if_pos (by simp [goodB]; omega), show ((32 : Int) - f - n).toNat = 32 - f - n by omega]; rfl
theorem putV_yes {x f n y : Nat} (h : f + n ≤ 32) : putV x f n y = PutN x (32 - f - n) n y := by
  unfold putV
  rw [if_pos (by simp [goodB]; omega), show ((32 : Int) - f - n).toNat = 32 - f - n by omega]; rfl
theorem getV_lt (x : Nat) (f n : Int) : getV x f n < 4294967296 := by
  unfold getV
  split
  · rename_i h
    have := goodB_true h
    exact GetN_lt _ _ _ (by omega)
  · omega
theorem putV_lt {x : Nat} (f n : Int) (y : Nat) (hx : x < 4294967296) : putV x f n y < 4294967296 := by
  unfold putV
  split
  · exact PutN_lt _ _ _ _
  · exact hx
section
variable {x y : Nat} {f n : Int} (hx : x < 4294967296) (hy : y < 4294967296) (hn : -9223372036854775808 ≤ n) (hn1 : n ≤ 9223372036854775807) (w : World)
include hx hn hn1
theorem get_all : Calls Try.prog 9 #[.int .u32 x, .int .i64 f, .int .i64 n] w fun e w' => e = .returned (.int .u32 (getV x f n : Nat)) ∧ Drawn w w' := by
  cases h : goodB f n
  · have e : getV x f n = 0 := by unfold getV; rw [h]; rfl
    rw [e]
    exact (get_no x f n hn hn1 h w).mono fun e w' ⟨a, b⟩ => ⟨a, b ▸ Drawn.refl w⟩
  · obtain ⟨f, n, rfl, rfl, h1⟩ := goodB_nats h
    rw [getV_yes h1]
    exact get_yes x f n hx h1 w
theorem rget_all : Calls Try.prog 10 #[.int .u32 x, .int .i64 f, .int .i64 n] w fun e w' => e = .returned (.int .u32 (getV x f n : Nat)) ∧ w' = w := by
  cases h : goodB f n
  · have e : getV x f n = 0 := by unfold getV; rw [h]; rfl
    rw [e]
    exact rget_no x f n hn hn1 h w
  · obtain ⟨f, n, rfl, rfl, h1⟩ := goodB_nats h
    rw [getV_yes h1]
    exact rget_yes x f n hx h1 w
include hy
omit hx in
theorem put_all : Calls Try.prog 11 #[.int .u32 x, .int .i64 f, .int .i64 n, .int .u32 y] w fun e w' => e = .returned (.int .u32 (putV x f n y : Nat)) ∧ Drawn w w' := by
  cases h : goodB f n
  · have e : putV x f n y = x := by unfold putV; rw [h]; rfl
    rw [e]
    exact (put_no x f n y hn hn1 h w).mono fun e w' ⟨a, b⟩ => ⟨a, b ▸ Drawn.refl w⟩
  · obtain ⟨f, n, rfl, rfl, h1⟩ := goodB_nats h
    rw [putV_yes h1]
    exact put_yes x f n y hy h1 w
theorem rput_all : Calls Try.prog 12 #[.int .u32 x, .int .i64 f, .int .i64 n, .int .u32 y] w fun e w' => e = .returned (.int .u32 (putV x f n y : Nat)) ∧ w' = w := by
  cases h : goodB f n
  · have e : putV x f n y = x := by unfold putV; rw [h]; rfl
    rw [e]
    exact rput_no x f n y hn hn1 h w
  · obtain ⟨f, n, rfl, rfl, h1⟩ := goodB_nats h
    rw [putV_yes h1]
    exact rput_yes x f n y hx hy h1 w
end
theorem signed_all {x : Nat} {n : Int} (hx : x < 4294967296) (w : World) : Calls Try.prog 14 #[.int .u32 x, .int .i64 n] w fun e w' => e = .returned (.int .i64 (sgnV x n)) ∧ w' = w := by
  by_cases h : 1 ≤ n ∧ n ≤ 32
  · obtain ⟨n, rfl⟩ : ∃ m : Nat, n = m := ⟨n.toNat, by omega⟩
    have e : sgnV x n = sgn x n := by unfold sgnV; rw [if_pos h]; rfl
    rw [e]
    exact signed_yes x n hx (by omega) (by omega) w
  · have e : sgnV x n = 0 := by unfold sgnV; rw [if_neg h]
    rw [e]
    exact signed_no x n (by omega) w
theorem rsigned_all {x : Nat} {n : Int} (hx : x < 4294967296) (w : World) : Calls Try.prog 15 #[.int .u32 x, .int .i64 n] w fun e w' => e = .returned (.int .i64 (sgnV x n)) ∧ w' = w := by
  by_cases h : 1 ≤ n ∧ n ≤ 32
  · obtain ⟨n, rfl⟩ : ∃ m : Nat, n = m := ⟨n.toNat, by omega⟩
    have e : sgnV x n = sgn x n := by unfold sgnV; rw [if_pos h]; rfl
    rw [e]
    exact rsigned_yes x n hx (by omega) (by omega) w
  · have e : sgnV x n = 0 := by unfold sgnV; rw [if_neg h]
    rw [e]
    exact rsigned_no x n (by omega) w
def bitsV (x n : Int) : Nat := (x % 4294967296).toNat % 2 ^ (min n 32).toNat
theorem bitsV_lt (x n : Int) : bitsV x n < 4294967296 := by
  have := Nat.mod_le (x % 4294967296).toNat (2 ^ (min n 32).toNat)
  unfold bitsV; omega
theorem bits_all (x n : Int) (w : World) : Calls Try.prog 17 #[.int .i64 x, .int .i64 n] w fun e w' => e = .returned (.int .u32 (bitsV x n : Nat)) ∧ w' = w := by
  have e : bits .and .u32 (x % 4294967296) ((maskN n : Nat) : Int) = (bitsV x n : Nat) := by
    have h := and_mask (x := (x % 4294967296).toNat) (n := (min n 32).toNat) (by omega) (by omega)
    rw [show (((x % 4294967296).toNat : Nat) : Int) = x % 4294967296 by omega] at h
    exact h
  rw [← e]
  exact bits_any x n w

/-! ### The laws -/
/-- What the document tells is so. -/
theorem alive_any (w : World) : Calls Try.prog 8 #[] w fun e w' => e = .returned (.bool true) ∧ Drawn w w' := by
  have h1 : ∀ w, Calls Try.prog 9 #[.int .u32 2147483648, .int .i64 0, .int .i64 1] w fun e w' => e = .returned (.int .u32 1) ∧ Drawn w w' :=
    fun w => get_all (x := 2147483648) (f := 0) (n := 1) (by omega) (by omega) (by omega) w
  have h2 : ∀ w, Calls Try.prog 14 #[.int .u32 65532, .int .i64 16] w fun e w' => e = .returned (.int .i64 (-4)) ∧ w' = w :=
    fun w => signed_all (x := 65532) (n := 16) (by omega) w
  go_enter Try.func8, Try.ntmps8
  go_wp2_with (first | (go_at_call 9; refine (h1 _).mono ?_; rintro e w' ⟨rfl, ⟨nq, rfl⟩⟩) | (go_at_call 14; refine (h2 _).mono ?_; rintro e w' ⟨rfl, rfl⟩))
  go_ret
  exact ⟨rfl, ⟨⟨_, rfl⟩⟩⟩
theorem parts_walk (x y : Nat) (f n : Int) (hx : x < 4294967296) (hy : y < 4294967296) (hn : -9223372036854775808 ≤ n) (hn1 : n ≤ 9223372036854775807) (w : World) :
    Calls Try.prog 3 #[.int .u32 x, .int .i64 f, .int .i64 n, .int .u32 y] w fun e w' => e = .returned (.bool true) ∧ Grown w w' := by
  have h1 := fun w => get_all (f := f) hx hn hn1 w
  have h2 := fun w => rget_all (f := f) hx hn hn1 w
  have h3 := fun w => put_all (x := x) (f := f) hy hn hn1 w
  have h4 := fun w => rput_all (f := f) hx hy hn hn1 w
  generalize getV x f n = a at h1 h2
  generalize putV x f n y = b at h3 h4
  go_enter Try.func3, Try.ntmps3
  go_wp2_with (first | (go_at_call 8; refine (alive_any _).mono ?_; rintro e w' ⟨rfl, ⟨nq, rfl⟩⟩) | (go_at_call 9; refine (h1 _).mono ?_; rintro e w' ⟨rfl, ⟨nq, rfl⟩⟩) | (go_at_call 10; refine (h2 _).mono ?_; rintro e w' ⟨rfl, rfl⟩) | (go_at_call 11; refine (h3 _).mono ?_; rintro e w' ⟨rfl, ⟨nq, rfl⟩⟩) | (go_at_call 12; refine (h4 _).mono ?_; rintro e w' ⟨rfl, rfl⟩))
  go_ret
  exact ⟨rfl, Drawn.grown ⟨⟨_, rfl⟩⟩⟩
/-- The reference's part that Bits' answer is. -/
theorem want_val (k n : Int) (h : 0 < n) : getV (k % 4294967296).toNat (32 - min n 32) (min n 32) = bitsV k n := by
  have e := getV_yes (x := (k % 4294967296).toNat) (f := 32 - (min n 32).toNat) (n := (min n 32).toNat) (by omega)
  rw [show ((32 - (min n 32).toNat : Nat) : Int) = 32 - min n 32 by omega, show (((min n 32).toNat : Nat) : Int) = min n 32 by omega] at e
  rw [e]
  unfold GetN bitsV
  rw [show 32 - (32 - (min n 32).toNat) - (min n 32).toNat = 0 by omega]; simp
theorem min2_ints (k : IntKind) (a b : Int) : Builtin.min2 (.int k a) (.int k b) = (pure (.int k (if b < a then b else a)) : Sem Value) := by
  simp only [Builtin.min2]
theorem min_of_two (ats : Array TypeId) (ty : TypeId) (a b : Value) : Builtin.min_ ats ty #[a, b] = (Builtin.min2 a b >>= fun s => pure s) := by simp only [Builtin.min_, List.foldlM_cons, List.foldlM_nil]
attribute [local go_sem] min2_ints min_of_two
theorem signs_walk (x : Nat) (k n : Int) (hx : x < 4294967296) (hn : -9223372036854775808 ≤ n) (hn1 : n ≤ 9223372036854775807) (w : World) :
    Calls Try.prog 6 #[.int .u32 x, .int .i64 k, .int .i64 n] w fun e w' => e = .returned (.bool true) ∧ Grown w w' := by
  have h1 := fun w => signed_all (n := n) hx w
  have h2 := fun w => rsigned_all (n := n) hx w
  have h3 := fun w => fits_any k n w hn hn1
  have h4 := fun w => rfits_any k n w hn hn1
  have h5 := fun w => bits_all k n w
  generalize sgnV x n = a at h1 h2
  generalize fitsB k n = b at h3 h4
  by_cases hp : 0 < n
  · have h6 : ∀ w, Calls Try.prog 10 #[.int .u32 (k % 4294967296), .int .i64 (32 - min n 32), .int .i64 (min n 32)] w fun e w' => e = .returned (.int .u32 (bitsV k n : Nat)) ∧ w' = w := fun w => by
      have := rget_all (x := (k % 4294967296).toNat) (f := 32 - min n 32) (n := min n 32) (by omega) (by omega) (by omega) w
      rw [want_val k n hp, show (((k % 4294967296).toNat : Nat) : Int) = k % 4294967296 by omega] at this
      exact this
    generalize bitsV k n = c at h5 h6
    by_cases hq : 32 < n
    · rw [show min n 32 = 32 by omega] at h6
      go_enter Try.func6, Try.ntmps6
      go_wp2_with (first | (go_at_call 8; refine (alive_any _).mono ?_; rintro e w' ⟨rfl, ⟨nq, rfl⟩⟩) | (go_at_call 14; refine (h1 _).mono ?_; rintro e w' ⟨rfl, rfl⟩) | (go_at_call 15; refine (h2 _).mono ?_; rintro e w' ⟨rfl, rfl⟩) | (go_at_call 13; refine (h3 _).mono ?_; rintro e w' ⟨rfl, rfl⟩) | (go_at_call 16; refine (h4 _).mono ?_; rintro e w' ⟨rfl, rfl⟩) | (go_at_call 17; refine (h5 _).mono ?_; rintro e w' ⟨rfl, rfl⟩) | (go_at_call 10; refine (h6 _).mono ?_; rintro e w' ⟨rfl, rfl⟩))
      go_ret
      exact ⟨rfl, Drawn.grown ⟨⟨_, rfl⟩⟩⟩
    · have hq' : ¬ 32 < n := hq
      rw [show min n 32 = n by omega] at h6
      go_enter Try.func6, Try.ntmps6
      go_wp2_with (first | (go_at_call 8; refine (alive_any _).mono ?_; rintro e w' ⟨rfl, ⟨nq, rfl⟩⟩) | (go_at_call 14; refine (h1 _).mono ?_; rintro e w' ⟨rfl, rfl⟩) | (go_at_call 15; refine (h2 _).mono ?_; rintro e w' ⟨rfl, rfl⟩) | (go_at_call 13; refine (h3 _).mono ?_; rintro e w' ⟨rfl, rfl⟩) | (go_at_call 16; refine (h4 _).mono ?_; rintro e w' ⟨rfl, rfl⟩) | (go_at_call 17; refine (h5 _).mono ?_; rintro e w' ⟨rfl, rfl⟩) | (go_at_call 10; refine (h6 _).mono ?_; rintro e w' ⟨rfl, rfl⟩))
      go_ret
      exact ⟨rfl, Drawn.grown ⟨⟨_, rfl⟩⟩⟩
  · have e0 : bitsV k n = 0 := by
      unfold bitsV; rw [show (min n 32).toNat = 0 by omega, Nat.pow_zero, Nat.mod_one]
    rw [e0] at h5
    clear e0
    go_enter Try.func6, Try.ntmps6
    go_wp2_with (first | (go_at_call 8; refine (alive_any _).mono ?_; rintro e w' ⟨rfl, ⟨nq, rfl⟩⟩) | (go_at_call 14; refine (h1 _).mono ?_; rintro e w' ⟨rfl, rfl⟩) | (go_at_call 15; refine (h2 _).mono ?_; rintro e w' ⟨rfl, rfl⟩) | (go_at_call 13; refine (h3 _).mono ?_; rintro e w' ⟨rfl, rfl⟩) | (go_at_call 16; refine (h4 _).mono ?_; rintro e w' ⟨rfl, rfl⟩) | (go_at_call 17; refine (h5 _).mono ?_; rintro e w' ⟨rfl, rfl⟩))
    go_ret
    exact ⟨rfl, Drawn.grown ⟨⟨_, rfl⟩⟩⟩
/-- What fits is what is read back. -/
theorem low_bits (x : Int) {n : Nat} (h2 : n ≤ 32) : (((x % 4294967296).toNat % 2 ^ n : Nat) : Int) = x % ((2 ^ n : Nat) : Int) := by
  rw [Int.natCast_emod, show (((x % 4294967296).toNat : Nat) : Int) = x % 4294967296 by omega]
  refine Int.emod_emod_of_dvd x ?_
  rw [show (4294967296 : Int) = ((2 ^ 32 : Nat) : Int) from rfl]
  exact Int.natCast_dvd_natCast.mpr (Nat.pow_dvd_pow 2 h2)
theorem mul_small {M t : Int} (h0 : -(2 * M) < 2 * M * t) (h1 : 2 * M * t < 2 * M) (hM : 0 < M) : t = 0 := by
  by_cases h2 : 1 ≤ t
  · have := Int.mul_le_mul_of_nonneg_left h2 (show 0 ≤ 2 * M by omega)
    omega
  · by_cases h3 : t ≤ -1
    · have := Int.mul_le_mul_of_nonneg_left h3 (show 0 ≤ 2 * M by omega)
      omega
    · omega
theorem sgn_is (x : Int) (n : Nat) (h1 : 1 ≤ n) (h2 : n ≤ 32) :
    ∃ t : Int, sgn (x % 4294967296).toNat n = x + 2 * ((2 ^ (n - 1) : Nat) : Int) * t ∧ -((2 ^ (n - 1) : Nat) : Int) ≤ sgn (x % 4294967296).toNat n ∧ sgn (x % 4294967296).toNat n < ((2 ^ (n - 1) : Nat) : Int) := by
  have hl := low_bits x h2
  have ht := top_div (x := (x % 4294967296).toNat) h1
  have hp := pow_pos' (n - 1)
  have he : 2 ^ n = 2 * 2 ^ (n - 1) := by rw [← Nat.pow_succ']; congr 1; omega
  have hq := Int.emod_add_mul_ediv x ((2 ^ n : Nat) : Int)
  unfold sgn
  rw [he] at hl ht hq ⊢
  generalize (x % 4294967296).toNat = X at hl ht ⊢
  generalize 2 ^ (n - 1) = M at hl ht hp hq ⊢
  have hr : X % (2 * M) < 2 * M := Nat.mod_lt _ (by omega)
  have hd := Nat.div_add_mod (X % (2 * M)) M
  have hm := Nat.mod_lt (X % (2 * M)) hp
  generalize X % (2 * M) = r at hl ht hr hd hm ⊢
  rw [ht] at hd
  rw [← hl] at hq
  generalize x / ((2 * M : Nat) : Int) = q at hq
  generalize r % M = r2 at hd hm
  have hq2 : (r : Int) + 2 * (M : Int) * q = x := by rw [← hq]; push_cast; omega
  generalize X.testBit (n - 1) = bb at hd ⊢
  cases bb
  · simp only [Bool.false_eq_true, if_false] at hd ⊢
    refine ⟨-q, ?_, ?_, ?_⟩
    · rw [Int.mul_neg]; omega
    · omega
    · omega
  · simp only [if_true] at hd ⊢
    refine ⟨-q - 1, ?_, ?_, ?_⟩
    · rw [Int.mul_sub, Int.mul_neg]; push_cast; omega
    · push_cast; omega
    · push_cast; omega
theorem fits_back (x : Int) (n : Nat) (h1 : 1 ≤ n) (h2 : n ≤ 32) : fitsB x n = (sgnV (x % 4294967296).toNat n == x) := by
  obtain ⟨t, ha, hb, hc⟩ := sgn_is x n h1 h2
  have hp := pow_pos' (n - 1)
  have hs : sgnV (x % 4294967296).toNat n = sgn (x % 4294967296).toNat n := by
    unfold sgnV; rw [if_pos (by omega)]; rfl
  rw [hs]
  unfold fitsB
  rw [show ((n : Int)).toNat = n from rfl, Bool.eq_iff_iff, decide_eq_true_iff, beq_iff_eq]
  generalize sgn (x % 4294967296).toNat n = s at ha hb hc ⊢
  generalize 2 ^ (n - 1) = M at ha hb hc hp ⊢
  constructor
  · intro h
    have h0 : t = 0 := mul_small (M := (M : Int)) (by omega) (by omega) (by omega)
    subst h0
    omega
  · intro h
    subst h
    omega
theorem fits_more (x n m : Int) (h1 : 1 ≤ n) (h2 : n ≤ m) (h : fitsB x n = true) : fitsB x m = true := by
  unfold fitsB at h ⊢
  rw [decide_eq_true_iff] at h ⊢
  have hp : 2 ^ (n.toNat - 1) ≤ 2 ^ (m.toNat - 1) := Nat.pow_le_pow_right (by decide) (by omega)
  generalize 2 ^ (n.toNat - 1) = a at h hp
  generalize 2 ^ (m.toNat - 1) = b at hp ⊢
  omega
theorem wfits_walk (x n m : Int) (hn : -9223372036854775808 ≤ n) (hn1 : n ≤ 9223372036854775807) (hm : -9223372036854775808 ≤ m) (hm1 : m ≤ 9223372036854775807) (w : World) :
    Calls Try.prog 5 #[.int .i64 x, .int .i64 n, .int .i64 m] w fun e w' => e = .returned (.bool true) ∧ Grown w w' := by
  have A := fun w => alive_any w
  by_cases c1 : m < n
  · go_enter Try.func5, Try.ntmps5
    go_wp2_with (go_at_call 8; refine (alive_any _).mono ?_; rintro e w' ⟨rfl, ⟨nq, rfl⟩⟩)
    go_ret
    exact ⟨rfl, Drawn.grown ⟨⟨_, rfl⟩⟩⟩
  · by_cases c2 : n < 1
    · go_enter Try.func5, Try.ntmps5
      go_wp2_with (go_at_call 8; refine (alive_any _).mono ?_; rintro e w' ⟨rfl, ⟨nq, rfl⟩⟩)
      go_ret
      exact ⟨rfl, Drawn.grown ⟨⟨_, rfl⟩⟩⟩
    · by_cases c3 : 32 < m
      · go_enter Try.func5, Try.ntmps5
        go_wp2_with (go_at_call 8; refine (alive_any _).mono ?_; rintro e w' ⟨rfl, ⟨nq, rfl⟩⟩)
        go_ret
        exact ⟨rfl, Drawn.grown ⟨⟨_, rfl⟩⟩⟩
      · have h1 := fun w => fits_any x n w hn hn1
        have h2 := fun w => fits_any x m w hm hm1
        have h3 := fun w => signed_all (x := (x % 4294967296).toNat) (n := n) (by omega) w
        rw [show (((x % 4294967296).toNat : Nat) : Int) = x % 4294967296 by omega] at h3
        have h4 := fits_back x n.toNat (by omega) (by omega)
        rw [show ((n.toNat : Nat) : Int) = n by omega] at h4
        have h5 := fits_more x n m (by omega) (by omega)
        generalize sgnV (x % 4294967296).toNat n = s at h3 h4
        cases hf : fitsB x n
        · rw [hf] at h1 h4
          have hs : (s == x) = false := h4.symm
          clear h2 h5 h4 hf
          go_enter Try.func5, Try.ntmps5
          go_wp2_with (first | (go_at_call 8; refine (alive_any _).mono ?_; rintro e w' ⟨rfl, ⟨nq, rfl⟩⟩) | (go_at_call 14; refine (h3 _).mono ?_; rintro e w' ⟨rfl, rfl⟩) | (go_at_call 13; refine (h1 _).mono ?_; rintro e w' ⟨rfl, rfl⟩))
          go_ret
          exact ⟨rfl, Drawn.grown ⟨⟨_, rfl⟩⟩⟩
        · rw [hf] at h1 h4
          rw [h5 hf] at h2
          have hs : (s == x) = true := h4.symm
          clear h5 h4 hf
          go_enter Try.func5, Try.ntmps5
          go_wp2_with (first | (go_at_call 8; refine (alive_any _).mono ?_; rintro e w' ⟨rfl, ⟨nq, rfl⟩⟩) | (go_at_call 14; refine (h3 _).mono ?_; rintro e w' ⟨rfl, rfl⟩) | (go_at_call 13; ((with_reducible refine (h1 _).mono ?_)); rintro e w' ⟨rfl, rfl⟩) | (go_at_call 13; ((with_reducible refine (h2 _).mono ?_)); rintro e w' ⟨rfl, rfl⟩))
          go_ret
          exact ⟨rfl, Drawn.grown ⟨⟨_, rfl⟩⟩⟩
/-! ### A word put together of its parts -/
theorem whole {w v a b : Nat} (hw : w < 4294967296) (h1 : a ≤ b) (h2 : b ≤ 32) :
    PutN (PutN (PutN v (32 - a) a (GetN w (32 - a) a)) (32 - b) (b - a) (GetN w (32 - b) (b - a))) 0 (32 - b) (GetN w 0 (32 - b)) = w := by
  refine word_ext (PutN_lt _ _ _ _) hw fun j hj => ?_
  rw [PutN_bit _ _ _ _ _ hj]
  split
  · rename_i h
    rw [GetN_bit]; simp; omega
  · rename_i h
    rw [PutN_bit _ _ _ _ _ hj]
    split
    · rename_i h'
      rw [GetN_bit, show j - (32 - b) + (32 - b) = j by omega, decide_eq_true (by omega)]; rfl
    · rename_i h'
      rw [PutN_bit _ _ _ _ _ hj, if_pos (by omega), GetN_bit, show j - (32 - a) + (32 - a) = j by omega, decide_eq_true (by omega)]; rfl
theorem get_whole {w : Nat} (hw : w < 4294967296) : GetN w 0 32 = w := by
  unfold GetN; rw [Nat.pow_zero, Nat.div_one]; exact Nat.mod_eq_of_lt hw
theorem splits_walk (x : Nat) (a b : Int) (hx : x < 4294967296) (ha : -9223372036854775808 ≤ a) (ha1 : a ≤ 9223372036854775807) (hb : -9223372036854775808 ≤ b) (hb1 : b ≤ 9223372036854775807) (w : World) :
    Calls Try.prog 4 #[.int .u32 x, .int .i64 a, .int .i64 b] w fun e w' => e = .returned (.bool true) ∧ Grown w w' := by
  by_cases c1 : a < 0
  · go_enter Try.func4, Try.ntmps4
    go_wp2_with (go_at_call 8; refine (alive_any _).mono ?_; rintro e w' ⟨rfl, ⟨nq, rfl⟩⟩)
    go_ret
    exact ⟨rfl, Drawn.grown ⟨⟨_, rfl⟩⟩⟩
  · by_cases c2 : b < a
    · go_enter Try.func4, Try.ntmps4
      go_wp2_with (go_at_call 8; refine (alive_any _).mono ?_; rintro e w' ⟨rfl, ⟨nq, rfl⟩⟩)
      go_ret
      exact ⟨rfl, Drawn.grown ⟨⟨_, rfl⟩⟩⟩
    · by_cases c3 : 32 < b
      · go_enter Try.func4, Try.ntmps4
        go_wp2_with (go_at_call 8; refine (alive_any _).mono ?_; rintro e w' ⟨rfl, ⟨nq, rfl⟩⟩)
        go_ret
        exact ⟨rfl, Drawn.grown ⟨⟨_, rfl⟩⟩⟩
      · obtain ⟨a, rfl⟩ : ∃ m : Nat, a = m := ⟨a.toNat, by omega⟩
        obtain ⟨b, rfl⟩ : ∃ m : Nat, b = m := ⟨b.toNat, by omega⟩
        have h1 : a ≤ b := by omega
        have h2 : b ≤ 32 := by omega
        have e1 := getV_yes (x := x) (f := 0) (n := a) (by omega)
        have e2 := getV_yes (x := x) (f := a) (n := b - a) (by omega)
        have e3 := getV_yes (x := x) (f := b) (n := 32 - b) (by omega)
        have e4 := getV_yes (x := x) (f := 0) (n := 32) (by omega)
        have g1 := fun w => get_all (f := (0 : Nat)) (n := a) hx (by omega) (by omega) w
        have g2 := fun w => get_all (f := a) (n := (b - a : Nat)) hx (by omega) (by omega) w
        have g3 := fun w => get_all (f := b) (n := (32 - b : Nat)) hx (by omega) (by omega) w
        have g4 := fun w => get_all (f := (0 : Nat)) (n := (32 : Nat)) hx (by omega) (by omega) w
        rw [e1, show 32 - 0 - a = 32 - a by omega] at g1
        rw [e2, show 32 - a - (b - a) = 32 - b by omega, show ((b - a : Nat) : Int) = b - a by omega] at g2
        rw [e3, show 32 - b - (32 - b) = 0 by omega, show ((32 - b : Nat) : Int) = 32 - b by omega] at g3
        rw [e4, show 32 - 0 - 32 = 0 by omega, get_whole hx] at g4
        have p1 := fun v w => put_all (x := v) (y := GetN x (32 - a) a) (f := (0 : Nat)) (n := a) (GetN_lt _ _ _ (by omega)) (by omega) (by omega) w
        have p2 := fun v w => put_all (x := v) (y := GetN x (32 - b) (b - a)) (f := a) (n := (b - a : Nat)) (GetN_lt _ _ _ (by omega)) (by omega) (by omega) w
        have p3 := fun v w => put_all (x := v) (y := GetN x 0 (32 - b)) (f := b) (n := (32 - b : Nat)) (GetN_lt _ _ _ (by omega)) (by omega) (by omega) w
        have hw := fun v => whole (w := x) (v := v) hx h1 h2
        have u1 := fun v => putV_yes (x := v) (y := GetN x (32 - a) a) (f := 0) (n := a) (by omega)
        have u2 := fun v => putV_yes (x := v) (y := GetN x (32 - b) (b - a)) (f := a) (n := b - a) (by omega)
        have u3 := fun v => putV_yes (x := v) (y := GetN x 0 (32 - b)) (f := b) (n := 32 - b) (by omega)
        rw [show 32 - 0 - a = 32 - a by omega] at u1
        rw [show 32 - a - (b - a) = 32 - b by omega] at u2
        rw [show 32 - b - (32 - b) = 0 by omega] at u3
        simp only [u1] at p1
        simp only [u2] at p2
        simp only [u3] at p3
        rw [show ((b - a : Nat) : Int) = b - a by omega] at p2
        rw [show ((32 - b : Nat) : Int) = 32 - b by omega] at p3
        replace p1 := p1 (4294967295 ^^^ x)
        have ex := xor_u32 (a := 4294967295) (by omega) hx
        rw [← ex] at p1
        have HW := Lib.hid (hw (4294967295 ^^^ x))
        clear ex e1 e2 e3 e4 u1 u2 u3 hw
        generalize GetN x (32 - a) a = r1 at g1 p1 HW
        generalize 4294967295 ^^^ x = nx at p1 HW
        generalize GetN x (32 - b) (b - a) = r2 at g2 p2 HW
        generalize GetN x 0 (32 - b) = r3 at g3 p3 HW
        replace g1 : ∀ w, Calls Try.prog 9 #[.int .u32 x, .int .i64 0, .int .i64 a] w fun e w' => e = .returned (.int .u32 r1) ∧ Drawn w w' := g1
        replace g4 : ∀ w, Calls Try.prog 9 #[.int .u32 x, .int .i64 0, .int .i64 32] w fun e w' => e = .returned (.int .u32 x) ∧ Drawn w w' := g4
        replace p1 : ∀ w, Calls Try.prog 11 #[.int .u32 (bits .xor .u32 IntKind.u32.max x), .int .i64 0, .int .i64 a, .int .u32 r1] w fun e w' => e = .returned (.int .u32 (PutN nx (32 - a) a r1 : Nat)) ∧ Drawn w w' := p1
        go_enter Try.func4, Try.ntmps4
        go_wp2_with (first | (go_at_call 8; refine (alive_any _).mono ?_; rintro e w' ⟨rfl, ⟨nq, rfl⟩⟩) | (go_at_call 9; (with_reducible refine (g1 _).mono ?_); rintro e w' ⟨rfl, ⟨nq, rfl⟩⟩) | (go_at_call 9; (with_reducible refine (g2 _).mono ?_); rintro e w' ⟨rfl, ⟨nq, rfl⟩⟩) | (go_at_call 9; (with_reducible refine (g3 _).mono ?_); rintro e w' ⟨rfl, ⟨nq, rfl⟩⟩) | (go_at_call 9; (with_reducible refine (g4 _).mono ?_); rintro e w' ⟨rfl, ⟨nq, rfl⟩⟩) | (go_at_call 11; (with_reducible refine (p1 _).mono ?_); rintro e w' ⟨rfl, ⟨nq, rfl⟩⟩) | (go_at_call 11; (with_reducible refine (p2 _ _).mono ?_); rintro e w' ⟨rfl, ⟨nq, rfl⟩⟩) | (go_at_call 11; (with_reducible refine (p3 _ _).mono ?_); rintro e w' ⟨rfl, ⟨nq, rfl⟩⟩))
        · go_ret
          exact ⟨rfl, Drawn.grown ⟨⟨_, rfl⟩⟩⟩
        · have hne : ¬ ((PutN (PutN (PutN nx (32 - a) a r1) (32 - b) (b - a) r2) 0 (32 - b) r3 : Nat) : Int) = (x : Int) := by assumption
          exact absurd (congrArg Nat.cast HW.out) hne
end Go.Proofs.Ytgkfenekaagllaa.Walk
