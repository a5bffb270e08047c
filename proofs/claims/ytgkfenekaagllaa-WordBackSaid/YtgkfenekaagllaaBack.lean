import Derived.Test.YtgkfenekaagllaaLaws
/- WordBack, walked. -/
namespace Go.Proofs.Ytgkfenekaagllaa.Walk
open Go.RowKit Go.Proofs.Ytgkfenekaagllaa.Num

theorem back_high {x y f n : Nat} (h : f + n ≤ 32) : GetN (PutN x (32 - f - n) n y) (32 - f) f = GetN x (32 - f) f := by
  refine Nat.eq_of_testBit_eq fun j => ?_
  rw [GetN_bit, GetN_bit]
  by_cases hj : j < f
  · rw [PutN_bit _ _ _ _ _ (by omega), if_neg (by omega)]
  · rw [decide_eq_false hj]; rfl
theorem back_low {x y f n : Nat} (h : f + n ≤ 32) : GetN (PutN x (32 - f - n) n y) 0 (32 - f - n) = GetN x 0 (32 - f - n) := by
  refine Nat.eq_of_testBit_eq fun j => ?_
  rw [GetN_bit, GetN_bit]
  by_cases hj : j < 32 - f - n
  · rw [PutN_bit _ _ _ _ _ (by omega), if_neg (by omega)]
  · rw [decide_eq_false hj]; rfl
theorem back_same {x y f n : Nat} (hx : x < 4294967296) : PutN (PutN x (32 - f - n) n y) (32 - f - n) n (GetN x (32 - f - n) n) = x := by
  refine word_ext (PutN_lt _ _ _ _) hx fun j hj => ?_
  rw [PutN_bit _ _ _ _ _ hj]
  split
  · rename_i h'
    rw [GetN_bit, show j - (32 - f - n) + (32 - f - n) = j by omega, decide_eq_true (by omega)]; rfl
  · rename_i h'
    rw [PutN_bit _ _ _ _ _ hj, if_neg h']
theorem back_got {x y f n : Nat} (hy : y < 4294967296) (h : f + n ≤ 32) : GetN (PutN x (32 - f - n) n y) (32 - f - n) n = bitsV y n := by
  have e : bitsV y n = y % 2 ^ n := by
    unfold bitsV
    rw [show (min (n : Int) 32).toNat = n by omega, show ((y : Int) % 4294967296).toNat = y by omega]
  rw [e]
  refine Nat.eq_of_testBit_eq fun j => ?_
  rw [GetN_bit, Nat.testBit_mod_two_pow]
  by_cases hj : j < n
  · rw [PutN_bit _ _ _ _ _ (by omega), if_pos (by omega), show j + (32 - f - n) - (32 - f - n) = j by omega]
  · rw [decide_eq_false hj]; rfl
/-- A number's lowest bits have its sign. -/
theorem sgn_low (k : Int) (n : Nat) (h1 : 1 ≤ n) (h2 : n ≤ 32) : sgnV (bitsV k n) n = sgnV (k % 4294967296).toNat n := by
  unfold sgnV
  rw [if_pos (by omega), if_pos (by omega)]
  unfold sgn bitsV
  rw [show (min (n : Int) 32).toNat = n by omega, show ((n : Int)).toNat = n from rfl, Nat.mod_mod, Nat.testBit_mod_two_pow, decide_eq_true (by omega)]; rfl
theorem back_no (x y : Nat) (f n k : Int) (hy : y < 4294967296) (hn : -9223372036854775808 ≤ n) (hn1 : n ≤ 9223372036854775807) (h : goodB f n = false) (w : World) :
    Calls Try.prog 7 #[.int .u32 x, .int .i64 f, .int .i64 n, .int .u32 y, .int .i64 k] w fun e w' => e = .returned (.bool true) ∧ Grown w w' := by
  have g := fun w => rgood_any f n w hn hn1
  have p := fun w => put_all (x := x) (f := f) hy hn hn1 w
  rw [h] at g
  have e : putV x f n y = x := by unfold putV; rw [h]; rfl
  rw [e] at p
  clear e h
  go_enter Try.func7, Try.ntmps7
  go_wp2_with (first | (go_at_call 8; refine (alive_any _).mono ?_; rintro e w' ⟨rfl, ⟨nq, rfl⟩⟩) | (go_at_call 18; refine (g _).mono ?_; rintro e w' ⟨rfl, rfl⟩) | (go_at_call 11; (with_reducible refine (p _).mono ?_); rintro e w' ⟨rfl, ⟨nq, rfl⟩⟩))
  go_ret
  exact ⟨rfl, Drawn.grown ⟨⟨_, rfl⟩⟩⟩
set_option maxHeartbeats 2000000 in
theorem back_yes (x y f n : Nat) (k : Int) (hx : x < 4294967296) (hy : y < 4294967296) (h : f + n ≤ 32) (w : World) :
    Calls Try.prog 7 #[.int .u32 x, .int .i64 f, .int .i64 n, .int .u32 y, .int .i64 k] w fun e w' => e = .returned (.bool true) ∧ Grown w w' := by
  have g := fun w => rgood_any f n w (by omega) (by omega)
  rw [show goodB (f : Int) (n : Int) = true by simp [goodB]; omega] at g
  have e1 := putV_yes (x := x) (y := y) h
  have hv := PutN_lt x (32 - f - n) n y
  have p1 := fun w => put_all (x := x) (f := f) (n := n) hy (by omega) (by omega) w
  rw [e1] at p1
  have k1 := back_high (x := x) (y := y) h
  have k2 := back_low (x := x) (y := y) h
  have k3 := back_same (x := x) (y := y) (f := f) (n := n) hx
  have k4 := back_got (x := x) (y := y) hy h
  have hg := GetN_lt x (32 - f - n) n (by omega)
  generalize PutN x (32 - f - n) n y = v at p1 hv k1 k2 k3 k4
  have g1 := fun w => get_all (x := v) (f := (0 : Nat)) (n := f) hv (by omega) (by omega) w
  have g2 := fun w => get_all (x := x) (f := (0 : Nat)) (n := f) hx (by omega) (by omega) w
  have g3 := fun w => get_all (x := v) (f := (f + n : Nat)) (n := (32 - f - n : Nat)) hv (by omega) (by omega) w
  have g4 := fun w => get_all (x := x) (f := (f + n : Nat)) (n := (32 - f - n : Nat)) hx (by omega) (by omega) w
  have g5 := fun w => get_all (x := x) (f := f) (n := n) hx (by omega) (by omega) w
  have g6 := fun w => get_all (x := v) (f := f) (n := n) hv (by omega) (by omega) w
  have p2 := fun w => put_all (x := v) (y := GetN x (32 - f - n) n) (f := f) (n := n) hg (by omega) (by omega) w
  rw [getV_yes (by omega), show 32 - 0 - f = 32 - f by omega] at g1 g2
  rw [getV_yes (by omega), show 32 - (f + n) - (32 - f - n) = 0 by omega, show ((f + n : Nat) : Int) = f + n by omega, show ((32 - f - n : Nat) : Int) = 32 - f - n by omega] at g3 g4
  rw [getV_yes h] at g5 g6
  rw [putV_yes h, k3] at p2
  rw [k1] at g1
  rw [k2] at g3
  rw [k4] at g6
  have b1 := fun w => bits_all y n w
  have b2 := fun w => bits_all k n w
  have s1 := fun w => signed_all (x := bitsV k n) (n := n) (bitsV_lt k n) w
  have f1 := fun w => fits_any k n w (by omega) (by omega)
  clear k1 k2 k3 k4 e1 hg
  generalize GetN x (32 - f) f = r1 at g1 g2
  generalize GetN x 0 (32 - f - n) = r2 at g3 g4
  generalize GetN x (32 - f - n) n = r3 at g5 p2
  generalize bitsV y n = r4 at g6 b1
  replace g1 : ∀ w, Calls Try.prog 9 #[.int .u32 v, .int .i64 0, .int .i64 f] w fun e w' => e = .returned (.int .u32 r1) ∧ Drawn w w' := g1
  replace g2 : ∀ w, Calls Try.prog 9 #[.int .u32 x, .int .i64 0, .int .i64 f] w fun e w' => e = .returned (.int .u32 r1) ∧ Drawn w w' := g2
  by_cases hn : (n : Int) < 1
  · clear b2 s1 f1
    go_enter Try.func7, Try.ntmps7
    go_wp2_with (first | (go_at_call 8; refine (alive_any _).mono ?_; rintro e w' ⟨rfl, ⟨nq, rfl⟩⟩) | (go_at_call 18; (with_reducible refine (g _).mono ?_); rintro e w' ⟨rfl, rfl⟩) | (go_at_call 11; (with_reducible refine (p1 _).mono ?_); rintro e w' ⟨rfl, ⟨nq, rfl⟩⟩) | (go_at_call 11; (with_reducible refine (p2 _).mono ?_); rintro e w' ⟨rfl, ⟨nq, rfl⟩⟩) | (go_at_call 9; (with_reducible refine (g1 _).mono ?_); rintro e w' ⟨rfl, ⟨nq, rfl⟩⟩) | (go_at_call 9; (with_reducible refine (g2 _).mono ?_); rintro e w' ⟨rfl, ⟨nq, rfl⟩⟩) | (go_at_call 9; (with_reducible refine (g3 _).mono ?_); rintro e w' ⟨rfl, ⟨nq, rfl⟩⟩) | (go_at_call 9; (with_reducible refine (g4 _).mono ?_); rintro e w' ⟨rfl, ⟨nq, rfl⟩⟩) | (go_at_call 9; (with_reducible refine (g5 _).mono ?_); rintro e w' ⟨rfl, ⟨nq, rfl⟩⟩) | (go_at_call 9; (with_reducible refine (g6 _).mono ?_); rintro e w' ⟨rfl, ⟨nq, rfl⟩⟩) | (go_at_call 17; (with_reducible refine (b1 _).mono ?_); rintro e w' ⟨rfl, rfl⟩))
    go_ret
    exact ⟨rfl, Drawn.grown ⟨⟨_, rfl⟩⟩⟩
  · cases hf : fitsB k n
    · rw [hf] at f1
      clear b2 s1 hf
      go_enter Try.func7, Try.ntmps7
      go_wp2_with (first | (go_at_call 8; refine (alive_any _).mono ?_; rintro e w' ⟨rfl, ⟨nq, rfl⟩⟩) | (go_at_call 18; (with_reducible refine (g _).mono ?_); rintro e w' ⟨rfl, rfl⟩) | (go_at_call 11; (with_reducible refine (p1 _).mono ?_); rintro e w' ⟨rfl, ⟨nq, rfl⟩⟩) | (go_at_call 11; (with_reducible refine (p2 _).mono ?_); rintro e w' ⟨rfl, ⟨nq, rfl⟩⟩) | (go_at_call 9; (with_reducible refine (g1 _).mono ?_); rintro e w' ⟨rfl, ⟨nq, rfl⟩⟩) | (go_at_call 9; (with_reducible refine (g2 _).mono ?_); rintro e w' ⟨rfl, ⟨nq, rfl⟩⟩) | (go_at_call 9; (with_reducible refine (g3 _).mono ?_); rintro e w' ⟨rfl, ⟨nq, rfl⟩⟩) | (go_at_call 9; (with_reducible refine (g4 _).mono ?_); rintro e w' ⟨rfl, ⟨nq, rfl⟩⟩) | (go_at_call 9; (with_reducible refine (g5 _).mono ?_); rintro e w' ⟨rfl, ⟨nq, rfl⟩⟩) | (go_at_call 9; (with_reducible refine (g6 _).mono ?_); rintro e w' ⟨rfl, ⟨nq, rfl⟩⟩) | (go_at_call 17; (with_reducible refine (b1 _).mono ?_); rintro e w' ⟨rfl, rfl⟩) | (go_at_call 13; (with_reducible refine (f1 _).mono ?_); rintro e w' ⟨rfl, rfl⟩))
      go_ret
      exact ⟨rfl, Drawn.grown ⟨⟨_, rfl⟩⟩⟩
    · have hs := fits_back k n (by omega) (by omega)
      rw [hf] at hs f1
      rw [sgn_low k n (by omega) (by omega)] at s1
      have hs' := beq_iff_eq.mp hs.symm
      rw [hs'] at s1
      clear hs hs' hf
      generalize bitsV k n = r5 at b2 s1
      go_enter Try.func7, Try.ntmps7
      go_wp2_with (first | (go_at_call 8; refine (alive_any _).mono ?_; rintro e w' ⟨rfl, ⟨nq, rfl⟩⟩) | (go_at_call 18; (with_reducible refine (g _).mono ?_); rintro e w' ⟨rfl, rfl⟩) | (go_at_call 11; (with_reducible refine (p1 _).mono ?_); rintro e w' ⟨rfl, ⟨nq, rfl⟩⟩) | (go_at_call 11; (with_reducible refine (p2 _).mono ?_); rintro e w' ⟨rfl, ⟨nq, rfl⟩⟩) | (go_at_call 9; (with_reducible refine (g1 _).mono ?_); rintro e w' ⟨rfl, ⟨nq, rfl⟩⟩) | (go_at_call 9; (with_reducible refine (g2 _).mono ?_); rintro e w' ⟨rfl, ⟨nq, rfl⟩⟩) | (go_at_call 9; (with_reducible refine (g3 _).mono ?_); rintro e w' ⟨rfl, ⟨nq, rfl⟩⟩) | (go_at_call 9; (with_reducible refine (g4 _).mono ?_); rintro e w' ⟨rfl, ⟨nq, rfl⟩⟩) | (go_at_call 9; (with_reducible refine (g5 _).mono ?_); rintro e w' ⟨rfl, ⟨nq, rfl⟩⟩) | (go_at_call 9; (with_reducible refine (g6 _).mono ?_); rintro e w' ⟨rfl, ⟨nq, rfl⟩⟩) | (go_at_call 17; (with_reducible refine (b1 _).mono ?_); rintro e w' ⟨rfl, rfl⟩) | (go_at_call 13; (with_reducible refine (f1 _).mono ?_); rintro e w' ⟨rfl, rfl⟩) | (go_at_call 17; (with_reducible refine (b2 _).mono ?_); rintro e w' ⟨rfl, rfl⟩) | (go_at_call 14; (with_reducible refine (s1 _).mono ?_); rintro e w' ⟨rfl, rfl⟩))
      go_ret
      exact ⟨rfl, Drawn.grown ⟨⟨_, rfl⟩⟩⟩
theorem back_walk (x y : Nat) (f n k : Int) (hx : x < 4294967296) (hy : y < 4294967296) (hn : -9223372036854775808 ≤ n) (hn1 : n ≤ 9223372036854775807) (w : World) :
    Calls Try.prog 7 #[.int .u32 x, .int .i64 f, .int .i64 n, .int .u32 y, .int .i64 k] w fun e w' => e = .returned (.bool true) ∧ Grown w w' := by
  cases h : goodB f n
  · exact back_no x y f n k hy hn hn1 h w
  · obtain ⟨f, n, rfl, rfl, h1⟩ := goodB_nats h
    exact back_yes x y f n k hx hy h1 w
end Go.Proofs.Ytgkfenekaagllaa.Walk
