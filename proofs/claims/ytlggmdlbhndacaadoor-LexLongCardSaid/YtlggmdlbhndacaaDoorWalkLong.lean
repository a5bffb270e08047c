import Derived.Test.YtlggmdlbhndacaaDoorUse
import Derived.IntWalk
import Derived.Outline
/- LexLong walked: a text of the greatest length is read, one byte more is too long. -/
namespace Go.Proofs.YtlggmdlbhndacaaDoor.Lx.WalkLong
open Go.RowKit Go.Proofs.YtlggmdlbhndacaaDoorW.PrintWords Go.Proofs.YtlggmdlbhndacaaDoorW.PrintLast Go.Proofs.YtlggmdlbhndacaaDoorW.PrintMore Line LexV RefV Use

theorem scan_spaces (n : Nat) : ∀ i, scan (List.replicate n 32) i = .ok [] := by
  induction n with
  | zero => intro i; exact scan_nil i
  | succ n ih => intro i; rw [List.replicate_succ, scan_white _ _ _ (by decide) (by decide), ih]
theorem lex_spaces (n : Nat) : lex (List.replicate n 32) = .ok [] := by
  unfold lex
  rw [cut_line _ (by intro c hc; rw [(List.mem_replicate.1 hc).2]; decide), lexAll, scan_spaces]
  rfl
theorem bytes_spaces (n : Nat) : (strOfNums (List.replicate n 32)).data.toList = List.replicate n 32 := by
  simp [strOfNums]
theorem lexV_spaces (n : Nat) : lexV (strOfNums (List.replicate n 32)).data.toList = ([], 0, 0, if 1048576 < n then 3 else 0) := by
  rw [bytes_spaces]
  unfold lexV
  rw [List.length_replicate]
  by_cases h : 1048576 < n
  · rw [if_pos h, if_pos h]
  · rw [if_neg h, if_neg h, lex_spaces]; rfl
set_option maxRecDepth 100000 in
set_option maxHeartbeats 4000000 in
theorem far (a : Int) (w : World) (h : a < -1 ∨ 1 < a) : Calls Tryd.prog 8 #[.int .i64 a] w fun e w' => e = .returned (.bool true) ∧ Below w.heap.size w w' := by
  by_cases h1 : a < -1
  · go_enter Tryd.func8, Tryd.ntmps8
    go_wp2_with (go_at_call 16; refine (alive_calls _).mono ?_; rintro e w1 ⟨rfl, hb⟩)
    go_ret
    exact ⟨rfl, hb⟩
  · have h2 : 1 < a := by omega
    clear h
    go_enter Tryd.func8, Tryd.ntmps8
    go_wp2_with (go_at_call 16; refine (alive_calls _).mono ?_; rintro e w1 ⟨rfl, hb⟩)
    go_ret
    exact ⟨rfl, hb⟩
theorem set_next (i n : Nat) (h : i < n) : (List.replicate i (32 : Int) ++ List.replicate (n - i) 0).set i 32 = List.replicate (i + 1) 32 ++ List.replicate (n - (i + 1)) 0 := by
  obtain ⟨m, rfl⟩ : ∃ m, n = i + 1 + m := ⟨n - i - 1, by omega⟩
  rw [show i + 1 + m - i = m + 1 by omega, show i + 1 + m - (i + 1) = m by omega, List.replicate_succ]
  rw [List.set_append_right _ _ (by simp), List.length_replicate, Nat.sub_self, List.set_cons_zero]
  rw [List.replicate_succ', List.append_assoc]; rfl
set_option maxRecDepth 100000 in
set_option maxHeartbeats 4000000 in
theorem near (a : Int) (n : Nat) (w : World) (h0 : -1 ≤ a) (h1 : a ≤ 1) (hn : (1048576 + a) = n) : Calls Tryd.prog 8 #[.int .i64 a] w fun e w' => e = .returned (.bool true) ∧ Below w.heap.size w w' := by
  have hw : IntKind.i64.wrap (1048576 + a) = (n : Int) := by rw [i64_w, hn]; unfold wrap64; omega
  have hn2 : n ≤ 1048577 := by omega
  have hn3 : 1048575 ≤ n := by omega
  have hv := lexV_spaces n
  have c1 := fun w => lex_calls _ hv w
  have g1 : ¬ a < -1 := by omega
  have g2 : ¬ 1 < a := by omega
  have e3 : (((if 1048576 < n then 3 else 0 : Int) == 3)) = decide (0 < a) := by
    by_cases h : 1048576 < n
    · rw [if_pos h, decide_eq_true (by omega)]; rfl
    · rw [if_neg h, decide_eq_false (by omega)]; rfl
  have e0 : (((if 1048576 < n then 3 else 0 : Int) == 0)) = decide (a ≤ 0) := by
    by_cases h : 1048576 < n
    · rw [if_pos h, decide_eq_false (by omega)]; rfl
    · rw [if_neg h, decide_eq_true (by omega)]; rfl
  obtain ⟨er, her⟩ : ∃ er : Int, er = if 1048576 < n then 3 else 0 := ⟨_, rfl⟩
  rw [← her] at c1 e3 e0
  clear her hv
  go_enter Tryd.func8, Tryd.ntmps8
  go_wp2_with (first | (go_at_call 16; refine (alive_calls _).mono ?_; rintro e w1 ⟨rfl, hb1⟩; replace hb1 := Lib.hid hb1) | ((with_reducible refine gate_dst (N := 18) rfl ?_); refine Kd.R_make (Kd.int .u8) _ 5 rfl (N := 18) rfl 44 _ _ rfl (n : Int) rfl rfl Tryd.underlying44 (.int .u8 0) 1 info5 rfl (by decide) (by omega) 0 (ok := fun _ => True) (okp := fun _ => True) rfl (fun _ hk => hk) trivial (by omega) (by omega) (Below.refl _ _) (Nat.le_refl _) ?_; intro v2 w2 ho hb2 hg_ hnew_; clear hg_ hnew_; rw [Int.toNat_natCast] at ho; replace ho := Lib.hid (Kd.R_lower ho hb1.out.size); replace hb2 := Lib.hid (below_step hb1.out hb2); obtain ⟨A1, cp1, eA1⟩ := Kd.R_slice ho.out; subst eA1; rw [List.length_replicate]) )
  go_loopw [21] (fun i wr => ∃ k : Nat, k ≤ n ∧ i = .int .i64 k ∧ Hid (Kd.R (Kd.int .u8) 5 wr w.heap.size (fun _ => True) (.slice A1 n cp1) (List.replicate k 32 ++ List.replicate (n - k) 0)) ∧ Hid (Below w.heap.size w wr)) (fun i _ => n - (intOf i).toNat)
  case atStart => exact ⟨0, Nat.zero_le _, rfl, Lib.hid (by simpa using ho.out), hb2⟩
  case round =>
    clear ho hb2 hb1
    obtain ⟨k, hk, rfl, HO, HB⟩ := hrel
    by_cases hlt : k < n
    · obtain ⟨go, co, eo, gb, gl, cl, HG⟩ := Kd.R_form HO.out (by simp; omega)
      injection eo with ea en ec
      (first | subst ea | (injection ea with ea; subst ea))
      subst ec
      clear en
      obtain ⟨hx, hf⟩ := Kd.R_celln 0 HO.out (k : Int) (by omega) (by simp; omega)
      have HP := Kd.R_putg HO.out (k : Int) 32
      rw [Int.toNat_natCast, set_next k n hlt] at HP
      replace HP := Lib.hid HP
      replace gb := Lib.hid gb
      clear HG gl
      simp only [Int.toNat_natCast] at hx hf
      go_wp2
      go_roundw
      case rel => exact ⟨k + 1, by omega, by go_num, Lib.hid HP.out.1, Lib.hid (below_set HB.out gb.out)⟩
      case measure => simp [intOf]; omega
    · obtain rfl : k = n := by omega
      rw [Nat.sub_self, List.replicate_zero, List.append_nil] at HO
      have hcv := own_string (P := Tryd.prog) Tryd.underlying44 Tryd.underlying5 Tryd.underlying9 (Kd.own_of_R HO.out)
      go_wp2_with (go_at_call 17; refine (c1 _).mono ?_; rintro e w3 ⟨A3, cp3, rfl, hC3, hl3, hb3⟩; replace hb3 := Lib.hid hb3)
      go_ret
      exact ⟨rfl, below_alloc (below_step HB.out hb3.out) _⟩
theorem long_all (a : Int) (W : World) : Calls Tryd.prog 8 #[.int .i64 a] W fun e w' => e = .returned (.bool true) ∧ Below W.heap.size W w' := by
  by_cases h : a < -1 ∨ 1 < a
  · exact far a W h
  · exact near a (1048576 + a).toNat W (by omega) (by omega) (by omega)
end Go.Proofs.YtlggmdlbhndacaaDoor.Lx.WalkLong
