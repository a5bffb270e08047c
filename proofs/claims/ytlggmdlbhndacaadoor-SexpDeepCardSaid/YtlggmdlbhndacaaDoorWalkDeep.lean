import Derived.Test.YtlggmdlbhndacaaDoorDeepP
/- SexpDeep walked: it answers true at every pair of numbers. -/
namespace Go.Proofs.YtlggmdlbhndacaaDoor.Lx.WalkDeep
open Go.RowKit Go.Proofs.YtlggmdlbhndacaaDoorW.PrintWords Go.Proofs.YtlggmdlbhndacaaDoorW.PrintLast Go.Proofs.YtlggmdlbhndacaaDoorW.PrintMore Line LexV Mach SexpP PV DeepP

set_option maxRecDepth 100000 in
set_option maxHeartbeats 4000000 in
theorem deep_out (a b : Int) (w : World) (h : a < 0 ∨ 70 < a ∨ b < 0 ∨ a < b) : Calls Tryd.prog 3 #[.int .i64 a, .int .i64 b] w fun e w' => e = .returned (.bool true) ∧ Below w.heap.size w w' := by
  have key : ∀ (b1 b2 b3 b4 : Bool), decide (a < 0) = b1 → decide (a > 70) = b2 → decide (b < 0) = b3 → decide (b > a) = b4 → (b1 || b2 || b3 || b4) = true → Calls Tryd.prog 3 #[.int .i64 a, .int .i64 b] w fun e w' => e = .returned (.bool true) ∧ Below w.heap.size w w' := by
    intro b1 b2 b3 b4 h1 h2 h3 h4 hh
    clear h
    cases b1 with
    | true =>
      go_enter Tryd.func3, Tryd.ntmps3
      go_wp2_with (go_at_call 13; refine (alive4_calls _).mono ?_; rintro e w1 ⟨rfl, hb⟩)
      go_ret
      exact ⟨rfl, hb⟩
    | false =>
      cases b2 with
      | true =>
        go_enter Tryd.func3, Tryd.ntmps3
        go_wp2_with (go_at_call 13; refine (alive4_calls _).mono ?_; rintro e w1 ⟨rfl, hb⟩)
        go_ret
        exact ⟨rfl, hb⟩
      | false =>
        cases b3 with
        | true =>
          go_enter Tryd.func3, Tryd.ntmps3
          go_wp2_with (go_at_call 13; refine (alive4_calls _).mono ?_; rintro e w1 ⟨rfl, hb⟩)
          go_ret
          exact ⟨rfl, hb⟩
        | false =>
          obtain rfl : b4 = true := hh
          go_enter Tryd.func3, Tryd.ntmps3
          go_wp2_with (go_at_call 13; refine (alive4_calls _).mono ?_; rintro e w1 ⟨rfl, hb⟩)
          go_ret
          exact ⟨rfl, hb⟩
  refine key _ _ _ _ rfl rfl rfl rfl ?_
  simp only [Bool.or_eq_true, decide_eq_true_eq]
  omega
theorem rep_push (n : Nat) (x : UInt8) (m : ByteArray) (l : List UInt8) (h : m.data.toList = l ++ List.replicate n x) : (m ++ (⟨#[x]⟩ : ByteArray)).data.toList = l ++ List.replicate (n + 1) x := by
  rw [One.ba_append, h, List.replicate_succ']
  simp
set_option maxRecDepth 100000 in
set_option maxHeartbeats 4000000 in
theorem deep_in (a b : Int) (w : World) (h1 : 0 ≤ b) (h2 : b ≤ a) (h3 : a ≤ 70) : Calls Tryd.prog 3 #[.int .i64 a, .int .i64 b] w fun e w' => e = .returned (.bool true) ∧ Below w.heap.size w w' := by
  obtain ⟨X, p1, p2, er, hp, e1, e2, e3⟩ := parse_opens a.toNat b.toNat (by omega) (by omega)
  have HP := Lib.hid hp
  have E1 := Lib.hid e1
  have E2 := Lib.hid e2
  have E3 := Lib.hid e3
  have H1 := Lib.hid h1
  have H2 := Lib.hid h2
  have H3 := Lib.hid h3
  have d1 : decide (a < 0) = false := decide_eq_false (by omega)
  have d2 : decide (a > 70) = false := decide_eq_false (by omega)
  have d3 : decide (b < 0) = false := decide_eq_false (by omega)
  have d4 : decide (b > a) = false := decide_eq_false (by omega)
  have I0 : Hid ((⟨#[]⟩ : ByteArray).data.toList = List.replicate (0 : Int).toNat 40) := Lib.hid rfl
  clear hp e1 e2 e3 h1 h2 h3
  go_enter Tryd.func3, Tryd.ntmps3
  go_wp2_with (go_at_call 13; refine (alive4_calls _).mono ?_; rintro e w1 ⟨rfl, hb⟩; replace hb := Lib.hid hb)
  go_loop [5, 6] (fun s i => ∃ (q : Int) (m : ByteArray), i = .int .i64 q ∧ s = .string m ∧ Hid (0 ≤ q ∧ q ≤ a) ∧ Hid (m.data.toList = List.replicate q.toNat 40)) (fun _ i => (a - intOf i).toNat)
  case atStart => exact ⟨0, ⟨#[]⟩, rfl, rfl, Lib.hid ⟨by omega, by have := H1.out; have := H2.out; omega⟩, I0⟩
  case round =>
    clear I0
    obtain ⟨q, m, rfl, rfl, HQ, HM⟩ := hrel
    have hq := HQ.out
    have h3 := H3.out
    have hml : m.size = q.toNat := by have := congrArg List.length HM.out; simpa using this
    by_cases hlt : q < a
    · have d5 : decide (q < a) = true := decide_eq_true hlt
      have g1 : wrap64 (q + 1) = q + 1 := wr64 (by omega) (by omega)
      have s1 : m.size + 1 ≤ 140737488355328 := by omega
      have hm2 : Hid ((m ++ (⟨#[40]⟩ : ByteArray)).data.toList = List.replicate (q + 1).toNat 40) := Lib.hid (by rw [show (q + 1).toNat = q.toNat + 1 by omega]; exact rep_push q.toNat 40 m [] HM.out)
      have hq2 : Hid (0 ≤ q + 1 ∧ q + 1 ≤ a) := Lib.hid (by omega)
      have hms : Hid ((a - (q + 1)).toNat < (a - q).toNat) := Lib.hid (by omega)
      clear hq h3 hml hlt
      go_wp2
      go_round
      case rel => exact ⟨q + 1, _, by rw [g1], rfl, hq2, hm2⟩
      case measure => rw [g1]; exact hms.out
    · have d5 : decide (q < a) = false := decide_eq_false hlt
      obtain rfl : q = a := by omega
      clear hq h3 hml hlt HQ
      have J0 : Hid (m.data.toList = List.replicate q.toNat 40 ++ List.replicate (0 : Int).toNat 41) := Lib.hid (by rw [HM.out]; simp)
      go_wp2
      go_loop [5, 7] (fun s i => ∃ (r : Int) (m : ByteArray), i = .int .i64 r ∧ s = .string m ∧ Hid (0 ≤ r ∧ r ≤ b) ∧ Hid (m.data.toList = List.replicate q.toNat 40 ++ List.replicate r.toNat 41)) (fun _ i => (b - intOf i).toNat)
      case atStart => exact ⟨0, m, rfl, rfl, Lib.hid ⟨by omega, by have := H1.out; omega⟩, J0⟩
      case round =>
        clear J0 HM d5
        obtain ⟨r, m, rfl, rfl, HR, HM⟩ := hrel
        have hr := HR.out
        have h2 := H2.out
        have h3 := H3.out
        have hml : m.size = q.toNat + r.toNat := by have := congrArg List.length HM.out; simpa using this
        by_cases hlt : r < b
        · have d5 : decide (r < b) = true := decide_eq_true hlt
          have g1 : wrap64 (r + 1) = r + 1 := wr64 (by omega) (by omega)
          have s1 : m.size + 1 ≤ 140737488355328 := by omega
          have hm2 : Hid ((m ++ (⟨#[41]⟩ : ByteArray)).data.toList = List.replicate q.toNat 40 ++ List.replicate (r + 1).toNat 41) := Lib.hid (by rw [show (r + 1).toNat = r.toNat + 1 by omega]; exact rep_push r.toNat 41 m _ HM.out)
          have hr2 : Hid (0 ≤ r + 1 ∧ r + 1 ≤ b) := Lib.hid (by omega)
          have hms : Hid ((b - (r + 1)).toNat < (b - r).toNat) := Lib.hid (by omega)
          clear hr h2 h3 hml hlt
          go_wp2
          go_round
          case rel => exact ⟨r + 1, _, by rw [g1], rfl, hr2, hm2⟩
          case measure => rw [g1]; exact hms.out
        · have d5 : decide (r < b) = false := decide_eq_false hlt
          obtain rfl : r = b := by omega
          clear HR
          have hpm : parseV m.data.toList = (X, p1, p2, er) := by rw [HM.out]; exact HP.out
          have c1 := Lib.hid (fun w => parse_callsC m hpm w)
          by_cases h64 : 64 < q
          · obtain ⟨rfl, rfl, rfl, rfl⟩ := E1.out (by omega)
            have d6 : decide (q > 64) = true := decide_eq_true h64
            clear h64 hr h2 h3 hml hlt hpm
            go_wp2_with (go_at_call 14; refine (c1.out _).mono ?_; rintro e w2 ⟨A, c, rfl, hC, hl, hb2⟩; clear hC hl; replace hb2 := Lib.hid hb2)
            go_ret
            exact ⟨rfl, below_alloc (below_step hb.out hb2.out) _⟩
          · have d6 : decide (q > 64) = false := decide_eq_false h64
            by_cases hlt2 : r < q
            · obtain ⟨rfl, rfl, e5, rfl⟩ := E2.out (by omega) (by omega)
              obtain rfl : p2 = q - r := by omega
              have d7 : decide (r < q) = true := decide_eq_true hlt2
              have g1 : wrap64 (q - r) = q - r := wr64 (by omega) (by omega)
              clear h64 hr h2 h3 hml hlt hpm hlt2 e5
              go_wp2_with (go_at_call 14; refine (c1.out _).mono ?_; rintro e w2 ⟨A, c, rfl, hC, hl, hb2⟩; clear hC hl; replace hb2 := Lib.hid hb2)
              go_ret
              exact ⟨rfl, below_alloc (below_step hb.out hb2.out) _⟩
            · have d7 : decide (r < q) = false := decide_eq_false hlt2
              obtain ⟨rfl, e6⟩ := E3.out (by omega) (by omega)
              by_cases h0 : q = 0
              · rw [if_pos (by omega)] at e6
                obtain rfl := List.length_eq_zero_iff.1 e6
                have d8 : (q == 0) = true := by simpa using h0
                clear h64 hr h2 h3 hml hlt hpm hlt2 e6 h0 E1 E2 E3
                go_wp2_with (go_at_call 14; refine (c1.out _).mono ?_; rintro e w2 ⟨A, c, rfl, hC, hl, hb2⟩; clear hC hl; replace hb2 := Lib.hid hb2)
                go_ret
                exact ⟨rfl, below_alloc (below_step hb.out hb2.out) _⟩
              · rw [if_neg (by omega)] at e6
                obtain ⟨x, rfl⟩ := List.length_eq_one_iff.1 e6
                have d8 : (q == 0) = false := by simpa using h0
                clear h64 hr h2 h3 hml hlt hpm hlt2 e6 h0 E1 E2 E3
                go_wp2_with (go_at_call 14; refine (c1.out _).mono ?_; rintro e w2 ⟨A, c, rfl, hC, hl, hb2⟩; clear hC hl; replace hb2 := Lib.hid hb2)
                go_ret
                exact ⟨rfl, below_alloc (below_step hb.out hb2.out) _⟩
theorem deep_all (a b : Int) (w : World) : Calls Tryd.prog 3 #[.int .i64 a, .int .i64 b] w fun e w' => e = .returned (.bool true) ∧ Below w.heap.size w w' := by
  by_cases h : a < 0 ∨ 70 < a ∨ b < 0 ∨ a < b
  · exact deep_out a b w h
  · exact deep_in a b w (by omega) (by omega) (by omega)
end Go.Proofs.YtlggmdlbhndacaaDoor.Lx.WalkDeep
