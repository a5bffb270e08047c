import Derived.Test.YtlggmdlbhndacaaDoorLinesP
/- LexLines walked: it answers true at every text. -/
namespace Go.Proofs.YtlggmdlbhndacaaDoor.Lx.WalkLines
open Go.RowKit Go.Proofs.YtlggmdlbhndacaaDoorW.PrintWords Go.Proofs.YtlggmdlbhndacaaDoorW.PrintLast Go.Proofs.YtlggmdlbhndacaaDoorW.PrintMore Line LexV RefV Use WalkIs LinesP

set_option maxRecDepth 100000 in
set_option maxHeartbeats 4000000 in
theorem lines_long (s : ByteArray) (w : World) (h : 2048 < s.size) : Calls Tryd.prog 6 #[.string s] w fun e w' => e = .returned (.bool true) ∧ Below w.heap.size w w' := by
  go_enter Tryd.func6, Tryd.ntmps6
  go_wp2_with (go_at_call 16; refine (alive_calls _).mono ?_; rintro e w1 ⟨rfl, hb⟩)
  go_ret
  exact ⟨rfl, hb⟩
theorem rd39' (ts : List (Nat × Tk)) (q : Int) (p : Nat × Tk) (h0 : 0 ≤ q) (h : ts[q.toNat]? = some p) : rd_T39 (ts.map fun p => tok p.1 p.2) q = tok p.1 p.2 := by
  have := rd39 ts q.toNat p h
  rwa [Int.toNat_of_nonneg h0] at this
set_option maxRecDepth 100000 in
set_option maxHeartbeats 4000000 in
theorem lines_bad (s : ByteArray) (w : World) (h : s.size ≤ 2048) (n c : Nat) (hn : 1 ≤ n) (hl : lex s.data.toList = .error (n, c)) : Calls Tryd.prog 6 #[.string s] w fun e w' => e = .returned (.bool true) ∧ Below w.heap.size w w' := by
  have hsz : s.data.toList.length = s.size := rfl
  have h1 : lexV s.data.toList = (([] : List S39), (n : Int), (c : Int), 4) := by unfold lexV; rw [if_neg (by omega), hl]; rfl
  have c1 := fun w => lex_calls s h1 w
  obtain ⟨X, hX, c3⟩ := cut_calls s (by omega)
  have LS := Lib.hid (fun i y => line_at (i := i) (y := y) hX h)
  have hXl : X.length = (cut s.data.toList).length := by rw [← hX]; simp
  have hX2 : X.length ≤ 4096 := by have := cut_len s.data.toList; omega
  have I0 : Hid (lexAll ((cut s.data.toList).drop 0) (0 + 1) = .error (n, c)) := Lib.hid hl
  have hend : Hid (lexAll ((cut s.data.toList).drop X.length) (X.length + 1) = .ok []) := Lib.hid (by rw [List.drop_eq_nil_of_le (by omega)]; rfl)
  have h' : ¬ 2048 < s.size := by omega
  generalize cut s.data.toList = ls at LS I0 hend hXl
  clear hXl h1 hl hsz h hX
  go_enter Tryd.func6, Tryd.ntmps6
  go_wp2_with (first | (go_at_call 16; refine (alive_calls _).mono ?_; rintro e w1 ⟨rfl, hb1⟩; replace hb1 := Lib.hid hb1) | (go_at_call 17; refine (c1 _).mono ?_; rintro e w2 ⟨A1, cp1, rfl, hC1, hl1, hb2⟩; clear hC1 hl1; replace hb2 := Lib.hid hb2) | (go_at_call 19; refine (c3 _).mono ?_; rintro e w3 ⟨A2, cp2, rfl, hC2, hl2, hb3⟩; have BK := kept_block hb3; replace hC2 := Lib.hid hC2; replace hb3 := Lib.hid hb3))
  have hE0 : Hid (Below w3.heap.size w3 w3) := Lib.hid (Below.refl _ _)
  have HB0 : Hid (Below w.heap.size w w3) := Lib.hid (below_step (below_alloc (below_step hb1.out hb2.out) _) hb3.out)
  clear hb1 hb2 hb3 hl2
  obtain ⟨B, hBe⟩ : ∃ B, B = w2.heap.size := ⟨_, rfl⟩
  rw [← hBe] at BK
  replace BK := Lib.hid BK
  simp only [← hBe]
  clear hBe
  go_loopw [6, 28] (fun z i wr => ∃ k : Nat, k ≤ X.length ∧ i = .int .i64 k ∧ (∃ y : Int, z = .int .i64 y) ∧ Hid (lexAll (ls.drop k) (k + 1) = .error (n, c)) ∧ Hid (Below w3.heap.size w3 wr)) (fun _ i _ => X.length - (intOf i).toNat)
  case atStart => exact ⟨0, Nat.zero_le _, rfl, ⟨0, rfl⟩, I0, hE0⟩
  case round =>
    clear I0 hE0
    obtain ⟨k, hk, rfl, ⟨z, rfl⟩, I, HE⟩ := hrel
    have KB := blk_below BK.out HE.out
    have k0 := (blk_cell KB 0).trans rfl
    have k1 := (blk_cell KB 1).trans rfl
    have hz := blk_lt KB
    replace KB := Lib.hid KB
    by_cases hlt : k < X.length
    · obtain ⟨y, hy⟩ : ∃ y, X[k]? = some y := ⟨X[k], List.getElem?_eq_getElem hlt⟩
      obtain ⟨hnl, hyl, hly⟩ := LS.out k y hy
      obtain ⟨ad, e1, x0⟩ := Kd.at_string (Kd.C_below hC2.out HE.out) (k : Int) (by omega) (by omega)
      rw [rd_str X k y hy] at x0
      cases e1
      simp only [Int.toNat_natCast] at x0
      rcases step_err hly I.out with ⟨c', hs, hp⟩ | ⟨us, hs, hI⟩
      · injection hp with hp1 hp2
        subst hp2
        have c4 := fun w => lex_calls y (lexV_err hnl (by omega) hs) w
        have hw : IntKind.i64.wrap ((k : Int) + 1) = (n : Int) := by rw [i64_w, wr64 (by omega) (by omega)]; omega
        clear hnl hyl hs hly hy I LS
        go_wp2_with (go_at_call 17; refine (c4 _).mono ?_; rintro e w4 ⟨A4, cp4, rfl, hC4, hl4, hb4⟩; clear hC4 hl4; have KB4 := blk_below KB.out hb4; have k0' := (blk_cell KB4 0).trans rfl; have k1' := (blk_cell KB4 1).trans rfl; have hz' := blk_lt KB4; clear KB4; replace hb4 := Lib.hid hb4)
        go_ret
        exact ⟨rfl, below_alloc (below_step (below_step HB0.out HE.out) hb4.out) _⟩
      · have c4 := fun w => lex_calls y (lexV_ok hnl (by omega) hs) w
        have hul := scan_len hs
        obtain ⟨L, hL⟩ : ∃ L, L = us.map (tok 1) := ⟨_, rfl⟩
        have l1 : L.length = us.length := by rw [hL]; simp
        rw [← hL] at c4
        have l2 : L.length ≤ 2048 := by omega
        have hI' := Lib.hid hI
        clear hnl hyl hs hly hy I hL l1 hul hI
        go_wp2_with (go_at_call 17; refine (c4 _).mono ?_; rintro e w4 ⟨A4, cp4, rfl, hC4, hl4, hb4⟩; replace hC4 := Lib.hid hC4; replace hb4 := Lib.hid hb4)
        obtain ⟨W, hWe⟩ : ∃ W, W = (w4.alloc (.cells #[.int .i64 0, .int .i64 0] 25)) := ⟨_, rfl⟩
        simp only [← hWe]
        have HEW : Hid (Below w3.heap.size w3 W) := Lib.hid (by rw [hWe]; exact below_alloc (below_step HE.out hb4.out) _)
        have HCW : Hid (Kd.C k39 W A4 L.length L) := Lib.hid (by rw [hWe]; exact Kd.C_alloc hC4.out _)
        clear hWe hC4 hb4 HE k0 k1 hz KB
        have E0 : Hid (Below W.heap.size W W) := Lib.hid (Below.refl _ _)
        go_loopw [6, 55] (fun z j wr => ∃ m : Nat, m ≤ L.length ∧ j = .int .i64 m ∧ (∃ y : Int, z = .int .i64 y) ∧ Hid (Below W.heap.size W wr)) (fun _ j _ => L.length - (intOf j).toNat)
        case atStart => exact ⟨0, Nat.zero_le _, rfl, ⟨z, rfl⟩, E0⟩
        case round =>
          clear E0
          obtain ⟨m, hm, rfl, ⟨z2, rfl⟩, HE⟩ := hrel
          by_cases hlt2 : m < L.length
          · obtain ⟨ad4, e4, y0, y1, y2, y3⟩ := at_T39 (Kd.C_below HCW.out HE.out) (m : Int) (by omega) (by omega)
            cases e4
            simp only [Int.toNat_natCast] at y0 y1 y2 y3
            go_wp2
            go_quiet (fail)
            go_wp2
            exact ⟨⟨m + 1, by omega, by go_num, ⟨_, rfl⟩, Lib.hid (pw_below_drewN (below_alloc HE.out _) _)⟩, by simp [intOf]; omega⟩
          · go_wp2
            refine ⟨⟨k + 1, by omega, by go_num, ⟨_, rfl⟩, hI', Lib.hid (below_step HEW.out HE.out)⟩, ?_⟩
            simp [intOf]; omega
    · exfalso
      obtain rfl : k = X.length := by omega
      have := I.out
      rw [hend.out] at this
      cases this
set_option maxRecDepth 100000 in
set_option maxHeartbeats 4000000 in
theorem lines_ok (s : ByteArray) (w : World) (h : s.size ≤ 2048) (ts : List (Nat × Tk)) (hts : ts.length ≤ 2048) (hl : lex s.data.toList = .ok ts) : Calls Tryd.prog 6 #[.string s] w fun e w' => e = .returned (.bool true) ∧ Below w.heap.size w w' := by
  have hsz : s.data.toList.length = s.size := rfl
  have h1 : lexV s.data.toList = (ts.map (fun p => tok p.1 p.2), 0, 0, 0) := by unfold lexV; rw [if_neg (by omega), hl]; rfl
  have c1 := fun w => lex_calls s h1 w
  obtain ⟨X, hX, c3⟩ := cut_calls s (by omega)
  have LS := Lib.hid (fun i y => line_at (i := i) (y := y) hX h)
  have hXl : X.length = (cut s.data.toList).length := by rw [← hX]; simp
  have hX2 : X.length ≤ 4096 := by have := cut_len s.data.toList; omega
  have I0 : Hid (lexAll ((cut s.data.toList).drop 0) (0 + 1) = .ok (ts.drop 0)) := Lib.hid hl
  have hend : Hid (lexAll ((cut s.data.toList).drop X.length) (X.length + 1) = .ok []) := Lib.hid (by rw [List.drop_eq_nil_of_le (by omega)]; rfl)
  have h' : ¬ 2048 < s.size := by omega
  generalize cut s.data.toList = ls at LS I0 hend hXl
  obtain ⟨R, hR⟩ : ∃ R, R = ts.map (fun p => tok p.1 p.2) := ⟨_, rfl⟩
  have l1 : Hid (R.length = ts.length) := Lib.hid (by rw [hR]; simp)
  rw [← hR] at c1
  have HR := Lib.hid hR
  clear hXl h1 hl hsz h hX hR
  go_enter Tryd.func6, Tryd.ntmps6
  go_wp2_with (first | (go_at_call 16; refine (alive_calls _).mono ?_; rintro e w1 ⟨rfl, hb1⟩; replace hb1 := Lib.hid hb1) | (go_at_call 17; refine (c1 _).mono ?_; rintro e w2 ⟨A1, cp1, rfl, hC1, hl1, hb2⟩; replace hC1 := Lib.hid hC1; replace hb2 := Lib.hid hb2) | (go_at_call 19; refine (c3 _).mono ?_; rintro e w3 ⟨A2, cp2, rfl, hC2, hl2, hb3⟩; replace hC2 := Lib.hid hC2; replace hb3 := Lib.hid hb3))
  have HB0 : Hid (Below w.heap.size w w3) := Lib.hid (below_step (below_alloc (below_step hb1.out hb2.out) _) hb3.out)
  have HC1 : Hid (Kd.C k39 w3 A1 R.length R) := Lib.hid (Kd.C_below (Kd.C_alloc hC1.out _) hb3.out)
  have hE0 : Hid (Below w3.heap.size w3 w3) := Lib.hid (Below.refl _ _)
  clear hb1 hb2 hb3 hl2 hC1
  obtain ⟨B, hBe⟩ : ∃ B, B = w2.heap.size := ⟨_, rfl⟩
  simp only [← hBe]
  clear hBe
  go_loopw [6, 28] (fun z i wr => ∃ k nn : Nat, k ≤ X.length ∧ i = .int .i64 k ∧ z = .int .i64 nn ∧ nn ≤ ts.length ∧ Hid (lexAll (ls.drop k) (k + 1) = .ok (ts.drop nn)) ∧ Hid (Below w3.heap.size w3 wr)) (fun _ i _ => X.length - (intOf i).toNat)
  case atStart => exact ⟨0, 0, Nat.zero_le _, rfl, rfl, Nat.zero_le _, I0, hE0⟩
  case round =>
    clear I0 hE0
    obtain ⟨k, nn, hk, rfl, rfl, hnn, I, HE⟩ := hrel
    by_cases hlt : k < X.length
    · obtain ⟨y, hy⟩ : ∃ y, X[k]? = some y := ⟨X[k], List.getElem?_eq_getElem hlt⟩
      obtain ⟨hnl, hyl, hly⟩ := LS.out k y hy
      obtain ⟨ad, e1, x0⟩ := Kd.at_string (Kd.C_below hC2.out HE.out) (k : Int) (by omega) (by omega)
      rw [rd_str X k y hy] at x0
      cases e1
      simp only [Int.toNat_natCast] at x0
      obtain ⟨us, hs, hle, hI, hat⟩ := step_ok hly I.out hnn
      have c4 := fun w => lex_calls y (lexV_ok hnl (by omega) hs) w
      have hul := scan_len hs
      obtain ⟨L, hL⟩ : ∃ L, L = us.map (tok 1) := ⟨_, rfl⟩
      have l3 : Hid (L.length = us.length) := Lib.hid (by rw [hL]; simp)
      rw [← hL] at c4
      have l2 : L.length ≤ 2048 := by have := l3.out; omega
      have HI := Lib.hid hI
      have HL := Lib.hid hL
      have HT := Lib.hid hat
      clear hnl hyl hs hly hy I hL hul hI hat
      go_wp2_with (go_at_call 17; refine (c4 _).mono ?_; rintro e w4 ⟨A4, cp4, rfl, hC4, hl4, hb4⟩; replace hC4 := Lib.hid hC4; replace hb4 := Lib.hid hb4)
      obtain ⟨W, hWe⟩ : ∃ W, W = (w4.alloc (.cells #[.int .i64 0, .int .i64 0] 25)) := ⟨_, rfl⟩
      simp only [← hWe]
      have HEW : Hid (Below w3.heap.size w3 W) := Lib.hid (by rw [hWe]; exact below_alloc (below_step HE.out hb4.out) _)
      have HCW : Hid (Kd.C k39 W A4 L.length L) := Lib.hid (by rw [hWe]; exact Kd.C_alloc hC4.out _)
      clear hWe hC4 hb4 HE
      have E0 : Hid (Below W.heap.size W W) := Lib.hid (Below.refl _ _)
      go_loopw [6, 55] (fun z j wr => ∃ (m : Nat) (q : Int), m ≤ L.length ∧ j = .int .i64 m ∧ z = .int .i64 q ∧ Hid (q = ((nn + m : Nat) : Int)) ∧ Hid (Below W.heap.size W wr)) (fun _ j _ => L.length - (intOf j).toNat)
      case atStart => exact ⟨0, (nn : Int), Nat.zero_le _, rfl, rfl, Lib.hid rfl, E0⟩
      case round =>
        clear E0
        obtain ⟨m, q, hm, rfl, rfl, hq, HE⟩ := hrel
        by_cases hlt2 : m < L.length
        · obtain ⟨t, ht⟩ : ∃ t, us[m]? = some t := ⟨us[m], List.getElem?_eq_getElem (by have := l3.out; omega)⟩
          have ht2 := HT.out m t ht
          have hq2 : q.toNat = nn + m := by rw [hq.out]; rfl
          rw [← hq2] at ht2
          have q0 : 0 ≤ q := by rw [hq.out]; exact Int.natCast_nonneg _
          have q1 : q < (R.length : Int) := by have := l1.out; have := l3.out; rw [hq.out]; omega
          obtain ⟨ad4, e4, y0, y1, y2, y3⟩ := at_T39 (Kd.C_below HCW.out HE.out) (m : Int) (by omega) (by omega)
          cases e4
          rw [HL.out, rd_tok us 1 m t ht] at y0 y1 y2 y3
          have HC1' := Lib.hid (Kd.C_alloc (Kd.C_below (Kd.C_below HC1.out HEW.out) HE.out) (.cells #[.int .i64 t.kind, .string ⟨t.text.toArray⟩, .int .i64 ((k : Int) + 1), .int .i64 (t.col : Int)] 39))
          obtain ⟨ad5, e5, z0, z1, z2, z3⟩ := at_T39 HC1'.out q q0 q1
          cases e5
          rw [HR.out, rd39' ts q _ q0 ht2] at z0 z1 z2 z3
          simp only [tok, Int.toNat_natCast] at y0 y1 y2 y3 z0 z1 z2 z3
          have g1 : decide ((R.length : Int) ≤ q) = false := decide_eq_false (by omega)
          have g2 : wrap64 (q + 1) = q + 1 := wr64 (by omega) (by have := hq.out; have := l3.out; omega)
          clear ht ht2 HC1' hq2
          go_wp2
          go_quiet (fail)
          go_wp2
          exact ⟨⟨m + 1, q + 1, by omega, by go_num, by rw [g2], Lib.hid (by rw [hq.out]; omega), Lib.hid (pw_below_drewN (below_alloc HE.out _) _)⟩, by simp [intOf]; omega⟩
        · obtain rfl : m = L.length := by omega
          obtain rfl := hq.out
          go_wp2
          rw [← l3.out] at HI
          refine ⟨⟨k + 1, nn + L.length, by omega, by go_num, rfl, (by have := l3.out; omega), HI, Lib.hid (below_step HEW.out HE.out)⟩, ?_⟩
          simp [intOf]; omega
    · obtain rfl : k = X.length := by omega
      have e : nn = R.length := by
        have h2 := I.out
        rw [hend.out] at h2
        injection h2 with h2
        have h3 := congrArg List.length h2
        simp at h3
        have := l1.out
        omega
      subst e
      go_wp2
      go_ret
      exact ⟨rfl, below_step HB0.out HE.out⟩
theorem lines_all (s : ByteArray) (w : World) : Calls Tryd.prog 6 #[.string s] w fun e w' => e = .returned (.bool true) ∧ Below w.heap.size w w' := by
  by_cases h : 2048 < s.size
  · exact lines_long s w h
  · cases hl : lex s.data.toList with
    | error e => exact lines_bad s w (by omega) e.1 e.2 (lexAll_line _ _ _ hl) hl
    | ok ts =>
      have := lex_len hl
      have hsz : s.data.toList.length = s.size := rfl
      exact lines_ok s w (by omega) ts (by omega) hl
end Go.Proofs.YtlggmdlbhndacaaDoor.Lx.WalkLines
