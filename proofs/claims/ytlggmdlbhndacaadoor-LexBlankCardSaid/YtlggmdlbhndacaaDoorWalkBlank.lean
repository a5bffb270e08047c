import Derived.Test.YtlggmdlbhndacaaDoorBlankP
/- LexBlank walked: it answers true at every text. -/
namespace Go.Proofs.YtlggmdlbhndacaaDoor.Lx.WalkBlank
open Go.RowKit Go.Proofs.YtlggmdlbhndacaaDoorW.PrintWords Go.Proofs.YtlggmdlbhndacaaDoorW.PrintLast Go.Proofs.YtlggmdlbhndacaaDoorW.PrintMore Line LexV RefV Use WalkIs LinesP BlankP

set_option maxRecDepth 100000 in
set_option maxHeartbeats 4000000 in
theorem blank_far (s : ByteArray) (w : World) (h : 1024 < s.size) : Calls Tryd.prog 7 #[.string s] w fun e w' => e = .returned (.bool true) ∧ Below w.heap.size w w' := by
  go_enter Tryd.func7, Tryd.ntmps7
  go_wp2_with (go_at_call 16; refine (alive_calls _).mono ?_; rintro e w1 ⟨rfl, hb⟩)
  go_ret
  exact ⟨rfl, hb⟩
theorem take_snoc {ls : List (List UInt8)} {k : Nat} {y : List UInt8} (h : ls[k]? = some y) : ls.take (k + 1) = ls.take k ++ [y] := by
  rw [List.take_add_one, h]; rfl
theorem pad_bytes (tb y : ByteArray) (ls : List (List UInt8)) (k : Nat) (h : ls[k]? = some y.data.toList) (ht : tb.data.toList = dbl (ls.take k)) :
    ((((tb ++ (⟨#[59, 32, 40, 109, 111, 114, 101, 10, 9, 32]⟩ : ByteArray)) ++ y) ++ (⟨#[32, 59]⟩ : ByteArray)) ++ (⟨#[13, 10]⟩ : ByteArray)).data.toList = dbl (ls.take (k + 1)) := by
  rw [take_snoc h, dbl_snoc, ← ht]
  simp [ByteArray.data_append, pad]
set_option maxRecDepth 100000 in
set_option maxHeartbeats 4000000 in
theorem blank_near (s : ByteArray) (w : World) (h : s.size ≤ 1024) (La Lb : List S39) (p1 p2 q1 q2 er : Int) (hlen : La.length = Lb.length) (hla : La.length ≤ 1024)
    (h1 : lexV s.data.toList = (La, p1, p2, er)) (h2 : ∀ t : ByteArray, t.data.toList = dbl (cut s.data.toList) → lexV t.data.toList = (Lb, q1, q2, er))
    (hpt : ∀ i : Int, 0 ≤ i → i < (La.length : Int) → ∃ (kd : Int) (tx : ByteArray) (n m : Int), (rd_T39 La i).f0 = kd ∧ (rd_T39 La i).f1 = tx ∧ (rd_T39 La i).f2.f0 = n ∧ (rd_T39 Lb i).f0 = kd ∧ (rd_T39 Lb i).f1 = tx ∧ (rd_T39 Lb i).f2.f0 = m ∧ wrap64 (2 * n) = m) :
    Calls Tryd.prog 7 #[.string s] w fun e w' => e = .returned (.bool true) ∧ Below w.heap.size w w' := by
  have c1 := fun w => lex_calls s h1 w
  have c2 := Lib.hid (fun t ht w => lex_calls t (h2 t ht) w)
  obtain ⟨X, hX, c3⟩ := cut_calls s (by omega)
  have LS := Lib.hid (fun i y => line_at (i := i) (y := y) hX (by omega))
  have hXl : X.length = (cut s.data.toList).length := by rw [← hX]; simp
  have hX2 : X.length ≤ 1025 := by have := cut_len s.data.toList; have h6 : s.data.toList.length = s.size := rfl; omega
  have hD : Hid ((cut s.data.toList).length ≤ 1025 ∧ ((cut s.data.toList).map List.length).sum ≤ 1024) := Lib.hid (by have := cut_len s.data.toList; have h6 : s.data.toList.length = s.size := rfl; have h7 := List.length_pos_iff.2 (cut_ne s.data.toList); omega)
  have h' : ¬ 1024 < s.size := by omega
  generalize cut s.data.toList = ls at LS hXl hD c2
  have HXL := Lib.hid hXl
  have HLEN := Lib.hid hlen
  have HPT := Lib.hid hpt
  clear h1 h2 h hX hXl hlen hpt
  go_enter Tryd.func7, Tryd.ntmps7
  go_wp2_with (first | (go_at_call 16; refine (alive_calls _).mono ?_; rintro e w1 ⟨rfl, hb1⟩; replace hb1 := Lib.hid hb1) | (go_at_call 19; refine (c3 _).mono ?_; rintro e w3 ⟨A2, cp2, rfl, hC2, hl2, hb3⟩; clear hl2; replace hC2 := Lib.hid hC2; replace hb3 := Lib.hid hb3))
  have HB0 : Hid (Below w.heap.size w w3) := Lib.hid (below_step hb1.out hb3.out)
  clear hb1 hb3
  go_loop [3, 21] (fun t i => ∃ (k : Nat) (tb : ByteArray), k ≤ X.length ∧ i = .int .i64 k ∧ t = .string tb ∧ tb.size ≤ 32 * 1024 ∧ Hid (tb.data.toList = dbl (ls.take k))) (fun _ i => X.length - (intOf i).toNat)
  case atStart => exact ⟨0, ⟨#[]⟩, Nat.zero_le _, rfl, rfl, Nat.zero_le _, Lib.hid rfl⟩
  case round =>
    obtain ⟨k, tb, hk, rfl, rfl, htb, HT⟩ := hrel
    by_cases hlt : k < X.length
    · obtain ⟨y, hy⟩ : ∃ y, X[k]? = some y := ⟨X[k], List.getElem?_eq_getElem hlt⟩
      obtain ⟨hnl, hyl, hly⟩ := LS.out k y hy
      obtain ⟨ad, e1, x0⟩ := Kd.at_string hC2.out (k : Int) (by omega) (by omega)
      rw [rd_str X k y hy] at x0
      cases e1
      simp only [Int.toNat_natCast] at x0
      have hys : y.size ≤ 2048 := hyl
      have HN := Lib.hid (pad_bytes tb y ls k hly HT.out)
      have k1 : (tb ++ (⟨#[59, 32, 40, 109, 111, 114, 101, 10, 9, 32]⟩ : ByteArray)).size = tb.size + 10 := by rw [ByteArray.size_append]; rfl
      have k2 : ((tb ++ (⟨#[59, 32, 40, 109, 111, 114, 101, 10, 9, 32]⟩ : ByteArray)) ++ y).size = tb.size + 10 + y.size := by rw [ByteArray.size_append, k1]
      have k3 : (((tb ++ (⟨#[59, 32, 40, 109, 111, 114, 101, 10, 9, 32]⟩ : ByteArray)) ++ y) ++ (⟨#[32, 59]⟩ : ByteArray)).size = tb.size + 10 + y.size + 2 := by rw [ByteArray.size_append, k2]; rfl
      clear hnl hyl hly hy
      go_wp2
      refine ⟨⟨k + 1, _, by omega, by go_num, rfl, ?_, HN⟩, by simp [intOf]; omega⟩
      have e9 := congrArg List.length HN.out
      have e8 := dbl_take ls (k + 1)
      obtain ⟨d1, d2⟩ := hD.out
      generalize hG : tb ++ (⟨#[59, 32, 40, 109, 111, 114, 101, 10, 9, 32]⟩ : ByteArray) ++ y ++ (⟨#[32, 59]⟩ : ByteArray) ++ (⟨#[13, 10]⟩ : ByteArray) = G at e9 ⊢
      have e7 : G.data.toList.length = G.size := rfl
      omega
    · obtain rfl : k = X.length := by omega
      have c4 := c2.out tb (by rw [HT.out, List.take_of_length_le (by have := HXL.out; omega)])
      clear HT
      have g1 : ((La.length : Int) != (Lb.length : Int)) = false := by rw [HLEN.out]; simp
      go_wp2_with (first | (go_at_call 17; (with_reducible refine (c1 _).mono ?_); rintro e w4 ⟨A4, cp4, rfl, hC4, hl4, hb4⟩; clear hl4; replace hC4 := Lib.hid hC4; replace hb4 := Lib.hid hb4) | (go_at_call 17; (with_reducible refine (c4 _).mono ?_); rintro e w5 ⟨A5, cp5, rfl, hC5, hl5, hb5⟩; clear hl5; replace hC5 := Lib.hid hC5; replace hb5 := Lib.hid hb5))
      obtain ⟨W, hWe⟩ : ∃ W, W = (w5.alloc (.cells #[.int .i64 q1, .int .i64 q2] 25)) := ⟨_, rfl⟩
      simp only [← hWe]
      have HW : Hid (Below w.heap.size w W) := Lib.hid (by rw [hWe]; exact below_alloc (below_step (below_alloc (below_step HB0.out hb4.out) _) hb5.out) _)
      have HA : Hid (Kd.C k39 W A4 La.length La) := Lib.hid (by rw [hWe]; exact Kd.C_alloc (Kd.C_below (Kd.C_alloc hC4.out _) hb5.out) _)
      have HZ : Hid (Kd.C k39 W A5 Lb.length Lb) := Lib.hid (by rw [hWe]; exact Kd.C_alloc hC5.out _)
      have E0 : Hid (Below W.heap.size W W) := Lib.hid (Below.refl _ _)
      clear hWe hb4 hb5 hC4 hC5 hC2 c1 c4 c3 LS c2 HB0 g1
      go_loopw [56] (fun i wr => ∃ q : Int, i = .int .i64 q ∧ 0 ≤ q ∧ q ≤ (La.length : Int) ∧ Hid (Below W.heap.size W wr)) (fun i _ => La.length - (intOf i).toNat)
      case atStart => exact ⟨0, rfl, by omega, by omega, E0⟩
      case round =>
        clear E0
        obtain ⟨q, rfl, h0, hq, HE⟩ := hrel
        by_cases hlt : q < (La.length : Int)
        · obtain ⟨kd, tx, n, m, e1, e2, e3, e4, e5, e6, e7⟩ := HPT.out q h0 hlt
          obtain ⟨ad, ex, x0, x1, x2, x3⟩ := at_T39 (Kd.C_below HA.out HE.out) q h0 hlt
          obtain ⟨ad2, ey, y0, y1, y2, y3⟩ := at_T39 (Kd.C_below HZ.out HE.out) q h0 (by have := HLEN.out; omega)
          cases ex
          cases ey
          rw [e1] at x0
          rw [e2] at x1
          rw [e3] at x2
          rw [e4] at y0
          rw [e5] at y1
          rw [e6] at y2
          have g2 : wrap64 (q + 1) = q + 1 := wr64 (by omega) (by omega)
          have g3 : q < (Lb.length : Int) := by have := HLEN.out; omega
          have d1 : decide (q < (La.length : Int)) = true := decide_eq_true hlt
          have d2 : decide (q < (Lb.length : Int)) = true := decide_eq_true g3
          have d3 : decide (0 ≤ q) = true := decide_eq_true h0
          clear e1 e2 e3 e4 e5 e6
          replace hlt := eq_true hlt
          replace g3 := eq_true g3
          replace h0 := eq_true h0
          go_wp2
          go_quiet (fail)
          go_wp2
          refine ⟨⟨q + 1, by rw [g2], ?_, ?_, Lib.hid (pw_below_drewN HE.out _)⟩, ?_⟩
          · have := of_eq_true h0
            omega
          · have := of_eq_true hlt
            omega
          · have := of_eq_true h0
            have := of_eq_true hlt
            rw [g2]
            simp [intOf]; omega
        · have d1 : decide (q < (La.length : Int)) = false := decide_eq_false hlt
          clear hlt
          go_wp2
          go_ret
          exact ⟨rfl, below_step HW.out HE.out⟩
theorem lexAll_lines (ls : List (List UInt8)) : ∀ (m : Nat) (ts : List (Nat × Tk)), lexAll ls m = .ok ts → ∀ p ∈ ts, p.1 < m + ls.length := by
  induction ls with
  | nil => intro m ts h p hp; injection h with h; subst h; cases hp
  | cons x ls ih =>
    intro m ts h p hp
    rw [lexAll] at h
    cases hs : scan x 0 with
    | error c => rw [hs] at h; cases h
    | ok us =>
      rw [hs] at h
      simp only at h
      cases hr : lexAll ls (m + 1) with
      | error e => rw [hr] at h; cases h
      | ok vs =>
        rw [hr] at h
        injection h with h
        subst h
        rcases List.mem_append.1 hp with hp | hp
        · obtain ⟨t, _, rfl⟩ := List.mem_map.1 hp
          simp
        · have := ih (m + 1) vs hr p hp
          simp; omega
theorem rdb (ts : List (Nat × Tk)) (q : Int) (p : Nat × Tk) (h0 : 0 ≤ q) (h : ts[q.toNat]? = some p) : rd_T39 (ts.map fun p => tok p.1 p.2) q = tok p.1 p.2 := by
  have := rd39 ts q.toNat p h
  rwa [Int.toNat_of_nonneg h0] at this
theorem blank_all (s : ByteArray) (w : World) : Calls Tryd.prog 7 #[.string s] w fun e w' => e = .returned (.bool true) ∧ Below w.heap.size w w' := by
  by_cases h : 1024 < s.size
  · exact blank_far s w h
  have hs : s.size ≤ 1024 := by omega
  have ss : s.data.toList.length = s.size := rfl
  have hcl := cut_len s.data.toList
  have hpos := List.length_pos_iff.2 (cut_ne s.data.toList)
  have vs : lexV s.data.toList = lexFin [] (lex s.data.toList) := by unfold lexV; rw [if_neg (by omega)]
  have vt : ∀ t : ByteArray, t.data.toList = dbl (cut s.data.toList) → lexV t.data.toList = lexFin [] (lex (dbl (cut s.data.toList))) := by
    intro t ht
    have h1 := dbl_len (cut s.data.toList)
    rw [ht]; unfold lexV; rw [if_neg (by omega)]
  rw [lex_dbl] at vt
  cases h1 : lex s.data.toList with
  | error e =>
    rw [h1] at vs vt
    exact blank_near s w hs [] [] _ _ _ _ 4 rfl (by simp) vs vt (fun i i0 i1 => by simp at i1; omega)
  | ok ts =>
    rw [h1] at vs vt
    have hts := lex_len h1
    have vs' : lexV s.data.toList = (ts.map (fun p => tok p.1 p.2), 0, 0, 0) := vs
    have vt' : ∀ t : ByteArray, t.data.toList = dbl (cut s.data.toList) → lexV t.data.toList = ((ts.map fun p => ((2 * p.1 : Nat), sh 2 p.2)).map (fun p : Nat × Tk => tok (p.1 : Int) p.2), 0, 0, 0) := vt
    refine blank_near s w hs _ _ _ _ _ _ 0 (by simp) (by simp; omega) vs' vt' fun i i0 i1 => ?_
    rw [List.length_map] at i1
    have hk : i.toNat < ts.length := by omega
    have e1 : ts[i.toNat]? = some ts[i.toNat] := List.getElem?_eq_getElem hk
    have e2 : (ts.map fun p => ((2 * p.1 : Nat), sh 2 p.2))[i.toNat]? = some (2 * (ts[i.toNat]).1, sh 2 (ts[i.toNat]).2) := by rw [List.getElem?_map, e1]; rfl
    have hb := lexAll_lines _ 1 ts h1 _ (List.getElem_mem hk)
    rw [rdb _ i _ i0 e1, rdb _ i _ i0 e2]
    refine ⟨_, _, _, _, rfl, rfl, rfl, rfl, rfl, rfl, ?_⟩
    show wrap64 (2 * ((ts[i.toNat]).1 : Int)) = ((2 * (ts[i.toNat]).1 : Nat) : Int)
    rw [wr64 (by omega) (by omega)]; omega
end Go.Proofs.YtlggmdlbhndacaaDoor.Lx.WalkBlank
