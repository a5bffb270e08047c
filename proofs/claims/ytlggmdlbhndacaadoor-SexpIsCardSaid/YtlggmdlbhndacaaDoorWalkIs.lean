import Derived.Test.YtlggmdlbhndacaaDoorUse
import Derived.IntWalk
import Derived.Outline
/- LexIs walked: it answers true at every text. -/
namespace Go.Proofs.YtlggmdlbhndacaaDoor.Lx.WalkIs
open Go.RowKit Go.Proofs.YtlggmdlbhndacaaDoorW.PrintWords Go.Proofs.YtlggmdlbhndacaaDoorW.PrintLast Go.Proofs.YtlggmdlbhndacaaDoorW.PrintMore Line LexV RefV Use

set_option maxRecDepth 100000 in
set_option maxHeartbeats 4000000 in
theorem is_long (s : ByteArray) (w : World) (h : 2048 < s.size) : Calls Tryd.prog 5 #[.string s] w fun e w' => e = .returned (.bool true) ∧ Below w.heap.size w w' := by
  go_enter Tryd.func5, Tryd.ntmps5
  go_wp2_with (go_at_call 16; refine (alive_calls _).mono ?_; rintro e w1 ⟨rfl, hb⟩)
  go_ret
  exact ⟨rfl, hb⟩
set_option maxRecDepth 100000 in
set_option maxHeartbeats 4000000 in
theorem is_bad (s : ByteArray) (w : World) (h : s.size ≤ 2048) (n c : Nat) (hn : 1 ≤ n) (hl : lex s.data.toList = .error (n, c)) : Calls Tryd.prog 5 #[.string s] w fun e w' => e = .returned (.bool true) ∧ Below w.heap.size w w' := by
  have hsz : s.data.toList.length = s.size := rfl
  have h1 : lexV s.data.toList = (([] : List S39), (n : Int), (c : Int), 4) := by unfold lexV; rw [if_neg (by omega), hl]; rfl
  have h2 : lexFinR [] (lex s.data.toList) = (([] : List S40), (n : Int), (c : Int)) := by rw [hl]; rfl
  have c1 := fun w => lex_calls s h1 w
  have c2 := fun w => ref_calls s (by omega) h2 w
  have h' : ¬ 2048 < s.size := by omega
  have g1 : ((n : Int) == 0) = false := by simp; omega
  have g2 : (n == 0) = false := by simp; omega
  clear h1 h2 hl hsz hn
  go_enter Tryd.func5, Tryd.ntmps5
  go_wp2_with (first | (go_at_call 16; refine (alive_calls _).mono ?_; rintro e w1 ⟨rfl, hb1⟩; replace hb1 := Lib.hid hb1) | (go_at_call 17; refine (c1 _).mono ?_; rintro e w2 ⟨A1, cp1, rfl, hC1, hl1, hb2⟩; replace hC1 := Lib.hid hC1; replace hb2 := Lib.hid hb2) | (go_at_call 18; refine (c2 _).mono ?_; rintro e w3 ⟨A2, cp2, rfl, hC2, hl2, hb3⟩; obtain ⟨k0, k1, hz⟩ := kept hb3; replace hC2 := Lib.hid hC2; replace hb3 := Lib.hid hb3))
  go_loop [54] (fun i => i = .int .i64 0) (fun _ => 0)
  case atStart => rfl
  case round =>
    obtain rfl := hrel
    go_wp2
    go_ret
    exact ⟨rfl, below_alloc (below_step (below_alloc (below_step hb1.out hb2.out) _) hb3.out) _⟩
theorem rd39 (ts : List (Nat × Tk)) (i : Nat) (p : Nat × Tk) (h : ts[i]? = some p) : rd_T39 (ts.map fun p => tok p.1 p.2) (i : Int) = tok p.1 p.2 := by
  unfold rd_T39
  rw [show ((i : Int)).toNat = i from rfl, List.getD_eq_getElem?_getD, List.getElem?_map, h]; rfl
theorem rd40 (ts : List (Nat × Tk)) (i : Nat) (p : Nat × Tk) (h : ts[i]? = some p) : rd_T40 (ts.map fun p => tokR p.1 p.2) (i : Int) = tokR p.1 p.2 := by
  unfold rd_T40
  rw [show ((i : Int)).toNat = i from rfl, List.getD_eq_getElem?_getD, List.getElem?_map, h]; rfl
set_option maxRecDepth 100000 in
set_option maxHeartbeats 4000000 in
theorem is_ok (s : ByteArray) (w : World) (h : s.size ≤ 2048) (ts : List (Nat × Tk)) (hts : ts.length ≤ 1048576) (hl : lex s.data.toList = .ok ts) : Calls Tryd.prog 5 #[.string s] w fun e w' => e = .returned (.bool true) ∧ Below w.heap.size w w' := by
  have hsz : s.data.toList.length = s.size := rfl
  have h1 : lexV s.data.toList = (ts.map (fun p => tok p.1 p.2), 0, 0, 0) := by unfold lexV; rw [if_neg (by omega), hl]; rfl
  have h2 : lexFinR [] (lex s.data.toList) = (ts.map (fun p => tokR p.1 p.2), 0, 0) := by rw [hl]; rfl
  have c1 := fun w => lex_calls s h1 w
  have c2 := fun w => ref_calls s (by omega) h2 w
  have h' : ¬ 2048 < s.size := by omega
  obtain ⟨L, hL⟩ : ∃ L, L = ts.map (fun p => tok p.1 p.2) := ⟨_, rfl⟩
  obtain ⟨R, hR⟩ : ∃ R, R = ts.map (fun p => tokR p.1 p.2) := ⟨_, rfl⟩
  have l1 : L.length = ts.length := by rw [hL]; simp
  have l2 : R.length = ts.length := by rw [hR]; simp
  rw [← hL] at c1
  rw [← hR] at c2
  have HL := Lib.hid hL
  have HR := Lib.hid hR
  clear h1 h2 hl hsz hL hR
  go_enter Tryd.func5, Tryd.ntmps5
  go_wp2_with (first | (go_at_call 16; refine (alive_calls _).mono ?_; rintro e w1 ⟨rfl, hb1⟩; replace hb1 := Lib.hid hb1) | (go_at_call 17; refine (c1 _).mono ?_; rintro e w2 ⟨A1, cp1, rfl, hC1, hl1, hb2⟩; replace hC1 := Lib.hid hC1; replace hb2 := Lib.hid hb2) | (go_at_call 18; refine (c2 _).mono ?_; rintro e w3 ⟨A2, cp2, rfl, hC2, hl2, hb3⟩; obtain ⟨k0, k1, hz⟩ := kept hb3; replace hC2 := Lib.hid hC2; replace hb3 := Lib.hid hb3))
  have HB0 : Hid (Below w.heap.size w (w3.alloc (.cells #[.int .i64 0, .int .i64 0] 25))) := Lib.hid (below_alloc (below_step (below_alloc (below_step hb1.out hb2.out) _) hb3.out) _)
  have HC1 : Hid (Kd.C k39 (w3.alloc (.cells #[.int .i64 0, .int .i64 0] 25)) A1 L.length L) := Lib.hid (Kd.C_alloc (Kd.C_below (Kd.C_alloc hC1.out _) hb3.out) _)
  have HC2 : Hid (Kd.C k40 (w3.alloc (.cells #[.int .i64 0, .int .i64 0] 25)) A2 R.length R) := Lib.hid (Kd.C_alloc hC2.out _)
  clear hb1 hb2 hb3 hC1 hC2 c1 c2
  go_loopw [54] (fun i wr => ∃ k : Nat, k ≤ ts.length ∧ i = .int .i64 k ∧ Hid (Kd.C k39 wr A1 L.length L) ∧ Hid (Kd.C k40 wr A2 R.length R) ∧ Hid (Below w.heap.size w wr)) (fun i _ => ts.length - (intOf i).toNat)
  case atStart => exact ⟨0, Nat.zero_le _, rfl, HC1, HC2, HB0⟩
  case round =>
    clear HC1 HC2 HB0 k0 k1 hz
    obtain ⟨k, hk, rfl, HC1, HC2, HB⟩ := hrel
    by_cases hlt : k < ts.length
    · obtain ⟨p, hp⟩ : ∃ p, ts[k]? = some p := ⟨ts[k], List.getElem?_eq_getElem hlt⟩
      obtain ⟨ad, e1, x0, x1, x2, x3⟩ := at_T39 HC1.out (k : Int) (by omega) (by omega)
      rw [HL.out, rd39 ts k p hp] at x0 x1 x2 x3
      cases e1
      have HC2' := Lib.hid (Kd.C_alloc HC2.out (.cells #[.int .i64 p.2.kind, .string ⟨p.2.text.toArray⟩, .int .i64 (p.1 : Int), .int .i64 (p.2.col : Int)] 39))
      obtain ⟨ad2, e2, y0, y1, y2, y3⟩ := at_T40 HC2'.out (k : Int) (by omega) (by omega)
      rw [HR.out, rd40 ts k p hp] at y0 y1 y2 y3
      cases e2
      simp only [tok, Int.toNat_natCast] at x0 x1 x2 x3
      simp only [tokR, Int.toNat_natCast] at y0 y1 y2 y3
      go_wp2
      go_quiet (fail)
      go_wp2
      go_roundw
      case rel => exact ⟨k + 1, by omega, by go_num, Lib.hid (Kd.C_drewN (Kd.C_alloc HC1.out _) _), Lib.hid (Kd.C_drewN (Kd.C_alloc HC2.out _) _), Lib.hid (pw_below_drewN (below_alloc HB.out _) _)⟩
      case measure => simp [intOf]; omega
    · go_wp2
      go_ret
      exact ⟨rfl, HB.out⟩
theorem lexAll_line (ls : List (List UInt8)) : ∀ (m : Nat) (e : Nat × Nat), lexAll ls m = .error e → m ≤ e.1 := by
  induction ls with
  | nil => intro m e h; cases h
  | cons x ls ih =>
    intro m e h
    rw [lexAll] at h
    cases hs : scan x 0 with
    | error c => rw [hs] at h; injection h with h; subst h; exact Nat.le_refl _
    | ok ts =>
      rw [hs] at h
      simp only at h
      cases hr : lexAll ls (m + 1) with
      | error e2 =>
        rw [hr] at h
        injection h with h
        subst h
        have := ih (m + 1) e2 hr
        omega
      | ok us => rw [hr] at h; cases h
theorem lexAll_len (ls : List (List UInt8)) : ∀ (m : Nat) (ts : List (Nat × Tk)), lexAll ls m = .ok ts → ts.length ≤ (ls.map List.length).sum := by
  induction ls with
  | nil => intro m ts h; injection h with h; subst h; simp
  | cons x ls ih =>
    intro m ts h
    rw [lexAll] at h
    cases hs : scan x 0 with
    | error c => rw [hs] at h; cases h
    | ok us =>
      rw [hs] at h
      simp only at h
      cases hr : lexAll ls (m + 1) with
      | error e2 => rw [hr] at h; cases h
      | ok vs =>
        rw [hr] at h
        injection h with h
        subst h
        have h1 := ih (m + 1) vs hr
        have h2 := scan_len hs
        simp; omega
theorem lex_len {l : List UInt8} {ts : List (Nat × Tk)} (h : lex l = .ok ts) : ts.length ≤ l.length := by
  have h1 := lexAll_len _ _ _ h
  have h2 := cut_len l
  have h3 := List.length_pos_iff.2 (cut_ne l)
  omega
theorem is_all (s : ByteArray) (w : World) : Calls Tryd.prog 5 #[.string s] w fun e w' => e = .returned (.bool true) ∧ Below w.heap.size w w' := by
  by_cases h : 2048 < s.size
  · exact is_long s w h
  · cases hl : lex s.data.toList with
    | error e => exact is_bad s w (by omega) e.1 e.2 (lexAll_line _ _ _ hl) hl
    | ok ts =>
      have := lex_len hl
      have hsz : s.data.toList.length = s.size := rfl
      exact is_ok s w (by omega) ts (by omega) hl
end Go.Proofs.YtlggmdlbhndacaaDoor.Lx.WalkIs
