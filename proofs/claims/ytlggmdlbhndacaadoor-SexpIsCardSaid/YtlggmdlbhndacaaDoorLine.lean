import Derived.Test.YtlggmdlbhndacaaDoorLxx0
import Derived.IntWalk
import Derived.Lib.Hide
import Derived.Outline
/- lex.line walked: its answer is what the plain lexer tells of the line. -/
namespace Go.Proofs.YtlggmdlbhndacaaDoor.Lx.Line
open Go.RowKit Go.Proofs.YtlggmdlbhndacaaDoorW.PrintWords Go.Proofs.YtlggmdlbhndacaaDoorW.PrintLast Go.Proofs.YtlggmdlbhndacaaDoorW.PrintMore

theorem ret_int {k : IntKind} {a b : Int} (h : a = b) : Ending.returned (.int k a) = .returned (.int k b) := by rw [h]
theorem ret_bool {a b : Bool} (h : a = b) : Ending.returned (.bool a) = .returned (.bool b) := by rw [h]
theorem white_int (c : UInt8) : white c = ((c.toNat : Int) == 32 || ((c.toNat : Int) == 9 || (c.toNat : Int) == 13)) := by
  unfold white
  rw [Bool.eq_iff_iff]
  simp only [Bool.or_eq_true, beq_iff_eq, ← UInt8.toNat_inj]
  constructor
  · rintro ((h | h) | h)
    · have h' : c.toNat = 32 := h
      omega
    · have h' : c.toNat = 9 := h
      omega
    · have h' : c.toNat = 13 := h
      omega
  · rintro (h | h | h)
    · exact .inl (.inl (show c.toNat = 32 by omega))
    · exact .inl (.inr (show c.toNat = 9 by omega))
    · exact .inr (show c.toNat = 13 by omega)
theorem white_any (c : UInt8) (w : World) : Calls Tryd.prog 37 #[.int .u8 c.toNat] w fun e w' => e = .returned (.bool (white c)) ∧ w' = w := by
  rw [white_int]
  have hc := c.toNat_lt
  generalize hx : (c.toNat : Int) = x
  have h0 : 0 ≤ x := by omega
  have h9 : x < 256 := by omega
  clear hx hc
  by_cases h1 : x = 32
  · subst h1
    go_enter Tryd.func37, Tryd.ntmps37
    go_wp2
    go_ret
    exact ⟨rfl, rfl⟩
  · by_cases h2 : x = 9
    · subst h2
      go_enter Tryd.func37, Tryd.ntmps37
      go_wp2
      go_ret
      exact ⟨rfl, rfl⟩
    · have e1 : (x == 32) = false := by simpa using h1
      have e2 : (x == 9) = false := by simpa using h2
      go_enter Tryd.func37, Tryd.ntmps37
      go_wp2
      go_ret
      exact ⟨ret_bool (by first | rfl | (rw [e1, e2]; rfl)), rfl⟩
theorem plain_int (c : UInt8) : plain c = (decide (32 < (c.toNat : Int)) && (decide ((c.toNat : Int) < 127) && ((c.toNat : Int) != 40 && ((c.toNat : Int) != 41 && (c.toNat : Int) != 59)))) := by
  unfold plain
  rw [Bool.eq_iff_iff]
  rw [Bool.and_eq_true, Bool.and_eq_true, Bool.and_eq_true, Bool.and_eq_true, Bool.and_eq_true, Bool.and_eq_true, Bool.and_eq_true, Bool.and_eq_true]
  rw [decide_eq_true_eq, decide_eq_true_eq, decide_eq_true_eq, decide_eq_true_eq, bne_iff_ne, bne_iff_ne, bne_iff_ne, bne_iff_ne, bne_iff_ne, bne_iff_ne]
  constructor
  · rintro ⟨⟨⟨⟨h1, h2⟩, h3⟩, h4⟩, h5⟩
    have h3' : c.toNat ≠ 40 := fun h => h3 (UInt8.toNat_inj.1 h)
    have h4' : c.toNat ≠ 41 := fun h => h4 (UInt8.toNat_inj.1 h)
    have h5' : c.toNat ≠ 59 := fun h => h5 (UInt8.toNat_inj.1 h)
    omega
  · rintro ⟨h1, h2, h3, h4, h5⟩
    refine ⟨⟨⟨⟨by omega, by omega⟩, ?_⟩, ?_⟩, ?_⟩
    · rintro rfl; exact h3 rfl
    · rintro rfl; exact h4 rfl
    · rintro rfl; exact h5 rfl
theorem plain_any (c : UInt8) (w : World) : Calls Tryd.prog 43 #[.int .u8 c.toNat] w fun e w' => e = .returned (.bool (plain c)) ∧ w' = w := by
  rw [plain_int]
  have hc := c.toNat_lt
  generalize hx : (c.toNat : Int) = x
  have h0 : 0 ≤ x := by omega
  have h9 : x < 256 := by omega
  clear hx hc
  by_cases h1 : 32 < x
  · by_cases h2 : x < 127
    · by_cases h3 : x = 40
      · subst h3
        go_enter Tryd.func43, Tryd.ntmps43
        go_wp2
        go_ret
        exact ⟨rfl, rfl⟩
      · by_cases h4 : x = 41
        · subst h4
          go_enter Tryd.func43, Tryd.ntmps43
          go_wp2
          go_ret
          exact ⟨rfl, rfl⟩
        · have e3 : (x != 40) = true := by simpa using h3
          have e4 : (x != 41) = true := by simpa using h4
          go_enter Tryd.func43, Tryd.ntmps43
          go_wp2
          go_ret
          exact ⟨ret_bool (by rw [decide_eq_true h1, decide_eq_true h2, e3, e4]; rfl), rfl⟩
    · go_enter Tryd.func43, Tryd.ntmps43
      go_wp2
      go_ret
      exact ⟨ret_bool (by rw [decide_eq_false (by omega : ¬ x < 127)]; rfl), rfl⟩
  · go_enter Tryd.func43, Tryd.ntmps43
    go_wp2
    go_ret
    exact ⟨ret_bool (by rw [decide_eq_false (by omega : ¬ 32 < x)]; rfl), rfl⟩
theorem drop_at (s : ByteArray) (k : Nat) (h : k < s.size) : s.data.toList.drop k = s[k] :: s.data.toList.drop (k + 1) := by
  have h' : k < s.data.toList.length := by simpa using h
  rw [List.drop_eq_getElem_cons h']; rfl
theorem run_any (s : ByteArray) (w : World) (hs : s.size ≤ 1048576) :
    Calls Tryd.prog 38 #[.string s] w fun e w' => e = .returned (.int .i64 ((s.data.toList.takeWhile plain).length : Nat)) ∧ w' = w := by
  go_enter Tryd.func38, Tryd.ntmps38
  go_wp2
  go_loop [3] (fun v => ∃ k : Nat, k ≤ s.size ∧ v = .int .i64 k ∧ Hid ((s.data.toList.takeWhile plain).length = k + ((s.data.toList.drop k).takeWhile plain).length)) (fun v => s.size - (intOf v).toNat)
  case atStart => exact ⟨0, Nat.zero_le _, rfl, Lib.hid (by simp)⟩
  case round =>
    obtain ⟨k, hk, rfl, hH⟩ := hrel
    by_cases hlt : k < s.size
    · have hP := plain_any s[k]
      cases hp : plain s[k]
      · rw [hp] at hP
        have HE : Hid ((s.data.toList.takeWhile plain).length = k) := Lib.hid (by rw [hH.out, drop_at s k hlt, List.takeWhile_cons, hp]; simp)
        clear hp hH
        go_wp2_with (go_at_call 43; refine (hP _).mono ?_; rintro e w' ⟨rfl, rfl⟩)
        go_ret
        exact ⟨ret_int (by rw [HE.out]), rfl⟩
      · rw [hp] at hP
        have HE : Hid ((s.data.toList.takeWhile plain).length = k + 1 + ((s.data.toList.drop (k + 1)).takeWhile plain).length) := Lib.hid (by rw [hH.out, drop_at s k hlt, List.takeWhile_cons, hp]; simp; omega)
        clear hp hH
        go_wp2_with (go_at_call 43; refine (hP _).mono ?_; rintro e w' ⟨rfl, rfl⟩)
        go_round
        case rel => exact ⟨k + 1, by omega, by go_num, HE⟩
        case measure => simp [intOf]; omega
    · have HE : Hid ((s.data.toList.takeWhile plain).length = k) := Lib.hid (by rw [hH.out, List.drop_eq_nil_of_le (by simp; omega)]; simp)
      clear hH
      go_wp2
      go_ret
      exact ⟨ret_int (by rw [HE.out]), rfl⟩

/-! ### A line's tokens -/
def tok (n : Int) (t : Tk) : S39 := ⟨t.kind, ⟨t.text.toArray⟩, ⟨n, (t.col : Int)⟩⟩
def fin (n : Int) (acc : List S39) : Except Nat (List Tk) → List S39 × Int
  | .ok ts => (acc ++ ts.map (tok n), 0)
  | .error c => ([], (c : Int))
def lineV (l : List UInt8) (n : Int) : List S39 × Int := fin n [] (scan l 0)
theorem fin_cons (n : Int) (acc : List S39) (t : Tk) (r : Except Nat (List Tk)) : fin n acc (r.map (t :: ·)) = fin n (acc ++ [tok n t]) r := by
  cases r with
  | error c => rfl
  | ok ts => simp [fin, Except.map]
theorem scan_nil (i : Nat) : scan [] i = .ok [] := by unfold scan; rfl
theorem scan_semi (c : UInt8) (t : List UInt8) (i : Nat) (h : c = 59) : scan (c :: t) i = .ok [] := by unfold scan; rw [if_pos h]
theorem scan_white (c : UInt8) (t : List UInt8) (i : Nat) (h : c ≠ 59) (h1 : white c = true) : scan (c :: t) i = scan t (i + 1) := by
  rw [scan, if_neg h, if_pos h1]
theorem scan_open (c : UInt8) (t : List UInt8) (i : Nat) (h : c = 40) : scan (c :: t) i = (scan t (i + 1)).map (⟨1, [c], i + 1⟩ :: ·) := by
  subst h; rw [scan, if_neg (by decide), if_neg (by decide), if_pos rfl]
theorem scan_close (c : UInt8) (t : List UInt8) (i : Nat) (h : c = 41) : scan (c :: t) i = (scan t (i + 1)).map (⟨2, [c], i + 1⟩ :: ·) := by
  subst h; rw [scan, if_neg (by decide), if_neg (by decide), if_neg (by decide), if_pos rfl]
theorem scan_bad (c : UInt8) (t : List UInt8) (i : Nat) (h : c ≠ 59) (h1 : white c = false) (h2 : c ≠ 40) (h3 : c ≠ 41) (h4 : ((c :: t).takeWhile plain).length = 0 ∨ 32 < ((c :: t).takeWhile plain).length) : scan (c :: t) i = .error (i + 1) := by
  rw [scan, if_neg h, if_neg (by simp [h1]), if_neg h2, if_neg h3, dif_pos h4]
theorem scan_atom (c : UInt8) (t : List UInt8) (i : Nat) (h : c ≠ 59) (h1 : white c = false) (h2 : c ≠ 40) (h3 : c ≠ 41) (h4 : ¬ (((c :: t).takeWhile plain).length = 0 ∨ 32 < ((c :: t).takeWhile plain).length)) :
    scan (c :: t) i = (scan ((c :: t).drop ((c :: t).takeWhile plain).length) (i + ((c :: t).takeWhile plain).length)).map (⟨3, (c :: t).takeWhile plain, i + 1⟩ :: ·) := by
  rw [scan, if_neg h, if_neg (by simp [h1]), if_neg h2, if_neg h3, dif_neg h4]
theorem byte_at (s : ByteArray) (k : Nat) (hlt : k < s.size) : ∃ (c : UInt8) (x : Int), (∀ h : k < s.size, ((s[k]'h).toNat : Int) = x) ∧ Hid (s.data.toList.drop k = c :: s.data.toList.drop (k + 1)) ∧
    (∀ w, Calls Tryd.prog 37 #[.int .u8 x] w fun e w' => e = .returned (.bool (white c)) ∧ w' = w) ∧ 0 ≤ x ∧ x < 256 ∧ (x == 59) = decide (c = 59) ∧ (x == 40) = decide (c = 40) ∧ (x == 41) = decide (c = 41) := by
  have key : ∀ (c : UInt8) (m : Nat), m < 256 → ((c.toNat : Int) == (m : Int)) = decide (c = UInt8.ofNat m) := fun c m hm => by
    rw [Bool.eq_iff_iff, beq_iff_eq, decide_eq_true_iff]
    constructor
    · intro h
      apply UInt8.toNat_inj.1
      rw [UInt8.toNat_ofNat', Nat.mod_eq_of_lt (by omega)]; omega
    · rintro rfl
      rw [UInt8.toNat_ofNat', Nat.mod_eq_of_lt (by omega)]
  exact ⟨s[k], (s[k].toNat : Int), fun _ => rfl, Lib.hid (drop_at s k hlt), white_any s[k], by omega, by have := s[k].toNat_lt; omega, key _ 59 (by omega), key _ 40 (by omega), key _ 41 (by omega)⟩
theorem slice_run (s : ByteArray) (i j : Nat) (w : World) (h1 : i ≤ j) (h2 : j ≤ s.size) : (Instr.slice 9 (.string s) (some (.int .i64 (i : Int))) (some (.int .i64 (j : Int))) none).run Tryd.prog w = .ok (.string (s.extract i j)) w := by
  have f1 : (i : Int) ≤ (j : Int) := by omega
  have f2 : (j : Int) ≤ (s.size : Int) := by omega
  simp [Instr.slice, run_underlying Tryd.underlying9, Instr.sliceBounds, run_sliceBound, *, go_sem]
theorem slice_one (s : ByteArray) (k : Nat) (h : k < s.size) : ∃ T : ByteArray, (∀ w, (Instr.slice 9 (.string s) (some (.int .i64 k)) (some (.int .i64 (k + 1))) none).run Tryd.prog w = .ok (.string T) w) ∧ T.size = 1 ∧
    Hid (∀ c t, s.data.toList.drop k = c :: t → T = ⟨#[c]⟩) := by
  refine ⟨s.extract k (k + 1), fun w => slice_run s k (k + 1) w (by omega) (by omega), by rw [ByteArray.size_extract]; omega, Lib.hid fun c t hd => ?_⟩
  apply ByteArray.ext
  apply Array.ext'
  rw [ByteArray.data_extract, Array.toList_extract, List.extract, hd]
  simp
theorem run_at (s : ByteArray) (k : Nat) (h : k < s.size) (hs : s.size ≤ 1048576) : ∃ m : Nat, (∀ w, Calls Tryd.prog 38 #[.string (s.extract k s.size)] w fun e w' => e = .returned (.int .i64 (m : Int)) ∧ w' = w) ∧ k + m ≤ s.size ∧ Hid (m = ((s.data.toList.drop k).takeWhile plain).length) ∧
    Hid (∃ T : ByteArray, (∀ w, (Instr.slice 9 (.string s) (some (.int .i64 k)) (some (.int .i64 (k + m))) none).run Tryd.prog w = .ok (.string T) w) ∧ T.size = m ∧ T = ⟨((s.data.toList.drop k).takeWhile plain).toArray⟩) := by
  have hd : (s.extract k s.size).data.toList = s.data.toList.drop k := by
    rw [ByteArray.data_extract, Array.toList_extract, List.extract]
    rw [List.take_of_length_le (by simp)]
  have hl : ((s.data.toList.drop k).takeWhile plain).length ≤ (s.data.toList.drop k).length := (List.takeWhile_sublist _).length_le
  have hl2 : (s.data.toList.drop k).length = s.size - k := by simp
  refine ⟨((s.data.toList.drop k).takeWhile plain).length, fun w => ?_, by omega, Lib.hid rfl, Lib.hid ⟨s.extract k (k + ((s.data.toList.drop k).takeWhile plain).length), fun w => ?_, ?_, ?_⟩⟩
  · have := run_any (s.extract k s.size) w (by rw [ByteArray.size_extract]; omega)
    rw [hd] at this
    exact this
  · have := slice_run s k (k + ((s.data.toList.drop k).takeWhile plain).length) w (by omega) (by omega)
    rw [show ((k + ((s.data.toList.drop k).takeWhile plain).length : Nat) : Int) = (k : Int) + (((s.data.toList.drop k).takeWhile plain).length : Nat) by omega] at this
    exact this
  · rw [ByteArray.size_extract]; omega
  · apply ByteArray.ext
    apply Array.ext'
    rw [ByteArray.data_extract, Array.toList_extract, List.extract, Nat.add_sub_cancel_left]
    exact (List.prefix_iff_eq_take.1 (List.takeWhile_prefix plain)).symm
/-- A cell of a block that was made just ahead of an append to another row. -/
theorem cell_after {W w1 : World} {base : Nat} {u : Value} {acc : List S39} (hR : Kd.R k39 39 W base (fun _ => True) u acc) {cs : Array Value} (hg : (W.alloc (.cells cs 39)).grownBy w1 u.ownBlock) (_ : Unit) (j : Nat) (v : Value) (hj : cs[j]? = some v) : w1.cell? ⟨W.heap.size, j, none⟩ = some v := by
  refine cell_grown hg ?_ ?_
  · exact (blk_cell (heap_alloc_new W (.cells cs 39)) j).trans hj
  · intro he
    have := Kd.R_lt hR W.heap.size he.symm
    omega
set_option maxRecDepth 100000 in
set_option maxHeartbeats 4000000 in
theorem line_calls (s : ByteArray) (n : Int) (w : World) (hs : s.size ≤ 1048576) :
    Calls Tryd.prog 31 #[.string s, .int .i64 n] w fun e w' => ∃ v0_ : Value, e = .returned (.tuple #[v0_, .int .i64 (lineV s.data.toList n).2]) ∧ Kd.R k39 39 w' w.heap.size (fun _ => True) v0_ (lineV s.data.toList n).1 ∧ Below w.heap.size w w' := by
  generalize hv : lineV s.data.toList n = r
  obtain ⟨r1, r2⟩ := r
  have hf : fin n [] (scan (s.data.toList.drop 0) 0) = (r1, r2) := hv
  have HF := Lib.hid hf
  clear hv hf
  go_enter Tryd.func31, Tryd.ntmps31
  go_wp2
  go_loopw [6, 7] (fun v i wr => ∃ (k : Nat) (acc : List S39), k ≤ s.size ∧ i = .int .i64 k ∧ acc.length ≤ k ∧ Hid (Kd.R k39 39 wr w.heap.size (fun _ => True) v acc) ∧ Hid (Below w.heap.size w wr) ∧ Hid (fin n acc (scan (s.data.toList.drop k) k) = (r1, r2))) (fun _ i _ => s.size - (intOf i).toNat)
  case atStart => exact ⟨0, [], Nat.zero_le _, rfl, Nat.le_refl _, Lib.hid (Kd.R_nil _ _ _ _ _), Lib.hid (Below.refl _ _), HF⟩
  case round =>
    clear HF
    obtain ⟨k, acc, hk, rfl, ha, hR, hB, hF⟩ := hrel
    by_cases hlt : k < s.size
    · obtain ⟨c, x, hx0, HD, hW, h0, h9, k59, k40, k41⟩ := byte_at s k hlt
      obtain ⟨T, hsl, hTs, HT⟩ := slice_one s k hlt
      by_cases c1 : c = 59
      · rw [decide_eq_true c1] at k59
        have HE : Hid (acc = r1 ∧ (0 : Int) = r2) := Lib.hid (by
          have h := hF.out
          rw [HD.out, scan_semi _ _ _ c1] at h
          simpa [fin] using h)
        clear hF c1 k40 k41
        go_wp2
        go_ret2
        obtain ⟨rfl, rfl⟩ := HE.out
        exact ⟨_, rfl, Kd.R_alloc hR.out _, below_alloc hB.out _⟩
      · rw [decide_eq_false c1] at k59
        cases c2 : white c
        · rw [c2] at hW
          by_cases c3 : c = 40
          · rw [decide_eq_true c3] at k40
            have HF2 : Hid (fin n (acc ++ [(⟨1, T, ⟨n, (k : Int) + 1⟩⟩ : S39)]) (scan (s.data.toList.drop (k + 1)) (k + 1)) = (r1, r2)) := Lib.hid (by
              have h := hF.out
              rw [HD.out, scan_open _ _ _ c3, fin_cons] at h
              rw [HT.out c _ HD.out]
              exact h)
            clear hF c1 c2 c3 k41
            go_wp2_with (first | (go_at_call 37; refine (hW _).mono ?_; rintro e w' ⟨rfl, rfl⟩) | (at_builtin; refine Kd.R_append k39 (w0 := w) w.heap.size rfl (.tmp 65) (.tmp 67) 32 39 (.agg #[.int .i64 0, .string ⟨#[]⟩, .int .i64 0, .int .i64 0]) 40 rfl Tryd.underlying32 info39 rfl (by decide) (by omega) u6 acc (⟨1, T, ⟨n, (k : Int) + 1⟩⟩ : S39) [.int .i64 1, .string T, .int .i64 n, .int .i64 ((k : Int) + 1)] (fun _ => True) (fun _ => False) rfl (by first | (go_simp; done) | (go_simp; rfl)) ?aP (fun _ hk => hk.elim) (fun _ _ => trivial) ?aO ?aB ?aS ?aL ?_))
            (case aP => exact k39_mkM _ _ _ (⟨1, T, ⟨n, (k : Int) + 1⟩⟩ : S39))
            (case aO => exact Kd.R_alloc hR.out _)
            (case aB => exact below_alloc hB.out _)
            (case aS => have := hB.out.size; simp; omega)
            (case aL => omega)
            intro v1 w1 hR1 hB1 hg1 hat1
            have hcell : w1.cell? ⟨wr.heap.size, 1, none⟩ = some (.string T) := cell_after hR.out hg1 () 1 (.string T) rfl
            have HR1 := Lib.hid hR1
            have HB1 := Lib.hid hB1
            clear hR1 hB1 hg1 hat1
            go_wp2
            go_roundw
            case rel => exact ⟨k + 1, acc ++ [(⟨1, T, ⟨n, (k : Int) + 1⟩⟩ : S39)], by omega, by go_num, by simp; omega, HR1, HB1, HF2⟩
            case measure => simp [intOf]; omega
          · rw [decide_eq_false c3] at k40
            by_cases c4 : c = 41
            · rw [decide_eq_true c4] at k41
              have HF2 : Hid (fin n (acc ++ [(⟨2, T, ⟨n, (k : Int) + 1⟩⟩ : S39)]) (scan (s.data.toList.drop (k + 1)) (k + 1)) = (r1, r2)) := Lib.hid (by
                have h := hF.out
                rw [HD.out, scan_close _ _ _ c4, fin_cons] at h
                rw [HT.out c _ HD.out]
                exact h)
              clear hF c1 c2 c3 c4
              go_wp2_with (first | (go_at_call 37; refine (hW _).mono ?_; rintro e w' ⟨rfl, rfl⟩) | (at_builtin; refine Kd.R_append k39 (w0 := w) w.heap.size rfl (.tmp 65) (.tmp 67) 32 39 (.agg #[.int .i64 0, .string ⟨#[]⟩, .int .i64 0, .int .i64 0]) 40 rfl Tryd.underlying32 info39 rfl (by decide) (by omega) u6 acc (⟨2, T, ⟨n, (k : Int) + 1⟩⟩ : S39) [.int .i64 2, .string T, .int .i64 n, .int .i64 ((k : Int) + 1)] (fun _ => True) (fun _ => False) rfl (by first | (go_simp; done) | (go_simp; rfl)) ?aP (fun _ hk => hk.elim) (fun _ _ => trivial) ?aO ?aB ?aS ?aL ?_))
              (case aP => exact k39_mkM _ _ _ (⟨2, T, ⟨n, (k : Int) + 1⟩⟩ : S39))
              (case aO => exact Kd.R_alloc hR.out _)
              (case aB => exact below_alloc hB.out _)
              (case aS => have := hB.out.size; simp; omega)
              (case aL => omega)
              intro v1 w1 hR1 hB1 hg1 hat1
              have hcell : w1.cell? ⟨wr.heap.size, 1, none⟩ = some (.string T) := cell_after hR.out hg1 () 1 (.string T) rfl
              have HR1 := Lib.hid hR1
              have HB1 := Lib.hid hB1
              clear hR1 hB1 hg1 hat1
              go_wp2
              go_roundw
              case rel => exact ⟨k + 1, acc ++ [(⟨2, T, ⟨n, (k : Int) + 1⟩⟩ : S39)], by omega, by go_num, by simp; omega, HR1, HB1, HF2⟩
              case measure => simp [intOf]; omega
            · rw [decide_eq_false c4] at k41
              obtain ⟨m, hRun, hmk, Hm, HT2⟩ := run_at s k hlt hs
              by_cases c5 : m = 0
              · have g1 : ((m : Int) == 0) = true := by simp [c5]
                have g2 : (m == 0) = true := by simp [c5]
                have HE : Hid (([] : List S39) = r1 ∧ ((k : Int) + 1) = r2) := Lib.hid (by
                  have h := hF.out
                  have hb : ((c :: s.data.toList.drop (k + 1)).takeWhile plain).length = 0 ∨ 32 < ((c :: s.data.toList.drop (k + 1)).takeWhile plain).length := by
                    rw [← HD.out, ← Hm.out]; omega
                  rw [HD.out, scan_bad _ _ _ c1 c2 c3 c4 hb] at h
                  simpa [fin] using h)
                clear hF c1 c2 c3 c4 c5
                go_wp2_with (first | (go_at_call 37; refine (hW _).mono ?_; rintro e w' ⟨rfl, rfl⟩) | (go_at_call 38; refine (hRun _).mono ?_; rintro e w' ⟨rfl, rfl⟩))
                go_quiet (fail)
                go_wp2
                go_ret2
                obtain ⟨rfl, rfl⟩ := HE.out
                exact ⟨_, rfl, Kd.R_nil _ _ _ _ _, pw_below_drewN (below_alloc hB.out _) _⟩
              · have g1 : ((m : Int) == 0) = false := by simp [c5]
                have g2 : (m == 0) = false := by simp [c5]
                by_cases c6 : 32 < m
                · have HE : Hid (([] : List S39) = r1 ∧ ((k : Int) + 1) = r2) := Lib.hid (by
                    have h := hF.out
                    have hb : ((c :: s.data.toList.drop (k + 1)).takeWhile plain).length = 0 ∨ 32 < ((c :: s.data.toList.drop (k + 1)).takeWhile plain).length := by
                      rw [← HD.out, ← Hm.out]; omega
                    rw [HD.out, scan_bad _ _ _ c1 c2 c3 c4 hb] at h
                    simpa [fin] using h)
                  have g3 : 32 < (m : Int) := by omega
                  clear hF c1 c2 c3 c4 c5
                  go_wp2_with (first | (go_at_call 37; refine (hW _).mono ?_; rintro e w' ⟨rfl, rfl⟩) | (go_at_call 38; refine (hRun _).mono ?_; rintro e w' ⟨rfl, rfl⟩))
                  go_quiet (fail)
                  go_wp2
                  go_ret2
                  obtain ⟨rfl, rfl⟩ := HE.out
                  exact ⟨_, rfl, Kd.R_nil _ _ _ _ _, pw_below_drewN (below_alloc hB.out _) _⟩
                · have g3 : ¬ 32 < (m : Int) := by omega
                  have hn : ¬ (((c :: s.data.toList.drop (k + 1)).takeWhile plain).length = 0 ∨ 32 < ((c :: s.data.toList.drop (k + 1)).takeWhile plain).length) := by
                    rw [← HD.out, ← Hm.out]; omega
                  obtain ⟨T2, hsl2, hT2s, HT3⟩ := HT2.out
                  have HF2 : Hid (fin n (acc ++ [(⟨3, T2, ⟨n, (k : Int) + 1⟩⟩ : S39)]) (scan (s.data.toList.drop (k + m)) (k + m)) = (r1, r2)) := Lib.hid (by
                    have h := hF.out
                    rw [HD.out, scan_atom _ _ _ c1 c2 c3 c4 hn, ← HD.out, ← Hm.out, fin_cons, List.drop_drop] at h
                    rw [HT3]
                    exact h)
                  have hpos : 1 ≤ m := by omega
                  clear hF c1 c2 c3 c4 c5 c6 hn HT3
                  go_wp2_with (first | (go_at_call 37; refine (hW _).mono ?_; rintro e w' ⟨rfl, rfl⟩) | (go_at_call 38; refine (hRun _).mono ?_; rintro e w' ⟨rfl, rfl⟩) | (at_builtin; refine Kd.R_append k39 (w0 := w) w.heap.size rfl (.tmp 65) (.tmp 67) 32 39 (.agg #[.int .i64 0, .string ⟨#[]⟩, .int .i64 0, .int .i64 0]) 40 rfl Tryd.underlying32 info39 rfl (by decide) (by omega) u6 acc (⟨3, T2, ⟨n, (k : Int) + 1⟩⟩ : S39) [.int .i64 3, .string T2, .int .i64 n, .int .i64 ((k : Int) + 1)] (fun _ => True) (fun _ => False) rfl (by first | (go_simp; done) | (go_simp; rfl)) ?aP (fun _ hk => hk.elim) (fun _ _ => trivial) ?aO ?aB ?aS ?aL ?_))
                  (case aP => exact k39_mkM _ _ _ (⟨3, T2, ⟨n, (k : Int) + 1⟩⟩ : S39))
                  (case aO => exact Kd.R_alloc hR.out _)
                  (case aB => exact below_alloc hB.out _)
                  (case aS => have := hB.out.size; simp; omega)
                  (case aL => omega)
                  intro v1 w1 hR1 hB1 hg1 hat1
                  have hcell : w1.cell? ⟨wr.heap.size, 1, none⟩ = some (.string T2) := cell_after hR.out hg1 () 1 (.string T2) rfl
                  have HR1 := Lib.hid hR1
                  have HB1 := Lib.hid hB1
                  clear hR1 hB1 hg1 hat1
                  go_wp2
                  go_roundw
                  case rel => exact ⟨k + m, acc ++ [(⟨3, T2, ⟨n, (k : Int) + 1⟩⟩ : S39)], by omega, by go_num, by simp; omega, HR1, HB1, HF2⟩
                  case measure => simp [intOf]; omega
        · rw [c2] at hW
          have HF2 : Hid (fin n acc (scan (s.data.toList.drop (k + 1)) (k + 1)) = (r1, r2)) := Lib.hid (by
            have h := hF.out
            rw [HD.out, scan_white _ _ _ c1 c2] at h
            exact h)
          clear hF c1 c2 k40 k41
          go_wp2_with (go_at_call 37; refine (hW _).mono ?_; rintro e w' ⟨rfl, rfl⟩)
          go_roundw
          case rel => exact ⟨k + 1, acc, by omega, by go_num, by omega, Lib.hid (Kd.R_alloc hR.out _), Lib.hid (below_alloc hB.out _), HF2⟩
          case measure => simp [intOf]; omega
    · have HE : Hid (acc = r1 ∧ (0 : Int) = r2) := Lib.hid (by
        have h := hF.out
        rw [List.drop_eq_nil_of_le (by simp; omega), scan_nil] at h
        simpa [fin] using h)
      clear hF
      go_wp2
      go_ret2
      obtain ⟨rfl, rfl⟩ := HE.out
      exact ⟨_, rfl, hR.out, hB.out⟩
end Go.Proofs.YtlggmdlbhndacaaDoor.Lx.Line
