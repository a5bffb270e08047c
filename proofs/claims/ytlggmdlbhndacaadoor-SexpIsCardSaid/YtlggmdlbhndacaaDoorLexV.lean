import Derived.Test.YtlggmdlbhndacaaDoorLxx6
/- What lex.Lex answers, in plain words: the tokens of all lines, or the first fault. -/
namespace Go.Proofs.YtlggmdlbhndacaaDoor.Lx.LexV
open Go.RowKit Go.Proofs.YtlggmdlbhndacaaDoorW.PrintWords Line

theorem wr64 {n : Int} (h : -9223372036854775808 ≤ n) (h1 : n ≤ 9223372036854775807) : wrap64 n = n := by unfold wrap64; omega
theorem scan_spec (m : Nat) : ∀ (l : List UInt8) (i : Nat), l.length ≤ m → (∀ c, scan l i = .error c → 1 ≤ c) ∧ (∀ ts, scan l i = .ok ts → ts.length ≤ l.length) := by
  induction m with
  | zero =>
    intro l i hl
    obtain rfl : l = [] := List.length_eq_zero_iff.1 (by omega)
    rw [scan_nil]
    exact ⟨(fun c h => by cases h), (fun ts h => by injection h with h; subst h; simp)⟩
  | succ m ih =>
    intro l i hl
    cases l with
    | nil =>
      rw [scan_nil]
      exact ⟨(fun c h => by cases h), (fun ts h => by injection h with h; subst h; simp)⟩
    | cons c t =>
      have ht : t.length ≤ m := by simp at hl; omega
      have one : ∀ (x : Tk) (u : List UInt8) (j : Nat), u.length ≤ m → u.length ≤ t.length → (∀ c', (scan u j).map (x :: ·) = .error c' → 1 ≤ c') ∧ (∀ ts, (scan u j).map (x :: ·) = .ok ts → ts.length ≤ (c :: t).length) := by
        intro x u j hu hut
        obtain ⟨h1, h2⟩ := ih u j hu
        cases hs : scan u j with
        | error e => exact ⟨(fun c' h => by injection h with h; subst h; exact h1 e hs), (fun ts h => by cases h)⟩
        | ok us =>
          refine ⟨(fun c' h => by cases h), fun ts h => ?_⟩
          injection h with h
          subst h
          have := h2 us hs
          simp; omega
      by_cases c1 : c = 59
      · rw [scan_semi _ _ _ c1]
        exact ⟨(fun c h => by cases h), (fun ts h => by injection h with h; subst h; simp)⟩
      · cases c2 : white c with
        | true =>
          rw [scan_white _ _ _ c1 c2]
          obtain ⟨h1, h2⟩ := ih t (i + 1) ht
          exact ⟨h1, fun ts h => by have := h2 ts h; simp; omega⟩
        | false =>
          by_cases c3 : c = 40
          · rw [scan_open _ _ _ c3]; exact one _ _ _ ht (Nat.le_refl _)
          · by_cases c4 : c = 41
            · rw [scan_close _ _ _ c4]; exact one _ _ _ ht (Nat.le_refl _)
            · by_cases c5 : ((c :: t).takeWhile plain).length = 0 ∨ 32 < ((c :: t).takeWhile plain).length
              · rw [scan_bad _ _ _ c1 c2 c3 c4 c5]
                exact ⟨(fun c h => by injection h with h; omega), (fun ts h => by cases h)⟩
              · rw [scan_atom _ _ _ c1 c2 c3 c4 c5]
                exact one _ _ _ (by simp; omega) (by simp; omega)
theorem scan_err {l : List UInt8} {i c : Nat} (h : scan l i = .error c) : 1 ≤ c := (scan_spec l.length l i (Nat.le_refl _)).1 c h
theorem scan_len {l : List UInt8} {i : Nat} {ts : List Tk} (h : scan l i = .ok ts) : ts.length ≤ l.length := (scan_spec l.length l i (Nat.le_refl _)).2 ts h

def lexFin (acc : List S39) : Except (Nat × Nat) (List (Nat × Tk)) → List S39 × Int × Int × Int
  | .ok ts => (acc ++ ts.map (fun p => tok p.1 p.2), 0, 0, 0)
  | .error e => ([], e.1, e.2, 4)
theorem rd_at (xs : List ByteArray) (i : Nat) (y : ByteArray) (ys : List ByteArray) (h : xs.drop i = y :: ys) : rdOf ByteArray.empty xs (i : Int) = y ∧ i < xs.length ∧ xs.drop (i + 1) = ys := by
  have hi : i < xs.length := by
    rcases Nat.lt_or_ge i xs.length with h' | h'
    · exact h'
    · rw [List.drop_eq_nil_of_le h'] at h; cases h
  rw [List.drop_eq_getElem_cons hi] at h
  injection h with h1 h2
  refine ⟨?_, hi, h2⟩
  unfold rdOf
  rw [show ((i : Int)).toNat = i from rfl, List.getD_eq_getElem?_getD, List.getElem?_eq_getElem hi]
  exact h1
theorem loop_ev (ys : List ByteArray) : ∀ (xs : List ByteArray) (i : Nat) (acc : List S39), xs.drop i = ys → acc.length + (ys.map ByteArray.size).sum ≤ 1048576 → xs.length ≤ 4294967296 →
    Ev (fun k => lex_Lex.l0 k acc xs (xs.length : Int) (i : Int)) (lexFin acc (lexAll (ys.map fun y => y.data.toList) (i + 1))) := by
  induction ys with
  | nil =>
    intro xs i acc hx _ _
    have hi : xs.length ≤ i := by
      rcases Nat.lt_or_ge i xs.length with h' | h'
      · rw [List.drop_eq_getElem_cons h'] at hx; cases hx
      · exact h'
    refine Ev.step (f := fun _ => some (lexFin acc (lexAll [] (i + 1)))) (fun k => ?_) (Ev.now _)
    simp only [lex_Lex.l0]
    rw [if_neg (by omega)]
    simp [lexAll, lexFin]
  | cons y ys ih =>
    intro xs i acc hx hb hl
    obtain ⟨hr, hi, hd⟩ := rd_at xs i y ys hx
    have hy : y.size ≤ 1048576 := by simp at hb; omega
    have hw : wrap64 ((i : Int) + 1) = ((i + 1 : Nat) : Int) := by rw [wr64 (by omega) (by omega)]; omega
    have hline : lex_line.f (rdOf ByteArray.empty xs (i : Int)) (wrap64 ((i : Int) + 1)) = some (lineV y.data.toList ((i + 1 : Nat) : Int)) := by
      rw [hr, hw]; unfold lex_line.f; rw [if_pos hy]
    rw [List.map_cons, lexAll]
    cases hs : scan y.data.toList 0 with
    | error c =>
      have hc := scan_err hs
      refine Ev.step (f := fun _ => some (lexFin acc (.error (i + 1, c)))) (fun k => ?_) (Ev.now _)
      simp only [lex_Lex.l0]
      rw [if_pos (by omega), if_pos (by omega), if_pos (by omega), hline]
      simp only [Option.bind_some, lineV, hs, fin]
      rw [if_pos (by omega), hw]
      rfl
    | ok ts =>
      have hts := scan_len hs
      have hsz : y.data.toList.length = y.size := rfl
      have h2 : (acc ++ (ts.map (tok ((i + 1 : Nat) : Int)))).length + (ys.map ByteArray.size).sum ≤ 1048576 := by
        simp at hb ⊢; omega
      have he : lexFin acc ((lexAll (ys.map fun y => y.data.toList) (i + 1 + 1)).map (ts.map (fun t => (i + 1, t)) ++ ·)) = lexFin (acc ++ (ts.map (tok ((i + 1 : Nat) : Int)))) (lexAll (ys.map fun y => y.data.toList) (i + 1 + 1)) := by
        cases lexAll (ys.map fun y => y.data.toList) (i + 1 + 1) with
        | error e => rfl
        | ok us => simp [lexFin, Except.map]
      simp only
      rw [he]
      refine Ev.step (fun k => ?_) (ih xs (i + 1) (acc ++ (ts.map (tok ((i + 1 : Nat) : Int)))) hd h2 hl)
      simp only [lex_Lex.l0]
      rw [if_pos (by omega), if_pos (by omega), if_pos (by omega), hline]
      simp only [Option.bind_some, lineV, hs, fin, List.nil_append]
      rw [if_neg (by omega), if_pos (by simp at hb ⊢; omega), hw]

/-! ### strings.Split and the lines -/
theorem indexByte_spec (l : List UInt8) : (Lib.indexByte l 10 = -1 ∧ cut l = [l]) ∨ (∃ j : Nat, Lib.indexByte l 10 = (j : Int) ∧ j < l.length ∧ cut l = l.take j :: cut (l.drop (j + 1))) := by
  induction l with
  | nil => exact .inl ⟨rfl, rfl⟩
  | cons c l ih =>
    by_cases hc : c = 10
    · subst hc
      exact .inr ⟨0, by simp [Lib.indexByte], by simp, by simp [cut]⟩
    · have hb : (c == 10) = false := by simpa using hc
      rcases ih with ⟨h1, h2⟩ | ⟨j, h1, h2, h3⟩
      · refine .inl ⟨?_, ?_⟩
        · unfold Lib.indexByte; rw [hb, h1]; rfl
        · rw [cut, if_neg hc, h2]
      · refine .inr ⟨j + 1, ?_, by simp; omega, ?_⟩
        · unfold Lib.indexByte
          rw [hb, h1, if_neg (by simp), if_neg (by simp only [beq_iff_eq]; omega)]
          omega
        · rw [cut, if_neg hc, h3]; rfl
theorem split_cut (n : Nat) : ∀ (s : ByteArray), (cut s.data.toList).length ≤ n + 1 → (Lib.splitB ⟨#[10]⟩ 0 n s).map (fun y => y.data.toList) = cut s.data.toList := by
  induction n with
  | zero =>
    intro s h
    rcases indexByte_spec s.data.toList with ⟨_, h2⟩ | ⟨j, _, _, h3⟩
    · rw [Lib.splitB_zero, h2]; rfl
    · have h4 := List.length_pos_iff.2 (cut_ne (s.data.toList.drop (j + 1)))
      rw [h3, List.length_cons] at h; omega
  | succ n ih =>
    intro s h
    have hi : Lib.indexB s ⟨#[10]⟩ = Lib.indexByte s.data.toList 10 := by
      show Lib.index s.data.toList [10] = _
      exact Lib.index_one _ _
    rcases indexByte_spec s.data.toList with ⟨h1, h2⟩ | ⟨j, h1, hj, h3⟩
    · rw [Lib.splitB_miss _ _ _ _ (by rw [hi, h1]), h2]; rfl
    · rw [Lib.splitB, hi, h1, if_neg (by simp only [beq_iff_eq]; omega)]
      have e1 : ((s.extract 0 (((j : Int)).toNat + 0)).data.toList) = s.data.toList.take j := by
        rw [ByteArray.data_extract, Array.toList_extract, List.extract]; simp
      have e2 : ((s.extract (((j : Int)).toNat + (⟨#[10]⟩ : ByteArray).size) s.size).data.toList) = s.data.toList.drop (j + 1) := by
        rw [ByteArray.data_extract, Array.toList_extract, List.extract]
        show (s.data.toList.drop (j + 1)).take _ = _
        rw [List.take_of_length_le (by rw [List.length_drop]; show s.size - (j + 1) ≤ s.size - (j + 1); exact Nat.le_refl _)]
      rw [List.map_cons, e1, ih _ (by rw [e2]; rw [h3] at h; simp at h; omega), e2, h3]
theorem count_cut (l : List UInt8) : (cut l).length = l.count 10 + 1 := by
  induction l with
  | nil => rfl
  | cons c l ih =>
    by_cases hc : c = 10
    · subst hc; rw [cut, if_pos rfl]; simp [ih]
    · obtain ⟨a, t, h1, h2⟩ := cut_cons c l hc
      rw [h1] at ih
      rw [h2, List.count_cons_of_ne hc]; simpa using ih
theorem countB_cut (s : ByteArray) : (cut s.data.toList).length = Lib.countB s ⟨#[10]⟩ + 1 := by
  rw [count_cut]
  show _ = Lib.count s.data.toList [10] + 1
  rw [Lib.count_one]
theorem split_lines (s : ByteArray) : (Lib.splitB ⟨#[10]⟩ 0 (Lib.countB s ⟨#[10]⟩) s).map (fun y => y.data.toList) = cut s.data.toList := split_cut _ s (by rw [countB_cut]; omega)

/-- lex.Lex, told. -/
def lexV (l : List UInt8) : List S39 × Int × Int × Int := if 1048576 < l.length then ([], 0, 0, 3) else lexFin [] (lex l)
theorem size_sum (xs : List ByteArray) : (xs.map ByteArray.size).sum = ((xs.map fun y => y.data.toList).map List.length).sum := by
  rw [List.map_map]; rfl
theorem lex_ev (s : ByteArray) : Ev (fun k => lex_Lex.f k s) (lexV s.data.toList) := by
  have hsz : s.data.toList.length = s.size := rfl
  unfold lexV
  by_cases h : 1048576 < s.size
  · rw [if_pos (by omega)]
    refine Ev.congr (fun k => ?_) (Ev.now _)
    unfold lex_Lex.f
    rw [if_pos (by omega)]
  · rw [if_neg (by omega)]
    have hl := split_lines s
    have hlen := cut_len s.data.toList
    have hcl := countB_cut s
    generalize hx : Lib.splitB ⟨#[10]⟩ 0 (Lib.countB s ⟨#[10]⟩) s = xs at hl
    have hxl : xs.length = (cut s.data.toList).length := by rw [← hl]; simp
    have e := loop_ev xs xs 0 [] rfl (by rw [size_sum, hl]; simp; omega) (by omega)
    rw [hl] at e
    refine Ev.congr (fun k => ?_) e
    unfold lex_Lex.f strings_Split.f
    rw [if_neg (by omega), if_pos (show (⟨#[10]⟩ : ByteArray).data.toList.length = 1 from rfl), if_pos (by omega), hx]
    rfl
end Go.Proofs.YtlggmdlbhndacaaDoor.Lx.LexV
