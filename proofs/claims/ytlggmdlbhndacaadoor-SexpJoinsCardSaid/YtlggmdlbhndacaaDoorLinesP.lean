import Derived.Test.YtlggmdlbhndacaaDoorWalkIs
/- A text's lines, one by one: plain facts, and Cut's contract. -/
namespace Go.Proofs.YtlggmdlbhndacaaDoor.Lx.LinesP
open Go.RowKit Go.Proofs.YtlggmdlbhndacaaDoorW.PrintWords Line LexV RefV Use WalkIs

theorem le_sum {x : Nat} {l : List Nat} (h : x ∈ l) : x ≤ l.sum := by
  induction l with
  | nil => cases h
  | cons y l ih =>
    rcases List.mem_cons.1 h with rfl | h
    · simp
    · have := ih h; simp; omega
structure TellsCut (X : List ByteArray) (w : World) (e : Ending) (w' : World) : Prop where mk ::
  (out : ∃ A c, e = .returned (.slice A X.length c) ∧ Kd.C Kd.string w' A X.length X ∧ X.length ≤ c ∧ Below w.heap.size w w')
theorem cut_calls (s : ByteArray) (hs : s.size ≤ 1073741824) : ∃ X, X.map (fun y => y.data.toList) = cut s.data.toList ∧ ∀ w, Calls Tryd.prog 19 #[.string s] w (TellsCut X w) := by
  obtain ⟨X, hX, hl⟩ := cut_ev s hs
  obtain ⟨k, hk⟩ := hX.rounds
  refine ⟨X, hl, fun w => ?_⟩
  refine (tourbillonref03_Cut.calls k s X w hk).mono fun e w' ⟨v, he, hR, hB⟩ => ?_
  obtain ⟨A, c, rfl, hl, hC⟩ := Kd.R_reads hR
  exact ⟨A, c, he, hC, hl, hB⟩
theorem lex_line (y : List UInt8) (h : ∀ c ∈ y, c ≠ 10) : lex y = match scan y 0 with | .error c => .error (1, c) | .ok us => .ok (us.map fun t => (1, t)) := by
  unfold lex
  rw [cut_line y h, lexAll]
  cases scan y 0 with
  | error c => rfl
  | ok us => simp [lexAll, Except.map]
theorem lexV_ok {y : List UInt8} (h : ∀ c ∈ y, c ≠ 10) (hl : y.length ≤ 1048576) {us : List Tk} (hs : scan y 0 = .ok us) : lexV y = (us.map (tok 1), 0, 0, 0) := by
  unfold lexV
  rw [if_neg (by omega), lex_line y h, hs]
  simp [lexFin]
theorem lexV_err {y : List UInt8} (h : ∀ c ∈ y, c ≠ 10) (hl : y.length ≤ 1048576) {c : Nat} (hs : scan y 0 = .error c) : lexV y = ([], 1, (c : Int), 4) := by
  unfold lexV
  rw [if_neg (by omega), lex_line y h, hs]
  rfl
/-- The lines of a text, as byte strings: each is short and holds no line feed. -/
theorem line_at {s : ByteArray} {X : List ByteArray} (hX : X.map (fun y => y.data.toList) = cut s.data.toList) (hs : s.size ≤ 2048) {i : Nat} {y : ByteArray} (hy : X[i]? = some y) : (∀ c ∈ y.data.toList, c ≠ 10) ∧ y.data.toList.length ≤ 2048 ∧ (cut s.data.toList)[i]? = some y.data.toList := by
  have h1 : (cut s.data.toList)[i]? = some y.data.toList := by rw [← hX, List.getElem?_map, hy]; rfl
  have h2 := List.mem_of_getElem? h1
  refine ⟨cut_mem _ _ h2, ?_, h1⟩
  have h3 := cut_len s.data.toList
  have h4 : y.data.toList.length ≤ ((cut s.data.toList).map List.length).sum := le_sum (List.mem_map_of_mem h2)
  have h5 := List.length_pos_iff.2 (cut_ne s.data.toList)
  have h6 : s.data.toList.length = s.size := rfl
  omega
theorem lexAll_at {ls : List (List UInt8)} {i : Nat} {y : List UInt8} (h : ls[i]? = some y) (m : Nat) : lexAll (ls.drop i) m = match scan y 0 with | .error c => .error (m, c) | .ok us => (lexAll (ls.drop (i + 1)) (m + 1)).map (us.map (fun t => (m, t)) ++ ·) := by
  obtain ⟨hi, hv⟩ := List.getElem?_eq_some_iff.1 h
  rw [List.drop_eq_getElem_cons hi, lexAll, hv]
  cases scan y 0 <;> rfl
/-- A round over the lines of a text without a fault. -/
theorem step_ok {ls : List (List UInt8)} {ts : List (Nat × Tk)} {i n : Nat} {y : List UInt8} (h : ls[i]? = some y) (hI : lexAll (ls.drop i) (i + 1) = .ok (ts.drop n)) (hn : n ≤ ts.length) :
    ∃ us, scan y 0 = .ok us ∧ n + us.length ≤ ts.length ∧ lexAll (ls.drop (i + 1)) (i + 1 + 1) = .ok (ts.drop (n + us.length)) ∧ ∀ (j : Nat) (t : Tk), us[j]? = some t → ts[n + j]? = some (i + 1, t) := by
  rw [lexAll_at h] at hI
  cases hs : scan y 0 with
  | error c => rw [hs] at hI; cases hI
  | ok us =>
    rw [hs] at hI
    cases hr : lexAll (ls.drop (i + 1)) (i + 1 + 1) with
    | error e => simp only [hr] at hI; cases hI
    | ok vs =>
      simp only [hr] at hI
      have hI : (us.map fun t => (i + 1, t)) ++ vs = ts.drop n := by injection hI
      have hlen := congrArg List.length hI
      simp only [List.length_append, List.length_map, List.length_drop] at hlen
      refine ⟨us, rfl, by omega, ?_, fun j t hj => ?_⟩
      · congr 1
        have := congrArg (List.drop us.length) hI
        rw [List.drop_drop, List.drop_left' (by simp)] at this
        rw [this]
      · rw [← List.getElem?_drop, ← hI, List.getElem?_append_left (by simpa using (List.getElem?_eq_some_iff.1 hj).1), List.getElem?_map, hj]
        rfl
theorem step_err {ls : List (List UInt8)} {p : Nat × Nat} {i : Nat} {y : List UInt8} (h : ls[i]? = some y) (hI : lexAll (ls.drop i) (i + 1) = .error p) :
    (∃ c, scan y 0 = .error c ∧ p = (i + 1, c)) ∨ (∃ us, scan y 0 = .ok us ∧ lexAll (ls.drop (i + 1)) (i + 1 + 1) = .error p) := by
  rw [lexAll_at h] at hI
  cases hs : scan y 0 with
  | error c =>
    rw [hs] at hI
    injection hI with hI
    exact .inl ⟨c, rfl, hI.symm⟩
  | ok us =>
    rw [hs] at hI
    cases hr : lexAll (ls.drop (i + 1)) (i + 1 + 1) with
    | ok vs => simp only [hr] at hI; cases hI
    | error e => simp only [hr] at hI; injection hI with hI; subst hI; exact .inr ⟨us, rfl, rfl⟩
theorem kept_block {W w3 : World} {a b : Value} (hb : Below (W.alloc (.cells #[a, b] 25)).heap.size (W.alloc (.cells #[a, b] 25)) w3) : w3.heap[W.heap.size]? = some (.cells #[a, b] 25 (0, 0)) := blk_below (heap_alloc_new W _) hb
theorem rd_tok (us : List Tk) (n : Int) (i : Nat) (t : Tk) (h : us[i]? = some t) : rd_T39 (us.map (tok n)) (i : Int) = tok n t := by
  unfold rd_T39
  rw [show ((i : Int)).toNat = i from rfl, List.getD_eq_getElem?_getD, List.getElem?_map, h]; rfl
theorem rd_str (X : List ByteArray) (i : Nat) (y : ByteArray) (h : X[i]? = some y) : rdOf ByteArray.empty X (i : Int) = y := by
  unfold rdOf
  rw [show ((i : Int)).toNat = i from rfl, List.getD_eq_getElem?_getD, h]; rfl
end Go.Proofs.YtlggmdlbhndacaaDoor.Lx.LinesP
