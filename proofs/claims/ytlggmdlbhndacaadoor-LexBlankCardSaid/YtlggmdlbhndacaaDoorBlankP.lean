import Derived.Test.YtlggmdlbhndacaaDoorLinesP
/- Comments and separators: plain facts on a text whose lines are padded. -/
namespace Go.Proofs.YtlggmdlbhndacaaDoor.Lx.BlankP
open Go.RowKit Go.Proofs.YtlggmdlbhndacaaDoorW.PrintWords Line LexV RefV Use WalkIs LinesP

def sh (d : Nat) (t : Tk) : Tk := ⟨t.kind, t.text, t.col + d⟩
def shE (d : Nat) : Except Nat (List Tk) → Except Nat (List Tk)
  | .error c => .error (c + d)
  | .ok ts => .ok (ts.map (sh d))
theorem shE_cons (d : Nat) (t : Tk) (r : Except Nat (List Tk)) : shE d (r.map (t :: ·)) = (shE d r).map (sh d t :: ·) := by cases r <;> rfl
theorem take_app (l : List UInt8) : (l ++ [32, 59, 13]).takeWhile plain = l.takeWhile plain := by
  induction l with
  | nil => decide
  | cons c l ih =>
    rw [List.cons_append, List.takeWhile_cons, List.takeWhile_cons]
    cases plain c with
    | true => simp [ih]
    | false => rfl
/-- What is put behind a line, and where the line begins, change nothing but columns. -/
theorem scan_pad (d : Nat) (m : Nat) : ∀ (l : List UInt8) (i : Nat), l.length ≤ m → scan (l ++ [32, 59, 13]) (i + d) = shE d (scan l i) := by
  induction m with
  | zero =>
    intro l i hl
    obtain rfl : l = [] := List.length_eq_zero_iff.1 (by omega)
    rw [List.nil_append, scan_white _ _ _ (by decide) (by decide), scan_semi _ _ _ rfl, scan_nil]
    rfl
  | succ m ih =>
    intro l i hl
    cases l with
    | nil =>
      rw [List.nil_append, scan_white _ _ _ (by decide) (by decide), scan_semi _ _ _ rfl, scan_nil]
      rfl
    | cons c t =>
      have ht : t.length ≤ m := by simp at hl; omega
      have hw := take_app (c :: t)
      rw [List.cons_append] at hw
      rw [List.cons_append]
      by_cases c1 : c = 59
      · rw [scan_semi _ _ _ c1, scan_semi _ _ _ c1]; rfl
      · cases c2 : white c with
        | true => rw [scan_white _ _ _ c1 c2, scan_white _ _ _ c1 c2, show i + d + 1 = i + 1 + d by omega, ih t (i + 1) ht]
        | false =>
          by_cases c3 : c = 40
          · rw [scan_open _ _ _ c3, scan_open _ _ _ c3, shE_cons, show i + d + 1 = i + 1 + d by omega, ih t (i + 1) ht]; rfl
          · by_cases c4 : c = 41
            · rw [scan_close _ _ _ c4, scan_close _ _ _ c4, shE_cons, show i + d + 1 = i + 1 + d by omega, ih t (i + 1) ht]; rfl
            · by_cases c5 : ((c :: t).takeWhile plain).length = 0 ∨ 32 < ((c :: t).takeWhile plain).length
              · rw [scan_bad _ _ _ c1 c2 c3 c4 c5, scan_bad _ _ _ c1 c2 c3 c4 (by rw [hw]; exact c5)]
                show Except.error (i + d + 1) = Except.error (i + 1 + d)
                rw [show i + d + 1 = i + 1 + d by omega]
              · have hle := (List.takeWhile_sublist (p := plain) (l := c :: t)).length_le
                rw [scan_atom _ _ _ c1 c2 c3 c4 c5, scan_atom _ _ _ c1 c2 c3 c4 (by rw [hw]; exact c5), hw, shE_cons]
                have hd : (c :: (t ++ [32, 59, 13])).drop ((c :: t).takeWhile plain).length = (c :: t).drop ((c :: t).takeWhile plain).length ++ [32, 59, 13] := by
                  rw [← List.cons_append, List.drop_append_of_le_length hle]
                rw [hd, show i + d + ((c :: t).takeWhile plain).length = i + ((c :: t).takeWhile plain).length + d by omega, ih _ _ (by simp only [List.length_drop]; omega)]
                show _ = (shE d _).map (⟨3, (c :: t).takeWhile plain, i + 1 + d⟩ :: ·)
                rw [show i + d + 1 = i + 1 + d by omega]
def pad (s : List UInt8) : List UInt8 := [59, 32, 40, 109, 111, 114, 101, 10, 9, 32] ++ s ++ [32, 59] ++ [13, 10]
def dbl : List (List UInt8) → List UInt8
  | [] => []
  | s :: ss => pad s ++ dbl ss
theorem dbl_snoc (ss : List (List UInt8)) (s : List UInt8) : dbl (ss ++ [s]) = dbl ss ++ pad s := by
  induction ss with
  | nil => simp [dbl]
  | cons x ss ih => simp [dbl, ih]
theorem dbl_len (ss : List (List UInt8)) : (dbl ss).length = 14 * ss.length + (ss.map List.length).sum := by
  induction ss with
  | nil => rfl
  | cons x ss ih => simp [dbl, pad, ih]; omega
theorem dbl_take (ls : List (List UInt8)) (k : Nat) : (dbl (ls.take k)).length ≤ 14 * ls.length + (ls.map List.length).sum := by
  have h := List.take_append_drop k ls
  have h1 := congrArg (fun l => (l.map List.length).sum) h
  have h2 := congrArg List.length h
  simp only [List.map_append, List.sum_append, List.length_append] at h1 h2
  rw [dbl_len]; omega
theorem cut_dbl (ss : List (List UInt8)) (h : ∀ s ∈ ss, ∀ c ∈ s, c ≠ 10) : cut (dbl ss) = (ss.flatMap fun s => [[59, 32, 40, 109, 111, 114, 101], 9 :: 32 :: (s ++ [32, 59, 13])]) ++ [[]] := by
  induction ss with
  | nil => rfl
  | cons s ss ih =>
    have e : dbl (s :: ss) = [59, 32, 40, 109, 111, 114, 101] ++ 10 :: ((9 :: 32 :: (s ++ [32, 59, 13])) ++ 10 :: dbl ss) := by simp [dbl, pad]
    rw [e, cut_join, cut_join, cut_line [59, 32, 40, 109, 111, 114, 101] (by decide), cut_line (9 :: 32 :: (s ++ [32, 59, 13])) ?_, ih (fun x hx => h x (by simp [hx]))]
    · simp
    · intro c hc
      simp only [List.mem_cons, List.mem_append, List.not_mem_nil, or_false] at hc
      rcases hc with rfl | rfl | hc | rfl | rfl | rfl
      · decide
      · decide
      · exact h s (by simp) c hc
      · decide
      · decide
      · decide
theorem lexAll_dbl (ss : List (List UInt8)) : ∀ m, lexAll ((ss.flatMap fun s => [[59, 32, 40, 109, 111, 114, 101], 9 :: 32 :: (s ++ [32, 59, 13])]) ++ [[]]) (2 * m + 1) = match lexAll ss (m + 1) with
    | .error e => .error (2 * e.1, e.2 + 2)
    | .ok ts => .ok (ts.map fun p => (2 * p.1, sh 2 p.2)) := by
  induction ss with
  | nil =>
    intro m
    show lexAll [[]] (2 * m + 1) = Except.ok []
    unfold lexAll
    rw [scan_nil]
    rfl
  | cons s ss ih =>
    intro m
    have h1 : scan [59, 32, 40, 109, 111, 114, 101] 0 = .ok [] := scan_semi _ _ _ rfl
    have h2 : scan (9 :: 32 :: (s ++ [32, 59, 13])) 0 = shE 2 (scan s 0) := by
      rw [scan_white _ _ _ (by decide) (by decide), scan_white _ _ _ (by decide) (by decide)]
      exact scan_pad 2 s.length s 0 (Nat.le_refl _)
    rw [List.flatMap_cons]
    show lexAll ([59, 32, 40, 109, 111, 114, 101] :: (9 :: 32 :: (s ++ [32, 59, 13])) :: ((ss.flatMap fun s => [[59, 32, 40, 109, 111, 114, 101], 9 :: 32 :: (s ++ [32, 59, 13])]) ++ [[]])) (2 * m + 1) = _
    rw [lexAll, h1, lexAll, h2, lexAll]
    cases scan s 0 with
    | error c => rfl
    | ok us =>
      simp only [shE]
      rw [show 2 * m + 1 + 1 + 1 = 2 * (m + 1) + 1 by omega, ih]
      cases lexAll ss (m + 1 + 1) with
      | error e => rfl
      | ok vs =>
        simp only [Except.map, List.map_nil, List.nil_append, List.map_map, List.map_append]
        rfl
theorem lex_dbl (l : List UInt8) : lex (dbl (cut l)) = match lex l with
    | .error e => .error (2 * e.1, e.2 + 2)
    | .ok ts => .ok (ts.map fun p => (2 * p.1, sh 2 p.2)) := by
  unfold lex
  rw [cut_dbl _ (cut_mem l)]
  exact lexAll_dbl (cut l) 0
end Go.Proofs.YtlggmdlbhndacaaDoor.Lx.BlankP
