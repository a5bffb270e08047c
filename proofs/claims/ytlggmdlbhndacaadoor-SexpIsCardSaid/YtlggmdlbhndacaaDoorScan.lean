/- The lexer in plain Lean: lines of a text, tokens of a line. No program in sight. -/
namespace Go.Proofs.YtlggmdlbhndacaaDoor.Lx

def white (c : UInt8) : Bool := c == 32 || c == 9 || c == 13
def plain (c : UInt8) : Bool := decide (32 < c.toNat) && decide (c.toNat < 127) && c != 40 && c != 41 && c != 59
/-- A token: its kind, its bytes, the column at which it begins. -/
structure Tk where
  kind : Int
  text : List UInt8
  col : Nat

/-- The tokens of what is left of a line, i bytes of which are gone; or the column of the first fault. -/
def scan (l : List UInt8) (i : Nat) : Except Nat (List Tk) :=
  match l with
  | [] => .ok []
  | c :: t =>
    if c = 59 then .ok []
    else if white c = true then scan t (i + 1)
    else if c = 40 then (scan t (i + 1)).map (⟨1, [c], i + 1⟩ :: ·)
    else if c = 41 then (scan t (i + 1)).map (⟨2, [c], i + 1⟩ :: ·)
    else if h : ((c :: t).takeWhile plain).length = 0 ∨ 32 < ((c :: t).takeWhile plain).length then .error (i + 1)
    else (scan ((c :: t).drop ((c :: t).takeWhile plain).length) (i + ((c :: t).takeWhile plain).length)).map (⟨3, (c :: t).takeWhile plain, i + 1⟩ :: ·)
termination_by l.length
decreasing_by all_goals (simp only [List.length_cons, List.length_drop]; omega)

/-- What stands between line feeds. -/
def cut : List UInt8 → List (List UInt8)
  | [] => [[]]
  | c :: l => if c = 10 then [] :: cut l else match cut l with
    | [] => [[c]]
    | h :: t => (c :: h) :: t
/-- The tokens of lines, with their lines' numbers; or the first fault's line and column. -/
def lexAll : List (List UInt8) → Nat → Except (Nat × Nat) (List (Nat × Tk))
  | [], _ => .ok []
  | s :: ss, n => match scan s 0 with
    | .error c => .error (n, c)
    | .ok ts => (lexAll ss (n + 1)).map (ts.map (fun t => (n, t)) ++ ·)
def lex (l : List UInt8) : Except (Nat × Nat) (List (Nat × Tk)) := lexAll (cut l) 1

theorem cut_ne (l : List UInt8) : cut l ≠ [] := by
  cases l with
  | nil => simp [cut]
  | cons c l =>
    unfold cut
    split
    · simp
    · split <;> simp
theorem cut_cons (c : UInt8) (l : List UInt8) (h : c ≠ 10) : ∃ a t, cut l = a :: t ∧ cut (c :: l) = (c :: a) :: t := by
  cases hl : cut l with
  | nil => exact absurd hl (cut_ne l)
  | cons a t => exact ⟨a, t, rfl, by rw [cut, if_neg h, hl]⟩
theorem cut_join (a b : List UInt8) : cut (a ++ 10 :: b) = cut a ++ cut b := by
  induction a with
  | nil => simp [cut]
  | cons c a ih =>
    by_cases h : c = 10
    · subst h
      simp [cut, ih]
    · obtain ⟨x, t, h1, h2⟩ := cut_cons c a h
      rw [h2, List.cons_append, cut, if_neg h, ih, h1]
      rfl
/-- A text without line feeds is one line. -/
theorem cut_line (l : List UInt8) (h : ∀ c ∈ l, c ≠ 10) : cut l = [l] := by
  induction l with
  | nil => rfl
  | cons c l ih =>
    rw [cut, if_neg (h c (by simp)), ih (fun x hx => h x (by simp [hx]))]
theorem cut_mem (l : List UInt8) : ∀ s ∈ cut l, ∀ c ∈ s, c ≠ 10 := by
  induction l with
  | nil => simp [cut]
  | cons c l ih =>
    intro s hs x hx
    by_cases h : c = 10
    · rw [cut, if_pos h] at hs
      rcases List.mem_cons.1 hs with rfl | hs
      · simp at hx
      · exact ih s hs x hx
    · obtain ⟨a, t, h1, h2⟩ := cut_cons c l h
      rw [h2] at hs
      rcases List.mem_cons.1 hs with rfl | hs
      · rcases List.mem_cons.1 hx with rfl | hx
        · exact h
        · exact ih a (by rw [h1]; simp) x hx
      · exact ih s (by rw [h1]; simp [hs]) x hx
/-- A line's bytes, and as many as its lines. -/
theorem cut_len (l : List UInt8) : ((cut l).map List.length).sum + (cut l).length = l.length + 1 := by
  induction l with
  | nil => simp [cut]
  | cons c l ih =>
    by_cases h : c = 10
    · rw [cut, if_pos h]; simp; omega
    · obtain ⟨a, t, h1, h2⟩ := cut_cons c l h
      rw [h1] at ih
      rw [h2]; simp at ih ⊢; omega
theorem lexAll_append (xs ys : List (List UInt8)) (n : Nat) : lexAll (xs ++ ys) n = match lexAll xs n with
    | .error e => .error e
    | .ok ts => (lexAll ys (n + xs.length)).map (ts ++ ·) := by
  induction xs generalizing n with
  | nil => simp [lexAll]; cases lexAll ys n <;> rfl
  | cons s xs ih =>
    rw [List.cons_append, lexAll, lexAll]
    cases scan s 0 with
    | error c => rfl
    | ok ts =>
      simp only
      rw [ih, show n + 1 + xs.length = n + (s :: xs).length by simp; omega]
      cases lexAll xs (n + 1) with
      | error e => rfl
      | ok us =>
        simp only [Except.map]
        cases lexAll ys (n + (s :: xs).length) with
        | error e => rfl
        | ok vs => simp
end Go.Proofs.YtlggmdlbhndacaaDoor.Lx
