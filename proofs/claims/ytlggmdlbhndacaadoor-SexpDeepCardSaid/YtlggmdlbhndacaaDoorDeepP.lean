import Derived.Test.YtlggmdlbhndacaaDoorPC
/- Opens and closes alone: what Parse answers, plainly. -/
namespace Go.Proofs.YtlggmdlbhndacaaDoor.Lx.DeepP
open Go.RowKit Go.Proofs.YtlggmdlbhndacaaDoorW.PrintWords Line LexV Mach SexpP PV

def opensT (i : Nat) : Nat → List Tk
  | 0 => []
  | n + 1 => ⟨1, [40], i + 1⟩ :: opensT (i + 1) n
def closesT (i : Nat) : Nat → List Tk
  | 0 => []
  | n + 1 => ⟨2, [41], i + 1⟩ :: closesT (i + 1) n
theorem scan_closes : ∀ (n i : Nat), scan (List.replicate n 41) i = .ok (closesT i n)
  | 0, i => scan_nil i
  | n + 1, i => by rw [List.replicate_succ, scan_close _ _ _ rfl, scan_closes n (i + 1)]; rfl
theorem scan_opens (c : Nat) : ∀ (n i : Nat), scan (List.replicate n 40 ++ List.replicate c 41) i = .ok (opensT i n ++ closesT (i + n) c)
  | 0, i => by rw [List.replicate_zero, List.nil_append, scan_closes]; rfl
  | n + 1, i => by
    rw [List.replicate_succ, List.cons_append, scan_open _ _ _ rfl, scan_opens c n (i + 1), show i + 1 + n = i + (n + 1) by omega]; rfl
theorem lex_opens (n c : Nat) : lex (List.replicate n 40 ++ List.replicate c 41) = .ok ((opensT 0 n ++ closesT n c).map fun t => (1, t)) := by
  have h : ∀ x ∈ List.replicate n (40 : UInt8) ++ List.replicate c 41, x ≠ 10 := by
    intro x hx
    rcases List.mem_append.1 hx with hx | hx
    · rw [List.eq_of_mem_replicate hx]; decide
    · rw [List.eq_of_mem_replicate hx]; decide
  unfold lex
  rw [cut_line _ h, lexAll, scan_opens, Nat.zero_add]
  simp [lexAll, Except.map]
def emp : Nat → Sk
  | 0 => []
  | n + 1 => (⟨1, ((n + 1 : Nat) : Int)⟩, []) :: emp n
theorem emp_len : ∀ n, (emp n).length = n
  | 0 => rfl
  | n + 1 => by rw [emp, List.length_cons, emp_len n]
theorem mrun_opens (R : List S39) : ∀ (n i : Nat), i ≤ 64 → mrun ((opensT i n).map (tok 1) ++ R) [] (emp i) = if i + n ≤ 64 then mrun R [] (emp (i + n)) else .bad ⟨1, 65⟩ 8
  | 0, i, hi => by rw [if_pos (by omega)]; rfl
  | n + 1, i, hi => by
    rw [opensT, List.map_cons, List.cons_append, mrun, mstep_one (t := tok 1 ⟨1, [40], i + 1⟩) rfl, emp_len]
    by_cases h : i = 64
    · subst h
      rw [if_pos rfl, if_neg (by omega)]
      rfl
    · rw [if_neg h]
      have := mrun_opens R n (i + 1) (by omega)
      rw [show i + 1 + n = i + (n + 1) by omega] at this
      exact this
def stk : Nat → List S52 → Sk
  | 0, _ => []
  | k + 1, xs => (⟨1, ((k + 1 : Nat) : Int)⟩, xs) :: emp k
theorem mrun_closes : ∀ (c k i : Nat) (xs : List S52), c ≤ k → (c < k → mrun ((closesT i c).map (tok 1)) [] (stk k xs) = .bad ⟨1, ((k - c : Nat) : Int)⟩ 4) ∧ (c = k → 0 < k → ∃ x, mrun ((closesT i c).map (tok 1)) [] (stk k xs) = .ok [x])
  | 0, 0, i, xs, _ => ⟨fun h => absurd h (by omega), fun _ h => absurd h (by omega)⟩
  | 0, k + 1, i, xs, _ => ⟨fun _ => rfl, fun h => absurd h (by omega)⟩
  | c + 1, 0, i, xs, h => absurd h (by omega)
  | c + 1, 1, i, xs, h => by
    obtain rfl : c = 0 := by omega
    exact ⟨fun h => absurd h (by omega), fun _ _ => ⟨_, rfl⟩⟩
  | c + 1, k + 2, i, xs, h => by
    obtain ⟨h1, h2⟩ := mrun_closes c (k + 1) (i + 1) [⟨⟨#[]⟩, xs, true, ⟨1, ((k + 2 : Nat) : Int)⟩⟩] (by omega)
    refine ⟨fun hlt => ?_, fun he _ => ?_⟩
    · rw [show k + 2 - (c + 1) = k + 1 - c by omega]
      exact h1 (by omega)
    · exact h2 (by omega) (by omega)
theorem stk_emp (k : Nat) : stk k [] = emp k := by cases k <;> rfl
/-- What Parse answers of n opens and c closes. -/
theorem parse_opens (n c : Nat) (hn : n ≤ 70) (hc : c ≤ n) : ∃ X p1 p2 er, parseV (List.replicate n 40 ++ List.replicate c 41) = (X, p1, p2, er) ∧
    (64 < n → X = [] ∧ p1 = 1 ∧ p2 = 65 ∧ er = 8) ∧ (n ≤ 64 → c < n → X = [] ∧ p1 = 1 ∧ p2 = (n : Int) - c ∧ er = 4) ∧ (n ≤ 64 → c = n → er = 0 ∧ X.length = if n = 0 then 0 else 1) := by
  have hl : lexV (List.replicate n 40 ++ List.replicate c 41) = ((opensT 0 n).map (tok 1) ++ (closesT n c).map (tok 1), 0, 0, 0) := by
    unfold lexV
    rw [if_neg (by simp; omega), lex_opens]
    simp [lexFin]
    rfl
  have hr := mrun_opens ((closesT n c).map (tok 1)) n 0 (by omega)
  rw [Nat.zero_add] at hr
  unfold parseV
  rw [hl]
  simp only [if_true]
  by_cases h : n ≤ 64
  · rw [if_pos h, ← stk_emp n] at hr
    obtain ⟨h1, h2⟩ := mrun_closes c n n [] hc
    by_cases h3 : c < n
    · rw [h1 h3] at hr
      have hr' : mrun ((opensT 0 n).map (tok 1) ++ (closesT n c).map (tok 1)) [] [] = .bad ⟨1, ((n - c : Nat) : Int)⟩ 4 := hr
      rw [hr']
      exact ⟨_, _, _, _, rfl, fun h4 => absurd h (by omega), fun _ _ => ⟨rfl, rfl, by show ((n - c : Nat) : Int) = _; omega, rfl⟩, fun _ h4 => absurd h4 (by omega)⟩
    · have hcn : c = n := by omega
      by_cases h0 : n = 0
      · subst h0
        obtain rfl : c = 0 := by omega
        exact ⟨_, _, _, _, rfl, fun h4 => absurd h4 (by omega), fun _ h4 => absurd h4 (by omega), fun _ _ => ⟨rfl, rfl⟩⟩
      · obtain ⟨x, hx⟩ := h2 hcn (by omega)
        rw [hx] at hr
        have hr' : mrun ((opensT 0 n).map (tok 1) ++ (closesT n c).map (tok 1)) [] [] = .ok [x] := hr
        rw [hr']
        exact ⟨_, _, _, _, rfl, fun h4 => absurd h (by omega), fun _ h4 => absurd h4 (by omega), fun _ _ => ⟨rfl, by rw [if_neg h0]; rfl⟩⟩
  · rw [if_neg h] at hr
    have hr' : mrun ((opensT 0 n).map (tok 1) ++ (closesT n c).map (tok 1)) [] [] = .bad ⟨1, 65⟩ 8 := hr
    rw [hr']
    exact ⟨_, _, _, _, rfl, fun _ => ⟨rfl, rfl, rfl, rfl⟩, fun h4 => absurd h4 h, fun h4 => absurd h4 h⟩
end Go.Proofs.YtlggmdlbhndacaaDoor.Lx.DeepP
