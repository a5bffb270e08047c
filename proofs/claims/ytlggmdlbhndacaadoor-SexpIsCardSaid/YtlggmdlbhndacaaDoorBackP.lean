import Derived.Test.YtlggmdlbhndacaaDoorPC
/- What Parse answers of a text without a fault, of two texts on lines of their own, and of what was written down, plainly. -/
namespace Go.Proofs.YtlggmdlbhndacaaDoor.Lx.BackP
open Go.RowKit Go.Proofs.YtlggmdlbhndacaaDoorW.PrintWords Line LexV Mach SexpP Parse PV

theorem mrun_bad : ∀ (L : List S39) (tops : List S52) (st : Sk) (p : S25) (e : Int), mrun L tops st = .bad p e → e = 8 ∨ e = 4 := by
  intro L
  induction L with
  | nil =>
    intro tops st p e h
    cases st with
    | nil => cases h
    | cons q r => obtain ⟨q1, ys⟩ := q; injection h with _ h; exact .inr h.symm
  | cons t L ih =>
    intro tops st p e h
    rw [mrun] at h
    cases hs : mstep t tops st with
    | error e1 => rw [hs] at h; injection h with _ h; rw [← h]; exact mstep_err hs
    | ok s => rw [hs] at h; exact ih s.1 s.2 p e h
/-- A text without a fault. -/
theorem parse_of {l : List UInt8} {X : List S52} {p1 p2 : Int} (h : parseV l = (X, p1, p2, 0)) : ∃ ts, lex l = .ok ts ∧ mrun (tks ts) [] [] = .ok X ∧ l.length ≤ 1048576 := by
  unfold parseV at h
  rcases lexV_or l with ⟨n, c, e, hl, he⟩ | ⟨ts, h1, hl, h3⟩
  · rw [hl] at h
    have he' : e ≠ 0 := by rcases he with rfl | rfl <;> decide
    simp only [if_neg he', Prod.mk.injEq] at h
    exact absurd h.2.2.2 he'
  · rw [hl] at h
    simp only [if_true] at h
    refine ⟨ts, h1, ?_, h3⟩
    cases hm : mrun (tks ts) [] [] with
    | ok xs => rw [hm] at h; simp only [resV, Prod.mk.injEq] at h; rw [h.1]
    | bad p e =>
      rw [hm] at h
      simp only [resV, Prod.mk.injEq] at h
      have := mrun_bad _ _ _ _ _ hm
      omega
theorem parse_to {l : List UInt8} {ts : List (Nat × Tk)} {X : List S52} (h : lex l = .ok ts) (hm : mrun (tks ts) [] [] = .ok X) (hl : l.length ≤ 1048576) : parseV l = (X, 0, 0, 0) := by
  unfold parseV
  rcases lexV_or l with ⟨n, c, e, h1, he⟩ | ⟨us, h1, h2, h3⟩
  · unfold lexV at h1
    rw [if_neg (by omega), h] at h1
    simp only [lexFin, Prod.mk.injEq] at h1
    have := h1.2.2.2
    omega
  · rw [h] at h1
    injection h1 with h1
    subst h1
    rw [h2]
    simp only [if_true]
    rw [hm]; rfl
theorem eraL_len : ∀ l : List S52, (eraL l).length = l.length
  | [] => rfl
  | x :: l => by rw [eraL, List.length_cons, eraL_len l]; rfl
theorem like_len {a b : List S52} (h : eraL a = eraL b) : a.length = b.length := by rw [← eraL_len a, h, eraL_len]
theorem like_txt {a b : List S52} (h : eraL a = eraL b) : txtAll a = txtAll b := by rw [← txtAll_era a, h, txtAll_era]
theorem tl_le : ∀ (L : List S39), (∀ t ∈ L, TkOk t.f0 t.f1.data.toList) → tl (L.map kt) ≤ 33 * L.length
  | [], _ => by simp [tl]
  | t :: L, h => by
    have h1 := tl_le L (fun u hu => h u (by simp [hu]))
    have h2 : (kt t).2.length ≤ 32 := by
      show t.f1.data.toList.length ≤ 32
      rcases h t (by simp) with ⟨_, e⟩ | ⟨_, e⟩ | ⟨_, e⟩
      · rw [e]; simp
      · rw [e]; simp
      · exact e.2.1
    simp only [List.map_cons, tl, List.sum_cons, List.length_cons] at h1 ⊢
    omega
theorem txt_bound {l : List UInt8} {X : List S52} {p1 p2 : Int} (h : parseV l = (X, p1, p2, 0)) : (txtAll X).length ≤ 33 * l.length := by
  obtain ⟨ts, h1, h2, _⟩ := parse_of h
  have h3 := mrun_flat _ _ _ _ (tks_ok h1) h2
  have h4 := txtAll_len X
  have h5 := tl_le _ (tks_ok h1)
  have h6 := lex_len' h1
  rw [tks_len] at h5
  rw [h3] at h4
  simp only [flat, toksL, List.nil_append] at h4
  omega
theorem kt_tok (n : Int) (t : Tk) : kt (tok n t) = ktk t := by simp [kt, tok, ktk]
theorem tks_kt (ts : List (Nat × Tk)) : (tks ts).map kt = ts.map fun p => ktk p.2 := by
  unfold tks
  rw [List.map_map]
  exact List.map_congr_left fun p _ => kt_tok _ _
/-- What was written down, read: the same but for places. -/
theorem parse_back {l : List UInt8} {X : List S52} {p1 p2 : Int} (h : parseV l = (X, p1, p2, 0)) (hl : l.length ≤ 2048) : ∃ Y, parseV (txtAll X) = (Y, 0, 0, 0) ∧ eraL Y = eraL X := by
  obtain ⟨ts, h1, h2, _⟩ := parse_of h
  have h3 := mrun_flat _ _ _ _ (tks_ok h1) h2
  simp only [flat, toksL, List.nil_append] at h3
  have ha : AtomsOk (toksL X) := by
    intro k hk hk3
    rw [h3] at hk
    obtain ⟨t, ht, rfl⟩ := List.mem_map.1 hk
    rcases tks_ok h1 t ht with ⟨e, _⟩ | ⟨e, _⟩ | ⟨_, e⟩
    · exact absurd (e.symm.trans hk3) (by decide)
    · exact absurd (e.symm.trans hk3) (by decide)
    · exact e
  obtain ⟨us, h4, h5⟩ := lexAll_txt X 1 ha
  have h6 : (tks ts).map kt = (tks us).map kt := by rw [tks_kt us, h5, h3]
  obtain ⟨Y, h7, h8⟩ := mrun_like h6 h2
  have hb := txt_bound h
  exact ⟨Y, parse_to h4 h7 (by omega), h8⟩
end Go.Proofs.YtlggmdlbhndacaaDoor.Lx.BackP
