import Derived.Test.YtlggmdlbhndacaaDoorPB
import Derived.Test.YtlggmdlbhndacaaDoorLexV
import Derived.Test.YtlggmdlbhndacaaDoorRWord
/- Lists written down and read back, in plain Lean. -/
namespace Go.Proofs.YtlggmdlbhndacaaDoor.Lx.SexpP
open Go.RowKit Go.Proofs.YtlggmdlbhndacaaDoorW.PrintWords Line LexV Mach

/-! ### What tokens of a text are like -/
def AtomOk (x : List UInt8) : Prop := x ≠ [] ∧ x.length ≤ 32 ∧ ∀ c ∈ x, plain c = true
def TkOk (k : Int) (x : List UInt8) : Prop := (k = 1 ∧ x = [40]) ∨ (k = 2 ∧ x = [41]) ∨ (k = 3 ∧ AtomOk x)
theorem takeWhile_all (p : UInt8 → Bool) : ∀ l : List UInt8, ∀ c ∈ l.takeWhile p, p c = true
  | [], c, h => by simp at h
  | a :: l, c, h => by
    rw [List.takeWhile_cons] at h
    split at h
    · rename_i ha
      rcases List.mem_cons.1 h with rfl | h
      · exact ha
      · exact takeWhile_all p l c h
    · simp at h
theorem scan_toks (m : Nat) : ∀ (l : List UInt8) (i : Nat) (ts : List Tk), l.length ≤ m → scan l i = .ok ts → ∀ t ∈ ts, TkOk t.kind t.text := by
  induction m with
  | zero =>
    intro l i ts hl h
    obtain rfl : l = [] := List.length_eq_zero_iff.1 (by omega)
    rw [scan_nil] at h
    injection h with h; subst h; simp
  | succ m ih =>
    intro l i ts hl h
    cases l with
    | nil => rw [scan_nil] at h; injection h with h; subst h; simp
    | cons c t =>
      have ht : t.length ≤ m := by simp at hl; omega
      have one : ∀ (x : Tk) (u : List UInt8) (j : Nat), u.length ≤ m → TkOk x.kind x.text → (scan u j).map (x :: ·) = .ok ts → ∀ t ∈ ts, TkOk t.kind t.text := by
        intro x u j hu hx h
        cases hs : scan u j with
        | error e => rw [hs] at h; cases h
        | ok us =>
          rw [hs] at h
          injection h with h
          subst h
          intro t ht
          rcases List.mem_cons.1 ht with rfl | ht
          · exact hx
          · exact ih u j us hu hs t ht
      by_cases c1 : c = 59
      · rw [scan_semi _ _ _ c1] at h
        injection h with h; subst h; simp
      · cases c2 : white c with
        | true =>
          rw [scan_white _ _ _ c1 c2] at h
          exact ih t (i + 1) ts ht h
        | false =>
          by_cases c3 : c = 40
          · rw [scan_open _ _ _ c3] at h; exact one _ _ _ ht (.inl ⟨rfl, by rw [c3]⟩) h
          · by_cases c4 : c = 41
            · rw [scan_close _ _ _ c4] at h; exact one _ _ _ ht (.inr (.inl ⟨rfl, by rw [c4]⟩)) h
            · by_cases c5 : ((c :: t).takeWhile plain).length = 0 ∨ 32 < ((c :: t).takeWhile plain).length
              · rw [scan_bad _ _ _ c1 c2 c3 c4 c5] at h; cases h
              · rw [scan_atom _ _ _ c1 c2 c3 c4 c5] at h
                exact one _ _ _ (by simp; omega) (.inr (.inr ⟨rfl, fun e => c5 (.inl (congrArg List.length e)), Nat.le_of_not_lt (fun h => c5 (.inr h)), takeWhile_all _ _⟩)) h
theorem lexAll_toks : ∀ (ls : List (List UInt8)) (n : Nat) (ts : List (Nat × Tk)), lexAll ls n = .ok ts → ∀ p ∈ ts, TkOk p.2.kind p.2.text := by
  intro ls
  induction ls with
  | nil => intro n ts h; injection h with h; subst h; simp
  | cons x ls ih =>
    intro n ts h
    rw [lexAll] at h
    cases hs : scan x 0 with
    | error c => rw [hs] at h; cases h
    | ok us =>
      rw [hs] at h
      cases hr : lexAll ls (n + 1) with
      | error e => simp only [hr] at h; cases h
      | ok vs =>
        simp only [hr] at h
        injection h with h
        subst h
        intro p hp
        rcases List.mem_append.1 hp with hp | hp
        · obtain ⟨t, ht, rfl⟩ := List.mem_map.1 hp
          exact scan_toks _ x 0 us (Nat.le_refl _) hs t ht
        · exact ih (n + 1) vs hr p hp
theorem lex_toks {l : List UInt8} {ts : List (Nat × Tk)} (h : lex l = .ok ts) : ∀ p ∈ ts, TkOk p.2.kind p.2.text := lexAll_toks _ _ _ h

/-! ### Written down -/
mutual
def txt : S52 → List UInt8
  | ⟨a, l, is, _⟩ => if is = true then 40 :: (items false l ++ [41]) else a.data.toList
def items : Bool → List S52 → List UInt8
  | _, [] => []
  | b, x :: r => (if b = true then [32] else []) ++ txt x ++ items true r
end
mutual
def toks : S52 → List (Int × List UInt8)
  | ⟨a, l, is, _⟩ => if is = true then (1, [40]) :: (toksL l ++ [(2, [41])]) else [(3, a.data.toList)]
def toksL : List S52 → List (Int × List UInt8)
  | [] => []
  | x :: r => toks x ++ toksL r
end
def txtAll : List S52 → List UInt8
  | [] => []
  | x :: r => txt x ++ 10 :: txtAll r
mutual
def era : S52 → S52
  | ⟨a, l, is, _⟩ => ⟨a, eraL l, is, z25⟩
def eraL : List S52 → List S52
  | [] => []
  | x :: r => era x :: eraL r
end
theorem items_snoc : ∀ (l : List S52) (b : Bool) (x : S52), items b (l ++ [x]) = items b l ++ (if b = true ∨ l ≠ [] then [32] else []) ++ txt x
  | [], b, x => by simp [items]
  | y :: l, b, x => by
    rw [List.cons_append, items, items, items_snoc l true x]
    simp
theorem toksL_append : ∀ (a b : List S52), toksL (a ++ b) = toksL a ++ toksL b
  | [], b => by simp [toksL]
  | x :: a, b => by rw [List.cons_append, toksL, toksL, toksL_append a b, List.append_assoc]
theorem txtAll_append : ∀ (a b : List S52), txtAll (a ++ b) = txtAll a ++ txtAll b
  | [], b => by simp [txtAll]
  | x :: a, b => by rw [List.cons_append, txtAll, txtAll, txtAll_append a b]; simp
theorem eraL_append : ∀ (a b : List S52), eraL (a ++ b) = eraL a ++ eraL b
  | [], b => by simp [eraL]
  | x :: a, b => by rw [List.cons_append, eraL, eraL, eraL_append a b]; simp
theorem eraL_map : ∀ l : List S52, eraL l = l.map era
  | [] => rfl
  | x :: l => by rw [eraL, eraL_map l]; rfl
mutual
theorem txt_era : ∀ x : S52, txt (era x) = txt x
  | ⟨a, l, is, p⟩ => by
    rw [era, txt, txt, items_era false l]
theorem items_era : ∀ (b : Bool) (l : List S52), items b (eraL l) = items b l
  | b, [] => by simp [eraL]
  | b, x :: r => by rw [eraL, items, items, txt_era x, items_era true r]
end
theorem txtAll_era : ∀ l : List S52, txtAll (eraL l) = txtAll l
  | [] => rfl
  | x :: l => by rw [eraL, txtAll, txtAll, txt_era, txtAll_era l]

/-! ### The machine and what it was given -/
def kt (t : S39) : Int × List UInt8 := (t.f0, t.f1.data.toList)
def flat (tops : List S52) : Sk → List (Int × List UInt8)
  | [] => toksL tops
  | (_, xs) :: r => flat tops r ++ (1, [40]) :: toksL xs
theorem flat_mput (tops : List S52) (st : Sk) (x : S52) : flat (mput tops st x).1 (mput tops st x).2 = flat tops st ++ toks x := by
  cases st with
  | nil => simp [mput, flat, toksL_append, toksL]
  | cons q r => obtain ⟨p, xs⟩ := q; simp [mput, flat, toksL_append, toksL]
theorem flat_mstep {t : S39} {tops : List S52} {st : Sk} {s : List S52 × Sk} (ht : TkOk t.f0 t.f1.data.toList) (h : mstep t tops st = .ok s) : flat s.1 s.2 = flat tops st ++ [kt t] := by
  obtain ⟨k, x, p⟩ := t
  unfold mstep at h
  rcases ht with ⟨h1, h2⟩ | ⟨h1, h2⟩ | ⟨h1, h2⟩
  · obtain rfl : k = 1 := h1
    rw [if_pos rfl] at h
    split at h
    · cases h
    · injection h with h
      subst h
      simp only [flat, toksL, kt]
      rw [h2]
  · obtain rfl : k = 2 := h1
    rw [if_neg (fun e => absurd (a := (2 : Int) = 1) e (by decide)), if_pos rfl] at h
    cases st with
    | nil => cases h
    | cons q r =>
      obtain ⟨pp, xs⟩ := q
      injection h with h
      subst h
      rw [flat_mput]
      simp only [flat, toks, kt]
      rw [h2]
      simp
  · obtain rfl : k = 3 := h1
    rw [if_neg (fun e => absurd (a := (3 : Int) = 1) e (by decide)), if_neg (fun e => absurd (a := (3 : Int) = 2) e (by decide))] at h
    injection h with h
    subst h
    rw [flat_mput]
    simp [toks, kt]
theorem mrun_flat : ∀ (L : List S39) (tops : List S52) (st : Sk) (xs : List S52), (∀ t ∈ L, TkOk t.f0 t.f1.data.toList) → mrun L tops st = .ok xs → toksL xs = flat tops st ++ L.map kt := by
  intro L
  induction L with
  | nil =>
    intro tops st xs _ h
    cases st with
    | nil => injection h with h; subst h; simp [flat]
    | cons q r => obtain ⟨p, ys⟩ := q; cases h
  | cons t L ih =>
    intro tops st xs hL h
    rw [mrun] at h
    cases hs : mstep t tops st with
    | error e => rw [hs] at h; cases h
    | ok s =>
      rw [hs] at h
      rw [ih s.1 s.2 xs (fun u hu => hL u (by simp [hu])) h, flat_mstep (hL t (by simp)) hs]
      simp
/-! ### Without places -/
def et (t : S39) : S39 := ⟨t.f0, t.f1, z25⟩
def eraS (st : Sk) : Sk := st.map fun q => (z25, eraL q.2)
def eraR : Res → Res
  | .ok xs => .ok (eraL xs)
  | .bad _ e => .bad z25 e
theorem mput_era (tops : List S52) (st : Sk) (x : S52) : mput (eraL tops) (eraS st) (era x) = (eraL (mput tops st x).1, eraS (mput tops st x).2) := by
  cases st with
  | nil => simp [mput, eraS, eraL_append, eraL]
  | cons q r => obtain ⟨p, xs⟩ := q; simp [mput, eraS, eraL_append, eraL]
theorem mstep_one {t : S39} (h : t.f0 = 1) {tops : List S52} {st : Sk} : mstep t tops st = if st.length = 64 then .error 8 else .ok (tops, (t.f2, []) :: st) := by unfold mstep; rw [if_pos h]
theorem mstep_two {t : S39} (h1 : t.f0 ≠ 1) (h : t.f0 = 2) {tops : List S52} {st : Sk} : mstep t tops st = match st with
    | [] => .error 4
    | (p, xs) :: r => .ok (mput tops r ⟨⟨#[]⟩, xs, true, p⟩) := by unfold mstep; rw [if_neg h1, if_pos h]; cases st <;> rfl
theorem mstep_three {t : S39} (h1 : t.f0 ≠ 1) (h : t.f0 ≠ 2) {tops : List S52} {st : Sk} : mstep t tops st = .ok (mput tops st ⟨t.f1, [], false, t.f2⟩) := by unfold mstep; rw [if_neg h1, if_neg h]
theorem mstep_era (t : S39) (tops : List S52) (st : Sk) : mstep (et t) (eraL tops) (eraS st) = (mstep t tops st).map fun s => (eraL s.1, eraS s.2) := by
  have hl : (eraS st).length = st.length := by simp [eraS]
  by_cases h1 : t.f0 = 1
  · rw [mstep_one (t := et t) h1, mstep_one h1, hl]
    by_cases h6 : st.length = 64
    · rw [if_pos h6, if_pos h6]; rfl
    · rw [if_neg h6, if_neg h6]; rfl
  · by_cases h2 : t.f0 = 2
    · rw [mstep_two (t := et t) h1 h2, mstep_two h1 h2]
      cases st with
      | nil => rfl
      | cons q r =>
        obtain ⟨pp, xs⟩ := q
        show Except.ok (mput (eraL tops) (eraS r) ⟨⟨#[]⟩, eraL xs, true, z25⟩) = _
        rw [show (⟨⟨#[]⟩, eraL xs, true, z25⟩ : S52) = era ⟨⟨#[]⟩, xs, true, pp⟩ by rw [era], mput_era]
        rfl
    · rw [mstep_three (t := et t) h1 h2, mstep_three h1 h2]
      rw [show (⟨(et t).f1, [], false, (et t).f2⟩ : S52) = era ⟨t.f1, [], false, t.f2⟩ by rw [era, eraL]; rfl, mput_era]
      rfl
theorem mrun_era : ∀ (L : List S39) (tops : List S52) (st : Sk), mrun (L.map et) (eraL tops) (eraS st) = eraR (mrun L tops st) := by
  intro L
  induction L with
  | nil =>
    intro tops st
    cases st with
    | nil => rfl
    | cons q r => obtain ⟨p, ys⟩ := q; rfl
  | cons t L ih =>
    intro tops st
    rw [List.map_cons, mrun, mrun, mstep_era]
    cases mstep t tops st with
    | error e => rfl
    | ok s => exact ih s.1 s.2
theorem et_kt {t u : S39} (h : kt t = kt u) : et t = et u := by
  obtain ⟨k, ⟨⟨x⟩⟩, p⟩ := t
  obtain ⟨k2, ⟨⟨y⟩⟩, p2⟩ := u
  simp only [kt, Prod.mk.injEq] at h
  obtain ⟨rfl, rfl⟩ := h
  rfl
theorem map_et_kt : ∀ {L M : List S39}, L.map kt = M.map kt → L.map et = M.map et
  | [], [], _ => rfl
  | [], _ :: _, h => by cases h
  | _ :: _, [], h => by cases h
  | t :: L, u :: M, h => by
    rw [List.map_cons, List.map_cons] at h
    injection h with h1 h2
    rw [List.map_cons, List.map_cons, et_kt h1, map_et_kt h2]
/-- The same tokens at other places: the same lists, but for places. -/
theorem mrun_like {L M : List S39} {xs : List S52} (h : L.map kt = M.map kt) (hr : mrun L [] [] = .ok xs) : ∃ ys, mrun M [] [] = .ok ys ∧ eraL ys = eraL xs := by
  have h1 := mrun_era L [] []
  have h2 := mrun_era M [] []
  rw [map_et_kt h] at h1
  have h3 := h2.symm.trans h1
  rw [hr] at h3
  cases hm : mrun M [] [] with
  | ok ys => rw [hm] at h3; exact ⟨ys, rfl, by injection h3⟩
  | bad p e => rw [hm] at h3; cases h3
/-! ### What was complete before -/
def preR (A : List S52) : Res → Res
  | .ok xs => .ok (A ++ xs)
  | .bad p e => .bad p e
theorem mput_pre (A tops : List S52) (st : Sk) (x : S52) : mput (A ++ tops) st x = (A ++ (mput tops st x).1, (mput tops st x).2) ∨ st ≠ [] ∧ mput (A ++ tops) st x = (A ++ (mput tops st x).1, (mput tops st x).2) := by
  cases st with
  | nil => left; simp [mput]
  | cons q r => obtain ⟨p, xs⟩ := q; left; simp [mput]
theorem mstep_pre (t : S39) (A tops : List S52) (st : Sk) : mstep t (A ++ tops) st = (mstep t tops st).map fun s => (A ++ s.1, s.2) := by
  have hp : ∀ (st : Sk) (x : S52), mput (A ++ tops) st x = (A ++ (mput tops st x).1, (mput tops st x).2) := fun st x => (mput_pre A tops st x).elim id (·.2)
  unfold mstep
  by_cases h1 : t.f0 = 1
  · rw [if_pos h1, if_pos h1]
    by_cases h6 : st.length = 64
    · rw [if_pos h6, if_pos h6]; rfl
    · rw [if_neg h6, if_neg h6]; rfl
  · rw [if_neg h1, if_neg h1]
    by_cases h2 : t.f0 = 2
    · rw [if_pos h2, if_pos h2]
      cases st with
      | nil => rfl
      | cons q r => obtain ⟨pp, xs⟩ := q; show Except.ok (mput (A ++ tops) r _) = _; rw [hp]; rfl
    · rw [if_neg h2, if_neg h2, hp]; rfl
theorem mrun_pre (A : List S52) : ∀ (L : List S39) (tops : List S52) (st : Sk), mrun L (A ++ tops) st = preR A (mrun L tops st) := by
  intro L
  induction L with
  | nil =>
    intro tops st
    cases st with
    | nil => rfl
    | cons q r => obtain ⟨p, ys⟩ := q; rfl
  | cons t L ih =>
    intro tops st
    rw [mrun, mrun, mstep_pre]
    cases mstep t tops st with
    | error e => rfl
    | ok s => exact ih s.1 s.2
theorem mrun_join : ∀ (L M : List S39) (tops : List S52) (st : Sk) (xs : List S52), mrun L tops st = .ok xs → mrun (L ++ M) tops st = mrun M xs [] := by
  intro L
  induction L with
  | nil =>
    intro M tops st xs h
    cases st with
    | nil => injection h with h; subst h; rfl
    | cons q r => obtain ⟨p, ys⟩ := q; cases h
  | cons t L ih =>
    intro M tops st xs h
    rw [mrun] at h
    rw [List.cons_append, mrun]
    cases hs : mstep t tops st with
    | error e => rw [hs] at h; cases h
    | ok s => rw [hs] at h; exact ih M s.1 s.2 xs h

/-! ### Read back -/
def ktk (t : Tk) : Int × List UInt8 := (t.kind, t.text)
def Stops (rest : List UInt8) : Prop := ∀ c r, rest = c :: r → plain c = false
def AtomsOk (l : List (Int × List UInt8)) : Prop := ∀ k ∈ l, k.1 = 3 → AtomOk k.2
theorem plain_facts {c : UInt8} (h : plain c = true) : c ≠ 59 ∧ white c = false ∧ c ≠ 40 ∧ c ≠ 41 ∧ c ≠ 10 := by
  unfold plain at h
  simp only [Bool.and_eq_true, decide_eq_true_eq, bne_iff_ne, ne_eq] at h
  obtain ⟨⟨⟨⟨h1, h2⟩, h3⟩, h4⟩, h5⟩ := h
  refine ⟨h5, ?_, h3, h4, ?_⟩
  · unfold white
    simp only [Bool.or_eq_false_iff, beq_eq_false_iff_ne, ne_eq]
    refine ⟨⟨?_, ?_⟩, ?_⟩ <;> (rintro rfl; exact absurd h1 (by decide))
  · rintro rfl; exact absurd h1 (by decide)
theorem takeWhile_app : ∀ (x rest : List UInt8), (∀ c ∈ x, plain c = true) → Stops rest → (x ++ rest).takeWhile plain = x
  | [], [], _, _ => rfl
  | [], c :: r, _, h => by rw [List.nil_append, List.takeWhile_cons, h c r rfl]; rfl
  | a :: x, rest, hx, h => by
    rw [List.cons_append, List.takeWhile_cons, hx a (by simp), if_pos rfl, takeWhile_app x rest (fun c hc => hx c (by simp [hc])) h]
theorem scan_atom_app (x rest : List UInt8) (i : Nat) (hx : AtomOk x) (h : Stops rest) : scan (x ++ rest) i = (scan rest (i + x.length)).map (⟨3, x, i + 1⟩ :: ·) := by
  obtain ⟨h0, h1, h2⟩ := hx
  have ht := takeWhile_app x rest h2 h
  cases x with
  | nil => exact absurd rfl h0
  | cons c t =>
    obtain ⟨p1, p2, p3, p4, _⟩ := plain_facts (h2 c (by simp))
    rw [List.cons_append] at ht ⊢
    rw [scan_atom c (t ++ rest) i p1 p2 p3 p4 (by rw [ht]; simp at h1 ⊢; omega), ht]
    congr 1
    rw [← List.cons_append, List.drop_left' rfl]
def Reads (x rest : List UInt8) (ks : List (Int × List UInt8)) : Prop := ∀ (i : Nat) (us : List Tk), scan rest (i + x.length) = .ok us → ∃ ts, scan (x ++ rest) i = .ok (ts ++ us) ∧ ts.map ktk = ks
theorem Reads.nil (rest : List UInt8) : Reads [] rest [] := fun i us h => ⟨[], by simpa using h, rfl⟩
theorem Reads.append {x y rest : List UInt8} {ks ls : List (Int × List UInt8)} (h : Reads x (y ++ rest) ks) (k : Reads y rest ls) : Reads (x ++ y) rest (ks ++ ls) := by
  intro i us hu
  obtain ⟨t2, h2, e2⟩ := k (i + x.length) us (by rw [List.length_append] at hu; rwa [Nat.add_assoc])
  obtain ⟨t1, h1, e1⟩ := h i (t2 ++ us) h2
  exact ⟨t1 ++ t2, by rw [List.append_assoc, List.append_assoc]; exact h1, by rw [List.map_append, e1, e2]⟩
theorem Reads.blank (rest : List UInt8) : Reads [32] rest [] := fun i us h => ⟨[], by
  show scan (32 :: rest) i = _
  rw [scan_white 32 rest i (by decide) (by decide)]; exact h, rfl⟩
theorem Reads.open (rest : List UInt8) : Reads [40] rest [(1, [40])] := fun i us h => ⟨[⟨1, [40], i + 1⟩], by
  have h' : scan rest (i + 1) = .ok us := h
  show scan (40 :: rest) i = _
  rw [scan_open 40 rest i rfl, h']; rfl, rfl⟩
theorem Reads.close (rest : List UInt8) : Reads [41] rest [(2, [41])] := fun i us h => ⟨[⟨2, [41], i + 1⟩], by
  have h' : scan rest (i + 1) = .ok us := h
  show scan (41 :: rest) i = _
  rw [scan_close 41 rest i rfl, h']; rfl, rfl⟩
theorem Reads.atom {x rest : List UInt8} (hx : AtomOk x) (h : Stops rest) : Reads x rest [(3, x)] := fun i us hu => ⟨[⟨3, x, i + 1⟩], by rw [scan_atom_app x rest i hx h, hu]; rfl, rfl⟩
theorem stops_items (b : Bool) (l : List S52) (rest : List UInt8) (h : Stops rest) (hb : b = true) : Stops (items b l ++ rest) := by
  cases l with
  | nil => rw [items]; exact h
  | cons x r =>
    subst hb
    rw [items]
    intro c r' e
    injection e with e1 _
    rw [← e1]; decide
mutual
theorem reads_txt : ∀ (x : S52) (rest : List UInt8), AtomsOk (toks x) → Stops rest → Reads (txt x) rest (toks x)
  | ⟨a, l, true, p⟩, rest, ha, hs => by
    have h1 := reads_items false l (41 :: rest) (fun k hk h3 => ha k (by rw [toks, if_pos rfl]; simp [hk]) h3) (fun c r e => by injection e with e1 _; rw [← e1]; decide)
    have h2 := Reads.append (Reads.append (Reads.open _) h1) (Reads.close rest)
    rw [txt, toks, if_pos rfl, if_pos rfl]
    simpa using h2
  | ⟨a, l, false, p⟩, rest, ha, hs => by
    have ha' := ha (3, a.data.toList) (by rw [toks, if_neg (by simp)]; simp) rfl
    rw [txt, toks, if_neg (by simp), if_neg (by simp)]
    exact Reads.atom ha' hs
theorem reads_items : ∀ (b : Bool) (l : List S52) (rest : List UInt8), AtomsOk (toksL l) → Stops rest → Reads (items b l) rest (toksL l)
  | b, [], rest, ha, hs => by rw [items, toksL]; exact Reads.nil rest
  | b, x :: r, rest, ha, hs => by
    rw [toksL] at ha ⊢
    have h1 := reads_txt x (items true r ++ rest) (fun k hk => ha k (by simp [hk])) (stops_items true r rest hs rfl)
    have h2 := reads_items true r rest (fun k hk => ha k (by simp [hk])) hs
    have h3 := Reads.append h1 h2
    rw [items]
    cases b with
    | true => simpa using Reads.append (Reads.blank _) h3
    | false => simpa using h3
end
theorem scan_txt (x : S52) (ha : AtomsOk (toks x)) : ∃ ts, scan (txt x) 0 = .ok ts ∧ ts.map ktk = toks x := by
  obtain ⟨ts, h, e⟩ := reads_txt x [] ha (fun c r e => by cases e) 0 [] (scan_nil _)
  exact ⟨ts, by simpa using h, e⟩
/-! ### No line feed -/
mutual
theorem txt_line : ∀ (x : S52), AtomsOk (toks x) → ∀ c ∈ txt x, c ≠ 10
  | ⟨a, l, true, p⟩, ha, c, hc => by
    rw [txt, if_pos rfl] at hc
    rcases List.mem_cons.1 hc with rfl | hc
    · decide
    · rcases List.mem_append.1 hc with hc | hc
      · exact items_line false l (fun k hk h3 => ha k (by rw [toks, if_pos rfl]; simp [hk]) h3) c hc
      · rw [List.mem_singleton.1 hc]; decide
  | ⟨a, l, false, p⟩, ha, c, hc => by
    rw [txt, if_neg (by simp)] at hc
    have ha' := ha (3, a.data.toList) (by rw [toks, if_neg (by simp)]; simp) rfl
    exact (plain_facts (ha'.2.2 c hc)).2.2.2.2
theorem items_line : ∀ (b : Bool) (l : List S52), AtomsOk (toksL l) → ∀ c ∈ items b l, c ≠ 10
  | b, [], ha, c, hc => by rw [items] at hc; cases hc
  | b, x :: r, ha, c, hc => by
    rw [toksL] at ha
    rw [items] at hc
    rcases List.mem_append.1 hc with hc | hc
    · rcases List.mem_append.1 hc with hc | hc
      · split at hc
        · rw [List.mem_singleton.1 hc]; decide
        · cases hc
      · exact txt_line x (fun k hk => ha k (by simp [hk])) c hc
    · exact items_line true r (fun k hk => ha k (by simp [hk])) c hc
end
theorem lexAll_txt : ∀ (l : List S52) (n : Nat), AtomsOk (toksL l) → ∃ ts, lexAll (cut (txtAll l)) n = .ok ts ∧ (ts.map fun p => ktk p.2) = toksL l
  | [], n, _ => ⟨[], by simp [txtAll, cut, lexAll, scan_nil, Except.map], rfl⟩
  | x :: l, n, ha => by
    rw [toksL] at ha
    obtain ⟨ts, h1, e1⟩ := scan_txt x (fun k hk => ha k (by simp [hk]))
    obtain ⟨us, h2, e2⟩ := lexAll_txt l (n + 1) (fun k hk => ha k (by simp [hk]))
    rw [txtAll, cut_join, cut_line _ (txt_line x (fun k hk => ha k (by simp [hk])))]
    refine ⟨(ts.map fun t => (n, t)) ++ us, ?_, ?_⟩
    · show lexAll (txt x :: cut (txtAll l)) n = _
      rw [lexAll, h1]
      show (lexAll (cut (txtAll l)) (n + 1)).map _ = _
      rw [h2]; rfl
    · rw [toksL, List.map_append, e2, ← e1]
      simp
/-! ### How long -/
def tl (l : List (Int × List UInt8)) : Nat := (l.map fun k => k.2.length + 1).sum
theorem tl_append (a b : List (Int × List UInt8)) : tl (a ++ b) = tl a + tl b := by simp [tl]
mutual
theorem txt_len : ∀ (x : S52), (txt x).length + 1 ≤ tl (toks x)
  | ⟨a, l, true, p⟩ => by
    have := items_len false l
    rw [txt, toks, if_pos rfl, if_pos rfl, show ∀ k (r : List (Int × List UInt8)), k :: r = [k] ++ r from fun _ _ => rfl, tl_append, tl_append]
    simp [tl] at this ⊢
    omega
  | ⟨a, l, false, p⟩ => by
    rw [txt, toks, if_neg (by simp), if_neg (by simp)]
    simp [tl]
theorem items_len : ∀ (b : Bool) (l : List S52), (items b l).length ≤ tl (toksL l)
  | b, [] => by simp [items]
  | b, x :: r => by
    have h1 := txt_len x
    have h2 := items_len true r
    rw [items, toksL, tl_append, List.length_append, List.length_append]
    split <;> simp <;> omega
end
theorem txtAll_len : ∀ l : List S52, (txtAll l).length ≤ tl (toksL l)
  | [] => by simp [txtAll]
  | x :: l => by
    have h1 := txt_len x
    have h2 := txtAll_len l
    rw [txtAll, toksL, tl_append]
    simp; omega
end Go.Proofs.YtlggmdlbhndacaaDoor.Lx.SexpP

/- strings.Builder's writer walked, after the shelf's contracts (Derived/Shelf/Strings/Builder1, BuilderK). -/
namespace Go.Proofs.YtlggmdlbhndacaaDoor.Lx.Build
open Go.RowKit Go.Proofs.YtlggmdlbhndacaaDoorW.PrintWords

set_option maxHeartbeats 1000000 in
set_option maxRecDepth 100000 in
theorem copyCheck_used (b : Nat) (w : World) (h0 : w.cell? ⟨b, 0, none⟩ = some (.pointer (some ⟨b, 0, none⟩))) :
    Calls Tryd.prog 35 #[.pointer (some ⟨b, 0, none⟩)] w fun e w' => e = .returned (.tuple #[]) ∧ w' = w := by
  obtain ⟨j, hj, _⟩ := Option.map_eq_some_iff.1 Tryd.Builder_Extra_169.sizeBuilder
  go_enter Tryd.func35, Tryd.ntmps35
  go_wp2
  rw [Lib.run_neq_ptr_same w _ Tryd.underlying62 hj]
  go_wp2
  go_end0
  exact ⟨rfl, rfl⟩
set_option maxHeartbeats 1000000 in
set_option maxRecDepth 100000 in
theorem copyCheck_fresh (b : Nat) (w : World) (h0 : w.cell? ⟨b, 0, none⟩ = some (.pointer none)) (hsh : w.shape? b = some (64, 2)) (hfz : w.frozen? ⟨b, 0, none⟩ = false) :
    Calls Tryd.prog 35 #[.pointer (some ⟨b, 0, none⟩)] w fun e w' => e = .returned (.tuple #[]) ∧ w' = w.setCell ⟨b, 0, none⟩ (.pointer (some ⟨b, 0, none⟩)) := by
  obtain ⟨j, hj, hjs⟩ := Option.map_eq_some_iff.1 Tryd.Builder_Extra_169.sizeBuilder
  go_enter Tryd.func35, Tryd.ntmps35
  go_wp2
  rw [Lib.run_to_unsafe w ⟨b, 0, none⟩ Tryd.underlying62 Tryd.underlying83 hj (by rw [hjs]; decide) hsh (Nat.zero_lt_succ 1)]
  simp only [Result.andThen]
  rw [Oper.upon_value]
  go_wp2
  rw [run_callFunc_extern Tryd.func39 (by kernel_rfl) (by kernel_rfl) (by kernel_rfl) (e := Extern.AbiNoEscape.same) (by kernel_rfl)]
  rw [Lib.run_noEscape]
  simp only [Result.andThen]
  rw [Oper.upon_value]
  go_wp2
  rw [Lib.run_from_unsafe w ⟨b, 0, none⟩ Tryd.underlying83 Tryd.underlying62 hj hsh Tryd.Builder_Extra_169.liesBuilder]
  simp only [Result.andThen]
  rw [Oper.upon_value]
  go_wp2
  go_end0
  exact ⟨rfl, rfl⟩
theorem copyCheck_k (B b : Nat) (bs : List Value) (w : World) (h : Lib.IsBuilderF 64 5 B b bs w) :
    Calls Tryd.prog 35 #[.pointer (some ⟨b, 0, none⟩)] w fun e w' => e = .returned (.tuple #[]) ∧ (Lib.BuilderAtF 64 5 B b (.pointer (some ⟨b, 0, none⟩)) bs w' ∧ Below B w w' ∧ Lib.OthersKept 5 (some b) w w') := by
  rcases h with h | h
  · refine (copyCheck_fresh b w h.cell0 h.shape h.frozen0).mono ?_
    rintro e w' ⟨rfl, rfl⟩
    exact ⟨rfl, h.used _, (Below.refl B w).setCell (p := ⟨b, 0, none⟩) h.1 _, (Lib.OthersKept.refl _ _ w).setCell ⟨b, 0, none⟩ rfl _⟩
  · refine (copyCheck_used b w h.cell0).mono ?_
    rintro e w' ⟨rfl, rfl⟩
    exact ⟨rfl, h, Below.refl B _, Lib.OthersKept.refl _ _ _⟩
set_option maxHeartbeats 2000000 in
set_option maxRecDepth 100000 in
theorem writeString_k (B b : Nat) (bs : List Value) (s : ByteArray) (w : World) (h : Lib.IsBuilderF 64 5 B b bs w) (hlen : bs.length + s.size ≤ 140737488355328) (hBw : B ≤ w.heap.size) :
    Calls Tryd.prog 28 #[.pointer (some ⟨b, 0, none⟩), .string s] w fun e w' => e = .returned (.tuple #[.int .i64 s.size, .nilIface]) ∧ (Lib.BuilderAtF 64 5 B b (.pointer (some ⟨b, 0, none⟩)) (bs ++ Lib.strCells s) w' ∧ Below B w w' ∧ Lib.OthersKept 5 (some b) w w') := by
  obtain ⟨i0, hi, hz0, hz1, hz2⟩ := info_parts Tryd.Builder_Extra_169.infoByte
  go_enter Tryd.func28, Tryd.ntmps28
  go_wp2_with (go_at_call 35; refine (copyCheck_k B b bs _ h).mono ?_)
  rintro e w1 ⟨rfl, h1, hb1, hk1⟩
  obtain ⟨hB, v, hbk, hown, hne⟩ := h1
  have c0 : w1.cell? ⟨b, 0, none⟩ = some (.pointer (some ⟨b, 0, none⟩)) := by rw [Lib.cell_of_heap hbk]; rfl
  have c1 : w1.cell? ⟨b, 1, none⟩ = some v := by rw [Lib.cell_of_heap hbk]; rfl
  go_wp2_with (at_builtin; refine Lib.wpList_append_own_stringF _ rfl _ _ 44 9 rfl B 5 i0 Tryd.underlying44 Tryd.underlying9 hi hz0 hz1 hz2 _ _ _ rfl hown s rfl ?c3 ?c4 ?c5 ?_)
  case c3 => unfold maxLen; omega
  case c4 => omega
  case c5 => have := hb1.size; omega
  intro v' w2 hown' hgrow _
  have hlt : b < w1.heap.size := blk_lt hbk
  have hb2 : w2.heap[b]? = some (.cells #[.pointer (some ⟨b, 0, none⟩), v] 64 (0, 0)) := by
    rw [hgrow.block b hlt (fun e => hne e.symm)]
    exact hbk
  have d0 : w2.cell? ⟨b, 0, none⟩ = some (.pointer (some ⟨b, 0, none⟩)) := by rw [Lib.cell_of_heap hb2]; rfl
  have d1 : w2.cell? ⟨b, 1, none⟩ = some v := by rw [Lib.cell_of_heap hb2]; rfl
  have f1 : w2.frozen? ⟨b, 1, none⟩ = false := Lib.frozen_of_heap hb2 1
  obtain ⟨ao, n', cap, rfl⟩ : ∃ ao n' cap, v' = .slice ao n' cap := by
    rcases hown'.2 with ⟨hv, _⟩ | ⟨g, cap, cur, fz, hv, _⟩
    · exact ⟨_, _, _, hv⟩
    · exact ⟨_, _, _, hv⟩
  go_wp2
  go_ret2
  refine ⟨rfl, ?_, ?_, (hk1.grown hgrow (Lib.ownsRowF_kind hown)).setCell ⟨b, 1, none⟩ rfl _⟩
  · exact Lib.BuilderAtF.put (T := 64) (e := 5) hB hb2 (bs' := bs ++ Lib.strCells s) (by simpa [Lib.strCells_length] using hown') (by decide)
  · exact (hb1.grown hgrow (by have := hb1.size; omega) (fun k hk => (hown.lt k hk).1)).setCell (p := ⟨b, 1, none⟩) hB _
/-- WriteString, over lists of bytes. -/
structure TellsWrite (B b : Nat) (l : List UInt8) (n : Int) (w : World) (e : Ending) (w' : World) : Prop where mk ::
  (out : e = .returned (.tuple #[.int .i64 n, .nilIface]) ∧ Lib.IsBuilderF 64 5 B b (Lib.byteCells l) w' ∧ Below B w w' ∧ Lib.OthersKept 5 (some b) w w')
theorem write_calls (B b : Nat) (l : List UInt8) (s : ByteArray) (w : World) (h : Lib.IsBuilderF 64 5 B b (Lib.byteCells l) w) (hlen : l.length + s.size ≤ 140737488355328) (hBw : B ≤ w.heap.size) :
    Calls Tryd.prog 28 #[.pointer (some ⟨b, 0, none⟩), .string s] w (TellsWrite B b (l ++ s.data.toList) s.size w) := by
  refine (writeString_k B b _ s w h (by rw [Lib.byteCells_length]; exact hlen) hBw).mono fun e w' ⟨he, h1, h2, h3⟩ => ⟨he, .inr ?_, h2, h3⟩
  have : Lib.byteCells (l ++ s.data.toList) = Lib.byteCells l ++ Lib.strCells s := by simp [Lib.byteCells, Lib.strCells]
  rw [this]
  exact h1
theorem builder_new (w : World) : Lib.IsBuilderF 64 5 w.heap.size w.heap.size (Lib.byteCells []) (w.alloc (.cells #[.pointer none, .slice none 0 0] 64)) :=
  .inl ⟨Nat.le_refl _, _, blk_new w _, ⟨by simp [Lib.byteCells], .inl ⟨rfl, rfl⟩⟩, by simp [Value.ownBlock]⟩
theorem builder_lt {B b : Nat} {bs : List Value} {w : World} (h : Lib.IsBuilderF 64 5 B b bs w) : b < w.heap.size := h.elim (·.lt) (·.lt)
/-- A box of cells that are no bytes stands behind a write. -/
theorem others_blk {b g : Nat} {t : TypeId} {cs : Array Value} {w w' : World} (h : Lib.OthersKept 5 (some b) w w') (hg : w.heap[g]? = some (.cells cs t (0, 0))) (ht : t ≠ 5) (hb : g ≠ b) : w'.heap[g]? = some (.cells cs t (0, 0)) :=
  h g _ hg (fun e => hb (by injection e)) (fun c fz e => by injection e with _ e2 _; exact ht e2)
end Go.Proofs.YtlggmdlbhndacaaDoor.Lx.Build

/- sexp.text and sexp.Text walked. -/
namespace Go.Proofs.YtlggmdlbhndacaaDoor.Lx.Text
open Go.RowKit Go.Proofs.YtlggmdlbhndacaaDoorW.PrintWords Go.Proofs.YtlggmdlbhndacaaDoorW.PrintLast Go.Proofs.YtlggmdlbhndacaaDoorW.PrintMore LexV Mach SexpP Build

structure TellsText (B b : Nat) (l : List UInt8) (w : World) (e : Ending) (w' : World) : Prop where mk ::
  (out : e = .returned (.tuple #[]) ∧ Lib.IsBuilderF 64 5 B b (Lib.byteCells l) w' ∧ Below B w w')
theorem items_gt : ∀ (l : List S52), l.length ≤ (items true l).length
  | [] => by simp
  | x :: r => by
    have h := items_gt r
    rw [items]; simp [List.length_append] at h ⊢; omega
theorem items_ge : ∀ (b : Bool) (l : List S52), l.length ≤ (items b l).length + 1
  | b, [] => by simp
  | b, [x] => by simp
  | b, x :: y :: r => by
    have h := items_ge true (y :: r)
    rw [items, List.length_append]
    have h2 : 1 ≤ (items true (y :: r)).length := by have := items_gt (y :: r); simp only [List.length_cons] at this; omega
    have h3 := items_gt (y :: r)
    simp only [List.length_cons] at h h3 ⊢
    omega
theorem rd52 (L : List S52) (k : Nat) (h : k < L.length) : rd_T52 L (k : Int) = L[k] := by
  unfold rd_T52
  rw [show ((k : Int)).toNat = k from rfl, List.getD_eq_getElem?_getD, List.getElem?_eq_getElem h]; rfl
theorem items_drop (xs : List S52) (k : Nat) (h : k < xs.length) : items (decide (0 < k)) (xs.drop k) = (if 0 < k then [32] else []) ++ txt xs[k] ++ items true (xs.drop (k + 1)) := by
  rw [List.drop_eq_getElem_cons h, items]
  simp
theorem cell_up {W0 wr : World} (hb : Below W0.heap.size W0 wr) {p : Addr} {v : Value} (h : W0.cell? p = some v) : wr.cell? p = some v := (hb.cell (World.block_lt_of_cell? _ _ h)).trans h
/-- What text answers of a thing that lies in the elder world. -/
def TextSays (W0 : World) (b : Nat) (s : S52) : Prop := ∀ (A : Option Addr) (c : Nat), k52.C W0 A s.f1.length s.f1 → ∀ (w : World) (l : List UInt8), Below W0.heap.size W0 w → Lib.IsBuilderF 64 5 W0.heap.size b (Lib.byteCells l) w → l.length + (txt s).length ≤ 140737488355328 →
  Calls Tryd.prog 27 #[.pointer (some ⟨b, 0, none⟩), .agg #[.string s.f0, .slice A s.f1.length c, .bool s.f2, .int .i64 s.f3.f0, .int .i64 s.f3.f1]] w (TellsText W0.heap.size b (l ++ txt s) w)
set_option maxRecDepth 100000 in
set_option maxHeartbeats 4000000 in
theorem text_atom (W0 : World) (b : Nat) (s : S52) (hs : s.f2 = false) : TextSays W0 b s := by
  intro A c hC w l hb hB hl
  obtain ⟨a, xs, is, p⟩ := s
  obtain rfl : is = false := hs
  have et : txt ⟨a, xs, false, p⟩ = a.data.toList := by rw [txt, if_neg (by simp)]
  rw [et] at hl ⊢
  have hsz : a.data.toList.length = a.size := rfl
  rw [hsz] at hl
  have hbl := builder_lt hB
  have hc := Lib.hid (fun (o : Obj) => write_calls W0.heap.size b l a (w.alloc o) (hB.alloc o) hl (by have := hb.size; simp; omega))
  have HB := Lib.hid hB
  have Hb := Lib.hid hb
  have hS := hb.size
  clear hC hB hb et hsz hl
  go_enter Tryd.func27, Tryd.ntmps27
  go_wp2_with (go_at_call 28; refine (hc.out _).mono ?_; rintro e w1 ⟨rfl, h1, h2, h3⟩; replace h1 := Lib.hid h1; replace h2 := Lib.hid h2; clear h3)
  refine bodyPost_ret (results_none rfl _ _ _) rfl ?_
  exact ⟨rfl, h1.out, ((Below.refl _ w).alloc hS _).trans h2.out⟩
set_option maxRecDepth 100000 in
set_option maxHeartbeats 4000000 in
theorem text_list (W0 : World) (b : Nat) (s : S52) (hs : s.f2 = true) (ih : ∀ x ∈ s.f1, TextSays W0 b x) : TextSays W0 b s := by
  intro A c hC w l hb hB hl
  obtain ⟨a, xs, is, p⟩ := s
  obtain rfl : is = true := hs
  have et : txt ⟨a, xs, true, p⟩ = 40 :: (items false xs ++ [41]) := by rw [txt, if_pos rfl]
  obtain ⟨T, hT⟩ : ∃ T, T = l ++ txt ⟨a, xs, true, p⟩ := ⟨_, rfl⟩
  have hTl : T.length ≤ 140737488355328 := by rw [hT, List.length_append]; exact hl
  have hT0 : (l ++ [40]) ++ (items false xs ++ [41]) = T := by rw [hT, et]; simp
  rw [← hT]
  have hbl := builder_lt hB
  have hl1 : l.length + 1 ≤ 140737488355328 := by rw [et] at hl; simp at hl; omega
  have hc := Lib.hid (fun (o : Obj) => write_calls W0.heap.size b l ⟨#[40]⟩ (w.alloc o) (hB.alloc o) hl1 (by have := hb.size; simp; omega))
  have HC : Hid (k52.C W0 A xs.length xs) := Lib.hid hC
  have Hb := Lib.hid hb
  have hS := hb.size
  have HT := Lib.hid hTl
  have HT0 := Lib.hid hT0
  have IH := Lib.hid ih
  have hbne : w.heap.size ≠ b := by omega
  clear hC hB hb et hl hT hTl hT0 ih
  go_enter Tryd.func27, Tryd.ntmps27
  go_wp2_with (go_at_call 28; refine (hc.out _).mono ?_; rintro e w1 ⟨rfl, h1, h2, h3⟩; have kb := others_blk h3 (blk_new w _) (by decide) hbne; have kc := (blk_cell kb 1).trans rfl; clear kb h3; replace h1 := Lib.hid h1; replace h2 := Lib.hid h2)
  have HB1 : Hid (Below W0.heap.size W0 w1) := Lib.hid ((Hb.out.alloc hS _).trans h2.out)
  have HW1 : Hid (Below W0.heap.size w w1) := Lib.hid (((Below.refl _ w).alloc hS _).trans h2.out)
  have HI : Hid ((l ++ [40]) ++ (items (decide (0 < 0)) (xs.drop 0) ++ [41]) = T) := HT0
  have hxl : xs.length ≤ 140737488355330 := by
    have e1 := congrArg List.length HT0.out
    have e2 := items_ge false xs
    have e3 := HT.out
    simp only [List.length_append, List.length_cons, List.length_nil] at e1
    omega
  clear HT0 h2 hc hl1 hbl hbne kc hS
  go_loopw [18] (fun i wr => ∃ (k : Nat) (m : List UInt8), k ≤ xs.length ∧ i = .int .i64 k ∧ Hid (m ++ (items (decide (0 < k)) (xs.drop k) ++ [41]) = T) ∧ Hid (Lib.IsBuilderF 64 5 W0.heap.size b (Lib.byteCells m) wr) ∧ Hid (Below W0.heap.size W0 wr) ∧ Hid (Below W0.heap.size w wr)) (fun i _ => xs.length - (intOf i).toNat)
  case atStart => exact ⟨0, l ++ [40], Nat.zero_le _, rfl, HI, h1, HB1, HW1⟩
  case round =>
    clear HB1 HI h1 HW1
    obtain ⟨k, m, hk, rfl, HM, HBd, HB, HBw⟩ := hrel
    by_cases hlt : k < xs.length
    · obtain ⟨x, hx⟩ : ∃ x, x = xs[k] := ⟨_, rfl⟩
      obtain ⟨ad, A1, c1, ex, x0, x1, x2, x3, x4, hl5, hC5⟩ := at_T52 HC.out (k : Int) (by omega) (by omega)
      rw [rd52 xs k hlt, ← hx] at x0 x1 x2 x3 x4 hC5
      cases ex
      simp only [Int.toNat_natCast] at x0 x1 x2 x3 x4
      replace x0 := cell_up HB.out x0
      replace x1 := cell_up HB.out x1
      replace x2 := cell_up HB.out x2
      replace x3 := cell_up HB.out x3
      replace x4 := cell_up HB.out x4
      have ihx := IH.out x (by rw [hx]; exact List.getElem_mem hlt)
      have hd := items_drop xs k hlt
      rw [← hx] at hd
      have hm := HM.out
      rw [hd] at hm
      have hsz := HB.out.size
      have hbw := builder_lt HBd.out
      have hTl := HT.out
      have hlen := congrArg List.length hm
      simp only [List.length_append, List.length_cons, List.length_nil] at hlen
      clear HM hx hd hl5
      by_cases h0 : k = 0
      · rw [if_neg (by omega)] at hm hlen
        have hc := Lib.hid (fun (o : Obj) => ihx A1 c1 hC5 (wr.alloc o) m (HB.out.alloc hsz _) (HBd.out.alloc o) (by simp at hlen; omega))
        have hm2 : Hid ((m ++ txt x) ++ (items (decide (0 < k + 1)) (xs.drop (k + 1)) ++ [41]) = T) := Lib.hid (by rw [← hm]; simp)
        have g1 : decide ((k : Int) > 0) = false := decide_eq_false (by omega)
        have g2 : decide (0 < k) = false := decide_eq_false (by omega)
        clear hm hlen hTl hbw hC5 ihx h0
        go_wp2_with (go_at_call 27; refine (hc.out _).mono ?_; rintro e w2 ⟨rfl, h4, h5⟩; replace h4 := Lib.hid h4; replace h5 := Lib.hid h5)
        go_roundw
        case rel => exact ⟨k + 1, m ++ txt x, by omega, by go_num, hm2, h4, Lib.hid ((HB.out.alloc hsz _).trans h5.out), Lib.hid ((HBw.out.alloc hsz _).trans h5.out)⟩
        case measure => simp [intOf]; omega
      · rw [if_pos (by omega)] at hm hlen
        have hbne : wr.heap.size ≠ b := by omega
        have hc1 := Lib.hid (fun (o : Obj) => write_calls W0.heap.size b m ⟨#[32]⟩ (wr.alloc o) (HBd.out.alloc o) (by simp at hlen; show m.length + 1 ≤ _; omega) (by simp; omega))
        have hc := Lib.hid (fun (W : World) (hW : Below W0.heap.size W0 W) (hB : Lib.IsBuilderF 64 5 W0.heap.size b (Lib.byteCells (m ++ [32])) W) => ihx A1 c1 hC5 W (m ++ [32]) hW hB (by simp at hlen ⊢; omega))
        have hm2 : Hid ((m ++ [32] ++ txt x) ++ (items (decide (0 < k + 1)) (xs.drop (k + 1)) ++ [41]) = T) := Lib.hid (by rw [← hm]; simp)
        have g1 : decide ((k : Int) > 0) = true := decide_eq_true (by omega)
        have g2 : decide (0 < k) = true := decide_eq_true (by omega)
        clear hm hlen hTl hbw hC5 ihx h0
        go_wp2_with (first | (go_at_call 28; refine (hc1.out _).mono ?_; rintro e w2 ⟨rfl, h4, h5, h6⟩; have kb := others_blk h6 (blk_new wr _) (by decide) hbne; have kc0 := (blk_cell kb 0).trans rfl; have kc1 := (blk_cell kb 1).trans rfl; have kc2 := (blk_cell kb 2).trans rfl; have kc3 := (blk_cell kb 3).trans rfl; have kc4 := (blk_cell kb 4).trans rfl; clear kb h6; replace h4 := Lib.hid h4; replace h5 := Lib.hid h5) | (go_at_call 27; refine (hc.out _ ((HB.out.alloc hsz _).trans h5.out) h4.out).mono ?_; rintro e w3 ⟨rfl, h7, h8⟩; replace h7 := Lib.hid h7; replace h8 := Lib.hid h8))
        go_roundw
        case rel => exact ⟨k + 1, m ++ [32] ++ txt x, by omega, by go_num, hm2, h7, Lib.hid (((HB.out.alloc hsz _).trans h5.out).trans h8.out), Lib.hid (((HBw.out.alloc hsz _).trans h5.out).trans h8.out)⟩
        case measure => simp [intOf]; omega
    · obtain rfl : k = xs.length := by omega
      have hm := HM.out
      rw [List.drop_length, items, List.nil_append] at hm
      have hml : m.length + 1 ≤ 140737488355328 := by have := HT.out; rw [← hm] at this; simpa using this
      have hc := Lib.hid (write_calls W0.heap.size b m ⟨#[41]⟩ wr HBd.out hml HB.out.size)
      replace hm := Lib.hid hm
      clear hml HM
      go_wp2_with (go_at_call 28; refine hc.out.mono ?_; rintro e w2 ⟨rfl, h4, h5, h6⟩; replace h4 := Lib.hid h4; replace h5 := Lib.hid h5; clear h6)
      refine bodyPost_ret (results_none rfl _ _ _) rfl ?_
      rw [← hm.out]
      exact ⟨rfl, h4.out, HBw.out.trans h5.out⟩
theorem text_says (W0 : World) (b : Nat) : ∀ (n : Nat) (s : S52), SizeOf.sizeOf s ≤ n → TextSays W0 b s
  | 0, s, h => by
    obtain ⟨a, l, is, p⟩ := s
    simp at h
  | n + 1, s, h => by
    cases hf : s.f2 with
    | false => exact text_atom W0 b s hf
    | true =>
      refine text_list W0 b s hf fun x hx => text_says W0 b n x ?_
      have h1 := List.sizeOf_lt_of_mem hx
      obtain ⟨a, l, is, p⟩ := s
      simp at h h1
      omega
structure TellsStr (l : List UInt8) (w : World) (e : Ending) (w' : World) : Prop where mk ::
  (out : e = .returned (.string ⟨l.toArray⟩) ∧ Below w.heap.size w w')
theorem txtAll_ge : ∀ l : List S52, l.length ≤ (txtAll l).length
  | [] => by simp
  | x :: l => by have := txtAll_ge l; rw [txtAll]; simp; omega
theorem txtAll_drop (xs : List S52) (k : Nat) (h : k < xs.length) : txtAll (xs.drop k) = txt xs[k] ++ 10 :: txtAll (xs.drop (k + 1)) := by
  rw [List.drop_eq_getElem_cons h, txtAll]
set_option maxRecDepth 100000 in
set_option maxHeartbeats 4000000 in
theorem text_calls (w : World) (A : Option Addr) (c : Nat) (xs : List S52) (hC : k52.C w A xs.length xs) (hl : (txtAll xs).length ≤ 140737488355328) :
    Calls Tryd.prog 15 #[.slice A xs.length c] w (TellsStr (txtAll xs) w) := by
  obtain ⟨T, hT⟩ : ∃ T, T = txtAll xs := ⟨_, rfl⟩
  have hxl : xs.length ≤ 140737488355328 := Nat.le_trans (txtAll_ge xs) hl
  rw [← hT] at hl ⊢
  have HC := Lib.hid hC
  have HL := Lib.hid hl
  have HM0 : Hid ([] ++ txtAll (xs.drop 0) = T) := Lib.hid (by rw [hT]; rfl)
  have IH := Lib.hid (fun s => text_says w w.heap.size (SizeOf.sizeOf s) s (Nat.le_refl _))
  have HB0 : Hid (Lib.IsBuilderF 64 5 w.heap.size w.heap.size (Lib.byteCells []) (w.alloc (.cells #[.pointer none, .slice none 0 0] 64))) := Lib.hid (builder_new w)
  have HW0 : Hid (Below w.heap.size w (w.alloc (.cells #[.pointer none, .slice none 0 0] 64))) := Lib.hid (below_alloc (Below.refl _ _) _)
  clear hC hl hT
  go_enter Tryd.func15, Tryd.ntmps15
  go_wp2
  go_loopw [8] (fun i wr => ∃ (k : Nat) (m : List UInt8), k ≤ xs.length ∧ i = .int .i64 k ∧ Hid (m ++ txtAll (xs.drop k) = T) ∧ Hid (Lib.IsBuilderF 64 5 w.heap.size w.heap.size (Lib.byteCells m) wr) ∧ Hid (Below w.heap.size w wr)) (fun i _ => xs.length - (intOf i).toNat)
  case atStart => exact ⟨0, [], Nat.zero_le _, rfl, HM0, HB0, HW0⟩
  case round =>
    clear HM0 HB0 HW0
    obtain ⟨k, m, hk, rfl, HM, HBd, HB⟩ := hrel
    by_cases hlt : k < xs.length
    · obtain ⟨x, hx⟩ : ∃ x, x = xs[k] := ⟨_, rfl⟩
      obtain ⟨ad, A1, c1, ex, x0, x1, x2, x3, x4, hl5, hC5⟩ := at_T52 HC.out (k : Int) (by omega) (by omega)
      rw [rd52 xs k hlt, ← hx] at x0 x1 x2 x3 x4 hC5
      cases ex
      simp only [Int.toNat_natCast] at x0 x1 x2 x3 x4
      replace x0 := cell_up HB.out x0
      replace x1 := cell_up HB.out x1
      replace x2 := cell_up HB.out x2
      replace x3 := cell_up HB.out x3
      replace x4 := cell_up HB.out x4
      have hm := HM.out
      rw [txtAll_drop xs k hlt, ← hx] at hm
      have hsz := HB.out.size
      have hlen := congrArg List.length hm
      simp only [List.length_append, List.length_cons] at hlen
      have hTl := HL.out
      have hc := Lib.hid (fun (o : Obj) => IH.out x A1 c1 hC5 (wr.alloc o) m (HB.out.alloc hsz _) (HBd.out.alloc o) (by omega))
      have hc1 := Lib.hid (fun (W : World) (hW : Below w.heap.size w W) (hB : Lib.IsBuilderF 64 5 w.heap.size w.heap.size (Lib.byteCells (m ++ txt x)) W) => write_calls w.heap.size w.heap.size (m ++ txt x) ⟨#[10]⟩ W hB (by rw [List.length_append]; show _ + 1 ≤ _; omega) hW.size)
      have hm2 : Hid ((m ++ txt x ++ [10]) ++ txtAll (xs.drop (k + 1)) = T) := Lib.hid (by rw [← hm]; simp)
      clear HM hx hl5 hm hlen hTl hC5
      go_wp2_with (first | (go_at_call 27; refine (hc.out _).mono ?_; rintro e w2 ⟨rfl, h4, h5⟩; replace h4 := Lib.hid h4; replace h5 := Lib.hid h5) | (go_at_call 28; refine (hc1.out _ ((HB.out.alloc hsz _).trans h5.out) h4.out).mono ?_; rintro e w3 ⟨rfl, h7, h8, h9⟩; clear h9; replace h7 := Lib.hid h7; replace h8 := Lib.hid h8))
      go_roundw
      case rel => exact ⟨k + 1, m ++ txt x ++ [10], by omega, by go_num, hm2, h7, Lib.hid (((HB.out.alloc hsz _).trans h5.out).trans h8.out)⟩
      case measure => simp [intOf]; omega
    · obtain rfl : k = xs.length := by omega
      have hm := HM.out
      rw [List.drop_length, txtAll, List.append_nil] at hm
      have hc := Lib.hid (Tryd.Builder_String_any_k w.heap.size w.heap.size m wr HBd.out HB.out.size)
      have HMT := Lib.hid hm
      clear hm HM
      go_wp2_with (go_at_call 29; refine hc.out.mono ?_; rintro e w2 ⟨rfl, h4, h5, h6⟩; clear h4 h6; replace h5 := Lib.hid h5)
      go_ret
      rw [← HMT.out]
      exact ⟨rfl, HB.out.trans h5.out⟩
end Go.Proofs.YtlggmdlbhndacaaDoor.Lx.Text

/- The reference's One and Text walked. -/
namespace Go.Proofs.YtlggmdlbhndacaaDoor.Lx.One
open Go.RowKit Go.Proofs.YtlggmdlbhndacaaDoorW.PrintWords Go.Proofs.YtlggmdlbhndacaaDoorW.PrintLast Go.Proofs.YtlggmdlbhndacaaDoorW.PrintMore LexV Mach SexpP Build Go.Proofs.YtlggmdlbhndacaaDoor.Lx.Text

theorem ba (a : ByteArray) : (⟨a.data.toList.toArray⟩ : ByteArray) = a := by simp
theorem ret_str {a b : ByteArray} (h : a = b) : Ending.returned (.string a) = .returned (.string b) := by rw [h]
theorem ba_eq {m : ByteArray} {l : List UInt8} (h : m.data.toList = l) : m = ⟨l.toArray⟩ := by rw [← h, ba]
theorem ba_append (a b : ByteArray) : (a ++ b).data.toList = a.data.toList ++ b.data.toList := by rw [ByteArray.data_append, Array.toList_append]
def OneSays (W0 : World) (s : S52) : Prop := ∀ (A : Option Addr) (c : Nat), k52.C W0 A s.f1.length s.f1 → ∀ (w : World), Below W0.heap.size W0 w → (txt s).length ≤ 140737488355328 →
  Calls Tryd.prog 24 #[.agg #[.string s.f0, .slice A s.f1.length c, .bool s.f2, .int .i64 s.f3.f0, .int .i64 s.f3.f1]] w (TellsStr (txt s) w)
set_option maxRecDepth 100000 in
set_option maxHeartbeats 4000000 in
theorem one_atom (W0 : World) (s : S52) (hs : s.f2 = false) : OneSays W0 s := by
  intro A c hC w hb hl
  obtain ⟨a, xs, is, p⟩ := s
  obtain rfl : is = false := hs
  have et : txt ⟨a, xs, false, p⟩ = a.data.toList := by rw [txt, if_neg (by simp)]
  rw [et]
  clear hC hb et hl
  go_enter Tryd.func24, Tryd.ntmps24
  go_wp2
  go_ret
  exact ⟨ret_str (ba a).symm, below_alloc (Below.refl _ _) _⟩
set_option maxRecDepth 100000 in
set_option maxHeartbeats 4000000 in
theorem one_list (W0 : World) (s : S52) (hs : s.f2 = true) (ih : ∀ x ∈ s.f1, OneSays W0 x) : OneSays W0 s := by
  intro A c hC w hb hl
  obtain ⟨a, xs, is, p⟩ := s
  obtain rfl : is = true := hs
  have et : txt ⟨a, xs, true, p⟩ = 40 :: (items false xs ++ [41]) := by rw [txt, if_pos rfl]
  obtain ⟨T, hT⟩ : ∃ T, T = txt ⟨a, xs, true, p⟩ := ⟨_, rfl⟩
  rw [← hT] at hl ⊢
  have hT0 : Hid ((⟨#[40]⟩ : ByteArray).data.toList ++ (items (decide (0 < 0)) (xs.drop 0) ++ [41]) = T) := Lib.hid (by rw [hT, et]; rfl)
  have HC : Hid (k52.C W0 A xs.length xs) := Lib.hid hC
  have Hb := Lib.hid hb
  have HT := Lib.hid hl
  have IH := Lib.hid ih
  have hxl : xs.length ≤ 140737488355330 := by
    have e1 := congrArg List.length (hT.trans et)
    have e2 := items_ge false xs
    simp only [List.length_append, List.length_cons, List.length_nil] at e1
    omega
  have HW : Hid (Below w.heap.size w (w.alloc (.cells #[.string a, .slice A xs.length c, .bool true, .int .i64 p.f0, .int .i64 p.f1] 52))) := Lib.hid (below_alloc (Below.refl _ _) _)
  clear hC hb et hl hT ih
  go_enter Tryd.func24, Tryd.ntmps24
  go_wp2
  go_loopw [3, 14] (fun t i wr => ∃ (k : Nat) (m : ByteArray), k ≤ xs.length ∧ i = .int .i64 k ∧ t = .string m ∧ Hid (m.data.toList ++ (items (decide (0 < k)) (xs.drop k) ++ [41]) = T) ∧ Hid (Below w.heap.size w wr)) (fun _ i _ => xs.length - (intOf i).toNat)
  case atStart => exact ⟨0, ⟨#[40]⟩, Nat.zero_le _, rfl, rfl, hT0, HW⟩
  case round =>
    clear hT0 HW
    obtain ⟨k, m, hk, rfl, rfl, HM, HB⟩ := hrel
    have HB0 : Hid (Below W0.heap.size W0 wr) := Lib.hid (below_step Hb.out HB.out)
    by_cases hlt : k < xs.length
    · obtain ⟨x, hx⟩ : ∃ x, x = xs[k] := ⟨_, rfl⟩
      obtain ⟨ad, A1, c1, ex, x0, x1, x2, x3, x4, hl5, hC5⟩ := at_T52 HC.out (k : Int) (by omega) (by omega)
      rw [rd52 xs k hlt, ← hx] at x0 x1 x2 x3 x4 hC5
      cases ex
      simp only [Int.toNat_natCast] at x0 x1 x2 x3 x4
      replace x0 := cell_up HB0.out x0
      replace x1 := cell_up HB0.out x1
      replace x2 := cell_up HB0.out x2
      replace x3 := cell_up HB0.out x3
      replace x4 := cell_up HB0.out x4
      have ihx := IH.out x (by rw [hx]; exact List.getElem_mem hlt)
      have hd := items_drop xs k hlt
      rw [← hx] at hd
      have hm := HM.out
      rw [hd] at hm
      have hTl := HT.out
      have hlen := congrArg List.length hm
      simp only [List.length_append, List.length_cons, List.length_nil] at hlen
      have hms : m.data.toList.length = m.size := rfl
      have hxs : (⟨(txt x).toArray⟩ : ByteArray).size = (txt x).length := by simp [ByteArray.size]
      clear HM hx hd hl5
      by_cases h0 : k = 0
      · rw [if_neg (by omega)] at hm hlen
        have hc := Lib.hid (fun (o : Obj) => ihx A1 c1 hC5 (wr.alloc o) (below_alloc HB0.out o) (by simp at hlen; omega))
        have s1 : m.size + (⟨(txt x).toArray⟩ : ByteArray).size ≤ 140737488355328 := by rw [hxs]; simp at hlen; omega
        have hm2 : Hid ((m ++ ⟨(txt x).toArray⟩).data.toList ++ (items (decide (0 < k + 1)) (xs.drop (k + 1)) ++ [41]) = T) := Lib.hid (by rw [← hm, ba_append]; simp)
        have g1 : decide ((k : Int) > 0) = false := decide_eq_false (by omega)
        have g2 : decide (0 < k) = false := decide_eq_false (by omega)
        clear hm hlen hTl hC5 ihx h0 hms hxs
        go_wp2_with (go_at_call 24; refine (hc.out _).mono ?_; rintro e w2 ⟨rfl, h4⟩; replace h4 := Lib.hid h4)
        go_roundw
        case rel => exact ⟨k + 1, m ++ ⟨(txt x).toArray⟩, by omega, by go_num, rfl, hm2, Lib.hid (below_step (below_alloc HB.out _) h4.out)⟩
        case measure => simp [intOf]; omega
      · rw [if_pos (by omega)] at hm hlen
        have hc := Lib.hid (fun (o : Obj) => ihx A1 c1 hC5 (wr.alloc o) (below_alloc HB0.out o) (by simp at hlen; omega))
        have s0 : m.size + 1 ≤ 140737488355328 := by simp at hlen; omega
        have s1 : (m ++ (⟨#[32]⟩ : ByteArray)).size + (⟨(txt x).toArray⟩ : ByteArray).size ≤ 140737488355328 := by rw [hxs, ByteArray.size_append]; show m.size + 1 + _ ≤ _; simp at hlen; omega
        have hm2 : Hid ((m ++ (⟨#[32]⟩ : ByteArray) ++ ⟨(txt x).toArray⟩).data.toList ++ (items (decide (0 < k + 1)) (xs.drop (k + 1)) ++ [41]) = T) := Lib.hid (by rw [← hm, ba_append, ba_append]; simp)
        have g1 : decide ((k : Int) > 0) = true := decide_eq_true (by omega)
        have g2 : decide (0 < k) = true := decide_eq_true (by omega)
        clear hm hlen hTl hC5 ihx h0 hms hxs
        go_wp2_with (go_at_call 24; refine (hc.out _).mono ?_; rintro e w2 ⟨rfl, h4⟩; replace h4 := Lib.hid h4)
        go_roundw
        case rel => exact ⟨k + 1, m ++ (⟨#[32]⟩ : ByteArray) ++ ⟨(txt x).toArray⟩, by omega, by go_num, rfl, hm2, Lib.hid (below_step (below_alloc HB.out _) h4.out)⟩
        case measure => simp [intOf]; omega
    · obtain rfl : k = xs.length := by omega
      have hm := HM.out
      rw [List.drop_length, items, List.nil_append] at hm
      have hml : m.size + 1 ≤ 140737488355328 := by have := HT.out; rw [← hm] at this; simpa using this
      have em : m ++ (⟨#[41]⟩ : ByteArray) = ⟨T.toArray⟩ := ba_eq (by rw [ba_append]; exact hm)
      have EM := Lib.hid em
      clear hm HM em
      go_wp2
      go_ret
      exact ⟨ret_str EM.out, HB.out⟩
theorem one_says (W0 : World) : ∀ (n : Nat) (s : S52), SizeOf.sizeOf s ≤ n → OneSays W0 s
  | 0, s, h => by
    obtain ⟨a, l, is, p⟩ := s
    simp at h
  | n + 1, s, h => by
    cases hf : s.f2 with
    | false => exact one_atom W0 s hf
    | true =>
      refine one_list W0 s hf fun x hx => one_says W0 n x ?_
      have h1 := List.sizeOf_lt_of_mem hx
      obtain ⟨a, l, is, p⟩ := s
      simp at h h1
      omega
theorem one_calls (w : World) (s : S52) (A : Option Addr) (c : Nat) (hC : k52.C w A s.f1.length s.f1) (hl : (txt s).length ≤ 140737488355328) :
    Calls Tryd.prog 24 #[.agg #[.string s.f0, .slice A s.f1.length c, .bool s.f2, .int .i64 s.f3.f0, .int .i64 s.f3.f1]] w (TellsStr (txt s) w) := one_says w _ s (Nat.le_refl _) A c hC w (Below.refl _ _) hl
set_option maxRecDepth 100000 in
set_option maxHeartbeats 4000000 in
theorem rtext_calls (w : World) (A : Option Addr) (c : Nat) (xs : List S52) (hC : k52.C w A xs.length xs) (hl : (txtAll xs).length ≤ 140737488355328) :
    Calls Tryd.prog 22 #[.slice A xs.length c] w (TellsStr (txtAll xs) w) := by
  obtain ⟨T, hT⟩ : ∃ T, T = txtAll xs := ⟨_, rfl⟩
  have hxl : xs.length ≤ 140737488355328 := Nat.le_trans (txtAll_ge xs) hl
  rw [← hT] at hl ⊢
  have HC := Lib.hid hC
  have HL := Lib.hid hl
  have HM0 : Hid ((⟨#[]⟩ : ByteArray).data.toList ++ txtAll (xs.drop 0) = T) := Lib.hid (by rw [hT]; rfl)
  have HW0 : Hid (Below w.heap.size w w) := Lib.hid (Below.refl _ _)
  clear hC hl hT
  go_enter Tryd.func22, Tryd.ntmps22
  go_wp2
  go_loopw [3, 8] (fun t i wr => ∃ (k : Nat) (m : ByteArray), k ≤ xs.length ∧ i = .int .i64 k ∧ t = .string m ∧ Hid (m.data.toList ++ txtAll (xs.drop k) = T) ∧ Hid (Below w.heap.size w wr)) (fun _ i _ => xs.length - (intOf i).toNat)
  case atStart => exact ⟨0, ⟨#[]⟩, Nat.zero_le _, rfl, rfl, HM0, HW0⟩
  case round =>
    clear HM0 HW0
    obtain ⟨k, m, hk, rfl, rfl, HM, HB⟩ := hrel
    by_cases hlt : k < xs.length
    · obtain ⟨x, hx⟩ : ∃ x, x = xs[k] := ⟨_, rfl⟩
      obtain ⟨ad, A1, c1, ex, x0, x1, x2, x3, x4, hl5, hC5⟩ := at_T52 HC.out (k : Int) (by omega) (by omega)
      rw [rd52 xs k hlt, ← hx] at x0 x1 x2 x3 x4 hC5
      cases ex
      simp only [Int.toNat_natCast] at x0 x1 x2 x3 x4
      replace x0 := cell_up HB.out x0
      replace x1 := cell_up HB.out x1
      replace x2 := cell_up HB.out x2
      replace x3 := cell_up HB.out x3
      replace x4 := cell_up HB.out x4
      have hm := HM.out
      rw [txtAll_drop xs k hlt, ← hx] at hm
      have hlen := congrArg List.length hm
      simp only [List.length_append, List.length_cons] at hlen
      have hTl := HL.out
      have hms : m.data.toList.length = m.size := rfl
      have hxs : (⟨(txt x).toArray⟩ : ByteArray).size = (txt x).length := by simp [ByteArray.size]
      have hc := Lib.hid (fun (o : Obj) => one_says w (SizeOf.sizeOf x) x (Nat.le_refl _) A1 c1 hC5 (wr.alloc o) (below_alloc HB.out _) (by omega))
      have s1 : m.size + (⟨(txt x).toArray⟩ : ByteArray).size ≤ 140737488355328 := by rw [hxs]; omega
      have s2 : (m ++ (⟨(txt x).toArray⟩ : ByteArray)).size + 1 ≤ 140737488355328 := by rw [ByteArray.size_append, hxs]; omega
      have s3 : m.size + (txt x).length + 1 ≤ 140737488355328 := by omega
      have hm2 : Hid ((m ++ ⟨(txt x).toArray⟩ ++ ⟨#[10]⟩).data.toList ++ txtAll (xs.drop (k + 1)) = T) := Lib.hid (by rw [← hm, ba_append, ba_append]; simp)
      clear HM hx hl5 hm hlen hTl hC5 hms hxs
      go_wp2_with (go_at_call 24; refine (hc.out _).mono ?_; rintro e w2 ⟨rfl, h4⟩; replace h4 := Lib.hid h4)
      go_roundw
      case rel => exact ⟨k + 1, m ++ ⟨(txt x).toArray⟩ ++ ⟨#[10]⟩, by omega, by go_num, rfl, hm2, Lib.hid (below_step (below_alloc HB.out _) h4.out)⟩
      case measure => simp [intOf]; omega
    · obtain rfl : k = xs.length := by omega
      have hm := HM.out
      rw [List.drop_length, txtAll, List.append_nil] at hm
      have HMT := Lib.hid hm
      clear hm HM
      go_wp2
      go_ret
      exact ⟨ret_str (ba_eq HMT.out), HB.out⟩
end Go.Proofs.YtlggmdlbhndacaaDoor.Lx.One

/- sexp.Parse told at every text, and what every law of layer 4 asks first. -/
namespace Go.Proofs.YtlggmdlbhndacaaDoor.Lx.PV
open Go.RowKit Go.Proofs.YtlggmdlbhndacaaDoorW.PrintWords Go.Proofs.YtlggmdlbhndacaaDoorW.PrintLast Go.Proofs.YtlggmdlbhndacaaDoorW.PrintMore Line LexV Use Mach SexpP Parse Go.Proofs.YtlggmdlbhndacaaDoor.Lx.Text Go.Proofs.YtlggmdlbhndacaaDoor.Lx.One

def tks (ts : List (Nat × Tk)) : List S39 := ts.map fun p => tok p.1 p.2
theorem lexV_or (l : List UInt8) : (∃ n c e, lexV l = ([], n, c, e) ∧ (e = 3 ∨ e = 4)) ∨ ∃ ts, lex l = .ok ts ∧ lexV l = (tks ts, 0, 0, 0) ∧ l.length ≤ 1048576 := by
  unfold lexV
  by_cases h : 1048576 < l.length
  · rw [if_pos h]; exact .inl ⟨_, _, _, rfl, .inl rfl⟩
  · rw [if_neg h]
    cases hl : lex l with
    | error e => exact .inl ⟨_, _, _, rfl, .inr rfl⟩
    | ok ts => exact .inr ⟨ts, rfl, rfl, by omega⟩
theorem tks_ok {l : List UInt8} {ts : List (Nat × Tk)} (h : lex l = .ok ts) : ∀ t ∈ tks ts, TkOk t.f0 t.f1.data.toList := by
  intro t ht
  obtain ⟨p, hp, rfl⟩ := List.mem_map.1 ht
  have := lex_toks h p hp
  simpa [tok] using this
theorem tk_kind {k : Int} {x : List UInt8} (h : TkOk k x) : k = 1 ∨ k = 2 ∨ k = 3 := by
  rcases h with h | h | h
  · exact .inl h.1
  · exact .inr (.inl h.1)
  · exact .inr (.inr h.1)
theorem tks_kinds {l : List UInt8} {ts : List (Nat × Tk)} (h : lex l = .ok ts) : Kinds (tks ts) := fun t ht => tk_kind (tks_ok h t ht)
theorem tks_len (ts : List (Nat × Tk)) : (tks ts).length = ts.length := by simp [tks]
theorem lex_len' {l : List UInt8} {ts : List (Nat × Tk)} (h : lex l = .ok ts) : ts.length ≤ l.length := by
  have key : ∀ (ls : List (List UInt8)) (m : Nat) (ts : List (Nat × Tk)), lexAll ls m = .ok ts → ts.length ≤ (ls.map List.length).sum := by
    intro ls
    induction ls with
    | nil => intro m ts h; injection h with h; subst h; simp
    | cons x ls ih =>
      intro m ts h
      rw [lexAll] at h
      cases hs : scan x 0 with
      | error c => rw [hs] at h; cases h
      | ok us =>
        rw [hs] at h
        simp only at h
        cases hr : lexAll ls (m + 1) with
        | error e2 => rw [hr] at h; cases h
        | ok vs =>
          rw [hr] at h
          injection h with h
          subst h
          have h1 := ih (m + 1) vs hr
          have h2 := scan_len hs
          simp; omega
  have h1 := key _ _ _ h
  have h2 := cut_len l
  have h3 := List.length_pos_iff.2 (cut_ne l)
  omega
def parseV (l : List UInt8) : List S52 × Int × Int × Int := match lexV l with
  | (L, p1, p2, er) => if er = 0 then resV (mrun L [] []) else ([], p1, p2, er)
theorem parse_calls (s : ByteArray) {X : List S52} {p1 p2 er : Int} (h : parseV s.data.toList = (X, p1, p2, er)) (w : World) : Calls Tryd.prog 14 #[.string s] w (TellsParse X p1 p2 er w) := by
  unfold parseV at h
  rcases lexV_or s.data.toList with ⟨n, c, e, hl, he⟩ | ⟨ts, h1, hl, h3⟩
  · rw [hl] at h
    have he' : e ≠ 0 := by rcases he with rfl | rfl <;> decide
    simp only [if_neg he', Prod.mk.injEq] at h
    obtain ⟨rfl, rfl, rfl, rfl⟩ := h
    exact parse_bad s w _ _ _ _ hl he'
  · rw [hl] at h
    simp only [if_true] at h
    exact parse_ok s w _ hl (tks_kinds h1) (by rw [tks_len]; have := lex_len' h1; omega) X p1 p2 er h
structure TellsP (X : List S52) (p1 p2 er : Int) (w : World) (e : Ending) (w' : World) : Prop where mk ::
  (out : ∃ A c, e = .returned (.tuple #[.slice A X.length c, .agg #[.int .i64 p1, .int .i64 p2], .int .i64 er]) ∧ k52.C w' A X.length X ∧ X.length ≤ c ∧ Below w.heap.size w w')
theorem parse_callsC (s : ByteArray) {X : List S52} {p1 p2 er : Int} (h : parseV s.data.toList = (X, p1, p2, er)) (w : World) : Calls Tryd.prog 14 #[.string s] w (TellsP X p1 p2 er w) :=
  (parse_calls s h w).mono fun e w' ⟨v, he, hR, hB⟩ => by
    obtain ⟨A, c, rfl, hl, hC⟩ := Kd.R_reads hR
    exact ⟨A, c, he, hC, hl, hB⟩
/-! ### What every law asks first -/
theorem at_first {w : World} {A : Option Addr} {n : Nat} {x : S52} {r : List S52} (h : k52.C w A (n + 1) (x :: r)) : ∃ ad A1 c1, A = some ad ∧ w.cell? ad = some (.string x.f0) ∧ w.cell? ⟨ad.block, ad.off + 1, none⟩ = some (.slice A1 x.f1.length c1) ∧ w.cell? ⟨ad.block, ad.off + 2, none⟩ = some (.bool x.f2) ∧ w.cell? ⟨ad.block, ad.off + 3, none⟩ = some (.int .i64 x.f3.f0) ∧ w.cell? ⟨ad.block, ad.off + 4, none⟩ = some (.int .i64 x.f3.f1) ∧ x.f1.length ≤ c1 ∧ k52.C w A1 x.f1.length x.f1 := by
  obtain ⟨ad, A1, c1, e, x0, x1, x2, x3, x4, h5, h6⟩ := at_T52 h 0 (by omega) (by omega)
  have e0 : ad.add (Int.toNat 0 * 5) = ad := by show ad.add 0 = ad; unfold Addr.add; rw [if_pos rfl]
  rw [e0] at x0 x1 x2 x3 x4
  exact ⟨ad, A1, c1, e, x0, x1, x2, x3, x4, h5, h6⟩
def X0 : S52 := ⟨⟨#[]⟩, [⟨⟨#[97]⟩, [], false, ⟨1, 3⟩⟩, ⟨⟨#[]⟩, [⟨⟨#[98]⟩, [], false, ⟨1, 6⟩⟩], true, ⟨1, 5⟩⟩], true, ⟨1, 1⟩⟩
theorem alive_lex4 : lex [40, 32, 97, 32, 40, 98, 41, 41] = .ok [(1, ⟨1, [40], 1⟩), (1, ⟨3, [97], 3⟩), (1, ⟨1, [40], 5⟩), (1, ⟨3, [98], 6⟩), (1, ⟨2, [41], 7⟩), (1, ⟨2, [41], 8⟩)] := by
  have hc : cut [40, 32, 97, 32, 40, 98, 41, 41] = [[40, 32, 97, 32, 40, 98, 41, 41]] := by decide
  have s8 : scan [41] 7 = .ok [⟨2, [41], 8⟩] := by rw [scan_close _ _ _ rfl, scan_nil]; rfl
  have s7 : scan [41, 41] 6 = .ok [⟨2, [41], 7⟩, ⟨2, [41], 8⟩] := by rw [scan_close _ _ _ rfl, s8]; rfl
  have s6 : scan [98, 41, 41] 5 = .ok [⟨3, [98], 6⟩, ⟨2, [41], 7⟩, ⟨2, [41], 8⟩] := by
    have := scan_atom_app [98] [41, 41] 5 (by unfold AtomOk; decide) (fun c r e => by injection e with e1 _; rw [← e1]; decide)
    rw [show ([98, 41, 41] : List UInt8) = [98] ++ [41, 41] from rfl, this]
    show (scan [41, 41] 6).map _ = _
    rw [s7]; rfl
  have s5 : scan [40, 98, 41, 41] 4 = .ok [⟨1, [40], 5⟩, ⟨3, [98], 6⟩, ⟨2, [41], 7⟩, ⟨2, [41], 8⟩] := by rw [scan_open _ _ _ rfl, s6]; rfl
  have s4 : scan [32, 40, 98, 41, 41] 3 = .ok [⟨1, [40], 5⟩, ⟨3, [98], 6⟩, ⟨2, [41], 7⟩, ⟨2, [41], 8⟩] := by rw [scan_white _ _ _ (by decide) (by decide), s5]
  have s3 : scan [97, 32, 40, 98, 41, 41] 2 = .ok [⟨3, [97], 3⟩, ⟨1, [40], 5⟩, ⟨3, [98], 6⟩, ⟨2, [41], 7⟩, ⟨2, [41], 8⟩] := by
    have := scan_atom_app [97] [32, 40, 98, 41, 41] 2 (by unfold AtomOk; decide) (fun c r e => by injection e with e1 _; rw [← e1]; decide)
    rw [show ([97, 32, 40, 98, 41, 41] : List UInt8) = [97] ++ [32, 40, 98, 41, 41] from rfl, this]
    show (scan [32, 40, 98, 41, 41] 3).map _ = _
    rw [s4]; rfl
  have s2 : scan [32, 97, 32, 40, 98, 41, 41] 1 = .ok [⟨3, [97], 3⟩, ⟨1, [40], 5⟩, ⟨3, [98], 6⟩, ⟨2, [41], 7⟩, ⟨2, [41], 8⟩] := by rw [scan_white _ _ _ (by decide) (by decide), s3]
  have s1 : scan [40, 32, 97, 32, 40, 98, 41, 41] 0 = .ok [⟨1, [40], 1⟩, ⟨3, [97], 3⟩, ⟨1, [40], 5⟩, ⟨3, [98], 6⟩, ⟨2, [41], 7⟩, ⟨2, [41], 8⟩] := by rw [scan_open _ _ _ rfl, s2]; rfl
  unfold lex
  rw [hc, lexAll, s1]
  rfl
theorem alive_parse : parseV (⟨#[40, 32, 97, 32, 40, 98, 41, 41]⟩ : ByteArray).data.toList = ([X0], 0, 0, 0) := by
  show parseV [40, 32, 97, 32, 40, 98, 41, 41] = _
  unfold parseV lexV
  rw [if_neg (by decide), alive_lex4]
  rfl
theorem alive_txt : txtAll [X0] = [40, 97, 32, 40, 98, 41, 41, 10] := by
  simp [X0, txtAll, txt, items]
theorem word0 : sexp_Word.f X0.f0 X0.f1 X0.f2 X0.f3.f0 X0.f3.f1 = some ⟨#[97]⟩ := by
  simp [sexp_Word.f, X0, rd_T52]
set_option maxRecDepth 100000 in
set_option maxHeartbeats 4000000 in
theorem alive4_calls (w : World) : Calls Tryd.prog 13 #[] w fun e w' => e = .returned (.bool true) ∧ Below w.heap.size w w' := by
  have c1 := Lib.hid (fun w => parse_callsC _ alive_parse w)
  have c2 : Hid (∀ (w : World) (A : Option Addr) (c : Nat), k52.C w A 1 [X0] → Calls Tryd.prog 15 #[.slice A 1 c] w (TellsStr [40, 97, 32, 40, 98, 41, 41, 10] w)) := Lib.hid (fun w A c hC => by rw [← alive_txt]; exact text_calls w A c [X0] hC (by rw [alive_txt]; decide))
  have c3 := Lib.hid (fun (w : World) (A : Option Addr) (c : Nat) (hC : k52.C w A X0.f1.length X0.f1) (hl : X0.f1.length ≤ c) => sexp_Word.calls _ A c _ _ _ _ _ w hC hl word0)
  go_enter Tryd.func13, Tryd.ntmps13
  go_wp2_with (first | (go_at_call 14; refine (c1.out _).mono ?_; rintro e w1 ⟨A, c, rfl, hC, hl, hb⟩; have hC' := Kd.C_alloc hC (.cells #[.int .i64 0, .int .i64 0] 25); obtain ⟨ad, A1, d1, rfl, x0, x1, x2, x3, x4, hl5, hC5⟩ := at_first hC'; replace hC := Lib.hid hC'; clear hC'; replace hb := Lib.hid hb; replace hl5 := Lib.hid hl5; replace hl := Lib.hid hl) | (go_at_call 15; refine (c2.out _ _ _ hC.out).mono ?_; rintro e w2 ⟨rfl, hb2⟩; replace x0 := cell_up hb2 x0; replace x1 := cell_up hb2 x1; replace x2 := cell_up hb2 x2; replace x3 := cell_up hb2 x3; replace x4 := cell_up hb2 x4; replace hC5 := Lib.hid (Kd.C_below hC5 hb2); replace hb2 := Lib.hid hb2) | (go_at_call 25; refine (c3.out _ _ _ hC5.out hl5.out).mono ?_; rintro e w3 ⟨rfl, hb3⟩; replace hb3 := Lib.hid hb3))
  go_ret
  exact ⟨rfl, below_step (below_step (below_alloc hb.out _) hb2.out) hb3.out⟩
end Go.Proofs.YtlggmdlbhndacaaDoor.Lx.PV
