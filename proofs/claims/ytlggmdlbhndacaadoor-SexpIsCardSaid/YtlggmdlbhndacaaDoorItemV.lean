import Derived.Test.YtlggmdlbhndacaaDoorBackP
import Derived.Test.YtlggmdlbhndacaaDoorWalkIs
import Derived.Test.YtlggmdlbhndacaaDoorRParse
/- The reference's descent is the machine, plainly. -/
namespace Go.Proofs.YtlggmdlbhndacaaDoor.Lx.ItemV
open Go.RowKit Go.Proofs.YtlggmdlbhndacaaDoorW.PrintWords Line LexV RefV Mach SexpP PV BackP

def to39 (t : S40) : S39 := ⟨t.f0, t.f1, t.f2⟩
abbrev T9 := ByteArray × List S52 × Bool × Int × Int × Int × Int × Int × Int
def okR (x : S52) (j : Nat) : T9 := (x.f0, x.f1, x.f2, x.f3.f0, x.f3.f1, (j : Int), 0, 0, 0)
theorem eta52 (x : S52) : (⟨x.f0, x.f1, x.f2, ⟨x.f3.f0, x.f3.f1⟩⟩ : S52) = x := by cases x; rfl
theorem rd40g (R : List S40) (k : Nat) (h : k < R.length) : rd_T40 R (k : Int) = R[k] := by
  unfold rd_T40
  rw [show ((k : Int)).toNat = k from rfl, List.getD_eq_getElem?_getD, List.getElem?_eq_getElem h]; rfl
theorem mrun39 (R : List S40) (k : Nat) (h : k < R.length) (tops : List S52) (st : Sk) : mrun ((R.map to39).drop k) tops st = match mstep (to39 R[k]) tops st with
    | .error e => .bad (to39 R[k]).f2 e
    | .ok s => mrun ((R.map to39).drop (k + 1)) s.1 s.2 := by
  have h' : k < (R.map to39).length := by simpa using h
  rw [List.drop_eq_getElem_cons h', List.getElem_map, mrun]
  cases mstep (to39 R[k]) tops st <;> rfl
/-- What the descent answers from a token on, or from within a list on, against the machine. -/
structure Good (R : List S40) (i : Nat) (g : Nat → Option T9) (deep : Nat) (from_ : List S52 → Sk → Res) : Prop where mk ::
  (out : (∃ (x : S52) (j : Nat), i < j ∧ j ≤ R.length ∧ Ev g (okR x j) ∧ ∀ tops st, st.length = deep → from_ tops st = mrun ((R.map to39).drop j) (mput tops st x).1 (mput tops st x).2) ∨
    (∃ (y : T9) (p : S25) (e : Int), (e = 8 ∨ e = 4) ∧ Ev g (y.1, y.2.1, y.2.2.1, y.2.2.2.1, y.2.2.2.2.1, y.2.2.2.2.2.1, p.f0, p.f1, e) ∧ ∀ tops st, st.length = deep → from_ tops st = .bad p e))
def ItemAt (R : List S40) (i deep : Nat) : Prop := Good R i (fun k => tourbillonref04_item.f k R (i : Int) (deep : Int)) deep (fun tops st => mrun ((R.map to39).drop i) tops st)
def LoopAt (R : List S40) (j deep : Nat) (xs : List S52) (t : S40) : Prop :=
  Good R j (fun k => tourbillonref04_item.l0 k R (deep : Int) (j : Int) t.f0 t.f1 t.f2.f0 t.f2.f1 ⟨#[]⟩ xs true t.f2.f0 t.f2.f1) deep (fun tops st => mrun ((R.map to39).drop j) tops ((t.f2, xs) :: st))
section
variable {R : List S40} (hK : ∀ t ∈ R, t.f0 = 1 ∨ t.f0 = 2 ∨ t.f0 = 3) (hL : R.length ≤ 1048576)
include hK hL
theorem item_of (i deep : Nat) (hi : i < R.length) (h2 : R[i].f0 ≠ 2) (hd : deep ≤ 64) (loop : deep < 64 → LoopAt R (i + 1) deep [] R[i]) : ItemAt R i deep := by
  have hr := rd40g R i hi
  have hw : wrap64 ((i : Int) + 1) = ((i + 1 : Nat) : Int) := by rw [wr64 (by omega) (by omega)]; omega
  by_cases h3 : R[i].f0 = 3
  · refine ⟨.inl ⟨⟨R[i].f1, [], false, R[i].f2⟩, i + 1, by omega, by omega, ?_, fun tops st _ => ?_⟩⟩
    · refine Ev.step (f := fun _ => some (okR ⟨R[i].f1, [], false, R[i].f2⟩ (i + 1))) (fun k => ?_) (Ev.now _)
      simp only [tourbillonref04_item.f]
      rw [if_pos (by omega), if_pos (by omega), hr, if_pos h3, hw]
      rfl
    · show mrun ((R.map to39).drop i) tops st = _
      rw [mrun39 R i hi, mstep_three (t := to39 R[i]) (by show R[i].f0 ≠ 1; rw [h3]; decide) h2]
      rfl
  · have h1 : R[i].f0 = 1 := by rcases hK R[i] (List.getElem_mem hi) with h | h | h; exact h; exact absurd h h2; exact absurd h h3
    by_cases h64 : deep = 64
    · refine ⟨.inr ⟨(⟨#[]⟩, [], false, 0, 0, 0, 0, 0, 0), R[i].f2, 8, .inl rfl, ?_, fun tops st hst => ?_⟩⟩
      · refine Ev.step (f := fun _ => some (⟨#[]⟩, [], false, 0, 0, 0, R[i].f2.f0, R[i].f2.f1, 8)) (fun k => ?_) (Ev.now _)
        simp only [tourbillonref04_item.f]
        rw [if_pos (by omega), if_pos (by omega), hr, if_neg h3, if_pos (by omega)]
      · show mrun ((R.map to39).drop i) tops st = _
        rw [mrun39 R i hi, mstep_one (t := to39 R[i]) h1, if_pos (by omega)]
        rfl
    · have hstep : ∀ k, tourbillonref04_item.f (k + 1) R (i : Int) (deep : Int) = tourbillonref04_item.l0 k R (deep : Int) ((i + 1 : Nat) : Int) R[i].f0 R[i].f1 R[i].f2.f0 R[i].f2.f1 ⟨#[]⟩ [] true R[i].f2.f0 R[i].f2.f1 := by
        intro k
        simp only [tourbillonref04_item.f]
        rw [if_pos (by omega), if_pos (by omega), hr, if_neg h3, if_neg (by omega), hw]
      have hm : ∀ tops (st : Sk), st.length = deep → mrun ((R.map to39).drop i) tops st = mrun ((R.map to39).drop (i + 1)) tops ((R[i].f2, []) :: st) := by
        intro tops st hst
        rw [mrun39 R i hi, mstep_one (t := to39 R[i]) h1, if_neg (by omega)]
        rfl
      rcases (loop (by omega)).out with ⟨x, j, q1, q2, q3, q4⟩ | ⟨y, p, e, q1, q2, q3⟩
      · exact ⟨.inl ⟨x, j, by omega, q2, Ev.step hstep q3, fun tops st hst => (hm tops st hst).trans (q4 tops st hst)⟩⟩
      · exact ⟨.inr ⟨y, p, e, q1, Ev.step hstep q2, fun tops st hst => (hm tops st hst).trans (q3 tops st hst)⟩⟩
end
theorem loop_of {R : List S40} (hL : R.length ≤ 1048576) (j deep : Nat) (xs : List S52) (t : S40) (hj : j ≤ R.length) (hx : xs.length ≤ j) (hd : deep < 64) (item : ∀ h : j < R.length, R[j].f0 ≠ 2 → ItemAt R j (deep + 1))
    (loop : ∀ j' ys, j < j' → j' ≤ R.length → ys.length ≤ j' → LoopAt R j' deep ys t) : LoopAt R j deep xs t := by
  have hwd : wrap64 ((deep : Int) + 1) = ((deep + 1 : Nat) : Int) := by rw [wr64 (by omega) (by omega)]; omega
  by_cases hlt : j < R.length
  · have hr := rd40g R j hlt
    have hw : wrap64 ((j : Int) + 1) = ((j + 1 : Nat) : Int) := by rw [wr64 (by omega) (by omega)]; omega
    by_cases h2 : R[j].f0 = 2
    · refine ⟨.inl ⟨⟨⟨#[]⟩, xs, true, t.f2⟩, j + 1, by omega, by omega, ?_, fun tops st _ => ?_⟩⟩
      · refine Ev.step (f := fun k => tourbillonref04_item.j1 k R (deep : Int) (j : Int) false t.f0 t.f1 t.f2.f0 t.f2.f1 ⟨#[]⟩ xs true t.f2.f0 t.f2.f1) (fun k => ?_) (Ev.step (f := fun _ => some (okR ⟨⟨#[]⟩, xs, true, t.f2⟩ (j + 1))) (fun k => ?_) (Ev.now _))
        · simp only [tourbillonref04_item.l0]
          rw [if_pos (by omega), if_pos (by omega), hr, h2]
          rfl
        · simp only [tourbillonref04_item.j1]
          rw [if_neg (by decide), if_neg (by omega), hw]
          rfl
      · show mrun ((R.map to39).drop j) tops ((t.f2, xs) :: st) = _
        rw [mrun39 R j hlt, mstep_two (t := to39 R[j]) (by show R[j].f0 ≠ 1; rw [h2]; decide) h2]
    · have hb : (R[j].f0 != 2) = true := by simpa using h2
      have hstep : ∀ k, tourbillonref04_item.l0 (k + 1) R (deep : Int) (j : Int) t.f0 t.f1 t.f2.f0 t.f2.f1 ⟨#[]⟩ xs true t.f2.f0 t.f2.f1 = tourbillonref04_item.j1 k R (deep : Int) (j : Int) true t.f0 t.f1 t.f2.f0 t.f2.f1 ⟨#[]⟩ xs true t.f2.f0 t.f2.f1 := by
        intro k
        simp only [tourbillonref04_item.l0]
        rw [if_pos (by omega), if_pos (by omega), hr, hb]
      rcases (item hlt h2).out with ⟨x, j', q1, q2, q3, q4⟩ | ⟨y, p, e, q1, q2, q3⟩
      · have hl := loop j' (xs ++ [x]) q1 q2 (by simp; omega)
        have key : ∀ r, Ev (fun k => tourbillonref04_item.l0 k R (deep : Int) (j' : Int) t.f0 t.f1 t.f2.f0 t.f2.f1 ⟨#[]⟩ (xs ++ [x]) true t.f2.f0 t.f2.f1) r → Ev (fun k => tourbillonref04_item.l0 k R (deep : Int) (j : Int) t.f0 t.f1 t.f2.f0 t.f2.f1 ⟨#[]⟩ xs true t.f2.f0 t.f2.f1) r := by
          intro r hr0
          refine Ev.step hstep (Ev.step (fun k => ?_) (Ev.bind q3 (f := fun k bt => if bt.2.2.2.2.2.2.2.2 = 0 then (if xs.length < 2199023255552 then tourbillonref04_item.l0 k R (deep : Int) bt.2.2.2.2.2.1 t.f0 t.f1 t.f2.f0 t.f2.f1 ⟨#[]⟩ (xs ++ [(⟨bt.1, bt.2.1, bt.2.2.1, (⟨bt.2.2.2.1, bt.2.2.2.2.1⟩ : S25)⟩ : S52)]) true t.f2.f0 t.f2.f1 else none) else some (⟨#[]⟩, xs, true, t.f2.f0, t.f2.f1, 0, bt.2.2.2.2.2.2.1, bt.2.2.2.2.2.2.2.1, bt.2.2.2.2.2.2.2.2)) ?_))
          · simp only [tourbillonref04_item.j1]
            rw [if_pos trivial, hwd]
          · refine Ev.congr (fun n => ?_) hr0
            simp only [okR]
            rw [if_pos trivial, if_pos (by omega), eta52]
        have hm : ∀ tops (st : Sk), st.length = deep → mrun ((R.map to39).drop j) tops ((t.f2, xs) :: st) = mrun ((R.map to39).drop j') tops ((t.f2, xs ++ [x]) :: st) := fun tops st hst => q4 tops ((t.f2, xs) :: st) (by simp [hst])
        rcases hl.out with ⟨x2, j2, r1, r2, r3, r4⟩ | ⟨y, p, e, r1, r2, r3⟩
        · exact ⟨.inl ⟨x2, j2, by omega, r2, key _ r3, fun tops st hst => (hm tops st hst).trans (r4 tops st hst)⟩⟩
        · exact ⟨.inr ⟨y, p, e, r1, key _ r2, fun tops st hst => (hm tops st hst).trans (r3 tops st hst)⟩⟩
      · refine ⟨.inr ⟨(⟨#[]⟩, xs, true, t.f2.f0, t.f2.f1, 0, 0, 0, 0), p, e, q1, ?_, fun tops st hst => q3 tops ((t.f2, xs) :: st) (by simp [hst])⟩⟩
        refine Ev.step hstep (Ev.step (fun k => ?_) (Ev.bind q2 (f := fun k bt => if bt.2.2.2.2.2.2.2.2 = 0 then (if xs.length < 2199023255552 then tourbillonref04_item.l0 k R (deep : Int) bt.2.2.2.2.2.1 t.f0 t.f1 t.f2.f0 t.f2.f1 ⟨#[]⟩ (xs ++ [(⟨bt.1, bt.2.1, bt.2.2.1, (⟨bt.2.2.2.1, bt.2.2.2.2.1⟩ : S25)⟩ : S52)]) true t.f2.f0 t.f2.f1 else none) else some (⟨#[]⟩, xs, true, t.f2.f0, t.f2.f1, 0, bt.2.2.2.2.2.2.1, bt.2.2.2.2.2.2.2.1, bt.2.2.2.2.2.2.2.2)) ?_))
        · simp only [tourbillonref04_item.j1]
          rw [if_pos trivial, hwd]
        · refine Ev.congr (fun n => ?_) (Ev.now _)
          simp only
          rw [if_neg (by omega)]
  · obtain rfl : j = R.length := by omega
    refine ⟨.inr ⟨(⟨#[]⟩, xs, true, t.f2.f0, t.f2.f1, 0, 0, 0, 0), t.f2, 4, .inr rfl, ?_, fun tops st _ => ?_⟩⟩
    · refine Ev.step (f := fun k => tourbillonref04_item.j1 k R (deep : Int) (R.length : Int) false t.f0 t.f1 t.f2.f0 t.f2.f1 ⟨#[]⟩ xs true t.f2.f0 t.f2.f1) (fun k => ?_) (Ev.step (f := fun _ => some (⟨#[]⟩, xs, true, t.f2.f0, t.f2.f1, 0, t.f2.f0, t.f2.f1, 4)) (fun k => ?_) (Ev.now _))
      · simp only [tourbillonref04_item.l0]
        rw [if_neg (by omega)]
      · simp only [tourbillonref04_item.j1]
        rw [if_neg (by decide), if_pos trivial]
    · show mrun ((R.map to39).drop R.length) tops ((t.f2, xs) :: st) = _
      rw [List.drop_eq_nil_of_le (by simp)]
      rfl
section
variable {R : List S40} (hK : ∀ t ∈ R, t.f0 = 1 ∨ t.f0 = 2 ∨ t.f0 = 3) (hL : R.length ≤ 1048576)
include hK hL
theorem both : ∀ m, (∀ i deep, R.length - i ≤ m → ∀ h : i < R.length, R[i].f0 ≠ 2 → deep ≤ 64 → ItemAt R i deep) ∧ (∀ j deep xs t, R.length - j ≤ m → j ≤ R.length → xs.length ≤ j → deep < 64 → LoopAt R j deep xs t) := by
  intro m
  induction m with
  | zero =>
    refine ⟨fun i deep hm h => absurd h (by omega), fun j deep xs t hm hj hx hd => ?_⟩
    exact loop_of hL j deep xs t hj hx hd (fun h => absurd h (by omega)) (fun j' ys h1 h2 => absurd h2 (by omega))
  | succ m ih =>
    have hi : ∀ i deep, R.length - i ≤ m + 1 → ∀ h : i < R.length, R[i].f0 ≠ 2 → deep ≤ 64 → ItemAt R i deep := fun i deep hm h h2 hd =>
      item_of hK hL i deep h h2 hd fun hd' => ih.2 (i + 1) deep [] R[i] (by omega) (by omega) (by simp) hd'
    refine ⟨hi, fun j deep xs t hm hj hx hd => ?_⟩
    exact loop_of hL j deep xs t hj hx hd (fun h h2 => hi j (deep + 1) hm h h2 (by omega)) (fun j' ys h1 h2 h3 => ih.2 j' deep ys t (by omega) h2 h3 hd)
/-- The reference's loop over what stands outermost. -/
theorem parse_loop : ∀ (m i : Nat) (acc : List S52), R.length - i ≤ m → i ≤ R.length → acc.length ≤ i →
    ∃ r : List S52 × Int × Int × Int, Ev (fun k => tourbillonref04_Parse.l0 k R acc (i : Int)) r ∧ resV (mrun ((R.map to39).drop i) acc []) = r := by
  intro m
  induction m with
  | zero =>
    intro i acc hm hi ha
    obtain rfl : i = R.length := by omega
    refine ⟨(acc, 0, 0, 0), Ev.step (f := fun _ => some (acc, 0, 0, 0)) (fun k => ?_) (Ev.now _), ?_⟩
    · simp only [tourbillonref04_Parse.l0]
      rw [if_neg (by omega)]
    · rw [List.drop_eq_nil_of_le (by simp)]; rfl
  | succ m ih =>
    intro i acc hm hi ha
    by_cases hlt : i < R.length
    · have hr := rd40g R i hlt
      by_cases h2 : R[i].f0 = 2
      · refine ⟨([], R[i].f2.f0, R[i].f2.f1, 4), Ev.step (f := fun _ => some ([], R[i].f2.f0, R[i].f2.f1, 4)) (fun k => ?_) (Ev.now _), ?_⟩
        · simp only [tourbillonref04_Parse.l0]
          rw [if_pos (by omega), if_pos (by omega), hr, if_pos h2]
        · rw [mrun39 R i hlt, mstep_two (t := to39 R[i]) (by show R[i].f0 ≠ 1; rw [h2]; decide) h2]
          rfl
      · rcases ((both hK hL (R.length - i)).1 i 0 (Nat.le_refl _) hlt h2 (by omega)).out with ⟨x, j, q1, q2, q3, q4⟩ | ⟨y, p, e, q1, q2, q3⟩
        · obtain ⟨r, hr1, hr2⟩ := ih j (acc ++ [x]) (by omega) q2 (by simp; omega)
          refine ⟨r, Ev.step (fun k => ?_) (Ev.bind q3 (f := fun k bt => if bt.2.2.2.2.2.2.2.2 = 0 then (if acc.length < 2199023255552 then tourbillonref04_Parse.l0 k R (acc ++ [(⟨bt.1, bt.2.1, bt.2.2.1, (⟨bt.2.2.2.1, bt.2.2.2.2.1⟩ : S25)⟩ : S52)]) bt.2.2.2.2.2.1 else none) else some ([], bt.2.2.2.2.2.2.1, bt.2.2.2.2.2.2.2.1, bt.2.2.2.2.2.2.2.2)) ?_), ?_⟩
          · simp only [tourbillonref04_Parse.l0]
            rw [if_pos (by omega), if_pos (by omega), hr, if_neg h2]
            rfl
          · refine Ev.congr (fun n => ?_) hr1
            simp only [okR]
            rw [if_pos trivial, if_pos (by omega), eta52]
          · rw [← hr2]
            exact congrArg resV (q4 acc [] rfl)
        · refine ⟨([], p.f0, p.f1, e), Ev.step (fun k => ?_) (Ev.bind q2 (f := fun k bt => if bt.2.2.2.2.2.2.2.2 = 0 then (if acc.length < 2199023255552 then tourbillonref04_Parse.l0 k R (acc ++ [(⟨bt.1, bt.2.1, bt.2.2.1, (⟨bt.2.2.2.1, bt.2.2.2.2.1⟩ : S25)⟩ : S52)]) bt.2.2.2.2.2.1 else none) else some ([], bt.2.2.2.2.2.2.1, bt.2.2.2.2.2.2.2.1, bt.2.2.2.2.2.2.2.2)) ?_), ?_⟩
          · simp only [tourbillonref04_Parse.l0]
            rw [if_pos (by omega), if_pos (by omega), hr, if_neg h2]
            rfl
          · refine Ev.congr (fun n => ?_) (Ev.now _)
            simp only
            rw [if_neg (by omega)]
          · rw [show mrun ((R.map to39).drop i) acc [] = .bad p e from q3 acc [] rfl]
            rfl
    · obtain rfl : i = R.length := by omega
      refine ⟨(acc, 0, 0, 0), Ev.step (f := fun _ => some (acc, 0, 0, 0)) (fun k => ?_) (Ev.now _), ?_⟩
      · simp only [tourbillonref04_Parse.l0]
        rw [if_neg (by omega)]
      · rw [List.drop_eq_nil_of_le (by simp)]; rfl
end
theorem rlen (ts : List (Nat × Tk)) : (ts.map fun p => tokR p.1 p.2).map to39 = tks ts := by
  unfold tks
  rw [List.map_map]; rfl
/-- The reference's Parse answers what the program's does, of every text that is not too long. -/
theorem rparse_ev (s : ByteArray) (hs : s.size ≤ 1048576) : Ev (fun k => tourbillonref04_Parse.f k s) (parseV s.data.toList) := by
  have hsz : s.data.toList.length = s.size := rfl
  have hl := rlex_ev s hs
  cases h : lex s.data.toList with
  | error e =>
    rw [h] at hl
    have h1 : 1 ≤ e.1 := WalkIs.lexAll_line _ _ _ h
    have hv : parseV s.data.toList = ([], (e.1 : Int), (e.2 : Int), 4) := by
      unfold parseV lexV
      rw [if_neg (by omega), h]
      rfl
    rw [hv]
    refine Ev.congr (fun k => ?_) (Ev.bind hl (f := fun k bt => if bt.2.1 > 0 then some ([], bt.2.1, bt.2.2, 4) else tourbillonref04_Parse.l0 k bt.1 [] 0) ?_)
    · simp only [tourbillonref04_Parse.f]
    · exact Ev.congr (fun n => if_pos (show (e.1 : Int) > 0 by omega)) (Ev.now _)
  | ok ts =>
    rw [h] at hl
    have hk : ∀ t ∈ ts.map (fun p => tokR p.1 p.2), t.f0 = 1 ∨ t.f0 = 2 ∨ t.f0 = 3 := by
      intro t ht
      obtain ⟨p, hp, rfl⟩ := List.mem_map.1 ht
      exact tk_kind (lex_toks h p hp)
    have hlen : (ts.map fun p => tokR p.1 p.2).length ≤ 1048576 := by have := lex_len' h; simp; omega
    obtain ⟨r, h1, h2⟩ := parse_loop hk hlen _ 0 [] (Nat.le_refl _) (Nat.zero_le _) (Nat.zero_le _)
    rw [List.drop_zero, rlen] at h2
    have hv : parseV s.data.toList = r := by
      rw [← h2]
      unfold parseV lexV
      rw [if_neg (by omega), h]
      rfl
    rw [hv]
    refine Ev.congr (fun k => ?_) (Ev.bind hl (f := fun k bt => if bt.2.1 > 0 then some ([], bt.2.1, bt.2.2, 4) else tourbillonref04_Parse.l0 k bt.1 [] 0) ?_)
    · simp only [tourbillonref04_Parse.f]
    · exact Ev.congr (fun n => if_neg (show ¬ (0 : Int) > 0 by decide)) h1
structure TellsRP (X : List S52) (p1 p2 er : Int) (w : World) (e : Ending) (w' : World) : Prop where mk ::
  (out : ∃ A c, e = .returned (.tuple #[.slice A X.length c, .agg #[.int .i64 p1, .int .i64 p2, .int .i64 er]]) ∧ k52.C w' A X.length X ∧ X.length ≤ c ∧ Below w.heap.size w w')
theorem rparse_calls (s : ByteArray) (hs : s.size ≤ 1048576) {X : List S52} {p1 p2 er : Int} (h : parseV s.data.toList = (X, p1, p2, er)) (w : World) : Calls Tryd.prog 20 #[.string s] w (TellsRP X p1 p2 er w) := by
  obtain ⟨k, hk⟩ := (rparse_ev s hs).rounds
  rw [h] at hk
  refine (tourbillonref04_Parse.calls k s X p1 p2 er w hk).mono fun e w' ⟨v, he, hR, hB⟩ => ?_
  obtain ⟨A, c, rfl, hl, hC⟩ := Kd.R_reads hR
  exact ⟨A, c, he, hC, hl, hB⟩
end Go.Proofs.YtlggmdlbhndacaaDoor.Lx.ItemV
