import Derived.Test.YtlggmdlbhndacaaDoorBackP
import Derived.Test.YtlggmdlbhndacaaDoorRSame
/- The reference's Same, plainly: it answers true of what is the same. -/
namespace Go.Proofs.YtlggmdlbhndacaaDoor.Lx.SameV
open Go.RowKit Go.Proofs.YtlggmdlbhndacaaDoorW.PrintWords Line LexV Mach SexpP PV BackP Go.Proofs.YtlggmdlbhndacaaDoor.Lx.Text

mutual
/-- How many parts a thing has. -/
def parts : S52 → Nat
  | ⟨_, l, _, _⟩ => 1 + partsL l
def partsL : List S52 → Nat
  | [] => 0
  | x :: r => parts x + partsL r
end
theorem parts_pos : ∀ x : S52, 1 ≤ parts x
  | ⟨a, l, is, p⟩ => by rw [parts]; omega
theorem parts_eq (x : S52) : parts x = 1 + partsL x.f1 := by obtain ⟨a, l, is, p⟩ := x; rw [parts]
theorem partsL_len : ∀ l : List S52, l.length ≤ partsL l
  | [] => by simp [partsL]
  | x :: l => by have := partsL_len l; have := parts_pos x; rw [partsL]; simp; omega
theorem partsL_mem : ∀ (l : List S52), ∀ x ∈ l, parts x ≤ partsL l
  | [], x, h => by cases h
  | y :: l, x, h => by
    rw [partsL]
    rcases List.mem_cons.1 h with rfl | h
    · omega
    · have := partsL_mem l x h; omega
theorem partsL_append : ∀ (a b : List S52), partsL (a ++ b) = partsL a + partsL b
  | [], b => by simp [partsL]
  | x :: a, b => by rw [List.cons_append, partsL, partsL, partsL_append a b]; omega
def pcnt (tops : List S52) : Sk → Nat
  | [] => partsL tops
  | (_, xs) :: r => 1 + partsL xs + pcnt tops r
theorem pcnt_mput (tops : List S52) (st : Sk) (x : S52) : pcnt (mput tops st x).1 (mput tops st x).2 = pcnt tops st + parts x := by
  cases st with
  | nil => simp [mput, pcnt, partsL_append, partsL]
  | cons q r => obtain ⟨p, xs⟩ := q; simp [mput, pcnt, partsL_append, partsL]; omega
theorem pcnt_mstep {t : S39} {tops : List S52} {st : Sk} {s : List S52 × Sk} (h : mstep t tops st = .ok s) : pcnt s.1 s.2 ≤ pcnt tops st + 1 := by
  unfold mstep at h
  split at h
  · split at h
    · cases h
    · injection h with h; subst h; simp [pcnt, partsL]; omega
  · split at h
    · split at h
      · cases h
      · injection h with h; subst h; rw [pcnt_mput]; simp [pcnt, parts]; omega
    · injection h with h; subst h; rw [pcnt_mput]; simp [parts, partsL]
theorem mrun_parts : ∀ (L : List S39) (tops : List S52) (st : Sk) (X : List S52), mrun L tops st = .ok X → partsL X ≤ pcnt tops st + L.length := by
  intro L
  induction L with
  | nil =>
    intro tops st X h
    cases st with
    | nil => injection h with h; subst h; simp [pcnt]
    | cons q r => obtain ⟨p, ys⟩ := q; cases h
  | cons t L ih =>
    intro tops st X h
    rw [mrun] at h
    cases hs : mstep t tops st with
    | error e => rw [hs] at h; cases h
    | ok s =>
      rw [hs] at h
      have h1 := ih s.1 s.2 X h
      have h2 := pcnt_mstep hs
      simp; omega
theorem parse_parts {l : List UInt8} {X : List S52} {p1 p2 : Int} (h : parseV l = (X, p1, p2, 0)) : partsL X ≤ l.length := by
  obtain ⟨ts, h1, h2, _⟩ := parse_of h
  have h3 := mrun_parts _ _ _ _ h2
  have h4 := lex_len' h1
  rw [tks_len] at h3
  simp only [pcnt, partsL] at h3
  omega
def Alike (pl : Bool) (x y : S52) : Prop := era x = era y ∧ (pl = true → x = y)
theorem era_parts {x y : S52} (h : era x = era y) : x.f0 = y.f0 ∧ x.f2 = y.f2 ∧ eraL x.f1 = eraL y.f1 := by
  obtain ⟨a, l, is, p⟩ := x
  obtain ⟨a2, l2, is2, p2⟩ := y
  rw [era, era] at h
  injection h with h1 h2 h3 h4
  exact ⟨h1, h3, h2⟩
theorem eraL_get {a b : List S52} (h : eraL a = eraL b) (k : Nat) (h1 : k < a.length) (h2 : k < b.length) : era a[k] = era b[k] := by
  rw [eraL_map, eraL_map] at h
  have := congrArg (fun l => l[k]?) h
  simp only [List.getElem?_map, List.getElem?_eq_getElem h1, List.getElem?_eq_getElem h2, Option.map_some, Option.some.injEq] at this
  exact this
theorem Alike.at {pl : Bool} {x y : S52} (h : Alike pl x y) (k : Nat) (h1 : k < x.f1.length) (h2 : k < y.f1.length) : Alike pl x.f1[k] y.f1[k] :=
  ⟨eraL_get (era_parts h.1).2.2 k h1 h2, fun hp => by have := h.2 hp; subst this; rfl⟩
def SameEv (pl : Bool) (x y : S52) : Prop := Ev (fun k => tourbillonref04_Same.f k x.f0 x.f1 x.f2 x.f3.f0 x.f3.f1 y.f0 y.f1 y.f2 y.f3.f0 y.f3.f1 pl) true
theorem same_loop (pl : Bool) (x y : S52) (hl : x.f1.length = y.f1.length) (hb : x.f1.length ≤ 1073741824) (hs : ∀ k (h1 : k < x.f1.length) (h2 : k < y.f1.length), SameEv pl x.f1[k] y.f1[k]) : ∀ (d j : Nat), x.f1.length - j ≤ d → j ≤ x.f1.length →
    Ev (fun k => tourbillonref04_Same.l0 k pl (x.f1.length : Int) (j : Int) x.f0 x.f1 x.f2 x.f3.f0 x.f3.f1 y.f0 y.f1 y.f2 y.f3.f0 y.f3.f1) true := by
  intro d
  induction d with
  | zero =>
    intro j hd hj
    refine Ev.step (f := fun _ => some true) (fun k => ?_) (Ev.now _)
    simp only [tourbillonref04_Same.l0]
    rw [if_neg (by omega)]
  | succ d ih =>
    intro j hd hj
    by_cases hlt : j < x.f1.length
    · have e := hs j hlt (by omega)
      have hw : wrap64 ((j : Int) + 1) = ((j + 1 : Nat) : Int) := by rw [wr64 (by omega) (by omega)]; omega
      refine Ev.step (fun k => ?_) (Ev.bind e (f := fun k b => if b = true then tourbillonref04_Same.l0 k pl (x.f1.length : Int) ((j + 1 : Nat) : Int) x.f0 x.f1 x.f2 x.f3.f0 x.f3.f1 y.f0 y.f1 y.f2 y.f3.f0 y.f3.f1 else some false) ?_)
      · simp only [tourbillonref04_Same.l0]
        rw [if_pos (by omega), if_pos (by omega), if_pos (by omega), if_pos (by omega), rd52 _ _ hlt, rd52 _ _ (by omega), hw]
      · refine Ev.congr (fun n => ?_) (ih (j + 1) (by omega) (by omega))
        rw [if_pos rfl]
    · refine Ev.step (f := fun _ => some true) (fun k => ?_) (Ev.now _)
      simp only [tourbillonref04_Same.l0]
      rw [if_neg (by omega)]
theorem same_ev (pl : Bool) : ∀ (n : Nat) (x y : S52), parts x ≤ n → n ≤ 1073741824 → Alike pl x y → SameEv pl x y := by
  intro n
  induction n with
  | zero => intro x y h; have := parts_pos x; omega
  | succ n ih =>
    intro x y h hn ha
    obtain ⟨e0, e2, e1⟩ := era_parts ha.1
    have hl := like_len e1
    have hp := parts_eq x
    have hb : x.f1.length ≤ 1073741824 := by have := partsL_len x.f1; omega
    have hloop := same_loop pl x y hl hb (fun k h1 h2 => ih _ _ (by have := partsL_mem x.f1 _ (List.getElem_mem h1); omega) (by omega) (ha.at k h1 h2)) _ 0 (Nat.le_refl _) (Nat.zero_le _)
    have hj : Ev (fun k => tourbillonref04_Same.j0 k pl ((x.f1.length : Int) != (y.f1.length : Int)) x.f0 x.f1 x.f2 x.f3.f0 x.f3.f1 y.f0 y.f1 y.f2 y.f3.f0 y.f3.f1) true := by
      refine Ev.step (fun k => ?_) hloop
      simp only [tourbillonref04_Same.j0]
      rw [if_neg (by simp [hl])]
      rfl
    refine Ev.step (fun k => ?_) hj
    simp only [tourbillonref04_Same.f]
    rw [if_pos (by rw [e0]), if_neg (by rw [e2]; simp)]
    cases pl with
    | false => rw [if_neg (by simp)]
    | true =>
      have := ha.2 rfl
      subst this
      rw [if_pos rfl, if_neg (by simp)]
theorem same_calls (pl : Bool) (x y : S52) (h : parts x ≤ 1073741824) (ha : Alike pl x y) (A A2 : Option Addr) (c c2 : Nat) (w : World) (h1 : k52.C w A x.f1.length x.f1) (h2 : x.f1.length ≤ c) (h3 : k52.C w A2 y.f1.length y.f1) (h4 : y.f1.length ≤ c2) :
    Calls Tryd.prog 21 #[.agg #[.string x.f0, .slice A x.f1.length c, .bool x.f2, .int .i64 x.f3.f0, .int .i64 x.f3.f1], .agg #[.string y.f0, .slice A2 y.f1.length c2, .bool y.f2, .int .i64 y.f3.f0, .int .i64 y.f3.f1], .bool pl] w fun e w' => e = .returned (.bool true) ∧ Below w.heap.size w w' := by
  obtain ⟨k, hk⟩ := (same_ev pl _ x y h (Nat.le_refl _) ha).rounds
  exact tourbillonref04_Same.calls k _ A c _ _ _ _ _ A2 c2 _ _ _ _ pl true w h1 h2 h3 h4 hk
end Go.Proofs.YtlggmdlbhndacaaDoor.Lx.SameV
