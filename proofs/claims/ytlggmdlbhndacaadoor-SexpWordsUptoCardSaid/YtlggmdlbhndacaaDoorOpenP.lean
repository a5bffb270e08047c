import Derived.Test.YtlggmdlbhndacaaDoorSameV
import Derived.Test.YtlggmdlbhndacaaDoorRows
import Derived.ChangeArms
import Derived.Deep.Slices
import Derived.ChangeSame
/- A list or an atom that comes in, opened: as the walk reads it, with the bound of the second form. -/
namespace Go.Proofs.YtlggmdlbhndacaaDoor.Lx.OpenP
open Go.RowKit Go.Proofs.YtlggmdlbhndacaaDoorW.PrintWords Line LexV Mach SexpP PV BackP SameV Go.Proofs.YtlggmdlbhndacaaDoor.Lx.Text

mutual
/-- Its parts and letters. -/
def wt : S52 → Nat
  | ⟨a, l, _, _⟩ => 1 + a.size + wtL l
def wtL : List S52 → Nat
  | [] => 0
  | x :: r => wt x + wtL r
end
mutual
theorem parts_wt : ∀ x : S52, parts x ≤ wt x
  | ⟨a, l, is, p⟩ => by have := partsL_wt l; rw [parts, wt]; omega
theorem partsL_wt : ∀ l : List S52, partsL l ≤ wtL l
  | [] => by simp [partsL]
  | x :: r => by have := parts_wt x; have := partsL_wt r; rw [partsL, wtL]; omega
end
mutual
theorem txt_wt : ∀ x : S52, (txt x).length + 1 ≤ 3 * wt x
  | ⟨a, l, true, p⟩ => by
    have := items_wt false l
    rw [txt, if_pos rfl, wt]
    simp; omega
  | ⟨a, l, false, p⟩ => by
    have : a.data.toList.length = a.size := rfl
    rw [txt, if_neg (by simp), wt, this]
    omega
theorem items_wt : ∀ (b : Bool) (l : List S52), (items b l).length ≤ 3 * wtL l
  | b, [] => by simp [items]
  | b, x :: r => by
    have h1 := txt_wt x
    have h2 := items_wt true r
    rw [items, wtL, List.length_append, List.length_append]
    split <;> simp <;> omega
end
theorem bulkAll_append {H : Type} (l r : List (DataW H)) : Rows.uptoBulkAll (l ++ r) = Rows.uptoBulkAll l + Rows.uptoBulkAll r := by
  induction l with
  | nil => simp [Rows.uptoBulkAll]
  | cons x l ih => simp only [List.cons_append, Rows.uptoBulkAll, ih]; omega
theorem wtL_bulk {H : Type} : ∀ (l : List S52) (ds : List (DataW H)), l.length = ds.length → (∀ (i : Nat) (x : S52) (d : DataW H), l[i]? = some x → ds[i]? = some d → wt x ≤ Rows.uptoBulk d) → wtL l ≤ Rows.uptoBulkAll ds
  | [], _, _, _ => by simp [wtL]
  | x :: l, [], h, _ => by simp at h
  | x :: l, d :: ds, h, hx => by
    have h1 := hx 0 x d rfl rfl
    have h2 := wtL_bulk l ds (by simpa using h) (fun i y e hy he => hx (i + 1) y e hy he)
    rw [wtL, Rows.uptoBulkAll]
    omega
theorem five {α : Type} {cs : List α} (h : cs.length = 5) : ∃ a b c d e, cs = [a, b, c, d, e] := by
  match cs, h with
  | [a, b, c, d, e], _ => exact ⟨a, b, c, d, e, rfl⟩
theorem cells52 : Tryd.prog.cellsOf 52 = 5 := by kernel_rfl
theorem cells9 : Tryd.prog.cellsOf 9 = 1 := by kernel_rfl
theorem cells23 : Tryd.prog.cellsOf 23 = 1 := by kernel_rfl
theorem cells4 : Tryd.prog.cellsOf 4 = 1 := by kernel_rfl
theorem cells25 : Tryd.prog.cellsOf 25 = 2 := by kernel_rfl
theorem cells3 : Tryd.prog.cellsOf 3 = 1 := by kernel_rfl
/-- What a thing's cells are, told by what they lead to. -/
def Opened (W : World) (cs : List Value) (bulk : Nat) : Prop := ∃ (s : S52) (A : Option Addr) (c : Nat), cs = [.string s.f0, .slice A s.f1.length c, .bool s.f2, .int .i64 s.f3.f0, .int .i64 s.f3.f1] ∧ s.f1.length ≤ c ∧ k52.C W A s.f1.length s.f1 ∧ wt s ≤ bulk
section
variable {H : Type} {enc : TypeId × Value → H} {W : World} {sp : Nat → Bool} {held : Bool}
theorem open_slice52 {n : Nat} {c : Value} {x : DataW H × List MemPlace} (ih : ∀ k cs x, k < n → DataW.trod enc Tryd.prog W 0 sp held k 52 cs = some x → Opened W cs (Rows.uptoBulk x.1)) (h : DataW.trod enc Tryd.prog W 0 sp held n 23 [c] = some x) :
    ∃ (xs : List S52) (A : Option Addr) (cp : Nat), c = .slice A xs.length cp ∧ xs.length ≤ cp ∧ k52.C W A xs.length xs ∧ wtL xs ≤ Rows.uptoBulk x.1 := by
  rcases DataW.trod_slice Tryd.underlying23 h with ⟨hc, rfl⟩ | ⟨a, len, cap, elems, rest, m, rfl, hc, rfl, hb, hl, hm, hlen, hel, _, _⟩
  · injection hc with hc _
    subst hc
    exact ⟨[], none, 0, rfl, Nat.le_refl _, ⟨rfl, by simp, fun h => absurd h (by simp)⟩, by simp [wtL]⟩
  · injection hc with hc _
    subst hc
    have key : ∀ i, i < len → ∃ y, elems[i]? = some y ∧ ∃ cs, W.cells? 0 (a.add (i * 5)) 5 = some cs ∧ Opened W cs (Rows.uptoBulk y.1) := by
      intro i hi
      have h1 := hel i hi
      rw [List.getElem?_eq_getElem (by omega), cells52] at h1
      obtain ⟨cs, h2, h3⟩ := Option.bind_eq_some_iff.1 h1
      exact ⟨elems[i], List.getElem?_eq_getElem (by omega), cs, h2, ih m cs _ (Nat.lt_succ_self m) h3⟩
    have pick : ∀ i, i < len → ∃ s : S52, ∃ y, elems[i]? = some y ∧ wt s ≤ Rows.uptoBulk y.1 ∧ ∃ cs, cs.length = 5 ∧ k52.K W s cs ∧ ∀ j u, cs[j]? = some u → W.cell? (a.add (i * 5 + j)) = some u := by
      intro i hi
      obtain ⟨y, hy, cs, h2, s, A, c, rfl, hsc, hC, hw⟩ := key i hi
      obtain ⟨_, h4, h5⟩ := World.cells?_some h2
      refine ⟨s, y, hy, hw, _, rfl, k52_mk W s hsc hC, fun j u hu => ?_⟩
      have hj : j < 5 := by
        rcases Nat.lt_or_ge j 5 with h | h
        · exact h
        · rw [List.getElem?_eq_none (by simpa using h)] at hu; cases hu
      have := h5 j hj
      rw [add_add] at this
      rw [this]; exact hu
    obtain ⟨xs, hxl, hx⟩ : ∃ xs : List S52, xs.length = len ∧ ∀ i s, xs[i]? = some s → ∃ y, elems[i]? = some y ∧ wt s ≤ Rows.uptoBulk y.1 ∧ ∃ cs, cs.length = 5 ∧ k52.K W s cs ∧ ∀ j u, cs[j]? = some u → W.cell? (a.add (i * 5 + j)) = some u := by
      have pick' : ∀ k, k ≤ len → ∃ xs : List S52, xs.length = k ∧ ∀ i s, xs[i]? = some s → ∃ y, elems[i]? = some y ∧ wt s ≤ Rows.uptoBulk y.1 ∧ ∃ cs, cs.length = 5 ∧ k52.K W s cs ∧ ∀ j u, cs[j]? = some u → W.cell? (a.add (i * 5 + j)) = some u := by
        intro k
        induction k with
        | zero => exact fun _ => ⟨[], rfl, fun i s h => by cases h⟩
        | succ k ihk =>
          intro hk
          obtain ⟨xs, h1, h2⟩ := ihk (by omega)
          obtain ⟨s, hs⟩ := pick k (by omega)
          refine ⟨xs ++ [s], by simp [h1], fun i t ht => ?_⟩
          by_cases hi : i < xs.length
          · rw [List.getElem?_append_left hi] at ht
            exact h2 i t ht
          · rw [List.getElem?_append_right (by omega)] at ht
            have : i - xs.length = 0 := by
              rcases Nat.eq_zero_or_pos (i - xs.length) with h | h
              · exact h
              · rw [List.getElem?_eq_none (by simp; omega)] at ht; cases ht
            rw [this] at ht
            injection ht with ht
            subst ht
            obtain rfl : i = k := by omega
            exact hs
      exact pick' len (Nat.le_refl _)
    subst hxl
    refine ⟨xs, some a, cap, rfl, hl, ⟨rfl, by unfold maxLen at hm; omega, fun _ => ⟨a, rfl, fun j s hs => ?_⟩⟩, ?_⟩
    · obtain ⟨y, _, _, cs, h1, h2, h3⟩ := hx j s hs
      exact ⟨cs, h1, h2, h3⟩
    · have hb1 : wtL xs ≤ Rows.uptoBulkAll (elems.map (·.1)) := wtL_bulk xs _ (by simp [hlen]) (fun i s d hs hd => by
        obtain ⟨y, hy, hw, _⟩ := hx i s hs
        rw [List.getElem?_map, hy] at hd
        injection hd with hd
        rw [← hd]; exact hw)
      show wtL xs ≤ Rows.uptoBulk (.slice _ _)
      rw [Rows.uptoBulk]
      omega
theorem open52 : ∀ (n fuel : Nat) (cs : List Value) (x : DataW H × List MemPlace), fuel < n → DataW.trod enc Tryd.prog W 0 sp held fuel 52 cs = some x → Opened W cs (Rows.uptoBulk x.1) := by
  intro n
  induction n with
  | zero => intro fuel cs x h; omega
  | succ n ih =>
    intro fuel cs x hf h
    obtain ⟨xs, m, rfl, rfl, hl, hlen, hx⟩ := DataW.trod_struct Tryd.underlying52 h
    rw [cells52] at hl
    obtain ⟨v0, v1, v2, v3, v4, rfl⟩ := five hl
    match xs, hlen with
    | [y0, y1, y2, y3], _ =>
      have h0 : DataW.trod enc Tryd.prog W 0 sp held m 9 [v0] = some y0 := by simpa [cells9] using hx 0 _ rfl
      have h1 : DataW.trod enc Tryd.prog W 0 sp held m 23 [v1] = some y1 := by simpa [cells23] using hx 1 _ rfl
      have h2 : DataW.trod enc Tryd.prog W 0 sp held m 4 [v2] = some y2 := by simpa [cells4] using hx 2 _ rfl
      have h3 : DataW.trod enc Tryd.prog W 0 sp held m 25 [v3, v4] = some y3 := by simpa [cells25] using hx 3 _ rfl
      obtain ⟨a, e0, q0, _⟩ := DataW.trod_string Tryd.underlying9 h0
      obtain ⟨ys, A, c, e1, hc, hC, hw⟩ := open_slice52 (fun k cs x hk => ih k cs x (by omega)) h1
      obtain ⟨b, e2, _⟩ := DataW.trod_bool Tryd.underlying4 h2
      obtain ⟨z0, z1, m2, _, _, g0, g1⟩ := ChangeShapes.trod_struct2 Tryd.underlying25 h3
      have g0' : DataW.trod enc Tryd.prog W 0 sp held m2 3 [v3] = some z0 := by simpa [cells3] using g0
      have g1' : DataW.trod enc Tryd.prog W 0 sp held m2 3 [v4] = some z1 := by simpa [cells3] using g1
      obtain ⟨i, e3, _⟩ := DataW.trod_int Tryd.underlying3 g0'
      obtain ⟨j, e4, _⟩ := DataW.trod_int Tryd.underlying3 g1'
      injection e0 with e0 _
      injection e2 with e2 _
      injection e3 with e3 _
      injection e4 with e4 _
      subst e0; subst e1; subst e2; subst e3; subst e4; subst q0
      refine ⟨⟨a, ys, b, ⟨i, j⟩⟩, A, c, rfl, hc, hC, ?_⟩
      have hsz : a.data.toList.length = a.size := rfl
      show wt _ ≤ Rows.uptoBulk (.agg [_, _, _, _])
      rw [wt, Rows.uptoBulk]
      simp only [Rows.uptoBulkAll, Rows.uptoBulk, hsz]
      omega
end
end Go.Proofs.YtlggmdlbhndacaaDoor.Lx.OpenP
