import Derived.Test.YtlggmdlbhndacaaDoorLexV
import Derived.Test.YtlggmdlbhndacaaDoorLxx8
/- What the reference's Cut, Line and Lex answer, in plain words. -/
namespace Go.Proofs.YtlggmdlbhndacaaDoor.Lx.RefV
open Go.RowKit Go.Proofs.YtlggmdlbhndacaaDoorW.PrintWords Line LexV

theorem bt_eq (s : ByteArray) (i : Nat) (c : UInt8) (t : List UInt8) (h : s.data.toList.drop i = c :: t) : bt s (i : Int) = (c.toNat : Int) ∧ i < s.size ∧ s.data.toList.drop (i + 1) = t := by
  have hi : i < s.data.toList.length := by
    rcases Nat.lt_or_ge i s.data.toList.length with h' | h'
    · exact h'
    · rw [List.drop_eq_nil_of_le h'] at h; cases h
  have hi' : i < s.size := hi
  rw [List.drop_eq_getElem_cons hi] at h
  injection h with h1 h2
  refine ⟨?_, hi', h2⟩
  unfold bt
  rw [dif_pos (show ((i : Int)).toNat < s.size from hi')]
  rw [← h1]; rfl
theorem drop_nil (s : ByteArray) (i : Nat) (h : s.data.toList.drop i = []) : s.size ≤ i := by
  have := congrArg List.length h
  simp at this
  omega
theorem ext_list (s : ByteArray) (i j : Nat) : (s.extract i j).data.toList = (s.data.toList.drop i).take (j - i) := by
  rw [ByteArray.data_extract, Array.toList_extract, List.extract]
theorem nat_w {a b : Nat} (ha : a ≤ 4294967296) (hb : b ≤ 4294967296) : wrap64 ((a : Int) + (b : Int)) = ((a + b : Nat) : Int) := by rw [wr64 (by omega) (by omega)]; omega
theorem nat_w1 {a : Nat} (ha : a ≤ 4294967296) : wrap64 ((a : Int) + 1) = ((a + 1 : Nat) : Int) := by rw [wr64 (by omega) (by omega)]; omega

/-! ### Cut -/
theorem cut_ev_loop (s : ByteArray) (hs : s.size ≤ 1073741824) (d : Nat) : ∀ (i f : Nat) (acc : List ByteArray), s.size - i = d → i ≤ s.size → f ≤ i → acc.length ≤ i →
    ∃ X, Ev (fun k => tourbillonref03_Cut.l0 k s acc (f : Int) (i : Int)) (acc ++ X) ∧ ∃ h t, cut (s.data.toList.drop i) = h :: t ∧ X.map (fun y => y.data.toList) = ((s.data.toList.drop f).take (i - f) ++ h) :: t := by
  induction d with
  | zero =>
    intro i f acc hd hi hf ha
    have hn : s.data.toList.drop i = [] := List.drop_eq_nil_of_le (by simp; omega)
    refine ⟨[s.extract f s.size], ?_, [], [], by rw [hn]; rfl, ?_⟩
    · refine Ev.step (f := fun _ => some (acc ++ [s.extract f s.size])) (fun k => ?_) (Ev.now _)
      simp only [tourbillonref03_Cut.l0]
      rw [if_neg (by omega), if_pos (by omega), if_pos (by omega), if_pos (by omega)]; rfl
    · rw [List.map_cons, ext_list, show s.size - f = i - f by omega]; simp
  | succ d ih =>
    intro i f acc hd hi hf ha
    cases hc : s.data.toList.drop i with
    | nil => have := drop_nil s i hc; omega
    | cons c t =>
      obtain ⟨hb, hlt, hdr⟩ := bt_eq s i c t hc
      by_cases h10 : c = 10
      · obtain ⟨X, hX, h, t', hcut, hmap⟩ := ih (i + 1) (i + 1) (acc ++ [s.extract f i]) (by omega) (by omega) (by omega) (by simp; omega)
        refine ⟨s.extract f i :: X, ?_, [], cut t, by rw [cut, if_pos h10], ?_⟩
        · rw [show acc ++ s.extract f i :: X = (acc ++ [s.extract f i]) ++ X by simp]
          refine Ev.step (fun k => ?_) hX
          simp only [tourbillonref03_Cut.l0]
          rw [if_pos (by omega), if_pos (by omega), hb, if_pos (by rw [h10]; rfl), if_pos (by omega), if_pos (by omega), if_pos (by omega), if_pos (by omega), nat_w1 (by omega)]; rfl
        · rw [hdr] at hcut
          rw [List.map_cons, ext_list, hmap, hcut]; simp
      · obtain ⟨X, hX, h, t', hcut, hmap⟩ := ih (i + 1) f acc (by omega) (by omega) (by omega) (by omega)
        rw [hdr] at hcut
        obtain ⟨a, t2, e1, e2⟩ := cut_cons c t h10
        rw [hcut] at e1
        injection e1 with e1 e3
        subst e1
        subst e3
        refine ⟨X, ?_, c :: h, t', e2, ?_⟩
        · refine Ev.step (fun k => ?_) hX
          simp only [tourbillonref03_Cut.l0]
          rw [if_pos (by omega), if_pos (by omega), hb, if_neg (by intro hh; apply h10; apply UInt8.toNat_inj.1; show c.toNat = 10; omega), nat_w1 (by omega)]
        · rw [hmap]
          congr 1
          have e4 : (s.data.toList.drop f).take (i + 1 - f) = (s.data.toList.drop f).take (i - f) ++ [c] := by
            rw [show i + 1 - f = (i - f) + 1 by omega, List.take_add_one, List.getElem?_drop, show f + (i - f) = i by omega]
            have : s.data.toList[i]? = some c := by
              have h5 := congrArg List.head? hc
              rw [List.head?_drop] at h5
              exact h5
            rw [this]; rfl
          rw [e4]; simp
theorem cut_ev (s : ByteArray) (hs : s.size ≤ 1073741824) : ∃ X, Ev (fun k => tourbillonref03_Cut.f k s) X ∧ X.map (fun y => y.data.toList) = cut s.data.toList := by
  obtain ⟨X, hX, h, t, hcut, hmap⟩ := cut_ev_loop s hs s.size 0 0 [] (by omega) (by omega) (by omega) (by simp)
  refine ⟨X, hX, ?_⟩
  rw [hmap]
  rw [List.drop_zero] at hcut
  rw [hcut]; simp

/-! ### Line -/
def tokR (n : Int) (t : Tk) : S40 := ⟨t.kind, ⟨t.text.toArray⟩, ⟨n, (t.col : Int)⟩⟩
def finR (n : Int) (acc : List S40) : Except Nat (List Tk) → List S40 × Int
  | .ok ts => (acc ++ ts.map (tokR n), 0)
  | .error c => ([], (c : Int))
theorem finR_cons (n : Int) (acc : List S40) (t : Tk) (r : Except Nat (List Tk)) : finR n acc (r.map (t :: ·)) = finR n (acc ++ [tokR n t]) r := by
  cases r with
  | error c => rfl
  | ok ts => simp [finR, Except.map]
/-- Behind the count of an atom's bytes. -/
def endE (s : ByteArray) (n : Int) (acc : List S40) (i m : Int) (k : Nat) : Option (List S40 × Int) :=
  if m = 0 then (some (([] : List (S40)), wrap64 (i + 1))) else (if m > 32 then (some (([] : List (S40)), wrap64 (i + 1))) else (if 0 ≤ i then (if i ≤ (wrap64 (i + m)) then (if (wrap64 (i + m)) ≤ (s.size : Int) then (if acc.length < 3518437208883 then (tourbillonref03_Line.l0 k s n (acc ++ [(⟨3, s.extract (i : Int).toNat ((wrap64 (i + m)) : Int).toNat, (⟨n, i + 1⟩ : S25)⟩ : S40)]) (wrap64 (i + ((s.extract (i : Int).toNat ((wrap64 (i + m)) : Int).toNat).size : Int)))) else (none)) else (none)) else (none)) else (none)))
theorem count_ev (s : ByteArray) (hs : s.size ≤ 1048576) (n : Int) (acc : List S40) (i M : Nat) (r : List S40 × Int) (hM : M = ((s.data.toList.drop i).takeWhile plain).length) (hi : i ≤ s.size) (hE : Ev (endE s n acc i M) r) (d : Nat) :
    ∀ m : Nat, M - m = d → m ≤ M → Ev (fun k => tourbillonref03_Line.l1 k s n acc (i : Int) (m : Int) 0 (⟨#[]⟩ : ByteArray) n ((i : Int) + 1)) r := by
  have hle : M ≤ s.size - i := by
    have := (List.takeWhile_sublist (p := plain) (l := s.data.toList.drop i)).length_le
    simp at this; omega
  induction d with
  | zero =>
    intro m hm hm2
    obtain rfl : m = M := by omega
    refine Ev.step (fun k => ?_) hE
    have hw := nat_w (a := i) (b := m) (by omega) (by omega)
    simp only [tourbillonref03_Line.l1, endE, hw]
    by_cases hlt : i + m < s.size
    · cases hc : s.data.toList.drop (i + m) with
      | nil => have := drop_nil s _ hc; omega
      | cons c t =>
        obtain ⟨hb, _, _⟩ := bt_eq s (i + m) c t hc
        have hp : plain c = false := by
          cases hp : plain c with
          | false => rfl
          | true =>
            exfalso
            have h1 : s.data.toList.drop i = (s.data.toList.drop i).takeWhile plain ++ (s.data.toList.drop i).dropWhile plain := (List.takeWhile_append_dropWhile).symm
            have h2 : (s.data.toList.drop i).dropWhile plain = c :: t := by
              have h3 := congrArg (List.drop m) h1
              rw [List.drop_drop, List.drop_left' hM.symm, hc] at h3
              exact h3.symm
            have h4 := List.head?_dropWhile_not plain (s.data.toList.drop i)
            rw [h2] at h4
            simp [hp] at h4
        rw [plain_int] at hp
        rw [if_pos (by omega), if_pos (by omega), hb]
        have h5 := c.toNat_lt
        generalize (c.toNat : Int) = x at hp
        by_cases g1 : x ≥ 33
        · rw [if_pos g1]
          by_cases g2 : x ≤ 126
          · rw [if_pos g2]
            by_cases g3 : x = 40
            · rw [if_pos g3]
            · rw [if_neg g3]
              by_cases g4 : x = 41
              · rw [if_pos g4]
              · rw [if_neg g4]
                have g5 : x = 59 := by
                  rw [decide_eq_true (by omega), decide_eq_true (by omega)] at hp
                  simpa [g3, g4] using hp
                rw [if_pos g5]
          · rw [if_neg g2]
        · rw [if_neg g1]
    · rw [if_neg (by omega)]
  | succ d ih =>
    intro m hm hm2
    refine Ev.step (fun k => ?_) (ih (m + 1) (by omega) (by omega))
    have hw := nat_w (a := i) (b := m) (by omega) (by omega)
    simp only [tourbillonref03_Line.l1, hw]
    cases hc : s.data.toList.drop (i + m) with
    | nil => have := drop_nil s _ hc; omega
    | cons c t =>
      obtain ⟨hb, _, _⟩ := bt_eq s (i + m) c t hc
      have hp : plain c = true := by
        have h1 : ((s.data.toList.drop i).takeWhile plain)[m]? = some c := by
          have h2 : (s.data.toList.drop i)[m]? = some c := by
            rw [List.getElem?_drop]
            have h5 := congrArg List.head? hc
            rw [List.head?_drop] at h5
            exact h5
          have h3 := List.prefix_iff_getElem?.1 (List.takeWhile_prefix (l := s.data.toList.drop i) plain) m (by omega)
          rw [h2] at h3
          rw [List.getElem?_eq_getElem (by omega), h3]
        exact (List.all_eq_true.1 (List.all_takeWhile (p := plain) (l := s.data.toList.drop i))) c (List.mem_of_getElem? h1)
      rw [plain_int] at hp
      rw [if_pos (by omega), if_pos (by omega), hb]
      generalize (c.toNat : Int) = x at hp
      simp only [Bool.and_eq_true, decide_eq_true_eq, bne_iff_ne, ne_eq] at hp
      obtain ⟨p1, p2, p3, p4, p5⟩ := hp
      rw [if_pos (by omega), if_pos (by omega), if_neg p3, if_neg p4, if_neg p5, nat_w1 (by omega)]

theorem one_text (s : ByteArray) (i : Nat) (c : UInt8) (t : List UInt8) (h : s.data.toList.drop i = c :: t) : s.extract (i : Int).toNat ((i + 1 : Nat) : Int).toNat = ⟨[c].toArray⟩ := by
  apply ByteArray.ext
  apply Array.ext'
  rw [ext_list]
  show (s.data.toList.drop i).take (i + 1 - i) = [c]
  rw [h, Nat.add_sub_cancel_left]; rfl
theorem run_text (s : ByteArray) (i M : Nat) (hM : M = ((s.data.toList.drop i).takeWhile plain).length) : s.extract (i : Int).toNat ((i + M : Nat) : Int).toNat = ⟨((s.data.toList.drop i).takeWhile plain).toArray⟩ := by
  apply ByteArray.ext
  apply Array.ext'
  rw [ext_list]
  show (s.data.toList.drop i).take (i + M - i) = (s.data.toList.drop i).takeWhile plain
  rw [Nat.add_sub_cancel_left, hM]
  exact (List.prefix_iff_eq_take.1 (List.takeWhile_prefix plain)).symm
theorem line_ev (s : ByteArray) (hs : s.size ≤ 1048576) (n : Int) (d : Nat) : ∀ (i : Nat) (acc : List S40), s.size - i ≤ d → i ≤ s.size → acc.length ≤ i →
    Ev (fun k => tourbillonref03_Line.l0 k s n acc (i : Int)) (finR n acc (scan (s.data.toList.drop i) i)) := by
  induction d with
  | zero =>
    intro i acc hd hi ha
    have hn : s.data.toList.drop i = [] := List.drop_eq_nil_of_le (by simp; omega)
    rw [hn, scan_nil]
    refine Ev.step (f := fun k => tourbillonref03_Line.j1 k s n acc (i : Int) false) (fun k => ?_) ?_
    · simp only [tourbillonref03_Line.l0]
      rw [if_neg (by omega)]
    · refine Ev.step (f := fun _ => some (finR n acc (.ok []))) (fun k => ?_) (Ev.now _)
      simp only [tourbillonref03_Line.j1]
      rw [if_neg (by simp)]
      simp [finR]
  | succ d ih =>
    intro i acc hd hi ha
    cases hc : s.data.toList.drop i with
    | nil =>
      have hsz := drop_nil s i hc
      rw [scan_nil]
      refine Ev.step (f := fun k => tourbillonref03_Line.j1 k s n acc (i : Int) false) (fun k => ?_) ?_
      · simp only [tourbillonref03_Line.l0]
        rw [if_neg (by omega)]
      · refine Ev.step (f := fun _ => some (finR n acc (.ok []))) (fun k => ?_) (Ev.now _)
        simp only [tourbillonref03_Line.j1]
        rw [if_neg (by simp)]
        simp [finR]
    | cons c t =>
      obtain ⟨hb, hlt, hdr⟩ := bt_eq s i c t hc
      have hw := nat_w1 (a := i) (by omega)
      have hword := white_int c
      have eq_of : ∀ m : Nat, m < 256 → ((c.toNat : Int) = (m : Int) ↔ c = UInt8.ofNat m) := fun m hm => by
        constructor
        · intro h
          apply UInt8.toNat_inj.1
          rw [UInt8.toNat_ofNat', Nat.mod_eq_of_lt (by omega)]; omega
        · rintro rfl
          rw [UInt8.toNat_ofNat', Nat.mod_eq_of_lt (by omega)]
      have e59 : (c.toNat : Int) = 59 ↔ c = 59 := eq_of 59 (by omega)
      have e40 : (c.toNat : Int) = 40 ↔ c = 40 := eq_of 40 (by omega)
      have e41 : (c.toNat : Int) = 41 ↔ c = 41 := eq_of 41 (by omega)
      clear eq_of
      refine Ev.step (f := fun k => tourbillonref03_Line.j1 k s n acc (i : Int) ((c.toNat : Int) != 59)) (fun k => ?_) ?_
      · simp only [tourbillonref03_Line.l0]
        rw [if_pos (by omega), if_pos (by omega), hb]
      by_cases c1 : c = 59
      · rw [scan_semi _ _ _ c1]
        refine Ev.step (f := fun _ => some (finR n acc (.ok []))) (fun k => ?_) (Ev.now _)
        simp only [tourbillonref03_Line.j1]
        rw [if_neg (by simp [e59.2 c1])]
        simp [finR]
      · have c1' : ¬ (c.toNat : Int) = 59 := fun h => c1 (e59.1 h)
        refine Ev.step (f := fun k => tourbillonref03_Line.j2 k s n acc (i : Int) (c.toNat : Int) (white c)) (fun k => ?_) ?_
        · simp only [tourbillonref03_Line.j1]
          rw [if_pos (by simp [c1']), if_pos (by omega), if_pos (by omega), hb, hword]
          by_cases w1 : (c.toNat : Int) = 32
          · rw [if_pos w1, w1]; rfl
          · rw [if_neg w1]
            by_cases w2 : (c.toNat : Int) = 9
            · rw [if_pos w2, w2]; rfl
            · rw [if_neg w2]
              have b1 : ((c.toNat : Int) == 32) = false := by simp [w1]
              have b2 : ((c.toNat : Int) == 9) = false := by simp [w2]
              rw [b1, b2]; rfl
        cases c2 : white c with
        | true =>
          rw [scan_white _ _ _ c1 c2, ← hdr]
          refine Ev.step (fun k => ?_) (ih (i + 1) acc (by omega) (by omega) (by omega))
          simp only [tourbillonref03_Line.j2]
          rw [if_pos trivial, hw]
        | false =>
          have ho := one_text s i c t hc
          refine Ev.step (f := fun k => tourbillonref03_Line.j3 k s n acc (i : Int) (c.toNat : Int) (decide (c = 40) || decide (c = 41)) 0 (⟨#[]⟩ : ByteArray) n ((i : Int) + 1)) (fun k => ?_) ?_
          · simp only [tourbillonref03_Line.j2]
            rw [if_neg (by simp), hw]
            by_cases c3 : c = 40
            · rw [if_pos (e40.2 c3), decide_eq_true c3]; rfl
            · rw [if_neg (fun h => c3 (e40.1 h)), decide_eq_false c3]
              have : ((c.toNat : Int) == 41) = decide (c = 41) := by
                rw [Bool.eq_iff_iff, beq_iff_eq, decide_eq_true_iff]; exact e41
              rw [this]; rfl
          have hsz1 : ((⟨[c].toArray⟩ : ByteArray).size : Int) = 1 := rfl
          by_cases c3 : c = 40
          · rw [scan_open _ _ _ c3, finR_cons, ← hdr]
            refine Ev.step (fun k => ?_) (ih (i + 1) _ (by omega) (by omega) (by simp; omega))
            simp only [tourbillonref03_Line.j3]
            rw [if_pos (by simp [c3]), if_neg (by rw [e41]; rw [c3]; decide), if_pos (by omega), hw, if_pos (by omega), if_pos (by omega), if_pos (by omega), ho, hsz1, hw]
            rfl
          · by_cases c4 : c = 41
            · rw [scan_close _ _ _ c4, finR_cons, ← hdr]
              refine Ev.step (fun k => ?_) (ih (i + 1) _ (by omega) (by omega) (by simp; omega))
              simp only [tourbillonref03_Line.j3]
              rw [if_pos (by simp [c4]), if_pos (e41.2 c4), if_pos (by omega), hw, if_pos (by omega), if_pos (by omega), if_pos (by omega), ho, hsz1, hw]
              rfl
            · refine Ev.step (f := fun k => tourbillonref03_Line.l1 k s n acc (i : Int) ((0 : Nat) : Int) 0 (⟨#[]⟩ : ByteArray) n ((i : Int) + 1)) (fun k => ?_) ?_
              · simp only [tourbillonref03_Line.j3]
                rw [if_neg (by simp [c3, c4])]; rfl
              have hle : ((c :: t).takeWhile plain).length ≤ s.size - i := by
                have := (List.takeWhile_sublist (p := plain) (l := s.data.toList.drop i)).length_le
                rw [hc] at this
                have h2 := congrArg List.length hc
                simp at h2 this ⊢; omega
              obtain ⟨M, hM⟩ : ∃ M, M = ((c :: t).takeWhile plain).length := ⟨_, rfl⟩
              by_cases c5 : ((c :: t).takeWhile plain).length = 0 ∨ 32 < ((c :: t).takeWhile plain).length
              · rw [scan_bad _ _ _ c1 c2 c3 c4 c5]
                rw [← hM] at c5 hle
                refine count_ev s hs n acc i M _ (by rw [hc]; exact hM) hi ?_ _ 0 rfl (Nat.zero_le _)
                refine Ev.congr (fun k => ?_) (Ev.now _)
                unfold endE
                rw [hw]
                by_cases c6 : M = 0
                · rw [if_pos (by omega)]; rfl
                · rw [if_neg (by omega), if_pos (by omega)]; rfl
              · rw [scan_atom _ _ _ c1 c2 c3 c4 c5, finR_cons]
                have c5' : ¬ (M = 0 ∨ 32 < M) := by rw [hM]; exact c5
                have hle' : M ≤ s.size - i := by rw [hM]; exact hle
                have g0 : ¬ ((M : Int) = 0) := by omega
                have g1 : ¬ ((M : Int) > 32) := by omega
                have g2 : (0 : Int) ≤ (i : Int) := by omega
                have g3 : (i : Int) ≤ ((i + M : Nat) : Int) := by omega
                have g4 : ((i + M : Nat) : Int) ≤ (s.size : Int) := by omega
                have g5 : acc.length < 3518437208883 := by omega
                have g6 : s.size - (i + M) ≤ d := by omega
                have g7 : i + M ≤ s.size := by omega
                have g8 : acc.length + 1 ≤ i + M := by omega
                have hm := nat_w (a := i) (b := M) (by omega) (by omega)
                have ht := run_text s i M (by rw [hc]; exact hM)
                have hsz2 : ((⟨((c :: t).takeWhile plain).toArray⟩ : ByteArray).size : Int) = (M : Nat) := by
                  show ((((c :: t).takeWhile plain).toArray.size : Nat) : Int) = _
                  rw [List.size_toArray, hM]
                rw [← hM]
                have hdd : s.data.toList.drop (i + M) = (c :: t).drop M := by rw [← hc, List.drop_drop]
                refine count_ev s hs n acc i M _ (by rw [hc]; exact hM) hi ?_ _ 0 rfl (Nat.zero_le _)
                generalize hx : tokR n ⟨3, (c :: t).takeWhile plain, i + 1⟩ = x
                have hi2 := ih (i + M) (acc ++ [x]) g6 g7 (by rw [List.length_append]; exact g8)
                rw [hdd] at hi2
                refine Ev.congr (fun k => ?_) hi2
                unfold endE
                rw [if_neg g0, if_neg g1, if_pos g2, hm, if_pos g3, if_pos g4, if_pos g5, ht, hc]
                rw [hsz2, hm, ← hx]
                rfl

/-! ### Lex -/
def lexFinR (acc : List S40) : Except (Nat × Nat) (List (Nat × Tk)) → List S40 × Int × Int
  | .ok ts => (acc ++ ts.map (fun p => tokR p.1 p.2), 0, 0)
  | .error e => ([], e.1, e.2)
theorem rloop_ev (ys : List ByteArray) : ∀ (xs : List ByteArray) (i : Nat) (acc : List S40), xs.drop i = ys → acc.length + (ys.map ByteArray.size).sum ≤ 1048576 → xs.length ≤ 4294967296 →
    Ev (fun k => tourbillonref03_Lex.l0 k acc xs (xs.length : Int) (i : Int)) (lexFinR acc (lexAll (ys.map fun y => y.data.toList) (i + 1))) := by
  induction ys with
  | nil =>
    intro xs i acc hx _ _
    have hi : xs.length ≤ i := by
      rcases Nat.lt_or_ge i xs.length with h' | h'
      · rw [List.drop_eq_getElem_cons h'] at hx; cases hx
      · exact h'
    refine Ev.step (f := fun _ => some (lexFinR acc (lexAll [] (i + 1)))) (fun k => ?_) (Ev.now _)
    simp only [tourbillonref03_Lex.l0]
    rw [if_neg (by omega)]
    simp [lexAll, lexFinR]
  | cons y ys ih =>
    intro xs i acc hx hb hl
    obtain ⟨hr, hi, hd⟩ := rd_at xs i y ys hx
    have hy : y.size ≤ 1048576 := by simp at hb; omega
    have hw : wrap64 ((i : Int) + 1) = ((i + 1 : Nat) : Int) := nat_w1 (by omega)
    have hline := line_ev y hy ((i + 1 : Nat) : Int) y.size 0 [] (by omega) (by omega) (by simp)
    rw [List.drop_zero] at hline
    rw [List.map_cons, lexAll]
    refine Ev.step (f := fun k => (tourbillonref03_Line.f k y ((i + 1 : Nat) : Int)).bind fun bt160 => (if bt160.2 > 0 then (some (([] : List (S40)), ((i + 1 : Nat) : Int), bt160.2)) else (if acc.length + bt160.1.length < 3518437208883 then (tourbillonref03_Lex.l0 k (acc ++ bt160.1) xs (xs.length : Int) ((i + 1 : Nat) : Int)) else (none)))) (fun k => ?_) ?_
    · simp only [tourbillonref03_Lex.l0]
      rw [if_pos (by omega), if_pos (by omega), if_pos (by omega), hr, hw]
    cases hs : scan y.data.toList 0 with
    | error c =>
      have hc := scan_err hs
      rw [hs] at hline
      have hline' : Ev (fun k => tourbillonref03_Line.f k y ((i + 1 : Nat) : Int)) (([] : List S40), (c : Int)) := hline
      refine Ev.bind hline' ?_
      refine Ev.congr (fun k => ?_) (Ev.now _)
      rw [if_pos (by omega)]
      rfl
    | ok ts =>
      have hts := scan_len hs
      have hsz : y.data.toList.length = y.size := rfl
      have h2 : (acc ++ (ts.map (tokR ((i + 1 : Nat) : Int)))).length + (ys.map ByteArray.size).sum ≤ 1048576 := by
        simp at hb ⊢; omega
      have he : lexFinR acc ((lexAll (ys.map fun y => y.data.toList) (i + 1 + 1)).map (ts.map (fun t => (i + 1, t)) ++ ·)) = lexFinR (acc ++ (ts.map (tokR ((i + 1 : Nat) : Int)))) (lexAll (ys.map fun y => y.data.toList) (i + 1 + 1)) := by
        cases lexAll (ys.map fun y => y.data.toList) (i + 1 + 1) with
        | error e => rfl
        | ok us => simp [lexFinR, Except.map]
      simp only
      rw [he]
      rw [hs] at hline
      have hline' : Ev (fun k => tourbillonref03_Line.f k y ((i + 1 : Nat) : Int)) (ts.map (tokR ((i + 1 : Nat) : Int)), 0) := hline
      refine Ev.bind hline' ?_
      refine Ev.congr (fun k => ?_) (ih xs (i + 1) (acc ++ (ts.map (tokR ((i + 1 : Nat) : Int)))) hd h2 hl)
      rw [if_neg (by omega), if_pos (by simp at hb ⊢; omega)]
/-- The reference's Lex, told, of a text of at most 2^20 bytes. -/
theorem rlex_ev (s : ByteArray) (h : s.size ≤ 1048576) : Ev (fun k => tourbillonref03_Lex.f k s) (lexFinR [] (lex s.data.toList)) := by
  obtain ⟨xs, hX, hl⟩ := cut_ev s (by omega)
  have hlen := cut_len s.data.toList
  have hsz : s.data.toList.length = s.size := rfl
  have hxl : xs.length = (cut s.data.toList).length := by rw [← hl]; simp
  have hpos := List.length_pos_iff.2 (cut_ne s.data.toList)
  have e := rloop_ev xs xs 0 [] rfl (by rw [size_sum, hl]; simp; omega) (by omega)
  rw [hl] at e
  refine Ev.congr (f := fun k => (tourbillonref03_Cut.f k s).bind fun t156 => (tourbillonref03_Lex.l0 k ([] : List (S40)) t156 (t156.length : Int) 0)) (fun k => rfl) ?_
  exact Ev.bind (g := fun k => tourbillonref03_Cut.f k s) hX e
end Go.Proofs.YtlggmdlbhndacaaDoor.Lx.RefV
