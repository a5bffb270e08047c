import Derived.Test.YtlggmdlbhndacaaDoorLinesP
/- LexJoins walked: it answers true at every pair of texts. -/
namespace Go.Proofs.YtlggmdlbhndacaaDoor.Lx.WalkJoins
open Go.RowKit Go.Proofs.YtlggmdlbhndacaaDoorW.PrintWords Go.Proofs.YtlggmdlbhndacaaDoorW.PrintLast Go.Proofs.YtlggmdlbhndacaaDoorW.PrintMore Line LexV RefV Use WalkIs LinesP

theorem lexAll_shift (ls : List (List UInt8)) (d : Nat) : ∀ m, lexAll ls (m + d) = match lexAll ls m with | .error e => .error (e.1 + d, e.2) | .ok ts => .ok (ts.map fun p => (p.1 + d, p.2)) := by
  induction ls with
  | nil => intro m; rfl
  | cons x ls ih =>
    intro m
    rw [lexAll, lexAll]
    cases scan x 0 with
    | error c => rfl
    | ok us =>
      simp only
      rw [show m + d + 1 = m + 1 + d by omega, ih]
      cases lexAll ls (m + 1) with
      | error e => rfl
      | ok vs => simp [Except.map]
theorem lex_join (a b : List UInt8) : lex (a ++ 10 :: b) = match lex a with
    | .error e => .error e
    | .ok ts => match lex b with
      | .error e => .error (e.1 + (cut a).length, e.2)
      | .ok us => .ok (ts ++ us.map fun p => (p.1 + (cut a).length, p.2)) := by
  unfold lex
  rw [cut_join, lexAll_append, lexAll_shift]
  cases lexAll (cut a) 1 with
  | error e => rfl
  | ok ts =>
    cases lexAll (cut b) 1 with
    | error e => rfl
    | ok us => rfl
theorem bytes_join (a b : ByteArray) : (a ++ (⟨#[10]⟩ : ByteArray) ++ b).data.toList = a.data.toList ++ 10 :: b.data.toList := by
  simp [ByteArray.data_append]
structure TellsLexR (L : List S39) (p1 p2 er : Int) (w : World) (e : Ending) (w' : World) : Prop where mk ::
  (out : ∃ v, e = .returned (.tuple #[v, .agg #[.int .i64 p1, .int .i64 p2], .int .i64 er]) ∧ Kd.R k39 39 w' w.heap.size (fun _ => True) v L ∧ Below w.heap.size w w')
theorem lex_callsR (s : ByteArray) {L : List S39} {p1 p2 er : Int} (h : lexV s.data.toList = (L, p1, p2, er)) (w : World) : Calls Tryd.prog 17 #[.string s] w (TellsLexR L p1 p2 er w) := by
  obtain ⟨k, hk⟩ := (lex_ev s).rounds
  rw [h] at hk
  refine (lex_Lex.calls k s L p1 p2 er w hk).mono fun e w' ⟨v, he, hR, hB⟩ => ?_
  exact ⟨v, he, hR, hB⟩
set_option maxRecDepth 100000 in
set_option maxHeartbeats 4000000 in
theorem joins_far (a b : ByteArray) (w : World) (h : 1024 < a.size ∨ 1024 < b.size) : Calls Tryd.prog 9 #[.string a, .string b] w fun e w' => e = .returned (.bool true) ∧ Below w.heap.size w w' := by
  by_cases h1 : 1024 < a.size
  · clear h
    go_enter Tryd.func9, Tryd.ntmps9
    go_wp2_with (go_at_call 16; refine (alive_calls _).mono ?_; rintro e w1 ⟨rfl, hb⟩)
    go_ret
    exact ⟨rfl, hb⟩
  · have h2 : 1024 < b.size := by omega
    clear h
    go_enter Tryd.func9, Tryd.ntmps9
    go_wp2_with (go_at_call 16; refine (alive_calls _).mono ?_; rintro e w1 ⟨rfl, hb⟩)
    go_ret
    exact ⟨rfl, hb⟩
set_option maxRecDepth 100000 in
set_option maxHeartbeats 4000000 in
theorem joins_bad (a b : ByteArray) (w : World) (ha : a.size ≤ 1024) (hb : b.size ≤ 1024) (La Lb : List S39) (p1 p2 e1 q1 q2 e2 n c : Int)
    (h1 : lexV a.data.toList = (La, p1, p2, e1)) (h2 : lexV b.data.toList = (Lb, q1, q2, e2)) (h3 : lexV (a ++ (⟨#[10]⟩ : ByteArray) ++ b).data.toList = ([], n, c, 4)) (he : e1 = 4 ∨ e1 = 0 ∧ e2 = 4) :
    Calls Tryd.prog 9 #[.string a, .string b] w fun e w' => e = .returned (.bool true) ∧ Below w.heap.size w w' := by
  have c1 := fun w => lex_callsR a h1 w
  have c2 := fun w => lex_callsR b h2 w
  have c3 := fun w => lex_callsR _ h3 w
  have n1 : ¬ 1024 < a.size := by omega
  have n2 : ¬ 1024 < b.size := by omega
  have k1 : (a ++ (⟨#[10]⟩ : ByteArray)).size = a.size + 1 := by rw [ByteArray.size_append]; rfl
  have k2 : ((a ++ (⟨#[10]⟩ : ByteArray)) ++ b).size = a.size + 1 + b.size := by rw [ByteArray.size_append, k1]
  clear h1 h2 h3
  rcases he with rfl | ⟨rfl, rfl⟩
  · go_enter Tryd.func9, Tryd.ntmps9
    go_wp2_with (first | (go_at_call 16; refine (alive_calls _).mono ?_; rintro e w1 ⟨rfl, hb1⟩; replace hb1 := Lib.hid hb1) | (go_at_call 17; (with_reducible refine (c1 _).mono ?_); rintro e w2 ⟨v1, rfl, hR1, hb2⟩; clear hR1; replace hb2 := Lib.hid hb2) | (go_at_call 17; (with_reducible refine (c2 _).mono ?_); rintro e w3 ⟨v2, rfl, hR2, hb3⟩; clear hR2; replace hb3 := Lib.hid hb3) | (go_at_call 17; (with_reducible refine (c3 _).mono ?_); rintro e w4 ⟨v3, rfl, hR3, hb4⟩; obtain ⟨A3, cp3, rfl⟩ := Kd.R_slice hR3; clear hR3; replace hb4 := Lib.hid hb4))
    go_ret
    exact ⟨rfl, below_alloc (below_step (below_alloc (below_step (below_alloc (below_step hb1.out hb2.out) _) hb3.out) _) hb4.out) _⟩
  · go_enter Tryd.func9, Tryd.ntmps9
    go_wp2_with (first | (go_at_call 16; refine (alive_calls _).mono ?_; rintro e w1 ⟨rfl, hb1⟩; replace hb1 := Lib.hid hb1) | (go_at_call 17; (with_reducible refine (c1 _).mono ?_); rintro e w2 ⟨v1, rfl, hR1, hb2⟩; clear hR1; replace hb2 := Lib.hid hb2) | (go_at_call 17; (with_reducible refine (c2 _).mono ?_); rintro e w3 ⟨v2, rfl, hR2, hb3⟩; clear hR2; replace hb3 := Lib.hid hb3) | (go_at_call 17; (with_reducible refine (c3 _).mono ?_); rintro e w4 ⟨v3, rfl, hR3, hb4⟩; obtain ⟨A3, cp3, rfl⟩ := Kd.R_slice hR3; clear hR3; replace hb4 := Lib.hid hb4))
    go_ret
    exact ⟨rfl, below_alloc (below_step (below_alloc (below_step (below_alloc (below_step hb1.out hb2.out) _) hb3.out) _) hb4.out) _⟩
set_option maxRecDepth 100000 in
set_option maxHeartbeats 4000000 in
theorem joins_ok (a b : ByteArray) (w : World) (ha : a.size ≤ 1024) (hb : b.size ≤ 1024) (La Lb Lz : List S39)
    (h1 : lexV a.data.toList = (La, 0, 0, 0)) (h2 : lexV b.data.toList = (Lb, 0, 0, 0)) (h3 : lexV (a ++ (⟨#[10]⟩ : ByteArray) ++ b).data.toList = (Lz, 0, 0, 0)) (hla : La.length ≤ 1024) (hlb : Lb.length ≤ 1024) (hlz : Lz.length = La.length + Lb.length)
    (hpt : ∀ i : Int, 0 ≤ i → i < ((La ++ Lb).length : Int) → ∃ (kd : Int) (tx : ByteArray), (rd_T39 Lz i).f0 = kd ∧ (rd_T39 Lz i).f1 = tx ∧ (rd_T39 (La ++ Lb) i).f0 = kd ∧ (rd_T39 (La ++ Lb) i).f1 = tx) :
    Calls Tryd.prog 9 #[.string a, .string b] w fun e w' => e = .returned (.bool true) ∧ Below w.heap.size w w' := by
  have c1 := fun w => lex_callsR a h1 w
  have c2 := fun w => lex_callsR b h2 w
  have c3 := fun w => lex_callsR _ h3 w
  have n1 : ¬ 1024 < a.size := by omega
  have n2 : ¬ 1024 < b.size := by omega
  have k1 : (a ++ (⟨#[10]⟩ : ByteArray)).size = a.size + 1 := by rw [ByteArray.size_append]; rfl
  have k2 : ((a ++ (⟨#[10]⟩ : ByteArray)) ++ b).size = a.size + 1 + b.size := by rw [ByteArray.size_append, k1]
  have HLA := Lib.hid hla
  have HLB := Lib.hid hlb
  have HLZ := Lib.hid hlz
  obtain ⟨Ls, hLs⟩ : ∃ Ls, Ls = La ++ Lb := ⟨_, rfl⟩
  rw [← hLs] at hpt
  have HPT := Lib.hid hpt
  have HLs := Lib.hid hLs
  have g1 : (Lz.length : Int) = wrap64 ((La.length : Int) + (Lb.length : Int)) := by rw [wr64 (by omega) (by omega)]; omega
  clear h1 h2 h3 hla hlb hlz hpt hLs
  go_enter Tryd.func9, Tryd.ntmps9
  go_wp2_with (first | (go_at_call 16; refine (alive_calls _).mono ?_; rintro e w1 ⟨rfl, hb1⟩; replace hb1 := Lib.hid hb1) | (go_at_call 17; (with_reducible refine (c1 _).mono ?_); rintro e w2 ⟨v1, rfl, hR1, hb2⟩; obtain ⟨A1, cp1, rfl⟩ := Kd.R_slice hR1; replace hR1 := Lib.hid hR1; replace hb2 := Lib.hid hb2) | (go_at_call 17; (with_reducible refine (c2 _).mono ?_); rintro e w3 ⟨v2, rfl, hR2, hb3⟩; obtain ⟨A2, cp2, rfl⟩ := Kd.R_slice hR2; have hC2 := Lib.hid (Kd.R_reads' hR2).2.2; clear hR2; replace hb3 := Lib.hid hb3) | (go_at_call 17; (with_reducible refine (c3 _).mono ?_); rintro e w4 ⟨v3, rfl, hR3, hb4⟩; obtain ⟨A3, cp3, rfl⟩ := Kd.R_slice hR3; replace hR3 := Lib.hid hR3; replace hb4 := Lib.hid hb4) | ((with_reducible refine gate_builtin (b := .append) (xs := #[.tmp 72, .tmp 73]) rfl ?_); at_builtin; refine Kd.R_append_rows k39 (w0 := w) w.heap.size rfl (.tmp 72) (.tmp 73) 32 39 (.agg #[(.int .i64 0), (.string ⟨#[]⟩), (.int .i64 0), (.int .i64 0)]) 40 rfl Tryd.underlying32 info39 rfl (by decide) (by omega) (.slice A1 La.length cp1) La Lb _ _ _ (fun _ => True) (fun _ => False) rfl rfl ?aO ?aR (fun _ _ h => h) (fun _ h => h.elim) ?aF ?aB ?aS ?aL ?_; (case aR => exact Kd.C_alloc (Kd.C_below (Kd.C_alloc hC2.out _) hb4.out) _); (case aB => exact below_alloc (below_step (below_alloc (below_step (below_alloc (below_step hb1.out hb2.out) _) hb3.out) _) hb4.out) _); (case aF => exact fun _ _ => trivial); (case aO => exact Kd.R_lower (Kd.R_alloc (Kd.R_below (Kd.R_alloc (Kd.R_below (Kd.R_alloc hR1.out _) hb3.out) _) hb4.out) _) hb1.out.size); (case aS => exact (below_alloc (below_step (below_alloc (below_step (below_alloc (below_step hb1.out hb2.out) _) hb3.out) _) hb4.out) _).size); (case aL => have := HLA.out; have := HLB.out; omega); intro v5 w5 ho hb5 hg hat; rw [← HLs.out] at ho; replace ho := Lib.hid ho; replace hb5 := Lib.hid hb5; replace hg := Lib.hid hg; replace hat := Lib.hid hat; obtain ⟨A5, cp5, rfl⟩ := Kd.R_slice ho.out))
  have HA : Hid (Kd.C k39 w5 A5 Ls.length Ls) := Lib.hid (Kd.R_reads' ho.out).2.2
  have HZ : Hid (Kd.C k39 w5 A3 Lz.length Lz) := Lib.hid (Kd.R_reads' (Kd.R_after (ok := fun _ => True) (Kd.R_alloc (Kd.R_new' hR3.out (Kd.R_lt (Kd.R_alloc (Kd.R_below (Kd.R_alloc hR1.out _) hb3.out) _))) _) hg.out hat.out)).2.2
  clear ho hg hat hR3 hR1 hb1 hb2 hb3 hb4 hC2 c1 c2 c3 g1
  have L5 : Ls.length ≤ 2048 := by have := HLA.out; have := HLB.out; rw [HLs.out, List.length_append]; omega
  have L6 : Hid (Lz.length = Ls.length) := Lib.hid (by rw [HLZ.out, HLs.out, List.length_append])
  have hE : Hid (Below w5.heap.size w5 w5) := Lib.hid (Below.refl _ _)
  go_loopw [76] (fun i wr => ∃ q : Int, i = .int .i64 q ∧ 0 ≤ q ∧ q ≤ (Ls.length : Int) ∧ Hid (Below w5.heap.size w5 wr)) (fun i _ => Ls.length - (intOf i).toNat)
  case atStart => exact ⟨0, rfl, by omega, by omega, hE⟩
  case round =>
    clear hE
    obtain ⟨q, rfl, h0, hq, HE⟩ := hrel
    by_cases hlt : q < (Ls.length : Int)
    · obtain ⟨kd, tx, e1, e2, e3, e4⟩ := HPT.out q h0 hlt
      obtain ⟨ad, ex, x0, x1, x2, x3⟩ := at_T39 (Kd.C_alloc (Kd.C_below HZ.out HE.out) (.cells #[.int .i64 kd, .string tx, .int .i64 (rd_T39 Ls q).f2.f0, .int .i64 (rd_T39 Ls q).f2.f1] 39)) q h0 (by have := L6.out; omega)
      obtain ⟨ad2, ey, y0, y1, y2, y3⟩ := at_T39 (Kd.C_below HA.out HE.out) q h0 hlt
      cases ex
      cases ey
      rw [e1] at x0
      rw [e2] at x1
      rw [e3] at y0
      rw [e4] at y1
      have g2 : wrap64 (q + 1) = q + 1 := wr64 (by omega) (by omega)
      have g3 : q < (Lz.length : Int) := by have := L6.out; omega
      have d1 : decide (q < (Ls.length : Int)) = true := decide_eq_true hlt
      have d2 : decide (q < (Lz.length : Int)) = true := decide_eq_true g3
      have d3 : decide (0 ≤ q) = true := decide_eq_true h0
      clear e1 e2 e3 e4
      replace hlt := eq_true hlt
      replace g3 := eq_true g3
      replace h0 := eq_true h0
      go_wp2
      go_quiet (fail)
      go_wp2
      refine ⟨⟨q + 1, by rw [g2], ?_, ?_, Lib.hid (pw_below_drewN (below_alloc HE.out _) _)⟩, ?_⟩
      · have := of_eq_true h0
        omega
      · have := of_eq_true hlt
        omega
      · have := of_eq_true h0
        have := of_eq_true hlt
        rw [g2]
        simp [intOf]; omega
    · have d1 : decide (q < (Ls.length : Int)) = false := decide_eq_false hlt
      clear hlt
      go_wp2
      go_ret
      exact ⟨rfl, below_step hb5.out HE.out⟩
theorem rdz (ts : List (Nat × Tk)) (q : Int) (p : Nat × Tk) (h0 : 0 ≤ q) (h : ts[q.toNat]? = some p) : rd_T39 (ts.map fun p => tok p.1 p.2) q = tok p.1 p.2 := by
  have := rd39 ts q.toNat p h
  rwa [Int.toNat_of_nonneg h0] at this
theorem joins_all (a b : ByteArray) (w : World) : Calls Tryd.prog 9 #[.string a, .string b] w fun e w' => e = .returned (.bool true) ∧ Below w.heap.size w w' := by
  by_cases h : 1024 < a.size ∨ 1024 < b.size
  · exact joins_far a b w h
  have ha : a.size ≤ 1024 := by omega
  have hb : b.size ≤ 1024 := by omega
  have sa : a.data.toList.length = a.size := rfl
  have sb : b.data.toList.length = b.size := rfl
  have hj : lexV (a ++ (⟨#[10]⟩ : ByteArray) ++ b).data.toList = lexFin [] (lex (a.data.toList ++ 10 :: b.data.toList)) := by
    rw [bytes_join]; unfold lexV; rw [if_neg (by simp; omega)]
  have va : lexV a.data.toList = lexFin [] (lex a.data.toList) := by unfold lexV; rw [if_neg (by omega)]
  have vb : lexV b.data.toList = lexFin [] (lex b.data.toList) := by unfold lexV; rw [if_neg (by omega)]
  rw [lex_join] at hj
  cases h1 : lex a.data.toList with
  | error e =>
    rw [h1] at va hj
    obtain ⟨⟨Lb, q1, q2, e2⟩, hb'⟩ : ∃ x, lexV b.data.toList = x := ⟨_, rfl⟩
    exact joins_bad a b w ha hb [] Lb _ _ 4 q1 q2 e2 _ _ va hb' hj (.inl rfl)
  | ok ts =>
    rw [h1] at va hj
    have hts := lex_len h1
    cases h2 : lex b.data.toList with
    | error e =>
      rw [h2] at vb hj
      exact joins_bad a b w ha hb _ [] _ _ 0 _ _ 4 _ _ va vb hj (.inr ⟨rfl, rfl⟩)
    | ok us =>
      rw [h2] at vb hj
      have hus := lex_len h2
      have va' : lexV a.data.toList = (ts.map (fun p => tok p.1 p.2), 0, 0, 0) := va
      have vb' : lexV b.data.toList = (us.map (fun p => tok p.1 p.2), 0, 0, 0) := vb
      have hj' : lexV (a ++ (⟨#[10]⟩ : ByteArray) ++ b).data.toList = ((ts ++ us.map fun p => (p.1 + (cut a.data.toList).length, p.2)).map (fun p => tok p.1 p.2), 0, 0, 0) := hj
      refine joins_ok a b w ha hb _ _ _ va' vb' hj' (by simp; omega) (by simp; omega) (by simp) fun i i0 i1 => ?_
      rw [← List.map_append] at i1 ⊢
      rw [List.length_map] at i1
      have hk : i.toNat < (ts ++ us).length := by omega
      have e1 : (ts ++ us)[i.toNat]? = some (ts ++ us)[i.toNat] := List.getElem?_eq_getElem hk
      have hmap : (ts ++ us.map fun p => (p.1 + (cut a.data.toList).length, p.2)).map (·.2) = (ts ++ us).map (·.2) := by simp
      have e2 := congrArg (fun l => l[i.toNat]?) hmap
      simp only [List.getElem?_map] at e2
      rw [e1] at e2
      obtain ⟨p, hp, hp2⟩ := Option.map_eq_some_iff.1 e2
      have hp3 : p.2 = ((ts ++ us)[i.toNat]).2 := hp2
      rw [rdz _ i p i0 hp, rdz _ i _ i0 e1]
      exact ⟨_, _, rfl, rfl, congrArg (fun x => x.kind) hp3.symm, congrArg (fun x => (⟨x.text.toArray⟩ : ByteArray)) hp3.symm⟩
end Go.Proofs.YtlggmdlbhndacaaDoor.Lx.WalkJoins
