import Derived.Test.YtlggmdlbhndacaaDoorOpenP
import Derived.Test.YtlggmdlbhndacaaDoorRDeep
/- SexpWords walked, at every list or atom within the bound of the second form. -/
namespace Go.Proofs.YtlggmdlbhndacaaDoor.Lx.WalkSWords
open Go.RowKit Go.Proofs.YtlggmdlbhndacaaDoorW.PrintWords Go.Proofs.YtlggmdlbhndacaaDoorW.PrintLast Go.Proofs.YtlggmdlbhndacaaDoorW.PrintMore Line LexV Mach SexpP PV BackP SameV OpenP Put Go.Proofs.YtlggmdlbhndacaaDoor.Lx.Text Go.Proofs.YtlggmdlbhndacaaDoor.Lx.One

/-! ### Deep ends -/
def DeepEv (x : S52) : Prop := ∃ r : Int × Int, Ev (fun k => tourbillonref04_Deep.f k x.f0 x.f1 x.f2 x.f3.f0 x.f3.f1) r
theorem deep_loop (x : S52) (hb : x.f1.length ≤ 1073741824) (hs : ∀ k (h1 : k < x.f1.length), DeepEv x.f1[k]) : ∀ (d j : Nat) (u v : Int), x.f1.length - j ≤ d → j ≤ x.f1.length →
    ∃ r : Int × Int, Ev (fun k => tourbillonref04_Deep.l0 k u v x.f1 (x.f1.length : Int) (j : Int) x.f0 x.f1 x.f2 x.f3.f0 x.f3.f1) r := by
  have last : ∀ (j : Nat) (u v : Int), x.f1.length ≤ j → ∃ r : Int × Int, Ev (fun k => tourbillonref04_Deep.l0 k u v x.f1 (x.f1.length : Int) (j : Int) x.f0 x.f1 x.f2 x.f3.f0 x.f3.f1) r := by
    intro j u v hj
    refine ⟨if x.f2 = true then (wrap64 (u + 1), v) else (u, v), Ev.step (f := fun _ => some (if x.f2 = true then (wrap64 (u + 1), v) else (u, v))) (fun k => ?_) (Ev.now _)⟩
    simp only [tourbillonref04_Deep.l0]
    rw [if_neg (by omega)]
    split <;> rfl
  intro d
  induction d with
  | zero => intro j u v hd hj; exact last j u v (by omega)
  | succ d ih =>
    intro j u v hd hj
    by_cases hlt : j < x.f1.length
    · obtain ⟨⟨b1, b2⟩, hb'⟩ := hs j hlt
      have hw : wrap64 ((j : Int) + 1) = ((j + 1 : Nat) : Int) := by rw [wr64 (by omega) (by omega)]; omega
      obtain ⟨r1, hr1⟩ := ih (j + 1) b1 (wrap64 (v + b2)) (by omega) (by omega)
      obtain ⟨r2, hr2⟩ := ih (j + 1) u (wrap64 (v + b2)) (by omega) (by omega)
      refine ⟨if b1 > u then r1 else r2, Ev.step (fun k => ?_) (Ev.bind hb' (f := fun k bt => if bt.1 > u then tourbillonref04_Deep.l0 k bt.1 (wrap64 (v + bt.2)) x.f1 (x.f1.length : Int) ((j + 1 : Nat) : Int) x.f0 x.f1 x.f2 x.f3.f0 x.f3.f1 else tourbillonref04_Deep.l0 k u (wrap64 (v + bt.2)) x.f1 (x.f1.length : Int) ((j + 1 : Nat) : Int) x.f0 x.f1 x.f2 x.f3.f0 x.f3.f1) ?_)⟩
      · simp only [tourbillonref04_Deep.l0]
        rw [if_pos (by omega), if_pos (by omega), if_pos (by omega), rd52 _ _ hlt, hw]
      · by_cases hgt : b1 > u
        · rw [if_pos hgt]
          exact Ev.congr (fun n => if_pos hgt) hr1
        · rw [if_neg hgt]
          exact Ev.congr (fun n => if_neg hgt) hr2
    · exact last j u v (by omega)
theorem deep_ev : ∀ (n : Nat) (x : S52), parts x ≤ n → n ≤ 1073741824 → DeepEv x := by
  intro n
  induction n with
  | zero => intro x h; have := parts_pos x; omega
  | succ n ih =>
    intro x h hn
    have hp := parts_eq x
    have hb : x.f1.length ≤ 1073741824 := by have := partsL_len x.f1; omega
    obtain ⟨r, hr⟩ := deep_loop x hb (fun k h1 => ih _ (by have := partsL_mem x.f1 _ (List.getElem_mem h1); omega) (by omega)) _ 0 0 1 (Nat.le_refl _) (Nat.zero_le _)
    exact ⟨r, Ev.step (fun k => by simp only [tourbillonref04_Deep.f]; rfl) hr⟩
structure TellsDeep (r1 r2 : Int) (w : World) (e : Ending) (w' : World) : Prop where mk ::
  (out : e = .returned (.tuple #[.int .i64 r1, .int .i64 r2]) ∧ Below w.heap.size w w')
theorem deep_calls (s : S52) (h : parts s ≤ 1073741824) : ∃ r1 r2 : Int, ∀ (w : World) (A : Option Addr) (c : Nat), k52.C w A s.f1.length s.f1 → s.f1.length ≤ c →
    Calls Tryd.prog 23 #[.agg #[.string s.f0, .slice A s.f1.length c, .bool s.f2, .int .i64 s.f3.f0, .int .i64 s.f3.f1]] w (TellsDeep r1 r2 w) := by
  obtain ⟨⟨r1, r2⟩, hr⟩ := deep_ev _ s h (Nat.le_refl _)
  obtain ⟨k, hk⟩ := hr.rounds
  exact ⟨r1, r2, fun w A c hC hc => (tourbillonref04_Deep.calls k _ A c _ _ _ _ r1 r2 w hC hc hk).mono fun e w' h => ⟨h⟩⟩
/-! ### One thing in a row -/
theorem C_one {W : World} {s : S52} {A : Option Addr} {c : Nat} (hC : k52.C W A s.f1.length s.f1) (hl : s.f1.length ≤ c) : k52.C (W.alloc (.cells #[.string s.f0, .slice A s.f1.length c, .bool s.f2, .int .i64 s.f3.f0, .int .i64 s.f3.f1] 52)) (some ⟨W.heap.size, 0, none⟩) 1 [s] := by
  refine ⟨rfl, by omega, fun _ => ⟨_, rfl, fun j x hj => ?_⟩⟩
  match j, hj with
  | 0, hj =>
    injection hj with hj
    subst hj
    refine ⟨[.string s.f0, .slice A s.f1.length c, .bool s.f2, .int .i64 s.f3.f0, .int .i64 s.f3.f1], rfl, k52_mk _ s hl (Kd.C_alloc hC _), fun i u hu => ?_⟩
    rw [Nat.zero_mul, Nat.zero_add]
    exact World.news_of_block (blk_new W _) i u hu
theorem at_firstx {w : World} {A : Option Addr} {xs : List S52} {x : S52} {r : List S52} (h : k52.C w A xs.length xs) (hx : xs = x :: r) : ∃ ad A1 c1, A = some ad ∧ w.cell? ad = some (.string x.f0) ∧ w.cell? ⟨ad.block, ad.off + 1, none⟩ = some (.slice A1 x.f1.length c1) ∧ w.cell? ⟨ad.block, ad.off + 2, none⟩ = some (.bool x.f2) ∧ w.cell? ⟨ad.block, ad.off + 3, none⟩ = some (.int .i64 x.f3.f0) ∧ w.cell? ⟨ad.block, ad.off + 4, none⟩ = some (.int .i64 x.f3.f1) ∧ x.f1.length ≤ c1 ∧ k52.C w A1 x.f1.length x.f1 := by
  subst hx
  exact at_first (n := r.length) h
structure TellsS (t : ByteArray) (w : World) (e : Ending) (w' : World) : Prop where mk ::
  (out : e = .returned (.string t) ∧ Below w.heap.size w w')
theorem txtAll_one (s : S52) : (⟨(txtAll [s]).toArray⟩ : ByteArray) = ⟨(txt s).toArray⟩ ++ (⟨#[10]⟩ : ByteArray) := by
  refine (ba_eq ?_).symm
  rw [ba_append, txtAll, txtAll]
/-- The region that compares, behind all that was asked ahead of it. -/
structure Given (w W : World) (a : ByteArray) (xs : List S52) (is : Bool) (p : S25) (A : Option Addr) (c : Nat) (tx wd : ByteArray) : Prop where
  small : tx.size + 1 ≤ 140737488355328
  text : ∀ W' : World, k52.C W' A xs.length xs → Calls Tryd.prog 15 #[.slice (some ⟨W'.heap.size, 0, none⟩) 1 1] ((W'.alloc (.cells #[.string a, .slice A xs.length c, .bool is, .int .i64 p.f0, .int .i64 p.f1] 52)).drew) (TellsS (tx ++ (⟨#[10]⟩ : ByteArray)) ((W'.alloc (.cells #[.string a, .slice A xs.length c, .bool is, .int .i64 p.f0, .int .i64 p.f1] 52)).drew))
  one : ∀ W' : World, k52.C W' A xs.length xs → Calls Tryd.prog 24 #[.agg #[.string a, .slice A xs.length c, .bool is, .int .i64 p.f0, .int .i64 p.f1]] W' (TellsS tx W')
  word : ∀ W' : World, k52.C W' A xs.length xs → Calls Tryd.prog 25 #[.agg #[.string a, .slice A xs.length c, .bool is, .int .i64 p.f0, .int .i64 p.f1]] W' (TellsS wd W')
set_option linter.unusedSimpArgs false in
set_option maxRecDepth 100000 in
set_option maxHeartbeats 4000000 in
theorem words_atom (w : World) (a : ByteArray) (xs : List S52) (p : S25) (A : Option Addr) (c : Nat) (tx wd : ByteArray) (r1 r2 : Int) (hC : k52.C w A xs.length xs) (hc : xs.length ≤ c)
    (hd : ∀ (W : World), k52.C W A xs.length xs → Calls Tryd.prog 23 #[.agg #[.string a, .slice A xs.length c, .bool false, .int .i64 p.f0, .int .i64 p.f1]] W (TellsDeep r1 r2 W))
    (hg : ∀ W, Given w W a xs false p A c tx wd) (hr1 : ¬ 20 < r1) (hr2 : ¬ 200 < r2) (hw : wd = ⟨#[]⟩) :
    Calls Tryd.prog 12 #[.agg #[.string a, .slice A xs.length c, .bool false, .int .i64 p.f0, .int .i64 p.f1]] w fun e w' => e = .returned (.bool true) ∧ Below w.heap.size w w' := by
  have b1 : decide (r1 > 20) = false := decide_eq_false (by omega)
  have b2 : decide (r2 > 200) = false := decide_eq_false (by omega)
  have ssz : ¬ 9223372036854775807 < tx.size + 1 := by have := (hg w).small; omega
  have HD := Lib.hid hd
  have HG := Lib.hid hg
  have HCC := Lib.hid hC
  have HC0 := Lib.hid hc
  subst hw
  clear hd hg hC hr1 hr2 hc
  go_enter Tryd.func12, Tryd.ntmps12
  go_wp2_with (first | (go_at_call 13; refine (alive4_calls _).mono ?_; rintro e w1 ⟨rfl, hb1⟩; have kb := blk_below (blk_new w _) hb1; have hCa := Lib.hid (Kd.C_below (Kd.C_alloc HCC.out (.cells #[.string a, .slice A xs.length c, .bool false, .int .i64 p.f0, .int .i64 p.f1] 52)) hb1); have u0 := (blk_cell kb 0).trans rfl; have u1 := (blk_cell kb 1).trans rfl; have u2 := (blk_cell kb 2).trans rfl; have u3 := (blk_cell kb 3).trans rfl; have u4 := (blk_cell kb 4).trans rfl; clear kb; replace hb1 := Lib.hid hb1) | (go_at_call 23; refine (HD.out _ hCa.out).mono ?_; rintro e w2 ⟨rfl, hb2⟩; have q0 := cell_up hb2 u0; have q1 := cell_up hb2 u1; have q2 := cell_up hb2 u2; have q3 := cell_up hb2 u3; have q4 := cell_up hb2 u4; have hCb := Lib.hid (Kd.C_below hCa.out hb2); clear u0 u1 u2 u3 u4;  replace hb2 := Lib.hid hb2))
  obtain ⟨W, hWe⟩ : ∃ W, W = w2 := ⟨_, rfl⟩
  rw [← hWe] at q0 q1 q2 q3 q4 hCb hb2
  rw [← hWe]
  clear hWe
  have HCW : Hid (k52.C ((W.alloc (.cells #[.string a, .slice A xs.length c, .bool false, .int .i64 p.f0, .int .i64 p.f1] 52)).drew) A xs.length xs) := Lib.hid (Kd.C_drewN (Kd.C_alloc hCb.out _) 1)
  have ct := Lib.hid ((HG.out W).text W hCb.out)
  have co := Lib.hid (HG.out W).one
  have cw := Lib.hid (HG.out W).word
  refine start_ (n := 14) (S := fun w' => w'.cell? ⟨w.heap.size, 0, none⟩ = some (.string a) ∧ w'.cell? ⟨w.heap.size, 1, none⟩ = some (.slice A xs.length c) ∧ w'.cell? ⟨w.heap.size, 2, none⟩ = some (.bool false) ∧ w'.cell? ⟨w.heap.size, 3, none⟩ = some (.int .i64 p.f0) ∧ w'.cell? ⟨w.heap.size, 4, none⟩ = some (.int .i64 p.f1)) (ds := []) #[false, false, false, false, false, false, false, false, false, false, false, false, false, false] (by kernel_rfl) rfl rfl ⟨q0, q1, q2, q3, q4⟩ (fun hHeld => ?_)
  refine take_ (i := 0) (N := some 40) (v := ?_) (a' := ?_) #[true, false, false, false, false, false, false, false, false, false, false, false, false, false] rfl rfl (by kernel_rfl) (fun _ _ _ h => h) (Or.inl ⟨by rfl, ?_⟩) hHeld ?_ ?_
  rotate_left
  · rintro w' ⟨s0, s1, s2, s3, s4⟩
    go_simp
    with_reducible rfl
  rotate_left
  · simp only [Act.put, List.setIfInBounds_toArray, List.set_cons_zero, List.set_cons_succ, i64_w, i32_w]
    rfl
  refine take_ (i := 3) (N := some 43) (v := ?_) (a' := ?_) #[true, false, false, true, false, false, false, false, false, false, false, false, false, false] rfl rfl (by kernel_rfl) (fun _ _ _ h => h) (Or.inl ⟨by rfl, ?_⟩) hHeld ?_ ?_
  rotate_left
  · rintro w' ⟨s0, s1, s2, s3, s4⟩
    go_simp
    with_reducible rfl
  rotate_left
  · simp only [Act.put, List.setIfInBounds_toArray, List.set_cons_zero, List.set_cons_succ, i64_w, i32_w]
    rfl
  refine one_ (i := 1) (N := some 41) #[true, true, false, true, false, false, false, false, false, false, false, false, false, false] rfl rfl (by kernel_rfl) (by decide) (fun K hK => ?_)
  refine value_ (w1 := ?_) (v := ?_) (by rfl) rfl ?_ ?_
  rotate_left 2
  · go_simp
    constructor
    · rfl
    · rfl
  refine hK.out _ _ ⟨(keepA q0 _), (keepA q1 _), (keepA q2 _), (keepA q3 _), (keepA q4 _)⟩ (fun hHeld => ?_)
  clear hK K
  refine norm_ (a' := ?_) ?_ ?_
  rotate_left
  · show Act.put _ (some 41) _ = _
    simp only [Act.put, List.setIfInBounds_toArray, List.set_cons_zero, List.set_cons_succ, i64_w, i32_w]
    rfl
  refine one_ (i := 2) (N := some 42) #[true, true, true, true, false, false, false, false, false, false, false, false, false, false] rfl rfl (by kernel_rfl) (by decide) (fun K hK => ?_)
  refine goes_ Tryd.func15 (by kernel_rfl) rfl #[.slice (some ⟨W.heap.size, 0, none⟩) 1 1] (by rfl) rfl rfl (by simp only [List.map_toArray, List.map_cons, List.map_nil]; rfl) ?_
  with_reducible refine (ct.out).mono ?_
  rintro e w3 ⟨rfl, hb3⟩
  refine ⟨_, rfl, ?_⟩
  have r0 := cell_up hb3 (keepA q0 _)
  have r1 := cell_up hb3 (keepA q1 _)
  have r2 := cell_up hb3 (keepA q2 _)
  have r3 := cell_up hb3 (keepA q3 _)
  have r4 := cell_up hb3 (keepA q4 _)
  have hC3 := Lib.hid (Kd.C_below HCW.out hb3)
  replace hb3 := Lib.hid hb3
  refine hK.out _ _ ⟨r0, r1, r2, r3, r4⟩ (fun hHeld => ?_)
  clear hK K
  refine norm_ (a' := ?_) ?_ ?_
  rotate_left
  · show Act.put _ (some 42) _ = _
    simp only [Act.put, List.setIfInBounds_toArray, List.set_cons_zero, List.set_cons_succ, i64_w, i32_w]
    rfl
  refine one_ (i := 4) (N := some 44) #[true, true, true, true, true, false, false, false, false, false, false, false, false, false] rfl rfl (by kernel_rfl) (by decide) (fun K hK => ?_)
  refine goes_ Tryd.func24 (by kernel_rfl) rfl #[.agg #[.string a, .slice A xs.length c, .bool false, .int .i64 p.f0, .int .i64 p.f1]] (by rfl) rfl rfl (by simp only [List.map_toArray, List.map_cons, List.map_nil]; rfl) ?_
  with_reducible refine ((co.out _ hC3.out)).mono ?_
  rintro e w4 ⟨rfl, hb4⟩
  refine ⟨_, rfl, ?_⟩
  replace r0 := cell_up hb4 r0
  replace r1 := cell_up hb4 r1
  replace r2 := cell_up hb4 r2
  replace r3 := cell_up hb4 r3
  replace r4 := cell_up hb4 r4
  have hC4 := Lib.hid (Kd.C_below hC3.out hb4)
  replace hb4 := Lib.hid hb4
  refine hK.out _ _ ⟨r0, r1, r2, r3, r4⟩ (fun hHeld => ?_)
  clear hK K
  refine norm_ (a' := ?_) ?_ ?_
  rotate_left
  · show Act.put _ (some 44) _ = _
    simp only [Act.put, List.setIfInBounds_toArray, List.set_cons_zero, List.set_cons_succ, i64_w, i32_w]
    rfl
  refine pure_ (i := 5) (N := some 45) (v := ?_) (a' := ?_) #[true, true, true, true, true, true, false, false, false, false, false, false, false, false] rfl rfl (by kernel_rfl) (fun _ _ _ h => h) (Or.inl ⟨by rfl, ?_⟩) ?_ ?_
  rotate_left
  · intro w'
    go_simp
    with_reducible rfl
  rotate_left
  · simp only [Act.put, List.setIfInBounds_toArray, List.set_cons_zero, List.set_cons_succ, i64_w, i32_w]
    rfl
  refine pure_ (i := 6) (N := some 46) (v := ?_) (a' := ?_) #[true, true, true, true, true, true, true, false, false, false, false, false, false, false] rfl rfl (by kernel_rfl) (fun _ _ _ h => h) (Or.inl ⟨by rfl, ?_⟩) ?_ ?_
  rotate_left
  · intro w'
    go_simp
    with_reducible rfl
  rotate_left
  · simp only [Act.put, List.setIfInBounds_toArray, List.set_cons_zero, List.set_cons_succ, i64_w, i32_w]
    rfl
  refine pure_ (i := 7) (N := some 47) (v := ?_) (a' := ?_) #[true, true, true, true, true, true, true, true, false, false, false, false, false, false] rfl rfl (by kernel_rfl) (fun _ _ _ h => h) (Or.inl ⟨by rfl, ?_⟩) ?_ ?_
  rotate_left
  · intro w'
    go_simp
    with_reducible rfl
  rotate_left
  · simp only [Act.put, List.setIfInBounds_toArray, List.set_cons_zero, List.set_cons_succ, i64_w, i32_w]
    rfl
  refine pure_ (i := 10) (N := some 50) (v := ?_) (a' := ?_) #[true, true, true, true, true, true, true, true, false, false, true, false, false, false] rfl rfl (by kernel_rfl) (fun _ _ _ h => h) (Or.inl ⟨by rfl, ?_⟩) ?_ ?_
  rotate_left
  · intro w'
    go_simp
    with_reducible rfl
  rotate_left
  · simp only [Act.put, List.setIfInBounds_toArray, List.set_cons_zero, List.set_cons_succ, i64_w, i32_w]
    rfl
  refine take_ (i := 8) (N := some 48) (v := ?_) (a' := ?_) #[true, true, true, true, true, true, true, true, true, false, true, false, false, false] rfl rfl (by kernel_rfl) (fun _ _ _ h => h) (Or.inl ⟨by rfl, ?_⟩) hHeld ?_ ?_
  rotate_left
  · rintro w' ⟨s0, s1, s2, s3, s4⟩
    go_simp
    with_reducible rfl
  rotate_left
  · simp only [Act.put, List.setIfInBounds_toArray, List.set_cons_zero, List.set_cons_succ, i64_w, i32_w]
    rfl
  refine one_ (i := 9) (N := some 49) #[true, true, true, true, true, true, true, true, true, true, true, false, false, false] rfl rfl (by kernel_rfl) (by decide) (fun K hK => ?_)
  refine goes_ Tryd.func25 (by kernel_rfl) rfl #[.agg #[.string a, .slice A xs.length c, .bool false, .int .i64 p.f0, .int .i64 p.f1]] (by rfl) rfl rfl (by simp only [List.map_toArray, List.map_cons, List.map_nil]; rfl) ?_
  with_reducible refine ((cw.out _ hC4.out)).mono ?_
  rintro e w5 ⟨rfl, hb5⟩
  refine ⟨_, rfl, ?_⟩
  replace r0 := cell_up hb5 r0
  replace r1 := cell_up hb5 r1
  replace r2 := cell_up hb5 r2
  replace r3 := cell_up hb5 r3
  replace r4 := cell_up hb5 r4
  replace hb5 := Lib.hid hb5
  refine hK.out _ _ ⟨r0, r1, r2, r3, r4⟩ (fun hHeld => ?_)
  clear hK K
  refine norm_ (a' := ?_) ?_ ?_
  rotate_left
  · show Act.put _ (some 49) _ = _
    simp only [Act.put, List.setIfInBounds_toArray, List.set_cons_zero, List.set_cons_succ, i64_w, i32_w]
    rfl
  refine pure_ (i := 11) (N := some 51) (v := ?_) (a' := ?_) #[true, true, true, true, true, true, true, true, true, true, true, true, false, false] rfl rfl (by kernel_rfl) (fun _ _ _ h => h) (Or.inl ⟨by rfl, ?_⟩) ?_ ?_
  rotate_left
  · intro w'
    go_simp
    with_reducible rfl
  rotate_left
  · simp only [Act.put, List.setIfInBounds_toArray, List.set_cons_zero, List.set_cons_succ, i64_w, i32_w]
    rfl
  refine pure_ (i := 12) (N := some 52) (v := ?_) (a' := ?_) #[true, true, true, true, true, true, true, true, true, true, true, true, true, false] rfl rfl (by kernel_rfl) (fun _ _ _ h => h) (Or.inl ⟨by rfl, ?_⟩) ?_ ?_
  rotate_left
  · intro w'
    go_simp
    with_reducible rfl
  rotate_left
  · simp only [Act.put, List.setIfInBounds_toArray, List.set_cons_zero, List.set_cons_succ, i64_w, i32_w]
    rfl
  refine pure_ (i := 13) (N := some 2) (v := ?_) (a' := ?_) #[true, true, true, true, true, true, true, true, true, true, true, true, true, true] rfl rfl (by kernel_rfl) (fun _ _ _ h => h) (Or.inl ⟨by rfl, ?_⟩) ?_ ?_
  rotate_left
  · intro w'
    go_simp
    with_reducible rfl
  rotate_left
  · simp only [Act.put, List.setIfInBounds_toArray, List.set_cons_zero, List.set_cons_succ, i64_w, i32_w]
    rfl
  refine done_ (by kernel_rfl) ?_
  go_wp2
  go_ret
  exact ⟨rfl, below_step (below_step (below_step (below_drew1 (below_alloc (below_step (below_step (below_alloc (Below.refl _ _) _) hb1.out) hb2.out) _)) hb3.out) hb4.out) hb5.out⟩
set_option linter.unusedSimpArgs false in
set_option maxRecDepth 100000 in
set_option maxHeartbeats 4000000 in
theorem words_nil (w : World) (a : ByteArray) (xs : List S52) (p : S25) (A : Option Addr) (c : Nat) (tx wd : ByteArray) (r1 r2 : Int) (hC : k52.C w A xs.length xs) (hc : xs.length ≤ c)
    (hd : ∀ (W : World), k52.C W A xs.length xs → Calls Tryd.prog 23 #[.agg #[.string a, .slice A xs.length c, .bool true, .int .i64 p.f0, .int .i64 p.f1]] W (TellsDeep r1 r2 W))
    (hg : ∀ W, Given w W a xs true p A c tx wd) (hr1 : ¬ 20 < r1) (hr2 : ¬ 200 < r2) (hx : xs = []) (hw : wd = ⟨#[]⟩) :
    Calls Tryd.prog 12 #[.agg #[.string a, .slice A xs.length c, .bool true, .int .i64 p.f0, .int .i64 p.f1]] w fun e w' => e = .returned (.bool true) ∧ Below w.heap.size w w' := by
  have b1 : decide (r1 > 20) = false := decide_eq_false (by omega)
  have b2 : decide (r2 > 200) = false := decide_eq_false (by omega)
  have ssz : ¬ 9223372036854775807 < tx.size + 1 := by have := (hg w).small; omega
  have HD := Lib.hid hd
  have HG := Lib.hid hg
  have HCC := Lib.hid hC
  have HC0 := Lib.hid hc
  have g1 : decide ((xs.length : Int) > 0) = false := decide_eq_false (by rw [hx]; simp)
  have g2 : decide (0 < xs.length) = false := decide_eq_false (by rw [hx]; simp)
  subst hw
  clear hd hg hC hr1 hr2 hc hx
  go_enter Tryd.func12, Tryd.ntmps12
  go_wp2_with (first | (go_at_call 13; refine (alive4_calls _).mono ?_; rintro e w1 ⟨rfl, hb1⟩; have kb := blk_below (blk_new w _) hb1; have hCa := Lib.hid (Kd.C_below (Kd.C_alloc HCC.out (.cells #[.string a, .slice A xs.length c, .bool true, .int .i64 p.f0, .int .i64 p.f1] 52)) hb1); have u0 := (blk_cell kb 0).trans rfl; have u1 := (blk_cell kb 1).trans rfl; have u2 := (blk_cell kb 2).trans rfl; have u3 := (blk_cell kb 3).trans rfl; have u4 := (blk_cell kb 4).trans rfl; clear kb; replace hb1 := Lib.hid hb1) | (go_at_call 23; refine (HD.out _ hCa.out).mono ?_; rintro e w2 ⟨rfl, hb2⟩; have q0 := cell_up hb2 u0; have q1 := cell_up hb2 u1; have q2 := cell_up hb2 u2; have q3 := cell_up hb2 u3; have q4 := cell_up hb2 u4; have hCb := Lib.hid (Kd.C_below hCa.out hb2); clear u0 u1 u2 u3 u4;  replace hb2 := Lib.hid hb2))
  obtain ⟨W, hWe⟩ : ∃ W, W = w2 := ⟨_, rfl⟩
  rw [← hWe] at q0 q1 q2 q3 q4 hCb hb2
  rw [← hWe]
  clear hWe
  have HCW : Hid (k52.C ((W.alloc (.cells #[.string a, .slice A xs.length c, .bool true, .int .i64 p.f0, .int .i64 p.f1] 52)).drew) A xs.length xs) := Lib.hid (Kd.C_drewN (Kd.C_alloc hCb.out _) 1)
  have ct := Lib.hid ((HG.out W).text W hCb.out)
  have co := Lib.hid (HG.out W).one
  have cw := Lib.hid (HG.out W).word
  refine start_ (n := 14) (S := fun w' => w'.cell? ⟨w.heap.size, 0, none⟩ = some (.string a) ∧ w'.cell? ⟨w.heap.size, 1, none⟩ = some (.slice A xs.length c) ∧ w'.cell? ⟨w.heap.size, 2, none⟩ = some (.bool true) ∧ w'.cell? ⟨w.heap.size, 3, none⟩ = some (.int .i64 p.f0) ∧ w'.cell? ⟨w.heap.size, 4, none⟩ = some (.int .i64 p.f1)) (ds := []) #[false, false, false, false, false, false, false, false, false, false, false, false, false, false] (by kernel_rfl) rfl rfl ⟨q0, q1, q2, q3, q4⟩ (fun hHeld => ?_)
  refine take_ (i := 0) (N := some 40) (v := ?_) (a' := ?_) #[true, false, false, false, false, false, false, false, false, false, false, false, false, false] rfl rfl (by kernel_rfl) (fun _ _ _ h => h) (Or.inl ⟨by rfl, ?_⟩) hHeld ?_ ?_
  rotate_left
  · rintro w' ⟨s0, s1, s2, s3, s4⟩
    go_simp
    with_reducible rfl
  rotate_left
  · simp only [Act.put, List.setIfInBounds_toArray, List.set_cons_zero, List.set_cons_succ, i64_w, i32_w]
    rfl
  refine take_ (i := 3) (N := some 43) (v := ?_) (a' := ?_) #[true, false, false, true, false, false, false, false, false, false, false, false, false, false] rfl rfl (by kernel_rfl) (fun _ _ _ h => h) (Or.inl ⟨by rfl, ?_⟩) hHeld ?_ ?_
  rotate_left
  · rintro w' ⟨s0, s1, s2, s3, s4⟩
    go_simp
    with_reducible rfl
  rotate_left
  · simp only [Act.put, List.setIfInBounds_toArray, List.set_cons_zero, List.set_cons_succ, i64_w, i32_w]
    rfl
  refine one_ (i := 1) (N := some 41) #[true, true, false, true, false, false, false, false, false, false, false, false, false, false] rfl rfl (by kernel_rfl) (by decide) (fun K hK => ?_)
  refine value_ (w1 := ?_) (v := ?_) (by rfl) rfl ?_ ?_
  rotate_left 2
  · go_simp
    constructor
    · rfl
    · rfl
  refine hK.out _ _ ⟨(keepA q0 _), (keepA q1 _), (keepA q2 _), (keepA q3 _), (keepA q4 _)⟩ (fun hHeld => ?_)
  clear hK K
  refine norm_ (a' := ?_) ?_ ?_
  rotate_left
  · show Act.put _ (some 41) _ = _
    simp only [Act.put, List.setIfInBounds_toArray, List.set_cons_zero, List.set_cons_succ, i64_w, i32_w]
    rfl
  refine one_ (i := 2) (N := some 42) #[true, true, true, true, false, false, false, false, false, false, false, false, false, false] rfl rfl (by kernel_rfl) (by decide) (fun K hK => ?_)
  refine goes_ Tryd.func15 (by kernel_rfl) rfl #[.slice (some ⟨W.heap.size, 0, none⟩) 1 1] (by rfl) rfl rfl (by simp only [List.map_toArray, List.map_cons, List.map_nil]; rfl) ?_
  with_reducible refine (ct.out).mono ?_
  rintro e w3 ⟨rfl, hb3⟩
  refine ⟨_, rfl, ?_⟩
  have r0 := cell_up hb3 (keepA q0 _)
  have r1 := cell_up hb3 (keepA q1 _)
  have r2 := cell_up hb3 (keepA q2 _)
  have r3 := cell_up hb3 (keepA q3 _)
  have r4 := cell_up hb3 (keepA q4 _)
  have hC3 := Lib.hid (Kd.C_below HCW.out hb3)
  replace hb3 := Lib.hid hb3
  refine hK.out _ _ ⟨r0, r1, r2, r3, r4⟩ (fun hHeld => ?_)
  clear hK K
  refine norm_ (a' := ?_) ?_ ?_
  rotate_left
  · show Act.put _ (some 42) _ = _
    simp only [Act.put, List.setIfInBounds_toArray, List.set_cons_zero, List.set_cons_succ, i64_w, i32_w]
    rfl
  refine one_ (i := 4) (N := some 44) #[true, true, true, true, true, false, false, false, false, false, false, false, false, false] rfl rfl (by kernel_rfl) (by decide) (fun K hK => ?_)
  refine goes_ Tryd.func24 (by kernel_rfl) rfl #[.agg #[.string a, .slice A xs.length c, .bool true, .int .i64 p.f0, .int .i64 p.f1]] (by rfl) rfl rfl (by simp only [List.map_toArray, List.map_cons, List.map_nil]; rfl) ?_
  with_reducible refine ((co.out _ hC3.out)).mono ?_
  rintro e w4 ⟨rfl, hb4⟩
  refine ⟨_, rfl, ?_⟩
  replace r0 := cell_up hb4 r0
  replace r1 := cell_up hb4 r1
  replace r2 := cell_up hb4 r2
  replace r3 := cell_up hb4 r3
  replace r4 := cell_up hb4 r4
  have hC4 := Lib.hid (Kd.C_below hC3.out hb4)
  replace hb4 := Lib.hid hb4
  refine hK.out _ _ ⟨r0, r1, r2, r3, r4⟩ (fun hHeld => ?_)
  clear hK K
  refine norm_ (a' := ?_) ?_ ?_
  rotate_left
  · show Act.put _ (some 44) _ = _
    simp only [Act.put, List.setIfInBounds_toArray, List.set_cons_zero, List.set_cons_succ, i64_w, i32_w]
    rfl
  refine pure_ (i := 5) (N := some 45) (v := ?_) (a' := ?_) #[true, true, true, true, true, true, false, false, false, false, false, false, false, false] rfl rfl (by kernel_rfl) (fun _ _ _ h => h) (Or.inl ⟨by rfl, ?_⟩) ?_ ?_
  rotate_left
  · intro w'
    go_simp
    with_reducible rfl
  rotate_left
  · simp only [Act.put, List.setIfInBounds_toArray, List.set_cons_zero, List.set_cons_succ, i64_w, i32_w]
    rfl
  refine pure_ (i := 6) (N := some 46) (v := ?_) (a' := ?_) #[true, true, true, true, true, true, true, false, false, false, false, false, false, false] rfl rfl (by kernel_rfl) (fun _ _ _ h => h) (Or.inl ⟨by rfl, ?_⟩) ?_ ?_
  rotate_left
  · intro w'
    go_simp
    with_reducible rfl
  rotate_left
  · simp only [Act.put, List.setIfInBounds_toArray, List.set_cons_zero, List.set_cons_succ, i64_w, i32_w]
    rfl
  refine pure_ (i := 7) (N := some 47) (v := ?_) (a' := ?_) #[true, true, true, true, true, true, true, true, false, false, false, false, false, false] rfl rfl (by kernel_rfl) (fun _ _ _ h => h) (Or.inl ⟨by rfl, ?_⟩) ?_ ?_
  rotate_left
  · intro w'
    go_simp
    with_reducible rfl
  rotate_left
  · simp only [Act.put, List.setIfInBounds_toArray, List.set_cons_zero, List.set_cons_succ, i64_w, i32_w]
    rfl
  refine pure_ (i := 10) (N := some 50) (v := ?_) (a' := ?_) #[true, true, true, true, true, true, true, true, false, false, true, false, false, false] rfl rfl (by kernel_rfl) (fun _ _ _ h => h) (Or.inl ⟨by rfl, ?_⟩) ?_ ?_
  rotate_left
  · intro w'
    go_simp
    with_reducible rfl
  rotate_left
  · simp only [Act.put, List.setIfInBounds_toArray, List.set_cons_zero, List.set_cons_succ, i64_w, i32_w]
    rfl
  refine take_ (i := 8) (N := some 48) (v := ?_) (a' := ?_) #[true, true, true, true, true, true, true, true, true, false, true, false, false, false] rfl rfl (by kernel_rfl) (fun _ _ _ h => h) (Or.inl ⟨by rfl, ?_⟩) hHeld ?_ ?_
  rotate_left
  · rintro w' ⟨s0, s1, s2, s3, s4⟩
    go_simp
    with_reducible rfl
  rotate_left
  · simp only [Act.put, List.setIfInBounds_toArray, List.set_cons_zero, List.set_cons_succ, i64_w, i32_w]
    rfl
  refine one_ (i := 9) (N := some 49) #[true, true, true, true, true, true, true, true, true, true, true, false, false, false] rfl rfl (by kernel_rfl) (by decide) (fun K hK => ?_)
  refine goes_ Tryd.func25 (by kernel_rfl) rfl #[.agg #[.string a, .slice A xs.length c, .bool true, .int .i64 p.f0, .int .i64 p.f1]] (by rfl) rfl rfl (by simp only [List.map_toArray, List.map_cons, List.map_nil]; rfl) ?_
  with_reducible refine ((cw.out _ hC4.out)).mono ?_
  rintro e w5 ⟨rfl, hb5⟩
  refine ⟨_, rfl, ?_⟩
  replace r0 := cell_up hb5 r0
  replace r1 := cell_up hb5 r1
  replace r2 := cell_up hb5 r2
  replace r3 := cell_up hb5 r3
  replace r4 := cell_up hb5 r4
  replace hb5 := Lib.hid hb5
  refine hK.out _ _ ⟨r0, r1, r2, r3, r4⟩ (fun hHeld => ?_)
  clear hK K
  refine norm_ (a' := ?_) ?_ ?_
  rotate_left
  · show Act.put _ (some 49) _ = _
    simp only [Act.put, List.setIfInBounds_toArray, List.set_cons_zero, List.set_cons_succ, i64_w, i32_w]
    rfl
  refine pure_ (i := 11) (N := some 51) (v := ?_) (a' := ?_) #[true, true, true, true, true, true, true, true, true, true, true, true, false, false] rfl rfl (by kernel_rfl) (fun _ _ _ h => h) (Or.inl ⟨by rfl, ?_⟩) ?_ ?_
  rotate_left
  · intro w'
    go_simp
    with_reducible rfl
  rotate_left
  · simp only [Act.put, List.setIfInBounds_toArray, List.set_cons_zero, List.set_cons_succ, i64_w, i32_w]
    rfl
  refine pure_ (i := 12) (N := some 52) (v := ?_) (a' := ?_) #[true, true, true, true, true, true, true, true, true, true, true, true, true, false] rfl rfl (by kernel_rfl) (fun _ _ _ h => h) (Or.inl ⟨by rfl, ?_⟩) ?_ ?_
  rotate_left
  · intro w'
    go_simp
    with_reducible rfl
  rotate_left
  · simp only [Act.put, List.setIfInBounds_toArray, List.set_cons_zero, List.set_cons_succ, i64_w, i32_w]
    rfl
  refine pure_ (i := 13) (N := some 2) (v := ?_) (a' := ?_) #[true, true, true, true, true, true, true, true, true, true, true, true, true, true] rfl rfl (by kernel_rfl) (fun _ _ _ h => h) (Or.inl ⟨by rfl, ?_⟩) ?_ ?_
  rotate_left
  · intro w'
    go_simp
    with_reducible rfl
  rotate_left
  · simp only [Act.put, List.setIfInBounds_toArray, List.set_cons_zero, List.set_cons_succ, i64_w, i32_w]
    rfl
  refine done_ (by kernel_rfl) ?_
  go_wp2
  go_ret
  exact ⟨rfl, below_step (below_step (below_step (below_drew1 (below_alloc (below_step (below_step (below_alloc (Below.refl _ _) _) hb1.out) hb2.out) _)) hb3.out) hb4.out) hb5.out⟩
set_option linter.unusedSimpArgs false in
set_option maxRecDepth 100000 in
set_option maxHeartbeats 4000000 in
theorem words_list (w : World) (a : ByteArray) (xs : List S52) (p : S25) (ad : Addr) (c : Nat) (tx wd : ByteArray) (r1 r2 : Int) (x : S52) (r : List S52) (hC : k52.C w (some ad) xs.length xs) (hc : xs.length ≤ c)
    (hd : ∀ (W : World), k52.C W (some ad) xs.length xs → Calls Tryd.prog 23 #[.agg #[.string a, .slice (some ad) xs.length c, .bool true, .int .i64 p.f0, .int .i64 p.f1]] W (TellsDeep r1 r2 W))
    (hg : ∀ W, Given w W a xs true p (some ad) c tx wd) (hr1 : ¬ 20 < r1) (hr2 : ¬ 200 < r2) (hx : xs = x :: r) (h2 : x.f2 = true) (hw : wd = ⟨#[]⟩) :
    Calls Tryd.prog 12 #[.agg #[.string a, .slice (some ad) xs.length c, .bool true, .int .i64 p.f0, .int .i64 p.f1]] w fun e w' => e = .returned (.bool true) ∧ Below w.heap.size w w' := by
  have b1 : decide (r1 > 20) = false := decide_eq_false (by omega)
  have b2 : decide (r2 > 200) = false := decide_eq_false (by omega)
  have ssz : ¬ 9223372036854775807 < tx.size + 1 := by have := (hg w).small; omega
  have HD := Lib.hid hd
  have HG := Lib.hid hg
  have HCC := Lib.hid hC
  have HC0 := Lib.hid hc
  have g1 : decide ((xs.length : Int) > 0) = true := decide_eq_true (by rw [hx]; simp)
  have g2 : decide (0 < xs.length) = true := decide_eq_true (by rw [hx]; simp)
  have g3 : 0 < xs.length := by rw [hx]; simp
  have HX := Lib.hid hx
  have H2 := Lib.hid h2
  subst hw
  clear hd hg hC hr1 hr2 hc hx h2
  go_enter Tryd.func12, Tryd.ntmps12
  go_wp2_with (first | (go_at_call 13; refine (alive4_calls _).mono ?_; rintro e w1 ⟨rfl, hb1⟩; have kb := blk_below (blk_new w _) hb1; have hCa := Lib.hid (Kd.C_below (Kd.C_alloc HCC.out (.cells #[.string a, .slice (some ad) xs.length c, .bool true, .int .i64 p.f0, .int .i64 p.f1] 52)) hb1); have u0 := (blk_cell kb 0).trans rfl; have u1 := (blk_cell kb 1).trans rfl; have u2 := (blk_cell kb 2).trans rfl; have u3 := (blk_cell kb 3).trans rfl; have u4 := (blk_cell kb 4).trans rfl; clear kb; replace hb1 := Lib.hid hb1) | (go_at_call 23; refine (HD.out _ hCa.out).mono ?_; rintro e w2 ⟨rfl, hb2⟩; have q0 := cell_up hb2 u0; have q1 := cell_up hb2 u1; have q2 := cell_up hb2 u2; have q3 := cell_up hb2 u3; have q4 := cell_up hb2 u4; have hCb := Lib.hid (Kd.C_below hCa.out hb2); clear u0 u1 u2 u3 u4; obtain ⟨ad', A1, d1, eA, x0, x1, x2, x3, x4, _, _⟩ := at_firstx hCb.out HX.out; rw [H2.out] at x2; replace eA := Option.some.inj eA; subst eA; clear x1 x3 x4; replace hb2 := Lib.hid hb2))
  obtain ⟨W, hWe⟩ : ∃ W, W = w2 := ⟨_, rfl⟩
  rw [← hWe] at q0 q1 q2 q3 q4 hCb hb2
  rw [← hWe]
  clear hWe
  have HCW : Hid (k52.C ((W.alloc (.cells #[.string a, .slice (some ad) xs.length c, .bool true, .int .i64 p.f0, .int .i64 p.f1] 52)).drew) (some ad) xs.length xs) := Lib.hid (Kd.C_drewN (Kd.C_alloc hCb.out _) 1)
  have ct := Lib.hid ((HG.out W).text W hCb.out)
  have co := Lib.hid (HG.out W).one
  have cw := Lib.hid (HG.out W).word
  refine start_ (n := 14) (S := fun w' => w'.cell? ⟨w.heap.size, 0, none⟩ = some (.string a) ∧ w'.cell? ⟨w.heap.size, 1, none⟩ = some (.slice (some ad) xs.length c) ∧ w'.cell? ⟨w.heap.size, 2, none⟩ = some (.bool true) ∧ w'.cell? ⟨w.heap.size, 3, none⟩ = some (.int .i64 p.f0) ∧ w'.cell? ⟨w.heap.size, 4, none⟩ = some (.int .i64 p.f1)) (ds := []) #[false, false, false, false, false, false, false, false, false, false, false, false, false, false] (by kernel_rfl) rfl rfl ⟨q0, q1, q2, q3, q4⟩ (fun hHeld => ?_)
  refine take_ (i := 0) (N := some 40) (v := ?_) (a' := ?_) #[true, false, false, false, false, false, false, false, false, false, false, false, false, false] rfl rfl (by kernel_rfl) (fun _ _ _ h => h) (Or.inl ⟨by rfl, ?_⟩) hHeld ?_ ?_
  rotate_left
  · rintro w' ⟨s0, s1, s2, s3, s4⟩
    go_simp
    with_reducible rfl
  rotate_left
  · simp only [Act.put, List.setIfInBounds_toArray, List.set_cons_zero, List.set_cons_succ, i64_w, i32_w]
    rfl
  refine take_ (i := 3) (N := some 43) (v := ?_) (a' := ?_) #[true, false, false, true, false, false, false, false, false, false, false, false, false, false] rfl rfl (by kernel_rfl) (fun _ _ _ h => h) (Or.inl ⟨by rfl, ?_⟩) hHeld ?_ ?_
  rotate_left
  · rintro w' ⟨s0, s1, s2, s3, s4⟩
    go_simp
    with_reducible rfl
  rotate_left
  · simp only [Act.put, List.setIfInBounds_toArray, List.set_cons_zero, List.set_cons_succ, i64_w, i32_w]
    rfl
  refine one_ (i := 1) (N := some 41) #[true, true, false, true, false, false, false, false, false, false, false, false, false, false] rfl rfl (by kernel_rfl) (by decide) (fun K hK => ?_)
  refine value_ (w1 := ?_) (v := ?_) (by rfl) rfl ?_ ?_
  rotate_left 2
  · go_simp
    constructor
    · rfl
    · rfl
  refine hK.out _ _ ⟨(keepA q0 _), (keepA q1 _), (keepA q2 _), (keepA q3 _), (keepA q4 _)⟩ (fun hHeld => ?_)
  clear hK K
  refine norm_ (a' := ?_) ?_ ?_
  rotate_left
  · show Act.put _ (some 41) _ = _
    simp only [Act.put, List.setIfInBounds_toArray, List.set_cons_zero, List.set_cons_succ, i64_w, i32_w]
    rfl
  refine one_ (i := 2) (N := some 42) #[true, true, true, true, false, false, false, false, false, false, false, false, false, false] rfl rfl (by kernel_rfl) (by decide) (fun K hK => ?_)
  refine goes_ Tryd.func15 (by kernel_rfl) rfl #[.slice (some ⟨W.heap.size, 0, none⟩) 1 1] (by rfl) rfl rfl (by simp only [List.map_toArray, List.map_cons, List.map_nil]; rfl) ?_
  with_reducible refine (ct.out).mono ?_
  rintro e w3 ⟨rfl, hb3⟩
  refine ⟨_, rfl, ?_⟩
  have r0 := cell_up hb3 (keepA q0 _)
  have r1 := cell_up hb3 (keepA q1 _)
  have r2 := cell_up hb3 (keepA q2 _)
  have r3 := cell_up hb3 (keepA q3 _)
  have r4 := cell_up hb3 (keepA q4 _)
  have hC3 := Lib.hid (Kd.C_below HCW.out hb3)
  replace hb3 := Lib.hid hb3
  refine hK.out _ _ ⟨r0, r1, r2, r3, r4⟩ (fun hHeld => ?_)
  clear hK K
  refine norm_ (a' := ?_) ?_ ?_
  rotate_left
  · show Act.put _ (some 42) _ = _
    simp only [Act.put, List.setIfInBounds_toArray, List.set_cons_zero, List.set_cons_succ, i64_w, i32_w]
    rfl
  refine one_ (i := 4) (N := some 44) #[true, true, true, true, true, false, false, false, false, false, false, false, false, false] rfl rfl (by kernel_rfl) (by decide) (fun K hK => ?_)
  refine goes_ Tryd.func24 (by kernel_rfl) rfl #[.agg #[.string a, .slice (some ad) xs.length c, .bool true, .int .i64 p.f0, .int .i64 p.f1]] (by rfl) rfl rfl (by simp only [List.map_toArray, List.map_cons, List.map_nil]; rfl) ?_
  with_reducible refine ((co.out _ hC3.out)).mono ?_
  rintro e w4 ⟨rfl, hb4⟩
  refine ⟨_, rfl, ?_⟩
  replace r0 := cell_up hb4 r0
  replace r1 := cell_up hb4 r1
  replace r2 := cell_up hb4 r2
  replace r3 := cell_up hb4 r3
  replace r4 := cell_up hb4 r4
  have hC4 := Lib.hid (Kd.C_below hC3.out hb4)
  replace hb4 := Lib.hid hb4
  refine hK.out _ _ ⟨r0, r1, r2, r3, r4⟩ (fun hHeld => ?_)
  clear hK K
  refine norm_ (a' := ?_) ?_ ?_
  rotate_left
  · show Act.put _ (some 44) _ = _
    simp only [Act.put, List.setIfInBounds_toArray, List.set_cons_zero, List.set_cons_succ, i64_w, i32_w]
    rfl
  refine pure_ (i := 5) (N := some 45) (v := ?_) (a' := ?_) #[true, true, true, true, true, true, false, false, false, false, false, false, false, false] rfl rfl (by kernel_rfl) (fun _ _ _ h => h) (Or.inl ⟨by rfl, ?_⟩) ?_ ?_
  rotate_left
  · intro w'
    go_simp
    with_reducible rfl
  rotate_left
  · simp only [Act.put, List.setIfInBounds_toArray, List.set_cons_zero, List.set_cons_succ, i64_w, i32_w]
    rfl
  refine pure_ (i := 6) (N := some 46) (v := ?_) (a' := ?_) #[true, true, true, true, true, true, true, false, false, false, false, false, false, false] rfl rfl (by kernel_rfl) (fun _ _ _ h => h) (Or.inl ⟨by rfl, ?_⟩) ?_ ?_
  rotate_left
  · intro w'
    go_simp
    with_reducible rfl
  rotate_left
  · simp only [Act.put, List.setIfInBounds_toArray, List.set_cons_zero, List.set_cons_succ, i64_w, i32_w]
    rfl
  refine pure_ (i := 7) (N := some 47) (v := ?_) (a' := ?_) #[true, true, true, true, true, true, true, true, false, false, false, false, false, false] rfl rfl (by kernel_rfl) (fun _ _ _ h => h) (Or.inl ⟨by rfl, ?_⟩) ?_ ?_
  rotate_left
  · intro w'
    go_simp
    with_reducible rfl
  rotate_left
  · simp only [Act.put, List.setIfInBounds_toArray, List.set_cons_zero, List.set_cons_succ, i64_w, i32_w]
    rfl
  refine pure_ (i := 10) (N := some 50) (v := ?_) (a' := ?_) #[true, true, true, true, true, true, true, true, false, false, true, false, false, false] rfl rfl (by kernel_rfl) (fun _ _ _ h => h) (Or.inl ⟨by rfl, ?_⟩) ?_ ?_
  rotate_left
  · intro w'
    go_simp
    with_reducible rfl
  rotate_left
  · simp only [Act.put, List.setIfInBounds_toArray, List.set_cons_zero, List.set_cons_succ, i64_w, i32_w]
    rfl
  refine take_ (i := 8) (N := some 48) (v := ?_) (a' := ?_) #[true, true, true, true, true, true, true, true, true, false, true, false, false, false] rfl rfl (by kernel_rfl) (fun _ _ _ h => h) (Or.inl ⟨by rfl, ?_⟩) hHeld ?_ ?_
  rotate_left
  · rintro w' ⟨s0, s1, s2, s3, s4⟩
    go_simp
    with_reducible rfl
  rotate_left
  · simp only [Act.put, List.setIfInBounds_toArray, List.set_cons_zero, List.set_cons_succ, i64_w, i32_w]
    rfl
  refine one_ (i := 9) (N := some 49) #[true, true, true, true, true, true, true, true, true, true, true, false, false, false] rfl rfl (by kernel_rfl) (by decide) (fun K hK => ?_)
  refine goes_ Tryd.func25 (by kernel_rfl) rfl #[.agg #[.string a, .slice (some ad) xs.length c, .bool true, .int .i64 p.f0, .int .i64 p.f1]] (by rfl) rfl rfl (by simp only [List.map_toArray, List.map_cons, List.map_nil]; rfl) ?_
  with_reducible refine ((cw.out _ hC4.out)).mono ?_
  rintro e w5 ⟨rfl, hb5⟩
  refine ⟨_, rfl, ?_⟩
  replace r0 := cell_up hb5 r0
  replace r1 := cell_up hb5 r1
  replace r2 := cell_up hb5 r2
  replace r3 := cell_up hb5 r3
  replace r4 := cell_up hb5 r4
  replace hb5 := Lib.hid hb5
  refine hK.out _ _ ⟨r0, r1, r2, r3, r4⟩ (fun hHeld => ?_)
  clear hK K
  refine norm_ (a' := ?_) ?_ ?_
  rotate_left
  · show Act.put _ (some 49) _ = _
    simp only [Act.put, List.setIfInBounds_toArray, List.set_cons_zero, List.set_cons_succ, i64_w, i32_w]
    rfl
  refine pure_ (i := 11) (N := some 51) (v := ?_) (a' := ?_) #[true, true, true, true, true, true, true, true, true, true, true, true, false, false] rfl rfl (by kernel_rfl) (fun _ _ _ h => h) (Or.inl ⟨by rfl, ?_⟩) ?_ ?_
  rotate_left
  · intro w'
    go_simp
    with_reducible rfl
  rotate_left
  · simp only [Act.put, List.setIfInBounds_toArray, List.set_cons_zero, List.set_cons_succ, i64_w, i32_w]
    rfl
  refine pure_ (i := 12) (N := some 52) (v := ?_) (a' := ?_) #[true, true, true, true, true, true, true, true, true, true, true, true, true, false] rfl rfl (by kernel_rfl) (fun _ _ _ h => h) (Or.inl ⟨by rfl, ?_⟩) ?_ ?_
  rotate_left
  · intro w'
    go_simp
    with_reducible rfl
  rotate_left
  · simp only [Act.put, List.setIfInBounds_toArray, List.set_cons_zero, List.set_cons_succ, i64_w, i32_w]
    rfl
  refine pure_ (i := 13) (N := some 2) (v := ?_) (a' := ?_) #[true, true, true, true, true, true, true, true, true, true, true, true, true, true] rfl rfl (by kernel_rfl) (fun _ _ _ h => h) (Or.inl ⟨by rfl, ?_⟩) ?_ ?_
  rotate_left
  · intro w'
    go_simp
    with_reducible rfl
  rotate_left
  · simp only [Act.put, List.setIfInBounds_toArray, List.set_cons_zero, List.set_cons_succ, i64_w, i32_w]
    rfl
  refine done_ (by kernel_rfl) ?_
  go_wp2
  go_ret
  exact ⟨rfl, below_step (below_step (below_step (below_drew1 (below_alloc (below_step (below_step (below_alloc (Below.refl _ _) _) hb1.out) hb2.out) _)) hb3.out) hb4.out) hb5.out⟩
set_option linter.unusedSimpArgs false in
set_option maxRecDepth 100000 in
set_option maxHeartbeats 4000000 in
theorem words_word (w : World) (a : ByteArray) (xs : List S52) (p : S25) (ad : Addr) (c : Nat) (tx wd : ByteArray) (r1 r2 : Int) (x : S52) (r : List S52) (hC : k52.C w (some ad) xs.length xs) (hc : xs.length ≤ c)
    (hd : ∀ (W : World), k52.C W (some ad) xs.length xs → Calls Tryd.prog 23 #[.agg #[.string a, .slice (some ad) xs.length c, .bool true, .int .i64 p.f0, .int .i64 p.f1]] W (TellsDeep r1 r2 W))
    (hg : ∀ W, Given w W a xs true p (some ad) c tx wd) (hr1 : ¬ 20 < r1) (hr2 : ¬ 200 < r2) (hx : xs = x :: r) (h2 : x.f2 = false) (hw : wd = x.f0) :
    Calls Tryd.prog 12 #[.agg #[.string a, .slice (some ad) xs.length c, .bool true, .int .i64 p.f0, .int .i64 p.f1]] w fun e w' => e = .returned (.bool true) ∧ Below w.heap.size w w' := by
  have b1 : decide (r1 > 20) = false := decide_eq_false (by omega)
  have b2 : decide (r2 > 200) = false := decide_eq_false (by omega)
  have ssz : ¬ 9223372036854775807 < tx.size + 1 := by have := (hg w).small; omega
  have HD := Lib.hid hd
  have HG := Lib.hid hg
  have HCC := Lib.hid hC
  have HC0 := Lib.hid hc
  have g1 : decide ((xs.length : Int) > 0) = true := decide_eq_true (by rw [hx]; simp)
  have g2 : decide (0 < xs.length) = true := decide_eq_true (by rw [hx]; simp)
  have g3 : 0 < xs.length := by rw [hx]; simp
  subst hw
  have HX := Lib.hid hx
  have H2 := Lib.hid h2
  clear hd hg hC hr1 hr2 hc hx h2
  go_enter Tryd.func12, Tryd.ntmps12
  go_wp2_with (first | (go_at_call 13; refine (alive4_calls _).mono ?_; rintro e w1 ⟨rfl, hb1⟩; have kb := blk_below (blk_new w _) hb1; have hCa := Lib.hid (Kd.C_below (Kd.C_alloc HCC.out (.cells #[.string a, .slice (some ad) xs.length c, .bool true, .int .i64 p.f0, .int .i64 p.f1] 52)) hb1); have u0 := (blk_cell kb 0).trans rfl; have u1 := (blk_cell kb 1).trans rfl; have u2 := (blk_cell kb 2).trans rfl; have u3 := (blk_cell kb 3).trans rfl; have u4 := (blk_cell kb 4).trans rfl; clear kb; replace hb1 := Lib.hid hb1) | (go_at_call 23; refine (HD.out _ hCa.out).mono ?_; rintro e w2 ⟨rfl, hb2⟩; have q0 := cell_up hb2 u0; have q1 := cell_up hb2 u1; have q2 := cell_up hb2 u2; have q3 := cell_up hb2 u3; have q4 := cell_up hb2 u4; have hCb := Lib.hid (Kd.C_below hCa.out hb2); clear u0 u1 u2 u3 u4; obtain ⟨ad', A1, d1, eA, x0, x1, x2, x3, x4, _, _⟩ := at_firstx hCb.out HX.out; rw [H2.out] at x2; replace eA := Option.some.inj eA; subst eA; clear x1 x3 x4; replace hb2 := Lib.hid hb2))
  obtain ⟨W, hWe⟩ : ∃ W, W = w2 := ⟨_, rfl⟩
  rw [← hWe] at q0 q1 q2 q3 q4 hCb hb2
  rw [← hWe]
  clear hWe
  have HCW : Hid (k52.C ((W.alloc (.cells #[.string a, .slice (some ad) xs.length c, .bool true, .int .i64 p.f0, .int .i64 p.f1] 52)).drew) (some ad) xs.length xs) := Lib.hid (Kd.C_drewN (Kd.C_alloc hCb.out _) 1)
  have ct := Lib.hid ((HG.out W).text W hCb.out)
  have co := Lib.hid (HG.out W).one
  have cw := Lib.hid (HG.out W).word
  refine start_ (n := 14) (S := fun w' => w'.cell? ⟨w.heap.size, 0, none⟩ = some (.string a) ∧ w'.cell? ⟨w.heap.size, 1, none⟩ = some (.slice (some ad) xs.length c) ∧ w'.cell? ⟨w.heap.size, 2, none⟩ = some (.bool true) ∧ w'.cell? ⟨w.heap.size, 3, none⟩ = some (.int .i64 p.f0) ∧ w'.cell? ⟨w.heap.size, 4, none⟩ = some (.int .i64 p.f1)) (ds := []) #[false, false, false, false, false, false, false, false, false, false, false, false, false, false] (by kernel_rfl) rfl rfl ⟨q0, q1, q2, q3, q4⟩ (fun hHeld => ?_)
  refine take_ (i := 0) (N := some 40) (v := ?_) (a' := ?_) #[true, false, false, false, false, false, false, false, false, false, false, false, false, false] rfl rfl (by kernel_rfl) (fun _ _ _ h => h) (Or.inl ⟨by rfl, ?_⟩) hHeld ?_ ?_
  rotate_left
  · rintro w' ⟨s0, s1, s2, s3, s4⟩
    go_simp
    with_reducible rfl
  rotate_left
  · simp only [Act.put, List.setIfInBounds_toArray, List.set_cons_zero, List.set_cons_succ, i64_w, i32_w]
    rfl
  refine take_ (i := 3) (N := some 43) (v := ?_) (a' := ?_) #[true, false, false, true, false, false, false, false, false, false, false, false, false, false] rfl rfl (by kernel_rfl) (fun _ _ _ h => h) (Or.inl ⟨by rfl, ?_⟩) hHeld ?_ ?_
  rotate_left
  · rintro w' ⟨s0, s1, s2, s3, s4⟩
    go_simp
    with_reducible rfl
  rotate_left
  · simp only [Act.put, List.setIfInBounds_toArray, List.set_cons_zero, List.set_cons_succ, i64_w, i32_w]
    rfl
  refine one_ (i := 1) (N := some 41) #[true, true, false, true, false, false, false, false, false, false, false, false, false, false] rfl rfl (by kernel_rfl) (by decide) (fun K hK => ?_)
  refine value_ (w1 := ?_) (v := ?_) (by rfl) rfl ?_ ?_
  rotate_left 2
  · go_simp
    constructor
    · rfl
    · rfl
  refine hK.out _ _ ⟨(keepA q0 _), (keepA q1 _), (keepA q2 _), (keepA q3 _), (keepA q4 _)⟩ (fun hHeld => ?_)
  clear hK K
  refine norm_ (a' := ?_) ?_ ?_
  rotate_left
  · show Act.put _ (some 41) _ = _
    simp only [Act.put, List.setIfInBounds_toArray, List.set_cons_zero, List.set_cons_succ, i64_w, i32_w]
    rfl
  refine one_ (i := 2) (N := some 42) #[true, true, true, true, false, false, false, false, false, false, false, false, false, false] rfl rfl (by kernel_rfl) (by decide) (fun K hK => ?_)
  refine goes_ Tryd.func15 (by kernel_rfl) rfl #[.slice (some ⟨W.heap.size, 0, none⟩) 1 1] (by rfl) rfl rfl (by simp only [List.map_toArray, List.map_cons, List.map_nil]; rfl) ?_
  with_reducible refine (ct.out).mono ?_
  rintro e w3 ⟨rfl, hb3⟩
  refine ⟨_, rfl, ?_⟩
  have r0 := cell_up hb3 (keepA q0 _)
  have r1 := cell_up hb3 (keepA q1 _)
  have r2 := cell_up hb3 (keepA q2 _)
  have r3 := cell_up hb3 (keepA q3 _)
  have r4 := cell_up hb3 (keepA q4 _)
  have hC3 := Lib.hid (Kd.C_below HCW.out hb3)
  replace hb3 := Lib.hid hb3
  refine hK.out _ _ ⟨r0, r1, r2, r3, r4⟩ (fun hHeld => ?_)
  clear hK K
  refine norm_ (a' := ?_) ?_ ?_
  rotate_left
  · show Act.put _ (some 42) _ = _
    simp only [Act.put, List.setIfInBounds_toArray, List.set_cons_zero, List.set_cons_succ, i64_w, i32_w]
    rfl
  refine one_ (i := 4) (N := some 44) #[true, true, true, true, true, false, false, false, false, false, false, false, false, false] rfl rfl (by kernel_rfl) (by decide) (fun K hK => ?_)
  refine goes_ Tryd.func24 (by kernel_rfl) rfl #[.agg #[.string a, .slice (some ad) xs.length c, .bool true, .int .i64 p.f0, .int .i64 p.f1]] (by rfl) rfl rfl (by simp only [List.map_toArray, List.map_cons, List.map_nil]; rfl) ?_
  with_reducible refine ((co.out _ hC3.out)).mono ?_
  rintro e w4 ⟨rfl, hb4⟩
  refine ⟨_, rfl, ?_⟩
  replace r0 := cell_up hb4 r0
  replace r1 := cell_up hb4 r1
  replace r2 := cell_up hb4 r2
  replace r3 := cell_up hb4 r3
  replace r4 := cell_up hb4 r4
  have hC4 := Lib.hid (Kd.C_below hC3.out hb4)
  replace hb4 := Lib.hid hb4
  refine hK.out _ _ ⟨r0, r1, r2, r3, r4⟩ (fun hHeld => ?_)
  clear hK K
  refine norm_ (a' := ?_) ?_ ?_
  rotate_left
  · show Act.put _ (some 44) _ = _
    simp only [Act.put, List.setIfInBounds_toArray, List.set_cons_zero, List.set_cons_succ, i64_w, i32_w]
    rfl
  refine pure_ (i := 5) (N := some 45) (v := ?_) (a' := ?_) #[true, true, true, true, true, true, false, false, false, false, false, false, false, false] rfl rfl (by kernel_rfl) (fun _ _ _ h => h) (Or.inl ⟨by rfl, ?_⟩) ?_ ?_
  rotate_left
  · intro w'
    go_simp
    with_reducible rfl
  rotate_left
  · simp only [Act.put, List.setIfInBounds_toArray, List.set_cons_zero, List.set_cons_succ, i64_w, i32_w]
    rfl
  refine pure_ (i := 6) (N := some 46) (v := ?_) (a' := ?_) #[true, true, true, true, true, true, true, false, false, false, false, false, false, false] rfl rfl (by kernel_rfl) (fun _ _ _ h => h) (Or.inl ⟨by rfl, ?_⟩) ?_ ?_
  rotate_left
  · intro w'
    go_simp
    with_reducible rfl
  rotate_left
  · simp only [Act.put, List.setIfInBounds_toArray, List.set_cons_zero, List.set_cons_succ, i64_w, i32_w]
    rfl
  refine pure_ (i := 7) (N := some 47) (v := ?_) (a' := ?_) #[true, true, true, true, true, true, true, true, false, false, false, false, false, false] rfl rfl (by kernel_rfl) (fun _ _ _ h => h) (Or.inl ⟨by rfl, ?_⟩) ?_ ?_
  rotate_left
  · intro w'
    go_simp
    with_reducible rfl
  rotate_left
  · simp only [Act.put, List.setIfInBounds_toArray, List.set_cons_zero, List.set_cons_succ, i64_w, i32_w]
    rfl
  refine pure_ (i := 10) (N := some 50) (v := ?_) (a' := ?_) #[true, true, true, true, true, true, true, true, false, false, true, false, false, false] rfl rfl (by kernel_rfl) (fun _ _ _ h => h) (Or.inl ⟨by rfl, ?_⟩) ?_ ?_
  rotate_left
  · intro w'
    go_simp
    with_reducible rfl
  rotate_left
  · simp only [Act.put, List.setIfInBounds_toArray, List.set_cons_zero, List.set_cons_succ, i64_w, i32_w]
    rfl
  refine take_ (i := 8) (N := some 48) (v := ?_) (a' := ?_) #[true, true, true, true, true, true, true, true, true, false, true, false, false, false] rfl rfl (by kernel_rfl) (fun _ _ _ h => h) (Or.inl ⟨by rfl, ?_⟩) hHeld ?_ ?_
  rotate_left
  · rintro w' ⟨s0, s1, s2, s3, s4⟩
    go_simp
    with_reducible rfl
  rotate_left
  · simp only [Act.put, List.setIfInBounds_toArray, List.set_cons_zero, List.set_cons_succ, i64_w, i32_w]
    rfl
  refine one_ (i := 9) (N := some 49) #[true, true, true, true, true, true, true, true, true, true, true, false, false, false] rfl rfl (by kernel_rfl) (by decide) (fun K hK => ?_)
  refine goes_ Tryd.func25 (by kernel_rfl) rfl #[.agg #[.string a, .slice (some ad) xs.length c, .bool true, .int .i64 p.f0, .int .i64 p.f1]] (by rfl) rfl rfl (by simp only [List.map_toArray, List.map_cons, List.map_nil]; rfl) ?_
  with_reducible refine ((cw.out _ hC4.out)).mono ?_
  rintro e w5 ⟨rfl, hb5⟩
  refine ⟨_, rfl, ?_⟩
  replace r0 := cell_up hb5 r0
  replace r1 := cell_up hb5 r1
  replace r2 := cell_up hb5 r2
  replace r3 := cell_up hb5 r3
  replace r4 := cell_up hb5 r4
  replace hb5 := Lib.hid hb5
  refine hK.out _ _ ⟨r0, r1, r2, r3, r4⟩ (fun hHeld => ?_)
  clear hK K
  refine norm_ (a' := ?_) ?_ ?_
  rotate_left
  · show Act.put _ (some 49) _ = _
    simp only [Act.put, List.setIfInBounds_toArray, List.set_cons_zero, List.set_cons_succ, i64_w, i32_w]
    rfl
  refine pure_ (i := 11) (N := some 51) (v := ?_) (a' := ?_) #[true, true, true, true, true, true, true, true, true, true, true, true, false, false] rfl rfl (by kernel_rfl) (fun _ _ _ h => h) (Or.inl ⟨by rfl, ?_⟩) ?_ ?_
  rotate_left
  · intro w'
    go_simp
    with_reducible rfl
  rotate_left
  · simp only [Act.put, List.setIfInBounds_toArray, List.set_cons_zero, List.set_cons_succ, i64_w, i32_w]
    rfl
  refine pure_ (i := 12) (N := some 52) (v := ?_) (a' := ?_) #[true, true, true, true, true, true, true, true, true, true, true, true, true, false] rfl rfl (by kernel_rfl) (fun _ _ _ h => h) (Or.inl ⟨by rfl, ?_⟩) ?_ ?_
  rotate_left
  · intro w'
    go_simp
    with_reducible rfl
  rotate_left
  · simp only [Act.put, List.setIfInBounds_toArray, List.set_cons_zero, List.set_cons_succ, i64_w, i32_w]
    rfl
  refine pure_ (i := 13) (N := some 2) (v := ?_) (a' := ?_) #[true, true, true, true, true, true, true, true, true, true, true, true, true, true] rfl rfl (by kernel_rfl) (fun _ _ _ h => h) (Or.inl ⟨by rfl, ?_⟩) ?_ ?_
  rotate_left
  · intro w'
    go_simp
    with_reducible rfl
  rotate_left
  · simp only [Act.put, List.setIfInBounds_toArray, List.set_cons_zero, List.set_cons_succ, i64_w, i32_w]
    rfl
  refine done_ (by kernel_rfl) ?_
  go_wp2
  go_ret
  exact ⟨rfl, below_step (below_step (below_step (below_drew1 (below_alloc (below_step (below_step (below_alloc (Below.refl _ _) _) hb1.out) hb2.out) _)) hb3.out) hb4.out) hb5.out⟩
set_option maxRecDepth 100000 in
set_option maxHeartbeats 4000000 in
theorem words_far (w : World) (a : ByteArray) (xs : List S52) (is : Bool) (p : S25) (A : Option Addr) (c : Nat) (r1 r2 : Int) (hC : k52.C w A xs.length xs)
    (hd : ∀ (W : World), k52.C W A xs.length xs → Calls Tryd.prog 23 #[.agg #[.string a, .slice A xs.length c, .bool is, .int .i64 p.f0, .int .i64 p.f1]] W (TellsDeep r1 r2 W)) (b2 : Bool) (b1 : Bool) (h1 : decide (r1 > 20) = b1) (h2 : decide (r2 > 200) = b2) (hb : (b1 || b2) = true) :
    Calls Tryd.prog 12 #[.agg #[.string a, .slice A xs.length c, .bool is, .int .i64 p.f0, .int .i64 p.f1]] w fun e w' => e = .returned (.bool true) ∧ Below w.heap.size w w' := by
  have HD := Lib.hid hd
  have HCC := Lib.hid hC
  clear hd hC
  cases b1 with
  | true =>
    clear hb
    go_enter Tryd.func12, Tryd.ntmps12
    go_wp2_with (first | (go_at_call 13; refine (alive4_calls _).mono ?_; rintro e w1 ⟨rfl, hb1⟩; have kb := blk_below (blk_new w _) hb1; have hCa := Lib.hid (Kd.C_below (Kd.C_alloc HCC.out (.cells #[.string a, .slice A xs.length c, .bool is, .int .i64 p.f0, .int .i64 p.f1] 52)) hb1); have u0 := (blk_cell kb 0).trans rfl; have u1 := (blk_cell kb 1).trans rfl; have u2 := (blk_cell kb 2).trans rfl; have u3 := (blk_cell kb 3).trans rfl; have u4 := (blk_cell kb 4).trans rfl; clear kb; replace hb1 := Lib.hid hb1) | (go_at_call 23; refine (HD.out _ hCa.out).mono ?_; rintro e w2 ⟨rfl, hb2⟩; replace hb2 := Lib.hid hb2))
    go_ret
    exact ⟨rfl, below_step (below_step (below_alloc (Below.refl _ _) _) hb1.out) hb2.out⟩
  | false =>
    obtain rfl : b2 = true := hb
    go_enter Tryd.func12, Tryd.ntmps12
    go_wp2_with (first | (go_at_call 13; refine (alive4_calls _).mono ?_; rintro e w1 ⟨rfl, hb1⟩; have kb := blk_below (blk_new w _) hb1; have hCa := Lib.hid (Kd.C_below (Kd.C_alloc HCC.out (.cells #[.string a, .slice A xs.length c, .bool is, .int .i64 p.f0, .int .i64 p.f1] 52)) hb1); have u0 := (blk_cell kb 0).trans rfl; have u1 := (blk_cell kb 1).trans rfl; have u2 := (blk_cell kb 2).trans rfl; have u3 := (blk_cell kb 3).trans rfl; have u4 := (blk_cell kb 4).trans rfl; clear kb; replace hb1 := Lib.hid hb1) | (go_at_call 23; refine (HD.out _ hCa.out).mono ?_; rintro e w2 ⟨rfl, hb2⟩; replace hb2 := Lib.hid hb2))
    go_ret
    exact ⟨rfl, below_step (below_step (below_alloc (Below.refl _ _) _) hb1.out) hb2.out⟩
theorem given_of (w W : World) (s : S52) (A : Option Addr) (c : Nat) (wd : ByteArray) (hc : s.f1.length ≤ c) (hw : wt s ≤ 1048576) (hf : sexp_Word.f s.f0 s.f1 s.f2 s.f3.f0 s.f3.f1 = some wd) : Given w W s.f0 s.f1 s.f2 s.f3 A c ⟨(txt s).toArray⟩ wd := by
  have h1 := txt_wt s
  have hsz : (⟨(txt s).toArray⟩ : ByteArray).size = (txt s).length := by simp [ByteArray.size]
  refine ⟨by rw [hsz]; omega, fun W' hC => ?_, fun W' hC => ?_, fun W' hC => ?_⟩
  · have hl : (txtAll [s]).length ≤ 140737488355328 := by simp [txtAll]; omega
    refine (text_calls _ _ 1 [s] (Kd.C_drewN (C_one hC hc) 1) hl).mono fun e w' ⟨he, hB⟩ => ⟨?_, hB⟩
    rw [he, txtAll_one]
  · exact (one_calls W' s A c hC (by omega)).mono fun e w' ⟨he, hB⟩ => ⟨he, hB⟩
  · exact (sexp_Word.calls _ A c _ _ _ _ wd W' hC hc hf).mono fun e w' h => ⟨h⟩
theorem words_all (w : World) (s : S52) (A : Option Addr) (c : Nat) (hC : k52.C w A s.f1.length s.f1) (hc : s.f1.length ≤ c) (hw : wt s ≤ 1048576) :
    Calls Tryd.prog 12 #[.agg #[.string s.f0, .slice A s.f1.length c, .bool s.f2, .int .i64 s.f3.f0, .int .i64 s.f3.f1]] w fun e w' => e = .returned (.bool true) ∧ Below w.heap.size w w' := by
  obtain ⟨r1, r2, hd⟩ := deep_calls s (by have := parts_wt s; omega)
  by_cases hr : 20 < r1 ∨ 200 < r2
  · exact words_far w _ _ _ _ A c r1 r2 hC (fun W h => hd W A c h hc) _ _ rfl rfl (by simp only [Bool.or_eq_true, decide_eq_true_eq]; omega)
  · have hr1 : ¬ 20 < r1 := fun h => hr (.inl h)
    have hr2 : ¬ 200 < r2 := fun h => hr (.inr h)
    obtain ⟨a, xs, is, p⟩ := s
    cases is with
    | false => exact words_atom w a xs p A c _ _ r1 r2 hC hc (fun W h => hd W A c h hc) (fun W => given_of w W ⟨a, xs, false, p⟩ A c ⟨#[]⟩ hc hw (by simp [sexp_Word.f])) hr1 hr2 rfl
    | true =>
      cases hx : xs with
      | nil => rw [← hx]; exact words_nil w a xs p A c _ _ r1 r2 hC hc (fun W h => hd W A c h hc) (fun W => given_of w W ⟨a, xs, true, p⟩ A c ⟨#[]⟩ hc hw (by simp [sexp_Word.f, hx])) hr1 hr2 hx rfl
      | cons x r =>
        obtain ⟨ad, _, _, eA, _⟩ := at_firstx hC hx
        subst eA
        rw [← hx]
        cases h2 : x.f2 with
        | true => exact words_list w a xs p ad c _ _ r1 r2 x r hC hc (fun W h => hd W _ c h hc) (fun W => given_of w W ⟨a, xs, true, p⟩ _ c ⟨#[]⟩ hc hw (by simp [sexp_Word.f, hx, rd_T52, h2])) hr1 hr2 hx h2 rfl
        | false => exact words_word w a xs p ad c _ _ r1 r2 x r hC hc (fun W h => hd W _ c h hc) (fun W => given_of w W ⟨a, xs, true, p⟩ _ c x.f0 hc hw (by simp [sexp_Word.f, hx, rd_T52, h2]; intro h; omega)) hr1 hr2 hx h2 rfl
end Go.Proofs.YtlggmdlbhndacaaDoor.Lx.WalkSWords
