import Derived.Test.YtlggmdlbhndacaaDoorPA
import Derived.Test.YtlggmdlbhndacaaDoorLxx6
import Derived.IntWalk
/- parser.token walked. -/
namespace Go.Proofs.YtlggmdlbhndacaaDoor.Lx.Token
open Go.RowKit Go.Proofs.YtlggmdlbhndacaaDoorW.PrintWords Go.Proofs.YtlggmdlbhndacaaDoorW.PrintLast Go.Proofs.YtlggmdlbhndacaaDoorW.PrintMore Stack LexV Put PutIn Ps

structure TellsTok (er : Int) (base P : Nat) (tops : List S52) (os : List (List S52)) (ps : List (Int × Int)) (w : World) (e : Ending) (w' : World) : Prop where mk ::
  (out : e = .returned (.int .i64 er) ∧ PS w' base P tops os ps ∧ Below base w w')
structure TellsErr (er : Int) (w : World) (e : Ending) (w' : World) : Prop where mk ::
  (out : e = .returned (.int .i64 er) ∧ Below w.heap.size w w')
set_option maxRecDepth 100000 in
set_option maxHeartbeats 4000000 in
theorem tok_atom (w : World) (base P : Nat) (vo vt : Value) (tops : List S52) (ros : List (Value × List S52)) (ps : List (Int × Int)) (tx : ByteArray) (ln cl : Int)
    (h : St w base P vo vt tops ros ps) (hbase : base ≤ w.heap.size) (hn : ros.length ≤ 64) (hl : ∀ l ∈ tops :: ros.map (·.2), l.length ≤ 1048576) :
    Calls Tryd.prog 26 #[.pointer (some ⟨P, 0, none⟩), .agg #[.int .i64 3, .string tx, .int .i64 ln, .int .i64 cl]] w (TellsTok 0 base P (putM tops (ros.map (·.2)) ⟨tx, [], false, ⟨ln, cl⟩⟩).1 (putM tops (ros.map (·.2)) ⟨tx, [], false, ⟨ln, cl⟩⟩).2 ps w) := by
  obtain ⟨A, co, rfl⟩ := vo_form h
  have p0 : w.cell? ⟨P, 0, none⟩ = some (.slice A ros.length co) := (blk_cell h.blk 0).trans rfl
  have hP := blk_lt h.blk
  have hc := Lib.hid (fun (W : World) (hb : Below w.heap.size w W) => put_calls W base P _ vt tops ros ps ⟨tx, [], false, ⟨ln, cl⟩⟩ (.slice none 0 0) (h.below hb) (Nat.le_trans hbase hb.size) hn hl (k52_mkM _ _ _ ⟨tx, [], false, ⟨ln, cl⟩⟩ (Kd.R_nil _ _ _ _ _)))
  clear h hl
  go_enter Tryd.func26, Tryd.ntmps26
  go_wp2_with (go_at_call 34; refine (hc.out _ (below_alloc (Below.refl _ _) _)).mono ?_; rintro e w1 ⟨rfl, hS, hB⟩; replace hS := Lib.hid hS; replace hB := Lib.hid hB)
  go_ret
  exact ⟨rfl, hS.out, ((Below.refl base w).alloc hbase _).trans hB.out⟩
set_option maxRecDepth 100000 in
set_option maxHeartbeats 4000000 in
theorem tok_deep (w : World) (base P : Nat) (vo vt : Value) (tops : List S52) (ros : List (Value × List S52)) (ps : List (Int × Int)) (tx : ByteArray) (ln cl : Int)
    (h : St w base P vo vt tops ros ps) (hn : ros.length = 64) :
    Calls Tryd.prog 26 #[.pointer (some ⟨P, 0, none⟩), .agg #[.int .i64 1, .string tx, .int .i64 ln, .int .i64 cl]] w (TellsErr 8 w) := by
  obtain ⟨A, co, rfl⟩ := vo_form h
  rw [hn] at h
  have p0 : w.cell? ⟨P, 0, none⟩ = some (.slice A 64 co) := (blk_cell h.blk 0).trans rfl
  have hP := blk_lt h.blk
  clear h hn
  go_enter Tryd.func26, Tryd.ntmps26
  go_wp2
  go_ret
  exact ⟨rfl, below_alloc (Below.refl _ _) _⟩
set_option maxRecDepth 100000 in
set_option maxHeartbeats 4000000 in
theorem tok_none (w : World) (base P : Nat) (vo vt : Value) (tops : List S52) (tx : ByteArray) (ln cl : Int)
    (h : St w base P vo vt tops [] []) :
    Calls Tryd.prog 26 #[.pointer (some ⟨P, 0, none⟩), .agg #[.int .i64 2, .string tx, .int .i64 ln, .int .i64 cl]] w (TellsErr 4 w) := by
  obtain ⟨A, co, rfl⟩ := vo_form h
  have p0 : w.cell? ⟨P, 0, none⟩ = some (.slice A 0 co) := (blk_cell h.blk 0).trans rfl
  have hP := blk_lt h.blk
  clear h
  go_enter Tryd.func26, Tryd.ntmps26
  go_wp2
  go_ret
  exact ⟨rfl, below_alloc (Below.refl _ _) _⟩
end Go.Proofs.YtlggmdlbhndacaaDoor.Lx.Token

/- parser.token walked at an open. -/
namespace Go.Proofs.YtlggmdlbhndacaaDoor.Lx.TokenOpen
open Go.RowKit Go.Proofs.YtlggmdlbhndacaaDoorW.PrintWords Go.Proofs.YtlggmdlbhndacaaDoorW.PrintLast Go.Proofs.YtlggmdlbhndacaaDoorW.PrintMore Stack LexV Put PutIn Ps Token

theorem seg_room {w : World} {base g n cp : Nat} {xs : List Value} (h : w.ownsRow base 52 5 (.slice (some ⟨g, 0, none⟩) (n + 1) cp) (n + 1) xs) : ∃ cells, w.heap[g]? = some (.cells cells 52 (0, 0)) ∧ n * 5 + 5 ≤ cells.size := by
  rcases h.2 with ⟨hv, _⟩ | ⟨g', cap, cur, hv, _, hh, hc, _, hs, _⟩
  · cases hv
  · injection hv with h1 h2 h3
    injection h1 with h1
    injection h1 with h1
    subst h1
    exact ⟨cur, hh, by rw [hs]; have := Nat.mul_le_mul_right 5 hc; omega⟩

theorem St.push1 {w w1 : World} {base P g n cp : Nat} {vo vt : Value} {tops : List S52} {ros : List (Value × List S52)} {ps : List (Int × Int)} {a b : Int} (h : St w base P vo vt tops ros ps) (hn : ros.length = n)
    (ho : w1.ownsRow base 52 5 (.slice (some ⟨g, 0, none⟩) (n + 1) cp) (n + 1) (ocells ros ps ++ [.string ⟨#[]⟩, .slice none 0 0, .bool false, .int .i64 0, .int .i64 0])) (hg : w.grownBy w1 vo.ownBlock)
    (hat : (Value.slice (some ⟨g, 0, none⟩) (n + 1) cp).ownBlock = vo.ownBlock ∨ ∃ b, (Value.slice (some ⟨g, 0, none⟩) (n + 1) cp).ownBlock = some b ∧ w.heap.size ≤ b) :
    St ((w1.setCells g (n * 5) [.string ⟨#[]⟩, .slice none 0 0, .bool true, .int .i64 a, .int .i64 b]).setCell ⟨P, 0, none⟩ (.slice (some ⟨g, 0, none⟩) (n + 1) cp)) base P (.slice (some ⟨g, 0, none⟩) (n + 1) cp) vt tops (ros ++ [(.slice none 0 0, [])]) (ps ++ [(a, b)]) := by
  have hP := own_ne h.own h.blk (by decide)
  have k1 := blk_grown h.blk hg hP
  obtain ⟨o2, g2⟩ := own_seg (a0 := .string ⟨#[]⟩) (a1 := .slice none 0 0) (a2 := .bool true) (a3 := .int .i64 a) (a4 := .int .i64 b) ho (by rw [ocells_len _ _ h.len, hn])
  have hPg : some P ≠ some g := own_ne ho k1 (by decide)
  have k2 := blk_grown k1 g2 hPg
  refine ⟨heap_setCell_same _ P 0 _ 60 _ k2, h.low, by simp [h.len], ?_, ?_⟩
  · rw [ocells_snoc _ _ _ _ _ _ h.len, show (ros ++ [((Value.slice none 0 0 : Value), ([] : List S52))]).length = n + 1 by simp [hn]]
    exact own_set o2 k2
  · exact Rows.push (l := (vt, tops) :: ros) (Rows.far (Rows.array (Rows.array h.rows hg hat) g2 (.inl rfl)) (.inl rfl) _)
theorem St.push2 {w w1 : World} {base P g n cp : Nat} {vo vt : Value} {tops : List S52} {ros : List (Value × List S52)} {ps : List (Int × Int)} {a b : Int} (h : St w base P vo vt tops ros ps) (hn : ros.length = n)
    (ho : w1.ownsRow base 52 5 (.slice (some ⟨g, 0, none⟩) (n + 1) cp) (n + 1) (ocells ros ps ++ [.string ⟨#[]⟩, .slice none 0 0, .bool false, .int .i64 0, .int .i64 0])) (hg : w.grownBy w1 vo.ownBlock)
    (hat : (Value.slice (some ⟨g, 0, none⟩) (n + 1) cp).ownBlock = vo.ownBlock ∨ ∃ b, (Value.slice (some ⟨g, 0, none⟩) (n + 1) cp).ownBlock = some b ∧ w.heap.size ≤ b) :
    St ((w1.setCell ⟨P, 0, none⟩ (.slice (some ⟨g, 0, none⟩) (n + 1) cp)).setCells g (n * 5) [.string ⟨#[]⟩, .slice none 0 0, .bool true, .int .i64 a, .int .i64 b]) base P (.slice (some ⟨g, 0, none⟩) (n + 1) cp) vt tops (ros ++ [(.slice none 0 0, [])]) (ps ++ [(a, b)]) := by
  have hP := own_ne h.own h.blk (by decide)
  have k1 := blk_grown h.blk hg hP
  have hPg : some P ≠ some g := own_ne ho k1 (by decide)
  have k2 := heap_setCell_same _ P 0 _ 60 (.slice (some ⟨g, 0, none⟩) (n + 1) cp) k1
  obtain ⟨o3, g3⟩ := own_seg (a0 := .string ⟨#[]⟩) (a1 := .slice none 0 0) (a2 := .bool true) (a3 := .int .i64 a) (a4 := .int .i64 b) (own_set (j := 0) (u := .slice (some ⟨g, 0, none⟩) (n + 1) cp) ho k1) (by rw [ocells_len _ _ h.len, hn])
  refine ⟨blk_grown k2 g3 hPg, h.low, by simp [h.len], ?_, ?_⟩
  · rw [ocells_snoc _ _ _ _ _ _ h.len, show (ros ++ [((Value.slice none 0 0 : Value), ([] : List S52))]).length = n + 1 by simp [hn]]
    exact o3
  · exact Rows.push (l := (vt, tops) :: ros) (Rows.array (Rows.far (Rows.array h.rows hg hat) (.inl rfl) _) g3 (.inl rfl))
theorem St.pop {w : World} {base P O co n : Nat} {vt v : Value} {tops xs : List S52} {l : List (Value × List S52)} {ps : List (Int × Int)} {a b : Int} (h : St w base P (.slice (some ⟨O, 0, none⟩) (n + 1) co) vt tops (l ++ [(v, xs)]) (ps ++ [(a, b)])) (hn : l.length = n) :
    St (w.setCell ⟨P, 0, none⟩ (.slice (some ⟨O, 0, none⟩) n co)) base P (.slice (some ⟨O, 0, none⟩) n co) vt tops l ps ∧ k52.M (w.setCell ⟨P, 0, none⟩ (.slice (some ⟨O, 0, none⟩) n co)) base (Okk P (.slice (some ⟨O, 0, none⟩) n co) (((vt, tops) :: l).map (·.1))) ⟨⟨#[]⟩, xs, true, ⟨a, b⟩⟩ [.string ⟨#[]⟩, v, .bool true, .int .i64 a, .int .i64 b] := by
  have hlen : l.length = ps.length := by have := h.len; simpa using this
  obtain ⟨h1, h2⟩ := Rows.pop (l := (vt, tops) :: l) h.rows
  have ho := h.own
  rw [show (l ++ [(v, xs)]).length = n + 1 by simp [hn], ocells_snoc _ _ _ _ _ _ hlen] at ho
  have ho2 := ownsRow_pop (by rw [ocells_len _ _ hlen, hn]) ho
  refine ⟨⟨heap_setCell_same _ P 0 _ 60 _ h.blk, h.low, hlen, ?_, ?_⟩, ?_⟩
  · rw [hn]; exact own_set ho2 h.blk
  · exact Rows.far (Rows.same h1 (vo1 := .slice (some ⟨O, 0, none⟩) n co) (.inl rfl)) (.inl rfl) _
  · exact k52_mkM _ _ _ ⟨⟨#[]⟩, xs, true, ⟨a, b⟩⟩ (Kd.R_far h2 (p := ⟨P, 0, none⟩) (fun k hk => hk.1) _)

set_option linter.unusedSimpArgs false in
set_option maxRecDepth 100000 in
set_option maxHeartbeats 4000000 in
theorem tok_open (w : World) (base P : Nat) (vo vt : Value) (tops : List S52) (ros : List (Value × List S52)) (ps : List (Int × Int)) (tx : ByteArray) (ln cl : Int)
    (h : St w base P vo vt tops ros ps) (hbase : base ≤ w.heap.size) (hn : ros.length < 64) :
    Calls Tryd.prog 26 #[.pointer (some ⟨P, 0, none⟩), .agg #[.int .i64 1, .string tx, .int .i64 ln, .int .i64 cl]] w (TellsTok 0 base P tops (ros.map (·.2) ++ [[]]) (ps ++ [(ln, cl)]) w) := by
  obtain ⟨A, co, rfl⟩ := vo_form h
  obtain ⟨n, hnn⟩ : ∃ n, n = ros.length := ⟨_, rfl⟩
  rw [← hnn] at h hn
  have p0 : w.cell? ⟨P, 0, none⟩ = some (.slice A n co) := (blk_cell h.blk 0).trans rfl
  have hP := blk_lt h.blk
  have g1 : ((n : Int) == 64) = false := by simp; omega
  have g2 : (n == 64) = false := by simp; omega
  have H := Lib.hid h
  have HN := Lib.hid hnn
  clear h hnn
  go_enter Tryd.func26, Tryd.ntmps26
  go_wp2
  obtain ⟨W, hWe⟩ : ∃ W, W = (w.alloc (.cells #[.int .i64 1, .string tx, .int .i64 ln, .int .i64 cl] 39)) := ⟨_, rfl⟩
  have KB : W.heap[w.heap.size]? = some (.cells #[.int .i64 1, .string tx, .int .i64 ln, .int .i64 cl] 39 (0, 0)) := by rw [hWe]; exact blk_new w _
  have hbe : Below w.heap.size w W := by rw [hWe]; exact below_alloc (Below.refl _ _) _
  have HST := Lib.hid (H.out.below hbe)
  have q0 : W.cell? ⟨P, 0, none⟩ = some (.slice A n co) := by rw [hWe]; exact keepA p0 _
  have q1 : W.cell? ⟨w.heap.size, 2, none⟩ = some (.int .i64 ln) := (blk_cell KB 2).trans rfl
  have q2 : W.cell? ⟨w.heap.size, 3, none⟩ = some (.int .i64 cl) := (blk_cell KB 3).trans rfl
  have HB : Hid (Below base w W) := Lib.hid (hbe.mono hbase)
  have HS : base ≤ W.heap.size := Nat.le_trans hbase hbe.size
  have HOW : Hid (W.ownsRow base 52 5 (.slice A n co) n (ocells ros ps)) := by have := HST.out.own; rw [← HN.out] at this; exact Lib.hid this
  have hneP : some P ≠ (Value.slice A n co).ownBlock := own_ne HST.out.own HST.out.blk (by decide)
  have hneB : some w.heap.size ≠ (Value.slice A n co).ownBlock := fun e => by have := (H.out.own.lt _ e.symm).2; omega
  rw [← hWe]
  clear hWe
  refine start_ (n := 15) (S := fun w' => w'.cell? ⟨P, 0, none⟩ = some (.slice A n co) ∧ w'.cell? ⟨w.heap.size, 2, none⟩ = some (.int .i64 ln) ∧ w'.cell? ⟨w.heap.size, 3, none⟩ = some (.int .i64 cl)) (ds := [11, 14]) #[false, false, false, false, false, false, false, false, false, false, false, false, false, false, false] (by kernel_rfl) rfl rfl ⟨q0, q1, q2⟩ (fun hHeld => ?_)
  refine pure_ (i := 0) (N := some 25) (v := ?_) (a' := ?_) #[true, false, false, false, false, false, false, false, false, false, false, false, false, false, false] rfl rfl (by kernel_rfl) (fun _ _ _ h => h) (Or.inl ⟨by rfl, ?_⟩) ?_ ?_
  rotate_left
  · intro w'
    go_simp
    with_reducible rfl
  rotate_left
  · simp only [Act.put, List.setIfInBounds_toArray, List.set_cons_zero, List.set_cons_succ, i64_w, i32_w]
    rfl
  refine pure_ (i := 1) (N := some 26) (v := ?_) (a' := ?_) #[true, true, false, false, false, false, false, false, false, false, false, false, false, false, false] rfl rfl (by kernel_rfl) (fun _ _ _ h => h) (Or.inl ⟨by rfl, ?_⟩) ?_ ?_
  rotate_left
  · intro w'
    go_simp
    with_reducible rfl
  rotate_left
  · simp only [Act.put, List.setIfInBounds_toArray, List.set_cons_zero, List.set_cons_succ, i64_w, i32_w]
    rfl
  refine pure_ (i := 2) (N := some 27) (v := ?_) (a' := ?_) #[true, true, true, false, false, false, false, false, false, false, false, false, false, false, false] rfl rfl (by kernel_rfl) (fun _ _ _ h => h) (Or.inl ⟨by rfl, ?_⟩) ?_ ?_
  rotate_left
  · intro w'
    go_simp
    with_reducible rfl
  rotate_left
  · simp only [Act.put, List.setIfInBounds_toArray, List.set_cons_zero, List.set_cons_succ, i64_w, i32_w]
    rfl
  refine pure_ (i := 4) (N := some 29) (v := ?_) (a' := ?_) #[true, true, true, false, true, false, false, false, false, false, false, false, false, false, false] rfl rfl (by kernel_rfl) (fun _ _ _ h => h) (Or.inl ⟨by rfl, ?_⟩) ?_ ?_
  rotate_left
  · intro w'
    go_simp
    with_reducible rfl
  rotate_left
  · simp only [Act.put, List.setIfInBounds_toArray, List.set_cons_zero, List.set_cons_succ, i64_w, i32_w]
    rfl
  refine take_ (i := 3) (N := some 28) (v := ?_) (a' := ?_) #[true, true, true, true, true, false, false, false, false, false, false, false, false, false, false] rfl rfl (by kernel_rfl) (fun _ _ _ h => h) (Or.inl ⟨by rfl, ?_⟩) hHeld ?_ ?_
  rotate_left
  · rintro w' ⟨s0, s1, s2⟩
    go_simp
    with_reducible rfl
  rotate_left
  · simp only [Act.put, List.setIfInBounds_toArray, List.set_cons_zero, List.set_cons_succ, i64_w, i32_w]
    rfl
  refine pure_ (i := 7) (N := some 32) (v := ?_) (a' := ?_) #[true, true, true, true, true, false, false, true, false, false, false, false, false, false, false] rfl rfl (by kernel_rfl) (fun _ _ _ h => h) (Or.inl ⟨by rfl, ?_⟩) ?_ ?_
  rotate_left
  · intro w'
    go_simp
    with_reducible rfl
  rotate_left
  · simp only [Act.put, List.setIfInBounds_toArray, List.set_cons_zero, List.set_cons_succ, i64_w, i32_w]
    rfl
  refine take_ (i := 5) (N := some 30) (v := ?_) (a' := ?_) #[true, true, true, true, true, true, false, true, false, false, false, false, false, false, false] rfl rfl (by kernel_rfl) (fun _ _ _ h => h) (Or.inl ⟨by rfl, ?_⟩) hHeld ?_ ?_
  rotate_left
  · rintro w' ⟨s0, s1, s2⟩
    go_simp
    with_reducible rfl
  rotate_left
  · simp only [Act.put, List.setIfInBounds_toArray, List.set_cons_zero, List.set_cons_succ, i64_w, i32_w]
    rfl
  refine pure_ (i := 6) (N := some 31) (v := ?_) (a' := ?_) #[true, true, true, true, true, true, true, true, false, false, false, false, false, false, false] rfl rfl (by kernel_rfl) (fun _ _ _ h => h) (Or.inl ⟨by rfl, ?_⟩) ?_ ?_
  rotate_left
  · intro w'
    go_simp
    with_reducible rfl
  rotate_left
  · simp only [Act.put, List.setIfInBounds_toArray, List.set_cons_zero, List.set_cons_succ, i64_w, i32_w]
    rfl
  refine one_ (i := 8) (N := some 33) #[true, true, true, true, true, true, true, true, true, false, false, false, false, false, false] rfl rfl (by kernel_rfl) (by decide) (fun K hK => ?_)
  refine value_ (w1 := ?_) (v := ?_) (by rfl) rfl ?_ ?_
  rotate_left 2
  · go_simp
    constructor
    · rfl
    · rfl
  refine hK.out _ _ ⟨(keepA q0 _), (keepA q1 _), (keepA q2 _)⟩ (fun hHeld => ?_)
  clear hK K
  refine norm_ (a' := ?_) ?_ ?_
  rotate_left
  · show Act.put _ (some 33) _ = _
    simp only [Act.put, List.setIfInBounds_toArray, List.set_cons_zero, List.set_cons_succ, i64_w, i32_w]
    rfl
  refine one_ (i := 9) (N := some 34) #[true, true, true, true, true, true, true, true, true, true, false, false, false, false, false] rfl rfl (by kernel_rfl) (by decide) (fun K hK => ?_)
  refine step_append_cells (w0 := w) (W := W.drew) base rfl (.tmp 28) (.tmp 33) 23 52 (.agg #[(.string ⟨#[]⟩), (.slice none 0 0), (.bool false), (.int .i64 0), (.int .i64 0)]) 5 64 rfl Tryd.underlying23 info52 rfl (by decide) (by decide) (.slice A n co) n (ocells ros ps) [.string ⟨#[]⟩, .slice none 0 0, .bool false, .int .i64 0, .int .i64 0] rfl rfl rfl (by decide) (HOW.out).drew HB.out.drew HS (by omega) ?_
  intro v2 w2 ho2 hB2 hG2 hat2
  obtain ⟨g, cp, rfl, hg0, hg1⟩ := ho2.form (by omega)
  have KP2 := blk_grown (blk_drew HST.out.blk) hG2 hneP
  have fz2 := blk_frozen KP2 0
  have hb1 : ((n : Int) < (n : Int) + 1) = True := eq_true (by omega)
  obtain ⟨cells2, hg2, hfit⟩ := seg_room ho2
  refine hK.out _ _ ⟨(hG2.cell q0 hneP), (hG2.cell q1 hneB), (hG2.cell q2 hneB)⟩ (fun hHeld => ?_)
  clear hK K
  refine norm_ (a' := ?_) ?_ ?_
  rotate_left
  · show Act.put _ (some 34) _ = _
    simp only [Act.put, List.setIfInBounds_toArray, List.set_cons_zero, List.set_cons_succ, i64_w, i32_w]
    rfl
  refine pure_ (i := 10) (N := some 35) (v := ?_) (a' := ?_) #[true, true, true, true, true, true, true, true, true, true, true, false, false, false, false] rfl rfl (by kernel_rfl) (fun _ _ _ h => h) (Or.inl ⟨by rfl, ?_⟩) ?_ ?_
  rotate_left
  · intro w'
    go_simp
    with_reducible rfl
  rotate_left
  · simp only [Act.put, List.setIfInBounds_toArray, List.set_cons_zero, List.set_cons_succ, i64_w, i32_w]
    rfl
  refine pure_ (i := 12) (N := some 36) (v := ?_) (a' := ?_) #[true, true, true, true, true, true, true, true, true, true, true, false, true, false, false] rfl rfl (by kernel_rfl) (fun _ _ _ h => h) (Or.inl ⟨by rfl, ?_⟩) ?_ ?_
  rotate_left
  · intro w'
    go_simp
    with_reducible rfl
  rotate_left
  · simp only [Act.put, List.setIfInBounds_toArray, List.set_cons_zero, List.set_cons_succ, i64_w, i32_w]
    rfl
  refine pure_ (i := 13) (N := some 37) (v := ?_) (a' := ?_) #[true, true, true, true, true, true, true, true, true, true, true, false, true, true, false] rfl rfl (by kernel_rfl) (fun _ _ _ h => h) (Or.inl ⟨by rfl, ?_⟩) ?_ ?_
  rotate_left
  · intro w'
    go_simp
    with_reducible rfl
  rotate_left
  · simp only [Act.put, List.setIfInBounds_toArray, List.set_cons_zero, List.set_cons_succ, i64_w, i32_w]
    rfl
  refine wpAnyLast_ready (rs := [11, 14]) (by kernel_rfl) (by simp) (AllReadyL.cons_last (o := _) rfl (by decide) (fun K hK => ?_) (AllReadyL.cons_last (o := _) rfl (by decide) (fun K hK => ?_) AllReadyL.nil))
  · refine store_step 52 (.tmp 35) (.tmp 31) rfl rfl rfl rfl rfl hg2 (seg := [.string ⟨#[]⟩, .slice none 0 0, .bool true, .int .i64 ln, .int .i64 cl]) rfl (by kernel_rfl) hfit (by simp [Value.oneCell']) ?_
    have hS1 := St.push1 (a := ln) (b := cl) (HST.out.below (below_drew (Below.refl _ _))) HN.out.symm ho2 hG2 hat2
    have KP3 : (w2.setCells g (n * 5) [.string ⟨#[]⟩, .slice none 0 0, .bool true, .int .i64 ln, .int .i64 cl]).heap[P]? = some (.cells #[.slice A n co, vt] 60 (0, 0)) := (setCells_far _ _ _ (fun e => own_ne ho2 KP2 (by decide) (by rw [e]; rfl))).trans KP2
    refine hK.out _ _ ?_
    clear hK K
    refine last_ (i := 14) (N := none) #[true, true, true, true, true, true, true, true, true, true, true, true, true, true, true] rfl rfl (by kernel_rfl) (by decide) (fun K hK => ?_)
    have fz3 := blk_frozen KP3 0
    have cz3 := (blk_cell KP3 0).trans rfl
    refine skip_ (w1 := ?_) (by rfl) rfl ?_ ?_
    rotate_left
    · go_simp
      rfl
    rotate_left
    refine hK.out _ _ ?_
    clear hK K
    refine done_ (by kernel_rfl) ?_
    go_wp2
    go_ret
    refine ⟨rfl, ⟨_, _, _, hS1, by simp⟩, ?_⟩
    exact (hB2.grown (own_seg ho2 (by rw [ocells_len _ _ (HST.out.len), ← HN.out])).2 (Nat.le_trans HS (by have := hG2.size; exact this)) (fun k e => by injection e with e; omega)).setCell H.out.low _
  · have cz2 := (blk_cell KP2 0).trans rfl
    refine skip_ (w1 := ?_) (by rfl) rfl ?_ ?_
    rotate_left
    · go_simp
      rfl
    rotate_left
    refine hK.out _ _ ?_
    clear hK K
    refine last_ (i := 11) (N := none) #[true, true, true, true, true, true, true, true, true, true, true, true, true, true, true] rfl rfl (by kernel_rfl) (by decide) (fun K hK => ?_)
    have hS1 := St.push2 (a := ln) (b := cl) (HST.out.below (below_drew (Below.refl _ _))) HN.out.symm ho2 hG2 hat2
    have hPg : P ≠ g := fun e => own_ne ho2 KP2 (by decide) (by rw [e]; rfl)
    have ho3 := own_set (j := 0) (u := .slice (some ⟨g, 0, none⟩) (n + 1) cp) ho2 KP2
    have hg3 := (Below.heap_setCell w2 ⟨P, 0, none⟩ (.slice (some ⟨g, 0, none⟩) (n + 1) cp) g (fun e => hPg e.symm)).trans hg2
    refine store_step 52 (.tmp 35) (.tmp 31) rfl rfl rfl rfl rfl hg3 (seg := [.string ⟨#[]⟩, .slice none 0 0, .bool true, .int .i64 ln, .int .i64 cl]) rfl (by kernel_rfl) hfit (by simp [Value.oneCell']) ?_
    refine hK.out _ _ ?_
    clear hK K
    refine done_ (by kernel_rfl) ?_
    go_wp2
    go_ret
    refine ⟨rfl, ⟨_, _, _, hS1, by simp⟩, ?_⟩
    exact (hB2.setCell H.out.low _).grown (own_seg ho3 (by rw [ocells_len _ _ (HST.out.len), ← HN.out])).2 (by have := hG2.size; simp; exact Nat.le_trans HS this) (fun k e => by injection e with e; omega)
end Go.Proofs.YtlggmdlbhndacaaDoor.Lx.TokenOpen

/- parser.token walked at a close. -/
namespace Go.Proofs.YtlggmdlbhndacaaDoor.Lx.TokenClose
open Go.RowKit Go.Proofs.YtlggmdlbhndacaaDoorW.PrintWords Go.Proofs.YtlggmdlbhndacaaDoorW.PrintLast Go.Proofs.YtlggmdlbhndacaaDoorW.PrintMore Stack LexV Put PutIn Ps Token TokenOpen

set_option linter.unusedSimpArgs false in
set_option maxRecDepth 100000 in
set_option maxHeartbeats 4000000 in
theorem tok_close (w : World) (base P O co n : Nat) (vt v : Value) (tops xs : List S52) (l : List (Value × List S52)) (ps : List (Int × Int)) (a b : Int) (tx : ByteArray) (ln cl : Int)
    (h : St w base P (.slice (some ⟨O, 0, none⟩) (n + 1) co) vt tops (l ++ [(v, xs)]) (ps ++ [(a, b)])) (hn : l.length = n) (hbase : base ≤ w.heap.size) (hn64 : n ≤ 64) (hl : ∀ q ∈ tops :: l.map (·.2), q.length ≤ 1048576) :
    Calls Tryd.prog 26 #[.pointer (some ⟨P, 0, none⟩), .agg #[.int .i64 2, .string tx, .int .i64 ln, .int .i64 cl]] w (TellsTok 0 base P (putM tops (l.map (·.2)) ⟨⟨#[]⟩, xs, true, ⟨a, b⟩⟩).1 (putM tops (l.map (·.2)) ⟨⟨#[]⟩, xs, true, ⟨a, b⟩⟩).2 ps w) := by
  obtain ⟨Av, cv, rfl⟩ := Kd.R_slice (Rows.pop (l := (vt, tops) :: l) h.rows).2
  have p0 : w.cell? ⟨P, 0, none⟩ = some (.slice (some ⟨O, 0, none⟩) (n + 1) co) := (blk_cell h.blk 0).trans rfl
  have hP := blk_lt h.blk
  have hlen : l.length = ps.length := by have := h.len; simpa using this
  have hown : w.ownsRow base 52 5 (.slice (some ⟨O, 0, none⟩) (n + 1) co) (n + 1) (ocells (l ++ [((Value.slice Av xs.length cv : Value), xs)]) (ps ++ [(a, b)])) := by have := h.own; rwa [show (l ++ [((Value.slice Av xs.length cv : Value), xs)]).length = n + 1 by simp [hn]] at this
  have hO := (hown.lt O rfl).2
  have hbO := (hown.lt O rfl).1
  have hcap : n + 1 ≤ co := own_cap hown
  have c0 : w.cell? ⟨O, n * 5, none⟩ = some (.string ⟨#[]⟩) := by rw [hown.cellAt (n * 5) (by omega), ← hn]; exact (ocells_get l ps _ xs a b hlen 0).trans rfl
  have c1 : w.cell? ⟨O, n * 5 + 1, none⟩ = some (.slice Av xs.length cv) := by rw [hown.cellAt (n * 5 + 1) (by omega), ← hn, ocells_get l ps _ xs a b hlen 1]; rfl
  have c2 : w.cell? ⟨O, n * 5 + 2, none⟩ = some (.bool true) := by rw [hown.cellAt (n * 5 + 2) (by omega), ← hn, ocells_get l ps _ xs a b hlen 2]; rfl
  have c3 : w.cell? ⟨O, n * 5 + 3, none⟩ = some (.int .i64 a) := by rw [hown.cellAt (n * 5 + 3) (by omega), ← hn, ocells_get l ps _ xs a b hlen 3]; rfl
  have c4 : w.cell? ⟨O, n * 5 + 4, none⟩ = some (.int .i64 b) := by rw [hown.cellAt (n * 5 + 4) (by omega), ← hn, ocells_get l ps _ xs a b hlen 4]; rfl
  have g1 : (((n : Int) + 1) == 0) = false := by simp; omega
  have g2 : (n + 1 == 0) = false := by simp
  have g3 : n ≤ co := by omega
  have fz := blk_frozen h.blk 0
  have hb : base ≤ P := h.low
  have hp := St.pop h hn
  have hc := Lib.hid (fun (W : World) (hb : Below (w.setCell ⟨P, 0, none⟩ (.slice (some ⟨O, 0, none⟩) n co)).heap.size (w.setCell ⟨P, 0, none⟩ (.slice (some ⟨O, 0, none⟩) n co)) W) => put_calls W base P _ vt tops l ps ⟨⟨#[]⟩, xs, true, ⟨a, b⟩⟩ (.slice Av xs.length cv) (hp.1.below hb) (Nat.le_trans hbase (by have := hb.size; simpa using this)) (by omega) hl (Kd.M_below hp.2 hb))
  clear hp
  clear h hn hl hlen hown hcap
  go_enter Tryd.func26, Tryd.ntmps26
  go_wp2_with (go_at_call 34; refine (hc.out _ (below_alloc (below_alloc (Below.refl _ _) _) _)).mono ?_; rintro e w1 ⟨rfl, hS, hB⟩; replace hS := Lib.hid hS; replace hB := Lib.hid hB)
  go_ret
  exact ⟨rfl, hS.out, ((((Below.refl base w).setCell (p := ⟨P, 0, none⟩) hb _).alloc (by simp; omega) _).alloc (by simp; omega) _).trans hB.out⟩
end Go.Proofs.YtlggmdlbhndacaaDoor.Lx.TokenClose

/- The parser of lists as a machine over tokens, in plain Lean: what is complete, and the lists that are open, the inner ones first. -/
namespace Go.Proofs.YtlggmdlbhndacaaDoor.Lx.Mach
open Go.RowKit Go.Proofs.YtlggmdlbhndacaaDoorW.PrintWords

abbrev Sk := List (S25 × List S52)
def mput (tops : List S52) (st : Sk) (x : S52) : List S52 × Sk := match st with
  | [] => (tops ++ [x], [])
  | (p, xs) :: r => (tops, (p, xs ++ [x]) :: r)
def mstep (t : S39) (tops : List S52) (st : Sk) : Except Int (List S52 × Sk) :=
  if t.f0 = 1 then (if st.length = 64 then .error 8 else .ok (tops, (t.f2, []) :: st))
  else if t.f0 = 2 then (match st with
    | [] => .error 4
    | (p, xs) :: r => .ok (mput tops r ⟨⟨#[]⟩, xs, true, p⟩))
  else .ok (mput tops st ⟨t.f1, [], false, t.f2⟩)
inductive Res where
  | ok (xs : List S52)
  | bad (p : S25) (e : Int)
def mrun : List S39 → List S52 → Sk → Res
  | [], tops, [] => .ok tops
  | [], _, (p, _) :: _ => .bad p 4
  | t :: ts, tops, st => match mstep t tops st with
    | .error e => .bad t.f2 e
    | .ok s => mrun ts s.1 s.2
def resV : Res → List S52 × Int × Int × Int
  | .ok xs => (xs, 0, 0, 0)
  | .bad p e => ([], p.f0, p.f1, e)
def Kinds (L : List S39) : Prop := ∀ t ∈ L, t.f0 = 1 ∨ t.f0 = 2 ∨ t.f0 = 3
/-- How many things are there. -/
def cnt (tops : List S52) : Sk → Nat
  | [] => tops.length
  | (_, xs) :: r => xs.length + 1 + cnt tops r
theorem cnt_mput (tops : List S52) (st : Sk) (x : S52) : cnt (mput tops st x).1 (mput tops st x).2 = cnt tops st + 1 := by
  cases st with
  | nil => simp [mput, cnt]
  | cons q r => obtain ⟨p, xs⟩ := q; simp [mput, cnt]; omega
theorem cnt_mstep {t : S39} {tops : List S52} {st : Sk} {s : List S52 × Sk} (h : mstep t tops st = .ok s) : cnt s.1 s.2 ≤ cnt tops st + 1 := by
  unfold mstep at h
  split at h
  · split at h
    · cases h
    · injection h with h; subst h; simp [cnt]; omega
  · split at h
    · split at h
      · cases h
      · injection h with h; subst h; rw [cnt_mput]; simp [cnt]
    · injection h with h; subst h; exact Nat.le_of_eq (cnt_mput _ _ _)
theorem mput_len (tops : List S52) (st : Sk) (x : S52) : (mput tops st x).2.length = st.length := by
  cases st with
  | nil => rfl
  | cons q r => rfl
theorem mstep_len {t : S39} {tops : List S52} {st : Sk} {s : List S52 × Sk} (h : mstep t tops st = .ok s) (hl : st.length ≤ 64) : s.2.length ≤ 64 := by
  unfold mstep at h
  split at h
  · split at h
    · cases h
    · injection h with h; subst h; simp; omega
  · split at h
    · split at h
      · cases h
      · injection h with h; subst h; rw [mput_len]; simp at hl; omega
    · injection h with h; subst h; rw [mput_len]; exact hl
theorem cnt_top (tops : List S52) : ∀ st : Sk, tops.length ≤ cnt tops st
  | [] => Nat.le_refl _
  | (_, xs) :: r => by have := cnt_top tops r; simp [cnt]; omega
theorem cnt_mem (tops : List S52) : ∀ (st : Sk), ∀ q ∈ st, q.2.length ≤ cnt tops st
  | [], _, h => by cases h
  | (p, xs) :: r, q, h => by
    rcases List.mem_cons.1 h with rfl | h
    · simp [cnt]; omega
    · have := cnt_mem tops r q h; simp [cnt]; omega
end Go.Proofs.YtlggmdlbhndacaaDoor.Lx.Mach

/- parser.token told: it takes the machine's mstep. -/
namespace Go.Proofs.YtlggmdlbhndacaaDoor.Lx.Tok
open Go.RowKit Go.Proofs.YtlggmdlbhndacaaDoorW.PrintWords Go.Proofs.YtlggmdlbhndacaaDoorW.PrintLast Go.Proofs.YtlggmdlbhndacaaDoorW.PrintMore Stack LexV Put PutIn Ps Token TokenOpen TokenClose Mach

def poss (st : Sk) : List (Int × Int) := (st.map fun q => (q.1.f0, q.1.f1)).reverse
def lsts (st : Sk) : List (List S52) := (st.map (·.2)).reverse
structure PM (w : World) (base P : Nat) (tops : List S52) (st : Sk) : Prop where mk ::
  (out : PS w base P tops (lsts st) (poss st))
structure TellsOk (base P : Nat) (s : List S52 × Sk) (w : World) (e : Ending) (w' : World) : Prop where mk ::
  (out : e = .returned (.int .i64 0) ∧ PM w' base P s.1 s.2 ∧ Below base w w')
theorem putM_put (tops : List S52) (st : Sk) (x : S52) : putM tops (lsts st) x = ((mput tops st x).1, lsts (mput tops st x).2) := by
  cases st with
  | nil => rfl
  | cons q r =>
    obtain ⟨p, xs⟩ := q
    show putM tops ((xs :: r.map (·.2)).reverse) x = _
    rw [List.reverse_cons, putM_snoc]
    simp [mput, lsts]
theorem poss_put (tops : List S52) (st : Sk) (x : S52) : poss (mput tops st x).2 = poss st := by
  cases st with
  | nil => rfl
  | cons q r => obtain ⟨p, xs⟩ := q; simp [mput, poss]
theorem small {tops : List S52} {st : Sk} (hc : cnt tops st ≤ 1048576) : ∀ l ∈ tops :: lsts st, l.length ≤ 1048576 := by
  intro l hl
  rcases List.mem_cons.1 hl with rfl | hl
  · exact Nat.le_trans (cnt_top _ st) hc
  · obtain ⟨q, hq, rfl⟩ := List.mem_map.1 (List.mem_reverse.1 hl)
    exact Nat.le_trans (cnt_mem tops st q hq) hc
theorem lsts_len (st : Sk) : (lsts st).length = st.length := by simp [lsts]
theorem tok_ok {w : World} {base P : Nat} {t : S39} {tops : List S52} {st : Sk} {s : List S52 × Sk} (h : PM w base P tops st) (hs : mstep t tops st = .ok s) (hbase : base ≤ w.heap.size) (hn : st.length ≤ 64) (hc : cnt tops st ≤ 1048576) (hk : t.f0 = 1 ∨ t.f0 = 2 ∨ t.f0 = 3) :
    Calls Tryd.prog 26 #[.pointer (some ⟨P, 0, none⟩), .agg #[.int .i64 t.f0, .string t.f1, .int .i64 t.f2.f0, .int .i64 t.f2.f1]] w (TellsOk base P s w) := by
  obtain ⟨vo, vt, ros, hS, hr⟩ := h.out
  have hlen : ros.length = st.length := by rw [← lsts_len, ← hr]; simp
  have hsm := small hc
  rw [← hr] at hsm
  obtain ⟨k, tx, p⟩ := t
  unfold mstep at hs
  rcases hk with rfl | rfl | rfl
  · rw [if_pos rfl] at hs
    split at hs
    · cases hs
    · rename_i hne
      injection hs with hs
      subst hs
      refine (tok_open w base P vo vt tops ros _ tx p.f0 p.f1 hS hbase (by omega)).mono fun e w' ⟨he, h2, h3⟩ => ⟨he, ⟨?_⟩, h3⟩
      rw [hr] at h2
      simpa [lsts, poss] using h2
  · rw [if_neg (fun e => absurd (a := (2 : Int) = 1) e (by decide)), if_pos rfl] at hs
    cases st with
    | nil => cases hs
    | cons q r =>
      obtain ⟨pp, xs⟩ := q
      injection hs with hs
      subst hs
      rcases List.eq_nil_or_concat ros with rfl | ⟨l, ⟨v, ys⟩, hz⟩
      · simp at hlen
      · obtain rfl : ros = l ++ [(v, ys)] := by rw [hz]; simp
        rw [show lsts ((pp, xs) :: r) = lsts r ++ [xs] by simp [lsts], List.map_append] at hr
        obtain ⟨h1, h2⟩ := List.append_inj' hr rfl
        injection h2 with h2
        have h2' : ys = xs := h2
        subst h2'
        rw [show poss ((pp, ys) :: r) = poss r ++ [(pp.f0, pp.f1)] by simp [poss]] at hS
        obtain ⟨A, co, rfl⟩ := vo_form hS
        have hA : ∃ O, A = some ⟨O, 0, none⟩ := by
          rcases hS.own.2 with ⟨h1, h2⟩ | ⟨g, cap, cur, h1, _⟩
          · simp at h2
          · injection h1 with h1
            exact ⟨g, h1⟩
        obtain ⟨O, rfl⟩ := hA
        have e0 : (l ++ [(v, ys)]).length = l.length + 1 := by simp
        rw [e0] at hS
        refine (tok_close w base P O co l.length vt v tops ys l _ pp.f0 pp.f1 tx p.f0 p.f1 hS rfl hbase (by simp at hlen hn; omega) (fun q hq => hsm q (by simp only [List.mem_cons, List.map_append, List.mem_append] at hq ⊢; rcases hq with h | h <;> simp [h]))).mono fun e w' ⟨he, h2, h3⟩ => ⟨he, ⟨?_⟩, h3⟩
        have h1' : l.map (·.2) = lsts r := h1
        rw [h1', putM_put] at h2
        rw [poss_put]
        exact h2
  · rw [if_neg (fun e => absurd (a := (3 : Int) = 1) e (by decide)), if_neg (fun e => absurd (a := (3 : Int) = 2) e (by decide))] at hs
    injection hs with hs
    subst hs
    refine (tok_atom w base P vo vt tops ros _ tx p.f0 p.f1 hS hbase (by omega) hsm).mono fun e w' ⟨he, h2, h3⟩ => ⟨he, ⟨?_⟩, h3⟩
    rw [hr, putM_put] at h2
    rw [poss_put]
    exact h2
theorem tok_err {w : World} {base P : Nat} {t : S39} {tops : List S52} {st : Sk} {er : Int} (h : PM w base P tops st) (hs : mstep t tops st = .error er) (hk : t.f0 = 1 ∨ t.f0 = 2 ∨ t.f0 = 3) :
    Calls Tryd.prog 26 #[.pointer (some ⟨P, 0, none⟩), .agg #[.int .i64 t.f0, .string t.f1, .int .i64 t.f2.f0, .int .i64 t.f2.f1]] w (TellsErr er w) := by
  obtain ⟨vo, vt, ros, hS, hr⟩ := h.out
  have hlen : ros.length = st.length := by rw [← lsts_len, ← hr]; simp
  obtain ⟨k, tx, p⟩ := t
  unfold mstep at hs
  rcases hk with rfl | rfl | rfl
  · rw [if_pos rfl] at hs
    split at hs
    · rename_i h64
      injection hs with hs
      subst hs
      exact tok_deep w base P vo vt tops ros _ tx p.f0 p.f1 hS (by omega)
    · cases hs
  · rw [if_neg (fun e => absurd (a := (2 : Int) = 1) e (by decide)), if_pos rfl] at hs
    cases st with
    | nil =>
      injection hs with hs
      subst hs
      obtain rfl : ros = [] := List.length_eq_zero_iff.1 hlen
      exact tok_none w base P vo vt tops tx p.f0 p.f1 hS
    | cons q r => cases hs
  · rw [if_neg (fun e => absurd (a := (3 : Int) = 1) e (by decide)), if_neg (fun e => absurd (a := (3 : Int) = 2) e (by decide))] at hs
    cases hs
end Go.Proofs.YtlggmdlbhndacaaDoor.Lx.Tok

/- sexp.Parse walked: the machine's answer. -/
namespace Go.Proofs.YtlggmdlbhndacaaDoor.Lx.Parse
open Go.RowKit Go.Proofs.YtlggmdlbhndacaaDoorW.PrintWords Go.Proofs.YtlggmdlbhndacaaDoorW.PrintLast Go.Proofs.YtlggmdlbhndacaaDoorW.PrintMore Stack LexV Put PutIn Ps Token TokenOpen TokenClose Mach Tok Use

structure TellsParse (X : List S52) (p1 p2 er : Int) (w : World) (e : Ending) (w' : World) : Prop where mk ::
  (out : ∃ v, e = .returned (.tuple #[v, .agg #[.int .i64 p1, .int .i64 p2], .int .i64 er]) ∧ Kd.R k52 52 w' w.heap.size (fun _ => True) v X ∧ Below w.heap.size w w')
set_option maxRecDepth 100000 in
set_option maxHeartbeats 4000000 in
theorem parse_bad (s : ByteArray) (w : World) (L : List S39) (p1 p2 er : Int) (h : lexV s.data.toList = (L, p1, p2, er)) (he : er ≠ 0) : Calls Tryd.prog 14 #[.string s] w (TellsParse [] p1 p2 er w) := by
  have c1 := fun w => lex_calls s h w
  have g1 : (er == 0) = false := by simpa using he
  have g2 : (er != 0) = true := by simpa using he
  clear h he
  go_enter Tryd.func14, Tryd.ntmps14
  go_wp2_with (go_at_call 17; refine (c1 _).mono ?_; rintro e w1 ⟨A1, cp1, rfl, hC1, hl1, hb1⟩; replace hC1 := Lib.hid hC1; obtain ⟨k0, k1, hz⟩ := kept hb1; have kb := blk_below (heap_alloc_new w _) hb1; have kf0 := blk_frozen kb 0; have kf1 := blk_frozen kb 1; replace kb := Lib.hid kb; replace hb1 := Lib.hid hb1)
  go_region
  all_goals go_wp2
  refine bodyPost_ret (results_list (rs := [.tmp 2, .cell 3 25, .tmp 4]) rfl (by simp) (.tmp (.cell w.heap.size 25 #[.int .i64 p1, .int .i64 p2] (0, 0) _ rfl (blk_drew (blk_alloc (blk_put (blk_put kb.out 0 _ rfl) 1 _ rfl) _)) Tryd.underlying25 rfl (by kernel_rfl) (.tmp .nil)))) rfl ?_
  refine ⟨_, rfl, Kd.R_nil _ _ _ _ _, below_drew1 (below_alloc (below_set (below_set (below_step (below_alloc (Below.refl _ _) _) hb1.out) (Nat.le_refl _)) (Nat.le_refl _)) _)⟩
theorem mstep_err {t : S39} {tops : List S52} {st : Sk} {er : Int} (h : mstep t tops st = .error er) : er = 8 ∨ er = 4 := by
  unfold mstep at h
  split at h
  · split at h
    · injection h with h; exact .inl h.symm
    · cases h
  · split at h
    · split at h
      · injection h with h; exact .inr h.symm
      · cases h
    · cases h
theorem _root_.Go.Proofs.YtlggmdlbhndacaaDoor.Lx.Tok.PM.below {w w1 : World} {base P : Nat} {tops : List S52} {st : Sk} (h : PM w base P tops st) (hb : Below w.heap.size w w1) : PM w1 base P tops st := by
  obtain ⟨vo, vt, ros, hS, hr⟩ := h.out
  exact ⟨⟨vo, vt, ros, hS.below hb, hr⟩⟩
theorem PM.start (w : World) : PM (w.alloc (.cells #[.slice none 0 0, .slice none 0 0] 60)) w.heap.size w.heap.size [] [] :=
  ⟨⟨_, _, [], St.top (blk_new w _) (Nat.le_refl _) (own_nil _ _ _ _) (Kd.R_nil _ _ _ _ _), rfl⟩⟩
theorem rd_get (L : List S39) (k : Nat) (h : k < L.length) : rd_T39 L (k : Int) = L[k] := by
  unfold rd_T39
  rw [show ((k : Int)).toNat = k from rfl, List.getD_eq_getElem?_getD, List.getElem?_eq_getElem h]; rfl
theorem mrun_at (L : List S39) (k : Nat) (h : k < L.length) (tops : List S52) (st : Sk) : mrun (L.drop k) tops st = match mstep L[k] tops st with
    | .error e => .bad L[k].f2 e
    | .ok s => mrun (L.drop (k + 1)) s.1 s.2 := by
  rw [List.drop_eq_getElem_cons h, mrun]
  try (cases mstep L[k] tops st <;> rfl)
theorem posd (n : Nat) : decide ((n : Int) + 1 > 0) = true := decide_eq_true (by omega)
theorem ltd (n : Nat) : ((n : Int) < (n : Int) + 1) = True := eq_true (by omega)
theorem row_far {wr : World} {b lo g : Nat} {ok : Nat → Prop} {v : Value} {X : List S52} (h : Kd.R k52 52 wr b ok v X) (hlo : lo ≤ b) (hg : g < b) (u1 u2 : Value) : Kd.R k52 52 ((wr.setCell ⟨g, 0, none⟩ u1).setCell ⟨g, 1, none⟩ u2) lo (fun _ => True) v X :=
  Kd.R_mono (Kd.R_lower (Kd.R_far (Kd.R_far (Kd.R_bound h) (p := ⟨g, 0, none⟩) (fun _ hk => Nat.ne_of_gt (Nat.lt_of_lt_of_le hg hk.2.1)) u1) (p := ⟨g, 1, none⟩) (fun _ hk => Nat.ne_of_gt (Nat.lt_of_lt_of_le hg hk.2.1)) u2) hlo) (fun _ _ => trivial)
set_option maxRecDepth 100000 in
set_option maxHeartbeats 4000000 in
theorem parse_ok (s : ByteArray) (w : World) (L : List S39) (h : lexV s.data.toList = (L, 0, 0, 0)) (hk : Kinds L) (hL : L.length ≤ 1048576) (X : List S52) (p1 p2 er : Int) (hr : resV (mrun L [] []) = (X, p1, p2, er)) : Calls Tryd.prog 14 #[.string s] w (TellsParse X p1 p2 er w) := by
  have c1 := fun w => lex_calls s h w
  have HK := Lib.hid hk
  have HR := Lib.hid hr
  clear h hk hr
  go_enter Tryd.func14, Tryd.ntmps14
  go_wp2_with (go_at_call 17; refine (c1 _).mono ?_; rintro e w1 ⟨A1, cp1, rfl, hC1, hl1, hb1⟩; replace hC1 := Lib.hid hC1; obtain ⟨k0, k1, hz⟩ := kept hb1; have kb := blk_below (heap_alloc_new w _) hb1; replace kb := Lib.hid kb; replace hb1 := Lib.hid hb1)
  clear c1
  obtain ⟨W1, hW1⟩ : ∃ W1, W1 = w1.alloc (.cells #[.int .i64 0, .int .i64 0] 25) := ⟨_, rfl⟩
  have hs1 : W1.heap.size = w1.heap.size + 1 := by rw [hW1]; simp
  have HC : Hid (Kd.C k39 W1 A1 L.length L) := by rw [hW1]; exact Lib.hid (Kd.C_alloc hC1.out _)
  have KB : Hid (W1.heap[w.heap.size]? = some (.cells #[.int .i64 0, .int .i64 0] 25 (0, 0))) := by rw [hW1]; exact Lib.hid (blk_alloc kb.out _)
  have HB1 : Hid (Below w.heap.size w W1) := by rw [hW1]; exact Lib.hid (below_alloc (below_step (below_alloc (Below.refl _ _) _) hb1.out) _)
  have HS1 := Lib.hid hs1
  rw [← hs1, ← hW1]
  clear hW1 hC1 kb hb1 k0 k1 hz hs1
  have HP : Hid (PM (W1.alloc (.cells #[.slice none 0 0, .slice none 0 0] 60)) W1.heap.size W1.heap.size [] []) := Lib.hid (PM.start W1)
  have HBl : Hid (Below W1.heap.size W1 (W1.alloc (.cells #[.slice none 0 0, .slice none 0 0] 60))) := Lib.hid (below_alloc (Below.refl _ _) _)
  go_loopw [27] (fun i wr => ∃ (k : Nat) (tops : List S52) (st : Sk), k ≤ L.length ∧ i = .int .i64 k ∧ Hid (mrun (L.drop k) tops st = mrun L [] []) ∧ st.length ≤ 64 ∧ cnt tops st ≤ k ∧ Hid (PM wr W1.heap.size W1.heap.size tops st) ∧ Hid (Below W1.heap.size W1 wr)) (fun i _ => L.length - (intOf i).toNat)
  case atStart => exact ⟨0, [], [], Nat.zero_le _, rfl, Lib.hid rfl, by simp, by simp [cnt], HP, HBl⟩
  case round =>
    clear HP HBl
    obtain ⟨k, tops, st, hk, rfl, HM, hst, hct, HP, HB⟩ := hrel
    by_cases hlt : k < L.length
    · obtain ⟨tk, htk⟩ : ∃ tk, tk = L[k] := ⟨_, rfl⟩
      have hkd : tk.f0 = 1 ∨ tk.f0 = 2 ∨ tk.f0 = 3 := HK.out tk (by rw [htk]; exact List.getElem_mem hlt)
      obtain ⟨ad, ex, x0, x1, x2, x3⟩ := at_T39 (Kd.C_below HC.out HB.out) (k : Int) (by omega) (by omega)
      rw [rd_get L k hlt, ← htk] at x0 x1 x2 x3
      cases ex
      simp only [Int.toNat_natCast] at x0 x1 x2 x3
      have hm := HM.out
      rw [mrun_at L k hlt, ← htk] at hm
      have HS : W1.heap.size ≤ wr.heap.size := HB.out.size
      cases hstp : mstep tk tops st with
      | error e1 =>
        rw [hstp] at hm
        have hc := Lib.hid (fun (W : World) (hb : Below wr.heap.size wr W) => tok_err (HP.out.below hb) hstp hkd)
        replace hm := Lib.hid hm
        have he := mstep_err hstp
        have g1 : (e1 == 0) = false := by rcases he with rfl | rfl <;> rfl
        have g2 : (e1 != 0) = true := by rcases he with rfl | rfl <;> rfl
        clear hstp he
        replace hkd := Lib.hid hkd
        replace htk := Lib.hid htk
        have kb := blk_below (blk_alloc (blk_below (w := W1) KB.out HB.out) (.cells #[.int .i64 tk.f0, .string tk.f1, .int .i64 tk.f2.f0, .int .i64 tk.f2.f1] 39)) (Below.refl _ _)
        replace kb := Lib.hid kb
        go_wp2_with (go_at_call 26; refine (hc.out _ (below_alloc (Below.refl _ _) _)).mono ?_; rintro e w2 ⟨rfl, hb2⟩; have ks := blk_below kb.out hb2; have kt := blk_below (blk_new wr _) hb2; have k0 := (blk_cell ks 0).trans rfl; have k1 := (blk_cell ks 1).trans rfl; have f0 := blk_frozen ks 0; have f1 := blk_frozen ks 1; have t2 := (blk_cell kt 2).trans rfl; have t3 := (blk_cell kt 3).trans rfl; replace ks := Lib.hid ks; clear kt; replace hb2 := Lib.hid hb2)
        go_region
        all_goals go_wp2
        have hx : (([] : List S52), tk.f2.f0, tk.f2.f1, e1) = (X, p1, p2, er) := by rw [← HR.out, ← hm.out]; rfl
        simp only [Prod.mk.injEq] at hx
        obtain ⟨rfl, rfl, rfl, rfl⟩ := hx
        refine bodyPost_ret (results_list (rs := [.tmp 2, .cell 3 25, .tmp 4]) rfl (by simp) (.tmp (.cell w.heap.size 25 #[.int .i64 tk.f2.f0, .int .i64 tk.f2.f1] (0, 0) _ rfl (blk_drew (blk_put (blk_put ks.out 0 _ rfl) 1 _ rfl)) Tryd.underlying25 rfl (by kernel_rfl) (.tmp .nil)))) rfl ?_
        refine ⟨_, rfl, Kd.R_nil _ _ _ _ _, below_drew1 (below_set (below_set (below_step (below_alloc (below_step HB1.out HB.out) _) hb2.out) (Nat.le_refl _)) (Nat.le_refl _))⟩
      | ok s1 =>
        rw [hstp] at hm
        have hc := Lib.hid (fun (W : World) (hb : Below wr.heap.size wr W) => tok_ok (HP.out.below hb) hstp (Nat.le_trans HS hb.size) hst (by omega) hkd)
        have hl1 := mstep_len hstp hst
        have hc1 := cnt_mstep hstp
        replace hm := Lib.hid hm
        clear hstp
        replace hkd := Lib.hid hkd
        replace htk := Lib.hid htk
        go_wp2_with (go_at_call 26; refine (hc.out _ (below_alloc (Below.refl _ _) _)).mono ?_; rintro e w2 ⟨rfl, hP2, hB2⟩; replace hP2 := Lib.hid hP2; replace hB2 := Lib.hid hB2)
        go_roundw
        case rel => exact ⟨k + 1, s1.1, s1.2, by omega, by go_num, Lib.hid hm.out, hl1, by omega, hP2, Lib.hid ((HB.out.alloc HS _).trans hB2.out)⟩
        case measure => simp [intOf]; omega
    · obtain rfl : k = L.length := by omega
      have hm := HM.out
      rw [List.drop_length] at hm
      clear HM
      obtain ⟨vo, vt, ros, hS, hrs⟩ := HP.out.out
      have hlen : ros.length = st.length := by rw [← lsts_len, ← hrs]; simp
      obtain ⟨A, co, rfl⟩ := vo_form hS
      have R0 : Kd.R k52 52 wr W1.heap.size _ vt tops := hS.rows.each [] vt tops ros rfl
      obtain ⟨At, ct, rfl⟩ := Kd.R_slice R0
      have ks := blk_below (w := W1) KB.out HB.out
      have k0 := (blk_cell ks 0).trans rfl
      have k1 := (blk_cell ks 1).trans rfl
      have f0 := blk_frozen ks 0
      have f1 := blk_frozen ks 1
      replace ks := Lib.hid ks
      have HBW : Hid (Below w.heap.size w wr) := Lib.hid (below_step HB1.out HB.out)
      have hlow : Hid (w.heap.size ≤ W1.heap.size) := Lib.hid HB1.out.size
      cases st with
      | nil =>
        obtain rfl : ros = [] := List.length_eq_zero_iff.1 hlen
        have p0 : wr.cell? ⟨W1.heap.size, 0, none⟩ = some (.slice A 0 co) := (blk_cell hS.blk 0).trans rfl
        have q1 : wr.cell? ⟨W1.heap.size, 1, none⟩ = some (.slice At tops.length ct) := (blk_cell hS.blk 1).trans rfl
        have hw := (blk_lt KB.out)
        have hne : W1.heap.size ≠ w.heap.size := by omega
        have hx : (tops, (0 : Int), (0 : Int), (0 : Int)) = (X, p1, p2, er) := by rw [← HR.out, ← hm]; rfl
        simp only [Prod.mk.injEq] at hx
        obtain ⟨rfl, rfl, rfl, rfl⟩ := hx
        replace R0 := Lib.hid R0
        clear hS hm hrs hlen
        go_wp2
        refine bodyPost_ret (results_list (rs := [.tmp 2, .cell 3 25, .tmp 4]) rfl (by simp) (.tmp (.cell w.heap.size 25 #[.int .i64 0, .int .i64 0] (0, 0) _ rfl (blk_put (blk_put ks.out 0 _ rfl) 1 _ rfl) Tryd.underlying25 rfl (by kernel_rfl) (.tmp .nil)))) rfl ?_
        refine ⟨_, rfl, ?_, below_set (below_set HBW.out (Nat.le_refl _)) (Nat.le_refl _)⟩
        exact row_far R0.out hlow.out hw _ _
      | cons q r =>
        obtain ⟨pp, xs⟩ := q
        rcases List.eq_nil_or_concat ros with rfl | ⟨l, ⟨v, ys⟩, hz⟩
        · simp at hlen
        · obtain rfl : ros = l ++ [(v, ys)] := by rw [hz]; simp
          rw [show poss ((pp, xs) :: r) = poss r ++ [(pp.f0, pp.f1)] by simp [poss]] at hS
          have hA : ∃ O, A = some ⟨O, 0, none⟩ := by
            rcases hS.own.2 with ⟨h1, h2⟩ | ⟨g, cap, cur, h1, _⟩
            · simp at h2
            · injection h1 with h1
              exact ⟨g, h1⟩
          obtain ⟨O, rfl⟩ := hA
          rw [show (l ++ [(v, ys)]).length = l.length + 1 by simp] at hS
          obtain ⟨n, hn⟩ : ∃ n, n = l.length := ⟨_, rfl⟩
          have hn64 : n < 64 := by simp at hlen hst; omega
          rw [← hn] at hS
          have hlp : l.length = (poss r).length := by have := hS.len; simpa using this
          have hown : wr.ownsRow W1.heap.size 52 5 (.slice (some ⟨O, 0, none⟩) (n + 1) co) (n + 1) (ocells (l ++ [(v, ys)]) (poss r ++ [(pp.f0, pp.f1)])) := by have := hS.own; rwa [show (l ++ [(v, ys)]).length = n + 1 by simp [hn]] at this
          have hO := (hown.lt O rfl).2
          have hbO := (hown.lt O rfl).1
          have c3 : wr.cell? ⟨O, n * 5 + 3, none⟩ = some (.int .i64 pp.f0) := by rw [hown.cellAt (n * 5 + 3) (by omega), hn, ocells_get l _ _ ys pp.f0 pp.f1 hlp 3]; rfl
          have c4 : wr.cell? ⟨O, n * 5 + 3 + 1, none⟩ = some (.int .i64 pp.f1) := by rw [hown.cellAt (n * 5 + 3 + 1) (by omega), hn]; exact (ocells_get l _ _ ys pp.f0 pp.f1 hlp 4).trans rfl
          have p0 : wr.cell? ⟨W1.heap.size, 0, none⟩ = some (.slice (some ⟨O, 0, none⟩) (n + 1) co) := (blk_cell hS.blk 0).trans rfl
          have hx : (([] : List S52), pp.f0, pp.f1, (4 : Int)) = (X, p1, p2, er) := by rw [← HR.out, ← hm]; rfl
          simp only [Prod.mk.injEq] at hx
          obtain ⟨rfl, rfl, rfl, rfl⟩ := hx
          have hw := (blk_lt KB.out)
          have hne : O ≠ w.heap.size := by omega
          have g1 : wrap64 (n : Int) = n := wr64 (by omega) (by omega)
          have g2 := posd n
          have g3 := ltd n
          clear R0 hS hm hrs hlen hlp hown hn
          go_wp2
          go_region
          all_goals go_wp2
          refine bodyPost_ret (results_list (rs := [.tmp 2, .cell 3 25, .tmp 4]) rfl (by simp) (.tmp (.cell w.heap.size 25 #[.int .i64 pp.f0, .int .i64 pp.f1] (0, 0) _ rfl (blk_drew (blk_put (blk_put ks.out 0 _ rfl) 1 _ rfl)) Tryd.underlying25 rfl (by kernel_rfl) (.tmp .nil)))) rfl ?_
          exact ⟨_, rfl, Kd.R_nil _ _ _ _ _, below_drew1 (below_set (below_set HBW.out (Nat.le_refl _)) (Nat.le_refl _))⟩
end Go.Proofs.YtlggmdlbhndacaaDoor.Lx.Parse
