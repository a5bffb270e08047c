import Derived.Test.YtlggmdlbhndacaaDoorUse
import Derived.WalkSmall
import Derived.IntWalk
import Derived.Outline
/- The parser's state in memory: its block, the open lists' array, and a row for each open list and for what stands outermost. -/
namespace Go.Proofs.YtlggmdlbhndacaaDoor.Lx.Stack
open Go.RowKit Go.Proofs.YtlggmdlbhndacaaDoorW.PrintWords Go.Proofs.YtlggmdlbhndacaaDoorW.PrintLast Go.Proofs.YtlggmdlbhndacaaDoorW.PrintMore

/-- Blocks that are neither the parser's, nor the open array's, nor one of these rows'. -/
def Okk (P : Nat) (vo : Value) (us : List Value) (k : Nat) : Prop := k ≠ P ∧ some k ≠ vo.ownBlock ∧ ∀ u ∈ us, some k ≠ u.ownBlock
structure Rows (w : World) (base P : Nat) (vo : Value) (rs : List (Value × List S52)) : Prop where
  each : ∀ l1 v xs l2, rs = l1 ++ (v, xs) :: l2 → Kd.R k52 52 w base (Okk P vo ((l1 ++ l2).map (·.1))) v xs
theorem Okk.sub {P : Nat} {vo : Value} {us us' : List Value} {k : Nat} (h : Okk P vo us k) (hs : ∀ u ∈ us', u ∈ us) : Okk P vo us' k := ⟨h.1, h.2.1, fun u hu => h.2.2 u (hs u hu)⟩
theorem Okk.more {P : Nat} {vo : Value} {us us' : List Value} {v : Value} {k : Nat} (h : Okk P vo us k) (hv : some k ≠ v.ownBlock) (hs : ∀ u ∈ us', u ∈ us ∨ u = v) : Okk P vo us' k := ⟨h.1, h.2.1, fun u hu => by
  rcases hs u hu with h1 | rfl
  · exact h.2.2 u h1
  · exact hv⟩
theorem snoc_split {α : Type} {l l1 l2 : List α} {x y : α} (e : l ++ [x] = l1 ++ y :: l2) : (l2 = [] ∧ l1 = l ∧ y = x) ∨ ∃ l3, l2 = l3 ++ [x] ∧ l = l1 ++ y :: l3 := by
  rcases List.eq_nil_or_concat l2 with rfl | ⟨l3, z, hz⟩
  · have := List.append_inj' e rfl
    obtain ⟨h1, h2⟩ := this
    injection h2 with h2
    exact .inl ⟨rfl, h1.symm, h2.symm⟩
  · obtain rfl : l2 = l3 ++ [z] := by rw [hz]; simp
    rw [← List.cons_append, ← List.append_assoc] at e
    obtain ⟨h1, h2⟩ := List.append_inj' e rfl
    injection h2 with h2
    subst h2
    exact .inr ⟨l3, rfl, h1⟩
section
variable {w w1 : World} {base P : Nat} {vo vo1 v v1 : Value} {xs xs1 : List S52} {rs l : List (Value × List S52)}
/-- The last row is appended to (or changed otherwise, within its own block or a new one). -/
theorem Rows.last (h : Rows w base P vo (l ++ [(v, xs)])) (hR : Kd.R k52 52 w1 base (Okk P vo (l.map (·.1))) v1 xs1) (hg : w.grownBy w1 v.ownBlock)
    (hat : v1.ownBlock = v.ownBlock ∨ ∃ b, v1.ownBlock = some b ∧ w.heap.size ≤ b) : Rows w1 base P vo (l ++ [(v1, xs1)]) := by
  constructor
  intro l1 u ys l2 e
  rcases snoc_split e with ⟨rfl, rfl, h2⟩ | ⟨l3, rfl, rfl⟩
  · injection h2 with h2 h3
    subst h2; subst h3
    rw [List.append_nil]
    exact hR
  · have h0 := h.each l1 u ys (l3 ++ [(v, xs)]) (by simp)
    have h4 : Kd.R k52 52 w base (fun k => Okk P vo ((l1 ++ l3).map (·.1)) k ∧ some k ≠ v.ownBlock) u ys := Kd.R_mono h0 (fun k hk => ⟨hk.sub (by intro x hx; simp only [List.map_append, List.map_cons, List.map_nil, List.mem_append, List.mem_singleton] at hx ⊢; rcases hx with h | h <;> simp [h]), hk.2.2 v (by simp)⟩)
    exact Kd.R_mono (Kd.R_after h4 hg hat) (fun k hk => hk.1.more hk.2 (by intro x hx; simp only [List.map_append, List.map_cons, List.map_nil, List.mem_append, List.mem_singleton] at hx ⊢; rcases hx with h | h | h <;> simp [h]))
theorem Rows.pop (h : Rows w base P vo (l ++ [(v, xs)])) : Rows w base P vo l ∧ Kd.R k52 52 w base (Okk P vo (l.map (·.1))) v xs := by
  constructor
  · constructor
    intro l1 u ys l2 e
    subst e
    exact Kd.R_mono (h.each l1 u ys (l2 ++ [(v, xs)]) (by simp)) (fun k hk => hk.sub (by intro x hx; simp only [List.map_append, List.map_cons, List.map_nil, List.mem_append, List.mem_singleton] at hx ⊢; rcases hx with h | h <;> simp [h]))
  · have := h.each l v xs [] rfl
    rwa [List.append_nil] at this
theorem Rows.push (h : Rows w base P vo l) : Rows w base P vo (l ++ [(.slice none 0 0, [])]) := by
  constructor
  intro l1 u ys l2 e
  rcases snoc_split e with ⟨rfl, rfl, h2⟩ | ⟨l3, rfl, rfl⟩
  · injection h2 with h2 h3
    subst h2; subst h3
    exact Kd.R_nil _ _ _ _ _
  · exact Kd.R_mono (h.each l1 u ys l3 rfl) (fun k hk => hk.more (v := .slice none 0 0) (by simp [Value.ownBlock]) (by intro x hx; simp only [List.map_append, List.map_cons, List.map_nil, List.mem_append, List.mem_singleton] at hx ⊢; rcases hx with h | h | h <;> simp [h]))
/-- The open array is appended to. -/
theorem Rows.array (h : Rows w base P vo rs) (hg : w.grownBy w1 vo.ownBlock) (hat : vo1.ownBlock = vo.ownBlock ∨ ∃ b, vo1.ownBlock = some b ∧ w.heap.size ≤ b) : Rows w1 base P vo1 rs := by
  constructor
  intro l1 u ys l2 e
  have h4 : Kd.R k52 52 w base (fun k => (k ≠ P ∧ ∀ x ∈ (l1 ++ l2).map (·.1), some k ≠ x.ownBlock) ∧ some k ≠ vo.ownBlock) u ys := Kd.R_mono (h.each l1 u ys l2 e) (fun k hk => ⟨⟨hk.1, hk.2.2⟩, hk.2.1⟩)
  exact Kd.R_mono (Kd.R_after h4 hg hat) (fun k hk => ⟨hk.1.1, hk.2, hk.1.2⟩)
theorem Rows.far (h : Rows w base P vo rs) {a : Addr} (ha : a.block = P ∨ vo.ownBlock = some a.block) (u : Value) : Rows (w.setCell a u) base P vo rs := by
  constructor
  intro l1 x ys l2 e
  refine Kd.R_far (h.each l1 x ys l2 e) (fun k hk he => ?_) u
  rcases ha with ha | ha
  · exact hk.1 (he.trans ha)
  · exact hk.2.1 (by rw [ha, he])
theorem Rows.below (h : Rows w base P vo rs) (hb : Below w.heap.size w w1) : Rows w1 base P vo rs := ⟨fun l1 x ys l2 e => Kd.R_below (h.each l1 x ys l2 e) hb⟩
/-- The open array is cut: its block is the same. -/
theorem Rows.same (h : Rows w base P vo rs) (he : vo1.ownBlock = vo.ownBlock ∨ vo1.ownBlock = none) : Rows w base P vo1 rs := ⟨fun l1 x ys l2 e => Kd.R_mono (h.each l1 x ys l2 e) (fun k hk => ⟨hk.1, by
  rcases he with he | he
  · rw [he]; exact hk.2.1
  · rw [he]; simp, hk.2.2⟩)⟩
end
def ocells : List (Value × List S52) → List (Int × Int) → List Value
  | (v, _) :: r, (l, c) :: p => [.string ⟨#[]⟩, v, .bool true, .int .i64 l, .int .i64 c] ++ ocells r p
  | _, _ => []
theorem ocells_snoc : ∀ (r : List (Value × List S52)) (p : List (Int × Int)) (v : Value) (xs : List S52) (l c : Int), r.length = p.length → ocells (r ++ [(v, xs)]) (p ++ [(l, c)]) = ocells r p ++ [.string ⟨#[]⟩, v, .bool true, .int .i64 l, .int .i64 c]
  | [], [], _, _, _, _, _ => rfl
  | (a, b) :: r, (d, e) :: p, v, xs, l, c, h => by
    show [_, _, _, _, _] ++ ocells (r ++ [(v, xs)]) (p ++ [(l, c)]) = _
    rw [ocells_snoc r p v xs l c (by simpa using h)]
    rfl
theorem ocells_len : ∀ (r : List (Value × List S52)) (p : List (Int × Int)), r.length = p.length → (ocells r p).length = r.length * 5
  | [], [], _ => rfl
  | (a, b) :: r, (d, e) :: p, h => by
    show ([_, _, _, _, _] ++ ocells r p).length = _
    rw [List.length_append, ocells_len r p (by simpa using h)]
    simp; omega
theorem row_room {w : World} {base g n cp : Nat} {ok : Nat → Prop} {xs : List S52} {cells : Array Value} (hR : Kd.R k52 52 w base ok (.slice (some ⟨g, 0, none⟩) n cp) xs) (hg : w.heap[g]? = some (.cells cells 52 (0, 0))) : n * 5 ≤ cells.size := by
  have hn := (Kd.R_reads' hR).1
  obtain ⟨inner, ho⟩ := Kd.R_own hR
  rcases ho.2 with ⟨hv, _⟩ | ⟨g', cap, cur, hv, _, hh, hnc, _, hcs, _⟩
  · cases hv
  · injection hv with h1 h2 h3
    injection h1 with h1
    injection h1 with h1
    subst h1
    rw [hg] at hh
    injection hh with hh
    injection hh with hh
    subst hh
    have : k52.sz = 5 := rfl
    rw [hcs, this]
    exact Nat.mul_le_mul_right _ (by omega)
/-- The last element of a row is written whole. -/
theorem row_set {w : World} {base g n cp : Nat} {ok okp : Nat → Prop} {xs : List S52} {x y : S52} {seg : List Value} (hR : Kd.R k52 52 w base ok (.slice (some ⟨g, 0, none⟩) (n + 1) cp) (xs ++ [y])) (hn : xs.length = n) (hs : seg.length = 5) (hx : k52.M w base okp x seg) (hok : ∀ k, okp k → ok k ∧ k ≠ g) :
    Kd.R k52 52 (w.setCells g (n * 5) seg) base ok (.slice (some ⟨g, 0, none⟩) (n + 1) cp) (xs ++ [x]) ∧ w.grownBy (w.setCells g (n * 5) seg) (some g) := by
  obtain ⟨ad, c, e, hcl, _, hcc⟩ := Kd.C_get (Kd.R_reads' hR).2.2 z52 (n : Int) (by omega) (by have h9 : (xs ++ [y]).length = n + 1 := (by rw [List.length_append, hn]; rfl); omega)
  injection e with e
  subst e
  have h1 := Kd.R_seg hR (n : Int) (by omega) (by omega) (c := c) (seg := seg) (j := 0) hcl (fun j u hj => by
    have := hcc j u hj
    rwa [show ((⟨g, 0, none⟩ : Addr).add (((n : Int)).toNat * k52.sz + j)) = ⟨g, ((n : Int)).toNat * k52.sz + j, none⟩ by unfold Addr.add; split <;> simp_all] at this) (by rw [hs]; exact Nat.le_refl _) (x' := x) (by
      have : c.take 0 ++ seg ++ c.drop (0 + seg.length) = seg := by
        rw [List.take_zero, List.nil_append, hs, List.drop_eq_nil_of_le (by rw [hcl]; exact Nat.le_refl _), List.append_nil]
      rw [this]; exact hx) hok
  have h2 : (xs ++ [y]).set ((n : Int)).toNat x = xs ++ [x] := by
    rw [Int.toNat_natCast, ← hn, List.set_append_right _ _ (Nat.le_refl _), Nat.sub_self]; rfl
  rw [h2] at h1
  exact h1
/-- A store of several cells, at a step of a region that draws its order. -/
theorem store_step {Pr : Program} {ops : Array Oper} {Q : Exit → Act → World → Prop} {K : Act → World → Prop} {oi : Oper} {a : Act} {w : World} {g o : Nat} {e : TypeId} {cur : Array Value} {seg : List Value} {u : Value} (t : TypeId) (p x : Operand)
    (hw : Region.wanted oi (yielded ops a.tmps) = true) (hN : oi.dst = none) (ho : oi.op = .store t p x) (haddr : a.eval p = .pointer (some ⟨g, o, none⟩)) (hx : a.eval x = u) (hh : w.heap[g]? = some (.cells cur e (0, 0))) (hu : u.cells.toList = seg) (ht : (Pr.info? t).map (·.size) = some seg.length)
    (hfit : o + seg.length ≤ cur.size) (h1 : ∀ q ∈ seg, q.oneCell' = true) (h : K (a.put none undef) (w.setCells g o seg)) :
    if Region.wanted oi (yielded ops a.tmps) = true then Oper.wp Pr oi a w K Q else K (a.put none undef) w := by
  refine skip_ (w1 := w.setCells g o seg) hw hN ?_ h
  have hrun := run_store_run (P := Pr) t u seg hh hu ht hfit h1
  unfold execOp
  simp only [ho, haddr, hx, Sem.run_bind, Sem.run_pure, Result.andThen_ok, hrun]
/-- The same in a plain region. -/
theorem storeL {Pr : Program} {ops : Array Oper} {rest : List Oper} {Q : Exit → Act → World → Prop} {oi : Oper} {a : Act} {w : World} {g o : Nat} {e : TypeId} {cur : Array Value} {seg : List Value} {u : Value} (t : TypeId) (p x : Operand)
    (hN : oi.dst = none) (hgd : oi.guard = none) (ho : oi.op = .store t p x) (haddr : a.eval p = .pointer (some ⟨g, o, none⟩)) (hx : a.eval x = u) (hh : w.heap[g]? = some (.cells cur e (0, 0))) (hu : u.cells.toList = seg) (ht : (Pr.info? t).map (·.size) = some seg.length)
    (hfit : o + seg.length ≤ cur.size) (h1 : ∀ q ∈ seg, q.oneCell' = true) (h : wpList Pr ops Q rest a (w.setCells g o seg)) : wpList Pr ops Q (oi :: rest) a w := by
  refine wpList_plain hgd fun K hK => ?_
  have hrun := run_store_run (P := Pr) t u seg hh hu ht hfit h1
  unfold Oper.wp execOp
  simp only [ho, haddr, hx, Sem.run_bind, Sem.run_pure, Result.andThen_ok, hrun]
  show K (a.put oi.dst undef) _
  rw [hN]
  exact hK _ _ h
/-- The parser's state. -/
structure St (w : World) (base P : Nat) (vo vt : Value) (tops : List S52) (ros : List (Value × List S52)) (ps : List (Int × Int)) : Prop where
  blk : w.heap[P]? = some (.cells #[vo, vt] 60 (0, 0))
  low : base ≤ P
  len : ros.length = ps.length
  own : w.ownsRow base 52 5 vo ros.length (ocells ros ps)
  rows : Rows w base P vo ((vt, tops) :: ros)
theorem one_split {α : Type} {x y : α} {l1 l2 : List α} (e : [x] = l1 ++ y :: l2) : l1 = [] ∧ l2 = [] ∧ y = x := by
  cases l1 with
  | nil => injection e with e1 e2; exact ⟨rfl, e2.symm, e1.symm⟩
  | cons a l1 => injection e with e1 e2; cases l1 <;> cases e2
theorem set_app (ys zs : List Value) (j k : Nat) (a : Value) (hk : k = ys.length + j) : (ys ++ zs).set k a = ys ++ zs.set j a := by
  subst hk
  rw [List.set_append_right _ _ (Nat.le_add_right _ _), Nat.add_sub_cancel_left]
theorem own_seg {w : World} {base g n cp : Nat} {ys : List Value} {z0 z1 z2 z3 z4 a0 a1 a2 a3 a4 : Value} (h : w.ownsRow base 52 5 (.slice (some ⟨g, 0, none⟩) (n + 1) cp) (n + 1) (ys ++ [z0, z1, z2, z3, z4])) (hy : ys.length = n * 5) :
    (w.setCells g (n * 5) [a0, a1, a2, a3, a4]).ownsRow base 52 5 (.slice (some ⟨g, 0, none⟩) (n + 1) cp) (n + 1) (ys ++ [a0, a1, a2, a3, a4]) ∧ w.grownBy (w.setCells g (n * 5) [a0, a1, a2, a3, a4]) (some g) := by
  have h1 := (h.stored (n * 5) a0)
  have h2 := (h1.1.stored (n * 5 + 1) a1)
  have h3 := (h2.1.stored (n * 5 + 1 + 1) a2)
  have h4 := (h3.1.stored (n * 5 + 1 + 1 + 1) a3)
  have h5 := (h4.1.stored (n * 5 + 1 + 1 + 1 + 1) a4)
  have e : (((((ys ++ [z0, z1, z2, z3, z4]).set (n * 5) a0).set (n * 5 + 1) a1).set (n * 5 + 1 + 1) a2).set (n * 5 + 1 + 1 + 1) a3).set (n * 5 + 1 + 1 + 1 + 1) a4 = ys ++ [a0, a1, a2, a3, a4] := by
    rw [set_app _ _ 0 _ _ (by omega), set_app _ _ 1 _ _ (by omega), set_app _ _ 2 _ _ (by omega), set_app _ _ 3 _ _ (by omega), set_app _ _ 4 _ _ (by omega)]
    rfl
  rw [e] at h5
  simp only [World.setCells]
  exact ⟨h5.1, h1.2.trans (h2.2.trans (h3.2.trans (h4.2.trans h5.2)))⟩
theorem own_set {w : World} {base P n j : Nat} {vo u : Value} {xs : List Value} {cs : Array Value} (h : w.ownsRow base 52 5 vo n xs) (hb : w.heap[P]? = some (.cells cs 60 (0, 0))) : (w.setCell ⟨P, j, none⟩ u).ownsRow base 52 5 vo n xs := by
  refine h.kept (row := some P) ⟨rfl, rfl, rfl, by simp, fun k _ hk => Below.heap_setCell w ⟨P, j, none⟩ u k (fun e => hk (by rw [e]))⟩ (.inr ?_)
  rcases h.2 with ⟨rfl, _⟩ | ⟨g, cap, cur, rfl, _, hh, _⟩
  · simp [Value.ownBlock]
  · intro e
    injection e with e
    exact blk_ne hb hh (by decide) e.symm
theorem own_apart {w : World} {base P : Nat} {vo v : Value} {us : List Value} {xs : List S52} (hR : Kd.R k52 52 w base (Okk P vo us) v xs) : vo.ownBlock = none ∨ vo.ownBlock ≠ v.ownBlock := by
  cases hv : vo.ownBlock with
  | none => exact .inl rfl
  | some k => exact .inr (fun e => (hR.1 k e.symm).2.1 hv.symm)
theorem St.top {w : World} {base P : Nat} {vo vt : Value} {tops : List S52} (hb : w.heap[P]? = some (.cells #[vo, vt] 60 (0, 0))) (hl : base ≤ P) (ho : w.ownsRow base 52 5 vo 0 []) (hR : Kd.R k52 52 w base (Okk P vo []) vt tops) : St w base P vo vt tops [] [] := by
  refine ⟨hb, hl, rfl, ho, ⟨fun l1 v xs l2 e => ?_⟩⟩
  obtain ⟨rfl, rfl, e2⟩ := one_split e
  injection e2 with e2 e3
  subst e2; subst e3
  exact hR
theorem ocells_set (l : List (Value × List S52)) (ps : List (Int × Int)) (v v' : Value) (xs xs' : List S52) (a b : Int) (h : l.length = ps.length) : (ocells (l ++ [(v, xs)]) (ps ++ [(a, b)])).set (l.length * 5 + 1) v' = ocells (l ++ [(v', xs')]) (ps ++ [(a, b)]) := by
  rw [ocells_snoc _ _ _ _ _ _ h, ocells_snoc _ _ _ _ _ _ h, List.set_append_right _ _ (by rw [ocells_len _ _ h]; omega), ocells_len _ _ h, Nat.add_sub_cancel_left]
  rfl
theorem ocells_get (l : List (Value × List S52)) (ps : List (Int × Int)) (v : Value) (xs : List S52) (a b : Int) (h : l.length = ps.length) (j : Nat) : (ocells (l ++ [(v, xs)]) (ps ++ [(a, b)]))[l.length * 5 + j]? = ([.string ⟨#[]⟩, v, .bool true, .int .i64 a, .int .i64 b] : List Value)[j]? := by
  rw [ocells_snoc _ _ _ _ _ _ h, List.getElem?_append_right (by rw [ocells_len _ _ h]; omega), ocells_len _ _ h, Nat.add_sub_cancel_left]
theorem Rows.fresh {w : World} {base P : Nat} {vo : Value} {rs : List (Value × List S52)} (h : Rows w base P vo rs) : ∀ u ∈ rs.map (·.1), ∀ k, w.heap.size ≤ k → some k ≠ u.ownBlock := by
  intro u hu k hk e
  obtain ⟨⟨u', ys⟩, hm, rfl⟩ := List.mem_map.1 hu
  obtain ⟨l1, l2, rfl⟩ := List.append_of_mem hm
  have := Kd.R_lt (h.each l1 u' ys l2 rfl) k e.symm
  omega
theorem St.below {w w1 : World} {base P : Nat} {vo vt : Value} {tops : List S52} {ros : List (Value × List S52)} {ps : List (Int × Int)} (h : St w base P vo vt tops ros ps) (hb : Below w.heap.size w w1) : St w1 base P vo vt tops ros ps :=
  ⟨blk_below h.blk hb, h.low, h.len, h.own.kept (row := none) ⟨hb.os, hb.tape, hb.output, hb.size, fun k hk _ => hb.block k hk⟩ (by cases vo.ownBlock <;> simp), h.rows.below hb⟩
/-- The last row has been appended to, and its header stored into the open array. -/
theorem St.put {w w1 : World} {base P O co n : Nat} {vt v v1 : Value} {tops xs xs1 : List S52} {l : List (Value × List S52)} {ps : List (Int × Int)} {a b : Int} (h : St w base P (.slice (some ⟨O, 0, none⟩) (n + 1) co) vt tops (l ++ [(v, xs)]) (ps ++ [(a, b)])) (hn : l.length = n)
    (hR : Kd.R k52 52 w1 base (Okk P (.slice (some ⟨O, 0, none⟩) (n + 1) co) (((vt, tops) :: l).map (·.1))) v1 xs1) (hg : w.grownBy w1 v.ownBlock) (hat : v1.ownBlock = v.ownBlock ∨ ∃ b, v1.ownBlock = some b ∧ w.heap.size ≤ b)
    (hvP : some P ≠ v.ownBlock) (hvO : some O ≠ v.ownBlock) (hPO : P ≠ O) : St (w1.setCell ⟨O, n * 5 + 1, none⟩ v1) base P (.slice (some ⟨O, 0, none⟩) (n + 1) co) vt tops (l ++ [(v1, xs1)]) (ps ++ [(a, b)]) := by
  have hlen : l.length = ps.length := by have := h.len; simpa using this
  refine ⟨?_, h.low, by simp [hlen], ?_, ?_⟩
  · exact (Below.heap_setCell w1 ⟨O, n * 5 + 1, none⟩ v1 P hPO).trans (blk_grown h.blk hg hvP)
  · have h1 := h.own.kept hg (.inr (fun e => hvO (by rw [← e]; rfl)))
    rw [show (l ++ [(v, xs)]).length = n + 1 by simp [hn]] at h1
    have h2 := (h1.stored (n * 5 + 1) v1).1
    rw [← hn, ocells_set l ps v v1 xs xs1 a b hlen] at h2
    rw [show (l ++ [(v1, xs1)]).length = l.length + 1 by simp, ← hn]
    exact h2
  · have := (Rows.last (l := (vt, tops) :: l) h.rows hR hg hat)
    exact Rows.far this (a := ⟨O, n * 5 + 1, none⟩) (.inr rfl) v1
/-- The last row's elements have been written, its header is as it was. -/
theorem St.elem {w w1 : World} {base P : Nat} {vo vt v : Value} {tops xs xs1 : List S52} {l : List (Value × List S52)} {ps : List (Int × Int)} {a b : Int} (h : St w base P vo vt tops (l ++ [(v, xs)]) (ps ++ [(a, b)]))
    (hR : Kd.R k52 52 w1 base (Okk P vo (((vt, tops) :: l).map (·.1))) v xs1) (hg : w.grownBy w1 v.ownBlock) (hvP : some P ≠ v.ownBlock) (hvO : vo.ownBlock ≠ v.ownBlock) : St w1 base P vo vt tops (l ++ [(v, xs1)]) (ps ++ [(a, b)]) := by
  have hlen : l.length = ps.length := by have := h.len; simpa using this
  refine ⟨blk_grown h.blk hg hvP, h.low, by simp [hlen], ?_, Rows.last (l := (vt, tops) :: l) h.rows hR hg (.inl rfl)⟩
  have h1 := h.own.kept hg (.inr hvO)
  rw [ocells_snoc _ _ _ _ _ _ hlen] at h1 ⊢
  simpa using h1
end Go.Proofs.YtlggmdlbhndacaaDoor.Lx.Stack

/- parser.put walked. -/
namespace Go.Proofs.YtlggmdlbhndacaaDoor.Lx.Put
open Go.RowKit Go.Proofs.YtlggmdlbhndacaaDoorW.PrintWords Go.Proofs.YtlggmdlbhndacaaDoorW.PrintLast Go.Proofs.YtlggmdlbhndacaaDoorW.PrintMore Stack LexV

theorem keepA {w : World} {a : Addr} {v : Value} (h : w.cell? a = some v) (o : Obj) : (w.alloc o).cell? a = some v := ((below_alloc (Below.refl w.heap.size w) o).cell (World.block_lt_of_cell? w a h)).trans h
set_option linter.unusedSimpArgs false in
set_option maxRecDepth 100000 in
set_option maxHeartbeats 4000000 in
theorem put_top (w : World) (base P : Nat) (A0 : Option Addr) (c0 : Nat) (vt : Value) (tops : List S52) (x : S52) (v1 : Value) (h : St w base P (.slice A0 0 c0) vt tops [] []) (hbase : base ≤ w.heap.size) (hx : k52.M w base (Okk P (.slice A0 0 c0) [vt]) x [.string x.f0, v1, .bool x.f2, .int .i64 x.f3.f0, .int .i64 x.f3.f1]) (hl : tops.length ≤ 1048576) :
    Calls Tryd.prog 34 #[.pointer (some ⟨P, 0, none⟩), .agg #[.string x.f0, v1, .bool x.f2, .int .i64 x.f3.f0, .int .i64 x.f3.f1]] w fun e w' => e = .returned (.tuple #[]) ∧ (∃ vt', St w' base P (.slice A0 0 c0) vt' (tops ++ [x]) [] []) ∧ Below base w w' := by
  have p0 := (blk_cell h.blk 0).trans rfl
  have p1 := (blk_cell h.blk 1).trans rfl
  have hP := blk_lt h.blk
  have H := Lib.hid h
  have HX := Lib.hid hx
  have R0 : Kd.R k52 52 w base (Okk P (.slice A0 0 c0) []) vt tops := h.rows.each [] vt tops [] rfl
  have hvn : vt = .slice none 0 0 ∧ tops = [] ∨ ∃ A c, vt = .slice A tops.length c := by obtain ⟨A, c, e⟩ := Kd.R_slice R0; exact .inr ⟨A, c, e⟩
  obtain ⟨At, ct, evt⟩ := Kd.R_slice R0
  subst evt
  replace R0 := Lib.hid R0
  clear h hx hvn
  go_enter Tryd.func34, Tryd.ntmps34
  go_wp2
  obtain ⟨vt, evt⟩ : ∃ vt, vt = Value.slice At tops.length ct := ⟨_, rfl⟩
  obtain ⟨W, hWe⟩ : ∃ W, W = (w.alloc (.cells #[.string x.f0, v1, .bool x.f2, .int .i64 x.f3.f0, .int .i64 x.f3.f1] 52)) := ⟨_, rfl⟩
  have KB : W.heap[w.heap.size]? = some (.cells #[.string x.f0, v1, .bool x.f2, .int .i64 x.f3.f0, .int .i64 x.f3.f1] 52 (0, 0)) := by rw [hWe]; exact blk_new w _
  have q0 : W.cell? ⟨P, 1, none⟩ = some (.slice At tops.length ct) := by rw [hWe]; exact keepA p1 _
  have q1 : W.cell? ⟨w.heap.size, 0, none⟩ = some (.string x.f0) := (blk_cell KB 0).trans rfl
  have q2 : W.cell? ⟨w.heap.size, 1, none⟩ = some v1 := (blk_cell KB 1).trans rfl
  have q3 : W.cell? ⟨w.heap.size, 2, none⟩ = some (.bool x.f2) := (blk_cell KB 2).trans rfl
  have q4 : W.cell? ⟨w.heap.size, 3, none⟩ = some (.int .i64 x.f3.f0) := (blk_cell KB 3).trans rfl
  have q5 : W.cell? ⟨w.heap.size, 4, none⟩ = some (.int .i64 x.f3.f1) := (blk_cell KB 4).trans rfl
  have HO : Kd.R k52 52 W base (Okk P (.slice A0 0 c0) []) (.slice At tops.length ct) tops := by rw [hWe]; exact Kd.R_alloc R0.out _
  have HB : Below base w W := by rw [hWe]; exact (Below.refl _ _).alloc hbase _
  have HS : base ≤ W.heap.size := by rw [hWe]; simp; omega
  have HF0 : ∀ k, W.heap.size ≤ k → Okk P (.slice A0 0 c0) [] k := by rw [hWe]; intro k hk; refine ⟨?_, fun e => ?_, by simp⟩; (simp at hk; omega); (simp at hk; have := (H.out.own.lt k e.symm).2; omega)
  have KP : W.heap[P]? = some (.cells #[.slice A0 0 c0, .slice At tops.length ct] 60 (0, 0)) := by rw [hWe]; exact blk_alloc H.out.blk _
  have HM : k52.M W base (Okk P (.slice A0 0 c0) [.slice At tops.length ct]) x [.string x.f0, v1, .bool x.f2, .int .i64 x.f3.f0, .int .i64 x.f3.f1] := by rw [hWe]; exact Kd.M_below HX.out (below_alloc (Below.refl _ _) _)
  have hone : ∀ q ∈ ([.string x.f0, v1, .bool x.f2, .int .i64 x.f3.f0, .int .i64 x.f3.f1] : List Value), q.oneCell' = true := k52.K_one (k52.K_of_M HX.out)
  have HOW : W.ownsRow base 52 5 (.slice A0 0 c0) 0 [] := by rw [hWe]; exact H.out.own.alloc _
  have hneP : some P ≠ (Value.slice At tops.length ct).ownBlock := Kd.R_away R0.out (fun k hk => hk.1)
  have hneB : some w.heap.size ≠ (Value.slice At tops.length ct).ownBlock := fun e => by have := Kd.R_lt R0.out _ e.symm; omega
  rw [← hWe]
  clear hWe
  refine start_ (n := 13) (S := fun w' => w'.cell? ⟨P, 1, none⟩ = some (.slice At tops.length ct) ∧ w'.cell? ⟨w.heap.size, 0, none⟩ = some (.string x.f0) ∧ w'.cell? ⟨w.heap.size, 1, none⟩ = some v1 ∧ w'.cell? ⟨w.heap.size, 2, none⟩ = some (.bool x.f2) ∧ w'.cell? ⟨w.heap.size, 3, none⟩ = some (.int .i64 x.f3.f0) ∧ w'.cell? ⟨w.heap.size, 4, none⟩ = some (.int .i64 x.f3.f1)) (ds := [9, 12]) #[false, false, false, false, false, false, false, false, false, false, false, false, false] (by kernel_rfl) rfl rfl ⟨q0, q1, q2, q3, q4, q5⟩ (fun hHeld => ?_)
  refine pure_ (i := 0) (N := some 56) (v := ?_) (a' := ?_) #[true, false, false, false, false, false, false, false, false, false, false, false, false] rfl rfl (by kernel_rfl) (fun _ _ _ h => h) (Or.inl ⟨by rfl, ?_⟩) ?_ ?_
  rotate_left
  · intro w'
    go_simp
    with_reducible rfl
  rotate_left
  · simp only [Act.put, List.setIfInBounds_toArray, List.set_cons_zero, List.set_cons_succ, i64_w, i32_w]
    rfl
  refine pure_ (i := 1) (N := some 57) (v := ?_) (a' := ?_) #[true, true, false, false, false, false, false, false, false, false, false, false, false] rfl rfl (by kernel_rfl) (fun _ _ _ h => h) (Or.inl ⟨by rfl, ?_⟩) ?_ ?_
  rotate_left
  · intro w'
    go_simp
    with_reducible rfl
  rotate_left
  · simp only [Act.put, List.setIfInBounds_toArray, List.set_cons_zero, List.set_cons_succ, i64_w, i32_w]
    rfl
  refine pure_ (i := 2) (N := some 58) (v := ?_) (a' := ?_) #[true, true, true, false, false, false, false, false, false, false, false, false, false] rfl rfl (by kernel_rfl) (fun _ _ _ h => h) (Or.inl ⟨by rfl, ?_⟩) ?_ ?_
  rotate_left
  · intro w'
    go_simp
    with_reducible rfl
  rotate_left
  · simp only [Act.put, List.setIfInBounds_toArray, List.set_cons_zero, List.set_cons_succ, i64_w, i32_w]
    rfl
  refine take_ (i := 3) (N := some 59) (v := ?_) (a' := ?_) #[true, true, true, true, false, false, false, false, false, false, false, false, false] rfl rfl (by kernel_rfl) (fun _ _ _ h => h) (Or.inl ⟨by rfl, ?_⟩) hHeld ?_ ?_
  rotate_left
  · rintro w' ⟨s0, s1, s2, s3, s4, s5⟩
    go_simp
    with_reducible rfl
  rotate_left
  · simp only [Act.put, List.setIfInBounds_toArray, List.set_cons_zero, List.set_cons_succ, i64_w, i32_w]
    rfl
  refine pure_ (i := 5) (N := some 61) (v := ?_) (a' := ?_) #[true, true, true, true, false, true, false, false, false, false, false, false, false] rfl rfl (by kernel_rfl) (fun _ _ _ h => h) (Or.inl ⟨by rfl, ?_⟩) ?_ ?_
  rotate_left
  · intro w'
    go_simp
    with_reducible rfl
  rotate_left
  · simp only [Act.put, List.setIfInBounds_toArray, List.set_cons_zero, List.set_cons_succ, i64_w, i32_w]
    rfl
  refine take_ (i := 4) (N := some 60) (v := ?_) (a' := ?_) #[true, true, true, true, true, true, false, false, false, false, false, false, false] rfl rfl (by kernel_rfl) (fun _ _ _ h => h) (Or.inl ⟨by rfl, ?_⟩) hHeld ?_ ?_
  rotate_left
  · rintro w' ⟨s0, s1, s2, s3, s4, s5⟩
    go_simp
    with_reducible rfl
  rotate_left
  · simp only [Act.put, List.setIfInBounds_toArray, List.set_cons_zero, List.set_cons_succ, i64_w, i32_w]
    rfl
  refine one_ (i := 6) (N := some 62) #[true, true, true, true, true, true, true, false, false, false, false, false, false] rfl rfl (by kernel_rfl) (by decide) (fun K hK => ?_)
  refine value_ (w1 := ?_) (v := ?_) (by rfl) rfl ?_ ?_
  rotate_left 2
  · go_simp
    constructor
    · rfl
    · rfl
  refine hK.out _ _ ⟨(keepA q0 _), (keepA q1 _), (keepA q2 _), (keepA q3 _), (keepA q4 _), (keepA q5 _)⟩ (fun hHeld => ?_)
  clear hK K
  refine norm_ (a' := ?_) ?_ ?_
  rotate_left
  · show Act.put _ (some 62) _ = _
    simp only [Act.put, List.setIfInBounds_toArray, List.set_cons_zero, List.set_cons_succ, i64_w, i32_w]
    rfl
  refine one_ (i := 7) (N := some 63) #[true, true, true, true, true, true, true, true, false, false, false, false, false] rfl rfl (by kernel_rfl) (by decide) (fun K hK => ?_)
  refine Kd.R_append_step k52 (w0 := w) (W := W.drew) base rfl (.tmp 59) (.tmp 62) 23 52 (.agg #[(.string ⟨#[]⟩), (.slice none 0 0), (.bool false), (.int .i64 0), (.int .i64 0)]) 64 rfl Tryd.underlying23 info52 rfl (by decide) (by omega) (.slice At tops.length ct) tops z52 [.string ⟨#[]⟩, .slice none 0 0, .bool false, .int .i64 0, .int .i64 0] (Okk P (.slice A0 0 c0) []) (fun _ => False) rfl rfl (k52_mkM _ _ _ z52 (Kd.R_nil _ _ _ _ _)) (fun _ h => h.elim) HF0 (Kd.R_drew HO) HB.drew HS (by omega) ?_
  intro v2 w2 hR2 hB2 hG2 hat2
  obtain ⟨g, cp, ev2, hg0, hg1, cells2, hg2⟩ := Kd.R_form hR2 (by simp)
  rw [List.length_append] at ev2
  have ev3 : v2 = .slice (some ⟨g, 0, none⟩) (tops.length + 1) cp := ev2
  subst ev3
  have KP2 := blk_grown (blk_drew KP) hG2 hneP
  have fz2 := blk_frozen KP2 1
  have HW2 := (HOW.drew).kept hG2 (own_apart R0.out)
  have HM2 := Kd.M_after (ok := Okk P (.slice A0 0 c0) []) (v1 := .slice (some ⟨g, 0, none⟩) (tops.length + 1) cp) (k52.M_mono (fun k hk => ⟨⟨hk.1, hk.2.1, by simp⟩, hk.2.2 _ (by simp)⟩) (Kd.M_drewN HM 1)) hG2 hat2
  have hfit : tops.length * 5 + 5 ≤ cells2.size := by have := row_room hR2 hg2; omega
  have hPg : P ≠ g := fun e => (hR2.1 g rfl).1 e.symm
  have hb1 : ((tops.length : Int) < (tops.length : Int) + 1) = True := eq_true (by omega)
  refine hK.out _ _ ⟨(hG2.cell q0 hneP), (hG2.cell q1 hneB), (hG2.cell q2 hneB), (hG2.cell q3 hneB), (hG2.cell q4 hneB), (hG2.cell q5 hneB)⟩ (fun hHeld => ?_)
  clear hK K
  refine norm_ (a' := ?_) ?_ ?_
  rotate_left
  · show Act.put _ (some 63) _ = _
    simp only [Act.put, List.setIfInBounds_toArray, List.set_cons_zero, List.set_cons_succ, i64_w, i32_w]
    rfl
  refine pure_ (i := 8) (N := some 64) (v := ?_) (a' := ?_) #[true, true, true, true, true, true, true, true, true, false, false, false, false] rfl rfl (by kernel_rfl) (fun _ _ _ h => h) (Or.inl ⟨by rfl, ?_⟩) ?_ ?_
  rotate_left
  · intro w'
    go_simp
    with_reducible rfl
  rotate_left
  · simp only [Act.put, List.setIfInBounds_toArray, List.set_cons_zero, List.set_cons_succ, i64_w, i32_w]
    rfl
  refine pure_ (i := 10) (N := some 65) (v := ?_) (a' := ?_) #[true, true, true, true, true, true, true, true, true, false, true, false, false] rfl rfl (by kernel_rfl) (fun _ _ _ h => h) (Or.inl ⟨by rfl, ?_⟩) ?_ ?_
  rotate_left
  · intro w'
    go_simp
    with_reducible rfl
  rotate_left
  · simp only [Act.put, List.setIfInBounds_toArray, List.set_cons_zero, List.set_cons_succ, i64_w, i32_w]
    rfl
  refine pure_ (i := 11) (N := some 66) (v := ?_) (a' := ?_) #[true, true, true, true, true, true, true, true, true, false, true, true, false] rfl rfl (by kernel_rfl) (fun _ _ _ h => h) (Or.inl ⟨by rfl, ?_⟩) ?_ ?_
  rotate_left
  · intro w'
    go_simp
    with_reducible rfl
  rotate_left
  · simp only [Act.put, List.setIfInBounds_toArray, List.set_cons_zero, List.set_cons_succ, i64_w, i32_w]
    rfl
  refine wpAnyLast_ready (rs := [9, 12]) (by kernel_rfl) (by simp) (AllReadyL.cons_last (o := _) rfl (by decide) (fun K hK => ?_) (AllReadyL.cons_last (o := _) rfl (by decide) (fun K hK => ?_) AllReadyL.nil))
  · refine store_step 52 (.tmp 64) (.tmp 60) rfl rfl rfl rfl rfl hg2 (seg := [.string x.f0, v1, .bool x.f2, .int .i64 x.f3.f0, .int .i64 x.f3.f1]) rfl (by kernel_rfl) hfit hone ?_
    obtain ⟨hR3, hg3⟩ := row_set hR2 rfl rfl HM2 (fun k hk => ⟨hk.1, fun e => hk.2 (by rw [e]; rfl)⟩)
    have KP3 : (w2.setCells g (tops.length * 5) [.string x.f0, v1, .bool x.f2, .int .i64 x.f3.f0, .int .i64 x.f3.f1]).heap[P]? = some (.cells #[.slice A0 0 c0, .slice At tops.length ct] 60 (0, 0)) := (setCells_far _ _ _ hPg).trans KP2
    refine hK.out _ _ ?_
    clear hK K
    refine last_ (i := 12) (N := none) #[true, true, true, true, true, true, true, true, true, true, true, true, true] rfl rfl (by kernel_rfl) (by decide) (fun K hK => ?_)
    have fz3 := blk_frozen KP3 1
    have cz3 := (blk_cell KP3 1).trans rfl
    refine skip_ (w1 := ?_) (by rfl) rfl ?_ ?_
    rotate_left
    · go_simp
      rfl
    rotate_left
    refine hK.out _ _ ?_
    clear hK K
    refine done_ (by kernel_rfl) ?_
    refine bodyPost_end (results_none rfl _ _ _) rfl ?_
    have HW4 := own_set (j := 1) (u := .slice (some ⟨g, 0, none⟩) (tops.length + 1) cp) (HW2.kept hg3 (own_apart hR2)) KP3
    have hR4 := Kd.R_far hR3 (p := ⟨P, 1, none⟩) (fun k hk => hk.1) (.slice (some ⟨g, 0, none⟩) (tops.length + 1) cp)
    have KP4 := heap_setCell_same _ P 1 _ 60 (.slice (some ⟨g, 0, none⟩) (tops.length + 1) cp) KP3
    refine ⟨rfl, ⟨.slice (some ⟨g, 0, none⟩) (tops.length + 1) cp, St.top KP4 H.out.low HW4 hR4⟩, ?_⟩
    exact (hB2.grown hg3 (Nat.le_trans HS (by have := hG2.size; exact this)) (fun k e => by injection e with e; omega)).setCell H.out.low _
  · have cz2 := (blk_cell KP2 1).trans rfl
    refine skip_ (w1 := ?_) (by rfl) rfl ?_ ?_
    rotate_left
    · go_simp
      rfl
    rotate_left
    refine hK.out _ _ ?_
    clear hK K
    refine last_ (i := 9) (N := none) #[true, true, true, true, true, true, true, true, true, true, true, true, true] rfl rfl (by kernel_rfl) (by decide) (fun K hK => ?_)
    have hR3 := Kd.R_far hR2 (p := ⟨P, 1, none⟩) (fun k hk => hk.1) (.slice (some ⟨g, 0, none⟩) (tops.length + 1) cp)
    have HM3 := Kd.M_far HM2 (p := ⟨P, 1, none⟩) (fun k hk => hk.1.1) (.slice (some ⟨g, 0, none⟩) (tops.length + 1) cp)
    have KP3 := heap_setCell_same _ P 1 _ 60 (.slice (some ⟨g, 0, none⟩) (tops.length + 1) cp) KP2
    have hg3 := (Below.heap_setCell w2 ⟨P, 1, none⟩ (.slice (some ⟨g, 0, none⟩) (tops.length + 1) cp) g (fun e => hPg e.symm)).trans hg2
    refine store_step 52 (.tmp 64) (.tmp 60) rfl rfl rfl rfl rfl hg3 (seg := [.string x.f0, v1, .bool x.f2, .int .i64 x.f3.f0, .int .i64 x.f3.f1]) rfl (by kernel_rfl) hfit hone ?_
    obtain ⟨hR4, hg4⟩ := row_set hR3 rfl rfl HM3 (fun k hk => ⟨hk.1, fun e => hk.2 (by rw [e]; rfl)⟩)
    refine hK.out _ _ ?_
    clear hK K
    refine done_ (by kernel_rfl) ?_
    refine bodyPost_end (results_none rfl _ _ _) rfl ?_
    have KP4 := (setCells_far (g := g) [.string x.f0, v1, .bool x.f2, .int .i64 x.f3.f0, .int .i64 x.f3.f1] (tops.length * 5) P hPg).trans KP3
    have HW4 := (own_set (j := 1) (u := .slice (some ⟨g, 0, none⟩) (tops.length + 1) cp) HW2 KP2).kept hg4 (own_apart hR2)
    refine ⟨rfl, ⟨.slice (some ⟨g, 0, none⟩) (tops.length + 1) cp, St.top KP4 H.out.low HW4 hR4⟩, ?_⟩
    exact (hB2.setCell H.out.low _).grown hg4 (by have := hG2.size; simp; exact Nat.le_trans HS this) (fun k e => by injection e with e; omega)
end Go.Proofs.YtlggmdlbhndacaaDoor.Lx.Put

/- parser.put walked, with a list open. -/
namespace Go.Proofs.YtlggmdlbhndacaaDoor.Lx.PutIn
open Go.RowKit Go.Proofs.YtlggmdlbhndacaaDoorW.PrintWords Go.Proofs.YtlggmdlbhndacaaDoorW.PrintLast Go.Proofs.YtlggmdlbhndacaaDoorW.PrintMore Stack LexV Put

set_option linter.unusedSimpArgs false in
set_option maxRecDepth 100000 in
set_option maxHeartbeats 4000000 in
theorem put_in (w : World) (base P O co n : Nat) (vt : Value) (tops : List S52) (l : List (Value × List S52)) (v : Value) (xs : List S52) (ps : List (Int × Int)) (pl pc : Int) (x : S52) (v1 : Value)
    (h : St w base P (.slice (some ⟨O, 0, none⟩) (n + 1) co) vt tops (l ++ [(v, xs)]) (ps ++ [(pl, pc)])) (hn : l.length = n) (hn64 : n ≤ 64) (hbase : base ≤ w.heap.size) (hl : xs.length ≤ 1048576)
    (hx : k52.M w base (Okk P (.slice (some ⟨O, 0, none⟩) (n + 1) co) (((vt, tops) :: (l ++ [(v, xs)])).map (·.1))) x [.string x.f0, v1, .bool x.f2, .int .i64 x.f3.f0, .int .i64 x.f3.f1]) :
    Calls Tryd.prog 34 #[.pointer (some ⟨P, 0, none⟩), .agg #[.string x.f0, v1, .bool x.f2, .int .i64 x.f3.f0, .int .i64 x.f3.f1]] w fun e w' => e = .returned (.tuple #[]) ∧ (∃ v', St w' base P (.slice (some ⟨O, 0, none⟩) (n + 1) co) vt tops (l ++ [(v', xs ++ [x])]) (ps ++ [(pl, pc)])) ∧ Below base w w' := by
  have p0 : w.cell? ⟨P, 0, none⟩ = some (.slice (some ⟨O, 0, none⟩) (n + 1) co) := (blk_cell h.blk 0).trans rfl
  have hP := blk_lt h.blk
  have R0 : Kd.R k52 52 w base (Okk P (.slice (some ⟨O, 0, none⟩) (n + 1) co) (((vt, tops) :: l).map (·.1))) v xs := (Rows.pop (l := (vt, tops) :: l) h.rows).2
  obtain ⟨Av, cv, ev⟩ := Kd.R_slice R0
  subst ev
  have hlen : l.length = ps.length := by have := h.len; simpa using this
  have hown : w.ownsRow base 52 5 (.slice (some ⟨O, 0, none⟩) (n + 1) co) (n + 1) (ocells (l ++ [(.slice Av xs.length cv, xs)]) (ps ++ [(pl, pc)])) := by have := h.own; rwa [show (l ++ [((Value.slice Av xs.length cv : Value), xs)]).length = n + 1 by simp [hn]] at this
  have hOlt := hown.lt O rfl
  have pO : w.cell? ⟨O, n * 5 + 1, none⟩ = some (.slice Av xs.length cv) := by
    rw [hown.cellAt (n * 5 + 1) (by omega), ← hn, ocells_get l ps _ xs pl pc hlen 1]; rfl
  have hPO : P ≠ O := by
    rcases hown.2 with ⟨hv, _⟩ | ⟨g', cap, cur, hv, _, hh, _⟩
    · cases hv
    · injection hv with h1
      injection h1 with h1
      injection h1 with h1
      subst h1
      exact blk_ne h.blk hh (by decide)
  have hneP : some P ≠ (Value.slice Av xs.length cv).ownBlock := Kd.R_away R0 (fun k hk => hk.1)
  have hneO : some O ≠ (Value.slice Av xs.length cv).ownBlock := Kd.R_away R0 (fun k hk e => hk.2.1 (by rw [e]; rfl))
  have hneB : some w.heap.size ≠ (Value.slice Av xs.length cv).ownBlock := fun e => by have := Kd.R_lt R0 _ e.symm; omega
  have H := Lib.hid h
  have HX := Lib.hid hx
  replace R0 := Lib.hid R0
  have HOWN := Lib.hid hown
  have HN := Lib.hid hn
  have HPO := Lib.hid hPO
  have HOL := Lib.hid hOlt.2
  clear h hx hown hn hPO hlen hOlt
  go_enter Tryd.func34, Tryd.ntmps34
  have g0 : decide ((n : Int) + 1 > 0) = true := decide_eq_true (by omega)
  go_wp2
  go_region
  all_goals try go_wp2
  · obtain ⟨W, hWe⟩ : ∃ W, W = ((w.alloc (.cells #[.string x.f0, v1, .bool x.f2, .int .i64 x.f3.f0, .int .i64 x.f3.f1] 52)).alloc (.cells #[.bool false] 4)).drew := ⟨_, rfl⟩
    have hbe : Below w.heap.size w W := by rw [hWe]; exact below_drew1 (below_alloc (below_alloc (Below.refl _ _) _) _)
    have KB : W.heap[w.heap.size]? = some (.cells #[.string x.f0, v1, .bool x.f2, .int .i64 x.f3.f0, .int .i64 x.f3.f1] 52 (0, 0)) := by rw [hWe]; exact blk_drew (blk_alloc (blk_new w _) _)
    have hWs : w.heap.size < W.heap.size := blk_lt KB
    have HST : St W base P (.slice (some ⟨O, 0, none⟩) (n + 1) co) vt tops (l ++ [(.slice Av xs.length cv, xs)]) (ps ++ [(pl, pc)]) := H.out.below hbe
    have q0 : W.cell? ⟨P, 0, none⟩ = some (.slice (some ⟨O, 0, none⟩) (n + 1) co) := (hbe.cell hP).trans p0
    have q1 : W.cell? ⟨O, n * 5 + 1, none⟩ = some (.slice Av xs.length cv) := (hbe.cell HOL.out).trans pO
    have q2 : W.cell? ⟨w.heap.size, 0, none⟩ = some (.string x.f0) := (blk_cell KB 0).trans rfl
    have q3 : W.cell? ⟨w.heap.size, 1, none⟩ = some v1 := (blk_cell KB 1).trans rfl
    have q4 : W.cell? ⟨w.heap.size, 2, none⟩ = some (.bool x.f2) := (blk_cell KB 2).trans rfl
    have q5 : W.cell? ⟨w.heap.size, 3, none⟩ = some (.int .i64 x.f3.f0) := (blk_cell KB 3).trans rfl
    have q6 : W.cell? ⟨w.heap.size, 4, none⟩ = some (.int .i64 x.f3.f1) := (blk_cell KB 4).trans rfl
    have GBW : w.grownBy W none := ⟨hbe.os, hbe.tape, hbe.output, hbe.size, fun k hk _ => hbe.block k hk⟩
    have HO := Kd.R_below R0.out hbe
    have HM := Kd.M_below HX.out hbe
    have HB : Below base w W := hbe.mono hbase
    have HS : base ≤ W.heap.size := by omega
    have HBO : base ≤ O := (HOWN.out.lt O rfl).1
    have HOK : ∀ k, Okk P (.slice (some ⟨O, 0, none⟩) (n + 1) co) (((vt, tops) :: (l ++ [(.slice Av xs.length cv, xs)])).map (·.1)) k → Okk P (.slice (some ⟨O, 0, none⟩) (n + 1) co) (((vt, tops) :: l).map (·.1)) k ∧ some k ≠ (Value.slice Av xs.length cv).ownBlock := fun k hk => ⟨hk.sub (by intro u hu; simp only [List.map_cons, List.map_append, List.map_nil, List.mem_cons, List.mem_append] at hu ⊢; rcases hu with h | h <;> simp [h]), hk.2.2 _ (by simp)⟩
    have HF0 : ∀ k, W.heap.size ≤ k → Okk P (.slice (some ⟨O, 0, none⟩) (n + 1) co) (((vt, tops) :: l).map (·.1)) k := fun k hk => ⟨by omega, by have := HOL.out; simp [Value.ownBlock]; omega, fun u hu => HST.rows.fresh u (by simp only [List.map_cons, List.map_append, List.mem_cons, List.mem_append] at hu ⊢; rcases hu with h | h <;> simp [h]) k hk⟩
    have gq : wrap64 (n : Int) = n := wr64 (by omega) (by omega)
    have gb : ((n : Int) < (n : Int) + 1) = True := eq_true (by omega)
    rw [← hWe]
    clear hWe
    refine start_ (n := 21) (S := fun w' => w'.cell? ⟨P, 0, none⟩ = some (.slice (some ⟨O, 0, none⟩) (n + 1) co) ∧ w'.cell? ⟨O, n * 5 + 1, none⟩ = some (.slice Av xs.length cv) ∧ w'.cell? ⟨w.heap.size, 0, none⟩ = some (.string x.f0) ∧ w'.cell? ⟨w.heap.size, 1, none⟩ = some v1 ∧ w'.cell? ⟨w.heap.size, 2, none⟩ = some (.bool x.f2) ∧ w'.cell? ⟨w.heap.size, 3, none⟩ = some (.int .i64 x.f3.f0) ∧ w'.cell? ⟨w.heap.size, 4, none⟩ = some (.int .i64 x.f3.f1)) (ds := [20]) #[false, false, false, false, false, false, false, false, false, false, false, false, false, false, false, false, false, false, false, false, false] (by kernel_rfl) rfl rfl ⟨q0, q1, q2, q3, q4, q5, q6⟩ (fun hHeld => ?_)
    refine pure_ (i := 0) (N := some 36) (v := ?_) (a' := ?_) #[true, false, false, false, false, false, false, false, false, false, false, false, false, false, false, false, false, false, false, false, false] rfl rfl (by kernel_rfl) (fun _ _ _ h => h) (Or.inl ⟨by rfl, ?_⟩) ?_ ?_
    rotate_left
    · intro w'
      go_simp
      with_reducible rfl
    rotate_left
    · simp only [Act.put, List.setIfInBounds_toArray, List.set_cons_zero, List.set_cons_succ, i64_w, i32_w]
      rfl
    refine pure_ (i := 1) (N := some 37) (v := ?_) (a' := ?_) #[true, true, false, false, false, false, false, false, false, false, false, false, false, false, false, false, false, false, false, false, false] rfl rfl (by kernel_rfl) (fun _ _ _ h => h) (Or.inl ⟨by rfl, ?_⟩) ?_ ?_
    rotate_left
    · intro w'
      go_simp
      with_reducible rfl
    rotate_left
    · simp only [Act.put, List.setIfInBounds_toArray, List.set_cons_zero, List.set_cons_succ, i64_w, i32_w]
      rfl
    refine pure_ (i := 2) (N := some 38) (v := ?_) (a' := ?_) #[true, true, true, false, false, false, false, false, false, false, false, false, false, false, false, false, false, false, false, false, false] rfl rfl (by kernel_rfl) (fun _ _ _ h => h) (Or.inl ⟨by rfl, ?_⟩) ?_ ?_
    rotate_left
    · intro w'
      go_simp
      with_reducible rfl
    rotate_left
    · simp only [Act.put, List.setIfInBounds_toArray, List.set_cons_zero, List.set_cons_succ, i64_w, i32_w]
      rfl
    refine pure_ (i := 4) (N := some 40) (v := ?_) (a' := ?_) #[true, true, true, false, true, false, false, false, false, false, false, false, false, false, false, false, false, false, false, false, false] rfl rfl (by kernel_rfl) (fun _ _ _ h => h) (Or.inl ⟨by rfl, ?_⟩) ?_ ?_
    rotate_left
    · intro w'
      go_simp
      with_reducible rfl
    rotate_left
    · simp only [Act.put, List.setIfInBounds_toArray, List.set_cons_zero, List.set_cons_succ, i64_w, i32_w]
      rfl
    refine pure_ (i := 5) (N := some 41) (v := ?_) (a' := ?_) #[true, true, true, false, true, true, false, false, false, false, false, false, false, false, false, false, false, false, false, false, false] rfl rfl (by kernel_rfl) (fun _ _ _ h => h) (Or.inl ⟨by rfl, ?_⟩) ?_ ?_
    rotate_left
    · intro w'
      go_simp
      with_reducible rfl
    rotate_left
    · simp only [Act.put, List.setIfInBounds_toArray, List.set_cons_zero, List.set_cons_succ, i64_w, i32_w]
      rfl
    refine pure_ (i := 6) (N := some 42) (v := ?_) (a' := ?_) #[true, true, true, false, true, true, true, false, false, false, false, false, false, false, false, false, false, false, false, false, false] rfl rfl (by kernel_rfl) (fun _ _ _ h => h) (Or.inl ⟨by rfl, ?_⟩) ?_ ?_
    rotate_left
    · intro w'
      go_simp
      with_reducible rfl
    rotate_left
    · simp only [Act.put, List.setIfInBounds_toArray, List.set_cons_zero, List.set_cons_succ, i64_w, i32_w]
      rfl
    refine pure_ (i := 7) (N := some 43) (v := ?_) (a' := ?_) #[true, true, true, false, true, true, true, true, false, false, false, false, false, false, false, false, false, false, false, false, false] rfl rfl (by kernel_rfl) (fun _ _ _ h => h) (Or.inl ⟨by rfl, ?_⟩) ?_ ?_
    rotate_left
    · intro w'
      go_simp
      with_reducible rfl
    rotate_left
    · simp only [Act.put, List.setIfInBounds_toArray, List.set_cons_zero, List.set_cons_succ, i64_w, i32_w]
      rfl
    refine pure_ (i := 8) (N := some 44) (v := ?_) (a' := ?_) #[true, true, true, false, true, true, true, true, true, false, false, false, false, false, false, false, false, false, false, false, false] rfl rfl (by kernel_rfl) (fun _ _ _ h => h) (Or.inl ⟨by rfl, ?_⟩) ?_ ?_
    rotate_left
    · intro w'
      go_simp
      with_reducible rfl
    rotate_left
    · simp only [Act.put, List.setIfInBounds_toArray, List.set_cons_zero, List.set_cons_succ, i64_w, i32_w]
      rfl
    refine pure_ (i := 10) (N := some 46) (v := ?_) (a' := ?_) #[true, true, true, false, true, true, true, true, true, false, true, false, false, false, false, false, false, false, false, false, false] rfl rfl (by kernel_rfl) (fun _ _ _ h => h) (Or.inl ⟨by rfl, ?_⟩) ?_ ?_
    rotate_left
    · intro w'
      go_simp
      with_reducible rfl
    rotate_left
    · simp only [Act.put, List.setIfInBounds_toArray, List.set_cons_zero, List.set_cons_succ, i64_w, i32_w]
      rfl
    refine pure_ (i := 11) (N := some 47) (v := ?_) (a' := ?_) #[true, true, true, false, true, true, true, true, true, false, true, true, false, false, false, false, false, false, false, false, false] rfl rfl (by kernel_rfl) (fun _ _ _ h => h) (Or.inl ⟨by rfl, ?_⟩) ?_ ?_
    rotate_left
    · intro w'
      go_simp
      with_reducible rfl
    rotate_left
    · simp only [Act.put, List.setIfInBounds_toArray, List.set_cons_zero, List.set_cons_succ, i64_w, i32_w]
      rfl
    refine take_ (i := 3) (N := some 39) (v := ?_) (a' := ?_) #[true, true, true, true, true, true, true, true, true, false, true, true, false, false, false, false, false, false, false, false, false] rfl rfl (by kernel_rfl) (fun _ _ _ h => h) (Or.inl ⟨by rfl, ?_⟩) hHeld ?_ ?_
    rotate_left
    · rintro w' ⟨s0, s1, s2, s3, s4, s5, s6⟩
      go_simp
      with_reducible rfl
    rotate_left
    · simp only [Act.put, List.setIfInBounds_toArray, List.set_cons_zero, List.set_cons_succ, i64_w, i32_w]
      rfl
    refine take_ (i := 9) (N := some 45) (v := ?_) (a' := ?_) #[true, true, true, true, true, true, true, true, true, true, true, true, false, false, false, false, false, false, false, false, false] rfl rfl (by kernel_rfl) (fun _ _ _ h => h) (Or.inl ⟨by rfl, ?_⟩) hHeld ?_ ?_
    rotate_left
    · rintro w' ⟨s0, s1, s2, s3, s4, s5, s6⟩
      go_simp
      with_reducible rfl
    rotate_left
    · simp only [Act.put, List.setIfInBounds_toArray, List.set_cons_zero, List.set_cons_succ, i64_w, i32_w]
      rfl
    refine pure_ (i := 12) (N := some 48) (v := ?_) (a' := ?_) #[true, true, true, true, true, true, true, true, true, true, true, true, true, false, false, false, false, false, false, false, false] rfl rfl (by kernel_rfl) (fun _ _ _ h => h) (Or.inl ⟨by rfl, ?_⟩) ?_ ?_
    rotate_left
    · intro w'
      go_simp
      with_reducible rfl
    rotate_left
    · simp only [Act.put, List.setIfInBounds_toArray, List.set_cons_zero, List.set_cons_succ, i64_w, i32_w]
      rfl
    refine pure_ (i := 13) (N := some 49) (v := ?_) (a' := ?_) #[true, true, true, true, true, true, true, true, true, true, true, true, true, true, false, false, false, false, false, false, false] rfl rfl (by kernel_rfl) (fun _ _ _ h => h) (Or.inl ⟨by rfl, ?_⟩) ?_ ?_
    rotate_left
    · intro w'
      go_simp
      with_reducible rfl
    rotate_left
    · simp only [Act.put, List.setIfInBounds_toArray, List.set_cons_zero, List.set_cons_succ, i64_w, i32_w]
      rfl
    refine take_ (i := 14) (N := some 50) (v := ?_) (a' := ?_) #[true, true, true, true, true, true, true, true, true, true, true, true, true, true, true, false, false, false, false, false, false] rfl rfl (by kernel_rfl) (fun _ _ _ h => h) (Or.inl ⟨by rfl, ?_⟩) hHeld ?_ ?_
    rotate_left
    · rintro w' ⟨s0, s1, s2, s3, s4, s5, s6⟩
      go_simp
      with_reducible rfl
    rotate_left
    · simp only [Act.put, List.setIfInBounds_toArray, List.set_cons_zero, List.set_cons_succ, i64_w, i32_w]
      rfl
    refine take_ (i := 15) (N := some 51) (v := ?_) (a' := ?_) #[true, true, true, true, true, true, true, true, true, true, true, true, true, true, true, true, false, false, false, false, false] rfl rfl (by kernel_rfl) (fun _ _ _ h => h) (Or.inl ⟨by rfl, ?_⟩) hHeld ?_ ?_
    rotate_left
    · rintro w' ⟨s0, s1, s2, s3, s4, s5, s6⟩
      go_simp
      with_reducible rfl
    rotate_left
    · simp only [Act.put, List.setIfInBounds_toArray, List.set_cons_zero, List.set_cons_succ, i64_w, i32_w]
      rfl
    refine one_ (i := 16) (N := some 52) #[true, true, true, true, true, true, true, true, true, true, true, true, true, true, true, true, true, false, false, false, false] rfl rfl (by kernel_rfl) (by decide) (fun K hK => ?_)
    refine value_ (w1 := ?_) (v := ?_) (by rfl) rfl ?_ ?_
    rotate_left 2
    · go_simp
      constructor
      · rfl
      · rfl
    refine hK.out _ _ ⟨(keepA q0 _), (keepA q1 _), (keepA q2 _), (keepA q3 _), (keepA q4 _), (keepA q5 _), (keepA q6 _)⟩ (fun hHeld => ?_)
    clear hK K
    refine norm_ (a' := ?_) ?_ ?_
    rotate_left
    · show Act.put _ (some 52) _ = _
      simp only [Act.put, List.setIfInBounds_toArray, List.set_cons_zero, List.set_cons_succ, i64_w, i32_w]
      rfl
    refine one_ (i := 17) (N := some 53) #[true, true, true, true, true, true, true, true, true, true, true, true, true, true, true, true, true, true, false, false, false] rfl rfl (by kernel_rfl) (by decide) (fun K hK => ?_)
    refine Kd.R_append_step k52 (w0 := w) (W := W.drew) base rfl (.tmp 50) (.tmp 52) 23 52 (.agg #[(.string ⟨#[]⟩), (.slice none 0 0), (.bool false), (.int .i64 0), (.int .i64 0)]) 64 rfl Tryd.underlying23 info52 rfl (by decide) (by omega) (.slice Av xs.length cv) xs x [.string x.f0, v1, .bool x.f2, .int .i64 x.f3.f0, .int .i64 x.f3.f1] (Okk P (.slice (some ⟨O, 0, none⟩) (n + 1) co) (((vt, tops) :: l).map (fun y : Value × List S52 => y.1))) (Okk P (.slice (some ⟨O, 0, none⟩) (n + 1) co) (((vt, tops) :: (l ++ [((Value.slice Av xs.length cv : Value), xs)])).map (fun y : Value × List S52 => y.1))) rfl rfl (Kd.M_drewN HM 1) HOK HF0 (Kd.R_drew HO) HB.drew HS (by omega) ?_
    intro v2 w2 hR2 hB2 hG2 hat2
    obtain ⟨g, cp, ev2, hg0, hg1, cells2, hg2⟩ := Kd.R_form hR2 (by simp)
    rw [List.length_append] at ev2
    have ev3 : v2 = .slice (some ⟨g, 0, none⟩) (xs.length + 1) cp := ev2
    subst ev3
    have fzO := ((HOWN.out.kept (row := none) GBW (Or.inr (by simp [Value.ownBlock]))).drew.kept hG2 (Or.inr hneO)).frozenAt (n * 5 + 1)
    refine hK.out _ _ ⟨(hG2.cell q0 hneP), (hG2.cell q1 hneO), (hG2.cell q2 hneB), (hG2.cell q3 hneB), (hG2.cell q4 hneB), (hG2.cell q5 hneB), (hG2.cell q6 hneB)⟩ (fun hHeld => ?_)
    clear hK K
    refine norm_ (a' := ?_) ?_ ?_
    rotate_left
    · show Act.put _ (some 53) _ = _
      simp only [Act.put, List.setIfInBounds_toArray, List.set_cons_zero, List.set_cons_succ, i64_w, i32_w]
      rfl
    refine pure_ (i := 18) (N := some 54) (v := ?_) (a' := ?_) #[true, true, true, true, true, true, true, true, true, true, true, true, true, true, true, true, true, true, true, false, false] rfl rfl (by kernel_rfl) (fun _ _ _ h => h) (Or.inl ⟨by rfl, ?_⟩) ?_ ?_
    rotate_left
    · intro w'
      go_simp
      with_reducible rfl
    rotate_left
    · simp only [Act.put, List.setIfInBounds_toArray, List.set_cons_zero, List.set_cons_succ, i64_w, i32_w]
      rfl
    refine pure_ (i := 19) (N := some 55) (v := ?_) (a' := ?_) #[true, true, true, true, true, true, true, true, true, true, true, true, true, true, true, true, true, true, true, true, false] rfl rfl (by kernel_rfl) (fun _ _ _ h => h) (Or.inl ⟨by rfl, ?_⟩) ?_ ?_
    rotate_left
    · intro w'
      go_simp
      with_reducible rfl
    rotate_left
    · simp only [Act.put, List.setIfInBounds_toArray, List.set_cons_zero, List.set_cons_succ, i64_w, i32_w]
      rfl
    refine last_ (i := 20) (N := none) #[true, true, true, true, true, true, true, true, true, true, true, true, true, true, true, true, true, true, true, true, true] rfl rfl (by kernel_rfl) (by decide) (fun K hK => ?_)
    refine skip_ (w1 := ?_) (by rfl) rfl ?_ ?_
    rotate_left
    · go_simp
      rfl
    refine hK.out _ _ ?_
    clear hK K
    refine done_ (by kernel_rfl) ?_
    go_wp2
    refine bodyPost_ret (results_none rfl _ _ _) rfl ?_
    refine ⟨rfl, ⟨_, St.put (HST.below (below_drew (Below.refl _ _))) HN.out hR2 hG2 hat2 hneP hneO HPO.out⟩, ?_⟩
    exact hB2.setCell HBO _
  · obtain ⟨W, hWe⟩ : ∃ W, W = ((w.alloc (.cells #[.string x.f0, v1, .bool x.f2, .int .i64 x.f3.f0, .int .i64 x.f3.f1] 52)).alloc (.cells #[.bool true] 4)).drew := ⟨_, rfl⟩
    have hbe : Below w.heap.size w W := by rw [hWe]; exact below_drew1 (below_alloc (below_alloc (Below.refl _ _) _) _)
    have KB : W.heap[w.heap.size]? = some (.cells #[.string x.f0, v1, .bool x.f2, .int .i64 x.f3.f0, .int .i64 x.f3.f1] 52 (0, 0)) := by rw [hWe]; exact blk_drew (blk_alloc (blk_new w _) _)
    have hWs : w.heap.size < W.heap.size := blk_lt KB
    have HST : St W base P (.slice (some ⟨O, 0, none⟩) (n + 1) co) vt tops (l ++ [(.slice Av xs.length cv, xs)]) (ps ++ [(pl, pc)]) := H.out.below hbe
    have q0 : W.cell? ⟨P, 0, none⟩ = some (.slice (some ⟨O, 0, none⟩) (n + 1) co) := (hbe.cell hP).trans p0
    have q1 : W.cell? ⟨O, n * 5 + 1, none⟩ = some (.slice Av xs.length cv) := (hbe.cell HOL.out).trans pO
    have q2 : W.cell? ⟨w.heap.size, 0, none⟩ = some (.string x.f0) := (blk_cell KB 0).trans rfl
    have q3 : W.cell? ⟨w.heap.size, 1, none⟩ = some v1 := (blk_cell KB 1).trans rfl
    have q4 : W.cell? ⟨w.heap.size, 2, none⟩ = some (.bool x.f2) := (blk_cell KB 2).trans rfl
    have q5 : W.cell? ⟨w.heap.size, 3, none⟩ = some (.int .i64 x.f3.f0) := (blk_cell KB 3).trans rfl
    have q6 : W.cell? ⟨w.heap.size, 4, none⟩ = some (.int .i64 x.f3.f1) := (blk_cell KB 4).trans rfl
    have GBW : w.grownBy W none := ⟨hbe.os, hbe.tape, hbe.output, hbe.size, fun k hk _ => hbe.block k hk⟩
    have HO := Kd.R_below R0.out hbe
    have HM := Kd.M_below HX.out hbe
    have HB : Below base w W := hbe.mono hbase
    have HS : base ≤ W.heap.size := by omega
    have HBO : base ≤ O := (HOWN.out.lt O rfl).1
    have HOK : ∀ k, Okk P (.slice (some ⟨O, 0, none⟩) (n + 1) co) (((vt, tops) :: (l ++ [(.slice Av xs.length cv, xs)])).map (·.1)) k → Okk P (.slice (some ⟨O, 0, none⟩) (n + 1) co) (((vt, tops) :: l).map (·.1)) k ∧ some k ≠ (Value.slice Av xs.length cv).ownBlock := fun k hk => ⟨hk.sub (by intro u hu; simp only [List.map_cons, List.map_append, List.map_nil, List.mem_cons, List.mem_append] at hu ⊢; rcases hu with h | h <;> simp [h]), hk.2.2 _ (by simp)⟩
    have HF0 : ∀ k, W.heap.size ≤ k → Okk P (.slice (some ⟨O, 0, none⟩) (n + 1) co) (((vt, tops) :: l).map (·.1)) k := fun k hk => ⟨by omega, by have := HOL.out; simp [Value.ownBlock]; omega, fun u hu => HST.rows.fresh u (by simp only [List.map_cons, List.map_append, List.mem_cons, List.mem_append] at hu ⊢; rcases hu with h | h <;> simp [h]) k hk⟩
    have gq : wrap64 (n : Int) = n := wr64 (by omega) (by omega)
    have gb : ((n : Int) < (n : Int) + 1) = True := eq_true (by omega)
    rw [← hWe]
    clear hWe
    refine start_ (n := 22) (S := fun w' => w'.cell? ⟨P, 0, none⟩ = some (.slice (some ⟨O, 0, none⟩) (n + 1) co) ∧ w'.cell? ⟨O, n * 5 + 1, none⟩ = some (.slice Av xs.length cv) ∧ w'.cell? ⟨w.heap.size, 0, none⟩ = some (.string x.f0) ∧ w'.cell? ⟨w.heap.size, 1, none⟩ = some v1 ∧ w'.cell? ⟨w.heap.size, 2, none⟩ = some (.bool x.f2) ∧ w'.cell? ⟨w.heap.size, 3, none⟩ = some (.int .i64 x.f3.f0) ∧ w'.cell? ⟨w.heap.size, 4, none⟩ = some (.int .i64 x.f3.f1)) (ds := [21]) #[false, false, false, false, false, false, false, false, false, false, false, false, false, false, false, false, false, false, false, false, false, false] (by kernel_rfl) rfl rfl ⟨q0, q1, q2, q3, q4, q5, q6⟩ (fun hHeld => ?_)
    refine pure_ (i := 0) (N := some 14) (v := ?_) (a' := ?_) #[true, false, false, false, false, false, false, false, false, false, false, false, false, false, false, false, false, false, false, false, false, false] rfl rfl (by kernel_rfl) (fun _ _ _ h => h) (Or.inl ⟨by rfl, ?_⟩) ?_ ?_
    rotate_left
    · intro w'
      go_simp
      with_reducible rfl
    rotate_left
    · simp only [Act.put, List.setIfInBounds_toArray, List.set_cons_zero, List.set_cons_succ, i64_w, i32_w]
      rfl
    refine pure_ (i := 1) (N := some 15) (v := ?_) (a' := ?_) #[true, true, false, false, false, false, false, false, false, false, false, false, false, false, false, false, false, false, false, false, false, false] rfl rfl (by kernel_rfl) (fun _ _ _ h => h) (Or.inl ⟨by rfl, ?_⟩) ?_ ?_
    rotate_left
    · intro w'
      go_simp
      with_reducible rfl
    rotate_left
    · simp only [Act.put, List.setIfInBounds_toArray, List.set_cons_zero, List.set_cons_succ, i64_w, i32_w]
      rfl
    refine pure_ (i := 2) (N := some 16) (v := ?_) (a' := ?_) #[true, true, true, false, false, false, false, false, false, false, false, false, false, false, false, false, false, false, false, false, false, false] rfl rfl (by kernel_rfl) (fun _ _ _ h => h) (Or.inl ⟨by rfl, ?_⟩) ?_ ?_
    rotate_left
    · intro w'
      go_simp
      with_reducible rfl
    rotate_left
    · simp only [Act.put, List.setIfInBounds_toArray, List.set_cons_zero, List.set_cons_succ, i64_w, i32_w]
      rfl
    refine pure_ (i := 4) (N := some 18) (v := ?_) (a' := ?_) #[true, true, true, false, true, false, false, false, false, false, false, false, false, false, false, false, false, false, false, false, false, false] rfl rfl (by kernel_rfl) (fun _ _ _ h => h) (Or.inl ⟨by rfl, ?_⟩) ?_ ?_
    rotate_left
    · intro w'
      go_simp
      with_reducible rfl
    rotate_left
    · simp only [Act.put, List.setIfInBounds_toArray, List.set_cons_zero, List.set_cons_succ, i64_w, i32_w]
      rfl
    refine pure_ (i := 5) (N := some 19) (v := ?_) (a' := ?_) #[true, true, true, false, true, true, false, false, false, false, false, false, false, false, false, false, false, false, false, false, false, false] rfl rfl (by kernel_rfl) (fun _ _ _ h => h) (Or.inl ⟨by rfl, ?_⟩) ?_ ?_
    rotate_left
    · intro w'
      go_simp
      with_reducible rfl
    rotate_left
    · simp only [Act.put, List.setIfInBounds_toArray, List.set_cons_zero, List.set_cons_succ, i64_w, i32_w]
      rfl
    refine pure_ (i := 6) (N := some 20) (v := ?_) (a' := ?_) #[true, true, true, false, true, true, true, false, false, false, false, false, false, false, false, false, false, false, false, false, false, false] rfl rfl (by kernel_rfl) (fun _ _ _ h => h) (Or.inl ⟨by rfl, ?_⟩) ?_ ?_
    rotate_left
    · intro w'
      go_simp
      with_reducible rfl
    rotate_left
    · simp only [Act.put, List.setIfInBounds_toArray, List.set_cons_zero, List.set_cons_succ, i64_w, i32_w]
      rfl
    refine pure_ (i := 7) (N := some 21) (v := ?_) (a' := ?_) #[true, true, true, false, true, true, true, true, false, false, false, false, false, false, false, false, false, false, false, false, false, false] rfl rfl (by kernel_rfl) (fun _ _ _ h => h) (Or.inl ⟨by rfl, ?_⟩) ?_ ?_
    rotate_left
    · intro w'
      go_simp
      with_reducible rfl
    rotate_left
    · simp only [Act.put, List.setIfInBounds_toArray, List.set_cons_zero, List.set_cons_succ, i64_w, i32_w]
      rfl
    refine pure_ (i := 8) (N := some 22) (v := ?_) (a' := ?_) #[true, true, true, false, true, true, true, true, true, false, false, false, false, false, false, false, false, false, false, false, false, false] rfl rfl (by kernel_rfl) (fun _ _ _ h => h) (Or.inl ⟨by rfl, ?_⟩) ?_ ?_
    rotate_left
    · intro w'
      go_simp
      with_reducible rfl
    rotate_left
    · simp only [Act.put, List.setIfInBounds_toArray, List.set_cons_zero, List.set_cons_succ, i64_w, i32_w]
      rfl
    refine pure_ (i := 10) (N := some 24) (v := ?_) (a' := ?_) #[true, true, true, false, true, true, true, true, true, false, true, false, false, false, false, false, false, false, false, false, false, false] rfl rfl (by kernel_rfl) (fun _ _ _ h => h) (Or.inl ⟨by rfl, ?_⟩) ?_ ?_
    rotate_left
    · intro w'
      go_simp
      with_reducible rfl
    rotate_left
    · simp only [Act.put, List.setIfInBounds_toArray, List.set_cons_zero, List.set_cons_succ, i64_w, i32_w]
      rfl
    refine pure_ (i := 11) (N := some 25) (v := ?_) (a' := ?_) #[true, true, true, false, true, true, true, true, true, false, true, true, false, false, false, false, false, false, false, false, false, false] rfl rfl (by kernel_rfl) (fun _ _ _ h => h) (Or.inl ⟨by rfl, ?_⟩) ?_ ?_
    rotate_left
    · intro w'
      go_simp
      with_reducible rfl
    rotate_left
    · simp only [Act.put, List.setIfInBounds_toArray, List.set_cons_zero, List.set_cons_succ, i64_w, i32_w]
      rfl
    refine take_ (i := 3) (N := some 17) (v := ?_) (a' := ?_) #[true, true, true, true, true, true, true, true, true, false, true, true, false, false, false, false, false, false, false, false, false, false] rfl rfl (by kernel_rfl) (fun _ _ _ h => h) (Or.inl ⟨by rfl, ?_⟩) hHeld ?_ ?_
    rotate_left
    · rintro w' ⟨s0, s1, s2, s3, s4, s5, s6⟩
      go_simp
      with_reducible rfl
    rotate_left
    · simp only [Act.put, List.setIfInBounds_toArray, List.set_cons_zero, List.set_cons_succ, i64_w, i32_w]
      rfl
    refine take_ (i := 9) (N := some 23) (v := ?_) (a' := ?_) #[true, true, true, true, true, true, true, true, true, true, true, true, false, false, false, false, false, false, false, false, false, false] rfl rfl (by kernel_rfl) (fun _ _ _ h => h) (Or.inl ⟨by rfl, ?_⟩) hHeld ?_ ?_
    rotate_left
    · rintro w' ⟨s0, s1, s2, s3, s4, s5, s6⟩
      go_simp
      with_reducible rfl
    rotate_left
    · simp only [Act.put, List.setIfInBounds_toArray, List.set_cons_zero, List.set_cons_succ, i64_w, i32_w]
      rfl
    refine pure_ (i := 12) (N := some 26) (v := ?_) (a' := ?_) #[true, true, true, true, true, true, true, true, true, true, true, true, true, false, false, false, false, false, false, false, false, false] rfl rfl (by kernel_rfl) (fun _ _ _ h => h) (Or.inl ⟨by rfl, ?_⟩) ?_ ?_
    rotate_left
    · intro w'
      go_simp
      with_reducible rfl
    rotate_left
    · simp only [Act.put, List.setIfInBounds_toArray, List.set_cons_zero, List.set_cons_succ, i64_w, i32_w]
      rfl
    refine pure_ (i := 13) (N := some 27) (v := ?_) (a' := ?_) #[true, true, true, true, true, true, true, true, true, true, true, true, true, true, false, false, false, false, false, false, false, false] rfl rfl (by kernel_rfl) (fun _ _ _ h => h) (Or.inl ⟨by rfl, ?_⟩) ?_ ?_
    rotate_left
    · intro w'
      go_simp
      with_reducible rfl
    rotate_left
    · simp only [Act.put, List.setIfInBounds_toArray, List.set_cons_zero, List.set_cons_succ, i64_w, i32_w]
      rfl
    refine take_ (i := 14) (N := some 28) (v := ?_) (a' := ?_) #[true, true, true, true, true, true, true, true, true, true, true, true, true, true, true, false, false, false, false, false, false, false] rfl rfl (by kernel_rfl) (fun _ _ _ h => h) (Or.inl ⟨by rfl, ?_⟩) hHeld ?_ ?_
    rotate_left
    · rintro w' ⟨s0, s1, s2, s3, s4, s5, s6⟩
      go_simp
      with_reducible rfl
    rotate_left
    · simp only [Act.put, List.setIfInBounds_toArray, List.set_cons_zero, List.set_cons_succ, i64_w, i32_w]
      rfl
    refine pure_ (i := 16) (N := some 30) (v := ?_) (a' := ?_) #[true, true, true, true, true, true, true, true, true, true, true, true, true, true, true, false, true, false, false, false, false, false] rfl rfl (by kernel_rfl) (fun _ _ _ h => h) (Or.inl ⟨by rfl, ?_⟩) ?_ ?_
    rotate_left
    · intro w'
      go_simp
      with_reducible rfl
    rotate_left
    · simp only [Act.put, List.setIfInBounds_toArray, List.set_cons_zero, List.set_cons_succ, i64_w, i32_w]
      rfl
    refine take_ (i := 15) (N := some 29) (v := ?_) (a' := ?_) #[true, true, true, true, true, true, true, true, true, true, true, true, true, true, true, true, true, false, false, false, false, false] rfl rfl (by kernel_rfl) (fun _ _ _ h => h) (Or.inl ⟨by rfl, ?_⟩) hHeld ?_ ?_
    rotate_left
    · rintro w' ⟨s0, s1, s2, s3, s4, s5, s6⟩
      go_simp
      with_reducible rfl
    rotate_left
    · simp only [Act.put, List.setIfInBounds_toArray, List.set_cons_zero, List.set_cons_succ, i64_w, i32_w]
      rfl
    refine one_ (i := 17) (N := some 31) #[true, true, true, true, true, true, true, true, true, true, true, true, true, true, true, true, true, true, false, false, false, false] rfl rfl (by kernel_rfl) (by decide) (fun K hK => ?_)
    refine value_ (w1 := ?_) (v := ?_) (by rfl) rfl ?_ ?_
    rotate_left 2
    · go_simp
      constructor
      · rfl
      · rfl
    refine hK.out _ _ ⟨(keepA q0 _), (keepA q1 _), (keepA q2 _), (keepA q3 _), (keepA q4 _), (keepA q5 _), (keepA q6 _)⟩ (fun hHeld => ?_)
    clear hK K
    refine norm_ (a' := ?_) ?_ ?_
    rotate_left
    · show Act.put _ (some 31) _ = _
      simp only [Act.put, List.setIfInBounds_toArray, List.set_cons_zero, List.set_cons_succ, i64_w, i32_w]
      rfl
    refine one_ (i := 18) (N := some 32) #[true, true, true, true, true, true, true, true, true, true, true, true, true, true, true, true, true, true, true, false, false, false] rfl rfl (by kernel_rfl) (by decide) (fun K hK => ?_)
    refine Kd.R_append_step k52 (w0 := w) (W := W.drew) base rfl (.tmp 28) (.tmp 31) 23 52 (.agg #[(.string ⟨#[]⟩), (.slice none 0 0), (.bool false), (.int .i64 0), (.int .i64 0)]) 64 rfl Tryd.underlying23 info52 rfl (by decide) (by omega) (.slice Av xs.length cv) xs z52 [.string ⟨#[]⟩, .slice none 0 0, .bool false, .int .i64 0, .int .i64 0] (Okk P (.slice (some ⟨O, 0, none⟩) (n + 1) co) (((vt, tops) :: l).map (fun y : Value × List S52 => y.1))) (fun _ => False) rfl rfl (k52_mkM _ _ _ z52 (Kd.R_nil _ _ _ _ _)) (fun _ h => h.elim) HF0 (Kd.R_drew HO) HB.drew HS (by omega) ?_
    intro v2 w2 hR2 hB2 hG2 hat2
    obtain ⟨g, cp, ev2, hg0, hg1, cells2, hg2⟩ := Kd.R_form hR2 (by simp)
    rw [List.length_append] at ev2
    have ev3 : v2 = .slice (some ⟨g, 0, none⟩) (xs.length + 1) cp := ev2
    subst ev3
    have fzO := ((HOWN.out.kept (row := none) GBW (Or.inr (by simp [Value.ownBlock]))).drew.kept hG2 (Or.inr hneO)).frozenAt (n * 5 + 1)
    refine hK.out _ _ ⟨(hG2.cell q0 hneP), (hG2.cell q1 hneO), (hG2.cell q2 hneB), (hG2.cell q3 hneB), (hG2.cell q4 hneB), (hG2.cell q5 hneB), (hG2.cell q6 hneB)⟩ (fun hHeld => ?_)
    clear hK K
    refine norm_ (a' := ?_) ?_ ?_
    rotate_left
    · show Act.put _ (some 32) _ = _
      simp only [Act.put, List.setIfInBounds_toArray, List.set_cons_zero, List.set_cons_succ, i64_w, i32_w]
      rfl
    refine pure_ (i := 19) (N := some 33) (v := ?_) (a' := ?_) #[true, true, true, true, true, true, true, true, true, true, true, true, true, true, true, true, true, true, true, true, false, false] rfl rfl (by kernel_rfl) (fun _ _ _ h => h) (Or.inl ⟨by rfl, ?_⟩) ?_ ?_
    rotate_left
    · intro w'
      go_simp
      with_reducible rfl
    rotate_left
    · simp only [Act.put, List.setIfInBounds_toArray, List.set_cons_zero, List.set_cons_succ, i64_w, i32_w]
      rfl
    refine pure_ (i := 20) (N := some 34) (v := ?_) (a' := ?_) #[true, true, true, true, true, true, true, true, true, true, true, true, true, true, true, true, true, true, true, true, true, false] rfl rfl (by kernel_rfl) (fun _ _ _ h => h) (Or.inl ⟨by rfl, ?_⟩) ?_ ?_
    rotate_left
    · intro w'
      go_simp
      with_reducible rfl
    rotate_left
    · simp only [Act.put, List.setIfInBounds_toArray, List.set_cons_zero, List.set_cons_succ, i64_w, i32_w]
      rfl
    refine last_ (i := 21) (N := none) #[true, true, true, true, true, true, true, true, true, true, true, true, true, true, true, true, true, true, true, true, true, true] rfl rfl (by kernel_rfl) (by decide) (fun K hK => ?_)
    refine skip_ (w1 := ?_) (by rfl) rfl ?_ ?_
    rotate_left
    · go_simp
      rfl
    refine hK.out _ _ ?_
    clear hK K
    refine done_ (by kernel_rfl) ?_
    have hS1 := St.put (HST.below (below_drew (Below.refl _ _))) HN.out hR2 hG2 hat2 hneP hneO HPO.out
    have hok := hR2.1 g rfl
    have hPg : P ≠ g := fun e => hok.1 e.symm
    have hOg : O ≠ g := fun e => hok.2.1 (by rw [e]; rfl)
    have hfit : xs.length * 5 + 5 ≤ cells2.size := by have := row_room hR2 hg2; omega
    have hone : ∀ q ∈ ([.string x.f0, v1, .bool x.f2, .int .i64 x.f3.f0, .int .i64 x.f3.f1] : List Value), q.oneCell' = true := k52.K_one (k52.K_of_M HX.out)
    have hg3 := (Below.heap_setCell w2 ⟨O, n * 5 + 1, none⟩ (.slice (some ⟨g, 0, none⟩) (xs.length + 1) cp) g (fun e => hOg e.symm)).trans hg2
    have hR3 := Kd.R_far hR2 (p := ⟨O, n * 5 + 1, none⟩) (fun k hk e => hk.2.1 (by rw [e]; rfl)) (.slice (some ⟨g, 0, none⟩) (xs.length + 1) cp)
    have HM2 := Kd.M_after (ok := Okk P (.slice (some ⟨O, 0, none⟩) (n + 1) co) (((vt, tops) :: l).map (·.1))) (v1 := .slice (some ⟨g, 0, none⟩) (xs.length + 1) cp) (k52.M_mono HOK (Kd.M_drewN HM 1)) hG2 hat2
    have HM3 := Kd.M_far HM2 (p := ⟨O, n * 5 + 1, none⟩) (fun k hk e => hk.1.2.1 (by rw [e]; rfl)) (.slice (some ⟨g, 0, none⟩) (xs.length + 1) cp)
    obtain ⟨hR4, hg4⟩ := row_set hR3 rfl rfl HM3 (fun k hk => ⟨hk.1, fun e => hk.2 (by rw [e]; rfl)⟩)
    have hS2 := Lib.hid (St.elem hS1 hR4 hg4 (fun e => hPg (by injection e)) (fun e => hOg (by injection e)))
    have hB4 := Lib.hid ((hB2.setCell (p := ⟨O, n * 5 + 1, none⟩) HBO (.slice (some ⟨g, 0, none⟩) (xs.length + 1) cp)).grown hg4 (by have := hG2.size; simp; exact Nat.le_trans HS this) (fun k e => by injection e with e; omega))
    go_wp2_with ((with_reducible refine gate_store (t := 52) (p := 35) rfl ?_); refine storeL 52 (.tmp 35) (.tmp 29) rfl rfl rfl rfl rfl hg3 (seg := [.string x.f0, v1, .bool x.f2, .int .i64 x.f3.f0, .int .i64 x.f3.f1]) rfl (by kernel_rfl) hfit hone ?_)
    refine bodyPost_ret (results_none rfl _ _ _) rfl ?_
    exact ⟨rfl, ⟨_, hS2.out⟩, hB4.out⟩
end Go.Proofs.YtlggmdlbhndacaaDoor.Lx.PutIn

/- put told whatever lists are open. -/
namespace Go.Proofs.YtlggmdlbhndacaaDoor.Lx.Ps
open Go.RowKit Go.Proofs.YtlggmdlbhndacaaDoorW.PrintWords Go.Proofs.YtlggmdlbhndacaaDoorW.PrintLast Go.Proofs.YtlggmdlbhndacaaDoorW.PrintMore Stack LexV Put PutIn

/-- The outermost things and the open lists' things, behind something that was put. -/
def putM (tops : List S52) (os : List (List S52)) (x : S52) : List S52 × List (List S52) := match os.reverse with
  | [] => (tops ++ [x], [])
  | l :: r => (tops, (r.reverse ++ [l ++ [x]]))
theorem putM_nil (tops : List S52) (x : S52) : putM tops [] x = (tops ++ [x], []) := rfl
theorem putM_snoc (tops : List S52) (os : List (List S52)) (l : List S52) (x : S52) : putM tops (os ++ [l]) x = (tops, os ++ [l ++ [x]]) := by
  unfold putM
  rw [List.reverse_append]
  simp
/-- The parser's state, without its addresses. -/
structure PS (w : World) (base P : Nat) (tops : List S52) (os : List (List S52)) (ps : List (Int × Int)) : Prop where mk ::
  (out : ∃ vo vt ros, St w base P vo vt tops ros ps ∧ ros.map (·.2) = os)
theorem vo_form {w : World} {base P : Nat} {vo vt : Value} {tops : List S52} {ros : List (Value × List S52)} {ps : List (Int × Int)} (h : St w base P vo vt tops ros ps) : ∃ A c, vo = .slice A ros.length c := by
  rcases h.own.2 with ⟨rfl, h0⟩ | ⟨g, cap, cur, rfl, _⟩
  · exact ⟨none, 0, by rw [h0]⟩
  · exact ⟨_, cap, rfl⟩
theorem put_calls (w : World) (base P : Nat) (vo vt : Value) (tops : List S52) (ros : List (Value × List S52)) (ps : List (Int × Int)) (x : S52) (v1 : Value)
    (h : St w base P vo vt tops ros ps) (hbase : base ≤ w.heap.size) (hn : ros.length ≤ 64) (hl : ∀ l ∈ tops :: ros.map (·.2), l.length ≤ 1048576)
    (hx : k52.M w base (Okk P vo (((vt, tops) :: ros).map (·.1))) x [.string x.f0, v1, .bool x.f2, .int .i64 x.f3.f0, .int .i64 x.f3.f1]) :
    Calls Tryd.prog 34 #[.pointer (some ⟨P, 0, none⟩), .agg #[.string x.f0, v1, .bool x.f2, .int .i64 x.f3.f0, .int .i64 x.f3.f1]] w fun e w' => e = .returned (.tuple #[]) ∧ PS w' base P (putM tops (ros.map (·.2)) x).1 (putM tops (ros.map (·.2)) x).2 ps ∧ Below base w w' := by
  rcases List.eq_nil_or_concat ros with rfl | ⟨l, ⟨v, xs⟩, hz⟩
  · obtain rfl : ps = [] := List.length_eq_zero_iff.1 h.len.symm
    obtain ⟨A0, c0, rfl⟩ := vo_form h
    refine (put_top w base P A0 c0 vt tops x v1 h hbase hx (hl tops (by simp))).mono fun e w' ⟨he, ⟨vt', hS⟩, hB⟩ => ⟨he, ⟨_, _, [], hS, rfl⟩, hB⟩
  · obtain rfl : ros = l ++ [(v, xs)] := by rw [hz]; simp
    obtain ⟨A, co, rfl⟩ := vo_form h
    rw [show (l ++ [(v, xs)]).length = l.length + 1 by simp] at h hx
    have hlen := h.len
    rcases List.eq_nil_or_concat ps with rfl | ⟨ps', ⟨pl, pc⟩, hp⟩
    · simp at hlen
    · obtain rfl : ps = ps' ++ [(pl, pc)] := by rw [hp]; simp
      have hA : ∃ O, A = some ⟨O, 0, none⟩ := by
        rcases h.own.2 with ⟨h1, h2⟩ | ⟨g, cap, cur, h1, _⟩
        · simp at h2
        · injection h1 with h1
          exact ⟨g, h1⟩
      obtain ⟨O, rfl⟩ := hA
      refine (put_in w base P O co l.length vt tops l v xs ps' pl pc x v1 h rfl (by simp at hn; omega) hbase (hl xs (by simp)) hx).mono fun e w' ⟨he, ⟨v', hS⟩, hB⟩ => ⟨he, ?_, hB⟩
      rw [List.map_append, show [(v, xs)].map (·.2) = [xs] from rfl, putM_snoc]
      exact ⟨_, _, _, hS, by simp⟩
end Go.Proofs.YtlggmdlbhndacaaDoor.Lx.Ps
