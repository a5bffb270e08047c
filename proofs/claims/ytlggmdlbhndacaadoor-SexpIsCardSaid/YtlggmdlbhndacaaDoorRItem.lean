-- The functions and 'mono' of the reference's item: written by wip/tools/myprint.py (a program of this session's, over the kit's print.py); the walk (item_atom, item_deep, item_list, calls) is this session's own.
import Derived.Test.YtlggmdlbhndacaaDoorLxx0
import Derived.Lib.Hide
import Derived.IntWalk
namespace Go.Proofs.YtlggmdlbhndacaaDoor.Lx
open Go.RowKit Go.Proofs.YtlggmdlbhndacaaDoorW.PrintWords Go.Proofs.YtlggmdlbhndacaaDoorW.PrintLast Go.Proofs.YtlggmdlbhndacaaDoorW.PrintMore
attribute [local go_sem] max2_int min2_int max_two min_two max_three min_three max_four min_four   -- for this text's walks alone
set_option linter.unusedVariables false
set_option linter.unusedSimpArgs false

/-! ### tourbillonref04_item: function 33 -/
mutual
def tourbillonref04_item.l0 : Nat → List (S40) → Int → Int → Int → ByteArray → Int → Int → ByteArray → List (S52) → Bool → Int → Int → Option (ByteArray × (List (S52)) × Bool × Int × Int × Int × Int × Int × Int)
  | 0, _, _, _, _, _, _, _, _, _, _, _, _ => none
  | k + 1, x0, x2, x11, x322000, x322001, x322002, x322003, x323000, x323001, x323002, x323003, x323004 => if x11 < (x0.length : Int) then (if 0 ≤ x11 then (tourbillonref04_item.j1 k x0 x2 x11 (((rd_T40 x0 x11).f0) != 2) x322000 x322001 x322002 x322003 x323000 x323001 x323002 x323003 x323004) else (none)) else (tourbillonref04_item.j1 k x0 x2 x11 false x322000 x322001 x322002 x322003 x323000 x323001 x323002 x323003 x323004)
def tourbillonref04_item.j1 : Nat → List (S40) → Int → Int → Bool → Int → ByteArray → Int → Int → ByteArray → List (S52) → Bool → Int → Int → Option (ByteArray × (List (S52)) × Bool × Int × Int × Int × Int × Int × Int)
  | 0, _, _, _, _, _, _, _, _, _, _, _, _, _ => none
  | k + 1, x0, x2, x11, x52, x322000, x322001, x322002, x322003, x323000, x323001, x323002, x323003, x323004 => if x52 = true then ((tourbillonref04_item.f k x0 x11 (wrap64 (x2 + 1))).bind fun bt324 => (if bt324.2.2.2.2.2.2.2.2 = 0 then (if x323001.length < 2199023255552 then (tourbillonref04_item.l0 k x0 x2 bt324.2.2.2.2.2.1 x322000 x322001 x322002 x322003 x323000 (x323001 ++ [(⟨bt324.1, bt324.2.1, bt324.2.2.1, (⟨bt324.2.2.2.1, bt324.2.2.2.2.1⟩ : S25)⟩ : S52)]) x323002 x323003 x323004) else (none)) else (some (x323000, x323001, x323002, x323003, x323004, 0, bt324.2.2.2.2.2.2.1, bt324.2.2.2.2.2.2.2.1, bt324.2.2.2.2.2.2.2.2)))) else (if x11 = (x0.length : Int) then (some (x323000, x323001, x323002, x323003, x323004, 0, x322002, x322003, 4)) else (some (x323000, x323001, x323002, x323003, x323004, wrap64 (x11 + 1), 0, 0, 0)))
def tourbillonref04_item.f : Nat → List (S40) → Int → Int → Option (ByteArray × (List (S52)) × Bool × Int × Int × Int × Int × Int × Int)
  | 0, _, _, _ => none
  | k + 1, l0, a1, a2 => if 0 ≤ a1 then (if a1 < (l0.length : Int) then (if ((rd_T40 l0 a1).f0) = 3 then (some ((rd_T40 l0 a1).f1, ([] : List (S52)), false, (rd_T40 l0 a1).f2.f0, (rd_T40 l0 a1).f2.f1, wrap64 (a1 + 1), 0, 0, 0)) else (if a2 = 64 then (some ((⟨#[]⟩ : ByteArray), ([] : List (S52)), false, 0, 0, 0, (rd_T40 l0 a1).f2.f0, (rd_T40 l0 a1).f2.f1, 8)) else (tourbillonref04_item.l0 k l0 a2 (wrap64 (a1 + 1)) ((rd_T40 l0 a1).f0) ((rd_T40 l0 a1).f1) ((rd_T40 l0 a1).f2.f0) ((rd_T40 l0 a1).f2.f1) (⟨#[]⟩ : ByteArray) ([] : List (S52)) true ((rd_T40 l0 a1).f2.f0) ((rd_T40 l0 a1).f2.f1)))) else (none)) else (none)
end
theorem tourbillonref04_item.mono_l : ∀ k, (∀ y0 y1 y2, LeO (tourbillonref04_item.f k y0 y1 y2) (tourbillonref04_item.f (k + 1) y0 y1 y2)) ∧ (∀ y0 y1 y2 y3 y4 y5 y6 y7 y8 y9 y10 y11, LeO (tourbillonref04_item.l0 k y0 y1 y2 y3 y4 y5 y6 y7 y8 y9 y10 y11) (tourbillonref04_item.l0 (k + 1) y0 y1 y2 y3 y4 y5 y6 y7 y8 y9 y10 y11)) ∧ (∀ y0 y1 y2 y3 y4 y5 y6 y7 y8 y9 y10 y11 y12, LeO (tourbillonref04_item.j1 k y0 y1 y2 y3 y4 y5 y6 y7 y8 y9 y10 y11 y12) (tourbillonref04_item.j1 (k + 1) y0 y1 y2 y3 y4 y5 y6 y7 y8 y9 y10 y11 y12))
  | 0 => ⟨fun _ _ _ r h => by simp [tourbillonref04_item.f] at h, fun _ _ _ _ _ _ _ _ _ _ _ _ r h => by simp [tourbillonref04_item.l0] at h, fun _ _ _ _ _ _ _ _ _ _ _ _ _ r h => by simp [tourbillonref04_item.j1] at h⟩
  | k + 1 => by
    obtain ⟨ih0, ih1, ih2⟩ := tourbillonref04_item.mono_l k
    refine ⟨?_, ?_, ?_⟩
    · intro y0 y1 y2
      unfold tourbillonref04_item.f
      repeat' first
      | (with_reducible exact ih0 _ _ _)
      | (with_reducible exact ih1 _ _ _ _ _ _ _ _ _ _ _ _)
      | (with_reducible exact ih2 _ _ _ _ _ _ _ _ _ _ _ _ _)
      | (with_reducible exact LeO.refl _)
      | (with_reducible exact LeO.none _)
      | (with_reducible refine LeO.ite ?_ ?_)
      | (with_reducible refine LeO.bind ?_ (fun _ => ?_))
      | exact ih0 _ _ _
      | exact ih1 _ _ _ _ _ _ _ _ _ _ _ _
      | exact ih2 _ _ _ _ _ _ _ _ _ _ _ _ _
      | exact LeO.none _
      | refine LeO.ite ?_ ?_
      | refine LeO.bind ?_ (fun _ => ?_)
    · intro y0 y1 y2 y3 y4 y5 y6 y7 y8 y9 y10 y11
      unfold tourbillonref04_item.l0
      repeat' first
      | (with_reducible exact ih0 _ _ _)
      | (with_reducible exact ih1 _ _ _ _ _ _ _ _ _ _ _ _)
      | (with_reducible exact ih2 _ _ _ _ _ _ _ _ _ _ _ _ _)
      | (with_reducible exact LeO.refl _)
      | (with_reducible exact LeO.none _)
      | (with_reducible refine LeO.ite ?_ ?_)
      | (with_reducible refine LeO.bind ?_ (fun _ => ?_))
      | exact ih0 _ _ _
      | exact ih1 _ _ _ _ _ _ _ _ _ _ _ _
      | exact ih2 _ _ _ _ _ _ _ _ _ _ _ _ _
      | exact LeO.none _
      | refine LeO.ite ?_ ?_
      | refine LeO.bind ?_ (fun _ => ?_)
    · intro y0 y1 y2 y3 y4 y5 y6 y7 y8 y9 y10 y11 y12
      unfold tourbillonref04_item.j1
      repeat' first
      | (with_reducible exact ih0 _ _ _)
      | (with_reducible exact ih1 _ _ _ _ _ _ _ _ _ _ _ _)
      | (with_reducible exact ih2 _ _ _ _ _ _ _ _ _ _ _ _ _)
      | (with_reducible exact LeO.refl _)
      | (with_reducible exact LeO.none _)
      | (with_reducible refine LeO.ite ?_ ?_)
      | (with_reducible refine LeO.bind ?_ (fun _ => ?_))
      | exact ih0 _ _ _
      | exact ih1 _ _ _ _ _ _ _ _ _ _ _ _
      | exact ih2 _ _ _ _ _ _ _ _ _ _ _ _ _
      | exact LeO.none _
      | refine LeO.ite ?_ ?_
      | refine LeO.bind ?_ (fun _ => ?_)
theorem tourbillonref04_item.mono : ∀ a0 a1 a2 k, LeO (tourbillonref04_item.f k a0 a1 a2) (tourbillonref04_item.f (k + 1) a0 a1 a2) := by
  intro a0 a1 a2 k
  obtain ⟨ih0, ih1, ih2⟩ := tourbillonref04_item.mono_l k
  exact ih0 a0 a1 a2
theorem blk_new1 (w : World) (o1 o2 : Obj) : ((w.alloc o1).alloc o2).heap[w.heap.size + 1]? = some o2 := by have := blk_new (w.alloc o1) o2; simpa using this
theorem blk_new2 (w : World) (o1 o2 o3 : Obj) : (((w.alloc o1).alloc o2).alloc o3).heap[w.heap.size + 2]? = some o3 := by have := blk_new1 (w.alloc o1) o2 o3; simpa using this
theorem blk_new3 (w : World) (o1 o2 o3 o4 : Obj) : ((((w.alloc o1).alloc o2).alloc o3).alloc o4).heap[w.heap.size + 3]? = some o4 := by have := blk_new2 (w.alloc o1) o2 o3 o4; simpa using this
structure TellsItem (r1 : ByteArray) (r2 : List S52) (r3 : Bool) (r4 r5 r6 r7 r8 r9 : Int) (w : World) (e : Ending) (w' : World) : Prop where mk ::
  (out : ∃ v1_ : Value, e = .returned (.tuple #[.agg #[.string r1, v1_, .bool r3, .int .i64 r4, .int .i64 r5], .int .i64 r6, .agg #[.int .i64 r7, .int .i64 r8, .int .i64 r9]]) ∧ Kd.R k52 52 w' w.heap.size (fun _ => True) v1_ r2 ∧ Below w.heap.size w w')
set_option maxRecDepth 100000 in
set_option maxHeartbeats 4000000 in
theorem item_atom (w : World) (A0 : Option Addr) (c0 : Nat) (l0 : List S40) (a1 a2 : Int) (hr0 : Kd.C k40 w A0 l0.length l0) (h0 : 0 ≤ a1) (h1 : a1 < (l0.length : Int)) (h3 : (rd_T40 l0 a1).f0 = 3) :
    Calls Tryd.prog 33 #[.slice A0 l0.length c0, .int .i64 a1, .int .i64 a2] w (TellsItem (rd_T40 l0 a1).f1 [] false (rd_T40 l0 a1).f2.f0 (rd_T40 l0 a1).f2.f1 (wrap64 (a1 + 1)) 0 0 0 w) := by
  obtain ⟨ad, eA, x0, x1, x2, x3⟩ := at_T40 hr0 a1 h0 h1
  subst eA
  rw [h3] at x0
  obtain ⟨t, ht⟩ : ∃ t, t = rd_T40 l0 a1 := ⟨_, rfl⟩
  rw [← ht] at x1 x2 x3 ⊢
  have y0 := World.block_lt_of_cell? _ _ x0
  have y1 := World.block_lt_of_cell? _ _ x1
  have d1 : decide (0 ≤ a1) = true := decide_eq_true h0
  have d2 : decide (a1 < (l0.length : Int)) = true := decide_eq_true h1
  clear hr0 h3 ht
  go_enter Tryd.func33, Tryd.ntmps33
  go_wp2
  refine bodyPost_ret (results_list (rs := [.cell 6 52, .tmp 7, .cell 8 47]) rfl (by simp) (.cell w.heap.size 52 #[.string t.f1, .slice none 0 0, .bool false, .int .i64 t.f2.f0, .int .i64 t.f2.f1] (0, 0) _ rfl (blk_alloc (blk_alloc (blk_new w _) _) _) Tryd.underlying52 rfl (by kernel_rfl) (.tmp (.cell (w.heap.size + 1) 47 #[.int .i64 0, .int .i64 0, .int .i64 0] (0, 0) _ rfl (blk_alloc (blk_new1 w _ _) _) Tryd.underlying47 rfl (by kernel_rfl) .nil)))) rfl ?_
  exact ⟨_, rfl, Kd.R_nil _ _ _ _ _, below_alloc (below_alloc (below_alloc (Below.refl _ _) _) _) _⟩
set_option maxRecDepth 100000 in
set_option maxHeartbeats 4000000 in
theorem item_deep (w : World) (A0 : Option Addr) (c0 : Nat) (l0 : List S40) (a1 : Int) (hr0 : Kd.C k40 w A0 l0.length l0) (h0 : 0 ≤ a1) (h1 : a1 < (l0.length : Int)) (h3 : (rd_T40 l0 a1).f0 ≠ 3) :
    Calls Tryd.prog 33 #[.slice A0 l0.length c0, .int .i64 a1, .int .i64 64] w (TellsItem ⟨#[]⟩ [] false 0 0 0 (rd_T40 l0 a1).f2.f0 (rd_T40 l0 a1).f2.f1 8 w) := by
  obtain ⟨ad, eA, x0, x1, x2, x3⟩ := at_T40 hr0 a1 h0 h1
  subst eA
  obtain ⟨t, ht⟩ : ∃ t, t = rd_T40 l0 a1 := ⟨_, rfl⟩
  rw [← ht] at x0 x1 x2 x3 h3 ⊢
  have y0 := World.block_lt_of_cell? _ _ x0
  have y1 := World.block_lt_of_cell? _ _ x1
  have d1 : decide (0 ≤ a1) = true := decide_eq_true h0
  have d2 : decide (a1 < (l0.length : Int)) = true := decide_eq_true h1
  have d3 : (t.f0 == 3) = false := by simpa using h3
  clear hr0 h3 ht
  go_enter Tryd.func33, Tryd.ntmps33
  go_wp2
  go_region
  all_goals go_wp2
  all_goals refine bodyPost_ret (results_list (rs := [.cell 6 52, .tmp 7, .cell 8 47]) rfl (by simp) (.cell w.heap.size 52 #[.string ⟨#[]⟩, .slice none 0 0, .bool false, .int .i64 0, .int .i64 0] (0, 0) _ rfl (blk_drew (blk_alloc (blk_alloc (blk_new w _) _) _)) Tryd.underlying52 rfl (by kernel_rfl) (.tmp (.cell (w.heap.size + 1) 47 #[.int .i64 t.f2.f0, .int .i64 t.f2.f1, .int .i64 8] (0, 0) _ rfl (blk_drew (blk_alloc (blk_new1 w _ _) _)) Tryd.underlying47 rfl (by kernel_rfl) .nil)))) rfl ?_
  all_goals exact ⟨_, rfl, Kd.R_nil _ _ _ _ _, below_drew1 (below_alloc (below_alloc (below_alloc (Below.refl _ _) _) _) _)⟩
/-- The results' two blocks written. -/
def put8 (W : World) (N : Nat) (u0 u1 u2 u3 u4 z0 z1 z2 : Value) : World := (((((((W.setCell ⟨N, 0, none⟩ u0).setCell ⟨N, 1, none⟩ u1).setCell ⟨N, 2, none⟩ u2).setCell ⟨N, 3, none⟩ u3).setCell ⟨N, 4, none⟩ u4).setCell ⟨N + 1, 0, none⟩ z0).setCell ⟨N + 1, 1, none⟩ z1).setCell ⟨N + 1, 2, none⟩ z2
theorem put8_says {w W : World} {a0 a1 a2 a3 a4 b0 b1 b2 u0 u1 u2 u3 u4 z0 z1 z2 v : Value} {xs : List S52} (h6 : W.heap[w.heap.size]? = some (.cells #[a0, a1, a2, a3, a4] 52 (0, 0))) (h8 : W.heap[w.heap.size + 1]? = some (.cells #[b0, b1, b2] 47 (0, 0)))
    (hR : Kd.R k52 52 W w.heap.size (fun k => w.heap.size + 4 ≤ k) v xs) (hB : Below w.heap.size w W) :
    (put8 W w.heap.size u0 u1 u2 u3 u4 z0 z1 z2).heap[w.heap.size]? = some (.cells #[u0, u1, u2, u3, u4] 52 (0, 0)) ∧ (put8 W w.heap.size u0 u1 u2 u3 u4 z0 z1 z2).heap[w.heap.size + 1]? = some (.cells #[z0, z1, z2] 47 (0, 0)) ∧
    Kd.R k52 52 (put8 W w.heap.size u0 u1 u2 u3 u4 z0 z1 z2) w.heap.size (fun _ => True) v xs ∧ Below w.heap.size w (put8 W w.heap.size u0 u1 u2 u3 u4 z0 z1 z2) := by
  have far : ∀ (X : World) (j : Nat) (u : Value) (o : Obj), X.heap[w.heap.size]? = some o → (X.setCell ⟨w.heap.size + 1, j, none⟩ u).heap[w.heap.size]? = some o := fun X j u o h => (Below.heap_setCell X ⟨w.heap.size + 1, j, none⟩ u w.heap.size (by simp)).trans h
  have far2 : ∀ (X : World) (j : Nat) (u : Value) (o : Obj), X.heap[w.heap.size + 1]? = some o → (X.setCell ⟨w.heap.size, j, none⟩ u).heap[w.heap.size + 1]? = some o := fun X j u o h => (Below.heap_setCell X ⟨w.heap.size, j, none⟩ u (w.heap.size + 1) (by simp)).trans h
  have rf : ∀ (X : World) (g j : Nat) (u : Value), g < w.heap.size + 4 → Kd.R k52 52 X w.heap.size (fun k => w.heap.size + 4 ≤ k) v xs → Kd.R k52 52 (X.setCell ⟨g, j, none⟩ u) w.heap.size (fun k => w.heap.size + 4 ≤ k) v xs := fun X g j u hg h => Kd.R_far h (p := ⟨g, j, none⟩) (fun k hk => Nat.ne_of_gt (Nat.lt_of_lt_of_le hg hk)) u
  refine ⟨?_, ?_, ?_, ?_⟩
  · exact far _ _ _ _ (far _ _ _ _ (far _ _ _ _ (blk_put (blk_put (blk_put (blk_put (blk_put h6 0 u0 rfl) 1 u1 rfl) 2 u2 rfl) 3 u3 rfl) 4 u4 rfl)))
  · exact blk_put (blk_put (blk_put (far2 _ _ _ _ (far2 _ _ _ _ (far2 _ _ _ _ (far2 _ _ _ _ (far2 _ _ _ _ h8))))) 0 z0 rfl) 1 z1 rfl) 2 z2 rfl
  · exact Kd.R_mono (rf _ _ _ _ (by omega) (rf _ _ _ _ (by omega) (rf _ _ _ _ (by omega) (rf _ _ _ _ (by omega) (rf _ _ _ _ (by omega) (rf _ _ _ _ (by omega) (rf _ _ _ _ (by omega) (rf _ _ _ _ (by omega) hR)))))))) (fun _ _ => trivial)
  · exact below_set (below_set (below_set (below_set (below_set (below_set (below_set (below_set hB (Nat.le_refl _)) (Nat.le_refl _)) (Nat.le_refl _)) (Nat.le_refl _)) (Nat.le_refl _)) (Nat.le_succ _)) (Nat.le_succ _)) (Nat.le_succ _)
set_option maxRecDepth 100000 in
set_option maxHeartbeats 4000000 in
theorem item_list (k : Nat) (ih : ∀ m, m < k + 1 → ∀ (A0 : Option Addr) (c0 : Nat) (l0 : List S40) (a1 a2 : Int) (r1 : ByteArray) (r2 : List S52) (r3 : Bool) (r4 r5 r6 r7 r8 r9 : Int) (w : World), Kd.C k40 w A0 l0.length l0 → l0.length ≤ c0 → tourbillonref04_item.f m l0 a1 a2 = some (r1, r2, r3, r4, r5, r6, r7, r8, r9) → Calls Tryd.prog 33 #[.slice A0 l0.length c0, .int .i64 a1, .int .i64 a2] w (TellsItem r1 r2 r3 r4 r5 r6 r7 r8 r9 w))
    (w : World) (A0 : Option Addr) (c0 : Nat) (l0 : List S40) (a1 a2 : Int) (r1 : ByteArray) (r2 : List S52) (r3 : Bool) (r4 r5 r6 r7 r8 r9 : Int) (hr0 : Kd.C k40 w A0 l0.length l0) (hc0 : l0.length ≤ c0) (h0 : 0 ≤ a1) (h1 : a1 < (l0.length : Int)) (h3 : (rd_T40 l0 a1).f0 ≠ 3) (h64 : a2 ≠ 64)
    (h : tourbillonref04_item.l0 k l0 a2 (wrap64 (a1 + 1)) (rd_T40 l0 a1).f0 (rd_T40 l0 a1).f1 (rd_T40 l0 a1).f2.f0 (rd_T40 l0 a1).f2.f1 ⟨#[]⟩ [] true (rd_T40 l0 a1).f2.f0 (rd_T40 l0 a1).f2.f1 = some (r1, r2, r3, r4, r5, r6, r7, r8, r9)) :
    Calls Tryd.prog 33 #[.slice A0 l0.length c0, .int .i64 a1, .int .i64 a2] w (TellsItem r1 r2 r3 r4 r5 r6 r7 r8 r9 w) := by
  obtain ⟨ad, eA, x0, x1, x2, x3⟩ := at_T40 hr0 a1 h0 h1
  obtain ⟨t, ht⟩ : ∃ t, t = rd_T40 l0 a1 := ⟨_, rfl⟩
  rw [← ht] at x0 x1 x2 x3 h3 h
  subst eA
  have y0 := World.block_lt_of_cell? _ _ x0
  have y1 := World.block_lt_of_cell? _ _ x1
  have d1 : decide (0 ≤ a1) = true := decide_eq_true h0
  have d2 : decide (a1 < (l0.length : Int)) = true := decide_eq_true h1
  have d3 : (t.f0 == 3) = false := by simpa using h3
  have d4 : (a2 == 64) = false := by simpa using h64
  have HC := Lib.hid hr0
  have HCC := Lib.hid hc0
  have H := Lib.hid h
  have IH := Lib.hid ih
  clear hr0 hc0 h3 ht h64 h ih
  go_enter Tryd.func33, Tryd.ntmps33
  go_wp2
  obtain ⟨W1, hW1⟩ : ∃ W1, W1 = (((w.alloc (.cells #[.string ⟨#[]⟩, .slice none 0 0, .bool false, .int .i64 0, .int .i64 0] 52)).alloc (.cells #[.int .i64 0, .int .i64 0, .int .i64 0] 47)).alloc (.cells #[.int .i64 t.f0, .string t.f1, .int .i64 t.f2.f0, .int .i64 t.f2.f1] 40)).alloc (.cells #[.string ⟨#[]⟩, .slice none 0 0, .bool true, .int .i64 t.f2.f0, .int .i64 t.f2.f1] 52) := ⟨_, rfl⟩
  have B6 : Hid (W1.heap[w.heap.size]? = some (.cells #[.string ⟨#[]⟩, .slice none 0 0, .bool false, .int .i64 0, .int .i64 0] 52 (0, 0))) := by rw [hW1]; exact Lib.hid (blk_alloc (blk_alloc (blk_alloc (blk_new w _) _) _) _)
  have B8 : Hid (W1.heap[w.heap.size + 1]? = some (.cells #[.int .i64 0, .int .i64 0, .int .i64 0] 47 (0, 0))) := by rw [hW1]; exact Lib.hid (blk_alloc (blk_alloc (blk_new1 w _ _) _) _)
  have B9 : Hid (W1.heap[w.heap.size + 1 + 1]? = some (.cells #[.int .i64 t.f0, .string t.f1, .int .i64 t.f2.f0, .int .i64 t.f2.f1] 40 (0, 0))) := by rw [hW1]; exact Lib.hid (blk_alloc (blk_new2 w _ _ _) _)
  have B10 : Hid (W1.heap[w.heap.size + 1 + 1 + 1]? = some (.cells #[.string ⟨#[]⟩, .slice none 0 0, .bool true, .int .i64 t.f2.f0, .int .i64 t.f2.f1] 52 (0, 0))) := by rw [hW1]; exact Lib.hid (blk_new3 w _ _ _ _)
  have HBl : Hid (Below w.heap.size w W1) := by rw [hW1]; exact Lib.hid (below_alloc (below_alloc (below_alloc (below_alloc (Below.refl _ _) _) _) _) _)
  have HZ : Hid (w.heap.size + 4 ≤ W1.heap.size) := by rw [hW1]; exact Lib.hid (by simp)
  have HRn : Hid (Kd.R k52 52 W1 w.heap.size (fun k => w.heap.size + 4 ≤ k) (.slice none 0 0) []) := Lib.hid (Kd.R_nil _ _ _ _ _)
  rw [← hW1]
  clear hW1 x0 x1 x2 x3
  go_loopg [11] k (fun kq v11 wr => ∃ (x11 : Int) (xs : List S52) (v : Value), v11 = .int .i64 x11 ∧ Hid (tourbillonref04_item.l0 kq l0 a2 x11 t.f0 t.f1 t.f2.f0 t.f2.f1 ⟨#[]⟩ xs true t.f2.f0 t.f2.f1 = some (r1, r2, r3, r4, r5, r6, r7, r8, r9)) ∧ Hid (kq ≤ k) ∧ Hid (wr.heap[w.heap.size]? = some (.cells #[.string ⟨#[]⟩, .slice none 0 0, .bool false, .int .i64 0, .int .i64 0] 52 (0, 0))) ∧ Hid (wr.heap[w.heap.size + 1]? = some (.cells #[.int .i64 0, .int .i64 0, .int .i64 0] 47 (0, 0))) ∧ Hid (wr.heap[w.heap.size + 1 + 1]? = some (.cells #[.int .i64 t.f0, .string t.f1, .int .i64 t.f2.f0, .int .i64 t.f2.f1] 40 (0, 0))) ∧ Hid (wr.heap[w.heap.size + 1 + 1 + 1]? = some (.cells #[.string ⟨#[]⟩, v, .bool true, .int .i64 t.f2.f0, .int .i64 t.f2.f1] 52 (0, 0))) ∧ Hid (Kd.R k52 52 wr w.heap.size (fun k => w.heap.size + 4 ≤ k) v xs) ∧ Hid (Below w.heap.size w wr) ∧ Hid (w.heap.size + 4 ≤ wr.heap.size))
  case atStart => exact ⟨_, [], _, rfl, H, Lib.hid (Nat.le_refl _), B6, B8, B9, B10, HRn, HBl, HZ⟩
  case round =>
    clear H B6 B8 B9 B10 HBl HZ HRn
    obtain ⟨x11, xs, v, rfl, HA, HK, B6, B8, B9, B10, HR, HB, HZ⟩ := hrel
    obtain ⟨Av, cv, rfl⟩ := Kd.R_slice HR.out
    cases gk with
    | zero => exact absurd HA.out (by simp [tourbillonref04_item.l0])
    | succ kj =>
      have hA := HA.out
      clear HA
      simp only [tourbillonref04_item.l0] at hA
      have f60 := blk_frozen B6.out 0
      have f61 := blk_frozen B6.out 1
      have f62 := blk_frozen B6.out 2
      have f63 := blk_frozen B6.out 3
      have f64 := blk_frozen B6.out 4
      have f80 := blk_frozen B8.out 0
      have f81 := blk_frozen B8.out 1
      have f82 := blk_frozen B8.out 2
      have c60 := (blk_cell B6.out 0).trans rfl
      have c61 := (blk_cell B6.out 1).trans rfl
      have c62 := (blk_cell B6.out 2).trans rfl
      have c63 := (blk_cell B6.out 3).trans rfl
      have c64 := (blk_cell B6.out 4).trans rfl
      have c80 := (blk_cell B8.out 0).trans rfl
      have c81 := (blk_cell B8.out 1).trans rfl
      have c82 := (blk_cell B8.out 2).trans rfl
      have c92 := (blk_cell B9.out 2).trans rfl
      have c93 := (blk_cell B9.out 3).trans rfl
      have e0 := (blk_cell B10.out 0).trans rfl
      have e1 := (blk_cell B10.out 1).trans rfl
      have e2 := (blk_cell B10.out 2).trans rfl
      have e3 := (blk_cell B10.out 3).trans rfl
      have e4 := (blk_cell B10.out 4).trans rfl
      by_cases hlt : x11 < (l0.length : Int)
      · have d5 : decide (x11 < (l0.length : Int)) = true := decide_eq_true hlt
        rw [if_pos hlt] at hA
        by_cases hx0 : 0 ≤ x11
        · rw [if_pos hx0] at hA
          have d7 : decide (0 ≤ x11) = true := decide_eq_true hx0
          obtain ⟨ad', eA, z0, z1, z2, z3⟩ := at_T40 (Kd.C_below HC.out HB.out) x11 hx0 hlt
          cases eA
          clear z1 z2 z3
          by_cases h2 : (rd_T40 l0 x11).f0 = 2
          · rw [h2] at z0 hA
            cases kj with
            | zero => exact absurd hA (by simp [tourbillonref04_item.j1])
            | succ kj =>
              simp only [tourbillonref04_item.j1] at hA
              rw [if_neg (by decide), if_neg (by omega)] at hA
              have d6 : (x11 == (l0.length : Int)) = false := by simp; omega
              simp only [Option.some.injEq, Prod.mk.injEq] at hA
              obtain ⟨rfl, rfl, rfl, rfl, rfl, rfl, rfl, rfl, rfl⟩ := hA
              clear h2
              replace hlt := eq_true hlt
              replace hx0 := eq_true hx0
              go_wp2
              obtain ⟨g6, g8, gR, gB⟩ := put8_says (u0 := .string ⟨#[]⟩) (u1 := .slice Av xs.length cv) (u2 := .bool true) (u3 := .int .i64 t.f2.f0) (u4 := .int .i64 t.f2.f1) (z0 := .int .i64 0) (z1 := .int .i64 0) (z2 := .int .i64 0) B6.out B8.out HR.out HB.out
              refine bodyPost_ret (results_list (rs := [.cell 6 52, .tmp 7, .cell 8 47]) rfl (by simp) (.cell w.heap.size 52 #[.string ⟨#[]⟩, .slice Av xs.length cv, .bool true, .int .i64 t.f2.f0, .int .i64 t.f2.f1] (0, 0) _ rfl g6 Tryd.underlying52 rfl (by kernel_rfl) (.tmp (.cell (w.heap.size + 1) 47 #[.int .i64 0, .int .i64 0, .int .i64 0] (0, 0) _ rfl g8 Tryd.underlying47 rfl (by kernel_rfl) .nil)))) rfl ?_
              exact ⟨_, rfl, gR, gB⟩
          · have d8 : ((rd_T40 l0 x11).f0 != 2) = true := by simpa using h2
            rw [d8] at hA
            cases kj with
            | zero => exact absurd hA (by simp [tourbillonref04_item.j1])
            | succ kj =>
              simp only [tourbillonref04_item.j1] at hA
              rw [if_pos trivial] at hA
              obtain ⟨⟨s1, s2, s3, s4, s5, n6, b7, b8, b9⟩, hbt, hA⟩ := Option.bind_eq_some_iff.1 hA
              have hkj : kj + 1 + 1 ≤ k := HK.out
              have hc := Lib.hid (fun (W : World) (hb : Below wr.heap.size wr W) => IH.out kj (by omega) (some ad) c0 l0 x11 (wrap64 (a2 + 1)) s1 s2 s3 s4 s5 n6 b7 b8 b9 W (Kd.C_below (Kd.C_below HC.out HB.out) hb) HCC.out hbt)
              obtain ⟨tk, htk⟩ : ∃ tk, tk = (rd_T40 l0 x11).f0 := ⟨_, rfl⟩
              rw [← htk] at z0 d8
              clear htk h2 hbt f60 f61 f62 f63 f64 f80 f81 f82 c60 c61 c62 c63 c64 c80 c81 c82 c92 c93 e0 e1 e2 e3 e4
              replace hlt := eq_true hlt
              replace hx0 := eq_true hx0
              simp only at hA
              by_cases h9 : b9 = 0
              · rw [if_pos h9] at hA
                subst h9
                by_cases hxl : xs.length < 2199023255552
                · rw [if_pos hxl] at hA
                  have HA2 := Lib.hid hA
                  have HK2 : Hid (kj ≤ k) := Lib.hid (by omega)
                  have HX := Lib.hid hxl
                  clear hA hxl
                  go_wp2_with (first | (go_at_call 33; refine (hc.out _ (Below.refl _ _)).mono ?_; rintro e w2 ⟨v1_, rfl, hR1, hb2⟩; obtain ⟨A5, c5, rfl⟩ := Kd.R_slice hR1; have C6 := blk_below B6.out hb2; have C8 := blk_below B8.out hb2; have C9 := blk_below B9.out hb2; have C10 := blk_below B10.out hb2; have hZ2 := Nat.le_trans HZ.out hb2.size; have L0 : w.heap.size < w2.heap.size := (by omega); have L1 : w.heap.size + 1 < w2.heap.size := (by omega); have L3 : w.heap.size + 1 + 1 + 1 < w2.heap.size := (by omega); have L2 : w.heap.size + 1 + 1 < w2.heap.size := (by omega); have L00 : w.heap.size ≤ w2.heap.size := (by omega); have e1 := (blk_cell C10 1).trans rfl; replace C6 := Lib.hid C6; replace C8 := Lib.hid C8; replace C9 := Lib.hid C9; replace C10 := Lib.hid C10; replace hR1 := Lib.hid hR1; replace hb2 := Lib.hid hb2) | ((with_reducible refine gate_builtin (b := .append) (xs := #[.tmp 68, .tmp 70]) rfl ?_); at_builtin; refine Kd.R_append k52 (w0 := w) w.heap.size rfl (.tmp 68) (.tmp 70) 23 52 (.agg #[(.string ⟨#[]⟩), (.slice none 0 0), (.bool false), (.int .i64 0), (.int .i64 0)]) 64 rfl Tryd.underlying23 info52 rfl (by decide) (by decide) (.slice Av xs.length cv) xs ⟨s1, s2, s3, ⟨s4, s5⟩⟩ [.string s1, .slice A5 s2.length c5, .bool s3, .int .i64 s4, .int .i64 s5] (fun k => w.heap.size + 4 ≤ k) (fun k => wr.heap.size ≤ k) rfl ?aX ?aM ?aK ?aF ?aO ?aB ?aS ?aL ?_; (case aX => (show Value.slice (some ⟨w2.heap.size + 1 + 1, 0, none⟩) 1 1 = _; simp)); (case aM => exact k52_mkM _ _ _ ⟨s1, s2, s3, ⟨s4, s5⟩⟩ (Kd.R_alloc (Kd.R_alloc (Kd.R_lower (Kd.R_mono (Kd.R_bound hR1.out) (fun _ hk => hk.2.1)) HB.out.size) _) _)); (case aK => exact fun k hk => ⟨Nat.le_trans HZ.out hk, fun e => Nat.lt_irrefl _ (Nat.lt_of_lt_of_le (Kd.R_lt HR.out k e.symm) hk)⟩); (case aF => (intro k hk; simp at hk; omega)); (case aO => exact Kd.R_alloc (Kd.R_alloc (Kd.R_below HR.out hb2.out) _) _); (case aB => exact below_alloc (below_alloc (below_step HB.out hb2.out) _) _); (case aS => (simp; omega)); (case aL => (have := HX.out; omega)); intro v3 w3 hR3 hB3 hG3 hat3; obtain ⟨A7, c7, ev⟩ := Kd.R_slice hR3; rw [List.length_append] at ev; have ev2 : v3 = .slice A7 (xs.length + 1) c7 := ev; clear ev; subst ev2; have hN : ∀ g, g < w.heap.size + 4 → some g ≠ (Value.slice Av xs.length cv).ownBlock := (fun g hg e => Nat.lt_irrefl _ (Nat.lt_of_lt_of_le hg (HR.out.1 g e.symm))); have D6 := blk_grown (blk_alloc (blk_alloc C6.out _) _) hG3 (hN _ (by omega)); have D8 := blk_grown (blk_alloc (blk_alloc C8.out _) _) hG3 (hN _ (by omega)); have D9 := blk_grown (blk_alloc (blk_alloc C9.out _) _) hG3 (hN _ (by omega)); have D10 := blk_grown (blk_alloc (blk_alloc C10.out _) _) hG3 (hN _ (by omega)); have hs3 := Lib.hid hG3.size; have f10 := blk_frozen D10 1; have m1 := (blk_cell D10 1).trans rfl; replace D6 := Lib.hid D6; replace D8 := Lib.hid D8; replace D9 := Lib.hid D9; replace D10 := Lib.hid D10; replace hR3 := Lib.hid hR3; replace hB3 := Lib.hid hB3; clear hG3 hat3 hN))
                  go_roundg kj
                  case measure => omega
                  case rel => exact ⟨n6, xs ++ [⟨s1, s2, s3, ⟨s4, s5⟩⟩], .slice A7 (xs.length + 1) c7, rfl, HA2, HK2, Lib.hid ((Below.heap_setCell w3 ⟨w.heap.size + 1 + 1 + 1, 1, none⟩ (.slice A7 (xs.length + 1) c7) w.heap.size (by simp; omega)).trans D6.out), Lib.hid ((Below.heap_setCell w3 ⟨w.heap.size + 1 + 1 + 1, 1, none⟩ (.slice A7 (xs.length + 1) c7) (w.heap.size + 1) (by simp)).trans D8.out), Lib.hid ((Below.heap_setCell w3 ⟨w.heap.size + 1 + 1 + 1, 1, none⟩ (.slice A7 (xs.length + 1) c7) (w.heap.size + 1 + 1) (by simp)).trans D9.out), Lib.hid (blk_put D10.out 1 (.slice A7 (xs.length + 1) c7) rfl), Lib.hid (Kd.R_far hR3.out (p := ⟨w.heap.size + 1 + 1 + 1, 1, none⟩) (fun k hk => by show k ≠ w.heap.size + 1 + 1 + 1; omega) (.slice A7 (xs.length + 1) c7)), Lib.hid (below_set hB3.out (by omega)), Lib.hid (by have := hs3.out; simp at this ⊢; omega)⟩
                · rw [if_neg hxl] at hA; cases hA
              · rw [if_neg h9] at hA
                have d9 : (b9 == 0) = false := by simpa using h9
                have d10 : (b9 != 0) = true := by simpa using h9
                simp only [Option.some.injEq, Prod.mk.injEq] at hA
                obtain ⟨rfl, rfl, rfl, rfl, rfl, rfl, rfl, rfl, rfl⟩ := hA
                clear h9
                go_wp2_with (go_at_call 33; refine (hc.out _ (Below.refl _ _)).mono ?_; rintro e w2 ⟨v1_, rfl, hR1, hb2⟩; obtain ⟨A5, c5, rfl⟩ := Kd.R_slice hR1; have C6 := blk_below B6.out hb2; have C8 := blk_below B8.out hb2; have C10 := blk_below B10.out hb2; have hZ2 := Nat.le_trans HZ.out hb2.size; have L0 : w.heap.size < w2.heap.size := (by omega); have L1 : w.heap.size + 1 < w2.heap.size := (by omega); have L3 : w.heap.size + 1 + 1 + 1 < w2.heap.size := (by omega); have L2 : w.heap.size + 1 + 1 < w2.heap.size := (by omega); have L00 : w.heap.size ≤ w2.heap.size := (by omega); have f60 := blk_frozen C6 0; have f61 := blk_frozen C6 1; have f62 := blk_frozen C6 2; have f63 := blk_frozen C6 3; have f64 := blk_frozen C6 4; have f80 := blk_frozen C8 0; have f81 := blk_frozen C8 1; have f82 := blk_frozen C8 2; have c60 := (blk_cell C6 0).trans rfl; have c61 := (blk_cell C6 1).trans rfl; have c62 := (blk_cell C6 2).trans rfl; have c63 := (blk_cell C6 3).trans rfl; have c64 := (blk_cell C6 4).trans rfl; have c80 := (blk_cell C8 0).trans rfl; have c81 := (blk_cell C8 1).trans rfl; have c82 := (blk_cell C8 2).trans rfl; have e0 := (blk_cell C10 0).trans rfl; have e1 := (blk_cell C10 1).trans rfl; have e2 := (blk_cell C10 2).trans rfl; have e3 := (blk_cell C10 3).trans rfl; have e4 := (blk_cell C10 4).trans rfl; replace C6 := Lib.hid C6; replace C8 := Lib.hid C8; clear C10 hR1; replace hb2 := Lib.hid hb2)
                go_region
                all_goals go_wp2
                obtain ⟨g6, g8, gR, gB⟩ := put8_says (u0 := .string ⟨#[]⟩) (u1 := .slice Av xs.length cv) (u2 := .bool true) (u3 := .int .i64 t.f2.f0) (u4 := .int .i64 t.f2.f1) (z0 := .int .i64 b7) (z1 := .int .i64 b8) (z2 := .int .i64 b9) C6.out C8.out (Kd.R_below HR.out hb2.out) (below_step HB.out hb2.out)
                refine bodyPost_ret (results_list (rs := [.cell 6 52, .tmp 7, .cell 8 47]) rfl (by simp) (.cell w.heap.size 52 #[.string ⟨#[]⟩, .slice Av xs.length cv, .bool true, .int .i64 t.f2.f0, .int .i64 t.f2.f1] (0, 0) _ rfl (blk_drew (blk_alloc (blk_alloc g6 _) _)) Tryd.underlying52 rfl (by kernel_rfl) (.tmp (.cell (w.heap.size + 1) 47 #[.int .i64 b7, .int .i64 b8, .int .i64 b9] (0, 0) _ rfl (blk_drew (blk_alloc (blk_alloc g8 _) _)) Tryd.underlying47 rfl (by kernel_rfl) .nil)))) rfl ?_
                exact ⟨_, rfl, Kd.R_drewN (Kd.R_alloc (Kd.R_alloc gR _) _) 1, below_drew1 (below_alloc (below_alloc gB _) _)⟩
        · rw [if_neg hx0] at hA; cases hA
      · rw [if_neg hlt] at hA
        have d5 : decide (x11 < (l0.length : Int)) = false := decide_eq_false hlt
        cases kj with
        | zero => exact absurd hA (by simp [tourbillonref04_item.j1])
        | succ kj =>
          simp only [tourbillonref04_item.j1] at hA
          rw [if_neg (by decide)] at hA
          by_cases he : x11 = (l0.length : Int)
          · rw [if_pos he] at hA
            have d6 : (x11 == (l0.length : Int)) = true := by simpa using he
            simp only [Option.some.injEq, Prod.mk.injEq] at hA
            obtain ⟨rfl, rfl, rfl, rfl, rfl, rfl, rfl, rfl, rfl⟩ := hA
            clear he hlt
            go_wp2
            go_region
            all_goals go_wp2
            obtain ⟨g6, g8, gR, gB⟩ := put8_says (u0 := .string ⟨#[]⟩) (u1 := .slice Av xs.length cv) (u2 := .bool true) (u3 := .int .i64 t.f2.f0) (u4 := .int .i64 t.f2.f1) (z0 := .int .i64 t.f2.f0) (z1 := .int .i64 t.f2.f1) (z2 := .int .i64 4) B6.out B8.out HR.out HB.out
            refine bodyPost_ret (results_list (rs := [.cell 6 52, .tmp 7, .cell 8 47]) rfl (by simp) (.cell w.heap.size 52 #[.string ⟨#[]⟩, .slice Av xs.length cv, .bool true, .int .i64 t.f2.f0, .int .i64 t.f2.f1] (0, 0) _ rfl (blk_drew g6) Tryd.underlying52 rfl (by kernel_rfl) (.tmp (.cell (w.heap.size + 1) 47 #[.int .i64 t.f2.f0, .int .i64 t.f2.f1, .int .i64 4] (0, 0) _ rfl (blk_drew g8) Tryd.underlying47 rfl (by kernel_rfl) .nil)))) rfl ?_
            exact ⟨_, rfl, Kd.R_drewN gR 1, below_drew1 gB⟩
          · rw [if_neg he] at hA
            have d6 : (x11 == (l0.length : Int)) = false := by simpa using he
            simp only [Option.some.injEq, Prod.mk.injEq] at hA
            obtain ⟨rfl, rfl, rfl, rfl, rfl, rfl, rfl, rfl, rfl⟩ := hA
            clear he hlt
            go_wp2
            obtain ⟨g6, g8, gR, gB⟩ := put8_says (u0 := .string ⟨#[]⟩) (u1 := .slice Av xs.length cv) (u2 := .bool true) (u3 := .int .i64 t.f2.f0) (u4 := .int .i64 t.f2.f1) (z0 := .int .i64 0) (z1 := .int .i64 0) (z2 := .int .i64 0) B6.out B8.out HR.out HB.out
            refine bodyPost_ret (results_list (rs := [.cell 6 52, .tmp 7, .cell 8 47]) rfl (by simp) (.cell w.heap.size 52 #[.string ⟨#[]⟩, .slice Av xs.length cv, .bool true, .int .i64 t.f2.f0, .int .i64 t.f2.f1] (0, 0) _ rfl g6 Tryd.underlying52 rfl (by kernel_rfl) (.tmp (.cell (w.heap.size + 1) 47 #[.int .i64 0, .int .i64 0, .int .i64 0] (0, 0) _ rfl g8 Tryd.underlying47 rfl (by kernel_rfl) .nil)))) rfl ?_
            exact ⟨_, rfl, gR, gB⟩
set_option maxRecDepth 100000 in
theorem tourbillonref04_item.calls (k : Nat) : ∀ (A0 : Option Addr) (c0 : Nat) (l0 : List (S40)) (a1 : Int) (a2 : Int) (r1 : ByteArray) (r2 : List (S52)) (r3 : Bool) (r4 : Int) (r5 : Int) (r6 : Int) (r7 : Int) (r8 : Int) (r9 : Int) (w : World) (hr0 : Kd.C k40 w A0 l0.length l0) (hc0 : l0.length ≤ c0) (h : tourbillonref04_item.f k l0 a1 a2 = some (r1, r2, r3, r4, r5, r6, r7, r8, r9)),
    Calls Tryd.prog 33 #[.slice A0 l0.length c0, .int .i64 a1, .int .i64 a2] w fun e w' => ∃ v1_ : Value, e = .returned (.tuple #[.agg #[.string r1, v1_, .bool r3, .int .i64 r4, .int .i64 r5], .int .i64 r6, .agg #[.int .i64 r7, .int .i64 r8, .int .i64 r9]]) ∧ Kd.R k52 52 w' w.heap.size (fun _ => True) v1_ r2 ∧ Below w.heap.size w w' := by
  induction k using Nat.strongRecOn with
  | _ k ih =>
  intro A0 c0 l0 a1 a2 r1 r2 r3 r4 r5 r6 r7 r8 r9 w hr0 hc0 h
  cases k with
  | zero => exact absurd h (by simp [tourbillonref04_item.f])
  | succ k =>
  simp only [tourbillonref04_item.f] at h
  by_cases h0 : 0 ≤ a1
  · rw [if_pos h0] at h
    by_cases h1 : a1 < (l0.length : Int)
    · rw [if_pos h1] at h
      by_cases h3 : (rd_T40 l0 a1).f0 = 3
      · rw [if_pos h3] at h
        simp only [Option.some.injEq, Prod.mk.injEq] at h
        obtain ⟨rfl, rfl, rfl, rfl, rfl, rfl, rfl, rfl, rfl⟩ := h
        exact (item_atom w A0 c0 l0 a1 a2 hr0 h0 h1 h3).mono fun e w' h => h.out
      · rw [if_neg h3] at h
        by_cases h64 : a2 = 64
        · rw [if_pos h64] at h
          simp only [Option.some.injEq, Prod.mk.injEq] at h
          obtain ⟨rfl, rfl, rfl, rfl, rfl, rfl, rfl, rfl, rfl⟩ := h
          subst h64
          exact (item_deep w A0 c0 l0 a1 hr0 h0 h1 h3).mono fun e w' h => h.out
        · rw [if_neg h64] at h
          exact (item_list k (fun m hm A0 c0 l0 a1 a2 r1 r2 r3 r4 r5 r6 r7 r8 r9 w x y z => (ih m hm A0 c0 l0 a1 a2 r1 r2 r3 r4 r5 r6 r7 r8 r9 w x y z).mono fun e w' h => ⟨h⟩) w A0 c0 l0 a1 a2 r1 r2 r3 r4 r5 r6 r7 r8 r9 hr0 hc0 h0 h1 h3 h64 h).mono fun e w' h => h.out
    · rw [if_neg h1] at h; cases h
  · rw [if_neg h0] at h; cases h
end Go.Proofs.YtlggmdlbhndacaaDoor.Lx
