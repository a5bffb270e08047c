import Derived.Test.YtlggmdlbhndacaaDoorItemV
import Derived.Test.YtlggmdlbhndacaaDoorSameV
import Derived.StillTailTactics
/- SexpIs walked: it answers true at every text. -/
namespace Go.Proofs.YtlggmdlbhndacaaDoor.Lx.WalkSIs
open Go.RowKit Go.Proofs.YtlggmdlbhndacaaDoorW.PrintWords Go.Proofs.YtlggmdlbhndacaaDoorW.PrintLast Go.Proofs.YtlggmdlbhndacaaDoorW.PrintMore Line LexV Mach SexpP PV BackP ItemV SameV Go.Proofs.YtlggmdlbhndacaaDoor.Lx.Text

set_option maxRecDepth 100000 in
set_option maxHeartbeats 4000000 in
theorem sis_long (s : ByteArray) (w : World) (h : 2048 < s.size) : Calls Tryd.prog 10 #[.string s] w fun e w' => e = .returned (.bool true) ∧ Below w.heap.size w w' := by
  go_enter Tryd.func10, Tryd.ntmps10
  go_wp2_with (go_at_call 13; refine (alive4_calls _).mono ?_; rintro e w1 ⟨rfl, hb⟩)
  go_ret
  exact ⟨rfl, hb⟩
set_option maxRecDepth 100000 in
set_option maxHeartbeats 4000000 in
theorem sis_in (s : ByteArray) (w : World) (h : s.size ≤ 2048) (X : List S52) (p1 p2 er : Int) (hp : parseV s.data.toList = (X, p1, p2, er)) (hX : partsL X ≤ 2048) : Calls Tryd.prog 10 #[.string s] w fun e w' => e = .returned (.bool true) ∧ Below w.heap.size w w' := by
  have c1 := Lib.hid (fun w => parse_callsC s hp w)
  have c2 := Lib.hid (fun w => rparse_calls s (by omega) hp w)
  have hx : X.length ≤ 2048 := Nat.le_trans (partsL_len X) hX
  have HX := Lib.hid hX
  have h' : ¬ 2048 < s.size := by omega
  clear hp hX
  go_enter Tryd.func10, Tryd.ntmps10
  go_wp2_with (first | (go_at_call 13; refine (alive4_calls _).mono ?_; rintro e w1 ⟨rfl, hb1⟩; replace hb1 := Lib.hid hb1) | (go_at_call 14; refine (c1.out _).mono ?_; rintro e w2 ⟨A1, d1, rfl, hC1, hl1, hb2⟩; replace hC1 := Lib.hid hC1; replace hl1 := Lib.hid hl1; replace hb2 := Lib.hid hb2) | (go_at_call 20; refine (c2.out _).mono ?_; rintro e w3 ⟨A2, d2, rfl, hC2, hl2, hb3⟩; obtain ⟨k0, k1, hz⟩ := Use.kept hb3; replace hC2 := Lib.hid hC2; replace hl2 := Lib.hid hl2; replace hb3 := Lib.hid hb3))
  obtain ⟨W0, hW0⟩ : ∃ W0, W0 = w3.alloc (.cells #[.int .i64 p1, .int .i64 p2, .int .i64 er] 47) := ⟨_, rfl⟩
  have HC1 : Hid (k52.C W0 A1 X.length X) := by rw [hW0]; exact Lib.hid (Kd.C_alloc (Kd.C_below (Kd.C_alloc hC1.out _) hb3.out) _)
  have HC2 : Hid (k52.C W0 A2 X.length X) := by rw [hW0]; exact Lib.hid (Kd.C_alloc hC2.out _)
  have HB0 : Hid (Below w.heap.size w W0) := by rw [hW0]; exact Lib.hid (below_alloc (below_step (below_alloc (below_step hb1.out hb2.out) _) hb3.out) _)
  rw [← hW0]
  clear hW0 hb1 hb2 hb3 hC1 hC2 c1 c2 k0 k1 hz hl1 hl2
  have HE : Hid (Below W0.heap.size W0 W0) := Lib.hid (Below.refl _ _)
  go_loopw [44] (fun i wr => ∃ k : Nat, k ≤ X.length ∧ i = .int .i64 k ∧ Hid (Below W0.heap.size W0 wr)) (fun i _ => X.length - (intOf i).toNat)
  case atStart => exact ⟨0, Nat.zero_le _, rfl, HE⟩
  case round =>
    clear HE
    obtain ⟨k, hk, rfl, HB⟩ := hrel
    by_cases hlt : k < X.length
    · obtain ⟨x, hx'⟩ : ∃ x, x = X[k] := ⟨_, rfl⟩
      obtain ⟨ad, B1, c1, ex, x0, x1, x2, x3, x4, hl5, hC5⟩ := at_T52 (Kd.C_below HC1.out HB.out) (k : Int) (by omega) (by omega)
      obtain ⟨ad2, B2, c2, ey, y0, y1, y2, y3, y4, hl6, hC6⟩ := at_T52 (Kd.C_below HC2.out HB.out) (k : Int) (by omega) (by omega)
      rw [rd52 X k hlt, ← hx'] at x0 x1 x2 x3 x4 hC5 hl5 y0 y1 y2 y3 y4 hC6 hl6
      cases ex
      cases ey
      simp only [Int.toNat_natCast] at x0 x1 x2 x3 x4 y0 y1 y2 y3 y4
      have hpx : parts x ≤ 1073741824 := by have := partsL_mem X x (by rw [hx']; exact List.getElem_mem hlt); have := HX.out; omega
      have hc := Lib.hid (fun (W : World) (hb : Below wr.heap.size wr W) => same_calls true x x hpx ⟨rfl, fun _ => rfl⟩ B1 B2 c1 c2 W (Kd.C_below hC5 hb) hl5 (Kd.C_below hC6 hb) hl6)
      clear hx' hC5 hl5 hC6 hl6 hpx
      go_wp2
      go_still_tail 8, (by kernel_rfl)
      change wpList _ _ _ _ _ wr.drew
      go_wp2_with (go_at_call 21; refine (hc.out _ (below_drew1 (Below.refl _ _))).mono ?_; rintro e w4 ⟨rfl, h4⟩; replace h4 := Lib.hid h4)
      go_roundw
      case rel => exact ⟨k + 1, by omega, by go_num, Lib.hid (below_step (below_drew1 HB.out) h4.out)⟩
      case measure => simp [intOf]; omega
    · go_wp2
      go_ret
      exact ⟨rfl, below_step HB0.out HB.out⟩
theorem sis_all (s : ByteArray) (w : World) : Calls Tryd.prog 10 #[.string s] w fun e w' => e = .returned (.bool true) ∧ Below w.heap.size w w' := by
  by_cases h : 2048 < s.size
  · exact sis_long s w h
  · obtain ⟨⟨X, p1, p2, er⟩, hp⟩ : ∃ x, parseV s.data.toList = x := ⟨_, rfl⟩
    refine sis_in s w (by omega) X p1 p2 er hp ?_
    by_cases he : er = 0
    · subst he
      have := parse_parts hp
      have hsz : s.data.toList.length = s.size := rfl
      omega
    · have hX : X = [] := by
        unfold parseV at hp
        rcases lexV_or s.data.toList with ⟨n, c, e, hl, he'⟩ | ⟨ts, h1, hl, h3⟩
        · rw [hl] at hp
          have he2 : e ≠ 0 := by rcases he' with rfl | rfl <;> decide
          simp only [if_neg he2, Prod.mk.injEq] at hp
          exact hp.1.symm
        · rw [hl] at hp
          simp only [if_true] at hp
          cases hm : mrun (tks ts) [] [] with
          | ok xs => rw [hm] at hp; simp only [resV, Prod.mk.injEq] at hp; exact absurd hp.2.2.2.symm he
          | bad p e => rw [hm] at hp; simp only [resV, Prod.mk.injEq] at hp; exact hp.1.symm
      rw [hX]; simp [partsL]
end Go.Proofs.YtlggmdlbhndacaaDoor.Lx.WalkSIs
