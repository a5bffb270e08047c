import Derived.Test.YtlggmdlbhndacaaDoorSameV
import Derived.StillTailTactics
/- SexpBack walked: it answers true at every text. -/
namespace Go.Proofs.YtlggmdlbhndacaaDoor.Lx.WalkSBack
open Go.RowKit Go.Proofs.YtlggmdlbhndacaaDoorW.PrintWords Go.Proofs.YtlggmdlbhndacaaDoorW.PrintLast Go.Proofs.YtlggmdlbhndacaaDoorW.PrintMore Line LexV Mach SexpP PV BackP SameV Go.Proofs.YtlggmdlbhndacaaDoor.Lx.Text Go.Proofs.YtlggmdlbhndacaaDoor.Lx.One

set_option maxRecDepth 100000 in
set_option maxHeartbeats 4000000 in
theorem sback_long (s : ByteArray) (w : World) (h : 2048 < s.size) : Calls Tryd.prog 11 #[.string s] w fun e w' => e = .returned (.bool true) ∧ Below w.heap.size w w' := by
  go_enter Tryd.func11, Tryd.ntmps11
  go_wp2_with (go_at_call 13; refine (alive4_calls _).mono ?_; rintro e w1 ⟨rfl, hb⟩)
  go_ret
  exact ⟨rfl, hb⟩
set_option maxRecDepth 100000 in
set_option maxHeartbeats 4000000 in
theorem sback_bad (s : ByteArray) (w : World) (h : s.size ≤ 2048) (X : List S52) (p1 p2 er : Int) (hp : parseV s.data.toList = (X, p1, p2, er)) (he : er ≠ 0) : Calls Tryd.prog 11 #[.string s] w fun e w' => e = .returned (.bool true) ∧ Below w.heap.size w w' := by
  have c1 := Lib.hid (fun w => parse_callsC s hp w)
  have h' : ¬ 2048 < s.size := by omega
  have g1 : (er == 0) = false := by simpa using he
  have g2 : (er != 0) = true := by simpa using he
  clear hp he
  go_enter Tryd.func11, Tryd.ntmps11
  go_wp2_with (first | (go_at_call 13; refine (alive4_calls _).mono ?_; rintro e w1 ⟨rfl, hb1⟩; replace hb1 := Lib.hid hb1) | (go_at_call 14; refine (c1.out _).mono ?_; rintro e w2 ⟨A1, d1, rfl, hC1, hl1, hb2⟩; clear hC1 hl1; replace hb2 := Lib.hid hb2))
  go_ret
  exact ⟨rfl, below_alloc (below_step hb1.out hb2.out) _⟩
/-- Parse's answer, its length told otherwise. -/
structure TellsN (n : Nat) (X : List S52) (w : World) (e : Ending) (w' : World) : Prop where mk ::
  (out : ∃ A c, e = .returned (.tuple #[.slice A n c, .agg #[.int .i64 0, .int .i64 0], .int .i64 0]) ∧ k52.C w' A n X ∧ n ≤ c ∧ Below w.heap.size w w')
theorem parse_callsN (s : ByteArray) {X : List S52} (h : parseV s.data.toList = (X, 0, 0, 0)) (n : Nat) (hn : X.length = n) (w : World) : Calls Tryd.prog 14 #[.string s] w (TellsN n X w) := by
  subst hn
  exact (parse_callsC s h w).mono fun e w' ⟨A, c, h1, h2, h3, h4⟩ => ⟨A, c, h1, h2, h3, h4⟩
theorem text_callsN (w : World) (A : Option Addr) (c n : Nat) (Y : List S52) (T : List UInt8) (hT : txtAll Y = T) (hn : Y.length = n) (hC : k52.C w A n Y) (hl : T.length ≤ 140737488355328) : Calls Tryd.prog 15 #[.slice A n c] w (TellsStr T w) := by
  subst hn; subst hT
  exact text_calls w A c Y hC hl
set_option maxRecDepth 100000 in
set_option maxHeartbeats 4000000 in
theorem sback_in (s : ByteArray) (w : World) (h : s.size ≤ 2048) (X Y : List S52) (p1 p2 : Int) (T : List UInt8) (hp : parseV s.data.toList = (X, p1, p2, 0)) (hX : partsL X ≤ 2048) (hT : txtAll X = T) (hq : parseV T = (Y, 0, 0, 0)) (hY : eraL Y = eraL X) (hl : T.length ≤ 67584) :
    Calls Tryd.prog 11 #[.string s] w fun e w' => e = .returned (.bool true) ∧ Below w.heap.size w w' := by
  have hlen := like_len hY
  have c1 := Lib.hid (fun w => parse_callsC s hp w)
  have c2 := Lib.hid (fun w => parse_callsN ⟨T.toArray⟩ (by simpa using hq) X.length hlen w)
  have t1 := Lib.hid (fun (w : World) (A : Option Addr) (c : Nat) (hC : k52.C w A X.length X) => text_callsN w A c X.length X T hT rfl hC (by omega))
  have t2 := Lib.hid (fun (w : World) (A : Option Addr) (c : Nat) (hC : k52.C w A X.length Y) => text_callsN w A c X.length Y T ((like_txt hY).trans hT) hlen hC (by omega))
  have t3 : Hid (∀ (w : World) (A : Option Addr) (c : Nat) (hC : k52.C w A X.length X), Calls Tryd.prog 22 #[.slice A X.length c] w (TellsStr T w)) := Lib.hid (fun w A c hC => by rw [← hT]; exact rtext_calls w A c X hC (by rw [hT]; omega))
  have hx : X.length ≤ 2048 := Nat.le_trans (partsL_len X) hX
  have HX := Lib.hid hX
  have HY := Lib.hid hY
  have HL := Lib.hid hlen
  have h' : ¬ 2048 < s.size := by omega
  clear hp hX hT hq hY hlen hl
  go_enter Tryd.func11, Tryd.ntmps11
  go_wp2_with (first | (go_at_call 13; refine (alive4_calls _).mono ?_; rintro e w1 ⟨rfl, hb1⟩; replace hb1 := Lib.hid hb1) | (go_at_call 14; (with_reducible refine (c1.out _).mono ?_); rintro e w2 ⟨A1, d1, rfl, hC1, hl1, hb2⟩; replace hC1 := Lib.hid (Kd.C_alloc hC1 (.cells #[.int .i64 p1, .int .i64 p2] 25)); replace hl1 := Lib.hid hl1; replace hb2 := Lib.hid hb2) | (go_at_call 15; (with_reducible refine (t1.out _ _ _ hC1.out).mono ?_); rintro e w3 ⟨rfl, hb3⟩; replace hC1 := Lib.hid (Kd.C_below hC1.out hb3); replace hb3 := Lib.hid hb3) | (go_at_call 14; (with_reducible refine (c2.out _).mono ?_); rintro e w4 ⟨A2, d2, rfl, hC2, hl2, hb4⟩; replace hC1 := Lib.hid (Kd.C_alloc (Kd.C_below hC1.out hb4) (.cells #[.int .i64 0, .int .i64 0] 25)); replace hC2 := Lib.hid (Kd.C_alloc hC2 (.cells #[.int .i64 0, .int .i64 0] 25)); replace hl2 := Lib.hid hl2; replace hb4 := Lib.hid hb4) | (go_at_call 22; (with_reducible refine (t3.out _ _ _ hC1.out).mono ?_); rintro e w5 ⟨rfl, hb5⟩; replace hC1 := Lib.hid (Kd.C_below hC1.out hb5); replace hC2 := Lib.hid (Kd.C_below hC2.out hb5); replace hb5 := Lib.hid hb5) | (go_at_call 15; (with_reducible refine (t2.out _ _ _ hC2.out).mono ?_); rintro e w6 ⟨rfl, hb6⟩; replace hC1 := Lib.hid (Kd.C_below hC1.out hb6); replace hC2 := Lib.hid (Kd.C_below hC2.out hb6); replace hb6 := Lib.hid hb6))
  have HC1 : Hid (k52.C w6 A1 X.length X) := hC1
  have HC2 : Hid (k52.C w6 A2 X.length Y) := hC2
  have HB0 : Hid (Below w.heap.size w w6) := Lib.hid (below_step (below_step (below_alloc (below_step (below_step (below_alloc (below_step hb1.out hb2.out) _) hb3.out) hb4.out) _) hb5.out) hb6.out)
  clear hb1 hb2 hb3 hb4 hb5 hb6 hC1 hC2 c1 c2 t1 t2 t3 hl1 hl2
  have HE : Hid (Below w6.heap.size w6 w6) := Lib.hid (Below.refl _ _)
  go_loopw [55] (fun i wr => ∃ k : Nat, k ≤ X.length ∧ i = .int .i64 k ∧ Hid (Below w6.heap.size w6 wr)) (fun i _ => X.length - (intOf i).toNat)
  case atStart => exact ⟨0, Nat.zero_le _, rfl, HE⟩
  case round =>
    clear HE
    obtain ⟨k, hk, rfl, HB⟩ := hrel
    by_cases hlt : k < X.length
    · have hlt2 : k < Y.length := by have := HL.out; omega
      obtain ⟨x, hx'⟩ : ∃ x, x = X[k] := ⟨_, rfl⟩
      obtain ⟨y, hy'⟩ : ∃ y, y = Y[k] := ⟨_, rfl⟩
      obtain ⟨ad, B1, c1, ex, x0, x1, x2, x3, x4, hl5, hC5⟩ := at_T52 (Kd.C_below HC1.out HB.out) (k : Int) (by omega) (by omega)
      obtain ⟨ad2, B2, c2, ey, y0, y1, y2, y3, y4, hl6, hC6⟩ := at_T52 (Kd.C_below HC2.out HB.out) (k : Int) (by omega) (by omega)
      rw [rd52 X k hlt, ← hx'] at x0 x1 x2 x3 x4 hC5 hl5
      rw [rd52 Y k hlt2, ← hy'] at y0 y1 y2 y3 y4 hC6 hl6
      cases ex
      cases ey
      simp only [Int.toNat_natCast] at x0 x1 x2 x3 x4 y0 y1 y2 y3 y4
      have hpx : parts x ≤ 1073741824 := by have := partsL_mem X x (by rw [hx']; exact List.getElem_mem hlt); have := HX.out; omega
      have hal : SameV.Alike false x y := ⟨by rw [hx', hy']; exact eraL_get HY.out.symm k hlt hlt2, fun h => by cases h⟩
      have hc := Lib.hid (fun (W : World) (hb : Below wr.heap.size wr W) => same_calls false x y hpx hal B1 B2 c1 c2 W (Kd.C_below hC5 hb) hl5 (Kd.C_below hC6 hb) hl6)
      clear hx' hy' hC5 hl5 hC6 hl6 hpx hal hlt2
      go_wp2
      go_still_tail 8, (by kernel_rfl)
      change wpList _ _ _ _ _ wr.drew
      go_wp2_with (go_at_call 21; refine (hc.out _ (below_drew1 (Below.refl _ _))).mono ?_; rintro e w7 ⟨rfl, h4⟩; replace h4 := Lib.hid h4)
      go_roundw
      case rel => exact ⟨k + 1, by omega, by go_num, Lib.hid (below_step (below_drew1 HB.out) h4.out)⟩
      case measure => simp [intOf]; omega
    · go_wp2
      go_ret
      exact ⟨rfl, below_step HB0.out HB.out⟩
theorem sback_all (s : ByteArray) (w : World) : Calls Tryd.prog 11 #[.string s] w fun e w' => e = .returned (.bool true) ∧ Below w.heap.size w w' := by
  by_cases h : 2048 < s.size
  · exact sback_long s w h
  · obtain ⟨⟨X, p1, p2, er⟩, hp⟩ : ∃ x, parseV s.data.toList = x := ⟨_, rfl⟩
    by_cases he : er = 0
    · subst he
      have hsz : s.data.toList.length = s.size := rfl
      obtain ⟨Y, hq, hY⟩ := parse_back hp (by omega)
      have h1 := parse_parts hp
      have h2 := txt_bound hp
      exact sback_in s w (by omega) X Y p1 p2 (txtAll X) hp (by omega) rfl hq hY (by omega)
    · exact sback_bad s w (by omega) X p1 p2 er hp he
end Go.Proofs.YtlggmdlbhndacaaDoor.Lx.WalkSBack
