import Derived.Test.YtlggmdlbhndacaaDoorBackP
import Derived.Test.YtlggmdlbhndacaaDoorWalkJoins
/- SexpJoins walked: it answers true at every pair of texts. -/
namespace Go.Proofs.YtlggmdlbhndacaaDoor.Lx.WalkSJoins
open Go.RowKit Go.Proofs.YtlggmdlbhndacaaDoorW.PrintWords Go.Proofs.YtlggmdlbhndacaaDoorW.PrintLast Go.Proofs.YtlggmdlbhndacaaDoorW.PrintMore Line LexV Mach SexpP PV BackP Go.Proofs.YtlggmdlbhndacaaDoor.Lx.Text Go.Proofs.YtlggmdlbhndacaaDoor.Lx.One
open WalkJoins (lex_join bytes_join)

theorem ret_bool {b : Bool} (h : b = true) : Ending.returned (.bool b) = .returned (.bool true) := by rw [h]
theorem parse_join {a b : List UInt8} {X Y : List S52} {p1 p2 q1 q2 : Int} (ha : parseV a = (X, p1, p2, 0)) (hb : parseV b = (Y, q1, q2, 0)) (hl : a.length + b.length ≤ 4096) :
    ∃ Z, parseV (a ++ 10 :: b) = (Z, 0, 0, 0) ∧ Z.length = X.length + Y.length ∧ txtAll Z = txtAll X ++ txtAll Y := by
  obtain ⟨ts, h1, h2, _⟩ := parse_of ha
  obtain ⟨us, h3, h4, _⟩ := parse_of hb
  have hj := lex_join a b
  rw [h1, h3] at hj
  obtain ⟨vs, hv⟩ : ∃ vs, vs = us.map fun p => (p.1 + (cut a).length, p.2) := ⟨_, rfl⟩
  have hj' : lex (a ++ 10 :: b) = .ok (ts ++ vs) := by rw [hj, hv]
  have hk : (tks us).map kt = (tks vs).map kt := by rw [tks_kt, tks_kt, hv, List.map_map]; rfl
  obtain ⟨Z, h5, h6⟩ := mrun_like hk h4
  have h7 : mrun (tks (ts ++ vs)) [] [] = .ok (X ++ Z) := by
    rw [show tks (ts ++ vs) = tks ts ++ tks vs by simp [tks], mrun_join _ _ _ _ _ h2]
    have := mrun_pre X (tks vs) [] []
    rw [List.append_nil, h5] at this
    exact this
  exact ⟨X ++ Z, parse_to hj' h7 (by simp; omega), by rw [List.length_append, like_len h6], by rw [txtAll_append, like_txt h6]⟩
set_option maxRecDepth 100000 in
set_option maxHeartbeats 4000000 in
theorem sjoins_far (a b : ByteArray) (w : World) (h : 1024 < a.size ∨ 1024 < b.size) : Calls Tryd.prog 4 #[.string a, .string b] w fun e w' => e = .returned (.bool true) ∧ Below w.heap.size w w' := by
  by_cases h1 : 1024 < a.size
  · clear h
    go_enter Tryd.func4, Tryd.ntmps4
    go_wp2_with (go_at_call 13; refine (alive4_calls _).mono ?_; rintro e w1 ⟨rfl, hb⟩)
    go_ret
    exact ⟨rfl, hb⟩
  · have h2 : 1024 < b.size := by omega
    clear h
    go_enter Tryd.func4, Tryd.ntmps4
    go_wp2_with (go_at_call 13; refine (alive4_calls _).mono ?_; rintro e w1 ⟨rfl, hb⟩)
    go_ret
    exact ⟨rfl, hb⟩
set_option maxRecDepth 100000 in
set_option maxHeartbeats 4000000 in
theorem sjoins_bad (a b : ByteArray) (w : World) (ha : a.size ≤ 1024) (hb : b.size ≤ 1024) (Xa Xb Xz : List S52) (p1 p2 e1 q1 q2 e2 r1 r2 e3 : Int)
    (h1 : parseV a.data.toList = (Xa, p1, p2, e1)) (h2 : parseV b.data.toList = (Xb, q1, q2, e2)) (h3 : parseV (a ++ (⟨#[10]⟩ : ByteArray) ++ b).data.toList = (Xz, r1, r2, e3)) (he : e1 ≠ 0 ∨ e1 = 0 ∧ e2 ≠ 0) :
    Calls Tryd.prog 4 #[.string a, .string b] w fun e w' => e = .returned (.bool true) ∧ Below w.heap.size w w' := by
  have c1 := Lib.hid (fun w => parse_callsC a h1 w)
  have c2 := Lib.hid (fun w => parse_callsC b h2 w)
  have c3 := Lib.hid (fun w => parse_callsC _ h3 w)
  have n1 : ¬ 1024 < a.size := by omega
  have n2 : ¬ 1024 < b.size := by omega
  have k1 : (a ++ (⟨#[10]⟩ : ByteArray)).size = a.size + 1 := by rw [ByteArray.size_append]; rfl
  have k2 : ((a ++ (⟨#[10]⟩ : ByteArray)) ++ b).size = a.size + 1 + b.size := by rw [ByteArray.size_append, k1]
  clear h1 h2 h3
  rcases he with he | ⟨rfl, he⟩
  · have g1 : (e1 == 0) = false := by simpa using he
    have g2 : (e1 != 0) = true := by simpa using he
    clear he
    go_enter Tryd.func4, Tryd.ntmps4
    go_wp2_with (first | (go_at_call 13; refine (alive4_calls _).mono ?_; rintro e w1 ⟨rfl, hb1⟩; replace hb1 := Lib.hid hb1) | (go_at_call 14; (with_reducible refine (c1.out _).mono ?_); rintro e w2 ⟨A1, d1, rfl, hC1, hl1, hb2⟩; clear hC1 hl1; replace hb2 := Lib.hid hb2) | (go_at_call 14; (with_reducible refine (c2.out _).mono ?_); rintro e w3 ⟨A2, d2, rfl, hC2, hl2, hb3⟩; clear hC2 hl2; replace hb3 := Lib.hid hb3) | (go_at_call 14; (with_reducible refine (c3.out _).mono ?_); rintro e w4 ⟨A3, d3, rfl, hC3, hl3, hb4⟩; clear hC3 hl3; replace hb4 := Lib.hid hb4))
    go_ret
    exact ⟨rfl, below_alloc (below_step (below_alloc (below_step (below_alloc (below_step hb1.out hb2.out) _) hb3.out) _) hb4.out) _⟩
  · have g1 : (e2 == 0) = false := by simpa using he
    have g2 : (e2 != 0) = true := by simpa using he
    clear he
    go_enter Tryd.func4, Tryd.ntmps4
    go_wp2_with (first | (go_at_call 13; refine (alive4_calls _).mono ?_; rintro e w1 ⟨rfl, hb1⟩; replace hb1 := Lib.hid hb1) | (go_at_call 14; (with_reducible refine (c1.out _).mono ?_); rintro e w2 ⟨A1, d1, rfl, hC1, hl1, hb2⟩; clear hC1 hl1; replace hb2 := Lib.hid hb2) | (go_at_call 14; (with_reducible refine (c2.out _).mono ?_); rintro e w3 ⟨A2, d2, rfl, hC2, hl2, hb3⟩; clear hC2 hl2; replace hb3 := Lib.hid hb3) | (go_at_call 14; (with_reducible refine (c3.out _).mono ?_); rintro e w4 ⟨A3, d3, rfl, hC3, hl3, hb4⟩; clear hC3 hl3; replace hb4 := Lib.hid hb4))
    go_ret
    exact ⟨rfl, below_alloc (below_step (below_alloc (below_step (below_alloc (below_step hb1.out hb2.out) _) hb3.out) _) hb4.out) _⟩
set_option maxRecDepth 100000 in
set_option maxHeartbeats 4000000 in
theorem sjoins_ok (a b : ByteArray) (w : World) (ha : a.size ≤ 1024) (hb : b.size ≤ 1024) (Xa Xb Xz : List S52) (p1 p2 q1 q2 : Int)
    (h1 : parseV a.data.toList = (Xa, p1, p2, 0)) (h2 : parseV b.data.toList = (Xb, q1, q2, 0)) (h3 : parseV (a ++ (⟨#[10]⟩ : ByteArray) ++ b).data.toList = (Xz, 0, 0, 0))
    (hlen : Xz.length = Xa.length + Xb.length) (htx : txtAll Xz = txtAll Xa ++ txtAll Xb) (hba : (txtAll Xa).length ≤ 67584) (hbb : (txtAll Xb).length ≤ 67584) :
    Calls Tryd.prog 4 #[.string a, .string b] w fun e w' => e = .returned (.bool true) ∧ Below w.heap.size w w' := by
  have c1 := Lib.hid (fun w => parse_callsC a h1 w)
  have c2 := Lib.hid (fun w => parse_callsC b h2 w)
  have c3 := Lib.hid (fun w => parse_callsC _ h3 w)
  have t1 := Lib.hid (fun (w : World) (A : Option Addr) (c : Nat) (hC : k52.C w A Xa.length Xa) => text_calls w A c Xa hC (by omega))
  have t2 := Lib.hid (fun (w : World) (A : Option Addr) (c : Nat) (hC : k52.C w A Xb.length Xb) => text_calls w A c Xb hC (by omega))
  have t3 := Lib.hid (fun (w : World) (A : Option Addr) (c : Nat) (hC : k52.C w A Xz.length Xz) => text_calls w A c Xz hC (by rw [htx, List.length_append]; omega))
  have n1 : ¬ 1024 < a.size := by omega
  have n2 : ¬ 1024 < b.size := by omega
  have k1 : (a ++ (⟨#[10]⟩ : ByteArray)).size = a.size + 1 := by rw [ByteArray.size_append]; rfl
  have k2 : ((a ++ (⟨#[10]⟩ : ByteArray)) ++ b).size = a.size + 1 + b.size := by rw [ByteArray.size_append, k1]
  have la : Xa.length ≤ 67584 := Nat.le_trans (txtAll_ge Xa) hba
  have lb : Xb.length ≤ 67584 := Nat.le_trans (txtAll_ge Xb) hbb
  have g1 : ((Xz.length : Int) = (Xa.length : Int) + (Xb.length : Int)) = True := eq_true (by omega)
  have HX := Lib.hid htx
  have s1 : (txtAll Xa).length + (txtAll Xb).length ≤ 140737488355328 := by omega
  clear h1 h2 h3 htx hlen
  go_enter Tryd.func4, Tryd.ntmps4
  go_wp2_with (first | (go_at_call 13; refine (alive4_calls _).mono ?_; rintro e w1 ⟨rfl, hb1⟩; replace hb1 := Lib.hid hb1) | (go_at_call 14; (with_reducible refine (c1.out _).mono ?_); rintro e w2 ⟨A1, d1, rfl, hC1, hl1, hb2⟩; clear hl1; replace hC1 := Lib.hid hC1; replace hb2 := Lib.hid hb2) | (go_at_call 14; (with_reducible refine (c2.out _).mono ?_); rintro e w3 ⟨A2, d2, rfl, hC2, hl2, hb3⟩; clear hl2; replace hC1 := Lib.hid (Kd.C_below (Kd.C_alloc hC1.out _) hb3); replace hC2 := Lib.hid hC2; replace hb3 := Lib.hid hb3) | (go_at_call 14; (with_reducible refine (c3.out _).mono ?_); rintro e w4 ⟨A3, d3, rfl, hC3, hl3, hb4⟩; clear hl3; replace hC1 := Lib.hid (Kd.C_alloc (Kd.C_below (Kd.C_alloc hC1.out _) hb4) (.cells #[.int .i64 0, .int .i64 0] 25)); replace hC2 := Lib.hid (Kd.C_alloc (Kd.C_below (Kd.C_alloc hC2.out _) hb4) (.cells #[.int .i64 0, .int .i64 0] 25)); replace hC3 := Lib.hid (Kd.C_alloc hC3 (.cells #[.int .i64 0, .int .i64 0] 25)); replace hb4 := Lib.hid hb4) | (go_at_call 15; (with_reducible refine (t3.out _ _ _ hC3.out).mono ?_); rintro e w5 ⟨rfl, hb5⟩; replace hC1 := Lib.hid (Kd.C_below hC1.out hb5); replace hC2 := Lib.hid (Kd.C_below hC2.out hb5); clear hC3; replace hb5 := Lib.hid hb5) | (go_at_call 15; (with_reducible refine (t1.out _ _ _ hC1.out).mono ?_); rintro e w6 ⟨rfl, hb6⟩; replace hC2 := Lib.hid (Kd.C_below hC2.out hb6); clear hC1; replace hb6 := Lib.hid hb6) | (go_at_call 15; (with_reducible refine (t2.out _ _ _ hC2.out).mono ?_); rintro e w7 ⟨rfl, hb7⟩; clear hC2; replace hb7 := Lib.hid hb7))
  go_ret
  have e1 := of_eq_true g1
  have e2 : txtAll Xz = ((⟨(txtAll Xa).toArray⟩ : ByteArray) ++ ⟨(txtAll Xb).toArray⟩).toList := by rw [HX.out, ByteArray.toList_eq, ba_append]
  refine ⟨ret_bool (by rw [e1, ← e2]; simp), ?_⟩
  exact below_step (below_step (below_step (below_alloc (below_step (below_alloc (below_step (below_alloc (below_step hb1.out hb2.out) _) hb3.out) _) hb4.out) _) hb5.out) hb6.out) hb7.out
theorem sjoins_all (a b : ByteArray) (w : World) : Calls Tryd.prog 4 #[.string a, .string b] w fun e w' => e = .returned (.bool true) ∧ Below w.heap.size w w' := by
  by_cases h : 1024 < a.size ∨ 1024 < b.size
  · exact sjoins_far a b w h
  have ha : a.size ≤ 1024 := by omega
  have hb : b.size ≤ 1024 := by omega
  have sa : a.data.toList.length = a.size := rfl
  have sb : b.data.toList.length = b.size := rfl
  obtain ⟨⟨Xa, p1, p2, e1⟩, h1⟩ : ∃ x, parseV a.data.toList = x := ⟨_, rfl⟩
  obtain ⟨⟨Xb, q1, q2, e2⟩, h2⟩ : ∃ x, parseV b.data.toList = x := ⟨_, rfl⟩
  by_cases he : e1 ≠ 0 ∨ e1 = 0 ∧ e2 ≠ 0
  · obtain ⟨⟨Xz, r1, r2, e3⟩, h3⟩ : ∃ x, parseV (a ++ (⟨#[10]⟩ : ByteArray) ++ b).data.toList = x := ⟨_, rfl⟩
    exact sjoins_bad a b w ha hb _ _ _ _ _ _ _ _ _ _ _ _ h1 h2 h3 he
  · obtain rfl : e1 = 0 := by omega
    obtain rfl : e2 = 0 := by omega
    obtain ⟨Z, h3, h4, h5⟩ := parse_join h1 h2 (by omega)
    have b1 := txt_bound h1
    have b2 := txt_bound h2
    exact sjoins_ok a b w ha hb _ _ Z _ _ _ _ h1 h2 (by rw [bytes_join]; exact h3) h4 h5 (by omega) (by omega)
end Go.Proofs.YtlggmdlbhndacaaDoor.Lx.WalkSJoins
