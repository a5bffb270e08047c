import Derived.Test.YtlggmdlbhndacaaDoorRefV
import Derived.Lib.Hide
/- The contracts of lex.Lex and of the reference's Lex by their told answers; what every law of layer 3 asks first. -/
namespace Go.Proofs.YtlggmdlbhndacaaDoor.Lx.Use
open Go.RowKit Go.Proofs.YtlggmdlbhndacaaDoorW.PrintWords Line LexV RefV

/-- A post of a call that tells a list of tokens (behind a name: the walk does not take it apart). -/
structure TellsLex (L : List S39) (p1 p2 er : Int) (w : World) (e : Ending) (w' : World) : Prop where mk ::
  (out : ∃ A c, e = .returned (.tuple #[.slice A L.length c, .agg #[.int .i64 p1, .int .i64 p2], .int .i64 er]) ∧ Kd.C k39 w' A L.length L ∧ L.length ≤ c ∧ Below w.heap.size w w')
structure TellsRef (L : List S40) (p1 p2 : Int) (w : World) (e : Ending) (w' : World) : Prop where mk ::
  (out : ∃ A c, e = .returned (.tuple #[.slice A L.length c, .agg #[.int .i64 p1, .int .i64 p2]]) ∧ Kd.C k40 w' A L.length L ∧ L.length ≤ c ∧ Below w.heap.size w w')
theorem lex_calls (s : ByteArray) {L : List S39} {p1 p2 er : Int} (h : lexV s.data.toList = (L, p1, p2, er)) (w : World) : Calls Tryd.prog 17 #[.string s] w (TellsLex L p1 p2 er w) := by
  obtain ⟨k, hk⟩ := (lex_ev s).rounds
  rw [h] at hk
  refine (lex_Lex.calls k s L p1 p2 er w hk).mono fun e w' ⟨v, he, hR, hB⟩ => ?_
  obtain ⟨A, c, rfl, hl, hC⟩ := Kd.R_reads hR
  exact ⟨A, c, he, hC, hl, hB⟩
theorem ref_calls (s : ByteArray) (hs : s.size ≤ 1048576) {L : List S40} {p1 p2 : Int} (h : lexFinR [] (lex s.data.toList) = (L, p1, p2)) (w : World) : Calls Tryd.prog 18 #[.string s] w (TellsRef L p1 p2 w) := by
  obtain ⟨k, hk⟩ := (rlex_ev s hs).rounds
  rw [h] at hk
  refine (tourbillonref03_Lex.calls k s L p1 p2 w hk).mono fun e w' ⟨v, he, hR, hB⟩ => ?_
  obtain ⟨A, c, rfl, hl, hC⟩ := Kd.R_reads hR
  exact ⟨A, c, he, hC, hl, hB⟩
/-- A new pair of cells stands behind a call that makes memory alone. -/
theorem kept {W w3 : World} {a b : Value} (hb : Below (W.alloc (.cells #[a, b] 25)).heap.size (W.alloc (.cells #[a, b] 25)) w3) : w3.cell? ⟨W.heap.size, 0, none⟩ = some a ∧ w3.cell? ⟨W.heap.size, 1, none⟩ = some b ∧ W.heap.size < w3.heap.size := by
  have hlt : W.heap.size < (W.alloc (.cells #[a, b] 25)).heap.size := by simp
  have hk : w3.heap[W.heap.size]? = some (.cells #[a, b] 25 (0, 0)) := (hb.block _ hlt).trans (heap_alloc_new W _)
  exact ⟨(blk_cell hk 0).trans rfl, (blk_cell hk 1).trans rfl, by have := hb.size; omega⟩
theorem take_one (c : UInt8) (t : List UInt8) (h : plain c = true) (h1 : t.takeWhile plain = []) : (c :: t).takeWhile plain = [c] := by rw [List.takeWhile_cons, h, h1]; rfl
theorem alive_lex : lex [40, 97, 32, 98, 41] = .ok [(1, ⟨1, [40], 1⟩), (1, ⟨3, [97], 2⟩), (1, ⟨3, [98], 4⟩), (1, ⟨2, [41], 5⟩)] := by
  have hc : cut [40, 97, 32, 98, 41] = [[40, 97, 32, 98, 41]] := by decide
  have t1 : ([97, 32, 98, 41] : List UInt8).takeWhile plain = [97] := by decide
  have t2 : ([98, 41] : List UInt8).takeWhile plain = [98] := by decide
  have s5 : scan [41] 4 = .ok [⟨2, [41], 5⟩] := by rw [scan_close _ _ _ rfl, scan_nil]; rfl
  have s4 : scan [98, 41] 3 = .ok [⟨3, [98], 4⟩, ⟨2, [41], 5⟩] := by
    rw [scan_atom 98 [41] 3 (by decide) (by decide) (by decide) (by decide) (by rw [t2]; decide), t2]
    show (scan [41] 4).map _ = _
    rw [s5]; rfl
  have s3 : scan [32, 98, 41] 2 = .ok [⟨3, [98], 4⟩, ⟨2, [41], 5⟩] := by rw [scan_white _ _ _ (by decide) (by decide), s4]
  have s2 : scan [97, 32, 98, 41] 1 = .ok [⟨3, [97], 2⟩, ⟨3, [98], 4⟩, ⟨2, [41], 5⟩] := by
    rw [scan_atom 97 [32, 98, 41] 1 (by decide) (by decide) (by decide) (by decide) (by rw [t1]; decide), t1]
    show (scan [32, 98, 41] 2).map _ = _
    rw [s3]; rfl
  have s1 : scan [40, 97, 32, 98, 41] 0 = .ok [⟨1, [40], 1⟩, ⟨3, [97], 2⟩, ⟨3, [98], 4⟩, ⟨2, [41], 5⟩] := by
    rw [scan_open _ _ _ rfl, s2]; rfl
  unfold lex
  rw [hc, lexAll, s1]
  rfl
theorem alive_calls (w : World) : Calls Tryd.prog 16 #[] w fun e w' => e = .returned (.bool true) ∧ Below w.heap.size w w' := by
  have h : lexV (⟨#[40, 97, 32, 98, 41]⟩ : ByteArray).data.toList = ([⟨1, ⟨#[40]⟩, ⟨1, 1⟩⟩, ⟨3, ⟨#[97]⟩, ⟨1, 2⟩⟩, ⟨3, ⟨#[98]⟩, ⟨1, 4⟩⟩, ⟨2, ⟨#[41]⟩, ⟨1, 5⟩⟩], 0, 0, 0) := by
    show lexV [40, 97, 32, 98, 41] = _
    unfold lexV
    rw [if_neg (by decide), alive_lex]
    rfl
  obtain ⟨k, hk⟩ := (lex_ev ⟨#[40, 97, 32, 98, 41]⟩).rounds
  rw [h] at hk
  refine tourbillonlaw03_alive.calls k true w ?_
  unfold tourbillonlaw03_alive.f
  rw [hk]
  have e1 : (⟨#[97]⟩ : ByteArray).toList = [97] := by rw [ByteArray.toList_eq]
  have e2 : (⟨#[41]⟩ : ByteArray).toList = [41] := by rw [ByteArray.toList_eq]
  simp [rd_T39, e1, e2]
end Go.Proofs.YtlggmdlbhndacaaDoor.Lx.Use
