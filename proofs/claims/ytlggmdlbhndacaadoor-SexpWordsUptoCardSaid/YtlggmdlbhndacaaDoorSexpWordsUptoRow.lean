/-
  Proved: the law SexpWords returns true of every list or atom that holds at most 1048576 values and letters (the second form). No other condition.
  The row lists two tables of Go's library (unicode/utf8.first, unicode/utf8.acceptRanges), which the card ties to the program's text; the tie is given.
-/
import Derived.Test.YtlggmdlbhndacaaDoorCards
import Derived.Test.YtlggmdlbhndacaaDoorTie
import Derived.Test.YtlggmdlbhndacaaDoorWalkSWords
import Derived.WalkKit
import Derived.ProofKit
import Derived.OpenShut
import Derived.ShutString
import Derived.Below
import Derived.Carry
import Derived.SizedLaws
import Derived.Shelf.Lay
import Derived.PinnedBridge
import Derived.Lay
import Derived.LaidOnce
import Derived.SevenTiedAt
import Derived.Deep.DeepHandedRow
namespace Go.Proofs.YtlggmdlbhndacaaDoor.sexpWordsUpto
open Go.ChangeShapes Go.WideShapes Go.ChangeAt Go.RowKit Go.Lib
theorem own : ownKnob Tryd.prog.godebug = none := by kernel_rfl
theorem laidOut : laidOutB Tryd.prog = true := by kernel_rfl
def arg0 : Value := .agg #[.string ByteArray.empty, .slice none 0 0, .bool false, .int .i64 0, .int .i64 0]
theorem reads (os : Os) {H : Type} (enc : TypeId × Value → H) : DataW.whole enc Tryd.prog ((World.laidAll Tryd.prog os Rows.sexpWordsUptoRow.laid).forCall (fun _ _ => 0) ⟨#[], #[arg0], []⟩).memory Tryd.f12.params.toList Rows.sexpWordsSpec.vars false #[arg0].toList 8 = some ([.agg [.lit (.string []), .nil, .lit (.bool false), .agg [.lit (.int .i64 0), .lit (.int .i64 0)]]], [], []) := by kernel_rfl
theorem witness (os : Os) (H : Type) (enc : TypeId × Value → H) : ∃ (w : World) (tape : Tape) (i : Input), w.os = os ∧ (w.forCall tape i).Shaped Tryd.checked.prog ∧ i.vars = [] ∧ Input.okWide Tryd.checked.prog (w.forCall tape i) .any w.heap.size 12 i ∧
    (Rows.OpenSpec.upto Rows.sexpWordsSpec).preRow enc Tryd.checked.prog Tryd.f12 Rows.sexpWordsUptoRow.domain false Rows.sexpWordsUptoRow.laid (w.forCall tape i).memory i.args ∧ ({} : Assume).holds Tryd.checked.prog (lone (Frame.enter Tryd.checked.prog 12 i.args .normal) [] (w.forCall tape i)) :=
  ⟨World.laidAll Tryd.prog os Rows.sexpWordsUptoRow.laid, fun _ _ => 0, ⟨#[], #[arg0], []⟩, World.laidAll_os _ _ _, World.shaped_of_ZipB (by kernel_rfl) (by kernel_rfl), rfl, (Input.okWide_of_okWideB (by kernel_rfl)).2,
    OpenSpec.preRow_of_cond 8 (reads os enc) (by kernel_rfl) (fun k hk => by cases hk; kernel_rfl) (by kernel_rfl) (by rw [MakeChecks.laidMetH_plain _ _ _ (by kernel_rfl)]; exact laidMet_laidAll _ (by kernel_rfl) (by kernel_rfl)), by
    simp only [Assume.holds]
    exact ⟨by simp, by simp, fun _ => Modest.zero, by simp, by simp⟩⟩
set_option maxRecDepth 100000 in
set_option linter.unusedVariables false in
theorem lifted (os : Os) (started : os.Started) (H : Type) (enc : TypeId × Value → H) (F : Stop.Interp) :
    ReturnsInHanded {} Tryd.checked os 12 .any ((Rows.OpenSpec.upto Rows.sexpWordsSpec).preRow enc Tryd.prog Tryd.f12 Rows.sexpWordsUptoRow.domain false Rows.sexpWordsUptoRow.laid) (((Rows.OpenSpec.upto Rows.sexpWordsSpec).at F).post enc Tryd.prog Tryd.f12 false true false false) := by
  refine returnsInHanded_of_row (C := Tryd.checked) (s := Rows.OpenSpec.upto Rows.sexpWordsSpec) own started (by kernel_rfl) Tryd.func12 (witness os H enc) ?_
  intro W base args ds gs before hval0 hW _ hcond _ _ _ _
  have hval : ∀ (j : Nat) t v, Tryd.f12.params[j]? = some t → args[j]? = some v → Value.okWide Tryd.prog W .any base t v := hval0
  have hW' := hW
  obtain ⟨p, q, hA0, hV, rfl, _, _⟩ := hW
  have hA : DataW.TrodAll enc Tryd.prog W 0 (fun _ => true) true Tryd.f12.params.toList args.toList ds p := hA0
  rw [Tryd.params12] at hA hval
  obtain ⟨v0, vs0, d0, ds0, p0, q0, hargs, rfl, rfl, h0, r0⟩ := trodAll_cons hA
  obtain ⟨rfl, rfl, rfl⟩ := trodAll_nil r0
  obtain rfl : args = #[v0] := by cases args; simp_all
  obtain ⟨rfl, rfl⟩ := trodVars_none hV
  obtain ⟨cs, rfl, hsz⟩ := okWide_struct Tryd.underlying52 (hval 0 52 v0 rfl rfl)
  have hbk : Rows.uptoBulkAll [d0] ≤ 1048576 := of_decide_eq_true (hcond _ rfl)
  have lt0 : ∀ x ∈ p0, x.block < W.heap.size := by obtain ⟨m, hm⟩ := h0; exact DataW.trod_lt m _ _ _ hm
  obtain ⟨fuel, hf⟩ := h0
  obtain ⟨s, A, c, e, hc, hC, hw⟩ := Lx.OpenP.open52 (fuel + 1) fuel _ _ (Nat.lt_succ_self fuel) hf
  obtain rfl : cs = #[.string s.f0, .slice A s.f1.length c, .bool s.f2, .int .i64 s.f3.f0, .int .i64 s.f3.f1] := Array.toList_inj.1 e
  have hw3 : Lx.OpenP.wt s ≤ Rows.uptoBulk d0 := hw
  have hw2 : Lx.OpenP.wt s ≤ 1048576 := by simp only [Rows.uptoBulkAll] at hbk; omega
  clear hA0 hval0
  refine (Lx.WalkSWords.words_all W s A c hC hc hw2).mono fun e W' ⟨he, bel⟩ => ?_
  subst he
  exact ⟨_, rfl, _, _, _, [], _, [], hW', trodAll_mk1 (shut_bool Tryd.underlying4 _), (trodAll_cons_mk (Below.trod laidOut (by kernel_rfl) (of_decide_eq_true (by kernel_rfl)) ⟨fuel, hf⟩ bel lt0) trodAll_mk0), rfl, bel.frame _, fun h => by cases h⟩
theorem over : Rows.sexpWordsUptoRow.holds Tryd.pinned (Rows.OpenSpec.upto Rows.sexpWordsSpec) :=
  OpenClaim.holds_of_cond 12 Tryd.f12 rfl rfl rfl rfl rfl rfl rfl ⟨rfl, rfl, rfl, rfl, rfl⟩ rfl rfl rfl rfl rfl (by kernel_rfl) Tryd.func12 (by kernel_rfl)
    (of_decide_eq_true (by kernel_rfl)) (by unfold Func.isWrapper; first | (rw [if_pos (by decide +kernel)]; kernel_rfl) | (rw [if_neg (by decide +kernel)]; exact ⟨rfl, rfl⟩))
    (fun os started H enc _ F => by rw [OpenClaim.pre_eq_preRow]; exact lifted os started H enc F)
/-- The statement: the tied card. -/
theorem proved : Rows.SexpWordsUptoCardSaid :=
  Claim7.holds_tied_plain_at .later [] _ _ _ _ over (fun _ h => by cases h) (by kernel_rfl) (fun _ h => by cases h) sexpWordsUpto_row_tie rfl ⟨rfl, rfl⟩ (by kernel_rfl) rfl
    (fun f fn hf hfn => by
      obtain rfl : f = 12 := Option.some.inj ((show Tryd.prog.funcNamed "tourbillon/tourbillonlaw04.SexpWords" = some 12 by kernel_rfl).symm.trans hf) |>.symm
      obtain rfl : fn = Tryd.f12 := (Option.some.inj (Tryd.func12.symm.trans hfn)).symm
      exact ⟨by kernel_rfl, fun j t ht => by
        rw [Tryd.params12] at ht
        have hm : t ∈ [52] := by simpa using Array.mem_of_getElem? ht
        have hall : ([52].all fun u => !Tryd.prog.wantsStandIn u) = true := by kernel_rfl
        exact (show Tryd.prog.wantsStandIn t = false by simpa using List.all_eq_true.1 hall t hm)⟩)
    (by kernel_rfl)
#print axioms proved
end Go.Proofs.YtlggmdlbhndacaaDoor.sexpWordsUpto
