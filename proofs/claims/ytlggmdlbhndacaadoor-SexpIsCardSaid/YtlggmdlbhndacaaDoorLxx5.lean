-- Written by wip/tools/myprint.py (a program of this session's, over the kit's print.py) out of the translation, but for the functions that it takes by contract.
import Derived.Test.YtlggmdlbhndacaaDoorLxx0
import Derived.Test.YtlggmdlbhndacaaDoorLine
namespace Go.Proofs.YtlggmdlbhndacaaDoor.Lx
open Go.RowKit Go.Proofs.YtlggmdlbhndacaaDoorW.PrintWords Go.Proofs.YtlggmdlbhndacaaDoorW.PrintLast Go.Proofs.YtlggmdlbhndacaaDoorW.PrintMore
attribute [local go_sem] max2_int min2_int max_two min_two max_three min_three max_four min_four   -- for this text's walks alone
set_option linter.unusedVariables false
set_option linter.unusedSimpArgs false

/-! ### lex_line: function 31 -/
--NEED Derived.Test.YtlggmdlbhndacaaDoorLine
def lex_line.f (a0 : ByteArray) (a1 : Int) : Option ((List (S39)) × Int) := if a0.size ≤ 1048576 then some (Line.lineV a0.data.toList a1) else none
theorem lex_line.calls (a0 : ByteArray) (a1 : Int) (r1 : List (S39)) (r2 : Int) (w : World) (h : lex_line.f a0 a1 = some (r1, r2)) :
    Calls Tryd.prog 31 #[.string a0, .int .i64 a1] w fun e w' => ∃ v0_ : Value, e = .returned (.tuple #[v0_, .int .i64 r2]) ∧ Kd.R k39 39 w' w.heap.size (fun _ => True) v0_ r1 ∧ Below w.heap.size w w' := by
  unfold lex_line.f at h
  split at h
  · rename_i h1
    have e := Option.some.inj h
    have e1 := congrArg Prod.fst e
    have e2 := congrArg Prod.snd e
    simp only at e1 e2
    subst e1
    subst e2
    exact Line.line_calls a0 a1 w h1
  · exact absurd h (by simp)

end Go.Proofs.YtlggmdlbhndacaaDoor.Lx
