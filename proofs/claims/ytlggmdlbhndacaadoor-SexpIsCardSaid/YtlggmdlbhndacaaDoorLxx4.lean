-- Written by wip/tools/myprint.py (a program of this session's, over the kit's print.py) out of the translation, but for the functions that it takes by contract.
import Derived.Test.YtlggmdlbhndacaaDoorLxx0
namespace Go.Proofs.YtlggmdlbhndacaaDoor.Lx
open Go.RowKit Go.Proofs.YtlggmdlbhndacaaDoorW.PrintWords Go.Proofs.YtlggmdlbhndacaaDoorW.PrintLast Go.Proofs.YtlggmdlbhndacaaDoorW.PrintMore
attribute [local go_sem] max2_int min2_int max_two min_two max_three min_three max_four min_four   -- for this text's walks alone
set_option linter.unusedVariables false
set_option linter.unusedSimpArgs false

/-! ### strings_Split: function 30 -/
def strings_Split.f (a0 a1 : ByteArray) : Option (List ByteArray) := if a1.data.toList.length = 1 then (if a0.size < 4294967281 then some (Lib.splitB a1 0 (Lib.countB a0 a1) a0) else none) else none
theorem strings_Split.calls (a0 a1 : ByteArray) (r : List ByteArray) (w : World) (h : strings_Split.f a0 a1 = some r) :
    Calls Tryd.prog 30 #[.string a0, .string a1] w fun e w' => ∃ v0_ : Value, e = .returned (v0_) ∧ Kd.R Kd.string 9 w' w.heap.size (fun _ => True) v0_ r ∧ Below w.heap.size w w' := by
  unfold strings_Split.f at h
  split at h
  · rename_i h1
    split at h
    · rename_i h2
      obtain ⟨c, rfl⟩ : ∃ c, a1 = ⟨#[c]⟩ := by
        obtain ⟨⟨l⟩⟩ := a1
        match l, h1 with
        | [c], _ => exact ⟨c, rfl⟩
      obtain rfl := Option.some.inj h
      exact split_reads a0 c w h2
    · exact absurd h (by simp)
  · exact absurd h (by simp)

end Go.Proofs.YtlggmdlbhndacaaDoor.Lx
