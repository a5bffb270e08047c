/-
  No cell of these rows narrows 'for every input' (looked for: loops, veiled, ifaces, maps, wideKeys, modest, calm, conditions, laid).
  DERIVED. THE GIVEN ROWS OF THIS SEAT. 5 by the template 'for every input the law returns true; each argument reads behind the call as it read before'; 0 by the template 'total and deterministic' (their statements: YtgkfenekaagllaaTotals.lean).
  GIVEN WITH THE SEED: the statements are not yours to turn. If you find one false, say at which input.
  Laid BY PROGRAM, IN A SANDBOX (cutbox-rows.mjs): the forced cells as the released guide's own fill.sh prints them over the translation 1a13bbea54733852… (all of the seat's roots in one cut). By AI agents, Wed Nov 11 2026. No macro, syntax, notation, axiom, sorry.
-/
import Derived.Test.YtgkfenekaagllaaChecked
import GoSem.Claim
import GoSem.ClaimJoined
import GoSem.ClaimMapViews
import Derived.JoinedTies
import Derived.KernelRfl
namespace Go.Proofs.Ytgkfenekaagllaa
/- THE CELL 'sum', in the pinned program and in every row, IS THE sha256 OF THE DUMP (.gsa) THAT YtgkfenekaagllaaProg.lean LOADS. Nothing in Lean hashes anything: it is a label: what it is worth is what the hold of that sum in a sandbox is worth. -/
noncomputable def Try.pinned : Pinned := { name := "ytgkfenekaagllaa", sum := "1a13bbea547338524ac8b72bb9a641001a857d1b94b1a23c487b50402be062d5", checked := Try.checked }
namespace Rows
def none {H : Type} : Left H := { results := [], args := [] }

/-- 'tourbillonlaw01.WordParts': WHATEVER THE INPUT: true; the input reads as it did. -/
def wordPartsSpec : ChangeSpec := { name := "wordParts", fn := fun _ => fun
  | [d1, d2, d3, d4] => { results := [.lit (.bool true)], args := [d1, d2, d3, d4] }
  | _ => none }
def wordPartsRow : OpenClaim := { program := "ytgkfenekaagllaa", sum := "1a13bbea547338524ac8b72bb9a641001a857d1b94b1a23c487b50402be062d5", func := "tourbillon/tourbillonlaw01.WordParts", spec := "wordParts", apart := false }
def WordPartsSaid : Prop := wordPartsRow.holds Try.pinned (OpenSpec.ofChange wordPartsSpec)

/-- ITS FALSE NEIGHBOUR: 'it returns false'. Refute it at one input. -/
def wordPartsWrong : ChangeSpec := { name := "wordParts", fn := fun _ => fun
  | [d1, d2, d3, d4] => { results := [.lit (.bool false)], args := [d1, d2, d3, d4] }
  | _ => none }
def WordPartsWrongFalsely : Prop := wordPartsRow.holds Try.pinned (OpenSpec.ofChange wordPartsWrong)

/-- 'tourbillonlaw01.WordSplits': WHATEVER THE INPUT: true; the input reads as it did. -/
def wordSplitsSpec : ChangeSpec := { name := "wordSplits", fn := fun _ => fun
  | [d1, d2, d3] => { results := [.lit (.bool true)], args := [d1, d2, d3] }
  | _ => none }
def wordSplitsRow : OpenClaim := { program := "ytgkfenekaagllaa", sum := "1a13bbea547338524ac8b72bb9a641001a857d1b94b1a23c487b50402be062d5", func := "tourbillon/tourbillonlaw01.WordSplits", spec := "wordSplits", apart := false }
def WordSplitsSaid : Prop := wordSplitsRow.holds Try.pinned (OpenSpec.ofChange wordSplitsSpec)

/-- ITS FALSE NEIGHBOUR: 'it returns false'. Refute it at one input. -/
def wordSplitsWrong : ChangeSpec := { name := "wordSplits", fn := fun _ => fun
  | [d1, d2, d3] => { results := [.lit (.bool false)], args := [d1, d2, d3] }
  | _ => none }
def WordSplitsWrongFalsely : Prop := wordSplitsRow.holds Try.pinned (OpenSpec.ofChange wordSplitsWrong)

/-- 'tourbillonlaw01.WordFits': WHATEVER THE INPUT: true; the input reads as it did. -/
def wordFitsSpec : ChangeSpec := { name := "wordFits", fn := fun _ => fun
  | [d1, d2, d3] => { results := [.lit (.bool true)], args := [d1, d2, d3] }
  | _ => none }
def wordFitsRow : OpenClaim := { program := "ytgkfenekaagllaa", sum := "1a13bbea547338524ac8b72bb9a641001a857d1b94b1a23c487b50402be062d5", func := "tourbillon/tourbillonlaw01.WordFits", spec := "wordFits", apart := false }
def WordFitsSaid : Prop := wordFitsRow.holds Try.pinned (OpenSpec.ofChange wordFitsSpec)

/-- ITS FALSE NEIGHBOUR: 'it returns false'. Refute it at one input. -/
def wordFitsWrong : ChangeSpec := { name := "wordFits", fn := fun _ => fun
  | [d1, d2, d3] => { results := [.lit (.bool false)], args := [d1, d2, d3] }
  | _ => none }
def WordFitsWrongFalsely : Prop := wordFitsRow.holds Try.pinned (OpenSpec.ofChange wordFitsWrong)

/-- 'tourbillonlaw01.WordSigns': WHATEVER THE INPUT: true; the input reads as it did. -/
def wordSignsSpec : ChangeSpec := { name := "wordSigns", fn := fun _ => fun
  | [d1, d2, d3] => { results := [.lit (.bool true)], args := [d1, d2, d3] }
  | _ => none }
def wordSignsRow : OpenClaim := { program := "ytgkfenekaagllaa", sum := "1a13bbea547338524ac8b72bb9a641001a857d1b94b1a23c487b50402be062d5", func := "tourbillon/tourbillonlaw01.WordSigns", spec := "wordSigns", apart := false }
def WordSignsSaid : Prop := wordSignsRow.holds Try.pinned (OpenSpec.ofChange wordSignsSpec)

/-- ITS FALSE NEIGHBOUR: 'it returns false'. Refute it at one input. -/
def wordSignsWrong : ChangeSpec := { name := "wordSigns", fn := fun _ => fun
  | [d1, d2, d3] => { results := [.lit (.bool false)], args := [d1, d2, d3] }
  | _ => none }
def WordSignsWrongFalsely : Prop := wordSignsRow.holds Try.pinned (OpenSpec.ofChange wordSignsWrong)

/-- 'tourbillonlaw01.WordBack': WHATEVER THE INPUT: true; the input reads as it did. -/
def wordBackSpec : ChangeSpec := { name := "wordBack", fn := fun _ => fun
  | [d1, d2, d3, d4, d5] => { results := [.lit (.bool true)], args := [d1, d2, d3, d4, d5] }
  | _ => none }
def wordBackRow : OpenClaim := { program := "ytgkfenekaagllaa", sum := "1a13bbea547338524ac8b72bb9a641001a857d1b94b1a23c487b50402be062d5", func := "tourbillon/tourbillonlaw01.WordBack", spec := "wordBack", apart := false }
def WordBackSaid : Prop := wordBackRow.holds Try.pinned (OpenSpec.ofChange wordBackSpec)

/-- ITS FALSE NEIGHBOUR: 'it returns false'. Refute it at one input. -/
def wordBackWrong : ChangeSpec := { name := "wordBack", fn := fun _ => fun
  | [d1, d2, d3, d4, d5] => { results := [.lit (.bool false)], args := [d1, d2, d3, d4, d5] }
  | _ => none }
def WordBackWrongFalsely : Prop := wordBackRow.holds Try.pinned (OpenSpec.ofChange wordBackWrong)

/- THE SECOND FORM. 'bulk': how many values and letters a reading holds, each counted each time it is reached (what is shared counts as often as it is met; a slice's spare places count too). A statement '..UptoSaid' is the law's where the arguments, and the package variables that the reading takes, are together of bulk at most 1048576: NARROWER than '..Said'. Prove '..Said' where nothing that the law and all that it calls make is longer than what came in: it says more and counts as full. Else prove '..UptoSaid'. A law counts once. -/
mutual
def uptoBulk {H : Type} : DataW H → Nat
  | .lit (.string bytes) => bytes.length + 1
  | .lit _ => 1
  | .nil => 1
  | .ptr d => uptoBulk d + 1
  | .slice elems spare => uptoBulkAll elems + uptoBulkAll spare + 1
  | .agg parts => uptoBulkAll parts + 1
  | .iface _ d => uptoBulk d + 1
  | .map entries => uptoBulkEntries entries + 1
  | .held _ => 1
def uptoBulkAll {H : Type} : List (DataW H) → Nat
  | [] => 0
  | d :: r => uptoBulk d + uptoBulkAll r
def uptoBulkEntries {H : Type} : List (Lit × DataW H) → Nat
  | [] => 0
  | x :: r => uptoBulkEntry x + uptoBulkEntries r
def uptoBulkEntry {H : Type} : Lit × DataW H → Nat
  | (.string bytes, d) => bytes.length + uptoBulk d + 1
  | (_, d) => uptoBulk d + 1
 end
def uptoSmall : (H : Type) → List (DataW H) → Bool := fun _ ds => decide (uptoBulkAll ds ≤ 1048576)
def OpenSpec.upto (s : _root_.Go.ChangeSpec) : _root_.Go.OpenSpec := { _root_.Go.OpenSpec.ofChange s with cond := some uptoSmall }

/-- 'tourbillonlaw01.WordParts', WHERE WHAT IT READS IS OF BULK AT MOST 1048576: true; the input reads as it did. -/
def wordPartsUptoRow : OpenClaim := { program := "ytgkfenekaagllaa", sum := "1a13bbea547338524ac8b72bb9a641001a857d1b94b1a23c487b50402be062d5", func := "tourbillon/tourbillonlaw01.WordParts", spec := "wordParts", apart := false, narrowed := true }
def WordPartsUptoSaid : Prop := wordPartsUptoRow.holds Try.pinned (OpenSpec.upto wordPartsSpec)

/-- 'tourbillonlaw01.WordSplits', WHERE WHAT IT READS IS OF BULK AT MOST 1048576: true; the input reads as it did. -/
def wordSplitsUptoRow : OpenClaim := { program := "ytgkfenekaagllaa", sum := "1a13bbea547338524ac8b72bb9a641001a857d1b94b1a23c487b50402be062d5", func := "tourbillon/tourbillonlaw01.WordSplits", spec := "wordSplits", apart := false, narrowed := true }
def WordSplitsUptoSaid : Prop := wordSplitsUptoRow.holds Try.pinned (OpenSpec.upto wordSplitsSpec)

/-- 'tourbillonlaw01.WordFits', WHERE WHAT IT READS IS OF BULK AT MOST 1048576: true; the input reads as it did. -/
def wordFitsUptoRow : OpenClaim := { program := "ytgkfenekaagllaa", sum := "1a13bbea547338524ac8b72bb9a641001a857d1b94b1a23c487b50402be062d5", func := "tourbillon/tourbillonlaw01.WordFits", spec := "wordFits", apart := false, narrowed := true }
def WordFitsUptoSaid : Prop := wordFitsUptoRow.holds Try.pinned (OpenSpec.upto wordFitsSpec)

/-- 'tourbillonlaw01.WordSigns', WHERE WHAT IT READS IS OF BULK AT MOST 1048576: true; the input reads as it did. -/
def wordSignsUptoRow : OpenClaim := { program := "ytgkfenekaagllaa", sum := "1a13bbea547338524ac8b72bb9a641001a857d1b94b1a23c487b50402be062d5", func := "tourbillon/tourbillonlaw01.WordSigns", spec := "wordSigns", apart := false, narrowed := true }
def WordSignsUptoSaid : Prop := wordSignsUptoRow.holds Try.pinned (OpenSpec.upto wordSignsSpec)

/-- 'tourbillonlaw01.WordBack', WHERE WHAT IT READS IS OF BULK AT MOST 1048576: true; the input reads as it did. -/
def wordBackUptoRow : OpenClaim := { program := "ytgkfenekaagllaa", sum := "1a13bbea547338524ac8b72bb9a641001a857d1b94b1a23c487b50402be062d5", func := "tourbillon/tourbillonlaw01.WordBack", spec := "wordBack", apart := false, narrowed := true }
def WordBackUptoSaid : Prop := wordBackUptoRow.holds Try.pinned (OpenSpec.upto wordBackSpec)

end Rows
end Go.Proofs.Ytgkfenekaagllaa
