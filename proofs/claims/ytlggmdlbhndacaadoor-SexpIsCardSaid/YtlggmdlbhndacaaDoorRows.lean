/-
  NARROWER THAN 'FOR EVERY INPUT', by the rows' own cells (each row's printed sentence says how): SexpDeep: laid · SexpJoins: laid · LexIs: laid · LexLines: laid · LexBlank: laid · LexLong: laid · LexJoins: laid · SexpIs: laid · SexpBack: laid · SexpWords: loops, laid.
  DERIVED. THE GIVEN ROWS OF THIS SEAT. 10 by the template 'for every input the law returns true; each argument reads behind the call as it read before'; 0 by the template 'total and deterministic' (their statements: YtlggmdlbhndacaaDoorTotals.lean).
  GIVEN WITH THE SEED: the statements are not yours to turn. If you find one false, say at which input.
  Laid BY PROGRAM, IN A SANDBOX (cutbox-rows.mjs): the forced cells as the released guide's own fill.sh prints them over the translation 72310c5c0b5c3093… (all of the seat's roots in one cut). By AI agents, Wed Nov 11 2026. No macro, syntax, notation, axiom, sorry.
-/
import Derived.Test.YtlggmdlbhndacaaDoorChecked
import GoSem.PinnedTables
import GoSem.Claim
import GoSem.ClaimJoined
import GoSem.ClaimMapViews
import Derived.JoinedTies
import Derived.KernelRfl
namespace Go.Proofs.YtlggmdlbhndacaaDoor
/- THE CELL 'sum', in the pinned program and in every row, IS THE sha256 OF THE DUMP (.gsa) THAT YtlggmdlbhndacaaDoorProg.lean LOADS. Nothing in Lean hashes anything: it is a label: what it is worth is what the hold of that sum in a sandbox is worth. -/
noncomputable def Tryd.pinned : Pinned := { name := "ytlggmdlbhndacaadoor", sum := "72310c5c0b5c30935f87aac6a3f97753dc729fd7ee9ca1f19320bcdf75b13aa7", checked := Tryd.checked }
namespace Rows
def none {H : Type} : Left H := { results := [], args := [] }

/- WHAT THE LISTED PACKAGE-LEVEL VARIABLES READ AS WHEN THE CALL BEGINS. Each datum BY PROGRAM (the guide's laid-datum.mjs) off the statement by which the dump's own 'gosem.cut.vars' lays the variable. In a bare row this is a premise. The card (YtlggmdlbhndacaaDoorCards.lean) ties it to the program's text. -/
def laid_unicode_utf8_acceptRanges {H : Type} : DataW H := .agg [.agg [.lit (.int .u8 128), .lit (.int .u8 191)], .agg [.lit (.int .u8 160), .lit (.int .u8 191)], .agg [.lit (.int .u8 128), .lit (.int .u8 159)], .agg [.lit (.int .u8 144), .lit (.int .u8 191)], .agg [.lit (.int .u8 128), .lit (.int .u8 143)], .agg [.lit (.int .u8 0), .lit (.int .u8 0)], .agg [.lit (.int .u8 0), .lit (.int .u8 0)], .agg [.lit (.int .u8 0), .lit (.int .u8 0)], .agg [.lit (.int .u8 0), .lit (.int .u8 0)], .agg [.lit (.int .u8 0), .lit (.int .u8 0)], .agg [.lit (.int .u8 0), .lit (.int .u8 0)], .agg [.lit (.int .u8 0), .lit (.int .u8 0)], .agg [.lit (.int .u8 0), .lit (.int .u8 0)], .agg [.lit (.int .u8 0), .lit (.int .u8 0)], .agg [.lit (.int .u8 0), .lit (.int .u8 0)], .agg [.lit (.int .u8 0), .lit (.int .u8 0)]]
/-- One of Go's own tables, pinned by name: the form's constant. -/
def laid_unicode_utf8_first : DataW Unit := Go.Pinned.utf8First

/-- 'tourbillonlaw04.SexpDeep': WHATEVER THE INPUT: true; the input reads as it did. -/
def sexpDeepSpec : ChangeSpec := { name := "sexpDeep", fn := fun _ => fun
  | [d1, d2] => { results := [.lit (.bool true)], args := [d1, d2] }
  | _ => none }
def sexpDeepRow : OpenClaim := { program := "ytlggmdlbhndacaadoor", sum := "72310c5c0b5c30935f87aac6a3f97753dc729fd7ee9ca1f19320bcdf75b13aa7", func := "tourbillon/tourbillonlaw04.SexpDeep", spec := "sexpDeep", inPlace := ["internal/bytealg.CountString", "internal/bytealg.IndexByteString", "internal/bytealg.IndexString", "internal/abi.NoEscape"], recurses := true, named := ["unicode/utf8.first", "unicode/utf8.acceptRanges", "internal/bytealg.MaxLen"], apart := false, laid := [("unicode/utf8.acceptRanges", laid_unicode_utf8_acceptRanges), ("unicode/utf8.first", laid_unicode_utf8_first)] }
def SexpDeepSaid : Prop := sexpDeepRow.holds Tryd.pinned (OpenSpec.ofChange sexpDeepSpec)

/-- ITS FALSE NEIGHBOUR: 'it returns false'. Refute it at one input. -/
def sexpDeepWrong : ChangeSpec := { name := "sexpDeep", fn := fun _ => fun
  | [d1, d2] => { results := [.lit (.bool false)], args := [d1, d2] }
  | _ => none }
def SexpDeepWrongFalsely : Prop := sexpDeepRow.holds Tryd.pinned (OpenSpec.ofChange sexpDeepWrong)

/-- 'tourbillonlaw04.SexpJoins': WHATEVER THE INPUT: true; the input reads as it did. -/
def sexpJoinsSpec : ChangeSpec := { name := "sexpJoins", fn := fun _ => fun
  | [d1, d2] => { results := [.lit (.bool true)], args := [d1, d2] }
  | _ => none }
def sexpJoinsRow : OpenClaim := { program := "ytlggmdlbhndacaadoor", sum := "72310c5c0b5c30935f87aac6a3f97753dc729fd7ee9ca1f19320bcdf75b13aa7", func := "tourbillon/tourbillonlaw04.SexpJoins", spec := "sexpJoins", inPlace := ["internal/bytealg.CountString", "internal/bytealg.IndexByteString", "internal/bytealg.IndexString", "internal/abi.NoEscape"], recurses := true, named := ["unicode/utf8.first", "unicode/utf8.acceptRanges", "internal/bytealg.MaxLen"], apart := false, laid := [("unicode/utf8.acceptRanges", laid_unicode_utf8_acceptRanges), ("unicode/utf8.first", laid_unicode_utf8_first)] }
def SexpJoinsSaid : Prop := sexpJoinsRow.holds Tryd.pinned (OpenSpec.ofChange sexpJoinsSpec)

/-- ITS FALSE NEIGHBOUR: 'it returns false'. Refute it at one input. -/
def sexpJoinsWrong : ChangeSpec := { name := "sexpJoins", fn := fun _ => fun
  | [d1, d2] => { results := [.lit (.bool false)], args := [d1, d2] }
  | _ => none }
def SexpJoinsWrongFalsely : Prop := sexpJoinsRow.holds Tryd.pinned (OpenSpec.ofChange sexpJoinsWrong)

/-- 'tourbillonlaw03.LexIs': WHATEVER THE INPUT: true; the input reads as it did. -/
def lexIsSpec : ChangeSpec := { name := "lexIs", fn := fun _ => fun
  | [d] => { results := [.lit (.bool true)], args := [d] }
  | _ => none }
def lexIsRow : OpenClaim := { program := "ytlggmdlbhndacaadoor", sum := "72310c5c0b5c30935f87aac6a3f97753dc729fd7ee9ca1f19320bcdf75b13aa7", func := "tourbillon/tourbillonlaw03.LexIs", spec := "lexIs", inPlace := ["internal/bytealg.CountString", "internal/bytealg.IndexByteString", "internal/bytealg.IndexString"], named := ["unicode/utf8.first", "unicode/utf8.acceptRanges", "internal/bytealg.MaxLen"], apart := false, laid := [("unicode/utf8.acceptRanges", laid_unicode_utf8_acceptRanges), ("unicode/utf8.first", laid_unicode_utf8_first)] }
def LexIsSaid : Prop := lexIsRow.holds Tryd.pinned (OpenSpec.ofChange lexIsSpec)

/-- ITS FALSE NEIGHBOUR: 'it returns false'. Refute it at one input. -/
def lexIsWrong : ChangeSpec := { name := "lexIs", fn := fun _ => fun
  | [d] => { results := [.lit (.bool false)], args := [d] }
  | _ => none }
def LexIsWrongFalsely : Prop := lexIsRow.holds Tryd.pinned (OpenSpec.ofChange lexIsWrong)

/-- 'tourbillonlaw03.LexLines': WHATEVER THE INPUT: true; the input reads as it did. -/
def lexLinesSpec : ChangeSpec := { name := "lexLines", fn := fun _ => fun
  | [d] => { results := [.lit (.bool true)], args := [d] }
  | _ => none }
def lexLinesRow : OpenClaim := { program := "ytlggmdlbhndacaadoor", sum := "72310c5c0b5c30935f87aac6a3f97753dc729fd7ee9ca1f19320bcdf75b13aa7", func := "tourbillon/tourbillonlaw03.LexLines", spec := "lexLines", inPlace := ["internal/bytealg.CountString", "internal/bytealg.IndexByteString", "internal/bytealg.IndexString"], named := ["unicode/utf8.first", "unicode/utf8.acceptRanges", "internal/bytealg.MaxLen"], apart := false, laid := [("unicode/utf8.acceptRanges", laid_unicode_utf8_acceptRanges), ("unicode/utf8.first", laid_unicode_utf8_first)] }
def LexLinesSaid : Prop := lexLinesRow.holds Tryd.pinned (OpenSpec.ofChange lexLinesSpec)

/-- ITS FALSE NEIGHBOUR: 'it returns false'. Refute it at one input. -/
def lexLinesWrong : ChangeSpec := { name := "lexLines", fn := fun _ => fun
  | [d] => { results := [.lit (.bool false)], args := [d] }
  | _ => none }
def LexLinesWrongFalsely : Prop := lexLinesRow.holds Tryd.pinned (OpenSpec.ofChange lexLinesWrong)

/-- 'tourbillonlaw03.LexBlank': WHATEVER THE INPUT: true; the input reads as it did. -/
def lexBlankSpec : ChangeSpec := { name := "lexBlank", fn := fun _ => fun
  | [d] => { results := [.lit (.bool true)], args := [d] }
  | _ => none }
def lexBlankRow : OpenClaim := { program := "ytlggmdlbhndacaadoor", sum := "72310c5c0b5c30935f87aac6a3f97753dc729fd7ee9ca1f19320bcdf75b13aa7", func := "tourbillon/tourbillonlaw03.LexBlank", spec := "lexBlank", inPlace := ["internal/bytealg.CountString", "internal/bytealg.IndexByteString", "internal/bytealg.IndexString"], named := ["unicode/utf8.first", "unicode/utf8.acceptRanges", "internal/bytealg.MaxLen"], apart := false, laid := [("unicode/utf8.acceptRanges", laid_unicode_utf8_acceptRanges), ("unicode/utf8.first", laid_unicode_utf8_first)] }
def LexBlankSaid : Prop := lexBlankRow.holds Tryd.pinned (OpenSpec.ofChange lexBlankSpec)

/-- ITS FALSE NEIGHBOUR: 'it returns false'. Refute it at one input. -/
def lexBlankWrong : ChangeSpec := { name := "lexBlank", fn := fun _ => fun
  | [d] => { results := [.lit (.bool false)], args := [d] }
  | _ => none }
def LexBlankWrongFalsely : Prop := lexBlankRow.holds Tryd.pinned (OpenSpec.ofChange lexBlankWrong)

/-- 'tourbillonlaw03.LexLong': WHATEVER THE INPUT: true; the input reads as it did. -/
def lexLongSpec : ChangeSpec := { name := "lexLong", fn := fun _ => fun
  | [d] => { results := [.lit (.bool true)], args := [d] }
  | _ => none }
def lexLongRow : OpenClaim := { program := "ytlggmdlbhndacaadoor", sum := "72310c5c0b5c30935f87aac6a3f97753dc729fd7ee9ca1f19320bcdf75b13aa7", func := "tourbillon/tourbillonlaw03.LexLong", spec := "lexLong", inPlace := ["internal/bytealg.CountString", "internal/bytealg.IndexByteString", "internal/bytealg.IndexString"], named := ["unicode/utf8.first", "unicode/utf8.acceptRanges", "internal/bytealg.MaxLen"], apart := false, laid := [("unicode/utf8.acceptRanges", laid_unicode_utf8_acceptRanges), ("unicode/utf8.first", laid_unicode_utf8_first)] }
def LexLongSaid : Prop := lexLongRow.holds Tryd.pinned (OpenSpec.ofChange lexLongSpec)

/-- ITS FALSE NEIGHBOUR: 'it returns false'. Refute it at one input. -/
def lexLongWrong : ChangeSpec := { name := "lexLong", fn := fun _ => fun
  | [d] => { results := [.lit (.bool false)], args := [d] }
  | _ => none }
def LexLongWrongFalsely : Prop := lexLongRow.holds Tryd.pinned (OpenSpec.ofChange lexLongWrong)

/-- 'tourbillonlaw03.LexJoins': WHATEVER THE INPUT: true; the input reads as it did. -/
def lexJoinsSpec : ChangeSpec := { name := "lexJoins", fn := fun _ => fun
  | [d1, d2] => { results := [.lit (.bool true)], args := [d1, d2] }
  | _ => none }
def lexJoinsRow : OpenClaim := { program := "ytlggmdlbhndacaadoor", sum := "72310c5c0b5c30935f87aac6a3f97753dc729fd7ee9ca1f19320bcdf75b13aa7", func := "tourbillon/tourbillonlaw03.LexJoins", spec := "lexJoins", inPlace := ["internal/bytealg.CountString", "internal/bytealg.IndexByteString", "internal/bytealg.IndexString"], named := ["unicode/utf8.first", "unicode/utf8.acceptRanges", "internal/bytealg.MaxLen"], apart := false, laid := [("unicode/utf8.acceptRanges", laid_unicode_utf8_acceptRanges), ("unicode/utf8.first", laid_unicode_utf8_first)] }
def LexJoinsSaid : Prop := lexJoinsRow.holds Tryd.pinned (OpenSpec.ofChange lexJoinsSpec)

/-- ITS FALSE NEIGHBOUR: 'it returns false'. Refute it at one input. -/
def lexJoinsWrong : ChangeSpec := { name := "lexJoins", fn := fun _ => fun
  | [d1, d2] => { results := [.lit (.bool false)], args := [d1, d2] }
  | _ => none }
def LexJoinsWrongFalsely : Prop := lexJoinsRow.holds Tryd.pinned (OpenSpec.ofChange lexJoinsWrong)

/-- 'tourbillonlaw04.SexpIs': WHATEVER THE INPUT: true; the input reads as it did. -/
def sexpIsSpec : ChangeSpec := { name := "sexpIs", fn := fun _ => fun
  | [d] => { results := [.lit (.bool true)], args := [d] }
  | _ => none }
def sexpIsRow : OpenClaim := { program := "ytlggmdlbhndacaadoor", sum := "72310c5c0b5c30935f87aac6a3f97753dc729fd7ee9ca1f19320bcdf75b13aa7", func := "tourbillon/tourbillonlaw04.SexpIs", spec := "sexpIs", inPlace := ["internal/bytealg.CountString", "internal/bytealg.IndexByteString", "internal/bytealg.IndexString", "internal/abi.NoEscape"], recurses := true, named := ["unicode/utf8.first", "unicode/utf8.acceptRanges", "internal/bytealg.MaxLen"], apart := false, laid := [("unicode/utf8.acceptRanges", laid_unicode_utf8_acceptRanges), ("unicode/utf8.first", laid_unicode_utf8_first)] }
def SexpIsSaid : Prop := sexpIsRow.holds Tryd.pinned (OpenSpec.ofChange sexpIsSpec)

/-- ITS FALSE NEIGHBOUR: 'it returns false'. Refute it at one input. -/
def sexpIsWrong : ChangeSpec := { name := "sexpIs", fn := fun _ => fun
  | [d] => { results := [.lit (.bool false)], args := [d] }
  | _ => none }
def SexpIsWrongFalsely : Prop := sexpIsRow.holds Tryd.pinned (OpenSpec.ofChange sexpIsWrong)

/-- 'tourbillonlaw04.SexpBack': WHATEVER THE INPUT: true; the input reads as it did. -/
def sexpBackSpec : ChangeSpec := { name := "sexpBack", fn := fun _ => fun
  | [d] => { results := [.lit (.bool true)], args := [d] }
  | _ => none }
def sexpBackRow : OpenClaim := { program := "ytlggmdlbhndacaadoor", sum := "72310c5c0b5c30935f87aac6a3f97753dc729fd7ee9ca1f19320bcdf75b13aa7", func := "tourbillon/tourbillonlaw04.SexpBack", spec := "sexpBack", inPlace := ["internal/bytealg.CountString", "internal/bytealg.IndexByteString", "internal/bytealg.IndexString", "internal/abi.NoEscape"], recurses := true, named := ["unicode/utf8.first", "unicode/utf8.acceptRanges", "internal/bytealg.MaxLen"], apart := false, laid := [("unicode/utf8.acceptRanges", laid_unicode_utf8_acceptRanges), ("unicode/utf8.first", laid_unicode_utf8_first)] }
def SexpBackSaid : Prop := sexpBackRow.holds Tryd.pinned (OpenSpec.ofChange sexpBackSpec)

/-- ITS FALSE NEIGHBOUR: 'it returns false'. Refute it at one input. -/
def sexpBackWrong : ChangeSpec := { name := "sexpBack", fn := fun _ => fun
  | [d] => { results := [.lit (.bool false)], args := [d] }
  | _ => none }
def SexpBackWrongFalsely : Prop := sexpBackRow.holds Tryd.pinned (OpenSpec.ofChange sexpBackWrong)

/-- 'tourbillonlaw04.SexpWords': WHATEVER THE INPUT: true; the input reads as it did. -/
def sexpWordsSpec : ChangeSpec := { name := "sexpWords", fn := fun _ => fun
  | [d] => { results := [.lit (.bool true)], args := [d] }
  | _ => none }
def sexpWordsRow : OpenClaim := { program := "ytlggmdlbhndacaadoor", sum := "72310c5c0b5c30935f87aac6a3f97753dc729fd7ee9ca1f19320bcdf75b13aa7", func := "tourbillon/tourbillonlaw04.SexpWords", spec := "sexpWords", inPlace := ["internal/bytealg.CountString", "internal/bytealg.IndexByteString", "internal/bytealg.IndexString", "internal/abi.NoEscape"], recurses := true, named := ["unicode/utf8.first", "unicode/utf8.acceptRanges", "internal/bytealg.MaxLen"], loops := true, apart := false, laid := [("unicode/utf8.acceptRanges", laid_unicode_utf8_acceptRanges), ("unicode/utf8.first", laid_unicode_utf8_first)] }
def SexpWordsSaid : Prop := sexpWordsRow.holds Tryd.pinned (OpenSpec.ofChange sexpWordsSpec)

/-- ITS FALSE NEIGHBOUR: 'it returns false'. Refute it at one input. -/
def sexpWordsWrong : ChangeSpec := { name := "sexpWords", fn := fun _ => fun
  | [d] => { results := [.lit (.bool false)], args := [d] }
  | _ => none }
def SexpWordsWrongFalsely : Prop := sexpWordsRow.holds Tryd.pinned (OpenSpec.ofChange sexpWordsWrong)

/- THE SECOND FORM. 'bulk': how many values and letters a reading holds, each counted each time it is reached (what is shared counts as often as it is met; a slice's spare places count too). A statement '..UptoSaid' is the law's where the arguments, and the package variables that the reading takes, are together of bulk at most 1048576: NARROWER than '..Said'. Prove '..Said' where nothing that the law and all that it calls make is longer than what came in: it says more and counts as full. Else prove '..UptoSaid'. A law counts once. -/
mutual
def uptoBulk {H : Type} : DataW H → Nat
  | .lit (.string bytes) => bytes.length + 1
  | .lit _ => 1
  | .nil => 1
  | .ptr d => uptoBulk d + 1
  | .slice elems spare => uptoBulkAll elems + uptoBulkAll spare + 1
  | .agg parts => uptoBulkAll parts + 1
  | .iface _ d => uptoBulk d + 1
  | .map entries => uptoBulkEntries entries + 1
  | .held _ => 1
def uptoBulkAll {H : Type} : List (DataW H) → Nat
  | [] => 0
  | d :: r => uptoBulk d + uptoBulkAll r
def uptoBulkEntries {H : Type} : List (Lit × DataW H) → Nat
  | [] => 0
  | x :: r => uptoBulkEntry x + uptoBulkEntries r
def uptoBulkEntry {H : Type} : Lit × DataW H → Nat
  | (.string bytes, d) => bytes.length + uptoBulk d + 1
  | (_, d) => uptoBulk d + 1
 end
def uptoSmall : (H : Type) → List (DataW H) → Bool := fun _ ds => decide (uptoBulkAll ds ≤ 1048576)
def OpenSpec.upto (s : _root_.Go.ChangeSpec) : _root_.Go.OpenSpec := { _root_.Go.OpenSpec.ofChange s with cond := some uptoSmall }

/-- 'tourbillonlaw04.SexpDeep', WHERE WHAT IT READS IS OF BULK AT MOST 1048576: true; the input reads as it did. -/
def sexpDeepUptoRow : OpenClaim := { program := "ytlggmdlbhndacaadoor", sum := "72310c5c0b5c30935f87aac6a3f97753dc729fd7ee9ca1f19320bcdf75b13aa7", func := "tourbillon/tourbillonlaw04.SexpDeep", spec := "sexpDeep", inPlace := ["internal/bytealg.CountString", "internal/bytealg.IndexByteString", "internal/bytealg.IndexString", "internal/abi.NoEscape"], recurses := true, named := ["unicode/utf8.first", "unicode/utf8.acceptRanges", "internal/bytealg.MaxLen"], apart := false, laid := [("unicode/utf8.acceptRanges", laid_unicode_utf8_acceptRanges), ("unicode/utf8.first", laid_unicode_utf8_first)], narrowed := true }
def SexpDeepUptoSaid : Prop := sexpDeepUptoRow.holds Tryd.pinned (OpenSpec.upto sexpDeepSpec)

/-- 'tourbillonlaw04.SexpJoins', WHERE WHAT IT READS IS OF BULK AT MOST 1048576: true; the input reads as it did. -/
def sexpJoinsUptoRow : OpenClaim := { program := "ytlggmdlbhndacaadoor", sum := "72310c5c0b5c30935f87aac6a3f97753dc729fd7ee9ca1f19320bcdf75b13aa7", func := "tourbillon/tourbillonlaw04.SexpJoins", spec := "sexpJoins", inPlace := ["internal/bytealg.CountString", "internal/bytealg.IndexByteString", "internal/bytealg.IndexString", "internal/abi.NoEscape"], recurses := true, named := ["unicode/utf8.first", "unicode/utf8.acceptRanges", "internal/bytealg.MaxLen"], apart := false, laid := [("unicode/utf8.acceptRanges", laid_unicode_utf8_acceptRanges), ("unicode/utf8.first", laid_unicode_utf8_first)], narrowed := true }
def SexpJoinsUptoSaid : Prop := sexpJoinsUptoRow.holds Tryd.pinned (OpenSpec.upto sexpJoinsSpec)

/-- 'tourbillonlaw03.LexIs', WHERE WHAT IT READS IS OF BULK AT MOST 1048576: true; the input reads as it did. -/
def lexIsUptoRow : OpenClaim := { program := "ytlggmdlbhndacaadoor", sum := "72310c5c0b5c30935f87aac6a3f97753dc729fd7ee9ca1f19320bcdf75b13aa7", func := "tourbillon/tourbillonlaw03.LexIs", spec := "lexIs", inPlace := ["internal/bytealg.CountString", "internal/bytealg.IndexByteString", "internal/bytealg.IndexString"], named := ["unicode/utf8.first", "unicode/utf8.acceptRanges", "internal/bytealg.MaxLen"], apart := false, laid := [("unicode/utf8.acceptRanges", laid_unicode_utf8_acceptRanges), ("unicode/utf8.first", laid_unicode_utf8_first)], narrowed := true }
def LexIsUptoSaid : Prop := lexIsUptoRow.holds Tryd.pinned (OpenSpec.upto lexIsSpec)

/-- 'tourbillonlaw03.LexLines', WHERE WHAT IT READS IS OF BULK AT MOST 1048576: true; the input reads as it did. -/
def lexLinesUptoRow : OpenClaim := { program := "ytlggmdlbhndacaadoor", sum := "72310c5c0b5c30935f87aac6a3f97753dc729fd7ee9ca1f19320bcdf75b13aa7", func := "tourbillon/tourbillonlaw03.LexLines", spec := "lexLines", inPlace := ["internal/bytealg.CountString", "internal/bytealg.IndexByteString", "internal/bytealg.IndexString"], named := ["unicode/utf8.first", "unicode/utf8.acceptRanges", "internal/bytealg.MaxLen"], apart := false, laid := [("unicode/utf8.acceptRanges", laid_unicode_utf8_acceptRanges), ("unicode/utf8.first", laid_unicode_utf8_first)], narrowed := true }
def LexLinesUptoSaid : Prop := lexLinesUptoRow.holds Tryd.pinned (OpenSpec.upto lexLinesSpec)

/-- 'tourbillonlaw03.LexBlank', WHERE WHAT IT READS IS OF BULK AT MOST 1048576: true; the input reads as it did. -/
def lexBlankUptoRow : OpenClaim := { program := "ytlggmdlbhndacaadoor", sum := "72310c5c0b5c30935f87aac6a3f97753dc729fd7ee9ca1f19320bcdf75b13aa7", func := "tourbillon/tourbillonlaw03.LexBlank", spec := "lexBlank", inPlace := ["internal/bytealg.CountString", "internal/bytealg.IndexByteString", "internal/bytealg.IndexString"], named := ["unicode/utf8.first", "unicode/utf8.acceptRanges", "internal/bytealg.MaxLen"], apart := false, laid := [("unicode/utf8.acceptRanges", laid_unicode_utf8_acceptRanges), ("unicode/utf8.first", laid_unicode_utf8_first)], narrowed := true }
def LexBlankUptoSaid : Prop := lexBlankUptoRow.holds Tryd.pinned (OpenSpec.upto lexBlankSpec)

/-- 'tourbillonlaw03.LexLong', WHERE WHAT IT READS IS OF BULK AT MOST 1048576: true; the input reads as it did. -/
def lexLongUptoRow : OpenClaim := { program := "ytlggmdlbhndacaadoor", sum := "72310c5c0b5c30935f87aac6a3f97753dc729fd7ee9ca1f19320bcdf75b13aa7", func := "tourbillon/tourbillonlaw03.LexLong", spec := "lexLong", inPlace := ["internal/bytealg.CountString", "internal/bytealg.IndexByteString", "internal/bytealg.IndexString"], named := ["unicode/utf8.first", "unicode/utf8.acceptRanges", "internal/bytealg.MaxLen"], apart := false, laid := [("unicode/utf8.acceptRanges", laid_unicode_utf8_acceptRanges), ("unicode/utf8.first", laid_unicode_utf8_first)], narrowed := true }
def LexLongUptoSaid : Prop := lexLongUptoRow.holds Tryd.pinned (OpenSpec.upto lexLongSpec)

/-- 'tourbillonlaw03.LexJoins', WHERE WHAT IT READS IS OF BULK AT MOST 1048576: true; the input reads as it did. -/
def lexJoinsUptoRow : OpenClaim := { program := "ytlggmdlbhndacaadoor", sum := "72310c5c0b5c30935f87aac6a3f97753dc729fd7ee9ca1f19320bcdf75b13aa7", func := "tourbillon/tourbillonlaw03.LexJoins", spec := "lexJoins", inPlace := ["internal/bytealg.CountString", "internal/bytealg.IndexByteString", "internal/bytealg.IndexString"], named := ["unicode/utf8.first", "unicode/utf8.acceptRanges", "internal/bytealg.MaxLen"], apart := false, laid := [("unicode/utf8.acceptRanges", laid_unicode_utf8_acceptRanges), ("unicode/utf8.first", laid_unicode_utf8_first)], narrowed := true }
def LexJoinsUptoSaid : Prop := lexJoinsUptoRow.holds Tryd.pinned (OpenSpec.upto lexJoinsSpec)

/-- 'tourbillonlaw04.SexpIs', WHERE WHAT IT READS IS OF BULK AT MOST 1048576: true; the input reads as it did. -/
def sexpIsUptoRow : OpenClaim := { program := "ytlggmdlbhndacaadoor", sum := "72310c5c0b5c30935f87aac6a3f97753dc729fd7ee9ca1f19320bcdf75b13aa7", func := "tourbillon/tourbillonlaw04.SexpIs", spec := "sexpIs", inPlace := ["internal/bytealg.CountString", "internal/bytealg.IndexByteString", "internal/bytealg.IndexString", "internal/abi.NoEscape"], recurses := true, named := ["unicode/utf8.first", "unicode/utf8.acceptRanges", "internal/bytealg.MaxLen"], apart := false, laid := [("unicode/utf8.acceptRanges", laid_unicode_utf8_acceptRanges), ("unicode/utf8.first", laid_unicode_utf8_first)], narrowed := true }
def SexpIsUptoSaid : Prop := sexpIsUptoRow.holds Tryd.pinned (OpenSpec.upto sexpIsSpec)

/-- 'tourbillonlaw04.SexpBack', WHERE WHAT IT READS IS OF BULK AT MOST 1048576: true; the input reads as it did. -/
def sexpBackUptoRow : OpenClaim := { program := "ytlggmdlbhndacaadoor", sum := "72310c5c0b5c30935f87aac6a3f97753dc729fd7ee9ca1f19320bcdf75b13aa7", func := "tourbillon/tourbillonlaw04.SexpBack", spec := "sexpBack", inPlace := ["internal/bytealg.CountString", "internal/bytealg.IndexByteString", "internal/bytealg.IndexString", "internal/abi.NoEscape"], recurses := true, named := ["unicode/utf8.first", "unicode/utf8.acceptRanges", "internal/bytealg.MaxLen"], apart := false, laid := [("unicode/utf8.acceptRanges", laid_unicode_utf8_acceptRanges), ("unicode/utf8.first", laid_unicode_utf8_first)], narrowed := true }
def SexpBackUptoSaid : Prop := sexpBackUptoRow.holds Tryd.pinned (OpenSpec.upto sexpBackSpec)

/-- 'tourbillonlaw04.SexpWords', WHERE WHAT IT READS IS OF BULK AT MOST 1048576: true; the input reads as it did. -/
def sexpWordsUptoRow : OpenClaim := { program := "ytlggmdlbhndacaadoor", sum := "72310c5c0b5c30935f87aac6a3f97753dc729fd7ee9ca1f19320bcdf75b13aa7", func := "tourbillon/tourbillonlaw04.SexpWords", spec := "sexpWords", inPlace := ["internal/bytealg.CountString", "internal/bytealg.IndexByteString", "internal/bytealg.IndexString", "internal/abi.NoEscape"], recurses := true, named := ["unicode/utf8.first", "unicode/utf8.acceptRanges", "internal/bytealg.MaxLen"], loops := true, apart := false, laid := [("unicode/utf8.acceptRanges", laid_unicode_utf8_acceptRanges), ("unicode/utf8.first", laid_unicode_utf8_first)], narrowed := true }
def SexpWordsUptoSaid : Prop := sexpWordsUptoRow.holds Tryd.pinned (OpenSpec.upto sexpWordsSpec)

end Rows
end Go.Proofs.YtlggmdlbhndacaaDoor
