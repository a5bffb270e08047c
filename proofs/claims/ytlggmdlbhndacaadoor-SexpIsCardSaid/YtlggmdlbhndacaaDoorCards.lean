/-
  DERIVED. GIVEN WITH THE SEED: THE CARDS: each row of YtlggmdlbhndacaaDoorRows.lean that lists a variable, with what it lists TIED to the program's text (the seventh form; the later family's looks); each row that meets fmt, with fmt's text TOLD by the authors' own Lean function (tested against real Go, not proved from fmt's source: count such statements apart). THE CARD IS WHAT COUNTS. Prove the row's statement (the work); the ties are given (YtlggmdlbhndacaaDoorTie.lean); close each card by the builder's one call (the guide's Derived/Test/ToyasCard.lean, 'card_holds'). Laid BY PROGRAM, IN A SANDBOX (cutbox-door.mjs). By AI agents, Wed Nov 11 2026. No macro, syntax, notation, axiom, sorry.
-/
import Derived.Test.YtlggmdlbhndacaaDoorRows
import GoSem.ClaimSeven
namespace Go.Proofs.YtlggmdlbhndacaaDoor
namespace Rows

/-- THE TIED CARD OF 'tourbillonlaw04.SexpDeep'. -/
def sexpDeepCard : Claim7 := { stood := { row := sexpDeepRow, standIns := [], harness := (true, "a05c5ae144f72c1f3e8fbe681aa57777e825eddb1b5a12ec59fa77bc236737a8"), looks := false }, kinds := [], alts := [], laidByText := true, laidKinds := [.data, .pinned], laidTests := true, laidLooks := .later }
def SexpDeepCardSaid : Prop := Claim7.holds Tryd.pinned (.plain (OpenSpec.ofChange sexpDeepSpec)) sexpDeepCard

/-- THE TIED CARD OF 'tourbillonlaw04.SexpJoins'. -/
def sexpJoinsCard : Claim7 := { stood := { row := sexpJoinsRow, standIns := [], harness := (true, "a05c5ae144f72c1f3e8fbe681aa57777e825eddb1b5a12ec59fa77bc236737a8"), looks := false }, kinds := [], alts := [], laidByText := true, laidKinds := [.data, .pinned], laidTests := true, laidLooks := .later }
def SexpJoinsCardSaid : Prop := Claim7.holds Tryd.pinned (.plain (OpenSpec.ofChange sexpJoinsSpec)) sexpJoinsCard

/-- THE TIED CARD OF 'tourbillonlaw03.LexIs'. -/
def lexIsCard : Claim7 := { stood := { row := lexIsRow, standIns := [], harness := (true, "a05c5ae144f72c1f3e8fbe681aa57777e825eddb1b5a12ec59fa77bc236737a8"), looks := false }, kinds := [], alts := [], laidByText := true, laidKinds := [.data, .pinned], laidTests := true, laidLooks := .later }
def LexIsCardSaid : Prop := Claim7.holds Tryd.pinned (.plain (OpenSpec.ofChange lexIsSpec)) lexIsCard

/-- THE TIED CARD OF 'tourbillonlaw03.LexLines'. -/
def lexLinesCard : Claim7 := { stood := { row := lexLinesRow, standIns := [], harness := (true, "a05c5ae144f72c1f3e8fbe681aa57777e825eddb1b5a12ec59fa77bc236737a8"), looks := false }, kinds := [], alts := [], laidByText := true, laidKinds := [.data, .pinned], laidTests := true, laidLooks := .later }
def LexLinesCardSaid : Prop := Claim7.holds Tryd.pinned (.plain (OpenSpec.ofChange lexLinesSpec)) lexLinesCard

/-- THE TIED CARD OF 'tourbillonlaw03.LexBlank'. -/
def lexBlankCard : Claim7 := { stood := { row := lexBlankRow, standIns := [], harness := (true, "a05c5ae144f72c1f3e8fbe681aa57777e825eddb1b5a12ec59fa77bc236737a8"), looks := false }, kinds := [], alts := [], laidByText := true, laidKinds := [.data, .pinned], laidTests := true, laidLooks := .later }
def LexBlankCardSaid : Prop := Claim7.holds Tryd.pinned (.plain (OpenSpec.ofChange lexBlankSpec)) lexBlankCard

/-- THE TIED CARD OF 'tourbillonlaw03.LexLong'. -/
def lexLongCard : Claim7 := { stood := { row := lexLongRow, standIns := [], harness := (true, "a05c5ae144f72c1f3e8fbe681aa57777e825eddb1b5a12ec59fa77bc236737a8"), looks := false }, kinds := [], alts := [], laidByText := true, laidKinds := [.data, .pinned], laidTests := true, laidLooks := .later }
def LexLongCardSaid : Prop := Claim7.holds Tryd.pinned (.plain (OpenSpec.ofChange lexLongSpec)) lexLongCard

/-- THE TIED CARD OF 'tourbillonlaw03.LexJoins'. -/
def lexJoinsCard : Claim7 := { stood := { row := lexJoinsRow, standIns := [], harness := (true, "a05c5ae144f72c1f3e8fbe681aa57777e825eddb1b5a12ec59fa77bc236737a8"), looks := false }, kinds := [], alts := [], laidByText := true, laidKinds := [.data, .pinned], laidTests := true, laidLooks := .later }
def LexJoinsCardSaid : Prop := Claim7.holds Tryd.pinned (.plain (OpenSpec.ofChange lexJoinsSpec)) lexJoinsCard

/-- THE TIED CARD OF 'tourbillonlaw04.SexpIs'. -/
def sexpIsCard : Claim7 := { stood := { row := sexpIsRow, standIns := [], harness := (true, "a05c5ae144f72c1f3e8fbe681aa57777e825eddb1b5a12ec59fa77bc236737a8"), looks := false }, kinds := [], alts := [], laidByText := true, laidKinds := [.data, .pinned], laidTests := true, laidLooks := .later }
def SexpIsCardSaid : Prop := Claim7.holds Tryd.pinned (.plain (OpenSpec.ofChange sexpIsSpec)) sexpIsCard

/-- THE TIED CARD OF 'tourbillonlaw04.SexpBack'. -/
def sexpBackCard : Claim7 := { stood := { row := sexpBackRow, standIns := [], harness := (true, "a05c5ae144f72c1f3e8fbe681aa57777e825eddb1b5a12ec59fa77bc236737a8"), looks := false }, kinds := [], alts := [], laidByText := true, laidKinds := [.data, .pinned], laidTests := true, laidLooks := .later }
def SexpBackCardSaid : Prop := Claim7.holds Tryd.pinned (.plain (OpenSpec.ofChange sexpBackSpec)) sexpBackCard

/-- THE TIED CARD OF 'tourbillonlaw04.SexpWords'. -/
def sexpWordsCard : Claim7 := { stood := { row := sexpWordsRow, standIns := [], harness := (true, "a05c5ae144f72c1f3e8fbe681aa57777e825eddb1b5a12ec59fa77bc236737a8"), looks := false }, kinds := [], alts := [], laidByText := true, laidKinds := [.data, .pinned], laidTests := true, laidLooks := .later }
def SexpWordsCardSaid : Prop := Claim7.holds Tryd.pinned (.plain (OpenSpec.ofChange sexpWordsSpec)) sexpWordsCard

/-- THE SECOND FORM's CARD OF 'tourbillonlaw04.SexpDeep'. -/
def sexpDeepUptoCard : Claim7 := { stood := { row := sexpDeepUptoRow, standIns := [], harness := (true, "a05c5ae144f72c1f3e8fbe681aa57777e825eddb1b5a12ec59fa77bc236737a8"), looks := false }, kinds := [], alts := [], laidByText := true, laidKinds := [.data, .pinned], laidTests := true, laidLooks := .later }
def SexpDeepUptoCardSaid : Prop := Claim7.holds Tryd.pinned (.plain (OpenSpec.upto sexpDeepSpec)) sexpDeepUptoCard

/-- THE SECOND FORM's CARD OF 'tourbillonlaw04.SexpJoins'. -/
def sexpJoinsUptoCard : Claim7 := { stood := { row := sexpJoinsUptoRow, standIns := [], harness := (true, "a05c5ae144f72c1f3e8fbe681aa57777e825eddb1b5a12ec59fa77bc236737a8"), looks := false }, kinds := [], alts := [], laidByText := true, laidKinds := [.data, .pinned], laidTests := true, laidLooks := .later }
def SexpJoinsUptoCardSaid : Prop := Claim7.holds Tryd.pinned (.plain (OpenSpec.upto sexpJoinsSpec)) sexpJoinsUptoCard

/-- THE SECOND FORM's CARD OF 'tourbillonlaw03.LexIs'. -/
def lexIsUptoCard : Claim7 := { stood := { row := lexIsUptoRow, standIns := [], harness := (true, "a05c5ae144f72c1f3e8fbe681aa57777e825eddb1b5a12ec59fa77bc236737a8"), looks := false }, kinds := [], alts := [], laidByText := true, laidKinds := [.data, .pinned], laidTests := true, laidLooks := .later }
def LexIsUptoCardSaid : Prop := Claim7.holds Tryd.pinned (.plain (OpenSpec.upto lexIsSpec)) lexIsUptoCard

/-- THE SECOND FORM's CARD OF 'tourbillonlaw03.LexLines'. -/
def lexLinesUptoCard : Claim7 := { stood := { row := lexLinesUptoRow, standIns := [], harness := (true, "a05c5ae144f72c1f3e8fbe681aa57777e825eddb1b5a12ec59fa77bc236737a8"), looks := false }, kinds := [], alts := [], laidByText := true, laidKinds := [.data, .pinned], laidTests := true, laidLooks := .later }
def LexLinesUptoCardSaid : Prop := Claim7.holds Tryd.pinned (.plain (OpenSpec.upto lexLinesSpec)) lexLinesUptoCard

/-- THE SECOND FORM's CARD OF 'tourbillonlaw03.LexBlank'. -/
def lexBlankUptoCard : Claim7 := { stood := { row := lexBlankUptoRow, standIns := [], harness := (true, "a05c5ae144f72c1f3e8fbe681aa57777e825eddb1b5a12ec59fa77bc236737a8"), looks := false }, kinds := [], alts := [], laidByText := true, laidKinds := [.data, .pinned], laidTests := true, laidLooks := .later }
def LexBlankUptoCardSaid : Prop := Claim7.holds Tryd.pinned (.plain (OpenSpec.upto lexBlankSpec)) lexBlankUptoCard

/-- THE SECOND FORM's CARD OF 'tourbillonlaw03.LexLong'. -/
def lexLongUptoCard : Claim7 := { stood := { row := lexLongUptoRow, standIns := [], harness := (true, "a05c5ae144f72c1f3e8fbe681aa57777e825eddb1b5a12ec59fa77bc236737a8"), looks := false }, kinds := [], alts := [], laidByText := true, laidKinds := [.data, .pinned], laidTests := true, laidLooks := .later }
def LexLongUptoCardSaid : Prop := Claim7.holds Tryd.pinned (.plain (OpenSpec.upto lexLongSpec)) lexLongUptoCard

/-- THE SECOND FORM's CARD OF 'tourbillonlaw03.LexJoins'. -/
def lexJoinsUptoCard : Claim7 := { stood := { row := lexJoinsUptoRow, standIns := [], harness := (true, "a05c5ae144f72c1f3e8fbe681aa57777e825eddb1b5a12ec59fa77bc236737a8"), looks := false }, kinds := [], alts := [], laidByText := true, laidKinds := [.data, .pinned], laidTests := true, laidLooks := .later }
def LexJoinsUptoCardSaid : Prop := Claim7.holds Tryd.pinned (.plain (OpenSpec.upto lexJoinsSpec)) lexJoinsUptoCard

/-- THE SECOND FORM's CARD OF 'tourbillonlaw04.SexpIs'. -/
def sexpIsUptoCard : Claim7 := { stood := { row := sexpIsUptoRow, standIns := [], harness := (true, "a05c5ae144f72c1f3e8fbe681aa57777e825eddb1b5a12ec59fa77bc236737a8"), looks := false }, kinds := [], alts := [], laidByText := true, laidKinds := [.data, .pinned], laidTests := true, laidLooks := .later }
def SexpIsUptoCardSaid : Prop := Claim7.holds Tryd.pinned (.plain (OpenSpec.upto sexpIsSpec)) sexpIsUptoCard

/-- THE SECOND FORM's CARD OF 'tourbillonlaw04.SexpBack'. -/
def sexpBackUptoCard : Claim7 := { stood := { row := sexpBackUptoRow, standIns := [], harness := (true, "a05c5ae144f72c1f3e8fbe681aa57777e825eddb1b5a12ec59fa77bc236737a8"), looks := false }, kinds := [], alts := [], laidByText := true, laidKinds := [.data, .pinned], laidTests := true, laidLooks := .later }
def SexpBackUptoCardSaid : Prop := Claim7.holds Tryd.pinned (.plain (OpenSpec.upto sexpBackSpec)) sexpBackUptoCard

/-- THE SECOND FORM's CARD OF 'tourbillonlaw04.SexpWords'. -/
def sexpWordsUptoCard : Claim7 := { stood := { row := sexpWordsUptoRow, standIns := [], harness := (true, "a05c5ae144f72c1f3e8fbe681aa57777e825eddb1b5a12ec59fa77bc236737a8"), looks := false }, kinds := [], alts := [], laidByText := true, laidKinds := [.data, .pinned], laidTests := true, laidLooks := .later }
def SexpWordsUptoCardSaid : Prop := Claim7.holds Tryd.pinned (.plain (OpenSpec.upto sexpWordsSpec)) sexpWordsUptoCard
end Rows
end Go.Proofs.YtlggmdlbhndacaaDoor
