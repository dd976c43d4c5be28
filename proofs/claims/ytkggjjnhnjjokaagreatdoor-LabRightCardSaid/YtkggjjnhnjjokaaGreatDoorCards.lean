/-
  DERIVED. GIVEN WITH THE SEED: THE CARDS: each row of YtkggjjnhnjjokaaGreatDoorRows.lean that lists a variable, with what it lists TIED to the program's text (the seventh form; the later family's looks); each row that meets fmt, with fmt's text TOLD by the authors' own Lean function (tested against real Go, not proved from fmt's source: count such statements apart). THE CARD IS WHAT COUNTS. Prove the row's statement (the work); the ties are given (YtkggjjnhnjjokaaGreatDoorTie.lean); close each card by the builder's one call (the guide's Derived/Test/ToyasCard.lean, 'card_holds'). Laid BY PROGRAM, IN A SANDBOX (cutbox-door.mjs). By AI agents, Wed Nov 11 2026. No macro, syntax, notation, axiom, sorry.
-/
import Derived.Test.YtkggjjnhnjjokaaGreatDoorRows
import GoSem.ClaimSeven
namespace Go.Proofs.YtkggjjnhnjjokaaGreatDoor
namespace Rows

/-- THE TIED CARD OF 'bywaytop.TopGroups'. -/
def topGroupsCard : Claim7 := { stood := { row := topGroupsRow, standIns := [], harness := (true, "52e7e4c474082fcaf5d11505ba5fca5241dca959981d0ff9b7a78ac1e7b0d2be"), looks := true }, kinds := [], alts := [], laidByText := true, laidKinds := [.data, .pinned], laidTests := true, laidLooks := .later }
def TopGroupsCardSaid : Prop := Claim7.holds Tryz.pinned (.plain (OpenSpec.ofChange topGroupsSpec)) topGroupsCard

/-- THE TIED CARD OF 'bywaytop.TopRange'. -/
def topRangeCard : Claim7 := { stood := { row := topRangeRow, standIns := [], harness := (true, "52e7e4c474082fcaf5d11505ba5fca5241dca959981d0ff9b7a78ac1e7b0d2be"), looks := true }, kinds := [], alts := [], laidByText := true, laidKinds := [.data, .pinned], laidTests := true, laidLooks := .later }
def TopRangeCardSaid : Prop := Claim7.holds Tryz.pinned (.plain (OpenSpec.ofChange topRangeSpec)) topRangeCard

/-- THE TIED CARD OF 'bywaytop.TopLean'. -/
def topLeanCard : Claim7 := { stood := { row := topLeanRow, standIns := [], harness := (true, "52e7e4c474082fcaf5d11505ba5fca5241dca959981d0ff9b7a78ac1e7b0d2be"), looks := true }, kinds := [], alts := [], laidByText := true, laidKinds := [.data, .pinned], laidTests := true, laidLooks := .later }
def TopLeanCardSaid : Prop := Claim7.holds Tryz.pinned (.plain (OpenSpec.ofChange topLeanSpec)) topLeanCard

/-- THE TIED CARD OF 'bywaylaw22.LabRight'. -/
def labRightCard : Claim7 := { stood := { row := labRightRow, standIns := [], harness := (true, "52e7e4c474082fcaf5d11505ba5fca5241dca959981d0ff9b7a78ac1e7b0d2be"), looks := true }, kinds := [], alts := [], laidByText := true, laidKinds := [.data, .data, .data, .data, .sentinel, .sentinel, .pinned], laidTests := true, laidLooks := .later }
def LabRightCardSaid : Prop := Claim7.holds Tryz.pinned (.plain (OpenSpec.ofChange labRightSpec)) labRightCard

/-- THE TIED CARD OF 'bywaylaw22.LabTells'. -/
def labTellsCard : Claim7 := { stood := { row := labTellsRow, standIns := [], harness := (true, "52e7e4c474082fcaf5d11505ba5fca5241dca959981d0ff9b7a78ac1e7b0d2be"), looks := true }, kinds := [], alts := [], laidByText := true, laidKinds := [.data, .data, .data, .data, .sentinel, .sentinel, .pinned], laidTests := true, laidLooks := .later }
def LabTellsCardSaid : Prop := Claim7.holds Tryz.pinned (.plain (OpenSpec.ofChange labTellsSpec)) labTellsCard

/-- THE TIED CARD OF 'bywaylaw22.LabWhole'. -/
def labWholeCard : Claim7 := { stood := { row := labWholeRow, standIns := [], harness := (true, "52e7e4c474082fcaf5d11505ba5fca5241dca959981d0ff9b7a78ac1e7b0d2be"), looks := true }, kinds := [], alts := [], laidByText := true, laidKinds := [.data, .data, .data, .data, .sentinel, .sentinel, .pinned], laidTests := true, laidLooks := .later }
def LabWholeCardSaid : Prop := Claim7.holds Tryz.pinned (.plain (OpenSpec.ofChange labWholeSpec)) labWholeCard

/-- THE TIED CARD OF 'bywaytop.TopPlays'. -/
def topPlaysCard : Claim7 := { stood := { row := topPlaysRow, standIns := [], harness := (true, "52e7e4c474082fcaf5d11505ba5fca5241dca959981d0ff9b7a78ac1e7b0d2be"), looks := true }, kinds := [], alts := [], laidByText := true, laidKinds := [.data, .pinned], laidTests := true, laidLooks := .later }
def TopPlaysCardSaid : Prop := Claim7.holds Tryz.pinned (.plain (OpenSpec.ofChange topPlaysSpec)) topPlaysCard

/-- THE TIED CARD OF 'bywaytop.TopLines'. -/
def topLinesCard : Claim7 := { stood := { row := topLinesRow, standIns := [], harness := (true, "52e7e4c474082fcaf5d11505ba5fca5241dca959981d0ff9b7a78ac1e7b0d2be"), looks := true }, kinds := [], alts := [], laidByText := true, laidKinds := [.data, .data, .data, .data, .pinned], laidTests := true, laidLooks := .later }
def TopLinesCardSaid : Prop := Claim7.holds Tryz.pinned (.plain (OpenSpec.ofChange topLinesSpec)) topLinesCard

/-- THE TIED CARD OF 'bywaytop.TopMerge'. -/
def topMergeCard : Claim7 := { stood := { row := topMergeRow, standIns := [], harness := (true, "52e7e4c474082fcaf5d11505ba5fca5241dca959981d0ff9b7a78ac1e7b0d2be"), looks := true }, kinds := [], alts := [], laidByText := true, laidKinds := [.data, .pinned], laidTests := true, laidLooks := .later }
def TopMergeCardSaid : Prop := Claim7.holds Tryz.pinned (.plain (OpenSpec.ofChange topMergeSpec)) topMergeCard

/-- THE SECOND FORM's CARD OF 'bywaytop.TopGroups'. -/
def topGroupsUptoCard : Claim7 := { stood := { row := topGroupsUptoRow, standIns := [], harness := (true, "52e7e4c474082fcaf5d11505ba5fca5241dca959981d0ff9b7a78ac1e7b0d2be"), looks := true }, kinds := [], alts := [], laidByText := true, laidKinds := [.data, .pinned], laidTests := true, laidLooks := .later }
def TopGroupsUptoCardSaid : Prop := Claim7.holds Tryz.pinned (.plain (OpenSpec.upto topGroupsSpec)) topGroupsUptoCard

/-- THE SECOND FORM's CARD OF 'bywaytop.TopRange'. -/
def topRangeUptoCard : Claim7 := { stood := { row := topRangeUptoRow, standIns := [], harness := (true, "52e7e4c474082fcaf5d11505ba5fca5241dca959981d0ff9b7a78ac1e7b0d2be"), looks := true }, kinds := [], alts := [], laidByText := true, laidKinds := [.data, .pinned], laidTests := true, laidLooks := .later }
def TopRangeUptoCardSaid : Prop := Claim7.holds Tryz.pinned (.plain (OpenSpec.upto topRangeSpec)) topRangeUptoCard

/-- THE SECOND FORM's CARD OF 'bywaytop.TopLean'. -/
def topLeanUptoCard : Claim7 := { stood := { row := topLeanUptoRow, standIns := [], harness := (true, "52e7e4c474082fcaf5d11505ba5fca5241dca959981d0ff9b7a78ac1e7b0d2be"), looks := true }, kinds := [], alts := [], laidByText := true, laidKinds := [.data, .pinned], laidTests := true, laidLooks := .later }
def TopLeanUptoCardSaid : Prop := Claim7.holds Tryz.pinned (.plain (OpenSpec.upto topLeanSpec)) topLeanUptoCard

/-- THE SECOND FORM's CARD OF 'bywaylaw22.LabRight'. -/
def labRightUptoCard : Claim7 := { stood := { row := labRightUptoRow, standIns := [], harness := (true, "52e7e4c474082fcaf5d11505ba5fca5241dca959981d0ff9b7a78ac1e7b0d2be"), looks := true }, kinds := [], alts := [], laidByText := true, laidKinds := [.data, .data, .data, .data, .sentinel, .sentinel, .pinned], laidTests := true, laidLooks := .later }
def LabRightUptoCardSaid : Prop := Claim7.holds Tryz.pinned (.plain (OpenSpec.upto labRightSpec)) labRightUptoCard

/-- THE SECOND FORM's CARD OF 'bywaylaw22.LabTells'. -/
def labTellsUptoCard : Claim7 := { stood := { row := labTellsUptoRow, standIns := [], harness := (true, "52e7e4c474082fcaf5d11505ba5fca5241dca959981d0ff9b7a78ac1e7b0d2be"), looks := true }, kinds := [], alts := [], laidByText := true, laidKinds := [.data, .data, .data, .data, .sentinel, .sentinel, .pinned], laidTests := true, laidLooks := .later }
def LabTellsUptoCardSaid : Prop := Claim7.holds Tryz.pinned (.plain (OpenSpec.upto labTellsSpec)) labTellsUptoCard

/-- THE SECOND FORM's CARD OF 'bywaylaw22.LabWhole'. -/
def labWholeUptoCard : Claim7 := { stood := { row := labWholeUptoRow, standIns := [], harness := (true, "52e7e4c474082fcaf5d11505ba5fca5241dca959981d0ff9b7a78ac1e7b0d2be"), looks := true }, kinds := [], alts := [], laidByText := true, laidKinds := [.data, .data, .data, .data, .sentinel, .sentinel, .pinned], laidTests := true, laidLooks := .later }
def LabWholeUptoCardSaid : Prop := Claim7.holds Tryz.pinned (.plain (OpenSpec.upto labWholeSpec)) labWholeUptoCard

/-- THE SECOND FORM's CARD OF 'bywaytop.TopPlays'. -/
def topPlaysUptoCard : Claim7 := { stood := { row := topPlaysUptoRow, standIns := [], harness := (true, "52e7e4c474082fcaf5d11505ba5fca5241dca959981d0ff9b7a78ac1e7b0d2be"), looks := true }, kinds := [], alts := [], laidByText := true, laidKinds := [.data, .pinned], laidTests := true, laidLooks := .later }
def TopPlaysUptoCardSaid : Prop := Claim7.holds Tryz.pinned (.plain (OpenSpec.upto topPlaysSpec)) topPlaysUptoCard

/-- THE SECOND FORM's CARD OF 'bywaytop.TopLines'. -/
def topLinesUptoCard : Claim7 := { stood := { row := topLinesUptoRow, standIns := [], harness := (true, "52e7e4c474082fcaf5d11505ba5fca5241dca959981d0ff9b7a78ac1e7b0d2be"), looks := true }, kinds := [], alts := [], laidByText := true, laidKinds := [.data, .data, .data, .data, .pinned], laidTests := true, laidLooks := .later }
def TopLinesUptoCardSaid : Prop := Claim7.holds Tryz.pinned (.plain (OpenSpec.upto topLinesSpec)) topLinesUptoCard

/-- THE SECOND FORM's CARD OF 'bywaytop.TopMerge'. -/
def topMergeUptoCard : Claim7 := { stood := { row := topMergeUptoRow, standIns := [], harness := (true, "52e7e4c474082fcaf5d11505ba5fca5241dca959981d0ff9b7a78ac1e7b0d2be"), looks := true }, kinds := [], alts := [], laidByText := true, laidKinds := [.data, .pinned], laidTests := true, laidLooks := .later }
def TopMergeUptoCardSaid : Prop := Claim7.holds Tryz.pinned (.plain (OpenSpec.upto topMergeSpec)) topMergeUptoCard
end Rows
end Go.Proofs.YtkggjjnhnjjokaaGreatDoor
