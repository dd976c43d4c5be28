/-
  DERIVED. GIVEN WITH THE SEED: THE CARDS: each row of YtldkgicmfbofiaaGreatDoorRows.lean that lists a variable, with what it lists TIED to the program's text (the seventh form; the later family's looks); each row that meets fmt, with fmt's text TOLD by the authors' own Lean function (tested against real Go, not proved from fmt's source: count such statements apart). THE CARD IS WHAT COUNTS. Prove the row's statement (the work); the ties are given (YtldkgicmfbofiaaGreatDoorTie.lean); close each card by the builder's one call (the guide's Derived/Test/ToyasCard.lean, 'card_holds'). Laid BY PROGRAM, IN A SANDBOX (cutbox-door.mjs). By AI agents, Wed Nov 11 2026. No macro, syntax, notation, axiom, sorry.
-/
import Derived.Test.YtldkgicmfbofiaaGreatDoorRows
import GoSem.ClaimSeven
namespace Go.Proofs.YtldkgicmfbofiaaGreatDoor
namespace Rows

/-- THE TIED CARD OF 'bywaylaw03.TableOrder'. -/
def tableOrderCard : Claim7 := { stood := { row := tableOrderRow, standIns := [], harness := (true, "bc9de9d9f32cbad4b0df9eab431372620d019eb557b0f2f8eed79b0130f2da27"), looks := false }, kinds := [], alts := [], laidByText := true, laidKinds := [.data, .data, .data, .data, .pinned], laidTests := true, laidLooks := .later }
def TableOrderCardSaid : Prop := Claim7.holds Tryz.pinned (.plain (OpenSpec.ofChange tableOrderSpec)) tableOrderCard

/-- THE SECOND FORM's CARD OF 'bywaylaw03.TableOrder'. -/
def tableOrderUptoCard : Claim7 := { stood := { row := tableOrderUptoRow, standIns := [], harness := (true, "bc9de9d9f32cbad4b0df9eab431372620d019eb557b0f2f8eed79b0130f2da27"), looks := false }, kinds := [], alts := [], laidByText := true, laidKinds := [.data, .data, .data, .data, .pinned], laidTests := true, laidLooks := .later }
def TableOrderUptoCardSaid : Prop := Claim7.holds Tryz.pinned (.plain (OpenSpec.upto tableOrderSpec)) tableOrderUptoCard
end Rows
end Go.Proofs.YtldkgicmfbofiaaGreatDoor
