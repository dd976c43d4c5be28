/-
  DERIVED. GIVEN WITH THE SEED: THE CARDS: each row of YtldkgicmfbofiaaDoorRows.lean that lists a variable, with what it lists TIED to the program's text (the seventh form; the later family's looks); each row that meets fmt, with fmt's text TOLD by the authors' own Lean function (tested against real Go, not proved from fmt's source: count such statements apart). THE CARD IS WHAT COUNTS. Prove the row's statement (the work); the ties are given (YtldkgicmfbofiaaDoorTie.lean); close each card by the builder's one call (the guide's Derived/Test/ToyasCard.lean, 'card_holds'). Laid BY PROGRAM, IN A SANDBOX (cutbox-door.mjs). By AI agents, Wed Nov 11 2026. No macro, syntax, notation, axiom, sorry.
-/
import Derived.Test.YtldkgicmfbofiaaDoorRows
import GoSem.ClaimSeven
namespace Go.Proofs.YtldkgicmfbofiaaDoor
namespace Rows

/-- THE TIED CARD OF 'bywaylaw02.RouteRight'. -/
def routeRightCard : Claim7 := { stood := { row := routeRightRow, standIns := [], harness := (true, "a83c33a64d49ea4dc2f67d4176edcc26b63f1b2777d047e08585eba6c38ec7f3"), looks := false }, kinds := [], alts := [], laidByText := true, laidKinds := [.data, .data, .data, .data, .pinned], laidTests := true, laidLooks := .later }
def RouteRightCardSaid : Prop := Claim7.holds Tryd.pinned (.plain (OpenSpec.ofChange routeRightSpec)) routeRightCard

/-- THE TIED CARD OF 'bywaylaw02.RouteBack'. -/
def routeBackCard : Claim7 := { stood := { row := routeBackRow, standIns := [], harness := (true, "a83c33a64d49ea4dc2f67d4176edcc26b63f1b2777d047e08585eba6c38ec7f3"), looks := false }, kinds := [], alts := [], laidByText := true, laidKinds := [.data, .data, .data, .data, .pinned], laidTests := true, laidLooks := .later }
def RouteBackCardSaid : Prop := Claim7.holds Tryd.pinned (.plain (OpenSpec.ofChange routeBackSpec)) routeBackCard

/-- THE TIED CARD OF 'bywaylaw02.RouteKeys'. -/
def routeKeysCard : Claim7 := { stood := { row := routeKeysRow, standIns := [], harness := (true, "a83c33a64d49ea4dc2f67d4176edcc26b63f1b2777d047e08585eba6c38ec7f3"), looks := false }, kinds := [], alts := [], laidByText := true, laidKinds := [.data, .data, .data, .data, .pinned], laidTests := true, laidLooks := .later }
def RouteKeysCardSaid : Prop := Claim7.holds Tryd.pinned (.plain (OpenSpec.ofChange routeKeysSpec)) routeKeysCard

/-- THE SECOND FORM's CARD OF 'bywaylaw02.RouteRight'. -/
def routeRightUptoCard : Claim7 := { stood := { row := routeRightUptoRow, standIns := [], harness := (true, "a83c33a64d49ea4dc2f67d4176edcc26b63f1b2777d047e08585eba6c38ec7f3"), looks := false }, kinds := [], alts := [], laidByText := true, laidKinds := [.data, .data, .data, .data, .pinned], laidTests := true, laidLooks := .later }
def RouteRightUptoCardSaid : Prop := Claim7.holds Tryd.pinned (.plain (OpenSpec.upto routeRightSpec)) routeRightUptoCard

/-- THE SECOND FORM's CARD OF 'bywaylaw02.RouteBack'. -/
def routeBackUptoCard : Claim7 := { stood := { row := routeBackUptoRow, standIns := [], harness := (true, "a83c33a64d49ea4dc2f67d4176edcc26b63f1b2777d047e08585eba6c38ec7f3"), looks := false }, kinds := [], alts := [], laidByText := true, laidKinds := [.data, .data, .data, .data, .pinned], laidTests := true, laidLooks := .later }
def RouteBackUptoCardSaid : Prop := Claim7.holds Tryd.pinned (.plain (OpenSpec.upto routeBackSpec)) routeBackUptoCard

/-- THE SECOND FORM's CARD OF 'bywaylaw02.RouteKeys'. -/
def routeKeysUptoCard : Claim7 := { stood := { row := routeKeysUptoRow, standIns := [], harness := (true, "a83c33a64d49ea4dc2f67d4176edcc26b63f1b2777d047e08585eba6c38ec7f3"), looks := false }, kinds := [], alts := [], laidByText := true, laidKinds := [.data, .data, .data, .data, .pinned], laidTests := true, laidLooks := .later }
def RouteKeysUptoCardSaid : Prop := Claim7.holds Tryd.pinned (.plain (OpenSpec.upto routeKeysSpec)) routeKeysUptoCard
end Rows
end Go.Proofs.YtldkgicmfbofiaaDoor
