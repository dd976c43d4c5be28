/-
  No cell of these rows narrows 'for every input' (looked for: loops, veiled, ifaces, maps, wideKeys, modest, calm, conditions, laid).
  DERIVED. THE GIVEN ROWS OF THIS SEAT. 9 by the template 'for every input the law returns true; each argument reads behind the call as it read before'; 0 by the template 'total and deterministic' (their statements: YtldkgicmfbofiaaTotals.lean).
  GIVEN WITH THE SEED: the statements are not yours to turn. If you find one false, say at which input.
  Laid BY PROGRAM, IN A SANDBOX (cutbox-rows.mjs): the forced cells as the released guide's own fill.sh prints them over the translation 577dbaa7b62de10b… (all of the seat's roots in one cut). By AI agents, Wed Nov 11 2026. No macro, syntax, notation, axiom, sorry.
-/
import Derived.Test.YtldkgicmfbofiaaChecked
import GoSem.Claim
import GoSem.ClaimJoined
import GoSem.ClaimMapViews
import Derived.JoinedTies
import Derived.KernelRfl
namespace Go.Proofs.Ytldkgicmfbofiaa
/- THE CELL 'sum', in the pinned program and in every row, IS THE sha256 OF THE DUMP (.gsa) THAT YtldkgicmfbofiaaProg.lean LOADS. Nothing in Lean hashes anything: it is a label: what it is worth is what the hold of that sum in a sandbox is worth. -/
noncomputable def Try.pinned : Pinned := { name := "ytldkgicmfbofiaa", sum := "577dbaa7b62de10b2bc51d0efde16c91ac5b1c49b539d0a4cb0b752af393522e", checked := Try.checked }
namespace Rows
def none {H : Type} : Left H := { results := [], args := [] }

/-- 'bywaylaw03.TableRight': WHATEVER THE INPUT: true; the input reads as it did. -/
def tableRightSpec : ChangeSpec := { name := "tableRight", fn := fun _ => fun
  | [d1, d2, d3, d4, d5, d6] => { results := [.lit (.bool true)], args := [d1, d2, d3, d4, d5, d6] }
  | _ => none }
def tableRightRow : OpenClaim := { program := "ytldkgicmfbofiaa", sum := "577dbaa7b62de10b2bc51d0efde16c91ac5b1c49b539d0a4cb0b752af393522e", func := "byway/bywaylaw03.TableRight", spec := "tableRight", inPlace := ["internal/bytealg.Compare", "slices.overlaps[byway/api.Route]", "internal/reflectlite.ValueOf", "internal/reflectlite.Swapper", "(internal/reflectlite.Value).Len"], unfollowed := true, recurses := true, apart := false }
def TableRightSaid : Prop := tableRightRow.holds Try.pinned (OpenSpec.ofChange tableRightSpec)

/-- ITS FALSE NEIGHBOUR: 'it returns false'. Refute it at one input. -/
def tableRightWrong : ChangeSpec := { name := "tableRight", fn := fun _ => fun
  | [d1, d2, d3, d4, d5, d6] => { results := [.lit (.bool false)], args := [d1, d2, d3, d4, d5, d6] }
  | _ => none }
def TableRightWrongFalsely : Prop := tableRightRow.holds Try.pinned (OpenSpec.ofChange tableRightWrong)

/-- 'bywaylaw03.TableBest': WHATEVER THE INPUT: true; the input reads as it did. -/
def tableBestSpec : ChangeSpec := { name := "tableBest", fn := fun _ => fun
  | [d1, d2, d3] => { results := [.lit (.bool true)], args := [d1, d2, d3] }
  | _ => none }
def tableBestRow : OpenClaim := { program := "ytldkgicmfbofiaa", sum := "577dbaa7b62de10b2bc51d0efde16c91ac5b1c49b539d0a4cb0b752af393522e", func := "byway/bywaylaw03.TableBest", spec := "tableBest", inPlace := ["internal/bytealg.Compare", "slices.overlaps[byway/api.Route]", "internal/reflectlite.ValueOf", "internal/reflectlite.Swapper", "(internal/reflectlite.Value).Len"], unfollowed := true, recurses := true, apart := false }
def TableBestSaid : Prop := tableBestRow.holds Try.pinned (OpenSpec.ofChange tableBestSpec)

/-- ITS FALSE NEIGHBOUR: 'it returns false'. Refute it at one input. -/
def tableBestWrong : ChangeSpec := { name := "tableBest", fn := fun _ => fun
  | [d1, d2, d3] => { results := [.lit (.bool false)], args := [d1, d2, d3] }
  | _ => none }
def TableBestWrongFalsely : Prop := tableBestRow.holds Try.pinned (OpenSpec.ofChange tableBestWrong)

/-- 'bywaylaw03.TableChanges': WHATEVER THE INPUT: true; the input reads as it did. -/
def tableChangesSpec : ChangeSpec := { name := "tableChanges", fn := fun _ => fun
  | [d1, d2] => { results := [.lit (.bool true)], args := [d1, d2] }
  | _ => none }
def tableChangesRow : OpenClaim := { program := "ytldkgicmfbofiaa", sum := "577dbaa7b62de10b2bc51d0efde16c91ac5b1c49b539d0a4cb0b752af393522e", func := "byway/bywaylaw03.TableChanges", spec := "tableChanges", inPlace := ["internal/bytealg.Compare", "slices.overlaps[byway/api.Route]", "internal/reflectlite.ValueOf", "internal/reflectlite.Swapper", "(internal/reflectlite.Value).Len"], unfollowed := true, recurses := true, apart := false }
def TableChangesSaid : Prop := tableChangesRow.holds Try.pinned (OpenSpec.ofChange tableChangesSpec)

/-- ITS FALSE NEIGHBOUR: 'it returns false'. Refute it at one input. -/
def tableChangesWrong : ChangeSpec := { name := "tableChanges", fn := fun _ => fun
  | [d1, d2] => { results := [.lit (.bool false)], args := [d1, d2] }
  | _ => none }
def TableChangesWrongFalsely : Prop := tableChangesRow.holds Try.pinned (OpenSpec.ofChange tableChangesWrong)

/-- 'bywaylaw03.TableHalves': WHATEVER THE INPUT: true; the input reads as it did. -/
def tableHalvesSpec : ChangeSpec := { name := "tableHalves", fn := fun _ => fun
  | [d1, d2, d3, d4] => { results := [.lit (.bool true)], args := [d1, d2, d3, d4] }
  | _ => none }
def tableHalvesRow : OpenClaim := { program := "ytldkgicmfbofiaa", sum := "577dbaa7b62de10b2bc51d0efde16c91ac5b1c49b539d0a4cb0b752af393522e", func := "byway/bywaylaw03.TableHalves", spec := "tableHalves", inPlace := ["internal/bytealg.Compare", "slices.overlaps[byway/api.Route]", "internal/reflectlite.ValueOf", "internal/reflectlite.Swapper", "(internal/reflectlite.Value).Len"], unfollowed := true, recurses := true, apart := false }
def TableHalvesSaid : Prop := tableHalvesRow.holds Try.pinned (OpenSpec.ofChange tableHalvesSpec)

/-- ITS FALSE NEIGHBOUR: 'it returns false'. Refute it at one input. -/
def tableHalvesWrong : ChangeSpec := { name := "tableHalves", fn := fun _ => fun
  | [d1, d2, d3, d4] => { results := [.lit (.bool false)], args := [d1, d2, d3, d4] }
  | _ => none }
def TableHalvesWrongFalsely : Prop := tableHalvesRow.holds Try.pinned (OpenSpec.ofChange tableHalvesWrong)

/-- 'bywaylaw03.TableUnder': WHATEVER THE INPUT: true; the input reads as it did. -/
def tableUnderSpec : ChangeSpec := { name := "tableUnder", fn := fun _ => fun
  | [d1, d2, d3] => { results := [.lit (.bool true)], args := [d1, d2, d3] }
  | _ => none }
def tableUnderRow : OpenClaim := { program := "ytldkgicmfbofiaa", sum := "577dbaa7b62de10b2bc51d0efde16c91ac5b1c49b539d0a4cb0b752af393522e", func := "byway/bywaylaw03.TableUnder", spec := "tableUnder", inPlace := ["internal/bytealg.Compare", "slices.overlaps[byway/api.Route]", "internal/reflectlite.ValueOf", "internal/reflectlite.Swapper", "(internal/reflectlite.Value).Len"], unfollowed := true, recurses := true, apart := false }
def TableUnderSaid : Prop := tableUnderRow.holds Try.pinned (OpenSpec.ofChange tableUnderSpec)

/-- ITS FALSE NEIGHBOUR: 'it returns false'. Refute it at one input. -/
def tableUnderWrong : ChangeSpec := { name := "tableUnder", fn := fun _ => fun
  | [d1, d2, d3] => { results := [.lit (.bool false)], args := [d1, d2, d3] }
  | _ => none }
def TableUnderWrongFalsely : Prop := tableUnderRow.holds Try.pinned (OpenSpec.ofChange tableUnderWrong)

/-- 'bywaylaw18.DeltaMakes': WHATEVER THE INPUT: true; the input reads as it did. -/
def deltaMakesSpec : ChangeSpec := { name := "deltaMakes", fn := fun _ => fun
  | [d1, d2, d3] => { results := [.lit (.bool true)], args := [d1, d2, d3] }
  | _ => none }
def deltaMakesRow : OpenClaim := { program := "ytldkgicmfbofiaa", sum := "577dbaa7b62de10b2bc51d0efde16c91ac5b1c49b539d0a4cb0b752af393522e", func := "byway/bywaylaw18.DeltaMakes", spec := "deltaMakes", inPlace := ["internal/bytealg.Compare", "slices.overlaps[byway/api.Route]", "internal/reflectlite.ValueOf", "internal/reflectlite.Swapper", "(internal/reflectlite.Value).Len"], unfollowed := true, recurses := true, apart := false }
def DeltaMakesSaid : Prop := deltaMakesRow.holds Try.pinned (OpenSpec.ofChange deltaMakesSpec)

/-- ITS FALSE NEIGHBOUR: 'it returns false'. Refute it at one input. -/
def deltaMakesWrong : ChangeSpec := { name := "deltaMakes", fn := fun _ => fun
  | [d1, d2, d3] => { results := [.lit (.bool false)], args := [d1, d2, d3] }
  | _ => none }
def DeltaMakesWrongFalsely : Prop := deltaMakesRow.holds Try.pinned (OpenSpec.ofChange deltaMakesWrong)

/-- 'bywaylaw18.DeltaBoth': WHATEVER THE INPUT: true; the input reads as it did. -/
def deltaBothSpec : ChangeSpec := { name := "deltaBoth", fn := fun _ => fun
  | [d1, d2, d3] => { results := [.lit (.bool true)], args := [d1, d2, d3] }
  | _ => none }
def deltaBothRow : OpenClaim := { program := "ytldkgicmfbofiaa", sum := "577dbaa7b62de10b2bc51d0efde16c91ac5b1c49b539d0a4cb0b752af393522e", func := "byway/bywaylaw18.DeltaBoth", spec := "deltaBoth", inPlace := ["internal/bytealg.Compare", "slices.overlaps[byway/api.Route]", "internal/reflectlite.ValueOf", "internal/reflectlite.Swapper", "(internal/reflectlite.Value).Len"], unfollowed := true, recurses := true, apart := false }
def DeltaBothSaid : Prop := deltaBothRow.holds Try.pinned (OpenSpec.ofChange deltaBothSpec)

/-- ITS FALSE NEIGHBOUR: 'it returns false'. Refute it at one input. -/
def deltaBothWrong : ChangeSpec := { name := "deltaBoth", fn := fun _ => fun
  | [d1, d2, d3] => { results := [.lit (.bool false)], args := [d1, d2, d3] }
  | _ => none }
def DeltaBothWrongFalsely : Prop := deltaBothRow.holds Try.pinned (OpenSpec.ofChange deltaBothWrong)

/-- 'bywaylaw18.DeltaChain': WHATEVER THE INPUT: true; the input reads as it did. -/
def deltaChainSpec : ChangeSpec := { name := "deltaChain", fn := fun _ => fun
  | [d1, d2, d3] => { results := [.lit (.bool true)], args := [d1, d2, d3] }
  | _ => none }
def deltaChainRow : OpenClaim := { program := "ytldkgicmfbofiaa", sum := "577dbaa7b62de10b2bc51d0efde16c91ac5b1c49b539d0a4cb0b752af393522e", func := "byway/bywaylaw18.DeltaChain", spec := "deltaChain", inPlace := ["internal/bytealg.Compare", "slices.overlaps[byway/api.Route]", "internal/reflectlite.ValueOf", "internal/reflectlite.Swapper", "(internal/reflectlite.Value).Len"], unfollowed := true, recurses := true, apart := false }
def DeltaChainSaid : Prop := deltaChainRow.holds Try.pinned (OpenSpec.ofChange deltaChainSpec)

/-- ITS FALSE NEIGHBOUR: 'it returns false'. Refute it at one input. -/
def deltaChainWrong : ChangeSpec := { name := "deltaChain", fn := fun _ => fun
  | [d1, d2, d3] => { results := [.lit (.bool false)], args := [d1, d2, d3] }
  | _ => none }
def DeltaChainWrongFalsely : Prop := deltaChainRow.holds Try.pinned (OpenSpec.ofChange deltaChainWrong)

/-- 'bywaylaw18.DeltaRight': WHATEVER THE INPUT: true; the input reads as it did. -/
def deltaRightSpec : ChangeSpec := { name := "deltaRight", fn := fun _ => fun
  | [d1, d2, d3, d4] => { results := [.lit (.bool true)], args := [d1, d2, d3, d4] }
  | _ => none }
def deltaRightRow : OpenClaim := { program := "ytldkgicmfbofiaa", sum := "577dbaa7b62de10b2bc51d0efde16c91ac5b1c49b539d0a4cb0b752af393522e", func := "byway/bywaylaw18.DeltaRight", spec := "deltaRight", inPlace := ["internal/bytealg.Compare", "slices.overlaps[byway/api.Route]", "internal/reflectlite.ValueOf", "internal/reflectlite.Swapper", "(internal/reflectlite.Value).Len"], unfollowed := true, recurses := true, apart := false }
def DeltaRightSaid : Prop := deltaRightRow.holds Try.pinned (OpenSpec.ofChange deltaRightSpec)

/-- ITS FALSE NEIGHBOUR: 'it returns false'. Refute it at one input. -/
def deltaRightWrong : ChangeSpec := { name := "deltaRight", fn := fun _ => fun
  | [d1, d2, d3, d4] => { results := [.lit (.bool false)], args := [d1, d2, d3, d4] }
  | _ => none }
def DeltaRightWrongFalsely : Prop := deltaRightRow.holds Try.pinned (OpenSpec.ofChange deltaRightWrong)

/- THE SECOND FORM. 'bulk': how many values and letters a reading holds, each counted each time it is reached (what is shared counts as often as it is met; a slice's spare places count too). A statement '..UptoSaid' is the law's where the arguments, and the package variables that the reading takes, are together of bulk at most 1048576: NARROWER than '..Said'. Prove '..Said' where nothing that the law and all that it calls make is longer than what came in: it says more and counts as full. Else prove '..UptoSaid'. A law counts once. -/
mutual
def uptoBulk {H : Type} : DataW H → Nat
  | .lit (.string bytes) => bytes.length + 1
  | .lit _ => 1
  | .nil => 1
  | .ptr d => uptoBulk d + 1
  | .slice elems spare => uptoBulkAll elems + uptoBulkAll spare + 1
  | .agg parts => uptoBulkAll parts + 1
  | .iface _ d => uptoBulk d + 1
  | .map entries => uptoBulkEntries entries + 1
  | .held _ => 1
def uptoBulkAll {H : Type} : List (DataW H) → Nat
  | [] => 0
  | d :: r => uptoBulk d + uptoBulkAll r
def uptoBulkEntries {H : Type} : List (Lit × DataW H) → Nat
  | [] => 0
  | x :: r => uptoBulkEntry x + uptoBulkEntries r
def uptoBulkEntry {H : Type} : Lit × DataW H → Nat
  | (.string bytes, d) => bytes.length + uptoBulk d + 1
  | (_, d) => uptoBulk d + 1
 end
def uptoSmall : (H : Type) → List (DataW H) → Bool := fun _ ds => decide (uptoBulkAll ds ≤ 1048576)
def OpenSpec.upto (s : _root_.Go.ChangeSpec) : _root_.Go.OpenSpec := { _root_.Go.OpenSpec.ofChange s with cond := some uptoSmall }

/-- 'bywaylaw03.TableRight', WHERE WHAT IT READS IS OF BULK AT MOST 1048576: true; the input reads as it did. -/
def tableRightUptoRow : OpenClaim := { program := "ytldkgicmfbofiaa", sum := "577dbaa7b62de10b2bc51d0efde16c91ac5b1c49b539d0a4cb0b752af393522e", func := "byway/bywaylaw03.TableRight", spec := "tableRight", inPlace := ["internal/bytealg.Compare", "slices.overlaps[byway/api.Route]", "internal/reflectlite.ValueOf", "internal/reflectlite.Swapper", "(internal/reflectlite.Value).Len"], unfollowed := true, recurses := true, apart := false, narrowed := true }
def TableRightUptoSaid : Prop := tableRightUptoRow.holds Try.pinned (OpenSpec.upto tableRightSpec)

/-- 'bywaylaw03.TableBest', WHERE WHAT IT READS IS OF BULK AT MOST 1048576: true; the input reads as it did. -/
def tableBestUptoRow : OpenClaim := { program := "ytldkgicmfbofiaa", sum := "577dbaa7b62de10b2bc51d0efde16c91ac5b1c49b539d0a4cb0b752af393522e", func := "byway/bywaylaw03.TableBest", spec := "tableBest", inPlace := ["internal/bytealg.Compare", "slices.overlaps[byway/api.Route]", "internal/reflectlite.ValueOf", "internal/reflectlite.Swapper", "(internal/reflectlite.Value).Len"], unfollowed := true, recurses := true, apart := false, narrowed := true }
def TableBestUptoSaid : Prop := tableBestUptoRow.holds Try.pinned (OpenSpec.upto tableBestSpec)

/-- 'bywaylaw03.TableChanges', WHERE WHAT IT READS IS OF BULK AT MOST 1048576: true; the input reads as it did. -/
def tableChangesUptoRow : OpenClaim := { program := "ytldkgicmfbofiaa", sum := "577dbaa7b62de10b2bc51d0efde16c91ac5b1c49b539d0a4cb0b752af393522e", func := "byway/bywaylaw03.TableChanges", spec := "tableChanges", inPlace := ["internal/bytealg.Compare", "slices.overlaps[byway/api.Route]", "internal/reflectlite.ValueOf", "internal/reflectlite.Swapper", "(internal/reflectlite.Value).Len"], unfollowed := true, recurses := true, apart := false, narrowed := true }
def TableChangesUptoSaid : Prop := tableChangesUptoRow.holds Try.pinned (OpenSpec.upto tableChangesSpec)

/-- 'bywaylaw03.TableHalves', WHERE WHAT IT READS IS OF BULK AT MOST 1048576: true; the input reads as it did. -/
def tableHalvesUptoRow : OpenClaim := { program := "ytldkgicmfbofiaa", sum := "577dbaa7b62de10b2bc51d0efde16c91ac5b1c49b539d0a4cb0b752af393522e", func := "byway/bywaylaw03.TableHalves", spec := "tableHalves", inPlace := ["internal/bytealg.Compare", "slices.overlaps[byway/api.Route]", "internal/reflectlite.ValueOf", "internal/reflectlite.Swapper", "(internal/reflectlite.Value).Len"], unfollowed := true, recurses := true, apart := false, narrowed := true }
def TableHalvesUptoSaid : Prop := tableHalvesUptoRow.holds Try.pinned (OpenSpec.upto tableHalvesSpec)

/-- 'bywaylaw03.TableUnder', WHERE WHAT IT READS IS OF BULK AT MOST 1048576: true; the input reads as it did. -/
def tableUnderUptoRow : OpenClaim := { program := "ytldkgicmfbofiaa", sum := "577dbaa7b62de10b2bc51d0efde16c91ac5b1c49b539d0a4cb0b752af393522e", func := "byway/bywaylaw03.TableUnder", spec := "tableUnder", inPlace := ["internal/bytealg.Compare", "slices.overlaps[byway/api.Route]", "internal/reflectlite.ValueOf", "internal/reflectlite.Swapper", "(internal/reflectlite.Value).Len"], unfollowed := true, recurses := true, apart := false, narrowed := true }
def TableUnderUptoSaid : Prop := tableUnderUptoRow.holds Try.pinned (OpenSpec.upto tableUnderSpec)

/-- 'bywaylaw18.DeltaMakes', WHERE WHAT IT READS IS OF BULK AT MOST 1048576: true; the input reads as it did. -/
def deltaMakesUptoRow : OpenClaim := { program := "ytldkgicmfbofiaa", sum := "577dbaa7b62de10b2bc51d0efde16c91ac5b1c49b539d0a4cb0b752af393522e", func := "byway/bywaylaw18.DeltaMakes", spec := "deltaMakes", inPlace := ["internal/bytealg.Compare", "slices.overlaps[byway/api.Route]", "internal/reflectlite.ValueOf", "internal/reflectlite.Swapper", "(internal/reflectlite.Value).Len"], unfollowed := true, recurses := true, apart := false, narrowed := true }
def DeltaMakesUptoSaid : Prop := deltaMakesUptoRow.holds Try.pinned (OpenSpec.upto deltaMakesSpec)

/-- 'bywaylaw18.DeltaBoth', WHERE WHAT IT READS IS OF BULK AT MOST 1048576: true; the input reads as it did. -/
def deltaBothUptoRow : OpenClaim := { program := "ytldkgicmfbofiaa", sum := "577dbaa7b62de10b2bc51d0efde16c91ac5b1c49b539d0a4cb0b752af393522e", func := "byway/bywaylaw18.DeltaBoth", spec := "deltaBoth", inPlace := ["internal/bytealg.Compare", "slices.overlaps[byway/api.Route]", "internal/reflectlite.ValueOf", "internal/reflectlite.Swapper", "(internal/reflectlite.Value).Len"], unfollowed := true, recurses := true, apart := false, narrowed := true }
def DeltaBothUptoSaid : Prop := deltaBothUptoRow.holds Try.pinned (OpenSpec.upto deltaBothSpec)

/-- 'bywaylaw18.DeltaChain', WHERE WHAT IT READS IS OF BULK AT MOST 1048576: true; the input reads as it did. -/
def deltaChainUptoRow : OpenClaim := { program := "ytldkgicmfbofiaa", sum := "577dbaa7b62de10b2bc51d0efde16c91ac5b1c49b539d0a4cb0b752af393522e", func := "byway/bywaylaw18.DeltaChain", spec := "deltaChain", inPlace := ["internal/bytealg.Compare", "slices.overlaps[byway/api.Route]", "internal/reflectlite.ValueOf", "internal/reflectlite.Swapper", "(internal/reflectlite.Value).Len"], unfollowed := true, recurses := true, apart := false, narrowed := true }
def DeltaChainUptoSaid : Prop := deltaChainUptoRow.holds Try.pinned (OpenSpec.upto deltaChainSpec)

/-- 'bywaylaw18.DeltaRight', WHERE WHAT IT READS IS OF BULK AT MOST 1048576: true; the input reads as it did. -/
def deltaRightUptoRow : OpenClaim := { program := "ytldkgicmfbofiaa", sum := "577dbaa7b62de10b2bc51d0efde16c91ac5b1c49b539d0a4cb0b752af393522e", func := "byway/bywaylaw18.DeltaRight", spec := "deltaRight", inPlace := ["internal/bytealg.Compare", "slices.overlaps[byway/api.Route]", "internal/reflectlite.ValueOf", "internal/reflectlite.Swapper", "(internal/reflectlite.Value).Len"], unfollowed := true, recurses := true, apart := false, narrowed := true }
def DeltaRightUptoSaid : Prop := deltaRightUptoRow.holds Try.pinned (OpenSpec.upto deltaRightSpec)

end Rows
end Go.Proofs.Ytldkgicmfbofiaa
