/-
  No cell of these rows narrows 'for every input' (looked for: loops, veiled, ifaces, maps, wideKeys, modest, calm, conditions, laid).
  DERIVED. THE GIVEN ROWS OF THIS SEAT. 15 by the template 'for every input the law returns true; each argument reads behind the call as it read before'; 0 by the template 'total and deterministic' (their statements: YtembaconocgmlaaTotals.lean).
  GIVEN WITH THE SEED: the statements are not yours to turn. If you find one false, say at which input.
  Laid BY PROGRAM, IN A SANDBOX (cutbox-rows.mjs): the forced cells as the released guide's own fill.sh prints them over the translation 2435bae7f77e766e… (all of the seat's roots in one cut). By AI agents, Wed Nov 11 2026. No macro, syntax, notation, axiom, sorry.
-/
import Derived.Test.YtembaconocgmlaaChecked
import GoSem.Claim
import GoSem.ClaimJoined
import GoSem.ClaimMapViews
import Derived.JoinedTies
import Derived.KernelRfl
namespace Go.Proofs.Ytembaconocgmlaa
/- THE CELL 'sum', in the pinned program and in every row, IS THE sha256 OF THE DUMP (.gsa) THAT YtembaconocgmlaaProg.lean LOADS. Nothing in Lean hashes anything: it is a label: what it is worth is what the hold of that sum in a sandbox is worth. -/
noncomputable def Try.pinned : Pinned := { name := "ytembaconocgmlaa", sum := "2435bae7f77e766e84b289c980c7b9dac4a6f65e139c5bb89d1c9e9b839ebc3e", checked := Try.checked }
namespace Rows
def none {H : Type} : Left H := { results := [], args := [] }

/-- 'bywaylaw12.NodeUnlike': WHATEVER THE INPUT: true; the input reads as it did. -/
def nodeUnlikeSpec : ChangeSpec := { name := "nodeUnlike", fn := fun _ => fun
  | [d1, d2, d3, d4] => { results := [.lit (.bool true)], args := [d1, d2, d3, d4] }
  | _ => none }
def nodeUnlikeRow : OpenClaim := { program := "ytembaconocgmlaa", sum := "2435bae7f77e766e84b289c980c7b9dac4a6f65e139c5bb89d1c9e9b839ebc3e", func := "byway/bywaylaw12.NodeUnlike", spec := "nodeUnlike", unfollowed := true, recurses := true, apart := false }
def NodeUnlikeSaid : Prop := nodeUnlikeRow.holds Try.pinned (OpenSpec.ofChange nodeUnlikeSpec)

/-- ITS FALSE NEIGHBOUR: 'it returns false'. Refute it at one input. -/
def nodeUnlikeWrong : ChangeSpec := { name := "nodeUnlike", fn := fun _ => fun
  | [d1, d2, d3, d4] => { results := [.lit (.bool false)], args := [d1, d2, d3, d4] }
  | _ => none }
def NodeUnlikeWrongFalsely : Prop := nodeUnlikeRow.holds Try.pinned (OpenSpec.ofChange nodeUnlikeWrong)

/-- 'bywaylaw12.NodeRight': WHATEVER THE INPUT: true; the input reads as it did. -/
def nodeRightSpec : ChangeSpec := { name := "nodeRight", fn := fun _ => fun
  | [d1, d2, d3] => { results := [.lit (.bool true)], args := [d1, d2, d3] }
  | _ => none }
def nodeRightRow : OpenClaim := { program := "ytembaconocgmlaa", sum := "2435bae7f77e766e84b289c980c7b9dac4a6f65e139c5bb89d1c9e9b839ebc3e", func := "byway/bywaylaw12.NodeRight", spec := "nodeRight", unfollowed := true, recurses := true, apart := false }
def NodeRightSaid : Prop := nodeRightRow.holds Try.pinned (OpenSpec.ofChange nodeRightSpec)

/-- ITS FALSE NEIGHBOUR: 'it returns false'. Refute it at one input. -/
def nodeRightWrong : ChangeSpec := { name := "nodeRight", fn := fun _ => fun
  | [d1, d2, d3] => { results := [.lit (.bool false)], args := [d1, d2, d3] }
  | _ => none }
def NodeRightWrongFalsely : Prop := nodeRightRow.holds Try.pinned (OpenSpec.ofChange nodeRightWrong)

/-- 'bywaylaw01.KeyRight': WHATEVER THE INPUT: true; the input reads as it did. -/
def keyRightSpec : ChangeSpec := { name := "keyRight", fn := fun _ => fun
  | [d1, d2, d3, d4, d5] => { results := [.lit (.bool true)], args := [d1, d2, d3, d4, d5] }
  | _ => none }
def keyRightRow : OpenClaim := { program := "ytembaconocgmlaa", sum := "2435bae7f77e766e84b289c980c7b9dac4a6f65e139c5bb89d1c9e9b839ebc3e", func := "byway/bywaylaw01.KeyRight", spec := "keyRight", inPlace := ["internal/bytealg.Compare"], apart := false }
def KeyRightSaid : Prop := keyRightRow.holds Try.pinned (OpenSpec.ofChange keyRightSpec)

/-- ITS FALSE NEIGHBOUR: 'it returns false'. Refute it at one input. -/
def keyRightWrong : ChangeSpec := { name := "keyRight", fn := fun _ => fun
  | [d1, d2, d3, d4, d5] => { results := [.lit (.bool false)], args := [d1, d2, d3, d4, d5] }
  | _ => none }
def KeyRightWrongFalsely : Prop := keyRightRow.holds Try.pinned (OpenSpec.ofChange keyRightWrong)

/-- 'bywaylaw01.KeyCovers': WHATEVER THE INPUT: true; the input reads as it did. -/
def keyCoversSpec : ChangeSpec := { name := "keyCovers", fn := fun _ => fun
  | [d1, d2, d3] => { results := [.lit (.bool true)], args := [d1, d2, d3] }
  | _ => none }
def keyCoversRow : OpenClaim := { program := "ytembaconocgmlaa", sum := "2435bae7f77e766e84b289c980c7b9dac4a6f65e139c5bb89d1c9e9b839ebc3e", func := "byway/bywaylaw01.KeyCovers", spec := "keyCovers", inPlace := ["internal/bytealg.Compare"], apart := false }
def KeyCoversSaid : Prop := keyCoversRow.holds Try.pinned (OpenSpec.ofChange keyCoversSpec)

/-- ITS FALSE NEIGHBOUR: 'it returns false'. Refute it at one input. -/
def keyCoversWrong : ChangeSpec := { name := "keyCovers", fn := fun _ => fun
  | [d1, d2, d3] => { results := [.lit (.bool false)], args := [d1, d2, d3] }
  | _ => none }
def KeyCoversWrongFalsely : Prop := keyCoversRow.holds Try.pinned (OpenSpec.ofChange keyCoversWrong)

/-- 'bywaylaw01.KeyOrder': WHATEVER THE INPUT: true; the input reads as it did. -/
def keyOrderSpec : ChangeSpec := { name := "keyOrder", fn := fun _ => fun
  | [d1, d2, d3] => { results := [.lit (.bool true)], args := [d1, d2, d3] }
  | _ => none }
def keyOrderRow : OpenClaim := { program := "ytembaconocgmlaa", sum := "2435bae7f77e766e84b289c980c7b9dac4a6f65e139c5bb89d1c9e9b839ebc3e", func := "byway/bywaylaw01.KeyOrder", spec := "keyOrder", inPlace := ["internal/bytealg.Compare"], apart := false }
def KeyOrderSaid : Prop := keyOrderRow.holds Try.pinned (OpenSpec.ofChange keyOrderSpec)

/-- ITS FALSE NEIGHBOUR: 'it returns false'. Refute it at one input. -/
def keyOrderWrong : ChangeSpec := { name := "keyOrder", fn := fun _ => fun
  | [d1, d2, d3] => { results := [.lit (.bool false)], args := [d1, d2, d3] }
  | _ => none }
def KeyOrderWrongFalsely : Prop := keyOrderRow.holds Try.pinned (OpenSpec.ofChange keyOrderWrong)

/-- 'bywaylaw01.KeyCuts': WHATEVER THE INPUT: true; the input reads as it did. -/
def keyCutsSpec : ChangeSpec := { name := "keyCuts", fn := fun _ => fun
  | [d1, d2, d3] => { results := [.lit (.bool true)], args := [d1, d2, d3] }
  | _ => none }
def keyCutsRow : OpenClaim := { program := "ytembaconocgmlaa", sum := "2435bae7f77e766e84b289c980c7b9dac4a6f65e139c5bb89d1c9e9b839ebc3e", func := "byway/bywaylaw01.KeyCuts", spec := "keyCuts", inPlace := ["internal/bytealg.Compare"], apart := false }
def KeyCutsSaid : Prop := keyCutsRow.holds Try.pinned (OpenSpec.ofChange keyCutsSpec)

/-- ITS FALSE NEIGHBOUR: 'it returns false'. Refute it at one input. -/
def keyCutsWrong : ChangeSpec := { name := "keyCuts", fn := fun _ => fun
  | [d1, d2, d3] => { results := [.lit (.bool false)], args := [d1, d2, d3] }
  | _ => none }
def KeyCutsWrongFalsely : Prop := keyCutsRow.holds Try.pinned (OpenSpec.ofChange keyCutsWrong)

/-- 'bywaylaw01.KeySteps': WHATEVER THE INPUT: true; the input reads as it did. -/
def keyStepsSpec : ChangeSpec := { name := "keySteps", fn := fun _ => fun
  | [d1, d2] => { results := [.lit (.bool true)], args := [d1, d2] }
  | _ => none }
def keyStepsRow : OpenClaim := { program := "ytembaconocgmlaa", sum := "2435bae7f77e766e84b289c980c7b9dac4a6f65e139c5bb89d1c9e9b839ebc3e", func := "byway/bywaylaw01.KeySteps", spec := "keySteps", inPlace := ["internal/bytealg.Compare"], apart := false }
def KeyStepsSaid : Prop := keyStepsRow.holds Try.pinned (OpenSpec.ofChange keyStepsSpec)

/-- ITS FALSE NEIGHBOUR: 'it returns false'. Refute it at one input. -/
def keyStepsWrong : ChangeSpec := { name := "keySteps", fn := fun _ => fun
  | [d1, d2] => { results := [.lit (.bool false)], args := [d1, d2] }
  | _ => none }
def KeyStepsWrongFalsely : Prop := keyStepsRow.holds Try.pinned (OpenSpec.ofChange keyStepsWrong)

/-- 'bywaylaw14.PackRight': WHATEVER THE INPUT: true; the input reads as it did. -/
def packRightSpec : ChangeSpec := { name := "packRight", fn := fun _ => fun
  | [d1, d2, d3, d4, d5] => { results := [.lit (.bool true)], args := [d1, d2, d3, d4, d5] }
  | _ => none }
def packRightRow : OpenClaim := { program := "ytembaconocgmlaa", sum := "2435bae7f77e766e84b289c980c7b9dac4a6f65e139c5bb89d1c9e9b839ebc3e", func := "byway/bywaylaw14.PackRight", spec := "packRight", inPlace := ["internal/bytealg.Compare"], apart := false }
def PackRightSaid : Prop := packRightRow.holds Try.pinned (OpenSpec.ofChange packRightSpec)

/-- ITS FALSE NEIGHBOUR: 'it returns false'. Refute it at one input. -/
def packRightWrong : ChangeSpec := { name := "packRight", fn := fun _ => fun
  | [d1, d2, d3, d4, d5] => { results := [.lit (.bool false)], args := [d1, d2, d3, d4, d5] }
  | _ => none }
def PackRightWrongFalsely : Prop := packRightRow.holds Try.pinned (OpenSpec.ofChange packRightWrong)

/-- 'bywaylaw14.PackBack': WHATEVER THE INPUT: true; the input reads as it did. -/
def packBackSpec : ChangeSpec := { name := "packBack", fn := fun _ => fun
  | [d1, d2, d3, d4] => { results := [.lit (.bool true)], args := [d1, d2, d3, d4] }
  | _ => none }
def packBackRow : OpenClaim := { program := "ytembaconocgmlaa", sum := "2435bae7f77e766e84b289c980c7b9dac4a6f65e139c5bb89d1c9e9b839ebc3e", func := "byway/bywaylaw14.PackBack", spec := "packBack", inPlace := ["internal/bytealg.Compare"], apart := false }
def PackBackSaid : Prop := packBackRow.holds Try.pinned (OpenSpec.ofChange packBackSpec)

/-- ITS FALSE NEIGHBOUR: 'it returns false'. Refute it at one input. -/
def packBackWrong : ChangeSpec := { name := "packBack", fn := fun _ => fun
  | [d1, d2, d3, d4] => { results := [.lit (.bool false)], args := [d1, d2, d3, d4] }
  | _ => none }
def PackBackWrongFalsely : Prop := packBackRow.holds Try.pinned (OpenSpec.ofChange packBackWrong)

/-- 'bywaylaw14.PackFew': WHATEVER THE INPUT: true; the input reads as it did. -/
def packFewSpec : ChangeSpec := { name := "packFew", fn := fun _ => fun
  | [d1, d2, d3, d4, d5] => { results := [.lit (.bool true)], args := [d1, d2, d3, d4, d5] }
  | _ => none }
def packFewRow : OpenClaim := { program := "ytembaconocgmlaa", sum := "2435bae7f77e766e84b289c980c7b9dac4a6f65e139c5bb89d1c9e9b839ebc3e", func := "byway/bywaylaw14.PackFew", spec := "packFew", inPlace := ["internal/bytealg.Compare"], apart := false }
def PackFewSaid : Prop := packFewRow.holds Try.pinned (OpenSpec.ofChange packFewSpec)

/-- ITS FALSE NEIGHBOUR: 'it returns false'. Refute it at one input. -/
def packFewWrong : ChangeSpec := { name := "packFew", fn := fun _ => fun
  | [d1, d2, d3, d4, d5] => { results := [.lit (.bool false)], args := [d1, d2, d3, d4, d5] }
  | _ => none }
def PackFewWrongFalsely : Prop := packFewRow.holds Try.pinned (OpenSpec.ofChange packFewWrong)

/-- 'bywaylaw04.TrieRight': WHATEVER THE INPUT: true; the input reads as it did. -/
def trieRightSpec : ChangeSpec := { name := "trieRight", fn := fun _ => fun
  | [d1, d2] => { results := [.lit (.bool true)], args := [d1, d2] }
  | _ => none }
def trieRightRow : OpenClaim := { program := "ytembaconocgmlaa", sum := "2435bae7f77e766e84b289c980c7b9dac4a6f65e139c5bb89d1c9e9b839ebc3e", func := "byway/bywaylaw04.TrieRight", spec := "trieRight", inPlace := ["internal/bytealg.Compare"], apart := false }
def TrieRightSaid : Prop := trieRightRow.holds Try.pinned (OpenSpec.ofChange trieRightSpec)

/-- ITS FALSE NEIGHBOUR: 'it returns false'. Refute it at one input. -/
def trieRightWrong : ChangeSpec := { name := "trieRight", fn := fun _ => fun
  | [d1, d2] => { results := [.lit (.bool false)], args := [d1, d2] }
  | _ => none }
def TrieRightWrongFalsely : Prop := trieRightRow.holds Try.pinned (OpenSpec.ofChange trieRightWrong)

/-- 'bywaylaw04.TrieDeep': WHATEVER THE INPUT: true; the input reads as it did. -/
def trieDeepSpec : ChangeSpec := { name := "trieDeep", fn := fun _ => fun
  | [d1, d2] => { results := [.lit (.bool true)], args := [d1, d2] }
  | _ => none }
def trieDeepRow : OpenClaim := { program := "ytembaconocgmlaa", sum := "2435bae7f77e766e84b289c980c7b9dac4a6f65e139c5bb89d1c9e9b839ebc3e", func := "byway/bywaylaw04.TrieDeep", spec := "trieDeep", inPlace := ["internal/bytealg.Compare"], apart := false }
def TrieDeepSaid : Prop := trieDeepRow.holds Try.pinned (OpenSpec.ofChange trieDeepSpec)

/-- ITS FALSE NEIGHBOUR: 'it returns false'. Refute it at one input. -/
def trieDeepWrong : ChangeSpec := { name := "trieDeep", fn := fun _ => fun
  | [d1, d2] => { results := [.lit (.bool false)], args := [d1, d2] }
  | _ => none }
def TrieDeepWrongFalsely : Prop := trieDeepRow.holds Try.pinned (OpenSpec.ofChange trieDeepWrong)

/-- 'bywaylaw04.TrieWays': WHATEVER THE INPUT: true; the input reads as it did. -/
def trieWaysSpec : ChangeSpec := { name := "trieWays", fn := fun _ => fun
  | [d1, d2, d3, d4] => { results := [.lit (.bool true)], args := [d1, d2, d3, d4] }
  | _ => none }
def trieWaysRow : OpenClaim := { program := "ytembaconocgmlaa", sum := "2435bae7f77e766e84b289c980c7b9dac4a6f65e139c5bb89d1c9e9b839ebc3e", func := "byway/bywaylaw04.TrieWays", spec := "trieWays", inPlace := ["internal/bytealg.Compare"], apart := false }
def TrieWaysSaid : Prop := trieWaysRow.holds Try.pinned (OpenSpec.ofChange trieWaysSpec)

/-- ITS FALSE NEIGHBOUR: 'it returns false'. Refute it at one input. -/
def trieWaysWrong : ChangeSpec := { name := "trieWays", fn := fun _ => fun
  | [d1, d2, d3, d4] => { results := [.lit (.bool false)], args := [d1, d2, d3, d4] }
  | _ => none }
def TrieWaysWrongFalsely : Prop := trieWaysRow.holds Try.pinned (OpenSpec.ofChange trieWaysWrong)

/-- 'bywaylaw12.NodeBack': WHATEVER THE INPUT: true; the input reads as it did. -/
def nodeBackSpec : ChangeSpec := { name := "nodeBack", fn := fun _ => fun
  | [d1, d2, d3] => { results := [.lit (.bool true)], args := [d1, d2, d3] }
  | _ => none }
def nodeBackRow : OpenClaim := { program := "ytembaconocgmlaa", sum := "2435bae7f77e766e84b289c980c7b9dac4a6f65e139c5bb89d1c9e9b839ebc3e", func := "byway/bywaylaw12.NodeBack", spec := "nodeBack", inPlace := ["internal/bytealg.Compare"], unfollowed := true, recurses := true, apart := false }
def NodeBackSaid : Prop := nodeBackRow.holds Try.pinned (OpenSpec.ofChange nodeBackSpec)

/-- ITS FALSE NEIGHBOUR: 'it returns false'. Refute it at one input. -/
def nodeBackWrong : ChangeSpec := { name := "nodeBack", fn := fun _ => fun
  | [d1, d2, d3] => { results := [.lit (.bool false)], args := [d1, d2, d3] }
  | _ => none }
def NodeBackWrongFalsely : Prop := nodeBackRow.holds Try.pinned (OpenSpec.ofChange nodeBackWrong)

/-- 'bywaylaw04.TrieBest': WHATEVER THE INPUT: true; the input reads as it did. -/
def trieBestSpec : ChangeSpec := { name := "trieBest", fn := fun _ => fun
  | [d1, d2, d3] => { results := [.lit (.bool true)], args := [d1, d2, d3] }
  | _ => none }
def trieBestRow : OpenClaim := { program := "ytembaconocgmlaa", sum := "2435bae7f77e766e84b289c980c7b9dac4a6f65e139c5bb89d1c9e9b839ebc3e", func := "byway/bywaylaw04.TrieBest", spec := "trieBest", inPlace := ["internal/bytealg.Compare"], unfollowed := true, recurses := true, apart := false }
def TrieBestSaid : Prop := trieBestRow.holds Try.pinned (OpenSpec.ofChange trieBestSpec)

/-- ITS FALSE NEIGHBOUR: 'it returns false'. Refute it at one input. -/
def trieBestWrong : ChangeSpec := { name := "trieBest", fn := fun _ => fun
  | [d1, d2, d3] => { results := [.lit (.bool false)], args := [d1, d2, d3] }
  | _ => none }
def TrieBestWrongFalsely : Prop := trieBestRow.holds Try.pinned (OpenSpec.ofChange trieBestWrong)

/- THE SECOND FORM. 'bulk': how many values and letters a reading holds, each counted each time it is reached (what is shared counts as often as it is met; a slice's spare places count too). A statement '..UptoSaid' is the law's where the arguments, and the package variables that the reading takes, are together of bulk at most 1048576: NARROWER than '..Said'. Prove '..Said' where nothing that the law and all that it calls make is longer than what came in: it says more and counts as full. Else prove '..UptoSaid'. A law counts once. -/
mutual
def uptoBulk {H : Type} : DataW H → Nat
  | .lit (.string bytes) => bytes.length + 1
  | .lit _ => 1
  | .nil => 1
  | .ptr d => uptoBulk d + 1
  | .slice elems spare => uptoBulkAll elems + uptoBulkAll spare + 1
  | .agg parts => uptoBulkAll parts + 1
  | .iface _ d => uptoBulk d + 1
  | .map entries => uptoBulkEntries entries + 1
  | .held _ => 1
def uptoBulkAll {H : Type} : List (DataW H) → Nat
  | [] => 0
  | d :: r => uptoBulk d + uptoBulkAll r
def uptoBulkEntries {H : Type} : List (Lit × DataW H) → Nat
  | [] => 0
  | x :: r => uptoBulkEntry x + uptoBulkEntries r
def uptoBulkEntry {H : Type} : Lit × DataW H → Nat
  | (.string bytes, d) => bytes.length + uptoBulk d + 1
  | (_, d) => uptoBulk d + 1
 end
def uptoSmall : (H : Type) → List (DataW H) → Bool := fun _ ds => decide (uptoBulkAll ds ≤ 1048576)
def OpenSpec.upto (s : _root_.Go.ChangeSpec) : _root_.Go.OpenSpec := { _root_.Go.OpenSpec.ofChange s with cond := some uptoSmall }

/-- 'bywaylaw12.NodeUnlike', WHERE WHAT IT READS IS OF BULK AT MOST 1048576: true; the input reads as it did. -/
def nodeUnlikeUptoRow : OpenClaim := { program := "ytembaconocgmlaa", sum := "2435bae7f77e766e84b289c980c7b9dac4a6f65e139c5bb89d1c9e9b839ebc3e", func := "byway/bywaylaw12.NodeUnlike", spec := "nodeUnlike", unfollowed := true, recurses := true, apart := false, narrowed := true }
def NodeUnlikeUptoSaid : Prop := nodeUnlikeUptoRow.holds Try.pinned (OpenSpec.upto nodeUnlikeSpec)

/-- 'bywaylaw12.NodeRight', WHERE WHAT IT READS IS OF BULK AT MOST 1048576: true; the input reads as it did. -/
def nodeRightUptoRow : OpenClaim := { program := "ytembaconocgmlaa", sum := "2435bae7f77e766e84b289c980c7b9dac4a6f65e139c5bb89d1c9e9b839ebc3e", func := "byway/bywaylaw12.NodeRight", spec := "nodeRight", unfollowed := true, recurses := true, apart := false, narrowed := true }
def NodeRightUptoSaid : Prop := nodeRightUptoRow.holds Try.pinned (OpenSpec.upto nodeRightSpec)

/-- 'bywaylaw01.KeyRight', WHERE WHAT IT READS IS OF BULK AT MOST 1048576: true; the input reads as it did. -/
def keyRightUptoRow : OpenClaim := { program := "ytembaconocgmlaa", sum := "2435bae7f77e766e84b289c980c7b9dac4a6f65e139c5bb89d1c9e9b839ebc3e", func := "byway/bywaylaw01.KeyRight", spec := "keyRight", inPlace := ["internal/bytealg.Compare"], apart := false, narrowed := true }
def KeyRightUptoSaid : Prop := keyRightUptoRow.holds Try.pinned (OpenSpec.upto keyRightSpec)

/-- 'bywaylaw01.KeyCovers', WHERE WHAT IT READS IS OF BULK AT MOST 1048576: true; the input reads as it did. -/
def keyCoversUptoRow : OpenClaim := { program := "ytembaconocgmlaa", sum := "2435bae7f77e766e84b289c980c7b9dac4a6f65e139c5bb89d1c9e9b839ebc3e", func := "byway/bywaylaw01.KeyCovers", spec := "keyCovers", inPlace := ["internal/bytealg.Compare"], apart := false, narrowed := true }
def KeyCoversUptoSaid : Prop := keyCoversUptoRow.holds Try.pinned (OpenSpec.upto keyCoversSpec)

/-- 'bywaylaw01.KeyOrder', WHERE WHAT IT READS IS OF BULK AT MOST 1048576: true; the input reads as it did. -/
def keyOrderUptoRow : OpenClaim := { program := "ytembaconocgmlaa", sum := "2435bae7f77e766e84b289c980c7b9dac4a6f65e139c5bb89d1c9e9b839ebc3e", func := "byway/bywaylaw01.KeyOrder", spec := "keyOrder", inPlace := ["internal/bytealg.Compare"], apart := false, narrowed := true }
def KeyOrderUptoSaid : Prop := keyOrderUptoRow.holds Try.pinned (OpenSpec.upto keyOrderSpec)

/-- 'bywaylaw01.KeyCuts', WHERE WHAT IT READS IS OF BULK AT MOST 1048576: true; the input reads as it did. -/
def keyCutsUptoRow : OpenClaim := { program := "ytembaconocgmlaa", sum := "2435bae7f77e766e84b289c980c7b9dac4a6f65e139c5bb89d1c9e9b839ebc3e", func := "byway/bywaylaw01.KeyCuts", spec := "keyCuts", inPlace := ["internal/bytealg.Compare"], apart := false, narrowed := true }
def KeyCutsUptoSaid : Prop := keyCutsUptoRow.holds Try.pinned (OpenSpec.upto keyCutsSpec)

/-- 'bywaylaw01.KeySteps', WHERE WHAT IT READS IS OF BULK AT MOST 1048576: true; the input reads as it did. -/
def keyStepsUptoRow : OpenClaim := { program := "ytembaconocgmlaa", sum := "2435bae7f77e766e84b289c980c7b9dac4a6f65e139c5bb89d1c9e9b839ebc3e", func := "byway/bywaylaw01.KeySteps", spec := "keySteps", inPlace := ["internal/bytealg.Compare"], apart := false, narrowed := true }
def KeyStepsUptoSaid : Prop := keyStepsUptoRow.holds Try.pinned (OpenSpec.upto keyStepsSpec)

/-- 'bywaylaw14.PackRight', WHERE WHAT IT READS IS OF BULK AT MOST 1048576: true; the input reads as it did. -/
def packRightUptoRow : OpenClaim := { program := "ytembaconocgmlaa", sum := "2435bae7f77e766e84b289c980c7b9dac4a6f65e139c5bb89d1c9e9b839ebc3e", func := "byway/bywaylaw14.PackRight", spec := "packRight", inPlace := ["internal/bytealg.Compare"], apart := false, narrowed := true }
def PackRightUptoSaid : Prop := packRightUptoRow.holds Try.pinned (OpenSpec.upto packRightSpec)

/-- 'bywaylaw14.PackBack', WHERE WHAT IT READS IS OF BULK AT MOST 1048576: true; the input reads as it did. -/
def packBackUptoRow : OpenClaim := { program := "ytembaconocgmlaa", sum := "2435bae7f77e766e84b289c980c7b9dac4a6f65e139c5bb89d1c9e9b839ebc3e", func := "byway/bywaylaw14.PackBack", spec := "packBack", inPlace := ["internal/bytealg.Compare"], apart := false, narrowed := true }
def PackBackUptoSaid : Prop := packBackUptoRow.holds Try.pinned (OpenSpec.upto packBackSpec)

/-- 'bywaylaw14.PackFew', WHERE WHAT IT READS IS OF BULK AT MOST 1048576: true; the input reads as it did. -/
def packFewUptoRow : OpenClaim := { program := "ytembaconocgmlaa", sum := "2435bae7f77e766e84b289c980c7b9dac4a6f65e139c5bb89d1c9e9b839ebc3e", func := "byway/bywaylaw14.PackFew", spec := "packFew", inPlace := ["internal/bytealg.Compare"], apart := false, narrowed := true }
def PackFewUptoSaid : Prop := packFewUptoRow.holds Try.pinned (OpenSpec.upto packFewSpec)

/-- 'bywaylaw04.TrieRight', WHERE WHAT IT READS IS OF BULK AT MOST 1048576: true; the input reads as it did. -/
def trieRightUptoRow : OpenClaim := { program := "ytembaconocgmlaa", sum := "2435bae7f77e766e84b289c980c7b9dac4a6f65e139c5bb89d1c9e9b839ebc3e", func := "byway/bywaylaw04.TrieRight", spec := "trieRight", inPlace := ["internal/bytealg.Compare"], apart := false, narrowed := true }
def TrieRightUptoSaid : Prop := trieRightUptoRow.holds Try.pinned (OpenSpec.upto trieRightSpec)

/-- 'bywaylaw04.TrieDeep', WHERE WHAT IT READS IS OF BULK AT MOST 1048576: true; the input reads as it did. -/
def trieDeepUptoRow : OpenClaim := { program := "ytembaconocgmlaa", sum := "2435bae7f77e766e84b289c980c7b9dac4a6f65e139c5bb89d1c9e9b839ebc3e", func := "byway/bywaylaw04.TrieDeep", spec := "trieDeep", inPlace := ["internal/bytealg.Compare"], apart := false, narrowed := true }
def TrieDeepUptoSaid : Prop := trieDeepUptoRow.holds Try.pinned (OpenSpec.upto trieDeepSpec)

/-- 'bywaylaw04.TrieWays', WHERE WHAT IT READS IS OF BULK AT MOST 1048576: true; the input reads as it did. -/
def trieWaysUptoRow : OpenClaim := { program := "ytembaconocgmlaa", sum := "2435bae7f77e766e84b289c980c7b9dac4a6f65e139c5bb89d1c9e9b839ebc3e", func := "byway/bywaylaw04.TrieWays", spec := "trieWays", inPlace := ["internal/bytealg.Compare"], apart := false, narrowed := true }
def TrieWaysUptoSaid : Prop := trieWaysUptoRow.holds Try.pinned (OpenSpec.upto trieWaysSpec)

/-- 'bywaylaw12.NodeBack', WHERE WHAT IT READS IS OF BULK AT MOST 1048576: true; the input reads as it did. -/
def nodeBackUptoRow : OpenClaim := { program := "ytembaconocgmlaa", sum := "2435bae7f77e766e84b289c980c7b9dac4a6f65e139c5bb89d1c9e9b839ebc3e", func := "byway/bywaylaw12.NodeBack", spec := "nodeBack", inPlace := ["internal/bytealg.Compare"], unfollowed := true, recurses := true, apart := false, narrowed := true }
def NodeBackUptoSaid : Prop := nodeBackUptoRow.holds Try.pinned (OpenSpec.upto nodeBackSpec)

/-- 'bywaylaw04.TrieBest', WHERE WHAT IT READS IS OF BULK AT MOST 1048576: true; the input reads as it did. -/
def trieBestUptoRow : OpenClaim := { program := "ytembaconocgmlaa", sum := "2435bae7f77e766e84b289c980c7b9dac4a6f65e139c5bb89d1c9e9b839ebc3e", func := "byway/bywaylaw04.TrieBest", spec := "trieBest", inPlace := ["internal/bytealg.Compare"], unfollowed := true, recurses := true, apart := false, narrowed := true }
def TrieBestUptoSaid : Prop := trieBestUptoRow.holds Try.pinned (OpenSpec.upto trieBestSpec)

end Rows
end Go.Proofs.Ytembaconocgmlaa
