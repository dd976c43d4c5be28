/-
  No cell of these rows narrows 'for every input' (looked for: loops, veiled, ifaces, maps, wideKeys, modest, calm, conditions, laid).
  DERIVED. THE GIVEN ROWS OF THIS SEAT. 7 by the template 'for every input the law returns true; each argument reads behind the call as it read before'; 0 by the template 'total and deterministic' (their statements: YtaipiecplldinaaGreatTotals.lean).
  GIVEN WITH THE SEED: the statements are not yours to turn. If you find one false, say at which input.
  Laid BY PROGRAM, IN A SANDBOX (cutbox-rows.mjs): the forced cells as the released guide's own fill.sh prints them over the translation bbfacc7889f75c21… (all of the seat's roots in one cut). By AI agents, Wed Nov 11 2026. No macro, syntax, notation, axiom, sorry.
-/
import Derived.Test.YtaipiecplldinaaGreatChecked
import GoSem.Claim
import GoSem.ClaimJoined
import GoSem.ClaimMapViews
import Derived.JoinedTies
import Derived.KernelRfl
namespace Go.Proofs.YtaipiecplldinaaGreat
/- THE CELL 'sum', in the pinned program and in every row, IS THE sha256 OF THE DUMP (.gsa) THAT YtaipiecplldinaaGreatProg.lean LOADS. Nothing in Lean hashes anything: it is a label: what it is worth is what the hold of that sum in a sandbox is worth. -/
noncomputable def Tryz.pinned : Pinned := { name := "ytaipiecplldinaagreat", sum := "bbfacc7889f75c214d1f406da265bade9b6ed2432355aeca13144df6f07da03c", checked := Tryz.checked }
namespace Rows
def none {H : Type} : Left H := { results := [], args := [] }

/-- 'bywaylaw11.FlashMounts': WHATEVER THE INPUT: true; the input reads as it did. -/
def flashMountsSpec : ChangeSpec := { name := "flashMounts", fn := fun _ => fun
  | [d1, d2, d3] => { results := [.lit (.bool true)], args := [d1, d2, d3] }
  | _ => none }
def flashMountsRow : OpenClaim := { program := "ytaipiecplldinaagreat", sum := "bbfacc7889f75c214d1f406da265bade9b6ed2432355aeca13144df6f07da03c", func := "byway/bywaylaw11.FlashMounts", spec := "flashMounts", unfollowed := true, recurses := true, apart := false }
def FlashMountsSaid : Prop := flashMountsRow.holds Tryz.pinned (OpenSpec.ofChange flashMountsSpec)

/-- ITS FALSE NEIGHBOUR: 'it returns false'. Refute it at one input. -/
def flashMountsWrong : ChangeSpec := { name := "flashMounts", fn := fun _ => fun
  | [d1, d2, d3] => { results := [.lit (.bool false)], args := [d1, d2, d3] }
  | _ => none }
def FlashMountsWrongFalsely : Prop := flashMountsRow.holds Tryz.pinned (OpenSpec.ofChange flashMountsWrong)

/-- 'bywaylaw15.FibMounts': WHATEVER THE INPUT: true; the input reads as it did. -/
def fibMountsSpec : ChangeSpec := { name := "fibMounts", fn := fun _ => fun
  | [d1, d2, d3, d4, d5, d6, d7] => { results := [.lit (.bool true)], args := [d1, d2, d3, d4, d5, d6, d7] }
  | _ => none }
def fibMountsRow : OpenClaim := { program := "ytaipiecplldinaagreat", sum := "bbfacc7889f75c214d1f406da265bade9b6ed2432355aeca13144df6f07da03c", func := "byway/bywaylaw15.FibMounts", spec := "fibMounts", inPlace := ["internal/bytealg.Compare", "slices.overlaps[byway/api.Route]"], unfollowed := true, recurses := true, apart := false }
def FibMountsSaid : Prop := fibMountsRow.holds Tryz.pinned (OpenSpec.ofChange fibMountsSpec)

/-- ITS FALSE NEIGHBOUR: 'it returns false'. Refute it at one input. -/
def fibMountsWrong : ChangeSpec := { name := "fibMounts", fn := fun _ => fun
  | [d1, d2, d3, d4, d5, d6, d7] => { results := [.lit (.bool false)], args := [d1, d2, d3, d4, d5, d6, d7] }
  | _ => none }
def FibMountsWrongFalsely : Prop := fibMountsRow.holds Tryz.pinned (OpenSpec.ofChange fibMountsWrong)

/-- 'bywaylaw15.FibAll': WHATEVER THE INPUT: true; the input reads as it did. -/
def fibAllSpec : ChangeSpec := { name := "fibAll", fn := fun _ => fun
  | [d1, d2, d3, d4, d5, d6] => { results := [.lit (.bool true)], args := [d1, d2, d3, d4, d5, d6] }
  | _ => none }
def fibAllRow : OpenClaim := { program := "ytaipiecplldinaagreat", sum := "bbfacc7889f75c214d1f406da265bade9b6ed2432355aeca13144df6f07da03c", func := "byway/bywaylaw15.FibAll", spec := "fibAll", inPlace := ["internal/bytealg.Compare", "slices.overlaps[byway/api.Route]"], unfollowed := true, recurses := true, apart := false }
def FibAllSaid : Prop := fibAllRow.holds Tryz.pinned (OpenSpec.ofChange fibAllSpec)

/-- ITS FALSE NEIGHBOUR: 'it returns false'. Refute it at one input. -/
def fibAllWrong : ChangeSpec := { name := "fibAll", fn := fun _ => fun
  | [d1, d2, d3, d4, d5, d6] => { results := [.lit (.bool false)], args := [d1, d2, d3, d4, d5, d6] }
  | _ => none }
def FibAllWrongFalsely : Prop := fibAllRow.holds Tryz.pinned (OpenSpec.ofChange fibAllWrong)

/-- 'bywaylaw15.FibRoom': WHATEVER THE INPUT: true; the input reads as it did. -/
def fibRoomSpec : ChangeSpec := { name := "fibRoom", fn := fun _ => fun
  | [d1, d2, d3] => { results := [.lit (.bool true)], args := [d1, d2, d3] }
  | _ => none }
def fibRoomRow : OpenClaim := { program := "ytaipiecplldinaagreat", sum := "bbfacc7889f75c214d1f406da265bade9b6ed2432355aeca13144df6f07da03c", func := "byway/bywaylaw15.FibRoom", spec := "fibRoom", inPlace := ["internal/bytealg.Compare", "slices.overlaps[byway/api.Route]"], unfollowed := true, recurses := true, apart := false }
def FibRoomSaid : Prop := fibRoomRow.holds Tryz.pinned (OpenSpec.ofChange fibRoomSpec)

/-- ITS FALSE NEIGHBOUR: 'it returns false'. Refute it at one input. -/
def fibRoomWrong : ChangeSpec := { name := "fibRoom", fn := fun _ => fun
  | [d1, d2, d3] => { results := [.lit (.bool false)], args := [d1, d2, d3] }
  | _ => none }
def FibRoomWrongFalsely : Prop := fibRoomRow.holds Tryz.pinned (OpenSpec.ofChange fibRoomWrong)

/-- 'bywaylaw15.FibTwice': WHATEVER THE INPUT: true; the input reads as it did. -/
def fibTwiceSpec : ChangeSpec := { name := "fibTwice", fn := fun _ => fun
  | [d1, d2, d3, d4, d5] => { results := [.lit (.bool true)], args := [d1, d2, d3, d4, d5] }
  | _ => none }
def fibTwiceRow : OpenClaim := { program := "ytaipiecplldinaagreat", sum := "bbfacc7889f75c214d1f406da265bade9b6ed2432355aeca13144df6f07da03c", func := "byway/bywaylaw15.FibTwice", spec := "fibTwice", inPlace := ["internal/bytealg.Compare", "slices.overlaps[byway/api.Route]"], unfollowed := true, recurses := true, apart := false }
def FibTwiceSaid : Prop := fibTwiceRow.holds Tryz.pinned (OpenSpec.ofChange fibTwiceSpec)

/-- ITS FALSE NEIGHBOUR: 'it returns false'. Refute it at one input. -/
def fibTwiceWrong : ChangeSpec := { name := "fibTwice", fn := fun _ => fun
  | [d1, d2, d3, d4, d5] => { results := [.lit (.bool false)], args := [d1, d2, d3, d4, d5] }
  | _ => none }
def FibTwiceWrongFalsely : Prop := fibTwiceRow.holds Tryz.pinned (OpenSpec.ofChange fibTwiceWrong)

/-- 'bywaylaw15.FibSalvage': WHATEVER THE INPUT: true; the input reads as it did. -/
def fibSalvageSpec : ChangeSpec := { name := "fibSalvage", fn := fun _ => fun
  | [d1, d2, d3, d4] => { results := [.lit (.bool true)], args := [d1, d2, d3, d4] }
  | _ => none }
def fibSalvageRow : OpenClaim := { program := "ytaipiecplldinaagreat", sum := "bbfacc7889f75c214d1f406da265bade9b6ed2432355aeca13144df6f07da03c", func := "byway/bywaylaw15.FibSalvage", spec := "fibSalvage", inPlace := ["internal/bytealg.Compare", "slices.overlaps[byway/api.Route]"], unfollowed := true, recurses := true, apart := false }
def FibSalvageSaid : Prop := fibSalvageRow.holds Tryz.pinned (OpenSpec.ofChange fibSalvageSpec)

/-- ITS FALSE NEIGHBOUR: 'it returns false'. Refute it at one input. -/
def fibSalvageWrong : ChangeSpec := { name := "fibSalvage", fn := fun _ => fun
  | [d1, d2, d3, d4] => { results := [.lit (.bool false)], args := [d1, d2, d3, d4] }
  | _ => none }
def FibSalvageWrongFalsely : Prop := fibSalvageRow.holds Tryz.pinned (OpenSpec.ofChange fibSalvageWrong)

/-- 'bywaylaw15.FibRefines': WHATEVER THE INPUT: true; the input reads as it did. -/
def fibRefinesSpec : ChangeSpec := { name := "fibRefines", fn := fun _ => fun
  | [d1, d2, d3, d4] => { results := [.lit (.bool true)], args := [d1, d2, d3, d4] }
  | _ => none }
def fibRefinesRow : OpenClaim := { program := "ytaipiecplldinaagreat", sum := "bbfacc7889f75c214d1f406da265bade9b6ed2432355aeca13144df6f07da03c", func := "byway/bywaylaw15.FibRefines", spec := "fibRefines", inPlace := ["internal/bytealg.Compare", "slices.overlaps[byway/api.Route]"], unfollowed := true, recurses := true, apart := false }
def FibRefinesSaid : Prop := fibRefinesRow.holds Tryz.pinned (OpenSpec.ofChange fibRefinesSpec)

/-- ITS FALSE NEIGHBOUR: 'it returns false'. Refute it at one input. -/
def fibRefinesWrong : ChangeSpec := { name := "fibRefines", fn := fun _ => fun
  | [d1, d2, d3, d4] => { results := [.lit (.bool false)], args := [d1, d2, d3, d4] }
  | _ => none }
def FibRefinesWrongFalsely : Prop := fibRefinesRow.holds Tryz.pinned (OpenSpec.ofChange fibRefinesWrong)

/- THE SECOND FORM. 'bulk': how many values and letters a reading holds, each counted each time it is reached (what is shared counts as often as it is met; a slice's spare places count too). A statement '..UptoSaid' is the law's where the arguments, and the package variables that the reading takes, are together of bulk at most 1048576: NARROWER than '..Said'. Prove '..Said' where nothing that the law and all that it calls make is longer than what came in: it says more and counts as full. Else prove '..UptoSaid'. A law counts once. -/
mutual
def uptoBulk {H : Type} : DataW H → Nat
  | .lit (.string bytes) => bytes.length + 1
  | .lit _ => 1
  | .nil => 1
  | .ptr d => uptoBulk d + 1
  | .slice elems spare => uptoBulkAll elems + uptoBulkAll spare + 1
  | .agg parts => uptoBulkAll parts + 1
  | .iface _ d => uptoBulk d + 1
  | .map entries => uptoBulkEntries entries + 1
  | .held _ => 1
def uptoBulkAll {H : Type} : List (DataW H) → Nat
  | [] => 0
  | d :: r => uptoBulk d + uptoBulkAll r
def uptoBulkEntries {H : Type} : List (Lit × DataW H) → Nat
  | [] => 0
  | x :: r => uptoBulkEntry x + uptoBulkEntries r
def uptoBulkEntry {H : Type} : Lit × DataW H → Nat
  | (.string bytes, d) => bytes.length + uptoBulk d + 1
  | (_, d) => uptoBulk d + 1
 end
def uptoSmall : (H : Type) → List (DataW H) → Bool := fun _ ds => decide (uptoBulkAll ds ≤ 1048576)
def OpenSpec.upto (s : _root_.Go.ChangeSpec) : _root_.Go.OpenSpec := { _root_.Go.OpenSpec.ofChange s with cond := some uptoSmall }

/-- 'bywaylaw11.FlashMounts', WHERE WHAT IT READS IS OF BULK AT MOST 1048576: true; the input reads as it did. -/
def flashMountsUptoRow : OpenClaim := { program := "ytaipiecplldinaagreat", sum := "bbfacc7889f75c214d1f406da265bade9b6ed2432355aeca13144df6f07da03c", func := "byway/bywaylaw11.FlashMounts", spec := "flashMounts", unfollowed := true, recurses := true, apart := false, narrowed := true }
def FlashMountsUptoSaid : Prop := flashMountsUptoRow.holds Tryz.pinned (OpenSpec.upto flashMountsSpec)

/-- 'bywaylaw15.FibMounts', WHERE WHAT IT READS IS OF BULK AT MOST 1048576: true; the input reads as it did. -/
def fibMountsUptoRow : OpenClaim := { program := "ytaipiecplldinaagreat", sum := "bbfacc7889f75c214d1f406da265bade9b6ed2432355aeca13144df6f07da03c", func := "byway/bywaylaw15.FibMounts", spec := "fibMounts", inPlace := ["internal/bytealg.Compare", "slices.overlaps[byway/api.Route]"], unfollowed := true, recurses := true, apart := false, narrowed := true }
def FibMountsUptoSaid : Prop := fibMountsUptoRow.holds Tryz.pinned (OpenSpec.upto fibMountsSpec)

/-- 'bywaylaw15.FibAll', WHERE WHAT IT READS IS OF BULK AT MOST 1048576: true; the input reads as it did. -/
def fibAllUptoRow : OpenClaim := { program := "ytaipiecplldinaagreat", sum := "bbfacc7889f75c214d1f406da265bade9b6ed2432355aeca13144df6f07da03c", func := "byway/bywaylaw15.FibAll", spec := "fibAll", inPlace := ["internal/bytealg.Compare", "slices.overlaps[byway/api.Route]"], unfollowed := true, recurses := true, apart := false, narrowed := true }
def FibAllUptoSaid : Prop := fibAllUptoRow.holds Tryz.pinned (OpenSpec.upto fibAllSpec)

/-- 'bywaylaw15.FibRoom', WHERE WHAT IT READS IS OF BULK AT MOST 1048576: true; the input reads as it did. -/
def fibRoomUptoRow : OpenClaim := { program := "ytaipiecplldinaagreat", sum := "bbfacc7889f75c214d1f406da265bade9b6ed2432355aeca13144df6f07da03c", func := "byway/bywaylaw15.FibRoom", spec := "fibRoom", inPlace := ["internal/bytealg.Compare", "slices.overlaps[byway/api.Route]"], unfollowed := true, recurses := true, apart := false, narrowed := true }
def FibRoomUptoSaid : Prop := fibRoomUptoRow.holds Tryz.pinned (OpenSpec.upto fibRoomSpec)

/-- 'bywaylaw15.FibTwice', WHERE WHAT IT READS IS OF BULK AT MOST 1048576: true; the input reads as it did. -/
def fibTwiceUptoRow : OpenClaim := { program := "ytaipiecplldinaagreat", sum := "bbfacc7889f75c214d1f406da265bade9b6ed2432355aeca13144df6f07da03c", func := "byway/bywaylaw15.FibTwice", spec := "fibTwice", inPlace := ["internal/bytealg.Compare", "slices.overlaps[byway/api.Route]"], unfollowed := true, recurses := true, apart := false, narrowed := true }
def FibTwiceUptoSaid : Prop := fibTwiceUptoRow.holds Tryz.pinned (OpenSpec.upto fibTwiceSpec)

/-- 'bywaylaw15.FibSalvage', WHERE WHAT IT READS IS OF BULK AT MOST 1048576: true; the input reads as it did. -/
def fibSalvageUptoRow : OpenClaim := { program := "ytaipiecplldinaagreat", sum := "bbfacc7889f75c214d1f406da265bade9b6ed2432355aeca13144df6f07da03c", func := "byway/bywaylaw15.FibSalvage", spec := "fibSalvage", inPlace := ["internal/bytealg.Compare", "slices.overlaps[byway/api.Route]"], unfollowed := true, recurses := true, apart := false, narrowed := true }
def FibSalvageUptoSaid : Prop := fibSalvageUptoRow.holds Tryz.pinned (OpenSpec.upto fibSalvageSpec)

/-- 'bywaylaw15.FibRefines', WHERE WHAT IT READS IS OF BULK AT MOST 1048576: true; the input reads as it did. -/
def fibRefinesUptoRow : OpenClaim := { program := "ytaipiecplldinaagreat", sum := "bbfacc7889f75c214d1f406da265bade9b6ed2432355aeca13144df6f07da03c", func := "byway/bywaylaw15.FibRefines", spec := "fibRefines", inPlace := ["internal/bytealg.Compare", "slices.overlaps[byway/api.Route]"], unfollowed := true, recurses := true, apart := false, narrowed := true }
def FibRefinesUptoSaid : Prop := fibRefinesUptoRow.holds Tryz.pinned (OpenSpec.upto fibRefinesSpec)

end Rows
end Go.Proofs.YtaipiecplldinaaGreat
