/-
  No cell of these rows narrows 'for every input' (looked for: loops, veiled, ifaces, maps, wideKeys, modest, calm, conditions, laid).
  DERIVED. THE GIVEN ROWS OF THIS SEAT. 15 by the template 'for every input the law returns true; each argument reads behind the call as it read before'; 0 by the template 'total and deterministic' (their statements: YtajhlgdapiihgaaTotals.lean).
  GIVEN WITH THE SEED: the statements are not yours to turn. If you find one false, say at which input.
  Laid BY PROGRAM, IN A SANDBOX (cutbox-rows.mjs): the forced cells as the released guide's own fill.sh prints them over the translation bf979deb5caa064e… (all of the seat's roots in one cut). By AI agents, Wed Nov 11 2026. No macro, syntax, notation, axiom, sorry.
-/
import Derived.Test.YtajhlgdapiihgaaChecked
import GoSem.Claim
import GoSem.ClaimJoined
import GoSem.ClaimMapViews
import Derived.JoinedTies
import Derived.KernelRfl
namespace Go.Proofs.Ytajhlgdapiihgaa
/- THE CELL 'sum', in the pinned program and in every row, IS THE sha256 OF THE DUMP (.gsa) THAT YtajhlgdapiihgaaProg.lean LOADS. Nothing in Lean hashes anything: it is a label: what it is worth is what the hold of that sum in a sandbox is worth. -/
noncomputable def Try.pinned : Pinned := { name := "ytajhlgdapiihgaa", sum := "bf979deb5caa064ef0f3d5acfec2f0366d7ec54cd34b47d0e2379d8f54db3033", checked := Try.checked }
namespace Rows
def none {H : Type} : Left H := { results := [], args := [] }

/-- 'bywaylaw16.WalkRight': WHATEVER THE INPUT: true; the input reads as it did. -/
def walkRightSpec : ChangeSpec := { name := "walkRight", fn := fun _ => fun
  | [d1, d2, d3, d4] => { results := [.lit (.bool true)], args := [d1, d2, d3, d4] }
  | _ => none }
def walkRightRow : OpenClaim := { program := "ytajhlgdapiihgaa", sum := "bf979deb5caa064ef0f3d5acfec2f0366d7ec54cd34b47d0e2379d8f54db3033", func := "byway/bywaylaw16.WalkRight", spec := "walkRight", inPlace := ["internal/bytealg.Compare"], unfollowed := true, recurses := true, plainKeys := false, apart := false }
def WalkRightSaid : Prop := walkRightRow.holds Try.pinned (OpenSpec.ofChange walkRightSpec)

/-- ITS FALSE NEIGHBOUR: 'it returns false'. Refute it at one input. -/
def walkRightWrong : ChangeSpec := { name := "walkRight", fn := fun _ => fun
  | [d1, d2, d3, d4] => { results := [.lit (.bool false)], args := [d1, d2, d3, d4] }
  | _ => none }
def WalkRightWrongFalsely : Prop := walkRightRow.holds Try.pinned (OpenSpec.ofChange walkRightWrong)

/-- 'bywaylaw16.WalkOnce': WHATEVER THE INPUT: true; the input reads as it did. -/
def walkOnceSpec : ChangeSpec := { name := "walkOnce", fn := fun _ => fun
  | [d] => { results := [.lit (.bool true)], args := [d] }
  | _ => none }
def walkOnceRow : OpenClaim := { program := "ytajhlgdapiihgaa", sum := "bf979deb5caa064ef0f3d5acfec2f0366d7ec54cd34b47d0e2379d8f54db3033", func := "byway/bywaylaw16.WalkOnce", spec := "walkOnce", inPlace := ["internal/bytealg.Compare"], unfollowed := true, recurses := true, plainKeys := false, apart := false }
def WalkOnceSaid : Prop := walkOnceRow.holds Try.pinned (OpenSpec.ofChange walkOnceSpec)

/-- ITS FALSE NEIGHBOUR: 'it returns false'. Refute it at one input. -/
def walkOnceWrong : ChangeSpec := { name := "walkOnce", fn := fun _ => fun
  | [d] => { results := [.lit (.bool false)], args := [d] }
  | _ => none }
def WalkOnceWrongFalsely : Prop := walkOnceRow.holds Try.pinned (OpenSpec.ofChange walkOnceWrong)

/-- 'bywaylaw16.WalkTops': WHATEVER THE INPUT: true; the input reads as it did. -/
def walkTopsSpec : ChangeSpec := { name := "walkTops", fn := fun _ => fun
  | [d1, d2, d3] => { results := [.lit (.bool true)], args := [d1, d2, d3] }
  | _ => none }
def walkTopsRow : OpenClaim := { program := "ytajhlgdapiihgaa", sum := "bf979deb5caa064ef0f3d5acfec2f0366d7ec54cd34b47d0e2379d8f54db3033", func := "byway/bywaylaw16.WalkTops", spec := "walkTops", inPlace := ["internal/bytealg.Compare"], unfollowed := true, recurses := true, plainKeys := false, apart := false }
def WalkTopsSaid : Prop := walkTopsRow.holds Try.pinned (OpenSpec.ofChange walkTopsSpec)

/-- ITS FALSE NEIGHBOUR: 'it returns false'. Refute it at one input. -/
def walkTopsWrong : ChangeSpec := { name := "walkTops", fn := fun _ => fun
  | [d1, d2, d3] => { results := [.lit (.bool false)], args := [d1, d2, d3] }
  | _ => none }
def WalkTopsWrongFalsely : Prop := walkTopsRow.holds Try.pinned (OpenSpec.ofChange walkTopsWrong)

/-- 'bywaylaw16.WalkLean': WHATEVER THE INPUT: true; the input reads as it did. -/
def walkLeanSpec : ChangeSpec := { name := "walkLean", fn := fun _ => fun
  | [d1, d2, d3] => { results := [.lit (.bool true)], args := [d1, d2, d3] }
  | _ => none }
def walkLeanRow : OpenClaim := { program := "ytajhlgdapiihgaa", sum := "bf979deb5caa064ef0f3d5acfec2f0366d7ec54cd34b47d0e2379d8f54db3033", func := "byway/bywaylaw16.WalkLean", spec := "walkLean", inPlace := ["internal/bytealg.Compare"], unfollowed := true, recurses := true, plainKeys := false, apart := false }
def WalkLeanSaid : Prop := walkLeanRow.holds Try.pinned (OpenSpec.ofChange walkLeanSpec)

/-- ITS FALSE NEIGHBOUR: 'it returns false'. Refute it at one input. -/
def walkLeanWrong : ChangeSpec := { name := "walkLean", fn := fun _ => fun
  | [d1, d2, d3] => { results := [.lit (.bool false)], args := [d1, d2, d3] }
  | _ => none }
def WalkLeanWrongFalsely : Prop := walkLeanRow.holds Try.pinned (OpenSpec.ofChange walkLeanWrong)

/-- 'bywaylaw16.WalkChain': WHATEVER THE INPUT: true; the input reads as it did. -/
def walkChainSpec : ChangeSpec := { name := "walkChain", fn := fun _ => fun
  | [d1, d2, d3] => { results := [.lit (.bool true)], args := [d1, d2, d3] }
  | _ => none }
def walkChainRow : OpenClaim := { program := "ytajhlgdapiihgaa", sum := "bf979deb5caa064ef0f3d5acfec2f0366d7ec54cd34b47d0e2379d8f54db3033", func := "byway/bywaylaw16.WalkChain", spec := "walkChain", inPlace := ["internal/bytealg.Compare"], unfollowed := true, recurses := true, plainKeys := false, apart := false }
def WalkChainSaid : Prop := walkChainRow.holds Try.pinned (OpenSpec.ofChange walkChainSpec)

/-- ITS FALSE NEIGHBOUR: 'it returns false'. Refute it at one input. -/
def walkChainWrong : ChangeSpec := { name := "walkChain", fn := fun _ => fun
  | [d1, d2, d3] => { results := [.lit (.bool false)], args := [d1, d2, d3] }
  | _ => none }
def WalkChainWrongFalsely : Prop := walkChainRow.holds Try.pinned (OpenSpec.ofChange walkChainWrong)

/-- 'bywaylaw20.GroupShares': WHATEVER THE INPUT: true; the input reads as it did. -/
def groupSharesSpec : ChangeSpec := { name := "groupShares", fn := fun _ => fun
  | [d1, d2] => { results := [.lit (.bool true)], args := [d1, d2] }
  | _ => none }
def groupSharesRow : OpenClaim := { program := "ytajhlgdapiihgaa", sum := "bf979deb5caa064ef0f3d5acfec2f0366d7ec54cd34b47d0e2379d8f54db3033", func := "byway/bywaylaw20.GroupShares", spec := "groupShares", inPlace := ["slices.overlaps[byway/api.Group]"], unfollowed := true, recurses := true, plainKeys := false, apart := false }
def GroupSharesSaid : Prop := groupSharesRow.holds Try.pinned (OpenSpec.ofChange groupSharesSpec)

/-- ITS FALSE NEIGHBOUR: 'it returns false'. Refute it at one input. -/
def groupSharesWrong : ChangeSpec := { name := "groupShares", fn := fun _ => fun
  | [d1, d2] => { results := [.lit (.bool false)], args := [d1, d2] }
  | _ => none }
def GroupSharesWrongFalsely : Prop := groupSharesRow.holds Try.pinned (OpenSpec.ofChange groupSharesWrong)

/-- 'bywaylaw20.GroupKeeps': WHATEVER THE INPUT: true; the input reads as it did. -/
def groupKeepsSpec : ChangeSpec := { name := "groupKeeps", fn := fun _ => fun
  | [d1, d2, d3, d4] => { results := [.lit (.bool true)], args := [d1, d2, d3, d4] }
  | _ => none }
def groupKeepsRow : OpenClaim := { program := "ytajhlgdapiihgaa", sum := "bf979deb5caa064ef0f3d5acfec2f0366d7ec54cd34b47d0e2379d8f54db3033", func := "byway/bywaylaw20.GroupKeeps", spec := "groupKeeps", inPlace := ["slices.overlaps[byway/api.Group]"], unfollowed := true, recurses := true, plainKeys := false, apart := false }
def GroupKeepsSaid : Prop := groupKeepsRow.holds Try.pinned (OpenSpec.ofChange groupKeepsSpec)

/-- ITS FALSE NEIGHBOUR: 'it returns false'. Refute it at one input. -/
def groupKeepsWrong : ChangeSpec := { name := "groupKeeps", fn := fun _ => fun
  | [d1, d2, d3, d4] => { results := [.lit (.bool false)], args := [d1, d2, d3, d4] }
  | _ => none }
def GroupKeepsWrongFalsely : Prop := groupKeepsRow.holds Try.pinned (OpenSpec.ofChange groupKeepsWrong)

/-- 'bywaylaw20.GroupEven': WHATEVER THE INPUT: true; the input reads as it did. -/
def groupEvenSpec : ChangeSpec := { name := "groupEven", fn := fun _ => fun
  | [d1, d2, d3] => { results := [.lit (.bool true)], args := [d1, d2, d3] }
  | _ => none }
def groupEvenRow : OpenClaim := { program := "ytajhlgdapiihgaa", sum := "bf979deb5caa064ef0f3d5acfec2f0366d7ec54cd34b47d0e2379d8f54db3033", func := "byway/bywaylaw20.GroupEven", spec := "groupEven", inPlace := ["slices.overlaps[byway/api.Group]"], unfollowed := true, recurses := true, plainKeys := false, apart := false }
def GroupEvenSaid : Prop := groupEvenRow.holds Try.pinned (OpenSpec.ofChange groupEvenSpec)

/-- ITS FALSE NEIGHBOUR: 'it returns false'. Refute it at one input. -/
def groupEvenWrong : ChangeSpec := { name := "groupEven", fn := fun _ => fun
  | [d1, d2, d3] => { results := [.lit (.bool false)], args := [d1, d2, d3] }
  | _ => none }
def GroupEvenWrongFalsely : Prop := groupEvenRow.holds Try.pinned (OpenSpec.ofChange groupEvenWrong)

/-- 'bywaylaw04.TrieMore': WHATEVER THE INPUT: true; the input reads as it did. -/
def trieMoreSpec : ChangeSpec := { name := "trieMore", fn := fun _ => fun
  | [d1, d2, d3, d4] => { results := [.lit (.bool true)], args := [d1, d2, d3, d4] }
  | _ => none }
def trieMoreRow : OpenClaim := { program := "ytajhlgdapiihgaa", sum := "bf979deb5caa064ef0f3d5acfec2f0366d7ec54cd34b47d0e2379d8f54db3033", func := "byway/bywaylaw04.TrieMore", spec := "trieMore", inPlace := ["internal/bytealg.Compare", "slices.overlaps[byway/api.Route]"], unfollowed := true, recurses := true, plainKeys := false, apart := false }
def TrieMoreSaid : Prop := trieMoreRow.holds Try.pinned (OpenSpec.ofChange trieMoreSpec)

/-- ITS FALSE NEIGHBOUR: 'it returns false'. Refute it at one input. -/
def trieMoreWrong : ChangeSpec := { name := "trieMore", fn := fun _ => fun
  | [d1, d2, d3, d4] => { results := [.lit (.bool false)], args := [d1, d2, d3, d4] }
  | _ => none }
def TrieMoreWrongFalsely : Prop := trieMoreRow.holds Try.pinned (OpenSpec.ofChange trieMoreWrong)

/-- 'bywaylaw19.JournalRight': WHATEVER THE INPUT: true; the input reads as it did. -/
def journalRightSpec : ChangeSpec := { name := "journalRight", fn := fun _ => fun
  | [d1, d2, d3, d4] => { results := [.lit (.bool true)], args := [d1, d2, d3, d4] }
  | _ => none }
def journalRightRow : OpenClaim := { program := "ytajhlgdapiihgaa", sum := "bf979deb5caa064ef0f3d5acfec2f0366d7ec54cd34b47d0e2379d8f54db3033", func := "byway/bywaylaw19.JournalRight", spec := "journalRight", inPlace := ["internal/bytealg.Compare", "slices.overlaps[byway/api.Route]"], unfollowed := true, recurses := true, plainKeys := false, apart := false }
def JournalRightSaid : Prop := journalRightRow.holds Try.pinned (OpenSpec.ofChange journalRightSpec)

/-- ITS FALSE NEIGHBOUR: 'it returns false'. Refute it at one input. -/
def journalRightWrong : ChangeSpec := { name := "journalRight", fn := fun _ => fun
  | [d1, d2, d3, d4] => { results := [.lit (.bool false)], args := [d1, d2, d3, d4] }
  | _ => none }
def JournalRightWrongFalsely : Prop := journalRightRow.holds Try.pinned (OpenSpec.ofChange journalRightWrong)

/-- 'bywaylaw19.JournalCut': WHATEVER THE INPUT: true; the input reads as it did. -/
def journalCutSpec : ChangeSpec := { name := "journalCut", fn := fun _ => fun
  | [d1, d2, d3] => { results := [.lit (.bool true)], args := [d1, d2, d3] }
  | _ => none }
def journalCutRow : OpenClaim := { program := "ytajhlgdapiihgaa", sum := "bf979deb5caa064ef0f3d5acfec2f0366d7ec54cd34b47d0e2379d8f54db3033", func := "byway/bywaylaw19.JournalCut", spec := "journalCut", inPlace := ["internal/bytealg.Compare", "slices.overlaps[byway/api.Route]"], unfollowed := true, recurses := true, plainKeys := false, apart := false }
def JournalCutSaid : Prop := journalCutRow.holds Try.pinned (OpenSpec.ofChange journalCutSpec)

/-- ITS FALSE NEIGHBOUR: 'it returns false'. Refute it at one input. -/
def journalCutWrong : ChangeSpec := { name := "journalCut", fn := fun _ => fun
  | [d1, d2, d3] => { results := [.lit (.bool false)], args := [d1, d2, d3] }
  | _ => none }
def JournalCutWrongFalsely : Prop := journalCutRow.holds Try.pinned (OpenSpec.ofChange journalCutWrong)

/-- 'bywaylaw19.JournalPlays': WHATEVER THE INPUT: true; the input reads as it did. -/
def journalPlaysSpec : ChangeSpec := { name := "journalPlays", fn := fun _ => fun
  | [d1, d2] => { results := [.lit (.bool true)], args := [d1, d2] }
  | _ => none }
def journalPlaysRow : OpenClaim := { program := "ytajhlgdapiihgaa", sum := "bf979deb5caa064ef0f3d5acfec2f0366d7ec54cd34b47d0e2379d8f54db3033", func := "byway/bywaylaw19.JournalPlays", spec := "journalPlays", inPlace := ["internal/bytealg.Compare", "slices.overlaps[byway/api.Route]"], unfollowed := true, recurses := true, plainKeys := false, apart := false }
def JournalPlaysSaid : Prop := journalPlaysRow.holds Try.pinned (OpenSpec.ofChange journalPlaysSpec)

/-- ITS FALSE NEIGHBOUR: 'it returns false'. Refute it at one input. -/
def journalPlaysWrong : ChangeSpec := { name := "journalPlays", fn := fun _ => fun
  | [d1, d2] => { results := [.lit (.bool false)], args := [d1, d2] }
  | _ => none }
def JournalPlaysWrongFalsely : Prop := journalPlaysRow.holds Try.pinned (OpenSpec.ofChange journalPlaysWrong)

/-- 'bywaylaw19.JournalJoin': WHATEVER THE INPUT: true; the input reads as it did. -/
def journalJoinSpec : ChangeSpec := { name := "journalJoin", fn := fun _ => fun
  | [d1, d2] => { results := [.lit (.bool true)], args := [d1, d2] }
  | _ => none }
def journalJoinRow : OpenClaim := { program := "ytajhlgdapiihgaa", sum := "bf979deb5caa064ef0f3d5acfec2f0366d7ec54cd34b47d0e2379d8f54db3033", func := "byway/bywaylaw19.JournalJoin", spec := "journalJoin", inPlace := ["internal/bytealg.Compare", "slices.overlaps[byway/api.Route]"], unfollowed := true, recurses := true, plainKeys := false, apart := false }
def JournalJoinSaid : Prop := journalJoinRow.holds Try.pinned (OpenSpec.ofChange journalJoinSpec)

/-- ITS FALSE NEIGHBOUR: 'it returns false'. Refute it at one input. -/
def journalJoinWrong : ChangeSpec := { name := "journalJoin", fn := fun _ => fun
  | [d1, d2] => { results := [.lit (.bool false)], args := [d1, d2] }
  | _ => none }
def JournalJoinWrongFalsely : Prop := journalJoinRow.holds Try.pinned (OpenSpec.ofChange journalJoinWrong)

/-- 'bywaylaw23.PagedWhole': WHATEVER THE INPUT: true; the input reads as it did. -/
def pagedWholeSpec : ChangeSpec := { name := "pagedWhole", fn := fun _ => fun
  | [d1, d2, d3, d4] => { results := [.lit (.bool true)], args := [d1, d2, d3, d4] }
  | _ => none }
def pagedWholeRow : OpenClaim := { program := "ytajhlgdapiihgaa", sum := "bf979deb5caa064ef0f3d5acfec2f0366d7ec54cd34b47d0e2379d8f54db3033", func := "byway/bywaylaw23.PagedWhole", spec := "pagedWhole", inPlace := ["internal/bytealg.Compare"], unfollowed := true, recurses := true, plainKeys := false, apart := false }
def PagedWholeSaid : Prop := pagedWholeRow.holds Try.pinned (OpenSpec.ofChange pagedWholeSpec)

/-- ITS FALSE NEIGHBOUR: 'it returns false'. Refute it at one input. -/
def pagedWholeWrong : ChangeSpec := { name := "pagedWhole", fn := fun _ => fun
  | [d1, d2, d3, d4] => { results := [.lit (.bool false)], args := [d1, d2, d3, d4] }
  | _ => none }
def PagedWholeWrongFalsely : Prop := pagedWholeRow.holds Try.pinned (OpenSpec.ofChange pagedWholeWrong)

/-- 'bywaylaw23.PagedSame': WHATEVER THE INPUT: true; the input reads as it did. -/
def pagedSameSpec : ChangeSpec := { name := "pagedSame", fn := fun _ => fun
  | [d1, d2, d3, d4, d5] => { results := [.lit (.bool true)], args := [d1, d2, d3, d4, d5] }
  | _ => none }
def pagedSameRow : OpenClaim := { program := "ytajhlgdapiihgaa", sum := "bf979deb5caa064ef0f3d5acfec2f0366d7ec54cd34b47d0e2379d8f54db3033", func := "byway/bywaylaw23.PagedSame", spec := "pagedSame", inPlace := ["internal/bytealg.Compare"], unfollowed := true, recurses := true, plainKeys := false, apart := false }
def PagedSameSaid : Prop := pagedSameRow.holds Try.pinned (OpenSpec.ofChange pagedSameSpec)

/-- ITS FALSE NEIGHBOUR: 'it returns false'. Refute it at one input. -/
def pagedSameWrong : ChangeSpec := { name := "pagedSame", fn := fun _ => fun
  | [d1, d2, d3, d4, d5] => { results := [.lit (.bool false)], args := [d1, d2, d3, d4, d5] }
  | _ => none }
def PagedSameWrongFalsely : Prop := pagedSameRow.holds Try.pinned (OpenSpec.ofChange pagedSameWrong)

/- THE SECOND FORM. 'bulk': how many values and letters a reading holds, each counted each time it is reached (what is shared counts as often as it is met; a slice's spare places count too). A statement '..UptoSaid' is the law's where the arguments, and the package variables that the reading takes, are together of bulk at most 1048576: NARROWER than '..Said'. Prove '..Said' where nothing that the law and all that it calls make is longer than what came in: it says more and counts as full. Else prove '..UptoSaid'. A law counts once. -/
mutual
def uptoBulk {H : Type} : DataW H → Nat
  | .lit (.string bytes) => bytes.length + 1
  | .lit _ => 1
  | .nil => 1
  | .ptr d => uptoBulk d + 1
  | .slice elems spare => uptoBulkAll elems + uptoBulkAll spare + 1
  | .agg parts => uptoBulkAll parts + 1
  | .iface _ d => uptoBulk d + 1
  | .map entries => uptoBulkEntries entries + 1
  | .held _ => 1
def uptoBulkAll {H : Type} : List (DataW H) → Nat
  | [] => 0
  | d :: r => uptoBulk d + uptoBulkAll r
def uptoBulkEntries {H : Type} : List (Lit × DataW H) → Nat
  | [] => 0
  | x :: r => uptoBulkEntry x + uptoBulkEntries r
def uptoBulkEntry {H : Type} : Lit × DataW H → Nat
  | (.string bytes, d) => bytes.length + uptoBulk d + 1
  | (_, d) => uptoBulk d + 1
 end
def uptoSmall : (H : Type) → List (DataW H) → Bool := fun _ ds => decide (uptoBulkAll ds ≤ 1048576)
def OpenSpec.upto (s : _root_.Go.ChangeSpec) : _root_.Go.OpenSpec := { _root_.Go.OpenSpec.ofChange s with cond := some uptoSmall }

/-- 'bywaylaw16.WalkRight', WHERE WHAT IT READS IS OF BULK AT MOST 1048576: true; the input reads as it did. -/
def walkRightUptoRow : OpenClaim := { program := "ytajhlgdapiihgaa", sum := "bf979deb5caa064ef0f3d5acfec2f0366d7ec54cd34b47d0e2379d8f54db3033", func := "byway/bywaylaw16.WalkRight", spec := "walkRight", inPlace := ["internal/bytealg.Compare"], unfollowed := true, recurses := true, plainKeys := false, apart := false, narrowed := true }
def WalkRightUptoSaid : Prop := walkRightUptoRow.holds Try.pinned (OpenSpec.upto walkRightSpec)

/-- 'bywaylaw16.WalkOnce', WHERE WHAT IT READS IS OF BULK AT MOST 1048576: true; the input reads as it did. -/
def walkOnceUptoRow : OpenClaim := { program := "ytajhlgdapiihgaa", sum := "bf979deb5caa064ef0f3d5acfec2f0366d7ec54cd34b47d0e2379d8f54db3033", func := "byway/bywaylaw16.WalkOnce", spec := "walkOnce", inPlace := ["internal/bytealg.Compare"], unfollowed := true, recurses := true, plainKeys := false, apart := false, narrowed := true }
def WalkOnceUptoSaid : Prop := walkOnceUptoRow.holds Try.pinned (OpenSpec.upto walkOnceSpec)

/-- 'bywaylaw16.WalkTops', WHERE WHAT IT READS IS OF BULK AT MOST 1048576: true; the input reads as it did. -/
def walkTopsUptoRow : OpenClaim := { program := "ytajhlgdapiihgaa", sum := "bf979deb5caa064ef0f3d5acfec2f0366d7ec54cd34b47d0e2379d8f54db3033", func := "byway/bywaylaw16.WalkTops", spec := "walkTops", inPlace := ["internal/bytealg.Compare"], unfollowed := true, recurses := true, plainKeys := false, apart := false, narrowed := true }
def WalkTopsUptoSaid : Prop := walkTopsUptoRow.holds Try.pinned (OpenSpec.upto walkTopsSpec)

/-- 'bywaylaw16.WalkLean', WHERE WHAT IT READS IS OF BULK AT MOST 1048576: true; the input reads as it did. -/
def walkLeanUptoRow : OpenClaim := { program := "ytajhlgdapiihgaa", sum := "bf979deb5caa064ef0f3d5acfec2f0366d7ec54cd34b47d0e2379d8f54db3033", func := "byway/bywaylaw16.WalkLean", spec := "walkLean", inPlace := ["internal/bytealg.Compare"], unfollowed := true, recurses := true, plainKeys := false, apart := false, narrowed := true }
def WalkLeanUptoSaid : Prop := walkLeanUptoRow.holds Try.pinned (OpenSpec.upto walkLeanSpec)

/-- 'bywaylaw16.WalkChain', WHERE WHAT IT READS IS OF BULK AT MOST 1048576: true; the input reads as it did. -/
def walkChainUptoRow : OpenClaim := { program := "ytajhlgdapiihgaa", sum := "bf979deb5caa064ef0f3d5acfec2f0366d7ec54cd34b47d0e2379d8f54db3033", func := "byway/bywaylaw16.WalkChain", spec := "walkChain", inPlace := ["internal/bytealg.Compare"], unfollowed := true, recurses := true, plainKeys := false, apart := false, narrowed := true }
def WalkChainUptoSaid : Prop := walkChainUptoRow.holds Try.pinned (OpenSpec.upto walkChainSpec)

/-- 'bywaylaw20.GroupShares', WHERE WHAT IT READS IS OF BULK AT MOST 1048576: true; the input reads as it did. -/
def groupSharesUptoRow : OpenClaim := { program := "ytajhlgdapiihgaa", sum := "bf979deb5caa064ef0f3d5acfec2f0366d7ec54cd34b47d0e2379d8f54db3033", func := "byway/bywaylaw20.GroupShares", spec := "groupShares", inPlace := ["slices.overlaps[byway/api.Group]"], unfollowed := true, recurses := true, plainKeys := false, apart := false, narrowed := true }
def GroupSharesUptoSaid : Prop := groupSharesUptoRow.holds Try.pinned (OpenSpec.upto groupSharesSpec)

/-- 'bywaylaw20.GroupKeeps', WHERE WHAT IT READS IS OF BULK AT MOST 1048576: true; the input reads as it did. -/
def groupKeepsUptoRow : OpenClaim := { program := "ytajhlgdapiihgaa", sum := "bf979deb5caa064ef0f3d5acfec2f0366d7ec54cd34b47d0e2379d8f54db3033", func := "byway/bywaylaw20.GroupKeeps", spec := "groupKeeps", inPlace := ["slices.overlaps[byway/api.Group]"], unfollowed := true, recurses := true, plainKeys := false, apart := false, narrowed := true }
def GroupKeepsUptoSaid : Prop := groupKeepsUptoRow.holds Try.pinned (OpenSpec.upto groupKeepsSpec)

/-- 'bywaylaw20.GroupEven', WHERE WHAT IT READS IS OF BULK AT MOST 1048576: true; the input reads as it did. -/
def groupEvenUptoRow : OpenClaim := { program := "ytajhlgdapiihgaa", sum := "bf979deb5caa064ef0f3d5acfec2f0366d7ec54cd34b47d0e2379d8f54db3033", func := "byway/bywaylaw20.GroupEven", spec := "groupEven", inPlace := ["slices.overlaps[byway/api.Group]"], unfollowed := true, recurses := true, plainKeys := false, apart := false, narrowed := true }
def GroupEvenUptoSaid : Prop := groupEvenUptoRow.holds Try.pinned (OpenSpec.upto groupEvenSpec)

/-- 'bywaylaw04.TrieMore', WHERE WHAT IT READS IS OF BULK AT MOST 1048576: true; the input reads as it did. -/
def trieMoreUptoRow : OpenClaim := { program := "ytajhlgdapiihgaa", sum := "bf979deb5caa064ef0f3d5acfec2f0366d7ec54cd34b47d0e2379d8f54db3033", func := "byway/bywaylaw04.TrieMore", spec := "trieMore", inPlace := ["internal/bytealg.Compare", "slices.overlaps[byway/api.Route]"], unfollowed := true, recurses := true, plainKeys := false, apart := false, narrowed := true }
def TrieMoreUptoSaid : Prop := trieMoreUptoRow.holds Try.pinned (OpenSpec.upto trieMoreSpec)

/-- 'bywaylaw19.JournalRight', WHERE WHAT IT READS IS OF BULK AT MOST 1048576: true; the input reads as it did. -/
def journalRightUptoRow : OpenClaim := { program := "ytajhlgdapiihgaa", sum := "bf979deb5caa064ef0f3d5acfec2f0366d7ec54cd34b47d0e2379d8f54db3033", func := "byway/bywaylaw19.JournalRight", spec := "journalRight", inPlace := ["internal/bytealg.Compare", "slices.overlaps[byway/api.Route]"], unfollowed := true, recurses := true, plainKeys := false, apart := false, narrowed := true }
def JournalRightUptoSaid : Prop := journalRightUptoRow.holds Try.pinned (OpenSpec.upto journalRightSpec)

/-- 'bywaylaw19.JournalCut', WHERE WHAT IT READS IS OF BULK AT MOST 1048576: true; the input reads as it did. -/
def journalCutUptoRow : OpenClaim := { program := "ytajhlgdapiihgaa", sum := "bf979deb5caa064ef0f3d5acfec2f0366d7ec54cd34b47d0e2379d8f54db3033", func := "byway/bywaylaw19.JournalCut", spec := "journalCut", inPlace := ["internal/bytealg.Compare", "slices.overlaps[byway/api.Route]"], unfollowed := true, recurses := true, plainKeys := false, apart := false, narrowed := true }
def JournalCutUptoSaid : Prop := journalCutUptoRow.holds Try.pinned (OpenSpec.upto journalCutSpec)

/-- 'bywaylaw19.JournalPlays', WHERE WHAT IT READS IS OF BULK AT MOST 1048576: true; the input reads as it did. -/
def journalPlaysUptoRow : OpenClaim := { program := "ytajhlgdapiihgaa", sum := "bf979deb5caa064ef0f3d5acfec2f0366d7ec54cd34b47d0e2379d8f54db3033", func := "byway/bywaylaw19.JournalPlays", spec := "journalPlays", inPlace := ["internal/bytealg.Compare", "slices.overlaps[byway/api.Route]"], unfollowed := true, recurses := true, plainKeys := false, apart := false, narrowed := true }
def JournalPlaysUptoSaid : Prop := journalPlaysUptoRow.holds Try.pinned (OpenSpec.upto journalPlaysSpec)

/-- 'bywaylaw19.JournalJoin', WHERE WHAT IT READS IS OF BULK AT MOST 1048576: true; the input reads as it did. -/
def journalJoinUptoRow : OpenClaim := { program := "ytajhlgdapiihgaa", sum := "bf979deb5caa064ef0f3d5acfec2f0366d7ec54cd34b47d0e2379d8f54db3033", func := "byway/bywaylaw19.JournalJoin", spec := "journalJoin", inPlace := ["internal/bytealg.Compare", "slices.overlaps[byway/api.Route]"], unfollowed := true, recurses := true, plainKeys := false, apart := false, narrowed := true }
def JournalJoinUptoSaid : Prop := journalJoinUptoRow.holds Try.pinned (OpenSpec.upto journalJoinSpec)

/-- 'bywaylaw23.PagedWhole', WHERE WHAT IT READS IS OF BULK AT MOST 1048576: true; the input reads as it did. -/
def pagedWholeUptoRow : OpenClaim := { program := "ytajhlgdapiihgaa", sum := "bf979deb5caa064ef0f3d5acfec2f0366d7ec54cd34b47d0e2379d8f54db3033", func := "byway/bywaylaw23.PagedWhole", spec := "pagedWhole", inPlace := ["internal/bytealg.Compare"], unfollowed := true, recurses := true, plainKeys := false, apart := false, narrowed := true }
def PagedWholeUptoSaid : Prop := pagedWholeUptoRow.holds Try.pinned (OpenSpec.upto pagedWholeSpec)

/-- 'bywaylaw23.PagedSame', WHERE WHAT IT READS IS OF BULK AT MOST 1048576: true; the input reads as it did. -/
def pagedSameUptoRow : OpenClaim := { program := "ytajhlgdapiihgaa", sum := "bf979deb5caa064ef0f3d5acfec2f0366d7ec54cd34b47d0e2379d8f54db3033", func := "byway/bywaylaw23.PagedSame", spec := "pagedSame", inPlace := ["internal/bytealg.Compare"], unfollowed := true, recurses := true, plainKeys := false, apart := false, narrowed := true }
def PagedSameUptoSaid : Prop := pagedSameUptoRow.holds Try.pinned (OpenSpec.upto pagedSameSpec)

end Rows
end Go.Proofs.Ytajhlgdapiihgaa
