/- The law JournalJoin holds: two journals, one behind the other, are the batches of both, if the first one is whole; what is not a journal is none. It holds of all arguments that can be read; its arguments read behind the call as they did. -/
import Derived.Test.YtajhlgdapiihgaaRows
import Derived.Test.YtajhlgdapiihgaaOpCm
import Derived.Test.YtajhlgdapiihgaaJRm

set_option linter.unusedSimpArgs false
set_option linter.unusedVariables false
namespace Go.Proofs.Ytajhlgdapiihgaa
open Go.Eng Go.Kb Go.ChangeShapes Go.WideShapes Go.ChangeAt Go.RowKit

theorem Try.own : ownKnob Try.prog.godebug = none := by kernel_rfl
theorem Try.laidOut : laidOutB Try.prog = true := by kernel_rfl
set_option maxRecDepth 100000 in
theorem journalJoin_call {H : Type} {enc : TypeId × Value → H} (W : World) (base : Nat) (vs : List Value) (hl : vs.length = 2) (h : ∀ (j : Nat) t v, Try.f15.params[j]? = some t → vs[j]? = some v → Arg H enc Try.prog W base t v) :
    Calls Try.prog 15 vs.toArray W fun e W' => e = .returned (.bool true) ∧ Mem W [] W' := by
  rw [Try.params15] at h
  obtain ⟨v0, v1, rfl⟩ := list2 hl
  obtain ⟨x0, rfl, g0⟩ := (h 0 83 v0 rfl rfl).sl Try.underlying83 UInt8
  obtain ⟨x1, rfl, g1⟩ := (h 1 83 v1 rfl rfl).sl Try.underlying83 UInt8
  exact journalJoin_c W x0.sv x0.xs x1.sv x1.xs g0.1 g1.1
set_option maxRecDepth 100000 in
theorem journalJoin_lifted (os : Os) (started : os.Started) (H : Type) (enc : TypeId × Value → H) :
    ReturnsInHanded {} Try.checked os 15 .any (Rows.journalJoinSpec.pre6 enc Try.prog Try.f15 Rows.journalJoinRow.domain false) (Rows.journalJoinSpec.post enc Try.prog Try.f15 false true false false) :=
  lifted_true2 (C := Try.checked) Try.own started (by kernel_rfl) Try.func15
    (ChangeSpec.witness6 (enc := enc) (C := Try.checked) false ⟨#[], #[.slice none 0 0, .slice none 0 0], []⟩ 24 (by kernel_rfl) (by kernel_rfl) (by kernel_rfl) (by kernel_rfl))
    Try.laidOut (by kernel_rfl) rfl Try.underlying4 rfl (fun ds hd => by obtain ⟨d0, d1, rfl⟩ := list2 (hd.trans (by kernel_rfl)); rfl)
    (fun W base vs hl h => journalJoin_call W base vs (hl.trans (by kernel_rfl)) h)
theorem journalJoin_holds : Rows.JournalJoinSaid :=
  OpenClaim.holds_of_wide 15 Try.f15 rfl rfl rfl rfl rfl rfl rfl ⟨rfl, rfl, rfl, rfl, rfl⟩ rfl rfl rfl rfl rfl (by kernel_rfl) Try.func15 (by kernel_rfl)
    (of_decide_eq_true (by kernel_rfl)) (by unfold Func.isWrapper; first | (rw [if_pos (by decide +kernel)]; kernel_rfl) | (rw [if_neg (by decide +kernel)]; exact ⟨rfl, rfl⟩))
    (fun os started H enc _ => journalJoin_lifted os started H enc)

end Go.Proofs.Ytajhlgdapiihgaa

