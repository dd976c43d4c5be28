/- The law JournalPlays holds: what a journal of batches that can be made makes of a table is what all of them make, one behind the other; a batch that cannot be made ends it. It holds of all arguments that can be read; its arguments read behind the call as they did. -/
import Derived.Test.YtajhlgdapiihgaaRows
import Derived.Test.YtajhlgdapiihgaaOpCm
import Derived.Test.YtajhlgdapiihgaaJQm

set_option linter.unusedSimpArgs false
set_option linter.unusedVariables false
namespace Go.Proofs.Ytajhlgdapiihgaa
open Go.Eng Go.Kb Go.ChangeShapes Go.WideShapes Go.ChangeAt Go.RowKit

theorem Try.own : ownKnob Try.prog.godebug = none := by kernel_rfl
theorem Try.laidOut : laidOutB Try.prog = true := by kernel_rfl
set_option maxRecDepth 100000 in
theorem journalPlays_call {H : Type} {enc : TypeId × Value → H} (W : World) (base : Nat) (vs : List Value) (hl : vs.length = 2) (h : ∀ (j : Nat) t v, Try.f14.params[j]? = some t → vs[j]? = some v → Arg H enc Try.prog W base t v) :
    Calls Try.prog 14 vs.toArray W fun e W' => e = .returned (.bool true) ∧ Mem W [] W' := by
  rw [Try.params14] at h
  obtain ⟨v0, v1, rfl⟩ := list2 hl
  obtain ⟨x0, rfl, g0⟩ := (h 0 22 v0 rfl rfl).sl Try.underlying22 Rt
  obtain ⟨x1, rfl, g1⟩ := (h 1 95 v1 rfl rfl).sl Try.underlying95 (Sl Ch)
  exact journalPlays_c W x0.sv x0.xs x1 g0.1 g1
set_option maxRecDepth 100000 in
theorem journalPlays_lifted (os : Os) (started : os.Started) (H : Type) (enc : TypeId × Value → H) :
    ReturnsInHanded {} Try.checked os 14 .any (Rows.journalPlaysSpec.pre6 enc Try.prog Try.f14 Rows.journalPlaysRow.domain false) (Rows.journalPlaysSpec.post enc Try.prog Try.f14 false true false false) :=
  lifted_true2 (C := Try.checked) Try.own started (by kernel_rfl) Try.func14
    (ChangeSpec.witness6 (enc := enc) (C := Try.checked) false ⟨#[], #[.slice none 0 0, .slice none 0 0], []⟩ 24 (by kernel_rfl) (by kernel_rfl) (by kernel_rfl) (by kernel_rfl))
    Try.laidOut (by kernel_rfl) rfl Try.underlying4 rfl (fun ds hd => by obtain ⟨d0, d1, rfl⟩ := list2 (hd.trans (by kernel_rfl)); rfl)
    (fun W base vs hl h => journalPlays_call W base vs (hl.trans (by kernel_rfl)) h)
theorem journalPlays_holds : Rows.JournalPlaysSaid :=
  OpenClaim.holds_of_wide 14 Try.f14 rfl rfl rfl rfl rfl rfl rfl ⟨rfl, rfl, rfl, rfl, rfl⟩ rfl rfl rfl rfl rfl (by kernel_rfl) Try.func14 (by kernel_rfl)
    (of_decide_eq_true (by kernel_rfl)) (by unfold Func.isWrapper; first | (rw [if_pos (by decide +kernel)]; kernel_rfl) | (rw [if_neg (by decide +kernel)]; exact ⟨rfl, rfl⟩))
    (fun os started H enc _ => journalPlays_lifted os started H enc)

end Go.Proofs.Ytajhlgdapiihgaa

