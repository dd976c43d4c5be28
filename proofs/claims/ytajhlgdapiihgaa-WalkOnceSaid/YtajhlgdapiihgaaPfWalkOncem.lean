/- The law WalkOnce holds: whoever asks for the next route, and the next, comes by each route once, in order. It holds of all arguments that can be read; its arguments read behind the call as they did. -/
import Derived.Test.YtajhlgdapiihgaaRows
import Derived.Test.YtajhlgdapiihgaaMe
import Derived.Test.YtajhlgdapiihgaaWOm

set_option linter.unusedSimpArgs false
set_option linter.unusedVariables false
namespace Go.Proofs.Ytajhlgdapiihgaa
open Go.Eng Go.Kb Go.ChangeShapes Go.WideShapes Go.ChangeAt Go.RowKit

theorem Try.own : ownKnob Try.prog.godebug = none := by kernel_rfl
theorem Try.laidOut : laidOutB Try.prog = true := by kernel_rfl
set_option maxRecDepth 100000 in
theorem walkOnce_call {H : Type} {enc : TypeId × Value → H} (W : World) (base : Nat) (vs : List Value) (hl : vs.length = 1) (h : ∀ (j : Nat) t v, Try.f4.params[j]? = some t → vs[j]? = some v → Arg H enc Try.prog W base t v) :
    Calls Try.prog 4 vs.toArray W fun e W' => e = .returned (.bool true) ∧ Mem W [] W' := by
  rw [Try.params4] at h
  obtain ⟨v0, rfl⟩ := list1 hl
  obtain ⟨x0, rfl, g0⟩ := (h 0 22 v0 rfl rfl).sl Try.underlying22 Rt
  exact walkOnce_c W x0.sv x0.xs g0.1
set_option maxRecDepth 100000 in
theorem walkOnce_lifted (os : Os) (started : os.Started) (H : Type) (enc : TypeId × Value → H) :
    ReturnsInHanded {} Try.checked os 4 .any (Rows.walkOnceSpec.pre6 enc Try.prog Try.f4 Rows.walkOnceRow.domain false) (Rows.walkOnceSpec.post enc Try.prog Try.f4 false true false false) :=
  lifted_true2 (C := Try.checked) Try.own started (by kernel_rfl) Try.func4
    (ChangeSpec.witness6 (enc := enc) (C := Try.checked) false ⟨#[], #[.slice none 0 0], []⟩ 24 (by kernel_rfl) (by kernel_rfl) (by kernel_rfl) (by kernel_rfl))
    Try.laidOut (by kernel_rfl) rfl Try.underlying4 rfl (fun ds hd => by obtain ⟨d0, rfl⟩ := list1 (hd.trans (by kernel_rfl)); rfl)
    (fun W base vs hl h => walkOnce_call W base vs (hl.trans (by kernel_rfl)) h)
theorem walkOnce_holds : Rows.WalkOnceSaid :=
  OpenClaim.holds_of_wide 4 Try.f4 rfl rfl rfl rfl rfl rfl rfl ⟨rfl, rfl, rfl, rfl, rfl⟩ rfl rfl rfl rfl rfl (by kernel_rfl) Try.func4 (by kernel_rfl)
    (of_decide_eq_true (by kernel_rfl)) (by unfold Func.isWrapper; first | (rw [if_pos (by decide +kernel)]; kernel_rfl) | (rw [if_neg (by decide +kernel)]; exact ⟨rfl, rfl⟩))
    (fun os started H enc _ => walkOnce_lifted os started H enc)

end Go.Proofs.Ytajhlgdapiihgaa

