/- The law KeySteps over keys holds: it yields true whatever its arguments, and its arguments read behind the call as they did. -/
import Derived.Test.YtembaconocgmlaaRows
import Derived.Test.YtembaconocgmlaaRow
import Derived.Test.YtembaconocgmlaaLaw1
namespace Go.Proofs.Ytembaconocgmlaa
open Go.Eng Go.Kb Go.ChangeShapes Go.WideShapes Go.ChangeAt Go.RowKit

theorem Try.own : ownKnob Try.prog.godebug = none := by kernel_rfl
theorem Try.laidOut : laidOutB Try.prog = true := by kernel_rfl

set_option maxRecDepth 100000 in
theorem keySteps_call (W : World) (base : Nat) (vs : List Value) (hl : vs.length = 2) (h : ∀ (j : Nat) t v, Try.f9.params[j]? = some t → vs[j]? = some v → Value.okWide Try.prog W .any base t v) :
    Calls Try.prog 9 vs.toArray W fun e W' => e = .returned (.bool true) ∧ Mem W [] W' := by
  rw [Try.params9] at h
  obtain ⟨v0, v1, rfl⟩ := list2 hl
  obtain ⟨x0, rfl⟩ := pfx_of_okWide (t := 50) (e := 5) (i := 3) Try.underlying50 (by kernel_rfl) Try.underlying5 Try.underlying3 (by kernel_rfl) (h 0 50 v0 rfl rfl)
  obtain ⟨x1, rfl⟩ := key_of_okWide (t := 48) (e := 5) Try.underlying48 (by kernel_rfl) Try.underlying5 (by kernel_rfl) (h 1 48 v1 rfl rfl)
  exact (keySteps_c x0 x1).h W
set_option maxRecDepth 100000 in
theorem keySteps_lifted (os : Os) (started : os.Started) (H : Type) (enc : TypeId × Value → H) :
    ReturnsInHanded {} Try.checked os 9 .any (Rows.keyStepsSpec.pre6 enc Try.prog Try.f9 Rows.keyStepsRow.domain false) (Rows.keyStepsSpec.post enc Try.prog Try.f9 false true false false) :=
  lifted_true (C := Try.checked) Try.own started (by kernel_rfl) Try.func9
    (ChangeSpec.witness6 (enc := enc) (C := Try.checked) false ⟨#[], #[.agg #[.int .i64 0, .int .i64 0, .int .u8 0, .int .u8 0, .int .u8 0, .int .u8 0, .int .u8 0, .int .u8 0, .int .u8 0, .int .u8 0, .int .u8 0, .int .u8 0, .int .u8 0, .int .u8 0, .int .u8 0, .int .u8 0, .int .u8 0, .int .u8 0], .agg #[.int .u8 0, .int .u8 0, .int .u8 0, .int .u8 0, .int .u8 0, .int .u8 0, .int .u8 0, .int .u8 0, .int .u8 0, .int .u8 0, .int .u8 0, .int .u8 0, .int .u8 0, .int .u8 0, .int .u8 0, .int .u8 0]], []⟩ 24 (by kernel_rfl) (by kernel_rfl) (by kernel_rfl) (by kernel_rfl))
    Try.laidOut (by kernel_rfl) rfl Try.underlying4 rfl (fun ds hd => by obtain ⟨d0, d1, rfl⟩ := list2 (hd.trans (by kernel_rfl)); rfl)
    (fun W base vs hl h => keySteps_call W base vs (hl.trans (by kernel_rfl)) h)
theorem keySteps_holds : Rows.KeyStepsSaid :=
  OpenClaim.holds_of_wide 9 Try.f9 rfl rfl rfl rfl rfl rfl rfl ⟨rfl, rfl, rfl, rfl, rfl⟩ rfl rfl rfl rfl rfl (by kernel_rfl) Try.func9 (by kernel_rfl)
    (of_decide_eq_true (by kernel_rfl)) (by unfold Func.isWrapper; first | (rw [if_pos (by decide +kernel)]; kernel_rfl) | (rw [if_neg (by decide +kernel)]; exact ⟨rfl, rfl⟩))
    (fun os started H enc _ => keySteps_lifted os started H enc)

end Go.Proofs.Ytembaconocgmlaa
