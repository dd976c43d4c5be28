/- The law GroupEven holds: members that weigh alike get alike, within one, of any numbers from 0 on; a group of one member gives it all. It holds of all arguments that can be read; its arguments read behind the call as they did. -/
import Derived.Test.YtajhlgdapiihgaaRows
import Derived.Test.YtajhlgdapiihgaaOpGm
import Derived.Test.YtajhlgdapiihgaaGIm

set_option linter.unusedSimpArgs false
set_option linter.unusedVariables false
namespace Go.Proofs.Ytajhlgdapiihgaa
open Go.Eng Go.Kb Go.ChangeShapes Go.WideShapes Go.ChangeAt Go.RowKit

theorem Try.own : ownKnob Try.prog.godebug = none := by kernel_rfl
theorem Try.laidOut : laidOutB Try.prog = true := by kernel_rfl
set_option maxRecDepth 100000 in
theorem groupEven_call {H : Type} {enc : TypeId × Value → H} (W : World) (base : Nat) (vs : List Value) (hl : vs.length = 3) (h : ∀ (j : Nat) t v, Try.f10.params[j]? = some t → vs[j]? = some v → Arg H enc Try.prog W base t v) :
    Calls Try.prog 10 vs.toArray W fun e W' => e = .returned (.bool true) ∧ Mem W [] W' := by
  rw [Try.params10] at h
  obtain ⟨v0, v1, v2, rfl⟩ := list3 hl
  obtain ⟨x0, rfl, g0⟩ := (h 0 67 v0 rfl rfl).sl Try.underlying67 UInt16
  obtain ⟨x1, rfl⟩ := u8_of_okWide2 (t := 5) Try.underlying5 (h 1 5 v1 rfl rfl).ok
  obtain ⟨x2, rfl⟩ := u16_of_okWide2 (t := 28) Try.underlying28 (h 2 28 v2 rfl rfl).ok
  exact groupEven_c W x0.sv x0.xs x1 x2 g0.1
set_option maxRecDepth 100000 in
theorem groupEven_lifted (os : Os) (started : os.Started) (H : Type) (enc : TypeId × Value → H) :
    ReturnsInHanded {} Try.checked os 10 .any (Rows.groupEvenSpec.pre6 enc Try.prog Try.f10 Rows.groupEvenRow.domain false) (Rows.groupEvenSpec.post enc Try.prog Try.f10 false true false false) :=
  lifted_true2 (C := Try.checked) Try.own started (by kernel_rfl) Try.func10
    (ChangeSpec.witness6 (enc := enc) (C := Try.checked) false ⟨#[], #[.slice none 0 0, .int .u8 0, .int .u16 0], []⟩ 24 (by kernel_rfl) (by kernel_rfl) (by kernel_rfl) (by kernel_rfl))
    Try.laidOut (by kernel_rfl) rfl Try.underlying4 rfl (fun ds hd => by obtain ⟨d0, d1, d2, rfl⟩ := list3 (hd.trans (by kernel_rfl)); rfl)
    (fun W base vs hl h => groupEven_call W base vs (hl.trans (by kernel_rfl)) h)
theorem groupEven_holds : Rows.GroupEvenSaid :=
  OpenClaim.holds_of_wide 10 Try.f10 rfl rfl rfl rfl rfl rfl rfl ⟨rfl, rfl, rfl, rfl, rfl⟩ rfl rfl rfl rfl rfl (by kernel_rfl) Try.func10 (by kernel_rfl)
    (of_decide_eq_true (by kernel_rfl)) (by unfold Func.isWrapper; first | (rw [if_pos (by decide +kernel)]; kernel_rfl) | (rw [if_neg (by decide +kernel)]; exact ⟨rfl, rfl⟩))
    (fun os started H enc _ => groupEven_lifted os started H enc)

end Go.Proofs.Ytajhlgdapiihgaa

