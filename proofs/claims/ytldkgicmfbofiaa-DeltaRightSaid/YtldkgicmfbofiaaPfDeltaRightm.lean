/- The law DeltaRight holds: what makes one table of another one, which changes are folded, needed, and undo others, and what two are together, is what the reference says. It holds of all arguments that can be read; its arguments read behind the call as they did. -/
import Derived.Test.YtldkgicmfbofiaaRows
import Derived.Test.YtldkgicmfbofiaaMx
import Derived.Test.YtldkgicmfbofiaaDLm

set_option linter.unusedSimpArgs false
set_option linter.unusedVariables false
namespace Go.Proofs.Ytldkgicmfbofiaa
open Go.Eng Go.Kb Go.ChangeShapes Go.WideShapes Go.ChangeAt Go.RowKit

theorem Try.own : ownKnob Try.prog.godebug = none := by kernel_rfl
theorem Try.laidOut : laidOutB Try.prog = true := by kernel_rfl
set_option maxRecDepth 100000 in
theorem deltaRight_call {H : Type} {enc : TypeId × Value → H} (W : World) (base : Nat) (vs : List Value) (hl : vs.length = 4) (h : ∀ (j : Nat) t v, Try.f11.params[j]? = some t → vs[j]? = some v → Arg H enc Try.prog W base t v) :
    Calls Try.prog 11 vs.toArray W fun e W' => e = .returned (.bool true) ∧ Mem W [] W' := by
  rw [Try.params11] at h
  obtain ⟨v0, v1, v2, v3, rfl⟩ := list4 hl
  obtain ⟨x0, rfl, g0⟩ := (h 0 22 v0 rfl rfl).sl Try.underlying22 Rt
  obtain ⟨x1, rfl, g1⟩ := (h 1 22 v1 rfl rfl).sl Try.underlying22 Rt
  obtain ⟨x2, rfl, g2⟩ := (h 2 22 v2 rfl rfl).sl Try.underlying22 Rt
  obtain ⟨x3, rfl, g3⟩ := (h 3 27 v3 rfl rfl).sl Try.underlying27 Ch
  exact deltaRight_c W x0.sv x0.xs x1.sv x1.xs x2.sv x2.xs x3.sv x3.xs g0.1 g1.1 g2.1 g3.1
set_option maxRecDepth 100000 in
theorem deltaRight_lifted (os : Os) (started : os.Started) (H : Type) (enc : TypeId × Value → H) :
    ReturnsInHanded {} Try.checked os 11 .any (Rows.deltaRightSpec.pre6 enc Try.prog Try.f11 Rows.deltaRightRow.domain false) (Rows.deltaRightSpec.post enc Try.prog Try.f11 false true false false) :=
  lifted_true2 (C := Try.checked) Try.own started (by kernel_rfl) Try.func11
    (ChangeSpec.witness6 (enc := enc) (C := Try.checked) false ⟨#[], #[.slice none 0 0, .slice none 0 0, .slice none 0 0, .slice none 0 0], []⟩ 24 (by kernel_rfl) (by kernel_rfl) (by kernel_rfl) (by kernel_rfl))
    Try.laidOut (by kernel_rfl) rfl Try.underlying4 rfl (fun ds hd => by obtain ⟨d0, d1, d2, d3, rfl⟩ := list4 (hd.trans (by kernel_rfl)); rfl)
    (fun W base vs hl h => deltaRight_call W base vs (hl.trans (by kernel_rfl)) h)
theorem deltaRight_holds : Rows.DeltaRightSaid :=
  OpenClaim.holds_of_wide 11 Try.f11 rfl rfl rfl rfl rfl rfl rfl ⟨rfl, rfl, rfl, rfl, rfl⟩ rfl rfl rfl rfl rfl (by kernel_rfl) Try.func11 (by kernel_rfl)
    (of_decide_eq_true (by kernel_rfl)) (by unfold Func.isWrapper; first | (rw [if_pos (by decide +kernel)]; kernel_rfl) | (rw [if_neg (by decide +kernel)]; exact ⟨rfl, rfl⟩))
    (fun os started H enc _ => deltaRight_lifted os started H enc)

end Go.Proofs.Ytldkgicmfbofiaa

