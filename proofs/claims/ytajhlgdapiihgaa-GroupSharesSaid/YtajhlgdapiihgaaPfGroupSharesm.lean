/- The law GroupShares holds: of any numbers, one behind the other, as many as a group weighs, each member gets as many as it weighs, but where the numbers begin anew. It holds of all arguments that can be read; its arguments read behind the call as they did. -/
import Derived.Test.YtajhlgdapiihgaaRows
import Derived.Test.YtajhlgdapiihgaaOpGm
import Derived.Test.YtajhlgdapiihgaaGHm

set_option linter.unusedSimpArgs false
set_option linter.unusedVariables false
namespace Go.Proofs.Ytajhlgdapiihgaa
open Go.Eng Go.Kb Go.ChangeShapes Go.WideShapes Go.ChangeAt Go.RowKit

theorem Try.own : ownKnob Try.prog.godebug = none := by kernel_rfl
theorem Try.laidOut : laidOutB Try.prog = true := by kernel_rfl
set_option maxRecDepth 100000 in
theorem groupShares_call {H : Type} {enc : TypeId × Value → H} (W : World) (base : Nat) (vs : List Value) (hl : vs.length = 2) (h : ∀ (j : Nat) t v, Try.f8.params[j]? = some t → vs[j]? = some v → Arg H enc Try.prog W base t v) :
    Calls Try.prog 8 vs.toArray W fun e W' => e = .returned (.bool true) ∧ Mem W [] W' := by
  rw [Try.params8] at h
  obtain ⟨v0, v1, rfl⟩ := list2 hl
  obtain ⟨x0, rfl, g0⟩ := (h 0 51 v0 rfl rfl).agg (inferInstance : RowT Try.prog 51 _) Gp
  obtain ⟨x1, rfl⟩ := u32_of_okWide2 (t := 52) Try.underlying52 (h 1 52 v1 rfl rfl).ok
  exact groupShares_c W x0 x1 g0
set_option maxRecDepth 100000 in
theorem groupShares_lifted (os : Os) (started : os.Started) (H : Type) (enc : TypeId × Value → H) :
    ReturnsInHanded {} Try.checked os 8 .any (Rows.groupSharesSpec.pre6 enc Try.prog Try.f8 Rows.groupSharesRow.domain false) (Rows.groupSharesSpec.post enc Try.prog Try.f8 false true false false) :=
  lifted_true2 (C := Try.checked) Try.own started (by kernel_rfl) Try.func8
    (ChangeSpec.witness6 (enc := enc) (C := Try.checked) false ⟨#[], #[.agg #[.int .u16 0, .slice none 0 0], .int .u32 0], []⟩ 24 (by kernel_rfl) (by kernel_rfl) (by kernel_rfl) (by kernel_rfl))
    Try.laidOut (by kernel_rfl) rfl Try.underlying4 rfl (fun ds hd => by obtain ⟨d0, d1, rfl⟩ := list2 (hd.trans (by kernel_rfl)); rfl)
    (fun W base vs hl h => groupShares_call W base vs (hl.trans (by kernel_rfl)) h)
theorem groupShares_holds : Rows.GroupSharesSaid :=
  OpenClaim.holds_of_wide 8 Try.f8 rfl rfl rfl rfl rfl rfl rfl ⟨rfl, rfl, rfl, rfl, rfl⟩ rfl rfl rfl rfl rfl (by kernel_rfl) Try.func8 (by kernel_rfl)
    (of_decide_eq_true (by kernel_rfl)) (by unfold Func.isWrapper; first | (rw [if_pos (by decide +kernel)]; kernel_rfl) | (rw [if_neg (by decide +kernel)]; exact ⟨rfl, rfl⟩))
    (fun os started H enc _ => groupShares_lifted os started H enc)

end Go.Proofs.Ytajhlgdapiihgaa

