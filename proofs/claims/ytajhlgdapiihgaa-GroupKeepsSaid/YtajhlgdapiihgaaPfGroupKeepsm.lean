/- The law GroupKeeps holds: what is put is there, and nothing else is changed; taken away, it is not; a hop that is lost is never picked any more. It holds of all arguments that can be read; its arguments read behind the call as they did. -/
import Derived.Test.YtajhlgdapiihgaaRows
import Derived.Test.YtajhlgdapiihgaaOpGm
import Derived.Test.YtajhlgdapiihgaaGGm

set_option linter.unusedSimpArgs false
set_option linter.unusedVariables false
namespace Go.Proofs.Ytajhlgdapiihgaa
open Go.Eng Go.Kb Go.ChangeShapes Go.WideShapes Go.ChangeAt Go.RowKit

theorem Try.own : ownKnob Try.prog.godebug = none := by kernel_rfl
theorem Try.laidOut : laidOutB Try.prog = true := by kernel_rfl
set_option maxRecDepth 100000 in
theorem groupKeeps_call {H : Type} {enc : TypeId × Value → H} (W : World) (base : Nat) (vs : List Value) (hl : vs.length = 4) (h : ∀ (j : Nat) t v, Try.f9.params[j]? = some t → vs[j]? = some v → Arg H enc Try.prog W base t v) :
    Calls Try.prog 9 vs.toArray W fun e W' => e = .returned (.bool true) ∧ Mem W [] W' := by
  rw [Try.params9] at h
  obtain ⟨v0, v1, v2, v3, rfl⟩ := list4 hl
  obtain ⟨x0, rfl, g0⟩ := (h 0 57 v0 rfl rfl).sl Try.underlying57 Gp
  obtain ⟨x1, rfl, g1⟩ := (h 1 51 v1 rfl rfl).agg (inferInstance : RowT Try.prog 51 _) Gp
  obtain ⟨x2, rfl⟩ := u32_of_okWide2 (t := 52) Try.underlying52 (h 2 52 v2 rfl rfl).ok
  obtain ⟨x3, rfl⟩ := u16_of_okWide2 (t := 28) Try.underlying28 (h 3 28 v3 rfl rfl).ok
  exact groupKeeps_c W x0 x1 x2 x3 g0 g1
set_option maxRecDepth 100000 in
theorem groupKeeps_lifted (os : Os) (started : os.Started) (H : Type) (enc : TypeId × Value → H) :
    ReturnsInHanded {} Try.checked os 9 .any (Rows.groupKeepsSpec.pre6 enc Try.prog Try.f9 Rows.groupKeepsRow.domain false) (Rows.groupKeepsSpec.post enc Try.prog Try.f9 false true false false) :=
  lifted_true2 (C := Try.checked) Try.own started (by kernel_rfl) Try.func9
    (ChangeSpec.witness6 (enc := enc) (C := Try.checked) false ⟨#[], #[.slice none 0 0, .agg #[.int .u16 0, .slice none 0 0], .int .u32 0, .int .u16 0], []⟩ 24 (by kernel_rfl) (by kernel_rfl) (by kernel_rfl) (by kernel_rfl))
    Try.laidOut (by kernel_rfl) rfl Try.underlying4 rfl (fun ds hd => by obtain ⟨d0, d1, d2, d3, rfl⟩ := list4 (hd.trans (by kernel_rfl)); rfl)
    (fun W base vs hl h => groupKeeps_call W base vs (hl.trans (by kernel_rfl)) h)
theorem groupKeeps_holds : Rows.GroupKeepsSaid :=
  OpenClaim.holds_of_wide 9 Try.f9 rfl rfl rfl rfl rfl rfl rfl ⟨rfl, rfl, rfl, rfl, rfl⟩ rfl rfl rfl rfl rfl (by kernel_rfl) Try.func9 (by kernel_rfl)
    (of_decide_eq_true (by kernel_rfl)) (by unfold Func.isWrapper; first | (rw [if_pos (by decide +kernel)]; kernel_rfl) | (rw [if_neg (by decide +kernel)]; exact ⟨rfl, rfl⟩))
    (fun os started H enc _ => groupKeeps_lifted os started H enc)

end Go.Proofs.Ytajhlgdapiihgaa

