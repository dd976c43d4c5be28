/- The law WalkRight holds: next, over, chain, lean, tops and depth are what the document says. It holds of all arguments that can be read; its arguments read behind the call as they did. -/
import Derived.Test.YtajhlgdapiihgaaRows
import Derived.Test.YtajhlgdapiihgaaMe
import Derived.Test.YtajhlgdapiihgaaWRm

set_option linter.unusedSimpArgs false
set_option linter.unusedVariables false
namespace Go.Proofs.Ytajhlgdapiihgaa
open Go.Eng Go.Kb Go.ChangeShapes Go.WideShapes Go.ChangeAt Go.RowKit

theorem Try.own : ownKnob Try.prog.godebug = none := by kernel_rfl
theorem Try.laidOut : laidOutB Try.prog = true := by kernel_rfl
set_option maxRecDepth 100000 in
theorem walkRight_call {H : Type} {enc : TypeId × Value → H} (W : World) (base : Nat) (vs : List Value) (hl : vs.length = 4) (h : ∀ (j : Nat) t v, Try.f3.params[j]? = some t → vs[j]? = some v → Arg H enc Try.prog W base t v) :
    Calls Try.prog 3 vs.toArray W fun e W' => e = .returned (.bool true) ∧ Mem W [] W' := by
  rw [Try.params3] at h
  obtain ⟨v0, v1, v2, v3, rfl⟩ := list4 hl
  obtain ⟨x0, rfl, g0⟩ := (h 0 22 v0 rfl rfl).sl Try.underlying22 Rt
  obtain ⟨x1, rfl, -⟩ := (h 1 26 v1 rfl rfl).agg (inferInstance : RowT Try.prog 26 _) Pfx
  obtain ⟨x2, rfl, -⟩ := (h 2 24 v2 rfl rfl).agg (inferInstance : RowT Try.prog 24 _) Key
  obtain ⟨x3, rfl, b3⟩ := int_of_okWide (t := 3) Try.underlying3 (h 3 3 v3 rfl rfl).ok
  exact walkRight_c W x0.sv x0.xs x1 x2 x3 g0.1
set_option maxRecDepth 100000 in
theorem walkRight_lifted (os : Os) (started : os.Started) (H : Type) (enc : TypeId × Value → H) :
    ReturnsInHanded {} Try.checked os 3 .any (Rows.walkRightSpec.pre6 enc Try.prog Try.f3 Rows.walkRightRow.domain false) (Rows.walkRightSpec.post enc Try.prog Try.f3 false true false false) :=
  lifted_true2 (C := Try.checked) Try.own started (by kernel_rfl) Try.func3
    (ChangeSpec.witness6 (enc := enc) (C := Try.checked) false ⟨#[], #[.slice none 0 0, .agg #[.int .i64 0, .int .i64 0, .int .u8 0, .int .u8 0, .int .u8 0, .int .u8 0, .int .u8 0, .int .u8 0, .int .u8 0, .int .u8 0, .int .u8 0, .int .u8 0, .int .u8 0, .int .u8 0, .int .u8 0, .int .u8 0, .int .u8 0, .int .u8 0], .agg #[.int .u8 0, .int .u8 0, .int .u8 0, .int .u8 0, .int .u8 0, .int .u8 0, .int .u8 0, .int .u8 0, .int .u8 0, .int .u8 0, .int .u8 0, .int .u8 0, .int .u8 0, .int .u8 0, .int .u8 0, .int .u8 0], .int .i64 0], []⟩ 24 (by kernel_rfl) (by kernel_rfl) (by kernel_rfl) (by kernel_rfl))
    Try.laidOut (by kernel_rfl) rfl Try.underlying4 rfl (fun ds hd => by obtain ⟨d0, d1, d2, d3, rfl⟩ := list4 (hd.trans (by kernel_rfl)); rfl)
    (fun W base vs hl h => walkRight_call W base vs (hl.trans (by kernel_rfl)) h)
theorem walkRight_holds : Rows.WalkRightSaid :=
  OpenClaim.holds_of_wide 3 Try.f3 rfl rfl rfl rfl rfl rfl rfl ⟨rfl, rfl, rfl, rfl, rfl⟩ rfl rfl rfl rfl rfl (by kernel_rfl) Try.func3 (by kernel_rfl)
    (of_decide_eq_true (by kernel_rfl)) (by unfold Func.isWrapper; first | (rw [if_pos (by decide +kernel)]; kernel_rfl) | (rw [if_neg (by decide +kernel)]; exact ⟨rfl, rfl⟩))
    (fun os started H enc _ => walkRight_lifted os started H enc)

end Go.Proofs.Ytajhlgdapiihgaa

