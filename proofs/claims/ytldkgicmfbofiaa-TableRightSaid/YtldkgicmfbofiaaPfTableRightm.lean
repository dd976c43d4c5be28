/- The law TableRight holds: a table that is right is asked, changed and sorted as the reference does it; a table that is not right answers so, and nothing of it is changed. It holds of all arguments that can be read; its arguments read behind the call as they did. -/
import Derived.Test.YtldkgicmfbofiaaRows
import Derived.Test.YtldkgicmfbofiaaMx
import Derived.Test.YtldkgicmfbofiaaTOm

set_option linter.unusedSimpArgs false
set_option linter.unusedVariables false
namespace Go.Proofs.Ytldkgicmfbofiaa
open Go.Eng Go.Kb Go.ChangeShapes Go.WideShapes Go.ChangeAt Go.RowKit

theorem Try.own : ownKnob Try.prog.godebug = none := by kernel_rfl
theorem Try.laidOut : laidOutB Try.prog = true := by kernel_rfl
set_option maxRecDepth 100000 in
theorem tableRight_call {H : Type} {enc : TypeId × Value → H} (W : World) (base : Nat) (vs : List Value) (hl : vs.length = 6) (h : ∀ (j : Nat) t v, Try.f3.params[j]? = some t → vs[j]? = some v → Arg H enc Try.prog W base t v) :
    Calls Try.prog 3 vs.toArray W fun e W' => e = .returned (.bool true) ∧ Mem W [] W' := by
  rw [Try.params3] at h
  obtain ⟨v0, v1, v2, v3, v4, v5, rfl⟩ := list6 hl
  obtain ⟨x0, rfl, g0⟩ := (h 0 22 v0 rfl rfl).sl Try.underlying22 Rt
  obtain ⟨x1, rfl, -⟩ := (h 1 26 v1 rfl rfl).agg (inferInstance : RowT Try.prog 26 _) Pfx
  obtain ⟨x2, rfl, -⟩ := (h 2 24 v2 rfl rfl).agg (inferInstance : RowT Try.prog 24 _) Key
  obtain ⟨x3, rfl, b3⟩ := int_of_okWide (t := 3) Try.underlying3 (h 3 3 v3 rfl rfl).ok
  obtain ⟨x4, rfl, g4⟩ := (h 4 27 v4 rfl rfl).sl Try.underlying27 Ch
  obtain ⟨x5, rfl, g5⟩ := (h 5 22 v5 rfl rfl).sl Try.underlying22 Rt
  exact tableRight_c W x0.sv x0.xs x1 x2 x3 x4.sv x4.xs x5.sv x5.xs g0.1 g4.1 g5.1
set_option maxRecDepth 100000 in
theorem tableRight_lifted (os : Os) (started : os.Started) (H : Type) (enc : TypeId × Value → H) :
    ReturnsInHanded {} Try.checked os 3 .any (Rows.tableRightSpec.pre6 enc Try.prog Try.f3 Rows.tableRightRow.domain false) (Rows.tableRightSpec.post enc Try.prog Try.f3 false true false false) :=
  lifted_true2 (C := Try.checked) Try.own started (by kernel_rfl) Try.func3
    (ChangeSpec.witness6 (enc := enc) (C := Try.checked) false ⟨#[], #[.slice none 0 0, .agg #[.int .i64 0, .int .i64 0, .int .u8 0, .int .u8 0, .int .u8 0, .int .u8 0, .int .u8 0, .int .u8 0, .int .u8 0, .int .u8 0, .int .u8 0, .int .u8 0, .int .u8 0, .int .u8 0, .int .u8 0, .int .u8 0, .int .u8 0, .int .u8 0], .agg #[.int .u8 0, .int .u8 0, .int .u8 0, .int .u8 0, .int .u8 0, .int .u8 0, .int .u8 0, .int .u8 0, .int .u8 0, .int .u8 0, .int .u8 0, .int .u8 0, .int .u8 0, .int .u8 0, .int .u8 0, .int .u8 0], .int .i64 0, .slice none 0 0, .slice none 0 0], []⟩ 24 (by kernel_rfl) (by kernel_rfl) (by kernel_rfl) (by kernel_rfl))
    Try.laidOut (by kernel_rfl) rfl Try.underlying4 rfl (fun ds hd => by obtain ⟨d0, d1, d2, d3, d4, d5, rfl⟩ := list6 (hd.trans (by kernel_rfl)); rfl)
    (fun W base vs hl h => tableRight_call W base vs (hl.trans (by kernel_rfl)) h)
theorem tableRight_holds : Rows.TableRightSaid :=
  OpenClaim.holds_of_wide 3 Try.f3 rfl rfl rfl rfl rfl rfl rfl ⟨rfl, rfl, rfl, rfl, rfl⟩ rfl rfl rfl rfl rfl (by kernel_rfl) Try.func3 (by kernel_rfl)
    (of_decide_eq_true (by kernel_rfl)) (by unfold Func.isWrapper; first | (rw [if_pos (by decide +kernel)]; kernel_rfl) | (rw [if_neg (by decide +kernel)]; exact ⟨rfl, rfl⟩))
    (fun os started H enc _ => tableRight_lifted os started H enc)

end Go.Proofs.Ytldkgicmfbofiaa

