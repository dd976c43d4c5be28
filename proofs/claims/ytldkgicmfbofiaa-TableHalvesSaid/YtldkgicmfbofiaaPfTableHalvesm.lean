/- The law TableHalves holds: changes made in two parts are made as one, if each can be; put and taken away again a route leaves the table as it was. It holds of all arguments that can be read; its arguments read behind the call as they did. -/
import Derived.Test.YtldkgicmfbofiaaRows
import Derived.Test.YtldkgicmfbofiaaMx
import Derived.Test.YtldkgicmfbofiaaTQm

set_option linter.unusedSimpArgs false
set_option linter.unusedVariables false
namespace Go.Proofs.Ytldkgicmfbofiaa
open Go.Eng Go.Kb Go.ChangeShapes Go.WideShapes Go.ChangeAt Go.RowKit

theorem Try.own : ownKnob Try.prog.godebug = none := by kernel_rfl
theorem Try.laidOut : laidOutB Try.prog = true := by kernel_rfl
set_option maxRecDepth 100000 in
theorem tableHalves_call {H : Type} {enc : TypeId × Value → H} (W : World) (base : Nat) (vs : List Value) (hl : vs.length = 4) (h : ∀ (j : Nat) t v, Try.f6.params[j]? = some t → vs[j]? = some v → Arg H enc Try.prog W base t v) :
    Calls Try.prog 6 vs.toArray W fun e W' => e = .returned (.bool true) ∧ Mem W [] W' := by
  rw [Try.params6] at h
  obtain ⟨v0, v1, v2, v3, rfl⟩ := list4 hl
  obtain ⟨x0, rfl, g0⟩ := (h 0 22 v0 rfl rfl).sl Try.underlying22 Rt
  obtain ⟨x1, rfl, g1⟩ := (h 1 27 v1 rfl rfl).sl Try.underlying27 Ch
  obtain ⟨x2, rfl, g2⟩ := (h 2 27 v2 rfl rfl).sl Try.underlying27 Ch
  obtain ⟨x3, rfl, -⟩ := (h 3 34 v3 rfl rfl).agg (inferInstance : RowT Try.prog 34 _) Rt
  exact tableHalves_c W x0.sv x0.xs x1.sv x1.xs x2.sv x2.xs x3 g0.1 g1.1 g2.1
set_option maxRecDepth 100000 in
theorem tableHalves_lifted (os : Os) (started : os.Started) (H : Type) (enc : TypeId × Value → H) :
    ReturnsInHanded {} Try.checked os 6 .any (Rows.tableHalvesSpec.pre6 enc Try.prog Try.f6 Rows.tableHalvesRow.domain false) (Rows.tableHalvesSpec.post enc Try.prog Try.f6 false true false false) :=
  lifted_true2 (C := Try.checked) Try.own started (by kernel_rfl) Try.func6
    (ChangeSpec.witness6 (enc := enc) (C := Try.checked) false ⟨#[], #[.slice none 0 0, .slice none 0 0, .slice none 0 0, .agg #[.int .i64 0, .int .i64 0, .int .u8 0, .int .u8 0, .int .u8 0, .int .u8 0, .int .u8 0, .int .u8 0, .int .u8 0, .int .u8 0, .int .u8 0, .int .u8 0, .int .u8 0, .int .u8 0, .int .u8 0, .int .u8 0, .int .u8 0, .int .u8 0, .int .u16 0]], []⟩ 24 (by kernel_rfl) (by kernel_rfl) (by kernel_rfl) (by kernel_rfl))
    Try.laidOut (by kernel_rfl) rfl Try.underlying4 rfl (fun ds hd => by obtain ⟨d0, d1, d2, d3, rfl⟩ := list4 (hd.trans (by kernel_rfl)); rfl)
    (fun W base vs hl h => tableHalves_call W base vs (hl.trans (by kernel_rfl)) h)
theorem tableHalves_holds : Rows.TableHalvesSaid :=
  OpenClaim.holds_of_wide 6 Try.f6 rfl rfl rfl rfl rfl rfl rfl ⟨rfl, rfl, rfl, rfl, rfl⟩ rfl rfl rfl rfl rfl (by kernel_rfl) Try.func6 (by kernel_rfl)
    (of_decide_eq_true (by kernel_rfl)) (by unfold Func.isWrapper; first | (rw [if_pos (by decide +kernel)]; kernel_rfl) | (rw [if_neg (by decide +kernel)]; exact ⟨rfl, rfl⟩))
    (fun os started H enc _ => tableHalves_lifted os started H enc)

end Go.Proofs.Ytldkgicmfbofiaa

