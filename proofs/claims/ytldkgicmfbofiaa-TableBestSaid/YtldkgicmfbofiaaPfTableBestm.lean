/- The law TableBest holds: who fits best fits, and is there; nobody that fits is longer; without it who fits best is shorter, and covers it. It holds of all arguments that can be read; its arguments read behind the call as they did. -/
import Derived.Test.YtldkgicmfbofiaaRows
import Derived.Test.YtldkgicmfbofiaaMe
import Derived.Test.YtldkgicmfbofiaaTPm

set_option linter.unusedSimpArgs false
set_option linter.unusedVariables false
namespace Go.Proofs.Ytldkgicmfbofiaa
open Go.Eng Go.Kb Go.ChangeShapes Go.WideShapes Go.ChangeAt Go.RowKit

theorem Try.own : ownKnob Try.prog.godebug = none := by kernel_rfl
theorem Try.laidOut : laidOutB Try.prog = true := by kernel_rfl
set_option maxRecDepth 100000 in
theorem tableBest_call {H : Type} {enc : TypeId × Value → H} (W : World) (base : Nat) (vs : List Value) (hl : vs.length = 3) (h : ∀ (j : Nat) t v, Try.f4.params[j]? = some t → vs[j]? = some v → Arg H enc Try.prog W base t v) :
    Calls Try.prog 4 vs.toArray W fun e W' => e = .returned (.bool true) ∧ Mem W [] W' := by
  rw [Try.params4] at h
  obtain ⟨v0, v1, v2, rfl⟩ := list3 hl
  obtain ⟨x0, rfl, g0⟩ := (h 0 22 v0 rfl rfl).sl Try.underlying22 Rt
  obtain ⟨x1, rfl, -⟩ := (h 1 24 v1 rfl rfl).agg (inferInstance : RowT Try.prog 24 _) Key
  obtain ⟨x2, rfl, b2⟩ := int_of_okWide (t := 3) Try.underlying3 (h 2 3 v2 rfl rfl).ok
  exact tableBest_c W x0.sv x0.xs x1 x2 g0.1
set_option maxRecDepth 100000 in
theorem tableBest_lifted (os : Os) (started : os.Started) (H : Type) (enc : TypeId × Value → H) :
    ReturnsInHanded {} Try.checked os 4 .any (Rows.tableBestSpec.pre6 enc Try.prog Try.f4 Rows.tableBestRow.domain false) (Rows.tableBestSpec.post enc Try.prog Try.f4 false true false false) :=
  lifted_true2 (C := Try.checked) Try.own started (by kernel_rfl) Try.func4
    (ChangeSpec.witness6 (enc := enc) (C := Try.checked) false ⟨#[], #[.slice none 0 0, .agg #[.int .u8 0, .int .u8 0, .int .u8 0, .int .u8 0, .int .u8 0, .int .u8 0, .int .u8 0, .int .u8 0, .int .u8 0, .int .u8 0, .int .u8 0, .int .u8 0, .int .u8 0, .int .u8 0, .int .u8 0, .int .u8 0], .int .i64 0], []⟩ 24 (by kernel_rfl) (by kernel_rfl) (by kernel_rfl) (by kernel_rfl))
    Try.laidOut (by kernel_rfl) rfl Try.underlying4 rfl (fun ds hd => by obtain ⟨d0, d1, d2, rfl⟩ := list3 (hd.trans (by kernel_rfl)); rfl)
    (fun W base vs hl h => tableBest_call W base vs (hl.trans (by kernel_rfl)) h)
theorem tableBest_holds : Rows.TableBestSaid :=
  OpenClaim.holds_of_wide 4 Try.f4 rfl rfl rfl rfl rfl rfl rfl ⟨rfl, rfl, rfl, rfl, rfl⟩ rfl rfl rfl rfl rfl (by kernel_rfl) Try.func4 (by kernel_rfl)
    (of_decide_eq_true (by kernel_rfl)) (by unfold Func.isWrapper; first | (rw [if_pos (by decide +kernel)]; kernel_rfl) | (rw [if_neg (by decide +kernel)]; exact ⟨rfl, rfl⟩))
    (fun os started H enc _ => tableBest_lifted os started H enc)

end Go.Proofs.Ytldkgicmfbofiaa

