/- Arguments with changes, opened. -/
import Derived.Test.YtajhlgdapiihgaaMe
import Derived.Test.YtajhlgdapiihgaaMd
import Derived.Test.YtajhlgdapiihgaaMi

set_option linter.unusedSimpArgs false
set_option linter.unusedVariables false
namespace Go.Proofs.Ytajhlgdapiihgaa
open Go.Eng Go.Kb

instance (priority := high) deepBoolO : Deep Bool := Deep.flat tenc 1
instance op72 : OpenT Try.prog 72 Ch := ⟨by kernel_rfl, fun h hw => by
  obtain ⟨hl, x0, h0, -⟩ := open_field Try.underlying72 h hw (i := 0) (tf := 30) (off := 0) rfl Rt
  obtain ⟨-, x1, h1, -⟩ := open_field Try.underlying72 h hw (i := 1) (tf := 4) (off := 19) rfl Bool
  refine ⟨⟨x0, x1⟩, ?_, trivial⟩
  refine Eq.trans ?_ (cut2 (a := 19) (b := 1) (hl.trans (by kernel_rfl)))
  rw [show (Deep.cells (⟨x0, x1⟩ : Ch)).toList = (Deep.cells x0).toList ++ (Deep.cells x1).toList from by show (chcells _).toList = _; unfold chcells; rw [Array.toList_append]; rfl, h0, h1]
  rfl⟩
instance op73 : OpenT Try.prog 73 (Sl Ch) := open_sl Try.underlying73 (by kernel_rfl) (by decide) (by kernel_rfl)
instance op95 : OpenT Try.prog 95 (Sl (Sl Ch)) := open_sl Try.underlying95 (by kernel_rfl) (by decide) (by kernel_rfl)

end Go.Proofs.Ytajhlgdapiihgaa

