/- Arguments with groups, opened. -/
import Derived.Test.YtajhlgdapiihgaaMe
import Derived.Test.YtajhlgdapiihgaaMd
import Derived.Test.YtajhlgdapiihgaaMo

set_option linter.unusedSimpArgs false
set_option linter.unusedVariables false
namespace Go.Proofs.Ytajhlgdapiihgaa
open Go.Eng Go.Kb
instance op59 : OpenT Try.prog 59 Mr := ⟨by kernel_rfl, fun h hw => by
  obtain ⟨hl, x0, h0, -⟩ := open_field Try.underlying59 h hw (i := 0) (tf := 28) (off := 0) rfl UInt16
  obtain ⟨-, x1, h1, -⟩ := open_field Try.underlying59 h hw (i := 1) (tf := 3) (off := 1) rfl Int
  refine ⟨⟨x0, x1⟩, ?_, trivial⟩
  refine Eq.trans ?_ (cut2 (a := 1) (b := 1) (hl.trans (by kernel_rfl)))
  rw [show (Deep.cells (⟨x0, x1⟩ : Mr)).toList = (Deep.cells x0).toList ++ (Deep.cells x1).toList from rfl, h0, h1]
  rfl⟩
instance op49 : OpenT Try.prog 49 (Sl Mr) := open_sl Try.underlying49 (by kernel_rfl) (by decide) (by kernel_rfl)
instance op51 : OpenT Try.prog 51 Gp := ⟨by kernel_rfl, fun h hw => by
  obtain ⟨hl, x0, h0, -⟩ := open_field Try.underlying51 h hw (i := 0) (tf := 28) (off := 0) rfl UInt16
  obtain ⟨-, x1, h1, g1⟩ := open_field Try.underlying51 h hw (i := 1) (tf := 49) (off := 1) rfl (Sl Mr)
  refine ⟨⟨x0, x1⟩, ?_, g1⟩
  refine Eq.trans ?_ (cut2 (a := 1) (b := 1) (hl.trans (by kernel_rfl)))
  rw [show (Deep.cells (⟨x0, x1⟩ : Gp)).toList = (Deep.cells x0).toList ++ (Deep.cells x1).toList from rfl, h0, h1]
  rfl⟩
instance op57 : OpenT Try.prog 57 (Sl Gp) := open_sl Try.underlying57 (by kernel_rfl) (by decide) (by kernel_rfl)

end Go.Proofs.Ytajhlgdapiihgaa

