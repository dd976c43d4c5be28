/- Small functions of package trie, walked. -/
import Derived.Test.YtembaconocgmlaaTi
set_option linter.unusedSimpArgs false
set_option linter.unusedVariables false
namespace Go.Proofs.Ytembaconocgmlaa
open Go.Eng Go.Kb
set_option maxRecDepth 20000 in
theorem texists_c (w : World) (b : Int)  : Calls Try.prog 80 #[.int .i64 b] w fun e w' => e = .returned (.bool (decide (b = 32) || decide (b = 128))) ∧ Mem w [] w' := by
  refine calls_of (args := [_]) Try.func80 rfl Try.ntmps80 rfl ?_
  change Cw _ _ _ _ _ [(0, .int .i64 b)] []
  refine cw_seq ?_
  refine cw_region ?_
  refine sq_r (ry_assign rfl) ?_
  refine sq_nil ?_
  refine ex_then ?_
  refine cw_seq ?_
  refine cw_region ?_
  refine sq_r (ry_move rfl) ?_
  refine sq_r (ry_int rfl rfl rfl) ?_
  refine sq_r (ry_move rfl) ?_
  refine sq_gf rfl rfl rfl (fun hg => (Ry.yl (ry_move rfl))) ?_
  refine sq_gf rfl rfl rfl (fun hg => (Ry.yl (ry_int (ev_c hg rfl) rfl rfl))) ?_
  refine sq_r (ry_or rfl rfl rfl) ?_
  refine sq_r (ry_assign rfl) ?_
  refine sq_nil ?_
  refine ex_then ?_
  refine cw_ret ?_
  refine ex_ret (.inl rfl) (res_1 rfl (rv_tmp rfl)) (fun w1 hw => ?_)
  exact ⟨congrArg (fun b => Ending.returned (Value.bool b)) (rfl), Keep.mem hw⟩
instance texists_i {w0 : World} {L : List Ent} {b : Int}  : FnQ Try.prog 80 w0 L [.int .i64 b] (.bool (decide (b = 32) || decide (b = 128))) (True) := ⟨fun hp w hw => texists_c w b ⟩

end Go.Proofs.Ytembaconocgmlaa
