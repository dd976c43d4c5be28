/- The laws of layer 4 are awake: walked. -/
import Derived.Test.YtembaconocgmlaaT3f
import Derived.Test.YtembaconocgmlaaTw
set_option linter.unusedSimpArgs false
set_option linter.unusedVariables false
namespace Go.Proofs.Ytembaconocgmlaa
open Go.Eng Go.Kb

def ak0 : Key := BitVec.ofNat 128 (10 * 2 ^ 120)
def ak1 : Key := BitVec.ofNat 128 (10 * 2 ^ 120 + 127 * 2 ^ 112)
def ak2 : Key := BitVec.ofNat 128 (10 * 2 ^ 120 + 128 * 2 ^ 112)
def ak3 : Key := BitVec.ofNat 128 (11 * 2 ^ 120)
def ar4 : Rt := ⟨⟨32, 9, ak0⟩, 7⟩
theorem aw4_E : buildE [ar4] 32 = 0 := by decide +kernel
theorem aw4_B : buildB [ar4] 32 = 32 := by decide +kernel
theorem aw4_L : (buildN [ar4] 32).length = 3 := by decide +kernel
theorem aw4_1 : findE 32 (buildN [ar4] 32) ak1 = 0 ∧ findN 32 (buildN [ar4] 32) ak1 = 9 ∧ (findH 32 (buildN [ar4] 32) ak1).toNat = 7 := by decide +kernel
theorem aw4_2 : findE 32 (buildN [ar4] 32) ak2 = 6 := by decide +kernel
theorem aw4_3 : (stepsV 32 (buildN [ar4] 32)).isSome = true ∧ deepV 32 (buildN [ar4] 32) = 3 ∧ (walkV 32 (buildN [ar4] 32) ak3).length = 2 := by decide +kernel
set_option maxRecDepth 20000 in
theorem aw4_c (w : World)   : Calls Try.prog 55 #[] w fun e w' => e = .returned (.bool true) ∧ Mem w [] w' := by
  refine calls_of (args := []) Try.func55 rfl Try.ntmps55 rfl ?_
  change Cw _ _ _ _ _ [] []
  refine cw_seq ?_
  refine cw_region ?_
  refine sq_r (ry_assign rfl) ?_
  refine sq_nil ?_
  refine ex_then ?_
  refine cw_seq ?_
  refine cw_region ?_
  refine sq_r (ry_build (v := .agg (kcells ak0)) rfl (fun w => by kernel_rfl)) ?_
  refine sq_r (ry_build (v := .agg (pcells ar4.p)) rfl (fun w => by kernel_rfl)) ?_
  refine sq_r (ry_build (v := .agg (rcells ar4)) rfl (fun w => by kernel_rfl)) ?_
  refine sq_buildSlice (enc := rcells) (vals := [_]) [ar4] rfl rfl rfl (by decide) (by decide) fun b13 => ?_
  refine sq_callC rfl trivial fun x14 hp14 => ?_
  have ebits : x14.bits = 32 := hp14.1.trans aw4_B
  have ens : x14.ns.xs = buildN [ar4] 32 := hp14.2
  have g1 := aw4_L
  have g2 := aw4_1
  have g3 := aw4_2
  have g4 := aw4_3
  rw [← ens] at g1 g2 g3 g4
  rw [← ebits] at g2 g3 g4
  obtain ⟨g21, g22, g23⟩ := g2
  obtain ⟨g41, g42, g43⟩ := g4
  refine sq_r (ry_move rfl) ?_
  refine sq_r (ry_extract (v := .agg (tcells x14)) rfl rfl) ?_
  refine sq_r (ry_extract (v := .int .i64 (buildE [ar4] 32)) rfl rfl) ?_
  refine sq_allocA fun b1 => ?_
  refine sq_storeW rfl rfl ?_
  refine sq_r (ry_assign rfl) ?_
  refine sq_nil ?_
  refine ex_then ?_
  refine cw_seq ?_
  refine cw_region ?_
  refine sq_r (ry_whole rfl) ?_
  refine sq_r (ry_build (v := .agg (kcells ak1)) rfl (fun w => by kernel_rfl)) ?_
  refine sq_y (yl_callC rfl trivial) ?_
  refine sq_r (ry_move rfl) ?_
  refine sq_r (ry_extract (v := .int .i64 (findN x14.bits x14.ns.xs ak1)) rfl rfl) ?_
  refine sq_r (ry_extract (v := .int .u16 ((findH x14.bits x14.ns.xs ak1).toNat : Nat)) rfl rfl) ?_
  refine sq_r (ry_extract (v := .int .i64 (findE x14.bits x14.ns.xs ak1)) rfl rfl) ?_
  refine sq_r (ry_assign rfl) ?_
  refine sq_r (ry_assign rfl) ?_
  refine sq_r (ry_assign rfl) ?_
  refine sq_nil ?_
  refine ex_then ?_
  refine cw_seq ?_
  refine cw_region ?_
  refine sq_r (ry_whole rfl) ?_
  refine sq_r (ry_build (v := .agg (kcells ak2)) rfl (fun w => by kernel_rfl)) ?_
  refine sq_y (yl_callC rfl trivial) ?_
  refine sq_r (ry_move rfl) ?_
  refine sq_r (ry_extract (v := .int .i64 (findN x14.bits x14.ns.xs ak2)) rfl rfl) ?_
  refine sq_r (ry_extract (v := .int .u16 ((findH x14.bits x14.ns.xs ak2).toNat : Nat)) rfl rfl) ?_
  refine sq_r (ry_extract (v := .int .i64 (findE x14.bits x14.ns.xs ak2)) rfl rfl) ?_
  refine sq_r (ry_assign rfl) ?_
  refine sq_r (ry_assign rfl) ?_
  refine sq_r (ry_assign rfl) ?_
  refine sq_nil ?_
  refine ex_then ?_
  refine cw_seq ?_
  refine cw_region ?_
  refine sq_r (ry_move rfl) ?_
  refine sq_r (ry_int rfl rfl rfl) ?_
  refine sq_r (ry_move rfl) ?_
  refine sq_ty rfl rfl rfl (by simp [aw4_E, g1, g21, g22, g23, g3, g41, g42, g43]) (Ry.yl (ry_field (o' := 1) rfl rfl)) ?_
  refine sq_ty rfl rfl rfl (by simp [aw4_E, g1, g21, g22, g23, g3, g41, g42, g43]) (Ry.yl (ry_cellc rfl)) ?_
  refine sq_ty rfl rfl rfl (by simp [aw4_E, g1, g21, g22, g23, g3, g41, g42, g43]) (Ry.yl (ry_lenH rfl)) ?_
  refine sq_ty rfl rfl rfl (by simp [aw4_E, g1, g21, g22, g23, g3, g41, g42, g43]) (Ry.yl (ry_int rfl rfl rfl)) ?_
  refine sq_r (ry_pickT rfl (by simp [aw4_E, g1, g21, g22, g23, g3, g41, g42, g43]) rfl rfl) ?_
  refine sq_r (ry_move rfl) ?_
  refine sq_ty rfl rfl rfl (by simp [aw4_E, g1, g21, g22, g23, g3, g41, g42, g43]) (Ry.yl (ry_move rfl)) ?_
  refine sq_ty rfl rfl rfl (by simp [aw4_E, g1, g21, g22, g23, g3, g41, g42, g43]) (Ry.yl (ry_int rfl rfl rfl)) ?_
  refine sq_r (ry_pickT rfl (by simp [aw4_E, g1, g21, g22, g23, g3, g41, g42, g43]) rfl rfl) ?_
  refine sq_r (ry_move rfl) ?_
  refine sq_ty rfl rfl rfl (by simp [aw4_E, g1, g21, g22, g23, g3, g41, g42, g43]) (Ry.yl (ry_move rfl)) ?_
  refine sq_ty rfl rfl rfl (by simp [aw4_E, g1, g21, g22, g23, g3, g41, g42, g43]) (Ry.yl (ry_int rfl rfl rfl)) ?_
  refine sq_r (ry_pickT rfl (by simp [aw4_E, g1, g21, g22, g23, g3, g41, g42, g43]) rfl rfl) ?_
  refine sq_r (ry_move rfl) ?_
  refine sq_ty rfl rfl rfl (by simp [aw4_E, g1, g21, g22, g23, g3, g41, g42, g43]) (Ry.yl (ry_move rfl)) ?_
  refine sq_ty rfl rfl rfl (by simp [aw4_E, g1, g21, g22, g23, g3, g41, g42, g43]) (Ry.yl (ry_int rfl rfl rfl)) ?_
  refine sq_r (ry_pickT rfl (by simp [aw4_E, g1, g21, g22, g23, g3, g41, g42, g43]) rfl rfl) ?_
  refine sq_r (ry_move rfl) ?_
  refine sq_ty rfl rfl rfl (by simp [aw4_E, g1, g21, g22, g23, g3, g41, g42, g43]) (Ry.yl (ry_move rfl)) ?_
  refine sq_ty rfl rfl rfl (by simp [aw4_E, g1, g21, g22, g23, g3, g41, g42, g43]) (Ry.yl (ry_int rfl rfl rfl)) ?_
  refine sq_r (ry_pickT rfl (by simp [aw4_E, g1, g21, g22, g23, g3, g41, g42, g43]) rfl rfl) ?_
  refine sq_r (ry_move rfl) ?_
  refine sq_ty rfl rfl rfl (by simp [aw4_E, g1, g21, g22, g23, g3, g41, g42, g43]) (Ry.yl (ry_whole rfl)) ?_
  refine sq_ty rfl rfl rfl (by simp [aw4_E, g1, g21, g22, g23, g3, g41, g42, g43]) (yl_callC rfl trivial) ?_
  refine sq_r (ry_pickT rfl (by simp [aw4_E, g1, g21, g22, g23, g3, g41, g42, g43]) rfl rfl) ?_
  refine sq_r (ry_move rfl) ?_
  refine sq_ty rfl rfl rfl (by simp [aw4_E, g1, g21, g22, g23, g3, g41, g42, g43]) (Ry.yl (ry_whole rfl)) ?_
  refine sq_ty rfl rfl rfl (by simp [aw4_E, g1, g21, g22, g23, g3, g41, g42, g43]) (yl_callC rfl trivial) ?_
  refine sq_ty rfl rfl rfl (by simp [aw4_E, g1, g21, g22, g23, g3, g41, g42, g43]) (Ry.yl (ry_int rfl rfl rfl)) ?_
  refine sq_r (ry_pickT rfl (by simp [aw4_E, g1, g21, g22, g23, g3, g41, g42, g43]) rfl rfl) ?_
  refine sq_r (ry_move rfl) ?_
  refine sq_ty rfl rfl rfl (by simp [aw4_E, g1, g21, g22, g23, g3, g41, g42, g43]) (Ry.yl (ry_whole rfl)) ?_
  refine sq_ty rfl rfl rfl (by simp [aw4_E, g1, g21, g22, g23, g3, g41, g42, g43]) (Ry.yl (ry_build (v := .agg (kcells ak3)) rfl (fun w => by kernel_rfl))) ?_
  refine sq_tcallC rfl rfl (by simp [aw4_E, g1, g21, g22, g23, g3, g41, g42, g43]) rfl trivial fun x67 hp67 => ?_
  refine sq_ty rfl rfl rfl (by simp [aw4_E, g1, g21, g22, g23, g3, g41, g42, g43]) (Ry.yl (ry_lenH rfl)) ?_
  refine sq_ty rfl rfl rfl (by simp [aw4_E, g1, g21, g22, g23, g3, g41, g42, g43]) (Ry.yl (ry_int rfl rfl rfl)) ?_
  refine sq_r (ry_pickT rfl (by simp [aw4_E, g1, g21, g22, g23, g3, g41, g42, g43]) rfl rfl) ?_
  refine sq_r (ry_assign rfl) ?_
  refine sq_nil ?_
  refine ex_then ?_
  refine cw_ret ?_
  refine ex_ret (.inl rfl) (res_1 rfl (rv_tmp rfl)) (fun w1 hw => ?_)
  exact ⟨congrArg (fun b => Ending.returned (Value.bool b)) ((by simp [g43])), Keep.mem hw⟩
instance aw4_i {w0 : World} {L : List Ent}   : FnQ Try.prog 55 w0 L [] (.bool true) (True) := ⟨fun hp w hw => aw4_c w  ⟩

end Go.Proofs.Ytembaconocgmlaa
