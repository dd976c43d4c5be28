/- The laws of layer 14 are awake: walked. -/
import Derived.Test.YtembaconocgmlaaP2g
import Derived.Test.YtembaconocgmlaaPm
import Derived.Test.YtembaconocgmlaaRow
set_option linter.unusedSimpArgs false
set_option linter.unusedVariables false
namespace Go.Proofs.Ytembaconocgmlaa
open Go.Eng Go.Kb

def key10 : Key := kof fun i => if i = 0 then 10 else 0
def r14 : Rt := ⟨⟨32, 8, key10⟩, 258⟩
def B14 : List UInt8 := [0, 8, 10, 0, 0, 0, 0, 0, 0, 0, 0, 0, 0, 0, 0, 0, 0, 0, 1, 2]
theorem aw_E : bodiesE [r14] 2 40 = 0 := by decide +kernel
theorem aw_V : bodiesV [r14] 2 40 = [B14, []] := by decide +kernel
theorem aw_T : tabV [B14, []] = [r14] ∧ tabE [B14, []] = 0 := by rw [← aw_V]; exact tab_bodies aw_E
theorem aw_C : chg [] [B14, []] = [(0, B14)] := by decide +kernel
theorem aw_M : most 2 40 = 4 := by decide +kernel
set_option maxRecDepth 20000 in
theorem aw14_c (w : World)   : Calls Try.prog 44 #[] w fun e w' => e = .returned (.bool true) ∧ Mem w [] w' := by
  refine calls_of (args := []) Try.func44 rfl Try.ntmps44 rfl ?_
  change Cw _ _ _ _ _ [] []
  refine cw_seq ?_
  refine cw_region ?_
  refine sq_r (ry_assign rfl) ?_
  refine sq_nil ?_
  refine ex_then ?_
  refine cw_seq ?_
  refine cw_region ?_
  refine sq_r (ry_build (v := .agg (kcells key10)) rfl (fun w => by kernel_rfl)) ?_
  refine sq_r (ry_buildc rfl) ?_
  refine sq_r (ry_build (v := .agg (rcells r14)) rfl (fun w => by kernel_rfl)) ?_
  refine sq_buildSlice (enc := rcells) (vals := [_]) [r14] rfl rfl rfl (by decide) (by decide) fun b9 => ?_
  refine sq_r (ry_assign rfl) ?_
  refine sq_nil ?_
  refine ex_then ?_
  refine cw_seq ?_
  refine cw_region ?_
  refine sq_r (ry_move rfl) ?_
  refine sq_callC rfl trivial fun x12 hp12 => ?_
  rw [aw_V] at hp12
  obtain ⟨y0, y1, hy⟩ := list2 (l := x12.xs) (by have := congrArg List.length hp12; simpa [lx] using this)
  have ey : y0.xs = B14 ∧ y1.xs = [] := by simpa [lx, hy] using hp12
  have hy0 : x12.xs[0]? = some y0 := by simp [hy]
  have mby : Mb y0 x12 := ⟨by simp [hy]⟩
  have hl12 : x12.xs.length = 2 := by simp [hy]
  have hl0 : y0.xs.length = 20 := by rw [ey.1]; rfl
  refine sq_r (ry_move rfl) ?_
  refine sq_r (ry_extract (v := x12.sv.val) rfl rfl) ?_
  refine sq_r (ry_extract (v := .int .i64 (bodiesE [r14] 2 40)) rfl rfl) ?_
  refine sq_r (ry_assign rfl) ?_
  refine sq_r (ry_assign rfl) ?_
  refine sq_nil ?_
  refine ex_then ?_
  refine cw_seq ?_
  refine cw_region ?_
  refine sq_r (ry_move rfl) ?_
  refine sq_callC rfl ⟨by omega, fun x hx => by rw [hy] at hx; rcases List.mem_cons.1 hx with rfl | hx; omega; rw [List.mem_singleton.1 hx, ey.2]; exact Nat.zero_le _⟩ fun x17 hp17 => ?_
  have e19 := aw_T.2
  rw [← hp12] at e19
  have e18 := aw_T.1
  rw [← hp12] at e18
  refine sq_r (ry_move rfl) ?_
  refine sq_r (ry_extract (v := x17.val) rfl rfl) ?_
  refine sq_r (ry_extract (v := .int .i64 (tabE (lx x12))) rfl rfl) ?_
  refine sq_r (ry_assign rfl) ?_
  refine sq_r (ry_assign rfl) ?_
  refine sq_nil ?_
  refine ex_then ?_
  refine cw_seq ?_
  refine cw_region ?_
  refine sq_r (ry_move rfl) ?_
  refine sq_r (ry_int rfl rfl rfl) ?_
  refine sq_r (ry_move rfl) ?_
  refine sq_ty rfl rfl rfl (by simp [aw_E, hl12, hl0]) (Ry.yl (ry_move rfl)) ?_
  refine sq_ty rfl rfl rfl (by simp [aw_E, hl12, hl0]) (Ry.yl (ry_lenH rfl)) ?_
  refine sq_ty rfl rfl rfl (by simp [aw_E, hl12, hl0]) (Ry.yl (ry_int rfl rfl rfl)) ?_
  refine sq_r (ry_pickT rfl (by simp [aw_E, hl12, hl0]) rfl rfl) ?_
  refine sq_r (ry_move rfl) ?_
  refine sq_ty rfl rfl rfl (by simp [aw_E, hl12, hl0]) (Ry.yl (ry_move rfl)) ?_
  refine sq_ty rfl rfl rfl (by simp [aw_E, hl12, hl0]) (Ry.yl (ry_idxH rfl rfl 0 rfl (by omega))) ?_
  refine sq_ty rfl rfl rfl (by simp [aw_E, hl12, hl0]) (Ry.yl (ry_elemcH (j := 0) rfl 0 hy0 rfl (by decide))) ?_
  have mb30 : Mb y0 _ := ⟨List.mem_of_getElem? hy0⟩
  refine sq_ty rfl rfl rfl (by simp [aw_E, hl12, hl0]) (Ry.yl (ry_lenH rfl)) ?_
  refine sq_ty rfl rfl rfl (by simp [aw_E, hl12, hl0]) (Ry.yl (ry_int rfl rfl rfl)) ?_
  refine sq_r (ry_pickT rfl (by simp [aw_E, hl12, hl0]) rfl rfl) ?_
  refine sq_r (ry_move rfl) ?_
  refine sq_ty rfl rfl rfl (by simp [aw_E, hl12, hl0]) (Ry.yl (ry_move rfl)) ?_
  refine sq_ty rfl rfl rfl (by simp [aw_E, hl12, hl0]) (Ry.yl (ry_idxH rfl rfl 0 rfl (by omega))) ?_
  refine sq_ty rfl rfl rfl (by simp [aw_E, hl12, hl0]) (Ry.yl (ry_elemcH (j := 0) rfl 0 hy0 rfl (by decide))) ?_
  have mb37 : Mb y0 _ := ⟨List.mem_of_getElem? hy0⟩
  obtain ⟨e38, he38⟩ := get_some (xs := y0.xs) (i := 1) (by omega)
  refine sq_ty rfl rfl rfl (by simp [aw_E, hl12, hl0]) (Ry.yl (ry_idxH rfl rfl 1 rfl (by omega))) ?_
  refine sq_ty rfl rfl rfl (by simp [aw_E, hl12, hl0]) (Ry.yl (ry_elemcH (j := 0) rfl 1 he38 rfl (by decide))) ?_
  have v39 : e38 = 8 := by rw [ey.1] at he38; exact (Option.some.inj he38).symm
  refine sq_ty rfl rfl rfl (by simp [aw_E, hl12, hl0, v39]) (Ry.yl (ry_int rfl rfl rfl)) ?_
  refine sq_r (ry_pickT rfl (by simp [aw_E, hl12, hl0, v39]) rfl rfl) ?_
  refine sq_r (ry_move rfl) ?_
  refine sq_ty rfl rfl rfl (by simp [aw_E, hl12, hl0, v39]) (Ry.yl (ry_move rfl)) ?_
  refine sq_ty rfl rfl rfl (by simp [aw_E, hl12, hl0, v39]) (Ry.yl (ry_idxH rfl rfl 0 rfl (by omega))) ?_
  refine sq_ty rfl rfl rfl (by simp [aw_E, hl12, hl0, v39]) (Ry.yl (ry_elemcH (j := 0) rfl 0 hy0 rfl (by decide))) ?_
  have mb45 : Mb y0 _ := ⟨List.mem_of_getElem? hy0⟩
  obtain ⟨e46, he46⟩ := get_some (xs := y0.xs) (i := 2) (by omega)
  refine sq_ty rfl rfl rfl (by simp [aw_E, hl12, hl0, v39]) (Ry.yl (ry_idxH rfl rfl 2 rfl (by omega))) ?_
  refine sq_ty rfl rfl rfl (by simp [aw_E, hl12, hl0, v39]) (Ry.yl (ry_elemcH (j := 0) rfl 2 he46 rfl (by decide))) ?_
  have v47 : e46 = 10 := by rw [ey.1] at he46; exact (Option.some.inj he46).symm
  refine sq_ty rfl rfl rfl (by simp [aw_E, hl12, hl0, v39, v47]) (Ry.yl (ry_int rfl rfl rfl)) ?_
  refine sq_r (ry_pickT rfl (by simp [aw_E, hl12, hl0, v39, v47]) rfl rfl) ?_
  refine sq_r (ry_move rfl) ?_
  refine sq_ty rfl rfl rfl (by simp [aw_E, hl12, hl0, v39, v47]) (Ry.yl (ry_move rfl)) ?_
  refine sq_ty rfl rfl rfl (by simp [aw_E, hl12, hl0, v39, v47]) (Ry.yl (ry_idxH rfl rfl 0 rfl (by omega))) ?_
  refine sq_ty rfl rfl rfl (by simp [aw_E, hl12, hl0, v39, v47]) (Ry.yl (ry_elemcH (j := 0) rfl 0 hy0 rfl (by decide))) ?_
  have mb53 : Mb y0 _ := ⟨List.mem_of_getElem? hy0⟩
  obtain ⟨e54, he54⟩ := get_some (xs := y0.xs) (i := 18) (by omega)
  refine sq_ty rfl rfl rfl (by simp [aw_E, hl12, hl0, v39, v47]) (Ry.yl (ry_idxH rfl rfl 18 rfl (by omega))) ?_
  refine sq_ty rfl rfl rfl (by simp [aw_E, hl12, hl0, v39, v47]) (Ry.yl (ry_elemcH (j := 0) rfl 18 he54 rfl (by decide))) ?_
  have v55 : e54 = 1 := by rw [ey.1] at he54; exact (Option.some.inj he54).symm
  refine sq_ty rfl rfl rfl (by simp [aw_E, hl12, hl0, v39, v47, v55]) (Ry.yl (ry_int rfl rfl rfl)) ?_
  refine sq_r (ry_pickT rfl (by simp [aw_E, hl12, hl0, v39, v47, v55]) rfl rfl) ?_
  refine sq_r (ry_move rfl) ?_
  refine sq_ty rfl rfl rfl (by simp [aw_E, hl12, hl0, v39, v47, v55]) (Ry.yl (ry_move rfl)) ?_
  refine sq_ty rfl rfl rfl (by simp [aw_E, hl12, hl0, v39, v47, v55, e19]) (Ry.yl (ry_int rfl rfl rfl)) ?_
  refine sq_r (ry_pickT rfl (by simp [aw_E, hl12, hl0, v39, v47, v55, e19]) rfl rfl) ?_
  refine sq_r (ry_move rfl) ?_
  refine sq_ty rfl rfl rfl (by simp [aw_E, hl12, hl0, v39, v47, v55, e19]) (Ry.yl (ry_move rfl)) ?_
  refine sq_ty rfl rfl rfl (by simp [aw_E, hl12, hl0, v39, v47, v55, e19]) (Ry.yl (ry_move rfl)) ?_
  refine sq_ty rfl rfl rfl (by simp [aw_E, hl12, hl0, v39, v47, v55, e19, e18]) (yl_callC rfl (by decide)) ?_
  refine sq_r (ry_pickT rfl (by simp [aw_E, hl12, hl0, v39, v47, v55, e19, e18]) rfl rfl) ?_
  refine sq_r (ry_move rfl) ?_
  refine sq_ty rfl rfl rfl (by simp [aw_E, hl12, hl0, v39, v47, v55, e19, e18]) (yl_callC rfl trivial) ?_
  refine sq_ty rfl rfl rfl (by simp [aw_E, hl12, hl0, v39, v47, v55, e19, e18, aw_M]) (Ry.yl (ry_int rfl rfl rfl)) ?_
  refine sq_r (ry_pickT rfl (by simp [aw_E, hl12, hl0, v39, v47, v55, e19, e18, aw_M]) rfl rfl) ?_
  refine sq_r (ry_move rfl) ?_
  refine sq_ty rfl rfl rfl (by simp [aw_E, hl12, hl0, v39, v47, v55, e19, e18, aw_M]) (Ry.yl (ry_move rfl)) ?_
  refine sq_tcallC (vs := [(Sl.sv (Sl.nil : Sl (Sl UInt8))).val, _]) rfl rfl (by simp [aw_E, hl12, hl0, v39, v47, v55, e19, e18, aw_M]) rfl ⟨by decide, by omega, fun x hx => by rw [hy] at hx; rcases List.mem_cons.1 hx with rfl | hx; omega; rw [List.mem_singleton.1 hx, ey.2]; exact Nat.zero_le _⟩ fun x73 hp73 => ?_
  have hl73 : x73.xs.length = 1 := by have h1 := congrArg List.length hp73; rw [show lx (Sl.nil : Sl (Sl UInt8)) = [] from rfl, hp12, aw_C] at h1; simpa [its] using h1
  refine sq_ty rfl rfl rfl (by simp [aw_E, hl12, hl0, v39, v47, v55, e19, e18, aw_M]) (Ry.yl (ry_lenH rfl)) ?_
  refine sq_ty rfl rfl rfl (by simp [aw_E, hl12, hl0, v39, v47, v55, e19, e18, aw_M]) (Ry.yl (ry_int rfl rfl rfl)) ?_
  refine sq_r (ry_pickT rfl (by simp [aw_E, hl12, hl0, v39, v47, v55, e19, e18, aw_M]) rfl rfl) ?_
  refine sq_r (ry_assign rfl) ?_
  refine sq_nil ?_
  refine ex_then ?_
  refine cw_ret ?_
  refine ex_ret (.inl rfl) (res_1 rfl (rv_tmp rfl)) (fun w1 hw => ?_)
  exact ⟨congrArg (fun b => Ending.returned (Value.bool b)) ((by simp [hl73])), Keep.mem hw⟩
instance aw14_i {w0 : World} {L : List Ent}   : FnQ Try.prog 44 w0 L [] (.bool true) (True) := ⟨fun hp w hw => aw14_c w  ⟩

end Go.Proofs.Ytembaconocgmlaa
