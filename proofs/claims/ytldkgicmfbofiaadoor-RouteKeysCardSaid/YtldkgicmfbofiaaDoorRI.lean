/- The laws of routes: walked. -/
import Derived.Test.YtldkgicmfbofiaaDoorRF
import Derived.Test.YtldkgicmfbofiaaDoorRH
import Derived.Test.YtldkgicmfbofiaaDoorRl
set_option linter.unusedSimpArgs false
set_option linter.unusedVariables false
namespace Go.Proofs.YtldkgicmfbofiaaDoor
open Go.Eng Go.Kb
set_option maxRecDepth 20000 in
theorem aw02_c (w : World) [tb : Tabs w]   : Calls Tryd.prog 6 #[] w fun e w' => e = .returned (.bool true) ∧ Mem w [] w' := by
  refine calls_of (args := []) Tryd.func6 rfl Tryd.ntmps6 rfl ?_
  change Cw _ _ _ _ _ [] []
  refine cw_seq ?_
  refine cw_region ?_
  refine sq_r (ry_assign rfl) ?_
  refine sq_nil ?_
  refine ex_then ?_
  refine cw_seq ?_
  refine cw_region ?_
  refine sq_y (yl_callC rfl (by decide)) ?_
  refine sq_r (ry_move rfl) ?_
  refine sq_r (ry_extract (v := .agg (rcells (rlR [49, 48, 46, 49, 46, 48, 46, 48, 47, 49, 54, 32, 55]))) rfl rfl) ?_
  refine sq_r (ry_extract (v := .int .i64 (rlE [49, 48, 46, 49, 46, 48, 46, 48, 47, 49, 54, 32, 55])) rfl rfl) ?_
  refine sq_allocA fun b1 => ?_
  refine sq_storeW rfl rfl ?_
  refine sq_r (ry_assign rfl) ?_
  refine sq_nil ?_
  refine ex_then ?_
  refine cw_seq ?_
  refine cw_region ?_
  refine sq_r (ry_whole rfl) ?_
  refine sq_y (yl_callC rfl trivial) ?_
  refine sq_r (ry_move rfl) ?_
  refine sq_r (ry_extract (v := .string ⟨(lineS (rlR [49, 48, 46, 49, 46, 48, 46, 48, 47, 49, 54, 32, 55])).toArray⟩) rfl rfl) ?_
  refine sq_r (ry_extract (v := .int .i64 (errB (pmay (rlR [49, 48, 46, 49, 46, 48, 46, 48, 47, 49, 54, 32, 55]).p))) rfl rfl) ?_
  refine sq_r (ry_assign rfl) ?_
  refine sq_r (ry_assign rfl) ?_
  refine sq_nil ?_
  refine ex_then ?_
  refine cw_seq ?_
  refine cw_region ?_
  refine sq_y (yl_callC rfl (by decide)) ?_
  refine sq_r (ry_move rfl) ?_
  refine sq_r (ry_extract (v := .agg (kcells (rkK [50, 48, 48, 49, 48, 100, 98, 56, 48, 48, 48, 48, 48, 48, 48, 48, 48, 48, 48, 48, 48, 48, 48, 48, 48, 48, 48, 48, 48, 48, 48, 49]))) rfl rfl) ?_
  refine sq_r (ry_extract (v := .int .i64 ((rkN [50, 48, 48, 49, 48, 100, 98, 56, 48, 48, 48, 48, 48, 48, 48, 48, 48, 48, 48, 48, 48, 48, 48, 48, 48, 48, 48, 48, 48, 48, 48, 49]) : Nat)) rfl rfl) ?_
  refine sq_r (ry_extract (v := .int .i64 (rkE [50, 48, 48, 49, 48, 100, 98, 56, 48, 48, 48, 48, 48, 48, 48, 48, 48, 48, 48, 48, 48, 48, 48, 48, 48, 48, 48, 48, 48, 48, 48, 49])) rfl rfl) ?_
  refine sq_allocA fun b5 => ?_
  refine sq_storeW rfl rfl ?_
  refine sq_r (ry_assign rfl) ?_
  refine sq_r (ry_assign rfl) ?_
  refine sq_nil ?_
  refine ex_then ?_
  refine cw_seq ?_
  refine cw_region ?_
  refine sq_r (ry_move rfl) ?_
  refine sq_r (ry_int rfl rfl rfl) ?_
  refine sq_r (ry_move rfl) ?_
  refine sq_ty rfl rfl rfl (by simp [aw_1, aw_2, aw_3, aw_4, aw_5, aw_6, aw_7, aw_8, aw_9]) (Ry.yl (ry_field (o' := 18) rfl rfl)) ?_
  refine sq_ty rfl rfl rfl (by simp [aw_1, aw_2, aw_3, aw_4, aw_5, aw_6, aw_7, aw_8, aw_9]) (Ry.yl (ry_cellc rfl)) ?_
  refine sq_ty rfl rfl rfl (by simp [aw_1, aw_2, aw_3, aw_4, aw_5, aw_6, aw_7, aw_8, aw_9]) (Ry.yl (ry_int rfl rfl rfl)) ?_
  refine sq_r (ry_pickT rfl (by simp [aw_1, aw_2, aw_3, aw_4, aw_5, aw_6, aw_7, aw_8, aw_9]) rfl rfl) ?_
  refine sq_r (ry_move rfl) ?_
  refine sq_ty rfl rfl rfl (by simp [aw_1, aw_2, aw_3, aw_4, aw_5, aw_6, aw_7, aw_8, aw_9]) (Ry.yl (ry_field (o' := 0) rfl rfl)) ?_
  refine sq_ty rfl rfl rfl (by simp [aw_1, aw_2, aw_3, aw_4, aw_5, aw_6, aw_7, aw_8, aw_9]) (Ry.yl (ry_field (o' := 1) rfl rfl)) ?_
  refine sq_ty rfl rfl rfl (by simp [aw_1, aw_2, aw_3, aw_4, aw_5, aw_6, aw_7, aw_8, aw_9]) (Ry.yl (ry_cellc rfl)) ?_
  refine sq_ty rfl rfl rfl (by simp [aw_1, aw_2, aw_3, aw_4, aw_5, aw_6, aw_7, aw_8, aw_9]) (Ry.yl (ry_int rfl rfl rfl)) ?_
  refine sq_r (ry_pickT rfl (by simp [aw_1, aw_2, aw_3, aw_4, aw_5, aw_6, aw_7, aw_8, aw_9]) rfl rfl) ?_
  refine sq_r (ry_move rfl) ?_
  refine sq_ty rfl rfl rfl (by simp [aw_1, aw_2, aw_3, aw_4, aw_5, aw_6, aw_7, aw_8, aw_9]) (Ry.yl (ry_move rfl)) ?_
  refine sq_ty rfl rfl rfl (by simp [aw_1, aw_2, aw_3, aw_4, aw_5, aw_6, aw_7, aw_8, aw_9]) (Ry.yl (ry_int rfl rfl rfl)) ?_
  refine sq_r (ry_pickT rfl (by simp [aw_1, aw_2, aw_3, aw_4, aw_5, aw_6, aw_7, aw_8, aw_9]) rfl rfl) ?_
  refine sq_r (ry_move rfl) ?_
  refine sq_ty rfl rfl rfl (by simp [aw_1, aw_2, aw_3, aw_4, aw_5, aw_6, aw_7, aw_8, aw_9]) (Ry.yl (ry_move rfl)) ?_
  refine sq_ty rfl rfl rfl (by simp [aw_1, aw_2, aw_3, aw_4, aw_5, aw_6, aw_7, aw_8, aw_9]) (Ry.yl (ry_streqL rfl rfl)) ?_
  refine sq_r (ry_pickT rfl (by simp [aw_1, aw_2, aw_3, aw_4, aw_5, aw_6, aw_7, aw_8, aw_9]) rfl rfl) ?_
  refine sq_r (ry_move rfl) ?_
  refine sq_ty rfl rfl rfl (by simp [aw_1, aw_2, aw_3, aw_4, aw_5, aw_6, aw_7, aw_8, aw_9]) (Ry.yl (ry_move rfl)) ?_
  refine sq_ty rfl rfl rfl (by simp [aw_1, aw_2, aw_3, aw_4, aw_5, aw_6, aw_7, aw_8, aw_9]) (Ry.yl (ry_int rfl rfl rfl)) ?_
  refine sq_r (ry_pickT rfl (by simp [aw_1, aw_2, aw_3, aw_4, aw_5, aw_6, aw_7, aw_8, aw_9]) rfl rfl) ?_
  refine sq_r (ry_move rfl) ?_
  refine sq_ty rfl rfl rfl (by simp [aw_1, aw_2, aw_3, aw_4, aw_5, aw_6, aw_7, aw_8, aw_9]) (Ry.yl (ry_move rfl)) ?_
  refine sq_ty rfl rfl rfl (by simp [aw_1, aw_2, aw_3, aw_4, aw_5, aw_6, aw_7, aw_8, aw_9]) (Ry.yl (ry_int rfl rfl rfl)) ?_
  refine sq_r (ry_pickT rfl (by simp [aw_1, aw_2, aw_3, aw_4, aw_5, aw_6, aw_7, aw_8, aw_9]) rfl rfl) ?_
  refine sq_r (ry_move rfl) ?_
  refine sq_ty rfl rfl rfl (by simp [aw_1, aw_2, aw_3, aw_4, aw_5, aw_6, aw_7, aw_8, aw_9]) (Ry.yl (ry_idxA1 rfl rfl (by omega) (by omega))) ?_
  refine sq_ty rfl rfl rfl (by simp [aw_1, aw_2, aw_3, aw_4, aw_5, aw_6, aw_7, aw_8, aw_9]) (Ry.yl (ry_cell rfl (kcells_get (rkK [50, 48, 48, 49, 48, 100, 98, 56, 48, 48, 48, 48, 48, 48, 48, 48, 48, 48, 48, 48, 48, 48, 48, 48, 48, 48, 48, 48, 48, 48, 48, 49]) 1 (by decide)))) ?_
  refine sq_ty rfl rfl rfl (by simp [aw_1, aw_2, aw_3, aw_4, aw_5, aw_6, aw_7, aw_8, aw_9]) (Ry.yl (ry_int rfl rfl rfl)) ?_
  refine sq_r (ry_pickT rfl (by simp [aw_1, aw_2, aw_3, aw_4, aw_5, aw_6, aw_7, aw_8, aw_9]) rfl rfl) ?_
  refine sq_r (ry_move rfl) ?_
  refine sq_ty rfl rfl rfl (by simp [aw_1, aw_2, aw_3, aw_4, aw_5, aw_6, aw_7, aw_8, aw_9]) (Ry.yl (ry_idxA1 rfl rfl (by omega) (by omega))) ?_
  refine sq_ty rfl rfl rfl (by simp [aw_1, aw_2, aw_3, aw_4, aw_5, aw_6, aw_7, aw_8, aw_9]) (Ry.yl (ry_cell rfl (kcells_get (rkK [50, 48, 48, 49, 48, 100, 98, 56, 48, 48, 48, 48, 48, 48, 48, 48, 48, 48, 48, 48, 48, 48, 48, 48, 48, 48, 48, 48, 48, 48, 48, 49]) 15 (by decide)))) ?_
  refine sq_ty rfl rfl rfl (by simp [aw_1, aw_2, aw_3, aw_4, aw_5, aw_6, aw_7, aw_8, aw_9]) (Ry.yl (ry_int rfl rfl rfl)) ?_
  refine sq_r (ry_pickT rfl (by simp [aw_1, aw_2, aw_3, aw_4, aw_5, aw_6, aw_7, aw_8, aw_9]) rfl rfl) ?_
  refine sq_r (ry_assign rfl) ?_
  refine sq_nil ?_
  refine ex_then ?_
  refine cw_ret ?_
  refine ex_ret (.inl rfl) (res_1 rfl (rv_tmp rfl)) (fun w1 hw => ?_)
  exact ⟨congrArg (fun b => Ending.returned (Value.bool b)) ((by simp [aw_9])), Keep.mem hw⟩
instance aw02_i {w0 : World} {L : List Ent}  [tb : Tabs w0]  : FnQ Tryd.prog 6 w0 L [] (.bool true) (True) := ⟨fun hp w hw => aw02_c w (tb := tb.at hw)  ⟩
set_option maxRecDepth 20000 in
theorem routeRight_c (w : World) [tb : Tabs w] (r : Rt) (k : Key) (n : Int) (s : List UInt8)  : Calls Tryd.prog 3 #[.agg (rcells r), .agg (kcells k), .int .i64 n, .string ⟨s.toArray⟩] w fun e w' => e = .returned (.bool true) ∧ Mem w [] w' := by
  have hcl : (s.take (min s.length 200)).length ≤ 200 := by rw [List.length_take]; omega
  refine calls_of (args := [_, _, _, _]) Tryd.func3 rfl Tryd.ntmps3 rfl ?_
  change Cw _ _ _ _ _ [(0, .agg (rcells r)), (1, .agg (kcells k)), (2, .int .i64 n), (3, .string ⟨s.toArray⟩)] []
  refine cw_seq ?_
  refine cw_region ?_
  refine sq_boxA rfl fun b4 => ?_
  refine sq_boxA rfl fun b5 => ?_
  refine sq_r (ry_assign rfl) ?_
  refine sq_nil ?_
  refine ex_then ?_
  refine cw_seq ?_
  refine cw_seq ?_
  refine cw_region ?_
  refine sq_y (yl_callC rfl trivial) ?_
  refine sq_r (ry_not rfl) ?_
  refine sq_nil ?_
  refine ex_then ?_
  refine cw_cond rfl (fun h0 => ?_) (fun h0 => ?_)
  · exfalso; simp at h0
  · try simp only [Bool.and_eq_true, Bool.or_eq_true, Bool.and_eq_false_iff, Bool.or_eq_false_iff, Bool.not_eq_true', Bool.not_eq_false', decide_eq_true_eq, decide_eq_false_iff_not, Bool.not_eq_true, Bool.not_eq_false] at h0
    refine cw_skip ?_
    refine ex_then ?_
    refine cw_seq ?_
    refine cw_region ?_
    refine sq_r (ry_move rfl) ?_
    refine sq_r (ry_move rfl) ?_
    refine sq_r (ry_lenT (s := s) Tryd.underlying9 rfl) ?_
    refine sq_r (ry_min rfl rfl) ?_
    refine sq_r (ry_strhi (min s.length 200) Tryd.underlying9 rfl rfl (by omega) (by omega)) ?_
    refine sq_r (ry_assign rfl) ?_
    refine sq_nil ?_
    refine ex_then ?_
    refine cw_seq ?_
    refine cw_region ?_
    refine sq_r (ry_whole rfl) ?_
    refine sq_y (yl_callC rfl trivial) ?_
    refine sq_r (ry_move rfl) ?_
    refine sq_r (ry_extract (v := .string ⟨(lineS r).toArray⟩) rfl rfl) ?_
    refine sq_r (ry_extract (v := .int .i64 (errB (pmay r.p))) rfl rfl) ?_
    refine sq_r (ry_assign rfl) ?_
    refine sq_r (ry_assign rfl) ?_
    refine sq_nil ?_
    refine ex_then ?_
    refine cw_seq ?_
    refine cw_region ?_
    refine sq_r (ry_whole rfl) ?_
    refine sq_y (yl_callC rfl trivial) ?_
    refine sq_r (ry_move rfl) ?_
    refine sq_r (ry_extract (v := .string ⟨(lineS r).toArray⟩) rfl rfl) ?_
    refine sq_r (ry_extract (v := .int .i64 (errB (pmay r.p))) rfl rfl) ?_
    refine sq_r (ry_assign rfl) ?_
    refine sq_r (ry_assign rfl) ?_
    refine sq_nil ?_
    refine ex_then ?_
    refine cw_seq ?_
    refine cw_seq ?_
    refine cw_region ?_
    refine sq_r (ry_move rfl) ?_
    refine sq_r (ry_move rfl) ?_
    refine sq_r (ry_strneL rfl rfl) ?_
    refine sq_r (ry_move rfl) ?_
    refine sq_gf rfl rfl rfl (fun hg => (Ry.yl (ry_move rfl))) ?_
    refine sq_gf rfl rfl rfl (fun hg => (Ry.yl (ry_move rfl))) ?_
    refine sq_gf rfl rfl rfl (fun hg => (Ry.yl (ry_int (ev_c hg rfl) (ev_c hg rfl) rfl))) ?_
    refine sq_r (ry_or rfl rfl rfl) ?_
    refine sq_nil ?_
    refine ex_then ?_
    refine cw_cond rfl (fun h1 => ?_) (fun h1 => ?_)
    · exfalso; simp at h1
    · try simp only [Bool.and_eq_true, Bool.or_eq_true, Bool.and_eq_false_iff, Bool.or_eq_false_iff, Bool.not_eq_true', Bool.not_eq_false', decide_eq_true_eq, decide_eq_false_iff_not, Bool.not_eq_true, Bool.not_eq_false] at h1
      refine cw_skip ?_
      refine ex_then ?_
      refine cw_seq ?_
      refine cw_region ?_
      refine sq_r (ry_field (o' := 0) rfl rfl) ?_
      refine sq_r (ry_part rfl) ?_
      refine sq_y (yl_callC rfl trivial) ?_
      refine sq_r (ry_move rfl) ?_
      refine sq_r (ry_extract (v := .string ⟨(pfxS r.p).toArray⟩) rfl rfl) ?_
      refine sq_r (ry_extract (v := .int .i64 (errB (pmay r.p))) rfl rfl) ?_
      refine sq_r (ry_assign rfl) ?_
      refine sq_r (ry_assign rfl) ?_
      refine sq_nil ?_
      refine ex_then ?_
      refine cw_seq ?_
      refine cw_region ?_
      refine sq_r (ry_field (o' := 0) rfl rfl) ?_
      refine sq_r (ry_part rfl) ?_
      refine sq_y (yl_callC rfl trivial) ?_
      refine sq_r (ry_move rfl) ?_
      refine sq_r (ry_extract (v := .string ⟨(pfxS r.p).toArray⟩) rfl rfl) ?_
      refine sq_r (ry_extract (v := .int .i64 (errB (pmay r.p))) rfl rfl) ?_
      refine sq_r (ry_assign rfl) ?_
      refine sq_r (ry_assign rfl) ?_
      refine sq_nil ?_
      refine ex_then ?_
      refine cw_seq ?_
      refine cw_seq ?_
      refine cw_region ?_
      refine sq_r (ry_move rfl) ?_
      refine sq_r (ry_move rfl) ?_
      refine sq_r (ry_strneL rfl rfl) ?_
      refine sq_r (ry_move rfl) ?_
      refine sq_gf rfl rfl rfl (fun hg => (Ry.yl (ry_move rfl))) ?_
      refine sq_gf rfl rfl rfl (fun hg => (Ry.yl (ry_move rfl))) ?_
      refine sq_gf rfl rfl rfl (fun hg => (Ry.yl (ry_int (ev_c hg rfl) (ev_c hg rfl) rfl))) ?_
      refine sq_r (ry_or rfl rfl rfl) ?_
      refine sq_nil ?_
      refine ex_then ?_
      refine cw_cond rfl (fun h2 => ?_) (fun h2 => ?_)
      · exfalso; simp at h2
      · try simp only [Bool.and_eq_true, Bool.or_eq_true, Bool.and_eq_false_iff, Bool.or_eq_false_iff, Bool.not_eq_true', Bool.not_eq_false', decide_eq_true_eq, decide_eq_false_iff_not, Bool.not_eq_true, Bool.not_eq_false] at h2
        refine cw_skip ?_
        refine ex_then ?_
        refine cw_seq ?_
        refine cw_region ?_
        refine sq_r (ry_whole rfl) ?_
        refine sq_r (ry_move rfl) ?_
        refine sq_y (yl_callC rfl trivial) ?_
        refine sq_r (ry_move rfl) ?_
        refine sq_r (ry_extract (v := .string ⟨(keyS k n).toArray⟩) rfl rfl) ?_
        refine sq_r (ry_extract (v := .int .i64 (errB (keyB k n))) rfl rfl) ?_
        refine sq_r (ry_assign rfl) ?_
        refine sq_r (ry_assign rfl) ?_
        refine sq_nil ?_
        refine ex_then ?_
        refine cw_seq ?_
        refine cw_region ?_
        refine sq_r (ry_whole rfl) ?_
        refine sq_r (ry_move rfl) ?_
        refine sq_y (yl_callC rfl trivial) ?_
        refine sq_r (ry_move rfl) ?_
        refine sq_r (ry_extract (v := .string ⟨(keyS k n).toArray⟩) rfl rfl) ?_
        refine sq_r (ry_extract (v := .int .i64 (errB (keyB k n))) rfl rfl) ?_
        refine sq_r (ry_assign rfl) ?_
        refine sq_r (ry_assign rfl) ?_
        refine sq_nil ?_
        refine ex_then ?_
        refine cw_seq ?_
        refine cw_seq ?_
        refine cw_region ?_
        refine sq_r (ry_move rfl) ?_
        refine sq_r (ry_move rfl) ?_
        refine sq_r (ry_strneL rfl rfl) ?_
        refine sq_r (ry_move rfl) ?_
        refine sq_gf rfl rfl rfl (fun hg => (Ry.yl (ry_move rfl))) ?_
        refine sq_gf rfl rfl rfl (fun hg => (Ry.yl (ry_move rfl))) ?_
        refine sq_gf rfl rfl rfl (fun hg => (Ry.yl (ry_int (ev_c hg rfl) (ev_c hg rfl) rfl))) ?_
        refine sq_r (ry_or rfl rfl rfl) ?_
        refine sq_nil ?_
        refine ex_then ?_
        refine cw_cond rfl (fun h3 => ?_) (fun h3 => ?_)
        · exfalso; simp at h3
        · try simp only [Bool.and_eq_true, Bool.or_eq_true, Bool.and_eq_false_iff, Bool.or_eq_false_iff, Bool.not_eq_true', Bool.not_eq_false', decide_eq_true_eq, decide_eq_false_iff_not, Bool.not_eq_true, Bool.not_eq_false] at h3
          refine cw_skip ?_
          refine ex_then ?_
          refine cw_seq ?_
          refine cw_region ?_
          refine sq_r (ry_move rfl) ?_
          refine sq_y (yl_callC rfl (by omega)) ?_
          refine sq_r (ry_move rfl) ?_
          refine sq_r (ry_extract (v := .agg (rcells (rlR (s.take (min s.length 200))))) rfl rfl) ?_
          refine sq_r (ry_extract (v := .int .i64 (rlE (s.take (min s.length 200)))) rfl rfl) ?_
          refine sq_allocA fun b13 => ?_
          refine sq_storeW rfl rfl ?_
          refine sq_r (ry_assign rfl) ?_
          refine sq_nil ?_
          refine ex_then ?_
          refine cw_seq ?_
          refine cw_region ?_
          refine sq_r (ry_move rfl) ?_
          refine sq_y (yl_callC rfl (by omega)) ?_
          refine sq_r (ry_move rfl) ?_
          refine sq_r (ry_extract (v := .agg (rcells (rlR (s.take (min s.length 200))))) rfl rfl) ?_
          refine sq_r (ry_extract (v := .int .i64 (rlE (s.take (min s.length 200)))) rfl rfl) ?_
          refine sq_allocA fun b14 => ?_
          refine sq_storeW rfl rfl ?_
          refine sq_r (ry_assign rfl) ?_
          refine sq_nil ?_
          refine ex_then ?_
          refine cw_seq ?_
          refine cw_seq ?_
          refine cw_region ?_
          refine sq_r (ry_whole rfl) ?_
          refine sq_r (ry_whole rfl) ?_
          refine sq_r (ry_ne rfl rfl) ?_
          refine sq_r (ry_move rfl) ?_
          refine sq_gf rfl rfl rfl (fun hg => (Ry.yl (ry_move rfl))) ?_
          refine sq_gf rfl rfl rfl (fun hg => (Ry.yl (ry_move rfl))) ?_
          refine sq_gf rfl rfl rfl (fun hg => (Ry.yl (ry_int (ev_c hg rfl) (ev_c hg rfl) rfl))) ?_
          refine sq_r (ry_or rfl rfl rfl) ?_
          refine sq_nil ?_
          refine ex_then ?_
          refine cw_cond rfl (fun h4 => ?_) (fun h4 => ?_)
          · exfalso; simp at h4
          · try simp only [Bool.and_eq_true, Bool.or_eq_true, Bool.and_eq_false_iff, Bool.or_eq_false_iff, Bool.not_eq_true', Bool.not_eq_false', decide_eq_true_eq, decide_eq_false_iff_not, Bool.not_eq_true, Bool.not_eq_false] at h4
            refine cw_skip ?_
            refine ex_then ?_
            refine cw_seq ?_
            refine cw_region ?_
            refine sq_r (ry_move rfl) ?_
            refine sq_y (yl_callC rfl (by omega)) ?_
            refine sq_r (ry_move rfl) ?_
            refine sq_r (ry_extract (v := .agg (pcells (rpP (s.take (min s.length 200))))) rfl rfl) ?_
            refine sq_r (ry_extract (v := .int .i64 (rpE (s.take (min s.length 200)))) rfl rfl) ?_
            refine sq_allocA fun b15 => ?_
            refine sq_storeW rfl rfl ?_
            refine sq_r (ry_assign rfl) ?_
            refine sq_nil ?_
            refine ex_then ?_
            refine cw_seq ?_
            refine cw_region ?_
            refine sq_r (ry_move rfl) ?_
            refine sq_y (yl_callC rfl (by omega)) ?_
            refine sq_r (ry_move rfl) ?_
            refine sq_r (ry_extract (v := .agg (pcells (rpP (s.take (min s.length 200))))) rfl rfl) ?_
            refine sq_r (ry_extract (v := .int .i64 (rpE (s.take (min s.length 200)))) rfl rfl) ?_
            refine sq_allocA fun b16 => ?_
            refine sq_storeW rfl rfl ?_
            refine sq_r (ry_assign rfl) ?_
            refine sq_nil ?_
            refine ex_then ?_
            refine cw_seq ?_
            refine cw_seq ?_
            refine cw_region ?_
            refine sq_r (ry_whole rfl) ?_
            refine sq_r (ry_whole rfl) ?_
            refine sq_r (ry_ne rfl rfl) ?_
            refine sq_r (ry_move rfl) ?_
            refine sq_gf rfl rfl rfl (fun hg => (Ry.yl (ry_move rfl))) ?_
            refine sq_gf rfl rfl rfl (fun hg => (Ry.yl (ry_move rfl))) ?_
            refine sq_gf rfl rfl rfl (fun hg => (Ry.yl (ry_int (ev_c hg rfl) (ev_c hg rfl) rfl))) ?_
            refine sq_r (ry_or rfl rfl rfl) ?_
            refine sq_nil ?_
            refine ex_then ?_
            refine cw_cond rfl (fun h5 => ?_) (fun h5 => ?_)
            · exfalso; simp at h5
            · try simp only [Bool.and_eq_true, Bool.or_eq_true, Bool.and_eq_false_iff, Bool.or_eq_false_iff, Bool.not_eq_true', Bool.not_eq_false', decide_eq_true_eq, decide_eq_false_iff_not, Bool.not_eq_true, Bool.not_eq_false] at h5
              refine cw_skip ?_
              refine ex_then ?_
              refine cw_seq ?_
              refine cw_region ?_
              refine sq_r (ry_move rfl) ?_
              refine sq_y (yl_callC rfl (by omega)) ?_
              refine sq_r (ry_move rfl) ?_
              refine sq_r (ry_extract (v := .agg (kcells (rkK (s.take (min s.length 200))))) rfl rfl) ?_
              refine sq_r (ry_extract (v := .int .i64 ((rkN (s.take (min s.length 200))) : Nat)) rfl rfl) ?_
              refine sq_r (ry_extract (v := .int .i64 (rkE (s.take (min s.length 200)))) rfl rfl) ?_
              refine sq_allocA fun b17 => ?_
              refine sq_storeW rfl rfl ?_
              refine sq_r (ry_assign rfl) ?_
              refine sq_r (ry_assign rfl) ?_
              refine sq_nil ?_
              refine ex_then ?_
              refine cw_seq ?_
              refine cw_region ?_
              refine sq_r (ry_move rfl) ?_
              refine sq_y (yl_callC rfl (by omega)) ?_
              refine sq_r (ry_move rfl) ?_
              refine sq_r (ry_extract (v := .agg (kcells (rkK (s.take (min s.length 200))))) rfl rfl) ?_
              refine sq_r (ry_extract (v := .int .i64 ((rkN (s.take (min s.length 200))) : Nat)) rfl rfl) ?_
              refine sq_r (ry_extract (v := .int .i64 (rkE (s.take (min s.length 200)))) rfl rfl) ?_
              refine sq_allocA fun b19 => ?_
              refine sq_storeW rfl rfl ?_
              refine sq_r (ry_assign rfl) ?_
              refine sq_r (ry_assign rfl) ?_
              refine sq_nil ?_
              refine ex_then ?_
              refine cw_seq ?_
              refine cw_region ?_
              refine sq_r (ry_whole rfl) ?_
              refine sq_r (ry_whole rfl) ?_
              refine sq_r (ry_eq rfl rfl) ?_
              refine sq_r (ry_move rfl) ?_
              refine sq_gt rfl rfl rfl (fun hg => (Ry.yl (ry_move rfl))) ?_
              refine sq_gt rfl rfl rfl (fun hg => (Ry.yl (ry_move rfl))) ?_
              refine sq_gt rfl rfl rfl (fun hg => (Ry.yl (ry_int (ev_c hg rfl) (ev_c hg rfl) rfl))) ?_
              refine sq_r (ry_and rfl rfl rfl) ?_
              refine sq_r (ry_move rfl) ?_
              refine sq_gt rfl rfl rfl (fun hg => (Ry.yl (ry_move rfl))) ?_
              refine sq_gt rfl rfl rfl (fun hg => (Ry.yl (ry_move rfl))) ?_
              refine sq_gt rfl rfl rfl (fun hg => (Ry.yl (ry_int (ev_c hg rfl) (ev_c hg rfl) rfl))) ?_
              refine sq_r (ry_and rfl rfl rfl) ?_
              refine sq_r (ry_assign rfl) ?_
              refine sq_nil ?_
              refine ex_then ?_
              refine cw_ret ?_
              refine ex_ret (.inl rfl) (res_1 rfl (rv_tmp rfl)) (fun w1 hw => ?_)
              exact ⟨congrArg (fun b => Ending.returned (Value.bool b)) ((by simp)), Keep.mem hw⟩

set_option maxRecDepth 20000 in
theorem routeBack_c (w : World) [tb : Tabs w] (a : Rt) (b : Rt) (s : List UInt8)  : Calls Tryd.prog 4 #[.agg (rcells a), .agg (rcells b), .string ⟨s.toArray⟩] w fun e w' => e = .returned (.bool true) ∧ Mem w [] w' := by
  have hcl : (s.take (min s.length 200)).length ≤ 200 := by rw [List.length_take]; omega
  have hla := lineS_len a
  refine calls_of (args := [_, _, _]) Tryd.func4 rfl Tryd.ntmps4 rfl ?_
  change Cw _ _ _ _ _ [(0, .agg (rcells a)), (1, .agg (rcells b)), (2, .string ⟨s.toArray⟩)] []
  refine cw_seq ?_
  refine cw_region ?_
  refine sq_boxA rfl fun b3 => ?_
  refine sq_boxA rfl fun b4 => ?_
  refine sq_r (ry_assign rfl) ?_
  refine sq_nil ?_
  refine ex_then ?_
  refine cw_seq ?_
  refine cw_seq ?_
  refine cw_region ?_
  refine sq_y (yl_callC rfl trivial) ?_
  refine sq_r (ry_not rfl) ?_
  refine sq_nil ?_
  refine ex_then ?_
  refine cw_cond rfl (fun h0 => ?_) (fun h0 => ?_)
  · exfalso; simp at h0
  · try simp only [Bool.and_eq_true, Bool.or_eq_true, Bool.and_eq_false_iff, Bool.or_eq_false_iff, Bool.not_eq_true', Bool.not_eq_false', decide_eq_true_eq, decide_eq_false_iff_not, Bool.not_eq_true, Bool.not_eq_false] at h0
    refine cw_skip ?_
    refine ex_then ?_
    refine cw_seq ?_
    refine cw_region ?_
    refine sq_r (ry_whole rfl) ?_
    refine sq_y (yl_callC rfl trivial) ?_
    refine sq_r (ry_move rfl) ?_
    refine sq_r (ry_extract (v := .string ⟨(lineS a).toArray⟩) rfl rfl) ?_
    refine sq_r (ry_extract (v := .int .i64 (errB (pmay a.p))) rfl rfl) ?_
    refine sq_r (ry_assign rfl) ?_
    refine sq_r (ry_assign rfl) ?_
    refine sq_nil ?_
    refine ex_then ?_
    refine cw_seq ?_
    refine cw_region ?_
    refine sq_r (ry_whole rfl) ?_
    refine sq_y (yl_callC rfl trivial) ?_
    refine sq_r (ry_move rfl) ?_
    refine sq_r (ry_extract (v := .string ⟨(lineS b).toArray⟩) rfl rfl) ?_
    refine sq_r (ry_extract (v := .int .i64 (errB (pmay b.p))) rfl rfl) ?_
    refine sq_r (ry_assign rfl) ?_
    refine sq_r (ry_assign rfl) ?_
    refine sq_nil ?_
    refine ex_then ?_
    refine cw_seq ?_
    refine cw_seq ?_
    refine cw_region ?_
    refine sq_r (ry_move rfl) ?_
    refine sq_r (ry_int rfl rfl rfl) ?_
    refine sq_nil ?_
    refine ex_then ?_
    refine cw_cond rfl (fun h1 => ?_) (fun h1 => ?_)
    · try simp only [Bool.and_eq_true, Bool.or_eq_true, Bool.and_eq_false_iff, Bool.or_eq_false_iff, Bool.not_eq_true', Bool.not_eq_false', decide_eq_true_eq, decide_eq_false_iff_not, Bool.not_eq_true, Bool.not_eq_false] at h1
      refine cw_seq ?_
      refine cw_region ?_
      refine sq_r (ry_move rfl) ?_
      refine sq_y (yl_callC rfl (by omega)) ?_
      refine sq_r (ry_move rfl) ?_
      refine sq_r (ry_extract (v := .agg (rcells (rlR (lineS a)))) rfl rfl) ?_
      refine sq_r (ry_extract (v := .int .i64 (rlE (lineS a))) rfl rfl) ?_
      refine sq_allocA fun b11 => ?_
      refine sq_storeW rfl rfl ?_
      refine sq_r (ry_assign rfl) ?_
      refine sq_nil ?_
      refine ex_then ?_
      refine cw_seq ?_
      refine cw_region ?_
      refine sq_r (ry_move rfl) ?_
      refine sq_r (ry_int rfl rfl rfl) ?_
      refine sq_r (ry_move rfl) ?_
      refine sq_gf rfl rfl rfl (fun hg => (Ry.yl (ry_whole rfl))) ?_
      refine sq_gf rfl rfl rfl (fun hg => (Ry.yl (ry_whole rfl))) ?_
      refine sq_gf rfl rfl rfl (fun hg => (Ry.yl (ry_ne (ev_c hg rfl) (ev_c hg rfl)))) ?_
      refine sq_r (ry_or rfl rfl rfl) ?_
      refine sq_r (ry_move rfl) ?_
      refine sq_gf rfl rfl rfl (fun hg => (Ry.yl (ry_move rfl))) ?_
      refine sq_gf rfl rfl rfl (fun hg => (Ry.yl (ry_int (ev_c hg rfl) rfl rfl))) ?_
      refine sq_gf rfl rfl rfl (fun hg => (Ry.yl (ry_move (ev_c hg rfl)))) ?_
      refine sq_nt rfl rfl rfl (fun hg => (Ry.yl (ry_move rfl))) ?_
      refine sq_nt rfl rfl rfl (fun hg => (Ry.yl (ry_move rfl))) ?_
      refine sq_nt rfl rfl rfl (fun hg => (Ry.yl (ry_streqL (ev_c hg rfl) (ev_c hg rfl)))) ?_
      refine sq_nt rfl rfl rfl (fun hg => (Ry.yl (ry_whole rfl))) ?_
      refine sq_nt rfl rfl rfl (fun hg => (Ry.yl (ry_whole rfl))) ?_
      refine sq_nt rfl rfl rfl (fun hg => (Ry.yl (ry_eq (ev_c hg rfl) (ev_c hg rfl)))) ?_
      refine sq_nt rfl rfl rfl (fun hg => (Ry.yl (ry_neb (ev_c hg rfl) (ev_c hg rfl) Tryd.underlying4))) ?_
      refine sq_gf rfl rfl rfl (fun hg => (Ry.yl (ry_and (ev_c hg rfl) (ev_cc hg rfl) rfl))) ?_
      refine sq_r (ry_or rfl rfl rfl) ?_
      refine sq_nil ?_
      refine ex_then ?_
      refine cw_cond rfl (fun h2 => ?_) (fun h2 => ?_)
      · exfalso
        have hp : pmay a.p = true := err_zero.1 h1
        obtain ⟨e1, e2⟩ := line_back hp
        rw [e1, e2] at h2
        cases hb : pmay b.p with
        | false => rw [hb] at h2; simp [errB] at h2
        | true =>
          rw [hb] at h2
          by_cases hab : a = b
          · subst hab; simp at h2
          · have hne : ¬ lineS a = lineS b := fun e => hab (by rw [← (line_back hp).1, e, (line_back hb).1])
            simp [errB, hne, hab] at h2
      · try simp only [Bool.and_eq_true, Bool.or_eq_true, Bool.and_eq_false_iff, Bool.or_eq_false_iff, Bool.not_eq_true', Bool.not_eq_false', decide_eq_true_eq, decide_eq_false_iff_not, Bool.not_eq_true, Bool.not_eq_false] at h2
        refine cw_skip ?_
        refine ex_then ?_
        refine cw_seq ?_
        refine cw_region ?_
        refine sq_r (ry_move rfl) ?_
        refine sq_r (ry_move rfl) ?_
        refine sq_r (ry_lenT (s := s) Tryd.underlying9 rfl) ?_
        refine sq_r (ry_min rfl rfl) ?_
        refine sq_r (ry_strhi (min s.length 200) Tryd.underlying9 rfl rfl (by omega) (by omega)) ?_
        refine sq_r (ry_assign rfl) ?_
        refine sq_nil ?_
        refine ex_then ?_
        refine cw_seq ?_
        refine cw_region ?_
        refine sq_r (ry_move rfl) ?_
        refine sq_y (yl_callC rfl (by omega)) ?_
        refine sq_r (ry_move rfl) ?_
        refine sq_r (ry_extract (v := .agg (rcells (rlR (s.take (min s.length 200))))) rfl rfl) ?_
        refine sq_r (ry_extract (v := .int .i64 (rlE (s.take (min s.length 200)))) rfl rfl) ?_
        refine sq_allocA fun b13 => ?_
        refine sq_storeW rfl rfl ?_
        refine sq_r (ry_assign rfl) ?_
        refine sq_nil ?_
        refine ex_then ?_
        refine cw_seq ?_
        refine cw_seq ?_
        refine cw_region ?_
        refine sq_r (ry_whole rfl) ?_
        refine sq_y (yl_callC rfl trivial) ?_
        refine sq_r (ry_move rfl) ?_
        refine sq_r (ry_extract (v := .string ⟨(lineS (rlR (s.take (min s.length 200)))).toArray⟩) rfl rfl) ?_
        refine sq_r (ry_extract (v := .int .i64 (errB (pmay (rlR (s.take (min s.length 200))).p))) rfl rfl) ?_
        refine sq_r (ry_assign rfl) ?_
        refine sq_r (ry_assign rfl) ?_
        refine sq_nil ?_
        refine ex_then ?_
        refine cw_seq ?_
        refine cw_region ?_
        refine sq_r (ry_move rfl) ?_
        refine sq_r (ry_int rfl rfl rfl) ?_
        refine sq_r (ry_move rfl) ?_
        refine sq_gt rfl rfl rfl (fun hg => (Ry.yl (ry_move rfl))) ?_
        refine sq_gt rfl rfl rfl (fun hg => (Ry.yl (ry_int (ev_c hg rfl) rfl rfl))) ?_
        refine sq_gt rfl rfl rfl (fun hg => (Ry.yl (ry_move (ev_c hg rfl)))) ?_
        refine sq_nf rfl rfl rfl (fun hg => (Ry.yl (ry_move rfl))) ?_
        refine sq_nf rfl rfl rfl (fun hg => (Ry.yl (ry_move rfl))) ?_
        refine sq_nf rfl rfl rfl (fun hg => (Ry.yl (ry_strneL (ev_c hg rfl) (ev_c hg rfl)))) ?_
        refine sq_gt rfl rfl rfl (fun hg => (Ry.yl (ry_or (ev_c hg rfl) rfl (ev_cc hg rfl)))) ?_
        refine sq_r (ry_and rfl rfl rfl) ?_
        refine sq_r (ry_move rfl) ?_
        refine sq_gf rfl rfl rfl (fun hg => (Ry.yl (ry_move rfl))) ?_
        refine sq_gf rfl rfl rfl (fun hg => (Ry.yl (ry_int (ev_c hg rfl) rfl rfl))) ?_
        refine sq_gf rfl rfl rfl (fun hg => (Ry.yl (ry_move (ev_c hg rfl)))) ?_
        refine sq_nt rfl rfl rfl (fun hg => (Ry.yl (ry_whole rfl))) ?_
        refine sq_nt rfl rfl rfl (fun hg => (Ry.yl (ry_buildc rfl))) ?_
        refine sq_nt rfl rfl rfl (fun hg => (Ry.yl (ry_ne (ev_c hg rfl) (ev_c hg rfl)))) ?_
        refine sq_gf rfl rfl rfl (fun hg => (Ry.yl (ry_and (ev_c hg rfl) (ev_cc hg rfl) rfl))) ?_
        refine sq_r (ry_or rfl rfl rfl) ?_
        refine sq_nil ?_
        refine ex_then ?_
        refine cw_cond rfl (fun h3 => ?_) (fun h3 => ?_)
        · exfalso
          by_cases hz : rlE (s.take (min s.length 200)) = 0
          · obtain ⟨e1, e2⟩ := rl_yes hz
            rw [e1, e2] at h3
            simp [errB, hz] at h3
          · have e1 := rl_not hz
            simp [hz, e1] at h3
        · try simp only [Bool.and_eq_true, Bool.or_eq_true, Bool.and_eq_false_iff, Bool.or_eq_false_iff, Bool.not_eq_true', Bool.not_eq_false', decide_eq_true_eq, decide_eq_false_iff_not, Bool.not_eq_true, Bool.not_eq_false] at h3
          refine cw_skip ?_
          refine ex_then ?_
          refine cw_seq ?_
          refine cw_region ?_
          refine sq_r (ry_move rfl) ?_
          refine sq_y (yl_callC rfl (by omega)) ?_
          refine sq_r (ry_move rfl) ?_
          refine sq_r (ry_extract (v := .agg (kcells (rkK (s.take (min s.length 200))))) rfl rfl) ?_
          refine sq_r (ry_extract (v := .int .i64 ((rkN (s.take (min s.length 200))) : Nat)) rfl rfl) ?_
          refine sq_r (ry_extract (v := .int .i64 (rkE (s.take (min s.length 200)))) rfl rfl) ?_
          refine sq_allocA fun b17 => ?_
          refine sq_storeW rfl rfl ?_
          refine sq_r (ry_assign rfl) ?_
          refine sq_r (ry_assign rfl) ?_
          refine sq_nil ?_
          refine ex_then ?_
          refine cw_seq ?_
          refine cw_region ?_
          refine sq_r (ry_whole rfl) ?_
          refine sq_r (ry_move rfl) ?_
          refine sq_y (yl_callC rfl trivial) ?_
          refine sq_r (ry_move rfl) ?_
          refine sq_r (ry_extract (v := .string ⟨(keyS (rkK (s.take (min s.length 200))) (((rkN (s.take (min s.length 200))) : Nat) : Int)).toArray⟩) rfl rfl) ?_
          refine sq_r (ry_extract (v := .int .i64 (errB (keyB (rkK (s.take (min s.length 200))) (((rkN (s.take (min s.length 200))) : Nat) : Int)))) rfl rfl) ?_
          refine sq_r (ry_assign rfl) ?_
          refine sq_r (ry_assign rfl) ?_
          refine sq_nil ?_
          refine ex_then ?_
          refine cw_seq ?_
          refine cw_region ?_
          refine sq_r (ry_move rfl) ?_
          refine sq_r (ry_int rfl rfl rfl) ?_
          refine sq_r (ry_move rfl) ?_
          refine sq_gt rfl rfl rfl (fun hg => (Ry.yl (ry_move rfl))) ?_
          refine sq_gt rfl rfl rfl (fun hg => (Ry.yl (ry_int (ev_c hg rfl) rfl rfl))) ?_
          refine sq_r (ry_and rfl rfl rfl) ?_
          refine sq_r (ry_move rfl) ?_
          refine sq_gt rfl rfl rfl (fun hg => (Ry.yl (ry_move rfl))) ?_
          refine sq_gt rfl rfl rfl (fun hg => (Ry.yl (ry_move rfl))) ?_
          refine sq_gt rfl rfl rfl (fun hg => (Ry.yl (ry_streqL (ev_c hg rfl) (ev_c hg rfl)))) ?_
          refine sq_r (ry_and rfl rfl rfl) ?_
          refine sq_r (ry_move rfl) ?_
          refine sq_gf rfl rfl rfl (fun hg => (Ry.yl (ry_move rfl))) ?_
          refine sq_gf rfl rfl rfl (fun hg => (Ry.yl (ry_int (ev_c hg rfl) rfl rfl))) ?_
          refine sq_gf rfl rfl rfl (fun hg => (Ry.yl (ry_move (ev_c hg rfl)))) ?_
          refine sq_nt rfl rfl rfl (fun hg => (Ry.yl (ry_whole rfl))) ?_
          refine sq_nt rfl rfl rfl (fun hg => (Ry.yl (ry_buildc rfl))) ?_
          refine sq_nt rfl rfl rfl (fun hg => (Ry.yl (ry_eq (ev_c hg rfl) (ev_c hg rfl)))) ?_
          refine sq_gf rfl rfl rfl (fun hg => (Ry.yl (ry_and (ev_c hg rfl) (ev_cc hg rfl) rfl))) ?_
          refine sq_gf rfl rfl rfl (fun hg => (Ry.yl (ry_move (ev_c hg rfl)))) ?_
          refine sq_nt rfl rfl rfl (fun hg => (Ry.yl (ry_move rfl))) ?_
          refine sq_nt rfl rfl rfl (fun hg => (Ry.yl (ry_int (ev_c hg rfl) rfl rfl))) ?_
          refine sq_gf rfl rfl rfl (fun hg => (Ry.yl (ry_and (ev_c hg rfl) (ev_cc hg rfl) rfl))) ?_
          refine sq_r (ry_or rfl rfl rfl) ?_
          refine sq_r (ry_assign rfl) ?_
          refine sq_nil ?_
          refine ex_then ?_
          refine cw_ret ?_
          refine ex_ret (.inl rfl) (res_1 rfl (rv_tmp rfl)) (fun w1 hw => ?_)
          exact ⟨congrArg (fun b => Ending.returned (Value.bool b)) ((by
            by_cases hz : rkE (s.take (min s.length 200)) = 0
            · obtain ⟨e1, e2⟩ := rk_yes hz
              rw [e1, e2]
              simp [errB, hz]
            · obtain ⟨e1, e2⟩ := rk_not hz
              simp [hz, e1, e2])), Keep.mem hw⟩
    · try simp only [Bool.and_eq_true, Bool.or_eq_true, Bool.and_eq_false_iff, Bool.or_eq_false_iff, Bool.not_eq_true', Bool.not_eq_false', decide_eq_true_eq, decide_eq_false_iff_not, Bool.not_eq_true, Bool.not_eq_false] at h1
      refine cw_skip ?_
      refine ex_then ?_
      refine cw_seq ?_
      refine cw_region ?_
      refine sq_r (ry_move rfl) ?_
      refine sq_r (ry_move rfl) ?_
      refine sq_r (ry_lenT (s := s) Tryd.underlying9 rfl) ?_
      refine sq_r (ry_min rfl rfl) ?_
      refine sq_r (ry_strhi (min s.length 200) Tryd.underlying9 rfl rfl (by omega) (by omega)) ?_
      refine sq_r (ry_assign rfl) ?_
      refine sq_nil ?_
      refine ex_then ?_
      refine cw_seq ?_
      refine cw_region ?_
      refine sq_r (ry_move rfl) ?_
      refine sq_y (yl_callC rfl (by omega)) ?_
      refine sq_r (ry_move rfl) ?_
      refine sq_r (ry_extract (v := .agg (rcells (rlR (s.take (min s.length 200))))) rfl rfl) ?_
      refine sq_r (ry_extract (v := .int .i64 (rlE (s.take (min s.length 200)))) rfl rfl) ?_
      refine sq_allocA fun b13 => ?_
      refine sq_storeW rfl rfl ?_
      refine sq_r (ry_assign rfl) ?_
      refine sq_nil ?_
      refine ex_then ?_
      refine cw_seq ?_
      refine cw_seq ?_
      refine cw_region ?_
      refine sq_r (ry_whole rfl) ?_
      refine sq_y (yl_callC rfl trivial) ?_
      refine sq_r (ry_move rfl) ?_
      refine sq_r (ry_extract (v := .string ⟨(lineS (rlR (s.take (min s.length 200)))).toArray⟩) rfl rfl) ?_
      refine sq_r (ry_extract (v := .int .i64 (errB (pmay (rlR (s.take (min s.length 200))).p))) rfl rfl) ?_
      refine sq_r (ry_assign rfl) ?_
      refine sq_r (ry_assign rfl) ?_
      refine sq_nil ?_
      refine ex_then ?_
      refine cw_seq ?_
      refine cw_region ?_
      refine sq_r (ry_move rfl) ?_
      refine sq_r (ry_int rfl rfl rfl) ?_
      refine sq_r (ry_move rfl) ?_
      refine sq_gt rfl rfl rfl (fun hg => (Ry.yl (ry_move rfl))) ?_
      refine sq_gt rfl rfl rfl (fun hg => (Ry.yl (ry_int (ev_c hg rfl) rfl rfl))) ?_
      refine sq_gt rfl rfl rfl (fun hg => (Ry.yl (ry_move (ev_c hg rfl)))) ?_
      refine sq_nf rfl rfl rfl (fun hg => (Ry.yl (ry_move rfl))) ?_
      refine sq_nf rfl rfl rfl (fun hg => (Ry.yl (ry_move rfl))) ?_
      refine sq_nf rfl rfl rfl (fun hg => (Ry.yl (ry_strneL (ev_c hg rfl) (ev_c hg rfl)))) ?_
      refine sq_gt rfl rfl rfl (fun hg => (Ry.yl (ry_or (ev_c hg rfl) rfl (ev_cc hg rfl)))) ?_
      refine sq_r (ry_and rfl rfl rfl) ?_
      refine sq_r (ry_move rfl) ?_
      refine sq_gf rfl rfl rfl (fun hg => (Ry.yl (ry_move rfl))) ?_
      refine sq_gf rfl rfl rfl (fun hg => (Ry.yl (ry_int (ev_c hg rfl) rfl rfl))) ?_
      refine sq_gf rfl rfl rfl (fun hg => (Ry.yl (ry_move (ev_c hg rfl)))) ?_
      refine sq_nt rfl rfl rfl (fun hg => (Ry.yl (ry_whole rfl))) ?_
      refine sq_nt rfl rfl rfl (fun hg => (Ry.yl (ry_buildc rfl))) ?_
      refine sq_nt rfl rfl rfl (fun hg => (Ry.yl (ry_ne (ev_c hg rfl) (ev_c hg rfl)))) ?_
      refine sq_gf rfl rfl rfl (fun hg => (Ry.yl (ry_and (ev_c hg rfl) (ev_cc hg rfl) rfl))) ?_
      refine sq_r (ry_or rfl rfl rfl) ?_
      refine sq_nil ?_
      refine ex_then ?_
      refine cw_cond rfl (fun h3 => ?_) (fun h3 => ?_)
      · exfalso
        by_cases hz : rlE (s.take (min s.length 200)) = 0
        · obtain ⟨e1, e2⟩ := rl_yes hz
          rw [e1, e2] at h3
          simp [errB, hz] at h3
        · have e1 := rl_not hz
          simp [hz, e1] at h3
      · try simp only [Bool.and_eq_true, Bool.or_eq_true, Bool.and_eq_false_iff, Bool.or_eq_false_iff, Bool.not_eq_true', Bool.not_eq_false', decide_eq_true_eq, decide_eq_false_iff_not, Bool.not_eq_true, Bool.not_eq_false] at h3
        refine cw_skip ?_
        refine ex_then ?_
        refine cw_seq ?_
        refine cw_region ?_
        refine sq_r (ry_move rfl) ?_
        refine sq_y (yl_callC rfl (by omega)) ?_
        refine sq_r (ry_move rfl) ?_
        refine sq_r (ry_extract (v := .agg (kcells (rkK (s.take (min s.length 200))))) rfl rfl) ?_
        refine sq_r (ry_extract (v := .int .i64 ((rkN (s.take (min s.length 200))) : Nat)) rfl rfl) ?_
        refine sq_r (ry_extract (v := .int .i64 (rkE (s.take (min s.length 200)))) rfl rfl) ?_
        refine sq_allocA fun b17 => ?_
        refine sq_storeW rfl rfl ?_
        refine sq_r (ry_assign rfl) ?_
        refine sq_r (ry_assign rfl) ?_
        refine sq_nil ?_
        refine ex_then ?_
        refine cw_seq ?_
        refine cw_region ?_
        refine sq_r (ry_whole rfl) ?_
        refine sq_r (ry_move rfl) ?_
        refine sq_y (yl_callC rfl trivial) ?_
        refine sq_r (ry_move rfl) ?_
        refine sq_r (ry_extract (v := .string ⟨(keyS (rkK (s.take (min s.length 200))) (((rkN (s.take (min s.length 200))) : Nat) : Int)).toArray⟩) rfl rfl) ?_
        refine sq_r (ry_extract (v := .int .i64 (errB (keyB (rkK (s.take (min s.length 200))) (((rkN (s.take (min s.length 200))) : Nat) : Int)))) rfl rfl) ?_
        refine sq_r (ry_assign rfl) ?_
        refine sq_r (ry_assign rfl) ?_
        refine sq_nil ?_
        refine ex_then ?_
        refine cw_seq ?_
        refine cw_region ?_
        refine sq_r (ry_move rfl) ?_
        refine sq_r (ry_int rfl rfl rfl) ?_
        refine sq_r (ry_move rfl) ?_
        refine sq_gt rfl rfl rfl (fun hg => (Ry.yl (ry_move rfl))) ?_
        refine sq_gt rfl rfl rfl (fun hg => (Ry.yl (ry_int (ev_c hg rfl) rfl rfl))) ?_
        refine sq_r (ry_and rfl rfl rfl) ?_
        refine sq_r (ry_move rfl) ?_
        refine sq_gt rfl rfl rfl (fun hg => (Ry.yl (ry_move rfl))) ?_
        refine sq_gt rfl rfl rfl (fun hg => (Ry.yl (ry_move rfl))) ?_
        refine sq_gt rfl rfl rfl (fun hg => (Ry.yl (ry_streqL (ev_c hg rfl) (ev_c hg rfl)))) ?_
        refine sq_r (ry_and rfl rfl rfl) ?_
        refine sq_r (ry_move rfl) ?_
        refine sq_gf rfl rfl rfl (fun hg => (Ry.yl (ry_move rfl))) ?_
        refine sq_gf rfl rfl rfl (fun hg => (Ry.yl (ry_int (ev_c hg rfl) rfl rfl))) ?_
        refine sq_gf rfl rfl rfl (fun hg => (Ry.yl (ry_move (ev_c hg rfl)))) ?_
        refine sq_nt rfl rfl rfl (fun hg => (Ry.yl (ry_whole rfl))) ?_
        refine sq_nt rfl rfl rfl (fun hg => (Ry.yl (ry_buildc rfl))) ?_
        refine sq_nt rfl rfl rfl (fun hg => (Ry.yl (ry_eq (ev_c hg rfl) (ev_c hg rfl)))) ?_
        refine sq_gf rfl rfl rfl (fun hg => (Ry.yl (ry_and (ev_c hg rfl) (ev_cc hg rfl) rfl))) ?_
        refine sq_gf rfl rfl rfl (fun hg => (Ry.yl (ry_move (ev_c hg rfl)))) ?_
        refine sq_nt rfl rfl rfl (fun hg => (Ry.yl (ry_move rfl))) ?_
        refine sq_nt rfl rfl rfl (fun hg => (Ry.yl (ry_int (ev_c hg rfl) rfl rfl))) ?_
        refine sq_gf rfl rfl rfl (fun hg => (Ry.yl (ry_and (ev_c hg rfl) (ev_cc hg rfl) rfl))) ?_
        refine sq_r (ry_or rfl rfl rfl) ?_
        refine sq_r (ry_assign rfl) ?_
        refine sq_nil ?_
        refine ex_then ?_
        refine cw_ret ?_
        refine ex_ret (.inl rfl) (res_1 rfl (rv_tmp rfl)) (fun w1 hw => ?_)
        exact ⟨congrArg (fun b => Ending.returned (Value.bool b)) ((by
          by_cases hz : rkE (s.take (min s.length 200)) = 0
          · obtain ⟨e1, e2⟩ := rk_yes hz
            rw [e1, e2]
            simp [errB, hz]
          · obtain ⟨e1, e2⟩ := rk_not hz
            simp [hz, e1, e2])), Keep.mem hw⟩

set_option maxRecDepth 20000 in
theorem routeKeys_c (w : World) [tb : Tabs w] (k : Key) (n : Int)  : Calls Tryd.prog 5 #[.agg (kcells k), .int .i64 n] w fun e w' => e = .returned (.bool true) ∧ Mem w [] w' := by
  have hkl := keyS_len k n
  have hpl := pfxS_len ⟨n, n, k⟩
  refine calls_of (args := [_, _]) Tryd.func5 rfl Tryd.ntmps5 rfl ?_
  change Cw _ _ _ _ _ [(0, .agg (kcells k)), (1, .int .i64 n)] []
  refine cw_seq ?_
  refine cw_region ?_
  refine sq_boxA rfl fun b2 => ?_
  refine sq_r (ry_assign rfl) ?_
  refine sq_nil ?_
  refine ex_then ?_
  refine cw_seq ?_
  refine cw_seq ?_
  refine cw_region ?_
  refine sq_y (yl_callC rfl trivial) ?_
  refine sq_r (ry_not rfl) ?_
  refine sq_nil ?_
  refine ex_then ?_
  refine cw_cond rfl (fun h0 => ?_) (fun h0 => ?_)
  · exfalso; simp at h0
  · try simp only [Bool.and_eq_true, Bool.or_eq_true, Bool.and_eq_false_iff, Bool.or_eq_false_iff, Bool.not_eq_true', Bool.not_eq_false', decide_eq_true_eq, decide_eq_false_iff_not, Bool.not_eq_true, Bool.not_eq_false] at h0
    refine cw_skip ?_
    refine ex_then ?_
    refine cw_seq ?_
    refine cw_region ?_
    refine sq_r (ry_whole rfl) ?_
    refine sq_r (ry_move rfl) ?_
    refine sq_y (yl_callC rfl trivial) ?_
    refine sq_r (ry_move rfl) ?_
    refine sq_r (ry_extract (v := .string ⟨(keyS k n).toArray⟩) rfl rfl) ?_
    refine sq_r (ry_extract (v := .int .i64 (errB (keyB k n))) rfl rfl) ?_
    refine sq_r (ry_assign rfl) ?_
    refine sq_r (ry_assign rfl) ?_
    refine sq_nil ?_
    refine ex_then ?_
    refine cw_seq ?_
    refine cw_region ?_
    refine sq_r (ry_move rfl) ?_
    refine sq_r (ry_move rfl) ?_
    refine sq_r (ry_whole rfl) ?_
    refine sq_r (ry_buildc rfl) ?_
    refine sq_allocA fun b7 => ?_
    refine sq_storeW rfl rfl ?_
    refine sq_nil ?_
    refine ex_then ?_
    refine cw_seq ?_
    refine cw_region ?_
    refine sq_r (ry_whole rfl) ?_
    refine sq_y (yl_callC rfl trivial) ?_
    refine sq_r (ry_move rfl) ?_
    refine sq_r (ry_extract (v := .string ⟨(pfxS (⟨n, n, k⟩ : Pfx)).toArray⟩) rfl rfl) ?_
    refine sq_r (ry_extract (v := .int .i64 (errB (pmay (⟨n, n, k⟩ : Pfx)))) rfl rfl) ?_
    refine sq_r (ry_assign rfl) ?_
    refine sq_r (ry_assign rfl) ?_
    refine sq_nil ?_
    refine ex_then ?_
    refine cw_seq ?_
    refine cw_seq ?_
    refine cw_region ?_
    refine sq_r (ry_move rfl) ?_
    refine sq_r (ry_int rfl rfl rfl) ?_
    refine sq_r (ry_move rfl) ?_
    refine sq_gf rfl rfl rfl (fun hg => (Ry.yl (ry_move rfl))) ?_
    refine sq_gf rfl rfl rfl (fun hg => (Ry.yl (ry_int (ev_c hg rfl) rfl rfl))) ?_
    refine sq_r (ry_or rfl rfl rfl) ?_
    refine sq_nil ?_
    refine ex_then ?_
    refine cw_cond rfl (fun h1 => ?_) (fun h1 => ?_)
    · try simp only [Bool.and_eq_true, Bool.or_eq_true, Bool.and_eq_false_iff, Bool.or_eq_false_iff, Bool.not_eq_true', Bool.not_eq_false', decide_eq_true_eq, decide_eq_false_iff_not, Bool.not_eq_true, Bool.not_eq_false] at h1
      refine cw_seq ?_
      refine cw_region ?_
      refine sq_r (ry_move rfl) ?_
      refine sq_r (ry_int rfl rfl rfl) ?_
      refine sq_r (ry_move rfl) ?_
      refine sq_gt rfl rfl rfl (fun hg => (Ry.yl (ry_move rfl))) ?_
      refine sq_gt rfl rfl rfl (fun hg => (Ry.yl (ry_int (ev_c hg rfl) rfl rfl))) ?_
      refine sq_r (ry_and rfl rfl rfl) ?_
      refine sq_r (ry_move rfl) ?_
      refine sq_gt rfl rfl rfl (fun hg => (Ry.yl (ry_move rfl))) ?_
      refine sq_gt rfl rfl rfl (fun hg => (Ry.yl (ry_streqL (ev_c hg rfl) rfl))) ?_
      refine sq_r (ry_and rfl rfl rfl) ?_
      refine sq_r (ry_move rfl) ?_
      refine sq_gt rfl rfl rfl (fun hg => (Ry.yl (ry_move rfl))) ?_
      refine sq_gt rfl rfl rfl (fun hg => (Ry.yl (ry_streqL (ev_c hg rfl) rfl))) ?_
      refine sq_r (ry_and rfl rfl rfl) ?_
      refine sq_r (ry_assign rfl) ?_
      refine sq_nil ?_
      refine ex_then ?_
      refine cw_ret ?_
      refine ex_pass_ret ?_
      refine ex_ret (.inl rfl) (res_1 rfl (rv_tmp rfl)) (fun w1 hw => ?_)
      exact ⟨congrArg (fun b => Ending.returned (Value.bool b)) ((by
        have hk : keyB k n = false := by
          cases e : keyB k n with
          | false => rfl
          | true => rw [show pmay ⟨n, n, k⟩ = keyB k n from rfl, e] at h1; simp [errB] at h1
        rw [show pmay ⟨n, n, k⟩ = keyB k n from rfl, hk, keyS, pfxS, show pmay ⟨n, n, k⟩ = keyB k n from rfl, hk]
        simp [errB])), Keep.mem hw⟩
    · try simp only [Bool.and_eq_true, Bool.or_eq_true, Bool.and_eq_false_iff, Bool.or_eq_false_iff, Bool.not_eq_true', Bool.not_eq_false', decide_eq_true_eq, decide_eq_false_iff_not, Bool.not_eq_true, Bool.not_eq_false] at h1
      have hk : keyB k n = true := by
        cases e : keyB k n with
        | true => rfl
        | false => rw [e] at h1; simp [errB] at h1
      obtain ⟨e1, e2, e3⟩ := key_back hk
      obtain ⟨e4, e5⟩ := pfx_back (p := ⟨n, n, k⟩) hk
      have hl1 := whole_len hk
      have hl2 := whole_take hk
      have hl3 := whole_at hk
      refine cw_skip ?_
      refine ex_then ?_
      refine cw_seq ?_
      refine cw_region ?_
      refine sq_r (ry_move rfl) ?_
      refine sq_y (yl_callC rfl (by omega)) ?_
      refine sq_r (ry_move rfl) ?_
      refine sq_r (ry_extract (v := .agg (kcells (rkK (keyS k n)))) rfl rfl) ?_
      refine sq_r (ry_extract (v := .int .i64 ((rkN (keyS k n)) : Nat)) rfl rfl) ?_
      refine sq_r (ry_extract (v := .int .i64 (rkE (keyS k n))) rfl rfl) ?_
      refine sq_allocA fun b10 => ?_
      refine sq_storeW rfl rfl ?_
      refine sq_r (ry_assign rfl) ?_
      refine sq_r (ry_assign rfl) ?_
      refine sq_nil ?_
      refine ex_then ?_
      refine cw_seq ?_
      refine cw_region ?_
      refine sq_r (ry_move rfl) ?_
      refine sq_y (yl_callC rfl (by omega)) ?_
      refine sq_r (ry_move rfl) ?_
      refine sq_r (ry_extract (v := .agg (pcells (rpP (pfxS (⟨n, n, k⟩ : Pfx))))) rfl rfl) ?_
      refine sq_r (ry_extract (v := .int .i64 (rpE (pfxS (⟨n, n, k⟩ : Pfx)))) rfl rfl) ?_
      refine sq_allocA fun b13 => ?_
      refine sq_storeW rfl rfl ?_
      refine sq_r (ry_assign rfl) ?_
      refine sq_nil ?_
      refine ex_then ?_
      refine cw_seq ?_
      refine cw_region ?_
      refine sq_r (ry_move rfl) ?_
      refine sq_r (ry_int rfl rfl rfl) ?_
      refine sq_r (ry_move rfl) ?_
      refine sq_gt rfl rfl rfl (fun hg => (Ry.yl (ry_whole rfl))) ?_
      refine sq_gt rfl rfl rfl (fun hg => (Ry.yl (ry_whole rfl))) ?_
      refine sq_gt rfl rfl rfl (fun hg => (Ry.yl (ry_eq (ev_c hg rfl) (ev_c hg rfl)))) ?_
      refine sq_r (ry_and rfl rfl rfl) ?_
      refine sq_r (ry_move rfl) ?_
      refine sq_gt rfl rfl rfl (fun hg => (Ry.yl (ry_move rfl))) ?_
      refine sq_gt rfl rfl rfl (fun hg => (Ry.yl (ry_move rfl))) ?_
      refine sq_gt rfl rfl rfl (fun hg => (Ry.yl (ry_int (ev_c hg rfl) (ev_c hg rfl) rfl))) ?_
      refine sq_r (ry_and rfl rfl rfl) ?_
      refine sq_r (ry_move rfl) ?_
      refine sq_gt rfl rfl rfl (fun hg => (Ry.yl (ry_move rfl))) ?_
      refine sq_gt rfl rfl rfl (fun hg => (Ry.yl (ry_int (ev_c hg rfl) rfl rfl))) ?_
      refine sq_r (ry_and rfl rfl rfl) ?_
      refine sq_r (ry_move rfl) ?_
      refine sq_gt rfl rfl rfl (fun hg => (Ry.yl (ry_whole rfl))) ?_
      refine sq_gt rfl rfl rfl (fun hg => (Ry.yl (ry_whole rfl))) ?_
      refine sq_gt rfl rfl rfl (fun hg => (Ry.yl (ry_eq (ev_c hg rfl) (ev_c hg rfl)))) ?_
      refine sq_r (ry_and rfl rfl rfl) ?_
      refine sq_r (ry_move rfl) ?_
      refine sq_gt rfl rfl rfl (fun hg => (Ry.yl (ry_move rfl))) ?_
      refine sq_gt rfl rfl rfl (fun hg => (Ry.yl (ry_lenT (s := (pfxS (⟨n, n, k⟩ : Pfx))) Tryd.underlying9 (ev_c hg rfl)))) ?_
      refine sq_gt rfl rfl rfl (fun hg => (Ry.yl (ry_move rfl))) ?_
      refine sq_gt rfl rfl rfl (fun hg => (Ry.yl (ry_lenT (s := (keyS k n)) Tryd.underlying9 (ev_c hg rfl)))) ?_
      refine sq_gt rfl rfl rfl (fun hg => (Ry.yl (ry_int (ev_c hg rfl) (ev_c hg rfl) rfl))) ?_
      refine sq_r (ry_and rfl rfl rfl) ?_
      refine sq_r (ry_move rfl) ?_
      refine sq_gt rfl rfl rfl (fun hg => (Ry.yl (ry_move rfl))) ?_
      refine sq_gt rfl rfl rfl (fun hg => (Ry.yl (ry_move rfl))) ?_
      refine sq_gt rfl rfl rfl (fun hg => (Ry.yl (ry_lenT (s := (keyS k n)) Tryd.underlying9 (ev_c hg rfl)))) ?_
      refine sq_gt rfl rfl rfl (fun hg => (Ry.yl (ry_strhi ((keyS k n).length) Tryd.underlying9 (ev_c hg rfl) (ev_c hg rfl) rfl (Nat.le_of_lt hl1)))) ?_
      refine sq_gt rfl rfl rfl (fun hg => (Ry.yl (ry_move rfl))) ?_
      refine sq_gt rfl rfl rfl (fun hg => (Ry.yl (ry_streqL (ev_c hg rfl) (ev_c hg rfl)))) ?_
      refine sq_r (ry_and rfl rfl rfl) ?_
      refine sq_r (ry_move rfl) ?_
      refine sq_gt rfl rfl rfl (fun hg => (Ry.yl (ry_move rfl))) ?_
      refine sq_gt rfl rfl rfl (fun hg => (Ry.yl (ry_move rfl))) ?_
      refine sq_gt rfl rfl rfl (fun hg => (Ry.yl (ry_lenT (s := (keyS k n)) Tryd.underlying9 (ev_c hg rfl)))) ?_
      refine sq_gt rfl rfl rfl (fun hg => (Ry.yl (ry_idxT (s := (pfxS (⟨n, n, k⟩ : Pfx))) ((keyS k n).length) Tryd.underlying9 (ev_c hg rfl) (ev_c hg rfl) rfl hl1))) ?_
      refine sq_gt rfl rfl rfl (fun hg => (Ry.yl (ry_int (ev_c hg rfl) rfl rfl))) ?_
      refine sq_r (ry_and rfl rfl rfl) ?_
      refine sq_r (ry_assign rfl) ?_
      refine sq_nil ?_
      refine ex_then ?_
      refine cw_ret ?_
      refine ex_ret (.inl rfl) (res_1 rfl (rv_tmp rfl)) (fun w1 hw => ?_)
      exact ⟨congrArg (fun b => Ending.returned (Value.bool b)) ((by simp only [e1, e2, e3, e4, e5, hl2, hl3]; simp [hl1])), Keep.mem hw⟩

end Go.Proofs.YtldkgicmfbofiaaDoor
