/- The laws of layer 1, walked. -/
import Derived.Test.YtembaconocgmlaaKeyL
namespace Go.Proofs.Ytembaconocgmlaa
open Go.Eng Go.Kb
set_option maxRecDepth 20000 in
theorem awake_c  : PureFn Try.prog 27 [] (.bool true) := ⟨fun w => by
  refine calls_of (args := []) Try.func27 rfl Try.ntmps27 rfl ?_
  change Cw _ _ _ _ _ [] []
  refine cw_seq ?_
  refine cw_region ?_
  refine sq_r (ry_assign rfl) ?_
  refine sq_nil ?_
  refine ex_then ?_
  refine cw_seq ?_
  refine cw_region ?_
  refine sq_r (ry_build (v := (.agg (kcells 0x0a000000000000000000000000000000#128))) rfl (fun w => by kernel_rfl)) ?_
  refine sq_r (ry_buildc rfl) ?_
  refine sq_r (ry_build (v := (.agg (kcells 0x0a010000000000000000000000000000#128))) rfl (fun w => by kernel_rfl)) ?_
  refine sq_r (ry_buildc rfl) ?_
  refine sq_allocA fun b1 => ?_
  refine sq_allocA fun b2 => ?_
  refine sq_storeW rfl rfl ?_
  refine sq_storeW rfl rfl ?_
  refine sq_nil ?_
  refine ex_then ?_
  refine cw_seq ?_
  refine cw_region ?_
  refine sq_r (ry_whole rfl) ?_
  refine sq_y (yl_pure rfl) ?_
  refine sq_r (ry_move rfl) ?_
  refine sq_gt rfl rfl rfl (fun hg => (ry_whole rfl).yl) ?_
  refine sq_gt rfl rfl rfl (fun hg => (ry_whole rfl).yl) ?_
  refine sq_gt rfl rfl rfl (fun hg => yl_pure (evl_cons (ev_c hg rfl) (evl_cons (ev_c hg rfl) evl_nil))) ?_
  refine sq_r (ry_and rfl rfl rfl) ?_
  refine sq_r (ry_move rfl) ?_
  refine sq_gt rfl rfl rfl (fun hg => (ry_whole rfl).yl) ?_
  refine sq_gt rfl rfl rfl (fun hg => (ry_whole rfl).yl) ?_
  refine sq_gt rfl rfl rfl (fun hg => yl_pure (evl_cons (ev_c hg rfl) (evl_cons (ev_c hg rfl) evl_nil))) ?_
  refine sq_gt rfl rfl rfl (fun hg => (ry_not (ev_c hg rfl)).yl) ?_
  refine sq_r (ry_and rfl rfl rfl) ?_
  refine sq_r (ry_move rfl) ?_
  refine sq_gt rfl rfl rfl (fun hg => (ry_whole rfl).yl) ?_
  refine sq_gt rfl rfl rfl (fun hg => (ry_whole rfl).yl) ?_
  refine sq_gt rfl rfl rfl (fun hg => yl_pure (evl_cons (ev_c hg rfl) (evl_cons (ev_c hg rfl) evl_nil))) ?_
  refine sq_r (ry_and rfl rfl rfl) ?_
  refine sq_r (ry_move rfl) ?_
  refine sq_gt rfl rfl rfl (fun hg => (ry_whole rfl).yl) ?_
  refine sq_gt rfl rfl rfl (fun hg => (ry_build (v := (.agg (kcells 0x0a010200000000000000000000000000#128))) rfl (fun w => by kernel_rfl)).yl) ?_
  refine sq_gt rfl rfl rfl (fun hg => yl_pure (evl_cons (ev_c hg rfl) (evl_cons (ev_c hg rfl) evl_nil))) ?_
  refine sq_r (ry_and rfl rfl rfl) ?_
  refine sq_r (ry_move rfl) ?_
  refine sq_gt rfl rfl rfl (fun hg => (ry_field (o' := 2) rfl rfl).yl) ?_
  refine sq_gt rfl rfl rfl (fun hg => (ry_part (ev_c hg rfl)).yl) ?_
  refine sq_gt rfl rfl rfl (fun hg => (ry_field (o' := 2) rfl rfl).yl) ?_
  refine sq_gt rfl rfl rfl (fun hg => (ry_part (ev_c hg rfl)).yl) ?_
  refine sq_gt rfl rfl rfl (fun hg => yl_pure (evl_cons (ev_c hg rfl) (evl_cons (ev_c hg rfl) evl_nil))) ?_
  refine sq_gt rfl rfl rfl (fun hg => (ry_int (ev_c hg rfl) rfl rfl).yl) ?_
  refine sq_r (ry_and rfl rfl rfl) ?_
  refine sq_r (ry_move rfl) ?_
  refine sq_gt rfl rfl rfl (fun hg => (ry_field (o' := 2) rfl rfl).yl) ?_
  refine sq_gt rfl rfl rfl (fun hg => (ry_part (ev_c hg rfl)).yl) ?_
  refine sq_gt rfl rfl rfl (fun hg => yl_pure (evl_cons (ev_c hg rfl) (evl_cons rfl evl_nil))) ?_
  refine sq_gt rfl rfl rfl (fun hg => (ry_int (ev_c hg rfl) rfl rfl).yl) ?_
  refine sq_r (ry_and rfl rfl rfl) ?_
  refine sq_r (ry_move rfl) ?_
  refine sq_gt rfl rfl rfl (fun hg => (ry_field (o' := 2) rfl rfl).yl) ?_
  refine sq_gt rfl rfl rfl (fun hg => (ry_part (ev_c hg rfl)).yl) ?_
  refine sq_gt rfl rfl rfl (fun hg => yl_pure (evl_cons (ev_c hg rfl) (evl_cons rfl evl_nil))) ?_
  refine sq_gt rfl rfl rfl (fun hg => (ry_int (ev_c hg rfl) rfl rfl).yl) ?_
  refine sq_r (ry_and rfl rfl rfl) ?_
  refine sq_r (ry_move rfl) ?_
  refine sq_gt rfl rfl rfl (fun hg => (ry_build (v := (.agg (kcells 0xffff0000000000000000000000000000#128))) rfl (fun w => by kernel_rfl)).yl) ?_
  refine sq_gt rfl rfl rfl (fun hg => yl_pure (evl_cons (ev_c hg rfl) (evl_cons rfl evl_nil))) ?_
  refine sq_gt rfl rfl rfl (fun hg => (ry_build (v := (.agg (kcells 0xff800000000000000000000000000000#128))) rfl (fun w => by kernel_rfl)).yl) ?_
  refine sq_gt rfl rfl rfl (fun hg => (ry_eq (ev_c hg rfl) (ev_c hg rfl)).yl) ?_
  refine sq_r (ry_and rfl rfl rfl) ?_
  refine sq_r (ry_assign rfl) ?_
  refine sq_nil ?_
  refine ex_then ?_
  refine cw_ret ?_
  refine ex_ret (.inl rfl) (res_tmp rfl rfl) (fun w hw => ?_)
  exact ⟨congrArg (fun b => Ending.returned (Value.bool b)) (by decide +kernel), hw.sub (List.nil_sublist _)⟩⟩
instance awake_i  : PureFn Try.prog 27 [] (.bool true) := awake_c 

set_option maxRecDepth 20000 in
theorem keyRight_c (a b : Key) (p q : Pfx) (n : Int) : PureFn Try.prog 5 [.agg (kcells a), .agg (kcells b), .agg (pcells p), .agg (pcells q), .int .i64 n] (.bool true) := ⟨fun w => by
  refine calls_of (args := [_, _, _, _, _]) Try.func5 rfl Try.ntmps5 rfl ?_
  change Cw _ _ _ _ _ [(0, .agg (kcells a)), (1, .agg (kcells b)), (2, .agg (pcells p)), (3, .agg (pcells q)), (4, .int .i64 n)] []
  refine cw_seq ?_
  refine cw_region ?_
  refine sq_boxA rfl fun b5 => ?_
  refine sq_boxA rfl fun b6 => ?_
  refine sq_boxA rfl fun b7 => ?_
  refine sq_boxA rfl fun b8 => ?_
  refine sq_r (ry_assign rfl) ?_
  refine sq_nil ?_
  refine ex_then ?_
  refine cw_seq ?_
  refine cw_seq ?_
  refine cw_region ?_
  refine sq_y (yl_pure rfl) ?_
  refine sq_r (ry_not rfl) ?_
  refine sq_nil ?_
  refine ex_then ?_
  refine cw_cond rfl (fun h0 => ?_) (fun h0 => ?_)
  · exfalso; exact absurd h0 (by decide)
  · refine cw_skip ?_
    refine ex_then ?_
    refine cw_seq ?_
    refine cw_quiet (by kernel_rfl) (by kernel_rfl) ?_
    refine qt_r (ry_whole rfl) ?_
    refine qt_r (ry_move rfl) ?_
    refine qt_y (yl_pure rfl) ?_
    refine qt_r (ry_whole rfl) ?_
    refine qt_r (ry_move rfl) ?_
    refine qt_y (yl_pure rfl) ?_
    refine qt_r (ry_int rfl rfl rfl) ?_
    refine qt_r (ry_move rfl) ?_
    refine qt_gt rfl rfl rfl (fun hg => (ry_whole rfl).yl) ?_
    refine qt_gt rfl rfl rfl (fun hg => (ry_move rfl).yl) ?_
    refine qt_gt rfl rfl rfl (fun hg => yl_pure (evl_cons (ev_c hg rfl) (evl_cons (ev_c hg rfl) evl_nil))) ?_
    refine qt_gt rfl rfl rfl (fun hg => (ry_whole rfl).yl) ?_
    refine qt_gt rfl rfl rfl (fun hg => (ry_move rfl).yl) ?_
    refine qt_gt rfl rfl rfl (fun hg => yl_pure (evl_cons (ev_c hg rfl) (evl_cons (ev_c hg rfl) evl_nil))) ?_
    refine qt_gt rfl rfl rfl (fun hg => (ry_eq (ev_c hg rfl) (ev_c hg rfl)).yl) ?_
    refine qt_r (ry_and rfl rfl rfl) ?_
    refine qt_r (ry_move rfl) ?_
    refine qt_gt rfl rfl rfl (fun hg => (ry_whole rfl).yl) ?_
    refine qt_gt rfl rfl rfl (fun hg => (ry_whole rfl).yl) ?_
    refine qt_gt rfl rfl rfl (fun hg => yl_pure (evl_cons (ev_c hg rfl) (evl_cons (ev_c hg rfl) evl_nil))) ?_
    refine qt_gt rfl rfl rfl (fun hg => (ry_whole rfl).yl) ?_
    refine qt_gt rfl rfl rfl (fun hg => (ry_whole rfl).yl) ?_
    refine qt_gt rfl rfl rfl (fun hg => yl_pure (evl_cons (ev_c hg rfl) (evl_cons (ev_c hg rfl) evl_nil))) ?_
    refine qt_gt rfl rfl rfl (fun hg => (ry_int (ev_c hg rfl) (ev_c hg rfl) rfl).yl) ?_
    refine qt_r (ry_and rfl rfl rfl) ?_
    refine qt_r (ry_move rfl) ?_
    refine qt_gt rfl rfl rfl (fun hg => (ry_whole rfl).yl) ?_
    refine qt_gt rfl rfl rfl (fun hg => (ry_move rfl).yl) ?_
    refine qt_gt rfl rfl rfl (fun hg => yl_pure (evl_cons (ev_c hg rfl) (evl_cons (ev_c hg rfl) evl_nil))) ?_
    refine qt_gt rfl rfl rfl (fun hg => (ry_whole rfl).yl) ?_
    refine qt_gt rfl rfl rfl (fun hg => (ry_move rfl).yl) ?_
    refine qt_gt rfl rfl rfl (fun hg => yl_pure (evl_cons (ev_c hg rfl) (evl_cons (ev_c hg rfl) evl_nil))) ?_
    refine qt_gt rfl rfl rfl (fun hg => (ry_int (ev_c hg rfl) (ev_c hg rfl) rfl).yl) ?_
    refine qt_r (ry_and rfl rfl rfl) ?_
    refine qt_r (ry_move rfl) ?_
    refine qt_gt rfl rfl rfl (fun hg => (ry_whole rfl).yl) ?_
    refine qt_gt rfl rfl rfl (fun hg => yl_pure (evl_cons (ev_c hg rfl) evl_nil)) ?_
    refine qt_gt rfl rfl rfl (fun hg => (ry_whole rfl).yl) ?_
    refine qt_gt rfl rfl rfl (fun hg => yl_pure (evl_cons (ev_c hg rfl) evl_nil)) ?_
    refine qt_gt rfl rfl rfl (fun hg => (ry_eqb (ev_c hg rfl) (ev_c hg rfl) Try.underlying4).yl) ?_
    refine qt_r (ry_and rfl rfl rfl) ?_
    refine qt_r (ry_move rfl) ?_
    refine qt_gt rfl rfl rfl (fun hg => (ry_whole rfl).yl) ?_
    refine qt_gt rfl rfl rfl (fun hg => (ry_whole rfl).yl) ?_
    refine qt_gt rfl rfl rfl (fun hg => yl_pure (evl_cons (ev_c hg rfl) (evl_cons (ev_c hg rfl) evl_nil))) ?_
    refine qt_gt rfl rfl rfl (fun hg => (ry_whole rfl).yl) ?_
    refine qt_gt rfl rfl rfl (fun hg => (ry_whole rfl).yl) ?_
    refine qt_gt rfl rfl rfl (fun hg => yl_pure (evl_cons (ev_c hg rfl) (evl_cons (ev_c hg rfl) evl_nil))) ?_
    refine qt_gt rfl rfl rfl (fun hg => (ry_eqb (ev_c hg rfl) (ev_c hg rfl) Try.underlying4).yl) ?_
    refine qt_r (ry_and rfl rfl rfl) ?_
    refine qt_r (ry_move rfl) ?_
    refine qt_gt rfl rfl rfl (fun hg => (ry_whole rfl).yl) ?_
    refine qt_gt rfl rfl rfl (fun hg => (ry_whole rfl).yl) ?_
    refine qt_gt rfl rfl rfl (fun hg => yl_pure (evl_cons (ev_c hg rfl) (evl_cons (ev_c hg rfl) evl_nil))) ?_
    refine qt_gt rfl rfl rfl (fun hg => (ry_whole rfl).yl) ?_
    refine qt_gt rfl rfl rfl (fun hg => (ry_whole rfl).yl) ?_
    refine qt_gt rfl rfl rfl (fun hg => yl_pure (evl_cons (ev_c hg rfl) (evl_cons (ev_c hg rfl) evl_nil))) ?_
    refine qt_gt rfl rfl rfl (fun hg => (ry_eqb (ev_c hg rfl) (ev_c hg rfl) Try.underlying4).yl) ?_
    refine qt_r (ry_and rfl rfl rfl) ?_
    refine qt_r (ry_move rfl) ?_
    refine qt_gt rfl rfl rfl (fun hg => (ry_whole rfl).yl) ?_
    refine qt_gt rfl rfl rfl (fun hg => (ry_whole rfl).yl) ?_
    refine qt_gt rfl rfl rfl (fun hg => yl_pure (evl_cons (ev_c hg rfl) (evl_cons (ev_c hg rfl) evl_nil))) ?_
    refine qt_gt rfl rfl rfl (fun hg => (ry_whole rfl).yl) ?_
    refine qt_gt rfl rfl rfl (fun hg => (ry_whole rfl).yl) ?_
    refine qt_gt rfl rfl rfl (fun hg => yl_pure (evl_cons (ev_c hg rfl) (evl_cons (ev_c hg rfl) evl_nil))) ?_
    refine qt_gt rfl rfl rfl (fun hg => (ry_eqb (ev_c hg rfl) (ev_c hg rfl) Try.underlying4).yl) ?_
    refine qt_r (ry_and rfl rfl rfl) ?_
    refine qt_r (ry_assign rfl) ?_
    refine qt_nil ?_
    refine ex_then ?_
    refine cw_ret ?_
    refine ex_ret (.inl rfl) (res_tmp rfl rfl) (fun w hw => ?_)
    exact ⟨congrArg (fun b => Ending.returned (Value.bool b)) (by simp), hw.sub (List.nil_sublist _)⟩⟩

set_option maxRecDepth 20000 in
theorem keyCovers_c (p q : Pfx) (k : Key) : PureFn Try.prog 6 [.agg (pcells p), .agg (pcells q), .agg (kcells k)] (.bool true) := ⟨fun w => by
  refine calls_of (args := [_, _, _]) Try.func6 rfl Try.ntmps6 rfl ?_
  change Cw _ _ _ _ _ [(0, .agg (pcells p)), (1, .agg (pcells q)), (2, .agg (kcells k))] []
  refine cw_seq ?_
  refine cw_region ?_
  refine sq_boxA rfl fun b3 => ?_
  refine sq_boxA rfl fun b4 => ?_
  refine sq_boxA rfl fun b5 => ?_
  refine sq_r (ry_assign rfl) ?_
  refine sq_nil ?_
  refine ex_then ?_
  refine cw_seq ?_
  refine cw_seq ?_
  refine cw_region ?_
  refine sq_y (yl_pure rfl) ?_
  refine sq_r (ry_not rfl) ?_
  refine sq_nil ?_
  refine ex_then ?_
  refine cw_cond rfl (fun h0 => ?_) (fun h0 => ?_)
  · exfalso; exact absurd h0 (by decide)
  · refine cw_skip ?_
    refine ex_then ?_
    refine cw_seq ?_
    refine cw_seq ?_
    refine cw_region ?_
    refine sq_r (ry_whole rfl) ?_
    refine sq_y (yl_pure rfl) ?_
    refine sq_r (ry_not rfl) ?_
    refine sq_r (ry_move rfl) ?_
    refine sq_gf rfl rfl rfl (fun hg => (ry_whole rfl).yl) ?_
    refine sq_gf rfl rfl rfl (fun hg => yl_pure (evl_cons (ev_c hg rfl) evl_nil)) ?_
    refine sq_gf rfl rfl rfl (fun hg => (ry_not (ev_c hg rfl)).yl) ?_
    refine sq_r (ry_or rfl rfl rfl) ?_
    refine sq_nil ?_
    refine ex_then ?_
    refine cw_cond rfl (fun h1 => ?_) (fun h1 => ?_)
    · refine cw_seq ?_
      refine cw_region ?_
      refine sq_r (ry_whole rfl) ?_
      refine sq_r (ry_whole rfl) ?_
      refine sq_y (yl_pure rfl) ?_
      refine sq_r (ry_not rfl) ?_
      refine sq_r (ry_move rfl) ?_
      refine sq_gt rfl rfl rfl (fun hg => (ry_whole rfl).yl) ?_
      refine sq_gt rfl rfl rfl (fun hg => (ry_whole rfl).yl) ?_
      refine sq_gt rfl rfl rfl (fun hg => yl_pure (evl_cons (ev_c hg rfl) (evl_cons (ev_c hg rfl) evl_nil))) ?_
      refine sq_gt rfl rfl rfl (fun hg => (ry_not (ev_c hg rfl)).yl) ?_
      refine sq_r (ry_and rfl rfl rfl) ?_
      refine sq_r (ry_move rfl) ?_
      refine sq_gt rfl rfl rfl (fun hg => (ry_whole rfl).yl) ?_
      refine sq_gt rfl rfl rfl (fun hg => (ry_whole rfl).yl) ?_
      refine sq_gt rfl rfl rfl (fun hg => yl_pure (evl_cons (ev_c hg rfl) (evl_cons (ev_c hg rfl) evl_nil))) ?_
      refine sq_gt rfl rfl rfl (fun hg => (ry_move (ev_c hg rfl)).yl) ?_
      refine sq_nt rfl rfl rfl (fun hg => (ry_whole rfl).yl) ?_
      refine sq_nt rfl rfl rfl (fun hg => yl_pure (evl_cons (ev_c hg rfl) evl_nil)) ?_
      refine sq_nt rfl rfl rfl (fun hg => (ry_not (ev_c hg rfl)).yl) ?_
      refine sq_gt rfl rfl rfl (fun hg => (ry_and (ev_c hg rfl) (ev_cc hg rfl) rfl).yl) ?_
      refine sq_gt rfl rfl rfl (fun hg => (ry_not (ev_c hg rfl)).yl) ?_
      refine sq_r (ry_and rfl rfl rfl) ?_
      refine sq_r (ry_assign rfl) ?_
      refine sq_nil ?_
      refine ex_then ?_
      refine cw_ret ?_
      refine ex_pass_ret ?_
      refine ex_ret (.inl rfl) (res_tmp rfl rfl) (fun w hw => ?_)
      exact ⟨congrArg (fun b => Ending.returned (Value.bool b)) (law_covers1 h1), hw.sub (List.nil_sublist _)⟩
    · refine cw_skip ?_
      refine ex_then ?_
      refine cw_seq ?_
      refine cw_seq ?_
      refine cw_region ?_
      refine sq_r (ry_whole rfl) ?_
      refine sq_r (ry_whole rfl) ?_
      refine sq_y (yl_pure rfl) ?_
      refine sq_r (ry_move rfl) ?_
      refine sq_gt rfl rfl rfl (fun hg => (ry_whole rfl).yl) ?_
      refine sq_gt rfl rfl rfl (fun hg => (ry_whole rfl).yl) ?_
      refine sq_gt rfl rfl rfl (fun hg => yl_pure (evl_cons (ev_c hg rfl) (evl_cons (ev_c hg rfl) evl_nil))) ?_
      refine sq_r (ry_and rfl rfl rfl) ?_
      refine sq_r (ry_move rfl) ?_
      refine sq_gt rfl rfl rfl (fun hg => (ry_field (o' := 0) rfl rfl).yl) ?_
      refine sq_gt rfl rfl rfl (fun hg => (ry_cellc (ev_c hg rfl)).yl) ?_
      refine sq_gt rfl rfl rfl (fun hg => (ry_field (o' := 0) rfl rfl).yl) ?_
      refine sq_gt rfl rfl rfl (fun hg => (ry_cellc (ev_c hg rfl)).yl) ?_
      refine sq_gt rfl rfl rfl (fun hg => (ry_int (ev_c hg rfl) (ev_c hg rfl) rfl).yl) ?_
      refine sq_r (ry_and rfl rfl rfl) ?_
      refine sq_r (ry_move rfl) ?_
      refine sq_gt rfl rfl rfl (fun hg => (ry_whole rfl).yl) ?_
      refine sq_gt rfl rfl rfl (fun hg => (ry_whole rfl).yl) ?_
      refine sq_gt rfl rfl rfl (fun hg => yl_pure (evl_cons (ev_c hg rfl) (evl_cons (ev_c hg rfl) evl_nil))) ?_
      refine sq_gt rfl rfl rfl (fun hg => (ry_not (ev_c hg rfl)).yl) ?_
      refine sq_r (ry_and rfl rfl rfl) ?_
      refine sq_r (ry_move rfl) ?_
      refine sq_gt rfl rfl rfl (fun hg => (ry_whole rfl).yl) ?_
      refine sq_gt rfl rfl rfl (fun hg => (ry_whole rfl).yl) ?_
      refine sq_gt rfl rfl rfl (fun hg => yl_pure (evl_cons (ev_c hg rfl) (evl_cons (ev_c hg rfl) evl_nil))) ?_
      refine sq_gt rfl rfl rfl (fun hg => (ry_not (ev_c hg rfl)).yl) ?_
      refine sq_r (ry_and rfl rfl rfl) ?_
      refine sq_nil ?_
      refine ex_then ?_
      refine cw_cond rfl (fun h2 => ?_) (fun h2 => ?_)
      · exfalso; rw [law_covers2] at h2; cases h2
      · refine cw_skip ?_
        refine ex_then ?_
        refine cw_seq ?_
        refine cw_seq ?_
        refine cw_region ?_
        refine sq_r (ry_whole rfl) ?_
        refine sq_r (ry_whole rfl) ?_
        refine sq_y (yl_pure rfl) ?_
        refine sq_r (ry_not rfl) ?_
        refine sq_nil ?_
        refine ex_then ?_
        refine cw_cond rfl (fun h3 => ?_) (fun h3 => ?_)
        · refine cw_seq ?_
          refine cw_region ?_
          refine sq_r (ry_assign rfl) ?_
          refine sq_nil ?_
          refine ex_then ?_
          refine cw_ret ?_
          refine ex_pass_ret ?_
          refine ex_ret (.inl rfl) (res_tmp rfl rfl) (fun w hw => ?_)
          exact ⟨rfl, hw.sub (List.nil_sublist _)⟩
        · refine cw_skip ?_
          refine ex_then ?_
          refine cw_seq ?_
          refine cw_region ?_
          refine sq_r (ry_whole rfl) ?_
          refine sq_r (ry_whole rfl) ?_
          refine sq_y (yl_pure rfl) ?_
          refine sq_r (ry_not rfl) ?_
          refine sq_r (ry_move rfl) ?_
          refine sq_gt rfl rfl rfl (fun hg => (ry_whole rfl).yl) ?_
          refine sq_gt rfl rfl rfl (fun hg => (ry_whole rfl).yl) ?_
          refine sq_gt rfl rfl rfl (fun hg => yl_pure (evl_cons (ev_c hg rfl) (evl_cons (ev_c hg rfl) evl_nil))) ?_
          refine sq_gt rfl rfl rfl (fun hg => (ry_not (ev_c hg rfl)).yl) ?_
          refine sq_gt rfl rfl rfl (fun hg => (ry_move (ev_c hg rfl)).yl) ?_
          refine sq_nf rfl rfl rfl (fun hg => (ry_whole rfl).yl) ?_
          refine sq_nf rfl rfl rfl (fun hg => (ry_whole rfl).yl) ?_
          refine sq_nf rfl rfl rfl (fun hg => yl_pure (evl_cons (ev_c hg rfl) (evl_cons (ev_c hg rfl) evl_nil))) ?_
          refine sq_gt rfl rfl rfl (fun hg => (ry_or (ev_c hg rfl) rfl (ev_cc hg rfl)).yl) ?_
          refine sq_r (ry_and rfl rfl rfl) ?_
          refine sq_r (ry_move rfl) ?_
          refine sq_gt rfl rfl rfl (fun hg => (ry_whole rfl).yl) ?_
          refine sq_gt rfl rfl rfl (fun hg => (ry_whole rfl).yl) ?_
          refine sq_gt rfl rfl rfl (fun hg => (ry_eq (ev_c hg rfl) (ev_c hg rfl)).yl) ?_
          refine sq_gt rfl rfl rfl (fun hg => (ry_move (ev_c hg rfl)).yl) ?_
          refine sq_nf rfl rfl rfl (fun hg => (ry_whole rfl).yl) ?_
          refine sq_nf rfl rfl rfl (fun hg => (ry_whole rfl).yl) ?_
          refine sq_nf rfl rfl rfl (fun hg => yl_pure (evl_cons (ev_c hg rfl) (evl_cons (ev_c hg rfl) evl_nil))) ?_
          refine sq_nf rfl rfl rfl (fun hg => (ry_not (ev_c hg rfl)).yl) ?_
          refine sq_gt rfl rfl rfl (fun hg => (ry_or (ev_c hg rfl) rfl (ev_cc hg rfl)).yl) ?_
          refine sq_r (ry_and rfl rfl rfl) ?_
          refine sq_r (ry_assign rfl) ?_
          refine sq_nil ?_
          refine ex_then ?_
          refine cw_ret ?_
          refine ex_ret (.inl rfl) (res_tmp rfl rfl) (fun w hw => ?_)
          exact ⟨congrArg (fun b => Ending.returned (Value.bool b)) (law_covers4 h3), hw.sub (List.nil_sublist _)⟩⟩

set_option maxRecDepth 20000 in
theorem keyOrder_c (p q r : Pfx) : PureFn Try.prog 7 [.agg (pcells p), .agg (pcells q), .agg (pcells r)] (.bool true) := ⟨fun w => by
  refine calls_of (args := [_, _, _]) Try.func7 rfl Try.ntmps7 rfl ?_
  change Cw _ _ _ _ _ [(0, .agg (pcells p)), (1, .agg (pcells q)), (2, .agg (pcells r))] []
  refine cw_seq ?_
  refine cw_region ?_
  refine sq_boxA rfl fun b3 => ?_
  refine sq_boxA rfl fun b4 => ?_
  refine sq_boxA rfl fun b5 => ?_
  refine sq_r (ry_assign rfl) ?_
  refine sq_nil ?_
  refine ex_then ?_
  refine cw_seq ?_
  refine cw_seq ?_
  refine cw_region ?_
  refine sq_y (yl_pure rfl) ?_
  refine sq_r (ry_not rfl) ?_
  refine sq_nil ?_
  refine ex_then ?_
  refine cw_cond rfl (fun h0 => ?_) (fun h0 => ?_)
  · exfalso; exact absurd h0 (by decide)
  · refine cw_skip ?_
    refine ex_then ?_
    refine cw_seq ?_
    refine cw_seq ?_
    refine cw_region ?_
    refine sq_r (ry_whole rfl) ?_
    refine sq_y (yl_pure rfl) ?_
    refine sq_r (ry_not rfl) ?_
    refine sq_r (ry_move rfl) ?_
    refine sq_gf rfl rfl rfl (fun hg => (ry_whole rfl).yl) ?_
    refine sq_gf rfl rfl rfl (fun hg => yl_pure (evl_cons (ev_c hg rfl) evl_nil)) ?_
    refine sq_gf rfl rfl rfl (fun hg => (ry_not (ev_c hg rfl)).yl) ?_
    refine sq_r (ry_or rfl rfl rfl) ?_
    refine sq_r (ry_move rfl) ?_
    refine sq_gf rfl rfl rfl (fun hg => (ry_whole rfl).yl) ?_
    refine sq_gf rfl rfl rfl (fun hg => yl_pure (evl_cons (ev_c hg rfl) evl_nil)) ?_
    refine sq_gf rfl rfl rfl (fun hg => (ry_not (ev_c hg rfl)).yl) ?_
    refine sq_r (ry_or rfl rfl rfl) ?_
    refine sq_nil ?_
    refine ex_then ?_
    refine cw_cond rfl (fun h1 => ?_) (fun h1 => ?_)
    · refine cw_seq ?_
      refine cw_region ?_
      refine sq_r (ry_assign rfl) ?_
      refine sq_nil ?_
      refine ex_then ?_
      refine cw_ret ?_
      refine ex_pass_ret ?_
      refine ex_ret (.inl rfl) (res_tmp rfl rfl) (fun w hw => ?_)
      exact ⟨rfl, hw.sub (List.nil_sublist _)⟩
    · refine cw_skip ?_
      refine ex_then ?_
      refine cw_seq ?_
      refine cw_quiet (by kernel_rfl) (by kernel_rfl) ?_
      refine qt_r (ry_whole rfl) ?_
      refine qt_r (ry_whole rfl) ?_
      refine qt_r (ry_eq rfl rfl) ?_
      refine qt_r (ry_whole rfl) ?_
      refine qt_r (ry_whole rfl) ?_
      refine qt_y (yl_pure rfl) ?_
      refine qt_r (ry_not rfl) ?_
      refine qt_r (ry_move rfl) ?_
      refine qt_gt rfl rfl rfl (fun hg => (ry_whole rfl).yl) ?_
      refine qt_gt rfl rfl rfl (fun hg => (ry_whole rfl).yl) ?_
      refine qt_gt rfl rfl rfl (fun hg => yl_pure (evl_cons (ev_c hg rfl) (evl_cons (ev_c hg rfl) evl_nil))) ?_
      refine qt_gt rfl rfl rfl (fun hg => (ry_not (ev_c hg rfl)).yl) ?_
      refine qt_r (ry_and rfl rfl rfl) ?_
      refine qt_r (ry_eqb rfl rfl Try.underlying4) ?_
      refine qt_r (ry_move rfl) ?_
      refine qt_gt rfl rfl rfl (fun hg => (ry_whole rfl).yl) ?_
      refine qt_gt rfl rfl rfl (fun hg => (ry_whole rfl).yl) ?_
      refine qt_gt rfl rfl rfl (fun hg => yl_pure (evl_cons (ev_c hg rfl) (evl_cons (ev_c hg rfl) evl_nil))) ?_
      refine qt_gt rfl rfl rfl (fun hg => (ry_move (ev_c hg rfl)).yl) ?_
      refine qt_nt rfl rfl rfl (fun hg => (ry_whole rfl).yl) ?_
      refine qt_nt rfl rfl rfl (fun hg => (ry_whole rfl).yl) ?_
      refine qt_nt rfl rfl rfl (fun hg => yl_pure (evl_cons (ev_c hg rfl) (evl_cons (ev_c hg rfl) evl_nil))) ?_
      refine qt_gt rfl rfl rfl (fun hg => (ry_and (ev_c hg rfl) (ev_cc hg rfl) rfl).yl) ?_
      refine qt_gt rfl rfl rfl (fun hg => (ry_not (ev_c hg rfl)).yl) ?_
      refine qt_r (ry_and rfl rfl rfl) ?_
      refine qt_r (ry_move rfl) ?_
      refine qt_gt rfl rfl rfl (fun hg => (ry_whole rfl).yl) ?_
      refine qt_gt rfl rfl rfl (fun hg => (ry_whole rfl).yl) ?_
      refine qt_gt rfl rfl rfl (fun hg => yl_pure (evl_cons (ev_c hg rfl) (evl_cons (ev_c hg rfl) evl_nil))) ?_
      refine qt_gt rfl rfl rfl (fun hg => (ry_not (ev_c hg rfl)).yl) ?_
      refine qt_gt rfl rfl rfl (fun hg => (ry_move (ev_c hg rfl)).yl) ?_
      refine qt_nf rfl rfl rfl (fun hg => (ry_whole rfl).yl) ?_
      refine qt_nf rfl rfl rfl (fun hg => (ry_whole rfl).yl) ?_
      refine qt_nf rfl rfl rfl (fun hg => yl_pure (evl_cons (ev_c hg rfl) (evl_cons (ev_c hg rfl) evl_nil))) ?_
      refine qt_nf rfl rfl rfl (fun hg => (ry_not (ev_c hg rfl)).yl) ?_
      refine qt_gt rfl rfl rfl (fun hg => (ry_or (ev_c hg rfl) rfl (ev_cc hg rfl)).yl) ?_
      refine qt_gt rfl rfl rfl (fun hg => (ry_move (ev_c hg rfl)).yl) ?_
      refine qt_nf rfl rfl rfl (fun hg => (ry_whole rfl).yl) ?_
      refine qt_nf rfl rfl rfl (fun hg => (ry_whole rfl).yl) ?_
      refine qt_nf rfl rfl rfl (fun hg => yl_pure (evl_cons (ev_c hg rfl) (evl_cons (ev_c hg rfl) evl_nil))) ?_
      refine qt_gt rfl rfl rfl (fun hg => (ry_or (ev_c hg rfl) rfl (ev_cc hg rfl)).yl) ?_
      refine qt_r (ry_and rfl rfl rfl) ?_
      refine qt_r (ry_assign rfl) ?_
      refine qt_nil ?_
      refine ex_then ?_
      refine cw_ret ?_
      refine ex_ret (.inl rfl) (res_tmp rfl rfl) (fun w hw => ?_)
      exact ⟨congrArg (fun b => Ending.returned (Value.bool b)) (law_order h1), hw.sub (List.nil_sublist _)⟩⟩

set_option maxRecDepth 20000 in
theorem keyCuts_c (k : Key) (a b : Int) (ha : 0 ≤ a ∧ a ≤ 255) (hb : 0 ≤ b ∧ b ≤ 255) : PureFn Try.prog 8 [.agg (kcells k), .int .u8 a, .int .u8 b] (.bool true) := ⟨fun w => by
  refine calls_of (args := [_, _, _]) Try.func8 rfl Try.ntmps8 rfl ?_
  change Cw _ _ _ _ _ [(0, .agg (kcells k)), (1, .int .u8 a), (2, .int .u8 b)] []
  refine cw_seq ?_
  refine cw_region ?_
  refine sq_boxA rfl fun b3 => ?_
  refine sq_r (ry_assign rfl) ?_
  refine sq_nil ?_
  refine ex_then ?_
  refine cw_seq ?_
  refine cw_seq ?_
  refine cw_region ?_
  refine sq_y (yl_pure rfl) ?_
  refine sq_r (ry_not rfl) ?_
  refine sq_nil ?_
  refine ex_then ?_
  refine cw_cond rfl (fun h0 => ?_) (fun h0 => ?_)
  · exfalso; exact absurd h0 (by decide)
  · refine cw_skip ?_
    refine ex_then ?_
    refine cw_seq ?_
    refine cw_region ?_
    refine sq_r (ry_move rfl) ?_
    refine sq_r (ry_conv rfl (wrap64_in (by omega))) ?_
    refine sq_r (ry_rem rfl rfl (by omega) (by omega)) ?_
    refine sq_r (ry_move rfl) ?_
    refine sq_r (ry_conv rfl (wrap64_in (by omega))) ?_
    refine sq_r (ry_rem rfl rfl (by omega) (by omega)) ?_
    refine sq_r (ry_assign rfl) ?_
    refine sq_r (ry_assign rfl) ?_
    refine sq_nil ?_
    refine ex_then ?_
    refine cw_seq ?_
    refine cw_region ?_
    refine sq_r (ry_whole rfl) ?_
    refine sq_r (ry_move rfl) ?_
    refine sq_y (yl_pure rfl) ?_
    refine sq_allocA fun b9 => ?_
    refine sq_storeW rfl rfl ?_
    refine sq_nil ?_
    refine ex_then ?_
    refine cw_seq ?_
    refine cw_seq ?_
    refine cw_quiet (by kernel_rfl) (by kernel_rfl) ?_
    refine qt_r (ry_whole rfl) ?_
    refine qt_r (ry_move rfl) ?_
    refine qt_y (yl_pure rfl) ?_
    refine qt_r (ry_whole rfl) ?_
    refine qt_r (ry_move rfl) ?_
    refine qt_r (ry_move rfl) ?_
    refine qt_r (ry_min rfl rfl) ?_
    refine qt_y (yl_pure rfl) ?_
    refine qt_r (ry_ne rfl rfl) ?_
    refine qt_r (ry_move rfl) ?_
    refine qt_gf rfl rfl rfl (fun hg => (ry_whole rfl).yl) ?_
    refine qt_gf rfl rfl rfl (fun hg => (ry_whole rfl).yl) ?_
    refine qt_gf rfl rfl rfl (fun hg => yl_pure (evl_cons (ev_c hg rfl) (evl_cons (ev_c hg rfl) evl_nil))) ?_
    refine qt_gf rfl rfl rfl (fun hg => (ry_move rfl).yl) ?_
    refine qt_gf rfl rfl rfl (fun hg => (ry_min (ev_c hg rfl) rfl).yl) ?_
    refine qt_gf rfl rfl rfl (fun hg => (ry_int (ev_c hg rfl) (ev_c hg rfl) rfl).yl) ?_
    refine qt_r (ry_or rfl rfl rfl) ?_
    refine qt_nil ?_
    refine ex_then ?_
    refine cw_cond rfl (fun h1 => ?_) (fun h1 => ?_)
    · exfalso; rw [law_cuts1] at h1; cases h1
    · refine cw_skip ?_
      refine ex_then ?_
      refine cw_seq ?_
      refine cw_seq ?_
      refine cw_region ?_
      refine sq_r (ry_assign rfl) ?_
      refine sq_nil ?_
      refine ex_then ?_
      refine cw_block ?_
      refine cw_loop (X := Int) (fun i => [(10, .int .i64 i), (3, .pointer (some ⟨b3, 0, none⟩)), (7, .int .i64 (a % 130)), (9, .pointer (some ⟨b9, 0, none⟩))]) (fun i => [blk b9 (kcells (kcut k (a % 130))) 48, blk b3 (kcells k) 48]) (fun i => 0 ≤ i ∧ i ≤ 128) (fun i => (128 - i).toNat) 0 (by omega) (Sub.cons rfl (Sub.cons rfl (Sub.cons rfl (Sub.cons rfl (Sub.nil _))))) (fun w hw => hw) ?_
      rintro i hI
      refine cw_seq ?_
      refine cw_seq ?_
      refine cw_region ?_
      refine sq_r (ry_move rfl) ?_
      refine sq_r (ry_int rfl rfl rfl) ?_
      refine sq_nil ?_
      refine ex_then ?_
      refine cw_cond rfl (fun h2 => ?_) (fun h2 => ?_)
      · have h2 := of_decide_eq_true h2
        refine cw_skip ?_
        refine ex_then ?_
        refine cw_seq ?_
        refine cw_block ?_
        refine cw_seq ?_
        refine cw_quiet (by kernel_rfl) (by kernel_rfl) ?_
        refine qt_r (ry_move rfl) ?_
        refine qt_r (ry_move rfl) ?_
        refine qt_r (ry_int rfl rfl rfl) ?_
        refine qt_r (ry_move rfl) ?_
        refine qt_gt rfl rfl rfl (fun hg => (ry_whole rfl).yl) ?_
        refine qt_gt rfl rfl rfl (fun hg => (ry_move rfl).yl) ?_
        refine qt_gt rfl rfl rfl (fun hg => yl_pure (evl_cons (ev_c hg rfl) (evl_cons (ev_c hg rfl) evl_nil))) ?_
        refine qt_gt rfl rfl rfl (fun hg => (ry_whole rfl).yl) ?_
        refine qt_gt rfl rfl rfl (fun hg => (ry_move rfl).yl) ?_
        refine qt_gt rfl rfl rfl (fun hg => yl_pure (evl_cons (ev_c hg rfl) (evl_cons (ev_c hg rfl) evl_nil))) ?_
        refine qt_gt rfl rfl rfl (fun hg => (ry_int (ev_c hg rfl) (ev_c hg rfl) rfl).yl) ?_
        refine qt_r (ry_and rfl rfl rfl) ?_
        refine qt_r (ry_move rfl) ?_
        refine qt_gf rfl rfl rfl (fun hg => (ry_move rfl).yl) ?_
        refine qt_gf rfl rfl rfl (fun hg => (ry_move rfl).yl) ?_
        refine qt_gf rfl rfl rfl (fun hg => (ry_int (ev_c hg rfl) (ev_c hg rfl) rfl).yl) ?_
        refine qt_gf rfl rfl rfl (fun hg => (ry_move (ev_c hg rfl)).yl) ?_
        refine qt_nt rfl rfl rfl (fun hg => (ry_whole rfl).yl) ?_
        refine qt_nt rfl rfl rfl (fun hg => (ry_move rfl).yl) ?_
        refine qt_nt rfl rfl rfl (fun hg => yl_pure (evl_cons (ev_c hg rfl) (evl_cons (ev_c hg rfl) evl_nil))) ?_
        refine qt_nt rfl rfl rfl (fun hg => (ry_int (ev_c hg rfl) rfl rfl).yl) ?_
        refine qt_gf rfl rfl rfl (fun hg => (ry_and (ev_c hg rfl) (ev_cc hg rfl) rfl).yl) ?_
        refine qt_r (ry_or rfl rfl rfl) ?_
        refine qt_nil ?_
        refine ex_then ?_
        refine cw_cond rfl (fun h3 => ?_) (fun h3 => ?_)
        · exfalso; rw [law_cuts2] at h3; cases h3
        · refine cw_skip ?_
          refine ex_block ?_
          refine ex_then ?_
          refine cw_region ?_
          refine sq_r (ry_move rfl) ?_
          refine sq_r (ry_add rfl rfl (by omega)) ?_
          refine sq_r (ry_assign rfl) ?_
          refine sq_nil ?_
          exact ex_again (i + 1) (by omega) (by omega) (Sub.cons rfl (Sub.cons rfl (Sub.cons rfl (Sub.cons rfl (Sub.nil _))))) (fun w hw => hw)
      · have h2 := of_decide_eq_false h2
        refine cw_exit ?_
        refine ex_pass_exit ?_
        refine ex_pass_exit ?_
        refine ex_block_hit ?_
        refine ex_then ?_
        refine cw_seq ?_
        refine cw_seq ?_
        refine cw_region ?_
        refine sq_r (ry_assign rfl) ?_
        refine sq_nil ?_
        refine ex_then ?_
        refine cw_block ?_
        refine cw_loop (X := Int) (fun j => [(11, .int .i64 j), (3, .pointer (some ⟨b3, 0, none⟩))]) (fun j => [blk b9 (kcells (kcut k (a % 130))) 48, blk b3 (kcells k) 48]) (fun j => 0 ≤ j ∧ j ≤ 32) (fun j => (32 - j).toNat) 0 (by omega) (Sub.cons rfl (Sub.cons rfl (Sub.nil _))) (fun w hw => hw) ?_
        rintro j hJ
        refine cw_seq ?_
        refine cw_seq ?_
        refine cw_region ?_
        refine sq_r (ry_move rfl) ?_
        refine sq_r (ry_int rfl rfl rfl) ?_
        refine sq_nil ?_
        refine ex_then ?_
        refine cw_cond rfl (fun h4 => ?_) (fun h4 => ?_)
        · have h4 := of_decide_eq_true h4
          have q0 := kbit_01 k (4 * j)
          have q1 := kbit_01 k (4 * j + 1)
          have q2 := kbit_01 k (4 * j + 2)
          have q3 := kbit_01 k (4 * j + 3)
          refine cw_skip ?_
          refine ex_then ?_
          refine cw_seq ?_
          refine cw_block ?_
          refine cw_seq ?_
          refine cw_quiet (by kernel_rfl) (by kernel_rfl) ?_
          refine qt_r (ry_whole rfl) ?_
          refine qt_r (ry_move rfl) ?_
          refine qt_y (yl_pure rfl) ?_
          refine qt_r (ry_whole rfl) ?_
          refine qt_r (ry_move rfl) ?_
          refine qt_r (ry_mul rfl rfl (by omega)) ?_
          refine qt_y (yl_pure rfl) ?_
          refine qt_r (ry_mul rfl rfl (by omega)) ?_
          refine qt_r (ry_whole rfl) ?_
          refine qt_r (ry_move rfl) ?_
          refine qt_r (ry_mul rfl rfl (by omega)) ?_
          refine qt_r (ry_add rfl rfl (by omega)) ?_
          refine qt_y (yl_pure rfl) ?_
          refine qt_r (ry_mul rfl rfl (by omega)) ?_
          refine qt_r (ry_add rfl rfl (by omega)) ?_
          refine qt_r (ry_whole rfl) ?_
          refine qt_r (ry_move rfl) ?_
          refine qt_r (ry_mul rfl rfl (by omega)) ?_
          refine qt_r (ry_add rfl rfl (by omega)) ?_
          refine qt_y (yl_pure rfl) ?_
          refine qt_r (ry_mul rfl rfl (by omega)) ?_
          refine qt_r (ry_add rfl rfl (by omega)) ?_
          refine qt_r (ry_whole rfl) ?_
          refine qt_r (ry_move rfl) ?_
          refine qt_r (ry_mul rfl rfl (by omega)) ?_
          refine qt_r (ry_add rfl rfl (by omega)) ?_
          refine qt_y (yl_pure rfl) ?_
          refine qt_r (ry_add rfl rfl (by omega)) ?_
          refine qt_r (ry_int rfl rfl rfl) ?_
          refine qt_nil ?_
          refine ex_then ?_
          refine cw_cond rfl (fun h5 => ?_) (fun h5 => ?_)
          · exfalso; rw [law_cuts3 k j (by omega) (by omega)] at h5; simp at h5
          · refine cw_skip ?_
            refine ex_block ?_
            refine ex_then ?_
            refine cw_region ?_
            refine sq_r (ry_move rfl) ?_
            refine sq_r (ry_add rfl rfl (by omega)) ?_
            refine sq_r (ry_assign rfl) ?_
            refine sq_nil ?_
            exact ex_again (j + 1) (by omega) (by omega) (Sub.cons rfl (Sub.cons rfl (Sub.nil _))) (fun w hw => hw)
        · have h4 := of_decide_eq_false h4
          refine cw_exit ?_
          refine ex_pass_exit ?_
          refine ex_pass_exit ?_
          refine ex_block_hit ?_
          refine ex_then ?_
          refine cw_seq ?_
          refine cw_region ?_
          refine sq_r (ry_assign rfl) ?_
          refine sq_nil ?_
          refine ex_then ?_
          refine cw_ret ?_
          refine ex_ret (.inl rfl) (res_tmp rfl rfl) (fun w hw => ?_)
          exact ⟨rfl, hw.sub (List.nil_sublist _)⟩⟩

set_option maxRecDepth 20000 in
theorem keySteps_c (p : Pfx) (k : Key) : PureFn Try.prog 9 [.agg (pcells p), .agg (kcells k)] (.bool true) := ⟨fun w => by
  refine calls_of (args := [_, _]) Try.func9 rfl Try.ntmps9 rfl ?_
  change Cw _ _ _ _ _ [(0, .agg (pcells p)), (1, .agg (kcells k))] []
  refine cw_seq ?_
  refine cw_region ?_
  refine sq_boxA rfl fun b2 => ?_
  refine sq_boxA rfl fun b3 => ?_
  refine sq_r (ry_assign rfl) ?_
  refine sq_nil ?_
  refine ex_then ?_
  refine cw_seq ?_
  refine cw_seq ?_
  refine cw_region ?_
  refine sq_y (yl_pure rfl) ?_
  refine sq_r (ry_not rfl) ?_
  refine sq_nil ?_
  refine ex_then ?_
  refine cw_cond rfl (fun h0 => ?_) (fun h0 => ?_)
  · exfalso; exact absurd h0 (by decide)
  · refine cw_skip ?_
    refine ex_then ?_
    refine cw_seq ?_
    refine cw_seq ?_
    refine cw_quiet (by kernel_rfl) (by kernel_rfl) ?_
    refine qt_r (ry_whole rfl) ?_
    refine qt_y (yl_pure rfl) ?_
    refine qt_r (ry_not rfl) ?_
    refine qt_r (ry_move rfl) ?_
    refine qt_gf rfl rfl rfl (fun hg => (ry_whole rfl).yl) ?_
    refine qt_gf rfl rfl rfl (fun hg => (ry_field (o' := 0) rfl rfl).yl) ?_
    refine qt_gf rfl rfl rfl (fun hg => (ry_cellc (ev_c hg rfl)).yl) ?_
    refine qt_gf rfl rfl rfl (fun hg => yl_pure (evl_cons (ev_c hg rfl) (evl_cons (ev_c hg rfl) evl_nil))) ?_
    refine qt_gf rfl rfl rfl (fun hg => (ry_whole rfl).yl) ?_
    refine qt_gf rfl rfl rfl (fun hg => (ry_ne (ev_c hg rfl) (ev_c hg rfl)).yl) ?_
    refine qt_r (ry_or rfl rfl rfl) ?_
    refine qt_nil ?_
    refine ex_then ?_
    refine cw_cond rfl (fun h1 => ?_) (fun h1 => ?_)
    · refine cw_seq ?_
      refine cw_region ?_
      refine sq_r (ry_whole rfl) ?_
      refine sq_r (ry_whole rfl) ?_
      refine sq_y (yl_pure rfl) ?_
      refine sq_r (ry_not rfl) ?_
      refine sq_r (ry_assign rfl) ?_
      refine sq_nil ?_
      refine ex_then ?_
      refine cw_ret ?_
      refine ex_pass_ret ?_
      refine ex_ret (.inl rfl) (res_tmp rfl rfl) (fun w hw => ?_)
      exact ⟨congrArg (fun b => Ending.returned (Value.bool b)) (by
        cases hf : pfits p k with
        | false => rfl
        | true => obtain ⟨f1, f2, _⟩ := (pfits_iff p k).1 hf; simp [f1, f2] at h1), hw.sub (List.nil_sublist _)⟩
    · simp at h1
      obtain ⟨hm, hk⟩ := h1
      obtain ⟨m1, m2, m3, m4⟩ := (pmay_iff p).1 hm
      refine cw_skip ?_
      refine ex_then ?_
      refine cw_seq ?_
      refine cw_region ?_
      refine sq_r (ry_assign rfl) ?_
      refine sq_nil ?_
      refine ex_then ?_
      refine cw_seq ?_
      refine cw_seq ?_
      refine cw_region ?_
      refine sq_r (ry_assign rfl) ?_
      refine sq_nil ?_
      refine ex_then ?_
      refine cw_block ?_
      refine cw_loop (X := Nat) (fun i => [(6, .int .i64 i), (5, .bool (stepsFit p k i)), (2, .pointer (some ⟨b2, 0, none⟩)), (3, .pointer (some ⟨b3, 0, none⟩))]) (fun i => [blk b3 (kcells k) 48, blk b2 (pcells p) 50]) (fun i => (i : Int) ≤ p.len / 4) (fun i => (p.len / 4).toNat - i) 0 (by omega) (Sub.cons rfl (Sub.cons rfl (Sub.cons rfl (Sub.cons rfl (Sub.nil _))))) (fun w hw => hw) ?_
      rintro i hI
      refine cw_seq ?_
      refine cw_seq ?_
      refine cw_region ?_
      refine sq_r (ry_move rfl) ?_
      refine sq_r (ry_field (o' := 1) rfl rfl) ?_
      refine sq_r (ry_cellc rfl) ?_
      refine sq_r (ry_quo rfl rfl (by omega) (by omega)) ?_
      refine sq_r (ry_int rfl rfl rfl) ?_
      refine sq_nil ?_
      refine ex_then ?_
      refine cw_cond rfl (fun h2 => ?_) (fun h2 => ?_)
      · have h2 := of_decide_eq_true h2
        refine cw_skip ?_
        refine ex_then ?_
        refine cw_seq ?_
        refine cw_block ?_
        refine cw_quiet (by kernel_rfl) (by kernel_rfl) ?_
        refine qt_r (ry_move rfl) ?_
        refine qt_r (ry_move rfl) ?_
        refine qt_gt rfl rfl rfl (fun hg => (ry_field (o' := 2) rfl rfl).yl) ?_
        refine qt_gt rfl rfl rfl (fun hg => (ry_part (ev_c hg rfl)).yl) ?_
        refine qt_gt rfl rfl rfl (fun hg => (ry_move rfl).yl) ?_
        refine qt_gt rfl rfl rfl (fun hg => yl_pure (evl_cons (ev_c hg rfl) (evl_cons (ev_c hg rfl) evl_nil))) ?_
        refine qt_gt rfl rfl rfl (fun hg => (ry_whole rfl).yl) ?_
        refine qt_gt rfl rfl rfl (fun hg => (ry_move rfl).yl) ?_
        refine qt_gt rfl rfl rfl (fun hg => yl_pure (evl_cons (ev_c hg rfl) (evl_cons (ev_c hg rfl) evl_nil))) ?_
        refine qt_gt rfl rfl rfl (fun hg => (ry_int (ev_c hg rfl) (ev_c hg rfl) rfl).yl) ?_
        refine qt_r (ry_and rfl rfl rfl) ?_
        refine qt_r (ry_assign rfl) ?_
        refine qt_nil ?_
        refine ex_block ?_
        refine ex_then ?_
        refine cw_region ?_
        refine sq_r (ry_move rfl) ?_
        refine sq_r (ry_add rfl rfl (by omega)) ?_
        refine sq_r (ry_assign rfl) ?_
        refine sq_nil ?_
        exact ex_again (i + 1) (by omega) (by omega) (Sub.cons rfl (Sub.cons (look_eq rfl (by rw [stepsFit_succ])) (Sub.cons rfl (Sub.cons rfl (Sub.nil _))))) (fun w hw => hw)
      · have h2 := of_decide_eq_false h2
        obtain rfl : i = (p.len / 4).toNat := by omega
        refine cw_exit ?_
        refine ex_pass_exit ?_
        refine ex_pass_exit ?_
        refine ex_block_hit ?_
        refine ex_then ?_
        refine cw_seq ?_
        refine cw_seq ?_
        refine cw_region ?_
        refine sq_r (ry_field (o' := 1) rfl rfl) ?_
        refine sq_r (ry_cellc rfl) ?_
        refine sq_r (ry_quo rfl rfl (by omega) (by omega)) ?_
        refine sq_r (ry_mul rfl rfl (by omega)) ?_
        refine sq_r (ry_assign rfl) ?_
        refine sq_nil ?_
        refine ex_then ?_
        refine cw_block ?_
        refine cw_loop (X := Nat) (fun j => [(7, .int .i64 j), (5, .bool (stepsFit p k (p.len / 4).toNat && bitsFit p k (p.len / 4 * 4).toNat j)), (2, .pointer (some ⟨b2, 0, none⟩)), (3, .pointer (some ⟨b3, 0, none⟩))]) (fun j => [blk b3 (kcells k) 48, blk b2 (pcells p) 50]) (fun j => p.len / 4 * 4 ≤ (j : Int) ∧ (j : Int) ≤ p.len) (fun j => p.len.toNat - j) (p.len / 4 * 4).toNat (by omega) (Sub.cons (look_eq rfl (by rw [Int.toNat_of_nonneg (by omega)])) (Sub.cons (look_eq rfl (by simp [bitsFit])) (Sub.cons rfl (Sub.cons rfl (Sub.nil _))))) (fun w hw => hw) ?_
        rintro j hJ
        refine cw_seq ?_
        refine cw_seq ?_
        refine cw_region ?_
        refine sq_r (ry_move rfl) ?_
        refine sq_r (ry_field (o' := 1) rfl rfl) ?_
        refine sq_r (ry_cellc rfl) ?_
        refine sq_r (ry_int rfl rfl rfl) ?_
        refine sq_nil ?_
        refine ex_then ?_
        refine cw_cond rfl (fun h3 => ?_) (fun h3 => ?_)
        · have h3 := of_decide_eq_true h3
          refine cw_skip ?_
          refine ex_then ?_
          refine cw_seq ?_
          refine cw_block ?_
          refine cw_quiet (by kernel_rfl) (by kernel_rfl) ?_
          refine qt_r (ry_move rfl) ?_
          refine qt_r (ry_move rfl) ?_
          refine qt_gt rfl rfl rfl (fun hg => (ry_field (o' := 2) rfl rfl).yl) ?_
          refine qt_gt rfl rfl rfl (fun hg => (ry_part (ev_c hg rfl)).yl) ?_
          refine qt_gt rfl rfl rfl (fun hg => (ry_move rfl).yl) ?_
          refine qt_gt rfl rfl rfl (fun hg => yl_pure (evl_cons (ev_c hg rfl) (evl_cons (ev_c hg rfl) evl_nil))) ?_
          refine qt_gt rfl rfl rfl (fun hg => (ry_whole rfl).yl) ?_
          refine qt_gt rfl rfl rfl (fun hg => (ry_move rfl).yl) ?_
          refine qt_gt rfl rfl rfl (fun hg => yl_pure (evl_cons (ev_c hg rfl) (evl_cons (ev_c hg rfl) evl_nil))) ?_
          refine qt_gt rfl rfl rfl (fun hg => (ry_int (ev_c hg rfl) (ev_c hg rfl) rfl).yl) ?_
          refine qt_r (ry_and rfl rfl rfl) ?_
          refine qt_r (ry_assign rfl) ?_
          refine qt_nil ?_
          refine ex_block ?_
          refine ex_then ?_
          refine cw_region ?_
          refine sq_r (ry_move rfl) ?_
          refine sq_r (ry_add rfl rfl (by omega)) ?_
          refine sq_r (ry_assign rfl) ?_
          refine sq_nil ?_
          exact ex_again (j + 1) (by omega) (by omega) (Sub.cons rfl (Sub.cons (look_eq rfl (by rw [bitsFit_succ p k _ _ (by omega), ← Bool.and_assoc])) (Sub.cons rfl (Sub.cons rfl (Sub.nil _))))) (fun w hw => hw)
        · have h3 := of_decide_eq_false h3
          obtain rfl : j = p.len.toNat := by omega
          refine cw_exit ?_
          refine ex_pass_exit ?_
          refine ex_pass_exit ?_
          refine ex_block_hit ?_
          refine ex_then ?_
          refine cw_seq ?_
          refine cw_seq ?_
          refine cw_region ?_
          refine sq_r (ry_whole rfl) ?_
          refine sq_r (ry_whole rfl) ?_
          refine sq_y (yl_pure rfl) ?_
          refine sq_r (ry_move rfl) ?_
          refine sq_r (ry_neb rfl rfl Try.underlying4) ?_
          refine sq_nil ?_
          refine ex_then ?_
          refine cw_cond rfl (fun h4 => ?_) (fun h4 => ?_)
          · exfalso; rw [fits_steps hm hk] at h4; simp at h4
          · rw [← fits_steps hm hk] at h4
            refine cw_skip ?_
            refine ex_then ?_
            refine cw_seq ?_
            refine cw_seq ?_
            refine cw_region ?_
            refine sq_r (ry_move rfl) ?_
            refine sq_r (ry_not rfl) ?_
            refine sq_r (ry_move rfl) ?_
            refine sq_gf rfl rfl rfl (fun hg => (ry_field (o' := 1) rfl rfl).yl) ?_
            refine sq_gf rfl rfl rfl (fun hg => (ry_cellc (ev_c hg rfl)).yl) ?_
            refine sq_gf rfl rfl rfl (fun hg => (ry_field (o' := 0) rfl rfl).yl) ?_
            refine sq_gf rfl rfl rfl (fun hg => (ry_cellc (ev_c hg rfl)).yl) ?_
            refine sq_gf rfl rfl rfl (fun hg => (ry_int (ev_c hg rfl) (ev_c hg rfl) rfl).yl) ?_
            refine sq_r (ry_or rfl rfl rfl) ?_
            refine sq_nil ?_
            refine ex_then ?_
            refine cw_cond rfl (fun h5 => ?_) (fun h5 => ?_)
            · refine cw_seq ?_
              refine cw_region ?_
              refine sq_r (ry_assign rfl) ?_
              refine sq_nil ?_
              refine ex_then ?_
              refine cw_ret ?_
              refine ex_pass_ret ?_
              refine ex_ret (.inl rfl) (res_tmp rfl rfl) (fun w hw => ?_)
              exact ⟨rfl, hw.sub (List.nil_sublist _)⟩
            · rw [← fits_steps hm hk] at h5; simp at h5
              obtain ⟨hf, hl⟩ := h5
              refine cw_skip ?_
              refine ex_then ?_
              refine cw_seq ?_
              refine cw_tail 12 [11] (by kernel_rfl) (by kernel_rfl) ?_
              simp only [List.take_succ_cons, List.take_zero]
              refine qt_r (ry_field (o' := 0) rfl rfl) ?_
              refine qt_r (ry_cellc rfl) ?_
              refine qt_r (ry_field (o' := 1) rfl rfl) ?_
              refine qt_r (ry_cellc rfl) ?_
              refine qt_r (ry_add rfl rfl (by omega)) ?_
              refine qt_r (ry_whole rfl) ?_
              refine qt_r (ry_field (o' := 1) rfl rfl) ?_
              refine qt_r (ry_cellc rfl) ?_
              refine qt_r (ry_add rfl rfl (by omega)) ?_
              refine qt_y (yl_pure rfl) ?_
              refine qt_r (ry_buildc rfl) ?_
              refine qt_skip ?_
              refine qt_end ?_
              refine fr_allocA rfl fun b8 => ?_
              refine fr_nil ?_
              simp only [List.drop_succ_cons, List.drop_zero]
              refine sq_storeW rfl rfl ?_
              refine sq_nil ?_
              refine ex_then ?_
              refine cw_seq ?_
              refine cw_region ?_
              refine sq_r (ry_whole rfl) ?_
              refine sq_allocA fun b9 => ?_
              refine sq_storeW rfl rfl ?_
              refine sq_nil ?_
              refine ex_then ?_
              refine cw_seq ?_
              refine cw_tail 17 [] (by kernel_rfl) (by kernel_rfl) ?_
              simp only [List.take_succ_cons, List.take_zero]
              refine qt_r (ry_field (o' := 1) rfl rfl) ?_
              refine qt_r (ry_cellc rfl) ?_
              refine qt_r (ry_quo rfl rfl (by omega) (by omega)) ?_
              refine qt_r (ry_field (o' := 1) rfl rfl) ?_
              refine qt_r (ry_cellc rfl) ?_
              refine qt_r (ry_quo rfl rfl (by omega) (by omega)) ?_
              refine qt_r (ry_field (o' := 2) rfl rfl) ?_
              refine qt_r (ry_idxA rfl rfl (by omega) (by omega)) ?_
              refine qt_r (ry_cell rfl (pcells_kb _ _ (by omega))) ?_
              refine qt_r (ry_field (o' := 1) rfl rfl) ?_
              refine qt_r (ry_cellc rfl) ?_
              refine qt_r (ry_rem rfl rfl (by omega) (by omega)) ?_
              refine qt_r (ry_convi rfl (by omega) (Nat.lt_of_lt_of_le (show (p.len % 8).toNat < 8 by omega) (by decide))) ?_
              refine qt_r (ry_shr (p := 128) rfl rfl (by decide) (by omega)) ?_
              refine qt_r (ry_bxor rfl rfl rfl rfl (kbyte_lt _ _) (Nat.lt_of_le_of_lt (Nat.div_le_self _ _) (by decide))) ?_
              refine qt_r (ry_field (o' := 2) rfl rfl) ?_
              refine qt_r (ry_idxA rfl rfl (by omega) (by omega)) ?_
              refine qt_end ?_
              refine fr_nil ?_
              simp only [List.drop_succ_cons, List.drop_zero]
              refine sq_store rfl rfl (by rw [pcells_size]; omega) rfl (pcells_setb _ _ _ (by omega) (Nat.xor_lt_two_pow (n := 8) (kbyte_lt _ _) (Nat.lt_of_le_of_lt (Nat.div_le_self _ _) (by decide)))) ?_
              refine sq_nil ?_
              refine ex_then ?_
              refine cw_seq ?_
              refine cw_region ?_
              refine sq_r (ry_whole rfl) ?_
              refine sq_r (ry_whole rfl) ?_
              refine sq_y (yl_pure rfl) ?_
              refine sq_r (ry_move rfl) ?_
              refine sq_gt rfl rfl rfl (fun hg => (ry_whole rfl).yl) ?_
              refine sq_gt rfl rfl rfl (fun hg => (ry_whole rfl).yl) ?_
              refine sq_gt rfl rfl rfl (fun hg => yl_pure (evl_cons (ev_c hg rfl) (evl_cons (ev_c hg rfl) evl_nil))) ?_
              refine sq_gt rfl rfl rfl (fun hg => (ry_not (ev_c hg rfl)).yl) ?_
              refine sq_r (ry_and rfl rfl rfl) ?_
              refine sq_r (ry_move rfl) ?_
              refine sq_gt rfl rfl rfl (fun hg => (ry_whole rfl).yl) ?_
              refine sq_gt rfl rfl rfl (fun hg => (ry_whole rfl).yl) ?_
              refine sq_gt rfl rfl rfl (fun hg => yl_pure (evl_cons (ev_c hg rfl) (evl_cons (ev_c hg rfl) evl_nil))) ?_
              refine sq_r (ry_and rfl rfl rfl) ?_
              refine sq_r (ry_move rfl) ?_
              refine sq_gt rfl rfl rfl (fun hg => (ry_whole rfl).yl) ?_
              refine sq_gt rfl rfl rfl (fun hg => (ry_whole rfl).yl) ?_
              refine sq_gt rfl rfl rfl (fun hg => yl_pure (evl_cons (ev_c hg rfl) (evl_cons (ev_c hg rfl) evl_nil))) ?_
              refine sq_r (ry_and rfl rfl rfl) ?_
              refine sq_r (ry_move rfl) ?_
              refine sq_gt rfl rfl rfl (fun hg => (ry_whole rfl).yl) ?_
              refine sq_gt rfl rfl rfl (fun hg => (ry_whole rfl).yl) ?_
              refine sq_gt rfl rfl rfl (fun hg => yl_pure (evl_cons (ev_c hg rfl) (evl_cons (ev_c hg rfl) evl_nil))) ?_
              refine sq_gt rfl rfl rfl (fun hg => (ry_not (ev_c hg rfl)).yl) ?_
              refine sq_r (ry_and rfl rfl rfl) ?_
              refine sq_r (ry_assign rfl) ?_
              refine sq_nil ?_
              refine ex_then ?_
              refine cw_ret ?_
              refine ex_ret (.inl rfl) (res_tmp rfl rfl) (fun w hw => ?_)
              exact ⟨congrArg (fun b => Ending.returned (Value.bool b)) (law_steps hm hk hf hl fun i hi => by have := flip_byte (kcut k (p.len + 1)) p.len.toNat i hi; rw [show p.len.toNat / 8 = (p.len / 8).toNat by omega, show p.len.toNat % 8 = (p.len % 8).toNat by omega] at this; exact this), hw.sub (List.nil_sublist _)⟩⟩

end Go.Proofs.Ytembaconocgmlaa
