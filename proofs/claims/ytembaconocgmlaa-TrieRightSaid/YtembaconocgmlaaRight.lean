/- Is a table right: walked. -/
import Derived.Test.YtembaconocgmlaaRinst
set_option linter.unusedSimpArgs false
set_option linter.unusedVariables false
namespace Go.Proofs.Ytembaconocgmlaa
open Go.Eng Go.Kb
set_option maxRecDepth 20000 in
theorem right_c (w : World) (s : Sv) (xs : List Rt) (hs : Lies rcells 19 (hp w) s xs) : Calls Try.prog 61 #[s.val] w fun e w' => e = .returned (.bool (tright xs)) ∧ Mem w [] w' := by
  refine calls_of (args := [_]) Try.func61 rfl Try.ntmps61 rfl ?_
  change Cw _ _ _ _ _ [(0, s.val)] []
  refine cw_seq ?_
  refine cw_region ?_
  refine sq_r (ry_assign rfl) ?_
  refine sq_nil ?_
  refine ex_then ?_
  refine cw_seq ?_
  refine cw_seq ?_
  refine cw_region ?_
  refine sq_r (ry_move rfl) ?_
  refine sq_r (ry_lenS rfl hs.ok hs.len) ?_
  refine sq_r (ry_int rfl rfl rfl) ?_
  refine sq_nil ?_
  refine ex_then ?_
  refine cw_cond rfl (fun h0 => ?_) (fun h0 => ?_)
  · simp only [decide_eq_true_eq] at h0
    refine cw_seq ?_
    refine cw_region ?_
    refine sq_r (ry_assign rfl) ?_
    refine sq_nil ?_
    refine ex_then ?_
    refine cw_ret ?_
    refine ex_pass_ret ?_
    refine ex_ret (.inl rfl) (res_tmp rfl rfl) (fun w hw => ?_)
    exact ⟨congrArg (fun b => Ending.returned (Value.bool b)) ((tright_long (by omega)).symm), hw.sub (List.nil_sublist _)⟩
  · simp only [decide_eq_false_iff_not] at h0
    refine cw_skip ?_
    refine ex_then ?_
    refine cw_seq ?_
    refine cw_seq ?_
    refine cw_region ?_
    refine sq_r (ry_move rfl) ?_
    refine sq_r (ry_lenS rfl hs.ok hs.len) ?_
    refine sq_r (ry_move rfl) ?_
    refine sq_nil ?_
    refine ex_then ?_
    refine cw_block ?_
    refine cw_loop (X := Nat) (fun i => [(10, .int .i64 (i : Nat)), (9, .int .i64 (xs.length : Nat)), (8, s.val), (0, s.val)]) (fun i => []) (fun i => i ≤ xs.length ∧ okTo xs i = true) (fun i => xs.length - i) 0 ⟨by omega, okTo_zero xs⟩ (Sub.cons rfl (Sub.cons rfl (Sub.cons rfl (Sub.cons rfl (Sub.nil _))))) (fun w hw => hw) ?_
    rintro i ⟨hi1, hi2⟩
    refine cw_seq ?_
    refine cw_region ?_
    refine sq_r (ry_int rfl rfl rfl) ?_
    refine sq_nil ?_
    refine ex_then ?_
    refine cw_seq ?_
    refine cw_cond rfl (fun h1 => ?_) (fun h1 => ?_)
    · simp only [decide_eq_true_eq] at h1
      have hlt : i < xs.length := by omega
      obtain ⟨r, hr⟩ := get_some hlt
      obtain ⟨q, hq⟩ := get_some (xs := xs) (i := i - 1) (by omega)
      refine cw_skip ?_
      refine ex_then ?_
      refine cw_seq ?_
      refine cw_block ?_
      refine cw_seq ?_
      refine cw_region ?_
      refine sq_r (ry_move rfl) ?_
      refine sq_r (ry_idxSv rfl rfl rfl hs.ok (by rw [hs.len]; omega)) ?_
      refine sq_r (ry_elem rfl (holds_given hs) hr rfl) ?_
      refine sq_allocA fun b4 => ?_
      refine sq_r (ry_assign rfl) ?_
      refine sq_storeW rfl rfl ?_
      refine sq_nil ?_
      refine ex_then ?_
      refine cw_seq ?_
      refine cw_seq ?_
      refine cw_region ?_
      refine sq_r (ry_field (o' := 0) rfl rfl) ?_
      refine sq_r (ry_part rfl) ?_
      refine sq_y (yl_pure rfl) ?_
      refine sq_r (ry_not rfl) ?_
      refine sq_nil ?_
      refine ex_then ?_
      refine cw_cond rfl (fun h2 => ?_) (fun h2 => ?_)
      · refine cw_seq ?_
        refine cw_region ?_
        refine sq_r (ry_assign rfl) ?_
        refine sq_nil ?_
        refine ex_then ?_
        refine cw_ret ?_
        refine ex_pass_ret ?_
        refine ex_block_ret ?_
        refine ex_pass_ret ?_
        refine ex_pass_ret ?_
        refine ex_block_ret ?_
        refine ex_pass_ret ?_
        refine ex_ret (.inl rfl) (res_tmp rfl rfl) (fun w hw => ?_)
        exact ⟨congrArg (fun b => Ending.returned (Value.bool b)) ((tright_no hlt (okAt_may hr (by simpa using h2))).symm), hw.sub (List.nil_sublist _)⟩
      · refine cw_skip ?_
        refine ex_then ?_
        refine cw_seq ?_
        refine cw_quiet (by kernel_rfl) (by kernel_rfl) ?_
        refine qt_r (ry_move rfl) ?_
        refine qt_r (ry_int rfl rfl rfl) ?_
        refine qt_r (ry_move rfl) ?_
        refine qt_gt rfl rfl rfl (fun hg => (ry_move rfl).yl) ?_
        refine qt_gt rfl rfl rfl (fun hg => (ry_move rfl).yl) ?_
        refine qt_gt rfl rfl rfl (fun hg => (ry_sub (ev_c hg rfl) rfl (by omega)).yl) ?_
        refine qt_gt rfl rfl rfl (fun hg => (ry_idxSv (i := i - 1) (ev_c hg rfl) (ev_c hg rfl) (by have := of_decide_eq_true hg; omega) hs.ok (by rw [hs.len]; omega)).yl) ?_
        refine qt_gt rfl rfl rfl (fun hg => (ry_field (ev_c hg rfl) rfl).yl) ?_
        refine qt_gt rfl rfl rfl (fun hg => (ry_elemp (j := 0) (ev_c hg rfl) (holds_given hs) hq rfl (by decide)).yl) ?_
        refine qt_gt rfl rfl rfl (fun hg => (ry_field (o' := 0) rfl rfl).yl) ?_
        refine qt_gt rfl rfl rfl (fun hg => (ry_part (ev_c hg rfl)).yl) ?_
        refine qt_gt rfl rfl rfl (fun hg => yl_pure (evl_cons (ev_c hg rfl) (evl_cons (ev_c hg rfl) evl_nil))) ?_
        refine qt_gt rfl rfl rfl (fun hg => (ry_not (ev_c hg rfl)).yl) ?_
        refine qt_r (ry_and rfl rfl rfl) ?_
        refine qt_nil ?_
        refine ex_then ?_
        refine cw_cond rfl (fun h3 => ?_) (fun h3 => ?_)
        · refine cw_seq ?_
          refine cw_region ?_
          refine sq_r (ry_assign rfl) ?_
          refine sq_nil ?_
          refine ex_then ?_
          refine cw_ret ?_
          refine ex_block_ret ?_
          refine ex_pass_ret ?_
          refine ex_pass_ret ?_
          refine ex_block_ret ?_
          refine ex_pass_ret ?_
          refine ex_ret (.inl rfl) (res_tmp rfl rfl) (fun w hw => ?_)
          exact ⟨congrArg (fun b => Ending.returned (Value.bool b)) ((tright_no hlt (by rw [okAt_eq hr hq, h3]; simp)).symm), hw.sub (List.nil_sublist _)⟩
        · refine cw_skip ?_
          refine ex_block ?_
          refine ex_then ?_
          refine cw_region ?_
          refine sq_r (ry_add rfl rfl (by omega)) ?_
          refine sq_r (ry_move rfl) ?_
          refine sq_nil ?_
          exact ex_again (i + 1) ⟨by omega, by rw [okTo_succ, hi2, okAt_eq hr hq, h3]; simpa using h2⟩ (by omega) (Sub.cons rfl (Sub.cons rfl (Sub.cons rfl (Sub.cons rfl (Sub.nil _))))) (fun w hw => hw.sub (List.nil_sublist _))
    · simp only [decide_eq_false_iff_not] at h1
      refine cw_exit ?_
      refine ex_pass_exit ?_
      refine ex_pass_exit ?_
      refine ex_block_hit ?_
      refine ex_then ?_
      refine cw_seq ?_
      refine cw_region ?_
      refine sq_r (ry_assign rfl) ?_
      refine sq_nil ?_
      refine ex_then ?_
      refine cw_ret ?_
      refine ex_ret (.inl rfl) (res_tmp rfl rfl) (fun w hw => ?_)
      exact ⟨congrArg (fun b => Ending.returned (Value.bool b)) ((tright_all (by omega) (by rwa [show i = xs.length by omega] at hi2)).symm), hw.sub (List.nil_sublist _)⟩

set_option maxRecDepth 20000 in
theorem rright_c (w : World) (s : Sv) (xs : List Rt) (hs : Lies rcells 19 (hp w) s xs) : Calls Try.prog 74 #[s.val] w fun e w' => e = .returned (.bool (tright xs)) ∧ Mem w [] w' := by
  refine calls_of (args := [_]) Try.func74 rfl Try.ntmps74 rfl ?_
  change Cw _ _ _ _ _ [(0, s.val)] []
  refine cw_seq ?_
  refine cw_region ?_
  refine sq_r (ry_assign rfl) ?_
  refine sq_nil ?_
  refine ex_then ?_
  refine cw_seq ?_
  refine cw_seq ?_
  refine cw_region ?_
  refine sq_r (ry_move rfl) ?_
  refine sq_r (ry_lenS rfl hs.ok hs.len) ?_
  refine sq_r (ry_int rfl rfl rfl) ?_
  refine sq_nil ?_
  refine ex_then ?_
  refine cw_cond rfl (fun h0 => ?_) (fun h0 => ?_)
  · simp only [decide_eq_true_eq] at h0
    refine cw_seq ?_
    refine cw_region ?_
    refine sq_r (ry_assign rfl) ?_
    refine sq_nil ?_
    refine ex_then ?_
    refine cw_ret ?_
    refine ex_pass_ret ?_
    refine ex_ret (.inl rfl) (res_tmp rfl rfl) (fun w hw => ?_)
    exact ⟨congrArg (fun b => Ending.returned (Value.bool b)) ((tright_long (by omega)).symm), hw.sub (List.nil_sublist _)⟩
  · simp only [decide_eq_false_iff_not] at h0
    refine cw_skip ?_
    refine ex_then ?_
    refine cw_seq ?_
    refine cw_seq ?_
    refine cw_region ?_
    refine sq_r (ry_assign rfl) ?_
    refine sq_nil ?_
    refine ex_then ?_
    refine cw_block ?_
    refine cw_loop (X := Nat) (fun i => [(3, .int .i64 (i : Nat)), (0, s.val)]) (fun i => []) (fun i => i ≤ xs.length ∧ okTo xs i = true) (fun i => xs.length - i) 0 ⟨by omega, okTo_zero xs⟩ (Sub.cons rfl (Sub.cons rfl (Sub.nil _))) (fun w hw => hw) ?_
    rintro i ⟨hi1, hi2⟩
    refine cw_seq ?_
    refine cw_seq ?_
    refine cw_region ?_
    refine sq_r (ry_move rfl) ?_
    refine sq_r (ry_move rfl) ?_
    refine sq_r (ry_lenS rfl hs.ok hs.len) ?_
    refine sq_r (ry_int rfl rfl rfl) ?_
    refine sq_nil ?_
    refine ex_then ?_
    refine cw_cond rfl (fun h1 => ?_) (fun h1 => ?_)
    · simp only [decide_eq_true_eq] at h1
      have hlt : i < xs.length := by omega
      obtain ⟨r, hr⟩ := get_some hlt
      obtain ⟨q, hq⟩ := get_some (xs := xs) (i := i - 1) (by omega)
      refine cw_skip ?_
      refine ex_then ?_
      refine cw_seq ?_
      refine cw_block ?_
      refine cw_seq ?_
      refine cw_quiet (by kernel_rfl) (by kernel_rfl) ?_
      refine qt_r (ry_move rfl) ?_
      refine qt_r (ry_move rfl) ?_
      refine qt_r (ry_idxSv rfl rfl rfl hs.ok (by rw [hs.len]; omega)) ?_
      refine qt_r (ry_field rfl rfl) ?_
      refine qt_r (ry_elemp (j := 0) rfl (holds_given hs) hr rfl (by decide)) ?_
      refine qt_y (yl_pure rfl) ?_
      refine qt_r (ry_not rfl) ?_
      refine qt_r (ry_move rfl) ?_
      refine qt_gf rfl rfl rfl (fun hg => (ry_move rfl).yl) ?_
      refine qt_gf rfl rfl rfl (fun hg => (ry_int (ev_c hg rfl) rfl rfl).yl) ?_
      refine qt_gf rfl rfl rfl (fun hg => (ry_move (ev_c hg rfl)).yl) ?_
      refine qt_nt rfl rfl rfl (fun hg => (ry_move rfl).yl) ?_
      refine qt_nt rfl rfl rfl (fun hg => (ry_move rfl).yl) ?_
      refine qt_nt rfl rfl rfl (fun hg => (ry_sub (ev_c hg rfl) rfl (by omega)).yl) ?_
      refine qt_nt rfl rfl rfl (fun hg => (ry_idxSv (i := i - 1) (ev_c hg rfl) (ev_c hg rfl) (by have := of_decide_eq_true (and_r hg); omega) hs.ok (by rw [hs.len]; omega)).yl) ?_
      refine qt_nt rfl rfl rfl (fun hg => (ry_field (ev_c hg rfl) rfl).yl) ?_
      refine qt_nt rfl rfl rfl (fun hg => (ry_elemp (j := 0) (ev_c hg rfl) (holds_given hs) hq rfl (by decide)).yl) ?_
      refine qt_nt rfl rfl rfl (fun hg => (ry_move rfl).yl) ?_
      refine qt_nt rfl rfl rfl (fun hg => (ry_move rfl).yl) ?_
      refine qt_nt rfl rfl rfl (fun hg => (ry_idxSv (ev_c hg rfl) (ev_c hg rfl) rfl hs.ok (by rw [hs.len]; omega)).yl) ?_
      refine qt_nt rfl rfl rfl (fun hg => (ry_field (ev_c hg rfl) rfl).yl) ?_
      refine qt_nt rfl rfl rfl (fun hg => (ry_elemp (j := 0) (ev_c hg rfl) (holds_given hs) hr rfl (by decide)).yl) ?_
      refine qt_nt rfl rfl rfl (fun hg => yl_pure (evl_cons (ev_c hg rfl) (evl_cons (ev_c hg rfl) evl_nil))) ?_
      refine qt_nt rfl rfl rfl (fun hg => (ry_not (ev_c hg rfl)).yl) ?_
      refine qt_gf rfl rfl rfl (fun hg => (ry_and (ev_c hg rfl) (ev_cc hg rfl) rfl).yl) ?_
      refine qt_r (ry_or rfl rfl rfl) ?_
      refine qt_nil ?_
      refine ex_then ?_
      refine cw_cond rfl (fun h2 => ?_) (fun h2 => ?_)
      · refine cw_seq ?_
        refine cw_region ?_
        refine sq_r (ry_assign rfl) ?_
        refine sq_nil ?_
        refine ex_then ?_
        refine cw_ret ?_
        refine ex_block_ret ?_
        refine ex_pass_ret ?_
        refine ex_pass_ret ?_
        refine ex_block_ret ?_
        refine ex_pass_ret ?_
        refine ex_ret (.inl rfl) (res_tmp rfl rfl) (fun w hw => ?_)
        exact ⟨congrArg (fun b => Ending.returned (Value.bool b)) ((tright_no hlt (by rw [okAt_eq' hr hq, h2]; rfl)).symm), hw.sub (List.nil_sublist _)⟩
      · refine cw_skip ?_
        refine ex_block ?_
        refine ex_then ?_
        refine cw_region ?_
        refine sq_r (ry_move rfl) ?_
        refine sq_r (ry_add rfl rfl (by omega)) ?_
        refine sq_r (ry_assign rfl) ?_
        refine sq_nil ?_
        exact ex_again (i + 1) ⟨by omega, by rw [okTo_succ, hi2, okAt_eq' hr hq, h2]; rfl⟩ (by omega) (Sub.cons rfl (Sub.cons rfl (Sub.nil _))) (fun w hw => hw)
    · simp only [decide_eq_false_iff_not] at h1
      refine cw_exit ?_
      refine ex_pass_exit ?_
      refine ex_pass_exit ?_
      refine ex_block_hit ?_
      refine ex_then ?_
      refine cw_seq ?_
      refine cw_region ?_
      refine sq_r (ry_assign rfl) ?_
      refine sq_nil ?_
      refine ex_then ?_
      refine cw_ret ?_
      refine ex_ret (.inl rfl) (res_tmp rfl rfl) (fun w hw => ?_)
      exact ⟨congrArg (fun b => Ending.returned (Value.bool b)) ((tright_all (by omega) (by rwa [show i = xs.length by omega] at hi2)).symm), hw.sub (List.nil_sublist _)⟩

set_option maxRecDepth 20000 in
theorem same3_c (w : World) (s t : Sv) (xs ys : List Rt) (hs : Lies rcells 19 (hp w) s xs) (ht : Lies rcells 19 (hp w) t ys) (hb : xs.length < 9223372036854775807) : Calls Try.prog 50 #[s.val, t.val] w fun e w' => e = .returned (.bool (decide (xs = ys))) ∧ Mem w [] w' := by
  refine calls_of (args := [_, _]) Try.func50 rfl Try.ntmps50 rfl ?_
  change Cw _ _ _ _ _ [(0, s.val), (1, t.val)] []
  refine cw_seq ?_
  refine cw_region ?_
  refine sq_r (ry_assign rfl) ?_
  refine sq_nil ?_
  refine ex_then ?_
  refine cw_seq ?_
  refine cw_seq ?_
  refine cw_region ?_
  refine sq_r (ry_move rfl) ?_
  refine sq_r (ry_lenS rfl hs.ok hs.len) ?_
  refine sq_r (ry_move rfl) ?_
  refine sq_r (ry_lenS rfl ht.ok ht.len) ?_
  refine sq_r (ry_int rfl rfl rfl) ?_
  refine sq_nil ?_
  refine ex_then ?_
  refine cw_cond rfl (fun h0 => ?_) (fun h0 => ?_)
  · simp only [Bool.not_eq_true', decide_eq_false_iff_not] at h0
    refine cw_seq ?_
    refine cw_region ?_
    refine sq_r (ry_assign rfl) ?_
    refine sq_nil ?_
    refine ex_then ?_
    refine cw_ret ?_
    refine ex_pass_ret ?_
    refine ex_ret (.inl rfl) (res_tmp rfl rfl) (fun w hw => ?_)
    exact ⟨congrArg (fun b => Ending.returned (Value.bool b)) ((decide_eq_false (fun e => h0 (by rw [e]))).symm), hw.sub (List.nil_sublist _)⟩
  · simp only [Bool.not_eq_false', decide_eq_true_eq] at h0
    refine cw_skip ?_
    refine ex_then ?_
    refine cw_seq ?_
    refine cw_seq ?_
    refine cw_region ?_
    refine sq_r (ry_assign rfl) ?_
    refine sq_nil ?_
    refine ex_then ?_
    refine cw_block ?_
    refine cw_loop (X := Nat) (fun i => [(5, .int .i64 (i : Nat)), (0, s.val), (1, t.val)]) (fun i => []) (fun i => i ≤ xs.length ∧ ∀ j, j < i → xs[j]? = ys[j]?) (fun i => xs.length - i) 0 ⟨by omega, fun j h => by omega⟩ (Sub.cons rfl (Sub.cons rfl (Sub.cons rfl (Sub.nil _)))) (fun w hw => hw) ?_
    rintro i ⟨hi1, hi2⟩
    refine cw_seq ?_
    refine cw_seq ?_
    refine cw_region ?_
    refine sq_r (ry_move rfl) ?_
    refine sq_r (ry_move rfl) ?_
    refine sq_r (ry_lenS rfl hs.ok hs.len) ?_
    refine sq_r (ry_int rfl rfl rfl) ?_
    refine sq_nil ?_
    refine ex_then ?_
    refine cw_cond rfl (fun h1 => ?_) (fun h1 => ?_)
    · simp only [decide_eq_true_eq] at h1
      obtain ⟨r, hr⟩ := get_some (xs := xs) (i := i) (by omega)
      obtain ⟨q, hq⟩ := get_some (xs := ys) (i := i) (by omega)
      refine cw_skip ?_
      refine ex_then ?_
      refine cw_seq ?_
      refine cw_block ?_
      refine cw_seq ?_
      refine cw_quiet (by kernel_rfl) (by kernel_rfl) ?_
      refine qt_r (ry_move rfl) ?_
      refine qt_r (ry_move rfl) ?_
      refine qt_r (ry_idxSv rfl rfl rfl hs.ok (by rw [hs.len]; omega)) ?_
      refine qt_r (ry_elem rfl (holds_given hs) hr rfl) ?_
      refine qt_r (ry_move rfl) ?_
      refine qt_r (ry_move rfl) ?_
      refine qt_r (ry_idxSv rfl rfl rfl ht.ok (by rw [ht.len]; omega)) ?_
      refine qt_r (ry_elem rfl (holds_given ht) hq rfl) ?_
      refine qt_r (ry_ne rfl rfl) ?_
      refine qt_nil ?_
      refine ex_then ?_
      refine cw_cond rfl (fun h2 => ?_) (fun h2 => ?_)
      · refine cw_seq ?_
        refine cw_region ?_
        refine sq_r (ry_assign rfl) ?_
        refine sq_nil ?_
        refine ex_then ?_
        refine cw_ret ?_
        refine ex_block_ret ?_
        refine ex_pass_ret ?_
        refine ex_pass_ret ?_
        refine ex_block_ret ?_
        refine ex_pass_ret ?_
        refine ex_ret (.inl rfl) (res_tmp rfl rfl) (fun w hw => ?_)
        exact ⟨congrArg (fun b => Ending.returned (Value.bool b)) ((decide_eq_false (list_no hr hq (by simpa using h2))).symm), hw.sub (List.nil_sublist _)⟩
      · refine cw_skip ?_
        refine ex_block ?_
        refine ex_then ?_
        refine cw_region ?_
        refine sq_r (ry_move rfl) ?_
        refine sq_r (ry_add rfl rfl (by omega)) ?_
        refine sq_r (ry_assign rfl) ?_
        refine sq_nil ?_
        exact ex_again (i + 1) ⟨by omega, fun j hj => if e : j = i then (by subst e; rw [hr, hq]; simpa using h2) else hi2 j (by omega)⟩ (by omega) (Sub.cons rfl (Sub.cons rfl (Sub.cons rfl (Sub.nil _)))) (fun w hw => hw)
    · simp only [decide_eq_false_iff_not] at h1
      refine cw_exit ?_
      refine ex_pass_exit ?_
      refine ex_pass_exit ?_
      refine ex_block_hit ?_
      refine ex_then ?_
      refine cw_seq ?_
      refine cw_region ?_
      refine sq_r (ry_assign rfl) ?_
      refine sq_nil ?_
      refine ex_then ?_
      refine cw_ret ?_
      refine ex_ret (.inl rfl) (res_tmp rfl rfl) (fun w hw => ?_)
      exact ⟨congrArg (fun b => Ending.returned (Value.bool b)) ((decide_eq_true (list_all (by omega) (fun j hj => hi2 j (by omega)))).symm), hw.sub (List.nil_sublist _)⟩

end Go.Proofs.Ytembaconocgmlaa
