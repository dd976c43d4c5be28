/- Is a table right: walked. -/
import Derived.Test.YtajhlgdapiihgaaMd
import Derived.Test.YtajhlgdapiihgaaMb
import Derived.Test.YtajhlgdapiihgaaMc

set_option linter.unusedSimpArgs false
set_option linter.unusedVariables false
namespace Go.Proofs.Ytajhlgdapiihgaa
open Go.Eng Go.Kb
set_option maxRecDepth 20000 in
theorem right_c (w : World) (s : Sv) (xs : List Rt) (hs : Lies rcells 19 (hp w) s xs) : Calls Try.prog 34 #[s.val] w fun e w' => e = .returned (.bool (tright xs)) ∧ Mem w [] w' := by
  refine calls_of (args := [_]) Try.func34 rfl Try.ntmps34 rfl ?_
  change Cw _ _ _ _ _ [(0, s.val)] []
  refine cw_seq ?_
  refine cw_region ?_
  refine sq_r (ry_assign rfl) ?_
  refine sq_nil ?_
  refine ex_then ?_
  refine cw_seq ?_
  refine cw_seq ?_
  refine cw_region ?_
  refine sq_r (ry_move rfl) ?_
  refine sq_r (ry_lenS rfl hs.ok hs.len) ?_
  refine sq_r (ry_int rfl rfl rfl) ?_
  refine sq_nil ?_
  refine ex_then ?_
  refine cw_cond rfl (fun h0 => ?_) (fun h0 => ?_)
  · simp only [decide_eq_true_eq] at h0
    refine cw_seq ?_
    refine cw_region ?_
    refine sq_r (ry_assign rfl) ?_
    refine sq_nil ?_
    refine ex_then ?_
    refine cw_ret ?_
    refine ex_pass_ret ?_
    refine ex_ret (.inl rfl) (res_tmp rfl rfl) (fun w hw => ?_)
    exact ⟨congrArg (fun b => Ending.returned (Value.bool b)) ((tright_long (by omega)).symm), hw.sub (List.nil_sublist _)⟩
  · simp only [decide_eq_false_iff_not] at h0
    refine cw_skip ?_
    refine ex_then ?_
    refine cw_seq ?_
    refine cw_seq ?_
    refine cw_region ?_
    refine sq_r (ry_move rfl) ?_
    refine sq_r (ry_lenS rfl hs.ok hs.len) ?_
    refine sq_r (ry_move rfl) ?_
    refine sq_nil ?_
    refine ex_then ?_
    refine cw_block ?_
    refine cw_loop (X := Nat) (fun i => [(10, .int .i64 (i : Nat)), (9, .int .i64 (xs.length : Nat)), (8, s.val), (0, s.val)]) (fun i => []) (fun i => i ≤ xs.length ∧ okTo xs i = true) (fun i => xs.length - i) 0 ⟨by omega, okTo_zero xs⟩ (Sub.cons rfl (Sub.cons rfl (Sub.cons rfl (Sub.cons rfl (Sub.nil _))))) (fun w hw => hw) ?_
    rintro i ⟨hi1, hi2⟩
    refine cw_seq ?_
    refine cw_region ?_
    refine sq_r (ry_int rfl rfl rfl) ?_
    refine sq_nil ?_
    refine ex_then ?_
    refine cw_seq ?_
    refine cw_cond rfl (fun h1 => ?_) (fun h1 => ?_)
    · simp only [decide_eq_true_eq] at h1
      have hlt : i < xs.length := by omega
      obtain ⟨r, hr⟩ := get_some hlt
      obtain ⟨q, hq⟩ := get_some (xs := xs) (i := i - 1) (by omega)
      refine cw_skip ?_
      refine ex_then ?_
      refine cw_seq ?_
      refine cw_block ?_
      refine cw_seq ?_
      refine cw_region ?_
      refine sq_r (ry_move rfl) ?_
      refine sq_r (ry_idxSv rfl rfl rfl hs.ok (by rw [hs.len]; omega)) ?_
      refine sq_r (ry_elem rfl (holds_given hs) hr rfl) ?_
      refine sq_allocA fun b4 => ?_
      refine sq_r (ry_assign rfl) ?_
      refine sq_storeW rfl rfl ?_
      refine sq_nil ?_
      refine ex_then ?_
      refine cw_seq ?_
      refine cw_seq ?_
      refine cw_region ?_
      refine sq_r (ry_field (o' := 0) rfl rfl) ?_
      refine sq_r (ry_part rfl) ?_
      refine sq_y (yl_pure rfl) ?_
      refine sq_r (ry_not rfl) ?_
      refine sq_nil ?_
      refine ex_then ?_
      refine cw_cond rfl (fun h2 => ?_) (fun h2 => ?_)
      · refine cw_seq ?_
        refine cw_region ?_
        refine sq_r (ry_assign rfl) ?_
        refine sq_nil ?_
        refine ex_then ?_
        refine cw_ret ?_
        refine ex_pass_ret ?_
        refine ex_block_ret ?_
        refine ex_pass_ret ?_
        refine ex_pass_ret ?_
        refine ex_block_ret ?_
        refine ex_pass_ret ?_
        refine ex_ret (.inl rfl) (res_tmp rfl rfl) (fun w hw => ?_)
        exact ⟨congrArg (fun b => Ending.returned (Value.bool b)) ((tright_no hlt (okAt_may hr (by simpa using h2))).symm), hw.sub (List.nil_sublist _)⟩
      · refine cw_skip ?_
        refine ex_then ?_
        refine cw_seq ?_
        refine cw_quiet (by kernel_rfl) (by kernel_rfl) ?_
        refine qt_r (ry_move rfl) ?_
        refine qt_r (ry_int rfl rfl rfl) ?_
        refine qt_r (ry_move rfl) ?_
        refine qt_gt rfl rfl rfl (fun hg => (ry_move rfl).yl) ?_
        refine qt_gt rfl rfl rfl (fun hg => (ry_move rfl).yl) ?_
        refine qt_gt rfl rfl rfl (fun hg => (ry_sub (ev_c hg rfl) rfl (by omega)).yl) ?_
        refine qt_gt rfl rfl rfl (fun hg => (ry_idxSv (i := i - 1) (ev_c hg rfl) (ev_c hg rfl) (by have := of_decide_eq_true hg; omega) hs.ok (by rw [hs.len]; omega)).yl) ?_
        refine qt_gt rfl rfl rfl (fun hg => (ry_field (ev_c hg rfl) rfl).yl) ?_
        refine qt_gt rfl rfl rfl (fun hg => (ry_elemp (j := 0) (ev_c hg rfl) (holds_given hs) hq rfl (by decide)).yl) ?_
        refine qt_gt rfl rfl rfl (fun hg => (ry_field (o' := 0) rfl rfl).yl) ?_
        refine qt_gt rfl rfl rfl (fun hg => (ry_part (ev_c hg rfl)).yl) ?_
        refine qt_gt rfl rfl rfl (fun hg => yl_pure (evl_cons (ev_c hg rfl) (evl_cons (ev_c hg rfl) evl_nil))) ?_
        refine qt_gt rfl rfl rfl (fun hg => (ry_not (ev_c hg rfl)).yl) ?_
        refine qt_r (ry_and rfl rfl rfl) ?_
        refine qt_nil ?_
        refine ex_then ?_
        refine cw_cond rfl (fun h3 => ?_) (fun h3 => ?_)
        · refine cw_seq ?_
          refine cw_region ?_
          refine sq_r (ry_assign rfl) ?_
          refine sq_nil ?_
          refine ex_then ?_
          refine cw_ret ?_
          refine ex_block_ret ?_
          refine ex_pass_ret ?_
          refine ex_pass_ret ?_
          refine ex_block_ret ?_
          refine ex_pass_ret ?_
          refine ex_ret (.inl rfl) (res_tmp rfl rfl) (fun w hw => ?_)
          exact ⟨congrArg (fun b => Ending.returned (Value.bool b)) ((tright_no hlt (by rw [okAt_eq hr hq, h3]; simp)).symm), hw.sub (List.nil_sublist _)⟩
        · refine cw_skip ?_
          refine ex_block ?_
          refine ex_then ?_
          refine cw_region ?_
          refine sq_r (ry_add rfl rfl (by omega)) ?_
          refine sq_r (ry_move rfl) ?_
          refine sq_nil ?_
          exact ex_again (i + 1) ⟨by omega, by rw [okTo_succ, hi2, okAt_eq hr hq, h3]; simpa using h2⟩ (by omega) (Sub.cons rfl (Sub.cons rfl (Sub.cons rfl (Sub.cons rfl (Sub.nil _))))) (fun w hw => hw.sub (List.nil_sublist _))
    · simp only [decide_eq_false_iff_not] at h1
      refine cw_exit ?_
      refine ex_pass_exit ?_
      refine ex_pass_exit ?_
      refine ex_block_hit ?_
      refine ex_then ?_
      refine cw_seq ?_
      refine cw_region ?_
      refine sq_r (ry_assign rfl) ?_
      refine sq_nil ?_
      refine ex_then ?_
      refine cw_ret ?_
      refine ex_ret (.inl rfl) (res_tmp rfl rfl) (fun w hw => ?_)
      exact ⟨congrArg (fun b => Ending.returned (Value.bool b)) ((tright_all (by omega) (by rwa [show i = xs.length by omega] at hi2)).symm), hw.sub (List.nil_sublist _)⟩

set_option maxRecDepth 20000 in
theorem rright_c (w : World) (s : Sv) (xs : List Rt) (hs : Lies rcells 19 (hp w) s xs) : Calls Try.prog 25 #[s.val] w fun e w' => e = .returned (.bool (tright xs)) ∧ Mem w [] w' := by
  refine calls_of (args := [_]) Try.func25 rfl Try.ntmps25 rfl ?_
  change Cw _ _ _ _ _ [(0, s.val)] []
  refine cw_seq ?_
  refine cw_region ?_
  refine sq_r (ry_assign rfl) ?_
  refine sq_nil ?_
  refine ex_then ?_
  refine cw_seq ?_
  refine cw_seq ?_
  refine cw_region ?_
  refine sq_r (ry_move rfl) ?_
  refine sq_r (ry_lenS rfl hs.ok hs.len) ?_
  refine sq_r (ry_int rfl rfl rfl) ?_
  refine sq_nil ?_
  refine ex_then ?_
  refine cw_cond rfl (fun h0 => ?_) (fun h0 => ?_)
  · simp only [decide_eq_true_eq] at h0
    refine cw_seq ?_
    refine cw_region ?_
    refine sq_r (ry_assign rfl) ?_
    refine sq_nil ?_
    refine ex_then ?_
    refine cw_ret ?_
    refine ex_pass_ret ?_
    refine ex_ret (.inl rfl) (res_tmp rfl rfl) (fun w hw => ?_)
    exact ⟨congrArg (fun b => Ending.returned (Value.bool b)) ((tright_long (by omega)).symm), hw.sub (List.nil_sublist _)⟩
  · simp only [decide_eq_false_iff_not] at h0
    refine cw_skip ?_
    refine ex_then ?_
    refine cw_seq ?_
    refine cw_seq ?_
    refine cw_region ?_
    refine sq_r (ry_assign rfl) ?_
    refine sq_nil ?_
    refine ex_then ?_
    refine cw_block ?_
    refine cw_loop (X := Nat) (fun i => [(3, .int .i64 (i : Nat)), (0, s.val)]) (fun i => []) (fun i => i ≤ xs.length ∧ okTo xs i = true) (fun i => xs.length - i) 0 ⟨by omega, okTo_zero xs⟩ (Sub.cons rfl (Sub.cons rfl (Sub.nil _))) (fun w hw => hw) ?_
    rintro i ⟨hi1, hi2⟩
    refine cw_seq ?_
    refine cw_seq ?_
    refine cw_region ?_
    refine sq_r (ry_move rfl) ?_
    refine sq_r (ry_move rfl) ?_
    refine sq_r (ry_lenS rfl hs.ok hs.len) ?_
    refine sq_r (ry_int rfl rfl rfl) ?_
    refine sq_nil ?_
    refine ex_then ?_
    refine cw_cond rfl (fun h1 => ?_) (fun h1 => ?_)
    · simp only [decide_eq_true_eq] at h1
      have hlt : i < xs.length := by omega
      obtain ⟨r, hr⟩ := get_some hlt
      obtain ⟨q, hq⟩ := get_some (xs := xs) (i := i - 1) (by omega)
      refine cw_skip ?_
      refine ex_then ?_
      refine cw_seq ?_
      refine cw_block ?_
      refine cw_seq ?_
      refine cw_quiet (by kernel_rfl) (by kernel_rfl) ?_
      refine qt_r (ry_move rfl) ?_
      refine qt_r (ry_move rfl) ?_
      refine qt_r (ry_idxSv rfl rfl rfl hs.ok (by rw [hs.len]; omega)) ?_
      refine qt_r (ry_field rfl rfl) ?_
      refine qt_r (ry_elemp (j := 0) rfl (holds_given hs) hr rfl (by decide)) ?_
      refine qt_y (yl_pure rfl) ?_
      refine qt_r (ry_not rfl) ?_
      refine qt_r (ry_move rfl) ?_
      refine qt_gf rfl rfl rfl (fun hg => (ry_move rfl).yl) ?_
      refine qt_gf rfl rfl rfl (fun hg => (ry_int (ev_c hg rfl) rfl rfl).yl) ?_
      refine qt_gf rfl rfl rfl (fun hg => (ry_move (ev_c hg rfl)).yl) ?_
      refine qt_nt rfl rfl rfl (fun hg => (ry_move rfl).yl) ?_
      refine qt_nt rfl rfl rfl (fun hg => (ry_move rfl).yl) ?_
      refine qt_nt rfl rfl rfl (fun hg => (ry_sub (ev_c hg rfl) rfl (by omega)).yl) ?_
      refine qt_nt rfl rfl rfl (fun hg => (ry_idxSv (i := i - 1) (ev_c hg rfl) (ev_c hg rfl) (by have := of_decide_eq_true (and_r hg); omega) hs.ok (by rw [hs.len]; omega)).yl) ?_
      refine qt_nt rfl rfl rfl (fun hg => (ry_field (ev_c hg rfl) rfl).yl) ?_
      refine qt_nt rfl rfl rfl (fun hg => (ry_elemp (j := 0) (ev_c hg rfl) (holds_given hs) hq rfl (by decide)).yl) ?_
      refine qt_nt rfl rfl rfl (fun hg => (ry_move rfl).yl) ?_
      refine qt_nt rfl rfl rfl (fun hg => (ry_move rfl).yl) ?_
      refine qt_nt rfl rfl rfl (fun hg => (ry_idxSv (ev_c hg rfl) (ev_c hg rfl) rfl hs.ok (by rw [hs.len]; omega)).yl) ?_
      refine qt_nt rfl rfl rfl (fun hg => (ry_field (ev_c hg rfl) rfl).yl) ?_
      refine qt_nt rfl rfl rfl (fun hg => (ry_elemp (j := 0) (ev_c hg rfl) (holds_given hs) hr rfl (by decide)).yl) ?_
      refine qt_nt rfl rfl rfl (fun hg => yl_pure (evl_cons (ev_c hg rfl) (evl_cons (ev_c hg rfl) evl_nil))) ?_
      refine qt_nt rfl rfl rfl (fun hg => (ry_not (ev_c hg rfl)).yl) ?_
      refine qt_gf rfl rfl rfl (fun hg => (ry_and (ev_c hg rfl) (ev_cc hg rfl) rfl).yl) ?_
      refine qt_r (ry_or rfl rfl rfl) ?_
      refine qt_nil ?_
      refine ex_then ?_
      refine cw_cond rfl (fun h2 => ?_) (fun h2 => ?_)
      · refine cw_seq ?_
        refine cw_region ?_
        refine sq_r (ry_assign rfl) ?_
        refine sq_nil ?_
        refine ex_then ?_
        refine cw_ret ?_
        refine ex_block_ret ?_
        refine ex_pass_ret ?_
        refine ex_pass_ret ?_
        refine ex_block_ret ?_
        refine ex_pass_ret ?_
        refine ex_ret (.inl rfl) (res_tmp rfl rfl) (fun w hw => ?_)
        exact ⟨congrArg (fun b => Ending.returned (Value.bool b)) ((tright_no hlt (by rw [okAt_eq' hr hq, h2]; rfl)).symm), hw.sub (List.nil_sublist _)⟩
      · refine cw_skip ?_
        refine ex_block ?_
        refine ex_then ?_
        refine cw_region ?_
        refine sq_r (ry_move rfl) ?_
        refine sq_r (ry_add rfl rfl (by omega)) ?_
        refine sq_r (ry_assign rfl) ?_
        refine sq_nil ?_
        exact ex_again (i + 1) ⟨by omega, by rw [okTo_succ, hi2, okAt_eq' hr hq, h2]; rfl⟩ (by omega) (Sub.cons rfl (Sub.cons rfl (Sub.nil _))) (fun w hw => hw)
    · simp only [decide_eq_false_iff_not] at h1
      refine cw_exit ?_
      refine ex_pass_exit ?_
      refine ex_pass_exit ?_
      refine ex_block_hit ?_
      refine ex_then ?_
      refine cw_seq ?_
      refine cw_region ?_
      refine sq_r (ry_assign rfl) ?_
      refine sq_nil ?_
      refine ex_then ?_
      refine cw_ret ?_
      refine ex_ret (.inl rfl) (res_tmp rfl rfl) (fun w hw => ?_)
      exact ⟨congrArg (fun b => Ending.returned (Value.bool b)) ((tright_all (by omega) (by rwa [show i = xs.length by omega] at hi2)).symm), hw.sub (List.nil_sublist _)⟩

set_option maxRecDepth 20000 in
theorem same3_c (w : World) (s t : Sv) (xs ys : List Rt) (hs : Lies rcells 19 (hp w) s xs) (ht : Lies rcells 19 (hp w) t ys) (hb : xs.length < 9223372036854775807) : Calls Try.prog 26 #[s.val, t.val] w fun e w' => e = .returned (.bool (decide (xs = ys))) ∧ Mem w [] w' := by
  refine calls_of (args := [_, _]) Try.func26 rfl Try.ntmps26 rfl ?_
  change Cw _ _ _ _ _ [(0, s.val), (1, t.val)] []
  refine cw_seq ?_
  refine cw_region ?_
  refine sq_r (ry_assign rfl) ?_
  refine sq_nil ?_
  refine ex_then ?_
  refine cw_seq ?_
  refine cw_seq ?_
  refine cw_region ?_
  refine sq_r (ry_move rfl) ?_
  refine sq_r (ry_lenS rfl hs.ok hs.len) ?_
  refine sq_r (ry_move rfl) ?_
  refine sq_r (ry_lenS rfl ht.ok ht.len) ?_
  refine sq_r (ry_int rfl rfl rfl) ?_
  refine sq_nil ?_
  refine ex_then ?_
  refine cw_cond rfl (fun h0 => ?_) (fun h0 => ?_)
  · simp only [Bool.not_eq_true', decide_eq_false_iff_not] at h0
    refine cw_seq ?_
    refine cw_region ?_
    refine sq_r (ry_assign rfl) ?_
    refine sq_nil ?_
    refine ex_then ?_
    refine cw_ret ?_
    refine ex_pass_ret ?_
    refine ex_ret (.inl rfl) (res_tmp rfl rfl) (fun w hw => ?_)
    exact ⟨congrArg (fun b => Ending.returned (Value.bool b)) ((decide_eq_false (fun e => h0 (by rw [e]))).symm), hw.sub (List.nil_sublist _)⟩
  · simp only [Bool.not_eq_false', decide_eq_true_eq] at h0
    refine cw_skip ?_
    refine ex_then ?_
    refine cw_seq ?_
    refine cw_seq ?_
    refine cw_region ?_
    refine sq_r (ry_assign rfl) ?_
    refine sq_nil ?_
    refine ex_then ?_
    refine cw_block ?_
    refine cw_loop (X := Nat) (fun i => [(5, .int .i64 (i : Nat)), (0, s.val), (1, t.val)]) (fun i => []) (fun i => i ≤ xs.length ∧ ∀ j, j < i → xs[j]? = ys[j]?) (fun i => xs.length - i) 0 ⟨by omega, fun j h => by omega⟩ (Sub.cons rfl (Sub.cons rfl (Sub.cons rfl (Sub.nil _)))) (fun w hw => hw) ?_
    rintro i ⟨hi1, hi2⟩
    refine cw_seq ?_
    refine cw_seq ?_
    refine cw_region ?_
    refine sq_r (ry_move rfl) ?_
    refine sq_r (ry_move rfl) ?_
    refine sq_r (ry_lenS rfl hs.ok hs.len) ?_
    refine sq_r (ry_int rfl rfl rfl) ?_
    refine sq_nil ?_
    refine ex_then ?_
    refine cw_cond rfl (fun h1 => ?_) (fun h1 => ?_)
    · simp only [decide_eq_true_eq] at h1
      obtain ⟨r, hr⟩ := get_some (xs := xs) (i := i) (by omega)
      obtain ⟨q, hq⟩ := get_some (xs := ys) (i := i) (by omega)
      refine cw_skip ?_
      refine ex_then ?_
      refine cw_seq ?_
      refine cw_block ?_
      refine cw_seq ?_
      refine cw_quiet (by kernel_rfl) (by kernel_rfl) ?_
      refine qt_r (ry_move rfl) ?_
      refine qt_r (ry_move rfl) ?_
      refine qt_r (ry_idxSv rfl rfl rfl hs.ok (by rw [hs.len]; omega)) ?_
      refine qt_r (ry_elem rfl (holds_given hs) hr rfl) ?_
      refine qt_r (ry_move rfl) ?_
      refine qt_r (ry_move rfl) ?_
      refine qt_r (ry_idxSv rfl rfl rfl ht.ok (by rw [ht.len]; omega)) ?_
      refine qt_r (ry_elem rfl (holds_given ht) hq rfl) ?_
      refine qt_r (ry_ne rfl rfl) ?_
      refine qt_nil ?_
      refine ex_then ?_
      refine cw_cond rfl (fun h2 => ?_) (fun h2 => ?_)
      · refine cw_seq ?_
        refine cw_region ?_
        refine sq_r (ry_assign rfl) ?_
        refine sq_nil ?_
        refine ex_then ?_
        refine cw_ret ?_
        refine ex_block_ret ?_
        refine ex_pass_ret ?_
        refine ex_pass_ret ?_
        refine ex_block_ret ?_
        refine ex_pass_ret ?_
        refine ex_ret (.inl rfl) (res_tmp rfl rfl) (fun w hw => ?_)
        exact ⟨congrArg (fun b => Ending.returned (Value.bool b)) ((decide_eq_false (list_no hr hq (by simpa using h2))).symm), hw.sub (List.nil_sublist _)⟩
      · refine cw_skip ?_
        refine ex_block ?_
        refine ex_then ?_
        refine cw_region ?_
        refine sq_r (ry_move rfl) ?_
        refine sq_r (ry_add rfl rfl (by omega)) ?_
        refine sq_r (ry_assign rfl) ?_
        refine sq_nil ?_
        exact ex_again (i + 1) ⟨by omega, fun j hj => if e : j = i then (by subst e; rw [hr, hq]; simpa using h2) else hi2 j (by omega)⟩ (by omega) (Sub.cons rfl (Sub.cons rfl (Sub.cons rfl (Sub.nil _)))) (fun w hw => hw)
    · simp only [decide_eq_false_iff_not] at h1
      refine cw_exit ?_
      refine ex_pass_exit ?_
      refine ex_pass_exit ?_
      refine ex_block_hit ?_
      refine ex_then ?_
      refine cw_seq ?_
      refine cw_region ?_
      refine sq_r (ry_assign rfl) ?_
      refine sq_nil ?_
      refine ex_then ?_
      refine cw_ret ?_
      refine ex_ret (.inl rfl) (res_tmp rfl rfl) (fun w hw => ?_)
      exact ⟨congrArg (fun b => Ending.returned (Value.bool b)) ((decide_eq_true (list_all (by omega) (fun j hj => hi2 j (by omega)))).symm), hw.sub (List.nil_sublist _)⟩

end Go.Proofs.Ytajhlgdapiihgaa

/- Bytes as numbers, walked. -/
set_option linter.unusedSimpArgs false
set_option linter.unusedVariables false
namespace Go.Proofs.Ytajhlgdapiihgaa
open Go.Eng Go.Kb
set_option maxRecDepth 20000 in
theorem put_c (w : World) (n many : Nat) (hn : n < 2 ^ 64) (hm : 1 ≤ many ∧ many ≤ 8) : Calls Try.prog 103 #[.int .u64 (n : Nat), .int .i64 (many : Nat)] w fun e w' => ∃ s : Sv, e = .returned s.val ∧ s.Ok ∧ s.len = many ∧ Mem w [own benc 1 s (be n many)] w' := by
  refine calls_of (args := [_, _]) Try.func103 rfl Try.ntmps103 rfl ?_
  change Cw _ _ _ _ _ [(0, .int .u64 (n : Nat)), (1, .int .i64 (many : Nat))] []
  refine cw_seq ?_
  refine cw_region ?_
  refine sq_r (ry_assign rfl) ?_
  refine sq_nil ?_
  refine ex_then ?_
  refine cw_seq ?_
  refine cw_region ?_
  refine sq_r (ry_assign rfl) ?_
  refine sq_nil ?_
  refine ex_then ?_
  refine cw_seq ?_
  refine cw_seq ?_
  refine cw_region ?_
  refine sq_r (ry_move rfl) ?_
  refine sq_r (ry_int rfl rfl rfl) ?_
  refine sq_r (ry_move rfl) ?_
  refine sq_gf rfl rfl rfl (fun hg => (ry_move rfl).yl) ?_
  refine sq_gf rfl rfl rfl (fun hg => (ry_int (ev_c hg rfl) rfl rfl).yl) ?_
  refine sq_r (ry_or rfl rfl rfl) ?_
  refine sq_nil ?_
  refine ex_then ?_
  refine cw_cond rfl (fun h0 => ?_) (fun h0 => ?_)
  · exfalso; simp at h0; omega
  · refine cw_skip ?_
    refine ex_then ?_
    refine cw_seq ?_
    refine cw_seq ?_
    refine cw_region ?_
    refine sq_r (ry_assign rfl) ?_
    refine sq_nil ?_
    refine ex_then ?_
    refine cw_block ?_
    refine cw_loop (X := Nat × Sv) (fun x => [(0, .int .u64 (n / 256 ^ x.1 : Nat)), (1, .int .i64 (many : Nat)), (6, .int .i64 (x.1 : Nat)), (5, x.2.val)]) (fun x => [own benc 1 x.2 (be n x.1)]) (fun x => x.1 ≤ many ∧ x.2.Ok ∧ x.2.len = x.1) (fun x => many - x.1) (0, Sv.none) ⟨by omega, Sv.none_ok, rfl⟩ (Sub.cons (look_eq rfl (by simp)) (Sub.cons rfl (Sub.cons rfl (Sub.cons rfl (Sub.nil _))))) (fun w hw => hw.nilOwn benc 1) ?_
    rintro ⟨i, s⟩ ⟨hi1, hi2, hi3⟩
    refine cw_seq ?_
    refine cw_seq ?_
    refine cw_region ?_
    refine sq_r (ry_move rfl) ?_
    refine sq_r (ry_move rfl) ?_
    refine sq_r (ry_int rfl rfl rfl) ?_
    refine sq_nil ?_
    refine ex_then ?_
    refine cw_cond rfl (fun h1 => ?_) (fun h1 => ?_)
    · simp only [decide_eq_true_eq] at h1
      refine cw_skip ?_
      refine ex_then ?_
      refine cw_seq ?_
      refine cw_block ?_
      refine cw_seq ?_
      refine cw_region ?_
      refine sq_r (ry_move rfl) ?_
      refine sq_r (ry_remn rfl rfl rfl rfl (by decide)) ?_
      refine sq_r (ry_conv8 rfl rfl) ?_
      refine sq_buildSlice (enc := benc) [b8 (n / 256 ^ i)] (vals := [_]) rfl (by rw [b8_mod]; rfl) rfl (by decide) (by decide) fun b22 => ?_
      refine sq_r (ry_move rfl) ?_
      refine sq_append (ys := be n i) rfl rfl (by decide) (fun w hw => src_rows Try.underlying83 (by decide) ((inferInstance : Owns _ s _ _ _ _).holds w hw)) (by simp [be_length]; omega) (by simp [be_length]; omega) fun s24 hs24 hl24 => ?_
      refine sq_r (ry_assign rfl) ?_
      refine sq_nil ?_
      refine ex_then ?_
      refine cw_region ?_
      refine sq_r (ry_move rfl) ?_
      refine sq_r (ry_quon rfl rfl rfl rfl (Nat.lt_of_le_of_lt (Nat.div_le_self _ _) hn) (by decide)) ?_
      refine sq_r (ry_assign rfl) ?_
      refine sq_nil ?_
      refine ex_block ?_
      refine ex_then ?_
      refine cw_region ?_
      refine sq_r (ry_move rfl) ?_
      refine sq_r (ry_add rfl rfl (by omega)) ?_
      refine sq_r (ry_assign rfl) ?_
      refine sq_nil ?_
      exact ex_again (i + 1, s24) ⟨by omega, hs24, hl24.trans (by simp [be_length])⟩ (by omega) (Sub.cons (look_eq rfl (by rw [Nat.div_div_eq_div_mul, Nat.pow_succ])) (Sub.cons rfl (Sub.cons rfl (Sub.cons rfl (Sub.nil _))))) (fun w hw => hw.sub (List.Sublist.cons_cons _ (List.nil_sublist _)))
    · simp only [decide_eq_false_iff_not] at h1
      refine cw_exit ?_
      refine ex_pass_exit ?_
      refine ex_pass_exit ?_
      refine ex_block_hit ?_
      refine ex_then ?_
      refine cw_seq ?_
      refine cw_region ?_
      refine sq_r (ry_move rfl) ?_
      refine sq_r (ry_assign rfl) ?_
      refine sq_nil ?_
      refine ex_then ?_
      refine cw_ret ?_
      refine ex_ret (.inl rfl) (res_tmp rfl rfl) (fun w hw => ?_)
      exact ⟨s, rfl, hi2, (show s.len = i from hi3).trans (by omega), by rwa [show i = many by omega] at hw⟩

set_option maxRecDepth 20000 in
theorem get_c (w : World) (s : Sv) (xs : List UInt8) (hs : Lies benc 1 (hp w) s xs) (hm : xs.length ≤ 7) : Calls Try.prog 110 #[s.val] w fun e w' => e = .returned (.int .u64 (de xs : Nat)) ∧ Mem w [] w' := by
  refine calls_of (args := [_]) Try.func110 rfl Try.ntmps110 rfl ?_
  change Cw _ _ _ _ _ [(0, s.val)] []
  refine cw_seq ?_
  refine cw_region ?_
  refine sq_r (ry_assign rfl) ?_
  refine sq_nil ?_
  refine ex_then ?_
  refine cw_seq ?_
  refine cw_region ?_
  refine sq_r (ry_assign rfl) ?_
  refine sq_nil ?_
  refine ex_then ?_
  refine cw_seq ?_
  refine cw_seq ?_
  refine cw_region ?_
  refine sq_r (ry_assign rfl) ?_
  refine sq_nil ?_
  refine ex_then ?_
  refine cw_block ?_
  refine cw_loop (X := Nat) (fun i => [(0, s.val), (3, .int .u64 (de (xs.take i) : Nat)), (4, .int .i64 (i : Nat))]) (fun i => []) (fun i => i ≤ xs.length) (fun i => xs.length - i) 0 (by omega) (Sub.cons rfl (Sub.cons rfl (Sub.cons rfl (Sub.nil _)))) (fun w hw => hw) ?_
  rintro i hi
  refine cw_seq ?_
  refine cw_seq ?_
  refine cw_region ?_
  refine sq_r (ry_move rfl) ?_
  refine sq_r (ry_move rfl) ?_
  refine sq_r (ry_lenS rfl hs.ok hs.len) ?_
  refine sq_r (ry_int rfl rfl rfl) ?_
  refine sq_nil ?_
  refine ex_then ?_
  refine cw_cond rfl (fun h0 => ?_) (fun h0 => ?_)
  · simp only [decide_eq_true_eq] at h0
    obtain ⟨b, hb⟩ := get_some (xs := xs) (i := i) (by omega)
    have hlt : de (xs.take i) < 256 ^ 7 := Nat.lt_of_lt_of_le (de_lt xs i hi) (Nat.pow_le_pow_right (by decide) (by omega))
    have hbl := b.toNat_lt
    refine cw_skip ?_
    refine ex_then ?_
    refine cw_seq ?_
    refine cw_block ?_
    refine cw_region ?_
    refine sq_r (ry_move rfl) ?_
    refine sq_r (ry_muln rfl rfl rfl rfl (by simp only [nb]; omega)) ?_
    refine sq_r (ry_move rfl) ?_
    refine sq_r (ry_move rfl) ?_
    refine sq_r (ry_idxSv rfl rfl rfl hs.ok (by rw [hs.len]; omega)) ?_
    refine sq_r (ry_elemc (j := 0) rfl (holds_given hs) hb rfl (by decide) rfl) ?_
    refine sq_r (ry_convn rfl (by simp only [nb]; omega)) ?_
    refine sq_r (ry_addn rfl rfl rfl rfl (by simp only [nb]; omega)) ?_
    refine sq_r (ry_assign rfl) ?_
    refine sq_nil ?_
    refine ex_block ?_
    refine ex_then ?_
    refine cw_region ?_
    refine sq_r (ry_move rfl) ?_
    refine sq_r (ry_add rfl rfl (by omega)) ?_
    refine sq_r (ry_assign rfl) ?_
    refine sq_nil ?_
    exact ex_again (i + 1) (by omega) (by omega) (Sub.cons rfl (Sub.cons (look_eq rfl (by rw [de_succ hb])) (Sub.cons rfl (Sub.nil _)))) (fun w hw => hw)
  · simp only [decide_eq_false_iff_not] at h0
    refine cw_exit ?_
    refine ex_pass_exit ?_
    refine ex_pass_exit ?_
    refine ex_block_hit ?_
    refine ex_then ?_
    refine cw_seq ?_
    refine cw_region ?_
    refine sq_r (ry_move rfl) ?_
    refine sq_r (ry_assign rfl) ?_
    refine sq_nil ?_
    refine ex_then ?_
    refine cw_ret ?_
    refine ex_ret (.inl rfl) (res_tmp rfl rfl) (fun w hw => ?_)
    exact ⟨by rw [List.take_of_length_le (by omega)], hw⟩



end Go.Proofs.Ytajhlgdapiihgaa

/- A route as bytes, walked. -/
set_option linter.unusedSimpArgs false
set_option linter.unusedVariables false
namespace Go.Proofs.Ytajhlgdapiihgaa
open Go.Eng Go.Kb
theorem k_one (k : Key) : (kcells k).all (·.oneCell') = true := (inferInstance : SizeIs (kcells k) 16).one
set_option maxRecDepth 20000 in
theorem rroute_c (w : World) (r : Rt) : Calls Try.prog 104 #[.agg (rcells r)] w fun e w' => ∃ s : Sv, e = .returned s.val ∧ s.Ok ∧ s.len = 20 ∧ Mem w [own benc 1 s (rbytes r)] w' := by
  refine calls_of (args := [_]) Try.func104 rfl Try.ntmps104 rfl ?_
  change Cw _ _ _ _ _ [(0, .agg (rcells r))] []
  refine cw_seq ?_
  refine cw_region ?_
  refine sq_boxA rfl fun b1 => ?_
  refine sq_r (ry_assign rfl) ?_
  refine sq_nil ?_
  refine ex_then ?_
  refine cw_seq ?_
  refine cw_region ?_
  refine sq_r (ry_assign rfl) ?_
  refine sq_nil ?_
  refine ex_then ?_
  refine cw_cut (X := Sv) (fun s => [(3, s.val), (1, .pointer (some ⟨b1, 0, none⟩))]) (fun s => [own benc 1 s [if r.p.bits = 128 then 1 else 0], blk b1 (rcells r) 30]) (fun s => s.Ok ∧ s.len = 1) ?_ ?_
  · refine cw_seq ?_
    refine cw_region ?_
    refine sq_r (ry_field (o' := 0) rfl rfl) ?_
    refine sq_r (ry_field (o' := 0) rfl rfl) ?_
    refine sq_r (ry_cellc rfl) ?_
    refine sq_r (ry_int rfl rfl rfl) ?_
    refine sq_nil ?_
    refine ex_then ?_
    refine cw_cond rfl (fun h0 => ?_) (fun h0 => ?_)
    · simp only [decide_eq_true_eq] at h0
      refine cw_region ?_
      refine sq_own0 benc 1 (sq_r (ry_move rfl) ?_)
      refine sq_buildSlice (enc := benc) [1] (vals := [_]) rfl (rfl) rfl (by decide) (by decide) fun b10 => ?_
      refine sq_append (s := Sv.none) (ys := [1]) rfl rfl (by decide) (fun w hw => src_rows (s := ⟨false, b10, 0, 1, 1, none⟩) Try.underlying83 (by decide) ((inferInstance : Owns _ _ _ _ _ _).holds w hw)) (by decide) (by decide) fun s11 hs11 hl11 => ?_
      refine sq_r (ry_assign rfl) ?_
      refine sq_nil ?_
      exact ex_meet s11 ⟨hs11, hl11⟩ (Sub.cons rfl (Sub.cons rfl (Sub.nil _))) (fun w hw => by rw [if_pos h0]; exact hw.sub (List.Sublist.cons _ (List.Sublist.refl _)))
    · simp only [decide_eq_false_iff_not] at h0
      refine cw_region ?_
      refine sq_own0 benc 1 (sq_r (ry_move rfl) ?_)
      refine sq_buildSlice (enc := benc) [0] (vals := [_]) rfl (rfl) rfl (by decide) (by decide) fun b13 => ?_
      refine sq_append (s := Sv.none) (ys := [0]) rfl rfl (by decide) (fun w hw => src_rows (s := ⟨false, b13, 0, 1, 1, none⟩) Try.underlying83 (by decide) ((inferInstance : Owns _ _ _ _ _ _).holds w hw)) (by decide) (by decide) fun s14 hs14 hl14 => ?_
      refine sq_r (ry_assign rfl) ?_
      refine sq_nil ?_
      exact ex_meet s14 ⟨hs14, hl14⟩ (Sub.cons rfl (Sub.cons rfl (Sub.nil _))) (fun w hw => by rw [if_neg h0]; exact hw.sub (List.Sublist.cons _ (List.Sublist.refl _)))
  · rintro s ⟨hs, hl⟩
    refine cw_seq ?_
    refine cw_region ?_
    refine sq_r (ry_move rfl) ?_
    refine sq_r (ry_field (o' := 0) rfl rfl) ?_
    refine sq_r (ry_field (o' := 1) rfl rfl) ?_
    refine sq_r (ry_cellc rfl) ?_
    refine sq_r (ry_conv rfl (wrap_b8i _)) ?_
    refine sq_buildSlice (enc := benc) [b8i r.p.len] (vals := [_]) rfl (rfl) rfl (by decide) (by decide) fun b20 => ?_
    refine sq_append (s := s) (ys := [b8i r.p.len]) rfl rfl (by decide) (fun w hw => src_rows (s := ⟨false, b20, 0, 1, 1, none⟩) Try.underlying83 (by decide) ((inferInstance : Owns _ _ _ _ _ _).holds w hw)) (by simp) (by simp) fun s21 hs21 hl21 => ?_
    refine sq_r (ry_assign rfl) ?_
    refine sq_nil ?_
    refine ex_then ?_
    refine cw_seq ?_
    refine cw_seq ?_
    refine cw_region ?_
    refine sq_r (ry_assign rfl) ?_
    refine sq_nil ?_
    refine ex_then ?_
    refine cw_block ?_
    refine cw_loop (X := Nat × Sv) (fun x => [(3, x.2.val), (4, .int .i64 (x.1 : Nat)), (1, .pointer (some ⟨b1, 0, none⟩))]) (fun x => [own benc 1 x.2 (rpre r x.1), blk b1 (rcells r) 30]) (fun x => x.1 ≤ 16 ∧ x.2.Ok ∧ x.2.len = x.1 + 2) (fun x => 16 - x.1) (0, s21) ⟨by omega, hs21, hl21⟩ (Sub.cons rfl (Sub.cons rfl (Sub.cons rfl (Sub.nil _)))) (fun w hw => hw.sub (List.Sublist.cons _ (List.Sublist.refl _))) ?_
    rintro ⟨i, s⟩ ⟨hi1, hi2, hi3⟩
    refine cw_seq ?_
    refine cw_seq ?_
    refine cw_region ?_
    refine sq_r (ry_move rfl) ?_
    refine sq_r (ry_int rfl rfl rfl) ?_
    refine sq_nil ?_
    refine ex_then ?_
    refine cw_cond rfl (fun h1 => ?_) (fun h1 => ?_)
    · simp only [decide_eq_true_eq] at h1
      refine cw_skip ?_
      refine ex_then ?_
      refine cw_seq ?_
      refine cw_block ?_
      refine cw_region ?_
      refine sq_r (ry_move rfl) ?_
      refine sq_r (ry_move rfl) ?_
      refine sq_r (ry_field (o' := 0) rfl rfl) ?_
      refine sq_r (ry_field (o' := 2) rfl rfl) ?_
      refine sq_r (ry_idxA rfl rfl (by omega) (by omega)) ?_
      refine sq_r (ry_cell rfl (by simp only [Int.toNat_natCast, Nat.mul_one]; exact (rcells_p r (2 + i) (by omega)).trans ((pcells_k r.p i).trans (kcells_get _ i (by omega))))) ?_
      refine sq_buildSlice (enc := benc) [b8 (kbyte r.p.key i)] (vals := [_]) rfl (by rw [b8_kbyte]; rfl) rfl (by decide) (by decide) fun b32 => ?_
      refine sq_append (s := s) (ys := [b8 (kbyte r.p.key i)]) rfl rfl (by decide) (fun w hw => src_rows (s := ⟨false, b32, 0, 1, 1, none⟩) Try.underlying83 (by decide) ((inferInstance : Owns _ _ _ _ _ _).holds w hw)) (by rw [rpre_length]; simp only [List.length_cons, List.length_nil]; omega) (by rw [rpre_length]; simp only [List.length_cons, List.length_nil]; omega) fun s33 hs33 hl33 => ?_
      refine sq_r (ry_assign rfl) ?_
      refine sq_nil ?_
      refine ex_block ?_
      refine ex_then ?_
      refine cw_region ?_
      refine sq_r (ry_move rfl) ?_
      refine sq_r (ry_add rfl rfl (by omega)) ?_
      refine sq_r (ry_assign rfl) ?_
      refine sq_nil ?_
      exact ex_again (i + 1, s33) ⟨by omega, hs33, hl33.trans (by simp [rpre_length])⟩ (by omega) (Sub.cons rfl (Sub.cons rfl (Sub.cons rfl (Sub.nil _)))) (fun w hw => by rw [rpre_succ]; exact hw.sub (List.Sublist.cons _ (List.Sublist.refl _)))
    · simp only [decide_eq_false_iff_not] at h1
      obtain rfl : i = 16 := by omega
      refine cw_exit ?_
      refine ex_pass_exit ?_
      refine ex_pass_exit ?_
      refine ex_block_hit ?_
      refine ex_then ?_
      refine cw_seq ?_
      refine cw_region ?_
      refine sq_r (ry_move rfl) ?_
      refine sq_r (ry_field (o' := 18) rfl rfl) ?_
      refine sq_r (ry_cellc rfl) ?_
      refine sq_r (ry_convn rfl (Nat.lt_of_lt_of_le r.hop.toNat_lt (by decide))) ?_
      refine sq_call (val := Sv.val) (ents := fun s => [own benc 1 s (be r.hop.toNat 2)]) (pr := fun s => s.Ok ∧ s.len = 2) rfl (fun w hw => (put_c w r.hop.toNat 2 (Nat.lt_of_lt_of_le r.hop.toNat_lt (by decide)) (by decide)).mono fun e w' ⟨s, h1, h2, h3, h4⟩ => ⟨s, h1, ⟨h2, h3⟩, h4⟩) fun s38 hp38 => ?_
      simp only [List.cons_append, List.nil_append]
      refine sq_append (s := s) (ys := be r.hop.toNat 2) rfl rfl (by decide) (fun w hw => src_rows (s := s38) Try.underlying83 (by decide) ((inferInstance : Owns _ _ _ _ _ _).holds w hw)) (by rw [rpre_length, be_length]; decide) (by rw [rpre_length, be_length]; decide) fun s39 hs39 hl39 => ?_
      refine sq_r (ry_assign rfl) ?_
      refine sq_nil ?_
      refine ex_then ?_
      refine cw_ret ?_
      refine ex_ret (.inl rfl) (res_tmp rfl rfl) (fun w hw => ?_)
      exact ⟨s39, rfl, hs39, hl39.trans (by simp [rpre_length, be_length]), by rw [← rpre_all]; exact hw.sub (List.Sublist.cons _ (List.Sublist.cons_cons _ (List.nil_sublist _)))⟩

end Go.Proofs.Ytajhlgdapiihgaa

/- Arguments of this program, opened. -/
set_option linter.unusedSimpArgs false
set_option linter.unusedVariables false
namespace Go.Proofs.Ytajhlgdapiihgaa
open Go.Eng Go.Kb
instance op2 : OpenT Try.prog 2 Int := open_i64 Try.underlying2 (by kernel_rfl)
instance op3 : OpenT Try.prog 3 Int := open_i64 Try.underlying3 (by kernel_rfl)
instance op4 : OpenT Try.prog 4 Bool := open_bool Try.underlying4 (by kernel_rfl)
instance op5 : OpenT Try.prog 5 UInt8 := open_u8 Try.underlying5 (by kernel_rfl)
instance op6 : OpenT Try.prog 6 UInt8 := open_u8 Try.underlying6 (by kernel_rfl)
instance op28 : OpenT Try.prog 28 UInt16 := open_u16 Try.underlying28 (by kernel_rfl)
instance op31 : OpenT Try.prog 31 Int := open_i64 Try.underlying31 (by kernel_rfl)
instance op239 : OpenT Try.prog 239 UInt8 := open_u8 Try.underlying239 (by kernel_rfl)
instance op240 : OpenT Try.prog 240 UInt8 := open_u8 Try.underlying240 (by kernel_rfl)

instance : Enc kcells 16 := ⟨kcells_size, fun k => (inferInstance : SizeIs (kcells k) 16).one⟩
instance : Deep Key := Deep.flat kcells 16
instance : FlatT Key kcells 16 := ⟨rfl, fun _ => rfl⟩
instance : Plain Key := ⟨fun _ => rfl⟩
instance : Enc pcells 18 := ⟨pcells_size, fun k => (inferInstance : SizeIs (pcells k) 18).one⟩
instance : Deep Pfx := Deep.flat pcells 18
instance : FlatT Pfx pcells 18 := ⟨rfl, fun _ => rfl⟩
instance : Plain Pfx := ⟨fun _ => rfl⟩
instance : Plain Rt := ⟨fun _ => rfl⟩
instance op24 : OpenT Try.prog 24 Key := ⟨by kernel_rfl, fun h hw => by
  obtain ⟨hl, he⟩ := open_elem Try.underlying24 h hw UInt8
  rw [show Try.prog.cellsOf 24 = 16 from by kernel_rfl] at hl
  obtain ⟨l, hll, hlp⟩ := list_of (p := fun i (x : UInt8) => _) he
  refine ⟨kof fun i => (l.getD i 0).toNat, ?_, trivial⟩
  refine List.ext_getElem? fun i => ?_
  rw [Array.getElem?_toList]
  rcases Nat.lt_or_ge i 16 with hi | hi
  · have hx : l[i]? = some (l.getD i 0) := get_getD (by omega)
    have h1 := congrArg (·[0]?) (hlp i _ hx).1
    simp only [List.getElem?_take, List.getElem?_drop] at h1
    rw [if_pos (by decide), show i * Deep.c UInt8 + 0 = i from Nat.mul_one i] at h1
    have h3 : some (Value.int .u8 (l.getD i 0).toNat) = _ := h1
    have e8 : (l.getD i 0).toNat % 2 ^ 8 = (l.getD i 0).toNat := Nat.mod_eq_of_lt (l.getD i 0).toNat_lt
    show (kcells _)[i]? = _
    rw [kcells_get _ _ hi, kbyte_kof _ _ hi, e8, ← h3]
  · show (kcells _)[i]? = _
    rw [kcells_none _ _ hi, List.getElem?_eq_none (by omega)]⟩
instance op26 : OpenT Try.prog 26 Pfx := ⟨by kernel_rfl, fun h hw => by
  obtain ⟨hl, x0, h0, -⟩ := open_field Try.underlying26 h hw (i := 0) (tf := 3) (off := 0) rfl Int
  obtain ⟨-, x1, h1, -⟩ := open_field Try.underlying26 h hw (i := 1) (tf := 3) (off := 1) rfl Int
  obtain ⟨-, x2, h2, -⟩ := open_field Try.underlying26 h hw (i := 2) (tf := 24) (off := 2) rfl Key
  refine ⟨⟨x0, x1, x2⟩, ?_, trivial⟩
  refine Eq.trans ?_ (cut3 (a := 1) (b := 1) (c := 16) (hl.trans (by kernel_rfl)))
  rw [show (Deep.cells (⟨x0, x1, x2⟩ : Pfx)).toList = (Deep.cells x0).toList ++ (Deep.cells x1).toList ++ (Deep.cells x2).toList from by show (pcells _).toList = _; unfold pcells; rw [Array.toList_append]; rfl, h0, h1, h2]
  rfl⟩
instance op30 : OpenT Try.prog 30 Rt := ⟨by kernel_rfl, fun h hw => by
  obtain ⟨hl, x0, h0, -⟩ := open_field Try.underlying30 h hw (i := 0) (tf := 26) (off := 0) rfl Pfx
  obtain ⟨-, x1, h1, -⟩ := open_field Try.underlying30 h hw (i := 1) (tf := 28) (off := 18) rfl UInt16
  refine ⟨⟨x0, x1⟩, ?_, trivial⟩
  refine Eq.trans ?_ (cut2 (a := 18) (b := 1) (hl.trans (by kernel_rfl)))
  rw [show (Deep.cells (⟨x0, x1⟩ : Rt)).toList = (Deep.cells x0).toList ++ (Deep.cells x1).toList from by show (rcells _).toList = _; unfold rcells; rw [Array.toList_append]; rfl, h0, h1]
  rfl⟩


instance op22 : OpenT Try.prog 22 (Sl Rt) := open_sl Try.underlying22 (by kernel_rfl) (by decide) (by kernel_rfl)
instance op67 : OpenT Try.prog 67 (Sl UInt16) := open_sl Try.underlying67 (by kernel_rfl) (by decide) (by kernel_rfl)
instance op83 : OpenT Try.prog 83 (Sl UInt8) := open_sl Try.underlying83 (by kernel_rfl) (by decide) (by kernel_rfl)
instance op104 : OpenT Try.prog 104 (Sl Int) := open_sl Try.underlying104 (by kernel_rfl) (by decide) (by kernel_rfl)
instance op109 : OpenT Try.prog 109 (Sl (Sl UInt8)) := open_sl Try.underlying109 (by kernel_rfl) (by decide) (by kernel_rfl)
instance op126 : OpenT Try.prog 126 (Sl Key) := open_sl Try.underlying126 (by kernel_rfl) (by decide) (by kernel_rfl)

end Go.Proofs.Ytajhlgdapiihgaa

/- Contracts as classes. -/
set_option linter.unusedSimpArgs false
set_option linter.unusedVariables false
namespace Go.Proofs.Ytajhlgdapiihgaa
open Go.Eng Go.Kb
instance right_i {w0 : World} {L : List Ent} {s : Sv} {ss : List Rt} [h : HdE w0 L rcells 19 s ss] : FnQ Try.prog 34 w0 L [s.val] (.bool (tright ss)) True := ⟨fun _ w hw => right_c w s ss (h.h w hw)⟩
instance rright_i {w0 : World} {L : List Ent} {s : Sv} {ss : List Rt} [h : HdE w0 L rcells 19 s ss] : FnQ Try.prog 25 w0 L [s.val] (.bool (tright ss)) True := ⟨fun _ w hw => rright_c w s ss (h.h w hw)⟩
instance same3_i {w0 : World} {L : List Ent} {s t : Sv} {ss ts : List Rt} [h : HdE w0 L rcells 19 s ss] [h2 : HdE w0 L rcells 19 t ts] : FnQ Try.prog 26 w0 L [s.val, t.val] (.bool (decide (ss = ts))) (ss.length < 9223372036854775807) := ⟨fun hp w hw => same3_c w s t ss ts (h.h w hw) (h2.h w hw) hp⟩
instance get_i {w0 : World} {L : List Ent} {s : Sv} {ss : List UInt8} [h : HdE w0 L benc 1 s ss] : FnQ Try.prog 110 w0 L [s.val] (.int .u64 (de ss : Nat)) (ss.length ≤ 7) := ⟨fun hp w hw => get_c w s ss (h.h w hw) hp⟩
instance put_i {w0 : World} {L : List Ent} {n many : Nat} : FnC Try.prog 103 w0 L [.int .u64 (n : Nat), .int .i64 (many : Nat)] Sv (fun s => s.val) (fun s => own benc 1 s (be n many) :: L) (fun _ => True) (n < 2 ^ 64 ∧ 1 ≤ many ∧ many ≤ 8) := ⟨fun hp w hw => (put_c w n many hp.1 hp.2).mono fun e w' ⟨s, h1, h2, h3, h4⟩ => ⟨s, h1, trivial, hw.call h4⟩⟩
instance rroute_i {w0 : World} {L : List Ent} {r : Rt} : FnC Try.prog 104 w0 L [.agg (rcells r)] Sv (fun s => s.val) (fun s => own benc 1 s (rbytes r) :: L) (fun _ => True) True := ⟨fun _ w hw => (rroute_c w r).mono fun e w' ⟨s, h1, h2, h3, h4⟩ => ⟨s, h1, trivial, hw.call h4⟩⟩

end Go.Proofs.Ytajhlgdapiihgaa

/- Nodes, ways and tries as cells of this program. -/
set_option linter.unusedSimpArgs false
set_option linter.unusedVariables false
namespace Go.Proofs.Ytajhlgdapiihgaa
open Go.Eng Go.Kb

instance : ZeroT Try.prog 160 (.agg (ncells Nd.zero)) := ⟨by kernel_rfl⟩
instance : ZeroT Try.prog 156 (.agg (slcells Slt.no)) := ⟨by kernel_rfl⟩
instance : ZeroT Try.prog 76 (.agg (tcells ⟨0, ⟨Sv.none, []⟩⟩)) := ⟨by kernel_rfl⟩
instance : ZeroT Try.prog 153 (.agg (tcells ⟨0, ⟨Sv.none, []⟩⟩)) := ⟨by kernel_rfl⟩
instance : ZeroT Try.prog 3 (.int .i64 0) := ⟨by kernel_rfl⟩
instance : BuildT Try.prog 160 [] (.agg (ncells Nd.zero)) := ⟨fun w => by kernel_rfl⟩
instance (n : Int) (h : UInt16) : BuildT Try.prog 156 [(0, .int .i64 n), (1, .int .u16 h.toNat)] (.agg (slcells ⟨n, h⟩)) := ⟨fun w => by kernel_rfl⟩
instance : BuildT Try.prog 76 [] (.agg (tcells ⟨0, ⟨Sv.none, []⟩⟩)) := ⟨fun w => by kernel_rfl⟩
instance (n : Int) : BuildT Try.prog 76 [(0, .int .i64 n)] (.agg (tcells ⟨n, ⟨Sv.none, []⟩⟩)) := ⟨fun w => by kernel_rfl⟩
theorem tri_build (n : Int) (s : Sv) (xs : List Nd) (w : World) : (Instr.build 76 #[(0, .int .i64 n), (1, s.val)]).run Try.prog w = .ok (.agg (tcells ⟨n, ⟨s, xs⟩⟩)) w := by
  unfold tcells
  obtain ⟨e, b, o, l, c, p⟩ := s
  cases e <;> kernel_rfl
instance (t : Tri) : BuildT Try.prog 153 [(0, .agg (tcells t))] (.agg (tcells t)) := ⟨fun w => by
  obtain ⟨n, ⟨⟨e, b, o, l, c, p⟩, xs⟩⟩ := t
  unfold tcells
  cases e <;> kernel_rfl⟩
theorem partSl (d : Nat) : PartT Try.prog (d + 1 + 1) 156 true ([0] ++ ([0] ++ [])) := ⟨⟨_, Try.underlying156, rfl⟩, by kernel_rfl, (fun h => by cases h),
  eqF_struct Try.underlying156 (by kernel_rfl) ⟨by decide, rfl, _, _, _, rfl, ⟨⟨_, Try.underlying3, rfl⟩, by kernel_rfl, fun _ => rfl, eqF_int Try.underlying3⟩, by decide, rfl, _, _, _, rfl, ⟨⟨_, Try.underlying28, rfl⟩, by kernel_rfl, fun _ => rfl, eqF_int Try.underlying28⟩, rfl⟩⟩
theorem partAS (d : Nat) : PartT Try.prog (d + 1 + 1 + 1) 157 true (List.replicate 16 ([0] ++ ([0] ++ []))).flatten := ⟨⟨_, Try.underlying157, rfl⟩, by kernel_rfl, (fun h => by cases h), eqF_arr Try.underlying157 (partSl d)⟩
theorem partAI (d : Nat) : PartT Try.prog (d + 1 + 1) 158 true (List.replicate 16 [0]).flatten := ⟨⟨_, Try.underlying158, rfl⟩, by kernel_rfl, (fun h => by cases h), eqF_arr Try.underlying158 ⟨⟨_, Try.underlying3, rfl⟩, by kernel_rfl, fun _ => rfl, eqF_int Try.underlying3⟩⟩
theorem stoodN : Try.prog.stoodInHeld 160 = false := by kernel_rfl
theorem partN (d : Nat) : PartT Try.prog (d + 1 + 1 + 1 + 1) 160 true ((List.replicate 16 ([0] ++ ([0] ++ []))).flatten ++ ((List.replicate 16 [0]).flatten ++ [])) := ⟨⟨_, Try.underlying160, rfl⟩, by kernel_rfl, (fun h => by cases h),
  eqF_struct Try.underlying160 stoodN ⟨by decide, rfl, _, _, _, rfl, partAS d, by decide, rfl, _, _, _, rfl, partAI (d + 1), rfl⟩⟩
theorem guardN : Try.prog.eqGuardType Try.prog.depth 160 = false := by kernel_rfl
instance (a b : Nd) : EqV Try.prog 160 (.agg (ncells a)) (.agg (ncells b)) (decide (a = b)) :=
  (partN 9996).eq.val rfl guardN (ncells_size a) (ncells_size b) (fun i k hk => by
    have h0 : k = 0 := by
      have : k ∈ ((List.replicate 16 ([0] ++ ([0] ++ []))).flatten ++ ((List.replicate 16 [0]).flatten ++ [])) := List.mem_of_getElem? hk
      simpa using this
    subst h0
    have hi : i < 48 := (List.getElem?_eq_some_iff.1 hk).1
    refine ⟨_, _, ncells_get a i hi, ncells_get b i hi, ?_⟩
    unfold ncell; split
    · split <;> rfl
    · rfl) (by rw [decide_eq_true_iff]; exact ⟨ncells_inj, fun h => by rw [h]⟩)

end Go.Proofs.Ytajhlgdapiihgaa

