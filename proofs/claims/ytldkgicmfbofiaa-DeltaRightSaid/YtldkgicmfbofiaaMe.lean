/- Is a table right: walked. -/
import Derived.Test.YtldkgicmfbofiaaMd
import Derived.Test.YtldkgicmfbofiaaMc
import Derived.Test.YtldkgicmfbofiaaMb

set_option linter.unusedSimpArgs false
set_option linter.unusedVariables false
namespace Go.Proofs.Ytldkgicmfbofiaa
open Go.Eng Go.Kb
set_option maxRecDepth 20000 in
theorem right_c (w : World) (s : Sv) (xs : List Rt) (hs : Lies rcells 19 (hp w) s xs) : Calls Try.prog 18 #[s.val] w fun e w' => e = .returned (.bool (tright xs)) ∧ Mem w [] w' := by
 refine calls_of (args := [_]) Try.func18 rfl Try.ntmps18 rfl ?_
 change Cw _ _ _ _ _ [(0, s.val)] []
 refine cw_seq ?_
 refine cw_region ?_
 refine sq_r (ry_assign rfl) ?_
 refine sq_nil ?_
 refine ex_then ?_
 refine cw_seq ?_
 refine cw_seq ?_
 refine cw_region ?_
 refine sq_r (ry_move rfl) ?_
 refine sq_r (ry_lenS rfl hs.ok hs.len) ?_
 refine sq_r (ry_int rfl rfl rfl) ?_
 refine sq_nil ?_
 refine ex_then ?_
 refine cw_cond rfl (fun h0 => ?_) (fun h0 => ?_)
 ·
  simp only [decide_eq_true_eq] at h0
  refine cw_seq ?_
  refine cw_region ?_
  refine sq_r (ry_assign rfl) ?_
  refine sq_nil ?_
  refine ex_then ?_
  refine cw_ret ?_
  refine ex_pass_ret ?_
  refine ex_ret (.inl rfl) (res_tmp rfl rfl) (fun w hw => ?_)
  exact ⟨congrArg (fun b => Ending.returned (Value.bool b)) ((tright_long (by omega)).symm), hw.sub (List.nil_sublist _)⟩
 ·
  simp only [decide_eq_false_iff_not] at h0
  refine cw_skip ?_
  refine ex_then ?_
  refine cw_seq ?_
  refine cw_seq ?_
  refine cw_region ?_
  refine sq_r (ry_move rfl) ?_
  refine sq_r (ry_lenS rfl hs.ok hs.len) ?_
  refine sq_r (ry_move rfl) ?_
  refine sq_nil ?_
  refine ex_then ?_
  refine cw_block ?_
  refine cw_loop (X := Nat) (fun i => [(10, .int .i64 (i : Nat)), (9, .int .i64 (xs.length : Nat)), (8, s.val), (0, s.val)]) (fun i => []) (fun i => i ≤ xs.length ∧ okTo xs i = true) (fun i => xs.length - i) 0 ⟨by omega, okTo_zero xs⟩ (Sub.cons rfl (Sub.cons rfl (Sub.cons rfl (Sub.cons rfl (Sub.nil _))))) (fun w hw => hw) ?_
  rintro i ⟨hi1, hi2⟩
  refine cw_seq ?_
  refine cw_region ?_
  refine sq_r (ry_int rfl rfl rfl) ?_
  refine sq_nil ?_
  refine ex_then ?_
  refine cw_seq ?_
  refine cw_cond rfl (fun h1 => ?_) (fun h1 => ?_)
  ·
   simp only [decide_eq_true_eq] at h1
   have hlt : i < xs.length := by omega
   obtain ⟨r, hr⟩ := get_some hlt
   obtain ⟨q, hq⟩ := get_some (xs := xs) (i := i - 1) (by omega)
   refine cw_skip ?_
   refine ex_then ?_
   refine cw_seq ?_
   refine cw_block ?_
   refine cw_seq ?_
   refine cw_region ?_
   refine sq_r (ry_move rfl) ?_
   refine sq_r (ry_idxSv rfl rfl rfl hs.ok (by rw [hs.len]; omega)) ?_
   refine sq_r (ry_elem rfl (holds_given hs) hr rfl) ?_
   refine sq_allocA fun b4 => ?_
   refine sq_r (ry_assign rfl) ?_
   refine sq_storeW rfl rfl ?_
   refine sq_nil ?_
   refine ex_then ?_
   refine cw_seq ?_
   refine cw_seq ?_
   refine cw_region ?_
   refine sq_r (ry_field (o' := 0) rfl rfl) ?_
   refine sq_r (ry_part rfl) ?_
   refine sq_y (yl_pure rfl) ?_
   refine sq_r (ry_not rfl) ?_
   refine sq_nil ?_
   refine ex_then ?_
   refine cw_cond rfl (fun h2 => ?_) (fun h2 => ?_)
   ·
    refine cw_seq ?_
    refine cw_region ?_
    refine sq_r (ry_assign rfl) ?_
    refine sq_nil ?_
    refine ex_then ?_
    refine cw_ret ?_
    refine ex_pass_ret ?_
    refine ex_block_ret ?_
    refine ex_pass_ret ?_
    refine ex_pass_ret ?_
    refine ex_block_ret ?_
    refine ex_pass_ret ?_
    refine ex_ret (.inl rfl) (res_tmp rfl rfl) (fun w hw => ?_)
    exact ⟨congrArg (fun b => Ending.returned (Value.bool b)) ((tright_no hlt (okAt_may hr (by simpa using h2))).symm), hw.sub (List.nil_sublist _)⟩
   ·
    refine cw_skip ?_
    refine ex_then ?_
    refine cw_seq ?_
    refine cw_quiet (by kernel_rfl) (by kernel_rfl) ?_
    refine qt_r (ry_move rfl) ?_
    refine qt_r (ry_int rfl rfl rfl) ?_
    refine qt_r (ry_move rfl) ?_
    refine qt_gt rfl rfl rfl (fun hg => (ry_move rfl).yl) ?_
    refine qt_gt rfl rfl rfl (fun hg => (ry_move rfl).yl) ?_
    refine qt_gt rfl rfl rfl (fun hg => (ry_sub (ev_c hg rfl) rfl (by omega)).yl) ?_
    refine qt_gt rfl rfl rfl (fun hg => (ry_idxSv (i := i - 1) (ev_c hg rfl) (ev_c hg rfl) (by have := of_decide_eq_true hg; omega) hs.ok (by rw [hs.len]; omega)).yl) ?_
    refine qt_gt rfl rfl rfl (fun hg => (ry_field (ev_c hg rfl) rfl).yl) ?_
    refine qt_gt rfl rfl rfl (fun hg => (ry_elemp (j := 0) (ev_c hg rfl) (holds_given hs) hq rfl (by decide)).yl) ?_
    refine qt_gt rfl rfl rfl (fun hg => (ry_field (o' := 0) rfl rfl).yl) ?_
    refine qt_gt rfl rfl rfl (fun hg => (ry_part (ev_c hg rfl)).yl) ?_
    refine qt_gt rfl rfl rfl (fun hg => yl_pure (evl_cons (ev_c hg rfl) (evl_cons (ev_c hg rfl) evl_nil))) ?_
    refine qt_gt rfl rfl rfl (fun hg => (ry_not (ev_c hg rfl)).yl) ?_
    refine qt_r (ry_and rfl rfl rfl) ?_
    refine qt_nil ?_
    refine ex_then ?_
    refine cw_cond rfl (fun h3 => ?_) (fun h3 => ?_)
    ·
     refine cw_seq ?_
     refine cw_region ?_
     refine sq_r (ry_assign rfl) ?_
     refine sq_nil ?_
     refine ex_then ?_
     refine cw_ret ?_
     refine ex_block_ret ?_
     refine ex_pass_ret ?_
     refine ex_pass_ret ?_
     refine ex_block_ret ?_
     refine ex_pass_ret ?_
     refine ex_ret (.inl rfl) (res_tmp rfl rfl) (fun w hw => ?_)
     exact ⟨congrArg (fun b => Ending.returned (Value.bool b)) ((tright_no hlt (by rw [okAt_eq hr hq, h3]; simp)).symm), hw.sub (List.nil_sublist _)⟩
    ·
     refine cw_skip ?_
     refine ex_block ?_
     refine ex_then ?_
     refine cw_region ?_
     refine sq_r (ry_add rfl rfl (by omega)) ?_
     refine sq_r (ry_move rfl) ?_
     refine sq_nil ?_
     exact ex_again (i + 1) ⟨by omega, by rw [okTo_succ, hi2, okAt_eq hr hq, h3]; simpa using h2⟩ (by omega) (Sub.cons rfl (Sub.cons rfl (Sub.cons rfl (Sub.cons rfl (Sub.nil _))))) (fun w hw => hw.sub (List.nil_sublist _))
  ·
   simp only [decide_eq_false_iff_not] at h1
   refine cw_exit ?_
   refine ex_pass_exit ?_
   refine ex_pass_exit ?_
   refine ex_block_hit ?_
   refine ex_then ?_
   refine cw_seq ?_
   refine cw_region ?_
   refine sq_r (ry_assign rfl) ?_
   refine sq_nil ?_
   refine ex_then ?_
   refine cw_ret ?_
   refine ex_ret (.inl rfl) (res_tmp rfl rfl) (fun w hw => ?_)
   exact ⟨congrArg (fun b => Ending.returned (Value.bool b)) ((tright_all (by omega) (by rwa [show i = xs.length by omega] at hi2)).symm), hw.sub (List.nil_sublist _)⟩

set_option maxRecDepth 20000 in
theorem rright_c (w : World) (s : Sv) (xs : List Rt) (hs : Lies rcells 19 (hp w) s xs) : Calls Try.prog 17 #[s.val] w fun e w' => e = .returned (.bool (tright xs)) ∧ Mem w [] w' := by
 refine calls_of (args := [_]) Try.func17 rfl Try.ntmps17 rfl ?_
 change Cw _ _ _ _ _ [(0, s.val)] []
 refine cw_seq ?_
 refine cw_region ?_
 refine sq_r (ry_assign rfl) ?_
 refine sq_nil ?_
 refine ex_then ?_
 refine cw_seq ?_
 refine cw_seq ?_
 refine cw_region ?_
 refine sq_r (ry_move rfl) ?_
 refine sq_r (ry_lenS rfl hs.ok hs.len) ?_
 refine sq_r (ry_int rfl rfl rfl) ?_
 refine sq_nil ?_
 refine ex_then ?_
 refine cw_cond rfl (fun h0 => ?_) (fun h0 => ?_)
 ·
  simp only [decide_eq_true_eq] at h0
  refine cw_seq ?_
  refine cw_region ?_
  refine sq_r (ry_assign rfl) ?_
  refine sq_nil ?_
  refine ex_then ?_
  refine cw_ret ?_
  refine ex_pass_ret ?_
  refine ex_ret (.inl rfl) (res_tmp rfl rfl) (fun w hw => ?_)
  exact ⟨congrArg (fun b => Ending.returned (Value.bool b)) ((tright_long (by omega)).symm), hw.sub (List.nil_sublist _)⟩
 ·
  simp only [decide_eq_false_iff_not] at h0
  refine cw_skip ?_
  refine ex_then ?_
  refine cw_seq ?_
  refine cw_seq ?_
  refine cw_region ?_
  refine sq_r (ry_assign rfl) ?_
  refine sq_nil ?_
  refine ex_then ?_
  refine cw_block ?_
  refine cw_loop (X := Nat) (fun i => [(3, .int .i64 (i : Nat)), (0, s.val)]) (fun i => []) (fun i => i ≤ xs.length ∧ okTo xs i = true) (fun i => xs.length - i) 0 ⟨by omega, okTo_zero xs⟩ (Sub.cons rfl (Sub.cons rfl (Sub.nil _))) (fun w hw => hw) ?_
  rintro i ⟨hi1, hi2⟩
  refine cw_seq ?_
  refine cw_seq ?_
  refine cw_region ?_
  refine sq_r (ry_move rfl) ?_
  refine sq_r (ry_move rfl) ?_
  refine sq_r (ry_lenS rfl hs.ok hs.len) ?_
  refine sq_r (ry_int rfl rfl rfl) ?_
  refine sq_nil ?_
  refine ex_then ?_
  refine cw_cond rfl (fun h1 => ?_) (fun h1 => ?_)
  ·
   simp only [decide_eq_true_eq] at h1
   have hlt : i < xs.length := by omega
   obtain ⟨r, hr⟩ := get_some hlt
   obtain ⟨q, hq⟩ := get_some (xs := xs) (i := i - 1) (by omega)
   refine cw_skip ?_
   refine ex_then ?_
   refine cw_seq ?_
   refine cw_block ?_
   refine cw_seq ?_
   refine cw_quiet (by kernel_rfl) (by kernel_rfl) ?_
   refine qt_r (ry_move rfl) ?_
   refine qt_r (ry_move rfl) ?_
   refine qt_r (ry_idxSv rfl rfl rfl hs.ok (by rw [hs.len]; omega)) ?_
   refine qt_r (ry_field rfl rfl) ?_
   refine qt_r (ry_elemp (j := 0) rfl (holds_given hs) hr rfl (by decide)) ?_
   refine qt_y (yl_pure rfl) ?_
   refine qt_r (ry_not rfl) ?_
   refine qt_r (ry_move rfl) ?_
   refine qt_gf rfl rfl rfl (fun hg => (ry_move rfl).yl) ?_
   refine qt_gf rfl rfl rfl (fun hg => (ry_int (ev_c hg rfl) rfl rfl).yl) ?_
   refine qt_gf rfl rfl rfl (fun hg => (ry_move (ev_c hg rfl)).yl) ?_
   refine qt_nt rfl rfl rfl (fun hg => (ry_move rfl).yl) ?_
   refine qt_nt rfl rfl rfl (fun hg => (ry_move rfl).yl) ?_
   refine qt_nt rfl rfl rfl (fun hg => (ry_sub (ev_c hg rfl) rfl (by omega)).yl) ?_
   refine qt_nt rfl rfl rfl (fun hg => (ry_idxSv (i := i - 1) (ev_c hg rfl) (ev_c hg rfl) (by have := of_decide_eq_true (and_r hg); omega) hs.ok (by rw [hs.len]; omega)).yl) ?_
   refine qt_nt rfl rfl rfl (fun hg => (ry_field (ev_c hg rfl) rfl).yl) ?_
   refine qt_nt rfl rfl rfl (fun hg => (ry_elemp (j := 0) (ev_c hg rfl) (holds_given hs) hq rfl (by decide)).yl) ?_
   refine qt_nt rfl rfl rfl (fun hg => (ry_move rfl).yl) ?_
   refine qt_nt rfl rfl rfl (fun hg => (ry_move rfl).yl) ?_
   refine qt_nt rfl rfl rfl (fun hg => (ry_idxSv (ev_c hg rfl) (ev_c hg rfl) rfl hs.ok (by rw [hs.len]; omega)).yl) ?_
   refine qt_nt rfl rfl rfl (fun hg => (ry_field (ev_c hg rfl) rfl).yl) ?_
   refine qt_nt rfl rfl rfl (fun hg => (ry_elemp (j := 0) (ev_c hg rfl) (holds_given hs) hr rfl (by decide)).yl) ?_
   refine qt_nt rfl rfl rfl (fun hg => yl_pure (evl_cons (ev_c hg rfl) (evl_cons (ev_c hg rfl) evl_nil))) ?_
   refine qt_nt rfl rfl rfl (fun hg => (ry_not (ev_c hg rfl)).yl) ?_
   refine qt_gf rfl rfl rfl (fun hg => (ry_and (ev_c hg rfl) (ev_cc hg rfl) rfl).yl) ?_
   refine qt_r (ry_or rfl rfl rfl) ?_
   refine qt_nil ?_
   refine ex_then ?_
   refine cw_cond rfl (fun h2 => ?_) (fun h2 => ?_)
   ·
    refine cw_seq ?_
    refine cw_region ?_
    refine sq_r (ry_assign rfl) ?_
    refine sq_nil ?_
    refine ex_then ?_
    refine cw_ret ?_
    refine ex_block_ret ?_
    refine ex_pass_ret ?_
    refine ex_pass_ret ?_
    refine ex_block_ret ?_
    refine ex_pass_ret ?_
    refine ex_ret (.inl rfl) (res_tmp rfl rfl) (fun w hw => ?_)
    exact ⟨congrArg (fun b => Ending.returned (Value.bool b)) ((tright_no hlt (by rw [okAt_eq' hr hq, h2]; rfl)).symm), hw.sub (List.nil_sublist _)⟩
   ·
    refine cw_skip ?_
    refine ex_block ?_
    refine ex_then ?_
    refine cw_region ?_
    refine sq_r (ry_move rfl) ?_
    refine sq_r (ry_add rfl rfl (by omega)) ?_
    refine sq_r (ry_assign rfl) ?_
    refine sq_nil ?_
    exact ex_again (i + 1) ⟨by omega, by rw [okTo_succ, hi2, okAt_eq' hr hq, h2]; rfl⟩ (by omega) (Sub.cons rfl (Sub.cons rfl (Sub.nil _))) (fun w hw => hw)
  ·
   simp only [decide_eq_false_iff_not] at h1
   refine cw_exit ?_
   refine ex_pass_exit ?_
   refine ex_pass_exit ?_
   refine ex_block_hit ?_
   refine ex_then ?_
   refine cw_seq ?_
   refine cw_region ?_
   refine sq_r (ry_assign rfl) ?_
   refine sq_nil ?_
   refine ex_then ?_
   refine cw_ret ?_
   refine ex_ret (.inl rfl) (res_tmp rfl rfl) (fun w hw => ?_)
   exact ⟨congrArg (fun b => Ending.returned (Value.bool b)) ((tright_all (by omega) (by rwa [show i = xs.length by omega] at hi2)).symm), hw.sub (List.nil_sublist _)⟩

set_option maxRecDepth 20000 in
theorem same3_c (w : World) (s t : Sv) (xs ys : List Rt) (hs : Lies rcells 19 (hp w) s xs) (ht : Lies rcells 19 (hp w) t ys) (hb : xs.length < 9223372036854775807) : Calls Try.prog 19 #[s.val, t.val] w fun e w' => e = .returned (.bool (decide (xs = ys))) ∧ Mem w [] w' := by
 refine calls_of (args := [_, _]) Try.func19 rfl Try.ntmps19 rfl ?_
 change Cw _ _ _ _ _ [(0, s.val), (1, t.val)] []
 refine cw_seq ?_
 refine cw_region ?_
 refine sq_r (ry_assign rfl) ?_
 refine sq_nil ?_
 refine ex_then ?_
 refine cw_seq ?_
 refine cw_seq ?_
 refine cw_region ?_
 refine sq_r (ry_move rfl) ?_
 refine sq_r (ry_lenS rfl hs.ok hs.len) ?_
 refine sq_r (ry_move rfl) ?_
 refine sq_r (ry_lenS rfl ht.ok ht.len) ?_
 refine sq_r (ry_int rfl rfl rfl) ?_
 refine sq_nil ?_
 refine ex_then ?_
 refine cw_cond rfl (fun h0 => ?_) (fun h0 => ?_)
 ·
  simp only [Bool.not_eq_true', decide_eq_false_iff_not] at h0
  refine cw_seq ?_
  refine cw_region ?_
  refine sq_r (ry_assign rfl) ?_
  refine sq_nil ?_
  refine ex_then ?_
  refine cw_ret ?_
  refine ex_pass_ret ?_
  refine ex_ret (.inl rfl) (res_tmp rfl rfl) (fun w hw => ?_)
  exact ⟨congrArg (fun b => Ending.returned (Value.bool b)) ((decide_eq_false (fun e => h0 (by rw [e]))).symm), hw.sub (List.nil_sublist _)⟩
 ·
  simp only [Bool.not_eq_false', decide_eq_true_eq] at h0
  refine cw_skip ?_
  refine ex_then ?_
  refine cw_seq ?_
  refine cw_seq ?_
  refine cw_region ?_
  refine sq_r (ry_assign rfl) ?_
  refine sq_nil ?_
  refine ex_then ?_
  refine cw_block ?_
  refine cw_loop (X := Nat) (fun i => [(5, .int .i64 (i : Nat)), (0, s.val), (1, t.val)]) (fun i => []) (fun i => i ≤ xs.length ∧ ∀ j, j < i → xs[j]? = ys[j]?) (fun i => xs.length - i) 0 ⟨by omega, fun j h => by omega⟩ (Sub.cons rfl (Sub.cons rfl (Sub.cons rfl (Sub.nil _)))) (fun w hw => hw) ?_
  rintro i ⟨hi1, hi2⟩
  refine cw_seq ?_
  refine cw_seq ?_
  refine cw_region ?_
  refine sq_r (ry_move rfl) ?_
  refine sq_r (ry_move rfl) ?_
  refine sq_r (ry_lenS rfl hs.ok hs.len) ?_
  refine sq_r (ry_int rfl rfl rfl) ?_
  refine sq_nil ?_
  refine ex_then ?_
  refine cw_cond rfl (fun h1 => ?_) (fun h1 => ?_)
  ·
   simp only [decide_eq_true_eq] at h1
   obtain ⟨r, hr⟩ := get_some (xs := xs) (i := i) (by omega)
   obtain ⟨q, hq⟩ := get_some (xs := ys) (i := i) (by omega)
   refine cw_skip ?_
   refine ex_then ?_
   refine cw_seq ?_
   refine cw_block ?_
   refine cw_seq ?_
   refine cw_quiet (by kernel_rfl) (by kernel_rfl) ?_
   refine qt_r (ry_move rfl) ?_
   refine qt_r (ry_move rfl) ?_
   refine qt_r (ry_idxSv rfl rfl rfl hs.ok (by rw [hs.len]; omega)) ?_
   refine qt_r (ry_elem rfl (holds_given hs) hr rfl) ?_
   refine qt_r (ry_move rfl) ?_
   refine qt_r (ry_move rfl) ?_
   refine qt_r (ry_idxSv rfl rfl rfl ht.ok (by rw [ht.len]; omega)) ?_
   refine qt_r (ry_elem rfl (holds_given ht) hq rfl) ?_
   refine qt_r (ry_ne rfl rfl) ?_
   refine qt_nil ?_
   refine ex_then ?_
   refine cw_cond rfl (fun h2 => ?_) (fun h2 => ?_)
   ·
    refine cw_seq ?_
    refine cw_region ?_
    refine sq_r (ry_assign rfl) ?_
    refine sq_nil ?_
    refine ex_then ?_
    refine cw_ret ?_
    refine ex_block_ret ?_
    refine ex_pass_ret ?_
    refine ex_pass_ret ?_
    refine ex_block_ret ?_
    refine ex_pass_ret ?_
    refine ex_ret (.inl rfl) (res_tmp rfl rfl) (fun w hw => ?_)
    exact ⟨congrArg (fun b => Ending.returned (Value.bool b)) ((decide_eq_false (list_no hr hq (by simpa using h2))).symm), hw.sub (List.nil_sublist _)⟩
   ·
    refine cw_skip ?_
    refine ex_block ?_
    refine ex_then ?_
    refine cw_region ?_
    refine sq_r (ry_move rfl) ?_
    refine sq_r (ry_add rfl rfl (by omega)) ?_
    refine sq_r (ry_assign rfl) ?_
    refine sq_nil ?_
    exact ex_again (i + 1) ⟨by omega, fun j hj => if e : j = i then (by subst e; rw [hr, hq]; simpa using h2) else hi2 j (by omega)⟩ (by omega) (Sub.cons rfl (Sub.cons rfl (Sub.cons rfl (Sub.nil _)))) (fun w hw => hw)
  ·
   simp only [decide_eq_false_iff_not] at h1
   refine cw_exit ?_
   refine ex_pass_exit ?_
   refine ex_pass_exit ?_
   refine ex_block_hit ?_
   refine ex_then ?_
   refine cw_seq ?_
   refine cw_region ?_
   refine sq_r (ry_assign rfl) ?_
   refine sq_nil ?_
   refine ex_then ?_
   refine cw_ret ?_
   refine ex_ret (.inl rfl) (res_tmp rfl rfl) (fun w hw => ?_)
   exact ⟨congrArg (fun b => Ending.returned (Value.bool b)) ((decide_eq_true (list_all (by omega) (fun j hj => hi2 j (by omega)))).symm), hw.sub (List.nil_sublist _)⟩

end Go.Proofs.Ytldkgicmfbofiaa

/- Contracts as classes. -/
namespace Go.Proofs.Ytldkgicmfbofiaa
open Go.Eng Go.Kb
instance right_i {w0 : World} {L : List Ent} {s : Sv} {ss : List Rt} [h : HdE w0 L rcells 19 s ss] : FnQ Try.prog 18 w0 L [s.val] (.bool (tright ss)) True := ⟨fun _ w hw => right_c w s ss (h.h w hw)⟩
instance rright_i {w0 : World} {L : List Ent} {s : Sv} {ss : List Rt} [h : HdE w0 L rcells 19 s ss] : FnQ Try.prog 17 w0 L [s.val] (.bool (tright ss)) True := ⟨fun _ w hw => rright_c w s ss (h.h w hw)⟩
instance same3_i {w0 : World} {L : List Ent} {s t : Sv} {ss ts : List Rt} [h : HdE w0 L rcells 19 s ss] [h2 : HdE w0 L rcells 19 t ts] : FnQ Try.prog 19 w0 L [s.val, t.val] (.bool (decide (ss = ts))) (ss.length < 9223372036854775807) := ⟨fun hp w hw => same3_c w s t ss ts (h.h w hw) (h2.h w hw) hp⟩

end Go.Proofs.Ytldkgicmfbofiaa

/- Arguments of this program, opened. -/
namespace Go.Proofs.Ytldkgicmfbofiaa
open Go.Eng Go.Kb
instance op2 : OpenT Try.prog 2 Int := open_i64 Try.underlying2 (by kernel_rfl)
instance op3 : OpenT Try.prog 3 Int := open_i64 Try.underlying3 (by kernel_rfl)
instance op4 : OpenT Try.prog 4 Bool := open_bool Try.underlying4 (by kernel_rfl)
instance op5 : OpenT Try.prog 5 UInt8 := open_u8 Try.underlying5 (by kernel_rfl)
instance op6 : OpenT Try.prog 6 UInt8 := open_u8 Try.underlying6 (by kernel_rfl)
instance op29 : OpenT Try.prog 29 UInt16 := open_u16 Try.underlying29 (by kernel_rfl)
instance op30 : OpenT Try.prog 30 Int := open_i64 Try.underlying30 (by kernel_rfl)
instance op137 : OpenT Try.prog 137 UInt8 := open_u8 Try.underlying137 (by kernel_rfl)
instance op138 : OpenT Try.prog 138 UInt8 := open_u8 Try.underlying138 (by kernel_rfl)

instance : Enc kcells 16 := ⟨kcells_size, fun k => (inferInstance : SizeIs (kcells k) 16).one⟩
instance : Deep Key := Deep.flat kcells 16
instance : FlatT Key kcells 16 := ⟨rfl, fun _ => rfl⟩
instance : Plain Key := ⟨fun _ => rfl⟩
instance : Enc pcells 18 := ⟨pcells_size, fun k => (inferInstance : SizeIs (pcells k) 18).one⟩
instance : Deep Pfx := Deep.flat pcells 18
instance : FlatT Pfx pcells 18 := ⟨rfl, fun _ => rfl⟩
instance : Plain Pfx := ⟨fun _ => rfl⟩
instance : Plain Rt := ⟨fun _ => rfl⟩
instance op24 : OpenT Try.prog 24 Key := ⟨by kernel_rfl, fun h hw => by
  obtain ⟨hl, he⟩ := open_elem Try.underlying24 h hw UInt8
  rw [show Try.prog.cellsOf 24 = 16 from by kernel_rfl] at hl
  obtain ⟨l, hll, hlp⟩ := list_of (p := fun i (x : UInt8) => _) he
  refine ⟨kof fun i => (l.getD i 0).toNat, ?_, trivial⟩
  refine List.ext_getElem? fun i => ?_
  rw [Array.getElem?_toList]
  rcases Nat.lt_or_ge i 16 with hi | hi
  · have hx : l[i]? = some (l.getD i 0) := get_getD (by omega)
    have h1 := congrArg (·[0]?) (hlp i _ hx).1
    simp only [List.getElem?_take, List.getElem?_drop] at h1
    rw [if_pos (by decide), show i * Deep.c UInt8 + 0 = i from Nat.mul_one i] at h1
    have h3 : some (Value.int .u8 (l.getD i 0).toNat) = _ := h1
    have e8 : (l.getD i 0).toNat % 2 ^ 8 = (l.getD i 0).toNat := Nat.mod_eq_of_lt (l.getD i 0).toNat_lt
    show (kcells _)[i]? = _
    rw [kcells_get _ _ hi, kbyte_kof _ _ hi, e8, ← h3]
  · show (kcells _)[i]? = _
    rw [kcells_none _ _ hi, List.getElem?_eq_none (by omega)]⟩
instance op26 : OpenT Try.prog 26 Pfx := ⟨by kernel_rfl, fun h hw => by
  obtain ⟨hl, x0, h0, -⟩ := open_field Try.underlying26 h hw (i := 0) (tf := 3) (off := 0) rfl Int
  obtain ⟨-, x1, h1, -⟩ := open_field Try.underlying26 h hw (i := 1) (tf := 3) (off := 1) rfl Int
  obtain ⟨-, x2, h2, -⟩ := open_field Try.underlying26 h hw (i := 2) (tf := 24) (off := 2) rfl Key
  refine ⟨⟨x0, x1, x2⟩, ?_, trivial⟩
  refine Eq.trans ?_ (cut3 (a := 1) (b := 1) (c := 16) (hl.trans (by kernel_rfl)))
  rw [show (Deep.cells (⟨x0, x1, x2⟩ : Pfx)).toList = (Deep.cells x0).toList ++ (Deep.cells x1).toList ++ (Deep.cells x2).toList from by show (pcells _).toList = _; unfold pcells; rw [Array.toList_append]; rfl, h0, h1, h2]
  rfl⟩
instance op34 : OpenT Try.prog 34 Rt := ⟨by kernel_rfl, fun h hw => by
  obtain ⟨hl, x0, h0, -⟩ := open_field Try.underlying34 h hw (i := 0) (tf := 26) (off := 0) rfl Pfx
  obtain ⟨-, x1, h1, -⟩ := open_field Try.underlying34 h hw (i := 1) (tf := 29) (off := 18) rfl UInt16
  refine ⟨⟨x0, x1⟩, ?_, trivial⟩
  refine Eq.trans ?_ (cut2 (a := 18) (b := 1) (hl.trans (by kernel_rfl)))
  rw [show (Deep.cells (⟨x0, x1⟩ : Rt)).toList = (Deep.cells x0).toList ++ (Deep.cells x1).toList from by show (rcells _).toList = _; unfold rcells; rw [Array.toList_append]; rfl, h0, h1]
  rfl⟩


instance op22 : OpenT Try.prog 22 (Sl Rt) := open_sl Try.underlying22 (by kernel_rfl) (by decide) (by kernel_rfl)
instance op62 : OpenT Try.prog 62 (Sl Pfx) := open_sl Try.underlying62 (by kernel_rfl) (by decide) (by kernel_rfl)
instance op89 : OpenT Try.prog 89 (Sl UInt8) := open_sl Try.underlying89 (by kernel_rfl) (by decide) (by kernel_rfl)
instance op115 : OpenT Try.prog 115 (Sl (Sl Rt)) := open_sl Try.underlying115 (by kernel_rfl) (by decide) (by kernel_rfl)

end Go.Proofs.Ytldkgicmfbofiaa

