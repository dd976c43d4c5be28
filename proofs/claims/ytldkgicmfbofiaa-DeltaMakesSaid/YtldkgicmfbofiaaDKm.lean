/- The law of what makes tables: walked. -/
import Derived.Test.YtldkgicmfbofiaaMr
import Derived.Test.YtldkgicmfbofiaaMv

set_option linter.unusedSimpArgs false
set_option linter.unusedVariables false
namespace Go.Proofs.Ytldkgicmfbofiaa
open Go.Eng Go.Kb
set_option maxRecDepth 20000 in
theorem deltaMakes_c (w : World) (t : Sv) (ts : List Rt) (u : Sv) (us : List Rt) (c8 : UInt8) (ht : Lies rcells 19 (hp w) t ts) (hu : Lies rcells 19 (hp w) u us) : Calls Try.prog 8 #[t.val, u.val, .int .u8 (c8.toNat : Nat)] w fun e w' => e = .returned (.bool true) ∧ Mem w [] w' := by
 have ght : Gv w t rcells 19 ts := ⟨ht⟩
 have ghu : Gv w u rcells 19 us := ⟨hu⟩
 refine calls_of (args := [_, _, _]) Try.func8 rfl Try.ntmps8 rfl ?_
 change Cw _ _ _ _ _ [(0, t.val), (1, u.val), (2, .int .u8 (c8.toNat : Nat))] []
 refine cw_seq ?_
 refine cw_region ?_
 refine sq_r (ry_assign rfl) ?_
 refine sq_nil ?_
 refine ex_then ?_
 refine cw_seq ?_
 refine cw_seq ?_
 refine cw_region ?_
 refine sq_y (yl_callC rfl trivial) ?_
 refine sq_r (ry_not rfl) ?_
 refine sq_nil ?_
 refine ex_then ?_
 refine cw_cond rfl (fun h0 => ?_) (fun h0 => ?_)
 ·
  exfalso; simp at h0
 ·
  try simp only [bz0, bz1, bz2, bz3, bz4, bz5, bz6, bz7, bz8, bz9] at h0
  refine cw_skip ?_
  refine ex_then ?_
  refine cw_seq ?_
  refine cw_seq ?_
  refine cw_region ?_
  refine sq_r (ry_move rfl) ?_
  refine sq_r (ry_lenH rfl) ?_
  refine sq_r (ry_int rfl rfl rfl) ?_
  refine sq_r (ry_move rfl) ?_
  refine sq_gf rfl rfl rfl (fun hg => (Ry.yl (ry_move rfl))) ?_
  refine sq_gf rfl rfl rfl (fun hg => (Ry.yl (ry_lenH (ev_c hg rfl)))) ?_
  refine sq_gf rfl rfl rfl (fun hg => (Ry.yl (ry_int (ev_c hg rfl) rfl rfl))) ?_
  refine sq_r (ry_or rfl rfl rfl) ?_
  refine sq_r (ry_move rfl) ?_
  refine sq_gf rfl rfl rfl (fun hg => (Ry.yl (ry_move rfl))) ?_
  refine sq_gf rfl rfl rfl (fun hg => yl_callC (evl_cons (ev_c hg rfl) evl_nil) trivial) ?_
  refine sq_gf rfl rfl rfl (fun hg => (Ry.yl (ry_not (ev_c hg rfl)))) ?_
  refine sq_r (ry_or rfl rfl rfl) ?_
  refine sq_r (ry_move rfl) ?_
  refine sq_gf rfl rfl rfl (fun hg => (Ry.yl (ry_move rfl))) ?_
  refine sq_gf rfl rfl rfl (fun hg => yl_callC (evl_cons (ev_c hg rfl) evl_nil) trivial) ?_
  refine sq_gf rfl rfl rfl (fun hg => (Ry.yl (ry_not (ev_c hg rfl)))) ?_
  refine sq_r (ry_or rfl rfl rfl) ?_
  refine sq_nil ?_
  refine ex_then ?_
  refine cw_cond rfl (fun h1 => ?_) (fun h1 => ?_)
  ·
   try simp only [bz0, bz1, bz2, bz3, bz4, bz5, bz6, bz7, bz8, bz9] at h1
   refine cw_seq ?_
   refine cw_region ?_
   refine sq_r (ry_assign rfl) ?_
   refine sq_nil ?_
   refine ex_then ?_
   refine cw_ret ?_
   refine ex_pass_ret ?_
   refine ex_ret (.inl rfl) (res_1 rfl (rv_tmp rfl)) (fun w1 hw => ?_)
   exact ⟨congrArg (fun b => Ending.returned (Value.bool b)) (rfl), Keep.mem hw⟩
  ·
   try simp only [bz0, bz1, bz2, bz3, bz4, bz5, bz6, bz7, bz8, bz9] at h1
   obtain ⟨⟨⟨g1, g2⟩, g3⟩, g4⟩ := h1
   have hr1 : tright ts = true := by simpa using g3
   have hr2 : tright us = true := by simpa using g4
   have hE : difE ts us = 0 := by rw [difE, if_pos (by rw [hr1, hr2]; rfl)]
   have hL : difL ts us = diffF ts us := by rw [difL, if_pos hE]
   have hE2 : difE us us = 0 := by rw [difE, if_pos (by rw [hr2]; rfl)]
   have hL2 : difL us us = [] := by rw [difL, if_pos hE2, diff_self (right_ord hr2)]
   have hdl := (diff_len (t := ts) (u := us)).1
   obtain ⟨hm1, hm2⟩ := makes hr1 hr2 (by omega) (by omega)
   have hz := diff_zero (right_ord hr1) (right_ord hr2)
   refine cw_skip ?_
   refine ex_then ?_
   refine cw_seq ?_
   refine cw_region ?_
   refine sq_r (ry_move rfl) ?_
   refine sq_r (ry_move rfl) ?_
   refine sq_callC rfl trivial fun x43 hp43 => ?_
   rw [hE, hL]
   refine sq_r (ry_move rfl) ?_
   refine sq_r (ry_extract (v := x43.val) rfl rfl) ?_
   refine sq_r (ry_extract (v := .int .i64 0) rfl rfl) ?_
   refine sq_r (ry_assign rfl) ?_
   refine sq_r (ry_assign rfl) ?_
   refine sq_nil ?_
   refine ex_then ?_
   refine cw_seq ?_
   refine cw_seq ?_
   refine cw_region ?_
   refine sq_r (ry_move rfl) ?_
   refine sq_r (ry_int rfl rfl rfl) ?_
   refine sq_nil ?_
   refine ex_then ?_
   refine cw_cond rfl (fun h2 => ?_) (fun h2 => ?_)
   ·
    exfalso; simp at h2
   ·
    try simp only [bz0, bz1, bz2, bz3, bz4, bz5, bz6, bz7, bz8, bz9] at h2
    refine cw_skip ?_
    refine ex_then ?_
    refine cw_seq ?_
    refine cw_region ?_
    refine sq_r (ry_assign rfl) ?_
    refine sq_r (ry_assign rfl) ?_
    refine sq_nil ?_
    refine ex_then ?_
    refine cw_seq ?_
    refine cw_seq ?_
    refine cw_region ?_
    refine sq_r (ry_assign rfl) ?_
    refine sq_nil ?_
    refine ex_then ?_
    refine cw_block ?_
    refine cw_loop (X := Nat × Sv × List Ch × Sv × List Ch) (fun zz => [(11, .int .i64 (zz.1 : Nat)), (9, zz.2.1.val), (10, zz.2.2.2.1.val), (0, t.val), (1, u.val), (2, .int .u8 (c8.toNat : Nat)), (7, x43.val)]) (fun zz => [own chcells 20 zz.2.1 zz.2.2.1, own chcells 20 zz.2.2.2.1 zz.2.2.2.2, own chcells 20 x43 (diffF ts us)]) (fun zz => zz.1 ≤ (diffF ts us).length ∧ zz.2.2.1 = firstF ((diffF ts us).take zz.1) ∧ zz.2.2.2.2 = thenF ((diffF ts us).take zz.1)) (fun zz => (diffF ts us).length - zz.1) (0, Sv.none, [], Sv.none, []) ⟨Nat.zero_le _, rfl, rfl⟩ (Sub.cons rfl (Sub.cons rfl (Sub.cons rfl (Sub.cons rfl (Sub.cons rfl (Sub.cons rfl (Sub.cons rfl (Sub.nil _)))))))) (fun w hw => Mem.nilOwn chcells 20 (Mem.nilOwn chcells 20 (Keep.mem hw))) ?_
    rintro ⟨i, o, q, o2, q2⟩ ⟨hi1, hi2, hi3⟩
    dsimp only
    simp only at hi1 hi2 hi3
    have hql : q.length ≤ i := by rw [hi2]; exact Nat.le_trans (List.length_filter_le _ _) (by rw [List.length_take]; omega)
    have hql2 : q2.length ≤ i := by rw [hi3]; exact Nat.le_trans (List.length_filter_le _ _) (by rw [List.length_take]; omega)
    refine cw_seq ?_
    refine cw_seq ?_
    refine cw_region ?_
    refine sq_r (ry_move rfl) ?_
    refine sq_r (ry_move rfl) ?_
    refine sq_r (ry_lenH rfl) ?_
    refine sq_r (ry_int rfl rfl rfl) ?_
    refine sq_nil ?_
    refine ex_then ?_
    refine cw_cond rfl (fun h3 => ?_) (fun h3 => ?_)
    ·
     try simp only [bz0, bz1, bz2, bz3, bz4, bz5, bz6, bz7, bz8, bz9] at h3
     obtain ⟨c, hc⟩ := get_some (xs := (diffF ts us)) (i := i) (by omega)
     refine cw_skip ?_
     refine ex_then ?_
     refine cw_seq ?_
     refine cw_block ?_
     refine cw_seq ?_
     refine cw_region ?_
     refine sq_r (ry_move rfl) ?_
     refine sq_r (ry_move rfl) ?_
     refine sq_r (ry_idxH rfl rfl i rfl (by omega)) ?_
     refine sq_r (ry_field rfl rfl) ?_
     refine sq_r (ry_elemcH (j := 19) rfl i hc rfl (by decide)) ?_
     refine sq_nil ?_
     refine ex_then ?_
     refine cw_cond rfl (fun h4 => ?_) (fun h4 => ?_)
     ·
      try simp only [bz0, bz1, bz2, bz3, bz4, bz5, bz6, bz7, bz8, bz9] at h4
      refine cw_region ?_
      refine sq_r (ry_move rfl) ?_
      refine sq_r (ry_move rfl) ?_
      refine sq_r (ry_move rfl) ?_
      refine sq_r (ry_idxH rfl rfl i rfl (by omega)) ?_
      refine sq_r (ry_elemH rfl i hc rfl) ?_
      refine sq_buildSlice (enc := chcells) (vals := [_]) [c] rfl rfl rfl (by decide) (by decide) fun b64 => ?_
      refine sq_append (s := o) (ys := [c]) rfl rfl (by decide) (fun w hw => src_rows (s := ⟨false, b64, 0, 1, 1, none⟩) Try.underlying27 (by decide) ((inferInstance : Hd _ _ ⟨false, b64, 0, 1, 1, none⟩ chcells 20 [c]).h w hw)) (by simp only [List.length_cons, List.length_nil]; omega) (by simp only [List.length_cons, List.length_nil]; omega) fun s65 hs65 hl65 => ?_
      refine sq_r (ry_assign rfl) ?_
      refine sq_nil ?_
      refine ex_block ?_
      refine ex_then ?_
      refine cw_region ?_
      refine sq_r (ry_move rfl) ?_
      refine sq_r (ry_add rfl rfl (by omega)) ?_
      refine sq_r (ry_assign rfl) ?_
      refine sq_nil ?_
      exact ex_again (x := (i, o, q, o2, q2)) (i + 1, s65, q ++ [c], o2, q2) ⟨by first | omega | (simp only []; omega), by rw [firstF, filter_take1 hc, if_pos h4, ← firstF, ← hi2], by rw [thenF, filter_take1 hc, if_neg (by simp [h4]), List.append_nil, ← thenF, ← hi3]⟩ (by simp only; omega) (Sub.cons rfl (Sub.cons rfl (Sub.cons rfl (Sub.cons rfl (Sub.cons rfl (Sub.cons rfl (Sub.cons rfl (Sub.nil _)))))))) (fun w hw => Keep.mem hw)
     ·
      try simp only [bz0, bz1, bz2, bz3, bz4, bz5, bz6, bz7, bz8, bz9] at h4
      refine cw_region ?_
      refine sq_r (ry_move rfl) ?_
      refine sq_r (ry_move rfl) ?_
      refine sq_r (ry_move rfl) ?_
      refine sq_r (ry_idxH rfl rfl i rfl (by omega)) ?_
      refine sq_r (ry_elemH rfl i hc rfl) ?_
      refine sq_buildSlice (enc := chcells) (vals := [_]) [c] rfl rfl rfl (by decide) (by decide) fun b71 => ?_
      refine sq_append (s := o2) (ys := [c]) rfl rfl (by decide) (fun w hw => src_rows (s := ⟨false, b71, 0, 1, 1, none⟩) Try.underlying27 (by decide) ((inferInstance : Hd _ _ ⟨false, b71, 0, 1, 1, none⟩ chcells 20 [c]).h w hw)) (by simp only [List.length_cons, List.length_nil]; omega) (by simp only [List.length_cons, List.length_nil]; omega) fun s72 hs72 hl72 => ?_
      refine sq_r (ry_assign rfl) ?_
      refine sq_nil ?_
      refine ex_block ?_
      refine ex_then ?_
      refine cw_region ?_
      refine sq_r (ry_move rfl) ?_
      refine sq_r (ry_add rfl rfl (by omega)) ?_
      refine sq_r (ry_assign rfl) ?_
      refine sq_nil ?_
      exact ex_again (x := (i, o, q, o2, q2)) (i + 1, o, q, s72, q2 ++ [c]) ⟨by first | omega | (simp only []; omega), by rw [firstF, filter_take1 hc, if_neg (by simp [h4]), List.append_nil, ← firstF, ← hi2], by rw [thenF, filter_take1 hc, if_pos (by simp [h4]), ← thenF, ← hi3]⟩ (by simp only; omega) (Sub.cons rfl (Sub.cons rfl (Sub.cons rfl (Sub.cons rfl (Sub.cons rfl (Sub.cons rfl (Sub.cons rfl (Sub.nil _)))))))) (fun w hw => Keep.mem hw)
    ·
     try simp only [bz0, bz1, bz2, bz3, bz4, bz5, bz6, bz7, bz8, bz9] at h3
     obtain rfl : i = (diffF ts us).length := by omega
     rw [List.take_length] at hi2 hi3
     rw [← hi2, ← hi3] at hm1 hm2
     have hz2 : (decide ((((diffF ts us).length : Nat) : Int) = 0)) = decide (ts = us) := by
      rw [decide_eq_decide, ← hz, ← List.length_eq_zero_iff]; omega
     have hal := tr_len (apL_right hr1 (q ++ q2))
     refine cw_exit ?_
     refine ex_pass_exit ?_
     refine ex_pass_exit ?_
     refine ex_block_hit ?_
     refine ex_then ?_
     refine cw_seq ?_
     refine cw_region ?_
     refine sq_r (ry_move rfl) ?_
     refine sq_build0 chcells fun b75 => ?_
     refine sq_r (ry_move rfl) ?_
     refine sq_append (s := ⟨false, b75, 0, 0, 0, none⟩) (ys := q) rfl rfl (by decide) (fun w hw => src_rows (s := o) Try.underlying27 (by decide) ((inferInstance : Hd _ _ o chcells 20 q).h w hw)) (by simp only [List.length_append, List.length_cons, List.length_nil]; omega) (by simp only [List.length_append, List.length_cons, List.length_nil]; omega) fun s77 hs77 hl77 => ?_
     refine sq_r (ry_move rfl) ?_
     refine sq_append (s := s77) (ys := q2) rfl rfl (by decide) (fun w hw => src_rows (s := o2) Try.underlying27 (by decide) ((inferInstance : Hd _ _ o2 chcells 20 q2).h w hw)) (by simp only [List.length_append, List.length_cons, List.length_nil]; omega) (by simp only [List.length_append, List.length_cons, List.length_nil]; omega) fun s79 hs79 hl79 => ?_
     simp only [List.nil_append]
     refine sq_callC rfl (by omega) fun x80 hp80 => ?_
     refine sq_r (ry_move rfl) ?_
     refine sq_r (ry_extract (v := x80.val) rfl rfl) ?_
     refine sq_r (ry_extract (v := .int .i64 (appE ts (q ++ q2))) rfl rfl) ?_
     refine sq_r (ry_assign rfl) ?_
     refine sq_r (ry_assign rfl) ?_
     refine sq_nil ?_
     refine ex_then ?_
     refine cw_seq ?_
     refine cw_region ?_
     refine sq_r (ry_move rfl) ?_
     refine sq_r (ry_move rfl) ?_
     refine sq_callC rfl trivial fun x86 hp86 => ?_
     rw [hE2, hL2]
     refine sq_r (ry_move rfl) ?_
     refine sq_r (ry_extract (v := x86.val) rfl rfl) ?_
     refine sq_r (ry_extract (v := .int .i64 0) rfl rfl) ?_
     refine sq_r (ry_assign rfl) ?_
     refine sq_r (ry_assign rfl) ?_
     refine sq_nil ?_
     refine ex_then ?_
     refine cw_seq ?_
     refine cw_seq ?_
     refine cw_region ?_
     refine sq_r (ry_move rfl) ?_
     refine sq_r (ry_int rfl rfl rfl) ?_
     refine sq_r (ry_move rfl) ?_
     refine sq_gf rfl rfl rfl (fun hg => (Ry.yl (ry_move rfl))) ?_
     refine sq_gf rfl rfl rfl (fun hg => (Ry.yl (ry_move rfl))) ?_
     refine sq_gf rfl rfl rfl (fun hg => yl_callC (evl_cons (ev_c hg rfl) (evl_cons (ev_c hg rfl) evl_nil)) (by simp only [bz0, bz1, bz2, bz3, bz4, bz5, bz6, bz7, bz8, bz9] at hg; omega)) ?_
     refine sq_gf rfl rfl rfl (fun hg => (Ry.yl (ry_not (ev_c hg rfl)))) ?_
     refine sq_r (ry_or rfl rfl rfl) ?_
     refine sq_r (ry_move rfl) ?_
     refine sq_gf rfl rfl rfl (fun hg => (Ry.yl (ry_move rfl))) ?_
     refine sq_gf rfl rfl rfl (fun hg => (Ry.yl (ry_int (ev_c hg rfl) rfl rfl))) ?_
     refine sq_r (ry_or rfl rfl rfl) ?_
     refine sq_r (ry_move rfl) ?_
     refine sq_gf rfl rfl rfl (fun hg => (Ry.yl (ry_move rfl))) ?_
     refine sq_gf rfl rfl rfl (fun hg => (Ry.yl (ry_lenH (ev_c hg rfl)))) ?_
     refine sq_gf rfl rfl rfl (fun hg => (Ry.yl (ry_int (ev_c hg rfl) rfl rfl))) ?_
     refine sq_r (ry_or rfl rfl rfl) ?_
     refine sq_r (ry_move rfl) ?_
     refine sq_gf rfl rfl rfl (fun hg => (Ry.yl (ry_move rfl))) ?_
     refine sq_gf rfl rfl rfl (fun hg => (Ry.yl (ry_lenH (ev_c hg rfl)))) ?_
     refine sq_gf rfl rfl rfl (fun hg => (Ry.yl (ry_int (ev_c hg rfl) rfl rfl))) ?_
     refine sq_gf rfl rfl rfl (fun hg => (Ry.yl (ry_move rfl))) ?_
     refine sq_gf rfl rfl rfl (fun hg => (Ry.yl (ry_move rfl))) ?_
     refine sq_gf rfl rfl rfl (fun hg => yl_callC (evl_cons (ev_c hg rfl) (evl_cons (ev_c hg rfl) evl_nil)) (by simp only [bz0, bz1, bz2, bz3, bz4, bz5, bz6, bz7, bz8, bz9] at hg; omega)) ?_
     refine sq_gf rfl rfl rfl (fun hg => (Ry.yl (ry_neb (ev_c hg rfl) (ev_c hg rfl) Try.underlying4))) ?_
     refine sq_r (ry_or rfl rfl rfl) ?_
     refine sq_nil ?_
     refine ex_then ?_
     refine cw_cond rfl (fun h5 => ?_) (fun h5 => ?_)
     ·
      try simp only [bz0, bz1, bz2, bz3, bz4, bz5, bz6, bz7, bz8, bz9] at h5
      exfalso; simp [hm1, hm2, hz2, hz] at h5
     ·
      try simp only [bz0, bz1, bz2, bz3, bz4, bz5, bz6, bz7, bz8, bz9] at h5
      refine cw_skip ?_
      refine ex_then ?_
      refine cw_seq ?_
      refine cw_seq ?_
      refine cw_region ?_
      refine sq_r (ry_move rfl) ?_
      refine sq_r (ry_lenH rfl) ?_
      refine sq_r (ry_int rfl rfl rfl) ?_
      refine sq_nil ?_
      refine ex_then ?_
      refine cw_cond rfl (fun h6 => ?_) (fun h6 => ?_)
      ·
       try simp only [bz0, bz1, bz2, bz3, bz4, bz5, bz6, bz7, bz8, bz9] at h6
       refine cw_seq ?_
       refine cw_region ?_
       refine sq_r (ry_assign rfl) ?_
       refine sq_nil ?_
       refine ex_then ?_
       refine cw_ret ?_
       refine ex_pass_ret ?_
       refine ex_ret (.inl rfl) (res_1 rfl (rv_tmp rfl)) (fun w1 hw => ?_)
       exact ⟨congrArg (fun b => Ending.returned (Value.bool b)) (rfl), Keep.mem hw⟩
      ·
       try simp only [bz0, bz1, bz2, bz3, bz4, bz5, bz6, bz7, bz8, bz9] at h6
       obtain ⟨k, hk⟩ : ∃ k, k = c8.toNat % (diffF ts us).length := ⟨_, rfl⟩
       have hkl : k < (diffF ts us).length := by rw [hk]; exact Nat.mod_lt _ (by omega)
       obtain ⟨v1, v2⟩ := less_one2 hr1 hr2 (by omega) (by omega) hkl
       have hal2 := tr_len (apL_right hr1 ((diffF ts us).take k ++ (diffF ts us).drop (k + 1)))
       have hless : ([] ++ ((diffF ts us).drop 0).take (k - 0)) ++ ((diffF ts us).drop (k + 1)).take ((diffF ts us).length - (k + 1)) = (diffF ts us).take k ++ (diffF ts us).drop (k + 1) := by
        rw [List.nil_append, List.drop_zero, Nat.sub_zero]
        congr 1
        exact List.take_of_length_le (by rw [List.length_drop]; omega)
       refine cw_skip ?_
       refine ex_then ?_
       refine cw_seq ?_
       refine cw_region ?_
       refine sq_r (ry_move rfl) ?_
       refine sq_r (ry_conv_u8 rfl) ?_
       refine sq_r (ry_move rfl) ?_
       refine sq_r (ry_lenH rfl) ?_
       refine sq_r (Ry.to (v' := .int .i64 ((k : Nat) : Int)) (ry_remn (p := c8.toNat) (q := (diffF ts us).length) rfl rfl rfl rfl (by omega)) (by rw [hk])) ?_
       refine sq_r (ry_assign rfl) ?_
       refine sq_nil ?_
       refine ex_then ?_
       refine cw_seq ?_
       refine cw_lin [0, 4, 9] [[], [], [], [], [0], [], [], [], [], [0, 4], [0, 4, 9]] [1, 2, 3, 5, 6, 7, 8, 0, 4, 9, 10] [own chcells 20 x43 (diffF ts us)] (fun _ hw => Keep.mem hw) (by kernel_rfl) (by kernel_rfl) ?_
       refine ln_r rfl (ry_move rfl) ?_
       refine ln_r rfl (ry_move rfl) ?_
       have rg126 : Rg 0 k (diffF ts us).length := ⟨by omega⟩
       refine ln_r rfl (ry_subH_hi rfl rfl k rfl rg126.h.2) ?_
       refine ln_r rfl (ry_move rfl) ?_
       refine ln_r rfl (ry_move rfl) ?_
       refine ln_r rfl (ry_add rfl rfl (by omega)) ?_
       have rg131 : Rg (k + 1) ((diffF ts us).length) (diffF ts us).length := ⟨by omega⟩
       refine ln_r rfl (ry_subH_lo rfl rfl (k + 1) rfl rg131.h.1) ?_
       refine ln_st rfl (st_build0 chcells fun b123 => ⟨fun _ hw => Keep.mem hw, ?_⟩)
       refine ln_st rfl (st_append (s := ⟨false, b123, 0, 0, 0, none⟩) (ys := (((diffF ts us).drop 0).take (k - 0))) rfl rfl (by decide) (fun w hw => src_rows (s := (x43.sub 20 0 k)) Try.underlying27 (by decide) ((inferInstance : Hd _ _ (x43.sub 20 0 k) chcells 20 (((diffF ts us).drop 0).take (k - 0))).h w hw)) (by simp only [List.length_append, List.length_nil, List.length_take, List.length_drop]; omega) (by simp only [List.length_append, List.length_nil, List.length_take, List.length_drop]; omega) fun s127 hs127 hl127 => ⟨fun _ hw => Keep.mem hw, ?_⟩)
       refine ln_st rfl (st_append (s := s127) (ys := (((diffF ts us).drop (k + 1)).take ((diffF ts us).length - (k + 1)))) rfl rfl (by decide) (fun w hw => src_rows (s := (x43.sub 20 (k + 1) ((diffF ts us).length))) Try.underlying27 (by decide) ((inferInstance : Hd _ _ (x43.sub 20 (k + 1) ((diffF ts us).length)) chcells 20 (((diffF ts us).drop (k + 1)).take ((diffF ts us).length - (k + 1)))).h w hw)) (by simp only [List.length_append, List.length_nil, List.length_take, List.length_drop]; omega) (by simp only [List.length_append, List.length_nil, List.length_take, List.length_drop]; omega) fun s132 hs132 hl132 => ⟨fun _ hw => Keep.mem hw, ?_⟩)
       rw [hless]
       refine ln_r rfl (ry_assign rfl) ?_
       refine ln_nil ?_
       refine ex_then ?_
       refine cw_seq ?_
       refine cw_region ?_
       refine sq_r (ry_move rfl) ?_
       refine sq_r (ry_move rfl) ?_
       refine sq_callC rfl (by omega) fun x136 hp136 => ?_
       refine sq_r (ry_move rfl) ?_
       refine sq_r (ry_extract (v := x136.val) rfl rfl) ?_
       refine sq_r (ry_extract (v := .int .i64 (appE ts ((diffF ts us).take k ++ (diffF ts us).drop (k + 1)))) rfl rfl) ?_
       refine sq_r (ry_assign rfl) ?_
       refine sq_r (ry_assign rfl) ?_
       refine sq_nil ?_
       refine ex_then ?_
       refine cw_seq ?_
       refine cw_region ?_
       refine sq_r (ry_move rfl) ?_
       refine sq_r (ry_int rfl rfl rfl) ?_
       refine sq_r (ry_move rfl) ?_
       refine sq_gt rfl rfl rfl (fun hg => (Ry.yl (ry_move rfl))) ?_
       refine sq_gt rfl rfl rfl (fun hg => (Ry.yl (ry_move rfl))) ?_
       refine sq_gt rfl rfl rfl (fun hg => yl_callC (evl_cons (ev_c hg rfl) (evl_cons (ev_c hg rfl) evl_nil)) (by simp only [bz0, bz1, bz2, bz3, bz4, bz5, bz6, bz7, bz8, bz9] at hg; omega)) ?_
       refine sq_gt rfl rfl rfl (fun hg => (Ry.yl (ry_not (ev_c hg rfl)))) ?_
       refine sq_r (ry_and rfl rfl rfl) ?_
       refine sq_r (ry_assign rfl) ?_
       refine sq_nil ?_
       refine ex_then ?_
       refine cw_ret ?_
       refine ex_ret (.inl rfl) (res_1 rfl (rv_tmp rfl)) (fun w1 hw => ?_)
       exact ⟨congrArg (fun b => Ending.returned (Value.bool b)) ((by simp [v1, v2])), Keep.mem hw⟩

end Go.Proofs.Ytldkgicmfbofiaa

