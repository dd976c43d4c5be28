/- The law WalkOnce: walked. -/
import Derived.Test.YtajhlgdapiihgaaMi

set_option linter.unusedSimpArgs false
set_option linter.unusedVariables false
namespace Go.Proofs.Ytajhlgdapiihgaa
open Go.Eng Go.Kb
set_option maxRecDepth 20000 in
theorem walkOnce_c (w : World) (t : Sv) (ts : List Rt) (ht : Lies rcells 19 (hp w) t ts) : Calls Try.prog 4 #[t.val] w fun e w' => e = .returned (.bool true) ∧ Mem w [] w' := by
  have ght : Gv w t rcells 19 ts := ⟨ht⟩
  refine calls_of (args := [_]) Try.func4 rfl Try.ntmps4 rfl ?_
  change Cw _ _ _ _ _ [(0, t.val)] []
  refine cw_seq ?_
  refine cw_region ?_
  refine sq_r (ry_assign rfl) ?_
  refine sq_nil ?_
  refine ex_then ?_
  refine cw_seq ?_
  refine cw_seq ?_
  refine cw_region ?_
  refine sq_y (yl_callC rfl trivial) ?_
  refine sq_r (ry_not rfl) ?_
  refine sq_nil ?_
  refine ex_then ?_
  refine cw_cond rfl (fun h0 => ?_) (fun h0 => ?_)
  · exfalso; simp at h0
  · try simp only [Bool.and_eq_true, Bool.or_eq_true, Bool.and_eq_false_iff, Bool.or_eq_false_iff, Bool.not_eq_true', Bool.not_eq_false', decide_eq_true_eq, decide_eq_false_iff_not, Bool.not_eq_true, Bool.not_eq_false] at h0
    refine cw_skip ?_
    refine ex_then ?_
    refine cw_seq ?_
    refine cw_seq ?_
    refine cw_region ?_
    refine sq_r (ry_move rfl) ?_
    refine sq_r (ry_lenH rfl) ?_
    refine sq_r (ry_int rfl rfl rfl) ?_
    refine sq_r (ry_move rfl) ?_
    refine sq_gf rfl rfl rfl (fun hg => (Ry.yl (ry_move rfl))) ?_
    refine sq_gf rfl rfl rfl (fun hg => yl_callC (evl_cons (ev_c hg rfl) evl_nil) trivial) ?_
    refine sq_gf rfl rfl rfl (fun hg => (Ry.yl (ry_not (ev_c hg rfl)))) ?_
    refine sq_r (ry_or rfl rfl rfl) ?_
    refine sq_r (ry_move rfl) ?_
    refine sq_gf rfl rfl rfl (fun hg => (Ry.yl (ry_move rfl))) ?_
    refine sq_gf rfl rfl rfl (fun hg => (Ry.yl (ry_lenH (ev_c hg rfl)))) ?_
    refine sq_gf rfl rfl rfl (fun hg => (Ry.yl (ry_int (ev_c hg rfl) rfl rfl))) ?_
    refine sq_r (ry_or rfl rfl rfl) ?_
    refine sq_nil ?_
    refine ex_then ?_
    refine cw_cond rfl (fun h1 => ?_) (fun h1 => ?_)
    · try simp only [Bool.and_eq_true, Bool.or_eq_true, Bool.and_eq_false_iff, Bool.or_eq_false_iff, Bool.not_eq_true', Bool.not_eq_false', decide_eq_true_eq, decide_eq_false_iff_not, Bool.not_eq_true, Bool.not_eq_false] at h1
      refine cw_seq ?_
      refine cw_region ?_
      refine sq_r (ry_assign rfl) ?_
      refine sq_nil ?_
      refine ex_then ?_
      refine cw_ret ?_
      refine ex_pass_ret ?_
      refine ex_ret (.inl rfl) (res_1 rfl (rv_tmp rfl)) (fun w1 hw => ?_)
      exact ⟨congrArg (fun b => Ending.returned (Value.bool b)) (rfl), Keep.mem hw⟩
    · try simp only [Bool.and_eq_true, Bool.or_eq_true, Bool.and_eq_false_iff, Bool.or_eq_false_iff, Bool.not_eq_true', Bool.not_eq_false', decide_eq_true_eq, decide_eq_false_iff_not, Bool.not_eq_true, Bool.not_eq_false] at h1
      have hr : tright ts = true := by simpa using h1.1.2
      have hlen := tr_len hr
      have hord := right_ord hr
      have hbt := ht.bd
      have hpos : 0 < ts.length := by omega
      refine cw_skip ?_
      refine ex_then ?_
      refine cw_seq ?_
      refine cw_region ?_
      refine sq_r (ry_assign rfl) ?_
      refine sq_nil ?_
      refine ex_then ?_
      refine cw_seq ?_
      refine cw_region ?_
      refine sq_r (ry_move rfl) ?_
      obtain ⟨e0, he0⟩ := get_some (xs := ts) (i := 0) (by omega)
      refine sq_r (ry_idxH rfl rfl 0 rfl (by omega)) ?_
      refine sq_r (ry_field rfl rfl) ?_
      refine sq_r (ry_elempH (j := 0) rfl 0 he0 rfl (by decide)) ?_
      refine sq_allocA fun b4 => ?_
      refine sq_storeW rfl rfl ?_
      refine sq_nil ?_
      refine ex_then ?_
      refine cw_seq ?_
      refine cw_region ?_
      refine sq_r (ry_move rfl) ?_
      refine sq_r (ry_move rfl) ?_
      refine sq_r (ry_idxH rfl rfl 0 rfl (by omega)) ?_
      refine sq_r (ry_elemH rfl 0 he0 rfl) ?_
      refine sq_buildSlice (enc := rcells) (vals := [_]) [e0] rfl rfl rfl (by decide) (by decide) fun b30 => ?_
      refine sq_own0 rcells 19 ?_
      refine sq_append (s := Sv.none) (ys := [e0]) rfl rfl (by decide) (fun w hw => src_rows (s := ⟨false, b30, 0, 1, 1, none⟩) Try.underlying22 (by decide) ((inferInstance : Hd _ _ ⟨false, b30, 0, 1, 1, none⟩ rcells 19 [e0]).h w hw)) (by simp only [List.length_cons, List.length_nil]; omega) (by simp only [List.length_cons, List.length_nil]; omega) fun s31 hs31 hl31 => ?_
      refine sq_r (ry_assign rfl) ?_
      refine sq_nil ?_
      refine ex_then ?_
      refine cw_seq ?_
      refine cw_block ?_
      refine cw_loop (X := Nat × Sv × Rt) (fun zz => [(3, zz.2.1.val), (4, .pointer (some ⟨b4, 0, none⟩)), (0, t.val)]) (fun zz => [own rcells 19 zz.2.1 (ts.take (zz.1 + 1)), blk b4 (pcells zz.2.2.p) 26]) (fun zz => ts[zz.1]? = some zz.2.2) (fun zz => ts.length - zz.1) (0, s31, e0) he0 (Sub.cons rfl (Sub.cons rfl (Sub.cons rfl (Sub.nil _)))) (fun w hw => by rw [take_snoc he0, List.take_zero]; exact Keep.mem hw) ?_
      rintro ⟨n, s1, r⟩ hn
      dsimp only
      simp only at hn
      have hnl := (List.getElem?_eq_some_iff.1 hn).1
      have hok : nextOk ts r.p = true := by rw [nextOk, hr, hord.may r (List.mem_of_getElem? hn)]; rfl
      have htl := List.length_take (l := ts) (i := n + 1)
      refine cw_block ?_
      refine cw_seq ?_
      refine cw_region ?_
      refine sq_r (ry_move rfl) ?_
      refine sq_r (ry_whole rfl) ?_
      refine sq_y (yl_callC rfl trivial) ?_
      refine sq_r (ry_move rfl) ?_
      refine sq_r (ry_extract (v := .agg (rcells (wnextR ts r.p))) rfl rfl) ?_
      refine sq_r (ry_extract (v := .int .i64 (wnextE ts r.p)) rfl rfl) ?_
      refine sq_allocA fun b5 => ?_
      refine sq_storeW rfl rfl ?_
      refine sq_r (ry_assign rfl) ?_
      refine sq_nil ?_
      refine ex_then ?_
      refine cw_seq ?_
      refine cw_seq ?_
      refine cw_region ?_
      refine sq_r (ry_move rfl) ?_
      refine sq_r (ry_int rfl rfl rfl) ?_
      refine sq_nil ?_
      refine ex_then ?_
      refine cw_cond rfl (fun h2 => ?_) (fun h2 => ?_)
      · try simp only [Bool.and_eq_true, Bool.or_eq_true, Bool.and_eq_false_iff, Bool.or_eq_false_iff, Bool.not_eq_true', Bool.not_eq_false', decide_eq_true_eq, decide_eq_false_iff_not, Bool.not_eq_true, Bool.not_eq_false] at h2
        have hn1 : ts.length ≤ n + 1 := by apply Classical.byContradiction; intro hc; obtain ⟨q, hq⟩ := get_some (xs := ts) (i := n + 1) (by omega); apply h2; rw [wnextE, if_pos hok, next_succ hord hn, hq]; rfl
        refine cw_exit ?_
        refine ex_pass_exit ?_
        refine ex_block_miss rfl ?_
        refine ex_pass_exit ?_
        refine ex_block_hit ?_
        refine ex_then ?_
        refine cw_seq ?_
        refine cw_region ?_
        refine sq_r (ry_move rfl) ?_
        refine sq_r (ry_move rfl) ?_
        refine sq_y (yl_callC rfl (by simp only [List.length_take]; omega)) ?_
        refine sq_r (ry_assign rfl) ?_
        refine sq_nil ?_
        refine ex_then ?_
        refine cw_ret ?_
        refine ex_ret (.inl rfl) (res_1 rfl (rv_tmp rfl)) (fun w1 hw => ?_)
        exact ⟨congrArg (fun b => Ending.returned (Value.bool b)) ((by rw [List.take_of_length_le (by omega)]; simp)), Keep.mem hw⟩
      · try simp only [Bool.and_eq_true, Bool.or_eq_true, Bool.and_eq_false_iff, Bool.or_eq_false_iff, Bool.not_eq_true', Bool.not_eq_false', decide_eq_true_eq, decide_eq_false_iff_not, Bool.not_eq_true, Bool.not_eq_false] at h2
        obtain ⟨q, hq⟩ : ∃ q, ts[n + 1]? = some q := by cases hq : ts[n + 1]? with | some q => exact ⟨q, rfl⟩ | none => (rw [wnextE, if_pos hok, next_succ hord hn, hq] at h2; simp at h2)
        have hqr : wnextR ts r.p = q := by rw [wnextR, if_pos hok, next_succ hord hn, hq]; rfl
        have hql := (List.getElem?_eq_some_iff.1 hq).1
        refine cw_skip ?_
        refine ex_then ?_
        refine cw_seq ?_
        refine cw_region ?_
        refine sq_r (ry_move rfl) ?_
        refine sq_r (ry_whole rfl) ?_
        refine sq_buildSlice (enc := rcells) (vals := [_]) [(wnextR ts r.p)] rfl rfl rfl (by decide) (by decide) fun b42 => ?_
        refine sq_append (s := s1) (ys := [(wnextR ts r.p)]) rfl rfl (by decide) (fun w hw => src_rows (s := ⟨false, b42, 0, 1, 1, none⟩) Try.underlying22 (by decide) ((inferInstance : Hd _ _ ⟨false, b42, 0, 1, 1, none⟩ rcells 19 [(wnextR ts r.p)]).h w hw)) (by simp only [List.length_cons, List.length_nil]; omega) (by simp only [List.length_cons, List.length_nil]; omega) fun s43 hs43 hl43 => ?_
        refine sq_r (ry_assign rfl) ?_
        refine sq_nil ?_
        refine ex_then ?_
        refine cw_seq ?_
        refine cw_region ?_
        refine sq_r (ry_field (o' := 0) rfl rfl) ?_
        refine sq_r (ry_part rfl) ?_
        refine sq_storeW rfl rfl ?_
        refine sq_nil ?_
        refine ex_then ?_
        refine cw_seq ?_
        refine cw_region ?_
        refine sq_r (ry_move rfl) ?_
        refine sq_r (ry_lenH rfl) ?_
        refine sq_r (ry_move rfl) ?_
        refine sq_r (ry_lenH rfl) ?_
        refine sq_r (ry_int rfl rfl rfl) ?_
        refine sq_nil ?_
        refine ex_then ?_
        refine cw_cond rfl (fun h3 => ?_) (fun h3 => ?_)
        · try simp only [Bool.and_eq_true, Bool.or_eq_true, Bool.and_eq_false_iff, Bool.or_eq_false_iff, Bool.not_eq_true', Bool.not_eq_false', decide_eq_true_eq, decide_eq_false_iff_not, Bool.not_eq_true, Bool.not_eq_false] at h3
          exfalso; rw [List.length_append, htl, Nat.min_eq_left (by omega)] at h3; simp only [List.length_cons, List.length_nil] at h3; omega
        · try simp only [Bool.and_eq_true, Bool.or_eq_true, Bool.and_eq_false_iff, Bool.or_eq_false_iff, Bool.not_eq_true', Bool.not_eq_false', decide_eq_true_eq, decide_eq_false_iff_not, Bool.not_eq_true, Bool.not_eq_false] at h3
          refine cw_skip ?_
          refine ex_block ?_
          exact ex_again (x := (n, s1, r)) (n + 1, s43, q) hq (by simp only; omega) (Sub.cons rfl (Sub.cons rfl (Sub.cons rfl (Sub.nil _)))) (fun w hw => by rw [hqr] at hw; rw [take_snoc hq]; exact Keep.mem hw)

end Go.Proofs.Ytajhlgdapiihgaa

