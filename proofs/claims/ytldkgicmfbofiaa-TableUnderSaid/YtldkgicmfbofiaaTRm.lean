/- The law of what lies under: walked. -/
import Derived.Test.YtldkgicmfbofiaaMz
import Derived.Test.YtldkgicmfbofiaaMu

set_option linter.unusedSimpArgs false
set_option linter.unusedVariables false
namespace Go.Proofs.Ytldkgicmfbofiaa
open Go.Eng Go.Kb
set_option maxRecDepth 20000 in
theorem tableUnder_c (w : World) (t : Sv) (ts : List Rt) (p : Pfx) (k : Key) (ht : Lies rcells 19 (hp w) t ts) : Calls Try.prog 7 #[t.val, .agg (pcells p), .agg (kcells k)] w fun e w' => e = .returned (.bool true) ∧ Mem w [] w' := by
  have ght : Gv w t rcells 19 ts := ⟨ht⟩
  refine calls_of (args := [_, _, _]) Try.func7 rfl Try.ntmps7 rfl ?_
  change Cw _ _ _ _ _ [(0, t.val), (1, .agg (pcells p)), (2, .agg (kcells k))] []
  refine cw_seq ?_
  refine cw_region ?_
  refine sq_boxA rfl fun b4 => ?_
  refine sq_boxA rfl fun b5 => ?_
  refine sq_r (ry_assign rfl) ?_
  refine sq_nil ?_
  refine ex_then ?_
  refine cw_seq ?_
  refine cw_seq ?_
  refine cw_region ?_
  refine sq_y (yl_callC rfl trivial) ?_
  refine sq_r (ry_not rfl) ?_
  refine sq_nil ?_
  refine ex_then ?_
  refine cw_cond rfl (fun h0 => ?_) (fun h0 => ?_)
  · exfalso; simp at h0
  · try simp only [Bool.and_eq_true, Bool.or_eq_true, Bool.and_eq_false_iff, Bool.or_eq_false_iff, Bool.not_eq_true', Bool.not_eq_false', decide_eq_true_eq, decide_eq_false_iff_not, Bool.not_eq_true, Bool.not_eq_false] at h0
    refine cw_skip ?_
    refine ex_then ?_
    refine cw_seq ?_
    refine cw_seq ?_
    refine cw_region ?_
    refine sq_r (ry_move rfl) ?_
    refine sq_r (ry_lenH rfl) ?_
    refine sq_r (ry_int rfl rfl rfl) ?_
    refine sq_r (ry_move rfl) ?_
    refine sq_gf rfl rfl rfl (fun hg => (Ry.yl (ry_move rfl))) ?_
    refine sq_gf rfl rfl rfl (fun hg => yl_callC (evl_cons (ev_c hg rfl) evl_nil) trivial) ?_
    refine sq_gf rfl rfl rfl (fun hg => (Ry.yl (ry_not (ev_c hg rfl)))) ?_
    refine sq_r (ry_or rfl rfl rfl) ?_
    refine sq_r (ry_move rfl) ?_
    refine sq_gf rfl rfl rfl (fun hg => (Ry.yl (ry_whole rfl))) ?_
    refine sq_gf rfl rfl rfl (fun hg => yl_callC (evl_cons (ev_c hg rfl) evl_nil) trivial) ?_
    refine sq_gf rfl rfl rfl (fun hg => (Ry.yl (ry_not (ev_c hg rfl)))) ?_
    refine sq_r (ry_or rfl rfl rfl) ?_
    refine sq_nil ?_
    refine ex_then ?_
    refine cw_cond rfl (fun h1 => ?_) (fun h1 => ?_)
    · try simp only [Bool.and_eq_true, Bool.or_eq_true, Bool.and_eq_false_iff, Bool.or_eq_false_iff, Bool.not_eq_true', Bool.not_eq_false', decide_eq_true_eq, decide_eq_false_iff_not, Bool.not_eq_true, Bool.not_eq_false] at h1
      refine cw_seq ?_
      refine cw_region ?_
      refine sq_r (ry_assign rfl) ?_
      refine sq_nil ?_
      refine ex_then ?_
      refine cw_ret ?_
      refine ex_pass_ret ?_
      refine ex_ret (.inl rfl) (res_1 rfl (rv_tmp rfl)) (fun w1 hw => ?_)
      exact ⟨congrArg (fun b => Ending.returned (Value.bool b)) (rfl), Keep.mem hw⟩
    · try simp only [Bool.and_eq_true, Bool.or_eq_true, Bool.and_eq_false_iff, Bool.or_eq_false_iff, Bool.not_eq_true', Bool.not_eq_false', decide_eq_true_eq, decide_eq_false_iff_not, Bool.not_eq_true, Bool.not_eq_false] at h1
      have hr : tright ts = true := by simpa using h1.1.2
      have hlen := tr_len hr
      have hu := undT_right (p := p) hr
      have hul := undF_len ts p
      have hou : Ord (undF ts p) := (right_ord hr).sub List.filter_sublist
      refine cw_skip ?_
      refine ex_then ?_
      refine cw_seq ?_
      refine cw_region ?_
      refine sq_r (ry_move rfl) ?_
      refine sq_r (ry_whole rfl) ?_
      refine sq_callC rfl (by omega) fun x33 hp33 => ?_
      refine sq_r (ry_assign rfl) ?_
      refine sq_nil ?_
      refine ex_then ?_
      refine cw_seq ?_
      refine cw_region ?_
      refine sq_r (ry_assign rfl) ?_
      refine sq_nil ?_
      refine ex_then ?_
      refine cw_seq ?_
      refine cw_seq ?_
      refine cw_region ?_
      refine sq_r (ry_assign rfl) ?_
      refine sq_nil ?_
      refine ex_then ?_
      refine cw_block ?_
      refine cw_loop (X := Nat × Sv × List Ch) (fun zz => [(9, .int .i64 (zz.1 : Nat)), (8, zz.2.1.val), (0, t.val), (4, .pointer (some ⟨b4, 0, none⟩)), (5, .pointer (some ⟨b5, 0, none⟩)), (7, x33.val)]) (fun zz => [own chcells 20 zz.2.1 zz.2.2, own rcells 19 x33 (undT ts p), blk b5 (kcells k) 24, blk b4 (pcells p) 26]) (fun zz => zz.1 ≤ (undT ts p).length ∧ zz.2.2 = goneL ((undT ts p).take zz.1)) (fun zz => (undT ts p).length - zz.1) (0, Sv.none, []) ⟨Nat.zero_le _, rfl⟩ (Sub.cons rfl (Sub.cons rfl (Sub.cons rfl (Sub.cons rfl (Sub.cons rfl (Sub.cons rfl (Sub.nil _))))))) (fun w hw => Mem.nilOwn chcells 20 (Keep.mem hw)) ?_
      rintro ⟨i, o, q⟩ ⟨hi1, hi2⟩
      dsimp only
      simp only at hi1 hi2
      have hul2 : (undT ts p).length ≤ ts.length := by rw [hu]; exact hul
      have hql : q.length ≤ i := by rw [hi2, goneL, List.length_map, List.length_take]; omega
      refine cw_seq ?_
      refine cw_seq ?_
      refine cw_region ?_
      refine sq_r (ry_move rfl) ?_
      refine sq_r (ry_move rfl) ?_
      refine sq_r (ry_lenH rfl) ?_
      refine sq_r (ry_int rfl rfl rfl) ?_
      refine sq_nil ?_
      refine ex_then ?_
      refine cw_cond rfl (fun h2 => ?_) (fun h2 => ?_)
      · try simp only [Bool.and_eq_true, Bool.or_eq_true, Bool.and_eq_false_iff, Bool.or_eq_false_iff, Bool.not_eq_true', Bool.not_eq_false', decide_eq_true_eq, decide_eq_false_iff_not, Bool.not_eq_true, Bool.not_eq_false] at h2
        have hil : i < (undF ts p).length := by rw [← hu]; omega
        obtain ⟨e, he0⟩ := get_some (xs := undF ts p) (i := i) hil
        have he : (undT ts p)[i]? = some e := by rw [hu]; exact he0
        refine cw_skip ?_
        refine ex_then ?_
        refine cw_seq ?_
        refine cw_block ?_
        refine cw_seq ?_
        refine cw_seq ?_
        refine cw_quiet (by kernel_rfl) (by kernel_rfl) ?_
        refine qt_r (ry_whole rfl) ?_
        refine qt_r (ry_move rfl) ?_
        refine qt_r (ry_move rfl) ?_
        refine qt_r (ry_idxH rfl rfl i rfl (by omega)) ?_
        refine qt_r (ry_field rfl rfl) ?_
        refine qt_r (ry_elempH (j := 0) rfl i he rfl (by decide)) ?_
        refine qt_y (yl_callC rfl trivial) ?_
        refine qt_r (ry_not rfl) ?_
        refine qt_r (ry_move rfl) ?_
        refine qt_gf rfl rfl rfl (fun hg => (Ry.yl (ry_move rfl))) ?_
        refine qt_gf rfl rfl rfl (fun hg => (Ry.yl (ry_int (ev_c hg rfl) rfl rfl))) ?_
        refine qt_gf rfl rfl rfl (fun hg => (Ry.yl (ry_move (ev_c hg rfl)))) ?_
        refine qt_nt rfl rfl rfl (fun hg => (Ry.yl (ry_move rfl))) ?_
        refine qt_nt rfl rfl rfl (fun hg => (Ry.yl (ry_move rfl))) ?_
        refine qt_nt rfl rfl rfl (fun hg => (Ry.yl (ry_sub (ev_c hg rfl) rfl (by simp only [Bool.and_eq_true, Bool.or_eq_true, Bool.and_eq_false_iff, Bool.or_eq_false_iff, Bool.not_eq_true', Bool.not_eq_false', decide_eq_true_eq, decide_eq_false_iff_not, Bool.not_eq_true, Bool.not_eq_false] at hg; omega)))) ?_
        refine qt_nt rfl rfl rfl (fun hg => (Ry.yl (ry_idxH (ev_c hg rfl) (ev_c hg rfl) (((((i : Nat) : Int) - 1)).toNat) (by simp only [Bool.and_eq_true, Bool.or_eq_true, Bool.and_eq_false_iff, Bool.or_eq_false_iff, Bool.not_eq_true', Bool.not_eq_false', decide_eq_true_eq, decide_eq_false_iff_not, Bool.not_eq_true, Bool.not_eq_false] at hg; omega) (by simp only [Bool.and_eq_true, Bool.or_eq_true, Bool.and_eq_false_iff, Bool.or_eq_false_iff, Bool.not_eq_true', Bool.not_eq_false', decide_eq_true_eq, decide_eq_false_iff_not, Bool.not_eq_true, Bool.not_eq_false] at hg; omega)))) ?_
        refine qt_nt rfl rfl rfl (fun hg => (Ry.yl (ry_field (ev_c hg rfl) rfl))) ?_
        refine qt_nt rfl rfl rfl (fun hg => (Ry.yl (ry_elempH (j := 0) (ev_c hg rfl) (((((i : Nat) : Int) - 1)).toNat) (get_getD (xs := (undT ts p)) (i := ((((i : Nat) : Int) - 1)).toNat) (d := zroute) (by simp only [Bool.and_eq_true, Bool.or_eq_true, Bool.and_eq_false_iff, Bool.or_eq_false_iff, Bool.not_eq_true', Bool.not_eq_false', decide_eq_true_eq, decide_eq_false_iff_not, Bool.not_eq_true, Bool.not_eq_false] at hg; omega)) rfl (by decide)))) ?_
        refine qt_nt rfl rfl rfl (fun hg => (Ry.yl (ry_move rfl))) ?_
        refine qt_nt rfl rfl rfl (fun hg => (Ry.yl (ry_move rfl))) ?_
        refine qt_nt rfl rfl rfl (fun hg => (Ry.yl (ry_idxH (ev_c hg rfl) (ev_c hg rfl) i rfl (by simp only [Bool.and_eq_true, Bool.or_eq_true, Bool.and_eq_false_iff, Bool.or_eq_false_iff, Bool.not_eq_true', Bool.not_eq_false', decide_eq_true_eq, decide_eq_false_iff_not, Bool.not_eq_true, Bool.not_eq_false] at hg; omega)))) ?_
        refine qt_nt rfl rfl rfl (fun hg => (Ry.yl (ry_field (ev_c hg rfl) rfl))) ?_
        refine qt_nt rfl rfl rfl (fun hg => (Ry.yl (ry_elempH (j := 0) (ev_c hg rfl) i (get_getD (xs := (undT ts p)) (i := i) (d := zroute) (by simp only [Bool.and_eq_true, Bool.or_eq_true, Bool.and_eq_false_iff, Bool.or_eq_false_iff, Bool.not_eq_true', Bool.not_eq_false', decide_eq_true_eq, decide_eq_false_iff_not, Bool.not_eq_true, Bool.not_eq_false] at hg; omega)) rfl (by decide)))) ?_
        refine qt_nt rfl rfl rfl (fun hg => yl_callC (evl_cons (ev_c hg rfl) (evl_cons (ev_c hg rfl) evl_nil)) trivial) ?_
        refine qt_nt rfl rfl rfl (fun hg => (Ry.yl (ry_not (ev_c hg rfl)))) ?_
        refine qt_gf rfl rfl rfl (fun hg => (Ry.yl (ry_and (ev_c hg rfl) (ev_cc hg rfl) rfl))) ?_
        refine qt_r (ry_or rfl rfl rfl) ?_
        refine qt_nil ?_
        refine ex_then ?_
        refine cw_cond rfl (fun h3 => ?_) (fun h3 => ?_)
        · try simp only [Bool.and_eq_true, Bool.or_eq_true, Bool.and_eq_false_iff, Bool.or_eq_false_iff, Bool.not_eq_true', Bool.not_eq_false', decide_eq_true_eq, decide_eq_false_iff_not, Bool.not_eq_true, Bool.not_eq_false] at h3
          exfalso
          rcases h3 with h | ⟨h31, h32⟩
          · have := (List.mem_filter.1 (List.mem_of_getElem? he0)).2
            rw [h] at this; cases this
          · obtain ⟨d, hd0⟩ := get_some (xs := undF ts p) (i := i - 1) (by omega)
            have hd : (undT ts p)[i - 1]? = some d := by rw [hu]; exact hd0
            have := hou.at hd0 he0 (by omega)
            have e1 : ((i : Int) - 1).toNat = i - 1 := by omega
            simp [List.getD, hd, he, e1, this] at h32
        · try simp only [Bool.and_eq_true, Bool.or_eq_true, Bool.and_eq_false_iff, Bool.or_eq_false_iff, Bool.not_eq_true', Bool.not_eq_false', decide_eq_true_eq, decide_eq_false_iff_not, Bool.not_eq_true, Bool.not_eq_false] at h3
          refine cw_skip ?_
          refine ex_then ?_
          refine cw_region ?_
          refine sq_r (ry_move rfl) ?_
          refine sq_r (ry_move rfl) ?_
          refine sq_r (ry_move rfl) ?_
          refine sq_r (ry_idxH rfl rfl i rfl (by omega)) ?_
          refine sq_r (ry_elemH rfl i he rfl) ?_
          refine sq_r (ry_buildc rfl) ?_
          refine sq_buildSlice (enc := chcells) (vals := [_]) [(⟨e, true⟩ : Ch)] rfl rfl rfl (by decide) (by decide) fun b73 => ?_
          refine sq_append (s := o) (ys := [(⟨e, true⟩ : Ch)]) rfl rfl (by decide) (fun w hw => src_rows (s := ⟨false, b73, 0, 1, 1, none⟩) Try.underlying27 (by decide) ((inferInstance : Hd _ _ ⟨false, b73, 0, 1, 1, none⟩ chcells 20 [(⟨e, true⟩ : Ch)]).h w hw)) (by simp only [List.length_append, List.length_cons, List.length_nil]; omega) (by simp only [List.length_append, List.length_cons, List.length_nil]; omega) fun s74 hs74 hl74 => ?_
          refine sq_r (ry_assign rfl) ?_
          refine sq_nil ?_
          refine ex_block ?_
          refine ex_then ?_
          refine cw_region ?_
          refine sq_r (ry_move rfl) ?_
          refine sq_r (ry_add rfl rfl (by omega)) ?_
          refine sq_r (ry_assign rfl) ?_
          refine sq_nil ?_
          exact ex_again (x := (i, o, q)) (i + 1, s74, q ++ [⟨e, true⟩]) ⟨by first | omega | (simp only []; omega), by rw [List.take_add_one, he, goneL, List.map_append, ← goneL, ← hi2]; rfl⟩ (by simp only; omega) (Sub.cons rfl (Sub.cons rfl (Sub.cons rfl (Sub.cons rfl (Sub.cons rfl (Sub.cons rfl (Sub.nil _))))))) (fun w hw => Keep.mem hw)
      · try simp only [Bool.and_eq_true, Bool.or_eq_true, Bool.and_eq_false_iff, Bool.or_eq_false_iff, Bool.not_eq_true', Bool.not_eq_false', decide_eq_true_eq, decide_eq_false_iff_not, Bool.not_eq_true, Bool.not_eq_false] at h2
        obtain rfl : i = (undT ts p).length := by omega
        rw [List.take_length] at hi2
        obtain ⟨v1, v2, v3⟩ := und_gone (p := p) hr
        rw [← hu, ← hi2] at v1 v2 v3
        have v4 : ((appL ts q).length : Int) + ((undT ts p).length : Int) = (ts.length : Int) := by omega
        refine cw_exit ?_
        refine ex_pass_exit ?_
        refine ex_pass_exit ?_
        refine ex_block_hit ?_
        refine ex_then ?_
        refine cw_seq ?_
        refine cw_region ?_
        refine sq_r (ry_move rfl) ?_
        refine sq_r (ry_move rfl) ?_
        refine sq_callC rfl (by omega) fun x78 hp78 => ?_
        refine sq_r (ry_move rfl) ?_
        refine sq_r (ry_extract (v := x78.val) rfl rfl) ?_
        refine sq_r (ry_extract (v := .int .i64 (appE ts q)) rfl rfl) ?_
        refine sq_r (ry_assign rfl) ?_
        refine sq_r (ry_assign rfl) ?_
        refine sq_nil ?_
        refine ex_then ?_
        refine cw_seq ?_
        refine cw_seq ?_
        refine cw_region ?_
        refine sq_r (ry_move rfl) ?_
        refine sq_r (ry_int rfl rfl rfl) ?_
        refine sq_r (ry_move rfl) ?_
        refine sq_ty rfl rfl rfl (by simp [v1, v4]) (Ry.yl (ry_move rfl)) ?_
        refine sq_ty rfl rfl rfl (by simp [v1, v4]) (Ry.yl (ry_lenH rfl)) ?_
        refine sq_ty rfl rfl rfl (by simp [v1, v4]) (Ry.yl (ry_move rfl)) ?_
        refine sq_ty rfl rfl rfl (by simp [v1, v4]) (Ry.yl (ry_lenH rfl)) ?_
        refine sq_ty rfl rfl rfl (by simp [v1, v4]) (Ry.yl (ry_add rfl rfl (by omega))) ?_
        refine sq_ty rfl rfl rfl (by simp [v1, v4]) (Ry.yl (ry_move rfl)) ?_
        refine sq_ty rfl rfl rfl (by simp [v1, v4]) (Ry.yl (ry_lenH rfl)) ?_
        refine sq_ty rfl rfl rfl (by simp [v1, v4]) (Ry.yl (ry_int rfl rfl rfl)) ?_
        refine sq_r (ry_pickF rfl (by simp [v1, v4]) rfl rfl) ?_
        refine sq_r (ry_move rfl) ?_
        refine sq_ty rfl rfl rfl (by simp [v1, v4]) (Ry.yl (ry_move rfl)) ?_
        refine sq_ty rfl rfl rfl (by simp [v1, v4]) (Ry.yl (ry_whole rfl)) ?_
        refine sq_tcallC rfl rfl (by simp [v1, v4]) rfl (by omega) fun x96 hp96 => ?_
        refine sq_ty rfl rfl rfl (by simp [v1, v4]) (Ry.yl (ry_lenH rfl)) ?_
        refine sq_ty rfl rfl rfl (by simp [v1, v4]) (Ry.yl (ry_int rfl rfl rfl)) ?_
        refine sq_r (ry_pickF rfl (by simp [v1, v4]) rfl rfl) ?_
        refine sq_nil ?_
        refine ex_then ?_
        refine cw_cond rfl (fun h4 => ?_) (fun h4 => ?_)
        · try simp only [Bool.and_eq_true, Bool.or_eq_true, Bool.and_eq_false_iff, Bool.or_eq_false_iff, Bool.not_eq_true', Bool.not_eq_false', decide_eq_true_eq, decide_eq_false_iff_not, Bool.not_eq_true, Bool.not_eq_false] at h4
          exfalso; simp [v1, v3, v4] at h4
        · try simp only [Bool.and_eq_true, Bool.or_eq_true, Bool.and_eq_false_iff, Bool.or_eq_false_iff, Bool.not_eq_true', Bool.not_eq_false', decide_eq_true_eq, decide_eq_false_iff_not, Bool.not_eq_true, Bool.not_eq_false] at h4
          refine cw_skip ?_
          refine ex_then ?_
          refine cw_seq ?_
          refine cw_region ?_
          refine sq_r (ry_move rfl) ?_
          refine sq_r (ry_whole rfl) ?_
          refine sq_r (ry_field (o' := 0) rfl rfl) ?_
          refine sq_r (ry_cellc rfl) ?_
          refine sq_y (yl_callC rfl trivial) ?_
          refine sq_r (ry_move rfl) ?_
          refine sq_r (ry_extract (v := .agg (rcells (bestR ts k p.bits))) rfl rfl) ?_
          refine sq_r (ry_extract (v := .int .i64 (bestE ts k p.bits)) rfl rfl) ?_
          refine sq_allocA fun b12 => ?_
          refine sq_storeW rfl rfl ?_
          refine sq_r (ry_assign rfl) ?_
          refine sq_nil ?_
          refine ex_then ?_
          refine cw_seq ?_
          refine cw_seq ?_
          refine cw_region ?_
          refine sq_r (ry_move rfl) ?_
          refine sq_r (ry_int rfl rfl rfl) ?_
          refine sq_r (ry_move rfl) ?_
          refine sq_gf rfl rfl rfl (fun hg => (Ry.yl (ry_whole rfl))) ?_
          refine sq_gf rfl rfl rfl (fun hg => (Ry.yl (ry_whole rfl))) ?_
          refine sq_gf rfl rfl rfl (fun hg => yl_callC (evl_cons (ev_c hg rfl) (evl_cons (ev_c hg rfl) evl_nil)) trivial) ?_
          refine sq_gf rfl rfl rfl (fun hg => (Ry.yl (ry_not (ev_c hg rfl)))) ?_
          refine sq_r (ry_or rfl rfl rfl) ?_
          refine sq_nil ?_
          refine ex_then ?_
          refine cw_cond rfl (fun h5 => ?_) (fun h5 => ?_)
          · try simp only [Bool.and_eq_true, Bool.or_eq_true, Bool.and_eq_false_iff, Bool.or_eq_false_iff, Bool.not_eq_true', Bool.not_eq_false', decide_eq_true_eq, decide_eq_false_iff_not, Bool.not_eq_true, Bool.not_eq_false] at h5
            refine cw_seq ?_
            refine cw_region ?_
            refine sq_r (ry_assign rfl) ?_
            refine sq_nil ?_
            refine ex_then ?_
            refine cw_ret ?_
            refine ex_pass_ret ?_
            refine ex_ret (.inl rfl) (res_1 rfl (rv_tmp rfl)) (fun w1 hw => ?_)
            exact ⟨congrArg (fun b => Ending.returned (Value.bool b)) (rfl), Keep.mem hw⟩
          · try simp only [Bool.and_eq_true, Bool.or_eq_true, Bool.and_eq_false_iff, Bool.or_eq_false_iff, Bool.not_eq_true', Bool.not_eq_false', decide_eq_true_eq, decide_eq_false_iff_not, Bool.not_eq_true, Bool.not_eq_false] at h5
            have hbe : bestE ts k p.bits = 0 := h5.1
            have hub := und_best (p := p) (k := k) hr hbe rfl h5.2
            rw [← hu] at hub
            refine cw_skip ?_
            refine ex_then ?_
            refine cw_seq ?_
            refine cw_region ?_
            refine sq_r (ry_move rfl) ?_
            refine sq_r (ry_field (o' := 0) rfl rfl) ?_
            refine sq_r (ry_part rfl) ?_
            refine sq_y (yl_callC rfl trivial) ?_
            refine sq_r (ry_move rfl) ?_
            refine sq_r (ry_extract (v := .int .u16 ((getH (undT ts p) ((bestR ts k p.bits).p)).toNat : Nat)) rfl rfl) ?_
            refine sq_r (ry_extract (v := .int .i64 (getE (undT ts p) ((bestR ts k p.bits).p))) rfl rfl) ?_
            refine sq_r (ry_assign rfl) ?_
            refine sq_r (ry_assign rfl) ?_
            refine sq_nil ?_
            refine ex_then ?_
            refine cw_seq ?_
            refine cw_region ?_
            refine sq_r (ry_move rfl) ?_
            refine sq_r (ry_int rfl rfl rfl) ?_
            refine sq_r (ry_field (o' := 0) rfl rfl) ?_
            refine sq_r (ry_part rfl) ?_
            refine sq_r (ry_whole rfl) ?_
            refine sq_y (yl_callC rfl trivial) ?_
            refine sq_r (ry_move rfl) ?_
            refine sq_gt rfl rfl rfl (fun hg => (Ry.yl (ry_field (o' := 0) rfl rfl))) ?_
            refine sq_gt rfl rfl rfl (fun hg => (Ry.yl (ry_part (ev_c hg rfl)))) ?_
            refine sq_gt rfl rfl rfl (fun hg => (Ry.yl (ry_whole rfl))) ?_
            refine sq_gt rfl rfl rfl (fun hg => (Ry.yl (ry_ne (ev_c hg rfl) (ev_c hg rfl)))) ?_
            refine sq_r (ry_and rfl rfl rfl) ?_
            refine sq_r (ry_neb rfl rfl Try.underlying4) ?_
            refine sq_r (ry_assign rfl) ?_
            refine sq_nil ?_
            refine ex_then ?_
            refine cw_ret ?_
            refine ex_ret (.inl rfl) (res_1 rfl (rv_tmp rfl)) (fun w1 hw => ?_)
            exact ⟨congrArg (fun b => Ending.returned (Value.bool b)) ((by by_cases hc1 : pcovers (bestR ts k p.bits).p p = true <;> by_cases hc2 : (bestR ts k p.bits).p = p <;> simp_all)), Keep.mem hw⟩

end Go.Proofs.Ytldkgicmfbofiaa

