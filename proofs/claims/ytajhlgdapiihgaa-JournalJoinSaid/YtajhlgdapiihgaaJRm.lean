/- The law JournalJoin: walked. -/
import Derived.Test.YtajhlgdapiihgaaMn

set_option linter.unusedSimpArgs false
set_option linter.unusedVariables false
namespace Go.Proofs.Ytajhlgdapiihgaa
open Go.Eng Go.Kb
set_option maxRecDepth 20000 in
theorem journalJoin_c (w : World) (u : Sv) (us : List UInt8) (v : Sv) (vs : List UInt8) (hu : Lies benc 1 (hp w) u us) (hv : Lies benc 1 (hp w) v vs) : Calls Try.prog 15 #[u.val, v.val] w fun e w' => e = .returned (.bool true) ∧ Mem w [] w' := by
  have ghu : Gv w u benc 1 us := ⟨hu⟩
  have ghv : Gv w v benc 1 vs := ⟨hv⟩
  obtain ⟨w1, w2, w3⟩ := allJ_whole us
  obtain ⟨z1, z2, z3⟩ := allJ_whole vs
  have m1 := allJ_many us
  have m2 := allJ_many vs
  refine calls_of (args := [_, _]) Try.func15 rfl Try.ntmps15 rfl ?_
  change Cw _ _ _ _ _ [(0, u.val), (1, v.val)] []
  refine cw_seq ?_
  refine cw_region ?_
  refine sq_r (ry_assign rfl) ?_
  refine sq_nil ?_
  refine ex_then ?_
  refine cw_seq ?_
  refine cw_seq ?_
  refine cw_region ?_
  refine sq_y (yl_callC rfl trivial) ?_
  refine sq_r (ry_not rfl) ?_
  refine sq_nil ?_
  refine ex_then ?_
  refine cw_cond rfl (fun h0 => ?_) (fun h0 => ?_)
  · exfalso; simp at h0
  · try simp only [Bool.and_eq_true, Bool.or_eq_true, Bool.and_eq_false_iff, Bool.or_eq_false_iff, Bool.not_eq_true', Bool.not_eq_false', decide_eq_true_eq, decide_eq_false_iff_not, Bool.not_eq_true, Bool.not_eq_false] at h0
    refine cw_skip ?_
    refine ex_then ?_
    refine cw_seq ?_
    refine cw_seq ?_
    refine cw_region ?_
    refine sq_r (ry_move rfl) ?_
    refine sq_r (ry_lenH rfl) ?_
    refine sq_r (ry_int rfl rfl rfl) ?_
    refine sq_r (ry_move rfl) ?_
    refine sq_gf rfl rfl rfl (fun hg => (Ry.yl (ry_move rfl))) ?_
    refine sq_gf rfl rfl rfl (fun hg => (Ry.yl (ry_lenH (ev_c hg rfl)))) ?_
    refine sq_gf rfl rfl rfl (fun hg => (Ry.yl (ry_int (ev_c hg rfl) rfl rfl))) ?_
    refine sq_r (ry_or rfl rfl rfl) ?_
    refine sq_nil ?_
    refine ex_then ?_
    refine cw_cond rfl (fun h1 => ?_) (fun h1 => ?_)
    · try simp only [Bool.and_eq_true, Bool.or_eq_true, Bool.and_eq_false_iff, Bool.or_eq_false_iff, Bool.not_eq_true', Bool.not_eq_false', decide_eq_true_eq, decide_eq_false_iff_not, Bool.not_eq_true, Bool.not_eq_false] at h1
      refine cw_seq ?_
      refine cw_region ?_
      refine sq_r (ry_assign rfl) ?_
      refine sq_nil ?_
      refine ex_then ?_
      refine cw_ret ?_
      refine ex_pass_ret ?_
      refine ex_ret (.inl rfl) (res_1 rfl (rv_tmp rfl)) (fun w1 hw => ?_)
      exact ⟨congrArg (fun b => Ending.returned (Value.bool b)) (rfl), Keep.mem hw⟩
    · try simp only [Bool.and_eq_true, Bool.or_eq_true, Bool.and_eq_false_iff, Bool.or_eq_false_iff, Bool.not_eq_true', Bool.not_eq_false', decide_eq_true_eq, decide_eq_false_iff_not, Bool.not_eq_true, Bool.not_eq_false] at h1
      refine cw_skip ?_
      refine ex_then ?_
      refine cw_seq ?_
      refine cw_region ?_
      refine sq_r (ry_move rfl) ?_
      refine sq_callC rfl (by omega) fun x27 hp27 => ?_
      have l27 : x27.xs.length = (allJ us).1.length := by rw [← lc_length, hp27]
      have w4 : framesJ (lc x27) = us.take (allJ us).2 := by rw [hp27, w3]
      have w5 : (framesJ (lc x27)).length ≤ 3000 := by rw [w4, List.length_take]; omega
      refine sq_r (ry_move rfl) ?_
      refine sq_r (ry_extract (v := x27.sv.val) rfl rfl) ?_
      refine sq_r (ry_extract (v := .int .i64 (((allJ us).2) : Nat)) rfl rfl) ?_
      refine sq_r (ry_assign rfl) ?_
      refine sq_r (ry_assign rfl) ?_
      refine sq_nil ?_
      refine ex_then ?_
      refine cw_seq ?_
      refine cw_region ?_
      refine sq_r (ry_move rfl) ?_
      refine sq_callC rfl (by omega) fun x32 hp32 => ?_
      have l32 : x32.xs.length = (allJ vs).1.length := by rw [← lc_length, hp32]
      refine sq_r (ry_move rfl) ?_
      refine sq_r (ry_extract (v := x32.sv.val) rfl rfl) ?_
      refine sq_r (ry_extract (v := .int .i64 (((allJ vs).2) : Nat)) rfl rfl) ?_
      refine sq_r (ry_assign rfl) ?_
      refine sq_r (ry_assign rfl) ?_
      refine sq_nil ?_
      refine ex_then ?_
      refine cw_seq ?_
      refine cw_seq ?_
      refine cw_region ?_
      refine sq_r (ry_move rfl) ?_
      refine sq_r (ry_int rfl rfl rfl) ?_
      refine sq_r (ry_move rfl) ?_
      refine sq_gf rfl rfl rfl (fun hg => (Ry.yl (ry_move rfl))) ?_
      refine sq_gf rfl rfl rfl (fun hg => (Ry.yl (ry_move rfl))) ?_
      refine sq_gf rfl rfl rfl (fun hg => (Ry.yl (ry_lenH (ev_c hg rfl)))) ?_
      refine sq_gf rfl rfl rfl (fun hg => (Ry.yl (ry_int (ev_c hg rfl) (ev_c hg rfl) rfl))) ?_
      refine sq_r (ry_or rfl rfl rfl) ?_
      refine sq_r (ry_move rfl) ?_
      refine sq_gf rfl rfl rfl (fun hg => (Ry.yl (ry_move rfl))) ?_
      refine sq_gf rfl rfl rfl (fun hg => (Ry.yl (ry_int (ev_c hg rfl) rfl rfl))) ?_
      refine sq_r (ry_or rfl rfl rfl) ?_
      refine sq_r (ry_move rfl) ?_
      refine sq_gf rfl rfl rfl (fun hg => (Ry.yl (ry_move rfl))) ?_
      refine sq_gf rfl rfl rfl (fun hg => (Ry.yl (ry_move rfl))) ?_
      refine sq_gf rfl rfl rfl (fun hg => (Ry.yl (ry_lenH (ev_c hg rfl)))) ?_
      refine sq_gf rfl rfl rfl (fun hg => (Ry.yl (ry_int (ev_c hg rfl) (ev_c hg rfl) rfl))) ?_
      refine sq_r (ry_or rfl rfl rfl) ?_
      refine sq_nil ?_
      refine ex_then ?_
      refine cw_cond rfl (fun h2 => ?_) (fun h2 => ?_)
      · exfalso; simp at h2; omega
      · try simp only [Bool.and_eq_true, Bool.or_eq_true, Bool.and_eq_false_iff, Bool.or_eq_false_iff, Bool.not_eq_true', Bool.not_eq_false', decide_eq_true_eq, decide_eq_false_iff_not, Bool.not_eq_true, Bool.not_eq_false] at h2
        refine cw_skip ?_
        refine ex_then ?_
        refine cw_seq ?_
        refine cw_region ?_
        refine sq_build0 benc fun b54 => ?_
        refine sq_r (ry_move rfl) ?_
        refine sq_r (ry_move rfl) ?_
        have rg57 : Rg 0 ((allJ us).2) us.length := ⟨by omega⟩
        refine sq_r (ry_subH_hi rfl rfl ((allJ us).2) rfl rg57.h.2) ?_
        refine sq_append (s := ⟨false, b54, 0, 0, 0, none⟩) (ys := ((us.drop 0).take (((allJ us).2) - 0))) rfl rfl (by decide) (fun w hw => src_rows (s := (u.sub 1 0 ((allJ us).2))) Try.underlying83 (by decide) ((inferInstance : Hd _ _ (u.sub 1 0 ((allJ us).2)) benc 1 ((us.drop 0).take (((allJ us).2) - 0))).h w hw)) (by simp only [List.length_nil, List.length_take, List.length_drop]; omega) (by simp only [List.length_nil, List.length_take, List.length_drop]; omega) fun s58 hs58 hl58 => ?_
        refine sq_r (ry_move rfl) ?_
        refine sq_append (s := s58) (ys := vs) rfl rfl (by decide) (fun w hw => src_rows (s := v) Try.underlying83 (by decide) ((inferInstance : Hd _ _ v benc 1 vs).h w hw)) (by simp only [List.length_append, List.length_nil, List.length_take, List.length_drop]; omega) (by simp only [List.length_append, List.length_nil, List.length_take, List.length_drop]; omega) fun s60 hs60 hl60 => ?_
        refine sq_callC rfl (by simp only [List.length_append, List.length_nil, List.length_take, List.length_drop]; omega) fun x61 hp61 => ?_
        have e61n := allJ_take us vs
        have e61 : allJ (([] ++ (us.drop 0).take ((allJ us).2 - 0)) ++ vs) = ((allJ us).1 ++ (allJ vs).1, (allJ us).2 + (allJ vs).2) := by rw [List.nil_append, List.drop_zero, Nat.sub_zero]; exact allJ_take us vs
        rw [e61] at hp61
        have e61b : ((allJ (([] ++ (us.drop 0).take ((allJ us).2 - 0)) ++ vs)).2 : Int) = (allJ us).2 + (allJ vs).2 := by rw [e61]; rfl
        have e61c : lc x61 = lc (⟨Sv.none, ([] ++ x27.xs) ++ x32.xs⟩ : Sl (Sl Ch)) := by rw [hp61, ← hp27, ← hp32]; simp [lc]
        refine sq_r (ry_move rfl) ?_
        refine sq_r (ry_extract (v := x61.sv.val) rfl rfl) ?_
        refine sq_r (ry_extract (v := .int .i64 (((allJ (([] ++ ((us.drop 0).take (((allJ us).2) - 0))) ++ vs)).2) : Nat)) rfl rfl) ?_
        refine sq_r (ry_assign rfl) ?_
        refine sq_r (ry_assign rfl) ?_
        refine sq_nil ?_
        refine ex_then ?_
        refine cw_seq ?_
        refine cw_seq ?_
        refine cw_region ?_
        refine sq_r (ry_move rfl) ?_
        refine sq_r (ry_move rfl) ?_
        refine sq_r (ry_move rfl) ?_
        refine sq_r (ry_add rfl rfl (by omega)) ?_
        refine sq_r (ry_int rfl rfl rfl) ?_
        refine sq_r (ry_move rfl) ?_
        refine sq_ty rfl rfl rfl (by simp [e61n]) (Ry.yl (ry_move rfl)) ?_
        refine sq_gd rfl rfl (by simp [e61n]) ?_
        refine sq_build0 (scells (τ := Ch)) fun b71 => ?_
        refine sq_ty rfl rfl rfl (by simp [e61n]) (Ry.yl (ry_move rfl)) ?_
        refine sq_gd rfl rfl (by simp [e61n]) ?_
        refine sq_append (s := ⟨false, b71, 0, 0, 0, none⟩) (enc := (scells (τ := Ch))) (ys := x27.xs) rfl rfl (by decide) (fun w hw => src_rows (s := x27.sv) Try.underlying95 (by decide) ((inferInstance : HdE _ _ (scells (τ := Ch)) 1 x27.sv x27.xs).h w hw)) (by simp only [List.length_append, List.length_nil]; omega) (by simp only [List.length_append, List.length_nil]; omega) fun s73 hs73 hl73 => ?_
        refine sq_ty rfl rfl rfl (by simp [e61n]) (Ry.yl (ry_move rfl)) ?_
        refine sq_gd rfl rfl (by simp [e61n]) ?_
        refine sq_append (s := s73) (enc := (scells (τ := Ch))) (ys := x32.xs) rfl rfl (by decide) (fun w hw => src_rows (s := x32.sv) Try.underlying95 (by decide) ((inferInstance : HdE _ _ (scells (τ := Ch)) 1 x32.sv x32.xs).h w hw)) (by simp only [List.length_append, List.length_nil]; omega) (by simp only [List.length_append, List.length_nil]; omega) fun s75 hs75 hl75 => ?_
        refine sq_nameD (τ := Sl Ch) (xs := ([] ++ x27.xs) ++ x32.xs) fun a75 h75 g75 => ?_
        have e75 : lc x61 = lc a75 := by rw [e61c, h75]; rfl
        refine sq_ty rfl rfl rfl (by simp [e61n]) (yl_callC rfl trivial) ?_
        refine sq_ty rfl rfl rfl (by simp [e61n]) (Ry.yl (ry_not rfl)) ?_
        refine sq_r (ry_pickF rfl (by simp [e61n]) rfl rfl) ?_
        refine sq_nil ?_
        refine ex_then ?_
        refine cw_cond rfl (fun h3 => ?_) (fun h3 => ?_)
        · exfalso
          simp [e61n, e75] at h3
        · try simp only [Bool.and_eq_true, Bool.or_eq_true, Bool.and_eq_false_iff, Bool.or_eq_false_iff, Bool.not_eq_true', Bool.not_eq_false', decide_eq_true_eq, decide_eq_false_iff_not, Bool.not_eq_true, Bool.not_eq_false] at h3
          refine cw_skip ?_
          refine ex_then ?_
          refine cw_seq ?_
          refine cw_region ?_
          refine sq_r (ry_assign rfl) ?_
          refine sq_nil ?_
          refine ex_then ?_
          refine cw_seq ?_
          refine cw_seq ?_
          refine cw_region ?_
          refine sq_r (ry_assign rfl) ?_
          refine sq_nil ?_
          refine ex_then ?_
          refine cw_block ?_
          refine cw_loop (X := Nat × Sv) (fun zz => [(12, .int .i64 (zz.1 : Nat)), (11, zz.2.val), (0, u.val), (5, x27.sv.val), (6, .int .i64 (((allJ us).2) : Nat))]) (fun zz => [own benc 1 zz.2 (framesJ ((lc x27).take zz.1)), Deep.ent x27]) (fun zz => zz.1 ≤ x27.xs.length) (fun zz => x27.xs.length - zz.1) (0, Sv.none) (Nat.zero_le _) (Sub.cons rfl (Sub.cons rfl (Sub.cons rfl (Sub.cons rfl (Sub.cons rfl (Sub.nil _)))))) (fun w hw => Mem.nilOwn benc 1 (Keep.mem hw)) ?_
          rintro ⟨i, s⟩ hi1
          dsimp only
          simp only at hi1
          refine cw_seq ?_
          refine cw_seq ?_
          refine cw_region ?_
          refine sq_r (ry_move rfl) ?_
          refine sq_r (ry_move rfl) ?_
          refine sq_r (ry_lenH rfl) ?_
          refine sq_r (ry_int rfl rfl rfl) ?_
          refine sq_nil ?_
          refine ex_then ?_
          refine cw_cond rfl (fun h4 => ?_) (fun h4 => ?_)
          · try simp only [Bool.and_eq_true, Bool.or_eq_true, Bool.and_eq_false_iff, Bool.or_eq_false_iff, Bool.not_eq_true', Bool.not_eq_false', decide_eq_true_eq, decide_eq_false_iff_not, Bool.not_eq_true, Bool.not_eq_false] at h4
            obtain ⟨z, hz⟩ := get_some (xs := x27.xs) (i := i) (by omega)
            have mbz : Mb z _ := ⟨List.mem_of_getElem? hz⟩
            have hez : jputE z.xs = 0 := w2 _ (by rw [← hp27]; exact List.mem_map.2 ⟨z, List.mem_of_getElem? hz, rfl⟩)
            have hfz : jaddV (framesJ ((lc x27).take i)) z.xs = framesJ ((lc x27).take (i + 1)) := by rw [jadd_frame hez]; exact (framesJ_at (p := lc x27) (by simp [lc, hz])).symm
            have hfl := framesJ_le (lc x27) i
            refine cw_skip ?_
            refine ex_then ?_
            refine cw_seq ?_
            refine cw_block ?_
            refine cw_seq ?_
            refine cw_region ?_
            refine sq_r (ry_move rfl) ?_
            refine sq_r (ry_move rfl) ?_
            refine sq_r (ry_move rfl) ?_
            refine sq_r (ry_idxH rfl rfl i rfl (by omega)) ?_
            refine sq_r (ry_elemcH (j := 0) rfl i hz rfl (by decide)) ?_
            have mb90 : Mb z _ := ⟨List.mem_of_getElem? hz⟩
            refine sq_callC rfl (by omega) fun x91 hp91 => ?_
            refine sq_r (ry_move rfl) ?_
            refine sq_r (ry_extract (v := x91.val) rfl rfl) ?_
            refine sq_r (ry_extract (v := .int .i64 (jputE z.xs)) rfl rfl) ?_
            refine sq_r (ry_assign rfl) ?_
            refine sq_r (ry_assign rfl) ?_
            refine sq_nil ?_
            refine ex_then ?_
            refine cw_seq ?_
            refine cw_seq ?_
            refine cw_region ?_
            refine sq_r (ry_move rfl) ?_
            refine sq_r (ry_int rfl rfl rfl) ?_
            refine sq_nil ?_
            refine ex_then ?_
            refine cw_cond rfl (fun h5 => ?_) (fun h5 => ?_)
            · exfalso; simp [hez] at h5
            · try simp only [Bool.and_eq_true, Bool.or_eq_true, Bool.and_eq_false_iff, Bool.or_eq_false_iff, Bool.not_eq_true', Bool.not_eq_false', decide_eq_true_eq, decide_eq_false_iff_not, Bool.not_eq_true, Bool.not_eq_false] at h5
              refine cw_skip ?_
              refine ex_then ?_
              refine cw_region ?_
              refine sq_r (ry_move rfl) ?_
              refine sq_r (ry_assign rfl) ?_
              refine sq_nil ?_
              refine ex_block ?_
              refine ex_then ?_
              refine cw_region ?_
              refine sq_r (ry_move rfl) ?_
              refine sq_r (ry_add rfl rfl (by omega)) ?_
              refine sq_r (ry_assign rfl) ?_
              refine sq_nil ?_
              exact ex_again (x := (i, s)) (i + 1, x91) (by simp only; omega) (by simp only; omega) (Sub.cons rfl (Sub.cons rfl (Sub.cons rfl (Sub.cons rfl (Sub.cons rfl (Sub.nil _)))))) (fun w hw => by rw [hfz] at hw; exact Keep.mem hw)
          · try simp only [Bool.and_eq_true, Bool.or_eq_true, Bool.and_eq_false_iff, Bool.or_eq_false_iff, Bool.not_eq_true', Bool.not_eq_false', decide_eq_true_eq, decide_eq_false_iff_not, Bool.not_eq_true, Bool.not_eq_false] at h4
            obtain rfl : i = x27.xs.length := by omega
            rw [List.take_of_length_le (by rw [lc_length]; exact Nat.le_refl _)]
            refine cw_exit ?_
            refine ex_pass_exit ?_
            refine ex_pass_exit ?_
            refine ex_block_hit ?_
            refine ex_then ?_
            refine cw_seq ?_
            refine cw_quiet (by kernel_rfl) (by kernel_rfl) ?_
            refine qt_r (ry_move rfl) ?_
            refine qt_r (ry_bstrH Try.underlying83 Try.underlying5 Try.underlying9 rfl) ?_
            refine qt_r (ry_move rfl) ?_
            refine qt_r (ry_move rfl) ?_
            have rg101 : Rg 0 ((allJ us).2) us.length := ⟨by omega⟩
            refine qt_r (ry_subH_hi rfl rfl ((allJ us).2) rfl rg101.h.2) ?_
            refine qt_r (ry_bstrH Try.underlying83 Try.underlying5 Try.underlying9 rfl) ?_
            refine qt_r (ry_streqL rfl rfl) ?_
            refine qt_r (ry_assign rfl) ?_
            refine qt_nil ?_
            refine ex_then ?_
            refine cw_ret ?_
            refine ex_ret (.inl rfl) (res_1 rfl (rv_tmp rfl)) (fun w1 hw => ?_)
            exact ⟨congrArg (fun b => Ending.returned (Value.bool b)) ((by rw [w4]; simp)), Keep.mem hw⟩

end Go.Proofs.Ytajhlgdapiihgaa

