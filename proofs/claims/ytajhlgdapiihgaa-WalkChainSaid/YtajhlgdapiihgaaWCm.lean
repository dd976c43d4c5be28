/- The law WalkChain: walked. -/
import Derived.Test.YtajhlgdapiihgaaMi

set_option linter.unusedSimpArgs false
set_option linter.unusedVariables false
namespace Go.Proofs.Ytajhlgdapiihgaa
open Go.Eng Go.Kb
set_option maxRecDepth 20000 in
theorem walkChain_c (w : World) (t : Sv) (ts : List Rt) (k : Key) (bits : Int) (ht : Lies rcells 19 (hp w) t ts) : Calls Try.prog 7 #[t.val, .agg (kcells k), .int .i64 bits] w fun e w' => e = .returned (.bool true) ∧ Mem w [] w' := by
  have ght : Gv w t rcells 19 ts := ⟨ht⟩
  refine calls_of (args := [_, _, _]) Try.func7 rfl Try.ntmps7 rfl ?_
  change Cw _ _ _ _ _ [(0, t.val), (1, .agg (kcells k)), (2, .int .i64 bits)] []
  refine cw_seq ?_
  refine cw_region ?_
  refine sq_boxA rfl fun b4 => ?_
  refine sq_r (ry_assign rfl) ?_
  refine sq_nil ?_
  refine ex_then ?_
  refine cw_seq ?_
  refine cw_seq ?_
  refine cw_region ?_
  refine sq_y (yl_callC rfl trivial) ?_
  refine sq_r (ry_not rfl) ?_
  refine sq_nil ?_
  refine ex_then ?_
  refine cw_cond rfl (fun h0 => ?_) (fun h0 => ?_)
  · exfalso; simp at h0
  · try simp only [Bool.and_eq_true, Bool.or_eq_true, Bool.and_eq_false_iff, Bool.or_eq_false_iff, Bool.not_eq_true', Bool.not_eq_false', decide_eq_true_eq, decide_eq_false_iff_not, Bool.not_eq_true, Bool.not_eq_false] at h0
    refine cw_skip ?_
    refine ex_then ?_
    refine cw_seq ?_
    refine cw_seq ?_
    refine cw_region ?_
    refine sq_r (ry_move rfl) ?_
    refine sq_r (ry_lenH rfl) ?_
    refine sq_r (ry_int rfl rfl rfl) ?_
    refine sq_r (ry_move rfl) ?_
    refine sq_gf rfl rfl rfl (fun hg => (Ry.yl (ry_move rfl))) ?_
    refine sq_gf rfl rfl rfl (fun hg => yl_callC (evl_cons (ev_c hg rfl) evl_nil) trivial) ?_
    refine sq_gf rfl rfl rfl (fun hg => (Ry.yl (ry_not (ev_c hg rfl)))) ?_
    refine sq_r (ry_or rfl rfl rfl) ?_
    refine sq_nil ?_
    refine ex_then ?_
    refine cw_cond rfl (fun h1 => ?_) (fun h1 => ?_)
    · try simp only [Bool.and_eq_true, Bool.or_eq_true, Bool.and_eq_false_iff, Bool.or_eq_false_iff, Bool.not_eq_true', Bool.not_eq_false', decide_eq_true_eq, decide_eq_false_iff_not, Bool.not_eq_true, Bool.not_eq_false] at h1
      refine cw_seq ?_
      refine cw_region ?_
      refine sq_r (ry_assign rfl) ?_
      refine sq_nil ?_
      refine ex_then ?_
      refine cw_ret ?_
      refine ex_pass_ret ?_
      refine ex_ret (.inl rfl) (res_1 rfl (rv_tmp rfl)) (fun w1 hw => ?_)
      exact ⟨congrArg (fun b => Ending.returned (Value.bool b)) (rfl), Keep.mem hw⟩
    · try simp only [Bool.and_eq_true, Bool.or_eq_true, Bool.and_eq_false_iff, Bool.or_eq_false_iff, Bool.not_eq_true', Bool.not_eq_false', decide_eq_true_eq, decide_eq_false_iff_not, Bool.not_eq_true, Bool.not_eq_false] at h1
      have hr : tright ts = true := by simpa using h1.2
      have hlen := tr_len hr
      have hord := right_ord hr
      have hbt := ht.bd
      have hcv := chainV_eq (k := k) (bits := bits) hr
      have hcl : (chainV ts k bits).length ≤ ts.length := by rw [hcv]; exact List.length_filter_le _ _
      refine cw_skip ?_
      refine ex_then ?_
      refine cw_seq ?_
      refine cw_region ?_
      refine sq_r (ry_move rfl) ?_
      refine sq_r (ry_whole rfl) ?_
      refine sq_r (ry_move rfl) ?_
      refine sq_callC rfl trivial fun x30 hp30 => ?_
      refine sq_r (ry_assign rfl) ?_
      refine sq_nil ?_
      refine ex_then ?_
      refine cw_seq ?_
      refine cw_region ?_
      refine sq_r (ry_move rfl) ?_
      refine sq_r (ry_whole rfl) ?_
      refine sq_r (ry_move rfl) ?_
      refine sq_y (yl_callC rfl trivial) ?_
      refine sq_r (ry_move rfl) ?_
      refine sq_r (ry_extract (v := .agg (rcells (bestR ts k bits))) rfl rfl) ?_
      refine sq_r (ry_extract (v := .int .i64 (bestE ts k bits)) rfl rfl) ?_
      refine sq_allocA fun b8 => ?_
      refine sq_storeW rfl rfl ?_
      refine sq_r (ry_assign rfl) ?_
      refine sq_nil ?_
      refine ex_then ?_
      refine cw_seq ?_
      refine cw_seq ?_
      refine cw_region ?_
      refine sq_r (ry_move rfl) ?_
      refine sq_r (ry_lenH rfl) ?_
      refine sq_r (ry_int rfl rfl rfl) ?_
      refine sq_nil ?_
      refine ex_then ?_
      refine cw_cond rfl (fun h2 => ?_) (fun h2 => ?_)
      · try simp only [Bool.and_eq_true, Bool.or_eq_true, Bool.and_eq_false_iff, Bool.or_eq_false_iff, Bool.not_eq_true', Bool.not_eq_false', decide_eq_true_eq, decide_eq_false_iff_not, Bool.not_eq_true, Bool.not_eq_false] at h2
        have hbe : bestE ts k bits ≠ 0 := chain_nil hr (by rw [← hcv]; exact List.length_eq_zero_iff.1 (by omega))
        refine cw_seq ?_
        refine cw_region ?_
        refine sq_r (ry_move rfl) ?_
        refine sq_r (ry_int rfl rfl rfl) ?_
        refine sq_r (ry_assign rfl) ?_
        refine sq_nil ?_
        refine ex_then ?_
        refine cw_ret ?_
        refine ex_pass_ret ?_
        refine ex_ret (.inl rfl) (res_1 rfl (rv_tmp rfl)) (fun w1 hw => ?_)
        exact ⟨congrArg (fun b => Ending.returned (Value.bool b)) ((by simp [hbe])), Keep.mem hw⟩
      · try simp only [Bool.and_eq_true, Bool.or_eq_true, Bool.and_eq_false_iff, Bool.or_eq_false_iff, Bool.not_eq_true', Bool.not_eq_false', decide_eq_true_eq, decide_eq_false_iff_not, Bool.not_eq_true, Bool.not_eq_false] at h2
        have hpos : 0 < (chainV ts k bits).length := by omega
        obtain ⟨el, hel⟩ := get_some (xs := (chainV ts k bits)) (i := (chainV ts k bits).length - 1) (by omega)
        obtain ⟨hb1, hb2, hb3⟩ := chain_last hr (by rw [hcv] at hel; exact hel)
        rw [← hcv] at hb3
        have hdv : depV ts = depP ts := if_pos hr
        rw [← hdv] at hb3
        refine cw_skip ?_
        refine ex_then ?_
        refine cw_seq ?_
        refine cw_seq ?_
        refine cw_quiet (by kernel_rfl) (by kernel_rfl) ?_
        refine qt_r (ry_move rfl) ?_
        refine qt_r (ry_int rfl rfl rfl) ?_
        refine qt_r (ry_move rfl) ?_
        refine qt_ty rfl rfl rfl (by simp [hb1, hb2]) (Ry.yl (ry_move rfl)) ?_
        refine qt_ty rfl rfl rfl (by simp [hb1, hb2]) (Ry.yl (ry_move rfl)) ?_
        refine qt_ty rfl rfl rfl (by simp [hb1, hb2]) (Ry.yl (ry_lenH rfl)) ?_
        refine qt_ty rfl rfl rfl (by simp [hb1, hb2]) (Ry.yl (ry_sub rfl rfl (by omega))) ?_
        refine qt_ty rfl rfl rfl (by simp [hb1, hb2]) (Ry.yl (ry_idxH rfl rfl ((chainV ts k bits).length - 1) (by omega) (by omega))) ?_
        refine qt_ty rfl rfl rfl (by simp [hb1, hb2]) (Ry.yl (ry_elemH rfl ((chainV ts k bits).length - 1) hel rfl)) ?_
        refine qt_ty rfl rfl rfl (by simp [hb1, hb2]) (Ry.yl (ry_whole rfl)) ?_
        refine qt_ty rfl rfl rfl (by simp [hb1, hb2]) (Ry.yl (ry_ne rfl rfl)) ?_
        refine qt_r (ry_pickF rfl (by simp [hb1, hb2]) rfl rfl) ?_
        refine qt_r (ry_move rfl) ?_
        refine qt_ty rfl rfl rfl (by simp [hb1, hb2]) (Ry.yl (ry_move rfl)) ?_
        refine qt_ty rfl rfl rfl (by simp [hb1, hb2]) (Ry.yl (ry_lenH rfl)) ?_
        refine qt_ty rfl rfl rfl (by simp [hb1, hb2]) (Ry.yl (ry_move rfl)) ?_
        refine qt_ty rfl rfl rfl (by simp [hb1, hb2]) (yl_callC rfl trivial) ?_
        refine qt_ty rfl rfl rfl (by simp [hb1, hb2]) (Ry.yl (ry_int rfl rfl rfl)) ?_
        refine qt_r (ry_pickF rfl (by simp [hb1, hb2]) rfl rfl) ?_
        refine qt_nil ?_
        refine ex_then ?_
        refine cw_cond rfl (fun h3 => ?_) (fun h3 => ?_)
        · exfalso; simp [hb1, hb2] at h3; omega
        · try simp only [Bool.and_eq_true, Bool.or_eq_true, Bool.and_eq_false_iff, Bool.or_eq_false_iff, Bool.not_eq_true', Bool.not_eq_false', decide_eq_true_eq, decide_eq_false_iff_not, Bool.not_eq_true, Bool.not_eq_false] at h3
          refine cw_skip ?_
          refine ex_then ?_
          refine cw_seq ?_
          refine cw_seq ?_
          refine cw_region ?_
          refine sq_r (ry_assign rfl) ?_
          refine sq_nil ?_
          refine ex_then ?_
          refine cw_block ?_
          refine cw_loop (X := Nat) (fun zz => [(10, .int .i64 (zz : Nat)), (0, t.val), (7, x30.val)]) (fun zz => [own rcells 19 x30 (chainV ts k bits), blk b4 (kcells k) 24]) (fun zz => 1 ≤ zz ∧ zz ≤ (chainV ts k bits).length) (fun zz => (chainV ts k bits).length - zz) 1 ⟨Nat.le_refl _, hpos⟩ (Sub.cons rfl (Sub.cons rfl (Sub.cons rfl (Sub.nil _)))) (fun w hw => Keep.mem hw) ?_
          rintro i ⟨hi0, hi1⟩
          refine cw_seq ?_
          refine cw_seq ?_
          refine cw_region ?_
          refine sq_r (ry_move rfl) ?_
          refine sq_r (ry_move rfl) ?_
          refine sq_r (ry_lenH rfl) ?_
          refine sq_r (ry_int rfl rfl rfl) ?_
          refine sq_nil ?_
          refine ex_then ?_
          refine cw_cond rfl (fun h4 => ?_) (fun h4 => ?_)
          · try simp only [Bool.and_eq_true, Bool.or_eq_true, Bool.and_eq_false_iff, Bool.or_eq_false_iff, Bool.not_eq_true', Bool.not_eq_false', decide_eq_true_eq, decide_eq_false_iff_not, Bool.not_eq_true, Bool.not_eq_false] at h4
            obtain ⟨ea, hea⟩ := get_some (xs := (chainV ts k bits)) (i := i - 1) (by omega)
            obtain ⟨eb, heb⟩ := get_some (xs := (chainV ts k bits)) (i := i) (by omega)
            obtain ⟨ho1, ho2⟩ : overF ts eb.p = some ea ∧ pcovers ea.p eb.p = true := by rw [hcv] at hea heb; exact chain_over (i := i - 1) hr hea (by rw [show i - 1 + 1 = i by omega]; exact heb)
            have hok : nextOk ts eb.p = true := by rw [nextOk, hr, hord.may eb (by rw [hcv] at heb; exact (chain_mem.1 (List.mem_of_getElem? heb)).1)]; rfl
            have hoe : overE ts eb.p = 0 := by rw [overE, if_pos hok, ho1]; rfl
            have hor : overR ts eb.p = ea := by rw [overR, if_pos hok, ho1]; rfl
            refine cw_skip ?_
            refine ex_then ?_
            refine cw_seq ?_
            refine cw_block ?_
            refine cw_seq ?_
            refine cw_region ?_
            refine sq_r (ry_move rfl) ?_
            refine sq_r (ry_move rfl) ?_
            refine sq_r (ry_move rfl) ?_
            refine sq_r (ry_idxH rfl rfl i rfl (by omega)) ?_
            refine sq_r (ry_field rfl rfl) ?_
            refine sq_r (ry_elempH (j := 0) rfl i heb rfl (by decide)) ?_
            refine sq_y (yl_callC rfl trivial) ?_
            refine sq_r (ry_move rfl) ?_
            refine sq_r (ry_extract (v := .agg (rcells (overR ts eb.p))) rfl rfl) ?_
            refine sq_r (ry_extract (v := .int .i64 (overE ts eb.p)) rfl rfl) ?_
            refine sq_allocA fun b11 => ?_
            refine sq_storeW rfl rfl ?_
            refine sq_r (ry_assign rfl) ?_
            refine sq_nil ?_
            refine ex_then ?_
            refine cw_seq ?_
            refine cw_quiet (by kernel_rfl) (by kernel_rfl) ?_
            refine qt_r (ry_move rfl) ?_
            refine qt_r (ry_int rfl rfl rfl) ?_
            refine qt_r (ry_move rfl) ?_
            refine qt_ty rfl rfl rfl (by simp [hoe, hor, ho2]) (Ry.yl (ry_whole rfl)) ?_
            refine qt_ty rfl rfl rfl (by simp [hoe, hor, ho2]) (Ry.yl (ry_move rfl)) ?_
            refine qt_ty rfl rfl rfl (by simp [hoe, hor, ho2]) (Ry.yl (ry_move rfl)) ?_
            refine qt_ty rfl rfl rfl (by simp [hoe, hor, ho2]) (Ry.yl (ry_sub rfl rfl (by omega))) ?_
            refine qt_ty rfl rfl rfl (by simp [hoe, hor, ho2]) (Ry.yl (ry_idxH rfl rfl (i - 1) (by omega) (by omega))) ?_
            refine qt_ty rfl rfl rfl (by simp [hoe, hor, ho2]) (Ry.yl (ry_elemH rfl (i - 1) hea rfl)) ?_
            refine qt_ty rfl rfl rfl (by simp [hoe, hor, ho2]) (Ry.yl (ry_ne rfl rfl)) ?_
            refine qt_r (ry_pickF rfl (by simp [hoe, hor, ho2]) rfl rfl) ?_
            refine qt_r (ry_move rfl) ?_
            refine qt_ty rfl rfl rfl (by simp [hoe, hor, ho2]) (Ry.yl (ry_field (o' := 0) rfl rfl)) ?_
            refine qt_ty rfl rfl rfl (by simp [hoe, hor, ho2]) (Ry.yl (ry_part rfl)) ?_
            refine qt_ty rfl rfl rfl (by simp [hoe, hor, ho2]) (Ry.yl (ry_move rfl)) ?_
            refine qt_ty rfl rfl rfl (by simp [hoe, hor, ho2]) (Ry.yl (ry_move rfl)) ?_
            refine qt_ty rfl rfl rfl (by simp [hoe, hor, ho2]) (Ry.yl (ry_idxH rfl rfl i rfl (by omega))) ?_
            refine qt_ty rfl rfl rfl (by simp [hoe, hor, ho2]) (Ry.yl (ry_field rfl rfl)) ?_
            refine qt_ty rfl rfl rfl (by simp [hoe, hor, ho2]) (Ry.yl (ry_elempH (j := 0) rfl i heb rfl (by decide))) ?_
            refine qt_ty rfl rfl rfl (by simp [hoe, hor, ho2]) (yl_callC rfl trivial) ?_
            refine qt_ty rfl rfl rfl (by simp [hoe, hor, ho2]) (Ry.yl (ry_not rfl)) ?_
            refine qt_r (ry_pickF rfl (by simp [hoe, hor, ho2]) rfl rfl) ?_
            refine qt_nil ?_
            refine ex_then ?_
            refine cw_cond rfl (fun h5 => ?_) (fun h5 => ?_)
            · exfalso; simp [hoe, hor, ho2] at h5
            · try simp only [Bool.and_eq_true, Bool.or_eq_true, Bool.and_eq_false_iff, Bool.or_eq_false_iff, Bool.not_eq_true', Bool.not_eq_false', decide_eq_true_eq, decide_eq_false_iff_not, Bool.not_eq_true, Bool.not_eq_false] at h5
              refine cw_skip ?_
              refine ex_block ?_
              refine ex_then ?_
              refine cw_region ?_
              refine sq_r (ry_move rfl) ?_
              refine sq_r (ry_add rfl rfl (by omega)) ?_
              refine sq_r (ry_assign rfl) ?_
              refine sq_nil ?_
              exact ex_again (x := (i)) (i + 1) ⟨by first | omega | (simp only []; omega), by first | omega | (simp only []; omega)⟩ (by first | omega | (simp only []; omega)) (Sub.cons rfl (Sub.cons rfl (Sub.cons rfl (Sub.nil _)))) (fun w hw => Keep.mem hw)
          · try simp only [Bool.and_eq_true, Bool.or_eq_true, Bool.and_eq_false_iff, Bool.or_eq_false_iff, Bool.not_eq_true', Bool.not_eq_false', decide_eq_true_eq, decide_eq_false_iff_not, Bool.not_eq_true, Bool.not_eq_false] at h4
            obtain ⟨e0, he0⟩ := get_some (xs := (chainV ts k bits)) (i := 0) (by omega)
            obtain ⟨ho1, ho2⟩ := chain_head hr (by rw [hcv] at he0; exact he0)
            have hok : nextOk ts e0.p = true := by rw [nextOk, hr, hord.may e0 ((topsP_sub ts).subset ho2)]; rfl
            have hoe : overE ts e0.p = 6 := by rw [overE, if_pos hok, ho1]; rfl
            have htv : topsV ts = topsP ts := if_pos hr
            obtain ⟨hg1, hg2⟩ := get_of (tops_right hr) ho2
            rw [← htv] at hg1 hg2
            have htl : (topsV ts).length ≤ ts.length := by rw [htv]; exact (topsP_sub ts).length_le
            refine cw_exit ?_
            refine ex_pass_exit ?_
            refine ex_pass_exit ?_
            refine ex_block_hit ?_
            refine ex_then ?_
            refine cw_seq ?_
            refine cw_region ?_
            refine sq_r (ry_move rfl) ?_
            refine sq_r (ry_move rfl) ?_
            refine sq_r (ry_idxH rfl rfl 0 rfl (by omega)) ?_
            refine sq_r (ry_field rfl rfl) ?_
            refine sq_r (ry_elempH (j := 0) rfl 0 he0 rfl (by decide)) ?_
            refine sq_y (yl_callC rfl trivial) ?_
            refine sq_r (ry_move rfl) ?_
            refine sq_r (ry_extract (v := .agg (rcells (overR ts e0.p))) rfl rfl) ?_
            refine sq_r (ry_extract (v := .int .i64 (overE ts e0.p)) rfl rfl) ?_
            refine sq_allocA fun b13 => ?_
            refine sq_storeW rfl rfl ?_
            refine sq_r (ry_assign rfl) ?_
            refine sq_nil ?_
            refine ex_then ?_
            refine cw_seq ?_
            refine cw_lin [1] [[], [], [], [], [], [], [1], [1], [1], [1], [1], [1]] [0, 2, 3, 4, 5, 1, 6, 7, 8, 9, 10, 11] _ (fun _ hw => hw) (by kernel_rfl) (by kernel_rfl) ?_
            refine ln_r rfl (ry_move rfl) ?_
            refine ln_r rfl (ry_move rfl) ?_
            refine ln_r rfl (ry_idxH rfl rfl 0 rfl (by omega)) ?_
            refine ln_r rfl (ry_field rfl rfl) ?_
            refine ln_r rfl (ry_elempH (j := 0) rfl 0 he0 rfl (by decide)) ?_
            refine ln_st' rfl (st_callC rfl trivial fun x111 hp111 => ⟨_, fun _ h => h, fun _ hw => Keep.mem hw, ?_⟩)
            refine ln_y rfl (yl_callC rfl trivial) ?_
            refine ln_r rfl (ry_move rfl) ?_
            refine ln_r rfl (ry_extract (v := .int .u16 ((getH (topsV ts) e0.p).toNat : Nat)) rfl rfl) ?_
            refine ln_r rfl (ry_extract (v := .int .i64 (getE (topsV ts) e0.p)) rfl rfl) ?_
            refine ln_r rfl (ry_assign rfl) ?_
            refine ln_r rfl (ry_assign rfl) ?_
            refine ln_nil ?_
            refine ex_then ?_
            refine cw_seq ?_
            refine cw_region ?_
            refine sq_r (ry_move rfl) ?_
            refine sq_r (ry_int rfl rfl rfl) ?_
            refine sq_r (ry_move rfl) ?_
            refine sq_ty rfl rfl rfl (by simp [hoe, hg1]) (Ry.yl (ry_move rfl)) ?_
            refine sq_ty rfl rfl rfl (by simp [hoe, hg1]) (Ry.yl (ry_int rfl rfl rfl)) ?_
            refine sq_r (ry_pickT rfl (by simp [hoe, hg1]) rfl rfl) ?_
            refine sq_r (ry_assign rfl) ?_
            refine sq_nil ?_
            refine ex_then ?_
            refine cw_ret ?_
            refine ex_ret (.inl rfl) (res_1 rfl (rv_tmp rfl)) (fun w1 hw => ?_)
            exact ⟨congrArg (fun b => Ending.returned (Value.bool b)) ((by simp [hg1])), Keep.mem hw⟩

end Go.Proofs.Ytajhlgdapiihgaa

