/- A route out of its bytes: walked. -/
import Derived.Test.YtembaconocgmlaaP2c
set_option linter.unusedSimpArgs false
set_option linter.unusedVariables false
namespace Go.Proofs.Ytembaconocgmlaa
open Go.Eng Go.Kb
set_option maxRecDepth 20000 in
theorem proute_c (w : World) (b : Sv) (bs : List UInt8) (hb : Lies benc 1 (hp w) b bs) (hpre : bs.length = 20) : Calls Try.prog 76 #[b.val] w fun e w' => e = .returned (.tuple #[.agg (rcells (rdv bs)), .bool (rdok bs)]) ∧ Mem w [] w' := by
  have ghb : Gv w b benc 1 bs := ⟨hb⟩
  have eg : ∀ (i : Nat) e, bs[i]? = some e → bs.getD i 0 = e := fun i e h => by simp [List.getD, h]
  obtain ⟨e6, he6⟩ := get_some (xs := bs) (i := 0) (by omega)
  have eg0 := eg 0 e6 he6
  refine calls_of (args := [_]) Try.func76 rfl Try.ntmps76 rfl ?_
  change Cw _ _ _ _ _ [(0, b.val)] []
  refine cw_seq ?_
  refine cw_region ?_
  refine sq_allocA fun b2 => ?_
  refine sq_r (ry_assign rfl) ?_
  refine sq_nil ?_
  refine ex_then ?_
  refine cw_seq ?_
  refine cw_region ?_
  refine sq_allocA fun b4 => ?_
  refine sq_nil ?_
  refine ex_then ?_
  refine cw_cut (X := Unit) (fun zz => [(0, b.val), (2, .pointer (some ⟨b2, 0, none⟩)), (4, .pointer (some ⟨b4, 0, none⟩))]) (fun zz => [blk b4 ((rcells zroute).setIfInBounds 0 (.int .i64 (if e6 = 1 then 128 else 32))) 82, blk b2 (rcells zroute) 82]) (fun zz => e6 ≤ 1) ?_ ?_
  · refine cw_seq ?_
    refine cw_region ?_
    refine sq_r (ry_move rfl) ?_
    refine sq_r (ry_idxH rfl rfl 0 rfl (by omega)) ?_
    refine sq_r (ry_elemcH (j := 0) rfl 0 he6 rfl (by decide)) ?_
    refine sq_nil ?_
    refine ex_then ?_
    refine cw_block ?_
    refine cw_seq ?_
    refine cw_region ?_
    refine sq_r (ry_int rfl rfl rfl) ?_
    refine sq_r (ry_assign rfl) ?_
    refine sq_nil ?_
    refine ex_then ?_
    refine cw_cond rfl (fun h0 => ?_) (fun h0 => ?_)
    · try simp only [Bool.and_eq_true, Bool.or_eq_true, Bool.and_eq_false_iff, Bool.or_eq_false_iff, Bool.not_eq_true', Bool.not_eq_false', decide_eq_true_eq, decide_eq_false_iff_not, Bool.not_eq_true, Bool.not_eq_false] at h0
      obtain rfl : e6 = 0 := UInt8.toNat_inj.1 (by simp; omega)
      refine cw_region ?_
      refine sq_r (ry_field (o' := 0) rfl rfl) ?_
      refine sq_r (ry_field (o' := 0) rfl rfl) ?_
      refine sq_store rfl rfl (by simp [rcells_size]) rfl rfl ?_
      refine sq_nil ?_
      refine ex_block ?_
      exact ex_meet () (by decide) (Sub.cons rfl (Sub.cons rfl (Sub.cons rfl (Sub.nil _)))) (fun w hw => hw)
    · try simp only [Bool.and_eq_true, Bool.or_eq_true, Bool.and_eq_false_iff, Bool.or_eq_false_iff, Bool.not_eq_true', Bool.not_eq_false', decide_eq_true_eq, decide_eq_false_iff_not, Bool.not_eq_true, Bool.not_eq_false] at h0
      refine cw_seq ?_
      refine cw_region ?_
      refine sq_r (ry_int rfl rfl rfl) ?_
      refine sq_r (ry_assign rfl) ?_
      refine sq_nil ?_
      refine ex_then ?_
      refine cw_cond rfl (fun h1 => ?_) (fun h1 => ?_)
      · try simp only [Bool.and_eq_true, Bool.or_eq_true, Bool.and_eq_false_iff, Bool.or_eq_false_iff, Bool.not_eq_true', Bool.not_eq_false', decide_eq_true_eq, decide_eq_false_iff_not, Bool.not_eq_true, Bool.not_eq_false] at h1
        obtain rfl : e6 = 1 := UInt8.toNat_inj.1 (by simp; omega)
        refine cw_region ?_
        refine sq_r (ry_field (o' := 0) rfl rfl) ?_
        refine sq_r (ry_field (o' := 0) rfl rfl) ?_
        refine sq_store rfl rfl (by simp [rcells_size]) rfl rfl ?_
        refine sq_nil ?_
        refine ex_block ?_
        exact ex_meet () (by decide) (Sub.cons rfl (Sub.cons rfl (Sub.cons rfl (Sub.nil _)))) (fun w hw => hw)
      · try simp only [Bool.and_eq_true, Bool.or_eq_true, Bool.and_eq_false_iff, Bool.or_eq_false_iff, Bool.not_eq_true', Bool.not_eq_false', decide_eq_true_eq, decide_eq_false_iff_not, Bool.not_eq_true, Bool.not_eq_false] at h1
        have h1x : ¬ e6 ≤ 1 := fun h => by rw [UInt8.le_iff_toNat_le] at h; simp at h; omega
        refine cw_seq ?_
        refine cw_region ?_
        refine sq_r (ry_buildc rfl) ?_
        refine sq_storeW rfl rfl ?_
        refine sq_r (ry_assign rfl) ?_
        refine sq_nil ?_
        refine ex_then ?_
        refine cw_ret ?_
        refine ex_block_ret ?_
        refine ex_pass_ret ?_
        refine ex_ret (.inl rfl) (res_2 rfl (rv_agg rfl) (rv_tmp rfl)) (fun w1 hw => ?_)
        exact ⟨by rw [show rdok bs = false from by rw [rdok, eg0]; exact decide_eq_false h1x, show rdv bs = zroute from if_neg (by rw [rdok, eg0]; simpa using h1x)], Keep.mem hw⟩
  · rintro ⟨⟩ hJ
    refine cw_seq ?_
    refine cw_region ?_
    refine sq_r (ry_move rfl) ?_
    obtain ⟨e18, he18⟩ := get_some (xs := bs) (i := 1) (by omega)
    refine sq_r (ry_idxH rfl rfl 1 rfl (by omega)) ?_
    refine sq_r (ry_elemcH (j := 0) rfl 1 he18 rfl (by decide)) ?_
    have eg1 := eg 1 e18 he18
    refine sq_r (ry_conv_u8 rfl) ?_
    refine sq_r (ry_field (o' := 0) rfl rfl) ?_
    refine sq_r (ry_field (o' := 1) rfl rfl) ?_
    refine sq_store rfl rfl (by simp [rcells_size]) rfl rfl ?_
    refine sq_nil ?_
    refine ex_then ?_
    refine cw_seq ?_
    refine cw_lin [5] [[], [], [], [], [], []] [0, 1, 2, 3, 4, 5] [] (fun _ hw => Keep.mem hw) (by kernel_rfl) (by kernel_rfl) ?_
    refine ln_r rfl (ry_field (o' := 0) rfl rfl) ?_
    refine ln_r rfl (ry_field (o' := 2) rfl rfl) ?_
    refine ln_r rfl (ry_sliceA_all rfl) ?_
    refine ln_r rfl (ry_move rfl) ?_
    have rg27 : Rg 2 18 bs.length := ⟨by omega⟩
    refine ln_r rfl (ry_subH rfl rfl rfl 2 18 rfl rfl rg27.h.1 rg27.h.2) ?_
    refine ln_st rfl (st_copyS (ys := (bs.drop 2).take 16) rfl rfl (by simp; omega) (by simp; omega) (by simp [rcells_size]; omega) rfl ⟨fun _ hw => Keep.mem hw, ?_⟩)
    refine ln_nil ?_
    refine ex_then ?_
    refine cw_seq ?_
    refine cw_lin [11] [[], [], [], [], [], [], [], [], [], [], [], []] [0, 1, 2, 3, 4, 5, 6, 7, 8, 9, 10, 11] [] (fun _ hw => Keep.mem hw) (by kernel_rfl) (by kernel_rfl) ?_
    refine ln_r rfl (ry_move rfl) ?_
    obtain ⟨e30, he30⟩ := get_some (xs := bs) (i := 18) (by omega)
    refine ln_r rfl (ry_idxH rfl rfl 18 rfl (by omega)) ?_
    refine ln_r rfl (ry_elemcH (j := 0) rfl 18 he30 rfl (by decide)) ?_
    have eg18 := eg 18 e30 he30
    refine ln_r rfl (ry_conv_u8 rfl) ?_
    refine ln_r rfl (ry_shl8 rfl rfl) ?_
    refine ln_r rfl (ry_move rfl) ?_
    obtain ⟨e35, he35⟩ := get_some (xs := bs) (i := 19) (by omega)
    refine ln_r rfl (ry_idxH rfl rfl 19 rfl (by omega)) ?_
    refine ln_r rfl (ry_elemcH (j := 0) rfl 19 he35 rfl (by decide)) ?_
    have eg19 := eg 19 e35 he35
    refine ln_r rfl (ry_conv_u8 rfl) ?_
    refine ln_r rfl (ry_or8 rfl rfl) ?_
    refine ln_r rfl (ry_field (o' := 18) rfl rfl) ?_
    refine ln_st rfl (st_store rfl rfl (by rw [over_size (by rw [List.size_toArray, flatR_length]; simp [rcells_size]; omega)]; simp [rcells_size]) rfl rfl ⟨fun _ hw => Keep.mem hw, ?_⟩)
    refine ln_nil ?_
    refine ex_then ?_
    refine cw_seq ?_
    refine cw_mem [blk b4 (rcells (rdroute bs)) 82, blk b2 (rcells zroute) 82] (fun w hw => ?_) ?_
    · rw [← unlaid_cells (b := bs) hpre (if e6 = 1 then 128 else 32) (by rw [eg0]), eg1, eg18, eg19]; exact hw
    refine cw_region ?_
    refine sq_r (ry_whole rfl) ?_
    refine sq_storeW rfl rfl ?_
    refine sq_r (ry_assign rfl) ?_
    refine sq_nil ?_
    refine ex_then ?_
    refine cw_ret ?_
    refine ex_ret (.inl rfl) (res_2 rfl (rv_agg rfl) (rv_tmp rfl)) (fun w1 hw => ?_)
    exact ⟨by rw [show rdv bs = rdroute bs from if_pos (by rw [rdok, eg0]; exact decide_eq_true hJ), show rdok bs = true from by rw [rdok, eg0]; exact decide_eq_true hJ], Keep.mem hw⟩
instance proute_i {w0 : World} {L : List Ent} {b : Sv} {bs : List UInt8} [hb : HdE w0 L benc 1 b bs] : FnQ Try.prog 76 w0 L [b.val] (.tuple #[.agg (rcells (rdv bs)), .bool (rdok bs)]) (bs.length = 20) := ⟨fun hp w hw => proute_c w b bs (hb.h w hw) hp⟩

end Go.Proofs.Ytembaconocgmlaa
