/- Keys, prefixes, routes as texts: walked. -/
import Derived.Test.YtldkgicmfbofiaaDoorRC
set_option linter.unusedSimpArgs false
set_option linter.unusedVariables false
namespace Go.Proofs.YtldkgicmfbofiaaDoor
open Go.Eng Go.Kb
instance : ZeroT Tryd.prog 5 (.int .u8 0) := ⟨by kernel_rfl⟩
set_option maxRecDepth 20000 in
theorem tkey_c (w : World) [tb : Tabs w] (k : Key) (n : Int)  : Calls Tryd.prog 11 #[.agg (kcells k), .int .i64 n] w fun e w' => e = .returned (.tuple #[.string ⟨(keyS k n).toArray⟩, .int .i64 (errB (keyB k n))]) ∧ Mem w [] w' := by
  have h4 := four_len k
  refine calls_of (args := [_, _]) Tryd.func11 rfl Tryd.ntmps11 rfl ?_
  change Cw _ _ _ _ _ [(0, .agg (kcells k)), (1, .int .i64 n)] []
  refine cw_seq ?_
  refine cw_region ?_
  refine sq_boxA rfl fun b2 => ?_
  refine sq_r (ry_assign rfl) ?_
  refine sq_r (ry_assign rfl) ?_
  refine sq_nil ?_
  refine ex_then ?_
  refine cw_seq ?_
  refine cw_seq ?_
  refine cw_region ?_
  refine sq_r (ry_whole rfl) ?_
  refine sq_r (ry_move rfl) ?_
  refine sq_y (yl_callC rfl trivial) ?_
  refine sq_r (ry_not rfl) ?_
  refine sq_nil ?_
  refine ex_then ?_
  refine cw_cond rfl (fun h0 => ?_) (fun h0 => ?_)
  · try simp only [Bool.and_eq_true, Bool.or_eq_true, Bool.and_eq_false_iff, Bool.or_eq_false_iff, Bool.not_eq_true', Bool.not_eq_false', decide_eq_true_eq, decide_eq_false_iff_not, Bool.not_eq_true, Bool.not_eq_false] at h0
    refine cw_seq ?_
    refine cw_region ?_
    refine sq_r (ry_assign rfl) ?_
    refine sq_r (ry_assign rfl) ?_
    refine sq_nil ?_
    refine ex_then ?_
    refine cw_ret ?_
    refine ex_pass_ret ?_
    refine ex_ret (.inl rfl) (res_2 rfl (rv_tmp rfl) (rv_tmp rfl)) (fun w1 hw => ?_)
    exact ⟨(by rw [keyS, h0]; rfl), Keep.mem hw⟩
  · try simp only [Bool.and_eq_true, Bool.or_eq_true, Bool.and_eq_false_iff, Bool.or_eq_false_iff, Bool.not_eq_true', Bool.not_eq_false', decide_eq_true_eq, decide_eq_false_iff_not, Bool.not_eq_true, Bool.not_eq_false] at h0
    refine cw_skip ?_
    refine ex_then ?_
    refine cw_seq ?_
    refine cw_seq ?_
    refine cw_region ?_
    refine sq_r (ry_move rfl) ?_
    refine sq_r (ry_int rfl rfl rfl) ?_
    refine sq_nil ?_
    refine ex_then ?_
    refine cw_cond rfl (fun h1 => ?_) (fun h1 => ?_)
    · try simp only [Bool.and_eq_true, Bool.or_eq_true, Bool.and_eq_false_iff, Bool.or_eq_false_iff, Bool.not_eq_true', Bool.not_eq_false', decide_eq_true_eq, decide_eq_false_iff_not, Bool.not_eq_true, Bool.not_eq_false] at h1
      refine cw_seq ?_
      refine cw_region ?_
      refine sq_r (ry_assign rfl) ?_
      refine sq_nil ?_
      refine ex_then ?_
      refine cw_seq ?_
      refine cw_seq ?_
      refine cw_region ?_
      refine sq_r (Ry.as (v' := Sv.val ⟨false, b2, 0, 4, 16, none⟩) (ry_sliceA_hi rfl rfl (by decide) (by decide)) rfl) ?_
      refine sq_r (ry_lenH rfl) ?_
      refine sq_r (ry_move rfl) ?_
      refine sq_nil ?_
      refine ex_then ?_
      refine cw_block ?_
      refine cw_loop (X := Nat × Sv × List Txt) (fun zz => [(20, .int .i64 (zz.1 : Nat)), (6, zz.2.1.val), (18, (⟨false, b2, 0, 4, 16, none⟩ : Sv).val), (19, .int .i64 (((kbytes k).take 4).length : Nat))]) (fun zz => [own txc 1 zz.2.1 zz.2.2, blk b2 (kcells k) 23]) (fun zz => zz.1 ≤ 4 ∧ zz.2.2 = ((((kbytes k).take 4).take zz.1).map fun b => dec b.toNat)) (fun zz => 4 - zz.1) (0, Sv.none, []) ⟨Nat.zero_le _, rfl⟩ (Sub.cons rfl (Sub.cons rfl (Sub.cons rfl (Sub.cons rfl (Sub.nil _))))) (fun w hw => Mem.nilOwn txc 1 (Keep.mem hw)) ?_
      rintro ⟨i, o, q⟩ ⟨hi, hq⟩
      dsimp only
      simp only at hi hq
      have hql : q.length ≤ 4 := by rw [hq, List.length_map, List.length_take]; omega
      refine cw_seq ?_
      refine cw_region ?_
      refine sq_r (ry_int rfl rfl rfl) ?_
      refine sq_nil ?_
      refine ex_then ?_
      refine cw_seq ?_
      refine cw_cond rfl (fun h2 => ?_) (fun h2 => ?_)
      · try simp only [Bool.and_eq_true, Bool.or_eq_true, Bool.and_eq_false_iff, Bool.or_eq_false_iff, Bool.not_eq_true', Bool.not_eq_false', decide_eq_true_eq, decide_eq_false_iff_not, Bool.not_eq_true, Bool.not_eq_false] at h2
        refine cw_skip ?_
        refine ex_then ?_
        refine cw_seq ?_
        refine cw_block ?_
        refine cw_seq ?_
        refine cw_region ?_
        obtain ⟨x, hx⟩ := get_some (xs := ((kbytes k).take 4)) (i := i) (by omega)
        refine sq_r (ry_idxH rfl rfl i rfl (by omega)) ?_
        refine sq_r (ry_elemcH (j := 0) rfl i hx rfl (by decide)) ?_
        refine sq_r (ry_assign rfl) ?_
        refine sq_nil ?_
        refine ex_then ?_
        refine cw_region ?_
        refine sq_r (ry_move rfl) ?_
        refine sq_r (ry_move rfl) ?_
        refine sq_r (ry_conv_u8 rfl) ?_
        refine sq_y (yl_callC rfl (by first | omega | exact Nat.lt_trans (UInt8.toNat_lt _) (by decide) | exact Nat.lt_trans (UInt16.toNat_lt _) (by decide))) ?_
        refine sq_buildSlice (enc := txc) (vals := [_]) [(dec x.toNat)] rfl rfl rfl (by decide) (by decide) fun b28 => ?_
        refine sq_append (s := o) (ys := [(dec x.toNat)]) rfl rfl (by decide) (fun w hw => src_rows (s := ⟨false, b28, 0, 1, 1, none⟩) Tryd.underlying57 (by decide) ((inferInstance : Hd _ _ ⟨false, b28, 0, 1, 1, none⟩ txc 1 [(dec x.toNat)]).h w hw)) (by simp only [List.length_append, List.length_cons, List.length_nil]; omega) (by simp only [List.length_append, List.length_cons, List.length_nil]; omega) fun s29 hs29 hl29 => ?_
        refine sq_r (ry_assign rfl) ?_
        refine sq_nil ?_
        refine ex_block ?_
        refine ex_then ?_
        refine cw_region ?_
        refine sq_r (ry_add rfl rfl (by omega)) ?_
        refine sq_r (ry_move rfl) ?_
        refine sq_nil ?_
        exact ex_again (x := (i, o, q)) (i + 1, s29, q ++ [dec x.toNat]) ⟨by first | omega | (simp only []; omega), by simp only; rw [hq, four_take (by first | omega | (simp only []; omega)) hx]⟩ (by simp only; omega) (Sub.cons rfl (Sub.cons rfl (Sub.cons rfl (Sub.cons rfl (Sub.nil _))))) (fun w hw => Keep.mem hw)
      · try simp only [Bool.and_eq_true, Bool.or_eq_true, Bool.and_eq_false_iff, Bool.or_eq_false_iff, Bool.not_eq_true', Bool.not_eq_false', decide_eq_true_eq, decide_eq_false_iff_not, Bool.not_eq_true, Bool.not_eq_false] at h2
        refine cw_exit ?_
        refine ex_pass_exit ?_
        refine ex_pass_exit ?_
        refine ex_block_hit ?_
        refine ex_then ?_
        refine cw_seq ?_
        have hq4 : q = ((kbytes k).take 4).map fun b => dec b.toNat := by rw [hq, List.take_of_length_le (by omega)]
        refine cw_region ?_
        refine sq_r (ry_move rfl) ?_
        refine sq_y (yl_callC rfl (by rw [hq4]; exact four_pre k)) ?_
        refine sq_r (ry_assign rfl) ?_
        refine sq_r (ry_assign rfl) ?_
        refine sq_nil ?_
        refine ex_then ?_
        refine cw_ret ?_
        refine ex_pass_ret ?_
        refine ex_ret (.inl rfl) (res_2 rfl (rv_tmp rfl) (rv_tmp rfl)) (fun w1 hw => ?_)
        exact ⟨(by rw [keyS, h0, if_pos rfl, keyT, if_pos h1, hq4, joinT_four]; rfl), Keep.mem hw⟩
    · try simp only [Bool.and_eq_true, Bool.or_eq_true, Bool.and_eq_false_iff, Bool.or_eq_false_iff, Bool.not_eq_true', Bool.not_eq_false', decide_eq_true_eq, decide_eq_false_iff_not, Bool.not_eq_true, Bool.not_eq_false] at h1
      refine cw_skip ?_
      refine ex_then ?_
      refine cw_seq ?_
      refine cw_region ?_
      refine sq_makeS (enc := benc) (n := 0) (cap := 32) 0 rfl rfl rfl rfl rfl (by omega) (by omega) (by omega) fun b33 => ?_
      refine sq_r (ry_assign rfl) ?_
      refine sq_nil ?_
      refine ex_then ?_
      refine cw_seq ?_
      refine cw_seq ?_
      refine cw_region ?_
      refine sq_r (ry_whole rfl) ?_
      refine sq_r (ry_move rfl) ?_
      refine sq_nil ?_
      refine ex_then ?_
      refine cw_block ?_
      refine cw_loop (X := Nat × Sv × List UInt8) (fun zz => [(35, .int .i64 (zz.1 : Nat)), (9, zz.2.1.val), (34, .agg (kcells k))]) (fun zz => [own benc 1 zz.2.1 zz.2.2, blk b2 (kcells k) 23]) (fun zz => zz.1 ≤ 16 ∧ zz.2.2 = (wideT k).take (2 * zz.1)) (fun zz => 16 - zz.1) (0, ⟨false, b33, 0, 0, 32, none⟩, []) ⟨Nat.zero_le _, rfl⟩ (Sub.cons rfl (Sub.cons rfl (Sub.cons rfl (Sub.nil _)))) (fun w hw => hw) ?_
      rintro ⟨i, o, q⟩ ⟨hi, hq⟩
      dsimp only
      simp only at hi hq
      have hql : q.length ≤ 32 := by rw [hq, List.length_take, wide_len]; omega
      refine cw_seq ?_
      refine cw_region ?_
      refine sq_r (ry_int rfl rfl rfl) ?_
      refine sq_nil ?_
      refine ex_then ?_
      refine cw_seq ?_
      refine cw_cond rfl (fun h3 => ?_) (fun h3 => ?_)
      · try simp only [Bool.and_eq_true, Bool.or_eq_true, Bool.and_eq_false_iff, Bool.or_eq_false_iff, Bool.not_eq_true', Bool.not_eq_false', decide_eq_true_eq, decide_eq_false_iff_not, Bool.not_eq_true, Bool.not_eq_false] at h3
        refine cw_skip ?_
        refine ex_then ?_
        refine cw_seq ?_
        refine cw_block ?_
        refine cw_seq ?_
        refine cw_region ?_
        refine sq_r (ry_ixKey Tryd.underlying23 rfl rfl i rfl (by omega)) ?_
        refine sq_r (ry_assign rfl) ?_
        refine sq_nil ?_
        refine ex_then ?_
        refine cw_tail 8 [7] (by kernel_rfl) (by kernel_rfl) ?_
        simp only [List.take_succ_cons, List.take_zero]
        refine qt_r (ry_move rfl) ?_
        refine qt_r (ry_move rfl) ?_
        refine qt_r (ry_shr (p := kbyte k i) rfl rfl (kbyte_lt k i) (by decide)) ?_
        refine qt_r (ry_idxStr (s := ⟨([48, 49, 50, 51, 52, 53, 54, 55, 56, 57, 97, 98, 99, 100, 101, 102] : Txt).toArray⟩) (v := (hexc (nib k (2 * i))).toNat) Tryd.underlying9 rfl rfl (Int.natCast_nonneg _) (hexHi k i)) ?_
        refine qt_r (ry_move rfl) ?_
        refine qt_r (ry_band (p := kbyte k i) (q := 15) rfl rfl rfl rfl (kbyte_lt k i) (by decide)) ?_
        refine qt_r (ry_idxStr (s := ⟨([48, 49, 50, 51, 52, 53, 54, 55, 56, 57, 97, 98, 99, 100, 101, 102] : Txt).toArray⟩) (v := (hexc (nib k (2 * i + 1))).toNat) Tryd.underlying9 rfl rfl (Int.natCast_nonneg _) (hexLo k i)) ?_
        refine qt_skip ?_
        refine qt_end ?_
        refine fr_buildSlice (enc := benc) rfl (vals := [_, _]) [(hexc (nib k (2 * i))), (hexc (nib k (2 * i + 1)))] rfl rfl rfl (by decide) (by decide) fun b45 => ?_
        refine fr_nil ?_
        simp only [List.drop_succ_cons, List.drop_zero]
        refine sq_append (s := o) (ys := [(hexc (nib k (2 * i))), (hexc (nib k (2 * i + 1)))]) rfl rfl (by decide) (fun w hw => src_rows (s := ⟨false, b45, 0, 2, 2, none⟩) Tryd.underlying58 (by decide) ((inferInstance : Hd _ _ ⟨false, b45, 0, 2, 2, none⟩ benc 1 [(hexc (nib k (2 * i))), (hexc (nib k (2 * i + 1)))]).h w hw)) (by simp only [List.length_append, List.length_cons, List.length_nil]; omega) (by simp only [List.length_append, List.length_cons, List.length_nil]; omega) fun s46 hs46 hl46 => ?_
        refine sq_r (ry_assign rfl) ?_
        refine sq_nil ?_
        refine ex_block ?_
        refine ex_then ?_
        refine cw_region ?_
        refine sq_r (ry_add rfl rfl (by omega)) ?_
        refine sq_r (ry_move rfl) ?_
        refine sq_nil ?_
        exact ex_again (x := (i, o, q)) (i + 1, s46, q ++ [hexc (nib k (2 * i)), hexc (nib k (2 * i + 1))]) ⟨by first | omega | (simp only []; omega), by simp only; rw [hq, wide_take2 k (by first | omega | (simp only []; omega))]⟩ (by simp only; omega) (Sub.cons rfl (Sub.cons rfl (Sub.cons rfl (Sub.nil _)))) (fun w hw => Keep.mem hw)
      · try simp only [Bool.and_eq_true, Bool.or_eq_true, Bool.and_eq_false_iff, Bool.or_eq_false_iff, Bool.not_eq_true', Bool.not_eq_false', decide_eq_true_eq, decide_eq_false_iff_not, Bool.not_eq_true, Bool.not_eq_false] at h3
        refine cw_exit ?_
        refine ex_pass_exit ?_
        refine ex_pass_exit ?_
        refine ex_block_hit ?_
        refine ex_then ?_
        refine cw_seq ?_
        refine cw_region ?_
        refine sq_r (ry_move rfl) ?_
        refine sq_r (ry_bstrH Tryd.underlying58 Tryd.underlying5 Tryd.underlying9 rfl) ?_
        refine sq_r (ry_assign rfl) ?_
        refine sq_r (ry_assign rfl) ?_
        refine sq_nil ?_
        refine ex_then ?_
        refine cw_ret ?_
        refine ex_ret (.inl rfl) (res_2 rfl (rv_tmp rfl) (rv_tmp rfl)) (fun w1 hw => ?_)
        exact ⟨(by rw [keyS, h0, if_pos rfl, keyT, if_neg h1, hq, List.take_of_length_le (by rw [wide_len]; omega)]; rfl), Keep.mem hw⟩
instance tkey_i {w0 : World} {L : List Ent} {k : Key} {n : Int} [tb : Tabs w0]  : FnQ Tryd.prog 11 w0 L [.agg (kcells k), .int .i64 n] (.tuple #[.string ⟨(keyS k n).toArray⟩, .int .i64 (errB (keyB k n))]) (True) := ⟨fun hp w hw => tkey_c w (tb := tb.at hw) k n ⟩

set_option maxRecDepth 20000 in
theorem tpfx_c (w : World) [tb : Tabs w] (p : Pfx)  : Calls Tryd.prog 9 #[.agg (pcells p)] w fun e w' => e = .returned (.tuple #[.string ⟨(pfxS p).toArray⟩, .int .i64 (errB (pmay p))]) ∧ Mem w [] w' := by
  have hkl := keyS_len p.key p.bits
  refine calls_of (args := [_]) Tryd.func9 rfl Tryd.ntmps9 rfl ?_
  change Cw _ _ _ _ _ [(0, .agg (pcells p))] []
  refine cw_seq ?_
  refine cw_region ?_
  refine sq_boxA rfl fun b1 => ?_
  refine sq_r (ry_assign rfl) ?_
  refine sq_r (ry_assign rfl) ?_
  refine sq_nil ?_
  refine ex_then ?_
  refine cw_seq ?_
  refine cw_seq ?_
  refine cw_region ?_
  refine sq_r (ry_whole rfl) ?_
  refine sq_y (yl_callC rfl trivial) ?_
  refine sq_r (ry_not rfl) ?_
  refine sq_nil ?_
  refine ex_then ?_
  refine cw_cond rfl (fun h0 => ?_) (fun h0 => ?_)
  · try simp only [Bool.and_eq_true, Bool.or_eq_true, Bool.and_eq_false_iff, Bool.or_eq_false_iff, Bool.not_eq_true', Bool.not_eq_false', decide_eq_true_eq, decide_eq_false_iff_not, Bool.not_eq_true, Bool.not_eq_false] at h0
    refine cw_seq ?_
    refine cw_region ?_
    refine sq_r (ry_assign rfl) ?_
    refine sq_r (ry_assign rfl) ?_
    refine sq_nil ?_
    refine ex_then ?_
    refine cw_ret ?_
    refine ex_pass_ret ?_
    refine ex_ret (.inl rfl) (res_2 rfl (rv_tmp rfl) (rv_tmp rfl)) (fun w1 hw => ?_)
    exact ⟨(by rw [pfxS, h0]; rfl), Keep.mem hw⟩
  · try simp only [Bool.and_eq_true, Bool.or_eq_true, Bool.and_eq_false_iff, Bool.or_eq_false_iff, Bool.not_eq_true', Bool.not_eq_false', decide_eq_true_eq, decide_eq_false_iff_not, Bool.not_eq_true, Bool.not_eq_false] at h0
    obtain ⟨k1, k2, k3⟩ := pmay_key h0
    have hdl := dec_len 3 p.len.toNat (by omega) (by decide)
    refine cw_skip ?_
    refine ex_then ?_
    refine cw_seq ?_
    refine cw_region ?_
    refine sq_r (ry_field (o' := 2) rfl rfl) ?_
    refine sq_r (ry_part rfl) ?_
    refine sq_r (ry_field (o' := 0) rfl rfl) ?_
    refine sq_r (ry_cellc rfl) ?_
    refine sq_y (yl_callC rfl trivial) ?_
    refine sq_r (ry_move rfl) ?_
    refine sq_r (ry_extract (v := .string ⟨(keyS p.key p.bits).toArray⟩) rfl rfl) ?_
    refine sq_r (ry_extract (v := .int .i64 (errB (keyB p.key p.bits))) rfl rfl) ?_
    refine sq_r (ry_assign rfl) ?_
    refine sq_r (ry_assign rfl) ?_
    refine sq_nil ?_
    refine ex_then ?_
    refine cw_seq ?_
    refine cw_seq ?_
    refine cw_region ?_
    refine sq_r (ry_move rfl) ?_
    refine sq_r (ry_int rfl rfl rfl) ?_
    refine sq_nil ?_
    refine ex_then ?_
    refine cw_cond rfl (fun h1 => ?_) (fun h1 => ?_)
    · try simp only [Bool.and_eq_true, Bool.or_eq_true, Bool.and_eq_false_iff, Bool.or_eq_false_iff, Bool.not_eq_true', Bool.not_eq_false', decide_eq_true_eq, decide_eq_false_iff_not, Bool.not_eq_true, Bool.not_eq_false] at h1
      exfalso; rw [k1] at h1; simp [errB] at h1
    · try simp only [Bool.and_eq_true, Bool.or_eq_true, Bool.and_eq_false_iff, Bool.or_eq_false_iff, Bool.not_eq_true', Bool.not_eq_false', decide_eq_true_eq, decide_eq_false_iff_not, Bool.not_eq_true, Bool.not_eq_false] at h1
      refine cw_skip ?_
      refine ex_then ?_
      refine cw_seq ?_
      refine cw_region ?_
      refine sq_r (ry_move rfl) ?_
      refine sq_r (ry_field (o' := 1) rfl rfl) ?_
      refine sq_r (ry_cellc rfl) ?_
      refine sq_y (yl_callC rfl ⟨k2, by omega⟩) ?_
      refine sq_buildSlice (enc := txc) (vals := [_, _]) [(keyS p.key p.bits), (dec p.len.toNat)] rfl rfl rfl (by decide) (by decide) fun b24 => ?_
      refine sq_y (yl_callC rfl (join2_pre _ _ 47 (by omega))) ?_
      refine sq_r (ry_assign rfl) ?_
      refine sq_r (ry_assign rfl) ?_
      refine sq_nil ?_
      refine ex_then ?_
      refine cw_ret ?_
      refine ex_ret (.inl rfl) (res_2 rfl (rv_tmp rfl) (rv_tmp rfl)) (fun w1 hw => ?_)
      exact ⟨(by rw [pfxS, h0, if_pos rfl, joinT_two, pfxT, keyS, if_pos k1]; rfl), Keep.mem hw⟩
instance tpfx_i {w0 : World} {L : List Ent} {p : Pfx} [tb : Tabs w0]  : FnQ Tryd.prog 9 w0 L [.agg (pcells p)] (.tuple #[.string ⟨(pfxS p).toArray⟩, .int .i64 (errB (pmay p))]) (True) := ⟨fun hp w hw => tpfx_c w (tb := tb.at hw) p ⟩

set_option maxRecDepth 20000 in
theorem rpfx_c (w : World) (p : Pfx)  : Calls Tryd.prog 10 #[.agg (pcells p)] w fun e w' => e = .returned (.tuple #[.string ⟨(pfxS p).toArray⟩, .int .i64 (errB (pmay p))]) ∧ Mem w [] w' := by
  have hkl := keyS_len p.key p.bits
  refine calls_of (args := [_]) Tryd.func10 rfl Tryd.ntmps10 rfl ?_
  change Cw _ _ _ _ _ [(0, .agg (pcells p))] []
  refine cw_seq ?_
  refine cw_region ?_
  refine sq_boxA rfl fun b1 => ?_
  refine sq_r (ry_assign rfl) ?_
  refine sq_r (ry_assign rfl) ?_
  refine sq_nil ?_
  refine ex_then ?_
  refine cw_seq ?_
  refine cw_seq ?_
  refine cw_region ?_
  refine sq_r (ry_whole rfl) ?_
  refine sq_y (yl_callC rfl trivial) ?_
  refine sq_r (ry_not rfl) ?_
  refine sq_nil ?_
  refine ex_then ?_
  refine cw_cond rfl (fun h0 => ?_) (fun h0 => ?_)
  · try simp only [Bool.and_eq_true, Bool.or_eq_true, Bool.and_eq_false_iff, Bool.or_eq_false_iff, Bool.not_eq_true', Bool.not_eq_false', decide_eq_true_eq, decide_eq_false_iff_not, Bool.not_eq_true, Bool.not_eq_false] at h0
    refine cw_seq ?_
    refine cw_region ?_
    refine sq_r (ry_assign rfl) ?_
    refine sq_r (ry_assign rfl) ?_
    refine sq_nil ?_
    refine ex_then ?_
    refine cw_ret ?_
    refine ex_pass_ret ?_
    refine ex_ret (.inl rfl) (res_2 rfl (rv_tmp rfl) (rv_tmp rfl)) (fun w1 hw => ?_)
    exact ⟨(by rw [pfxS, h0]; rfl), Keep.mem hw⟩
  · try simp only [Bool.and_eq_true, Bool.or_eq_true, Bool.and_eq_false_iff, Bool.or_eq_false_iff, Bool.not_eq_true', Bool.not_eq_false', decide_eq_true_eq, decide_eq_false_iff_not, Bool.not_eq_true, Bool.not_eq_false] at h0
    obtain ⟨k1, k2, k3⟩ := pmay_key h0
    have hdl := dec_len 3 p.len.toNat (by omega) (by decide)
    refine cw_skip ?_
    refine ex_then ?_
    refine cw_seq ?_
    refine cw_region ?_
    refine sq_r (ry_field (o' := 2) rfl rfl) ?_
    refine sq_r (ry_part rfl) ?_
    refine sq_r (ry_field (o' := 0) rfl rfl) ?_
    refine sq_r (ry_cellc rfl) ?_
    refine sq_y (yl_callC rfl trivial) ?_
    refine sq_r (ry_move rfl) ?_
    refine sq_r (ry_extract (v := .string ⟨(keyS p.key p.bits).toArray⟩) rfl rfl) ?_
    refine sq_r (ry_extract (v := .int .i64 (errB (keyB p.key p.bits))) rfl rfl) ?_
    refine sq_r (ry_assign rfl) ?_
    refine sq_r (ry_assign rfl) ?_
    refine sq_nil ?_
    refine ex_then ?_
    refine cw_seq ?_
    refine cw_region ?_
    refine sq_r (ry_move rfl) ?_
    refine sq_r (ry_strcat rfl rfl (by simp only [List.length_append, List.length_cons, List.length_nil]; omega)) ?_
    refine sq_r (ry_field (o' := 1) rfl rfl) ?_
    refine sq_r (ry_cellc rfl) ?_
    refine sq_y (yl_callC rfl ⟨k2, by omega⟩) ?_
    refine sq_r (ry_strcat rfl rfl (by simp only [List.length_append, List.length_cons, List.length_nil]; omega)) ?_
    refine sq_r (ry_assign rfl) ?_
    refine sq_r (ry_assign rfl) ?_
    refine sq_nil ?_
    refine ex_then ?_
    refine cw_ret ?_
    refine ex_ret (.inl rfl) (res_2 rfl (rv_tmp rfl) (rv_tmp rfl)) (fun w1 hw => ?_)
    exact ⟨(by rw [pfxS, h0, if_pos rfl, pfxT, keyS, if_pos k1, List.append_assoc]; rfl), Keep.mem hw⟩
instance rpfx_i {w0 : World} {L : List Ent} {p : Pfx}  : FnQ Tryd.prog 10 w0 L [.agg (pcells p)] (.tuple #[.string ⟨(pfxS p).toArray⟩, .int .i64 (errB (pmay p))]) (True) := ⟨fun hp w hw => rpfx_c w p ⟩

set_option maxRecDepth 20000 in
theorem tline_c (w : World) [tb : Tabs w] (r : Rt)  : Calls Tryd.prog 7 #[.agg (rcells r)] w fun e w' => e = .returned (.tuple #[.string ⟨(lineS r).toArray⟩, .int .i64 (errB (pmay r.p))]) ∧ Mem w [] w' := by
  have hpl := pfxS_len r.p
  have hdl := dec_len 5 r.hop.toNat (Nat.lt_trans (UInt16.toNat_lt _) (by decide)) (by decide)
  refine calls_of (args := [_]) Tryd.func7 rfl Tryd.ntmps7 rfl ?_
  change Cw _ _ _ _ _ [(0, .agg (rcells r))] []
  refine cw_seq ?_
  refine cw_region ?_
  refine sq_boxA rfl fun b1 => ?_
  refine sq_r (ry_assign rfl) ?_
  refine sq_r (ry_assign rfl) ?_
  refine sq_nil ?_
  refine ex_then ?_
  refine cw_seq ?_
  refine cw_region ?_
  refine sq_r (ry_field (o' := 0) rfl rfl) ?_
  refine sq_r (ry_part rfl) ?_
  refine sq_y (yl_callC rfl trivial) ?_
  refine sq_r (ry_move rfl) ?_
  refine sq_r (ry_extract (v := .string ⟨(pfxS r.p).toArray⟩) rfl rfl) ?_
  refine sq_r (ry_extract (v := .int .i64 (errB (pmay r.p))) rfl rfl) ?_
  refine sq_r (ry_assign rfl) ?_
  refine sq_r (ry_assign rfl) ?_
  refine sq_nil ?_
  refine ex_then ?_
  refine cw_seq ?_
  refine cw_seq ?_
  refine cw_region ?_
  refine sq_r (ry_move rfl) ?_
  refine sq_r (ry_int rfl rfl rfl) ?_
  refine sq_nil ?_
  refine ex_then ?_
  refine cw_cond rfl (fun h0 => ?_) (fun h0 => ?_)
  · try simp only [Bool.and_eq_true, Bool.or_eq_true, Bool.and_eq_false_iff, Bool.or_eq_false_iff, Bool.not_eq_true', Bool.not_eq_false', decide_eq_true_eq, decide_eq_false_iff_not, Bool.not_eq_true, Bool.not_eq_false] at h0
    have e0 : pmay r.p = false := by cases e : pmay r.p with
      | false => rfl
      | true => rw [e] at h0; simp [errB] at h0
    refine cw_seq ?_
    refine cw_region ?_
    refine sq_r (ry_move rfl) ?_
    refine sq_r (ry_assign rfl) ?_
    refine sq_r (ry_assign rfl) ?_
    refine sq_nil ?_
    refine ex_then ?_
    refine cw_ret ?_
    refine ex_pass_ret ?_
    refine ex_ret (.inl rfl) (res_2 rfl (rv_tmp rfl) (rv_tmp rfl)) (fun w1 hw => ?_)
    exact ⟨(by rw [lineS, e0]; rfl), Keep.mem hw⟩
  · try simp only [Bool.and_eq_true, Bool.or_eq_true, Bool.and_eq_false_iff, Bool.or_eq_false_iff, Bool.not_eq_true', Bool.not_eq_false', decide_eq_true_eq, decide_eq_false_iff_not, Bool.not_eq_true, Bool.not_eq_false] at h0
    have e0 : pmay r.p = true := by cases e : pmay r.p with
      | true => rfl
      | false => rw [e] at h0; simp [errB] at h0
    refine cw_skip ?_
    refine ex_then ?_
    refine cw_seq ?_
    refine cw_region ?_
    refine sq_r (ry_move rfl) ?_
    refine sq_r (ry_field (o' := 18) rfl rfl) ?_
    refine sq_r (ry_cellc rfl) ?_
    refine sq_r (ry_conv_u16 rfl) ?_
    refine sq_y (yl_callC rfl (by first | omega | exact Nat.lt_trans (UInt8.toNat_lt _) (by decide) | exact Nat.lt_trans (UInt16.toNat_lt _) (by decide))) ?_
    refine sq_buildSlice (enc := txc) (vals := [_, _]) [(pfxS r.p), (dec r.hop.toNat)] rfl rfl rfl (by decide) (by decide) fun b20 => ?_
    refine sq_y (yl_callC rfl (join2_pre _ _ 32 (by omega))) ?_
    refine sq_r (ry_assign rfl) ?_
    refine sq_r (ry_assign rfl) ?_
    refine sq_nil ?_
    refine ex_then ?_
    refine cw_ret ?_
    refine ex_ret (.inl rfl) (res_2 rfl (rv_tmp rfl) (rv_tmp rfl)) (fun w1 hw => ?_)
    exact ⟨(by rw [lineS, e0, if_pos rfl, joinT_two, lineT, pfxS, if_pos e0]; rfl), Keep.mem hw⟩
instance tline_i {w0 : World} {L : List Ent} {r : Rt} [tb : Tabs w0]  : FnQ Tryd.prog 7 w0 L [.agg (rcells r)] (.tuple #[.string ⟨(lineS r).toArray⟩, .int .i64 (errB (pmay r.p))]) (True) := ⟨fun hp w hw => tline_c w (tb := tb.at hw) r ⟩

set_option maxRecDepth 20000 in
theorem rline_c (w : World) (r : Rt)  : Calls Tryd.prog 8 #[.agg (rcells r)] w fun e w' => e = .returned (.tuple #[.string ⟨(lineS r).toArray⟩, .int .i64 (errB (pmay r.p))]) ∧ Mem w [] w' := by
  have hpl := pfxS_len r.p
  have hdl := dec_len 5 r.hop.toNat (Nat.lt_trans (UInt16.toNat_lt _) (by decide)) (by decide)
  refine calls_of (args := [_]) Tryd.func8 rfl Tryd.ntmps8 rfl ?_
  change Cw _ _ _ _ _ [(0, .agg (rcells r))] []
  refine cw_seq ?_
  refine cw_region ?_
  refine sq_boxA rfl fun b1 => ?_
  refine sq_r (ry_assign rfl) ?_
  refine sq_r (ry_assign rfl) ?_
  refine sq_nil ?_
  refine ex_then ?_
  refine cw_seq ?_
  refine cw_region ?_
  refine sq_r (ry_field (o' := 0) rfl rfl) ?_
  refine sq_r (ry_part rfl) ?_
  refine sq_y (yl_callC rfl trivial) ?_
  refine sq_r (ry_move rfl) ?_
  refine sq_r (ry_extract (v := .string ⟨(pfxS r.p).toArray⟩) rfl rfl) ?_
  refine sq_r (ry_extract (v := .int .i64 (errB (pmay r.p))) rfl rfl) ?_
  refine sq_r (ry_assign rfl) ?_
  refine sq_r (ry_assign rfl) ?_
  refine sq_nil ?_
  refine ex_then ?_
  refine cw_seq ?_
  refine cw_seq ?_
  refine cw_region ?_
  refine sq_r (ry_move rfl) ?_
  refine sq_r (ry_int rfl rfl rfl) ?_
  refine sq_nil ?_
  refine ex_then ?_
  refine cw_cond rfl (fun h0 => ?_) (fun h0 => ?_)
  · try simp only [Bool.and_eq_true, Bool.or_eq_true, Bool.and_eq_false_iff, Bool.or_eq_false_iff, Bool.not_eq_true', Bool.not_eq_false', decide_eq_true_eq, decide_eq_false_iff_not, Bool.not_eq_true, Bool.not_eq_false] at h0
    have e0 : pmay r.p = false := by cases e : pmay r.p with
      | false => rfl
      | true => rw [e] at h0; simp [errB] at h0
    refine cw_seq ?_
    refine cw_region ?_
    refine sq_r (ry_move rfl) ?_
    refine sq_r (ry_assign rfl) ?_
    refine sq_r (ry_assign rfl) ?_
    refine sq_nil ?_
    refine ex_then ?_
    refine cw_ret ?_
    refine ex_pass_ret ?_
    refine ex_ret (.inl rfl) (res_2 rfl (rv_tmp rfl) (rv_tmp rfl)) (fun w1 hw => ?_)
    exact ⟨(by rw [lineS, e0]; rfl), Keep.mem hw⟩
  · try simp only [Bool.and_eq_true, Bool.or_eq_true, Bool.and_eq_false_iff, Bool.or_eq_false_iff, Bool.not_eq_true', Bool.not_eq_false', decide_eq_true_eq, decide_eq_false_iff_not, Bool.not_eq_true, Bool.not_eq_false] at h0
    have e0 : pmay r.p = true := by cases e : pmay r.p with
      | true => rfl
      | false => rw [e] at h0; simp [errB] at h0
    refine cw_skip ?_
    refine ex_then ?_
    refine cw_seq ?_
    refine cw_region ?_
    refine sq_r (ry_move rfl) ?_
    refine sq_r (ry_strcat rfl rfl (by simp only [List.length_append, List.length_cons, List.length_nil]; omega)) ?_
    refine sq_r (ry_field (o' := 18) rfl rfl) ?_
    refine sq_r (ry_cellc rfl) ?_
    refine sq_r (ry_conv_u16 rfl) ?_
    refine sq_y (yl_callC rfl (by first | omega | exact Nat.lt_trans (UInt8.toNat_lt _) (by decide) | exact Nat.lt_trans (UInt16.toNat_lt _) (by decide))) ?_
    refine sq_r (ry_strcat rfl rfl (by simp only [List.length_append, List.length_cons, List.length_nil]; omega)) ?_
    refine sq_r (ry_assign rfl) ?_
    refine sq_r (ry_assign rfl) ?_
    refine sq_nil ?_
    refine ex_then ?_
    refine cw_ret ?_
    refine ex_ret (.inl rfl) (res_2 rfl (rv_tmp rfl) (rv_tmp rfl)) (fun w1 hw => ?_)
    exact ⟨(by rw [lineS, e0, if_pos rfl, lineT, pfxS, if_pos e0, List.append_assoc]; rfl), Keep.mem hw⟩
instance rline_i {w0 : World} {L : List Ent} {r : Rt}  : FnQ Tryd.prog 8 w0 L [.agg (rcells r)] (.tuple #[.string ⟨(lineS r).toArray⟩, .int .i64 (errB (pmay r.p))]) (True) := ⟨fun hp w hw => rline_c w r ⟩

end Go.Proofs.YtldkgicmfbofiaaDoor
