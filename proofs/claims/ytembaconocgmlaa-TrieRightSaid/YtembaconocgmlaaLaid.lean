/- A route as bytes, walked. -/
import Derived.Test.YtembaconocgmlaaBytes
import Derived.Test.YtembaconocgmlaaPk
set_option linter.unusedSimpArgs false
set_option linter.unusedVariables false
namespace Go.Proofs.Ytembaconocgmlaa
open Go.Eng Go.Kb

def zs20 : Array Value := Array.replicate 20 (.int .u8 0)
theorem zs20_size : zs20.size = 20 := by simp [zs20]
instance : ZeroT Try.prog 135 (.agg zs20) := ⟨by kernel_rfl⟩
theorem k_one (k : Key) : (kcells k).all (·.oneCell') = true := (inferInstance : SizeIs (kcells k) 16).one
set_option maxRecDepth 20000 in
theorem laid_c (w0 w : World) (L : List Ent) (s : Sv) (xs : List UInt8) (r : Rt) (hw : Mem w0 (own benc 1 s xs :: L) w) (hl : xs.length ≤ 1000000) : Calls Try.prog 73 #[s.val, .agg (rcells r)] w fun e w' => ∃ s' : Sv, e = .returned s'.val ∧ s'.Ok ∧ s'.len = xs.length + 20 ∧ Mem w0 (own benc 1 s' (xs ++ rbytes r) :: L) w' := by
  refine calls_in (args := [_, _]) Try.func73 rfl Try.ntmps73 rfl hw ?_
  change Cw _ _ _ _ _ [(0, s.val), (1, .agg (rcells r))] (own benc 1 s xs :: L)
  refine cw_seq ?_
  refine cw_region ?_
  refine sq_boxA rfl fun b3 => ?_
  refine sq_r (ry_assign rfl) ?_
  refine sq_nil ?_
  refine ex_then ?_
  refine cw_seq ?_
  refine cw_region ?_
  refine sq_allocA fun b5 => ?_
  refine sq_nil ?_
  refine ex_then ?_
  refine cw_seq ?_
  refine cw_seq ?_
  refine cw_region ?_
  refine sq_r (ry_field (o' := 0) rfl rfl) ?_
  refine sq_r (ry_field (o' := 0) rfl rfl) ?_
  refine sq_r (ry_cellc rfl) ?_
  refine sq_r (ry_int rfl rfl rfl) ?_
  refine sq_nil ?_
  refine ex_then ?_
  refine cw_cond rfl (fun h0 => ?_) (fun h0 => ?_)
  · simp only [decide_eq_true_eq] at h0
    refine cw_region ?_
    refine sq_r (ry_idxA1 rfl rfl (by omega) (by omega)) ?_
    refine sq_store rfl rfl (by simp [zs20_size]) rfl rfl ?_
    refine sq_nil ?_
    refine ex_then ?_
    refine cw_seq ?_
    refine cw_region ?_
    refine sq_r (ry_field (o' := 0) rfl rfl) ?_
    refine sq_r (ry_field (o' := 1) rfl rfl) ?_
    refine sq_r (ry_cellc rfl) ?_
    refine sq_r (ry_conv rfl (wrap_b8i _)) ?_
    refine sq_r (ry_idxA1 rfl rfl (by omega) (by omega)) ?_
    refine sq_store rfl rfl (by simp [zs20_size]) rfl rfl ?_
    refine sq_nil ?_
    refine ex_then ?_
    refine cw_seq ?_
    refine cw_tail 4 [] (by kernel_rfl) (by kernel_rfl) ?_
    simp only [List.take_succ_cons, List.take_zero]
    refine qt_r (ry_sliceA_lo rfl rfl (by decide) (by decide)) ?_
    refine qt_r (ry_field (o' := 0) rfl rfl) ?_
    refine qt_r (ry_field (o' := 2) rfl rfl) ?_
    refine qt_r (ry_sliceA_all rfl) ?_
    refine qt_end ?_
    refine fr_nil ?_
    simp only [List.drop_succ_cons, List.drop_zero]
    refine sq_copy (vs := kcells r.p.key) rfl rfl (by rw [kcells_size]; rfl) (fun w hw j hj => by rw [Addr.add_none, hw.cell (i := 1) rfl]; exact (rcells_p r (2 + j) (by rw [kcells_size] at hj; omega)).trans (pcells_k r.p j)) (k_one _) (by simp [kcells_size, zs20_size]) rfl ?_
    refine sq_nil ?_
    refine ex_then ?_
    refine cw_seq ?_
    refine cw_region ?_
    refine sq_r (ry_field (o' := 18) rfl rfl) ?_
    refine sq_r (ry_cellc rfl) ?_
    refine sq_r (ry_shr (p := r.hop.toNat) rfl rfl (Nat.lt_of_lt_of_le r.hop.toNat_lt (by decide)) (by decide)) ?_
    refine sq_r (ry_conv8 (n := r.hop.toNat / 256) rfl rfl) ?_
    refine sq_r (ry_idxA1 rfl rfl (by omega) (by omega)) ?_
    refine sq_store rfl rfl (by simp [over_size, kcells_size, zs20_size]) rfl rfl ?_
    refine sq_nil ?_
    refine ex_then ?_
    refine cw_seq ?_
    refine cw_region ?_
    refine sq_r (ry_field (o' := 18) rfl rfl) ?_
    refine sq_r (ry_cellc rfl) ?_
    refine sq_r (ry_conv8 (n := r.hop.toNat) rfl rfl) ?_
    refine sq_r (ry_idxA1 rfl rfl (by omega) (by omega)) ?_
    refine sq_store rfl rfl (by simp [over_size, kcells_size, zs20_size]) rfl rfl ?_
    refine sq_nil ?_
    refine ex_then ?_
    refine cw_seq ?_
    refine cw_region ?_
    refine sq_r (ry_move rfl) ?_
    refine sq_r (ry_sliceA_all rfl) ?_
    refine sq_append (ys := rbytes r) rfl rfl (by decide) (fun w hw => src_rows (s := ⟨false, b5, 0, 20, 20, none⟩) Try.underlying30 (by decide) (holds_blk (laid_cells r (by simp [zs20_size]) (by simp [zs20, h0])) (rbytes_length r) (by decide) w hw)) (by rw [rbytes_length]; omega) (by rw [rbytes_length]; omega) fun s32 hs32 hl32 => ?_
    refine sq_r (ry_assign rfl) ?_
    refine sq_nil ?_
    refine ex_then ?_
    refine cw_ret ?_
    refine ex_ret (.inl rfl) (res_tmp rfl rfl) (fun w hw => ?_)
    exact ⟨s32, rfl, hs32, hl32.trans (by rw [List.length_append, rbytes_length]), hw.sub (List.Sublist.cons _ (List.Sublist.cons _ (List.Sublist.refl _)))⟩
  · simp only [decide_eq_false_iff_not] at h0
    refine cw_skip ?_
    refine ex_then ?_
    refine cw_seq ?_
    refine cw_region ?_
    refine sq_r (ry_field (o' := 0) rfl rfl) ?_
    refine sq_r (ry_field (o' := 1) rfl rfl) ?_
    refine sq_r (ry_cellc rfl) ?_
    refine sq_r (ry_conv rfl (wrap_b8i _)) ?_
    refine sq_r (ry_idxA1 rfl rfl (by omega) (by omega)) ?_
    refine sq_store rfl rfl (by simp [zs20_size]) rfl rfl ?_
    refine sq_nil ?_
    refine ex_then ?_
    refine cw_seq ?_
    refine cw_tail 4 [] (by kernel_rfl) (by kernel_rfl) ?_
    simp only [List.take_succ_cons, List.take_zero]
    refine qt_r (ry_sliceA_lo rfl rfl (by decide) (by decide)) ?_
    refine qt_r (ry_field (o' := 0) rfl rfl) ?_
    refine qt_r (ry_field (o' := 2) rfl rfl) ?_
    refine qt_r (ry_sliceA_all rfl) ?_
    refine qt_end ?_
    refine fr_nil ?_
    simp only [List.drop_succ_cons, List.drop_zero]
    refine sq_copy (vs := kcells r.p.key) rfl rfl (by rw [kcells_size]; rfl) (fun w hw j hj => by rw [Addr.add_none, hw.cell (i := 1) rfl]; exact (rcells_p r (2 + j) (by rw [kcells_size] at hj; omega)).trans (pcells_k r.p j)) (k_one _) (by simp [kcells_size, zs20_size]) rfl ?_
    refine sq_nil ?_
    refine ex_then ?_
    refine cw_seq ?_
    refine cw_region ?_
    refine sq_r (ry_field (o' := 18) rfl rfl) ?_
    refine sq_r (ry_cellc rfl) ?_
    refine sq_r (ry_shr (p := r.hop.toNat) rfl rfl (Nat.lt_of_lt_of_le r.hop.toNat_lt (by decide)) (by decide)) ?_
    refine sq_r (ry_conv8 (n := r.hop.toNat / 256) rfl rfl) ?_
    refine sq_r (ry_idxA1 rfl rfl (by omega) (by omega)) ?_
    refine sq_store rfl rfl (by simp [over_size, kcells_size, zs20_size]) rfl rfl ?_
    refine sq_nil ?_
    refine ex_then ?_
    refine cw_seq ?_
    refine cw_region ?_
    refine sq_r (ry_field (o' := 18) rfl rfl) ?_
    refine sq_r (ry_cellc rfl) ?_
    refine sq_r (ry_conv8 (n := r.hop.toNat) rfl rfl) ?_
    refine sq_r (ry_idxA1 rfl rfl (by omega) (by omega)) ?_
    refine sq_store rfl rfl (by simp [over_size, kcells_size, zs20_size]) rfl rfl ?_
    refine sq_nil ?_
    refine ex_then ?_
    refine cw_seq ?_
    refine cw_region ?_
    refine sq_r (ry_move rfl) ?_
    refine sq_r (ry_sliceA_all rfl) ?_
    refine sq_append (ys := rbytes r) rfl rfl (by decide) (fun w hw => src_rows (s := ⟨false, b5, 0, 20, 20, none⟩) Try.underlying30 (by decide) (holds_blk (laid_cells r (by simp [zs20_size]) (by simp [zs20, h0])) (rbytes_length r) (by decide) w hw)) (by rw [rbytes_length]; omega) (by rw [rbytes_length]; omega) fun s32 hs32 hl32 => ?_
    refine sq_r (ry_assign rfl) ?_
    refine sq_nil ?_
    refine ex_then ?_
    refine cw_ret ?_
    refine ex_ret (.inl rfl) (res_tmp rfl rfl) (fun w hw => ?_)
    exact ⟨s32, rfl, hs32, hl32.trans (by rw [List.length_append, rbytes_length]), hw.sub (List.Sublist.cons _ (List.Sublist.cons _ (List.Sublist.refl _)))⟩
set_option maxRecDepth 20000 in
theorem rroute_c (w : World) (r : Rt) : Calls Try.prog 75 #[.agg (rcells r)] w fun e w' => ∃ s : Sv, e = .returned s.val ∧ s.Ok ∧ s.len = 20 ∧ Mem w [own benc 1 s (rbytes r)] w' := by
  refine calls_of (args := [_]) Try.func75 rfl Try.ntmps75 rfl ?_
  change Cw _ _ _ _ _ [(0, .agg (rcells r))] []
  refine cw_seq ?_
  refine cw_region ?_
  refine sq_boxA rfl fun b1 => ?_
  refine sq_r (ry_assign rfl) ?_
  refine sq_nil ?_
  refine ex_then ?_
  refine cw_seq ?_
  refine cw_region ?_
  refine sq_r (ry_assign rfl) ?_
  refine sq_nil ?_
  refine ex_then ?_
  refine cw_cut (X := Sv) (fun s => [(3, s.val), (1, .pointer (some ⟨b1, 0, none⟩))]) (fun s => [own benc 1 s [if r.p.bits = 128 then 1 else 0], blk b1 (rcells r) 82]) (fun s => s.Ok ∧ s.len = 1) ?_ ?_
  · refine cw_seq ?_
    refine cw_region ?_
    refine sq_r (ry_field (o' := 0) rfl rfl) ?_
    refine sq_r (ry_field (o' := 0) rfl rfl) ?_
    refine sq_r (ry_cellc rfl) ?_
    refine sq_r (ry_int rfl rfl rfl) ?_
    refine sq_nil ?_
    refine ex_then ?_
    refine cw_cond rfl (fun h0 => ?_) (fun h0 => ?_)
    · simp only [decide_eq_true_eq] at h0
      refine cw_region ?_
      refine sq_own0 benc 1 (sq_r (ry_move rfl) ?_)
      refine sq_buildSlice (enc := benc) [1] (vals := [_]) rfl (rfl) rfl (by decide) (by decide) fun b10 => ?_
      refine sq_append (s := Sv.none) (ys := [1]) rfl rfl (by decide) (fun w hw => src_rows (s := ⟨false, b10, 0, 1, 1, none⟩) Try.underlying30 (by decide) ((inferInstance : Owns _ _ _ _ _ _).holds w hw)) (by decide) (by decide) fun s11 hs11 hl11 => ?_
      refine sq_r (ry_assign rfl) ?_
      refine sq_nil ?_
      exact ex_meet s11 ⟨hs11, hl11⟩ (Sub.cons rfl (Sub.cons rfl (Sub.nil _))) (fun w hw => by rw [if_pos h0]; exact hw.sub (List.Sublist.cons _ (List.Sublist.refl _)))
    · simp only [decide_eq_false_iff_not] at h0
      refine cw_region ?_
      refine sq_own0 benc 1 (sq_r (ry_move rfl) ?_)
      refine sq_buildSlice (enc := benc) [0] (vals := [_]) rfl (rfl) rfl (by decide) (by decide) fun b13 => ?_
      refine sq_append (s := Sv.none) (ys := [0]) rfl rfl (by decide) (fun w hw => src_rows (s := ⟨false, b13, 0, 1, 1, none⟩) Try.underlying30 (by decide) ((inferInstance : Owns _ _ _ _ _ _).holds w hw)) (by decide) (by decide) fun s14 hs14 hl14 => ?_
      refine sq_r (ry_assign rfl) ?_
      refine sq_nil ?_
      exact ex_meet s14 ⟨hs14, hl14⟩ (Sub.cons rfl (Sub.cons rfl (Sub.nil _))) (fun w hw => by rw [if_neg h0]; exact hw.sub (List.Sublist.cons _ (List.Sublist.refl _)))
  · rintro s ⟨hs, hl⟩
    refine cw_seq ?_
    refine cw_region ?_
    refine sq_r (ry_move rfl) ?_
    refine sq_r (ry_field (o' := 0) rfl rfl) ?_
    refine sq_r (ry_field (o' := 1) rfl rfl) ?_
    refine sq_r (ry_cellc rfl) ?_
    refine sq_r (ry_conv rfl (wrap_b8i _)) ?_
    refine sq_buildSlice (enc := benc) [b8i r.p.len] (vals := [_]) rfl (rfl) rfl (by decide) (by decide) fun b20 => ?_
    refine sq_append (s := s) (ys := [b8i r.p.len]) rfl rfl (by decide) (fun w hw => src_rows (s := ⟨false, b20, 0, 1, 1, none⟩) Try.underlying30 (by decide) ((inferInstance : Owns _ _ _ _ _ _).holds w hw)) (by simp) (by simp) fun s21 hs21 hl21 => ?_
    refine sq_r (ry_assign rfl) ?_
    refine sq_nil ?_
    refine ex_then ?_
    refine cw_seq ?_
    refine cw_seq ?_
    refine cw_region ?_
    refine sq_r (ry_assign rfl) ?_
    refine sq_nil ?_
    refine ex_then ?_
    refine cw_block ?_
    refine cw_loop (X := Nat × Sv) (fun x => [(3, x.2.val), (4, .int .i64 (x.1 : Nat)), (1, .pointer (some ⟨b1, 0, none⟩))]) (fun x => [own benc 1 x.2 (rpre r x.1), blk b1 (rcells r) 82]) (fun x => x.1 ≤ 16 ∧ x.2.Ok ∧ x.2.len = x.1 + 2) (fun x => 16 - x.1) (0, s21) ⟨by omega, hs21, hl21⟩ (Sub.cons rfl (Sub.cons rfl (Sub.cons rfl (Sub.nil _)))) (fun w hw => hw.sub (List.Sublist.cons _ (List.Sublist.refl _))) ?_
    rintro ⟨i, s⟩ ⟨hi1, hi2, hi3⟩
    refine cw_seq ?_
    refine cw_seq ?_
    refine cw_region ?_
    refine sq_r (ry_move rfl) ?_
    refine sq_r (ry_int rfl rfl rfl) ?_
    refine sq_nil ?_
    refine ex_then ?_
    refine cw_cond rfl (fun h1 => ?_) (fun h1 => ?_)
    · simp only [decide_eq_true_eq] at h1
      refine cw_skip ?_
      refine ex_then ?_
      refine cw_seq ?_
      refine cw_block ?_
      refine cw_region ?_
      refine sq_r (ry_move rfl) ?_
      refine sq_r (ry_move rfl) ?_
      refine sq_r (ry_field (o' := 0) rfl rfl) ?_
      refine sq_r (ry_field (o' := 2) rfl rfl) ?_
      refine sq_r (ry_idxA rfl rfl (by omega) (by omega)) ?_
      refine sq_r (ry_cell rfl (by simp only [Int.toNat_natCast, Nat.mul_one]; exact (rcells_p r (2 + i) (by omega)).trans ((pcells_k r.p i).trans (kcells_get _ i (by omega))))) ?_
      refine sq_buildSlice (enc := benc) [b8 (kbyte r.p.key i)] (vals := [_]) rfl (by rw [b8_kbyte]; rfl) rfl (by decide) (by decide) fun b32 => ?_
      refine sq_append (s := s) (ys := [b8 (kbyte r.p.key i)]) rfl rfl (by decide) (fun w hw => src_rows (s := ⟨false, b32, 0, 1, 1, none⟩) Try.underlying30 (by decide) ((inferInstance : Owns _ _ _ _ _ _).holds w hw)) (by rw [rpre_length]; simp only [List.length_cons, List.length_nil]; omega) (by rw [rpre_length]; simp only [List.length_cons, List.length_nil]; omega) fun s33 hs33 hl33 => ?_
      refine sq_r (ry_assign rfl) ?_
      refine sq_nil ?_
      refine ex_block ?_
      refine ex_then ?_
      refine cw_region ?_
      refine sq_r (ry_move rfl) ?_
      refine sq_r (ry_add rfl rfl (by omega)) ?_
      refine sq_r (ry_assign rfl) ?_
      refine sq_nil ?_
      exact ex_again (i + 1, s33) ⟨by omega, hs33, hl33.trans (by simp [rpre_length])⟩ (by omega) (Sub.cons rfl (Sub.cons rfl (Sub.cons rfl (Sub.nil _)))) (fun w hw => by rw [rpre_succ]; exact hw.sub (List.Sublist.cons _ (List.Sublist.refl _)))
    · simp only [decide_eq_false_iff_not] at h1
      obtain rfl : i = 16 := by omega
      refine cw_exit ?_
      refine ex_pass_exit ?_
      refine ex_pass_exit ?_
      refine ex_block_hit ?_
      refine ex_then ?_
      refine cw_seq ?_
      refine cw_region ?_
      refine sq_r (ry_move rfl) ?_
      refine sq_r (ry_field (o' := 18) rfl rfl) ?_
      refine sq_r (ry_cellc rfl) ?_
      refine sq_r (ry_convn rfl (Nat.lt_of_lt_of_le r.hop.toNat_lt (by decide))) ?_
      refine sq_call (val := Sv.val) (ents := fun s => [own benc 1 s (be r.hop.toNat 2)]) (pr := fun s => s.Ok ∧ s.len = 2) rfl (fun w hw => (put_c w r.hop.toNat 2 (Nat.lt_of_lt_of_le r.hop.toNat_lt (by decide)) (by decide)).mono fun e w' ⟨s, h1, h2, h3, h4⟩ => ⟨s, h1, ⟨h2, h3⟩, h4⟩) fun s38 hp38 => ?_
      simp only [List.cons_append, List.nil_append]
      refine sq_append (s := s) (ys := be r.hop.toNat 2) rfl rfl (by decide) (fun w hw => src_rows (s := s38) Try.underlying30 (by decide) ((inferInstance : Owns _ _ _ _ _ _).holds w hw)) (by rw [rpre_length, be_length]; decide) (by rw [rpre_length, be_length]; decide) fun s39 hs39 hl39 => ?_
      refine sq_r (ry_assign rfl) ?_
      refine sq_nil ?_
      refine ex_then ?_
      refine cw_ret ?_
      refine ex_ret (.inl rfl) (res_tmp rfl rfl) (fun w hw => ?_)
      exact ⟨s39, rfl, hs39, hl39.trans (by simp [rpre_length, be_length]), by rw [← rpre_all]; exact hw.sub (List.Sublist.cons _ (List.Sublist.cons_cons _ (List.nil_sublist _)))⟩

end Go.Proofs.Ytembaconocgmlaa
