/- The law GroupEven: walked. -/
import Derived.Test.YtajhlgdapiihgaaMo
import Derived.Test.YtajhlgdapiihgaaMd

set_option linter.unusedSimpArgs false
set_option linter.unusedVariables false
namespace Go.Proofs.Ytajhlgdapiihgaa
open Go.Eng Go.Kb
set_option maxRecDepth 100000 in
instance : ZeroT Try.prog 55 (.agg (acells big fun _ => 0)) := ⟨zeroChk_eq (by kernel_rfl)⟩
set_option maxHeartbeats 800000 in
set_option maxRecDepth 20000 in
theorem groupEven_c (w : World) (h : Sv) (hs : List UInt16) (v : UInt8) (k : UInt16) (hh : Lies henc 1 (hp w) h hs) : Calls Try.prog 10 #[h.val, .int .u8 (v.toNat : Nat), .int .u16 (k.toNat : Nat)] w fun e w' => e = .returned (.bool true) ∧ Mem w [] w' := by
  have ghh : Gv w h henc 1 hs := ⟨hh⟩
  have hkl := k.toNat_lt
  refine calls_of (args := [_, _, _]) Try.func10 rfl Try.ntmps10 rfl ?_
  change Cw _ _ _ _ _ [(0, h.val), (1, .int .u8 (v.toNat : Nat)), (2, .int .u16 (k.toNat : Nat))] []
  refine cw_seq ?_
  refine cw_region ?_
  refine sq_r (ry_assign rfl) ?_
  refine sq_nil ?_
  refine ex_then ?_
  refine cw_seq ?_
  refine cw_seq ?_
  refine cw_region ?_
  refine sq_y (yl_callC rfl trivial) ?_
  refine sq_r (ry_not rfl) ?_
  refine sq_nil ?_
  refine ex_then ?_
  refine cw_cond rfl (fun h0 => ?_) (fun h0 => ?_)
  · exfalso; simp at h0
  · try simp only [Bool.and_eq_true, Bool.or_eq_true, Bool.and_eq_false_iff, Bool.or_eq_false_iff, Bool.not_eq_true', Bool.not_eq_false', decide_eq_true_eq, decide_eq_false_iff_not, Bool.not_eq_true, Bool.not_eq_false] at h0
    refine cw_skip ?_
    refine ex_then ?_
    refine cw_seq ?_
    refine cw_seq ?_
    refine cw_region ?_
    refine sq_r (ry_move rfl) ?_
    refine sq_r (ry_lenH rfl) ?_
    refine sq_r (ry_int rfl rfl rfl) ?_
    refine sq_r (ry_move rfl) ?_
    refine sq_gf rfl rfl rfl (fun hg => (Ry.yl (ry_move rfl))) ?_
    refine sq_gf rfl rfl rfl (fun hg => (Ry.yl (ry_lenH (ev_c hg rfl)))) ?_
    refine sq_gf rfl rfl rfl (fun hg => (Ry.yl (ry_int (ev_c hg rfl) rfl rfl))) ?_
    refine sq_r (ry_or rfl rfl rfl) ?_
    refine sq_nil ?_
    refine ex_then ?_
    refine cw_cond rfl (fun h1 => ?_) (fun h1 => ?_)
    · try simp only [Bool.and_eq_true, Bool.or_eq_true, Bool.and_eq_false_iff, Bool.or_eq_false_iff, Bool.not_eq_true', Bool.not_eq_false', decide_eq_true_eq, decide_eq_false_iff_not, Bool.not_eq_true, Bool.not_eq_false] at h1
      refine cw_seq ?_
      refine cw_region ?_
      refine sq_r (ry_assign rfl) ?_
      refine sq_nil ?_
      refine ex_then ?_
      refine cw_ret ?_
      refine ex_pass_ret ?_
      refine ex_ret (.inl rfl) (res_1 rfl (rv_tmp rfl)) (fun w1 hw => ?_)
      exact ⟨congrArg (fun b => Ending.returned (Value.bool b)) (rfl), Keep.mem hw⟩
    · try simp only [Bool.and_eq_true, Bool.or_eq_true, Bool.and_eq_false_iff, Bool.or_eq_false_iff, Bool.not_eq_true', Bool.not_eq_false', decide_eq_true_eq, decide_eq_false_iff_not, Bool.not_eq_true, Bool.not_eq_false] at h1
      have hl1 : 1 ≤ hs.length := by omega
      have hl2 : hs.length ≤ 16 := by omega
      obtain ⟨W, hW, hW1, hW2⟩ : ∃ W : Nat, v.toNat % 100 + 1 = W ∧ 1 ≤ W ∧ W ≤ 100 := ⟨_, rfl, by omega, by omega⟩
      have hT1 : 1 * 1 ≤ W * hs.length := Nat.mul_le_mul hW1 hl1
      have hT2 : W * hs.length ≤ 100 * 16 := Nat.mul_le_mul hW2 hl2
      refine cw_skip ?_
      refine ex_then ?_
      refine cw_seq ?_
      refine cw_region ?_
      refine sq_r (ry_move rfl) ?_
      refine sq_r (ry_remn (p := v.toNat) (q := 100) rfl rfl rfl rfl (by omega)) ?_
      refine sq_r (ry_convn rfl (by simp only [nb]; omega)) ?_
      refine sq_r (Ry.to (v' := .int .i64 ((W : Nat) : Int)) (ry_add rfl rfl (by omega)) (by rw [← hW]; rfl)) ?_
      refine sq_r (ry_assign rfl) ?_
      refine sq_nil ?_
      refine ex_then ?_
      refine cw_seq ?_
      refine cw_region ?_
      refine sq_r (ry_build (v := .agg (gpcells ⟨1, ⟨Sv.none, []⟩⟩)) rfl (fun w => by kernel_rfl)) ?_
      refine sq_allocA fun b8 => ?_
      refine sq_storeW rfl rfl ?_
      refine sq_nil ?_
      refine ex_then ?_
      refine cw_seq ?_
      refine cw_seq ?_
      refine cw_region ?_
      refine sq_r (ry_assign rfl) ?_
      refine sq_nil ?_
      refine ex_then ?_
      refine cw_block ?_
      refine cw_loop (X := Nat × Sv) (fun zz => [(9, .int .i64 (zz.1 : Nat)), (0, h.val), (2, .int .u16 (k.toNat : Nat)), (7, .int .i64 (W : Nat)), (8, .pointer (some ⟨b8, 0, none⟩))]) (fun zz => [own mrcells 2 zz.2 (alike W (hs.take zz.1)), blk b8 (gpcells ⟨1, ⟨zz.2, (alike W (hs.take zz.1))⟩⟩) 51]) (fun zz => zz.1 ≤ hs.length ∧ ∀ j, j < zz.1 → riseAt hs j = true) (fun zz => hs.length - zz.1) (0, Sv.none) ⟨Nat.zero_le _, fun j h => by first | omega | (simp only []; omega)⟩ (Sub.cons rfl (Sub.cons rfl (Sub.cons rfl (Sub.cons rfl (Sub.cons rfl (Sub.nil _)))))) (fun w hw => by rw [show alike W (hs.take (0, Sv.none).1) = [] from by simp [alike]]; exact Mem.nilOwn mrcells 2 (Keep.mem hw)) ?_
      rintro ⟨i, s⟩ ⟨hi1, hi2⟩
      dsimp only
      simp only at hi1 hi2
      have hal := alike_length W (hs.take i)
      rw [List.length_take] at hal
      refine cw_seq ?_
      refine cw_seq ?_
      refine cw_region ?_
      refine sq_r (ry_move rfl) ?_
      refine sq_r (ry_move rfl) ?_
      refine sq_r (ry_lenH rfl) ?_
      refine sq_r (ry_int rfl rfl rfl) ?_
      refine sq_nil ?_
      refine ex_then ?_
      refine cw_cond rfl (fun h2 => ?_) (fun h2 => ?_)
      · try simp only [Bool.and_eq_true, Bool.or_eq_true, Bool.and_eq_false_iff, Bool.or_eq_false_iff, Bool.not_eq_true', Bool.not_eq_false', decide_eq_true_eq, decide_eq_false_iff_not, Bool.not_eq_true, Bool.not_eq_false] at h2
        obtain ⟨x, hx⟩ := get_some (xs := hs) (i := i) (by omega)
        refine cw_skip ?_
        refine ex_then ?_
        refine cw_seq ?_
        refine cw_block ?_
        refine cw_seq ?_
        refine cw_seq ?_
        refine cw_quiet (by kernel_rfl) (by kernel_rfl) ?_
        refine qt_r (ry_move rfl) ?_
        refine qt_r (ry_int rfl rfl rfl) ?_
        refine qt_r (ry_move rfl) ?_
        refine qt_gt rfl rfl rfl (fun hg => (Ry.yl (ry_move rfl))) ?_
        refine qt_gt rfl rfl rfl (fun hg => (Ry.yl (ry_move rfl))) ?_
        refine qt_gt rfl rfl rfl (fun hg => (Ry.yl (ry_idxH (ev_c hg rfl) (ev_c hg rfl) i rfl (by simp only [Bool.and_eq_true, Bool.or_eq_true, Bool.and_eq_false_iff, Bool.or_eq_false_iff, Bool.not_eq_true', Bool.not_eq_false', decide_eq_true_eq, decide_eq_false_iff_not, Bool.not_eq_true, Bool.not_eq_false] at hg; omega)))) ?_
        refine qt_gt rfl rfl rfl (fun hg => (Ry.yl (ry_elemcH (j := 0) (ev_c hg rfl) i hx rfl (by decide)))) ?_
        refine qt_gt rfl rfl rfl (fun hg => (Ry.yl (ry_move rfl))) ?_
        refine qt_gt rfl rfl rfl (fun hg => (Ry.yl (ry_move rfl))) ?_
        refine qt_gt rfl rfl rfl (fun hg => (Ry.yl (ry_sub (ev_c hg rfl) rfl (by simp only [Bool.and_eq_true, Bool.or_eq_true, Bool.and_eq_false_iff, Bool.or_eq_false_iff, Bool.not_eq_true', Bool.not_eq_false', decide_eq_true_eq, decide_eq_false_iff_not, Bool.not_eq_true, Bool.not_eq_false] at hg; omega)))) ?_
        refine qt_gt rfl rfl rfl (fun hg => (Ry.yl (ry_idxH (ev_c hg rfl) (ev_c hg rfl) (i - 1) (by simp only [Bool.and_eq_true, Bool.or_eq_true, Bool.and_eq_false_iff, Bool.or_eq_false_iff, Bool.not_eq_true', Bool.not_eq_false', decide_eq_true_eq, decide_eq_false_iff_not, Bool.not_eq_true, Bool.not_eq_false] at hg; omega) (by simp only [Bool.and_eq_true, Bool.or_eq_true, Bool.and_eq_false_iff, Bool.or_eq_false_iff, Bool.not_eq_true', Bool.not_eq_false', decide_eq_true_eq, decide_eq_false_iff_not, Bool.not_eq_true, Bool.not_eq_false] at hg; omega)))) ?_
        refine qt_gt rfl rfl rfl (fun hg => (Ry.yl (ry_elemcH (j := 0) (ev_c hg rfl) (i - 1) (get_getD (xs := hs) (i := i - 1) (d := 0) (by simp only [Bool.and_eq_true, Bool.or_eq_true, Bool.and_eq_false_iff, Bool.or_eq_false_iff, Bool.not_eq_true', Bool.not_eq_false', decide_eq_true_eq, decide_eq_false_iff_not, Bool.not_eq_true, Bool.not_eq_false] at hg; omega)) rfl (by decide)))) ?_
        refine qt_gt rfl rfl rfl (fun hg => (Ry.yl (ry_int (ev_c hg rfl) (ev_c hg rfl) rfl))) ?_
        refine qt_r (ry_and rfl rfl rfl) ?_
        refine qt_nil ?_
        refine ex_then ?_
        refine cw_cond rfl (fun h3 => ?_) (fun h3 => ?_)
        · try simp only [Bool.and_eq_true, Bool.or_eq_true, Bool.and_eq_false_iff, Bool.or_eq_false_iff, Bool.not_eq_true', Bool.not_eq_false', decide_eq_true_eq, decide_eq_false_iff_not, Bool.not_eq_true, Bool.not_eq_false] at h3
          refine cw_seq ?_
          refine cw_region ?_
          refine sq_r (ry_assign rfl) ?_
          refine sq_nil ?_
          refine ex_then ?_
          refine cw_ret ?_
          refine ex_pass_ret ?_
          refine ex_block_ret ?_
          refine ex_pass_ret ?_
          refine ex_pass_ret ?_
          refine ex_block_ret ?_
          refine ex_pass_ret ?_
          refine ex_ret (.inl rfl) (res_1 rfl (rv_tmp rfl)) (fun w1 hw => ?_)
          exact ⟨congrArg (fun b => Ending.returned (Value.bool b)) (rfl), Keep.mem hw⟩
        · try simp only [Bool.and_eq_true, Bool.or_eq_true, Bool.and_eq_false_iff, Bool.or_eq_false_iff, Bool.not_eq_true', Bool.not_eq_false', decide_eq_true_eq, decide_eq_false_iff_not, Bool.not_eq_true, Bool.not_eq_false] at h3
          have hst : riseAt hs i = true := by
            rcases Nat.eq_zero_or_pos i with h0 | h0
            · subst h0; rfl
            · have hpr : hs[i - 1]? = some (hs.getD (i - 1) 0) := get_getD (xs := hs) (i := i - 1) (d := 0) (by omega)
              rw [riseAt_pos h0 hpr hx, decide_eq_true_eq, u16_lt]; rcases h3 with h3 | h3 <;> omega
          refine cw_skip ?_
          refine ex_then ?_
          refine cw_tail 9 [8] (by kernel_rfl) (by kernel_rfl) ?_
          simp only [List.take_succ_cons, List.take_zero]
          refine qt_r (ry_field (o' := 1) rfl rfl) ?_
          refine qt_r (ry_cellc rfl) ?_
          refine qt_r (ry_move rfl) ?_
          refine qt_r (ry_move rfl) ?_
          refine qt_r (ry_idxH rfl rfl i rfl (by omega)) ?_
          refine qt_r (ry_elemcH (j := 0) rfl i hx rfl (by decide)) ?_
          refine qt_r (ry_move rfl) ?_
          refine qt_r (ry_buildc rfl) ?_
          refine qt_skip ?_
          refine qt_end ?_
          refine fr_buildSlice (enc := mrcells) rfl (vals := [_]) [(⟨x, ((W : Nat) : Int)⟩ : Mr)] rfl rfl rfl (by decide) (by decide) fun b60 => ?_
          refine fr_nil ?_
          simp only [List.drop_succ_cons, List.drop_zero]
          refine sq_append (s := s) (ys := [(⟨x, ((W : Nat) : Int)⟩ : Mr)]) rfl rfl (by decide) (fun w hw => src_rows (s := ⟨false, b60, 0, 1, 1, none⟩) Try.underlying49 (by decide) ((inferInstance : Hd _ _ ⟨false, b60, 0, 1, 1, none⟩ mrcells 2 [(⟨x, ((W : Nat) : Int)⟩ : Mr)]).h w hw)) (by simp only [List.length_cons, List.length_nil]; omega) (by simp only [List.length_cons, List.length_nil]; omega) fun s61 hs61 hl61 => ?_
          refine sq_r (ry_field (o' := 1) rfl rfl) ?_
          refine sq_store (cs' := gpcells ⟨1, ⟨s61, (alike W (hs.take i)) ++ [⟨x, W⟩]⟩⟩) rfl rfl (by show 1 < 2; decide) (Sv.one _) rfl ?_
          refine sq_nil ?_
          refine ex_block ?_
          refine ex_then ?_
          refine cw_region ?_
          refine sq_r (ry_move rfl) ?_
          refine sq_r (ry_add rfl rfl (by omega)) ?_
          refine sq_r (ry_assign rfl) ?_
          refine sq_nil ?_
          exact ex_again (x := (i, s)) (i + 1, s61) ⟨by first | omega | (simp only []; omega), fun j hj => if e : j = i then (by subst e; exact hst) else hi2 j (by first | omega | (simp only []; omega))⟩ (by simp only; omega) (Sub.cons rfl (Sub.cons rfl (Sub.cons rfl (Sub.cons rfl (Sub.cons rfl (Sub.nil _)))))) (fun w hw => by rw [alike_snoc hx]; exact Keep.mem hw)
      · try simp only [Bool.and_eq_true, Bool.or_eq_true, Bool.and_eq_false_iff, Bool.or_eq_false_iff, Bool.not_eq_true', Bool.not_eq_false', decide_eq_true_eq, decide_eq_false_iff_not, Bool.not_eq_true, Bool.not_eq_false] at h2
        obtain rfl : i = hs.length := by omega
        rw [List.take_length]
        have hri : rise hs = true := rise_all fun j hj => hi2 j hj
        have hgo : gok (alike W hs) = true := alike_ok hl1 hl2 hW1 hW2 hri
        have hT3 : (wsum (alike W hs)).toNat = W * hs.length := by rw [alike_sum]; omega
        refine cw_exit ?_
        refine ex_pass_exit ?_
        refine ex_pass_exit ?_
        refine ex_block_hit ?_
        refine ex_then ?_
        refine cw_seq ?_
        refine cw_region ?_
        refine sq_r (ry_move rfl) ?_
        refine sq_r (ry_remn (p := k.toNat) (q := 300) rfl rfl rfl rfl (by omega)) ?_
        refine sq_r (ry_convn rfl (by simp only [nb]; omega)) ?_
        refine sq_r (ry_assign rfl) ?_
        refine sq_nil ?_
        refine ex_then ?_
        refine cw_seq ?_
        refine cw_region ?_
        refine sq_allocA fun b11 => ?_
        refine sq_nil ?_
        refine ex_then ?_
        refine cw_seq ?_
        refine cw_seq ?_
        refine cw_region ?_
        refine sq_r (ry_assign rfl) ?_
        refine sq_nil ?_
        refine ex_then ?_
        refine cw_block ?_
        refine cw_loop (X := Nat) (fun zz => [(12, .int .i64 (zz : Nat)), (0, h.val), (7, .int .i64 (W : Nat)), (8, .pointer (some ⟨b8, 0, none⟩)), (10, .int .i64 ((k.toNat % 300) : Nat)), (11, .pointer (some ⟨b11, 0, none⟩))]) (fun zz => [blk b11 (acells big (got zz (fun zz => pickM (alike W hs) ((zz % (W * hs.length) : Nat) : Int)))) 55, own mrcells 2 s (alike W hs), blk b8 (gpcells (⟨1, ⟨s, (alike W hs)⟩⟩ : Gp)) 51]) (fun zz => zz ≤ (k.toNat % 300)) (fun zz => (k.toNat % 300) - zz) 0 (Nat.zero_le _) (Sub.cons rfl (Sub.cons rfl (Sub.cons rfl (Sub.cons rfl (Sub.cons rfl (Sub.cons rfl (Sub.nil _))))))) (fun w hw => by rw [got_zero]; exact Keep.mem hw) ?_
        rintro i hj1
        refine cw_seq ?_
        refine cw_seq ?_
        refine cw_region ?_
        refine sq_r (ry_move rfl) ?_
        refine sq_r (ry_move rfl) ?_
        refine sq_r (ry_int rfl rfl rfl) ?_
        refine sq_nil ?_
        refine ex_then ?_
        refine cw_cond rfl (fun h4 => ?_) (fun h4 => ?_)
        · try simp only [Bool.and_eq_true, Bool.or_eq_true, Bool.and_eq_false_iff, Bool.or_eq_false_iff, Bool.not_eq_true', Bool.not_eq_false', decide_eq_true_eq, decide_eq_false_iff_not, Bool.not_eq_true, Bool.not_eq_false] at h4
          refine cw_skip ?_
          refine ex_then ?_
          refine cw_seq ?_
          refine cw_block ?_
          refine cw_seq ?_
          refine cw_region ?_
          refine sq_r (ry_whole rfl) ?_
          refine sq_buildSlice (enc := gpcells) [(⟨1, ⟨s, (alike W hs)⟩⟩ : Gp)] (vals := [.agg (gpcells (⟨1, ⟨s, (alike W hs)⟩⟩ : Gp))]) rfl rfl rfl (by decide) (by decide) fun b73 => ?_
          refine sq_nameD (τ := Gp) (xs := [(⟨1, ⟨s, (alike W hs)⟩⟩ : Gp)]) fun a73 h73 g73 => ?_
          obtain ⟨e1, e2⟩ := pick_one (g := (⟨1, ⟨s, (alike W hs)⟩⟩ : Gp)) hgo i
          have hU : (UInt32.ofNat i).toNat = i := by simp; omega
          have ax : a73.xs = [(⟨1, ⟨s, (alike W hs)⟩⟩ : Gp)] := by rw [h73]
          have eE : pickE (gvs a73.xs) (1 : UInt16) (UInt32.ofNat i).toNat = 0 := by rw [ax, hU]; exact e1
          have eH : (fun i => pickM (alike W hs) ((i % (W * hs.length) : Nat) : Int)) i = some (pickH (gvs a73.xs) (1 : UInt16) (UInt32.ofNat i).toNat) := by rw [ax, hU, show pickH (gvs [(⟨1, ⟨s, (alike W hs)⟩⟩ : Gp)]) (1 : UInt16) i = pickG (alike W hs) i from e2, ← hT3]; exact pickG_some hgo _
          obtain ⟨hh, hhe⟩ : ∃ z, z = (pickH (gvs a73.xs) (1 : UInt16) (UInt32.ofNat i).toNat) := ⟨_, rfl⟩
          rw [← hhe] at eH
          have gbd := got_bd i (fun i => pickM (alike W hs) ((i % (W * hs.length) : Nat) : Int)) hh.toNat
          refine sq_r (ry_move rfl) ?_
          refine sq_r (Ry.to (v' := .int .u32 ((UInt32.ofNat i).toNat : Int)) (ry_convn (n := i) rfl (by simp only [nb]; omega)) (by rw [hU])) ?_
          refine sq_y (yl_callC (vs := [_, .int .u16 ((1 : UInt16).toNat : Int), _]) rfl trivial) ?_
          refine sq_r (ry_move rfl) ?_
          refine sq_r (ry_extract (v := .int .u16 ((pickH (gvs a73.xs) (1 : UInt16) (UInt32.ofNat i).toNat).toNat : Nat)) rfl rfl) ?_
          refine sq_r (ry_extract (v := .int .i64 (pickE (gvs a73.xs) (1 : UInt16) (UInt32.ofNat i).toNat)) rfl rfl) ?_
          refine sq_r (ry_assign rfl) ?_
          refine sq_r (ry_assign rfl) ?_
          refine sq_nil ?_
          refine ex_then ?_
          refine cw_seq ?_
          refine cw_seq ?_
          refine cw_region ?_
          refine sq_r (ry_move rfl) ?_
          refine sq_r (ry_int rfl rfl rfl) ?_
          refine sq_nil ?_
          refine ex_then ?_
          refine cw_cond rfl (fun h5 => ?_) (fun h5 => ?_)
          · exfalso; rw [eE] at h5; simp at h5
          · try simp only [Bool.and_eq_true, Bool.or_eq_true, Bool.and_eq_false_iff, Bool.or_eq_false_iff, Bool.not_eq_true', Bool.not_eq_false', decide_eq_true_eq, decide_eq_false_iff_not, Bool.not_eq_true, Bool.not_eq_false] at h5
            refine cw_skip ?_
            refine ex_then ?_
            refine cw_region ?_
            refine sq_r (Ry.to (v' := .int .u16 (hh.toNat : Int)) (ry_move rfl) (by rw [hhe])) ?_
            refine sq_r (Ry.to (v' := .pointer (some ⟨b11, hh.toNat, none⟩)) (ry_idxA1 rfl rfl (by omega) (by have := u16_big hh; unfold big at this; omega)) (by simp)) ?_
            refine sq_r (ry_cell rfl (acells_get _ (u16_big hh))) ?_
            refine sq_r (ry_add rfl rfl (by omega)) ?_
            refine sq_r (Ry.to (v' := .pointer (some ⟨b11, hh.toNat, none⟩)) (ry_idxA1 rfl rfl (by omega) (by have := u16_big hh; unfold big at this; omega)) (by simp)) ?_
            refine sq_store (cs' := acells big (bump (got i (fun i => pickM (alike W hs) ((i % (W * hs.length) : Nat) : Int))) hh.toNat)) rfl rfl (by rw [acells_size]; exact u16_big _) rfl (acells_set (u16_big _)) ?_
            refine sq_nil ?_
            refine ex_block ?_
            refine ex_then ?_
            refine cw_region ?_
            refine sq_r (ry_move rfl) ?_
            refine sq_r (ry_add rfl rfl (by omega)) ?_
            refine sq_r (ry_assign rfl) ?_
            refine sq_nil ?_
            exact ex_again (x := (i)) (i + 1) (by first | omega | (simp only []; omega)) (by first | omega | (simp only []; omega)) (Sub.cons rfl (Sub.cons rfl (Sub.cons rfl (Sub.cons rfl (Sub.cons rfl (Sub.cons rfl (Sub.nil _))))))) (fun w hw => by rw [got_succ eH]; exact Keep.mem hw)
        · try simp only [Bool.and_eq_true, Bool.or_eq_true, Bool.and_eq_false_iff, Bool.or_eq_false_iff, Bool.not_eq_true', Bool.not_eq_false', decide_eq_true_eq, decide_eq_false_iff_not, Bool.not_eq_true, Bool.not_eq_false] at h4
          obtain rfl : i = (k.toNat % 300) := by omega
          refine cw_exit ?_
          refine ex_pass_exit ?_
          refine ex_pass_exit ?_
          refine ex_block_hit ?_
          refine ex_then ?_
          refine cw_seq ?_
          refine cw_seq ?_
          refine cw_region ?_
          refine sq_r (ry_assign rfl) ?_
          refine sq_nil ?_
          refine ex_then ?_
          refine cw_block ?_
          refine cw_loop (X := Nat) (fun zz => [(15, .int .i64 (zz : Nat)), (0, h.val), (7, .int .i64 (W : Nat)), (10, .int .i64 ((k.toNat % 300) : Nat)), (11, .pointer (some ⟨b11, 0, none⟩))]) (fun zz => [blk b11 (acells big (got (k.toNat % 300) (fun i => pickM (alike W hs) ((i % (W * hs.length) : Nat) : Int)))) 55]) (fun zz => zz ≤ hs.length) (fun zz => hs.length - zz) 0 (Nat.zero_le _) (Sub.cons rfl (Sub.cons rfl (Sub.cons rfl (Sub.cons rfl (Sub.cons rfl (Sub.nil _)))))) (fun w hw => Keep.mem hw) ?_
          rintro j hk1
          refine cw_seq ?_
          refine cw_seq ?_
          refine cw_region ?_
          refine sq_r (ry_move rfl) ?_
          refine sq_r (ry_move rfl) ?_
          refine sq_r (ry_lenH rfl) ?_
          refine sq_r (ry_int rfl rfl rfl) ?_
          refine sq_nil ?_
          refine ex_then ?_
          refine cw_cond rfl (fun h6 => ?_) (fun h6 => ?_)
          · try simp only [Bool.and_eq_true, Bool.or_eq_true, Bool.and_eq_false_iff, Bool.or_eq_false_iff, Bool.not_eq_true', Bool.not_eq_false', decide_eq_true_eq, decide_eq_false_iff_not, Bool.not_eq_true, Bool.not_eq_false] at h6
            obtain ⟨x, hx⟩ := get_some (xs := hs) (i := j) (by omega)
            have ca : ∀ f : Nat → Int, CellAt (acells big f) (Int.toNat (x.toNat : Int)) (.int .i64 (f x.toNat)) := fun f => ⟨by rw [Int.toNat_natCast]; exact acells_get f (u16_big x)⟩
            have hxl := x.toNat_lt
            obtain ⟨v1, v2, v3⟩ := even hl1 hl2 hW1 hW2 hri (List.mem_of_getElem? hx) (k.toNat % 300)
            have hgot : got (k.toNat % 300) (fun i => pickM (alike W hs) ((i % (W * hs.length) : Nat) : Int)) x.toNat = (cntN (k.toNat % 300) (fun i => pickM (alike W hs) ((i % (W * hs.length) : Nat) : Int) == some x) : Nat) := got_hop _ _ _
            have hA : (k.toNat % 300) / (W * hs.length) * W ≤ 300 := by have := (got_bd (k.toNat % 300) (fun i => pickM (alike W hs) ((i % (W * hs.length) : Nat) : Int)) x.toNat).2; rw [hgot] at this; omega
            refine cw_skip ?_
            refine ex_then ?_
            refine cw_seq ?_
            refine cw_block ?_
            refine cw_seq ?_
            refine cw_region ?_
            refine sq_r (ry_move rfl) ?_
            refine sq_r (ry_move rfl) ?_
            refine sq_r (ry_move rfl) ?_
            refine sq_r (ry_lenH rfl) ?_
            refine sq_r (Ry.to (v' := .int .i64 (((W * hs.length) : Nat) : Int)) (ry_mul rfl rfl (by rw [← Int.natCast_mul]; omega)) (by rw [Int.natCast_mul])) ?_
            refine sq_r (Ry.to (v' := .int .i64 (((k.toNat % 300) / (W * hs.length) : Nat) : Int)) (ry_quo rfl rfl (by omega) (by omega)) rfl) ?_
            refine sq_r (ry_move rfl) ?_
            refine sq_r (Ry.to (v' := .int .i64 (((k.toNat % 300) / (W * hs.length) * W : Nat) : Int)) (ry_mul rfl rfl (by rw [← Int.natCast_mul]; omega)) (by rw [Int.natCast_mul])) ?_
            refine sq_r (ry_assign rfl) ?_
            refine sq_nil ?_
            refine ex_then ?_
            refine cw_seq ?_
            refine cw_region ?_
            refine sq_r (ry_move rfl) ?_
            refine sq_r (ry_move rfl) ?_
            refine sq_r (ry_idxH rfl rfl j rfl (by omega)) ?_
            refine sq_r (ry_elemcH (j := 0) rfl j hx rfl (by decide)) ?_
            refine sq_r (ry_idxA1 rfl rfl (by omega) (by omega)) ?_
            refine sq_r (ry_cellc rfl) ?_
            refine sq_r (ry_move rfl) ?_
            refine sq_r (ry_int rfl rfl rfl) ?_
            refine sq_r (ry_move rfl) ?_
            refine sq_gf rfl rfl rfl (fun hg => (Ry.yl (ry_move rfl))) ?_
            refine sq_gf rfl rfl rfl (fun hg => (Ry.yl (ry_move rfl))) ?_
            refine sq_gf rfl rfl rfl (fun hg => (Ry.yl (ry_idxH (ev_c hg rfl) (ev_c hg rfl) j rfl (by simp only [Bool.and_eq_true, Bool.or_eq_true, Bool.and_eq_false_iff, Bool.or_eq_false_iff, Bool.not_eq_true', Bool.not_eq_false', decide_eq_true_eq, decide_eq_false_iff_not, Bool.not_eq_true, Bool.not_eq_false] at hg; omega)))) ?_
            refine sq_gf rfl rfl rfl (fun hg => (Ry.yl (ry_elemcH (j := 0) (ev_c hg rfl) j hx rfl (by decide)))) ?_
            refine sq_gf rfl rfl rfl (fun hg => (Ry.yl (ry_idxA1 rfl (ev_c hg rfl) (by simp only [Bool.and_eq_true, Bool.or_eq_true, Bool.and_eq_false_iff, Bool.or_eq_false_iff, Bool.not_eq_true', Bool.not_eq_false', decide_eq_true_eq, decide_eq_false_iff_not, Bool.not_eq_true, Bool.not_eq_false] at hg; omega) (by simp only [Bool.and_eq_true, Bool.or_eq_true, Bool.and_eq_false_iff, Bool.or_eq_false_iff, Bool.not_eq_true', Bool.not_eq_false', decide_eq_true_eq, decide_eq_false_iff_not, Bool.not_eq_true, Bool.not_eq_false] at hg; omega)))) ?_
            refine sq_gf rfl rfl rfl (fun hg => (Ry.yl (ry_cellc (ev_c hg rfl)))) ?_
            refine sq_gf rfl rfl rfl (fun hg => (Ry.yl (ry_move rfl))) ?_
            refine sq_gf rfl rfl rfl (fun hg => (Ry.yl (ry_move rfl))) ?_
            refine sq_gf rfl rfl rfl (fun hg => (Ry.yl (ry_add (ev_c hg rfl) (ev_c hg rfl) (by simp only [Bool.and_eq_true, Bool.or_eq_true, Bool.and_eq_false_iff, Bool.or_eq_false_iff, Bool.not_eq_true', Bool.not_eq_false', decide_eq_true_eq, decide_eq_false_iff_not, Bool.not_eq_true, Bool.not_eq_false] at hg; omega)))) ?_
            refine sq_gf rfl rfl rfl (fun hg => (Ry.yl (ry_int (ev_c hg rfl) (ev_c hg rfl) rfl))) ?_
            refine sq_r (ry_or rfl rfl rfl) ?_
            refine sq_r (ry_move rfl) ?_
            refine sq_gf rfl rfl rfl (fun hg => (Ry.yl (ry_move rfl))) ?_
            refine sq_gf rfl rfl rfl (fun hg => (Ry.yl (ry_lenH (ev_c hg rfl)))) ?_
            refine sq_gf rfl rfl rfl (fun hg => (Ry.yl (ry_int (ev_c hg rfl) rfl rfl))) ?_
            refine sq_gf rfl rfl rfl (fun hg => (Ry.yl (ry_move (ev_c hg rfl)))) ?_
            refine sq_nt rfl rfl rfl (fun hg => (Ry.yl (ry_move rfl))) ?_
            refine sq_nt rfl rfl rfl (fun hg => (Ry.yl (ry_move rfl))) ?_
            refine sq_nt rfl rfl rfl (fun hg => (Ry.yl (ry_idxH (ev_c hg rfl) (ev_c hg rfl) j rfl (by simp only [Bool.and_eq_true, Bool.or_eq_true, Bool.and_eq_false_iff, Bool.or_eq_false_iff, Bool.not_eq_true', Bool.not_eq_false', decide_eq_true_eq, decide_eq_false_iff_not, Bool.not_eq_true, Bool.not_eq_false] at hg; omega)))) ?_
            refine sq_nt rfl rfl rfl (fun hg => (Ry.yl (ry_elemcH (j := 0) (ev_c hg rfl) j hx rfl (by decide)))) ?_
            refine sq_nt rfl rfl rfl (fun hg => (Ry.yl (ry_idxA1 rfl (ev_c hg rfl) (by simp only [Bool.and_eq_true, Bool.or_eq_true, Bool.and_eq_false_iff, Bool.or_eq_false_iff, Bool.not_eq_true', Bool.not_eq_false', decide_eq_true_eq, decide_eq_false_iff_not, Bool.not_eq_true, Bool.not_eq_false] at hg; omega) (by simp only [Bool.and_eq_true, Bool.or_eq_true, Bool.and_eq_false_iff, Bool.or_eq_false_iff, Bool.not_eq_true', Bool.not_eq_false', decide_eq_true_eq, decide_eq_false_iff_not, Bool.not_eq_true, Bool.not_eq_false] at hg; omega)))) ?_
            refine sq_nt rfl rfl rfl (fun hg => (Ry.yl (ry_cellc (ev_c hg rfl)))) ?_
            refine sq_nt rfl rfl rfl (fun hg => (Ry.yl (ry_move rfl))) ?_
            refine sq_nt rfl rfl rfl (fun hg => (Ry.yl (ry_int (ev_c hg rfl) (ev_c hg rfl) rfl))) ?_
            refine sq_gf rfl rfl rfl (fun hg => (Ry.yl (ry_and (ev_c hg rfl) (ev_cc hg rfl) rfl))) ?_
            refine sq_r (ry_or rfl rfl rfl) ?_
            refine sq_nil ?_
            refine ex_then ?_
            refine cw_cond rfl (fun h7 => ?_) (fun h7 => ?_)
            · exfalso
              simp only [Bool.and_eq_true, Bool.or_eq_true, Bool.and_eq_false_iff, Bool.or_eq_false_iff, Bool.not_eq_true', Bool.not_eq_false', decide_eq_true_eq, decide_eq_false_iff_not, Bool.not_eq_true, Bool.not_eq_false] at h7
              rw [hgot] at h7
              rcases h7 with (h | h) | ⟨h, h'⟩
              · omega
              · omega
              · exact h' (congrArg (fun z : Nat => (z : Int)) (v3 (by omega)))
            · try simp only [Bool.and_eq_true, Bool.or_eq_true, Bool.and_eq_false_iff, Bool.or_eq_false_iff, Bool.not_eq_true', Bool.not_eq_false', decide_eq_true_eq, decide_eq_false_iff_not, Bool.not_eq_true, Bool.not_eq_false] at h7
              refine cw_skip ?_
              refine ex_block ?_
              refine ex_then ?_
              refine cw_region ?_
              refine sq_r (ry_move rfl) ?_
              refine sq_r (ry_add rfl rfl (by omega)) ?_
              refine sq_r (ry_assign rfl) ?_
              refine sq_nil ?_
              exact ex_again (x := (j)) (j + 1) (by first | omega | (simp only []; omega)) (by first | omega | (simp only []; omega)) (Sub.cons rfl (Sub.cons rfl (Sub.cons rfl (Sub.cons rfl (Sub.cons rfl (Sub.nil _)))))) (fun w hw => Keep.mem hw)
          · try simp only [Bool.and_eq_true, Bool.or_eq_true, Bool.and_eq_false_iff, Bool.or_eq_false_iff, Bool.not_eq_true', Bool.not_eq_false', decide_eq_true_eq, decide_eq_false_iff_not, Bool.not_eq_true, Bool.not_eq_false] at h6
            refine cw_exit ?_
            refine ex_pass_exit ?_
            refine ex_pass_exit ?_
            refine ex_block_hit ?_
            refine ex_then ?_
            refine cw_seq ?_
            refine cw_region ?_
            refine sq_r (ry_assign rfl) ?_
            refine sq_nil ?_
            refine ex_then ?_
            refine cw_ret ?_
            refine ex_ret (.inl rfl) (res_1 rfl (rv_tmp rfl)) (fun w1 hw => ?_)
            exact ⟨congrArg (fun b => Ending.returned (Value.bool b)) (rfl), Keep.mem hw⟩

end Go.Proofs.Ytajhlgdapiihgaa

