/- NodeRight: walked. -/
import Derived.Test.YtembaconocgmlaaN7m

set_option linter.unusedSimpArgs false
set_option linter.unusedVariables false
namespace Go.Proofs.Ytembaconocgmlaa
open Go.Eng Go.Kb
set_option maxRecDepth 20000 in
theorem nodeRight_c (w : World) (n : Nd) (l : Sv) (ls : List Nd) (b : Sv) (bs : List UInt8) (hl : Lies ncells 48 (hp w) l ls) (hb : Lies benc 1 (hp w) b bs) : Calls Try.prog 4 #[.agg (ncells n), l.val, b.val] w fun e w' => e = .returned (.bool true) ∧ Mem w [] w' := by
  have ghl : Gv w l ncells 48 ls := ⟨hl⟩
  have ghb : Gv w b benc 1 bs := ⟨hb⟩
  refine calls_of (args := [_, _, _]) Try.func4 rfl Try.ntmps4 rfl ?_
  change Cw _ _ _ _ _ [(0, .agg (ncells n)), (1, l.val), (2, b.val)] []
  refine cw_seq ?_
  refine cw_region ?_
  refine sq_boxA rfl fun b3 => ?_
  refine sq_r (ry_assign rfl) ?_
  refine sq_nil ?_
  refine ex_then ?_
  refine cw_seq ?_
  refine cw_seq ?_
  refine cw_region ?_
  refine sq_y (yl_callC rfl trivial) ?_
  refine sq_r (ry_not rfl) ?_
  refine sq_nil ?_
  refine ex_then ?_
  refine cw_cond rfl (fun h0 => ?_) (fun h0 => ?_)
  · exfalso; simp at h0
  · try simp only [Bool.and_eq_true, Bool.or_eq_true, Bool.and_eq_false_iff, Bool.or_eq_false_iff, Bool.not_eq_true', Bool.not_eq_false', decide_eq_true_eq, decide_eq_false_iff_not, Bool.not_eq_true, Bool.not_eq_false] at h0
    refine cw_skip ?_
    refine ex_then ?_
    refine cw_seq ?_
    refine cw_seq ?_
    refine cw_region ?_
    refine sq_r (ry_move rfl) ?_
    refine sq_r (ry_lenH rfl) ?_
    refine sq_r (ry_int rfl rfl rfl) ?_
    refine sq_r (ry_move rfl) ?_
    refine sq_gf rfl rfl rfl (fun hg => (Ry.yl (ry_move rfl))) ?_
    refine sq_gf rfl rfl rfl (fun hg => (Ry.yl (ry_lenH (ev_c hg rfl)))) ?_
    refine sq_gf rfl rfl rfl (fun hg => (Ry.yl (ry_int (ev_c hg rfl) rfl rfl))) ?_
    refine sq_r (ry_or rfl rfl rfl) ?_
    refine sq_nil ?_
    refine ex_then ?_
    refine cw_cond rfl (fun h1 => ?_) (fun h1 => ?_)
    · try simp only [Bool.and_eq_true, Bool.or_eq_true, Bool.and_eq_false_iff, Bool.or_eq_false_iff, Bool.not_eq_true', Bool.not_eq_false', decide_eq_true_eq, decide_eq_false_iff_not, Bool.not_eq_true, Bool.not_eq_false] at h1
      refine cw_seq ?_
      refine cw_region ?_
      refine sq_r (ry_assign rfl) ?_
      refine sq_nil ?_
      refine ex_then ?_
      refine cw_ret ?_
      refine ex_pass_ret ?_
      refine ex_ret (.inl rfl) (res_1 rfl (rv_tmp rfl)) (fun w1 hw => ?_)
      exact ⟨congrArg (fun b => Ending.returned (Value.bool b)) (rfl), Keep.mem hw⟩
    · try simp only [Bool.and_eq_true, Bool.or_eq_true, Bool.and_eq_false_iff, Bool.or_eq_false_iff, Bool.not_eq_true', Bool.not_eq_false', decide_eq_true_eq, decide_eq_false_iff_not, Bool.not_eq_true, Bool.not_eq_false] at h1
      refine cw_skip ?_
      refine ex_then ?_
      refine cw_seq ?_
      refine cw_region ?_
      refine sq_r (ry_whole rfl) ?_
      refine sq_callC rfl trivial fun x39 hp39 => ?_
      refine sq_r (ry_move rfl) ?_
      refine sq_r (ry_extract (v := x39.val) rfl rfl) ?_
      refine sq_r (ry_extract (v := .int .i64 (putE12 n)) rfl rfl) ?_
      refine sq_r (ry_assign rfl) ?_
      refine sq_r (ry_assign rfl) ?_
      refine sq_nil ?_
      refine ex_then ?_
      refine cw_seq ?_
      refine cw_region ?_
      refine sq_r (ry_whole rfl) ?_
      refine sq_callC rfl trivial fun x44 hp44 => ?_
      refine sq_r (ry_move rfl) ?_
      refine sq_r (ry_extract (v := x44.val) rfl rfl) ?_
      refine sq_r (ry_extract (v := .int .i64 (putE12 n)) rfl rfl) ?_
      refine sq_r (ry_assign rfl) ?_
      refine sq_r (ry_assign rfl) ?_
      refine sq_nil ?_
      refine ex_then ?_
      refine cw_seq ?_
      refine cw_region ?_
      refine sq_r (ry_move rfl) ?_
      refine sq_y (yl_callC rfl trivial) ?_
      refine sq_r (ry_move rfl) ?_
      refine sq_r (ry_extract (v := .agg (ncells (readN bs))) rfl rfl) ?_
      refine sq_r (ry_extract (v := .int .i64 (readE bs)) rfl rfl) ?_
      refine sq_allocA fun b11 => ?_
      refine sq_storeW rfl rfl ?_
      refine sq_r (ry_assign rfl) ?_
      refine sq_nil ?_
      refine ex_then ?_
      refine cw_seq ?_
      refine cw_region ?_
      refine sq_r (ry_move rfl) ?_
      refine sq_y (yl_callC rfl trivial) ?_
      refine sq_r (ry_move rfl) ?_
      refine sq_r (ry_extract (v := .agg (ncells (readN bs))) rfl rfl) ?_
      refine sq_r (ry_extract (v := .int .i64 (readE bs)) rfl rfl) ?_
      refine sq_allocA fun b13 => ?_
      refine sq_storeW rfl rfl ?_
      refine sq_r (ry_assign rfl) ?_
      refine sq_nil ?_
      refine ex_then ?_
      refine cw_seq ?_
      refine cw_seq ?_
      refine cw_quiet (by kernel_rfl) (by kernel_rfl) ?_
      refine qt_r (ry_move rfl) ?_
      refine qt_r (ry_bstrH Try.underlying30 Try.underlying5 Try.underlying9 rfl) ?_
      refine qt_r (ry_move rfl) ?_
      refine qt_r (ry_bstrH Try.underlying30 Try.underlying5 Try.underlying9 rfl) ?_
      refine qt_r (ry_strneL rfl rfl) ?_
      refine qt_r (ry_move rfl) ?_
      refine qt_gf rfl rfl rfl (fun hg => (Ry.yl (ry_move rfl))) ?_
      refine qt_gf rfl rfl rfl (fun hg => (Ry.yl (ry_move rfl))) ?_
      refine qt_gf rfl rfl rfl (fun hg => (Ry.yl (ry_int (ev_c hg rfl) (ev_c hg rfl) rfl))) ?_
      refine qt_r (ry_or rfl rfl rfl) ?_
      refine qt_r (ry_move rfl) ?_
      refine qt_gf rfl rfl rfl (fun hg => (Ry.yl (ry_whole rfl))) ?_
      refine qt_gf rfl rfl rfl (fun hg => (Ry.yl (ry_whole rfl))) ?_
      refine qt_gf rfl rfl rfl (fun hg => (Ry.yl (ry_ne (ev_c hg rfl) (ev_c hg rfl)))) ?_
      refine qt_r (ry_or rfl rfl rfl) ?_
      refine qt_r (ry_move rfl) ?_
      refine qt_gf rfl rfl rfl (fun hg => (Ry.yl (ry_move rfl))) ?_
      refine qt_gf rfl rfl rfl (fun hg => (Ry.yl (ry_move rfl))) ?_
      refine qt_gf rfl rfl rfl (fun hg => (Ry.yl (ry_int (ev_c hg rfl) (ev_c hg rfl) rfl))) ?_
      refine qt_r (ry_or rfl rfl rfl) ?_
      refine qt_r (ry_move rfl) ?_
      refine qt_gf rfl rfl rfl (fun hg => (Ry.yl (ry_whole rfl))) ?_
      refine qt_gf rfl rfl rfl (fun hg => yl_callC (evl_cons (ev_c hg rfl) evl_nil) trivial) ?_
      refine qt_gf rfl rfl rfl (fun hg => (Ry.yl (ry_whole rfl))) ?_
      refine qt_gf rfl rfl rfl (fun hg => yl_callC (evl_cons (ev_c hg rfl) evl_nil) trivial) ?_
      refine qt_gf rfl rfl rfl (fun hg => (Ry.yl (ry_neb (ev_c hg rfl) (ev_c hg rfl) Try.underlying4))) ?_
      refine qt_r (ry_or rfl rfl rfl) ?_
      refine qt_nil ?_
      refine ex_then ?_
      refine cw_cond rfl (fun h2 => ?_) (fun h2 => ?_)
      · exfalso; simp at h2
      · try simp only [Bool.and_eq_true, Bool.or_eq_true, Bool.and_eq_false_iff, Bool.or_eq_false_iff, Bool.not_eq_true', Bool.not_eq_false', decide_eq_true_eq, decide_eq_false_iff_not, Bool.not_eq_true, Bool.not_eq_false] at h2
        refine cw_skip ?_
        refine ex_then ?_
        refine cw_seq ?_
        refine cw_region ?_
        refine sq_r (ry_assign rfl) ?_
        refine sq_nil ?_
        refine ex_then ?_
        refine cw_seq ?_
        refine cw_region ?_
        refine sq_r (ry_assign rfl) ?_
        refine sq_nil ?_
        refine ex_then ?_
        refine cw_seq ?_
        refine cw_seq ?_
        refine cw_region ?_
        refine sq_r (ry_assign rfl) ?_
        refine sq_nil ?_
        refine ex_then ?_
        refine cw_block ?_
        refine cw_loop (X := Nat × Sv) (fun zz => [(17, .int .i64 (zz.1 : Nat)), (16, .int .i64 (badV (ls.take zz.1))), (15, zz.2.val), (1, l.val), (2, b.val)]) (fun zz => [own benc 1 zz.2 (catB (ls.take zz.1)), blk b13 (ncells (readN bs)) 28, blk b11 (ncells (readN bs)) 28, own benc 1 x44 (putB n), own benc 1 x39 (putB n), blk b3 (ncells n) 28]) (fun zz => zz.1 ≤ ls.length) (fun zz => ls.length - zz.1) (0, Sv.none) (Nat.zero_le _) (Sub.cons rfl (Sub.cons rfl (Sub.cons rfl (Sub.cons rfl (Sub.cons rfl (Sub.nil _)))))) (fun w hw => (Keep.mem hw : Mem _ [blk b13 (ncells (readN bs)) 28, blk b11 (ncells (readN bs)) 28, own benc 1 x44 (putB n), own benc 1 x39 (putB n), blk b3 (ncells n) 28] _).nilOwn benc 1) ?_
        rintro ⟨i, s1⟩ hi
        dsimp only
        simp only at hi
        have hcl := catB_len (ls.take i)
        have htl := List.length_take (l := ls) (i := i)
        refine cw_seq ?_
        refine cw_seq ?_
        refine cw_region ?_
        refine sq_r (ry_move rfl) ?_
        refine sq_r (ry_move rfl) ?_
        refine sq_r (ry_lenH rfl) ?_
        refine sq_r (ry_int rfl rfl rfl) ?_
        refine sq_nil ?_
        refine ex_then ?_
        refine cw_cond rfl (fun h3 => ?_) (fun h3 => ?_)
        · try simp only [Bool.and_eq_true, Bool.or_eq_true, Bool.and_eq_false_iff, Bool.or_eq_false_iff, Bool.not_eq_true', Bool.not_eq_false', decide_eq_true_eq, decide_eq_false_iff_not, Bool.not_eq_true, Bool.not_eq_false] at h3
          refine cw_skip ?_
          refine ex_then ?_
          refine cw_seq ?_
          refine cw_block ?_
          refine cw_seq ?_
          refine cw_region ?_
          refine sq_r (ry_move rfl) ?_
          refine sq_r (ry_move rfl) ?_
          obtain ⟨e93, he93⟩ := get_some (xs := ls) (i := i) (by omega)
          refine sq_r (ry_idxH rfl rfl i rfl (by omega)) ?_
          refine sq_r (ry_elemH rfl i he93 rfl) ?_
          refine sq_callC rfl trivial fun x95 hp95 => ?_
          refine sq_r (ry_move rfl) ?_
          refine sq_r (ry_extract (v := x95.val) rfl rfl) ?_
          refine sq_r (ry_extract (v := .int .i64 (putE12 e93)) rfl rfl) ?_
          refine sq_r (ry_assign rfl) ?_
          refine sq_r (ry_assign rfl) ?_
          refine sq_nil ?_
          refine ex_then ?_
          refine cw_seq ?_
          refine cw_region ?_
          refine sq_r (ry_move rfl) ?_
          refine sq_r (ry_move rfl) ?_
          refine sq_r (ry_max rfl rfl) ?_
          refine sq_r (ry_assign rfl) ?_
          refine sq_nil ?_
          refine ex_then ?_
          refine cw_region ?_
          refine sq_r (ry_move rfl) ?_
          refine sq_r (ry_move rfl) ?_
          refine sq_append (s := s1) (ys := (putB e93)) rfl rfl (by decide) (fun w hw => src_rows (s := x95) Try.underlying30 (by decide) ((inferInstance : Hd _ _ x95 benc 1 (putB e93)).h w hw)) (by have : (putB e93).length ≤ 80 := (by unfold putB; split; (rw [nbytes_length]; exact Nat.le_refl _); (exact Nat.zero_le _)); omega) (by have : (putB e93).length ≤ 80 := (by unfold putB; split; (rw [nbytes_length]; exact Nat.le_refl _); (exact Nat.zero_le _)); omega) fun s103 hs103 hl103 => ?_
          refine sq_r (ry_assign rfl) ?_
          refine sq_nil ?_
          refine ex_block ?_
          refine ex_then ?_
          refine cw_region ?_
          refine sq_r (ry_move rfl) ?_
          refine sq_r (ry_add rfl rfl (by omega)) ?_
          refine sq_r (ry_assign rfl) ?_
          refine sq_nil ?_
          exact ex_again (x := (i, s1)) (i + 1, s103) (by simp only; omega) (by simp only; omega) (Sub.cons rfl (Sub.cons (look_eq rfl (by rw [badV_snoc he93])) (Sub.cons rfl (Sub.cons rfl (Sub.cons rfl (Sub.nil _)))))) (fun w hw => by rw [catB_snoc he93]; exact Keep.mem hw)
        · try simp only [Bool.and_eq_true, Bool.or_eq_true, Bool.and_eq_false_iff, Bool.or_eq_false_iff, Bool.not_eq_true', Bool.not_eq_false', decide_eq_true_eq, decide_eq_false_iff_not, Bool.not_eq_true, Bool.not_eq_false] at h3
          obtain rfl : i = ls.length := by omega
          refine cw_exit ?_
          refine ex_pass_exit ?_
          refine ex_pass_exit ?_
          refine ex_block_hit ?_
          refine ex_then ?_
          refine cw_seq ?_
          refine cw_region ?_
          refine sq_r (ry_move rfl) ?_
          refine sq_callC rfl trivial fun x106 hp106 => ?_
          refine sq_r (ry_move rfl) ?_
          refine sq_r (ry_extract (v := x106.val) rfl rfl) ?_
          refine sq_r (ry_extract (v := .int .i64 (allE ls)) rfl rfl) ?_
          refine sq_r (ry_assign rfl) ?_
          refine sq_r (ry_assign rfl) ?_
          refine sq_nil ?_
          refine ex_then ?_
          refine cw_seq ?_
          refine cw_seq ?_
          refine cw_region ?_
          refine sq_r (ry_move rfl) ?_
          refine sq_r (ry_int rfl rfl rfl) ?_
          refine sq_r (ry_move rfl) ?_
          refine sq_gt rfl rfl rfl (fun hg => (Ry.yl (ry_move rfl))) ?_
          refine sq_gt rfl rfl rfl (fun hg => (Ry.yl (ry_int (ev_c hg rfl) rfl rfl))) ?_
          refine sq_gt rfl rfl rfl (fun hg => (Ry.yl (ry_move (ev_c hg rfl)))) ?_
          refine sq_nf rfl rfl rfl (fun hg => (Ry.yl (ry_move rfl))) ?_
          refine sq_nf rfl rfl rfl (fun hg => (Ry.yl (ry_bstrH Try.underlying30 Try.underlying5 Try.underlying9 (ev_c hg rfl)))) ?_
          refine sq_nf rfl rfl rfl (fun hg => (Ry.yl (ry_move rfl))) ?_
          refine sq_nf rfl rfl rfl (fun hg => (Ry.yl (ry_bstrH Try.underlying30 Try.underlying5 Try.underlying9 (ev_c hg rfl)))) ?_
          refine sq_nf rfl rfl rfl (fun hg => (Ry.yl (ry_strneL (ev_c hg rfl) (ev_c hg rfl)))) ?_
          refine sq_gt rfl rfl rfl (fun hg => (Ry.yl (ry_or (ev_c hg rfl) rfl (ev_cc hg rfl)))) ?_
          refine sq_r (ry_and rfl rfl rfl) ?_
          refine sq_r (ry_move rfl) ?_
          refine sq_gf rfl rfl rfl (fun hg => (Ry.yl (ry_move rfl))) ?_
          refine sq_gf rfl rfl rfl (fun hg => (Ry.yl (ry_int (ev_c hg rfl) rfl rfl))) ?_
          refine sq_gf rfl rfl rfl (fun hg => (Ry.yl (ry_move (ev_c hg rfl)))) ?_
          refine sq_nt rfl rfl rfl (fun hg => (Ry.yl (ry_move rfl))) ?_
          refine sq_nt rfl rfl rfl (fun hg => (Ry.yl (ry_int (ev_c hg rfl) rfl rfl))) ?_
          refine sq_nt rfl rfl rfl (fun hg => (Ry.yl (ry_move (ev_c hg rfl)))) ?_
          refine sq_nf rfl rfl rfl (fun hg => (Ry.yl (ry_move rfl))) ?_
          refine sq_nf rfl rfl rfl (fun hg => (Ry.yl (ry_lenH (ev_c hg rfl)))) ?_
          refine sq_nf rfl rfl rfl (fun hg => (Ry.yl (ry_int (ev_c hg rfl) rfl rfl))) ?_
          refine sq_nt rfl rfl rfl (fun hg => (Ry.yl (ry_or (ev_c hg rfl) rfl (ev_cc hg rfl)))) ?_
          refine sq_gf rfl rfl rfl (fun hg => (Ry.yl (ry_and (ev_c hg rfl) (ev_cc hg rfl) rfl))) ?_
          refine sq_r (ry_or rfl rfl rfl) ?_
          refine sq_nil ?_
          refine ex_then ?_
          refine cw_cond rfl (fun h4 => ?_) (fun h4 => ?_)
          · exfalso; rw [List.take_length] at h4; rcases all_told (l := ls) (by omega) with ⟨g1, g2, g3⟩ | ⟨g1, g2, g3⟩ <;> simp [g1, g2, g3] at h4
          · try simp only [Bool.and_eq_true, Bool.or_eq_true, Bool.and_eq_false_iff, Bool.or_eq_false_iff, Bool.not_eq_true', Bool.not_eq_false', decide_eq_true_eq, decide_eq_false_iff_not, Bool.not_eq_true, Bool.not_eq_false] at h4
            refine cw_skip ?_
            refine ex_then ?_
            refine cw_seq ?_
            refine cw_region ?_
            refine sq_r (ry_move rfl) ?_
            refine sq_callC rfl trivial fun x137 hp137 => ?_
            refine sq_r (ry_move rfl) ?_
            refine sq_r (ry_extract (v := x137.val) rfl rfl) ?_
            refine sq_r (ry_extract (v := .int .i64 (rallE bs)) rfl rfl) ?_
            refine sq_r (ry_assign rfl) ?_
            refine sq_r (ry_assign rfl) ?_
            refine sq_nil ?_
            refine ex_then ?_
            refine cw_seq ?_
            refine cw_seq ?_
            refine cw_region ?_
            refine sq_r (ry_move rfl) ?_
            refine sq_r (ry_lenH rfl) ?_
            refine sq_r (ry_remn (p := bs.length) (q := 80) rfl rfl rfl rfl (by omega)) ?_
            refine sq_r (ry_int rfl rfl rfl) ?_
            refine sq_nil ?_
            refine ex_then ?_
            refine cw_cond rfl (fun h5 => ?_) (fun h5 => ?_)
            · try simp only [Bool.and_eq_true, Bool.or_eq_true, Bool.and_eq_false_iff, Bool.or_eq_false_iff, Bool.not_eq_true', Bool.not_eq_false', decide_eq_true_eq, decide_eq_false_iff_not, Bool.not_eq_true, Bool.not_eq_false] at h5
              obtain ⟨hr1, hr2⟩ := rall_bad (xs := bs) (by omega)
              refine cw_seq ?_
              refine cw_region ?_
              refine sq_r (ry_move rfl) ?_
              refine sq_r (ry_int rfl rfl rfl) ?_
              refine sq_r (ry_move rfl) ?_
              refine sq_gt rfl rfl rfl (fun hg => (Ry.yl (ry_move rfl))) ?_
              refine sq_gt rfl rfl rfl (fun hg => (Ry.yl (ry_lenH (ev_c hg rfl)))) ?_
              refine sq_gt rfl rfl rfl (fun hg => (Ry.yl (ry_int (ev_c hg rfl) rfl rfl))) ?_
              refine sq_r (ry_and rfl rfl rfl) ?_
              refine sq_r (ry_assign rfl) ?_
              refine sq_nil ?_
              refine ex_then ?_
              refine cw_ret ?_
              refine ex_pass_ret ?_
              refine ex_ret (.inl rfl) (res_1 rfl (rv_tmp rfl)) (fun w1 hw => ?_)
              exact ⟨congrArg (fun b => Ending.returned (Value.bool b)) ((by simp [hr1, hr2])), Keep.mem hw⟩
            · try simp only [Bool.and_eq_true, Bool.or_eq_true, Bool.and_eq_false_iff, Bool.or_eq_false_iff, Bool.not_eq_true', Bool.not_eq_false', decide_eq_true_eq, decide_eq_false_iff_not, Bool.not_eq_true, Bool.not_eq_false] at h5
              have hg : ¬ (bs.length % 80 ≠ 0 ∨ 40960 < bs.length) := by omega
              refine cw_skip ?_
              refine ex_then ?_
              refine cw_seq ?_
              refine cw_seq ?_
              refine cw_region ?_
              refine sq_r (ry_assign rfl) ?_
              refine sq_nil ?_
              refine ex_then ?_
              refine cw_block ?_
              refine cw_loop (X := Nat) (fun zz => [(24, .int .i64 (zz : Nat)), (2, b.val), (22, x137.val), (23, .int .i64 (rallE bs))]) (fun zz => [own ncells 48 x137 (rallN bs)]) (fun zz => zz ≤ bs.length / 80 ∧ okParts bs zz = true) (fun zz => bs.length / 80 - zz) 0 ⟨Nat.zero_le _, rfl⟩ (Sub.cons rfl (Sub.cons rfl (Sub.cons rfl (Sub.cons rfl (Sub.nil _))))) (fun w hw => Keep.mem hw) ?_
              rintro k ⟨hk1, hk2⟩
              refine cw_seq ?_
              refine cw_seq ?_
              refine cw_region ?_
              refine sq_r (ry_move rfl) ?_
              refine sq_r (ry_move rfl) ?_
              refine sq_r (ry_lenH rfl) ?_
              refine sq_r (ry_quo rfl rfl (by omega) (by omega)) ?_
              refine sq_r (ry_int rfl rfl rfl) ?_
              refine sq_nil ?_
              refine ex_then ?_
              refine cw_cond rfl (fun h6 => ?_) (fun h6 => ?_)
              · try simp only [Bool.and_eq_true, Bool.or_eq_true, Bool.and_eq_false_iff, Bool.or_eq_false_iff, Bool.not_eq_true', Bool.not_eq_false', decide_eq_true_eq, decide_eq_false_iff_not, Bool.not_eq_true, Bool.not_eq_false] at h6
                have hkk : k < bs.length / 80 := by omega
                refine cw_skip ?_
                refine ex_then ?_
                refine cw_seq ?_
                refine cw_block ?_
                refine cw_seq ?_
                refine cw_region ?_
                refine sq_r (ry_move rfl) ?_
                refine sq_r (ry_move rfl) ?_
                refine sq_r (ry_mul rfl rfl (by omega)) ?_
                refine sq_r (ry_move rfl) ?_
                refine sq_r (ry_mul rfl rfl (by omega)) ?_
                refine sq_r (ry_add rfl rfl (by omega)) ?_
                have rg165 : Rg (80 * k) ((80 * k) + 80) bs.length := ⟨(by omega)⟩
                refine sq_r (ry_subH rfl rfl rfl (80 * k) ((80 * k) + 80) rfl rfl rg165.h.1 rg165.h.2) ?_
                refine sq_y (yl_callC rfl trivial) ?_
                refine sq_r (ry_move rfl) ?_
                refine sq_r (ry_extract (v := .agg (ncells (readN ((bs.drop (80 * k)).take (((80 * k) + 80) - (80 * k)))))) rfl rfl) ?_
                refine sq_r (ry_extract (v := .int .i64 (readE ((bs.drop (80 * k)).take (((80 * k) + 80) - (80 * k))))) rfl rfl) ?_
                refine sq_allocA fun b25 => ?_
                refine sq_storeW rfl rfl ?_
                refine sq_r (ry_assign rfl) ?_
                refine sq_nil ?_
                refine ex_then ?_
                refine cw_seq ?_
                refine cw_seq ?_
                refine cw_region ?_
                refine sq_r (ry_move rfl) ?_
                refine sq_r (ry_int rfl rfl rfl) ?_
                refine sq_nil ?_
                refine ex_then ?_
                refine cw_cond rfl (fun h7 => ?_) (fun h7 => ?_)
                · try simp only [Bool.and_eq_true, Bool.or_eq_true, Bool.and_eq_false_iff, Bool.or_eq_false_iff, Bool.not_eq_true', Bool.not_eq_false', decide_eq_true_eq, decide_eq_false_iff_not, Bool.not_eq_true, Bool.not_eq_false] at h7
                  obtain ⟨q1, q2, q3⟩ | ⟨q1, q2, q3⟩ := readE_80 (part80_length hkk); (exact absurd q1 (by rw [part80_eq2] at h7; exact h7))
                  obtain ⟨hr1, hr2⟩ := rall_no hg (okParts_no hkk q3)
                  refine cw_seq ?_
                  refine cw_region ?_
                  refine sq_r (ry_move rfl) ?_
                  refine sq_r (ry_int rfl rfl rfl) ?_
                  refine sq_r (ry_move rfl) ?_
                  refine sq_gt rfl rfl rfl (fun hg => (Ry.yl (ry_move rfl))) ?_
                  refine sq_gt rfl rfl rfl (fun hg => (Ry.yl (ry_lenH (ev_c hg rfl)))) ?_
                  refine sq_gt rfl rfl rfl (fun hg => (Ry.yl (ry_int (ev_c hg rfl) rfl rfl))) ?_
                  refine sq_r (ry_and rfl rfl rfl) ?_
                  refine sq_r (ry_assign rfl) ?_
                  refine sq_nil ?_
                  refine ex_then ?_
                  refine cw_ret ?_
                  refine ex_pass_ret ?_
                  refine ex_block_ret ?_
                  refine ex_pass_ret ?_
                  refine ex_pass_ret ?_
                  refine ex_block_ret ?_
                  refine ex_pass_ret ?_
                  refine ex_ret (.inl rfl) (res_1 rfl (rv_tmp rfl)) (fun w1 hw => ?_)
                  exact ⟨congrArg (fun b => Ending.returned (Value.bool b)) ((by simp [hr1, hr2])), Keep.mem hw⟩
                · try simp only [Bool.and_eq_true, Bool.or_eq_true, Bool.and_eq_false_iff, Bool.or_eq_false_iff, Bool.not_eq_true', Bool.not_eq_false', decide_eq_true_eq, decide_eq_false_iff_not, Bool.not_eq_true, Bool.not_eq_false] at h7
                  obtain ⟨q1, q2, q3⟩ | ⟨q1, q2, q3⟩ := readE_80 (part80_length hkk); rotate_left; (exact absurd (by rw [part80_eq2] at h7; exact h7) (by rw [q1]; decide))
                  refine cw_skip ?_
                  refine ex_then ?_
                  refine cw_seq ?_
                  refine cw_quiet (by kernel_rfl) (by kernel_rfl) ?_
                  refine qt_r (ry_move rfl) ?_
                  refine qt_r (ry_int rfl rfl rfl) ?_
                  refine qt_r (ry_move rfl) ?_
                  refine qt_gt rfl rfl rfl (fun hg => (Ry.yl (ry_move rfl))) ?_
                  refine qt_gt rfl rfl rfl (fun hg => (Ry.yl (ry_move rfl))) ?_
                  refine qt_gt rfl rfl rfl (fun hg => (Ry.yl (ry_lenH (ev_c hg rfl)))) ?_
                  refine qt_gt rfl rfl rfl (fun hg => (Ry.yl (ry_int (ev_c hg rfl) (ev_c hg rfl) rfl))) ?_
                  refine qt_gt rfl rfl rfl (fun hg => (Ry.yl (ry_move (ev_c hg rfl)))) ?_
                  refine qt_nf rfl rfl rfl (fun hg => (Ry.yl (ry_move rfl))) ?_
                  refine qt_nf rfl rfl rfl (fun hg => (Ry.yl (ry_move rfl))) ?_
                  refine qt_nf rfl rfl rfl (fun hg => (Ry.yl (ry_idxH (ev_c hg rfl) (ev_c hg rfl) k rfl (by simp only [Bool.and_eq_true, Bool.or_eq_true, Bool.and_eq_false_iff, Bool.or_eq_false_iff, Bool.not_eq_true', Bool.not_eq_false', decide_eq_true_eq, decide_eq_false_iff_not, Bool.not_eq_true, Bool.not_eq_false] at hg; omega)))) ?_
                  refine qt_nf rfl rfl rfl (fun hg => (Ry.yl (ry_elemH (ev_c hg rfl) k (get_getD (xs := rallN bs) (i := k) (d := Nd.zero) (by simp only [Bool.and_eq_true, Bool.or_eq_true, Bool.and_eq_false_iff, Bool.or_eq_false_iff, Bool.not_eq_true', Bool.not_eq_false', decide_eq_true_eq, decide_eq_false_iff_not, Bool.not_eq_true, Bool.not_eq_false] at hg; omega)) rfl))) ?_
                  refine qt_nf rfl rfl rfl (fun hg => (Ry.yl (ry_whole rfl))) ?_
                  refine qt_nf rfl rfl rfl (fun hg => (Ry.yl (ry_ne (ev_c hg rfl) (ev_c hg rfl)))) ?_
                  refine qt_gt rfl rfl rfl (fun hg => (Ry.yl (ry_or (ev_c hg rfl) rfl (ev_cc hg rfl)))) ?_
                  refine qt_r (ry_and rfl rfl rfl) ?_
                  refine qt_nil ?_
                  refine ex_then ?_
                  refine cw_cond rfl (fun h8 => ?_) (fun h8 => ?_)
                  · exfalso; have hall : okParts bs (bs.length / 80) = true ∨ okParts bs (bs.length / 80) = false := by cases okParts bs (bs.length / 80) <;> simp
                    rcases hall with ha | ha
                    · obtain ⟨hr1, hr2⟩ := rall_ok hg ha
                      have hrl := readAll_length bs (bs.length / 80)
                      have hget : (readAllL bs (bs.length / 80)).getD k Nd.zero = nget (part80 bs k) := by simp [readAllL, List.getD, hkk]
                      rw [part80_eq2] at h8
                      simp only [hr1, hr2, hrl, hget, q2] at h8
                      simp at h8; omega
                    · obtain ⟨hr1, hr2⟩ := rall_no hg ha
                      simp [hr1] at h8
                  · try simp only [Bool.and_eq_true, Bool.or_eq_true, Bool.and_eq_false_iff, Bool.or_eq_false_iff, Bool.not_eq_true', Bool.not_eq_false', decide_eq_true_eq, decide_eq_false_iff_not, Bool.not_eq_true, Bool.not_eq_false] at h8
                    refine cw_skip ?_
                    refine ex_block ?_
                    refine ex_then ?_
                    refine cw_region ?_
                    refine sq_r (ry_move rfl) ?_
                    refine sq_r (ry_add rfl rfl (by omega)) ?_
                    refine sq_r (ry_assign rfl) ?_
                    refine sq_nil ?_
                    exact ex_again (x := (k)) (k + 1) ⟨by first | omega | (simp only []; omega), by rw [okParts_succ, hk2, q3]; rfl⟩ (by first | omega | (simp only []; omega)) (Sub.cons rfl (Sub.cons rfl (Sub.cons rfl (Sub.cons rfl (Sub.nil _))))) (fun w hw => Keep.mem hw)
              · try simp only [Bool.and_eq_true, Bool.or_eq_true, Bool.and_eq_false_iff, Bool.or_eq_false_iff, Bool.not_eq_true', Bool.not_eq_false', decide_eq_true_eq, decide_eq_false_iff_not, Bool.not_eq_true, Bool.not_eq_false] at h6
                obtain rfl : k = bs.length / 80 := by omega
                refine cw_exit ?_
                refine ex_pass_exit ?_
                refine ex_pass_exit ?_
                refine ex_block_hit ?_
                refine ex_then ?_
                refine cw_seq ?_
                refine cw_region ?_
                refine sq_r (ry_move rfl) ?_
                refine sq_r (ry_int rfl rfl rfl) ?_
                refine sq_r (ry_move rfl) ?_
                refine sq_gt rfl rfl rfl (fun hg => (Ry.yl (ry_move rfl))) ?_
                refine sq_gt rfl rfl rfl (fun hg => (Ry.yl (ry_lenH (ev_c hg rfl)))) ?_
                refine sq_gt rfl rfl rfl (fun hg => (Ry.yl (ry_move rfl))) ?_
                refine sq_gt rfl rfl rfl (fun hg => (Ry.yl (ry_lenH (ev_c hg rfl)))) ?_
                refine sq_gt rfl rfl rfl (fun hg => (Ry.yl (ry_quo (ev_c hg rfl) rfl (by simp only [Bool.and_eq_true, Bool.or_eq_true, Bool.and_eq_false_iff, Bool.or_eq_false_iff, Bool.not_eq_true', Bool.not_eq_false', decide_eq_true_eq, decide_eq_false_iff_not, Bool.not_eq_true, Bool.not_eq_false] at hg; omega) (by simp only [Bool.and_eq_true, Bool.or_eq_true, Bool.and_eq_false_iff, Bool.or_eq_false_iff, Bool.not_eq_true', Bool.not_eq_false', decide_eq_true_eq, decide_eq_false_iff_not, Bool.not_eq_true, Bool.not_eq_false] at hg; omega)))) ?_
                refine sq_gt rfl rfl rfl (fun hg => (Ry.yl (ry_int (ev_c hg rfl) (ev_c hg rfl) rfl))) ?_
                refine sq_r (ry_and rfl rfl rfl) ?_
                refine sq_r (ry_assign rfl) ?_
                refine sq_nil ?_
                refine ex_then ?_
                refine cw_ret ?_
                refine ex_ret (.inl rfl) (res_1 rfl (rv_tmp rfl)) (fun w1 hw => ?_)
                exact ⟨congrArg (fun b => Ending.returned (Value.bool b)) ((by obtain ⟨hr1, hr2⟩ := rall_ok hg hk2; simp [hr1, hr2, readAll_length])), Keep.mem hw⟩

end Go.Proofs.Ytembaconocgmlaa

