/- May a node be: walked. -/
import Derived.Test.YtembaconocgmlaaMf
import Derived.Test.YtembaconocgmlaaMc

set_option linter.unusedSimpArgs false
set_option linter.unusedVariables false
namespace Go.Proofs.Ytembaconocgmlaa
open Go.Eng Go.Kb
instance : ZeroT Try.prog 5 (.int .u8 0) := ⟨by kernel_rfl⟩
instance : ZeroT Try.prog 31 (.int .i64 0) := ⟨by kernel_rfl⟩
set_option maxRecDepth 20000 in
theorem ndmay_c (w : World) (n : Nd)  : Calls Try.prog 20 #[.agg (ncells n)] w fun e w' => e = .returned (.bool (nmay n)) ∧ Mem w [] w' := by
  refine calls_of (args := [_]) Try.func20 rfl Try.ntmps20 rfl ?_
  change Cw _ _ _ _ _ [(0, .agg (ncells n))] []
  refine cw_seq ?_
  refine cw_region ?_
  refine sq_boxA rfl fun b1 => ?_
  refine sq_r (ry_assign rfl) ?_
  refine sq_nil ?_
  refine ex_then ?_
  refine cw_seq ?_
  refine cw_seq ?_
  refine cw_region ?_
  refine sq_r (ry_field (o' := 0) rfl rfl) ?_
  refine sq_r (ry_part rfl) ?_
  refine sq_r (ry_move rfl) ?_
  refine sq_nil ?_
  refine ex_then ?_
  refine cw_block ?_
  refine cw_loop (X := Nat) (fun zz => [(9, .int .i64 (zz : Nat)), (1, .pointer (some ⟨b1, 0, none⟩)), (8, .agg (nslots n))]) (fun zz => [blk b1 (ncells n) 28]) (fun zz => zz ≤ 16 ∧ (∀ b, b < zz → 0 ≤ (n.sl b).len ∧ (n.sl b).len ≤ 129 ∧ ((n.sl b).len = 0 → (n.sl b).hop = 0))) (fun zz => 16 - zz) 0 ⟨by first | omega | (simp only []; omega), fun b hb => by first | omega | (simp only []; omega)⟩ (Sub.cons rfl (Sub.cons rfl (Sub.cons rfl (Sub.nil _)))) (fun w hw => Keep.mem hw) ?_
  rintro i ⟨hi1, hi2⟩
  refine cw_seq ?_
  refine cw_region ?_
  refine sq_r (ry_int rfl rfl rfl) ?_
  refine sq_nil ?_
  refine ex_then ?_
  refine cw_seq ?_
  refine cw_cond rfl (fun h0 => ?_) (fun h0 => ?_)
  · try simp only [Bool.and_eq_true, Bool.or_eq_true, Bool.and_eq_false_iff, Bool.or_eq_false_iff, Bool.not_eq_true', Bool.not_eq_false', decide_eq_true_eq, decide_eq_false_iff_not, Bool.not_eq_true, Bool.not_eq_false] at h0
    refine cw_skip ?_
    refine ex_then ?_
    refine cw_seq ?_
    refine cw_block ?_
    refine cw_seq ?_
    refine cw_region ?_
    refine sq_r (ry_ixSlot Try.underlying25 rfl rfl i rfl (by omega)) ?_
    refine sq_allocA fun b4 => ?_
    refine sq_storeW rfl rfl ?_
    refine sq_nil ?_
    refine ex_then ?_
    refine cw_seq ?_
    refine cw_region ?_
    refine sq_r (ry_field (o' := 0) rfl rfl) ?_
    refine sq_r (ry_cellc rfl) ?_
    refine sq_r (ry_int rfl rfl rfl) ?_
    refine sq_r (ry_move rfl) ?_
    refine sq_gf rfl rfl rfl (fun hg => (Ry.yl (ry_field (o' := 0) rfl rfl))) ?_
    refine sq_gf rfl rfl rfl (fun hg => (Ry.yl (ry_cellc (ev_c hg rfl)))) ?_
    refine sq_gf rfl rfl rfl (fun hg => (Ry.yl (ry_int (ev_c hg rfl) rfl rfl))) ?_
    refine sq_r (ry_or rfl rfl rfl) ?_
    refine sq_r (ry_move rfl) ?_
    refine sq_gf rfl rfl rfl (fun hg => (Ry.yl (ry_field (o' := 0) rfl rfl))) ?_
    refine sq_gf rfl rfl rfl (fun hg => (Ry.yl (ry_cellc (ev_c hg rfl)))) ?_
    refine sq_gf rfl rfl rfl (fun hg => (Ry.yl (ry_int (ev_c hg rfl) rfl rfl))) ?_
    refine sq_gf rfl rfl rfl (fun hg => (Ry.yl (ry_move (ev_c hg rfl)))) ?_
    refine sq_nt rfl rfl rfl (fun hg => (Ry.yl (ry_field (o' := 1) rfl rfl))) ?_
    refine sq_nt rfl rfl rfl (fun hg => (Ry.yl (ry_cellc (ev_c hg rfl)))) ?_
    refine sq_nt rfl rfl rfl (fun hg => (Ry.yl (ry_int (ev_c hg rfl) rfl rfl))) ?_
    refine sq_gf rfl rfl rfl (fun hg => (Ry.yl (ry_and (ev_c hg rfl) (ev_cc hg rfl) rfl))) ?_
    refine sq_r (ry_or rfl rfl rfl) ?_
    refine sq_nil ?_
    refine ex_then ?_
    refine cw_cond rfl (fun h1 => ?_) (fun h1 => ?_)
    · try simp only [Bool.and_eq_true, Bool.or_eq_true, Bool.and_eq_false_iff, Bool.or_eq_false_iff, Bool.not_eq_true', Bool.not_eq_false', decide_eq_true_eq, decide_eq_false_iff_not, Bool.not_eq_true, Bool.not_eq_false] at h1
      refine cw_seq ?_
      refine cw_region ?_
      refine sq_r (ry_assign rfl) ?_
      refine sq_nil ?_
      refine ex_then ?_
      refine cw_ret ?_
      refine ex_block_ret ?_
      refine ex_pass_ret ?_
      refine ex_pass_ret ?_
      refine ex_block_ret ?_
      refine ex_pass_ret ?_
      refine ex_ret (.inl rfl) (res_1 rfl (rv_tmp rfl)) (fun w1 hw => ?_)
      exact ⟨congrArg (fun b => Ending.returned (Value.bool b)) ((nmay_no (show i < 16 by omega) (by rintro ⟨g1, g2, g3, -⟩; rcases h1 with h | ⟨h2, h3⟩; omega; exact h3 (by rw [g3 h2]; rfl))).symm), Keep.mem hw⟩
    · try simp only [Bool.and_eq_true, Bool.or_eq_true, Bool.and_eq_false_iff, Bool.or_eq_false_iff, Bool.not_eq_true', Bool.not_eq_false', decide_eq_true_eq, decide_eq_false_iff_not, Bool.not_eq_true, Bool.not_eq_false] at h1
      refine cw_skip ?_
      refine ex_block ?_
      refine ex_then ?_
      refine cw_region ?_
      refine sq_r (ry_add rfl rfl (by omega)) ?_
      refine sq_r (ry_move rfl) ?_
      refine sq_nil ?_
      exact ex_again (x := (i)) (i + 1) ⟨by first | omega | (simp only []; omega), fun b hb => if e : b = i then (by subst e; exact ⟨by first | omega | (simp only []; omega), by first | omega | (simp only []; omega), fun h3 => hop_zero (by first | omega | (simp only []; omega))⟩) else hi2 b (by first | omega | (simp only []; omega))⟩ (by first | omega | (simp only []; omega)) (Sub.cons rfl (Sub.cons rfl (Sub.cons rfl (Sub.nil _)))) (fun w hw => Keep.mem hw)
  · try simp only [Bool.and_eq_true, Bool.or_eq_true, Bool.and_eq_false_iff, Bool.or_eq_false_iff, Bool.not_eq_true', Bool.not_eq_false', decide_eq_true_eq, decide_eq_false_iff_not, Bool.not_eq_true, Bool.not_eq_false] at h0
    refine cw_exit ?_
    refine ex_pass_exit ?_
    refine ex_pass_exit ?_
    refine ex_block_hit ?_
    refine ex_then ?_
    refine cw_seq ?_
    refine cw_seq ?_
    refine cw_region ?_
    refine sq_r (ry_field (o' := 32) rfl rfl) ?_
    refine sq_r (ry_part rfl) ?_
    refine sq_r (ry_move rfl) ?_
    refine sq_nil ?_
    refine ex_then ?_
    refine cw_block ?_
    refine cw_loop (X := Nat) (fun zz => [(33, .int .i64 (zz : Nat)), (32, .agg (nnexts n))]) (fun zz => []) (fun zz => zz ≤ 16 ∧ (∀ b, b < zz → 0 ≤ n.nx b ∧ n.nx b < 512)) (fun zz => 16 - zz) 0 ⟨by first | omega | (simp only []; omega), fun b hb => by first | omega | (simp only []; omega)⟩ (Sub.cons rfl (Sub.cons rfl (Sub.nil _))) (fun w hw => Keep.mem hw) ?_
    rintro i ⟨hj1, hj2⟩
    refine cw_seq ?_
    refine cw_region ?_
    refine sq_r (ry_int rfl rfl rfl) ?_
    refine sq_nil ?_
    refine ex_then ?_
    refine cw_seq ?_
    refine cw_cond rfl (fun h2 => ?_) (fun h2 => ?_)
    · try simp only [Bool.and_eq_true, Bool.or_eq_true, Bool.and_eq_false_iff, Bool.or_eq_false_iff, Bool.not_eq_true', Bool.not_eq_false', decide_eq_true_eq, decide_eq_false_iff_not, Bool.not_eq_true, Bool.not_eq_false] at h2
      refine cw_skip ?_
      refine ex_then ?_
      refine cw_seq ?_
      refine cw_block ?_
      refine cw_seq ?_
      refine cw_region ?_
      refine sq_r (ry_ixNext Try.underlying26 rfl rfl i rfl (by omega)) ?_
      refine sq_r (ry_assign rfl) ?_
      refine sq_nil ?_
      refine ex_then ?_
      refine cw_seq ?_
      refine cw_region ?_
      refine sq_r (ry_move rfl) ?_
      refine sq_r (ry_int rfl rfl rfl) ?_
      refine sq_r (ry_move rfl) ?_
      refine sq_gf rfl rfl rfl (fun hg => (Ry.yl (ry_move rfl))) ?_
      refine sq_gf rfl rfl rfl (fun hg => (Ry.yl (ry_int (ev_c hg rfl) rfl rfl))) ?_
      refine sq_r (ry_or rfl rfl rfl) ?_
      refine sq_nil ?_
      refine ex_then ?_
      refine cw_cond rfl (fun h3 => ?_) (fun h3 => ?_)
      · try simp only [Bool.and_eq_true, Bool.or_eq_true, Bool.and_eq_false_iff, Bool.or_eq_false_iff, Bool.not_eq_true', Bool.not_eq_false', decide_eq_true_eq, decide_eq_false_iff_not, Bool.not_eq_true, Bool.not_eq_false] at h3
        refine cw_seq ?_
        refine cw_region ?_
        refine sq_r (ry_assign rfl) ?_
        refine sq_nil ?_
        refine ex_then ?_
        refine cw_ret ?_
        refine ex_block_ret ?_
        refine ex_pass_ret ?_
        refine ex_pass_ret ?_
        refine ex_block_ret ?_
        refine ex_pass_ret ?_
        refine ex_ret (.inl rfl) (res_1 rfl (rv_tmp rfl)) (fun w1 hw => ?_)
        exact ⟨congrArg (fun b => Ending.returned (Value.bool b)) ((nmay_no (show i < 16 by omega) (by omega)).symm), Keep.mem hw⟩
      · try simp only [Bool.and_eq_true, Bool.or_eq_true, Bool.and_eq_false_iff, Bool.or_eq_false_iff, Bool.not_eq_true', Bool.not_eq_false', decide_eq_true_eq, decide_eq_false_iff_not, Bool.not_eq_true, Bool.not_eq_false] at h3
        refine cw_skip ?_
        refine ex_block ?_
        refine ex_then ?_
        refine cw_region ?_
        refine sq_r (ry_add rfl rfl (by omega)) ?_
        refine sq_r (ry_move rfl) ?_
        refine sq_nil ?_
        exact ex_again (x := (i)) (i + 1) ⟨by first | omega | (simp only []; omega), fun b hb => if e : b = i then (by subst e; omega) else hj2 b (by first | omega | (simp only []; omega))⟩ (by first | omega | (simp only []; omega)) (Sub.cons rfl (Sub.cons rfl (Sub.nil _))) (fun w hw => Keep.mem hw)
    · try simp only [Bool.and_eq_true, Bool.or_eq_true, Bool.and_eq_false_iff, Bool.or_eq_false_iff, Bool.not_eq_true', Bool.not_eq_false', decide_eq_true_eq, decide_eq_false_iff_not, Bool.not_eq_true, Bool.not_eq_false] at h2
      refine cw_exit ?_
      refine ex_pass_exit ?_
      refine ex_pass_exit ?_
      refine ex_block_hit ?_
      refine ex_then ?_
      refine cw_seq ?_
      refine cw_region ?_
      refine sq_r (ry_assign rfl) ?_
      refine sq_nil ?_
      refine ex_then ?_
      refine cw_ret ?_
      refine ex_ret (.inl rfl) (res_1 rfl (rv_tmp rfl)) (fun w1 hw => ?_)
      exact ⟨congrArg (fun b => Ending.returned (Value.bool b)) ((nmay_iff.2 (fun b hb => have hC := hi2 b (by omega); ⟨hC.1, hC.2.1, hC.2.2, hj2 b (by omega)⟩)).symm), Keep.mem hw⟩
instance ndmay_i {w0 : World} {L : List Ent} {n : Nd}  : FnQ Try.prog 20 w0 L [.agg (ncells n)] (.bool (nmay n)) (True) := ⟨fun hp w hw => ndmay_c w n ⟩
set_option maxRecDepth 20000 in
theorem rmay12_c (w : World) (n : Nd)  : Calls Try.prog 24 #[.agg (ncells n)] w fun e w' => e = .returned (.bool (nmay n)) ∧ Mem w [] w' := by
  refine calls_of (args := [_]) Try.func24 rfl Try.ntmps24 rfl ?_
  change Cw _ _ _ _ _ [(0, .agg (ncells n))] []
  refine cw_seq ?_
  refine cw_region ?_
  refine sq_boxA rfl fun b1 => ?_
  refine sq_r (ry_assign rfl) ?_
  refine sq_nil ?_
  refine ex_then ?_
  refine cw_seq ?_
  refine cw_seq ?_
  refine cw_region ?_
  refine sq_r (ry_assign rfl) ?_
  refine sq_nil ?_
  refine ex_then ?_
  refine cw_block ?_
  refine cw_loop (X := Nat) (fun zz => [(3, .int .i64 (zz : Nat)), (1, .pointer (some ⟨b1, 0, none⟩))]) (fun zz => [blk b1 (ncells n) 28]) (fun zz => zz ≤ 16 ∧ (∀ b, b < zz → 0 ≤ (n.sl b).len ∧ (n.sl b).len ≤ 129 ∧ ((n.sl b).len = 0 → (n.sl b).hop = 0) ∧ 0 ≤ n.nx b ∧ n.nx b < 512)) (fun zz => 16 - zz) 0 ⟨by first | omega | (simp only []; omega), fun b hb => by first | omega | (simp only []; omega)⟩ (Sub.cons rfl (Sub.cons rfl (Sub.nil _))) (fun w hw => Keep.mem hw) ?_
  rintro i ⟨hi1, hi2⟩
  refine cw_seq ?_
  refine cw_seq ?_
  refine cw_region ?_
  refine sq_r (ry_move rfl) ?_
  refine sq_r (ry_int rfl rfl rfl) ?_
  refine sq_nil ?_
  refine ex_then ?_
  refine cw_cond rfl (fun h0 => ?_) (fun h0 => ?_)
  · try simp only [Bool.and_eq_true, Bool.or_eq_true, Bool.and_eq_false_iff, Bool.or_eq_false_iff, Bool.not_eq_true', Bool.not_eq_false', decide_eq_true_eq, decide_eq_false_iff_not, Bool.not_eq_true, Bool.not_eq_false] at h0
    refine cw_skip ?_
    refine ex_then ?_
    refine cw_seq ?_
    refine cw_block ?_
    refine cw_seq ?_
    refine cw_region ?_
    refine sq_r (ry_move rfl) ?_
    refine sq_r (ry_field (o' := 0) rfl rfl) ?_
    refine sq_r (ry_idxA rfl rfl (by omega) (by omega)) ?_
    refine sq_r (ry_field rfl rfl) ?_
    refine sq_r (ry_bslen rfl i (by omega) (by simp only [Nat.add_eq, Int.toNat_natCast, Nat.mul_one, Nat.zero_add, Nat.add_zero] <;> omega)) ?_
    refine sq_r (ry_int rfl rfl rfl) ?_
    refine sq_r (ry_move rfl) ?_
    refine sq_gf rfl rfl rfl (fun hg => (Ry.yl (ry_move rfl))) ?_
    refine sq_gf rfl rfl rfl (fun hg => (Ry.yl (ry_field (o' := 0) rfl rfl))) ?_
    refine sq_gf rfl rfl rfl (fun hg => (Ry.yl (ry_idxA (ev_c hg rfl) (ev_c hg rfl) (by simp only [Bool.and_eq_true, Bool.or_eq_true, Bool.and_eq_false_iff, Bool.or_eq_false_iff, Bool.not_eq_true', Bool.not_eq_false', decide_eq_true_eq, decide_eq_false_iff_not, Bool.not_eq_true, Bool.not_eq_false] at hg; omega) (by simp only [Bool.and_eq_true, Bool.or_eq_true, Bool.and_eq_false_iff, Bool.or_eq_false_iff, Bool.not_eq_true', Bool.not_eq_false', decide_eq_true_eq, decide_eq_false_iff_not, Bool.not_eq_true, Bool.not_eq_false] at hg; omega)))) ?_
    refine sq_gf rfl rfl rfl (fun hg => (Ry.yl (ry_field (ev_c hg rfl) rfl))) ?_
    refine sq_gf rfl rfl rfl (fun hg => (Ry.yl (ry_bslen (ev_c hg rfl) i (by simp only [Bool.and_eq_true, Bool.or_eq_true, Bool.and_eq_false_iff, Bool.or_eq_false_iff, Bool.not_eq_true', Bool.not_eq_false', decide_eq_true_eq, decide_eq_false_iff_not, Bool.not_eq_true, Bool.not_eq_false] at hg; omega) (by simp only [Nat.add_eq, Int.toNat_natCast, Nat.mul_one, Nat.zero_add, Nat.add_zero] <;> omega)))) ?_
    refine sq_gf rfl rfl rfl (fun hg => (Ry.yl (ry_int (ev_c hg rfl) rfl rfl))) ?_
    refine sq_r (ry_or rfl rfl rfl) ?_
    refine sq_r (ry_move rfl) ?_
    refine sq_gf rfl rfl rfl (fun hg => (Ry.yl (ry_move rfl))) ?_
    refine sq_gf rfl rfl rfl (fun hg => (Ry.yl (ry_field (o' := 0) rfl rfl))) ?_
    refine sq_gf rfl rfl rfl (fun hg => (Ry.yl (ry_idxA (ev_c hg rfl) (ev_c hg rfl) (by simp only [Bool.and_eq_true, Bool.or_eq_true, Bool.and_eq_false_iff, Bool.or_eq_false_iff, Bool.not_eq_true', Bool.not_eq_false', decide_eq_true_eq, decide_eq_false_iff_not, Bool.not_eq_true, Bool.not_eq_false] at hg; omega) (by simp only [Bool.and_eq_true, Bool.or_eq_true, Bool.and_eq_false_iff, Bool.or_eq_false_iff, Bool.not_eq_true', Bool.not_eq_false', decide_eq_true_eq, decide_eq_false_iff_not, Bool.not_eq_true, Bool.not_eq_false] at hg; omega)))) ?_
    refine sq_gf rfl rfl rfl (fun hg => (Ry.yl (ry_field (ev_c hg rfl) rfl))) ?_
    refine sq_gf rfl rfl rfl (fun hg => (Ry.yl (ry_bslen (ev_c hg rfl) i (by simp only [Bool.and_eq_true, Bool.or_eq_true, Bool.and_eq_false_iff, Bool.or_eq_false_iff, Bool.not_eq_true', Bool.not_eq_false', decide_eq_true_eq, decide_eq_false_iff_not, Bool.not_eq_true, Bool.not_eq_false] at hg; omega) (by simp only [Nat.add_eq, Int.toNat_natCast, Nat.mul_one, Nat.zero_add, Nat.add_zero] <;> omega)))) ?_
    refine sq_gf rfl rfl rfl (fun hg => (Ry.yl (ry_int (ev_c hg rfl) rfl rfl))) ?_
    refine sq_gf rfl rfl rfl (fun hg => (Ry.yl (ry_move (ev_c hg rfl)))) ?_
    refine sq_nt rfl rfl rfl (fun hg => (Ry.yl (ry_move rfl))) ?_
    refine sq_nt rfl rfl rfl (fun hg => (Ry.yl (ry_field (o' := 0) rfl rfl))) ?_
    refine sq_nt rfl rfl rfl (fun hg => (Ry.yl (ry_idxA (ev_c hg rfl) (ev_c hg rfl) (by simp only [Bool.and_eq_true, Bool.or_eq_true, Bool.and_eq_false_iff, Bool.or_eq_false_iff, Bool.not_eq_true', Bool.not_eq_false', decide_eq_true_eq, decide_eq_false_iff_not, Bool.not_eq_true, Bool.not_eq_false] at hg; omega) (by simp only [Bool.and_eq_true, Bool.or_eq_true, Bool.and_eq_false_iff, Bool.or_eq_false_iff, Bool.not_eq_true', Bool.not_eq_false', decide_eq_true_eq, decide_eq_false_iff_not, Bool.not_eq_true, Bool.not_eq_false] at hg; omega)))) ?_
    refine sq_nt rfl rfl rfl (fun hg => (Ry.yl (ry_field (ev_c hg rfl) rfl))) ?_
    refine sq_nt rfl rfl rfl (fun hg => (Ry.yl (ry_bshop (ev_c hg rfl) i (by simp only [Bool.and_eq_true, Bool.or_eq_true, Bool.and_eq_false_iff, Bool.or_eq_false_iff, Bool.not_eq_true', Bool.not_eq_false', decide_eq_true_eq, decide_eq_false_iff_not, Bool.not_eq_true, Bool.not_eq_false] at hg; omega) (by simp only [Nat.add_eq, Int.toNat_natCast, Nat.mul_one, Nat.zero_add, Nat.add_zero] <;> omega)))) ?_
    refine sq_nt rfl rfl rfl (fun hg => (Ry.yl (ry_int (ev_c hg rfl) rfl rfl))) ?_
    refine sq_gf rfl rfl rfl (fun hg => (Ry.yl (ry_and (ev_c hg rfl) (ev_cc hg rfl) rfl))) ?_
    refine sq_r (ry_or rfl rfl rfl) ?_
    refine sq_r (ry_move rfl) ?_
    refine sq_gf rfl rfl rfl (fun hg => (Ry.yl (ry_move rfl))) ?_
    refine sq_gf rfl rfl rfl (fun hg => (Ry.yl (ry_field (o' := 32) rfl rfl))) ?_
    refine sq_gf rfl rfl rfl (fun hg => (Ry.yl (ry_idxA (ev_c hg rfl) (ev_c hg rfl) (by simp only [Bool.and_eq_true, Bool.or_eq_true, Bool.and_eq_false_iff, Bool.or_eq_false_iff, Bool.not_eq_true', Bool.not_eq_false', decide_eq_true_eq, decide_eq_false_iff_not, Bool.not_eq_true, Bool.not_eq_false] at hg; omega) (by simp only [Bool.and_eq_true, Bool.or_eq_true, Bool.and_eq_false_iff, Bool.or_eq_false_iff, Bool.not_eq_true', Bool.not_eq_false', decide_eq_true_eq, decide_eq_false_iff_not, Bool.not_eq_true, Bool.not_eq_false] at hg; omega)))) ?_
    refine sq_gf rfl rfl rfl (fun hg => (Ry.yl (ry_bnx (ev_c hg rfl) i (by simp only [Bool.and_eq_true, Bool.or_eq_true, Bool.and_eq_false_iff, Bool.or_eq_false_iff, Bool.not_eq_true', Bool.not_eq_false', decide_eq_true_eq, decide_eq_false_iff_not, Bool.not_eq_true, Bool.not_eq_false] at hg; omega) (by simp only [Nat.add_eq, Int.toNat_natCast, Nat.mul_one, Nat.zero_add, Nat.add_zero] <;> omega)))) ?_
    refine sq_gf rfl rfl rfl (fun hg => (Ry.yl (ry_int (ev_c hg rfl) rfl rfl))) ?_
    refine sq_r (ry_or rfl rfl rfl) ?_
    refine sq_r (ry_move rfl) ?_
    refine sq_gf rfl rfl rfl (fun hg => (Ry.yl (ry_move rfl))) ?_
    refine sq_gf rfl rfl rfl (fun hg => (Ry.yl (ry_field (o' := 32) rfl rfl))) ?_
    refine sq_gf rfl rfl rfl (fun hg => (Ry.yl (ry_idxA (ev_c hg rfl) (ev_c hg rfl) (by simp only [Bool.and_eq_true, Bool.or_eq_true, Bool.and_eq_false_iff, Bool.or_eq_false_iff, Bool.not_eq_true', Bool.not_eq_false', decide_eq_true_eq, decide_eq_false_iff_not, Bool.not_eq_true, Bool.not_eq_false] at hg; omega) (by simp only [Bool.and_eq_true, Bool.or_eq_true, Bool.and_eq_false_iff, Bool.or_eq_false_iff, Bool.not_eq_true', Bool.not_eq_false', decide_eq_true_eq, decide_eq_false_iff_not, Bool.not_eq_true, Bool.not_eq_false] at hg; omega)))) ?_
    refine sq_gf rfl rfl rfl (fun hg => (Ry.yl (ry_bnx (ev_c hg rfl) i (by simp only [Bool.and_eq_true, Bool.or_eq_true, Bool.and_eq_false_iff, Bool.or_eq_false_iff, Bool.not_eq_true', Bool.not_eq_false', decide_eq_true_eq, decide_eq_false_iff_not, Bool.not_eq_true, Bool.not_eq_false] at hg; omega) (by simp only [Nat.add_eq, Int.toNat_natCast, Nat.mul_one, Nat.zero_add, Nat.add_zero] <;> omega)))) ?_
    refine sq_gf rfl rfl rfl (fun hg => (Ry.yl (ry_int (ev_c hg rfl) rfl rfl))) ?_
    refine sq_r (ry_or rfl rfl rfl) ?_
    refine sq_nil ?_
    refine ex_then ?_
    refine cw_cond rfl (fun h1 => ?_) (fun h1 => ?_)
    · try simp only [Bool.and_eq_true, Bool.or_eq_true, Bool.and_eq_false_iff, Bool.or_eq_false_iff, Bool.not_eq_true', Bool.not_eq_false', decide_eq_true_eq, decide_eq_false_iff_not, Bool.not_eq_true, Bool.not_eq_false] at h1
      refine cw_seq ?_
      refine cw_region ?_
      refine sq_r (ry_assign rfl) ?_
      refine sq_nil ?_
      refine ex_then ?_
      refine cw_ret ?_
      refine ex_block_ret ?_
      refine ex_pass_ret ?_
      refine ex_pass_ret ?_
      refine ex_block_ret ?_
      refine ex_pass_ret ?_
      refine ex_ret (.inl rfl) (res_1 rfl (rv_tmp rfl)) (fun w1 hw => ?_)
      exact ⟨congrArg (fun b => Ending.returned (Value.bool b)) ((nmay_no (show i < 16 by omega) (by rintro ⟨g1, g2, g3, g4, g5⟩; have g6 : (n.sl i).len = 0 → (((n.sl i).hop.toNat : Nat) : Int) = 0 := (fun h => by rw [g3 h]; rfl); omega)).symm), Keep.mem hw⟩
    · try simp only [Bool.and_eq_true, Bool.or_eq_true, Bool.and_eq_false_iff, Bool.or_eq_false_iff, Bool.not_eq_true', Bool.not_eq_false', decide_eq_true_eq, decide_eq_false_iff_not, Bool.not_eq_true, Bool.not_eq_false] at h1
      refine cw_skip ?_
      refine ex_block ?_
      refine ex_then ?_
      refine cw_region ?_
      refine sq_r (ry_move rfl) ?_
      refine sq_r (ry_add rfl rfl (by omega)) ?_
      refine sq_r (ry_assign rfl) ?_
      refine sq_nil ?_
      exact ex_again (x := (i)) (i + 1) ⟨by first | omega | (simp only []; omega), fun b hb => if e : b = i then (by subst e; exact ⟨by first | omega | (simp only []; omega), by first | omega | (simp only []; omega), fun h3 => hop_zero (by first | omega | (simp only []; omega)), by first | omega | (simp only []; omega), by first | omega | (simp only []; omega)⟩) else hi2 b (by first | omega | (simp only []; omega))⟩ (by first | omega | (simp only []; omega)) (Sub.cons rfl (Sub.cons rfl (Sub.nil _))) (fun w hw => Keep.mem hw)
  · try simp only [Bool.and_eq_true, Bool.or_eq_true, Bool.and_eq_false_iff, Bool.or_eq_false_iff, Bool.not_eq_true', Bool.not_eq_false', decide_eq_true_eq, decide_eq_false_iff_not, Bool.not_eq_true, Bool.not_eq_false] at h0
    refine cw_exit ?_
    refine ex_pass_exit ?_
    refine ex_pass_exit ?_
    refine ex_block_hit ?_
    refine ex_then ?_
    refine cw_seq ?_
    refine cw_region ?_
    refine sq_r (ry_assign rfl) ?_
    refine sq_nil ?_
    refine ex_then ?_
    refine cw_ret ?_
    refine ex_ret (.inl rfl) (res_1 rfl (rv_tmp rfl)) (fun w1 hw => ?_)
    exact ⟨congrArg (fun b => Ending.returned (Value.bool b)) ((nmay_iff.2 (fun b hb => hi2 b (by omega))).symm), Keep.mem hw⟩
instance rmay12_i {w0 : World} {L : List Ent} {n : Nd}  : FnQ Try.prog 24 w0 L [.agg (ncells n)] (.bool (nmay n)) (True) := ⟨fun hp w hw => rmay12_c w n ⟩

end Go.Proofs.Ytembaconocgmlaa

/- A node is put: walked. -/
set_option linter.unusedSimpArgs false
set_option linter.unusedVariables false
namespace Go.Proofs.Ytembaconocgmlaa
open Go.Eng Go.Kb
set_option maxRecDepth 20000 in
theorem ndlaid_c (w0 w : World) (L : List Ent) (b : Sv) (bs : List UInt8) (n : Nd) (hw : Mem w0 (own benc 1 b bs :: L) w) (hpre : nmay n = true ∧ bs.length ≤ 100000) : Calls Try.prog 66 #[b.val, .agg (ncells n)] w fun e w' => ∃ zz : Sv, e = .returned (zz.val) ∧ (True) ∧ Mem w0 (own benc 1 zz (bs ++ nbytes n) :: L) w' := by
  obtain ⟨hp1, hp2⟩ := hpre
  refine calls_in (args := [_, _]) Try.func66 rfl Try.ntmps66 rfl hw ?_
  change Cw _ _ _ _ _ [(0, b.val), (1, .agg (ncells n))] (own benc 1 b bs :: L)
  refine cw_seq ?_
  refine cw_region ?_
  refine sq_boxA rfl fun b3 => ?_
  refine sq_r (ry_assign rfl) ?_
  refine sq_nil ?_
  refine ex_then ?_
  refine cw_seq ?_
  refine cw_seq ?_
  refine cw_region ?_
  refine sq_r (ry_field (o' := 0) rfl rfl) ?_
  refine sq_r (ry_part rfl) ?_
  refine sq_r (ry_move rfl) ?_
  refine sq_nil ?_
  refine ex_then ?_
  refine cw_block ?_
  refine cw_loop (X := Nat × Sv) (fun zz => [(10, .int .i64 (zz.1 : Nat)), (0, zz.2.val), (3, .pointer (some ⟨b3, 0, none⟩)), (9, .agg (nslots n))]) (fun zz => own benc 1 zz.2 (bs ++ npre n zz.1) :: blk b3 (ncells n) 28 :: L) (fun zz => zz.1 ≤ 16) (fun zz => 16 - zz.1) (0, b) (Nat.zero_le _) (Sub.cons rfl (Sub.cons rfl (Sub.cons rfl (Sub.cons rfl (Sub.nil _))))) (fun w hw => by rw [npre, List.append_nil]; exact Keep.mem hw) ?_
  rintro ⟨i, s1⟩ hi
  dsimp only
  simp only at hi
  have hpl := npre_length n i
  refine cw_seq ?_
  refine cw_region ?_
  refine sq_r (ry_int rfl rfl rfl) ?_
  refine sq_nil ?_
  refine ex_then ?_
  refine cw_seq ?_
  refine cw_cond rfl (fun h0 => ?_) (fun h0 => ?_)
  · try simp only [Bool.and_eq_true, Bool.or_eq_true, Bool.and_eq_false_iff, Bool.or_eq_false_iff, Bool.not_eq_true', Bool.not_eq_false', decide_eq_true_eq, decide_eq_false_iff_not, Bool.not_eq_true, Bool.not_eq_false] at h0
    have hm := nmay_iff.1 hp1 i (by omega)
    have hhl := (n.sl i).hop.toNat_lt
    refine cw_skip ?_
    refine ex_then ?_
    refine cw_seq ?_
    refine cw_block ?_
    refine cw_seq ?_
    refine cw_region ?_
    refine sq_r (ry_move rfl) ?_
    refine sq_r (ry_ixSlot Try.underlying25 rfl rfl i rfl (by omega)) ?_
    refine sq_allocA fun b6 => ?_
    refine sq_r (ry_assign rfl) ?_
    refine sq_storeW rfl rfl ?_
    refine sq_nil ?_
    refine ex_then ?_
    refine cw_seq ?_
    refine cw_region ?_
    refine sq_r (ry_move rfl) ?_
    refine sq_r (ry_field (o' := 32) rfl rfl) ?_
    refine sq_r (ry_idxA rfl rfl (by omega) (by omega)) ?_
    refine sq_r (Ry.to (v' := .int .i64 ((n.nx i).toNat : Nat)) (ry_bnx rfl i (by omega) (by simp only [Nat.add_eq, Int.toNat_natCast, Nat.mul_one, Nat.zero_add, Nat.add_zero] <;> omega)) (by congr 1; omega)) ?_
    refine sq_r (ry_assign rfl) ?_
    refine sq_nil ?_
    refine ex_then ?_
    refine cw_region ?_
    refine sq_r (ry_move rfl) ?_
    refine sq_r (ry_field (o' := 0) rfl rfl) ?_
    refine sq_r (Ry.to (v' := .int .i64 ((n.sl i).len.toNat : Nat)) (ry_cellc rfl) (by congr 1; omega)) ?_
    refine sq_r (ry_conv8 (n := (n.sl i).len.toNat) rfl rfl) ?_
    refine sq_r (ry_field (o' := 1) rfl rfl) ?_
    refine sq_r (ry_cellc rfl) ?_
    refine sq_r (ry_shr (p := ((n.sl i).hop).toNat) rfl rfl (by simp only [nb]; omega) (by omega)) ?_
    refine sq_r (ry_conv8 (n := (((n.sl i).hop).toNat / 2 ^ 8)) rfl rfl) ?_
    refine sq_r (ry_field (o' := 1) rfl rfl) ?_
    refine sq_r (ry_cellc rfl) ?_
    refine sq_r (ry_conv8 (n := ((n.sl i).hop).toNat) rfl rfl) ?_
    refine sq_r (ry_move rfl) ?_
    refine sq_r (ry_shr (p := (n.nx i).toNat) rfl rfl (by simp only [nb]; omega) (by omega)) ?_
    refine sq_r (ry_conv8 (n := ((n.nx i).toNat / 2 ^ 8)) rfl rfl) ?_
    refine sq_r (ry_move rfl) ?_
    refine sq_r (ry_conv8 (n := (n.nx i).toNat) rfl rfl) ?_
    refine sq_buildSlice (enc := benc) (vals := [_, _, _, _, _]) [(b8 ((n.sl i).len.toNat)), (b8 (((n.sl i).hop).toNat / 2 ^ 8)), (b8 (((n.sl i).hop).toNat)), (b8 ((n.nx i).toNat / 2 ^ 8)), (b8 ((n.nx i).toNat))] rfl rfl rfl (by decide) (by decide) fun b34 => ?_
    refine sq_append (s := s1) (ys := [(b8 ((n.sl i).len.toNat)), (b8 (((n.sl i).hop).toNat / 2 ^ 8)), (b8 (((n.sl i).hop).toNat)), (b8 ((n.nx i).toNat / 2 ^ 8)), (b8 ((n.nx i).toNat))]) rfl rfl (by decide) (fun w hw => src_rows (s := ⟨false, b34, 0, 5, 5, none⟩) Try.underlying30 (by decide) ((inferInstance : Hd _ _ ⟨false, b34, 0, 5, 5, none⟩ benc 1 [(b8 ((n.sl i).len.toNat)), (b8 (((n.sl i).hop).toNat / 2 ^ 8)), (b8 (((n.sl i).hop).toNat)), (b8 ((n.nx i).toNat / 2 ^ 8)), (b8 ((n.nx i).toNat))]).h w hw)) (by simp only [List.length_append, List.length_cons, List.length_nil]; omega) (by simp only [List.length_append, List.length_cons, List.length_nil]; omega) fun s35 hs35 hl35 => ?_
    refine sq_r (ry_assign rfl) ?_
    refine sq_nil ?_
    refine ex_block ?_
    refine ex_then ?_
    refine cw_region ?_
    refine sq_r (ry_add rfl rfl (by omega)) ?_
    refine sq_r (ry_move rfl) ?_
    refine sq_nil ?_
    exact ex_again (x := (i, s1)) (i + 1, s35) (by simp only; omega) (by simp only; omega) (Sub.cons rfl (Sub.cons rfl (Sub.cons rfl (Sub.cons rfl (Sub.nil _))))) (fun w hw => by rw [List.append_assoc, npre_step] at hw; dsimp only; exact Keep.mem hw)
  · try simp only [Bool.and_eq_true, Bool.or_eq_true, Bool.and_eq_false_iff, Bool.or_eq_false_iff, Bool.not_eq_true', Bool.not_eq_false', decide_eq_true_eq, decide_eq_false_iff_not, Bool.not_eq_true, Bool.not_eq_false] at h0
    obtain rfl : i = 16 := by omega
    refine cw_exit ?_
    refine ex_pass_exit ?_
    refine ex_pass_exit ?_
    refine ex_block_hit ?_
    refine ex_then ?_
    refine cw_seq ?_
    refine cw_region ?_
    refine sq_r (ry_move rfl) ?_
    refine sq_r (ry_assign rfl) ?_
    refine sq_nil ?_
    refine ex_then ?_
    refine cw_ret ?_
    refine ex_ret (.inl rfl) (res_1 rfl (rv_tmp rfl)) (fun w1 hw => ?_)
    exact ⟨s1, rfl, trivial, (Keep.mem hw : Mem w0 (own benc 1 s1 (bs ++ npre n 16) :: L) _)⟩
instance ndlaid_i {w0 : World} {L R : List Ent} {i : Nat} {b : Sv} {bs : List UInt8} {n : Nd} [q : Owns L b benc 1 bs i] [d : DelI L i R] : FnC Try.prog 66 w0 L [b.val, .agg (ncells n)] (Sv) (fun zz => zz.val) (fun zz => own benc 1 zz (bs ++ nbytes n) :: R) (fun zz => True) (nmay n = true ∧ bs.length ≤ 100000) := ⟨fun hp w hw => ndlaid_c w0 w R b bs n (mem_one q.h d.h hw) hp⟩
set_option maxRecDepth 20000 in
theorem ndput_c (w : World) (n : Nd)  : Calls Try.prog 19 #[.agg (ncells n)] w fun e w' => ∃ zz : Sv, e = .returned (.tuple #[zz.val, .int .i64 (putE12 n)]) ∧ (True) ∧ Mem w [own benc 1 zz (putB n)] w' := by
  refine calls_of (args := [_]) Try.func19 rfl Try.ntmps19 rfl ?_
  change Cw _ _ _ _ _ [(0, .agg (ncells n))] []
  refine cw_seq ?_
  refine cw_region ?_
  refine sq_boxA rfl fun b1 => ?_
  refine sq_r (ry_assign rfl) ?_
  refine sq_r (ry_assign rfl) ?_
  refine sq_nil ?_
  refine ex_then ?_
  refine cw_seq ?_
  refine cw_seq ?_
  refine cw_region ?_
  refine sq_r (ry_whole rfl) ?_
  refine sq_y (yl_callC rfl trivial) ?_
  refine sq_r (ry_not rfl) ?_
  refine sq_nil ?_
  refine ex_then ?_
  refine cw_cond rfl (fun h0 => ?_) (fun h0 => ?_)
  · try simp only [Bool.and_eq_true, Bool.or_eq_true, Bool.and_eq_false_iff, Bool.or_eq_false_iff, Bool.not_eq_true', Bool.not_eq_false', decide_eq_true_eq, decide_eq_false_iff_not, Bool.not_eq_true, Bool.not_eq_false] at h0
    refine cw_seq ?_
    refine cw_region ?_
    refine sq_r (ry_assign rfl) ?_
    refine sq_r (ry_assign rfl) ?_
    refine sq_nil ?_
    refine ex_then ?_
    refine cw_ret ?_
    refine ex_pass_ret ?_
    refine ex_ret (.inl rfl) (res_2 rfl (rv_tmp rfl) (rv_tmp rfl)) (fun w1 hw => ?_)
    exact ⟨Sv.none, by simp [putE12, h0]; rfl, trivial, by rw [putB, if_neg (by rw [h0]; simp)]; exact (Keep.mem hw : Mem w [] _).nilOwn benc 1⟩
  · try simp only [Bool.and_eq_true, Bool.or_eq_true, Bool.and_eq_false_iff, Bool.or_eq_false_iff, Bool.not_eq_true', Bool.not_eq_false', decide_eq_true_eq, decide_eq_false_iff_not, Bool.not_eq_true, Bool.not_eq_false] at h0
    refine cw_skip ?_
    refine ex_then ?_
    refine cw_seq ?_
    refine cw_lin [0, 2] [[], [], [0], [0, 2], [0, 2]] [1, 0, 2, 3, 4] _ (fun _ hw => hw) (by kernel_rfl) (by kernel_rfl) ?_
    refine ln_r rfl (ry_whole rfl) ?_
    refine ln_st rfl (st_makeS (enc := benc) (n := 0) (cap := 80) 0 rfl rfl rfl rfl rfl (by omega) (by omega) (by omega) fun b7 => ⟨fun _ hw => Keep.mem hw, ?_⟩)
    refine ln_st rfl (st_callC rfl ⟨h0, by simp⟩ fun x9 hp9 => ⟨fun _ hw => Keep.mem hw, ?_⟩)
    refine ln_r rfl (ry_assign rfl) ?_
    refine ln_r rfl (ry_assign rfl) ?_
    refine ln_nil ?_
    refine ex_then ?_
    refine cw_ret ?_
    refine ex_ret (.inl rfl) (res_2 rfl (rv_tmp rfl) (rv_tmp rfl)) (fun w1 hw => ?_)
    exact ⟨x9, by simp [putE12, h0], trivial, by rw [putB, if_pos h0]; exact (Keep.mem hw : Mem w [own benc 1 x9 (List.replicate 0 0 ++ nbytes n)] _)⟩
instance ndput_i {w0 : World} {L : List Ent} {n : Nd}  : FnC Try.prog 19 w0 L [.agg (ncells n)] (Sv) (fun zz => .tuple #[zz.val, .int .i64 (putE12 n)]) (fun zz => own benc 1 zz (putB n) :: L) (fun zz => True) (True) := ⟨fun hp w hw => (ndput_c w n ).mono fun e w' ⟨x, h1, h2, h3⟩ => ⟨x, h1, h2, hw.call h3⟩⟩
set_option maxRecDepth 20000 in
theorem rput12_c (w : World) (n : Nd)  : Calls Try.prog 22 #[.agg (ncells n)] w fun e w' => ∃ zz : Sv, e = .returned (.tuple #[zz.val, .int .i64 (putE12 n)]) ∧ (True) ∧ Mem w [own benc 1 zz (putB n)] w' := by
  refine calls_of (args := [_]) Try.func22 rfl Try.ntmps22 rfl ?_
  change Cw _ _ _ _ _ [(0, .agg (ncells n))] []
  refine cw_seq ?_
  refine cw_region ?_
  refine sq_boxA rfl fun b1 => ?_
  refine sq_r (ry_assign rfl) ?_
  refine sq_r (ry_assign rfl) ?_
  refine sq_nil ?_
  refine ex_then ?_
  refine cw_seq ?_
  refine cw_seq ?_
  refine cw_region ?_
  refine sq_r (ry_whole rfl) ?_
  refine sq_y (yl_callC rfl trivial) ?_
  refine sq_r (ry_not rfl) ?_
  refine sq_nil ?_
  refine ex_then ?_
  refine cw_cond rfl (fun h0 => ?_) (fun h0 => ?_)
  · try simp only [Bool.and_eq_true, Bool.or_eq_true, Bool.and_eq_false_iff, Bool.or_eq_false_iff, Bool.not_eq_true', Bool.not_eq_false', decide_eq_true_eq, decide_eq_false_iff_not, Bool.not_eq_true, Bool.not_eq_false] at h0
    refine cw_seq ?_
    refine cw_region ?_
    refine sq_r (ry_assign rfl) ?_
    refine sq_r (ry_assign rfl) ?_
    refine sq_nil ?_
    refine ex_then ?_
    refine cw_ret ?_
    refine ex_pass_ret ?_
    refine ex_ret (.inl rfl) (res_2 rfl (rv_tmp rfl) (rv_tmp rfl)) (fun w1 hw => ?_)
    exact ⟨Sv.none, by simp [putE12, h0]; rfl, trivial, by rw [putB, if_neg (by rw [h0]; simp)]; exact (Keep.mem hw : Mem w [] _).nilOwn benc 1⟩
  · try simp only [Bool.and_eq_true, Bool.or_eq_true, Bool.and_eq_false_iff, Bool.or_eq_false_iff, Bool.not_eq_true', Bool.not_eq_false', decide_eq_true_eq, decide_eq_false_iff_not, Bool.not_eq_true, Bool.not_eq_false] at h0
    have hp1 := h0
    refine cw_skip ?_
    refine ex_then ?_
    refine cw_seq ?_
    refine cw_region ?_
    refine sq_r (ry_assign rfl) ?_
    refine sq_nil ?_
    refine ex_then ?_
    refine cw_seq ?_
    refine cw_seq ?_
    refine cw_region ?_
    refine sq_r (ry_assign rfl) ?_
    refine sq_nil ?_
    refine ex_then ?_
    refine cw_block ?_
    refine cw_loop (X := Nat × Sv) (fun zz => [(5, .int .i64 (zz.1 : Nat)), (4, zz.2.val), (1, .pointer (some ⟨b1, 0, none⟩))]) (fun zz => [own benc 1 zz.2 (npre n zz.1), blk b1 (ncells n) 28]) (fun zz => zz.1 ≤ 16) (fun zz => 16 - zz.1) (0, Sv.none) (Nat.zero_le _) (Sub.cons rfl (Sub.cons rfl (Sub.cons rfl (Sub.nil _)))) (fun w hw => (Keep.mem hw : Mem _ [blk b1 (ncells n) 28] _).nilOwn benc 1) ?_
    rintro ⟨i, s1⟩ hi
    dsimp only
    simp only at hi
    have hpl := npre_length n i
    refine cw_seq ?_
    refine cw_seq ?_
    refine cw_region ?_
    refine sq_r (ry_move rfl) ?_
    refine sq_r (ry_int rfl rfl rfl) ?_
    refine sq_nil ?_
    refine ex_then ?_
    refine cw_cond rfl (fun h1 => ?_) (fun h1 => ?_)
    · try simp only [Bool.and_eq_true, Bool.or_eq_true, Bool.and_eq_false_iff, Bool.or_eq_false_iff, Bool.not_eq_true', Bool.not_eq_false', decide_eq_true_eq, decide_eq_false_iff_not, Bool.not_eq_true, Bool.not_eq_false] at h1
      have hm := nmay_iff.1 hp1 i (by omega)
      have hhl := (n.sl i).hop.toNat_lt
      refine cw_skip ?_
      refine ex_then ?_
      refine cw_seq ?_
      refine cw_block ?_
      refine cw_seq ?_
      refine cw_region ?_
      refine sq_r (ry_move rfl) ?_
      refine sq_r (ry_move rfl) ?_
      refine sq_r (ry_field (o' := 0) rfl rfl) ?_
      refine sq_r (ry_idxA rfl rfl (by omega) (by omega)) ?_
      refine sq_r (ry_field rfl rfl) ?_
      refine sq_r (Ry.to (v' := .int .i64 ((n.sl i).len.toNat : Nat)) (ry_bslen rfl i (by omega) (by simp only [Nat.add_eq, Int.toNat_natCast, Nat.mul_one, Nat.zero_add, Nat.add_zero] <;> omega)) (by congr 1; omega)) ?_
      refine sq_r (ry_convn rfl (by simp only [nb]; omega)) ?_
      refine sq_callC (vs := [_, .int .i64 ((1 : Nat) : Int)]) rfl ⟨by omega, by omega⟩ fun x20 hp20 => ?_
      refine sq_append (s := s1) (ys := (be ((n.sl i).len.toNat) 1)) rfl rfl (by decide) (fun w hw => src_rows (s := x20) Try.underlying30 (by decide) ((inferInstance : Hd _ _ x20 benc 1 (be ((n.sl i).len.toNat) 1)).h w hw)) (by simp only [be_length]; omega) (by simp only [be_length]; omega) fun s21 hs21 hl21 => ?_
      refine sq_r (ry_assign rfl) ?_
      refine sq_nil ?_
      refine ex_then ?_
      refine cw_seq ?_
      refine cw_region ?_
      refine sq_r (ry_move rfl) ?_
      refine sq_r (ry_move rfl) ?_
      refine sq_r (ry_field (o' := 0) rfl rfl) ?_
      refine sq_r (ry_idxA rfl rfl (by omega) (by omega)) ?_
      refine sq_r (ry_field rfl rfl) ?_
      refine sq_r (ry_bshop rfl i (by omega) (by simp only [Nat.add_eq, Int.toNat_natCast, Nat.mul_one, Nat.zero_add, Nat.add_zero] <;> omega)) ?_
      refine sq_r (ry_conv_u16 rfl) ?_
      refine sq_callC (vs := [_, .int .i64 ((2 : Nat) : Int)]) rfl ⟨by omega, by omega⟩ fun x29 hp29 => ?_
      refine sq_append (s := s21) (ys := (be (((n.sl i).hop).toNat) 2)) rfl rfl (by decide) (fun w hw => src_rows (s := x29) Try.underlying30 (by decide) ((inferInstance : Hd _ _ x29 benc 1 (be (((n.sl i).hop).toNat) 2)).h w hw)) (by simp only [List.length_append, be_length]; omega) (by simp only [List.length_append, be_length]; omega) fun s30 hs30 hl30 => ?_
      refine sq_r (ry_assign rfl) ?_
      refine sq_nil ?_
      refine ex_then ?_
      refine cw_region ?_
      refine sq_r (ry_move rfl) ?_
      refine sq_r (ry_move rfl) ?_
      refine sq_r (ry_field (o' := 32) rfl rfl) ?_
      refine sq_r (ry_idxA rfl rfl (by omega) (by omega)) ?_
      refine sq_r (Ry.to (v' := .int .i64 ((n.nx i).toNat : Nat)) (ry_bnx rfl i (by omega) (by simp only [Nat.add_eq, Int.toNat_natCast, Nat.mul_one, Nat.zero_add, Nat.add_zero] <;> omega)) (by congr 1; omega)) ?_
      refine sq_r (ry_convn rfl (by simp only [nb]; omega)) ?_
      refine sq_callC (vs := [_, .int .i64 ((2 : Nat) : Int)]) rfl ⟨by omega, by omega⟩ fun x37 hp37 => ?_
      refine sq_append (s := s30) (ys := (be ((n.nx i).toNat) 2)) rfl rfl (by decide) (fun w hw => src_rows (s := x37) Try.underlying30 (by decide) ((inferInstance : Hd _ _ x37 benc 1 (be ((n.nx i).toNat) 2)).h w hw)) (by simp only [List.length_append, be_length]; omega) (by simp only [List.length_append, be_length]; omega) fun s38 hs38 hl38 => ?_
      refine sq_r (ry_assign rfl) ?_
      refine sq_nil ?_
      refine ex_block ?_
      refine ex_then ?_
      refine cw_region ?_
      refine sq_r (ry_move rfl) ?_
      refine sq_r (ry_add rfl rfl (by omega)) ?_
      refine sq_r (ry_assign rfl) ?_
      refine sq_nil ?_
      exact ex_again (x := (i, s1)) (i + 1, s38) (by simp only; omega) (by simp only; omega) (Sub.cons rfl (Sub.cons rfl (Sub.cons rfl (Sub.nil _)))) (fun w hw => by rw [npre, ← slotB_be (by omega) (by omega)]; simp only [List.append_assoc] at hw ⊢; exact Keep.mem hw)
    · try simp only [Bool.and_eq_true, Bool.or_eq_true, Bool.and_eq_false_iff, Bool.or_eq_false_iff, Bool.not_eq_true', Bool.not_eq_false', decide_eq_true_eq, decide_eq_false_iff_not, Bool.not_eq_true, Bool.not_eq_false] at h1
      obtain rfl : i = 16 := by omega
      refine cw_exit ?_
      refine ex_pass_exit ?_
      refine ex_pass_exit ?_
      refine ex_block_hit ?_
      refine ex_then ?_
      refine cw_seq ?_
      refine cw_region ?_
      refine sq_r (ry_move rfl) ?_
      refine sq_r (ry_assign rfl) ?_
      refine sq_r (ry_assign rfl) ?_
      refine sq_nil ?_
      refine ex_then ?_
      refine cw_ret ?_
      refine ex_ret (.inl rfl) (res_2 rfl (rv_tmp rfl) (rv_tmp rfl)) (fun w1 hw => ?_)
      exact ⟨s1, by simp [putE12, h0], trivial, by rw [putB, if_pos h0]; exact (Keep.mem hw : Mem w [own benc 1 s1 (npre n 16)] _)⟩
instance rput12_i {w0 : World} {L : List Ent} {n : Nd}  : FnC Try.prog 22 w0 L [.agg (ncells n)] (Sv) (fun zz => .tuple #[zz.val, .int .i64 (putE12 n)]) (fun zz => own benc 1 zz (putB n) :: L) (fun zz => True) (True) := ⟨fun hp w hw => (rput12_c w n ).mono fun e w' ⟨x, h1, h2, h3⟩ => ⟨x, h1, h2, hw.call h3⟩⟩

end Go.Proofs.Ytembaconocgmlaa

/- A node is read, by the reference: walked. -/
set_option linter.unusedSimpArgs false
set_option linter.unusedVariables false
namespace Go.Proofs.Ytembaconocgmlaa
open Go.Eng Go.Kb
set_option maxRecDepth 20000 in
theorem rread12_c (w : World) (b : Sv) (bs : List UInt8) (hb : Lies benc 1 (hp w) b bs) : Calls Try.prog 23 #[b.val] w fun e w' => e = .returned (.tuple #[.agg (ncells (readN bs)), .int .i64 (readE bs)]) ∧ Mem w [] w' := by
  have ghb : Gv w b benc 1 bs := ⟨hb⟩
  refine calls_of (args := [_]) Try.func23 rfl Try.ntmps23 rfl ?_
  change Cw _ _ _ _ _ [(0, b.val)] []
  refine cw_seq ?_
  refine cw_region ?_
  refine sq_allocA fun b2 => ?_
  refine sq_r (ry_assign rfl) ?_
  refine sq_nil ?_
  refine ex_then ?_
  refine cw_seq ?_
  refine cw_seq ?_
  refine cw_region ?_
  refine sq_r (ry_move rfl) ?_
  refine sq_r (ry_lenH rfl) ?_
  refine sq_r (ry_int rfl rfl rfl) ?_
  refine sq_nil ?_
  refine ex_then ?_
  refine cw_cond rfl (fun h0 => ?_) (fun h0 => ?_)
  · try simp only [Bool.and_eq_true, Bool.or_eq_true, Bool.and_eq_false_iff, Bool.or_eq_false_iff, Bool.not_eq_true', Bool.not_eq_false', decide_eq_true_eq, decide_eq_false_iff_not, Bool.not_eq_true, Bool.not_eq_false] at h0
    obtain ⟨hr1, hr2⟩ := read_long (xs := bs) (by omega)
    refine cw_seq ?_
    refine cw_region ?_
    refine sq_r (ry_buildc rfl) ?_
    refine sq_storeW rfl rfl ?_
    refine sq_r (ry_assign rfl) ?_
    refine sq_nil ?_
    refine ex_then ?_
    refine cw_ret ?_
    refine ex_pass_ret ?_
    refine ex_ret (.inl rfl) (res_2 rfl (rv_agg rfl) (rv_tmp rfl)) (fun w1 hw => ?_)
    exact ⟨(by rw [hr1, hr2]), Keep.mem hw⟩
  · try simp only [Bool.and_eq_true, Bool.or_eq_true, Bool.and_eq_false_iff, Bool.or_eq_false_iff, Bool.not_eq_true', Bool.not_eq_false', decide_eq_true_eq, decide_eq_false_iff_not, Bool.not_eq_true, Bool.not_eq_false] at h0
    have hl : bs.length = 80 := by omega
    refine cw_skip ?_
    refine ex_then ?_
    refine cw_seq ?_
    refine cw_region ?_
    refine sq_allocA fun b4 => ?_
    refine sq_nil ?_
    refine ex_then ?_
    refine cw_seq ?_
    refine cw_seq ?_
    refine cw_region ?_
    refine sq_r (ry_assign rfl) ?_
    refine sq_nil ?_
    refine ex_then ?_
    refine cw_block ?_
    refine cw_loop (X := Nat) (fun zz => [(5, .int .i64 (zz : Nat)), (4, .pointer (some ⟨b4, 0, none⟩)), (0, b.val), (2, .pointer (some ⟨b2, 0, none⟩))]) (fun zz => [blk b4 (ncells (ngetP bs zz)) 28, blk b2 (ncells Nd.zero) 28]) (fun zz => zz ≤ 16) (fun zz => 16 - zz) 0 (Nat.zero_le _) (Sub.cons rfl (Sub.cons rfl (Sub.cons rfl (Sub.cons rfl (Sub.nil _))))) (fun w hw => by rw [ngetP_zero]; exact Keep.mem hw) ?_
    rintro i hi
    refine cw_seq ?_
    refine cw_seq ?_
    refine cw_region ?_
    refine sq_r (ry_move rfl) ?_
    refine sq_r (ry_int rfl rfl rfl) ?_
    refine sq_nil ?_
    refine ex_then ?_
    refine cw_cond rfl (fun h1 => ?_) (fun h1 => ?_)
    · try simp only [Bool.and_eq_true, Bool.or_eq_true, Bool.and_eq_false_iff, Bool.or_eq_false_iff, Bool.not_eq_true', Bool.not_eq_false', decide_eq_true_eq, decide_eq_false_iff_not, Bool.not_eq_true, Bool.not_eq_false] at h1
      refine cw_skip ?_
      refine ex_then ?_
      refine cw_seq ?_
      refine cw_block ?_
      refine cw_seq ?_
      refine cw_region ?_
      refine sq_r (ry_move rfl) ?_
      refine sq_r (ry_move rfl) ?_
      refine sq_r (ry_move rfl) ?_
      refine sq_r (ry_mul rfl rfl (by omega)) ?_
      refine sq_r (ry_idxH rfl rfl (5 * i) rfl (by omega)) ?_
      refine sq_r (ry_elemcH (j := 0) rfl (5 * i) (get_getD (xs := bs) (i := 5 * i) (d := 0) (by omega)) rfl (by decide)) ?_
      refine sq_r (ry_conv_u8 rfl) ?_
      refine sq_r (ry_field (o' := 0) rfl rfl) ?_
      refine sq_r (ry_idxA rfl rfl (by omega) (by omega)) ?_
      refine sq_r (ry_field rfl rfl) ?_
      refine sq_bstLen rfl rfl i (by omega) (by simp only [Nat.add_eq, Int.toNat_natCast, Nat.mul_one, Nat.zero_add, Nat.add_zero] <;> omega) ?_
      refine sq_nil ?_
      refine ex_then ?_
      refine cw_seq ?_
      refine cw_region ?_
      refine sq_r (ry_move rfl) ?_
      refine sq_r (ry_move rfl) ?_
      refine sq_r (ry_move rfl) ?_
      refine sq_r (ry_mul rfl rfl (by omega)) ?_
      refine sq_r (ry_add rfl rfl (by omega)) ?_
      refine sq_r (ry_move rfl) ?_
      refine sq_r (ry_mul rfl rfl (by omega)) ?_
      refine sq_r (ry_add rfl rfl (by omega)) ?_
      have rg32 : Rg ((5 * i) + 1) ((5 * i) + 3) bs.length := ⟨by omega⟩
      refine sq_r (ry_subH rfl rfl rfl ((5 * i) + 1) ((5 * i) + 3) rfl rfl rg32.h.1 rg32.h.2) ?_
      have hd1 := de_two12 (xs := bs) (lo := 5 * i + 1) (hi := 5 * i + 3) (by omega) (by omega)
      have hq1 := (bs.getD (5 * i + 1) 0).toNat_lt
      have hq2 := (bs.getD (5 * i + 1 + 1) 0).toNat_lt
      refine sq_y (yl_callC rfl (by simp; omega)) ?_
      refine sq_r (Ry.to (v' := .int .u16 (hop16 (bs.getD (5 * i + 1) 0) (bs.getD (5 * i + 2) 0)).toNat) (ry_convn rfl (by rw [hd1]; simp only [nb]; omega)) (by rw [hd1, hop16_toNat])) ?_
      refine sq_r (ry_field (o' := 0) rfl rfl) ?_
      refine sq_r (ry_idxA rfl rfl (by omega) (by omega)) ?_
      refine sq_r (ry_field rfl rfl) ?_
      refine sq_bstHop rfl rfl i (by omega) (by simp only [Nat.add_eq, Int.toNat_natCast, Nat.mul_one, Nat.zero_add, Nat.add_zero] <;> omega) ?_
      refine sq_nil ?_
      refine ex_then ?_
      refine cw_region ?_
      refine sq_r (ry_move rfl) ?_
      refine sq_r (ry_move rfl) ?_
      refine sq_r (ry_move rfl) ?_
      refine sq_r (ry_mul rfl rfl (by omega)) ?_
      refine sq_r (ry_add rfl rfl (by omega)) ?_
      refine sq_r (ry_move rfl) ?_
      refine sq_r (ry_mul rfl rfl (by omega)) ?_
      refine sq_r (ry_add rfl rfl (by omega)) ?_
      have rg46 : Rg ((5 * i) + 3) ((5 * i) + 5) bs.length := ⟨by omega⟩
      refine sq_r (ry_subH rfl rfl rfl ((5 * i) + 3) ((5 * i) + 5) rfl rfl rg46.h.1 rg46.h.2) ?_
      have hd2 := de_two12 (xs := bs) (lo := 5 * i + 3) (hi := 5 * i + 5) (by omega) (by omega)
      have hq3 := (bs.getD (5 * i + 3) 0).toNat_lt
      have hq4 := (bs.getD (5 * i + 3 + 1) 0).toNat_lt
      refine sq_y (yl_callC rfl (by simp; omega)) ?_
      refine sq_r (ry_convn rfl (by rw [hd2]; simp only [nb]; omega)) ?_
      refine sq_r (ry_field (o' := 32) rfl rfl) ?_
      refine sq_r (ry_idxA rfl rfl (by omega) (by omega)) ?_
      refine sq_bstNx rfl rfl i (by omega) (by simp only [Nat.add_eq, Int.toNat_natCast, Nat.mul_one, Nat.zero_add, Nat.add_zero] <;> omega) ?_
      refine sq_nil ?_
      refine ex_block ?_
      refine ex_then ?_
      refine cw_region ?_
      refine sq_r (ry_move rfl) ?_
      refine sq_r (ry_add rfl rfl (by omega)) ?_
      refine sq_r (ry_assign rfl) ?_
      refine sq_nil ?_
      exact ex_again (x := (i)) (i + 1) (by first | omega | (simp only []; omega)) (by first | omega | (simp only []; omega)) (Sub.cons rfl (Sub.cons rfl (Sub.cons rfl (Sub.cons rfl (Sub.nil _))))) (fun w hw => by rw [ref_round bs (by omega) rfl (by rw [hd2]; rfl) _ rfl _ _ rfl] at hw; exact Keep.mem hw)
    · try simp only [Bool.and_eq_true, Bool.or_eq_true, Bool.and_eq_false_iff, Bool.or_eq_false_iff, Bool.not_eq_true', Bool.not_eq_false', decide_eq_true_eq, decide_eq_false_iff_not, Bool.not_eq_true, Bool.not_eq_false] at h1
      obtain rfl : i = 16 := by omega
      refine cw_exit ?_
      refine ex_pass_exit ?_
      refine ex_pass_exit ?_
      refine ex_block_hit ?_
      refine ex_then ?_
      refine cw_seq ?_
      refine cw_seq ?_
      refine cw_region ?_
      refine sq_r (ry_whole rfl) ?_
      refine sq_y (yl_callC rfl trivial) ?_
      refine sq_r (ry_not rfl) ?_
      refine sq_nil ?_
      refine ex_then ?_
      refine cw_cond rfl (fun h2 => ?_) (fun h2 => ?_)
      · try simp only [Bool.and_eq_true, Bool.or_eq_true, Bool.and_eq_false_iff, Bool.or_eq_false_iff, Bool.not_eq_true', Bool.not_eq_false', decide_eq_true_eq, decide_eq_false_iff_not, Bool.not_eq_true, Bool.not_eq_false] at h2
        have hm : nmay (nget bs) = false := by simpa [nget] using h2
        refine cw_seq ?_
        refine cw_region ?_
        refine sq_r (ry_buildc rfl) ?_
        refine sq_storeW rfl rfl ?_
        refine sq_r (ry_assign rfl) ?_
        refine sq_nil ?_
        refine ex_then ?_
        refine cw_ret ?_
        refine ex_pass_ret ?_
        refine ex_ret (.inl rfl) (res_2 rfl (rv_agg rfl) (rv_tmp rfl)) (fun w1 hw => ?_)
        exact ⟨(by rw [readN, readE, if_neg (by rw [hm]; simp), if_pos hl, hm]; rfl), Keep.mem hw⟩
      · try simp only [Bool.and_eq_true, Bool.or_eq_true, Bool.and_eq_false_iff, Bool.or_eq_false_iff, Bool.not_eq_true', Bool.not_eq_false', decide_eq_true_eq, decide_eq_false_iff_not, Bool.not_eq_true, Bool.not_eq_false] at h2
        have hm : nmay (nget bs) = true := h2
        refine cw_skip ?_
        refine ex_then ?_
        refine cw_seq ?_
        refine cw_region ?_
        refine sq_r (ry_whole rfl) ?_
        refine sq_storeW rfl rfl ?_
        refine sq_r (ry_assign rfl) ?_
        refine sq_nil ?_
        refine ex_then ?_
        refine cw_ret ?_
        refine ex_ret (.inl rfl) (res_2 rfl (rv_agg rfl) (rv_tmp rfl)) (fun w1 hw => ?_)
        exact ⟨(by rw [readN, readE, if_pos ⟨hl, hm⟩, if_pos hl, if_pos hm]; rfl), Keep.mem hw⟩
instance rread12_i {w0 : World} {L : List Ent} {b : Sv} {bs : List UInt8} [hb : HdE w0 L benc 1 b bs] : FnQ Try.prog 23 w0 L [b.val] (.tuple #[.agg (ncells (readN bs)), .int .i64 (readE bs)]) (True) := ⟨fun hp w hw => rread12_c w b bs (hb.h w hw)⟩

end Go.Proofs.Ytembaconocgmlaa

/- Parts of bytes, an iterator: walked. -/
set_option linter.unusedSimpArgs false
set_option linter.unusedVariables false
namespace Go.Proofs.Ytembaconocgmlaa
open Go.Eng Go.Kb
set_option maxRecDepth 20000 in
theorem parts1_it {b2 b3 : Nat} {b : Sv} {bs : List UInt8} {c m : Nat} (hc : 0 < c) (hm : m = bs.length / c) : Iter Try.prog 87 #[.pointer (some ⟨b2, 0, none⟩), .pointer (some ⟨b3, 0, none⟩)] (fun k => [.int .i64 (k : Nat), (b.sub 1 (k * c) ((k + 1) * c)).val].toArray) m (fun w => w.cell? ⟨b2, 0, none⟩ = some b.val ∧ w.cell? ⟨b3, 0, none⟩ = some (.int .i64 (c : Nat)) ∧ Lies benc 1 (hp w) b bs) := by
  intro l J Jx W0 hJ hJx hN hY h0
  change Calls _ _ ([.func (.yield l) #[] #[], .pointer (some ⟨b2, 0, none⟩), .pointer (some ⟨b3, 0, none⟩)] : List Value).toArray _ _
  refine calls_of (args := [_, _, _]) Try.func87 rfl Try.ntmps87 rfl ?_
  change Cw _ _ _ _ _ [(0, .func (.yield l) #[] #[]), (1, .pointer (some ⟨b2, 0, none⟩)), (2, .pointer (some ⟨b3, 0, none⟩))] []
  refine cw_seq ?_
  refine cw_region ?_
  refine sq_r (ry_assign rfl) ?_
  refine sq_nil ?_
  refine ex_then ?_
  refine cw_block ?_
  refine cw_iter (X := Nat) (fun zz => [(4, .int .i64 (zz : Nat)), (0, .func (.yield l) #[] #[]), (1, .pointer (some ⟨b2, 0, none⟩)), (2, .pointer (some ⟨b3, 0, none⟩))]) (fun zz w => zz ≤ m ∧ J zz w) (fun zz => m - zz) 0 (Sub.cons rfl (Sub.cons rfl (Sub.cons rfl (Sub.cons rfl (Sub.nil _))))) (fun w hw => ⟨Nat.zero_le _, hJ _ _ _ h0 hw.below⟩) ?_
  rintro i W ⟨hi, hj⟩
  obtain ⟨n1, n2, n3⟩ := hN i W hj
  have gb : Gv W b benc 1 bs := ⟨n3⟩
  have hbd := n3.bd
  have hdv : ((bs.length : Nat) : Int) / ((c : Nat) : Int) = ((m : Nat) : Int) := by rw [hm]; exact (Int.natCast_ediv _ _).symm
  have hml : m * c ≤ bs.length := by rw [hm]; exact Nat.div_mul_le_self _ _
  have hmm : m ≤ m * c := Nat.le_mul_of_pos_right m hc
  refine cw_seq ?_
  refine cw_seq ?_
  refine cw_region ?_
  refine sq_r (ry_move rfl) ?_
  refine sq_r (ry_old rfl n1) ?_
  refine sq_r (ry_lenH rfl) ?_
  refine sq_r (ry_old rfl n2) ?_
  refine sq_r (ry_quo rfl rfl (by omega) (by omega)) ?_
  refine sq_r (ry_int rfl rfl rfl) ?_
  refine sq_nil ?_
  refine ex_then ?_
  refine cw_cond rfl (fun h0 => ?_) (fun h0 => ?_)
  · try simp only [Bool.and_eq_true, Bool.or_eq_true, Bool.and_eq_false_iff, Bool.or_eq_false_iff, Bool.not_eq_true', Bool.not_eq_false', decide_eq_true_eq, decide_eq_false_iff_not, Bool.not_eq_true, Bool.not_eq_false] at h0
    have him : i < m := by rw [hdv] at h0; omega
    have hmu : (i + 1) * c ≤ m * c := Nat.mul_le_mul_right c (by omega)
    have hmu2 : i * c ≤ (i + 1) * c := Nat.mul_le_mul_right c (by omega)
    have hmz : ((i : Nat) : Int) * ((c : Nat) : Int) = ((i * c : Nat) : Int) := (Int.natCast_mul _ _).symm
    have hmz2 : (((i : Nat) : Int) + 1) * ((c : Nat) : Int) = (((i + 1) * c : Nat) : Int) := by rw [Int.natCast_mul]; rfl
    refine cw_skip ?_
    refine ex_then ?_
    refine cw_seq ?_
    refine cw_block ?_
    refine cw_seq ?_
    refine cw_yields ?_
    refine si_r (ry_move rfl) ?_
    refine si_r (ry_move rfl) ?_
    refine si_r (ry_old rfl n1) ?_
    refine si_r (ry_move rfl) ?_
    refine si_r (ry_old rfl n2) ?_
    refine si_r (ry_mul rfl rfl (by omega)) ?_
    refine si_r (ry_move rfl) ?_
    refine si_r (ry_add rfl rfl (by omega)) ?_
    refine si_r (ry_old rfl n2) ?_
    refine si_r (ry_mul rfl rfl (by omega)) ?_
    have rg23 : Rg (i * c) ((i + 1) * c) bs.length := ⟨by omega⟩
    refine si_r (ry_subH rfl rfl rfl (i * c) ((i + 1) * c) rfl rfl rg23.h.1 rg23.h.2) ?_
    refine si_yield (vs := [.int .i64 (i : Nat), (b.sub 1 (i * c) ((i + 1) * c)).val]) rfl rfl (fun w hw => hY i w him (hJ _ _ _ hj hw.below)) (fun W2 hJ2 => ?_) (fun W2 hJ2 => ?_)
    · refine si_r (ry_not rfl) ?_
      refine si_nil ?_
      refine ex_then ?_
      refine cw_cond rfl (fun h1 => ?_) (fun h1 => ?_)
      · exfalso; simp at h1
      · try simp only [Bool.and_eq_true, Bool.or_eq_true, Bool.and_eq_false_iff, Bool.or_eq_false_iff, Bool.not_eq_true', Bool.not_eq_false', decide_eq_true_eq, decide_eq_false_iff_not, Bool.not_eq_true, Bool.not_eq_false] at h1
        refine cw_skip ?_
        refine ex_block ?_
        refine ex_then ?_
        refine cw_region ?_
        refine sq_r (ry_move rfl) ?_
        refine sq_r (ry_add rfl rfl (by omega)) ?_
        refine sq_r (ry_assign rfl) ?_
        refine sq_nil ?_
        exact ex_iter (i + 1) (by first | omega | (simp only []; omega)) (Sub.cons rfl (Sub.cons rfl (Sub.cons rfl (Sub.cons rfl (Sub.nil _))))) (fun w hw => ⟨by omega, hJ _ _ _ hJ2 hw.below⟩)
    · refine si_r (ry_not rfl) ?_
      refine si_nil ?_
      refine ex_then ?_
      refine cw_cond rfl (fun h1 => ?_) (fun h1 => ?_)
      · try simp only [Bool.and_eq_true, Bool.or_eq_true, Bool.and_eq_false_iff, Bool.or_eq_false_iff, Bool.not_eq_true', Bool.not_eq_false', decide_eq_true_eq, decide_eq_false_iff_not, Bool.not_eq_true, Bool.not_eq_false] at h1
        refine cw_ret ?_
        refine ex_block_ret ?_
        refine ex_pass_ret ?_
        refine ex_pass_ret ?_
        refine ex_block_ret ?_
        refine ex_ret (.inl rfl) (res_none rfl) (fun w1 hw => ?_)
        exact ⟨⟨_, rfl⟩, .inr ⟨_, hJx _ _ _ hJ2 hw.below⟩⟩
      · exfalso; simp at h1
  · try simp only [Bool.and_eq_true, Bool.or_eq_true, Bool.and_eq_false_iff, Bool.or_eq_false_iff, Bool.not_eq_true', Bool.not_eq_false', decide_eq_true_eq, decide_eq_false_iff_not, Bool.not_eq_true, Bool.not_eq_false] at h0
    obtain rfl : i = m := by rw [hdv] at h0; omega
    refine cw_exit ?_
    refine ex_pass_exit ?_
    refine ex_pass_exit ?_
    refine ex_block_hit ?_
    refine ex_ret (.inr rfl) (res_none rfl) (fun w1 hw => ?_)
    exact ⟨⟨_, rfl⟩, .inl (hJ _ _ _ hj hw.below)⟩
set_option maxRecDepth 20000 in
theorem parts_c (w : World) (b : Sv) (bs : List UInt8) (n : Int) (hb : Lies benc 1 (hp w) b bs) : Calls Try.prog 67 #[b.val, .int .i64 n] w fun e w' => ∃ zz : Nat × Nat, e = .returned (.func (.func 87) #[] #[.pointer (some ⟨zz.1, 0, none⟩), .pointer (some ⟨zz.2, 0, none⟩)]) ∧ (True) ∧ Mem w [blk zz.1 #[b.val] 30, blk zz.2 #[.int .i64 n] 3] w' := by
  have ghb : Gv w b benc 1 bs := ⟨hb⟩
  refine calls_of (args := [_, _]) Try.func67 rfl Try.ntmps67 rfl ?_
  change Cw _ _ _ _ _ [(0, b.val), (1, .int .i64 n)] []
  refine cw_seq ?_
  refine cw_region ?_
  refine sq_box1 (by first | rfl | exact Sv.cells_val _) rfl fun b2 => ?_
  refine sq_box1 (by first | rfl | exact Sv.cells_val _) rfl fun b3 => ?_
  refine sq_r (ry_assign rfl) ?_
  refine sq_nil ?_
  refine ex_then ?_
  refine cw_seq ?_
  refine cw_region ?_
  refine sq_r (ry_makeFunc rfl) ?_
  refine sq_r (ry_assign rfl) ?_
  refine sq_nil ?_
  refine ex_then ?_
  refine cw_ret ?_
  refine ex_ret (.inl rfl) (res_1 rfl (rv_tmp rfl)) (fun w1 hw => ?_)
  exact ⟨(b2, b3), rfl, trivial, (Keep.mem hw : Mem w [blk b2 #[b.val] 30, blk b3 #[.int .i64 n] 3] _)⟩
instance parts_i {w0 : World} {L : List Ent} {b : Sv} {bs : List UInt8} {n : Int} [hb : HdE w0 L benc 1 b bs] : FnC Try.prog 67 w0 L [b.val, .int .i64 n] (Nat × Nat) (fun zz => .func (.func 87) #[] #[.pointer (some ⟨zz.1, 0, none⟩), .pointer (some ⟨zz.2, 0, none⟩)]) (fun zz => blk zz.1 #[b.val] 30 :: blk zz.2 #[.int .i64 n] 3 :: L) (fun zz => True) (True) := ⟨fun hp w hw => (parts_c w b bs n (hb.h w hw)).mono fun e w' ⟨x, h1, h2, h3⟩ => ⟨x, h1, h2, hw.call h3⟩⟩

end Go.Proofs.Ytembaconocgmlaa

/- A node is read: walked. -/
set_option linter.unusedSimpArgs false
set_option linter.unusedVariables false
namespace Go.Proofs.Ytembaconocgmlaa
open Go.Eng Go.Kb
set_option maxRecDepth 20000 in
theorem ndread_c (w : World) (b : Sv) (bs : List UInt8) (hb : Lies benc 1 (hp w) b bs) : Calls Try.prog 21 #[b.val] w fun e w' => e = .returned (.tuple #[.agg (ncells (readN bs)), .int .i64 (readE bs)]) ∧ Mem w [] w' := by
  have ghb : Gv w b benc 1 bs := ⟨hb⟩
  refine calls_of (args := [_]) Try.func21 rfl Try.ntmps21 rfl ?_
  change Cw _ _ _ _ _ [(0, b.val)] []
  refine cw_seq ?_
  refine cw_region ?_
  refine sq_allocA fun b2 => ?_
  refine sq_r (ry_assign rfl) ?_
  refine sq_nil ?_
  refine ex_then ?_
  refine cw_seq ?_
  refine cw_seq ?_
  refine cw_region ?_
  refine sq_r (ry_move rfl) ?_
  refine sq_r (ry_lenH rfl) ?_
  refine sq_r (ry_int rfl rfl rfl) ?_
  refine sq_nil ?_
  refine ex_then ?_
  refine cw_cond rfl (fun h0 => ?_) (fun h0 => ?_)
  · try simp only [Bool.and_eq_true, Bool.or_eq_true, Bool.and_eq_false_iff, Bool.or_eq_false_iff, Bool.not_eq_true', Bool.not_eq_false', decide_eq_true_eq, decide_eq_false_iff_not, Bool.not_eq_true, Bool.not_eq_false] at h0
    obtain ⟨hr1, hr2⟩ := read_long (xs := bs) (by omega)
    refine cw_seq ?_
    refine cw_region ?_
    refine sq_r (ry_buildc rfl) ?_
    refine sq_storeW rfl rfl ?_
    refine sq_r (ry_assign rfl) ?_
    refine sq_nil ?_
    refine ex_then ?_
    refine cw_ret ?_
    refine ex_pass_ret ?_
    refine ex_ret (.inl rfl) (res_2 rfl (rv_agg rfl) (rv_tmp rfl)) (fun w1 hw => ?_)
    exact ⟨(by rw [hr1, hr2]), Keep.mem hw⟩
  · try simp only [Bool.and_eq_true, Bool.or_eq_true, Bool.and_eq_false_iff, Bool.or_eq_false_iff, Bool.not_eq_true', Bool.not_eq_false', decide_eq_true_eq, decide_eq_false_iff_not, Bool.not_eq_true, Bool.not_eq_false] at h0
    have hl : bs.length = 80 := by omega
    refine cw_skip ?_
    refine ex_then ?_
    refine cw_seq ?_
    refine cw_region ?_
    refine sq_allocA fun b4 => ?_
    refine sq_nil ?_
    refine ex_then ?_
    refine cw_seq ?_
    refine cw_seq ?_
    refine cw_region ?_
    refine sq_r (ry_move rfl) ?_
    refine sq_callC rfl trivial fun x12 hp12 => ?_
    refine sq_nil ?_
    refine ex_then ?_
    refine cw_block ?_
    refine cw_rangeFunc (vals := fun k => [.int .i64 (k : Nat), (b.sub 1 (k * 5) ((k + 1) * 5)).val]) (m := 16) (X := Unit) (Y := Unit) rfl (parts1_it (c := 5) (by decide) (by omega)) (fun _ => rfl) (by decide) (envI := [(4, .pointer (some ⟨b4, 0, none⟩)), (2, .pointer (some ⟨b2, 0, none⟩)), (12, .func (.func 87) #[] #[.pointer (some ⟨x12.1, 0, none⟩), .pointer (some ⟨x12.2, 0, none⟩)])]) (Sub.cons rfl (Sub.cons rfl (Sub.cons rfl (Sub.nil _)))) (fun k zz => [blk b4 (ncells (ngetP bs k)) 28, blk x12.1 #[b.val] 30, blk x12.2 #[.int .i64 (5 : Nat)] 3, blk b2 (ncells Nd.zero) 28]) (fun k zz => True) () trivial (fun w hw => by rw [ngetP_zero]; exact Keep.mem hw) (fun k zz w hI hw => ⟨(hw.cell (inferInstance : Has _ x12.1 _ _ _).h 0).trans rfl, (hw.cell (inferInstance : Has _ x12.2 _ _ _).h 0).trans rfl, hb.mono hw.below⟩) (fun yy => []) (fun yy => False) ?_ ?_ ?_
    · rintro lr k ⟨⟩ r0 hk hI
      have rg : Rg (k * 5) ((k + 1) * 5) bs.length := ⟨by omega, by omega⟩
      change Cw _ _ _ _ _ [(14, (b.sub 1 (k * 5) ((k + 1) * 5)).val), (13, .int .i64 (k : Nat)), (4, .pointer (some ⟨b4, 0, none⟩)), (2, .pointer (some ⟨b2, 0, none⟩)), (12, .func (.func 87) #[] #[.pointer (some ⟨x12.1, 0, none⟩), .pointer (some ⟨x12.2, 0, none⟩)])] (r0 :: [blk b4 (ncells (ngetP bs k)) 28, blk x12.1 #[b.val] 30, blk x12.2 #[.int .i64 (5 : Nat)] 3, blk b2 (ncells Nd.zero) 28])
      refine cw_seq ?_
      refine cw_region ?_
      refine sq_r (ry_assign rfl) ?_
      refine sq_nil ?_
      refine ex_then ?_
      refine cw_region ?_
      refine sq_r (ry_assign rfl) ?_
      refine sq_nil ?_
      refine ex_assigned [blk b4 (ncells (ngetP bs k)) 28, blk x12.1 #[b.val] 30, blk x12.2 #[.int .i64 (5 : Nat)] 3, blk b2 (ncells Nd.zero) 28] (fun w hw => Keep.mem hw) fun r1 => ?_
      refine cw_block ?_
      refine cw_seq ?_
      refine cw_lin [18] [[], [], [], [], [], [], [], [], [], [], [], [], [], [], [], [], [], [], []] [0, 1, 2, 3, 4, 5, 6, 7, 8, 9, 10, 11, 12, 13, 14, 15, 16, 17, 18] [] (fun _ hw => Keep.mem hw) (by kernel_rfl) (by kernel_rfl) ?_
      refine ln_r rfl (ry_move rfl) ?_
      refine ln_r rfl (ry_move rfl) ?_
      refine ln_r rfl (ry_idxH rfl rfl 0 rfl (by rw [sub_len (by omega)]; omega)) ?_
      refine ln_r rfl (ry_elemcH (j := 0) rfl 0 (sub_at5 hl hk 0 (by decide)) rfl (by decide)) ?_
      refine ln_r rfl (ry_conv_u8 rfl) ?_
      refine ln_r rfl (ry_move rfl) ?_
      refine ln_r rfl (ry_idxH rfl rfl 1 rfl (by rw [sub_len (by omega)]; omega)) ?_
      refine ln_r rfl (ry_elemcH (j := 0) rfl 1 (sub_at5 hl hk 1 (by decide)) rfl (by decide)) ?_
      refine ln_r rfl (ry_conv_u8 rfl) ?_
      refine ln_r rfl (ry_shl8 rfl rfl) ?_
      refine ln_r rfl (ry_move rfl) ?_
      refine ln_r rfl (ry_idxH rfl rfl 2 rfl (by rw [sub_len (by omega)]; omega)) ?_
      refine ln_r rfl (ry_elemcH (j := 0) rfl 2 (sub_at5 hl hk 2 (by decide)) rfl (by decide)) ?_
      refine ln_r rfl (ry_conv_u8 rfl) ?_
      refine ln_r rfl (Ry.to (v' := .int .u16 (hop16 (bs.getD (5 * k + 1) 0) (bs.getD (5 * k + 2) 0)).toNat) (ry_or8 rfl rfl) (by rw [hop16_toNat])) ?_
      refine ln_r rfl (Ry.to (v' := .agg (slcells (slotG bs k))) (ry_buildc rfl) rfl) ?_
      refine ln_r rfl (ry_field (o' := 0) rfl rfl) ?_
      refine ln_r rfl (ry_idxA rfl rfl (by omega) (by omega)) ?_
      refine ln_st rfl (st_bstSl rfl rfl k (by omega) (by simp only [Nat.add_eq, Int.toNat_natCast, Nat.mul_one, Nat.zero_add, Nat.add_zero] <;> omega) ⟨fun _ hw => Keep.mem hw, ?_⟩)
      refine ln_nil ?_
      refine ex_then ?_
      refine cw_lin [13] [[], [], [], [], [], [], [], [], [], [], [], [], [], []] [0, 1, 2, 3, 4, 5, 6, 7, 8, 9, 10, 11, 12, 13] [] (fun _ hw => Keep.mem hw) (by kernel_rfl) (by kernel_rfl) ?_
      refine ln_r rfl (ry_move rfl) ?_
      refine ln_r rfl (ry_move rfl) ?_
      refine ln_r rfl (ry_idxH rfl rfl 3 rfl (by rw [sub_len (by omega)]; omega)) ?_
      refine ln_r rfl (ry_elemcH (j := 0) rfl 3 (sub_at5 hl hk 3 (by decide)) rfl (by decide)) ?_
      refine ln_r rfl (ry_conv_u8 rfl) ?_
      refine ln_r rfl (ry_shl8 rfl rfl) ?_
      refine ln_r rfl (ry_move rfl) ?_
      refine ln_r rfl (ry_idxH rfl rfl 4 rfl (by rw [sub_len (by omega)]; omega)) ?_
      refine ln_r rfl (ry_elemcH (j := 0) rfl 4 (sub_at5 hl hk 4 (by decide)) rfl (by decide)) ?_
      refine ln_r rfl (ry_conv_u8 rfl) ?_
      refine ln_r rfl (Ry.to (v' := .int .i64 (nextR bs k)) (ry_or8 rfl rfl) (by rw [hop16_toNat]; rfl)) ?_
      refine ln_r rfl (ry_field (o' := 32) rfl rfl) ?_
      refine ln_r rfl (ry_idxA rfl rfl (by omega) (by omega)) ?_
      refine ln_st rfl (st_bstNx rfl rfl k (by omega) (by simp only [Nat.add_eq, Int.toNat_natCast, Nat.mul_one, Nat.zero_add, Nat.add_zero] <;> omega) ⟨fun _ hw => Keep.mem hw, ?_⟩)
      refine ln_nil ?_
      refine ex_block ?_
      exact ex_round () trivial (fun w hw => by rw [ngetP_succ bs hk] at hw; exact Keep.mem hw)
    · rintro D ⟨⟩ hI
      refine ex_block ?_
      refine ex_then ?_
      refine cw_seq ?_
      refine cw_seq ?_
      refine cw_region ?_
      refine sq_r (ry_whole rfl) ?_
      refine sq_y (yl_callC rfl trivial) ?_
      refine sq_r (ry_not rfl) ?_
      refine sq_nil ?_
      refine ex_then ?_
      refine cw_cond rfl (fun h1 => ?_) (fun h1 => ?_)
      · try simp only [Bool.and_eq_true, Bool.or_eq_true, Bool.and_eq_false_iff, Bool.or_eq_false_iff, Bool.not_eq_true', Bool.not_eq_false', decide_eq_true_eq, decide_eq_false_iff_not, Bool.not_eq_true, Bool.not_eq_false] at h1
        have hm : nmay (nget bs) = false := by simpa [nget] using h1
        refine cw_seq ?_
        refine cw_region ?_
        refine sq_r (ry_buildc rfl) ?_
        refine sq_storeW rfl rfl ?_
        refine sq_r (ry_assign rfl) ?_
        refine sq_nil ?_
        refine ex_then ?_
        refine cw_ret ?_
        refine ex_pass_ret ?_
        refine ex_retM (.inl rfl) (res_2 rfl (rv_agg rfl) (rv_tmp rfl)) (fun w1 hw => ?_)
        exact ⟨(by rw [readN, readE, if_neg (by rw [hm]; simp), if_pos hl, hm]; rfl), Keep.mem hw⟩
      · try simp only [Bool.and_eq_true, Bool.or_eq_true, Bool.and_eq_false_iff, Bool.or_eq_false_iff, Bool.not_eq_true', Bool.not_eq_false', decide_eq_true_eq, decide_eq_false_iff_not, Bool.not_eq_true, Bool.not_eq_false] at h1
        have hm : nmay (nget bs) = true := h1
        refine cw_skip ?_
        refine ex_then ?_
        refine cw_seq ?_
        refine cw_region ?_
        refine sq_r (ry_whole rfl) ?_
        refine sq_storeW rfl rfl ?_
        refine sq_r (ry_assign rfl) ?_
        refine sq_nil ?_
        refine ex_then ?_
        refine cw_ret ?_
        refine ex_retM (.inl rfl) (res_2 rfl (rv_agg rfl) (rv_tmp rfl)) (fun w1 hw => ?_)
        exact ⟨(by rw [readN, readE, if_pos ⟨hl, hm⟩, if_pos hl, if_pos hm]; rfl), Keep.mem hw⟩
    · exact fun _ _ h => h.elim
instance ndread_i {w0 : World} {L : List Ent} {b : Sv} {bs : List UInt8} [hb : HdE w0 L benc 1 b bs] : FnQ Try.prog 21 w0 L [b.val] (.tuple #[.agg (ncells (readN bs)), .int .i64 (readE bs)]) (True) := ⟨fun hp w hw => ndread_c w b bs (hb.h w hw)⟩

end Go.Proofs.Ytembaconocgmlaa

/- Many nodes are put, and read: walked. -/
set_option linter.unusedSimpArgs false
set_option linter.unusedVariables false
namespace Go.Proofs.Ytembaconocgmlaa
open Go.Eng Go.Kb
set_option maxRecDepth 20000 in
theorem ndall_c (w : World) (l : Sv) (ls : List Nd) (hl : Lies ncells 48 (hp w) l ls) : Calls Try.prog 25 #[l.val] w fun e w' => ∃ zz : Sv, e = .returned (.tuple #[zz.val, .int .i64 (allE ls)]) ∧ (True) ∧ Mem w [own benc 1 zz (allBV ls)] w' := by
  have ghl : Gv w l ncells 48 ls := ⟨hl⟩
  refine calls_of (args := [_]) Try.func25 rfl Try.ntmps25 rfl ?_
  change Cw _ _ _ _ _ [(0, l.val)] []
  refine cw_seq ?_
  refine cw_region ?_
  refine sq_r (ry_assign rfl) ?_
  refine sq_r (ry_assign rfl) ?_
  refine sq_nil ?_
  refine ex_then ?_
  refine cw_seq ?_
  refine cw_seq ?_
  refine cw_region ?_
  refine sq_r (ry_move rfl) ?_
  refine sq_r (ry_lenH rfl) ?_
  refine sq_r (ry_int rfl rfl rfl) ?_
  refine sq_nil ?_
  refine ex_then ?_
  refine cw_cond rfl (fun h0 => ?_) (fun h0 => ?_)
  · try simp only [Bool.and_eq_true, Bool.or_eq_true, Bool.and_eq_false_iff, Bool.or_eq_false_iff, Bool.not_eq_true', Bool.not_eq_false', decide_eq_true_eq, decide_eq_false_iff_not, Bool.not_eq_true, Bool.not_eq_false] at h0
    have hno : allOk ls = false := by rw [allOk, decide_eq_false (by omega)]; rfl
    refine cw_seq ?_
    refine cw_region ?_
    refine sq_r (ry_assign rfl) ?_
    refine sq_r (ry_assign rfl) ?_
    refine sq_nil ?_
    refine ex_then ?_
    refine cw_ret ?_
    refine ex_pass_ret ?_
    refine ex_ret (.inl rfl) (res_2 rfl (rv_tmp rfl) (rv_tmp rfl)) (fun w1 hw => ?_)
    exact ⟨Sv.none, by rw [allE, hno]; rfl, trivial, by rw [allBV, hno]; exact (Keep.mem hw : Mem w [] _).nilOwn benc 1⟩
  · try simp only [Bool.and_eq_true, Bool.or_eq_true, Bool.and_eq_false_iff, Bool.or_eq_false_iff, Bool.not_eq_true', Bool.not_eq_false', decide_eq_true_eq, decide_eq_false_iff_not, Bool.not_eq_true, Bool.not_eq_false] at h0
    have hlen : ls.length ≤ 512 := by omega
    refine cw_skip ?_
    refine ex_then ?_
    refine cw_seq ?_
    refine cw_region ?_
    refine sq_r (ry_move rfl) ?_
    refine sq_r (ry_lenH rfl) ?_
    refine sq_r (ry_mul rfl rfl (by omega)) ?_
    refine sq_makeS (enc := benc) (n := 0) (cap := (ls.length * 80)) 0 rfl rfl rfl rfl rfl (by omega) (by omega) (by omega) fun b13 => ?_
    refine sq_r (ry_assign rfl) ?_
    refine sq_nil ?_
    refine ex_then ?_
    refine cw_seq ?_
    refine cw_seq ?_
    refine cw_region ?_
    refine sq_r (ry_move rfl) ?_
    refine sq_r (ry_lenH rfl) ?_
    refine sq_r (ry_move rfl) ?_
    refine sq_nil ?_
    refine ex_then ?_
    refine cw_block ?_
    refine cw_loop (X := Nat × Sv) (fun zz => [(16, .int .i64 (zz.1 : Nat)), (4, zz.2.val), (14, l.val), (15, .int .i64 (ls.length : Nat))]) (fun zz => [own benc 1 zz.2 (allB (ls.take zz.1))]) (fun zz => zz.1 ≤ ls.length ∧ ∀ j x, j < zz.1 → ls[j]? = some x → nmay x = true) (fun zz => ls.length - zz.1) (0, _) ⟨Nat.zero_le _, fun j x hj => by first | omega | (simp only []; omega)⟩ (Sub.cons rfl (Sub.cons rfl (Sub.cons rfl (Sub.cons rfl (Sub.nil _))))) (fun w hw => (Keep.mem hw : Mem _ [own benc 1 _ (List.replicate 0 0)] _)) ?_
    rintro ⟨i, s1⟩ ⟨hi1, hi2⟩
    dsimp only
    simp only at hi1 hi2
    have hal := allB_length (ls.take i)
    have htl := List.length_take (l := ls) (i := i)
    refine cw_seq ?_
    refine cw_region ?_
    refine sq_r (ry_int rfl rfl rfl) ?_
    refine sq_nil ?_
    refine ex_then ?_
    refine cw_seq ?_
    refine cw_cond rfl (fun h1 => ?_) (fun h1 => ?_)
    · try simp only [Bool.and_eq_true, Bool.or_eq_true, Bool.and_eq_false_iff, Bool.or_eq_false_iff, Bool.not_eq_true', Bool.not_eq_false', decide_eq_true_eq, decide_eq_false_iff_not, Bool.not_eq_true, Bool.not_eq_false] at h1
      refine cw_skip ?_
      refine ex_then ?_
      refine cw_seq ?_
      refine cw_block ?_
      refine cw_seq ?_
      refine cw_region ?_
      obtain ⟨e18, he18⟩ := get_some (xs := ls) (i := i) (by omega)
      refine sq_r (ry_idxH rfl rfl i rfl (by omega)) ?_
      refine sq_r (ry_elemH rfl i he18 rfl) ?_
      refine sq_allocA fun b6 => ?_
      refine sq_storeW rfl rfl ?_
      refine sq_nil ?_
      refine ex_then ?_
      refine cw_seq ?_
      refine cw_seq ?_
      refine cw_region ?_
      refine sq_r (ry_whole rfl) ?_
      refine sq_y (yl_callC rfl trivial) ?_
      refine sq_r (ry_not rfl) ?_
      refine sq_nil ?_
      refine ex_then ?_
      refine cw_cond rfl (fun h2 => ?_) (fun h2 => ?_)
      · try simp only [Bool.and_eq_true, Bool.or_eq_true, Bool.and_eq_false_iff, Bool.or_eq_false_iff, Bool.not_eq_true', Bool.not_eq_false', decide_eq_true_eq, decide_eq_false_iff_not, Bool.not_eq_true, Bool.not_eq_false] at h2
        have hno : allOk ls = false := allOk_no he18 (by rw [h2]; simp)
        refine cw_seq ?_
        refine cw_region ?_
        refine sq_r (ry_assign rfl) ?_
        refine sq_r (ry_assign rfl) ?_
        refine sq_nil ?_
        refine ex_then ?_
        refine cw_ret ?_
        refine ex_pass_ret ?_
        refine ex_block_ret ?_
        refine ex_pass_ret ?_
        refine ex_pass_ret ?_
        refine ex_block_ret ?_
        refine ex_pass_ret ?_
        refine ex_ret (.inl rfl) (res_2 rfl (rv_tmp rfl) (rv_tmp rfl)) (fun w1 hw => ?_)
        exact ⟨Sv.none, by rw [allE, hno]; rfl, trivial, by rw [allBV, hno]; exact (Keep.mem hw : Mem w [] _).nilOwn benc 1⟩
      · try simp only [Bool.and_eq_true, Bool.or_eq_true, Bool.and_eq_false_iff, Bool.or_eq_false_iff, Bool.not_eq_true', Bool.not_eq_false', decide_eq_true_eq, decide_eq_false_iff_not, Bool.not_eq_true, Bool.not_eq_false] at h2
        refine cw_skip ?_
        refine ex_then ?_
        refine cw_region ?_
        refine sq_r (ry_move rfl) ?_
        refine sq_r (ry_whole rfl) ?_
        refine sq_callC rfl ⟨h2, by omega⟩ fun x25 hp25 => ?_
        refine sq_r (ry_assign rfl) ?_
        refine sq_nil ?_
        refine ex_block ?_
        refine ex_then ?_
        refine cw_region ?_
        refine sq_r (ry_add rfl rfl (by omega)) ?_
        refine sq_r (ry_move rfl) ?_
        refine sq_nil ?_
        exact ex_again (x := (i, s1)) (i + 1, x25) ⟨by simp only; omega, fun j x hj hx => if e : j = i then (by subst e; rw [he18] at hx; cases hx; exact h2) else hi2 j x (by first | omega | (simp only []; omega)) hx⟩ (by simp only; omega) (Sub.cons rfl (Sub.cons rfl (Sub.cons rfl (Sub.cons rfl (Sub.nil _))))) (fun w hw => by rw [allB_snoc he18]; exact Keep.mem hw)
    · try simp only [Bool.and_eq_true, Bool.or_eq_true, Bool.and_eq_false_iff, Bool.or_eq_false_iff, Bool.not_eq_true', Bool.not_eq_false', decide_eq_true_eq, decide_eq_false_iff_not, Bool.not_eq_true, Bool.not_eq_false] at h1
      obtain rfl : i = ls.length := by omega
      have hyes : allOk ls = true := by rw [allOk, decide_eq_true hlen, Bool.true_and]; exact List.all_eq_true.2 (fun x hx => by obtain ⟨j, hj, rfl⟩ := List.getElem_of_mem hx; exact hi2 j _ hj (by simp [hj]))
      refine cw_exit ?_
      refine ex_pass_exit ?_
      refine ex_pass_exit ?_
      refine ex_block_hit ?_
      refine ex_then ?_
      refine cw_seq ?_
      refine cw_region ?_
      refine sq_r (ry_move rfl) ?_
      refine sq_r (ry_assign rfl) ?_
      refine sq_r (ry_assign rfl) ?_
      refine sq_nil ?_
      refine ex_then ?_
      refine cw_ret ?_
      refine ex_ret (.inl rfl) (res_2 rfl (rv_tmp rfl) (rv_tmp rfl)) (fun w1 hw => ?_)
      exact ⟨s1, by simp [allE, hyes], trivial, by rw [allBV, if_pos hyes]; rw [List.take_length] at hw; exact Keep.mem hw⟩
instance ndall_i {w0 : World} {L : List Ent} {l : Sv} {ls : List Nd} [hl : HdE w0 L ncells 48 l ls] : FnC Try.prog 25 w0 L [l.val] (Sv) (fun zz => .tuple #[zz.val, .int .i64 (allE ls)]) (fun zz => own benc 1 zz (allBV ls) :: L) (fun zz => True) (True) := ⟨fun hp w hw => (ndall_c w l ls (hl.h w hw)).mono fun e w' ⟨x, h1, h2, h3⟩ => ⟨x, h1, h2, hw.call h3⟩⟩
set_option maxRecDepth 20000 in
theorem ndrall_c (w : World) (b : Sv) (bs : List UInt8) (hb : Lies benc 1 (hp w) b bs) : Calls Try.prog 26 #[b.val] w fun e w' => ∃ zz : Sv, e = .returned (.tuple #[zz.val, .int .i64 (rallE bs)]) ∧ (True) ∧ Mem w [own ncells 48 zz (rallN bs)] w' := by
  have ghb : Gv w b benc 1 bs := ⟨hb⟩
  refine calls_of (args := [_]) Try.func26 rfl Try.ntmps26 rfl ?_
  change Cw _ _ _ _ _ [(0, b.val)] []
  refine cw_seq ?_
  refine cw_region ?_
  refine sq_alloc1 (z := Sv.none.val) rfl fun b2 => ?_
  refine sq_alloc1 (z := .int .i64 0) rfl fun b3 => ?_
  refine sq_nil ?_
  refine ex_then ?_
  refine cw_seq ?_
  refine cw_seq ?_
  refine cw_region ?_
  refine sq_r (ry_move rfl) ?_
  refine sq_r (ry_lenH rfl) ?_
  refine sq_r (ry_remn (p := bs.length) (q := 80) rfl rfl rfl rfl (by omega)) ?_
  refine sq_r (ry_int rfl rfl rfl) ?_
  refine sq_r (ry_move rfl) ?_
  refine sq_gf rfl rfl rfl (fun hg => (Ry.yl (ry_move rfl))) ?_
  refine sq_gf rfl rfl rfl (fun hg => (Ry.yl (ry_lenH (ev_c hg rfl)))) ?_
  refine sq_gf rfl rfl rfl (fun hg => (Ry.yl (ry_int (ev_c hg rfl) rfl rfl))) ?_
  refine sq_r (ry_or rfl rfl rfl) ?_
  refine sq_nil ?_
  refine ex_then ?_
  refine cw_cond rfl (fun h0 => ?_) (fun h0 => ?_)
  · try simp only [Bool.and_eq_true, Bool.or_eq_true, Bool.and_eq_false_iff, Bool.or_eq_false_iff, Bool.not_eq_true', Bool.not_eq_false', decide_eq_true_eq, decide_eq_false_iff_not, Bool.not_eq_true, Bool.not_eq_false] at h0
    obtain ⟨hr1, hr2⟩ := rall_bad (xs := bs) (by omega)
    refine cw_seq ?_
    refine cw_region ?_
    refine sq_store1 (v := Sv.none.val) (by first | rfl | exact Sv.one _) rfl rfl ?_
    refine sq_store1 (by first | rfl | exact Sv.one _) rfl rfl ?_
    refine sq_nil ?_
    refine ex_then ?_
    refine cw_ret ?_
    refine ex_pass_ret ?_
    refine ex_ret (.inl rfl) (res_2 rfl (rv_one rfl rfl) (rv_one rfl rfl)) (fun w1 hw => ?_)
    exact ⟨Sv.none, by rw [hr1]; rfl, trivial, by rw [hr2]; exact (Keep.mem hw : Mem w [] _).nilOwn ncells 48⟩
  · try simp only [Bool.and_eq_true, Bool.or_eq_true, Bool.and_eq_false_iff, Bool.or_eq_false_iff, Bool.not_eq_true', Bool.not_eq_false', decide_eq_true_eq, decide_eq_false_iff_not, Bool.not_eq_true, Bool.not_eq_false] at h0
    have hg : ¬ (bs.length % 80 ≠ 0 ∨ 40960 < bs.length) := by omega
    refine cw_skip ?_
    refine ex_then ?_
    refine cw_seq ?_
    refine cw_region ?_
    refine sq_r (ry_move rfl) ?_
    refine sq_r (ry_lenH rfl) ?_
    refine sq_r (ry_quo rfl rfl (by omega) (by omega)) ?_
    refine sq_makeS (enc := ncells) (n := 0) (cap := (bs.length / 80)) Nd.zero rfl rfl rfl rfl rfl (by omega) (by omega) (by omega) fun b21 => ?_
    refine sq_alloc1 (z := Sv.none.val) rfl fun b4 => ?_
    refine sq_store1 (by first | rfl | exact Sv.one _) rfl rfl ?_
    refine sq_nil ?_
    refine ex_then ?_
    refine cw_seq ?_
    refine cw_seq ?_
    refine cw_region ?_
    refine sq_r (ry_move rfl) ?_
    refine sq_callC rfl trivial fun x23 hp23 => ?_
    refine sq_nil ?_
    refine ex_then ?_
    refine cw_block ?_
    refine cw_rangeFunc (vals := fun k => [.int .i64 (k : Nat), (b.sub 1 (k * 80) ((k + 1) * 80)).val]) (m := (bs.length / 80)) (X := Sv) (Y := Unit) rfl (parts1_it (c := 80) (by decide) rfl) (fun _ => rfl) (by decide) (envI := [(4, .pointer (some ⟨b4, 0, none⟩)), (2, .pointer (some ⟨b2, 0, none⟩)), (3, .pointer (some ⟨b3, 0, none⟩)), (23, .func (.func 87) #[] #[.pointer (some ⟨x23.1, 0, none⟩), .pointer (some ⟨x23.2, 0, none⟩)])]) (Sub.cons rfl (Sub.cons rfl (Sub.cons rfl (Sub.cons rfl (Sub.nil _))))) (fun k zz => [blk b4 #[zz.val] 38, own ncells 48 zz (readAllL bs k), blk x23.1 #[b.val] 30, blk x23.2 #[.int .i64 (80 : Nat)] 3, blk b2 #[Sv.none.val] 38, blk b3 #[.int .i64 0] 31]) (fun k zz => okParts bs k = true) ⟨false, b21, 0, 0, bs.length / 80, none⟩ rfl (fun w hw => (Keep.mem hw : Mem _ [blk b4 #[(⟨false, b21, 0, 0, bs.length / 80, none⟩ : Sv).val] 38, own ncells 48 ⟨false, b21, 0, 0, bs.length / 80, none⟩ (List.replicate 0 Nd.zero), blk x23.1 #[b.val] 30, blk x23.2 #[.int .i64 (80 : Nat)] 3, blk b2 #[Sv.none.val] 38, blk b3 #[.int .i64 0] 31] _)) (fun k zz w hI hw => ⟨(hw.cell (inferInstance : Has _ x23.1 _ _ _).h 0).trans rfl, (hw.cell (inferInstance : Has _ x23.2 _ _ _).h 0).trans rfl, hb.mono hw.below⟩) (fun yy => [blk b2 #[Sv.none.val] 38, blk b3 #[.int .i64 2] 31]) (fun yy => okParts bs (bs.length / 80) = false) ?_ ?_ ?_
    · rintro lr k s1 r0 hk hI
      have rg : Rg (k * 80) ((k + 1) * 80) bs.length := ⟨by omega, by omega⟩
      have hrl := readAll_length bs k
      change Cw _ _ _ _ _ [(25, (b.sub 1 (k * 80) ((k + 1) * 80)).val), (24, .int .i64 (k : Nat)), (4, .pointer (some ⟨b4, 0, none⟩)), (2, .pointer (some ⟨b2, 0, none⟩)), (3, .pointer (some ⟨b3, 0, none⟩)), (23, .func (.func 87) #[] #[.pointer (some ⟨x23.1, 0, none⟩), .pointer (some ⟨x23.2, 0, none⟩)])] (r0 :: [blk b4 #[s1.val] 38, own ncells 48 s1 (readAllL bs k), blk x23.1 #[b.val] 30, blk x23.2 #[.int .i64 (80 : Nat)] 3, blk b2 #[Sv.none.val] 38, blk b3 #[.int .i64 0] 31])
      refine cw_region ?_
      refine sq_r (ry_assign rfl) ?_
      refine sq_nil ?_
      refine ex_assigned [blk b4 #[s1.val] 38, own ncells 48 s1 (readAllL bs k), blk x23.1 #[b.val] 30, blk x23.2 #[.int .i64 (80 : Nat)] 3, blk b2 #[Sv.none.val] 38, blk b3 #[.int .i64 0] 31] (fun w hw => Keep.mem hw) fun r1 => ?_
      refine cw_block ?_
      refine cw_seq ?_
      refine cw_region ?_
      refine sq_r (ry_move rfl) ?_
      refine sq_y (yl_callC rfl trivial) ?_
      refine sq_r (ry_move rfl) ?_
      refine sq_r (ry_extract (v := .agg (ncells (readN ((bs.drop (k * 80)).take ((k + 1) * 80 - k * 80))))) rfl rfl) ?_
      refine sq_r (ry_extract (v := .int .i64 (readE ((bs.drop (k * 80)).take ((k + 1) * 80 - k * 80)))) rfl rfl) ?_
      refine sq_allocA fun b7 => ?_
      refine sq_storeW rfl rfl ?_
      refine sq_r (ry_assign rfl) ?_
      refine sq_nil ?_
      refine ex_then ?_
      refine cw_seq ?_
      refine cw_seq ?_
      refine cw_region ?_
      refine sq_r (ry_move rfl) ?_
      refine sq_r (ry_int rfl rfl rfl) ?_
      refine sq_nil ?_
      refine ex_then ?_
      refine cw_cond rfl (fun h1 => ?_) (fun h1 => ?_)
      · try simp only [Bool.and_eq_true, Bool.or_eq_true, Bool.and_eq_false_iff, Bool.or_eq_false_iff, Bool.not_eq_true', Bool.not_eq_false', decide_eq_true_eq, decide_eq_false_iff_not, Bool.not_eq_true, Bool.not_eq_false] at h1
        obtain ⟨q1, q2, q3⟩ | ⟨q1, q2, q3⟩ := readE_80 (part80_length hk); (exact absurd q1 (by rw [part80_eq] at h1; exact h1))
        refine cw_seq ?_
        refine cw_region ?_
        refine sq_r (ry_move rfl) ?_
        refine sq_store1 (v := Sv.none.val) (by first | rfl | exact Sv.one _) rfl rfl ?_
        refine sq_store1 (by first | rfl | exact Sv.one _) rfl rfl ?_
        refine sq_nil ?_
        refine ex_then ?_
        refine cw_ret ?_
        refine ex_pass_ret ?_
        refine ex_block_ret ?_
        exact ex_roundRet () (okParts_no hk q3) (fun w hw => by rw [part80_eq, q1] at hw; exact Keep.mem hw)
      · try simp only [Bool.and_eq_true, Bool.or_eq_true, Bool.and_eq_false_iff, Bool.or_eq_false_iff, Bool.not_eq_true', Bool.not_eq_false', decide_eq_true_eq, decide_eq_false_iff_not, Bool.not_eq_true, Bool.not_eq_false] at h1
        obtain ⟨q1, q2, q3⟩ | ⟨q1, q2, q3⟩ := readE_80 (part80_length hk); rotate_left; (exact absurd (by rw [part80_eq] at h1; exact h1) (by rw [q1]; decide))
        refine cw_skip ?_
        refine ex_then ?_
        refine cw_region ?_
        refine sq_r (ry_cellc rfl) ?_
        refine sq_r (ry_whole rfl) ?_
        refine sq_buildSlice (enc := ncells) (vals := [_]) [(readN ((bs.drop (k * 80)).take ((k + 1) * 80 - k * 80)))] rfl rfl rfl (by decide) (by decide) fun b36 => ?_
        refine sq_append (s := s1) (ys := [(readN ((bs.drop (k * 80)).take ((k + 1) * 80 - k * 80)))]) rfl rfl (by decide) (fun w hw => src_rows (s := ⟨false, b36, 0, 1, 1, none⟩) Try.underlying38 (by decide) ((inferInstance : Hd _ _ ⟨false, b36, 0, 1, 1, none⟩ ncells 48 [(readN ((bs.drop (k * 80)).take ((k + 1) * 80 - k * 80)))]).h w hw)) (by simp only [List.length_append, List.length_cons, List.length_nil]; omega) (by simp only [List.length_append, List.length_cons, List.length_nil]; omega) fun s37 hs37 hl37 => ?_
        refine sq_store1 (by first | rfl | exact Sv.one _) rfl rfl ?_
        refine sq_nil ?_
        refine ex_block ?_
        exact ex_round s37 (by rw [okParts_succ, hI, q3]; rfl) (fun w hw => by rw [part80_eq, q2] at hw; rw [readAll_succ]; exact Keep.mem hw)
    · rintro D s1 hI
      obtain ⟨hr1, hr2⟩ := rall_ok hg hI
      refine ex_block ?_
      refine ex_then ?_
      refine cw_seq ?_
      refine cw_region ?_
      refine sq_r (ry_cellc rfl) ?_
      refine sq_store1 (by first | rfl | exact Sv.one _) rfl rfl ?_
      refine sq_store1 (by first | rfl | exact Sv.one _) rfl rfl ?_
      refine sq_nil ?_
      refine ex_then ?_
      refine cw_ret ?_
      refine ex_retM (.inl rfl) (res_2 rfl (rv_one rfl rfl) (rv_one rfl rfl)) (fun w1 hw => ?_)
      exact ⟨s1, by rw [hr1]; rfl, trivial, by rw [hr2]; exact Keep.mem hw⟩
    · rintro D ⟨⟩ hJ
      refine ex_block_ret ?_
      refine ex_pass_ret ?_
      refine ex_retM (.inl rfl) (res_2 rfl (rv_one rfl rfl) (rv_one rfl rfl)) (fun w1 hw => ?_)
      exact ⟨Sv.none, by rw [(rall_no hg hJ).1]; rfl, trivial, by rw [(rall_no hg hJ).2]; exact (Keep.mem hw : Mem w [] _).nilOwn ncells 48⟩
instance ndrall_i {w0 : World} {L : List Ent} {b : Sv} {bs : List UInt8} [hb : HdE w0 L benc 1 b bs] : FnC Try.prog 26 w0 L [b.val] (Sv) (fun zz => .tuple #[zz.val, .int .i64 (rallE bs)]) (fun zz => own ncells 48 zz (rallN bs) :: L) (fun zz => True) (True) := ⟨fun hp w hw => (ndrall_c w b bs (hb.h w hw)).mono fun e w' ⟨x, h1, h2, h3⟩ => ⟨x, h1, h2, hw.call h3⟩⟩

end Go.Proofs.Ytembaconocgmlaa

