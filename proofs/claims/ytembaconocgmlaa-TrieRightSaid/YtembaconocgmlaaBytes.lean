/- Bytes as numbers, walked. -/
import Derived.Test.YtembaconocgmlaaRinst
import Derived.Test.YtembaconocgmlaaBy
import Derived.Test.YtembaconocgmlaaPl
set_option linter.unusedSimpArgs false
set_option linter.unusedVariables false
namespace Go.Proofs.Ytembaconocgmlaa
open Go.Eng Go.Kb
set_option maxRecDepth 20000 in
theorem put_c (w : World) (n many : Nat) (hn : n < 2 ^ 64) (hm : 1 ≤ many ∧ many ≤ 8) : Calls Try.prog 68 #[.int .u64 (n : Nat), .int .i64 (many : Nat)] w fun e w' => ∃ s : Sv, e = .returned s.val ∧ s.Ok ∧ s.len = many ∧ Mem w [own benc 1 s (be n many)] w' := by
  refine calls_of (args := [_, _]) Try.func68 rfl Try.ntmps68 rfl ?_
  change Cw _ _ _ _ _ [(0, .int .u64 (n : Nat)), (1, .int .i64 (many : Nat))] []
  refine cw_seq ?_
  refine cw_region ?_
  refine sq_r (ry_assign rfl) ?_
  refine sq_nil ?_
  refine ex_then ?_
  refine cw_seq ?_
  refine cw_region ?_
  refine sq_r (ry_assign rfl) ?_
  refine sq_nil ?_
  refine ex_then ?_
  refine cw_seq ?_
  refine cw_seq ?_
  refine cw_region ?_
  refine sq_r (ry_move rfl) ?_
  refine sq_r (ry_int rfl rfl rfl) ?_
  refine sq_r (ry_move rfl) ?_
  refine sq_gf rfl rfl rfl (fun hg => (ry_move rfl).yl) ?_
  refine sq_gf rfl rfl rfl (fun hg => (ry_int (ev_c hg rfl) rfl rfl).yl) ?_
  refine sq_r (ry_or rfl rfl rfl) ?_
  refine sq_nil ?_
  refine ex_then ?_
  refine cw_cond rfl (fun h0 => ?_) (fun h0 => ?_)
  · exfalso; simp at h0; omega
  · refine cw_skip ?_
    refine ex_then ?_
    refine cw_seq ?_
    refine cw_seq ?_
    refine cw_region ?_
    refine sq_r (ry_assign rfl) ?_
    refine sq_nil ?_
    refine ex_then ?_
    refine cw_block ?_
    refine cw_loop (X := Nat × Sv) (fun x => [(0, .int .u64 (n / 256 ^ x.1 : Nat)), (1, .int .i64 (many : Nat)), (6, .int .i64 (x.1 : Nat)), (5, x.2.val)]) (fun x => [own benc 1 x.2 (be n x.1)]) (fun x => x.1 ≤ many ∧ x.2.Ok ∧ x.2.len = x.1) (fun x => many - x.1) (0, Sv.none) ⟨by omega, Sv.none_ok, rfl⟩ (Sub.cons (look_eq rfl (by simp)) (Sub.cons rfl (Sub.cons rfl (Sub.cons rfl (Sub.nil _))))) (fun w hw => hw.nilOwn benc 1) ?_
    rintro ⟨i, s⟩ ⟨hi1, hi2, hi3⟩
    refine cw_seq ?_
    refine cw_seq ?_
    refine cw_region ?_
    refine sq_r (ry_move rfl) ?_
    refine sq_r (ry_move rfl) ?_
    refine sq_r (ry_int rfl rfl rfl) ?_
    refine sq_nil ?_
    refine ex_then ?_
    refine cw_cond rfl (fun h1 => ?_) (fun h1 => ?_)
    · simp only [decide_eq_true_eq] at h1
      refine cw_skip ?_
      refine ex_then ?_
      refine cw_seq ?_
      refine cw_block ?_
      refine cw_seq ?_
      refine cw_region ?_
      refine sq_r (ry_move rfl) ?_
      refine sq_r (ry_remn rfl rfl rfl rfl (by decide)) ?_
      refine sq_r (ry_conv8 rfl rfl) ?_
      refine sq_buildSlice (enc := benc) [b8 (n / 256 ^ i)] (vals := [_]) rfl (by rw [b8_mod]; rfl) rfl (by decide) (by decide) fun b22 => ?_
      refine sq_r (ry_move rfl) ?_
      refine sq_append (ys := be n i) rfl rfl (by decide) (fun w hw => src_rows Try.underlying30 (by decide) ((inferInstance : Owns _ s _ _ _ _).holds w hw)) (by simp [be_length]; omega) (by simp [be_length]; omega) fun s24 hs24 hl24 => ?_
      refine sq_r (ry_assign rfl) ?_
      refine sq_nil ?_
      refine ex_then ?_
      refine cw_region ?_
      refine sq_r (ry_move rfl) ?_
      refine sq_r (ry_quon rfl rfl rfl rfl (Nat.lt_of_le_of_lt (Nat.div_le_self _ _) hn) (by decide)) ?_
      refine sq_r (ry_assign rfl) ?_
      refine sq_nil ?_
      refine ex_block ?_
      refine ex_then ?_
      refine cw_region ?_
      refine sq_r (ry_move rfl) ?_
      refine sq_r (ry_add rfl rfl (by omega)) ?_
      refine sq_r (ry_assign rfl) ?_
      refine sq_nil ?_
      exact ex_again (i + 1, s24) ⟨by omega, hs24, hl24.trans (by simp [be_length])⟩ (by omega) (Sub.cons (look_eq rfl (by rw [Nat.div_div_eq_div_mul, Nat.pow_succ])) (Sub.cons rfl (Sub.cons rfl (Sub.cons rfl (Sub.nil _))))) (fun w hw => hw.sub (List.Sublist.cons_cons _ (List.nil_sublist _)))
    · simp only [decide_eq_false_iff_not] at h1
      refine cw_exit ?_
      refine ex_pass_exit ?_
      refine ex_pass_exit ?_
      refine ex_block_hit ?_
      refine ex_then ?_
      refine cw_seq ?_
      refine cw_region ?_
      refine sq_r (ry_move rfl) ?_
      refine sq_r (ry_assign rfl) ?_
      refine sq_nil ?_
      refine ex_then ?_
      refine cw_ret ?_
      refine ex_ret (.inl rfl) (res_tmp rfl rfl) (fun w hw => ?_)
      exact ⟨s, rfl, hi2, (show s.len = i from hi3).trans (by omega), by rwa [show i = many by omega] at hw⟩

set_option maxRecDepth 20000 in
theorem get_c (w : World) (s : Sv) (xs : List UInt8) (hs : Lies benc 1 (hp w) s xs) (hm : xs.length ≤ 7) : Calls Try.prog 69 #[s.val] w fun e w' => e = .returned (.int .u64 (de xs : Nat)) ∧ Mem w [] w' := by
  refine calls_of (args := [_]) Try.func69 rfl Try.ntmps69 rfl ?_
  change Cw _ _ _ _ _ [(0, s.val)] []
  refine cw_seq ?_
  refine cw_region ?_
  refine sq_r (ry_assign rfl) ?_
  refine sq_nil ?_
  refine ex_then ?_
  refine cw_seq ?_
  refine cw_region ?_
  refine sq_r (ry_assign rfl) ?_
  refine sq_nil ?_
  refine ex_then ?_
  refine cw_seq ?_
  refine cw_seq ?_
  refine cw_region ?_
  refine sq_r (ry_assign rfl) ?_
  refine sq_nil ?_
  refine ex_then ?_
  refine cw_block ?_
  refine cw_loop (X := Nat) (fun i => [(0, s.val), (3, .int .u64 (de (xs.take i) : Nat)), (4, .int .i64 (i : Nat))]) (fun i => []) (fun i => i ≤ xs.length) (fun i => xs.length - i) 0 (by omega) (Sub.cons rfl (Sub.cons rfl (Sub.cons rfl (Sub.nil _)))) (fun w hw => hw) ?_
  rintro i hi
  refine cw_seq ?_
  refine cw_seq ?_
  refine cw_region ?_
  refine sq_r (ry_move rfl) ?_
  refine sq_r (ry_move rfl) ?_
  refine sq_r (ry_lenS rfl hs.ok hs.len) ?_
  refine sq_r (ry_int rfl rfl rfl) ?_
  refine sq_nil ?_
  refine ex_then ?_
  refine cw_cond rfl (fun h0 => ?_) (fun h0 => ?_)
  · simp only [decide_eq_true_eq] at h0
    obtain ⟨b, hb⟩ := get_some (xs := xs) (i := i) (by omega)
    have hlt : de (xs.take i) < 256 ^ 7 := Nat.lt_of_lt_of_le (de_lt xs i hi) (Nat.pow_le_pow_right (by decide) (by omega))
    have hbl := b.toNat_lt
    refine cw_skip ?_
    refine ex_then ?_
    refine cw_seq ?_
    refine cw_block ?_
    refine cw_region ?_
    refine sq_r (ry_move rfl) ?_
    refine sq_r (ry_muln rfl rfl rfl rfl (by simp only [nb]; omega)) ?_
    refine sq_r (ry_move rfl) ?_
    refine sq_r (ry_move rfl) ?_
    refine sq_r (ry_idxSv rfl rfl rfl hs.ok (by rw [hs.len]; omega)) ?_
    refine sq_r (ry_elemc (j := 0) rfl (holds_given hs) hb rfl (by decide) rfl) ?_
    refine sq_r (ry_convn rfl (by simp only [nb]; omega)) ?_
    refine sq_r (ry_addn rfl rfl rfl rfl (by simp only [nb]; omega)) ?_
    refine sq_r (ry_assign rfl) ?_
    refine sq_nil ?_
    refine ex_block ?_
    refine ex_then ?_
    refine cw_region ?_
    refine sq_r (ry_move rfl) ?_
    refine sq_r (ry_add rfl rfl (by omega)) ?_
    refine sq_r (ry_assign rfl) ?_
    refine sq_nil ?_
    exact ex_again (i + 1) (by omega) (by omega) (Sub.cons rfl (Sub.cons (look_eq rfl (by rw [de_succ hb])) (Sub.cons rfl (Sub.nil _)))) (fun w hw => hw)
  · simp only [decide_eq_false_iff_not] at h0
    refine cw_exit ?_
    refine ex_pass_exit ?_
    refine ex_pass_exit ?_
    refine ex_block_hit ?_
    refine ex_then ?_
    refine cw_seq ?_
    refine cw_region ?_
    refine sq_r (ry_move rfl) ?_
    refine sq_r (ry_assign rfl) ?_
    refine sq_nil ?_
    refine ex_then ?_
    refine cw_ret ?_
    refine ex_ret (.inl rfl) (res_tmp rfl rfl) (fun w hw => ?_)
    exact ⟨by rw [List.take_of_length_le (by omega)], hw⟩

set_option maxRecDepth 20000 in
theorem pmost_c (a b : Int) : PureFn Try.prog 51 [.int .i64 a, .int .i64 b] (.int .i64 (most a b)) := ⟨fun w => by
  refine calls_of (args := [_, _]) Try.func51 rfl Try.ntmps51 rfl ?_
  change Cw _ _ _ _ _ [(0, .int .i64 a), (1, .int .i64 b)] []
  refine cw_seq ?_
  refine cw_region ?_
  refine sq_r (ry_assign rfl) ?_
  refine sq_nil ?_
  refine ex_then ?_
  refine cw_seq ?_
  refine cw_seq ?_
  refine cw_region ?_
  refine sq_r (ry_move rfl) ?_
  refine sq_r (ry_int rfl rfl rfl) ?_
  refine sq_r (ry_move rfl) ?_
  refine sq_gf rfl rfl rfl (fun hg => (ry_move rfl).yl) ?_
  refine sq_gf rfl rfl rfl (fun hg => (ry_int (ev_c hg rfl) rfl rfl).yl) ?_
  refine sq_r (ry_or rfl rfl rfl) ?_
  refine sq_r (ry_move rfl) ?_
  refine sq_gf rfl rfl rfl (fun hg => (ry_move rfl).yl) ?_
  refine sq_gf rfl rfl rfl (fun hg => (ry_int (ev_c hg rfl) rfl rfl).yl) ?_
  refine sq_r (ry_or rfl rfl rfl) ?_
  refine sq_r (ry_move rfl) ?_
  refine sq_gf rfl rfl rfl (fun hg => (ry_move rfl).yl) ?_
  refine sq_gf rfl rfl rfl (fun hg => (ry_int (ev_c hg rfl) rfl rfl).yl) ?_
  refine sq_r (ry_or rfl rfl rfl) ?_
  refine sq_nil ?_
  refine ex_then ?_
  refine cw_cond rfl (fun h0 => ?_) (fun h0 => ?_)
  · simp only [Bool.or_eq_true, decide_eq_true_eq] at h0
    refine cw_seq ?_
    refine cw_region ?_
    refine sq_r (ry_assign rfl) ?_
    refine sq_nil ?_
    refine ex_then ?_
    refine cw_ret ?_
    refine ex_pass_ret ?_
    refine ex_ret (.inl rfl) (res_tmp rfl rfl) (fun w hw => ?_)
    exact ⟨congrArg (fun b => Ending.returned (Value.int .i64 b)) ((if_pos (by omega)).symm), hw.sub (List.nil_sublist _)⟩
  · simp only [Bool.or_eq_false_iff, decide_eq_false_iff_not] at h0
    have hq : b / 20 ≤ 12 := by omega
    have hq0 : 0 ≤ b / 20 := by omega
    have hm : a * (b / 20) ≤ 64 * 12 := Int.mul_le_mul (by omega) hq hq0 (by decide)
    have hm0 : 0 ≤ a * (b / 20) := Int.mul_nonneg (by omega) hq0
    refine cw_skip ?_
    refine ex_then ?_
    refine cw_seq ?_
    refine cw_region ?_
    refine sq_r (ry_move rfl) ?_
    refine sq_r (ry_move rfl) ?_
    refine sq_r (ry_quo rfl rfl (by omega) (by omega)) ?_
    refine sq_r (ry_mul rfl rfl (by omega)) ?_
    refine sq_r (ry_min rfl rfl) ?_
    refine sq_r (ry_assign rfl) ?_
    refine sq_nil ?_
    refine ex_then ?_
    refine cw_ret ?_
    refine ex_ret (.inl rfl) (res_tmp rfl rfl) (fun w hw => ?_)
    exact ⟨congrArg (fun b => Ending.returned (Value.int .i64 b)) ((if_neg (by omega)).symm), hw.sub (List.nil_sublist _)⟩⟩
instance pmost_i (a b : Int) : PureFn Try.prog 51 [.int .i64 a, .int .i64 b] (.int .i64 (most a b)) := pmost_c a b

set_option maxRecDepth 20000 in
theorem rmost_c (a b : Int) : PureFn Try.prog 52 [.int .i64 a, .int .i64 b] (.int .i64 (most a b)) := ⟨fun w => by
  refine calls_of (args := [_, _]) Try.func52 rfl Try.ntmps52 rfl ?_
  change Cw _ _ _ _ _ [(0, .int .i64 a), (1, .int .i64 b)] []
  refine cw_seq ?_
  refine cw_region ?_
  refine sq_r (ry_assign rfl) ?_
  refine sq_nil ?_
  refine ex_then ?_
  refine cw_seq ?_
  refine cw_seq ?_
  refine cw_region ?_
  refine sq_r (ry_move rfl) ?_
  refine sq_r (ry_int rfl rfl rfl) ?_
  refine sq_r (ry_move rfl) ?_
  refine sq_gf rfl rfl rfl (fun hg => (ry_move rfl).yl) ?_
  refine sq_gf rfl rfl rfl (fun hg => (ry_int (ev_c hg rfl) rfl rfl).yl) ?_
  refine sq_r (ry_or rfl rfl rfl) ?_
  refine sq_r (ry_move rfl) ?_
  refine sq_gf rfl rfl rfl (fun hg => (ry_move rfl).yl) ?_
  refine sq_gf rfl rfl rfl (fun hg => (ry_int (ev_c hg rfl) rfl rfl).yl) ?_
  refine sq_r (ry_or rfl rfl rfl) ?_
  refine sq_r (ry_move rfl) ?_
  refine sq_gf rfl rfl rfl (fun hg => (ry_move rfl).yl) ?_
  refine sq_gf rfl rfl rfl (fun hg => (ry_int (ev_c hg rfl) rfl rfl).yl) ?_
  refine sq_r (ry_or rfl rfl rfl) ?_
  refine sq_nil ?_
  refine ex_then ?_
  refine cw_cond rfl (fun h0 => ?_) (fun h0 => ?_)
  · simp only [Bool.or_eq_true, decide_eq_true_eq] at h0
    refine cw_seq ?_
    refine cw_region ?_
    refine sq_r (ry_assign rfl) ?_
    refine sq_nil ?_
    refine ex_then ?_
    refine cw_ret ?_
    refine ex_pass_ret ?_
    refine ex_ret (.inl rfl) (res_tmp rfl rfl) (fun w hw => ?_)
    exact ⟨congrArg (fun b => Ending.returned (Value.int .i64 b)) ((if_pos (by omega)).symm), hw.sub (List.nil_sublist _)⟩
  · simp only [Bool.or_eq_false_iff, decide_eq_false_iff_not] at h0
    have hq : b / 20 ≤ 12 := by omega
    have hq0 : 0 ≤ b / 20 := by omega
    have hm : a * (b / 20) ≤ 64 * 12 := Int.mul_le_mul (by omega) hq hq0 (by decide)
    have hm0 : 0 ≤ a * (b / 20) := Int.mul_nonneg (by omega) hq0
    refine cw_skip ?_
    refine ex_then ?_
    refine cw_seq ?_
    refine cw_region ?_
    refine sq_r (ry_move rfl) ?_
    refine sq_r (ry_move rfl) ?_
    refine sq_r (ry_quo rfl rfl (by omega) (by omega)) ?_
    refine sq_r (ry_mul rfl rfl (by omega)) ?_
    refine sq_r (ry_assign rfl) ?_
    refine sq_nil ?_
    refine ex_then ?_
    refine cw_seq ?_
    refine cw_seq ?_
    refine cw_region ?_
    refine sq_r (ry_move rfl) ?_
    refine sq_r (ry_int rfl rfl rfl) ?_
    refine sq_nil ?_
    refine ex_then ?_
    refine cw_cond rfl (fun h1 => ?_) (fun h1 => ?_)
    · simp only [decide_eq_true_eq] at h1
      refine cw_seq ?_
      refine cw_region ?_
      refine sq_r (ry_assign rfl) ?_
      refine sq_nil ?_
      refine ex_then ?_
      refine cw_ret ?_
      refine ex_pass_ret ?_
      refine ex_ret (.inl rfl) (res_tmp rfl rfl) (fun w hw => ?_)
      exact ⟨congrArg (fun b => Ending.returned (Value.int .i64 b)) (((if_neg (by omega)).trans (by omega)).symm), hw.sub (List.nil_sublist _)⟩
    · simp only [decide_eq_false_iff_not] at h1
      refine cw_skip ?_
      refine ex_then ?_
      refine cw_seq ?_
      refine cw_region ?_
      refine sq_r (ry_move rfl) ?_
      refine sq_r (ry_assign rfl) ?_
      refine sq_nil ?_
      refine ex_then ?_
      refine cw_ret ?_
      refine ex_ret (.inl rfl) (res_tmp rfl rfl) (fun w hw => ?_)
      exact ⟨congrArg (fun b => Ending.returned (Value.int .i64 b)) (((if_neg (by omega)).trans (by omega)).symm), hw.sub (List.nil_sublist _)⟩⟩
instance rmost_i (a b : Int) : PureFn Try.prog 52 [.int .i64 a, .int .i64 b] (.int .i64 (most a b)) := rmost_c a b

end Go.Proofs.Ytembaconocgmlaa
