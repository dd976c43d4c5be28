/- Keys as texts: walked. -/
import Derived.Test.YtldkgicmfbofiaaDoorRB
import Derived.Test.YtldkgicmfbofiaaDoorKy
set_option linter.unusedSimpArgs false
set_option linter.unusedVariables false
namespace Go.Proofs.YtldkgicmfbofiaaDoor
open Go.Eng Go.Kb
set_option maxRecDepth 20000 in
theorem exists_c (w : World) (k : Key) (n : Int)  : Calls Tryd.prog 24 #[.agg (kcells k), .int .i64 n] w fun e w' => e = .returned (.bool (keyB k n)) ∧ Mem w [] w' := by
  refine calls_of (args := [_, _]) Tryd.func24 rfl Tryd.ntmps24 rfl ?_
  change Cw _ _ _ _ _ [(0, .agg (kcells k)), (1, .int .i64 n)] []
  refine cw_seq ?_
  refine cw_region ?_
  refine sq_boxA rfl fun b2 => ?_
  refine sq_r (ry_assign rfl) ?_
  refine sq_nil ?_
  refine ex_then ?_
  refine cw_seq ?_
  refine cw_seq ?_
  refine cw_region ?_
  refine sq_r (ry_move rfl) ?_
  refine sq_r (ry_int rfl rfl rfl) ?_
  refine sq_r (ry_move rfl) ?_
  refine sq_gt rfl rfl rfl (fun hg => (Ry.yl (ry_move rfl))) ?_
  refine sq_gt rfl rfl rfl (fun hg => (Ry.yl (ry_int (ev_c hg rfl) rfl rfl))) ?_
  refine sq_r (ry_and rfl rfl rfl) ?_
  refine sq_nil ?_
  refine ex_then ?_
  refine cw_cond rfl (fun h0 => ?_) (fun h0 => ?_)
  · try simp only [Bool.and_eq_true, Bool.or_eq_true, Bool.and_eq_false_iff, Bool.or_eq_false_iff, Bool.not_eq_true', Bool.not_eq_false', decide_eq_true_eq, decide_eq_false_iff_not, Bool.not_eq_true, Bool.not_eq_false] at h0
    refine cw_seq ?_
    refine cw_region ?_
    refine sq_r (ry_assign rfl) ?_
    refine sq_nil ?_
    refine ex_then ?_
    refine cw_ret ?_
    refine ex_pass_ret ?_
    refine ex_ret (.inl rfl) (res_1 rfl (rv_tmp rfl)) (fun w1 hw => ?_)
    exact ⟨congrArg (fun b => Ending.returned (Value.bool b)) ((by rw [keyB_no (by omega)])), Keep.mem hw⟩
  · try simp only [Bool.and_eq_true, Bool.or_eq_true, Bool.and_eq_false_iff, Bool.or_eq_false_iff, Bool.not_eq_true', Bool.not_eq_false', decide_eq_true_eq, decide_eq_false_iff_not, Bool.not_eq_true, Bool.not_eq_false] at h0
    refine cw_skip ?_
    refine ex_then ?_
    refine cw_seq ?_
    refine cw_quiet (by kernel_rfl) (by kernel_rfl) ?_
    refine qt_r (ry_whole rfl) ?_
    refine qt_r (ry_move rfl) ?_
    refine qt_y (yl_callC rfl trivial) ?_
    refine qt_r (ry_whole rfl) ?_
    refine qt_r (ry_eq rfl rfl) ?_
    refine qt_r (ry_assign rfl) ?_
    refine qt_nil ?_
    refine ex_then ?_
    refine cw_ret ?_
    refine ex_ret (.inl rfl) (res_1 rfl (rv_tmp rfl)) (fun w1 hw => ?_)
    exact ⟨congrArg (fun b => Ending.returned (Value.bool b)) ((by rw [keyB_cut (by omega)])), Keep.mem hw⟩
instance exists_i {w0 : World} {L : List Ent} {k : Key} {n : Int}  : FnQ Tryd.prog 24 w0 L [.agg (kcells k), .int .i64 n] (.bool (keyB k n)) (True) := ⟨fun hp w hw => exists_c w k n ⟩

set_option maxRecDepth 20000 in
theorem joined_c (w : World) (sep : List UInt8) (z : Sv) (zs : List Txt) (hz : Lies txc 1 (hp w) z zs) (hpre : zs ≠ [] ∧ (joinT sep zs).length ≤ 140737488355328) : Calls Tryd.prog 19 #[.string ⟨sep.toArray⟩, z.val] w fun e w' => e = .returned (.string ⟨(joinT sep zs).toArray⟩) ∧ Mem w [] w' := by
  have ghz : Gv w z txc 1 zs := ⟨hz⟩
  refine calls_of (args := [_, _]) Tryd.func19 rfl Tryd.ntmps19 rfl ?_
  change Cw _ _ _ _ _ [(0, .string ⟨sep.toArray⟩), (1, z.val)] []
  refine cw_seq ?_
  refine cw_region ?_
  refine sq_r (ry_assign rfl) ?_
  refine sq_nil ?_
  refine ex_then ?_
  refine cw_seq ?_
  refine cw_region ?_
  refine sq_r (ry_move rfl) ?_
  refine sq_r (ry_move rfl) ?_
  refine sq_y (yl_callC rfl hpre) ?_
  refine sq_r (ry_assign rfl) ?_
  refine sq_nil ?_
  refine ex_then ?_
  refine cw_ret ?_
  refine ex_ret (.inl rfl) (res_1 rfl (rv_tmp rfl)) (fun w1 hw => ?_)
  exact ⟨rfl, Keep.mem hw⟩
instance joined_i {w0 : World} {L : List Ent} {sep : List UInt8} {z : Sv} {zs : List Txt} [hz : HdE w0 L txc 1 z zs] : FnQ Tryd.prog 19 w0 L [.string ⟨sep.toArray⟩, z.val] (.string ⟨(joinT sep zs).toArray⟩) (zs ≠ [] ∧ (joinT sep zs).length ≤ 140737488355328) := ⟨fun hp w hw => joined_c w sep z zs (hz.h w hw) hp⟩

set_option maxRecDepth 20000 in
theorem rkey_c (w : World) (k : Key) (n : Int)  : Calls Tryd.prog 12 #[.agg (kcells k), .int .i64 n] w fun e w' => e = .returned (.tuple #[.string ⟨(keyS k n).toArray⟩, .int .i64 (errB (keyB k n))]) ∧ Mem w [] w' := by
  have q0 := kbyte_lt k 0
  have q1 := kbyte_lt k 1
  have q2 := kbyte_lt k 2
  have q3 := kbyte_lt k 3
  have l0 := dec_len 3 (kbyte k 0) (by omega) (by decide)
  have l1 := dec_len 3 (kbyte k 1) (by omega) (by decide)
  have l2 := dec_len 3 (kbyte k 2) (by omega) (by decide)
  have l3 := dec_len 3 (kbyte k 3) (by omega) (by decide)
  refine calls_of (args := [_, _]) Tryd.func12 rfl Tryd.ntmps12 rfl ?_
  change Cw _ _ _ _ _ [(0, .agg (kcells k)), (1, .int .i64 n)] []
  refine cw_seq ?_
  refine cw_region ?_
  refine sq_boxA rfl fun b2 => ?_
  refine sq_r (ry_assign rfl) ?_
  refine sq_r (ry_assign rfl) ?_
  refine sq_nil ?_
  refine ex_then ?_
  refine cw_seq ?_
  refine cw_seq ?_
  refine cw_region ?_
  refine sq_r (ry_move rfl) ?_
  refine sq_r (ry_move rfl) ?_
  refine sq_r (ry_whole rfl) ?_
  refine sq_r (ry_buildc rfl) ?_
  refine sq_y (yl_callC rfl trivial) ?_
  refine sq_r (ry_not rfl) ?_
  refine sq_nil ?_
  refine ex_then ?_
  refine cw_cond rfl (fun h0 => ?_) (fun h0 => ?_)
  · try simp only [Bool.and_eq_true, Bool.or_eq_true, Bool.and_eq_false_iff, Bool.or_eq_false_iff, Bool.not_eq_true', Bool.not_eq_false', decide_eq_true_eq, decide_eq_false_iff_not, Bool.not_eq_true, Bool.not_eq_false] at h0
    change keyB k n = false at h0
    refine cw_seq ?_
    refine cw_region ?_
    refine sq_r (ry_assign rfl) ?_
    refine sq_r (ry_assign rfl) ?_
    refine sq_nil ?_
    refine ex_then ?_
    refine cw_ret ?_
    refine ex_pass_ret ?_
    refine ex_ret (.inl rfl) (res_2 rfl (rv_tmp rfl) (rv_tmp rfl)) (fun w1 hw => ?_)
    exact ⟨(by rw [keyS, h0]; rfl), Keep.mem hw⟩
  · try simp only [Bool.and_eq_true, Bool.or_eq_true, Bool.and_eq_false_iff, Bool.or_eq_false_iff, Bool.not_eq_true', Bool.not_eq_false', decide_eq_true_eq, decide_eq_false_iff_not, Bool.not_eq_true, Bool.not_eq_false] at h0
    change keyB k n = true at h0
    refine cw_skip ?_
    refine ex_then ?_
    refine cw_seq ?_
    refine cw_seq ?_
    refine cw_region ?_
    refine sq_r (ry_move rfl) ?_
    refine sq_r (ry_int rfl rfl rfl) ?_
    refine sq_nil ?_
    refine ex_then ?_
    refine cw_cond rfl (fun h1 => ?_) (fun h1 => ?_)
    · try simp only [Bool.and_eq_true, Bool.or_eq_true, Bool.and_eq_false_iff, Bool.or_eq_false_iff, Bool.not_eq_true', Bool.not_eq_false', decide_eq_true_eq, decide_eq_false_iff_not, Bool.not_eq_true, Bool.not_eq_false] at h1
      refine cw_seq ?_
      refine cw_quiet (by kernel_rfl) (by kernel_rfl) ?_
      refine qt_r (ry_idxA1 rfl rfl (by omega) (by omega)) ?_
      refine qt_r (ry_cell rfl (kcells_get k 0 (by omega))) ?_
      refine qt_r (ry_convn rfl (by simp only [nb]; omega)) ?_
      refine qt_y (yl_callC rfl (by first | omega | exact Nat.lt_trans (UInt8.toNat_lt _) (by decide) | exact Nat.lt_trans (UInt16.toNat_lt _) (by decide))) ?_
      refine qt_r (ry_strcat rfl rfl (by simp only [List.length_append, List.length_cons, List.length_nil]; omega)) ?_
      refine qt_r (ry_idxA1 rfl rfl (by omega) (by omega)) ?_
      refine qt_r (ry_cell rfl (kcells_get k 1 (by omega))) ?_
      refine qt_r (ry_convn rfl (by simp only [nb]; omega)) ?_
      refine qt_y (yl_callC rfl (by first | omega | exact Nat.lt_trans (UInt8.toNat_lt _) (by decide) | exact Nat.lt_trans (UInt16.toNat_lt _) (by decide))) ?_
      refine qt_r (ry_strcat rfl rfl (by simp only [List.length_append, List.length_cons, List.length_nil]; omega)) ?_
      refine qt_r (ry_strcat rfl rfl (by simp only [List.length_append, List.length_cons, List.length_nil]; omega)) ?_
      refine qt_r (ry_idxA1 rfl rfl (by omega) (by omega)) ?_
      refine qt_r (ry_cell rfl (kcells_get k 2 (by omega))) ?_
      refine qt_r (ry_convn rfl (by simp only [nb]; omega)) ?_
      refine qt_y (yl_callC rfl (by first | omega | exact Nat.lt_trans (UInt8.toNat_lt _) (by decide) | exact Nat.lt_trans (UInt16.toNat_lt _) (by decide))) ?_
      refine qt_r (ry_strcat rfl rfl (by simp only [List.length_append, List.length_cons, List.length_nil]; omega)) ?_
      refine qt_r (ry_strcat rfl rfl (by simp only [List.length_append, List.length_cons, List.length_nil]; omega)) ?_
      refine qt_r (ry_idxA1 rfl rfl (by omega) (by omega)) ?_
      refine qt_r (ry_cell rfl (kcells_get k 3 (by omega))) ?_
      refine qt_r (ry_convn rfl (by simp only [nb]; omega)) ?_
      refine qt_y (yl_callC rfl (by first | omega | exact Nat.lt_trans (UInt8.toNat_lt _) (by decide) | exact Nat.lt_trans (UInt16.toNat_lt _) (by decide))) ?_
      refine qt_r (ry_strcat rfl rfl (by simp only [List.length_append, List.length_cons, List.length_nil]; omega)) ?_
      refine qt_r (ry_assign rfl) ?_
      refine qt_r (ry_assign rfl) ?_
      refine qt_nil ?_
      refine ex_then ?_
      refine cw_ret ?_
      refine ex_pass_ret ?_
      refine ex_ret (.inl rfl) (res_2 rfl (rv_tmp rfl) (rv_tmp rfl)) (fun w1 hw => ?_)
      exact ⟨(by rw [keyS, h0, if_pos rfl, keyT, if_pos h1, shortT]; simp [errB]), Keep.mem hw⟩
    · try simp only [Bool.and_eq_true, Bool.or_eq_true, Bool.and_eq_false_iff, Bool.or_eq_false_iff, Bool.not_eq_true', Bool.not_eq_false', decide_eq_true_eq, decide_eq_false_iff_not, Bool.not_eq_true, Bool.not_eq_false] at h1
      refine cw_skip ?_
      refine ex_then ?_
      refine cw_seq ?_
      refine cw_region ?_
      refine sq_r (ry_assign rfl) ?_
      refine sq_nil ?_
      refine ex_then ?_
      refine cw_seq ?_
      refine cw_seq ?_
      refine cw_region ?_
      refine sq_r (ry_assign rfl) ?_
      refine sq_nil ?_
      refine ex_then ?_
      refine cw_block ?_
      refine cw_loop (X := Nat) (fun zz => [(7, .int .i64 (zz : Nat)), (6, .string ⟨((wideT k).take zz).toArray⟩), (2, .pointer (some ⟨b2, 0, none⟩))]) (fun zz => [blk b2 (kcells k) 23]) (fun zz => zz ≤ 32) (fun zz => 32 - zz) 0 (Nat.zero_le _) (Sub.cons rfl (Sub.cons (look_eq rfl rfl) (Sub.cons rfl (Sub.nil _)))) (fun w hw => Keep.mem hw) ?_
      rintro i hI
      refine cw_seq ?_
      refine cw_seq ?_
      refine cw_region ?_
      refine sq_r (ry_move rfl) ?_
      refine sq_r (ry_int rfl rfl rfl) ?_
      refine sq_nil ?_
      refine ex_then ?_
      refine cw_cond rfl (fun h2 => ?_) (fun h2 => ?_)
      · try simp only [Bool.and_eq_true, Bool.or_eq_true, Bool.and_eq_false_iff, Bool.or_eq_false_iff, Bool.not_eq_true', Bool.not_eq_false', decide_eq_true_eq, decide_eq_false_iff_not, Bool.not_eq_true, Bool.not_eq_false] at h2
        refine cw_skip ?_
        refine ex_then ?_
        refine cw_seq ?_
        refine cw_block ?_
        refine cw_region ?_
        refine sq_r (ry_move rfl) ?_
        refine sq_r (ry_whole rfl) ?_
        refine sq_r (ry_move rfl) ?_
        refine sq_y (yl_callC rfl trivial) ?_
        refine sq_r (ry_idxStr (s := ⟨([48, 49, 50, 51, 52, 53, 54, 55, 56, 57, 97, 98, 99, 100, 101, 102] : Txt).toArray⟩) (v := (hexc (nib k i)).toNat) Tryd.underlying9 rfl rfl (by rw [step_nib k (by omega)]; omega) (by rw [step_nib k (by omega), Int.toNat_natCast]; exact hexStep k (by omega))) ?_
        refine sq_r (ry_conv_u8 rfl) ?_
        refine sq_r (ry_rune (n := (hexc (nib k i)).toNat) (by rw [Tryd.underlying21]; rfl) Tryd.underlying9 rfl (hexc_lt (nib_lt k i))) ?_
        refine sq_r (ry_strcat rfl rfl (by simp only [List.length_take, wide_len, List.length_cons, List.length_nil]; omega)) ?_
        refine sq_r (ry_assign rfl) ?_
        refine sq_nil ?_
        refine ex_block ?_
        refine ex_then ?_
        refine cw_region ?_
        refine sq_r (ry_move rfl) ?_
        refine sq_r (ry_add rfl rfl (by omega)) ?_
        refine sq_r (ry_assign rfl) ?_
        refine sq_nil ?_
        exact ex_again (x := (i)) (i + 1) (by first | omega | (simp only []; omega)) (by first | omega | (simp only []; omega)) (Sub.cons rfl (Sub.cons (look_eq rfl (by rw [wide_take k (by omega)]; simp)) (Sub.cons rfl (Sub.nil _)))) (fun w hw => Keep.mem hw)
      · try simp only [Bool.and_eq_true, Bool.or_eq_true, Bool.and_eq_false_iff, Bool.or_eq_false_iff, Bool.not_eq_true', Bool.not_eq_false', decide_eq_true_eq, decide_eq_false_iff_not, Bool.not_eq_true, Bool.not_eq_false] at h2
        refine cw_exit ?_
        refine ex_pass_exit ?_
        refine ex_pass_exit ?_
        refine ex_block_hit ?_
        refine ex_then ?_
        refine cw_seq ?_
        refine cw_region ?_
        refine sq_r (ry_move rfl) ?_
        refine sq_r (ry_assign rfl) ?_
        refine sq_r (ry_assign rfl) ?_
        refine sq_nil ?_
        refine ex_then ?_
        refine cw_ret ?_
        refine ex_ret (.inl rfl) (res_2 rfl (rv_tmp rfl) (rv_tmp rfl)) (fun w1 hw => ?_)
        exact ⟨(by rw [keyS, h0, if_pos rfl, keyT, if_neg h1, show i = 32 by omega, List.take_of_length_le (by rw [wide_len]; omega)]; rfl), Keep.mem hw⟩
instance rkey_i {w0 : World} {L : List Ent} {k : Key} {n : Int}  : FnQ Tryd.prog 12 w0 L [.agg (kcells k), .int .i64 n] (.tuple #[.string ⟨(keyS k n).toArray⟩, .int .i64 (errB (keyB k n))]) (True) := ⟨fun hp w hw => rkey_c w k n ⟩

end Go.Proofs.YtldkgicmfbofiaaDoor
