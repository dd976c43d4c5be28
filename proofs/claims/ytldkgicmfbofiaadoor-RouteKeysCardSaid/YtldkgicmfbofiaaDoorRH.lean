/- Prefixes and routes read by the reference: walked. -/
import Derived.Test.YtldkgicmfbofiaaDoorRG
set_option linter.unusedSimpArgs false
set_option linter.unusedVariables false
namespace Go.Proofs.YtldkgicmfbofiaaDoor
open Go.Eng Go.Kb
set_option maxRecDepth 20000 in
theorem rreadp_c (w : World) (s : List UInt8)  (hpre : s.length ≤ 1000000000) : Calls Tryd.prog 16 #[.string ⟨s.toArray⟩] w fun e w' => e = .returned (.tuple #[.agg (pcells (rpP s)), .int .i64 (rpE s)]) ∧ Mem w [] w' := by
  refine calls_of (args := [_]) Tryd.func16 rfl Tryd.ntmps16 rfl ?_
  change Cw _ _ _ _ _ [(0, .string ⟨s.toArray⟩)] []
  refine cw_seq ?_
  refine cw_region ?_
  refine sq_allocA fun b2 => ?_
  refine sq_r (ry_assign rfl) ?_
  refine sq_nil ?_
  refine ex_then ?_
  refine cw_seq ?_
  refine cw_seq ?_
  refine cw_region ?_
  refine sq_r (ry_move rfl) ?_
  refine sq_r (ry_lenT (s := s) Tryd.underlying9 rfl) ?_
  refine sq_r (ry_int rfl rfl rfl) ?_
  refine sq_nil ?_
  refine ex_then ?_
  refine cw_cond rfl (fun h0 => ?_) (fun h0 => ?_)
  · try simp only [Bool.and_eq_true, Bool.or_eq_true, Bool.and_eq_false_iff, Bool.or_eq_false_iff, Bool.not_eq_true', Bool.not_eq_false', decide_eq_true_eq, decide_eq_false_iff_not, Bool.not_eq_true, Bool.not_eq_false] at h0
    refine cw_seq ?_
    refine cw_region ?_
    refine sq_r (ry_buildc rfl) ?_
    refine sq_storeW rfl rfl ?_
    refine sq_r (ry_assign rfl) ?_
    refine sq_nil ?_
    refine ex_then ?_
    refine cw_ret ?_
    refine ex_pass_ret ?_
    refine ex_ret (.inl rfl) (res_2 rfl (rv_agg rfl) (rv_tmp rfl)) (fun w1 hw => ?_)
    exact ⟨(by obtain ⟨e1, e2⟩ := rp_long (s := s) (by omega); rw [e1, e2]), Keep.mem hw⟩
  · try simp only [Bool.and_eq_true, Bool.or_eq_true, Bool.and_eq_false_iff, Bool.or_eq_false_iff, Bool.not_eq_true', Bool.not_eq_false', decide_eq_true_eq, decide_eq_false_iff_not, Bool.not_eq_true, Bool.not_eq_false] at h0
    refine cw_skip ?_
    refine ex_then ?_
    refine cw_seq ?_
    refine cw_region ?_
    refine sq_r (ry_move rfl) ?_
    refine sq_callC (vs := [_, .int .u8 ((47 : UInt8).toNat : Int)]) rfl (by omega) fun x14 hp14 => ?_
    refine sq_r (ry_assign rfl) ?_
    refine sq_nil ?_
    refine ex_then ?_
    refine cw_seq ?_
    refine cw_seq ?_
    refine cw_region ?_
    refine sq_r (ry_move rfl) ?_
    refine sq_r (ry_lenH rfl) ?_
    refine sq_r (ry_int rfl rfl rfl) ?_
    refine sq_nil ?_
    refine ex_then ?_
    refine cw_cond rfl (fun h1 => ?_) (fun h1 => ?_)
    · try simp only [Bool.and_eq_true, Bool.or_eq_true, Bool.and_eq_false_iff, Bool.or_eq_false_iff, Bool.not_eq_true', Bool.not_eq_false', decide_eq_true_eq, decide_eq_false_iff_not, Bool.not_eq_true, Bool.not_eq_false] at h1
      refine cw_seq ?_
      refine cw_region ?_
      refine sq_r (ry_buildc rfl) ?_
      refine sq_storeW rfl rfl ?_
      refine sq_r (ry_assign rfl) ?_
      refine sq_nil ?_
      refine ex_then ?_
      refine cw_ret ?_
      refine ex_pass_ret ?_
      refine ex_ret (.inl rfl) (res_2 rfl (rv_agg rfl) (rv_tmp rfl)) (fun w1 hw => ?_)
      exact ⟨(by obtain ⟨e1, e2⟩ := rp_none (s := s) (by omega) (pfx_len2 (by omega)); rw [e1, e2]), Keep.mem hw⟩
    · try simp only [Bool.and_eq_true, Bool.or_eq_true, Bool.and_eq_false_iff, Bool.or_eq_false_iff, Bool.not_eq_true', Bool.not_eq_false', decide_eq_true_eq, decide_eq_false_iff_not, Bool.not_eq_true, Bool.not_eq_false] at h1
      refine cw_skip ?_
      refine ex_then ?_
      refine cw_seq ?_
      obtain ⟨a, b, hab⟩ := len2 (show (splitL 47 s).length = 2 by omega)
      have hla : a.length ≤ s.length := split_mem s (by rw [hab]; simp)
      have hlb : b.length ≤ s.length := split_mem s (by rw [hab]; simp)
      rw [hab]
      refine cw_region ?_
      refine sq_r (ry_move rfl) ?_
      refine sq_r (ry_idxH rfl rfl 0 rfl (by simp)) ?_
      refine sq_r (ry_elemcH (j := 0) rfl 0 (rfl : [a, b][0]? = some a) rfl (by decide)) ?_
      refine sq_y (yl_callC rfl (by omega)) ?_
      refine sq_r (ry_move rfl) ?_
      refine sq_r (ry_extract (v := .agg (kcells (rkK a))) rfl rfl) ?_
      refine sq_r (ry_extract (v := .int .i64 ((rkN a) : Nat)) rfl rfl) ?_
      refine sq_r (ry_extract (v := .int .i64 (rkE a)) rfl rfl) ?_
      refine sq_allocA fun b5 => ?_
      refine sq_storeW rfl rfl ?_
      refine sq_r (ry_assign rfl) ?_
      refine sq_r (ry_assign rfl) ?_
      refine sq_nil ?_
      refine ex_then ?_
      refine cw_seq ?_
      refine cw_lin [7, 8] [[], [], [], [], [], [], [], [], [7]] [0, 1, 2, 3, 4, 5, 6, 7, 8] [own txc 1 x14 [a, b], blk b5 (kcells (rkK a)) 23] (fun _ hw => Keep.mem hw) (by kernel_rfl) (by kernel_rfl) ?_
      refine ln_r rfl (ry_move rfl) ?_
      refine ln_r rfl (ry_move rfl) ?_
      refine ln_r rfl (ry_idxH rfl rfl 1 rfl (by simp)) ?_
      refine ln_r rfl (ry_elemcH (j := 0) rfl 1 (rfl : [a, b][1]? = some b) rfl (by decide)) ?_
      refine ln_y rfl (yl_callC (vs := [_, .int .i64 ((128 : Nat) : Int)]) rfl (by omega)) ?_
      refine ln_r rfl (ry_whole rfl) ?_
      refine ln_r rfl (ry_buildc rfl) ?_
      refine ln_st rfl (st_allocA fun b8 => ⟨fun _ hw => Keep.mem hw, ?_⟩)
      refine ln_st rfl (st_storeW rfl rfl ⟨fun _ hw => Keep.mem hw, ?_⟩)
      refine ln_nil ?_
      refine ex_then ?_
      refine cw_seq ?_
      refine cw_seq ?_
      refine cw_region ?_
      refine sq_r (ry_move rfl) ?_
      refine sq_r (ry_int rfl rfl rfl) ?_
      refine sq_r (ry_move rfl) ?_
      refine sq_gf rfl rfl rfl (fun hg => (Ry.yl (ry_whole rfl))) ?_
      refine sq_gf rfl rfl rfl (fun hg => yl_callC (evl_cons (ev_c hg rfl) evl_nil) trivial) ?_
      refine sq_gf rfl rfl rfl (fun hg => (Ry.yl (ry_not (ev_c hg rfl)))) ?_
      refine sq_r (ry_or rfl rfl rfl) ?_
      refine sq_nil ?_
      refine ex_then ?_
      refine cw_cond rfl (fun h2 => ?_) (fun h2 => ?_)
      · try simp only [Bool.and_eq_true, Bool.or_eq_true, Bool.and_eq_false_iff, Bool.or_eq_false_iff, Bool.not_eq_true', Bool.not_eq_false', decide_eq_true_eq, decide_eq_false_iff_not, Bool.not_eq_true, Bool.not_eq_false] at h2
        refine cw_seq ?_
        refine cw_region ?_
        refine sq_r (ry_buildc rfl) ?_
        refine sq_storeW rfl rfl ?_
        refine sq_r (ry_assign rfl) ?_
        refine sq_nil ?_
        refine ex_then ?_
        refine cw_ret ?_
        refine ex_pass_ret ?_
        refine ex_ret (.inl rfl) (res_2 rfl (rv_agg rfl) (rv_tmp rfl)) (fun w1 hw => ?_)
        exact ⟨(by obtain ⟨e1, e2⟩ := rp_none (s := s) (by omega) (by rw [pfx_two hab, pm_ref (by omega), if_neg]; rintro ⟨q1, q2⟩; rcases h2 with h | h; exact h q1; rw [h] at q2; cases q2); rw [e1, e2]), Keep.mem hw⟩
      · try simp only [Bool.and_eq_true, Bool.or_eq_true, Bool.and_eq_false_iff, Bool.or_eq_false_iff, Bool.not_eq_true', Bool.not_eq_false', decide_eq_true_eq, decide_eq_false_iff_not, Bool.not_eq_true, Bool.not_eq_false] at h2
        refine cw_skip ?_
        refine ex_then ?_
        refine cw_seq ?_
        refine cw_region ?_
        refine sq_r (ry_whole rfl) ?_
        refine sq_storeW rfl rfl ?_
        refine sq_r (ry_assign rfl) ?_
        refine sq_nil ?_
        refine ex_then ?_
        refine cw_ret ?_
        refine ex_ret (.inl rfl) (res_2 rfl (rv_agg rfl) (rv_tmp rfl)) (fun w1 hw => ?_)
        exact ⟨(by obtain ⟨e1, e2⟩ := rp_some (s := s) (p := (⟨((rkN a : Nat) : Int), numI b 128, rkK a⟩ : Pfx)) (by omega) (by rw [pfx_two hab, pm_ref (by omega), if_pos ⟨h2.1, h2.2⟩]); rw [e1, e2]), Keep.mem hw⟩
instance rreadp_i {w0 : World} {L : List Ent} {s : List UInt8}  : FnQ Tryd.prog 16 w0 L [.string ⟨s.toArray⟩] (.tuple #[.agg (pcells (rpP s)), .int .i64 (rpE s)]) (s.length ≤ 1000000000) := ⟨fun hp w hw => rreadp_c w s  hp⟩

set_option maxRecDepth 20000 in
theorem rreadl_c (w : World) (s : List UInt8)  (hpre : s.length ≤ 1000000000) : Calls Tryd.prog 14 #[.string ⟨s.toArray⟩] w fun e w' => e = .returned (.tuple #[.agg (rcells (rlR s)), .int .i64 (rlE s)]) ∧ Mem w [] w' := by
  refine calls_of (args := [_]) Tryd.func14 rfl Tryd.ntmps14 rfl ?_
  change Cw _ _ _ _ _ [(0, .string ⟨s.toArray⟩)] []
  refine cw_seq ?_
  refine cw_region ?_
  refine sq_allocA fun b2 => ?_
  refine sq_r (ry_assign rfl) ?_
  refine sq_nil ?_
  refine ex_then ?_
  refine cw_seq ?_
  refine cw_seq ?_
  refine cw_region ?_
  refine sq_r (ry_move rfl) ?_
  refine sq_r (ry_lenT (s := s) Tryd.underlying9 rfl) ?_
  refine sq_r (ry_int rfl rfl rfl) ?_
  refine sq_nil ?_
  refine ex_then ?_
  refine cw_cond rfl (fun h0 => ?_) (fun h0 => ?_)
  · try simp only [Bool.and_eq_true, Bool.or_eq_true, Bool.and_eq_false_iff, Bool.or_eq_false_iff, Bool.not_eq_true', Bool.not_eq_false', decide_eq_true_eq, decide_eq_false_iff_not, Bool.not_eq_true, Bool.not_eq_false] at h0
    refine cw_seq ?_
    refine cw_region ?_
    refine sq_r (ry_buildc rfl) ?_
    refine sq_storeW rfl rfl ?_
    refine sq_r (ry_assign rfl) ?_
    refine sq_nil ?_
    refine ex_then ?_
    refine cw_ret ?_
    refine ex_pass_ret ?_
    refine ex_ret (.inl rfl) (res_2 rfl (rv_agg rfl) (rv_tmp rfl)) (fun w1 hw => ?_)
    exact ⟨(by obtain ⟨e1, e2⟩ := rl_long (s := s) (by omega); rw [e1, e2]), Keep.mem hw⟩
  · try simp only [Bool.and_eq_true, Bool.or_eq_true, Bool.and_eq_false_iff, Bool.or_eq_false_iff, Bool.not_eq_true', Bool.not_eq_false', decide_eq_true_eq, decide_eq_false_iff_not, Bool.not_eq_true, Bool.not_eq_false] at h0
    refine cw_skip ?_
    refine ex_then ?_
    refine cw_seq ?_
    refine cw_region ?_
    refine sq_r (ry_move rfl) ?_
    refine sq_callC (vs := [_, .int .u8 ((32 : UInt8).toNat : Int)]) rfl (by omega) fun x13 hp13 => ?_
    refine sq_r (ry_assign rfl) ?_
    refine sq_nil ?_
    refine ex_then ?_
    refine cw_seq ?_
    refine cw_seq ?_
    refine cw_region ?_
    refine sq_r (ry_move rfl) ?_
    refine sq_r (ry_lenH rfl) ?_
    refine sq_r (ry_int rfl rfl rfl) ?_
    refine sq_nil ?_
    refine ex_then ?_
    refine cw_cond rfl (fun h1 => ?_) (fun h1 => ?_)
    · try simp only [Bool.and_eq_true, Bool.or_eq_true, Bool.and_eq_false_iff, Bool.or_eq_false_iff, Bool.not_eq_true', Bool.not_eq_false', decide_eq_true_eq, decide_eq_false_iff_not, Bool.not_eq_true, Bool.not_eq_false] at h1
      refine cw_seq ?_
      refine cw_region ?_
      refine sq_r (ry_buildc rfl) ?_
      refine sq_storeW rfl rfl ?_
      refine sq_r (ry_assign rfl) ?_
      refine sq_nil ?_
      refine ex_then ?_
      refine cw_ret ?_
      refine ex_pass_ret ?_
      refine ex_ret (.inl rfl) (res_2 rfl (rv_agg rfl) (rv_tmp rfl)) (fun w1 hw => ?_)
      exact ⟨(by obtain ⟨e1, e2⟩ := rl_none (s := s) (by omega) (line_len2 (by omega)); rw [e1, e2]), Keep.mem hw⟩
    · try simp only [Bool.and_eq_true, Bool.or_eq_true, Bool.and_eq_false_iff, Bool.or_eq_false_iff, Bool.not_eq_true', Bool.not_eq_false', decide_eq_true_eq, decide_eq_false_iff_not, Bool.not_eq_true, Bool.not_eq_false] at h1
      refine cw_skip ?_
      refine ex_then ?_
      refine cw_seq ?_
      obtain ⟨a, b, hab⟩ := len2 (show (splitL 32 s).length = 2 by omega)
      have hla : a.length ≤ s.length := split_mem s (by rw [hab]; simp)
      have hlb : b.length ≤ s.length := split_mem s (by rw [hab]; simp)
      rw [hab]
      refine cw_region ?_
      refine sq_r (ry_move rfl) ?_
      refine sq_r (ry_idxH rfl rfl 0 rfl (by simp)) ?_
      refine sq_r (ry_elemcH (j := 0) rfl 0 (rfl : [a, b][0]? = some a) rfl (by decide)) ?_
      refine sq_y (yl_callC rfl (by omega)) ?_
      refine sq_r (ry_move rfl) ?_
      refine sq_r (ry_extract (v := .agg (pcells (rpP a))) rfl rfl) ?_
      refine sq_r (ry_extract (v := .int .i64 (rpE a)) rfl rfl) ?_
      refine sq_allocA fun b5 => ?_
      refine sq_storeW rfl rfl ?_
      refine sq_r (ry_assign rfl) ?_
      refine sq_nil ?_
      refine ex_then ?_
      refine cw_seq ?_
      refine cw_region ?_
      refine sq_r (ry_move rfl) ?_
      refine sq_r (ry_idxH rfl rfl 1 rfl (by simp)) ?_
      refine sq_r (ry_elemcH (j := 0) rfl 1 (rfl : [a, b][1]? = some b) rfl (by decide)) ?_
      refine sq_y (yl_callC (vs := [_, .int .i64 ((65535 : Nat) : Int)]) rfl (by omega)) ?_
      refine sq_r (ry_assign rfl) ?_
      refine sq_nil ?_
      refine ex_then ?_
      refine cw_seq ?_
      refine cw_seq ?_
      refine cw_region ?_
      refine sq_r (ry_move rfl) ?_
      refine sq_r (ry_int rfl rfl rfl) ?_
      refine sq_r (ry_move rfl) ?_
      refine sq_gf rfl rfl rfl (fun hg => (Ry.yl (ry_move rfl))) ?_
      refine sq_gf rfl rfl rfl (fun hg => (Ry.yl (ry_int (ev_c hg rfl) rfl rfl))) ?_
      refine sq_r (ry_or rfl rfl rfl) ?_
      refine sq_nil ?_
      refine ex_then ?_
      refine cw_cond rfl (fun h2 => ?_) (fun h2 => ?_)
      · try simp only [Bool.and_eq_true, Bool.or_eq_true, Bool.and_eq_false_iff, Bool.or_eq_false_iff, Bool.not_eq_true', Bool.not_eq_false', decide_eq_true_eq, decide_eq_false_iff_not, Bool.not_eq_true, Bool.not_eq_false] at h2
        refine cw_seq ?_
        refine cw_region ?_
        refine sq_r (ry_buildc rfl) ?_
        refine sq_storeW rfl rfl ?_
        refine sq_r (ry_assign rfl) ?_
        refine sq_nil ?_
        refine ex_then ?_
        refine cw_ret ?_
        refine ex_pass_ret ?_
        refine ex_ret (.inl rfl) (res_2 rfl (rv_agg rfl) (rv_tmp rfl)) (fun w1 hw => ?_)
        exact ⟨(by obtain ⟨e1, e2⟩ := rl_none (s := s) (by omega) (by rw [line_two hab]; rcases h2 with h | h; exact lm_pfx (by omega) h; exact lm_num (numI_none h)); rw [e1, e2]), Keep.mem hw⟩
      · try simp only [Bool.and_eq_true, Bool.or_eq_true, Bool.and_eq_false_iff, Bool.or_eq_false_iff, Bool.not_eq_true', Bool.not_eq_false', decide_eq_true_eq, decide_eq_false_iff_not, Bool.not_eq_true, Bool.not_eq_false] at h2
        obtain ⟨hz, hso⟩ := numI_at (s := b) (top := 65535) (by omega)
        obtain ⟨m, hm⟩ := Option.isSome_iff_exists.1 hso
        refine cw_skip ?_
        refine ex_then ?_
        refine cw_seq ?_
        refine cw_region ?_
        refine sq_r (ry_whole rfl) ?_
        refine sq_r (ry_move rfl) ?_
        refine sq_r (Ry.as (v' := .int .u16 (((UInt16.ofNat ((numO b 65535).getD 0)).toNat : Nat) : Int)) (ry_convi rfl (by omega) (by have := num_top b 65535; simp only [nb]; omega)) (by rw [hz]; exact u16_nat (num_top b 65535))) ?_
        refine sq_r (ry_buildc rfl) ?_
        refine sq_storeW rfl rfl ?_
        refine sq_r (ry_assign rfl) ?_
        refine sq_nil ?_
        refine ex_then ?_
        refine cw_ret ?_
        refine ex_ret (.inl rfl) (res_2 rfl (rv_agg rfl) (rv_tmp rfl)) (fun w1 hw => ?_)
        exact ⟨(by obtain ⟨e1, e2⟩ := rl_some (s := s) (by omega) ((line_two hab).trans (lm_val (by omega) (by omega) hm)); rw [e1, e2, hm]; rfl), Keep.mem hw⟩
instance rreadl_i {w0 : World} {L : List Ent} {s : List UInt8}  : FnQ Tryd.prog 14 w0 L [.string ⟨s.toArray⟩] (.tuple #[.agg (rcells (rlR s)), .int .i64 (rlE s)]) (s.length ≤ 1000000000) := ⟨fun hp w hw => rreadl_c w s  hp⟩

end Go.Proofs.YtldkgicmfbofiaaDoor
