/- Prefixes and routes read: walked. -/
import Derived.Test.YtldkgicmfbofiaaDoorRE
import Derived.Test.YtldkgicmfbofiaaDoorRp
set_option linter.unusedSimpArgs false
set_option linter.unusedVariables false
namespace Go.Proofs.YtldkgicmfbofiaaDoor
open Go.Eng Go.Kb
set_option maxRecDepth 20000 in
theorem treadp_c (w : World) [tb : Tabs w] (s : List UInt8)  (hpre : s.length ≤ 1000000000) : Calls Tryd.prog 15 #[.string ⟨s.toArray⟩] w fun e w' => e = .returned (.tuple #[.agg (pcells (rpP s)), .int .i64 (rpE s)]) ∧ Mem w [] w' := by
  obtain ⟨hca, hcb⟩ := cut_len 47 s
  refine calls_of (args := [_]) Tryd.func15 rfl Tryd.ntmps15 rfl ?_
  change Cw _ _ _ _ _ [(0, .string ⟨s.toArray⟩)] []
  refine cw_seq ?_
  refine cw_region ?_
  refine sq_allocA fun b2 => ?_
  refine sq_r (ry_assign rfl) ?_
  refine sq_nil ?_
  refine ex_then ?_
  refine cw_seq ?_
  refine cw_seq ?_
  refine cw_region ?_
  refine sq_r (ry_move rfl) ?_
  refine sq_r (ry_lenT (s := s) Tryd.underlying9 rfl) ?_
  refine sq_r (ry_int rfl rfl rfl) ?_
  refine sq_nil ?_
  refine ex_then ?_
  refine cw_cond rfl (fun h0 => ?_) (fun h0 => ?_)
  · try simp only [Bool.and_eq_true, Bool.or_eq_true, Bool.and_eq_false_iff, Bool.or_eq_false_iff, Bool.not_eq_true', Bool.not_eq_false', decide_eq_true_eq, decide_eq_false_iff_not, Bool.not_eq_true, Bool.not_eq_false] at h0
    refine cw_seq ?_
    refine cw_region ?_
    refine sq_r (ry_buildc rfl) ?_
    refine sq_storeW rfl rfl ?_
    refine sq_r (ry_assign rfl) ?_
    refine sq_nil ?_
    refine ex_then ?_
    refine cw_ret ?_
    refine ex_pass_ret ?_
    refine ex_ret (.inl rfl) (res_2 rfl (rv_agg rfl) (rv_tmp rfl)) (fun w1 hw => ?_)
    exact ⟨(by obtain ⟨e1, e2⟩ := rp_long (s := s) (by omega); rw [e1, e2]), Keep.mem hw⟩
  · try simp only [Bool.and_eq_true, Bool.or_eq_true, Bool.and_eq_false_iff, Bool.or_eq_false_iff, Bool.not_eq_true', Bool.not_eq_false', decide_eq_true_eq, decide_eq_false_iff_not, Bool.not_eq_true, Bool.not_eq_false] at h0
    refine cw_skip ?_
    refine ex_then ?_
    refine cw_seq ?_
    refine cw_region ?_
    refine sq_r (ry_move rfl) ?_
    refine sq_y (yl_callC rfl (by omega)) ?_
    refine sq_r (ry_move rfl) ?_
    refine sq_r (ry_extract (v := .string ⟨((cutL 47 s).1).toArray⟩) rfl rfl) ?_
    refine sq_r (ry_extract (v := .string ⟨((cutL 47 s).2.1).toArray⟩) rfl rfl) ?_
    refine sq_r (ry_extract (v := .bool ((cutL 47 s).2.2)) rfl rfl) ?_
    refine sq_r (ry_assign rfl) ?_
    refine sq_r (ry_assign rfl) ?_
    refine sq_r (ry_assign rfl) ?_
    refine sq_nil ?_
    refine ex_then ?_
    refine cw_seq ?_
    refine cw_seq ?_
    refine cw_region ?_
    refine sq_r (ry_move rfl) ?_
    refine sq_r (ry_not rfl) ?_
    refine sq_nil ?_
    refine ex_then ?_
    refine cw_cond rfl (fun h1 => ?_) (fun h1 => ?_)
    · try simp only [Bool.and_eq_true, Bool.or_eq_true, Bool.and_eq_false_iff, Bool.or_eq_false_iff, Bool.not_eq_true', Bool.not_eq_false', decide_eq_true_eq, decide_eq_false_iff_not, Bool.not_eq_true, Bool.not_eq_false] at h1
      refine cw_seq ?_
      refine cw_region ?_
      refine sq_r (ry_buildc rfl) ?_
      refine sq_storeW rfl rfl ?_
      refine sq_r (ry_assign rfl) ?_
      refine sq_nil ?_
      refine ex_then ?_
      refine cw_ret ?_
      refine ex_pass_ret ?_
      refine ex_ret (.inl rfl) (res_2 rfl (rv_agg rfl) (rv_tmp rfl)) (fun w1 hw => ?_)
      exact ⟨(by obtain ⟨e1, e2⟩ := rp_none (s := s) (by omega) (pfx_cut_no h1); rw [e1, e2]), Keep.mem hw⟩
    · try simp only [Bool.and_eq_true, Bool.or_eq_true, Bool.and_eq_false_iff, Bool.or_eq_false_iff, Bool.not_eq_true', Bool.not_eq_false', decide_eq_true_eq, decide_eq_false_iff_not, Bool.not_eq_true, Bool.not_eq_false] at h1
      refine cw_skip ?_
      refine ex_then ?_
      refine cw_seq ?_
      refine cw_region ?_
      refine sq_r (ry_move rfl) ?_
      refine sq_y (yl_callC rfl (by omega)) ?_
      refine sq_r (ry_move rfl) ?_
      refine sq_r (ry_extract (v := .agg (kcells (rkK ((cutL 47 s).1)))) rfl rfl) ?_
      refine sq_r (ry_extract (v := .int .i64 ((rkN ((cutL 47 s).1)) : Nat)) rfl rfl) ?_
      refine sq_r (ry_extract (v := .int .i64 (rkE ((cutL 47 s).1))) rfl rfl) ?_
      refine sq_allocA fun b7 => ?_
      refine sq_storeW rfl rfl ?_
      refine sq_r (ry_assign rfl) ?_
      refine sq_r (ry_assign rfl) ?_
      refine sq_nil ?_
      refine ex_then ?_
      refine cw_seq ?_
      refine cw_seq ?_
      refine cw_region ?_
      refine sq_r (ry_move rfl) ?_
      refine sq_r (ry_int rfl rfl rfl) ?_
      refine sq_nil ?_
      refine ex_then ?_
      refine cw_cond rfl (fun h2 => ?_) (fun h2 => ?_)
      · try simp only [Bool.and_eq_true, Bool.or_eq_true, Bool.and_eq_false_iff, Bool.or_eq_false_iff, Bool.not_eq_true', Bool.not_eq_false', decide_eq_true_eq, decide_eq_false_iff_not, Bool.not_eq_true, Bool.not_eq_false] at h2
        refine cw_seq ?_
        refine cw_region ?_
        refine sq_r (ry_buildc rfl) ?_
        refine sq_storeW rfl rfl ?_
        refine sq_r (ry_assign rfl) ?_
        refine sq_nil ?_
        refine ex_then ?_
        refine cw_ret ?_
        refine ex_pass_ret ?_
        refine ex_ret (.inl rfl) (res_2 rfl (rv_agg rfl) (rv_tmp rfl)) (fun w1 hw => ?_)
        exact ⟨(by obtain ⟨e1, e2⟩ := rp_none (s := s) (by omega) (by rw [pfx_cut h1]; exact pm_key (by omega) (by omega)); rw [e1, e2]), Keep.mem hw⟩
      · try simp only [Bool.and_eq_true, Bool.or_eq_true, Bool.and_eq_false_iff, Bool.or_eq_false_iff, Bool.not_eq_true', Bool.not_eq_false', decide_eq_true_eq, decide_eq_false_iff_not, Bool.not_eq_true, Bool.not_eq_false] at h2
        have hr : rkE (cutL 47 s).1 = 0 := by omega
        obtain ⟨_, hm⟩ := rk_ok (by omega) hr
        refine cw_skip ?_
        refine ex_then ?_
        refine cw_seq ?_
        refine cw_region ?_
        refine sq_r (ry_move rfl) ?_
        refine sq_r (ry_move rfl) ?_
        refine sq_y (yl_callC rfl ⟨by omega, by omega⟩) ?_
        refine sq_r (ry_move rfl) ?_
        refine sq_r (ry_extract (v := .int .i64 (((numO ((cutL 47 s).2.1) (rkN ((cutL 47 s).1))).getD 0) : Nat)) rfl rfl) ?_
        refine sq_r (ry_extract (v := .bool ((numO ((cutL 47 s).2.1) (rkN ((cutL 47 s).1))).isSome)) rfl rfl) ?_
        refine sq_r (ry_assign rfl) ?_
        refine sq_r (ry_assign rfl) ?_
        refine sq_nil ?_
        refine ex_then ?_
        refine cw_seq ?_
        refine cw_seq ?_
        refine cw_region ?_
        refine sq_r (ry_move rfl) ?_
        refine sq_r (ry_not rfl) ?_
        refine sq_nil ?_
        refine ex_then ?_
        refine cw_cond rfl (fun h3 => ?_) (fun h3 => ?_)
        · try simp only [Bool.and_eq_true, Bool.or_eq_true, Bool.and_eq_false_iff, Bool.or_eq_false_iff, Bool.not_eq_true', Bool.not_eq_false', decide_eq_true_eq, decide_eq_false_iff_not, Bool.not_eq_true, Bool.not_eq_false] at h3
          refine cw_seq ?_
          refine cw_region ?_
          refine sq_r (ry_buildc rfl) ?_
          refine sq_storeW rfl rfl ?_
          refine sq_r (ry_assign rfl) ?_
          refine sq_nil ?_
          refine ex_then ?_
          refine cw_ret ?_
          refine ex_pass_ret ?_
          refine ex_ret (.inl rfl) (res_2 rfl (rv_agg rfl) (rv_tmp rfl)) (fun w1 hw => ?_)
          exact ⟨(by obtain ⟨e1, e2⟩ := rp_none (s := s) (by omega) (by rw [pfx_cut h1]; exact pm_num (by omega) hr h3); rw [e1, e2]), Keep.mem hw⟩
        · try simp only [Bool.and_eq_true, Bool.or_eq_true, Bool.and_eq_false_iff, Bool.or_eq_false_iff, Bool.not_eq_true', Bool.not_eq_false', decide_eq_true_eq, decide_eq_false_iff_not, Bool.not_eq_true, Bool.not_eq_false] at h3
          refine cw_skip ?_
          refine ex_then ?_
          refine cw_seq ?_
          refine cw_region ?_
          refine sq_r (ry_move rfl) ?_
          refine sq_r (ry_move rfl) ?_
          refine sq_r (ry_whole rfl) ?_
          refine sq_r (ry_buildc rfl) ?_
          refine sq_allocA fun b11 => ?_
          refine sq_storeW rfl rfl ?_
          refine sq_nil ?_
          refine ex_then ?_
          refine cw_seq ?_
          refine cw_seq ?_
          refine cw_region ?_
          refine sq_r (ry_whole rfl) ?_
          refine sq_y (yl_callC rfl trivial) ?_
          refine sq_r (ry_not rfl) ?_
          refine sq_nil ?_
          refine ex_then ?_
          refine cw_cond rfl (fun h4 => ?_) (fun h4 => ?_)
          · try simp only [Bool.and_eq_true, Bool.or_eq_true, Bool.and_eq_false_iff, Bool.or_eq_false_iff, Bool.not_eq_true', Bool.not_eq_false', decide_eq_true_eq, decide_eq_false_iff_not, Bool.not_eq_true, Bool.not_eq_false] at h4
            refine cw_seq ?_
            refine cw_region ?_
            refine sq_r (ry_buildc rfl) ?_
            refine sq_storeW rfl rfl ?_
            refine sq_r (ry_assign rfl) ?_
            refine sq_nil ?_
            refine ex_then ?_
            refine cw_ret ?_
            refine ex_pass_ret ?_
            refine ex_ret (.inl rfl) (res_2 rfl (rv_agg rfl) (rv_tmp rfl)) (fun w1 hw => ?_)
            exact ⟨(by obtain ⟨e1, e2⟩ := rp_none (s := s) (by omega) (by rw [pfx_cut h1, pm_val (by omega) hr h3, h4]; rfl); rw [e1, e2]), Keep.mem hw⟩
          · try simp only [Bool.and_eq_true, Bool.or_eq_true, Bool.and_eq_false_iff, Bool.or_eq_false_iff, Bool.not_eq_true', Bool.not_eq_false', decide_eq_true_eq, decide_eq_false_iff_not, Bool.not_eq_true, Bool.not_eq_false] at h4
            refine cw_skip ?_
            refine ex_then ?_
            refine cw_seq ?_
            refine cw_region ?_
            refine sq_r (ry_whole rfl) ?_
            refine sq_storeW rfl rfl ?_
            refine sq_r (ry_assign rfl) ?_
            refine sq_nil ?_
            refine ex_then ?_
            refine cw_ret ?_
            refine ex_ret (.inl rfl) (res_2 rfl (rv_agg rfl) (rv_tmp rfl)) (fun w1 hw => ?_)
            exact ⟨(by obtain ⟨e1, e2⟩ := rp_some (s := s) (p := (⟨((rkN (cutL 47 s).1 : Nat) : Int), (((numO (cutL 47 s).2.1 (rkN (cutL 47 s).1)).getD 0 : Nat) : Int), rkK (cutL 47 s).1⟩ : Pfx)) (by omega) (by rw [pfx_cut h1, pm_val (by omega) hr h3, if_pos h4]); rw [e1, e2]), Keep.mem hw⟩
instance treadp_i {w0 : World} {L : List Ent} {s : List UInt8} [tb : Tabs w0]  : FnQ Tryd.prog 15 w0 L [.string ⟨s.toArray⟩] (.tuple #[.agg (pcells (rpP s)), .int .i64 (rpE s)]) (s.length ≤ 1000000000) := ⟨fun hp w hw => treadp_c w (tb := tb.at hw) s  hp⟩

set_option maxRecDepth 20000 in
theorem treadl_c (w : World) [tb : Tabs w] (s : List UInt8)  (hpre : s.length ≤ 1000000000) : Calls Tryd.prog 13 #[.string ⟨s.toArray⟩] w fun e w' => e = .returned (.tuple #[.agg (rcells (rlR s)), .int .i64 (rlE s)]) ∧ Mem w [] w' := by
  obtain ⟨hca, hcb⟩ := cut_len 32 s
  refine calls_of (args := [_]) Tryd.func13 rfl Tryd.ntmps13 rfl ?_
  change Cw _ _ _ _ _ [(0, .string ⟨s.toArray⟩)] []
  refine cw_seq ?_
  refine cw_region ?_
  refine sq_allocA fun b2 => ?_
  refine sq_r (ry_assign rfl) ?_
  refine sq_nil ?_
  refine ex_then ?_
  refine cw_seq ?_
  refine cw_seq ?_
  refine cw_region ?_
  refine sq_r (ry_move rfl) ?_
  refine sq_r (ry_lenT (s := s) Tryd.underlying9 rfl) ?_
  refine sq_r (ry_int rfl rfl rfl) ?_
  refine sq_nil ?_
  refine ex_then ?_
  refine cw_cond rfl (fun h0 => ?_) (fun h0 => ?_)
  · try simp only [Bool.and_eq_true, Bool.or_eq_true, Bool.and_eq_false_iff, Bool.or_eq_false_iff, Bool.not_eq_true', Bool.not_eq_false', decide_eq_true_eq, decide_eq_false_iff_not, Bool.not_eq_true, Bool.not_eq_false] at h0
    refine cw_seq ?_
    refine cw_region ?_
    refine sq_r (ry_buildc rfl) ?_
    refine sq_storeW rfl rfl ?_
    refine sq_r (ry_assign rfl) ?_
    refine sq_nil ?_
    refine ex_then ?_
    refine cw_ret ?_
    refine ex_pass_ret ?_
    refine ex_ret (.inl rfl) (res_2 rfl (rv_agg rfl) (rv_tmp rfl)) (fun w1 hw => ?_)
    exact ⟨(by obtain ⟨e1, e2⟩ := rl_long (s := s) (by omega); rw [e1, e2]), Keep.mem hw⟩
  · try simp only [Bool.and_eq_true, Bool.or_eq_true, Bool.and_eq_false_iff, Bool.or_eq_false_iff, Bool.not_eq_true', Bool.not_eq_false', decide_eq_true_eq, decide_eq_false_iff_not, Bool.not_eq_true, Bool.not_eq_false] at h0
    refine cw_skip ?_
    refine ex_then ?_
    refine cw_seq ?_
    refine cw_region ?_
    refine sq_r (ry_move rfl) ?_
    refine sq_y (yl_callC rfl (by omega)) ?_
    refine sq_r (ry_move rfl) ?_
    refine sq_r (ry_extract (v := .string ⟨((cutL 32 s).1).toArray⟩) rfl rfl) ?_
    refine sq_r (ry_extract (v := .string ⟨((cutL 32 s).2.1).toArray⟩) rfl rfl) ?_
    refine sq_r (ry_extract (v := .bool ((cutL 32 s).2.2)) rfl rfl) ?_
    refine sq_r (ry_assign rfl) ?_
    refine sq_r (ry_assign rfl) ?_
    refine sq_r (ry_assign rfl) ?_
    refine sq_nil ?_
    refine ex_then ?_
    refine cw_seq ?_
    refine cw_seq ?_
    refine cw_region ?_
    refine sq_r (ry_move rfl) ?_
    refine sq_r (ry_not rfl) ?_
    refine sq_nil ?_
    refine ex_then ?_
    refine cw_cond rfl (fun h1 => ?_) (fun h1 => ?_)
    · try simp only [Bool.and_eq_true, Bool.or_eq_true, Bool.and_eq_false_iff, Bool.or_eq_false_iff, Bool.not_eq_true', Bool.not_eq_false', decide_eq_true_eq, decide_eq_false_iff_not, Bool.not_eq_true, Bool.not_eq_false] at h1
      refine cw_seq ?_
      refine cw_region ?_
      refine sq_r (ry_buildc rfl) ?_
      refine sq_storeW rfl rfl ?_
      refine sq_r (ry_assign rfl) ?_
      refine sq_nil ?_
      refine ex_then ?_
      refine cw_ret ?_
      refine ex_pass_ret ?_
      refine ex_ret (.inl rfl) (res_2 rfl (rv_agg rfl) (rv_tmp rfl)) (fun w1 hw => ?_)
      exact ⟨(by obtain ⟨e1, e2⟩ := rl_none (s := s) (by omega) (line_cut_no h1); rw [e1, e2]), Keep.mem hw⟩
    · try simp only [Bool.and_eq_true, Bool.or_eq_true, Bool.and_eq_false_iff, Bool.or_eq_false_iff, Bool.not_eq_true', Bool.not_eq_false', decide_eq_true_eq, decide_eq_false_iff_not, Bool.not_eq_true, Bool.not_eq_false] at h1
      refine cw_skip ?_
      refine ex_then ?_
      refine cw_seq ?_
      refine cw_region ?_
      refine sq_r (ry_move rfl) ?_
      refine sq_y (yl_callC rfl (by omega)) ?_
      refine sq_r (ry_move rfl) ?_
      refine sq_r (ry_extract (v := .agg (pcells (rpP ((cutL 32 s).1)))) rfl rfl) ?_
      refine sq_r (ry_extract (v := .int .i64 (rpE ((cutL 32 s).1))) rfl rfl) ?_
      refine sq_allocA fun b7 => ?_
      refine sq_storeW rfl rfl ?_
      refine sq_r (ry_assign rfl) ?_
      refine sq_nil ?_
      refine ex_then ?_
      refine cw_seq ?_
      refine cw_seq ?_
      refine cw_region ?_
      refine sq_r (ry_move rfl) ?_
      refine sq_r (ry_int rfl rfl rfl) ?_
      refine sq_nil ?_
      refine ex_then ?_
      refine cw_cond rfl (fun h2 => ?_) (fun h2 => ?_)
      · try simp only [Bool.and_eq_true, Bool.or_eq_true, Bool.and_eq_false_iff, Bool.or_eq_false_iff, Bool.not_eq_true', Bool.not_eq_false', decide_eq_true_eq, decide_eq_false_iff_not, Bool.not_eq_true, Bool.not_eq_false] at h2
        refine cw_seq ?_
        refine cw_region ?_
        refine sq_r (ry_buildc rfl) ?_
        refine sq_storeW rfl rfl ?_
        refine sq_r (ry_assign rfl) ?_
        refine sq_nil ?_
        refine ex_then ?_
        refine cw_ret ?_
        refine ex_pass_ret ?_
        refine ex_ret (.inl rfl) (res_2 rfl (rv_agg rfl) (rv_tmp rfl)) (fun w1 hw => ?_)
        exact ⟨(by obtain ⟨e1, e2⟩ := rl_none (s := s) (by omega) (by rw [line_cut h1]; exact lm_pfx (by omega) (by omega)); rw [e1, e2]), Keep.mem hw⟩
      · try simp only [Bool.and_eq_true, Bool.or_eq_true, Bool.and_eq_false_iff, Bool.or_eq_false_iff, Bool.not_eq_true', Bool.not_eq_false', decide_eq_true_eq, decide_eq_false_iff_not, Bool.not_eq_true, Bool.not_eq_false] at h2
        refine cw_skip ?_
        refine ex_then ?_
        refine cw_seq ?_
        refine cw_region ?_
        refine sq_r (ry_move rfl) ?_
        refine sq_y (yl_callC (vs := [_, .int .i64 ((65535 : Nat) : Int)]) rfl ⟨by omega, by omega⟩) ?_
        refine sq_r (ry_move rfl) ?_
        refine sq_r (ry_extract (v := .int .i64 (((numO ((cutL 32 s).2.1) 65535).getD 0) : Nat)) rfl rfl) ?_
        refine sq_r (ry_extract (v := .bool ((numO ((cutL 32 s).2.1) 65535).isSome)) rfl rfl) ?_
        refine sq_r (ry_assign rfl) ?_
        refine sq_r (ry_assign rfl) ?_
        refine sq_nil ?_
        refine ex_then ?_
        refine cw_seq ?_
        refine cw_seq ?_
        refine cw_region ?_
        refine sq_r (ry_move rfl) ?_
        refine sq_r (ry_not rfl) ?_
        refine sq_nil ?_
        refine ex_then ?_
        refine cw_cond rfl (fun h3 => ?_) (fun h3 => ?_)
        · try simp only [Bool.and_eq_true, Bool.or_eq_true, Bool.and_eq_false_iff, Bool.or_eq_false_iff, Bool.not_eq_true', Bool.not_eq_false', decide_eq_true_eq, decide_eq_false_iff_not, Bool.not_eq_true, Bool.not_eq_false] at h3
          refine cw_seq ?_
          refine cw_region ?_
          refine sq_r (ry_buildc rfl) ?_
          refine sq_storeW rfl rfl ?_
          refine sq_r (ry_assign rfl) ?_
          refine sq_nil ?_
          refine ex_then ?_
          refine cw_ret ?_
          refine ex_pass_ret ?_
          refine ex_ret (.inl rfl) (res_2 rfl (rv_agg rfl) (rv_tmp rfl)) (fun w1 hw => ?_)
          exact ⟨(by obtain ⟨e1, e2⟩ := rl_none (s := s) (by omega) (by rw [line_cut h1]; exact lm_num (by simpa using h3)); rw [e1, e2]), Keep.mem hw⟩
        · try simp only [Bool.and_eq_true, Bool.or_eq_true, Bool.and_eq_false_iff, Bool.or_eq_false_iff, Bool.not_eq_true', Bool.not_eq_false', decide_eq_true_eq, decide_eq_false_iff_not, Bool.not_eq_true, Bool.not_eq_false] at h3
          obtain ⟨m, hm⟩ := Option.isSome_iff_exists.1 h3
          have hm2 := (num_iff.1 hm).2
          refine cw_skip ?_
          refine ex_then ?_
          refine cw_seq ?_
          refine cw_region ?_
          refine sq_r (ry_whole rfl) ?_
          refine sq_r (ry_move rfl) ?_
          refine sq_r (Ry.as (v' := .int .u16 (((UInt16.ofNat ((numO (cutL 32 s).2.1 65535).getD 0)).toNat : Nat) : Int)) (ry_convn rfl (by have := num_top (cutL 32 s).2.1 65535; simp only [nb]; omega)) (u16_nat (num_top (cutL 32 s).2.1 65535))) ?_
          refine sq_r (ry_buildc rfl) ?_
          refine sq_storeW rfl rfl ?_
          refine sq_r (ry_assign rfl) ?_
          refine sq_nil ?_
          refine ex_then ?_
          refine cw_ret ?_
          refine ex_ret (.inl rfl) (res_2 rfl (rv_agg rfl) (rv_tmp rfl)) (fun w1 hw => ?_)
          exact ⟨(by obtain ⟨e1, e2⟩ := rl_some (s := s) (by omega) ((line_cut h1).trans (lm_val (by omega) (by omega) hm)); rw [e1, e2, hm]; rfl), Keep.mem hw⟩
instance treadl_i {w0 : World} {L : List Ent} {s : List UInt8} [tb : Tabs w0]  : FnQ Tryd.prog 13 w0 L [.string ⟨s.toArray⟩] (.tuple #[.agg (rcells (rlR s)), .int .i64 (rlE s)]) (s.length ≤ 1000000000) := ⟨fun hp w hw => treadl_c w (tb := tb.at hw) s  hp⟩

end Go.Proofs.YtldkgicmfbofiaaDoor
