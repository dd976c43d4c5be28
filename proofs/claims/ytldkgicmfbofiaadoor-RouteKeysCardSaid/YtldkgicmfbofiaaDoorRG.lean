/- Keys read by the reference: walked. -/
import Derived.Test.YtldkgicmfbofiaaDoorRE
import Derived.Test.YtldkgicmfbofiaaDoorRp
set_option linter.unusedSimpArgs false
set_option linter.unusedVariables false
namespace Go.Proofs.YtldkgicmfbofiaaDoor
open Go.Eng Go.Kb
set_option maxRecDepth 20000 in
theorem rreadk_c (w : World) (s : List UInt8)  (hpre : s.length ≤ 1000000000) : Calls Tryd.prog 18 #[.string ⟨s.toArray⟩] w fun e w' => e = .returned (.tuple #[.agg (kcells (rkK s)), .int .i64 ((rkN s) : Nat), .int .i64 (rkE s)]) ∧ Mem w [] w' := by
  refine calls_of (args := [_]) Tryd.func18 rfl Tryd.ntmps18 rfl ?_
  change Cw _ _ _ _ _ [(0, .string ⟨s.toArray⟩)] []
  refine cw_seq ?_
  refine cw_region ?_
  refine sq_allocA fun b2 => ?_
  refine sq_r (ry_assign rfl) ?_
  refine sq_r (ry_assign rfl) ?_
  refine sq_nil ?_
  refine ex_then ?_
  refine cw_seq ?_
  refine cw_seq ?_
  refine cw_region ?_
  refine sq_r (ry_move rfl) ?_
  refine sq_r (ry_lenT (s := s) Tryd.underlying9 rfl) ?_
  refine sq_r (ry_int rfl rfl rfl) ?_
  refine sq_nil ?_
  refine ex_then ?_
  refine cw_cond rfl (fun h0 => ?_) (fun h0 => ?_)
  · try simp only [Bool.and_eq_true, Bool.or_eq_true, Bool.and_eq_false_iff, Bool.or_eq_false_iff, Bool.not_eq_true', Bool.not_eq_false', decide_eq_true_eq, decide_eq_false_iff_not, Bool.not_eq_true, Bool.not_eq_false] at h0
    refine cw_seq ?_
    refine cw_region ?_
    refine sq_r (ry_buildc rfl) ?_
    refine sq_storeW rfl rfl ?_
    refine sq_r (ry_assign rfl) ?_
    refine sq_r (ry_assign rfl) ?_
    refine sq_nil ?_
    refine ex_then ?_
    refine cw_ret ?_
    refine ex_pass_ret ?_
    refine ex_ret (.inl rfl) (res_3 rfl (rv_agg rfl) (rv_tmp rfl) (rv_tmp rfl)) (fun w1 hw => ?_)
    exact ⟨(by obtain ⟨e1, e2, e3⟩ := rk_long (s := s) (by omega); rw [e1, e2, e3]; rfl), Keep.mem hw⟩
  · try simp only [Bool.and_eq_true, Bool.or_eq_true, Bool.and_eq_false_iff, Bool.or_eq_false_iff, Bool.not_eq_true', Bool.not_eq_false', decide_eq_true_eq, decide_eq_false_iff_not, Bool.not_eq_true, Bool.not_eq_false] at h0
    refine cw_skip ?_
    refine ex_then ?_
    refine cw_seq ?_
    refine cw_region ?_
    refine sq_allocA fun b5 => ?_
    refine sq_nil ?_
    refine ex_then ?_
    refine cw_seq ?_
    refine cw_region ?_
    refine sq_r (ry_move rfl) ?_
    refine sq_callC (vs := [_, .int .u8 ((46 : UInt8).toNat : Int)]) rfl (by omega) fun x17 hp17 => ?_
    refine sq_r (ry_assign rfl) ?_
    refine sq_nil ?_
    refine ex_then ?_
    refine cw_seq ?_
    refine cw_seq ?_
    refine cw_region ?_
    refine sq_r (ry_move rfl) ?_
    refine sq_r (ry_lenH rfl) ?_
    refine sq_r (ry_int rfl rfl rfl) ?_
    refine sq_nil ?_
    refine ex_then ?_
    refine cw_cond rfl (fun h1 => ?_) (fun h1 => ?_)
    · try simp only [Bool.and_eq_true, Bool.or_eq_true, Bool.and_eq_false_iff, Bool.or_eq_false_iff, Bool.not_eq_true', Bool.not_eq_false', decide_eq_true_eq, decide_eq_false_iff_not, Bool.not_eq_true, Bool.not_eq_false] at h1
      refine cw_seq ?_
      refine cw_seq ?_
      refine cw_region ?_
      refine sq_r (ry_assign rfl) ?_
      refine sq_nil ?_
      refine ex_then ?_
      refine cw_block ?_
      refine cw_loop (X := Nat × Key) (fun zz => [(7, .int .i64 (zz.1 : Nat)), (5, .pointer (some ⟨b5, 0, none⟩)), (2, .pointer (some ⟨b2, 0, none⟩)), (6, x17.val)]) (fun zz => [own txc 1 x17 (splitL 46 s), blk b5 (kcells zz.2) 23, blk b2 (kcells 0#128) 23]) (fun zz => zz.1 ≤ 4 ∧ Part4 (splitL 46 s) zz.1 zz.2) (fun zz => 4 - zz.1) (0, 0#128) ⟨Nat.zero_le _, part4_0 _⟩ (Sub.cons rfl (Sub.cons rfl (Sub.cons rfl (Sub.cons rfl (Sub.nil _))))) (fun w hw => Keep.mem hw) ?_
      rintro ⟨i, kk⟩ ⟨hi, hp⟩
      dsimp only
      simp only at hi hp
      refine cw_seq ?_
      refine cw_seq ?_
      refine cw_region ?_
      refine sq_r (ry_move rfl) ?_
      refine sq_r (ry_int rfl rfl rfl) ?_
      refine sq_nil ?_
      refine ex_then ?_
      refine cw_cond rfl (fun h2 => ?_) (fun h2 => ?_)
      · try simp only [Bool.and_eq_true, Bool.or_eq_true, Bool.and_eq_false_iff, Bool.or_eq_false_iff, Bool.not_eq_true', Bool.not_eq_false', decide_eq_true_eq, decide_eq_false_iff_not, Bool.not_eq_true, Bool.not_eq_false] at h2
        refine cw_skip ?_
        refine ex_then ?_
        refine cw_seq ?_
        refine cw_block ?_
        refine cw_seq ?_
        refine cw_region ?_
        refine sq_r (ry_move rfl) ?_
        refine sq_r (ry_move rfl) ?_
        obtain ⟨x, hx⟩ := get_some (xs := (splitL (46 : UInt8) s)) (i := i) (by omega)
        refine sq_r (ry_idxH rfl rfl i rfl (by omega)) ?_
        refine sq_r (ry_elemcH (j := 0) rfl i hx rfl (by decide)) ?_
        refine sq_y (yl_callC (vs := [_, .int .i64 ((255 : Nat) : Int)]) rfl (by omega)) ?_
        refine sq_r (ry_assign rfl) ?_
        refine sq_nil ?_
        refine ex_then ?_
        refine cw_seq ?_
        refine cw_seq ?_
        refine cw_region ?_
        refine sq_r (ry_move rfl) ?_
        refine sq_r (ry_int rfl rfl rfl) ?_
        refine sq_nil ?_
        refine ex_then ?_
        refine cw_cond rfl (fun h3 => ?_) (fun h3 => ?_)
        · try simp only [Bool.and_eq_true, Bool.or_eq_true, Bool.and_eq_false_iff, Bool.or_eq_false_iff, Bool.not_eq_true', Bool.not_eq_false', decide_eq_true_eq, decide_eq_false_iff_not, Bool.not_eq_true, Bool.not_eq_false] at h3
          refine cw_seq ?_
          refine cw_region ?_
          refine sq_r (ry_buildc rfl) ?_
          refine sq_storeW rfl rfl ?_
          refine sq_r (ry_assign rfl) ?_
          refine sq_r (ry_assign rfl) ?_
          refine sq_nil ?_
          refine ex_then ?_
          refine cw_ret ?_
          refine ex_pass_ret ?_
          refine ex_block_ret ?_
          refine ex_pass_ret ?_
          refine ex_pass_ret ?_
          refine ex_block_ret ?_
          refine ex_pass_ret ?_
          refine ex_pass_ret ?_
          refine ex_ret (.inl rfl) (res_3 rfl (rv_agg rfl) (rv_tmp rfl) (rv_tmp rfl)) (fun w1 hw => ?_)
          exact ⟨(by obtain ⟨e1, e2, e3⟩ := wide_rk_dot (s := s) (by omega) (by omega) (short_no_num (by omega) hx (by rw [numI_none h3]; rfl)); rw [e1, e2, e3]; rfl), Keep.mem hw⟩
        · try simp only [Bool.and_eq_true, Bool.or_eq_true, Bool.and_eq_false_iff, Bool.or_eq_false_iff, Bool.not_eq_true', Bool.not_eq_false', decide_eq_true_eq, decide_eq_false_iff_not, Bool.not_eq_true, Bool.not_eq_false] at h3
          obtain ⟨hz, hso⟩ := numI_at h3
          refine cw_skip ?_
          refine ex_then ?_
          refine cw_region ?_
          refine sq_r (ry_move rfl) ?_
          refine sq_r (ry_move rfl) ?_
          refine sq_r (Ry.as (v' := .int .u8 (((numO x 255).getD 0 : Nat) : Int)) (ry_convi rfl (by omega) (by have := num255 x; simp only [nb]; omega)) (by rw [hz])) ?_
          refine sq_r (ry_idxA1 rfl rfl (by omega) (by omega)) ?_
          refine sq_store (cs' := kcells (kput kk i ((numO x 255).getD 0))) rfl rfl (by rw [kcells_size]; omega) rfl (kputs kk i (by omega) (num255 x)) ?_
          refine sq_nil ?_
          refine ex_block ?_
          refine ex_then ?_
          refine cw_region ?_
          refine sq_r (ry_move rfl) ?_
          refine sq_r (ry_add rfl rfl (by omega)) ?_
          refine sq_r (ry_assign rfl) ?_
          refine sq_nil ?_
          exact ex_again (x := (i, kk)) (i + 1, kput kk i ((numO x 255).getD 0)) ⟨by first | omega | (simp only []; omega), hp.step hx hso (by first | omega | (simp only []; omega))⟩ (by simp only; omega) (Sub.cons rfl (Sub.cons rfl (Sub.cons rfl (Sub.cons rfl (Sub.nil _))))) (fun w hw => Keep.mem hw)
      · try simp only [Bool.and_eq_true, Bool.or_eq_true, Bool.and_eq_false_iff, Bool.or_eq_false_iff, Bool.not_eq_true', Bool.not_eq_false', decide_eq_true_eq, decide_eq_false_iff_not, Bool.not_eq_true, Bool.not_eq_false] at h2
        refine cw_exit ?_
        refine ex_pass_exit ?_
        refine ex_pass_exit ?_
        refine ex_block_hit ?_
        refine ex_then ?_
        refine cw_seq ?_
        refine cw_region ?_
        refine sq_r (ry_whole rfl) ?_
        refine sq_storeW rfl rfl ?_
        refine sq_r (ry_assign rfl) ?_
        refine sq_r (ry_assign rfl) ?_
        refine sq_nil ?_
        refine ex_then ?_
        refine cw_ret ?_
        refine ex_pass_ret ?_
        refine ex_ret (.inl rfl) (res_3 rfl (rv_agg rfl) (rv_tmp rfl) (rv_tmp rfl)) (fun w1 hw => ?_)
        exact ⟨(by obtain ⟨e1, e2, e3⟩ := rk_short (s := s) (by omega) (short_yes (by omega) (by rw [show i = 4 by omega] at hp; exact hp)); rw [e1, e2, e3]; rfl), Keep.mem hw⟩
    · try simp only [Bool.and_eq_true, Bool.or_eq_true, Bool.and_eq_false_iff, Bool.or_eq_false_iff, Bool.not_eq_true', Bool.not_eq_false', decide_eq_true_eq, decide_eq_false_iff_not, Bool.not_eq_true, Bool.not_eq_false] at h1
      have hns : shortO s = none := short_no_len (by omega)
      refine cw_skip ?_
      refine ex_then ?_
      refine cw_seq ?_
      refine cw_seq ?_
      refine cw_region ?_
      refine sq_r (ry_move rfl) ?_
      refine sq_r (ry_lenT (s := s) Tryd.underlying9 rfl) ?_
      refine sq_r (ry_int rfl rfl rfl) ?_
      refine sq_nil ?_
      refine ex_then ?_
      refine cw_cond rfl (fun h4 => ?_) (fun h4 => ?_)
      · try simp only [Bool.and_eq_true, Bool.or_eq_true, Bool.and_eq_false_iff, Bool.or_eq_false_iff, Bool.not_eq_true', Bool.not_eq_false', decide_eq_true_eq, decide_eq_false_iff_not, Bool.not_eq_true, Bool.not_eq_false] at h4
        refine cw_seq ?_
        refine cw_region ?_
        refine sq_r (ry_buildc rfl) ?_
        refine sq_storeW rfl rfl ?_
        refine sq_r (ry_assign rfl) ?_
        refine sq_r (ry_assign rfl) ?_
        refine sq_nil ?_
        refine ex_then ?_
        refine cw_ret ?_
        refine ex_pass_ret ?_
        refine ex_ret (.inl rfl) (res_3 rfl (rv_agg rfl) (rv_tmp rfl) (rv_tmp rfl)) (fun w1 hw => ?_)
        exact ⟨(by obtain ⟨e1, e2, e3⟩ := rk_none (s := s) (by omega) hns (wide_no_len (by omega)); rw [e1, e2, e3]; rfl), Keep.mem hw⟩
      · try simp only [Bool.and_eq_true, Bool.or_eq_true, Bool.and_eq_false_iff, Bool.or_eq_false_iff, Bool.not_eq_true', Bool.not_eq_false', decide_eq_true_eq, decide_eq_false_iff_not, Bool.not_eq_true, Bool.not_eq_false] at h4
        refine cw_skip ?_
        refine ex_then ?_
        refine cw_seq ?_
        refine cw_seq ?_
        refine cw_region ?_
        refine sq_r (ry_assign rfl) ?_
        refine sq_nil ?_
        refine ex_then ?_
        refine cw_block ?_
        refine cw_loop (X := Nat × Key) (fun zz => [(9, .int .i64 (zz.1 : Nat)), (5, .pointer (some ⟨b5, 0, none⟩)), (0, .string ⟨s.toArray⟩), (2, .pointer (some ⟨b2, 0, none⟩))]) (fun zz => [blk b5 (kcells zz.2) 23, blk b2 (kcells 0#128) 23]) (fun zz => zz.1 ≤ 16 ∧ PartR s zz.1 zz.2) (fun zz => 16 - zz.1) (0, 0#128) ⟨Nat.zero_le _, partR_0 s⟩ (Sub.cons rfl (Sub.cons rfl (Sub.cons rfl (Sub.cons rfl (Sub.nil _))))) (fun w hw => Keep.mem hw) ?_
        rintro ⟨i, kk⟩ ⟨hi, hp⟩
        dsimp only
        simp only at hi hp
        refine cw_seq ?_
        refine cw_seq ?_
        refine cw_region ?_
        refine sq_r (ry_move rfl) ?_
        refine sq_r (ry_int rfl rfl rfl) ?_
        refine sq_nil ?_
        refine ex_then ?_
        refine cw_cond rfl (fun h5 => ?_) (fun h5 => ?_)
        · try simp only [Bool.and_eq_true, Bool.or_eq_true, Bool.and_eq_false_iff, Bool.or_eq_false_iff, Bool.not_eq_true', Bool.not_eq_false', decide_eq_true_eq, decide_eq_false_iff_not, Bool.not_eq_true, Bool.not_eq_false] at h5
          refine cw_skip ?_
          refine ex_then ?_
          refine cw_seq ?_
          refine cw_block ?_
          refine cw_seq ?_
          refine cw_quiet (by kernel_rfl) (by kernel_rfl) ?_
          refine qt_r (ry_move rfl) ?_
          refine qt_r (ry_move rfl) ?_
          refine qt_r (ry_mul rfl rfl (by omega)) ?_
          refine qt_r (ry_idxT (s := s) (2 * i) Tryd.underlying9 rfl rfl rfl (by omega)) ?_
          refine qt_y (yl_callC rfl trivial) ?_
          refine qt_r (ry_move rfl) ?_
          refine qt_r (ry_move rfl) ?_
          refine qt_r (ry_mul rfl rfl (by omega)) ?_
          refine qt_r (ry_add rfl rfl (by omega)) ?_
          refine qt_r (ry_idxT (s := s) ((2 * i) + 1) Tryd.underlying9 rfl rfl rfl (by omega)) ?_
          refine qt_y (yl_callC rfl trivial) ?_
          refine qt_r (ry_assign rfl) ?_
          refine qt_r (ry_assign rfl) ?_
          refine qt_nil ?_
          refine ex_then ?_
          refine cw_seq ?_
          refine cw_seq ?_
          refine cw_region ?_
          refine sq_r (ry_move rfl) ?_
          refine sq_r (ry_int rfl rfl rfl) ?_
          refine sq_r (ry_move rfl) ?_
          refine sq_gf rfl rfl rfl (fun hg => (Ry.yl (ry_move rfl))) ?_
          refine sq_gf rfl rfl rfl (fun hg => (Ry.yl (ry_int (ev_c hg rfl) rfl rfl))) ?_
          refine sq_r (ry_or rfl rfl rfl) ?_
          refine sq_nil ?_
          refine ex_then ?_
          refine cw_cond rfl (fun h6 => ?_) (fun h6 => ?_)
          · try simp only [Bool.and_eq_true, Bool.or_eq_true, Bool.and_eq_false_iff, Bool.or_eq_false_iff, Bool.not_eq_true', Bool.not_eq_false', decide_eq_true_eq, decide_eq_false_iff_not, Bool.not_eq_true, Bool.not_eq_false] at h6
            refine cw_seq ?_
            refine cw_region ?_
            refine sq_r (ry_buildc rfl) ?_
            refine sq_storeW rfl rfl ?_
            refine sq_r (ry_assign rfl) ?_
            refine sq_r (ry_assign rfl) ?_
            refine sq_nil ?_
            refine ex_then ?_
            refine cw_ret ?_
            refine ex_pass_ret ?_
            refine ex_block_ret ?_
            refine ex_pass_ret ?_
            refine ex_pass_ret ?_
            refine ex_block_ret ?_
            refine ex_pass_ret ?_
            refine ex_ret (.inl rfl) (res_3 rfl (rv_agg rfl) (rv_tmp rfl) (rv_tmp rfl)) (fun w1 hw => ?_)
            exact ⟨(by obtain ⟨e1, e2, e3⟩ := rk_none (s := s) (by omega) hns (h6.elim (fun q => hexI_no q (by omega)) (fun q => hexI_no q (by omega))); rw [e1, e2, e3]; rfl), Keep.mem hw⟩
          · try simp only [Bool.and_eq_true, Bool.or_eq_true, Bool.and_eq_false_iff, Bool.or_eq_false_iff, Bool.not_eq_true', Bool.not_eq_false', decide_eq_true_eq, decide_eq_false_iff_not, Bool.not_eq_true, Bool.not_eq_false] at h6
            obtain ⟨he1, hx1, ho1⟩ := hexI_at (s := s) (i := 2 * i) (by omega)
            obtain ⟨he2, hx2, ho2⟩ := hexI_at (s := s) (i := 2 * i + 1) (by omega)
            refine cw_skip ?_
            refine ex_then ?_
            refine cw_region ?_
            refine sq_r (ry_move rfl) ?_
            refine sq_r (ry_move rfl) ?_
            refine sq_r (ry_mul rfl rfl (by omega)) ?_
            refine sq_r (ry_move rfl) ?_
            refine sq_r (ry_add rfl rfl (by omega)) ?_
            refine sq_r (Ry.as (v' := .int .u8 (((16 * hexAt s (2 * i) + hexAt s (2 * i + 1)) : Nat) : Int)) (ry_convi rfl (by omega) (by simp only [nb]; omega)) (by rw [he1, he2]; rfl)) ?_
            refine sq_r (ry_idxA1 rfl rfl (by omega) (by omega)) ?_
            refine sq_store (cs' := kcells (kput kk i (16 * hexAt s (2 * i) + hexAt s (2 * i + 1)))) rfl rfl (by rw [kcells_size]; omega) rfl (kputs kk i (by omega) (by omega)) ?_
            refine sq_nil ?_
            refine ex_block ?_
            refine ex_then ?_
            refine cw_region ?_
            refine sq_r (ry_move rfl) ?_
            refine sq_r (ry_add rfl rfl (by omega)) ?_
            refine sq_r (ry_assign rfl) ?_
            refine sq_nil ?_
            exact ex_again (x := (i, kk)) (i + 1, kput kk i (16 * hexAt s (2 * i) + hexAt s (2 * i + 1))) ⟨by first | omega | (simp only []; omega), hp.step (by first | omega | (simp only []; omega)) ho1 ho2⟩ (by simp only; omega) (Sub.cons rfl (Sub.cons rfl (Sub.cons rfl (Sub.cons rfl (Sub.nil _))))) (fun w hw => Keep.mem hw)
        · try simp only [Bool.and_eq_true, Bool.or_eq_true, Bool.and_eq_false_iff, Bool.or_eq_false_iff, Bool.not_eq_true', Bool.not_eq_false', decide_eq_true_eq, decide_eq_false_iff_not, Bool.not_eq_true, Bool.not_eq_false] at h5
          refine cw_exit ?_
          refine ex_pass_exit ?_
          refine ex_pass_exit ?_
          refine ex_block_hit ?_
          refine ex_then ?_
          refine cw_seq ?_
          refine cw_region ?_
          refine sq_r (ry_whole rfl) ?_
          refine sq_storeW rfl rfl ?_
          refine sq_r (ry_assign rfl) ?_
          refine sq_r (ry_assign rfl) ?_
          refine sq_nil ?_
          refine ex_then ?_
          refine cw_ret ?_
          refine ex_ret (.inl rfl) (res_3 rfl (rv_agg rfl) (rv_tmp rfl) (rv_tmp rfl)) (fun w1 hw => ?_)
          exact ⟨(by obtain ⟨e1, e2, e3⟩ := rk_wide (s := s) (by omega) hns (wide_yesR (by omega) (by rw [show i = 16 by omega] at hp; exact hp)); rw [e1, e2, e3]; rfl), Keep.mem hw⟩
instance rreadk_i {w0 : World} {L : List Ent} {s : List UInt8}  : FnQ Tryd.prog 18 w0 L [.string ⟨s.toArray⟩] (.tuple #[.agg (kcells (rkK s)), .int .i64 ((rkN s) : Nat), .int .i64 (rkE s)]) (s.length ≤ 1000000000) := ⟨fun hp w hw => rreadk_c w s  hp⟩

end Go.Proofs.YtldkgicmfbofiaaDoor
