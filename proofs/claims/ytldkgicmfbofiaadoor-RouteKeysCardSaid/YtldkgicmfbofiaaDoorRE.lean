/- Keys read: walked. -/
import Derived.Test.YtldkgicmfbofiaaDoorRD
import Derived.Test.YtldkgicmfbofiaaDoorRk
set_option linter.unusedSimpArgs false
set_option linter.unusedVariables false
namespace Go.Proofs.YtldkgicmfbofiaaDoor
open Go.Eng Go.Kb
instance : BuildT Tryd.prog 23 [] (.agg (kcells 0#128)) := ⟨fun w => by rw [kcells_zero]; kernel_rfl⟩
instance : BuildT Tryd.prog 25 [] (.agg (pcells ⟨0, 0, 0#128⟩)) := ⟨fun w => by unfold pcells; rw [kcells_zero]; kernel_rfl⟩
instance : BuildT Tryd.prog 28 [] (.agg (rcells zroute)) := ⟨fun w => by unfold rcells pcells zroute; rw [kcells_zero]; kernel_rfl⟩
set_option maxRecDepth 20000 in
theorem short_c (w : World) [tb : Tabs w] (s : List UInt8)  (hpre : s.length ≤ 60) : Calls Tryd.prog 30 #[.string ⟨s.toArray⟩] w fun e w' => e = .returned (.tuple #[.agg (kcells ((shortO s).getD 0#128)), .bool ((shortO s).isSome)]) ∧ Mem w [] w' := by
  refine calls_of (args := [_]) Tryd.func30 rfl Tryd.ntmps30 rfl ?_
  change Cw _ _ _ _ _ [(0, .string ⟨s.toArray⟩)] []
  refine cw_seq ?_
  refine cw_region ?_
  refine sq_allocA fun b2 => ?_
  refine sq_r (ry_assign rfl) ?_
  refine sq_nil ?_
  refine ex_then ?_
  refine cw_seq ?_
  refine cw_region ?_
  refine sq_r (ry_move rfl) ?_
  refine sq_callC rfl (by omega) fun x11 hp11 => ?_
  refine sq_r (ry_assign rfl) ?_
  refine sq_nil ?_
  refine ex_then ?_
  refine cw_seq ?_
  refine cw_seq ?_
  refine cw_region ?_
  refine sq_r (ry_move rfl) ?_
  refine sq_r (ry_lenH rfl) ?_
  refine sq_r (ry_int rfl rfl rfl) ?_
  refine sq_nil ?_
  refine ex_then ?_
  refine cw_cond rfl (fun h0 => ?_) (fun h0 => ?_)
  · try simp only [Bool.and_eq_true, Bool.or_eq_true, Bool.and_eq_false_iff, Bool.or_eq_false_iff, Bool.not_eq_true', Bool.not_eq_false', decide_eq_true_eq, decide_eq_false_iff_not, Bool.not_eq_true, Bool.not_eq_false] at h0
    refine cw_seq ?_
    refine cw_region ?_
    refine sq_r (ry_buildc rfl) ?_
    refine sq_storeW rfl rfl ?_
    refine sq_r (ry_assign rfl) ?_
    refine sq_nil ?_
    refine ex_then ?_
    refine cw_ret ?_
    refine ex_pass_ret ?_
    refine ex_ret (.inl rfl) (res_2 rfl (rv_agg rfl) (rv_tmp rfl)) (fun w1 hw => ?_)
    exact ⟨(by rw [short_no_len (by omega)]; rfl), Keep.mem hw⟩
  · try simp only [Bool.and_eq_true, Bool.or_eq_true, Bool.and_eq_false_iff, Bool.or_eq_false_iff, Bool.not_eq_true', Bool.not_eq_false', decide_eq_true_eq, decide_eq_false_iff_not, Bool.not_eq_true, Bool.not_eq_false] at h0
    refine cw_skip ?_
    refine ex_then ?_
    refine cw_seq ?_
    refine cw_region ?_
    refine sq_allocA fun b5 => ?_
    refine sq_nil ?_
    refine ex_then ?_
    refine cw_seq ?_
    refine cw_seq ?_
    refine cw_region ?_
    refine sq_r (ry_move rfl) ?_
    refine sq_r (ry_lenH rfl) ?_
    refine sq_r (ry_move rfl) ?_
    refine sq_nil ?_
    refine ex_then ?_
    refine cw_block ?_
    refine cw_loop (X := Nat × Key) (fun zz => [(18, .int .i64 (zz.1 : Nat)), (5, .pointer (some ⟨b5, 0, none⟩)), (2, .pointer (some ⟨b2, 0, none⟩)), (16, (⟨false, x11, 0, (splitL 46 s).length, (splitL 46 s).length, none⟩ : Sv).val), (17, .int .i64 ((splitL 46 s).length : Nat))]) (fun zz => [blk b5 (kcells zz.2) 23, own txc 1 ⟨false, x11, 0, (splitL 46 s).length, (splitL 46 s).length, none⟩ (splitL 46 s), blk b2 (kcells 0#128) 23]) (fun zz => zz.1 ≤ 4 ∧ Part4 (splitL 46 s) zz.1 zz.2) (fun zz => 4 - zz.1) (0, 0#128) ⟨Nat.zero_le _, part4_0 _⟩ (Sub.cons rfl (Sub.cons rfl (Sub.cons rfl (Sub.cons rfl (Sub.cons rfl (Sub.nil _)))))) (fun w hw => Keep.mem hw) ?_
    rintro ⟨i, kk⟩ ⟨hi, hp⟩
    dsimp only
    simp only at hi hp
    refine cw_seq ?_
    refine cw_region ?_
    refine sq_r (ry_int rfl rfl rfl) ?_
    refine sq_nil ?_
    refine ex_then ?_
    refine cw_seq ?_
    refine cw_cond rfl (fun h1 => ?_) (fun h1 => ?_)
    · try simp only [Bool.and_eq_true, Bool.or_eq_true, Bool.and_eq_false_iff, Bool.or_eq_false_iff, Bool.not_eq_true', Bool.not_eq_false', decide_eq_true_eq, decide_eq_false_iff_not, Bool.not_eq_true, Bool.not_eq_false] at h1
      refine cw_skip ?_
      refine ex_then ?_
      refine cw_seq ?_
      refine cw_block ?_
      refine cw_seq ?_
      refine cw_region ?_
      refine sq_r (ry_move rfl) ?_
      obtain ⟨x, hx⟩ := get_some (xs := (splitL 46 s)) (i := i) (by omega)
      refine sq_r (ry_idxH rfl rfl i rfl (by omega)) ?_
      refine sq_r (ry_elemcH (j := 0) rfl i hx rfl (by decide)) ?_
      refine sq_r (ry_assign rfl) ?_
      refine sq_r (ry_assign rfl) ?_
      refine sq_nil ?_
      refine ex_then ?_
      refine cw_seq ?_
      refine cw_region ?_
      refine sq_r (ry_move rfl) ?_
      refine sq_y (yl_callC (vs := [_, .int .i64 ((255 : Nat) : Int)]) rfl ⟨by decide, by have := split_mem s (List.mem_of_getElem? hx); omega⟩) ?_
      refine sq_r (ry_move rfl) ?_
      refine sq_r (ry_extract (v := .int .i64 (((numO x 255).getD 0) : Nat)) rfl rfl) ?_
      refine sq_r (ry_extract (v := .bool ((numO x 255).isSome)) rfl rfl) ?_
      refine sq_r (ry_assign rfl) ?_
      refine sq_r (ry_assign rfl) ?_
      refine sq_nil ?_
      refine ex_then ?_
      refine cw_seq ?_
      refine cw_seq ?_
      refine cw_region ?_
      refine sq_r (ry_move rfl) ?_
      refine sq_r (ry_not rfl) ?_
      refine sq_nil ?_
      refine ex_then ?_
      refine cw_cond rfl (fun h2 => ?_) (fun h2 => ?_)
      · try simp only [Bool.and_eq_true, Bool.or_eq_true, Bool.and_eq_false_iff, Bool.or_eq_false_iff, Bool.not_eq_true', Bool.not_eq_false', decide_eq_true_eq, decide_eq_false_iff_not, Bool.not_eq_true, Bool.not_eq_false] at h2
        refine cw_seq ?_
        refine cw_region ?_
        refine sq_r (ry_buildc rfl) ?_
        refine sq_storeW rfl rfl ?_
        refine sq_r (ry_assign rfl) ?_
        refine sq_nil ?_
        refine ex_then ?_
        refine cw_ret ?_
        refine ex_pass_ret ?_
        refine ex_block_ret ?_
        refine ex_pass_ret ?_
        refine ex_pass_ret ?_
        refine ex_block_ret ?_
        refine ex_pass_ret ?_
        refine ex_ret (.inl rfl) (res_2 rfl (rv_agg rfl) (rv_tmp rfl)) (fun w1 hw => ?_)
        exact ⟨(by rw [short_no_num (by omega) hx h2]; rfl), Keep.mem hw⟩
      · try simp only [Bool.and_eq_true, Bool.or_eq_true, Bool.and_eq_false_iff, Bool.or_eq_false_iff, Bool.not_eq_true', Bool.not_eq_false', decide_eq_true_eq, decide_eq_false_iff_not, Bool.not_eq_true, Bool.not_eq_false] at h2
        refine cw_skip ?_
        refine ex_then ?_
        refine cw_region ?_
        refine sq_r (ry_move rfl) ?_
        refine sq_r (ry_move rfl) ?_
        refine sq_r (ry_convi (n := (((numO x 255).getD 0 : Nat) : Int)) rfl (by omega) (by have := num255 x; simp only [nb]; omega)) ?_
        refine sq_r (ry_idxA1 rfl rfl (by omega) (by omega)) ?_
        refine sq_store (cs' := kcells (kput kk i ((numO x 255).getD 0))) rfl rfl (by rw [kcells_size]; omega) rfl (kputs kk i (by omega) (num255 x)) ?_
        refine sq_nil ?_
        refine ex_block ?_
        refine ex_then ?_
        refine cw_region ?_
        refine sq_r (ry_add rfl rfl (by omega)) ?_
        refine sq_r (ry_move rfl) ?_
        refine sq_nil ?_
        exact ex_again (x := (i, kk)) (i + 1, kput kk i ((numO x 255).getD 0)) ⟨by first | omega | (simp only []; omega), hp.step hx h2 (by first | omega | (simp only []; omega))⟩ (by simp only; omega) (Sub.cons rfl (Sub.cons rfl (Sub.cons rfl (Sub.cons rfl (Sub.cons rfl (Sub.nil _)))))) (fun w hw => Keep.mem hw)
    · try simp only [Bool.and_eq_true, Bool.or_eq_true, Bool.and_eq_false_iff, Bool.or_eq_false_iff, Bool.not_eq_true', Bool.not_eq_false', decide_eq_true_eq, decide_eq_false_iff_not, Bool.not_eq_true, Bool.not_eq_false] at h1
      refine cw_exit ?_
      refine ex_pass_exit ?_
      refine ex_pass_exit ?_
      refine ex_block_hit ?_
      refine ex_then ?_
      refine cw_seq ?_
      refine cw_region ?_
      refine sq_r (ry_whole rfl) ?_
      refine sq_storeW rfl rfl ?_
      refine sq_r (ry_assign rfl) ?_
      refine sq_nil ?_
      refine ex_then ?_
      refine cw_ret ?_
      refine ex_ret (.inl rfl) (res_2 rfl (rv_agg rfl) (rv_tmp rfl)) (fun w1 hw => ?_)
      exact ⟨(by rw [short_yes (by omega) (by rw [show i = 4 by omega] at hp; exact hp)]; rfl), Keep.mem hw⟩
instance short_i {w0 : World} {L : List Ent} {s : List UInt8} [tb : Tabs w0]  : FnQ Tryd.prog 30 w0 L [.string ⟨s.toArray⟩] (.tuple #[.agg (kcells ((shortO s).getD 0#128)), .bool ((shortO s).isSome)]) (s.length ≤ 60) := ⟨fun hp w hw => short_c w (tb := tb.at hw) s  hp⟩

set_option maxRecDepth 20000 in
theorem wide_c (w : World) (s : List UInt8)  (hpre : s.length ≤ 60) : Calls Tryd.prog 31 #[.string ⟨s.toArray⟩] w fun e w' => e = .returned (.tuple #[.agg (kcells ((wideO s).getD 0#128)), .bool ((wideO s).isSome)]) ∧ Mem w [] w' := by
  refine calls_of (args := [_]) Tryd.func31 rfl Tryd.ntmps31 rfl ?_
  change Cw _ _ _ _ _ [(0, .string ⟨s.toArray⟩)] []
  refine cw_seq ?_
  refine cw_region ?_
  refine sq_allocA fun b2 => ?_
  refine sq_r (ry_assign rfl) ?_
  refine sq_nil ?_
  refine ex_then ?_
  refine cw_seq ?_
  refine cw_region ?_
  refine sq_allocA fun b4 => ?_
  refine sq_nil ?_
  refine ex_then ?_
  refine cw_seq ?_
  refine cw_seq ?_
  refine cw_region ?_
  refine sq_r (ry_move rfl) ?_
  refine sq_r (ry_lenT (s := s) Tryd.underlying9 rfl) ?_
  refine sq_r (ry_int rfl rfl rfl) ?_
  refine sq_nil ?_
  refine ex_then ?_
  refine cw_cond rfl (fun h0 => ?_) (fun h0 => ?_)
  · try simp only [Bool.and_eq_true, Bool.or_eq_true, Bool.and_eq_false_iff, Bool.or_eq_false_iff, Bool.not_eq_true', Bool.not_eq_false', decide_eq_true_eq, decide_eq_false_iff_not, Bool.not_eq_true, Bool.not_eq_false] at h0
    refine cw_seq ?_
    refine cw_region ?_
    refine sq_r (ry_buildc rfl) ?_
    refine sq_storeW rfl rfl ?_
    refine sq_r (ry_assign rfl) ?_
    refine sq_nil ?_
    refine ex_then ?_
    refine cw_ret ?_
    refine ex_pass_ret ?_
    refine ex_ret (.inl rfl) (res_2 rfl (rv_agg rfl) (rv_tmp rfl)) (fun w1 hw => ?_)
    exact ⟨(by rw [wide_no_len (by omega)]; rfl), Keep.mem hw⟩
  · try simp only [Bool.and_eq_true, Bool.or_eq_true, Bool.and_eq_false_iff, Bool.or_eq_false_iff, Bool.not_eq_true', Bool.not_eq_false', decide_eq_true_eq, decide_eq_false_iff_not, Bool.not_eq_true, Bool.not_eq_false] at h0
    refine cw_skip ?_
    refine ex_then ?_
    refine cw_seq ?_
    refine cw_seq ?_
    refine cw_region ?_
    refine sq_r (ry_move rfl) ?_
    refine sq_r (ry_lenT (s := s) Tryd.underlying9 rfl) ?_
    refine sq_r (ry_move rfl) ?_
    refine sq_nil ?_
    refine ex_then ?_
    refine cw_block ?_
    refine cw_loop (X := Nat × Key) (fun zz => [(13, .int .i64 (zz.1 : Nat)), (4, .pointer (some ⟨b4, 0, none⟩)), (0, .string ⟨s.toArray⟩), (2, .pointer (some ⟨b2, 0, none⟩)), (12, .int .i64 (s.length : Nat))]) (fun zz => [blk b4 (kcells zz.2) 23, blk b2 (kcells 0#128) 23]) (fun zz => zz.1 ≤ 32 ∧ PartW s zz.1 zz.2) (fun zz => 32 - zz.1) (0, 0#128) ⟨Nat.zero_le _, partW_0 s⟩ (Sub.cons rfl (Sub.cons rfl (Sub.cons rfl (Sub.cons rfl (Sub.cons rfl (Sub.nil _)))))) (fun w hw => Keep.mem hw) ?_
    rintro ⟨i, kk⟩ ⟨hi, hp⟩
    dsimp only
    simp only at hi hp
    refine cw_seq ?_
    refine cw_region ?_
    refine sq_r (ry_int rfl rfl rfl) ?_
    refine sq_nil ?_
    refine ex_then ?_
    refine cw_seq ?_
    refine cw_cond rfl (fun h1 => ?_) (fun h1 => ?_)
    · try simp only [Bool.and_eq_true, Bool.or_eq_true, Bool.and_eq_false_iff, Bool.or_eq_false_iff, Bool.not_eq_true', Bool.not_eq_false', decide_eq_true_eq, decide_eq_false_iff_not, Bool.not_eq_true, Bool.not_eq_false] at h1
      refine cw_skip ?_
      refine ex_then ?_
      refine cw_seq ?_
      refine cw_block ?_
      refine cw_seq ?_
      refine cw_region ?_
      refine sq_r (ry_move rfl) ?_
      refine sq_r (ry_assign rfl) ?_
      refine sq_nil ?_
      refine ex_then ?_
      refine cw_seq ?_
      refine cw_region ?_
      refine sq_r (ry_move rfl) ?_
      refine sq_r (ry_move rfl) ?_
      refine sq_r (ry_idxT (s := s) i Tryd.underlying9 rfl rfl rfl (by omega)) ?_
      refine sq_y (yl_callC rfl trivial) ?_
      rw [index_hex]
      refine sq_r (ry_assign rfl) ?_
      refine sq_nil ?_
      refine ex_then ?_
      refine cw_seq ?_
      refine cw_seq ?_
      refine cw_region ?_
      refine sq_r (ry_move rfl) ?_
      refine sq_r (ry_int rfl rfl rfl) ?_
      refine sq_nil ?_
      refine ex_then ?_
      refine cw_cond rfl (fun h2 => ?_) (fun h2 => ?_)
      · try simp only [Bool.and_eq_true, Bool.or_eq_true, Bool.and_eq_false_iff, Bool.or_eq_false_iff, Bool.not_eq_true', Bool.not_eq_false', decide_eq_true_eq, decide_eq_false_iff_not, Bool.not_eq_true, Bool.not_eq_false] at h2
        refine cw_seq ?_
        refine cw_region ?_
        refine sq_r (ry_buildc rfl) ?_
        refine sq_storeW rfl rfl ?_
        refine sq_r (ry_assign rfl) ?_
        refine sq_nil ?_
        refine ex_then ?_
        refine cw_ret ?_
        refine ex_pass_ret ?_
        refine ex_block_ret ?_
        refine ex_pass_ret ?_
        refine ex_pass_ret ?_
        refine ex_block_ret ?_
        refine ex_pass_ret ?_
        refine ex_ret (.inl rfl) (res_2 rfl (rv_agg rfl) (rv_tmp rfl)) (fun w1 hw => ?_)
        exact ⟨(by rw [hexI_no h2 (by omega)]; rfl), Keep.mem hw⟩
      · try simp only [Bool.and_eq_true, Bool.or_eq_true, Bool.and_eq_false_iff, Bool.or_eq_false_iff, Bool.not_eq_true', Bool.not_eq_false', decide_eq_true_eq, decide_eq_false_iff_not, Bool.not_eq_true, Bool.not_eq_false] at h2
        refine cw_skip ?_
        refine ex_then ?_
        obtain ⟨he, hx, ho⟩ := hexI_at h2
        have hlt := hp.lt (show i < 32 by omega)
        have hi2 : (((i : Nat) : Int) / 2).toNat = i / 2 := by omega
        refine cw_region ?_
        refine sq_r (ry_move rfl) ?_
        refine sq_r (ry_quo rfl rfl (by omega) (by omega)) ?_
        refine sq_r (ry_move rfl) ?_
        refine sq_r (ry_quo rfl rfl (by omega) (by omega)) ?_
        refine sq_r (ry_idxA1 rfl rfl (by omega) (by omega)) ?_
        refine sq_r (Ry.as (v' := .int .u8 ((kbyte kk (i / 2) : Nat) : Int)) (ry_cell rfl (kcells_get kk (((i : Nat) : Int) / 2).toNat (by omega))) (by rw [hi2])) ?_
        refine sq_r (ry_shl16 (p := kbyte kk (i / 2)) rfl rfl rfl (by omega)) ?_
        refine sq_r (ry_move rfl) ?_
        refine sq_r (ry_convi rfl (by omega) (by simp only [nb]; omega)) ?_
        refine sq_r (ry_bor (p := kbyte kk (i / 2) * 16) (q := hexAt s i) rfl rfl rfl he (by simp only [nb]; omega) (by simp only [nb]; omega)) ?_
        refine sq_r (ry_idxA1 rfl rfl (by omega) (by omega)) ?_
        refine sq_store (cs' := kcells (kput kk (i / 2) (kbyte kk (i / 2) * 16 ||| hexAt s i))) rfl rfl (by rw [kcells_size]; omega) rfl (by rw [hi2]; exact kputs kk (i / 2) (by omega) (by rw [or16 hx]; omega)) ?_
        refine sq_nil ?_
        refine ex_block ?_
        refine ex_then ?_
        refine cw_region ?_
        refine sq_r (ry_add rfl rfl (by omega)) ?_
        refine sq_r (ry_move rfl) ?_
        refine sq_nil ?_
        exact ex_again (x := (i, kk)) (i + 1, kput kk (i / 2) (kbyte kk (i / 2) * 16 ||| hexAt s i)) ⟨by first | omega | (simp only []; omega), hp.step (by first | omega | (simp only []; omega)) ho⟩ (by simp only; omega) (Sub.cons rfl (Sub.cons rfl (Sub.cons rfl (Sub.cons rfl (Sub.cons rfl (Sub.nil _)))))) (fun w hw => Keep.mem hw)
    · try simp only [Bool.and_eq_true, Bool.or_eq_true, Bool.and_eq_false_iff, Bool.or_eq_false_iff, Bool.not_eq_true', Bool.not_eq_false', decide_eq_true_eq, decide_eq_false_iff_not, Bool.not_eq_true, Bool.not_eq_false] at h1
      refine cw_exit ?_
      refine ex_pass_exit ?_
      refine ex_pass_exit ?_
      refine ex_block_hit ?_
      refine ex_then ?_
      refine cw_seq ?_
      refine cw_region ?_
      refine sq_r (ry_whole rfl) ?_
      refine sq_storeW rfl rfl ?_
      refine sq_r (ry_assign rfl) ?_
      refine sq_nil ?_
      refine ex_then ?_
      refine cw_ret ?_
      refine ex_ret (.inl rfl) (res_2 rfl (rv_agg rfl) (rv_tmp rfl)) (fun w1 hw => ?_)
      exact ⟨(by rw [wide_yes (by omega) (by rw [show i = 32 by omega] at hp; exact hp)]; rfl), Keep.mem hw⟩
instance wide_i {w0 : World} {L : List Ent} {s : List UInt8}  : FnQ Tryd.prog 31 w0 L [.string ⟨s.toArray⟩] (.tuple #[.agg (kcells ((wideO s).getD 0#128)), .bool ((wideO s).isSome)]) (s.length ≤ 60) := ⟨fun hp w hw => wide_c w s  hp⟩

set_option maxRecDepth 20000 in
theorem treadk_c (w : World) [tb : Tabs w] (s : List UInt8)  (hpre : s.length ≤ 1000000000) : Calls Tryd.prog 17 #[.string ⟨s.toArray⟩] w fun e w' => e = .returned (.tuple #[.agg (kcells (rkK s)), .int .i64 ((rkN s) : Nat), .int .i64 (rkE s)]) ∧ Mem w [] w' := by
  refine calls_of (args := [_]) Tryd.func17 rfl Tryd.ntmps17 rfl ?_
  change Cw _ _ _ _ _ [(0, .string ⟨s.toArray⟩)] []
  refine cw_seq ?_
  refine cw_region ?_
  refine sq_allocA fun b2 => ?_
  refine sq_r (ry_assign rfl) ?_
  refine sq_r (ry_assign rfl) ?_
  refine sq_nil ?_
  refine ex_then ?_
  refine cw_seq ?_
  refine cw_seq ?_
  refine cw_region ?_
  refine sq_r (ry_move rfl) ?_
  refine sq_r (ry_lenT (s := s) Tryd.underlying9 rfl) ?_
  refine sq_r (ry_int rfl rfl rfl) ?_
  refine sq_nil ?_
  refine ex_then ?_
  refine cw_cond rfl (fun h0 => ?_) (fun h0 => ?_)
  · try simp only [Bool.and_eq_true, Bool.or_eq_true, Bool.and_eq_false_iff, Bool.or_eq_false_iff, Bool.not_eq_true', Bool.not_eq_false', decide_eq_true_eq, decide_eq_false_iff_not, Bool.not_eq_true, Bool.not_eq_false] at h0
    refine cw_seq ?_
    refine cw_region ?_
    refine sq_r (ry_buildc rfl) ?_
    refine sq_storeW rfl rfl ?_
    refine sq_r (ry_assign rfl) ?_
    refine sq_r (ry_assign rfl) ?_
    refine sq_nil ?_
    refine ex_then ?_
    refine cw_ret ?_
    refine ex_pass_ret ?_
    refine ex_ret (.inl rfl) (res_3 rfl (rv_agg rfl) (rv_tmp rfl) (rv_tmp rfl)) (fun w1 hw => ?_)
    exact ⟨(by obtain ⟨e1, e2, e3⟩ := rk_long (s := s) (by omega); rw [e1, e2, e3]; rfl), Keep.mem hw⟩
  · try simp only [Bool.and_eq_true, Bool.or_eq_true, Bool.and_eq_false_iff, Bool.or_eq_false_iff, Bool.not_eq_true', Bool.not_eq_false', decide_eq_true_eq, decide_eq_false_iff_not, Bool.not_eq_true, Bool.not_eq_false] at h0
    refine cw_skip ?_
    refine ex_then ?_
    refine cw_seq ?_
    refine cw_seq ?_
    refine cw_region ?_
    refine sq_r (ry_move rfl) ?_
    refine sq_y (yl_callC rfl (by omega)) ?_
    refine sq_r (ry_move rfl) ?_
    refine sq_r (ry_extract (v := .agg (kcells ((shortO s).getD 0#128))) rfl rfl) ?_
    refine sq_r (ry_extract (v := .bool ((shortO s).isSome)) rfl rfl) ?_
    refine sq_allocA fun b5 => ?_
    refine sq_storeW rfl rfl ?_
    refine sq_r (ry_assign rfl) ?_
    refine sq_nil ?_
    refine ex_then ?_
    refine cw_seq ?_
    refine cw_region ?_
    refine sq_r (ry_move rfl) ?_
    refine sq_nil ?_
    refine ex_then ?_
    refine cw_cond rfl (fun h1 => ?_) (fun h1 => ?_)
    · try simp only [Bool.and_eq_true, Bool.or_eq_true, Bool.and_eq_false_iff, Bool.or_eq_false_iff, Bool.not_eq_true', Bool.not_eq_false', decide_eq_true_eq, decide_eq_false_iff_not, Bool.not_eq_true, Bool.not_eq_false] at h1
      obtain ⟨q, hq⟩ := Option.isSome_iff_exists.1 h1
      refine cw_seq ?_
      refine cw_region ?_
      refine sq_r (ry_whole rfl) ?_
      refine sq_storeW rfl rfl ?_
      refine sq_r (ry_assign rfl) ?_
      refine sq_r (ry_assign rfl) ?_
      refine sq_nil ?_
      refine ex_then ?_
      refine cw_ret ?_
      refine ex_pass_ret ?_
      refine ex_ret (.inl rfl) (res_3 rfl (rv_agg rfl) (rv_tmp rfl) (rv_tmp rfl)) (fun w1 hw => ?_)
      exact ⟨(by obtain ⟨e1, e2, e3⟩ := rk_short (by omega) hq; rw [e1, e2, e3, hq]; rfl), Keep.mem hw⟩
    · try simp only [Bool.and_eq_true, Bool.or_eq_true, Bool.and_eq_false_iff, Bool.or_eq_false_iff, Bool.not_eq_true', Bool.not_eq_false', decide_eq_true_eq, decide_eq_false_iff_not, Bool.not_eq_true, Bool.not_eq_false] at h1
      have hs : shortO s = none := by simpa using h1
      refine cw_skip ?_
      refine ex_then ?_
      refine cw_seq ?_
      refine cw_seq ?_
      refine cw_region ?_
      refine sq_r (ry_move rfl) ?_
      refine sq_y (yl_callC rfl (by omega)) ?_
      refine sq_r (ry_move rfl) ?_
      refine sq_r (ry_extract (v := .agg (kcells ((wideO s).getD 0#128))) rfl rfl) ?_
      refine sq_r (ry_extract (v := .bool ((wideO s).isSome)) rfl rfl) ?_
      refine sq_allocA fun b7 => ?_
      refine sq_storeW rfl rfl ?_
      refine sq_r (ry_assign rfl) ?_
      refine sq_nil ?_
      refine ex_then ?_
      refine cw_seq ?_
      refine cw_region ?_
      refine sq_r (ry_move rfl) ?_
      refine sq_nil ?_
      refine ex_then ?_
      refine cw_cond rfl (fun h2 => ?_) (fun h2 => ?_)
      · try simp only [Bool.and_eq_true, Bool.or_eq_true, Bool.and_eq_false_iff, Bool.or_eq_false_iff, Bool.not_eq_true', Bool.not_eq_false', decide_eq_true_eq, decide_eq_false_iff_not, Bool.not_eq_true, Bool.not_eq_false] at h2
        obtain ⟨q, hq⟩ := Option.isSome_iff_exists.1 h2
        refine cw_seq ?_
        refine cw_region ?_
        refine sq_r (ry_whole rfl) ?_
        refine sq_storeW rfl rfl ?_
        refine sq_r (ry_assign rfl) ?_
        refine sq_r (ry_assign rfl) ?_
        refine sq_nil ?_
        refine ex_then ?_
        refine cw_ret ?_
        refine ex_pass_ret ?_
        refine ex_ret (.inl rfl) (res_3 rfl (rv_agg rfl) (rv_tmp rfl) (rv_tmp rfl)) (fun w1 hw => ?_)
        exact ⟨(by obtain ⟨e1, e2, e3⟩ := rk_wide (by omega) hs hq; rw [e1, e2, e3, hq]; rfl), Keep.mem hw⟩
      · try simp only [Bool.and_eq_true, Bool.or_eq_true, Bool.and_eq_false_iff, Bool.or_eq_false_iff, Bool.not_eq_true', Bool.not_eq_false', decide_eq_true_eq, decide_eq_false_iff_not, Bool.not_eq_true, Bool.not_eq_false] at h2
        have hw0 : wideO s = none := by simpa using h2
        refine cw_skip ?_
        refine ex_then ?_
        refine cw_seq ?_
        refine cw_region ?_
        refine sq_r (ry_buildc rfl) ?_
        refine sq_storeW rfl rfl ?_
        refine sq_r (ry_assign rfl) ?_
        refine sq_r (ry_assign rfl) ?_
        refine sq_nil ?_
        refine ex_then ?_
        refine cw_ret ?_
        refine ex_ret (.inl rfl) (res_3 rfl (rv_agg rfl) (rv_tmp rfl) (rv_tmp rfl)) (fun w1 hw => ?_)
        exact ⟨(by obtain ⟨e1, e2, e3⟩ := rk_none (by omega) hs hw0; rw [e1, e2, e3]; rfl), Keep.mem hw⟩
instance treadk_i {w0 : World} {L : List Ent} {s : List UInt8} [tb : Tabs w0]  : FnQ Tryd.prog 17 w0 L [.string ⟨s.toArray⟩] (.tuple #[.agg (kcells (rkK s)), .int .i64 ((rkN s) : Nat), .int .i64 (rkE s)]) (s.length ≤ 1000000000) := ⟨fun hp w hw => treadk_c w (tb := tb.at hw) s  hp⟩

end Go.Proofs.YtldkgicmfbofiaaDoor
