/- A trie in use: walked. -/
import Derived.Test.YtembaconocgmlaaT3e
set_option linter.unusedSimpArgs false
set_option linter.unusedVariables false
namespace Go.Proofs.Ytembaconocgmlaa
open Go.Eng Go.Kb
set_option maxRecDepth 20000 in
theorem tright_c (w : World) (t : Tri) (ht : Deep.good (hp w) t) : Calls Try.prog 60 #[.agg (tcells t)] w fun e w' => e = .returned (.bool ((stepsV t.bits t.ns.xs).isSome)) ∧ Mem w [] w' := by
  have ght : GvD w t := ⟨ht⟩
  refine calls_of (args := [_]) Try.func60 rfl Try.ntmps60 rfl ?_
  change Cw _ _ _ _ _ [(0, .agg (tcells t))] []
  refine cw_seq ?_
  refine cw_region ?_
  refine sq_boxA rfl fun b1 => ?_
  refine sq_r (ry_assign rfl) ?_
  refine sq_nil ?_
  refine ex_then ?_
  refine cw_seq ?_
  refine cw_region ?_
  refine sq_r (ry_whole rfl) ?_
  refine sq_callC rfl trivial fun x4 hp4 => ?_
  refine sq_r (ry_someS Try.underlying95 rfl) ?_
  refine sq_r (ry_assign rfl) ?_
  refine sq_nil ?_
  refine ex_then ?_
  refine cw_ret ?_
  refine ex_ret (.inl rfl) (res_1 rfl (rv_tmp rfl)) (fun w1 hw => ?_)
  exact ⟨congrArg (fun b => Ending.returned (Value.bool b)) (by rw [hp4]; cases stepsV t.bits t.ns.xs <;> rfl), Keep.mem hw⟩
instance tright_i {w0 : World} {L : List Ent} {t : Tri} [ht : HdD w0 L t] : FnQ Try.prog 60 w0 L [.agg (tcells t)] (.bool ((stepsV t.bits t.ns.xs).isSome)) (True) := ⟨fun hp w hw => tright_c w t (ht.h w hw)⟩
set_option maxRecDepth 20000 in
theorem tdeep_c (w : World) (t : Tri) (ht : Deep.good (hp w) t) : Calls Try.prog 62 #[.agg (tcells t)] w fun e w' => e = .returned (.int .i64 (deepV t.bits t.ns.xs)) ∧ Mem w [] w' := by
  have ght : GvD w t := ⟨ht⟩
  refine calls_of (args := [_]) Try.func62 rfl Try.ntmps62 rfl ?_
  change Cw _ _ _ _ _ [(0, .agg (tcells t))] []
  refine cw_seq ?_
  refine cw_region ?_
  refine sq_boxA rfl fun b1 => ?_
  refine sq_r (ry_assign rfl) ?_
  refine sq_nil ?_
  refine ex_then ?_
  refine cw_seq ?_
  refine cw_region ?_
  refine sq_r (ry_assign rfl) ?_
  refine sq_nil ?_
  refine ex_then ?_
  refine cw_seq ?_
  refine cw_seq ?_
  refine cw_region ?_
  refine sq_r (ry_whole rfl) ?_
  refine sq_callC rfl trivial fun x7 hp7 => ?_
  refine sq_r (ry_lenH rfl) ?_
  refine sq_r (ry_move rfl) ?_
  refine sq_nil ?_
  refine ex_then ?_
  refine cw_block ?_
  refine cw_bd x7 fun hbd => ?_
  refine cw_loop (X := Nat) (fun zz => [(9, .int .i64 (zz : Nat)), (3, .int .i64 ((((stepsV t.bits t.ns.xs).getD []).take zz).foldl max 0)), (7, x7.val), (8, .int .i64 (((stepsV t.bits t.ns.xs).getD []).length : Nat))]) (fun zz => [own iec 1 x7 ((stepsV t.bits t.ns.xs).getD []), blk b1 (tcells t) 86]) (fun zz => zz ≤ ((stepsV t.bits t.ns.xs).getD []).length) (fun zz => ((stepsV t.bits t.ns.xs).getD []).length - zz) 0 (Nat.zero_le _) (Sub.cons rfl (Sub.cons rfl (Sub.cons rfl (Sub.cons rfl (Sub.nil _))))) (fun w hw => Keep.mem hw) ?_
  rintro i hI
  refine cw_seq ?_
  refine cw_region ?_
  refine sq_r (ry_int rfl rfl rfl) ?_
  refine sq_nil ?_
  refine ex_then ?_
  refine cw_seq ?_
  refine cw_cond rfl (fun h0 => ?_) (fun h0 => ?_)
  · try simp only [Bool.and_eq_true, Bool.or_eq_true, Bool.and_eq_false_iff, Bool.or_eq_false_iff, Bool.not_eq_true', Bool.not_eq_false', decide_eq_true_eq, decide_eq_false_iff_not, Bool.not_eq_true, Bool.not_eq_false] at h0
    refine cw_skip ?_
    refine ex_then ?_
    refine cw_seq ?_
    refine cw_block ?_
    refine cw_seq ?_
    refine cw_region ?_
    obtain ⟨e11, he11⟩ := get_some (xs := ((stepsV t.bits t.ns.xs).getD [])) (i := i) (by omega)
    refine sq_r (ry_idxH rfl rfl i rfl (by omega)) ?_
    refine sq_r (ry_elemcH (j := 0) rfl i he11 rfl (by decide)) ?_
    refine sq_r (ry_assign rfl) ?_
    refine sq_nil ?_
    refine ex_then ?_
    refine cw_region ?_
    refine sq_r (ry_move rfl) ?_
    refine sq_r (ry_move rfl) ?_
    refine sq_r (ry_max rfl rfl) ?_
    refine sq_r (ry_assign rfl) ?_
    refine sq_nil ?_
    refine ex_block ?_
    refine ex_then ?_
    refine cw_region ?_
    refine sq_r (ry_add rfl rfl (by omega)) ?_
    refine sq_r (ry_move rfl) ?_
    refine sq_nil ?_
    have tk : ((stepsV t.bits t.ns.xs).getD []).take (i + 1) = ((stepsV t.bits t.ns.xs).getD []).take i ++ [e11] := by obtain ⟨hl, rfl⟩ := List.getElem?_eq_some_iff.1 he11; exact List.take_succ_eq_append_getElem hl
    exact ex_again (x := (i)) (i + 1) (by first | omega | (simp only []; omega)) (by first | omega | (simp only []; omega)) (Sub.cons rfl (Sub.cons (look_eq rfl (by rw [tk, List.foldl_append]; rfl)) (Sub.cons rfl (Sub.cons rfl (Sub.nil _))))) (fun w hw => Keep.mem hw)
  · try simp only [Bool.and_eq_true, Bool.or_eq_true, Bool.and_eq_false_iff, Bool.or_eq_false_iff, Bool.not_eq_true', Bool.not_eq_false', decide_eq_true_eq, decide_eq_false_iff_not, Bool.not_eq_true, Bool.not_eq_false] at h0
    refine cw_exit ?_
    refine ex_pass_exit ?_
    refine ex_pass_exit ?_
    refine ex_block_hit ?_
    refine ex_then ?_
    refine cw_seq ?_
    refine cw_region ?_
    refine sq_r (ry_move rfl) ?_
    refine sq_r (ry_assign rfl) ?_
    refine sq_nil ?_
    refine ex_then ?_
    refine cw_ret ?_
    refine ex_ret (.inl rfl) (res_1 rfl (rv_tmp rfl)) (fun w1 hw => ?_)
    exact ⟨congrArg (fun b => Ending.returned (Value.int .i64 b)) (by obtain rfl : i = ((stepsV t.bits t.ns.xs).getD []).length := (by omega); rw [List.take_length]; rfl), Keep.mem hw⟩
instance tdeep_i {w0 : World} {L : List Ent} {t : Tri} [ht : HdD w0 L t] : FnQ Try.prog 62 w0 L [.agg (tcells t)] (.int .i64 (deepV t.bits t.ns.xs)) (True) := ⟨fun hp w hw => tdeep_c w t (ht.h w hw)⟩
set_option maxRecDepth 20000 in
theorem twalk_c (w : World) (t : Tri) (k : Key) (ht : Deep.good (hp w) t) : Calls Try.prog 63 #[.agg (tcells t), .agg (kcells k)] w fun e w' => ∃ zz : Sv, e = .returned (zz.val) ∧ (True) ∧ Mem w [own iec 1 zz (walkV t.bits t.ns.xs k)] w' := by
  have ght : GvD w t := ⟨ht⟩
  refine calls_of (args := [_, _]) Try.func63 rfl Try.ntmps63 rfl ?_
  change Cw _ _ _ _ _ [(0, .agg (tcells t)), (1, .agg (kcells k))] []
  refine cw_seq ?_
  refine cw_region ?_
  refine sq_boxA rfl fun b2 => ?_
  refine sq_boxA rfl fun b3 => ?_
  refine sq_r (ry_assign rfl) ?_
  refine sq_nil ?_
  refine ex_then ?_
  refine cw_seq ?_
  refine cw_seq ?_
  refine cw_quiet (by kernel_rfl) (by kernel_rfl) ?_
  refine qt_r (ry_whole rfl) ?_
  refine qt_y (yl_callC rfl trivial) ?_
  refine qt_r (ry_not rfl) ?_
  refine qt_r (ry_move rfl) ?_
  refine qt_gf rfl rfl rfl (fun hg => (Ry.yl (ry_whole rfl))) ?_
  refine qt_gf rfl rfl rfl (fun hg => (Ry.yl (ry_field (o' := 0) rfl rfl))) ?_
  refine qt_gf rfl rfl rfl (fun hg => (Ry.yl (ry_cellc (ev_c hg rfl)))) ?_
  refine qt_gf rfl rfl rfl (fun hg => yl_callC (evl_cons (ev_c hg rfl) (evl_cons (ev_c hg rfl) evl_nil)) trivial) ?_
  refine qt_gf rfl rfl rfl (fun hg => (Ry.yl (ry_whole rfl))) ?_
  refine qt_gf rfl rfl rfl (fun hg => (Ry.yl (ry_ne (ev_c hg rfl) (ev_c hg rfl)))) ?_
  refine qt_r (ry_or rfl rfl rfl) ?_
  refine qt_nil ?_
  refine ex_then ?_
  refine cw_cond rfl (fun h0 => ?_) (fun h0 => ?_)
  · try simp only [Bool.and_eq_true, Bool.or_eq_true, Bool.and_eq_false_iff, Bool.or_eq_false_iff, Bool.not_eq_true', Bool.not_eq_false', decide_eq_true_eq, decide_eq_false_iff_not, Bool.not_eq_true, Bool.not_eq_false] at h0
    have hk : walkOk t.bits t.ns.xs k = false := by rw [walkOk]; rcases h0 with h | h; rw [h]; rfl; rw [decide_eq_false h]; simp
    refine cw_seq ?_
    refine cw_region ?_
    refine sq_r (ry_assign rfl) ?_
    refine sq_nil ?_
    refine ex_then ?_
    refine cw_ret ?_
    refine ex_pass_ret ?_
    refine ex_ret (.inl rfl) (res_1 rfl (rv_tmp rfl)) (fun w1 hw => ?_)
    exact ⟨Sv.none, rfl, trivial, by rw [walkV, if_neg (by rw [hk]; simp)]; exact Mem.nilOwn iec 1 (Keep.mem hw : Mem w [] _)⟩
  · try simp only [Bool.and_eq_true, Bool.or_eq_true, Bool.and_eq_false_iff, Bool.or_eq_false_iff, Bool.not_eq_true', Bool.not_eq_false', decide_eq_true_eq, decide_eq_false_iff_not, Bool.not_eq_true, Bool.not_eq_false] at h0
    have hs : (stepsV t.bits t.ns.xs).isSome = true := by simpa using h0.1
    have hk : walkOk t.bits t.ns.xs k = true := by rw [walkOk, hs]; simpa using h0.2
    obtain ⟨hr, hb, hl1, hl2⟩ := inR_of hs
    refine cw_skip ?_
    refine ex_then ?_
    refine cw_seq ?_
    refine cw_region ?_
    refine sq_buildSlice (enc := iec) (vals := [_]) [0] rfl rfl rfl (by decide) (by decide) fun b19 => ?_
    refine sq_r (ry_assign rfl) ?_
    refine sq_nil ?_
    refine ex_then ?_
    refine cw_seq ?_
    refine cw_seq ?_
    refine cw_region ?_
    refine sq_r (ry_field (o' := 0) rfl rfl) ?_
    refine sq_r (ry_cellc rfl) ?_
    refine sq_r (ry_quo rfl rfl (by omega) (by omega)) ?_
    refine sq_r (ry_move rfl) ?_
    refine sq_nil ?_
    refine ex_then ?_
    refine cw_block ?_
    refine cw_loop (X := Nat × Sv) (fun zz => [(23, .int .i64 (zz.1 : Nat)), (5, zz.2.val), (2, .pointer (some ⟨b2, 0, none⟩)), (3, .pointer (some ⟨b3, 0, none⟩)), (22, .int .i64 (t.bits / 4))]) (fun zz => [own iec 1 zz.2 (wayL t.ns.xs k zz.1), blk b2 (tcells t) 86, blk b3 (kcells k) 48]) (fun zz => zz.1 ≤ (t.bits / 4).toNat ∧ ∀ j, j < zz.1 → chain t.ns.xs k (j + 1) ≠ 0) (fun zz => (t.bits / 4).toNat - zz.1) (0, ⟨false, b19, 0, 1, 1, none⟩) ⟨Nat.zero_le _, fun j hj => absurd hj (Nat.not_lt_zero j)⟩ (Sub.cons rfl (Sub.cons rfl (Sub.cons rfl (Sub.cons rfl (Sub.cons rfl (Sub.nil _)))))) (fun w hw => (Keep.mem hw : Mem _ [own iec 1 ⟨false, b19, 0, 1, 1, none⟩ [0], blk b2 (tcells t) 86, blk b3 (kcells k) 48] _)) ?_
    rintro ⟨i, s1⟩ ⟨hi1, hi2⟩
    dsimp only
    simp only at hi1 hi2
    have hcl := chain_lt (k := k) hr hl1 i
    have hst := kst_lt k i
    have hke := kst_eq k i
    refine cw_seq ?_
    refine cw_region ?_
    refine sq_r (ry_int rfl rfl rfl) ?_
    refine sq_nil ?_
    refine ex_then ?_
    refine cw_seq ?_
    refine cw_cond rfl (fun h1 => ?_) (fun h1 => ?_)
    · try simp only [Bool.and_eq_true, Bool.or_eq_true, Bool.and_eq_false_iff, Bool.or_eq_false_iff, Bool.not_eq_true', Bool.not_eq_false', decide_eq_true_eq, decide_eq_false_iff_not, Bool.not_eq_true, Bool.not_eq_false] at h1
      refine cw_skip ?_
      refine ex_then ?_
      refine cw_seq ?_
      refine cw_block ?_
      refine cw_seq ?_
      refine cw_region ?_
      refine sq_r (ry_move rfl) ?_
      refine sq_r (ry_assign rfl) ?_
      refine sq_nil ?_
      refine ex_then ?_
      refine cw_seq ?_
      refine cw_quiet (by kernel_rfl) (by kernel_rfl) ?_
      refine qt_r (ry_field (o' := 1) rfl rfl) ?_
      refine qt_r (ry_cellc rfl) ?_
      refine qt_r (ry_move rfl) ?_
      refine qt_r (ry_move rfl) ?_
      refine qt_r (ry_idxH rfl rfl i rfl (by rw [wayL_length]; omega)) ?_
      refine qt_r (ry_elemcH (j := 0) rfl i (wayL_get (Nat.le_refl i)) rfl (by decide)) ?_
      refine qt_r (ry_whole rfl) ?_
      refine qt_r (ry_move rfl) ?_
      refine qt_y (yl_callC rfl trivial) ?_
      obtain ⟨n, hn⟩ := get_some (xs := t.ns.xs) (i := (chain t.ns.xs k i)) hcl
      refine qt_r (ry_idxH rfl rfl (chain t.ns.xs k i) rfl hcl) ?_
      refine qt_r (ry_field rfl rfl) ?_
      refine qt_r (ry_idxA rfl rfl (by omega) (by omega)) ?_
      refine qt_r (ry_nx rfl (chain t.ns.xs k i) hn ((kstep k ((i : Nat) : Int)).toNat) (by omega) (by simp only [Nat.add_eq, Int.toNat_natCast, Nat.mul_one, Nat.zero_add, Nat.add_zero] <;> omega)) ?_
      refine qt_r (ry_assign rfl) ?_
      refine qt_nil ?_
      refine ex_then ?_
      refine cw_seq ?_
      refine cw_seq ?_
      refine cw_region ?_
      refine sq_r (ry_move rfl) ?_
      refine sq_r (ry_int rfl rfl rfl) ?_
      refine sq_nil ?_
      refine ex_then ?_
      refine cw_cond rfl (fun h2 => ?_) (fun h2 => ?_)
      · try simp only [Bool.and_eq_true, Bool.or_eq_true, Bool.and_eq_false_iff, Bool.or_eq_false_iff, Bool.not_eq_true', Bool.not_eq_false', decide_eq_true_eq, decide_eq_false_iff_not, Bool.not_eq_true, Bool.not_eq_false] at h2
        have h00 : chain t.ns.xs k (i + 1) = 0 := by rw [chain, getD_some hn]; have : n.nx (kst k i) = 0 := h2; omega
        refine cw_exit ?_
        refine ex_pass_exit ?_
        refine ex_block_miss rfl ?_
        refine ex_pass_exit ?_
        refine ex_pass_exit ?_
        refine ex_block_hit ?_
        refine ex_then ?_
        refine cw_seq ?_
        refine cw_region ?_
        refine sq_r (ry_move rfl) ?_
        refine sq_r (ry_assign rfl) ?_
        refine sq_nil ?_
        refine ex_then ?_
        refine cw_ret ?_
        refine ex_ret (.inl rfl) (res_1 rfl (rv_tmp rfl)) (fun w1 hw => ?_)
        exact ⟨s1, rfl, trivial, by rw [walkV, if_pos hk, wayLen_stop (by omega) hi2 h00]; exact Keep.mem hw⟩
      · try simp only [Bool.and_eq_true, Bool.or_eq_true, Bool.and_eq_false_iff, Bool.or_eq_false_iff, Bool.not_eq_true', Bool.not_eq_false', decide_eq_true_eq, decide_eq_false_iff_not, Bool.not_eq_true, Bool.not_eq_false] at h2
        have hnx : n.nx (kstep k (i : Nat)).toNat = ((chain t.ns.xs k (i + 1) : Nat) : Int) := by rw [chain, getD_some hn]; have := (hr _ n hn (kst k i) hst).1; show n.nx (kst k i) = _; omega
        refine cw_skip ?_
        refine ex_then ?_
        refine cw_region ?_
        refine sq_r (ry_move rfl) ?_
        refine sq_r (ry_move rfl) ?_
        refine sq_buildSlice (enc := iec) (vals := [_]) [n.nx ((kstep k ((i : Nat) : Int)).toNat)] rfl rfl rfl (by decide) (by decide) fun b43 => ?_
        refine sq_append (s := s1) (ys := [n.nx ((kstep k ((i : Nat) : Int)).toNat)]) rfl rfl (by decide) (fun w hw => src_rows (s := ⟨false, b43, 0, 1, 1, none⟩) Try.underlying95 (by decide) ((inferInstance : Hd _ _ ⟨false, b43, 0, 1, 1, none⟩ iec 1 [n.nx ((kstep k ((i : Nat) : Int)).toNat)]).h w hw)) (by rw [wayL_length]; simp only [List.length_cons, List.length_nil]; omega) (by rw [wayL_length]; simp only [List.length_cons, List.length_nil]; omega) fun s44 hs44 hl44 => ?_
        refine sq_r (ry_assign rfl) ?_
        refine sq_nil ?_
        refine ex_block ?_
        refine ex_then ?_
        refine cw_region ?_
        refine sq_r (ry_add rfl rfl (by omega)) ?_
        refine sq_r (ry_move rfl) ?_
        refine sq_nil ?_
        exact ex_again (x := (i, s1)) (i + 1, s44) ⟨by first | omega | (simp only []; omega), fun j hj => (Nat.lt_or_ge j i).elim (hi2 j) fun h => by obtain rfl : j = i := (by first | omega | (simp only []; omega)); intro h9; rw [h9] at hnx; exact h2 hnx⟩ (by simp only; omega) (Sub.cons rfl (Sub.cons rfl (Sub.cons rfl (Sub.cons rfl (Sub.cons rfl (Sub.nil _)))))) (fun w hw => by rw [wayL_succ, ← hnx]; exact Keep.mem hw)
    · try simp only [Bool.and_eq_true, Bool.or_eq_true, Bool.and_eq_false_iff, Bool.or_eq_false_iff, Bool.not_eq_true', Bool.not_eq_false', decide_eq_true_eq, decide_eq_false_iff_not, Bool.not_eq_true, Bool.not_eq_false] at h1
      refine cw_exit ?_
      refine ex_pass_exit ?_
      refine ex_pass_exit ?_
      refine ex_block_hit ?_
      refine ex_then ?_
      refine cw_seq ?_
      refine cw_region ?_
      refine sq_r (ry_move rfl) ?_
      refine sq_r (ry_assign rfl) ?_
      refine sq_nil ?_
      refine ex_then ?_
      refine cw_ret ?_
      refine ex_ret (.inl rfl) (res_1 rfl (rv_tmp rfl)) (fun w1 hw => ?_)
      exact ⟨s1, rfl, trivial, by rw [walkV, if_pos hk, wayLen_all (fun j hj => hi2 j (by omega)), show (t.bits / 4).toNat = i by omega]; exact Keep.mem hw⟩
instance twalk_i {w0 : World} {L : List Ent} {t : Tri} {k : Key} [ht : HdD w0 L t] : FnC Try.prog 63 w0 L [.agg (tcells t), .agg (kcells k)] (Sv) (fun zz => zz.val) (fun zz => own iec 1 zz (walkV t.bits t.ns.xs k) :: L) (fun zz => True) (True) := ⟨fun hp w hw => (twalk_c w t k (ht.h w hw)).mono fun e w' ⟨x, h1, h2, h3⟩ => ⟨x, h1, h2, hw.call h3⟩⟩
set_option maxRecDepth 20000 in
theorem tfind_c (w : World) (t : Tri) (k : Key) (ht : Deep.good (hp w) t) : Calls Try.prog 65 #[.agg (tcells t), .agg (kcells k)] w fun e w' => e = .returned (.tuple #[.int .i64 (findN t.bits t.ns.xs k), .int .u16 ((findH t.bits t.ns.xs k).toNat : Nat), .int .i64 (findE t.bits t.ns.xs k)]) ∧ Mem w [] w' := by
  have ght : GvD w t := ⟨ht⟩
  refine calls_of (args := [_, _]) Try.func65 rfl Try.ntmps65 rfl ?_
  change Cw _ _ _ _ _ [(0, .agg (tcells t)), (1, .agg (kcells k))] []
  refine cw_seq ?_
  refine cw_region ?_
  refine sq_boxA rfl fun b2 => ?_
  refine sq_boxA rfl fun b3 => ?_
  refine sq_r (ry_assign rfl) ?_
  refine sq_r (ry_assign rfl) ?_
  refine sq_r (ry_assign rfl) ?_
  refine sq_nil ?_
  refine ex_then ?_
  refine cw_seq ?_
  refine cw_region ?_
  refine sq_r (ry_whole rfl) ?_
  refine sq_r (ry_whole rfl) ?_
  refine sq_callC rfl trivial fun x14 hp14 => ?_
  refine sq_r (ry_assign rfl) ?_
  refine sq_nil ?_
  refine ex_then ?_
  refine cw_seq ?_
  refine cw_seq ?_
  refine cw_region ?_
  refine sq_r (ry_move rfl) ?_
  refine sq_r (ry_lenH rfl) ?_
  refine sq_r (ry_int rfl rfl rfl) ?_
  refine sq_nil ?_
  refine ex_then ?_
  refine cw_cond rfl (fun h0 => ?_) (fun h0 => ?_)
  · try simp only [Bool.and_eq_true, Bool.or_eq_true, Bool.and_eq_false_iff, Bool.or_eq_false_iff, Bool.not_eq_true', Bool.not_eq_false', decide_eq_true_eq, decide_eq_false_iff_not, Bool.not_eq_true, Bool.not_eq_false] at h0
    have hk : walkOk t.bits t.ns.xs k = false := walkV_len.1 (by omega)
    have he : findE t.bits t.ns.xs k = 1 := by rw [findE, if_neg (by rw [hk]; simp)]
    refine cw_seq ?_
    refine cw_region ?_
    refine sq_r (ry_assign rfl) ?_
    refine sq_r (ry_assign rfl) ?_
    refine sq_r (ry_assign rfl) ?_
    refine sq_nil ?_
    refine ex_then ?_
    refine cw_ret ?_
    refine ex_pass_ret ?_
    refine ex_ret (.inl rfl) (res_3 rfl (rv_tmp rfl) (rv_tmp rfl) (rv_tmp rfl)) (fun w1 hw => ?_)
    exact ⟨by rw [findN, findH, he]; rfl, Keep.mem hw⟩
  · try simp only [Bool.and_eq_true, Bool.or_eq_true, Bool.and_eq_false_iff, Bool.or_eq_false_iff, Bool.not_eq_true', Bool.not_eq_false', decide_eq_true_eq, decide_eq_false_iff_not, Bool.not_eq_true, Bool.not_eq_false] at h0
    have hk : walkOk t.bits t.ns.xs k = true := by cases h : walkOk t.bits t.ns.xs k with | true => rfl | false => exact absurd (walkV_len.2 h) (by omega)
    have hs : (stepsV t.bits t.ns.xs).isSome = true := by rw [walkOk, Bool.and_eq_true] at hk; exact hk.1
    obtain ⟨hr, hb, hl1, hl2⟩ := inR_of hs
    refine cw_skip ?_
    refine ex_then ?_
    refine cw_seq ?_
    refine cw_region ?_
    refine sq_allocA fun b8 => ?_
    refine sq_nil ?_
    refine ex_then ?_
    refine cw_seq ?_
    refine cw_seq ?_
    refine cw_region ?_
    refine sq_r (ry_move rfl) ?_
    refine sq_r (ry_lenH rfl) ?_
    refine sq_r (ry_move rfl) ?_
    refine sq_nil ?_
    refine ex_then ?_
    refine cw_block ?_
    refine cw_bd x14 fun hbd => ?_
    refine cw_loop (X := Nat) (fun zz => [(20, .int .i64 (zz : Nat)), (8, .pointer (some ⟨b8, 0, none⟩)), (2, .pointer (some ⟨b2, 0, none⟩)), (3, .pointer (some ⟨b3, 0, none⟩)), (18, x14.val), (19, .int .i64 ((walkV t.bits t.ns.xs k).length : Nat))]) (fun zz => [blk b8 (slcells (bestOf t.ns.xs k zz)) 24, own iec 1 x14 (walkV t.bits t.ns.xs k), blk b2 (tcells t) 86, blk b3 (kcells k) 48]) (fun zz => zz ≤ (walkV t.bits t.ns.xs k).length) (fun zz => (walkV t.bits t.ns.xs k).length - zz) 0 (Nat.zero_le _) (Sub.cons rfl (Sub.cons rfl (Sub.cons rfl (Sub.cons rfl (Sub.cons rfl (Sub.cons rfl (Sub.nil _))))))) (fun w hw => (Keep.mem hw : Mem _ [blk b8 (slcells Slt.no) 24, own iec 1 x14 (walkV t.bits t.ns.xs k), blk b2 (tcells t) 86, blk b3 (kcells k) 48] _)) ?_
    rintro i hI
    have hcl := chain_lt (k := k) hr hl1 i
    have hst := kst_lt k i
    have hke := kst_eq k i
    refine cw_seq ?_
    refine cw_region ?_
    refine sq_r (ry_int rfl rfl rfl) ?_
    refine sq_nil ?_
    refine ex_then ?_
    refine cw_seq ?_
    refine cw_cond rfl (fun h1 => ?_) (fun h1 => ?_)
    · try simp only [Bool.and_eq_true, Bool.or_eq_true, Bool.and_eq_false_iff, Bool.or_eq_false_iff, Bool.not_eq_true', Bool.not_eq_false', decide_eq_true_eq, decide_eq_false_iff_not, Bool.not_eq_true, Bool.not_eq_false] at h1
      refine cw_skip ?_
      refine ex_then ?_
      refine cw_seq ?_
      refine cw_block ?_
      refine cw_seq ?_
      refine cw_region ?_
      refine sq_r (ry_move rfl) ?_
      refine sq_r (ry_idxH rfl rfl i rfl (by omega)) ?_
      refine sq_r (ry_elemcH (j := 0) rfl i (walkV_get (by omega)) rfl (by decide)) ?_
      refine sq_r (ry_assign rfl) ?_
      refine sq_r (ry_assign rfl) ?_
      refine sq_nil ?_
      refine ex_then ?_
      refine cw_seq ?_
      refine cw_lin [10, 11] [[], [], [], [], [], [], [], [], [], [], [], [10]] [0, 1, 2, 3, 4, 5, 6, 7, 8, 9, 10, 11] [blk b2 (tcells t) 86, blk b3 (kcells k) 48] (fun _ hw => Keep.mem hw) (by kernel_rfl) (by kernel_rfl) ?_
      refine ln_r rfl (ry_field (o' := 1) rfl rfl) ?_
      refine ln_r rfl (ry_cellc rfl) ?_
      refine ln_r rfl (ry_move rfl) ?_
      refine ln_r rfl (ry_whole rfl) ?_
      refine ln_r rfl (ry_move rfl) ?_
      refine ln_y rfl (yl_callC rfl trivial) ?_
      obtain ⟨n, hn⟩ := get_some (xs := t.ns.xs) (i := (chain t.ns.xs k i)) hcl
      refine ln_r rfl (ry_idxH rfl rfl (chain t.ns.xs k i) rfl hcl) ?_
      refine ln_r rfl (ry_field rfl rfl) ?_
      refine ln_r rfl (ry_idxA rfl rfl (by omega) (by omega)) ?_
      refine ln_r rfl (ry_slot rfl (chain t.ns.xs k i) hn ((kstep k ((i : Nat) : Int)).toNat) (by omega) (by simp only [Nat.add_eq, Int.toNat_natCast, Nat.mul_one, Nat.zero_add, Nat.add_zero] <;> omega)) ?_
      refine ln_st rfl (st_allocA fun b11 => ⟨fun _ hw => Keep.mem hw, ?_⟩)
      refine ln_st rfl (st_storeW rfl rfl ⟨fun _ hw => Keep.mem hw, ?_⟩)
      refine ln_nil ?_
      refine ex_then ?_
      refine cw_seq ?_
      refine cw_region ?_
      refine sq_r (ry_field (o' := 0) rfl rfl) ?_
      refine sq_r (ry_cellc rfl) ?_
      refine sq_r (ry_field (o' := 0) rfl rfl) ?_
      refine sq_r (ry_cellc rfl) ?_
      refine sq_r (ry_int rfl rfl rfl) ?_
      refine sq_nil ?_
      refine ex_then ?_
      refine cw_cond rfl (fun h2 => ?_) (fun h2 => ?_)
      · try simp only [Bool.and_eq_true, Bool.or_eq_true, Bool.and_eq_false_iff, Bool.or_eq_false_iff, Bool.not_eq_true', Bool.not_eq_false', decide_eq_true_eq, decide_eq_false_iff_not, Bool.not_eq_true, Bool.not_eq_false] at h2
        have hbn : bestOf t.ns.xs k (i + 1) = n.sl (kstep k (i : Nat)).toNat := by simp only [bestOf, getD_some hn]; exact if_pos h2
        refine cw_region ?_
        refine sq_r (ry_whole rfl) ?_
        refine sq_storeW rfl rfl ?_
        refine sq_nil ?_
        refine ex_block ?_
        refine ex_then ?_
        refine cw_region ?_
        refine sq_r (ry_add rfl rfl (by omega)) ?_
        refine sq_r (ry_move rfl) ?_
        refine sq_nil ?_
        exact ex_again (x := (i)) (i + 1) (by first | omega | (simp only []; omega)) (by first | omega | (simp only []; omega)) (Sub.cons rfl (Sub.cons rfl (Sub.cons rfl (Sub.cons rfl (Sub.cons rfl (Sub.cons rfl (Sub.nil _))))))) (fun w hw => by rw [hbn]; exact Keep.mem hw)
      · try simp only [Bool.and_eq_true, Bool.or_eq_true, Bool.and_eq_false_iff, Bool.or_eq_false_iff, Bool.not_eq_true', Bool.not_eq_false', decide_eq_true_eq, decide_eq_false_iff_not, Bool.not_eq_true, Bool.not_eq_false] at h2
        have hbn : bestOf t.ns.xs k (i + 1) = bestOf t.ns.xs k i := by simp only [bestOf, getD_some hn]; exact if_neg h2
        refine cw_skip ?_
        refine ex_block ?_
        refine ex_then ?_
        refine cw_region ?_
        refine sq_r (ry_add rfl rfl (by omega)) ?_
        refine sq_r (ry_move rfl) ?_
        refine sq_nil ?_
        exact ex_again (x := (i)) (i + 1) (by first | omega | (simp only []; omega)) (by first | omega | (simp only []; omega)) (Sub.cons rfl (Sub.cons rfl (Sub.cons rfl (Sub.cons rfl (Sub.cons rfl (Sub.cons rfl (Sub.nil _))))))) (fun w hw => by rw [hbn]; exact Keep.mem hw)
    · try simp only [Bool.and_eq_true, Bool.or_eq_true, Bool.and_eq_false_iff, Bool.or_eq_false_iff, Bool.not_eq_true', Bool.not_eq_false', decide_eq_true_eq, decide_eq_false_iff_not, Bool.not_eq_true, Bool.not_eq_false] at h1
      refine cw_exit ?_
      refine ex_pass_exit ?_
      refine ex_pass_exit ?_
      refine ex_block_hit ?_
      refine ex_then ?_
      refine cw_seq ?_
      refine cw_seq ?_
      refine cw_region ?_
      refine sq_r (ry_field (o' := 0) rfl rfl) ?_
      refine sq_r (ry_cellc rfl) ?_
      refine sq_r (ry_int rfl rfl rfl) ?_
      refine sq_nil ?_
      refine ex_then ?_
      refine cw_cond rfl (fun h3 => ?_) (fun h3 => ?_)
      · try simp only [Bool.and_eq_true, Bool.or_eq_true, Bool.and_eq_false_iff, Bool.or_eq_false_iff, Bool.not_eq_true', Bool.not_eq_false', decide_eq_true_eq, decide_eq_false_iff_not, Bool.not_eq_true, Bool.not_eq_false] at h3
        have hfe : findS t.bits t.ns.xs k = bestOf t.ns.xs k i := by rw [findS, show (walkV t.bits t.ns.xs k).length = i by omega]
        have he : findE t.bits t.ns.xs k = 6 := by rw [findE, if_pos hk, hfe, if_pos h3]
        refine cw_seq ?_
        refine cw_region ?_
        refine sq_r (ry_assign rfl) ?_
        refine sq_r (ry_assign rfl) ?_
        refine sq_r (ry_assign rfl) ?_
        refine sq_nil ?_
        refine ex_then ?_
        refine cw_ret ?_
        refine ex_pass_ret ?_
        refine ex_ret (.inl rfl) (res_3 rfl (rv_tmp rfl) (rv_tmp rfl) (rv_tmp rfl)) (fun w1 hw => ?_)
        exact ⟨by rw [findN, findH, he]; rfl, Keep.mem hw⟩
      · try simp only [Bool.and_eq_true, Bool.or_eq_true, Bool.and_eq_false_iff, Bool.or_eq_false_iff, Bool.not_eq_true', Bool.not_eq_false', decide_eq_true_eq, decide_eq_false_iff_not, Bool.not_eq_true, Bool.not_eq_false] at h3
        have hfe : findS t.bits t.ns.xs k = bestOf t.ns.xs k i := by rw [findS, show (walkV t.bits t.ns.xs k).length = i by omega]
        have he : findE t.bits t.ns.xs k = 0 := by rw [findE, if_pos hk, hfe, if_neg h3]
        have hbr := bestOf_rng (k := k) hs i
        refine cw_skip ?_
        refine ex_then ?_
        refine cw_seq ?_
        refine cw_quiet (by kernel_rfl) (by kernel_rfl) ?_
        refine qt_r (ry_field (o' := 0) rfl rfl) ?_
        refine qt_r (ry_cellc rfl) ?_
        refine qt_r (ry_sub rfl rfl (by omega)) ?_
        refine qt_r (ry_field (o' := 1) rfl rfl) ?_
        refine qt_r (ry_cellc rfl) ?_
        refine qt_r (ry_assign rfl) ?_
        refine qt_r (ry_assign rfl) ?_
        refine qt_r (ry_assign rfl) ?_
        refine qt_nil ?_
        refine ex_then ?_
        refine cw_ret ?_
        refine ex_ret (.inl rfl) (res_3 rfl (rv_tmp rfl) (rv_tmp rfl) (rv_tmp rfl)) (fun w1 hw => ?_)
        exact ⟨by rw [findN, findH, he, hfe]; rfl, Keep.mem hw⟩
instance tfind_i {w0 : World} {L : List Ent} {t : Tri} {k : Key} [ht : HdD w0 L t] : FnQ Try.prog 65 w0 L [.agg (tcells t), .agg (kcells k)] (.tuple #[.int .i64 (findN t.bits t.ns.xs k), .int .u16 ((findH t.bits t.ns.xs k).toNat : Nat), .int .i64 (findE t.bits t.ns.xs k)]) (True) := ⟨fun hp w hw => tfind_c w t k (ht.h w hw)⟩

end Go.Proofs.Ytembaconocgmlaa
