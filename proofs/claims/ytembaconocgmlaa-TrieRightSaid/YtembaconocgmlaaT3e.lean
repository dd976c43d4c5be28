/- Steps of a trie: walked. -/
import Derived.Test.YtembaconocgmlaaT3d
import Derived.Test.YtembaconocgmlaaTq
set_option linter.unusedSimpArgs false
set_option linter.unusedVariables false
namespace Go.Proofs.Ytembaconocgmlaa
open Go.Eng Go.Kb
set_option maxRecDepth 20000 in
theorem tsteps_c (w : World) (t : Tri) (ht : Deep.good (hp w) t) : Calls Try.prog 85 #[.agg (tcells t)] w fun e w' => ∃ zz : Sv, e = .returned (zz.val) ∧ (zz.nil = (stepsV t.bits t.ns.xs).isNone) ∧ Mem w [own iec 1 zz ((stepsV t.bits t.ns.xs).getD [])] w' := by
  have ght : GvD w t := ⟨ht⟩
  have hbd := ht.1.bd
  refine calls_of (args := [_]) Try.func85 rfl Try.ntmps85 rfl ?_
  change Cw _ _ _ _ _ [(0, .agg (tcells t))] []
  refine cw_seq ?_
  refine cw_region ?_
  refine sq_boxA rfl fun b1 => ?_
  refine sq_r (ry_assign rfl) ?_
  refine sq_nil ?_
  refine ex_then ?_
  refine cw_seq ?_
  refine cw_seq ?_
  refine cw_region ?_
  refine sq_r (ry_field (o' := 0) rfl rfl) ?_
  refine sq_r (ry_cellc rfl) ?_
  refine sq_y (yl_callC rfl trivial) ?_
  refine sq_r (ry_not rfl) ?_
  refine sq_r (ry_move rfl) ?_
  refine sq_gf rfl rfl rfl (fun hg => (Ry.yl (ry_field (o' := 1) rfl rfl))) ?_
  refine sq_gf rfl rfl rfl (fun hg => (Ry.yl (ry_cellc (ev_c hg rfl)))) ?_
  refine sq_gf rfl rfl rfl (fun hg => (Ry.yl (ry_lenH (ev_c hg rfl)))) ?_
  refine sq_gf rfl rfl rfl (fun hg => (Ry.yl (ry_int (ev_c hg rfl) rfl rfl))) ?_
  refine sq_r (ry_or rfl rfl rfl) ?_
  refine sq_r (ry_move rfl) ?_
  refine sq_gf rfl rfl rfl (fun hg => (Ry.yl (ry_field (o' := 1) rfl rfl))) ?_
  refine sq_gf rfl rfl rfl (fun hg => (Ry.yl (ry_cellc (ev_c hg rfl)))) ?_
  refine sq_gf rfl rfl rfl (fun hg => (Ry.yl (ry_lenH (ev_c hg rfl)))) ?_
  refine sq_gf rfl rfl rfl (fun hg => (Ry.yl (ry_int (ev_c hg rfl) rfl rfl))) ?_
  refine sq_r (ry_or rfl rfl rfl) ?_
  refine sq_nil ?_
  refine ex_then ?_
  refine cw_cond rfl (fun h0 => ?_) (fun h0 => ?_)
  · try simp only [Bool.and_eq_true, Bool.or_eq_true, Bool.and_eq_false_iff, Bool.or_eq_false_iff, Bool.not_eq_true', Bool.not_eq_false', decide_eq_true_eq, decide_eq_false_iff_not, Bool.not_eq_true, Bool.not_eq_false] at h0
    have hv : stepsV t.bits t.ns.xs = none := by rw [stepsV, if_neg]; omega
    refine cw_seq ?_
    refine cw_region ?_
    refine sq_r (ry_assign rfl) ?_
    refine sq_nil ?_
    refine ex_then ?_
    refine cw_ret ?_
    refine ex_pass_ret ?_
    refine ex_ret (.inl rfl) (res_1 rfl (rv_tmp rfl)) (fun w1 hw => ?_)
    exact ⟨Sv.none, rfl, by rw [hv]; rfl, by rw [hv]; exact Mem.nilOwn iec 1 (Keep.mem hw : Mem w [] _)⟩
  · try simp only [Bool.and_eq_true, Bool.or_eq_true, Bool.and_eq_false_iff, Bool.or_eq_false_iff, Bool.not_eq_true', Bool.not_eq_false', decide_eq_true_eq, decide_eq_false_iff_not, Bool.not_eq_true, Bool.not_eq_false] at h0
    have hb : t.bits = 32 ∨ t.bits = 128 := by omega
    have hl1 : 1 ≤ t.ns.xs.length := by omega
    have hl2 : t.ns.xs.length ≤ 512 := by omega
    have hv0 : stepsV t.bits t.ns.xs = stepsN t.bits t.ns.xs t.ns.xs.length := by rw [stepsV, if_pos ⟨hb, hl1, hl2⟩]
    refine cw_skip ?_
    refine ex_then ?_
    refine cw_seq ?_
    refine cw_region ?_
    refine sq_r (ry_field (o' := 1) rfl rfl) ?_
    refine sq_r (ry_cellc rfl) ?_
    refine sq_r (ry_lenH rfl) ?_
    refine sq_makeS (enc := iec) (n := t.ns.xs.length) (cap := t.ns.xs.length) (0 : Int) rfl rfl rfl rfl rfl (by omega) (by omega) (by omega) fun b28 => ?_
    refine sq_r (ry_assign rfl) ?_
    refine sq_nil ?_
    refine ex_then ?_
    refine cw_seq ?_
    refine cw_region ?_
    refine sq_r (ry_move rfl) ?_
    obtain ⟨z, hz⟩ := get_some (xs := (List.replicate t.ns.xs.length (0 : Int))) (i := 0) (by simp; omega)
    refine sq_r (ry_idxH rfl rfl 0 rfl (by simp; omega)) ?_
    refine sq_stI rfl rfl hz rfl ?_
    refine sq_nil ?_
    refine ex_then ?_
    refine cw_seq ?_
    refine cw_seq ?_
    refine cw_region ?_
    refine sq_r (ry_field (o' := 1) rfl rfl) ?_
    refine sq_r (ry_cellc rfl) ?_
    refine sq_r (ry_lenH rfl) ?_
    refine sq_r (ry_move rfl) ?_
    refine sq_nil ?_
    refine ex_then ?_
    refine cw_block ?_
    refine cw_loop (X := Nat × List Int) (fun zz => [(34, .int .i64 (zz.1 : Nat)), (3, (⟨false, b28, 0, t.ns.xs.length, t.ns.xs.length, none⟩ : Sv).val), (1, .pointer (some ⟨b1, 0, none⟩)), (32, t.ns.sv.val), (33, .int .i64 (t.ns.xs.length : Nat))]) (fun zz => [own iec 1 ⟨false, b28, 0, t.ns.xs.length, t.ns.xs.length, none⟩ zz.2, blk b1 (tcells t) 86]) (fun zz => zz.1 ≤ t.ns.xs.length ∧ stepsN t.bits t.ns.xs zz.1 = some zz.2 ∧ zz.2.length = t.ns.xs.length ∧ (∀ y ∈ zz.2, 0 ≤ y ∧ y ≤ 33)) (fun zz => t.ns.xs.length - zz.1) (0, (List.replicate t.ns.xs.length 0).set 0 1) ⟨Nat.zero_le _, rfl, by simp, fun y hy => by rcases List.mem_or_eq_of_mem_set hy with h | h; rw [List.eq_of_mem_replicate h]; omega; omega⟩ (Sub.cons rfl (Sub.cons rfl (Sub.cons rfl (Sub.cons rfl (Sub.cons rfl (Sub.nil _)))))) (fun w hw => Keep.mem hw) ?_
    rintro ⟨i, a⟩ ⟨hi, hs, ha, hy⟩
    dsimp only
    simp only at hi hs ha hy
    refine cw_seq ?_
    refine cw_region ?_
    refine sq_r (ry_int rfl rfl rfl) ?_
    refine sq_nil ?_
    refine ex_then ?_
    refine cw_seq ?_
    refine cw_cond rfl (fun h1 => ?_) (fun h1 => ?_)
    · try simp only [Bool.and_eq_true, Bool.or_eq_true, Bool.and_eq_false_iff, Bool.or_eq_false_iff, Bool.not_eq_true', Bool.not_eq_false', decide_eq_true_eq, decide_eq_false_iff_not, Bool.not_eq_true, Bool.not_eq_false] at h1
      refine cw_skip ?_
      refine ex_then ?_
      refine cw_seq ?_
      refine cw_block ?_
      refine cw_seq ?_
      refine cw_region ?_
      refine sq_r (ry_move rfl) ?_
      obtain ⟨n, hn⟩ := get_some (xs := t.ns.xs) (i := i) (by omega)
      refine sq_r (ry_idxH rfl rfl i rfl (by omega)) ?_
      refine sq_r (ry_elemH rfl i hn rfl) ?_
      refine sq_allocA fun b5 => ?_
      refine sq_r (ry_assign rfl) ?_
      refine sq_storeW rfl rfl ?_
      refine sq_nil ?_
      refine ex_then ?_
      refine cw_seq ?_
      refine cw_seq ?_
      refine cw_quiet (by kernel_rfl) (by kernel_rfl) ?_
      refine qt_r (ry_move rfl) ?_
      refine qt_r (ry_move rfl) ?_
      obtain ⟨x, hx⟩ := get_some (xs := a) (i := i) (by omega)
      refine qt_r (ry_idxH rfl rfl i rfl (by omega)) ?_
      have hxr := hy x (List.mem_of_getElem? hx)
      refine qt_r (ry_elemcH (j := 0) rfl i hx rfl (by decide)) ?_
      refine qt_r (ry_int rfl rfl rfl) ?_
      refine qt_r (ry_move rfl) ?_
      refine qt_gf rfl rfl rfl (fun hg => (Ry.yl (ry_move rfl))) ?_
      refine qt_gf rfl rfl rfl (fun hg => (Ry.yl (ry_move rfl))) ?_
      refine qt_gf rfl rfl rfl (fun hg => (Ry.yl (ry_idxH (ev_c hg rfl) (ev_c hg rfl) i rfl (by omega)))) ?_
      refine qt_gf rfl rfl rfl (fun hg => (Ry.yl (ry_elemcH (j := 0) (ev_c hg rfl) i hx rfl (by decide)))) ?_
      refine qt_gf rfl rfl rfl (fun hg => (Ry.yl (ry_field (o' := 0) rfl rfl))) ?_
      refine qt_gf rfl rfl rfl (fun hg => (Ry.yl (ry_cellc (ev_c hg rfl)))) ?_
      refine qt_gf rfl rfl rfl (fun hg => (Ry.yl (ry_quo (ev_c hg rfl) rfl (by simp only [Bool.and_eq_true, Bool.or_eq_true, Bool.and_eq_false_iff, Bool.or_eq_false_iff, Bool.not_eq_true', Bool.not_eq_false', decide_eq_true_eq, decide_eq_false_iff_not, Bool.not_eq_true, Bool.not_eq_false] at hg; omega) (by simp only [Bool.and_eq_true, Bool.or_eq_true, Bool.and_eq_false_iff, Bool.or_eq_false_iff, Bool.not_eq_true', Bool.not_eq_false', decide_eq_true_eq, decide_eq_false_iff_not, Bool.not_eq_true, Bool.not_eq_false] at hg; omega)))) ?_
      refine qt_gf rfl rfl rfl (fun hg => (Ry.yl (ry_int (ev_c hg rfl) (ev_c hg rfl) rfl))) ?_
      refine qt_r (ry_or rfl rfl rfl) ?_
      refine qt_nil ?_
      refine ex_then ?_
      refine cw_cond rfl (fun h2 => ?_) (fun h2 => ?_)
      · try simp only [Bool.and_eq_true, Bool.or_eq_true, Bool.and_eq_false_iff, Bool.or_eq_false_iff, Bool.not_eq_true', Bool.not_eq_false', decide_eq_true_eq, decide_eq_false_iff_not, Bool.not_eq_true, Bool.not_eq_false] at h2
        have hv := stepsV_bad (by omega) hs (by rw [getD_some hx]; omega)
        refine cw_seq ?_
        refine cw_region ?_
        refine sq_r (ry_assign rfl) ?_
        refine sq_nil ?_
        refine ex_then ?_
        refine cw_ret ?_
        refine ex_pass_ret ?_
        refine ex_block_ret ?_
        refine ex_pass_ret ?_
        refine ex_pass_ret ?_
        refine ex_block_ret ?_
        refine ex_pass_ret ?_
        refine ex_ret (.inl rfl) (res_1 rfl (rv_tmp rfl)) (fun w1 hw => ?_)
        exact ⟨Sv.none, rfl, by rw [hv]; rfl, by rw [hv]; exact Mem.nilOwn iec 1 (Keep.mem hw : Mem w [] _)⟩
      · try simp only [Bool.and_eq_true, Bool.or_eq_true, Bool.and_eq_false_iff, Bool.or_eq_false_iff, Bool.not_eq_true', Bool.not_eq_false', decide_eq_true_eq, decide_eq_false_iff_not, Bool.not_eq_true, Bool.not_eq_false] at h2
        have hxn : ¬ (a.getD i 0 = 0 ∨ t.bits / 4 < a.getD i 0) := by rw [getD_some hx]; omega
        refine cw_skip ?_
        refine ex_then ?_
        refine cw_seq ?_
        refine cw_region ?_
        refine sq_r (ry_move rfl) ?_
        refine sq_nil ?_
        refine ex_then ?_
        refine cw_block ?_
        refine cw_loop (X := Nat × List Int) (fun zz => [(54, .int .i64 (zz.1 : Nat)), (3, (⟨false, b28, 0, t.ns.xs.length, t.ns.xs.length, none⟩ : Sv).val), (1, .pointer (some ⟨b1, 0, none⟩)), (4, .int .i64 (i : Nat)), (5, .pointer (some ⟨b5, 0, none⟩)), (32, t.ns.sv.val), (33, .int .i64 (t.ns.xs.length : Nat)), (34, .int .i64 (i : Nat))]) (fun zz => [own iec 1 ⟨false, b28, 0, t.ns.xs.length, t.ns.xs.length, none⟩ zz.2, blk b5 (ncells n) 28, blk b1 (tcells t) 86]) (fun zz => zz.1 ≤ 16 ∧ stepsB t.ns.xs.length i n zz.1 a = some zz.2 ∧ zz.2.length = t.ns.xs.length ∧ (∀ y ∈ zz.2, 0 ≤ y ∧ y ≤ 33) ∧ zz.2[i]? = some x) (fun zz => 16 - zz.1) (0, a) ⟨by first | omega | (simp only []; omega), rfl, ha, hy, hx⟩ (Sub.cons rfl (Sub.cons rfl (Sub.cons rfl (Sub.cons rfl (Sub.cons rfl (Sub.cons rfl (Sub.cons rfl (Sub.cons rfl (Sub.nil _))))))))) (fun w hw => Keep.mem hw) ?_
        rintro ⟨b, a2⟩ ⟨hb2, hs2, ha2, hy2, hx2⟩
        dsimp only
        simp only at hb2 hs2 ha2 hy2 hx2
        refine cw_seq ?_
        refine cw_region ?_
        refine sq_r (ry_int rfl rfl rfl) ?_
        refine sq_nil ?_
        refine ex_then ?_
        refine cw_seq ?_
        refine cw_cond rfl (fun h3 => ?_) (fun h3 => ?_)
        · try simp only [Bool.and_eq_true, Bool.or_eq_true, Bool.and_eq_false_iff, Bool.or_eq_false_iff, Bool.not_eq_true', Bool.not_eq_false', decide_eq_true_eq, decide_eq_false_iff_not, Bool.not_eq_true, Bool.not_eq_false] at h3
          refine cw_skip ?_
          refine ex_then ?_
          refine cw_seq ?_
          refine cw_block ?_
          refine cw_seq ?_
          refine cw_region ?_
          refine sq_r (ry_move rfl) ?_
          refine sq_r (ry_assign rfl) ?_
          refine sq_nil ?_
          refine ex_then ?_
          refine cw_seq ?_
          refine cw_seq ?_
          refine cw_region ?_
          refine sq_r (ry_move rfl) ?_
          refine sq_r (ry_field (o' := 0) rfl rfl) ?_
          refine sq_r (ry_idxA rfl rfl (by omega) (by omega)) ?_
          refine sq_r (ry_field rfl rfl) ?_
          refine sq_r (ry_bslen rfl b (by omega) (by simp only [Nat.add_eq, Int.toNat_natCast, Nat.mul_one, Nat.zero_add, Nat.add_zero] <;> omega)) ?_
          refine sq_r (ry_assign rfl) ?_
          refine sq_nil ?_
          refine ex_then ?_
          refine cw_seq ?_
          refine cw_region ?_
          refine sq_r (ry_move rfl) ?_
          refine sq_r (ry_int rfl rfl rfl) ?_
          refine sq_r (ry_move rfl) ?_
          refine sq_gf rfl rfl rfl (fun hg => (Ry.yl (ry_move rfl))) ?_
          refine sq_gf rfl rfl rfl (fun hg => (Ry.yl (ry_move rfl))) ?_
          refine sq_gf rfl rfl rfl (fun hg => (Ry.yl (ry_move rfl))) ?_
          refine sq_gf rfl rfl rfl (fun hg => (Ry.yl (ry_idxH (ev_c hg rfl) (ev_c hg rfl) i rfl (by omega)))) ?_
          refine sq_gf rfl rfl rfl (fun hg => (Ry.yl (ry_elemcH (j := 0) (ev_c hg rfl) i hx2 rfl (by decide)))) ?_
          refine sq_gf rfl rfl rfl (fun hg => (Ry.yl (ry_mul rfl (ev_c hg rfl) (by simp only [Bool.and_eq_true, Bool.or_eq_true, Bool.and_eq_false_iff, Bool.or_eq_false_iff, Bool.not_eq_true', Bool.not_eq_false', decide_eq_true_eq, decide_eq_false_iff_not, Bool.not_eq_true, Bool.not_eq_false] at hg; omega)))) ?_
          refine sq_gf rfl rfl rfl (fun hg => (Ry.yl (ry_add (ev_c hg rfl) rfl (by simp only [Bool.and_eq_true, Bool.or_eq_true, Bool.and_eq_false_iff, Bool.or_eq_false_iff, Bool.not_eq_true', Bool.not_eq_false', decide_eq_true_eq, decide_eq_false_iff_not, Bool.not_eq_true, Bool.not_eq_false] at hg; omega)))) ?_
          refine sq_gf rfl rfl rfl (fun hg => (Ry.yl (ry_int (ev_c hg rfl) (ev_c hg rfl) rfl))) ?_
          refine sq_r (ry_or rfl rfl rfl) ?_
          refine sq_nil ?_
          refine ex_then ?_
          refine cw_cond rfl (fun h4 => ?_) (fun h4 => ?_)
          · try simp only [Bool.and_eq_true, Bool.or_eq_true, Bool.and_eq_false_iff, Bool.or_eq_false_iff, Bool.not_eq_true', Bool.not_eq_false', decide_eq_true_eq, decide_eq_false_iff_not, Bool.not_eq_true, Bool.not_eq_false] at h4
            have hv := stepsV_bad2 (by omega) hs hn (b := b) (by omega) hs2 (by rw [stepOne, getD_some hx2, if_pos (by omega)])
            refine cw_seq ?_
            refine cw_region ?_
            refine sq_r (ry_assign rfl) ?_
            refine sq_nil ?_
            refine ex_then ?_
            refine cw_ret ?_
            refine ex_pass_ret ?_
            refine ex_block_ret ?_
            refine ex_pass_ret ?_
            refine ex_pass_ret ?_
            refine ex_block_ret ?_
            refine ex_block_ret ?_
            refine ex_pass_ret ?_
            refine ex_pass_ret ?_
            refine ex_block_ret ?_
            refine ex_pass_ret ?_
            refine ex_ret (.inl rfl) (res_1 rfl (rv_tmp rfl)) (fun w1 hw => ?_)
            exact ⟨Sv.none, rfl, by rw [hv]; rfl, by rw [hv]; exact Mem.nilOwn iec 1 (Keep.mem hw : Mem w [] _)⟩
          · try simp only [Bool.and_eq_true, Bool.or_eq_true, Bool.and_eq_false_iff, Bool.or_eq_false_iff, Bool.not_eq_true', Bool.not_eq_false', decide_eq_true_eq, decide_eq_false_iff_not, Bool.not_eq_true, Bool.not_eq_false] at h4
            refine cw_skip ?_
            refine ex_then ?_
            refine cw_seq ?_
            refine cw_region ?_
            refine sq_r (ry_move rfl) ?_
            refine sq_r (ry_field (o' := 32) rfl rfl) ?_
            refine sq_r (ry_idxA rfl rfl (by omega) (by omega)) ?_
            refine sq_r (ry_bnx rfl b (by omega) (by simp only [Nat.add_eq, Int.toNat_natCast, Nat.mul_one, Nat.zero_add, Nat.add_zero] <;> omega)) ?_
            refine sq_r (ry_assign rfl) ?_
            refine sq_nil ?_
            refine ex_then ?_
            refine cw_seq ?_
            refine cw_seq ?_
            refine cw_region ?_
            refine sq_r (ry_move rfl) ?_
            refine sq_r (ry_int rfl rfl rfl) ?_
            refine sq_nil ?_
            refine ex_then ?_
            refine cw_cond rfl (fun h5 => ?_) (fun h5 => ?_)
            · try simp only [Bool.and_eq_true, Bool.or_eq_true, Bool.and_eq_false_iff, Bool.or_eq_false_iff, Bool.not_eq_true', Bool.not_eq_false', decide_eq_true_eq, decide_eq_false_iff_not, Bool.not_eq_true, Bool.not_eq_false] at h5
              have ho : stepOne t.ns.xs.length i n b a2 = some a2 := by rw [stepOne, getD_some hx2, if_neg (by omega), if_pos h5]
              refine cw_exit ?_
              refine ex_pass_exit ?_
              refine ex_block_hit ?_
              refine ex_then ?_
              refine cw_region ?_
              refine sq_r (ry_add rfl rfl (by omega)) ?_
              refine sq_r (ry_move rfl) ?_
              refine sq_nil ?_
              exact ex_again (x := (b, a2)) (b + 1, a2) ⟨by first | omega | (simp only []; omega), by rw [stepsB, hs2, Option.bind_some, ho], ha2, hy2, hx2⟩ (by simp only; omega) (Sub.cons rfl (Sub.cons rfl (Sub.cons rfl (Sub.cons rfl (Sub.cons rfl (Sub.cons rfl (Sub.cons rfl (Sub.cons rfl (Sub.nil _))))))))) (fun w hw => Keep.mem hw)
            · try simp only [Bool.and_eq_true, Bool.or_eq_true, Bool.and_eq_false_iff, Bool.or_eq_false_iff, Bool.not_eq_true', Bool.not_eq_false', decide_eq_true_eq, decide_eq_false_iff_not, Bool.not_eq_true, Bool.not_eq_false] at h5
              refine cw_skip ?_
              refine ex_then ?_
              refine cw_seq ?_
              refine cw_seq ?_
              refine cw_region ?_
              refine sq_r (ry_move rfl) ?_
              refine sq_r (ry_move rfl) ?_
              refine sq_r (ry_int rfl rfl rfl) ?_
              refine sq_r (ry_move rfl) ?_
              refine sq_gf rfl rfl rfl (fun hg => (Ry.yl (ry_move rfl))) ?_
              refine sq_gf rfl rfl rfl (fun hg => (Ry.yl (ry_field (o' := 1) rfl rfl))) ?_
              refine sq_gf rfl rfl rfl (fun hg => (Ry.yl (ry_cellc (ev_c hg rfl)))) ?_
              refine sq_gf rfl rfl rfl (fun hg => (Ry.yl (ry_lenH (ev_c hg rfl)))) ?_
              refine sq_gf rfl rfl rfl (fun hg => (Ry.yl (ry_int (ev_c hg rfl) (ev_c hg rfl) rfl))) ?_
              refine sq_r (ry_or rfl rfl rfl) ?_
              refine sq_r (ry_move rfl) ?_
              refine sq_gf rfl rfl rfl (fun hg => (Ry.yl (ry_move rfl))) ?_
              refine sq_gf rfl rfl rfl (fun hg => (Ry.yl (ry_move rfl))) ?_
              refine sq_gf rfl rfl rfl (fun hg => (Ry.yl (ry_idxH (ev_c hg rfl) (ev_c hg rfl) ((n.nx b).toNat) (by simp only [Bool.and_eq_true, Bool.or_eq_true, Bool.and_eq_false_iff, Bool.or_eq_false_iff, Bool.not_eq_true', Bool.not_eq_false', decide_eq_true_eq, decide_eq_false_iff_not, Bool.not_eq_true, Bool.not_eq_false] at hg; omega) (by simp only [Bool.and_eq_true, Bool.or_eq_true, Bool.and_eq_false_iff, Bool.or_eq_false_iff, Bool.not_eq_true', Bool.not_eq_false', decide_eq_true_eq, decide_eq_false_iff_not, Bool.not_eq_true, Bool.not_eq_false] at hg; omega)))) ?_
              refine sq_gf rfl rfl rfl (fun hg => (Ry.yl (ry_elemcH (j := 0) (ev_c hg rfl) ((n.nx b).toNat) (get_getD (xs := a2) (i := (n.nx b).toNat) (d := (0 : Int)) (by simp only [Bool.and_eq_true, Bool.or_eq_true, Bool.and_eq_false_iff, Bool.or_eq_false_iff, Bool.not_eq_true', Bool.not_eq_false', decide_eq_true_eq, decide_eq_false_iff_not, Bool.not_eq_true, Bool.not_eq_false] at hg; omega)) rfl (by decide)))) ?_
              refine sq_gf rfl rfl rfl (fun hg => (Ry.yl (ry_int (ev_c hg rfl) rfl rfl))) ?_
              refine sq_r (ry_or rfl rfl rfl) ?_
              refine sq_nil ?_
              refine ex_then ?_
              refine cw_cond rfl (fun h6 => ?_) (fun h6 => ?_)
              · try simp only [Bool.and_eq_true, Bool.or_eq_true, Bool.and_eq_false_iff, Bool.or_eq_false_iff, Bool.not_eq_true', Bool.not_eq_false', decide_eq_true_eq, decide_eq_false_iff_not, Bool.not_eq_true, Bool.not_eq_false] at h6
                have hv := stepsV_bad2 (by omega) hs hn (b := b) (by omega) hs2 (by rw [stepOne, getD_some hx2, if_neg (by omega), if_neg h5, if_pos (by omega)])
                refine cw_seq ?_
                refine cw_region ?_
                refine sq_r (ry_assign rfl) ?_
                refine sq_nil ?_
                refine ex_then ?_
                refine cw_ret ?_
                refine ex_pass_ret ?_
                refine ex_block_ret ?_
                refine ex_pass_ret ?_
                refine ex_pass_ret ?_
                refine ex_block_ret ?_
                refine ex_block_ret ?_
                refine ex_pass_ret ?_
                refine ex_pass_ret ?_
                refine ex_block_ret ?_
                refine ex_pass_ret ?_
                refine ex_ret (.inl rfl) (res_1 rfl (rv_tmp rfl)) (fun w1 hw => ?_)
                exact ⟨Sv.none, rfl, by rw [hv]; rfl, by rw [hv]; exact Mem.nilOwn iec 1 (Keep.mem hw : Mem w [] _)⟩
              · try simp only [Bool.and_eq_true, Bool.or_eq_true, Bool.and_eq_false_iff, Bool.or_eq_false_iff, Bool.not_eq_true', Bool.not_eq_false', decide_eq_true_eq, decide_eq_false_iff_not, Bool.not_eq_true, Bool.not_eq_false] at h6
                have ho : stepOne t.ns.xs.length i n b a2 = some (a2.set (n.nx b).toNat (x + 1)) := by rw [stepOne, getD_some hx2, if_neg (by omega), if_neg h5, if_neg (by omega)]
                refine cw_skip ?_
                refine ex_then ?_
                refine cw_region ?_
                refine sq_r (ry_move rfl) ?_
                refine sq_r (ry_move rfl) ?_
                refine sq_r (ry_move rfl) ?_
                refine sq_r (ry_move rfl) ?_
                refine sq_r (ry_idxH rfl rfl i rfl (by omega)) ?_
                refine sq_r (ry_elemcH (j := 0) rfl i hx2 rfl (by decide)) ?_
                refine sq_r (ry_add rfl rfl (by omega)) ?_
                obtain ⟨e104, he104⟩ := get_some (xs := a2) (i := (n.nx b).toNat) (by omega)
                refine sq_r (ry_idxH rfl rfl ((n.nx b).toNat) (by omega) (by omega)) ?_
                refine sq_stI rfl rfl he104 rfl ?_
                refine sq_nil ?_
                refine ex_block ?_
                refine ex_then ?_
                refine cw_region ?_
                refine sq_r (ry_add rfl rfl (by omega)) ?_
                refine sq_r (ry_move rfl) ?_
                refine sq_nil ?_
                exact ex_again (x := (b, a2)) (b + 1, _) ⟨by first | omega | (simp only []; omega), by rw [stepsB, hs2, Option.bind_some, ho], by simp [ha2], fun y hy' => by rcases List.mem_or_eq_of_mem_set hy' with h | h; exact hy2 y h; omega, by rw [List.getElem?_set_ne (by first | omega | (simp only []; omega))]; exact hx2⟩ (by simp only; omega) (Sub.cons rfl (Sub.cons rfl (Sub.cons rfl (Sub.cons rfl (Sub.cons rfl (Sub.cons rfl (Sub.cons rfl (Sub.cons rfl (Sub.nil _))))))))) (fun w hw => Keep.mem hw)
        · try simp only [Bool.and_eq_true, Bool.or_eq_true, Bool.and_eq_false_iff, Bool.or_eq_false_iff, Bool.not_eq_true', Bool.not_eq_false', decide_eq_true_eq, decide_eq_false_iff_not, Bool.not_eq_true, Bool.not_eq_false] at h3
          obtain rfl : b = 16 := by omega
          refine cw_exit ?_
          refine ex_pass_exit ?_
          refine ex_pass_exit ?_
          refine ex_block_hit ?_
          refine ex_block ?_
          refine ex_then ?_
          refine cw_region ?_
          refine sq_r (ry_add rfl rfl (by omega)) ?_
          refine sq_r (ry_move rfl) ?_
          refine sq_nil ?_
          exact ex_again (x := (i, a)) (i + 1, a2) ⟨by first | omega | (simp only []; omega), stepsN_next hs hn hxn hs2, ha2, hy2⟩ (by simp only; omega) (Sub.cons rfl (Sub.cons rfl (Sub.cons rfl (Sub.cons rfl (Sub.cons rfl (Sub.nil _)))))) (fun w hw => Keep.mem hw)
    · try simp only [Bool.and_eq_true, Bool.or_eq_true, Bool.and_eq_false_iff, Bool.or_eq_false_iff, Bool.not_eq_true', Bool.not_eq_false', decide_eq_true_eq, decide_eq_false_iff_not, Bool.not_eq_true, Bool.not_eq_false] at h1
      refine cw_exit ?_
      refine ex_pass_exit ?_
      refine ex_pass_exit ?_
      refine ex_block_hit ?_
      refine ex_then ?_
      refine cw_seq ?_
      refine cw_region ?_
      refine sq_r (ry_move rfl) ?_
      refine sq_r (ry_assign rfl) ?_
      refine sq_nil ?_
      refine ex_then ?_
      refine cw_ret ?_
      refine ex_ret (.inl rfl) (res_1 rfl (rv_tmp rfl)) (fun w1 hw => ?_)
      obtain rfl : i = t.ns.xs.length := by omega
      exact ⟨⟨false, b28, 0, t.ns.xs.length, t.ns.xs.length, none⟩, rfl, by rw [hv0, hs]; rfl, by rw [hv0, hs]; exact (Keep.mem hw : Mem w [own iec 1 ⟨false, b28, 0, t.ns.xs.length, t.ns.xs.length, none⟩ a] _)⟩
instance tsteps_i {w0 : World} {L : List Ent} {t : Tri} [ht : HdD w0 L t] : FnC Try.prog 85 w0 L [.agg (tcells t)] (Sv) (fun zz => zz.val) (fun zz => own iec 1 zz ((stepsV t.bits t.ns.xs).getD []) :: L) (fun zz => zz.nil = (stepsV t.bits t.ns.xs).isNone) (True) := ⟨fun hp w hw => (tsteps_c w t (ht.h w hw)).mono fun e w' ⟨x, h1, h2, h3⟩ => ⟨x, h1, h2, hw.call h3⟩⟩

end Go.Proofs.Ytembaconocgmlaa
