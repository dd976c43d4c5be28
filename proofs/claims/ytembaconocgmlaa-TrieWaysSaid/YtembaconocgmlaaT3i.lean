/- TrieWays: walked. -/
import Derived.Test.YtembaconocgmlaaT3g
import Derived.Test.YtembaconocgmlaaPm
set_option linter.unusedSimpArgs false
set_option linter.unusedVariables false
namespace Go.Proofs.Ytembaconocgmlaa
open Go.Eng Go.Kb
set_option maxRecDepth 20000 in
theorem trieWays_c (w : World) (t : Sv) (ts : List Rt) (k : Key) (l : Key) (bits : Int) (ht : Lies rcells 19 (hp w) t ts) : Calls Try.prog 15 #[t.val, .agg (kcells k), .agg (kcells l), .int .i64 bits] w fun e w' => e = .returned (.bool true) ∧ Mem w [] w' := by
  have ght : Gv w t rcells 19 ts := ⟨ht⟩
  refine calls_of (args := [_, _, _, _]) Try.func15 rfl Try.ntmps15 rfl ?_
  change Cw _ _ _ _ _ [(0, t.val), (1, .agg (kcells k)), (2, .agg (kcells l)), (3, .int .i64 bits)] []
  refine cw_seq ?_
  refine cw_region ?_
  refine sq_boxA rfl fun b5 => ?_
  refine sq_boxA rfl fun b6 => ?_
  refine sq_r (ry_assign rfl) ?_
  refine sq_nil ?_
  refine ex_then ?_
  refine cw_seq ?_
  refine cw_seq ?_
  refine cw_region ?_
  refine sq_y (yl_callC rfl trivial) ?_
  refine sq_r (ry_not rfl) ?_
  refine sq_nil ?_
  refine ex_then ?_
  refine cw_cond rfl (fun h0 => ?_) (fun h0 => ?_)
  · exfalso; simp at h0
  · try simp only [Bool.and_eq_true, Bool.or_eq_true, Bool.and_eq_false_iff, Bool.or_eq_false_iff, Bool.not_eq_true', Bool.not_eq_false', decide_eq_true_eq, decide_eq_false_iff_not, Bool.not_eq_true, Bool.not_eq_false] at h0
    refine cw_skip ?_
    refine ex_then ?_
    refine cw_seq ?_
    refine cw_seq ?_
    refine cw_region ?_
    refine sq_r (ry_move rfl) ?_
    refine sq_r (ry_lenH rfl) ?_
    refine sq_r (ry_int rfl rfl rfl) ?_
    refine sq_r (ry_move rfl) ?_
    refine sq_gf rfl rfl rfl (fun hg => (Ry.yl (ry_move rfl))) ?_
    refine sq_gf rfl rfl rfl (fun hg => yl_callC (evl_cons (ev_c hg rfl) evl_nil) trivial) ?_
    refine sq_gf rfl rfl rfl (fun hg => (Ry.yl (ry_not (ev_c hg rfl)))) ?_
    refine sq_r (ry_or rfl rfl rfl) ?_
    refine sq_nil ?_
    refine ex_then ?_
    refine cw_cond rfl (fun h1 => ?_) (fun h1 => ?_)
    · try simp only [Bool.and_eq_true, Bool.or_eq_true, Bool.and_eq_false_iff, Bool.or_eq_false_iff, Bool.not_eq_true', Bool.not_eq_false', decide_eq_true_eq, decide_eq_false_iff_not, Bool.not_eq_true, Bool.not_eq_false] at h1
      refine cw_seq ?_
      refine cw_region ?_
      refine sq_r (ry_assign rfl) ?_
      refine sq_nil ?_
      refine ex_then ?_
      refine cw_ret ?_
      refine ex_pass_ret ?_
      refine ex_ret (.inl rfl) (res_1 rfl (rv_tmp rfl)) (fun w1 hw => ?_)
      exact ⟨congrArg (fun b => Ending.returned (Value.bool b)) (rfl), Keep.mem hw⟩
    · try simp only [Bool.and_eq_true, Bool.or_eq_true, Bool.and_eq_false_iff, Bool.or_eq_false_iff, Bool.not_eq_true', Bool.not_eq_false', decide_eq_true_eq, decide_eq_false_iff_not, Bool.not_eq_true, Bool.not_eq_false] at h1
      have hr : tright ts = true := by simpa using h1.2
      have hlen := tr_len hr
      have hm : ∀ r ∈ ts, pmay r.p = true := fun r hx => tr_may hr hx
      refine cw_skip ?_
      refine ex_then ?_
      refine cw_seq ?_
      refine cw_region ?_
      refine sq_r (ry_move rfl) ?_
      refine sq_r (ry_move rfl) ?_
      refine sq_callC rfl trivial fun x32 hp32 => ?_
      refine sq_r (ry_move rfl) ?_
      refine sq_r (ry_extract (v := .agg (tcells x32)) rfl rfl) ?_
      refine sq_r (ry_extract (v := .int .i64 (buildE ts bits)) rfl rfl) ?_
      refine sq_allocA fun b9 => ?_
      refine sq_storeW rfl rfl ?_
      refine sq_r (ry_assign rfl) ?_
      refine sq_nil ?_
      refine ex_then ?_
      refine cw_seq ?_
      refine cw_seq ?_
      refine cw_quiet (by kernel_rfl) (by kernel_rfl) ?_
      refine qt_r (ry_move rfl) ?_
      refine qt_r (ry_int rfl rfl rfl) ?_
      refine qt_r (ry_move rfl) ?_
      refine qt_gf rfl rfl rfl (fun hg => (Ry.yl (ry_whole rfl))) ?_
      refine qt_gf rfl rfl rfl (fun hg => (Ry.yl (ry_move rfl))) ?_
      refine qt_gf rfl rfl rfl (fun hg => yl_callC (evl_cons (ev_c hg rfl) (evl_cons (ev_c hg rfl) evl_nil)) trivial) ?_
      refine qt_gf rfl rfl rfl (fun hg => (Ry.yl (ry_whole rfl))) ?_
      refine qt_gf rfl rfl rfl (fun hg => (Ry.yl (ry_ne (ev_c hg rfl) (ev_c hg rfl)))) ?_
      refine qt_r (ry_or rfl rfl rfl) ?_
      refine qt_r (ry_move rfl) ?_
      refine qt_gf rfl rfl rfl (fun hg => (Ry.yl (ry_whole rfl))) ?_
      refine qt_gf rfl rfl rfl (fun hg => (Ry.yl (ry_move rfl))) ?_
      refine qt_gf rfl rfl rfl (fun hg => yl_callC (evl_cons (ev_c hg rfl) (evl_cons (ev_c hg rfl) evl_nil)) trivial) ?_
      refine qt_gf rfl rfl rfl (fun hg => (Ry.yl (ry_whole rfl))) ?_
      refine qt_gf rfl rfl rfl (fun hg => (Ry.yl (ry_ne (ev_c hg rfl) (ev_c hg rfl)))) ?_
      refine qt_r (ry_or rfl rfl rfl) ?_
      refine qt_nil ?_
      refine ex_then ?_
      refine cw_cond rfl (fun h2 => ?_) (fun h2 => ?_)
      · try simp only [Bool.and_eq_true, Bool.or_eq_true, Bool.and_eq_false_iff, Bool.or_eq_false_iff, Bool.not_eq_true', Bool.not_eq_false', decide_eq_true_eq, decide_eq_false_iff_not, Bool.not_eq_true, Bool.not_eq_false] at h2
        refine cw_seq ?_
        refine cw_region ?_
        refine sq_r (ry_assign rfl) ?_
        refine sq_nil ?_
        refine ex_then ?_
        refine cw_ret ?_
        refine ex_pass_ret ?_
        refine ex_ret (.inl rfl) (res_1 rfl (rv_tmp rfl)) (fun w1 hw => ?_)
        exact ⟨congrArg (fun b => Ending.returned (Value.bool b)) (rfl), Keep.mem hw⟩
      · try simp only [Bool.and_eq_true, Bool.or_eq_true, Bool.and_eq_false_iff, Bool.or_eq_false_iff, Bool.not_eq_true', Bool.not_eq_false', decide_eq_true_eq, decide_eq_false_iff_not, Bool.not_eq_true, Bool.not_eq_false] at h2
        obtain ⟨⟨h2a, h2b⟩, h2c⟩ := h2
        have hb : bits = 32 ∨ bits = 128 := by apply Classical.byContradiction; intro hc; have := (buildE_arg (t := ts) (bits := bits) (fun h => hc h.2)).1; omega
        have hl : (waysF bits ts).length ≤ 512 := by apply Classical.byContradiction; intro hc; have := (buildE_full ⟨hr, hb⟩ hc).1; omega
        obtain ⟨he1, he2, he3⟩ := buildE_ok ⟨hr, hb⟩ hl
        have hd := deep_eq hb hm hl
        have hx1 : x32.bits = bits := hp32.1.trans he2
        have hx2 : x32.ns.xs = nodes bits (waysF bits ts) ts := hp32.2.trans he3
        have hnl : x32.ns.xs.length = (waysF bits ts).length := by rw [hx2, nodes_length]
        have hwk : (walkV x32.bits x32.ns.xs k) = (List.range (deepT bits ts k + 1)).map fun j => (((waysF bits ts).idxOf (wayAt k j) : Nat) : Int) := by rw [hx1, hx2]; exact walkV_eq hb hm hl h2b
        have hwl : (walkV x32.bits x32.ns.xs l) = (List.range (deepT bits ts l + 1)).map fun j => (((waysF bits ts).idxOf (wayAt l j) : Nat) : Int) := by rw [hx1, hx2]; exact walkV_eq hb hm hl h2c
        have hlk : (walkV x32.bits x32.ns.xs k).length = deepT bits ts k + 1 := by rw [hwk]; simp
        have hll : (walkV x32.bits x32.ns.xs l).length = deepT bits ts l + 1 := by rw [hwl]; simp
        have hdk := deepT_lt hb hm k
        obtain ⟨mc, hmc, hmc1, -⟩ := kcommon_spec k l
        have hrm := deepR_room hb hm
        have hne := (ways_ok (bits := bits) hm).ne
        have hdp : deepV x32.bits x32.ns.xs = deepR bits ts := by rw [hx1, hx2]; exact hd
        refine cw_skip ?_
        refine ex_then ?_
        refine cw_seq ?_
        refine cw_lin [2, 5] [[], [], [], [], [], [2], [2, 5], [2, 5]] [0, 1, 3, 4, 2, 5, 6, 7] _ (fun _ hw => hw) (by kernel_rfl) (by kernel_rfl) ?_
        refine ln_r rfl (ry_whole rfl) ?_
        refine ln_r rfl (ry_whole rfl) ?_
        refine ln_r rfl (ry_whole rfl) ?_
        refine ln_r rfl (ry_whole rfl) ?_
        refine ln_st rfl (st_callC rfl trivial fun x53 hp53 => ⟨fun _ hw => Keep.mem hw, ?_⟩)
        refine ln_st rfl (st_callC rfl trivial fun x56 hp56 => ⟨fun _ hw => Keep.mem hw, ?_⟩)
        refine ln_r rfl (ry_assign rfl) ?_
        refine ln_r rfl (ry_assign rfl) ?_
        refine ln_nil ?_
        refine ex_then ?_
        refine cw_seq ?_
        refine cw_seq ?_
        refine cw_region ?_
        refine sq_r (ry_move rfl) ?_
        refine sq_r (ry_lenH rfl) ?_
        refine sq_r (ry_int rfl rfl rfl) ?_
        refine sq_r (ry_move rfl) ?_
        refine sq_gf rfl rfl rfl (fun hg => (Ry.yl (ry_move rfl))) ?_
        refine sq_gf rfl rfl rfl (fun hg => (Ry.yl (ry_lenH (ev_c hg rfl)))) ?_
        refine sq_gf rfl rfl rfl (fun hg => (Ry.yl (ry_move rfl))) ?_
        refine sq_gf rfl rfl rfl (fun hg => (Ry.yl (ry_quo (ev_c hg rfl) rfl (by simp only [Bool.and_eq_true, Bool.or_eq_true, Bool.and_eq_false_iff, Bool.or_eq_false_iff, Bool.not_eq_true', Bool.not_eq_false', decide_eq_true_eq, decide_eq_false_iff_not, Bool.not_eq_true, Bool.not_eq_false] at hg; omega) (by simp only [Bool.and_eq_true, Bool.or_eq_true, Bool.and_eq_false_iff, Bool.or_eq_false_iff, Bool.not_eq_true', Bool.not_eq_false', decide_eq_true_eq, decide_eq_false_iff_not, Bool.not_eq_true, Bool.not_eq_false] at hg; omega)))) ?_
        refine sq_gf rfl rfl rfl (fun hg => (Ry.yl (ry_int (ev_c hg rfl) (ev_c hg rfl) rfl))) ?_
        refine sq_r (ry_or rfl rfl rfl) ?_
        refine sq_r (ry_move rfl) ?_
        refine sq_gf rfl rfl rfl (fun hg => (Ry.yl (ry_whole rfl))) ?_
        refine sq_gf rfl rfl rfl (fun hg => yl_callC (evl_cons (ev_c hg rfl) evl_nil) trivial) ?_
        refine sq_gf rfl rfl rfl (fun hg => (Ry.yl (ry_move rfl))) ?_
        refine sq_gf rfl rfl rfl (fun hg => (Ry.yl (ry_quo (ev_c hg rfl) rfl (by simp only [Bool.and_eq_true, Bool.or_eq_true, Bool.and_eq_false_iff, Bool.or_eq_false_iff, Bool.not_eq_true', Bool.not_eq_false', decide_eq_true_eq, decide_eq_false_iff_not, Bool.not_eq_true, Bool.not_eq_false] at hg; omega) (by simp only [Bool.and_eq_true, Bool.or_eq_true, Bool.and_eq_false_iff, Bool.or_eq_false_iff, Bool.not_eq_true', Bool.not_eq_false', decide_eq_true_eq, decide_eq_false_iff_not, Bool.not_eq_true, Bool.not_eq_false] at hg; omega)))) ?_
        refine sq_gf rfl rfl rfl (fun hg => (Ry.yl (ry_int (ev_c hg rfl) (ev_c hg rfl) rfl))) ?_
        refine sq_r (ry_or rfl rfl rfl) ?_
        refine sq_nil ?_
        refine ex_then ?_
        refine cw_cond rfl (fun h3 => ?_) (fun h3 => ?_)
        · exfalso; rw [hdp] at h3; simp only [Bool.or_eq_true, decide_eq_true_eq] at h3; omega
        · try simp only [Bool.and_eq_true, Bool.or_eq_true, Bool.and_eq_false_iff, Bool.or_eq_false_iff, Bool.not_eq_true', Bool.not_eq_false', decide_eq_true_eq, decide_eq_false_iff_not, Bool.not_eq_true, Bool.not_eq_false] at h3
          refine cw_skip ?_
          refine ex_then ?_
          refine cw_seq ?_
          refine cw_seq ?_
          refine cw_region ?_
          refine sq_r (ry_assign rfl) ?_
          refine sq_nil ?_
          refine ex_then ?_
          refine cw_block ?_
          refine cw_loop (X := Nat) (fun zz => [(13, .int .i64 (zz : Nat)), (0, t.val), (3, .int .i64 bits), (5, .pointer (some ⟨b5, 0, none⟩)), (6, .pointer (some ⟨b6, 0, none⟩)), (9, .pointer (some ⟨b9, 0, none⟩)), (11, x53.val), (12, x56.val)]) (fun zz => [own iec 1 x56 (walkV x32.bits x32.ns.xs l), own iec 1 x53 (walkV x32.bits x32.ns.xs k), Deep.ent x32, blk b9 (tcells x32) 86, blk b6 (kcells l) 48, blk b5 (kcells k) 48]) (fun zz => zz ≤ (walkV x32.bits x32.ns.xs k).length) (fun zz => (walkV x32.bits x32.ns.xs k).length - zz) 0 (Nat.zero_le _) (Sub.cons rfl (Sub.cons rfl (Sub.cons rfl (Sub.cons rfl (Sub.cons rfl (Sub.cons rfl (Sub.cons rfl (Sub.cons rfl (Sub.nil _))))))))) (fun w hw => Keep.mem hw) ?_
          rintro i hI
          refine cw_seq ?_
          refine cw_seq ?_
          refine cw_region ?_
          refine sq_r (ry_move rfl) ?_
          refine sq_r (ry_move rfl) ?_
          refine sq_r (ry_lenH rfl) ?_
          refine sq_r (ry_int rfl rfl rfl) ?_
          refine sq_r (ry_move rfl) ?_
          refine sq_gt rfl rfl rfl (fun hg => (Ry.yl (ry_move rfl))) ?_
          refine sq_gt rfl rfl rfl (fun hg => (Ry.yl (ry_whole rfl))) ?_
          refine sq_gt rfl rfl rfl (fun hg => (Ry.yl (ry_whole rfl))) ?_
          refine sq_gt rfl rfl rfl (fun hg => yl_callC (evl_cons (ev_c hg rfl) (evl_cons (ev_c hg rfl) evl_nil)) trivial) ?_
          refine sq_gt rfl rfl rfl (fun hg => (Ry.yl (ry_quo (ev_c hg rfl) rfl (by simp only [Bool.and_eq_true, Bool.or_eq_true, Bool.and_eq_false_iff, Bool.or_eq_false_iff, Bool.not_eq_true', Bool.not_eq_false', decide_eq_true_eq, decide_eq_false_iff_not, Bool.not_eq_true, Bool.not_eq_false] at hg; omega) (by simp only [Bool.and_eq_true, Bool.or_eq_true, Bool.and_eq_false_iff, Bool.or_eq_false_iff, Bool.not_eq_true', Bool.not_eq_false', decide_eq_true_eq, decide_eq_false_iff_not, Bool.not_eq_true, Bool.not_eq_false] at hg; omega)))) ?_
          refine sq_gt rfl rfl rfl (fun hg => (Ry.yl (ry_int (ev_c hg rfl) (ev_c hg rfl) rfl))) ?_
          refine sq_r (ry_and rfl rfl rfl) ?_
          refine sq_nil ?_
          refine ex_then ?_
          refine cw_cond rfl (fun h4 => ?_) (fun h4 => ?_)
          · try simp only [Bool.and_eq_true, Bool.or_eq_true, Bool.and_eq_false_iff, Bool.or_eq_false_iff, Bool.not_eq_true', Bool.not_eq_false', decide_eq_true_eq, decide_eq_false_iff_not, Bool.not_eq_true, Bool.not_eq_false] at h4
            refine cw_skip ?_
            refine ex_then ?_
            refine cw_seq ?_
            refine cw_block ?_
            refine cw_seq ?_
            have hik : i ≤ deepT bits ts k := by omega
            have hcw : wayAt k i = wayAt l i := way_common h4.2
            have hil : i ≤ deepT bits ts l := (deepT_iff hb hm l).1 (hcw ▸ (deepT_iff hb hm k).2 hik)
            have hxi : (walkV x32.bits x32.ns.xs k)[i]? = some (((waysF bits ts).idxOf (wayAt k i) : Nat) : Int) := by rw [hwk]; exact map_range_get (by omega)
            have hyi : (walkV x32.bits x32.ns.xs l)[i]? = some (((waysF bits ts).idxOf (wayAt l i) : Nat) : Int) := by rw [hwl]; exact map_range_get (by omega)
            refine cw_quiet (by kernel_rfl) (by kernel_rfl) ?_
            refine qt_r (ry_move rfl) ?_
            refine qt_r (ry_move rfl) ?_
            refine qt_r (ry_lenH rfl) ?_
            refine qt_r (ry_int rfl rfl rfl) ?_
            refine qt_r (ry_move rfl) ?_
            refine qt_gf rfl rfl rfl (fun hg => (Ry.yl (ry_move rfl))) ?_
            refine qt_gf rfl rfl rfl (fun hg => (Ry.yl (ry_move rfl))) ?_
            refine qt_gf rfl rfl rfl (fun hg => (Ry.yl (ry_idxH (ev_c hg rfl) (ev_c hg rfl) i rfl (by omega)))) ?_
            refine qt_gf rfl rfl rfl (fun hg => (Ry.yl (ry_elemcH (j := 0) (ev_c hg rfl) i hxi rfl (by decide)))) ?_
            refine qt_gf rfl rfl rfl (fun hg => (Ry.yl (ry_move rfl))) ?_
            refine qt_gf rfl rfl rfl (fun hg => (Ry.yl (ry_move rfl))) ?_
            refine qt_gf rfl rfl rfl (fun hg => (Ry.yl (ry_idxH (ev_c hg rfl) (ev_c hg rfl) i rfl (by omega)))) ?_
            refine qt_gf rfl rfl rfl (fun hg => (Ry.yl (ry_elemcH (j := 0) (ev_c hg rfl) i hyi rfl (by decide)))) ?_
            refine qt_gf rfl rfl rfl (fun hg => (Ry.yl (ry_int (ev_c hg rfl) (ev_c hg rfl) rfl))) ?_
            refine qt_r (ry_or rfl rfl rfl) ?_
            refine qt_nil ?_
            refine ex_then ?_
            refine cw_cond rfl (fun h5 => ?_) (fun h5 => ?_)
            · exfalso; simp only [Bool.or_eq_true, Bool.not_eq_true', decide_eq_true_eq, decide_eq_false_iff_not] at h5; rcases h5 with h5 | h5; omega; exact h5 (by rw [hcw])
            · try simp only [Bool.and_eq_true, Bool.or_eq_true, Bool.and_eq_false_iff, Bool.or_eq_false_iff, Bool.not_eq_true', Bool.not_eq_false', decide_eq_true_eq, decide_eq_false_iff_not, Bool.not_eq_true, Bool.not_eq_false] at h5
              refine cw_skip ?_
              refine ex_block ?_
              refine ex_then ?_
              refine cw_region ?_
              refine sq_r (ry_move rfl) ?_
              refine sq_r (ry_add rfl rfl (by omega)) ?_
              refine sq_r (ry_assign rfl) ?_
              refine sq_nil ?_
              exact ex_again (x := (i)) (i + 1) (by first | omega | (simp only []; omega)) (by first | omega | (simp only []; omega)) (Sub.cons rfl (Sub.cons rfl (Sub.cons rfl (Sub.cons rfl (Sub.cons rfl (Sub.cons rfl (Sub.cons rfl (Sub.cons rfl (Sub.nil _))))))))) (fun w hw => Keep.mem hw)
          · try simp only [Bool.and_eq_true, Bool.or_eq_true, Bool.and_eq_false_iff, Bool.or_eq_false_iff, Bool.not_eq_true', Bool.not_eq_false', decide_eq_true_eq, decide_eq_false_iff_not, Bool.not_eq_true, Bool.not_eq_false] at h4
            refine cw_exit ?_
            refine ex_pass_exit ?_
            refine ex_pass_exit ?_
            refine ex_block_hit ?_
            refine ex_then ?_
            refine cw_seq ?_
            refine cw_region ?_
            refine sq_r (ry_field (o' := 1) rfl rfl) ?_
            refine sq_r (ry_cellc rfl) ?_
            refine sq_r (ry_lenH rfl) ?_
            refine sq_makeS (enc := bec) (n := x32.ns.xs.length) (cap := x32.ns.xs.length) false rfl rfl rfl rfl rfl (by omega) (by omega) (by omega) fun b106 => ?_
            refine sq_r (ry_assign rfl) ?_
            refine sq_nil ?_
            refine ex_then ?_
            refine cw_seq ?_
            refine cw_region ?_
            refine sq_r (ry_move rfl) ?_
            obtain ⟨z, hz⟩ := get_some (xs := (List.replicate x32.ns.xs.length false)) (i := 0) (by simp; omega)
            refine sq_r (ry_idxH rfl rfl 0 rfl (by simp; omega)) ?_
            refine sq_stB rfl rfl hz rfl ?_
            refine sq_nil ?_
            refine ex_then ?_
            refine cw_seq ?_
            refine cw_seq ?_
            refine cw_region ?_
            refine sq_r (ry_assign rfl) ?_
            refine sq_nil ?_
            refine ex_then ?_
            refine cw_block ?_
            refine cw_loop (X := Nat × List Bool) (fun zz => [(15, .int .i64 (zz.1 : Nat)), (14, (⟨false, b106, 0, x32.ns.xs.length, x32.ns.xs.length, none⟩ : Sv).val), (0, t.val), (3, .int .i64 bits), (9, .pointer (some ⟨b9, 0, none⟩))]) (fun zz => [own bec 1 ⟨false, b106, 0, x32.ns.xs.length, x32.ns.xs.length, none⟩ zz.2, Deep.ent x32, blk b9 (tcells x32) 86, blk b6 (kcells l) 48, blk b5 (kcells k) 48]) (fun zz => zz.1 ≤ ts.length ∧ zz.2.length = x32.ns.xs.length ∧ Mk bits (waysF bits ts) (ts.take zz.1) zz.2) (fun zz => ts.length - zz.1) (0, (List.replicate x32.ns.xs.length false).set 0 true) ⟨Nat.zero_le _, by simp, Mk.start (by have := (ways_ok (bits := bits) hm).ne; omega)⟩ (Sub.cons rfl (Sub.cons rfl (Sub.cons rfl (Sub.cons rfl (Sub.cons rfl (Sub.nil _)))))) (fun w hw => Keep.mem hw) ?_
            rintro ⟨i, on⟩ ⟨hi1, hi2, hi3⟩
            dsimp only
            simp only at hi1 hi2 hi3
            refine cw_seq ?_
            refine cw_seq ?_
            refine cw_region ?_
            refine sq_r (ry_move rfl) ?_
            refine sq_r (ry_move rfl) ?_
            refine sq_r (ry_lenH rfl) ?_
            refine sq_r (ry_int rfl rfl rfl) ?_
            refine sq_nil ?_
            refine ex_then ?_
            refine cw_cond rfl (fun h6 => ?_) (fun h6 => ?_)
            · try simp only [Bool.and_eq_true, Bool.or_eq_true, Bool.and_eq_false_iff, Bool.or_eq_false_iff, Bool.not_eq_true', Bool.not_eq_false', decide_eq_true_eq, decide_eq_false_iff_not, Bool.not_eq_true, Bool.not_eq_false] at h6
              refine cw_skip ?_
              refine ex_then ?_
              refine cw_seq ?_
              refine cw_block ?_
              refine cw_seq ?_
              refine cw_region ?_
              refine sq_r (ry_move rfl) ?_
              refine sq_r (ry_move rfl) ?_
              obtain ⟨e117, he117⟩ := get_some (xs := ts) (i := i) (by omega)
              refine sq_r (ry_idxH rfl rfl i rfl (by omega)) ?_
              refine sq_r (ry_field rfl rfl) ?_
              refine sq_r (ry_field rfl rfl) ?_
              refine sq_r (ry_elemcH (j := 0) rfl i he117 rfl (by decide)) ?_
              refine sq_r (ry_move rfl) ?_
              refine sq_r (ry_int rfl rfl rfl) ?_
              refine sq_nil ?_
              refine ex_then ?_
              refine cw_cond rfl (fun h7 => ?_) (fun h7 => ?_)
              · try simp only [Bool.and_eq_true, Bool.or_eq_true, Bool.and_eq_false_iff, Bool.or_eq_false_iff, Bool.not_eq_true', Bool.not_eq_false', decide_eq_true_eq, decide_eq_false_iff_not, Bool.not_eq_true, Bool.not_eq_false] at h7
                have hme := hm _ (List.mem_of_getElem? he117)
                have hdr := deepT_lt hb hm e117.p.key
                have hwr : (walkV x32.bits x32.ns.xs e117.p.key) = (List.range (deepT bits ts e117.p.key + 1)).map fun j => (((waysF bits ts).idxOf (wayAt e117.p.key j) : Nat) : Int) := by rw [hx1, hx2]; exact walkV_eq hb hm hl (may_cut hme h7)
                have hlr : (walkV x32.bits x32.ns.xs e117.p.key).length = deepT bits ts e117.p.key + 1 := by rw [hwr]; simp
                refine cw_seq ?_
                refine cw_lin [7] [[], [], [], [], [], [], [], [], [7]] [0, 1, 2, 3, 4, 5, 6, 7, 8] _ (fun _ hw => hw) (by kernel_rfl) (by kernel_rfl) ?_
                refine ln_r rfl (ry_whole rfl) ?_
                refine ln_r rfl (ry_move rfl) ?_
                refine ln_r rfl (ry_move rfl) ?_
                refine ln_r rfl (ry_idxH rfl rfl i rfl (by omega)) ?_
                refine ln_r rfl (ry_field rfl rfl) ?_
                refine ln_r rfl (ry_field rfl rfl) ?_
                refine ln_r rfl (ry_elempH (j := 2) rfl i he117 rfl (by decide)) ?_
                refine ln_st rfl (st_callC rfl trivial fun x130 hp130 => ⟨fun _ hw => Keep.mem hw, ?_⟩)
                refine ln_r rfl (ry_assign rfl) ?_
                refine ln_nil ?_
                refine ex_then ?_
                refine cw_seq ?_
                refine cw_region ?_
                refine sq_r (ry_assign rfl) ?_
                refine sq_nil ?_
                refine ex_then ?_
                refine cw_block ?_
                refine cw_loop (X := Nat × List Bool) (fun zz => [(17, .int .i64 (zz.1 : Nat)), (14, (⟨false, b106, 0, x32.ns.xs.length, x32.ns.xs.length, none⟩ : Sv).val), (0, t.val), (3, .int .i64 bits), (9, .pointer (some ⟨b9, 0, none⟩)), (15, .int .i64 (i : Nat)), (16, x130.val)]) (fun zz => [own iec 1 x130 (walkV x32.bits x32.ns.xs e117.p.key), own bec 1 ⟨false, b106, 0, x32.ns.xs.length, x32.ns.xs.length, none⟩ zz.2, Deep.ent x32, blk b9 (tcells x32) 86, blk b6 (kcells l) 48, blk b5 (kcells k) 48]) (fun zz => zz.1 ≤ (walkV x32.bits x32.ns.xs e117.p.key).length ∧ zz.2.length = x32.ns.xs.length ∧ (Mk bits (waysF bits ts) (ts.take i) zz.2 ∧ ∀ s, s < zz.1 → zz.2[(waysF bits ts).idxOf (wayAt e117.p.key s)]? = some true)) (fun zz => (walkV x32.bits x32.ns.xs e117.p.key).length - zz.1) (0, on) ⟨Nat.zero_le _, hi2, hi3, fun s hs => absurd hs (Nat.not_lt_zero s)⟩ (Sub.cons rfl (Sub.cons rfl (Sub.cons rfl (Sub.cons rfl (Sub.cons rfl (Sub.cons rfl (Sub.cons rfl (Sub.nil _)))))))) (fun w hw => Keep.mem hw) ?_
                rintro ⟨n, on2⟩ ⟨hj1, hj2, hj3⟩
                dsimp only
                simp only at hj1 hj2 hj3
                refine cw_seq ?_
                refine cw_seq ?_
                refine cw_region ?_
                refine sq_r (ry_move rfl) ?_
                refine sq_r (ry_move rfl) ?_
                refine sq_r (ry_lenH rfl) ?_
                refine sq_r (ry_int rfl rfl rfl) ?_
                refine sq_nil ?_
                refine ex_then ?_
                refine cw_cond rfl (fun h8 => ?_) (fun h8 => ?_)
                · try simp only [Bool.and_eq_true, Bool.or_eq_true, Bool.and_eq_false_iff, Bool.or_eq_false_iff, Bool.not_eq_true', Bool.not_eq_false', decide_eq_true_eq, decide_eq_false_iff_not, Bool.not_eq_true, Bool.not_eq_false] at h8
                  have hjn : n ≤ deepT bits ts e117.p.key := by omega
                  have hwn : (walkV x32.bits x32.ns.xs e117.p.key)[n]? = some (((waysF bits ts).idxOf (wayAt e117.p.key n) : Nat) : Int) := by rw [hwr]; exact map_range_get (by omega)
                  have hidx : (waysF bits ts).idxOf (wayAt e117.p.key n) < on2.length := by rw [hj2, hnl]; exact idx_lt ((deepT_iff hb hm _).2 hjn)
                  refine cw_skip ?_
                  refine ex_then ?_
                  refine cw_seq ?_
                  refine cw_block ?_
                  refine cw_region ?_
                  refine sq_r (ry_move rfl) ?_
                  refine sq_r (ry_move rfl) ?_
                  refine sq_r (ry_move rfl) ?_
                  refine sq_r (ry_idxH rfl rfl n rfl (by omega)) ?_
                  refine sq_r (ry_elemcH (j := 0) rfl n hwn rfl (by decide)) ?_
                  obtain ⟨z, hz⟩ := get_some (xs := on2) (i := ((waysF bits ts).idxOf (wayAt e117.p.key n))) hidx
                  refine sq_r (ry_idxH rfl rfl ((waysF bits ts).idxOf (wayAt e117.p.key n)) rfl hidx) ?_
                  refine sq_stB rfl rfl hz rfl ?_
                  refine sq_nil ?_
                  refine ex_block ?_
                  refine ex_then ?_
                  refine cw_region ?_
                  refine sq_r (ry_move rfl) ?_
                  refine sq_r (ry_add rfl rfl (by omega)) ?_
                  refine sq_r (ry_assign rfl) ?_
                  refine sq_nil ?_
                  exact ex_again (x := (n, on2)) (n + 1, _) ⟨by first | omega | (simp only []; omega), by simp [hj2], hj3.1.set, fun s hs => (Nat.lt_or_ge s n).elim (fun h => set_true (hj3.2 s h)) fun h => by obtain rfl : s = n := (by first | omega | (simp only []; omega)); rw [List.getElem?_set_self hidx]⟩ (by simp only; omega) (Sub.cons rfl (Sub.cons rfl (Sub.cons rfl (Sub.cons rfl (Sub.cons rfl (Sub.cons rfl (Sub.cons rfl (Sub.nil _)))))))) (fun w hw => Keep.mem hw)
                · try simp only [Bool.and_eq_true, Bool.or_eq_true, Bool.and_eq_false_iff, Bool.or_eq_false_iff, Bool.not_eq_true', Bool.not_eq_false', decide_eq_true_eq, decide_eq_false_iff_not, Bool.not_eq_true, Bool.not_eq_false] at h8
                  refine cw_exit ?_
                  refine ex_pass_exit ?_
                  refine ex_pass_exit ?_
                  refine ex_block_hit ?_
                  refine ex_block ?_
                  refine ex_then ?_
                  refine cw_region ?_
                  refine sq_r (ry_move rfl) ?_
                  refine sq_r (ry_add rfl rfl (by omega)) ?_
                  refine sq_r (ry_assign rfl) ?_
                  refine sq_nil ?_
                  exact ex_again (x := (i, on)) (i + 1, on2) ⟨by first | omega | (simp only []; omega), hj2, by rw [take_snoc he117]; exact hj3.1.snoc fun _ s hs => hj3.2 s (by have := (deepT_iff hb hm _).1 hs; omega)⟩ (by simp only; omega) (Sub.cons rfl (Sub.cons rfl (Sub.cons rfl (Sub.cons rfl (Sub.cons rfl (Sub.nil _)))))) (fun w hw => Keep.mem hw)
              · try simp only [Bool.and_eq_true, Bool.or_eq_true, Bool.and_eq_false_iff, Bool.or_eq_false_iff, Bool.not_eq_true', Bool.not_eq_false', decide_eq_true_eq, decide_eq_false_iff_not, Bool.not_eq_true, Bool.not_eq_false] at h7
                refine cw_skip ?_
                refine ex_block ?_
                refine ex_then ?_
                refine cw_region ?_
                refine sq_r (ry_move rfl) ?_
                refine sq_r (ry_add rfl rfl (by omega)) ?_
                refine sq_r (ry_assign rfl) ?_
                refine sq_nil ?_
                exact ex_again (x := (i, on)) (i + 1, on) ⟨by first | omega | (simp only []; omega), hi2, by rw [take_snoc he117]; exact hi3.snoc fun h9 => absurd h9 h7⟩ (by simp only; omega) (Sub.cons rfl (Sub.cons rfl (Sub.cons rfl (Sub.cons rfl (Sub.cons rfl (Sub.nil _)))))) (fun w hw => Keep.mem hw)
            · try simp only [Bool.and_eq_true, Bool.or_eq_true, Bool.and_eq_false_iff, Bool.or_eq_false_iff, Bool.not_eq_true', Bool.not_eq_false', decide_eq_true_eq, decide_eq_false_iff_not, Bool.not_eq_true, Bool.not_eq_false] at h6
              refine cw_exit ?_
              refine ex_pass_exit ?_
              refine ex_pass_exit ?_
              refine ex_block_hit ?_
              refine ex_then ?_
              refine cw_seq ?_
              refine cw_seq ?_
              refine cw_region ?_
              refine sq_r (ry_assign rfl) ?_
              refine sq_nil ?_
              refine ex_then ?_
              refine cw_block ?_
              refine cw_loop (X := Nat) (fun zz => [(18, .int .i64 (zz : Nat)), (14, (⟨false, b106, 0, x32.ns.xs.length, x32.ns.xs.length, none⟩ : Sv).val)]) (fun zz => [own bec 1 ⟨false, b106, 0, x32.ns.xs.length, x32.ns.xs.length, none⟩ on, Deep.ent x32, blk b9 (tcells x32) 86, blk b6 (kcells l) 48, blk b5 (kcells k) 48]) (fun zz => zz ≤ x32.ns.xs.length) (fun zz => x32.ns.xs.length - zz) 0 (Nat.zero_le _) (Sub.cons rfl (Sub.cons rfl (Sub.nil _))) (fun w hw => Keep.mem hw) ?_
              rintro n hI
              refine cw_seq ?_
              refine cw_seq ?_
              refine cw_region ?_
              refine sq_r (ry_move rfl) ?_
              refine sq_r (ry_move rfl) ?_
              refine sq_r (ry_lenH rfl) ?_
              refine sq_r (ry_int rfl rfl rfl) ?_
              refine sq_nil ?_
              refine ex_then ?_
              refine cw_cond rfl (fun h9 => ?_) (fun h9 => ?_)
              · try simp only [Bool.and_eq_true, Bool.or_eq_true, Bool.and_eq_false_iff, Bool.or_eq_false_iff, Bool.not_eq_true', Bool.not_eq_false', decide_eq_true_eq, decide_eq_false_iff_not, Bool.not_eq_true, Bool.not_eq_false] at h9
                refine cw_skip ?_
                refine ex_then ?_
                refine cw_seq ?_
                refine cw_block ?_
                refine cw_seq ?_
                refine cw_region ?_
                refine sq_r (ry_move rfl) ?_
                refine sq_r (ry_move rfl) ?_
                obtain ⟨z, hz⟩ := get_some (xs := on) (i := n) (by omega)
                refine sq_r (ry_idxH rfl rfl n rfl (by omega)) ?_
                refine sq_r (ry_elemcH (j := 0) rfl n hz rfl (by decide)) ?_
                refine sq_r (ry_not rfl) ?_
                refine sq_nil ?_
                refine ex_then ?_
                refine cw_cond rfl (fun h10 => ?_) (fun h10 => ?_)
                · exfalso; have h8 := mark_all hm (by rw [show i = ts.length by omega, List.take_length] at hi3; exact hi3) (n := n) (by omega); rw [hz] at h8; rw [Option.some.inj h8] at h10; simp at h10
                · try simp only [Bool.and_eq_true, Bool.or_eq_true, Bool.and_eq_false_iff, Bool.or_eq_false_iff, Bool.not_eq_true', Bool.not_eq_false', decide_eq_true_eq, decide_eq_false_iff_not, Bool.not_eq_true, Bool.not_eq_false] at h10
                  refine cw_skip ?_
                  refine ex_block ?_
                  refine ex_then ?_
                  refine cw_region ?_
                  refine sq_r (ry_move rfl) ?_
                  refine sq_r (ry_add rfl rfl (by omega)) ?_
                  refine sq_r (ry_assign rfl) ?_
                  refine sq_nil ?_
                  exact ex_again (x := (n)) (n + 1) (by first | omega | (simp only []; omega)) (by first | omega | (simp only []; omega)) (Sub.cons rfl (Sub.cons rfl (Sub.nil _))) (fun w hw => Keep.mem hw)
              · try simp only [Bool.and_eq_true, Bool.or_eq_true, Bool.and_eq_false_iff, Bool.or_eq_false_iff, Bool.not_eq_true', Bool.not_eq_false', decide_eq_true_eq, decide_eq_false_iff_not, Bool.not_eq_true, Bool.not_eq_false] at h9
                refine cw_exit ?_
                refine ex_pass_exit ?_
                refine ex_pass_exit ?_
                refine ex_block_hit ?_
                refine ex_then ?_
                refine cw_seq ?_
                refine cw_region ?_
                refine sq_r (ry_assign rfl) ?_
                refine sq_nil ?_
                refine ex_then ?_
                refine cw_ret ?_
                refine ex_ret (.inl rfl) (res_1 rfl (rv_tmp rfl)) (fun w1 hw => ?_)
                exact ⟨congrArg (fun b => Ending.returned (Value.bool b)) (rfl), Keep.mem hw⟩

end Go.Proofs.Ytembaconocgmlaa
