/- Build, by the reference: walked. -/
import Derived.Test.YtembaconocgmlaaT3n
set_option linter.unusedSimpArgs false
set_option linter.unusedVariables false
namespace Go.Proofs.Ytembaconocgmlaa
open Go.Eng Go.Kb
set_option maxRecDepth 20000 in
theorem rbuild_c (w : World) (t : Sv) (ts : List Rt) (bits : Int) (ht : Lies rcells 19 (hp w) t ts) : Calls Try.prog 58 #[t.val, .int .i64 bits] w fun e w' => ∃ zz : Tri, e = .returned (.tuple #[.agg (tcells zz), .int .i64 (buildE ts bits)]) ∧ (zz.bits = buildB ts bits ∧ zz.ns.xs = buildN ts bits) ∧ Mem w [Deep.ent zz] w' := by
  have ght : Gv w t rcells 19 ts := ⟨ht⟩
  refine calls_of (args := [_, _]) Try.func58 rfl Try.ntmps58 rfl ?_
  change Cw _ _ _ _ _ [(0, t.val), (1, .int .i64 bits)] []
  refine cw_seq ?_
  refine cw_region ?_
  refine sq_allocA fun b4 => ?_
  refine sq_r (ry_assign rfl) ?_
  refine sq_nil ?_
  refine ex_then ?_
  refine cw_seq ?_
  refine cw_seq ?_
  refine cw_region ?_
  refine sq_r (ry_move rfl) ?_
  refine sq_y (yl_callC rfl trivial) ?_
  refine sq_r (ry_not rfl) ?_
  refine sq_r (ry_move rfl) ?_
  refine sq_gf rfl rfl rfl (fun hg => (Ry.yl (ry_move rfl))) ?_
  refine sq_gf rfl rfl rfl (fun hg => (Ry.yl (ry_int (ev_c hg rfl) rfl rfl))) ?_
  refine sq_gf rfl rfl rfl (fun hg => (Ry.yl (ry_move (ev_c hg rfl)))) ?_
  refine sq_nt rfl rfl rfl (fun hg => (Ry.yl (ry_move rfl))) ?_
  refine sq_nt rfl rfl rfl (fun hg => (Ry.yl (ry_int (ev_c hg rfl) rfl rfl))) ?_
  refine sq_gf rfl rfl rfl (fun hg => (Ry.yl (ry_and (ev_c hg rfl) (ev_cc hg rfl) rfl))) ?_
  refine sq_r (ry_or rfl rfl rfl) ?_
  refine sq_nil ?_
  refine ex_then ?_
  refine cw_cond rfl (fun h0 => ?_) (fun h0 => ?_)
  · try simp only [Bool.and_eq_true, Bool.or_eq_true, Bool.and_eq_false_iff, Bool.or_eq_false_iff, Bool.not_eq_true', Bool.not_eq_false', decide_eq_true_eq, decide_eq_false_iff_not, Bool.not_eq_true, Bool.not_eq_false] at h0
    have hc : ¬ (tright ts = true ∧ (bits = 32 ∨ bits = 128)) := by rintro ⟨h1, h2⟩; rcases h2 with h2 | h2 <;> simp [h1, h2] at h0
    obtain ⟨he1, he2, he3⟩ := buildE_arg hc
    refine cw_seq ?_
    refine cw_region ?_
    refine sq_r (ry_buildc rfl) ?_
    refine sq_storeW rfl rfl ?_
    refine sq_r (ry_assign rfl) ?_
    refine sq_nil ?_
    refine ex_then ?_
    refine cw_ret ?_
    refine ex_pass_ret ?_
    refine ex_ret (.inl rfl) (res_2 rfl (rv_agg rfl) (rv_tmp rfl)) (fun w1 hw => ?_)
    exact ⟨(⟨0, ⟨Sv.none, []⟩⟩ : Tri), by rw [he1], ⟨he2.symm, he3.symm⟩, Mem.nilEnt (τ := Nd) (enc := ncells) (c := 48) (Keep.mem hw : Mem w [] _)⟩
  · try simp only [Bool.and_eq_true, Bool.or_eq_true, Bool.and_eq_false_iff, Bool.or_eq_false_iff, Bool.not_eq_true', Bool.not_eq_false', decide_eq_true_eq, decide_eq_false_iff_not, Bool.not_eq_true, Bool.not_eq_false] at h0
    have hc : tright ts = true ∧ (bits = 32 ∨ bits = 128) := h0
    have hlen := tr_len hc.1
    have hm : ∀ r ∈ ts, pmay r.p = true := fun r hr => tr_may hc.1 hr
    have hW := ways_ok (bits := bits) hm
    refine cw_skip ?_
    refine ex_then ?_
    refine cw_seq ?_
    refine cw_region ?_
    refine sq_r (ry_move rfl) ?_
    refine sq_r (ry_move rfl) ?_
    refine sq_callC rfl ⟨hm, hlen⟩ fun x30 hp30 => ?_
    refine sq_r (ry_assign rfl) ?_
    refine sq_nil ?_
    refine ex_then ?_
    refine cw_seq ?_
    refine cw_seq ?_
    refine cw_region ?_
    refine sq_r (ry_move rfl) ?_
    refine sq_r (ry_lenH rfl) ?_
    refine sq_r (ry_int rfl rfl rfl) ?_
    refine sq_nil ?_
    refine ex_then ?_
    refine cw_cond rfl (fun h1 => ?_) (fun h1 => ?_)
    · try simp only [Bool.and_eq_true, Bool.or_eq_true, Bool.and_eq_false_iff, Bool.or_eq_false_iff, Bool.not_eq_true', Bool.not_eq_false', decide_eq_true_eq, decide_eq_false_iff_not, Bool.not_eq_true, Bool.not_eq_false] at h1
      obtain ⟨he1, he2, he3⟩ := buildE_full hc (by omega)
      refine cw_seq ?_
      refine cw_region ?_
      refine sq_r (ry_buildc rfl) ?_
      refine sq_storeW rfl rfl ?_
      refine sq_r (ry_assign rfl) ?_
      refine sq_nil ?_
      refine ex_then ?_
      refine cw_ret ?_
      refine ex_pass_ret ?_
      refine ex_ret (.inl rfl) (res_2 rfl (rv_agg rfl) (rv_tmp rfl)) (fun w1 hw => ?_)
      exact ⟨(⟨0, ⟨Sv.none, []⟩⟩ : Tri), by rw [he1], ⟨he2.symm, he3.symm⟩, Mem.nilEnt (τ := Nd) (enc := ncells) (c := 48) (Keep.mem hw : Mem w [] _)⟩
    · try simp only [Bool.and_eq_true, Bool.or_eq_true, Bool.and_eq_false_iff, Bool.or_eq_false_iff, Bool.not_eq_true', Bool.not_eq_false', decide_eq_true_eq, decide_eq_false_iff_not, Bool.not_eq_true, Bool.not_eq_false] at h1
      have hl : (waysF bits ts).length ≤ 512 := by omega
      obtain ⟨he1, he2, he3⟩ := buildE_ok hc hl
      refine cw_skip ?_
      refine ex_then ?_
      refine cw_seq ?_
      refine cw_region ?_
      refine sq_r (ry_move rfl) ?_
      refine sq_r (ry_buildc rfl) ?_
      refine sq_allocA fun b7 => ?_
      refine sq_storeW rfl rfl ?_
      refine sq_nil ?_
      refine ex_then ?_
      refine cw_seq ?_
      refine cw_seq ?_
      refine cw_region ?_
      refine sq_r (ry_assign rfl) ?_
      refine sq_nil ?_
      refine ex_then ?_
      refine cw_block ?_
      refine cw_loop (X := Nat × Sv) (fun zz => [(8, .int .i64 (zz.1 : Nat)), (7, .pointer (some ⟨b7, 0, none⟩)), (0, t.val), (1, .int .i64 bits), (4, .pointer (some ⟨b4, 0, none⟩)), (6, x30.val)]) (fun zz => [own ncells 48 zz.2 (((waysF bits ts).take zz.1).map (nodeF bits (waysF bits ts) ts)), blk b7 (tcells ⟨bits, ⟨zz.2, []⟩⟩) 86, own wcells 17 x30 (waysF bits ts), blk b4 (tcells (⟨0, ⟨Sv.none, []⟩⟩ : Tri)) 86]) (fun zz => zz.1 ≤ (waysF bits ts).length) (fun zz => (waysF bits ts).length - zz.1) (0, Sv.none) (Nat.zero_le _) (Sub.cons rfl (Sub.cons rfl (Sub.cons rfl (Sub.cons rfl (Sub.cons rfl (Sub.cons rfl (Sub.nil _))))))) (fun w hw => Mem.nilOwn ncells 48 (Keep.mem hw : Mem _ [blk b7 (tcells ⟨bits, ⟨Sv.none, []⟩⟩) 86, own wcells 17 x30 (waysF bits ts), blk b4 (tcells (⟨0, ⟨Sv.none, []⟩⟩ : Tri)) 86] _)) ?_
      rintro ⟨n, s1⟩ hn
      dsimp only
      simp only at hn
      refine cw_seq ?_
      refine cw_seq ?_
      refine cw_region ?_
      refine sq_r (ry_move rfl) ?_
      refine sq_r (ry_move rfl) ?_
      refine sq_r (ry_lenH rfl) ?_
      refine sq_r (ry_int rfl rfl rfl) ?_
      refine sq_nil ?_
      refine ex_then ?_
      refine cw_cond rfl (fun h2 => ?_) (fun h2 => ?_)
      · try simp only [Bool.and_eq_true, Bool.or_eq_true, Bool.and_eq_false_iff, Bool.or_eq_false_iff, Bool.not_eq_true', Bool.not_eq_false', decide_eq_true_eq, decide_eq_false_iff_not, Bool.not_eq_true, Bool.not_eq_false] at h2
        refine cw_skip ?_
        refine ex_then ?_
        refine cw_seq ?_
        refine cw_block ?_
        refine cw_seq ?_
        refine cw_region ?_
        refine sq_r (ry_move rfl) ?_
        refine sq_r (ry_move rfl) ?_
        obtain ⟨wy, hwy⟩ := get_some (xs := (waysF bits ts)) (i := n) (by omega)
        refine sq_r (ry_idxH rfl rfl n rfl (by omega)) ?_
        have hwk := hW.ok wy (List.mem_of_getElem? hwy)
        have hwk1 := hwk.1
        refine sq_r (ry_elemH rfl n hwy rfl) ?_
        refine sq_allocA fun b9 => ?_
        refine sq_storeW rfl rfl ?_
        refine sq_nil ?_
        refine ex_then ?_
        refine cw_seq ?_
        refine cw_region ?_
        refine sq_allocA fun b10 => ?_
        refine sq_nil ?_
        refine ex_then ?_
        refine cw_seq ?_
        refine cw_seq ?_
        refine cw_region ?_
        refine sq_r (ry_assign rfl) ?_
        refine sq_nil ?_
        refine ex_then ?_
        refine cw_block ?_
        refine cw_loop (X := Nat) (fun zz => [(11, .int .i64 (zz : Nat)), (10, .pointer (some ⟨b10, 0, none⟩)), (0, t.val), (1, .int .i64 bits), (4, .pointer (some ⟨b4, 0, none⟩)), (6, x30.val), (7, .pointer (some ⟨b7, 0, none⟩)), (8, .int .i64 (n : Nat)), (9, .pointer (some ⟨b9, 0, none⟩))]) (fun zz => [blk b10 (ncells (nodeB bits (waysF bits ts) ts wy zz)) 28, blk b9 (wcells wy) 128, own ncells 48 s1 (((waysF bits ts).take n).map (nodeF bits (waysF bits ts) ts)), blk b7 (tcells ⟨bits, ⟨s1, []⟩⟩) 86, own wcells 17 x30 (waysF bits ts), blk b4 (tcells (⟨0, ⟨Sv.none, []⟩⟩ : Tri)) 86]) (fun zz => zz ≤ 16) (fun zz => 16 - zz) 0 (Nat.zero_le _) (Sub.cons rfl (Sub.cons rfl (Sub.cons rfl (Sub.cons rfl (Sub.cons rfl (Sub.cons rfl (Sub.cons rfl (Sub.cons rfl (Sub.cons rfl (Sub.nil _)))))))))) (fun w hw => by rw [nodeB_zero]; exact Keep.mem hw) ?_
        rintro c hI
        refine cw_seq ?_
        refine cw_seq ?_
        refine cw_region ?_
        refine sq_r (ry_move rfl) ?_
        refine sq_r (ry_int rfl rfl rfl) ?_
        refine sq_nil ?_
        refine ex_then ?_
        refine cw_cond rfl (fun h3 => ?_) (fun h3 => ?_)
        · try simp only [Bool.and_eq_true, Bool.or_eq_true, Bool.and_eq_false_iff, Bool.or_eq_false_iff, Bool.not_eq_true', Bool.not_eq_false', decide_eq_true_eq, decide_eq_false_iff_not, Bool.not_eq_true, Bool.not_eq_false] at h3
          refine cw_skip ?_
          refine ex_then ?_
          refine cw_seq ?_
          refine cw_block ?_
          refine cw_seq ?_
          refine cw_region ?_
          refine sq_r (ry_field (o' := 1) rfl rfl) ?_
          refine sq_r (ry_part rfl) ?_
          refine sq_r (ry_field (o' := 0) rfl rfl) ?_
          refine sq_r (ry_cellc rfl) ?_
          refine sq_r (ry_move rfl) ?_
          refine sq_y (yl_callC rfl ⟨by omega, by omega⟩) ?_
          refine sq_allocA fun b12 => ?_
          refine sq_storeW rfl rfl ?_
          refine sq_nil ?_
          refine ex_then ?_
          refine cw_seq ?_
          refine cw_seq ?_
          refine cw_region ?_
          refine sq_r (ry_assign rfl) ?_
          refine sq_nil ?_
          refine ex_then ?_
          refine cw_block ?_
          refine cw_loop (X := Nat) (fun zz => [(13, .int .i64 (zz : Nat)), (10, .pointer (some ⟨b10, 0, none⟩)), (0, t.val), (1, .int .i64 bits), (4, .pointer (some ⟨b4, 0, none⟩)), (6, x30.val), (7, .pointer (some ⟨b7, 0, none⟩)), (8, .int .i64 (n : Nat)), (9, .pointer (some ⟨b9, 0, none⟩)), (11, .int .i64 (c : Nat)), (12, .pointer (some ⟨b12, 0, none⟩))]) (fun zz => [blk b12 (kcells (rset wy.key wy.steps c)) 48, blk b10 (ncells ((nodeB bits (waysF bits ts) ts wy c).setSl c (slotF bits (ts.take zz) wy c))) 28, blk b9 (wcells wy) 128, own ncells 48 s1 (((waysF bits ts).take n).map (nodeF bits (waysF bits ts) ts)), blk b7 (tcells ⟨bits, ⟨s1, []⟩⟩) 86, own wcells 17 x30 (waysF bits ts), blk b4 (tcells (⟨0, ⟨Sv.none, []⟩⟩ : Tri)) 86]) (fun zz => zz ≤ ts.length) (fun zz => ts.length - zz) 0 (Nat.zero_le _) (Sub.cons rfl (Sub.cons rfl (Sub.cons rfl (Sub.cons rfl (Sub.cons rfl (Sub.cons rfl (Sub.cons rfl (Sub.cons rfl (Sub.cons rfl (Sub.cons rfl (Sub.cons rfl (Sub.nil _)))))))))))) (fun w hw => by rw [List.take_zero, nodeB_start (by omega)]; exact Keep.mem hw) ?_
          rintro i hI
          refine cw_seq ?_
          refine cw_seq ?_
          refine cw_region ?_
          refine sq_r (ry_move rfl) ?_
          refine sq_r (ry_move rfl) ?_
          refine sq_r (ry_lenH rfl) ?_
          refine sq_r (ry_int rfl rfl rfl) ?_
          refine sq_nil ?_
          refine ex_then ?_
          refine cw_cond rfl (fun h4 => ?_) (fun h4 => ?_)
          · try simp only [Bool.and_eq_true, Bool.or_eq_true, Bool.and_eq_false_iff, Bool.or_eq_false_iff, Bool.not_eq_true', Bool.not_eq_false', decide_eq_true_eq, decide_eq_false_iff_not, Bool.not_eq_true, Bool.not_eq_false] at h4
            refine cw_skip ?_
            refine ex_then ?_
            refine cw_seq ?_
            refine cw_block ?_
            refine cw_seq ?_
            refine cw_region ?_
            refine sq_r (ry_move rfl) ?_
            refine sq_r (ry_move rfl) ?_
            obtain ⟨e, he⟩ := get_some (xs := ts) (i := i) (by omega)
            refine sq_r (ry_idxH rfl rfl i rfl (by omega)) ?_
            have hme := hm _ (List.mem_of_getElem? he)
            obtain ⟨hq1, hq2, hq3, hq4⟩ := (pmay_iff _).1 hme
            refine sq_r (ry_field rfl rfl) ?_
            refine sq_r (ry_elempH (j := 0) rfl i he rfl (by decide)) ?_
            refine sq_allocA fun b14 => ?_
            refine sq_storeW rfl rfl ?_
            refine sq_nil ?_
            refine ex_then ?_
            refine cw_seq ?_
            refine cw_quiet (by kernel_rfl) (by kernel_rfl) ?_
            refine qt_r (ry_field (o' := 0) rfl rfl) ?_
            refine qt_r (ry_cellc rfl) ?_
            refine qt_r (ry_move rfl) ?_
            refine qt_r (ry_int rfl rfl rfl) ?_
            refine qt_r (ry_move rfl) ?_
            refine qt_gt rfl rfl rfl (fun hg => (Ry.yl (ry_whole rfl))) ?_
            refine qt_gt rfl rfl rfl (fun hg => yl_callC (evl_cons (ev_c hg rfl) evl_nil) (by simp only [Bool.and_eq_true, Bool.or_eq_true, Bool.and_eq_false_iff, Bool.or_eq_false_iff, Bool.not_eq_true', Bool.not_eq_false', decide_eq_true_eq, decide_eq_false_iff_not, Bool.not_eq_true, Bool.not_eq_false] at hg; omega)) ?_
            refine qt_gt rfl rfl rfl (fun hg => (Ry.yl (ry_field (o' := 0) rfl rfl))) ?_
            refine qt_gt rfl rfl rfl (fun hg => (Ry.yl (ry_cellc (ev_c hg rfl)))) ?_
            refine qt_gt rfl rfl rfl (fun hg => (Ry.yl (ry_int (ev_c hg rfl) (ev_c hg rfl) rfl))) ?_
            refine qt_r (ry_and rfl rfl rfl) ?_
            refine qt_r (ry_move rfl) ?_
            refine qt_gt rfl rfl rfl (fun hg => (Ry.yl (ry_whole rfl))) ?_
            refine qt_gt rfl rfl rfl (fun hg => (Ry.yl (ry_whole rfl))) ?_
            refine qt_gt rfl rfl rfl (fun hg => yl_callC (evl_cons (ev_c hg rfl) (evl_cons (ev_c hg rfl) evl_nil)) trivial) ?_
            refine qt_r (ry_and rfl rfl rfl) ?_
            refine qt_r (ry_move rfl) ?_
            refine qt_gt rfl rfl rfl (fun hg => (Ry.yl (ry_field (o' := 1) rfl rfl))) ?_
            refine qt_gt rfl rfl rfl (fun hg => (Ry.yl (ry_cellc (ev_c hg rfl)))) ?_
            refine qt_gt rfl rfl rfl (fun hg => (Ry.yl (ry_move rfl))) ?_
            refine qt_gt rfl rfl rfl (fun hg => (Ry.yl (ry_field (o' := 0) rfl rfl))) ?_
            refine qt_gt rfl rfl rfl (fun hg => (Ry.yl (ry_idxA (ev_c hg rfl) (ev_c hg rfl) (by simp only [Bool.and_eq_true, Bool.or_eq_true, Bool.and_eq_false_iff, Bool.or_eq_false_iff, Bool.not_eq_true', Bool.not_eq_false', decide_eq_true_eq, decide_eq_false_iff_not, Bool.not_eq_true, Bool.not_eq_false] at hg; omega) (by simp only [Bool.and_eq_true, Bool.or_eq_true, Bool.and_eq_false_iff, Bool.or_eq_false_iff, Bool.not_eq_true', Bool.not_eq_false', decide_eq_true_eq, decide_eq_false_iff_not, Bool.not_eq_true, Bool.not_eq_false] at hg; omega)))) ?_
            refine qt_gt rfl rfl rfl (fun hg => (Ry.yl (ry_field (ev_c hg rfl) rfl))) ?_
            refine qt_gt rfl rfl rfl (fun hg => (Ry.yl (ry_bslen (ev_c hg rfl) c (by simp only [Bool.and_eq_true, Bool.or_eq_true, Bool.and_eq_false_iff, Bool.or_eq_false_iff, Bool.not_eq_true', Bool.not_eq_false', decide_eq_true_eq, decide_eq_false_iff_not, Bool.not_eq_true, Bool.not_eq_false] at hg; omega) (by simp only [Nat.add_eq, Int.toNat_natCast, Nat.mul_one, Nat.zero_add, Nat.add_zero] <;> omega)))) ?_
            refine qt_gt rfl rfl rfl (fun hg => (Ry.yl (ry_int (ev_c hg rfl) (ev_c hg rfl) rfl))) ?_
            refine qt_r (ry_and rfl rfl rfl) ?_
            refine qt_nil ?_
            refine ex_then ?_
            refine cw_cond rfl (fun h5 => ?_) (fun h5 => ?_)
            · try simp only [Bool.and_eq_true, Bool.or_eq_true, Bool.and_eq_false_iff, Bool.or_eq_false_iff, Bool.not_eq_true', Bool.not_eq_false', decide_eq_true_eq, decide_eq_false_iff_not, Bool.not_eq_true, Bool.not_eq_false] at h5
              refine cw_lin [12] [[], [], [], [], [], [], [], [], [], [], [], [], []] [0, 1, 2, 3, 4, 5, 6, 7, 8, 9, 10, 11, 12] [blk b14 (pcells e.p) 50] (fun _ hw => Keep.mem hw) (by kernel_rfl) (by kernel_rfl) ?_
              refine ln_r rfl (ry_move rfl) ?_
              refine ln_r rfl (ry_field (o' := 1) rfl rfl) ?_
              refine ln_r rfl (ry_cellc rfl) ?_
              refine ln_r rfl (ry_add rfl rfl (by omega)) ?_
              refine ln_r rfl (ry_move rfl) ?_
              refine ln_r rfl (ry_move rfl) ?_
              refine ln_r rfl (ry_idxH rfl rfl i rfl (by omega)) ?_
              refine ln_r rfl (ry_field rfl rfl) ?_
              refine ln_r rfl (ry_elemcH (j := 18) rfl i he rfl (by decide)) ?_
              refine ln_r rfl (ry_buildc rfl) ?_
              refine ln_r rfl (ry_field (o' := 0) rfl rfl) ?_
              refine ln_r rfl (ry_idxA rfl rfl (by omega) (by omega)) ?_
              refine ln_st rfl (st_bstSl rfl rfl c (by omega) (by simp only [Nat.add_eq, Int.toNat_natCast, Nat.mul_one, Nat.zero_add, Nat.add_zero] <;> omega) ⟨fun _ hw => Keep.mem hw, ?_⟩)
              refine ln_nil ?_
              refine ex_block ?_
              refine ex_then ?_
              refine cw_region ?_
              refine sq_r (ry_move rfl) ?_
              refine sq_r (ry_add rfl rfl (by omega)) ?_
              refine sq_r (ry_assign rfl) ?_
              refine sq_nil ?_
              have hsu : hit e bits wy c = true ∧ (slotF bits (ts.take i) wy c).len ≤ e.p.len := by rw [Nd.sl_set (by omega), if_pos rfl] at h5; simp only [hit, Bool.and_eq_true, decide_eq_true_eq]; exact ⟨⟨⟨h5.1.1.1, by omega⟩, h5.1.2⟩, h5.2⟩
              exact ex_again (x := (i)) (i + 1) (by first | omega | (simp only []; omega)) (by first | omega | (simp only []; omega)) (Sub.cons rfl (Sub.cons rfl (Sub.cons rfl (Sub.cons rfl (Sub.cons rfl (Sub.cons rfl (Sub.cons rfl (Sub.cons rfl (Sub.cons rfl (Sub.cons rfl (Sub.cons rfl (Sub.nil _)))))))))))) (fun w hw => by rw [setSl_setSl (by omega)] at hw; rw [take_snoc he, slotF_snoc, slotUp, if_pos hsu]; exact Keep.mem hw)
            · try simp only [Bool.and_eq_true, Bool.or_eq_true, Bool.and_eq_false_iff, Bool.or_eq_false_iff, Bool.not_eq_true', Bool.not_eq_false', decide_eq_true_eq, decide_eq_false_iff_not, Bool.not_eq_true, Bool.not_eq_false] at h5
              refine cw_skip ?_
              refine ex_block ?_
              refine ex_then ?_
              refine cw_region ?_
              refine sq_r (ry_move rfl) ?_
              refine sq_r (ry_add rfl rfl (by omega)) ?_
              refine sq_r (ry_assign rfl) ?_
              refine sq_nil ?_
              have hsu : ¬ (hit e bits wy c = true ∧ (slotF bits (ts.take i) wy c).len ≤ e.p.len) := by rw [Nd.sl_set (by omega), if_pos rfl] at h5; simp only [hit, Bool.and_eq_true, decide_eq_true_eq]; rintro ⟨⟨⟨g1, g2⟩, g3⟩, g4⟩; rw [g1, g3] at h5; simp at h5; omega
              exact ex_again (x := (i)) (i + 1) (by first | omega | (simp only []; omega)) (by first | omega | (simp only []; omega)) (Sub.cons rfl (Sub.cons rfl (Sub.cons rfl (Sub.cons rfl (Sub.cons rfl (Sub.cons rfl (Sub.cons rfl (Sub.cons rfl (Sub.cons rfl (Sub.cons rfl (Sub.cons rfl (Sub.nil _)))))))))))) (fun w hw => by rw [take_snoc he, slotF_snoc, slotUp, if_neg hsu]; exact Keep.mem hw)
          · try simp only [Bool.and_eq_true, Bool.or_eq_true, Bool.and_eq_false_iff, Bool.or_eq_false_iff, Bool.not_eq_true', Bool.not_eq_false', decide_eq_true_eq, decide_eq_false_iff_not, Bool.not_eq_true, Bool.not_eq_false] at h4
            refine cw_exit ?_
            refine ex_pass_exit ?_
            refine ex_pass_exit ?_
            refine ex_block_hit ?_
            refine ex_then ?_
            refine cw_seq ?_
            refine cw_region ?_
            refine sq_r (ry_assign rfl) ?_
            refine sq_nil ?_
            refine ex_then ?_
            refine cw_block ?_
            refine cw_loop (X := Nat) (fun zz => [(15, .int .i64 (zz : Nat)), (10, .pointer (some ⟨b10, 0, none⟩)), (0, t.val), (1, .int .i64 bits), (4, .pointer (some ⟨b4, 0, none⟩)), (6, x30.val), (7, .pointer (some ⟨b7, 0, none⟩)), (8, .int .i64 (n : Nat)), (9, .pointer (some ⟨b9, 0, none⟩)), (11, .int .i64 (c : Nat)), (12, .pointer (some ⟨b12, 0, none⟩))]) (fun zz => [blk b12 (kcells (rset wy.key wy.steps c)) 48, blk b10 (ncells (((nodeB bits (waysF bits ts) ts wy c).setSl c (slotF bits ts wy c)).setNx c (nextG (waysF bits ts) wy c zz))) 28, blk b9 (wcells wy) 128, own ncells 48 s1 (((waysF bits ts).take n).map (nodeF bits (waysF bits ts) ts)), blk b7 (tcells ⟨bits, ⟨s1, []⟩⟩) 86, own wcells 17 x30 (waysF bits ts), blk b4 (tcells (⟨0, ⟨Sv.none, []⟩⟩ : Tri)) 86]) (fun zz => 1 ≤ zz ∧ zz ≤ (waysF bits ts).length) (fun zz => (waysF bits ts).length - zz) 1 ⟨Nat.le_refl _, hW.ne⟩ (Sub.cons rfl (Sub.cons rfl (Sub.cons rfl (Sub.cons rfl (Sub.cons rfl (Sub.cons rfl (Sub.cons rfl (Sub.cons rfl (Sub.cons rfl (Sub.cons rfl (Sub.cons rfl (Sub.nil _)))))))))))) (fun w hw => by rw [List.take_of_length_le (by omega)] at hw; rw [nodeB_next hW (by omega)]; exact Keep.mem hw) ?_
            rintro m hI
            refine cw_seq ?_
            refine cw_seq ?_
            refine cw_region ?_
            refine sq_r (ry_move rfl) ?_
            refine sq_r (ry_move rfl) ?_
            refine sq_r (ry_lenH rfl) ?_
            refine sq_r (ry_int rfl rfl rfl) ?_
            refine sq_nil ?_
            refine ex_then ?_
            refine cw_cond rfl (fun h6 => ?_) (fun h6 => ?_)
            · try simp only [Bool.and_eq_true, Bool.or_eq_true, Bool.and_eq_false_iff, Bool.or_eq_false_iff, Bool.not_eq_true', Bool.not_eq_false', decide_eq_true_eq, decide_eq_false_iff_not, Bool.not_eq_true, Bool.not_eq_false] at h6
              refine cw_skip ?_
              refine ex_then ?_
              refine cw_seq ?_
              refine cw_block ?_
              refine cw_seq ?_
              refine cw_quiet (by kernel_rfl) (by kernel_rfl) ?_
              refine qt_r (ry_move rfl) ?_
              refine qt_r (ry_move rfl) ?_
              obtain ⟨v, hv⟩ := get_some (xs := (waysF bits ts)) (i := m) (by omega)
              refine qt_r (ry_idxH rfl rfl m rfl (by omega)) ?_
              refine qt_r (ry_field rfl rfl) ?_
              refine qt_r (ry_elemcH (j := 0) rfl m hv rfl (by decide)) ?_
              refine qt_r (ry_field (o' := 0) rfl rfl) ?_
              refine qt_r (ry_cellc rfl) ?_
              refine qt_r (ry_add rfl rfl (by omega)) ?_
              refine qt_r (ry_int rfl rfl rfl) ?_
              refine qt_r (ry_move rfl) ?_
              refine qt_gt rfl rfl rfl (fun hg => (Ry.yl (ry_move rfl))) ?_
              refine qt_gt rfl rfl rfl (fun hg => (Ry.yl (ry_move rfl))) ?_
              refine qt_gt rfl rfl rfl (fun hg => (Ry.yl (ry_idxH (ev_c hg rfl) (ev_c hg rfl) m rfl (by simp only [Bool.and_eq_true, Bool.or_eq_true, Bool.and_eq_false_iff, Bool.or_eq_false_iff, Bool.not_eq_true', Bool.not_eq_false', decide_eq_true_eq, decide_eq_false_iff_not, Bool.not_eq_true, Bool.not_eq_false] at hg; omega)))) ?_
              refine qt_gt rfl rfl rfl (fun hg => (Ry.yl (ry_field (ev_c hg rfl) rfl))) ?_
              refine qt_gt rfl rfl rfl (fun hg => (Ry.yl (ry_elempH (j := 1) (ev_c hg rfl) m hv rfl (by decide)))) ?_
              refine qt_gt rfl rfl rfl (fun hg => (Ry.yl (ry_whole rfl))) ?_
              refine qt_gt rfl rfl rfl (fun hg => (Ry.yl (ry_eq (ev_c hg rfl) (ev_c hg rfl)))) ?_
              refine qt_r (ry_and rfl rfl rfl) ?_
              refine qt_nil ?_
              refine ex_then ?_
              refine cw_cond rfl (fun h7 => ?_) (fun h7 => ?_)
              · try simp only [Bool.and_eq_true, Bool.or_eq_true, Bool.and_eq_false_iff, Bool.or_eq_false_iff, Bool.not_eq_true', Bool.not_eq_false', decide_eq_true_eq, decide_eq_false_iff_not, Bool.not_eq_true, Bool.not_eq_false] at h7
                refine cw_region ?_
                refine sq_r (ry_move rfl) ?_
                refine sq_r (ry_move rfl) ?_
                refine sq_r (ry_field (o' := 32) rfl rfl) ?_
                refine sq_r (ry_idxA rfl rfl (by omega) (by omega)) ?_
                refine sq_bstNx rfl rfl c (by omega) (by simp only [Nat.add_eq, Int.toNat_natCast, Nat.mul_one, Nat.zero_add, Nat.add_zero] <;> omega) ?_
                refine sq_nil ?_
                refine ex_block ?_
                refine ex_then ?_
                refine cw_region ?_
                refine sq_r (ry_move rfl) ?_
                refine sq_r (ry_add rfl rfl (by omega)) ?_
                refine sq_r (ry_assign rfl) ?_
                refine sq_nil ?_
                exact ex_again (x := (m)) (m + 1) ⟨by first | omega | (simp only []; omega), by first | omega | (simp only []; omega)⟩ (by first | omega | (simp only []; omega)) (Sub.cons rfl (Sub.cons rfl (Sub.cons rfl (Sub.cons rfl (Sub.cons rfl (Sub.cons rfl (Sub.cons rfl (Sub.cons rfl (Sub.cons rfl (Sub.cons rfl (Sub.cons rfl (Sub.nil _)))))))))))) (fun w hw => by rw [setNx_setNx (by omega)] at hw; rw [nextG_succ hW hv, if_pos ⟨by omega, h7.2⟩]; exact Keep.mem hw)
              · try simp only [Bool.and_eq_true, Bool.or_eq_true, Bool.and_eq_false_iff, Bool.or_eq_false_iff, Bool.not_eq_true', Bool.not_eq_false', decide_eq_true_eq, decide_eq_false_iff_not, Bool.not_eq_true, Bool.not_eq_false] at h7
                refine cw_skip ?_
                refine ex_block ?_
                refine ex_then ?_
                refine cw_region ?_
                refine sq_r (ry_move rfl) ?_
                refine sq_r (ry_add rfl rfl (by omega)) ?_
                refine sq_r (ry_assign rfl) ?_
                refine sq_nil ?_
                exact ex_again (x := (m)) (m + 1) ⟨by first | omega | (simp only []; omega), by first | omega | (simp only []; omega)⟩ (by first | omega | (simp only []; omega)) (Sub.cons rfl (Sub.cons rfl (Sub.cons rfl (Sub.cons rfl (Sub.cons rfl (Sub.cons rfl (Sub.cons rfl (Sub.cons rfl (Sub.cons rfl (Sub.cons rfl (Sub.cons rfl (Sub.nil _)))))))))))) (fun w hw => by rw [nextG_succ hW hv, if_neg (by rintro ⟨g1, g2⟩; rcases h7 with h | h; (exact h (by omega)); (exact h g2))]; exact Keep.mem hw)
            · try simp only [Bool.and_eq_true, Bool.or_eq_true, Bool.and_eq_false_iff, Bool.or_eq_false_iff, Bool.not_eq_true', Bool.not_eq_false', decide_eq_true_eq, decide_eq_false_iff_not, Bool.not_eq_true, Bool.not_eq_false] at h6
              refine cw_exit ?_
              refine ex_pass_exit ?_
              refine ex_pass_exit ?_
              refine ex_block_hit ?_
              refine ex_block ?_
              refine ex_then ?_
              refine cw_region ?_
              refine sq_r (ry_move rfl) ?_
              refine sq_r (ry_add rfl rfl (by omega)) ?_
              refine sq_r (ry_assign rfl) ?_
              refine sq_nil ?_
              exact ex_again (x := (c)) (c + 1) (by first | omega | (simp only []; omega)) (by first | omega | (simp only []; omega)) (Sub.cons rfl (Sub.cons rfl (Sub.cons rfl (Sub.cons rfl (Sub.cons rfl (Sub.cons rfl (Sub.cons rfl (Sub.cons rfl (Sub.cons rfl (Sub.nil _)))))))))) (fun w hw => by rw [nextG_all (by omega), nodeB_succ (by omega)] at hw; exact Keep.mem hw)
        · try simp only [Bool.and_eq_true, Bool.or_eq_true, Bool.and_eq_false_iff, Bool.or_eq_false_iff, Bool.not_eq_true', Bool.not_eq_false', decide_eq_true_eq, decide_eq_false_iff_not, Bool.not_eq_true, Bool.not_eq_false] at h3
          obtain rfl : c = 16 := by omega
          refine cw_exit ?_
          refine ex_pass_exit ?_
          refine ex_pass_exit ?_
          refine ex_block_hit ?_
          refine ex_then ?_
          refine cw_region ?_
          refine sq_r (ry_field (o' := 1) rfl rfl) ?_
          refine sq_r (ry_cellc rfl) ?_
          refine sq_r (ry_whole rfl) ?_
          refine sq_buildSlice (enc := ncells) (vals := [_]) [(nodeB bits (waysF bits ts) ts wy 16)] rfl rfl rfl (by decide) (by decide) fun b137 => ?_
          refine sq_append (s := s1) (ys := [(nodeB bits (waysF bits ts) ts wy 16)]) rfl rfl (by decide) (fun w hw => src_rows (s := ⟨false, b137, 0, 1, 1, none⟩) Try.underlying38 (by decide) ((inferInstance : Hd _ _ ⟨false, b137, 0, 1, 1, none⟩ ncells 48 [(nodeB bits (waysF bits ts) ts wy 16)]).h w hw)) (by simp only [List.length_map, List.length_take, List.length_cons, List.length_nil]; omega) (by simp only [List.length_map, List.length_take, List.length_cons, List.length_nil]; omega) fun s138 hs138 hl138 => ?_
          refine sq_r (ry_field (o' := 1) rfl rfl) ?_
          refine sq_store (cs' := tcells (⟨bits, ⟨s138, []⟩⟩ : Tri)) rfl rfl (by show 1 < 2; decide) (by first | rfl | exact Sv.one _) rfl ?_
          refine sq_nil ?_
          refine ex_block ?_
          refine ex_then ?_
          refine cw_region ?_
          refine sq_r (ry_move rfl) ?_
          refine sq_r (ry_add rfl rfl (by omega)) ?_
          refine sq_r (ry_assign rfl) ?_
          refine sq_nil ?_
          exact ex_again (x := (n, s1)) (n + 1, s138) (by simp only; omega) (by simp only; omega) (Sub.cons rfl (Sub.cons rfl (Sub.cons rfl (Sub.cons rfl (Sub.cons rfl (Sub.cons rfl (Sub.nil _))))))) (fun w hw => by rw [take_snoc hwy, List.map_append, List.map_singleton, ← nodeB_all]; exact Keep.mem hw)
      · try simp only [Bool.and_eq_true, Bool.or_eq_true, Bool.and_eq_false_iff, Bool.or_eq_false_iff, Bool.not_eq_true', Bool.not_eq_false', decide_eq_true_eq, decide_eq_false_iff_not, Bool.not_eq_true, Bool.not_eq_false] at h2
        refine cw_exit ?_
        refine ex_pass_exit ?_
        refine ex_pass_exit ?_
        refine ex_block_hit ?_
        refine ex_then ?_
        refine cw_seq ?_
        refine cw_region ?_
        refine sq_r (ry_whole rfl) ?_
        refine sq_storeW rfl rfl ?_
        refine sq_r (ry_assign rfl) ?_
        refine sq_nil ?_
        refine ex_then ?_
        refine cw_ret ?_
        refine ex_ret (.inl rfl) (res_2 rfl (rv_agg rfl) (rv_tmp rfl)) (fun w1 hw => ?_)
        obtain rfl : n = (waysF bits ts).length := by omega
        rw [List.take_length] at hw
        exact ⟨⟨bits, ⟨s1, nodes bits (waysF bits ts) ts⟩⟩, by rw [he1]; rfl, ⟨he2.symm, he3.symm⟩, (Tr.shut_p (a := (⟨s1, nodes bits (waysF bits ts) ts⟩ : Sl Nd))).mem (Keep.mem hw : Mem w [own ncells 48 s1 ((waysF bits ts).map (nodeF bits (waysF bits ts) ts))] _)⟩
instance rbuild_i {w0 : World} {L : List Ent} {t : Sv} {ts : List Rt} {bits : Int} [ht : HdE w0 L rcells 19 t ts] : FnC Try.prog 58 w0 L [t.val, .int .i64 bits] (Tri) (fun zz => .tuple #[.agg (tcells zz), .int .i64 (buildE ts bits)]) (fun zz => Deep.ent zz :: L) (fun zz => zz.bits = buildB ts bits ∧ zz.ns.xs = buildN ts bits) (True) := ⟨fun hp w hw => (rbuild_c w t ts bits (ht.h w hw)).mono fun e w' ⟨x, h1, h2, h3⟩ => ⟨x, h1, h2, hw.call h3⟩⟩

end Go.Proofs.Ytembaconocgmlaa
