/- NodeBack: walked. -/
import Derived.Test.YtembaconocgmlaaN7m

set_option linter.unusedSimpArgs false
set_option linter.unusedVariables false
namespace Go.Proofs.Ytembaconocgmlaa
open Go.Eng Go.Kb
set_option maxRecDepth 20000 in
theorem nodeBack_c (w : World) (t : Sv) (ts : List Rt) (bits : Int) (b : Sv) (bs : List UInt8) (ht : Lies rcells 19 (hp w) t ts) (hb : Lies benc 1 (hp w) b bs) : Calls Try.prog 16 #[t.val, .int .i64 bits, b.val] w fun e w' => e = .returned (.bool true) ∧ Mem w [] w' := by
  have ght : Gv w t rcells 19 ts := ⟨ht⟩
  have ghb : Gv w b benc 1 bs := ⟨hb⟩
  refine calls_of (args := [_, _, _]) Try.func16 rfl Try.ntmps16 rfl ?_
  change Cw _ _ _ _ _ [(0, t.val), (1, .int .i64 bits), (2, b.val)] []
  refine cw_seq ?_
  refine cw_region ?_
  refine sq_r (ry_assign rfl) ?_
  refine sq_nil ?_
  refine ex_then ?_
  refine cw_seq ?_
  refine cw_seq ?_
  refine cw_region ?_
  refine sq_y (yl_callC rfl trivial) ?_
  refine sq_r (ry_not rfl) ?_
  refine sq_nil ?_
  refine ex_then ?_
  refine cw_cond rfl (fun h0 => ?_) (fun h0 => ?_)
  · exfalso; simp at h0
  · try simp only [Bool.and_eq_true, Bool.or_eq_true, Bool.and_eq_false_iff, Bool.or_eq_false_iff, Bool.not_eq_true', Bool.not_eq_false', decide_eq_true_eq, decide_eq_false_iff_not, Bool.not_eq_true, Bool.not_eq_false] at h0
    refine cw_skip ?_
    refine ex_then ?_
    refine cw_seq ?_
    refine cw_seq ?_
    refine cw_region ?_
    refine sq_r (ry_move rfl) ?_
    refine sq_r (ry_lenH rfl) ?_
    refine sq_r (ry_int rfl rfl rfl) ?_
    refine sq_r (ry_move rfl) ?_
    refine sq_gf rfl rfl rfl (fun hg => (Ry.yl (ry_move rfl))) ?_
    refine sq_gf rfl rfl rfl (fun hg => (Ry.yl (ry_lenH (ev_c hg rfl)))) ?_
    refine sq_gf rfl rfl rfl (fun hg => (Ry.yl (ry_int (ev_c hg rfl) rfl rfl))) ?_
    refine sq_r (ry_or rfl rfl rfl) ?_
    refine sq_nil ?_
    refine ex_then ?_
    refine cw_cond rfl (fun h1 => ?_) (fun h1 => ?_)
    · try simp only [Bool.and_eq_true, Bool.or_eq_true, Bool.and_eq_false_iff, Bool.or_eq_false_iff, Bool.not_eq_true', Bool.not_eq_false', decide_eq_true_eq, decide_eq_false_iff_not, Bool.not_eq_true, Bool.not_eq_false] at h1
      refine cw_seq ?_
      refine cw_region ?_
      refine sq_r (ry_assign rfl) ?_
      refine sq_nil ?_
      refine ex_then ?_
      refine cw_ret ?_
      refine ex_pass_ret ?_
      refine ex_ret (.inl rfl) (res_1 rfl (rv_tmp rfl)) (fun w1 hw => ?_)
      first
        | exact ⟨congrArg (fun b => Ending.returned (Value.bool b)) rfl, Keep.mem hw⟩
        | (refine ⟨congrArg (fun b => Ending.returned (Value.bool b)) ?_, Keep.mem hw⟩
           first
             | (have h9 : rallN bs = [] := by (rw [rallN, if_neg (by assumption)])
                simp [h9])
             | (have h9 : rallE bs = 0 := by assumption
                obtain ⟨q1, q2⟩ := allB_rall h9
                simp [allE, allBV, q1, q2]))
    · try simp only [Bool.and_eq_true, Bool.or_eq_true, Bool.and_eq_false_iff, Bool.or_eq_false_iff, Bool.not_eq_true', Bool.not_eq_false', decide_eq_true_eq, decide_eq_false_iff_not, Bool.not_eq_true, Bool.not_eq_false] at h1
      refine cw_skip ?_
      refine ex_then ?_
      refine cw_seq ?_
      refine cw_seq ?_
      refine cw_region ?_
      refine sq_r (ry_move rfl) ?_
      refine sq_r (ry_move rfl) ?_
      refine sq_callC rfl trivial fun x31 hp31 => ?_
      refine sq_r (ry_move rfl) ?_
      refine sq_r (ry_extract (v := .agg (tcells x31)) rfl rfl) ?_
      refine sq_r (ry_extract (v := .int .i64 (buildE ts bits)) rfl rfl) ?_
      refine sq_allocA fun b7 => ?_
      refine sq_storeW rfl rfl ?_
      refine sq_r (ry_assign rfl) ?_
      refine sq_nil ?_
      refine ex_then ?_
      refine cw_seq ?_
      refine cw_region ?_
      refine sq_r (ry_move rfl) ?_
      refine sq_r (ry_int rfl rfl rfl) ?_
      refine sq_nil ?_
      refine ex_then ?_
      refine cw_cond rfl (fun h2 => ?_) (fun h2 => ?_)
      · try simp only [Bool.and_eq_true, Bool.or_eq_true, Bool.and_eq_false_iff, Bool.or_eq_false_iff, Bool.not_eq_true', Bool.not_eq_false', decide_eq_true_eq, decide_eq_false_iff_not, Bool.not_eq_true, Bool.not_eq_false] at h2
        have hc : tright ts = true ∧ (bits = 32 ∨ bits = 128) := by apply Classical.byContradiction; intro hc; have := (buildE_arg hc).1; omega
        have hl : (waysF bits ts).length ≤ 512 := by apply Classical.byContradiction; intro hn; have := (buildE_full hc hn).1; omega
        obtain ⟨he1, he2, he3⟩ := buildE_ok hc hl
        have hok : allOk x31.ns.xs = true := by rw [hp31.2, he3]; exact allOk_trie hc.1 hc.2 hl
        have hle : x31.ns.xs.length ≤ 512 := by simp only [allOk, Bool.and_eq_true, decide_eq_true_eq] at hok; exact hok.1
        have hA : allBV x31.ns.xs = allB x31.ns.xs ∧ allE x31.ns.xs = 0 := ⟨by rw [allBV, if_pos hok], by rw [allE, if_pos hok]⟩
        obtain ⟨hR1, hR2⟩ := rall_allB hok
        have hAl := allB_length x31.ns.xs
        refine cw_seq ?_
        refine cw_region ?_
        refine sq_r (ry_field (o' := 1) rfl rfl) ?_
        refine sq_r (ry_cellc rfl) ?_
        refine sq_callC rfl trivial fun x39 hp39 => ?_
        refine sq_r (ry_move rfl) ?_
        refine sq_r (ry_extract (v := x39.val) rfl rfl) ?_
        refine sq_r (ry_extract (v := .int .i64 (allE x31.ns.xs)) rfl rfl) ?_
        refine sq_r (ry_assign rfl) ?_
        refine sq_r (ry_assign rfl) ?_
        refine sq_nil ?_
        refine ex_then ?_
        refine cw_seq ?_
        refine cw_region ?_
        refine sq_r (ry_move rfl) ?_
        refine sq_callC rfl trivial fun x44 hp44 => ?_
        refine sq_r (ry_move rfl) ?_
        refine sq_r (ry_extract (v := x44.val) rfl rfl) ?_
        refine sq_r (ry_extract (v := .int .i64 (rallE (allBV x31.ns.xs))) rfl rfl) ?_
        refine sq_r (ry_assign rfl) ?_
        refine sq_r (ry_assign rfl) ?_
        refine sq_nil ?_
        refine ex_then ?_
        refine cw_seq ?_
        refine cw_seq ?_
        refine cw_region ?_
        refine sq_r (ry_move rfl) ?_
        refine sq_r (ry_int rfl rfl rfl) ?_
        refine sq_r (ry_move rfl) ?_
        refine sq_gf rfl rfl rfl (fun hg => (Ry.yl (ry_move rfl))) ?_
        refine sq_gf rfl rfl rfl (fun hg => (Ry.yl (ry_int (ev_c hg rfl) rfl rfl))) ?_
        refine sq_r (ry_or rfl rfl rfl) ?_
        refine sq_r (ry_move rfl) ?_
        refine sq_gf rfl rfl rfl (fun hg => (Ry.yl (ry_move rfl))) ?_
        refine sq_gf rfl rfl rfl (fun hg => (Ry.yl (ry_lenH (ev_c hg rfl)))) ?_
        refine sq_gf rfl rfl rfl (fun hg => (Ry.yl (ry_field (o' := 1) rfl rfl))) ?_
        refine sq_gf rfl rfl rfl (fun hg => (Ry.yl (ry_cellc (ev_c hg rfl)))) ?_
        refine sq_gf rfl rfl rfl (fun hg => (Ry.yl (ry_lenH (ev_c hg rfl)))) ?_
        refine sq_gf rfl rfl rfl (fun hg => (Ry.yl (ry_int (ev_c hg rfl) (ev_c hg rfl) rfl))) ?_
        refine sq_r (ry_or rfl rfl rfl) ?_
        refine sq_r (ry_move rfl) ?_
        refine sq_gf rfl rfl rfl (fun hg => (Ry.yl (ry_move rfl))) ?_
        refine sq_gf rfl rfl rfl (fun hg => (Ry.yl (ry_lenH (ev_c hg rfl)))) ?_
        refine sq_gf rfl rfl rfl (fun hg => (Ry.yl (ry_move rfl))) ?_
        refine sq_gf rfl rfl rfl (fun hg => (Ry.yl (ry_lenH (ev_c hg rfl)))) ?_
        refine sq_gf rfl rfl rfl (fun hg => (Ry.yl (ry_mul rfl (ev_c hg rfl) (by simp only [Bool.and_eq_true, Bool.or_eq_true, Bool.and_eq_false_iff, Bool.or_eq_false_iff, Bool.not_eq_true', Bool.not_eq_false', decide_eq_true_eq, decide_eq_false_iff_not, Bool.not_eq_true, Bool.not_eq_false] at hg; omega)))) ?_
        refine sq_gf rfl rfl rfl (fun hg => (Ry.yl (ry_int (ev_c hg rfl) (ev_c hg rfl) rfl))) ?_
        refine sq_r (ry_or rfl rfl rfl) ?_
        refine sq_nil ?_
        refine ex_then ?_
        refine cw_cond rfl (fun h3 => ?_) (fun h3 => ?_)
        · exfalso; simp [hA.1, hA.2, hR1, hR2, hAl] at h3
        · try simp only [Bool.and_eq_true, Bool.or_eq_true, Bool.and_eq_false_iff, Bool.or_eq_false_iff, Bool.not_eq_true', Bool.not_eq_false', decide_eq_true_eq, decide_eq_false_iff_not, Bool.not_eq_true, Bool.not_eq_false] at h3
          refine cw_skip ?_
          refine ex_then ?_
          refine cw_seq ?_
          refine cw_region ?_
          refine sq_r (ry_assign rfl) ?_
          refine sq_nil ?_
          refine ex_then ?_
          refine cw_block ?_
          refine cw_loop (X := Nat) (fun zz => [(13, .int .i64 (zz : Nat)), (2, b.val), (7, .pointer (some ⟨b7, 0, none⟩)), (11, x44.val)]) (fun zz => [own ncells 48 x44 (rallN (allBV x31.ns.xs)), own benc 1 x39 (allBV x31.ns.xs), blk b7 (tcells x31) 86, Deep.ent x31]) (fun zz => zz ≤ (rallN (allBV x31.ns.xs)).length) (fun zz => (rallN (allBV x31.ns.xs)).length - zz) 0 (Nat.zero_le _) (Sub.cons rfl (Sub.cons rfl (Sub.cons rfl (Sub.cons rfl (Sub.nil _))))) (fun w hw => Keep.mem hw) ?_
          rintro i hI
          refine cw_seq ?_
          refine cw_seq ?_
          refine cw_region ?_
          refine sq_r (ry_move rfl) ?_
          refine sq_r (ry_move rfl) ?_
          refine sq_r (ry_lenH rfl) ?_
          refine sq_r (ry_int rfl rfl rfl) ?_
          refine sq_nil ?_
          refine ex_then ?_
          refine cw_cond rfl (fun h4 => ?_) (fun h4 => ?_)
          · try simp only [Bool.and_eq_true, Bool.or_eq_true, Bool.and_eq_false_iff, Bool.or_eq_false_iff, Bool.not_eq_true', Bool.not_eq_false', decide_eq_true_eq, decide_eq_false_iff_not, Bool.not_eq_true, Bool.not_eq_false] at h4
            refine cw_skip ?_
            refine ex_then ?_
            refine cw_seq ?_
            refine cw_block ?_
            refine cw_seq ?_
            refine cw_quiet (by kernel_rfl) (by kernel_rfl) ?_
            refine qt_r (ry_move rfl) ?_
            refine qt_r (ry_move rfl) ?_
            obtain ⟨e77, he77⟩ := get_some (xs := rallN (allBV x31.ns.xs)) (i := i) (by omega)
            refine qt_r (ry_idxH rfl rfl i rfl (by omega)) ?_
            refine qt_r (ry_elemH rfl i he77 rfl) ?_
            refine qt_r (ry_field (o' := 1) rfl rfl) ?_
            refine qt_r (ry_cellc rfl) ?_
            refine qt_r (ry_move rfl) ?_
            obtain ⟨e82, he82⟩ := get_some (xs := x31.ns.xs) (i := i) (by rw [hA.1, hR2] at h4; omega)
            refine qt_r (ry_idxH rfl rfl i rfl (by rw [hA.1, hR2] at h4; omega)) ?_
            refine qt_r (ry_elemH rfl i he82 rfl) ?_
            refine qt_r (ry_ne rfl rfl) ?_
            refine qt_nil ?_
            refine ex_then ?_
            refine cw_cond rfl (fun h5 => ?_) (fun h5 => ?_)
            · exfalso; rw [hA.1, hR2] at he77; rw [he77] at he82; simp [Option.some.inj he82] at h5
            · try simp only [Bool.and_eq_true, Bool.or_eq_true, Bool.and_eq_false_iff, Bool.or_eq_false_iff, Bool.not_eq_true', Bool.not_eq_false', decide_eq_true_eq, decide_eq_false_iff_not, Bool.not_eq_true, Bool.not_eq_false] at h5
              refine cw_skip ?_
              refine ex_block ?_
              refine ex_then ?_
              refine cw_region ?_
              refine sq_r (ry_move rfl) ?_
              refine sq_r (ry_add rfl rfl (by omega)) ?_
              refine sq_r (ry_assign rfl) ?_
              refine sq_nil ?_
              exact ex_again (x := (i)) (i + 1) (by first | omega | (simp only []; omega)) (by first | omega | (simp only []; omega)) (Sub.cons rfl (Sub.cons rfl (Sub.cons rfl (Sub.cons rfl (Sub.nil _))))) (fun w hw => Keep.mem hw)
          · try simp only [Bool.and_eq_true, Bool.or_eq_true, Bool.and_eq_false_iff, Bool.or_eq_false_iff, Bool.not_eq_true', Bool.not_eq_false', decide_eq_true_eq, decide_eq_false_iff_not, Bool.not_eq_true, Bool.not_eq_false] at h4
            refine cw_exit ?_
            refine ex_pass_exit ?_
            refine ex_pass_exit ?_
            refine ex_block_hit ?_
            refine ex_then ?_
            refine cw_seq ?_
            refine cw_region ?_
            refine sq_r (ry_move rfl) ?_
            refine sq_callC rfl trivial fun x87 hp87 => ?_
            refine sq_r (ry_move rfl) ?_
            refine sq_r (ry_extract (v := x87.val) rfl rfl) ?_
            refine sq_r (ry_extract (v := .int .i64 (rallE bs)) rfl rfl) ?_
            refine sq_r (ry_assign rfl) ?_
            refine sq_r (ry_assign rfl) ?_
            refine sq_nil ?_
            refine ex_then ?_
            refine cw_seq ?_
            refine cw_seq ?_
            refine cw_region ?_
            refine sq_r (ry_move rfl) ?_
            refine sq_r (ry_int rfl rfl rfl) ?_
            refine sq_nil ?_
            refine ex_then ?_
            refine cw_cond rfl (fun h6 => ?_) (fun h6 => ?_)
            · try simp only [Bool.and_eq_true, Bool.or_eq_true, Bool.and_eq_false_iff, Bool.or_eq_false_iff, Bool.not_eq_true', Bool.not_eq_false', decide_eq_true_eq, decide_eq_false_iff_not, Bool.not_eq_true, Bool.not_eq_false] at h6
              refine cw_seq ?_
              refine cw_region ?_
              refine sq_r (ry_move rfl) ?_
              refine sq_r (ry_lenH rfl) ?_
              refine sq_r (ry_int rfl rfl rfl) ?_
              refine sq_r (ry_assign rfl) ?_
              refine sq_nil ?_
              refine ex_then ?_
              refine cw_ret ?_
              refine ex_pass_ret ?_
              refine ex_ret (.inl rfl) (res_1 rfl (rv_tmp rfl)) (fun w1 hw => ?_)
              first
                | exact ⟨congrArg (fun b => Ending.returned (Value.bool b)) rfl, Keep.mem hw⟩
                | (refine ⟨congrArg (fun b => Ending.returned (Value.bool b)) ?_, Keep.mem hw⟩
                   first
                     | (have h9 : rallN bs = [] := by (rw [rallN, if_neg (by assumption)])
                        simp [h9])
                     | (have h9 : rallE bs = 0 := by assumption
                        obtain ⟨q1, q2⟩ := allB_rall h9
                        simp [allE, allBV, q1, q2]))
            · try simp only [Bool.and_eq_true, Bool.or_eq_true, Bool.and_eq_false_iff, Bool.or_eq_false_iff, Bool.not_eq_true', Bool.not_eq_false', decide_eq_true_eq, decide_eq_false_iff_not, Bool.not_eq_true, Bool.not_eq_false] at h6
              refine cw_skip ?_
              refine ex_then ?_
              refine cw_seq ?_
              refine cw_region ?_
              refine sq_r (ry_move rfl) ?_
              refine sq_callC rfl trivial fun x97 hp97 => ?_
              refine sq_r (ry_move rfl) ?_
              refine sq_r (ry_extract (v := x97.val) rfl rfl) ?_
              refine sq_r (ry_extract (v := .int .i64 (allE (rallN bs))) rfl rfl) ?_
              refine sq_r (ry_assign rfl) ?_
              refine sq_r (ry_assign rfl) ?_
              refine sq_nil ?_
              refine ex_then ?_
              refine cw_seq ?_
              refine cw_region ?_
              refine sq_r (ry_move rfl) ?_
              refine sq_r (ry_int rfl rfl rfl) ?_
              refine sq_r (ry_move rfl) ?_
              refine sq_gt rfl rfl rfl (fun hg => (Ry.yl (ry_move rfl))) ?_
              refine sq_gt rfl rfl rfl (fun hg => (Ry.yl (ry_bstrH Try.underlying30 Try.underlying5 Try.underlying9 (ev_c hg rfl)))) ?_
              refine sq_gt rfl rfl rfl (fun hg => (Ry.yl (ry_move rfl))) ?_
              refine sq_gt rfl rfl rfl (fun hg => (Ry.yl (ry_bstrH Try.underlying30 Try.underlying5 Try.underlying9 (ev_c hg rfl)))) ?_
              refine sq_gt rfl rfl rfl (fun hg => (Ry.yl (ry_streqL (ev_c hg rfl) (ev_c hg rfl)))) ?_
              refine sq_r (ry_and rfl rfl rfl) ?_
              refine sq_r (ry_assign rfl) ?_
              refine sq_nil ?_
              refine ex_then ?_
              refine cw_ret ?_
              refine ex_ret (.inl rfl) (res_1 rfl (rv_tmp rfl)) (fun w1 hw => ?_)
              first
                | exact ⟨congrArg (fun b => Ending.returned (Value.bool b)) rfl, Keep.mem hw⟩
                | (refine ⟨congrArg (fun b => Ending.returned (Value.bool b)) ?_, Keep.mem hw⟩
                   first
                     | (have h9 : rallN bs = [] := by (rw [rallN, if_neg (by assumption)])
                        simp [h9])
                     | (have h9 : rallE bs = 0 := by assumption
                        obtain ⟨q1, q2⟩ := allB_rall h9
                        simp [allE, allBV, q1, q2]))
      · try simp only [Bool.and_eq_true, Bool.or_eq_true, Bool.and_eq_false_iff, Bool.or_eq_false_iff, Bool.not_eq_true', Bool.not_eq_false', decide_eq_true_eq, decide_eq_false_iff_not, Bool.not_eq_true, Bool.not_eq_false] at h2
        refine cw_skip ?_
        refine ex_then ?_
        refine cw_seq ?_
        refine cw_region ?_
        refine sq_r (ry_move rfl) ?_
        refine sq_callC rfl trivial fun x87 hp87 => ?_
        refine sq_r (ry_move rfl) ?_
        refine sq_r (ry_extract (v := x87.val) rfl rfl) ?_
        refine sq_r (ry_extract (v := .int .i64 (rallE bs)) rfl rfl) ?_
        refine sq_r (ry_assign rfl) ?_
        refine sq_r (ry_assign rfl) ?_
        refine sq_nil ?_
        refine ex_then ?_
        refine cw_seq ?_
        refine cw_seq ?_
        refine cw_region ?_
        refine sq_r (ry_move rfl) ?_
        refine sq_r (ry_int rfl rfl rfl) ?_
        refine sq_nil ?_
        refine ex_then ?_
        refine cw_cond rfl (fun h6 => ?_) (fun h6 => ?_)
        · try simp only [Bool.and_eq_true, Bool.or_eq_true, Bool.and_eq_false_iff, Bool.or_eq_false_iff, Bool.not_eq_true', Bool.not_eq_false', decide_eq_true_eq, decide_eq_false_iff_not, Bool.not_eq_true, Bool.not_eq_false] at h6
          refine cw_seq ?_
          refine cw_region ?_
          refine sq_r (ry_move rfl) ?_
          refine sq_r (ry_lenH rfl) ?_
          refine sq_r (ry_int rfl rfl rfl) ?_
          refine sq_r (ry_assign rfl) ?_
          refine sq_nil ?_
          refine ex_then ?_
          refine cw_ret ?_
          refine ex_pass_ret ?_
          refine ex_ret (.inl rfl) (res_1 rfl (rv_tmp rfl)) (fun w1 hw => ?_)
          first
            | exact ⟨congrArg (fun b => Ending.returned (Value.bool b)) rfl, Keep.mem hw⟩
            | (refine ⟨congrArg (fun b => Ending.returned (Value.bool b)) ?_, Keep.mem hw⟩
               first
                 | (have h9 : rallN bs = [] := by (rw [rallN, if_neg (by assumption)])
                    simp [h9])
                 | (have h9 : rallE bs = 0 := by assumption
                    obtain ⟨q1, q2⟩ := allB_rall h9
                    simp [allE, allBV, q1, q2]))
        · try simp only [Bool.and_eq_true, Bool.or_eq_true, Bool.and_eq_false_iff, Bool.or_eq_false_iff, Bool.not_eq_true', Bool.not_eq_false', decide_eq_true_eq, decide_eq_false_iff_not, Bool.not_eq_true, Bool.not_eq_false] at h6
          refine cw_skip ?_
          refine ex_then ?_
          refine cw_seq ?_
          refine cw_region ?_
          refine sq_r (ry_move rfl) ?_
          refine sq_callC rfl trivial fun x97 hp97 => ?_
          refine sq_r (ry_move rfl) ?_
          refine sq_r (ry_extract (v := x97.val) rfl rfl) ?_
          refine sq_r (ry_extract (v := .int .i64 (allE (rallN bs))) rfl rfl) ?_
          refine sq_r (ry_assign rfl) ?_
          refine sq_r (ry_assign rfl) ?_
          refine sq_nil ?_
          refine ex_then ?_
          refine cw_seq ?_
          refine cw_region ?_
          refine sq_r (ry_move rfl) ?_
          refine sq_r (ry_int rfl rfl rfl) ?_
          refine sq_r (ry_move rfl) ?_
          refine sq_gt rfl rfl rfl (fun hg => (Ry.yl (ry_move rfl))) ?_
          refine sq_gt rfl rfl rfl (fun hg => (Ry.yl (ry_bstrH Try.underlying30 Try.underlying5 Try.underlying9 (ev_c hg rfl)))) ?_
          refine sq_gt rfl rfl rfl (fun hg => (Ry.yl (ry_move rfl))) ?_
          refine sq_gt rfl rfl rfl (fun hg => (Ry.yl (ry_bstrH Try.underlying30 Try.underlying5 Try.underlying9 (ev_c hg rfl)))) ?_
          refine sq_gt rfl rfl rfl (fun hg => (Ry.yl (ry_streqL (ev_c hg rfl) (ev_c hg rfl)))) ?_
          refine sq_r (ry_and rfl rfl rfl) ?_
          refine sq_r (ry_assign rfl) ?_
          refine sq_nil ?_
          refine ex_then ?_
          refine cw_ret ?_
          refine ex_ret (.inl rfl) (res_1 rfl (rv_tmp rfl)) (fun w1 hw => ?_)
          first
            | exact ⟨congrArg (fun b => Ending.returned (Value.bool b)) rfl, Keep.mem hw⟩
            | (refine ⟨congrArg (fun b => Ending.returned (Value.bool b)) ?_, Keep.mem hw⟩
               first
                 | (have h9 : rallN bs = [] := by (rw [rallN, if_neg (by assumption)])
                    simp [h9])
                 | (have h9 : rallE bs = 0 := by assumption
                    obtain ⟨q1, q2⟩ := allB_rall h9
                    simp [allE, allBV, q1, q2]))

end Go.Proofs.Ytembaconocgmlaa

