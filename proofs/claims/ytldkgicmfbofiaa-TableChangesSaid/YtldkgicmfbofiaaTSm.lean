/- The law of changes: walked. -/
import Derived.Test.YtldkgicmfbofiaaMz
import Derived.Test.YtldkgicmfbofiaaMu

set_option linter.unusedSimpArgs false
set_option linter.unusedVariables false
namespace Go.Proofs.Ytldkgicmfbofiaa
open Go.Eng Go.Kb
set_option maxRecDepth 20000 in
theorem tableChanges_c (w : World) (t : Sv) (ts : List Rt) (l : Sv) (ls : List Ch) (ht : Lies rcells 19 (hp w) t ts) (hl : Lies chcells 20 (hp w) l ls) : Calls Try.prog 5 #[t.val, l.val] w fun e w' => e = .returned (.bool true) ∧ Mem w [] w' := by
  have ght : Gv w t rcells 19 ts := ⟨ht⟩
  have ghl : Gv w l chcells 20 ls := ⟨hl⟩
  refine calls_of (args := [_, _]) Try.func5 rfl Try.ntmps5 rfl ?_
  change Cw _ _ _ _ _ [(0, t.val), (1, l.val)] []
  refine cw_seq ?_
  refine cw_region ?_
  refine sq_r (ry_assign rfl) ?_
  refine sq_nil ?_
  refine ex_then ?_
  refine cw_seq ?_
  refine cw_seq ?_
  refine cw_region ?_
  refine sq_y (yl_callC rfl trivial) ?_
  refine sq_r (ry_not rfl) ?_
  refine sq_nil ?_
  refine ex_then ?_
  refine cw_cond rfl (fun h0 => ?_) (fun h0 => ?_)
  · exfalso; simp at h0
  · try simp only [Bool.and_eq_true, Bool.or_eq_true, Bool.and_eq_false_iff, Bool.or_eq_false_iff, Bool.not_eq_true', Bool.not_eq_false', decide_eq_true_eq, decide_eq_false_iff_not, Bool.not_eq_true, Bool.not_eq_false] at h0
    refine cw_skip ?_
    refine ex_then ?_
    refine cw_seq ?_
    refine cw_seq ?_
    refine cw_region ?_
    refine sq_r (ry_move rfl) ?_
    refine sq_r (ry_lenH rfl) ?_
    refine sq_r (ry_int rfl rfl rfl) ?_
    refine sq_r (ry_move rfl) ?_
    refine sq_gf rfl rfl rfl (fun hg => (Ry.yl (ry_move rfl))) ?_
    refine sq_gf rfl rfl rfl (fun hg => (Ry.yl (ry_lenH (ev_c hg rfl)))) ?_
    refine sq_gf rfl rfl rfl (fun hg => (Ry.yl (ry_int (ev_c hg rfl) rfl rfl))) ?_
    refine sq_r (ry_or rfl rfl rfl) ?_
    refine sq_r (ry_move rfl) ?_
    refine sq_gf rfl rfl rfl (fun hg => (Ry.yl (ry_move rfl))) ?_
    refine sq_gf rfl rfl rfl (fun hg => yl_callC (evl_cons (ev_c hg rfl) evl_nil) trivial) ?_
    refine sq_gf rfl rfl rfl (fun hg => (Ry.yl (ry_not (ev_c hg rfl)))) ?_
    refine sq_r (ry_or rfl rfl rfl) ?_
    refine sq_nil ?_
    refine ex_then ?_
    refine cw_cond rfl (fun h1 => ?_) (fun h1 => ?_)
    · try simp only [Bool.and_eq_true, Bool.or_eq_true, Bool.and_eq_false_iff, Bool.or_eq_false_iff, Bool.not_eq_true', Bool.not_eq_false', decide_eq_true_eq, decide_eq_false_iff_not, Bool.not_eq_true, Bool.not_eq_false] at h1
      refine cw_seq ?_
      refine cw_region ?_
      refine sq_r (ry_assign rfl) ?_
      refine sq_nil ?_
      refine ex_then ?_
      refine cw_ret ?_
      refine ex_pass_ret ?_
      refine ex_ret (.inl rfl) (res_1 rfl (rv_tmp rfl)) (fun w1 hw => ?_)
      exact ⟨congrArg (fun b => Ending.returned (Value.bool b)) (rfl), Keep.mem hw⟩
    · try simp only [Bool.and_eq_true, Bool.or_eq_true, Bool.and_eq_false_iff, Bool.or_eq_false_iff, Bool.not_eq_true', Bool.not_eq_false', decide_eq_true_eq, decide_eq_false_iff_not, Bool.not_eq_true, Bool.not_eq_false] at h1
      have hr : tright ts = true := by simpa using h1.2
      have hlen := tr_len hr
      have hru := apL_right hr ls
      have hul := tr_len hru
      refine cw_skip ?_
      refine ex_then ?_
      refine cw_seq ?_
      refine cw_region ?_
      refine sq_r (ry_move rfl) ?_
      refine sq_r (ry_move rfl) ?_
      refine sq_callC rfl (by omega) fun x35 hp35 => ?_
      refine sq_r (ry_move rfl) ?_
      refine sq_r (ry_extract (v := x35.val) rfl rfl) ?_
      refine sq_r (ry_extract (v := .int .i64 (appE ts ls)) rfl rfl) ?_
      refine sq_r (ry_assign rfl) ?_
      refine sq_r (ry_assign rfl) ?_
      refine sq_nil ?_
      refine ex_then ?_
      refine cw_seq ?_
      refine cw_seq ?_
      refine cw_region ?_
      refine sq_r (ry_move rfl) ?_
      refine sq_r (ry_int rfl rfl rfl) ?_
      refine sq_nil ?_
      refine ex_then ?_
      refine cw_cond rfl (fun h2 => ?_) (fun h2 => ?_)
      · try simp only [Bool.and_eq_true, Bool.or_eq_true, Bool.and_eq_false_iff, Bool.or_eq_false_iff, Bool.not_eq_true', Bool.not_eq_false', decide_eq_true_eq, decide_eq_false_iff_not, Bool.not_eq_true, Bool.not_eq_false] at h2
        have hsm : appL ts ls = ts := app_none hr h2
        refine cw_seq ?_
        refine cw_region ?_
        refine sq_r (ry_move rfl) ?_
        refine sq_r (ry_move rfl) ?_
        refine sq_y (yl_callC rfl (by omega)) ?_
        refine sq_r (ry_assign rfl) ?_
        refine sq_nil ?_
        refine ex_then ?_
        refine cw_ret ?_
        refine ex_pass_ret ?_
        refine ex_ret (.inl rfl) (res_1 rfl (rv_tmp rfl)) (fun w1 hw => ?_)
        exact ⟨congrArg (fun b => Ending.returned (Value.bool b)) ((by simp [hsm])), Keep.mem hw⟩
      · try simp only [Bool.and_eq_true, Bool.or_eq_true, Bool.and_eq_false_iff, Bool.or_eq_false_iff, Bool.not_eq_true', Bool.not_eq_false', decide_eq_true_eq, decide_eq_false_iff_not, Bool.not_eq_true, Bool.not_eq_false] at h2
        have hok : appE ts ls = 0 := by simpa using h2
        refine cw_skip ?_
        refine ex_then ?_
        refine cw_seq ?_
        refine cw_seq ?_
        refine cw_region ?_
        refine sq_r (ry_assign rfl) ?_
        refine sq_nil ?_
        refine ex_then ?_
        refine cw_block ?_
        refine cw_loop (X := Nat) (fun zz => [(7, .int .i64 (zz : Nat)), (0, t.val), (1, l.val), (5, x35.val)]) (fun zz => [own rcells 19 x35 (appL ts ls)]) (fun zz => zz ≤ ls.length) (fun zz => ls.length - zz) 0 (Nat.zero_le _) (Sub.cons rfl (Sub.cons rfl (Sub.cons rfl (Sub.cons rfl (Sub.nil _))))) (fun w hw => Keep.mem hw) ?_
        rintro i hI
        refine cw_seq ?_
        refine cw_seq ?_
        refine cw_region ?_
        refine sq_r (ry_move rfl) ?_
        refine sq_r (ry_move rfl) ?_
        refine sq_r (ry_lenH rfl) ?_
        refine sq_r (ry_int rfl rfl rfl) ?_
        refine sq_nil ?_
        refine ex_then ?_
        refine cw_cond rfl (fun h3 => ?_) (fun h3 => ?_)
        · try simp only [Bool.and_eq_true, Bool.or_eq_true, Bool.and_eq_false_iff, Bool.or_eq_false_iff, Bool.not_eq_true', Bool.not_eq_false', decide_eq_true_eq, decide_eq_false_iff_not, Bool.not_eq_true, Bool.not_eq_false] at h3
          obtain ⟨c, hc⟩ := get_some (xs := ls) (i := i) (by omega)
          refine cw_skip ?_
          refine ex_then ?_
          refine cw_seq ?_
          refine cw_block ?_
          refine cw_seq ?_
          refine cw_region ?_
          refine sq_r (ry_move rfl) ?_
          refine sq_r (ry_assign rfl) ?_
          refine sq_nil ?_
          refine ex_then ?_
          refine cw_seq ?_
          refine cw_seq ?_
          refine cw_region ?_
          refine sq_r (ry_move rfl) ?_
          refine sq_r (ry_assign rfl) ?_
          refine sq_nil ?_
          refine ex_then ?_
          refine cw_block ?_
          refine cw_loop (X := Nat × Nat × Ch) (fun zz => [(9, .int .i64 (zz.1 : Nat)), (8, .int .i64 (zz.2.1 : Nat)), (0, t.val), (1, l.val), (5, x35.val), (7, .int .i64 (i : Nat))]) (fun zz => [own rcells 19 x35 (appL ts ls)]) (fun zz => LastTo ls i zz.1 zz.2.1 c zz.2.2) (fun zz => ls.length - zz.1) (i, i, c) (LastTo.start hc) (Sub.cons rfl (Sub.cons rfl (Sub.cons rfl (Sub.cons rfl (Sub.cons rfl (Sub.cons rfl (Sub.nil _))))))) (fun w hw => Keep.mem hw) ?_
          rintro ⟨n, m, d⟩ hL
          dsimp only
          simp only at hL
          have hnl := hL.le
          refine cw_seq ?_
          refine cw_seq ?_
          refine cw_region ?_
          refine sq_r (ry_move rfl) ?_
          refine sq_r (ry_move rfl) ?_
          refine sq_r (ry_lenH rfl) ?_
          refine sq_r (ry_int rfl rfl rfl) ?_
          refine sq_nil ?_
          refine ex_then ?_
          refine cw_cond rfl (fun h4 => ?_) (fun h4 => ?_)
          · try simp only [Bool.and_eq_true, Bool.or_eq_true, Bool.and_eq_false_iff, Bool.or_eq_false_iff, Bool.not_eq_true', Bool.not_eq_false', decide_eq_true_eq, decide_eq_false_iff_not, Bool.not_eq_true, Bool.not_eq_false] at h4
            obtain ⟨e, he⟩ := get_some (xs := ls) (i := n) (by omega)
            refine cw_skip ?_
            refine ex_then ?_
            refine cw_seq ?_
            refine cw_block ?_
            refine cw_seq ?_
            refine cw_quiet (by kernel_rfl) (by kernel_rfl) ?_
            refine qt_r (ry_move rfl) ?_
            refine qt_r (ry_move rfl) ?_
            refine qt_r (ry_idxH rfl rfl n rfl (by omega)) ?_
            refine qt_r (ry_field rfl rfl) ?_
            refine qt_r (ry_field rfl rfl) ?_
            refine qt_r (ry_elempH (j := 0) rfl n he rfl (by decide)) ?_
            refine qt_r (ry_move rfl) ?_
            refine qt_r (ry_move rfl) ?_
            refine qt_r (ry_idxH rfl rfl i rfl (by omega)) ?_
            refine qt_r (ry_field rfl rfl) ?_
            refine qt_r (ry_field rfl rfl) ?_
            refine qt_r (ry_elempH (j := 0) rfl i hc rfl (by decide)) ?_
            refine qt_r (ry_eq rfl rfl) ?_
            refine qt_nil ?_
            refine ex_then ?_
            refine cw_cond rfl (fun h5 => ?_) (fun h5 => ?_)
            · try simp only [Bool.and_eq_true, Bool.or_eq_true, Bool.and_eq_false_iff, Bool.or_eq_false_iff, Bool.not_eq_true', Bool.not_eq_false', decide_eq_true_eq, decide_eq_false_iff_not, Bool.not_eq_true, Bool.not_eq_false] at h5
              refine cw_region ?_
              refine sq_r (ry_move rfl) ?_
              refine sq_r (ry_assign rfl) ?_
              refine sq_nil ?_
              refine ex_block ?_
              refine ex_then ?_
              refine cw_region ?_
              refine sq_r (ry_move rfl) ?_
              refine sq_r (ry_add rfl rfl (by omega)) ?_
              refine sq_r (ry_assign rfl) ?_
              refine sq_nil ?_
              exact ex_again (x := (n, m, d)) (n + 1, n, e) (hL.yes he (by simpa using h5)) (by simp only; omega) (Sub.cons rfl (Sub.cons rfl (Sub.cons rfl (Sub.cons rfl (Sub.cons rfl (Sub.cons rfl (Sub.nil _))))))) (fun w hw => Keep.mem hw)
            · try simp only [Bool.and_eq_true, Bool.or_eq_true, Bool.and_eq_false_iff, Bool.or_eq_false_iff, Bool.not_eq_true', Bool.not_eq_false', decide_eq_true_eq, decide_eq_false_iff_not, Bool.not_eq_true, Bool.not_eq_false] at h5
              refine cw_skip ?_
              refine ex_block ?_
              refine ex_then ?_
              refine cw_region ?_
              refine sq_r (ry_move rfl) ?_
              refine sq_r (ry_add rfl rfl (by omega)) ?_
              refine sq_r (ry_assign rfl) ?_
              refine sq_nil ?_
              exact ex_again (x := (n, m, d)) (n + 1, m, d) (hL.no hc he (by simpa using h5)) (by simp only; omega) (Sub.cons rfl (Sub.cons rfl (Sub.cons rfl (Sub.cons rfl (Sub.cons rfl (Sub.cons rfl (Sub.nil _))))))) (fun w hw => Keep.mem hw)
          · try simp only [Bool.and_eq_true, Bool.or_eq_true, Bool.and_eq_false_iff, Bool.or_eq_false_iff, Bool.not_eq_true', Bool.not_eq_false', decide_eq_true_eq, decide_eq_false_iff_not, Bool.not_eq_true, Bool.not_eq_false] at h4
            obtain rfl : n = ls.length := by have := hL.le; omega
            have hl := hL.done (List.getElem?_eq_some_iff.1 hc).1
            have hd := hL.at'
            have hml := (List.getElem?_eq_some_iff.1 hd).1
            refine cw_exit ?_
            refine ex_pass_exit ?_
            refine ex_pass_exit ?_
            refine ex_block_hit ?_
            refine ex_then ?_
            refine cw_seq ?_
            refine cw_region ?_
            refine sq_r (ry_move rfl) ?_
            refine sq_r (ry_move rfl) ?_
            refine sq_r (ry_move rfl) ?_
            refine sq_r (ry_idxH rfl rfl i rfl (by omega)) ?_
            refine sq_r (ry_field rfl rfl) ?_
            refine sq_r (ry_field rfl rfl) ?_
            refine sq_r (ry_elempH (j := 0) rfl i hc rfl (by decide)) ?_
            refine sq_y (yl_callC rfl trivial) ?_
            refine sq_r (ry_move rfl) ?_
            refine sq_r (ry_extract (v := .int .u16 ((getH (appL ts ls) c.r.p).toNat : Nat)) rfl rfl) ?_
            refine sq_r (ry_extract (v := .int .i64 (getE (appL ts ls) c.r.p)) rfl rfl) ?_
            refine sq_r (ry_assign rfl) ?_
            refine sq_r (ry_assign rfl) ?_
            refine sq_nil ?_
            refine ex_then ?_
            refine cw_seq ?_
            refine cw_region ?_
            refine sq_r (ry_move rfl) ?_
            refine sq_r (ry_move rfl) ?_
            refine sq_r (ry_idxH rfl rfl m rfl (by omega)) ?_
            refine sq_r (ry_field rfl rfl) ?_
            refine sq_r (ry_elemcH (j := 19) rfl m hd rfl (by decide)) ?_
            refine sq_r (ry_move rfl) ?_
            refine sq_gt rfl rfl rfl (fun hg => (Ry.yl (ry_move rfl))) ?_
            refine sq_gt rfl rfl rfl (fun hg => (Ry.yl (ry_int (ev_c hg rfl) rfl rfl))) ?_
            refine sq_r (ry_and rfl rfl rfl) ?_
            refine sq_r (ry_move rfl) ?_
            refine sq_gf rfl rfl rfl (fun hg => (Ry.yl (ry_move rfl))) ?_
            refine sq_gf rfl rfl rfl (fun hg => (Ry.yl (ry_move rfl))) ?_
            refine sq_gf rfl rfl rfl (fun hg => (Ry.yl (ry_idxH (ev_c hg rfl) (ev_c hg rfl) m rfl (by simp only [Bool.and_eq_true, Bool.or_eq_true, Bool.and_eq_false_iff, Bool.or_eq_false_iff, Bool.not_eq_true', Bool.not_eq_false', decide_eq_true_eq, decide_eq_false_iff_not, Bool.not_eq_true, Bool.not_eq_false] at hg; omega)))) ?_
            refine sq_gf rfl rfl rfl (fun hg => (Ry.yl (ry_field (ev_c hg rfl) rfl))) ?_
            refine sq_gf rfl rfl rfl (fun hg => (Ry.yl (ry_elemcH (j := 19) (ev_c hg rfl) m hd rfl (by decide)))) ?_
            refine sq_gf rfl rfl rfl (fun hg => (Ry.yl (ry_not (ev_c hg rfl)))) ?_
            refine sq_gf rfl rfl rfl (fun hg => (Ry.yl (ry_move (ev_c hg rfl)))) ?_
            refine sq_nt rfl rfl rfl (fun hg => (Ry.yl (ry_move rfl))) ?_
            refine sq_nt rfl rfl rfl (fun hg => (Ry.yl (ry_int (ev_c hg rfl) rfl rfl))) ?_
            refine sq_nt rfl rfl rfl (fun hg => (Ry.yl (ry_move (ev_c hg rfl)))) ?_
            refine sq_nf rfl rfl rfl (fun hg => (Ry.yl (ry_move rfl))) ?_
            refine sq_nf rfl rfl rfl (fun hg => (Ry.yl (ry_move rfl))) ?_
            refine sq_nf rfl rfl rfl (fun hg => (Ry.yl (ry_move rfl))) ?_
            refine sq_nf rfl rfl rfl (fun hg => (Ry.yl (ry_idxH (ev_c hg rfl) (ev_c hg rfl) m rfl (by simp only [Bool.and_eq_true, Bool.or_eq_true, Bool.and_eq_false_iff, Bool.or_eq_false_iff, Bool.not_eq_true', Bool.not_eq_false', decide_eq_true_eq, decide_eq_false_iff_not, Bool.not_eq_true, Bool.not_eq_false] at hg; omega)))) ?_
            refine sq_nf rfl rfl rfl (fun hg => (Ry.yl (ry_field (ev_c hg rfl) rfl))) ?_
            refine sq_nf rfl rfl rfl (fun hg => (Ry.yl (ry_field (ev_c hg rfl) rfl))) ?_
            refine sq_nf rfl rfl rfl (fun hg => (Ry.yl (ry_elemcH (j := 18) (ev_c hg rfl) m hd rfl (by decide)))) ?_
            refine sq_nf rfl rfl rfl (fun hg => (Ry.yl (ry_int (ev_c hg rfl) (ev_c hg rfl) rfl))) ?_
            refine sq_nt rfl rfl rfl (fun hg => (Ry.yl (ry_or (ev_c hg rfl) rfl (ev_cc hg rfl)))) ?_
            refine sq_gf rfl rfl rfl (fun hg => (Ry.yl (ry_and (ev_c hg rfl) (ev_cc hg rfl) rfl))) ?_
            refine sq_r (ry_or rfl rfl rfl) ?_
            refine sq_nil ?_
            refine ex_then ?_
            refine cw_cond rfl (fun h6 => ?_) (fun h6 => ?_)
            · try simp only [Bool.and_eq_true, Bool.or_eq_true, Bool.and_eq_false_iff, Bool.or_eq_false_iff, Bool.not_eq_true', Bool.not_eq_false', decide_eq_true_eq, decide_eq_false_iff_not, Bool.not_eq_true, Bool.not_eq_false] at h6
              exfalso
              cases hg : d.gone with
              | true => have := app_gone hr hok hl hg; simp [hg, this] at h6
              | false => obtain ⟨w1, w2⟩ := app_put hr hok hl hg; simp [hg, w1, w2] at h6
            · try simp only [Bool.and_eq_true, Bool.or_eq_true, Bool.and_eq_false_iff, Bool.or_eq_false_iff, Bool.not_eq_true', Bool.not_eq_false', decide_eq_true_eq, decide_eq_false_iff_not, Bool.not_eq_true, Bool.not_eq_false] at h6
              refine cw_skip ?_
              refine ex_block ?_
              refine ex_then ?_
              refine cw_region ?_
              refine sq_r (ry_move rfl) ?_
              refine sq_r (ry_add rfl rfl (by omega)) ?_
              refine sq_r (ry_assign rfl) ?_
              refine sq_nil ?_
              exact ex_again (x := (i)) (i + 1) (by first | omega | (simp only []; omega)) (by first | omega | (simp only []; omega)) (Sub.cons rfl (Sub.cons rfl (Sub.cons rfl (Sub.cons rfl (Sub.nil _))))) (fun w hw => Keep.mem hw)
        · try simp only [Bool.and_eq_true, Bool.or_eq_true, Bool.and_eq_false_iff, Bool.or_eq_false_iff, Bool.not_eq_true', Bool.not_eq_false', decide_eq_true_eq, decide_eq_false_iff_not, Bool.not_eq_true, Bool.not_eq_false] at h3
          refine cw_exit ?_
          refine ex_pass_exit ?_
          refine ex_pass_exit ?_
          refine ex_block_hit ?_
          refine ex_then ?_
          refine cw_seq ?_
          refine cw_seq ?_
          refine cw_region ?_
          refine sq_r (ry_assign rfl) ?_
          refine sq_nil ?_
          refine ex_then ?_
          refine cw_block ?_
          refine cw_loop (X := Nat) (fun zz => [(12, .int .i64 (zz : Nat)), (0, t.val), (1, l.val), (5, x35.val)]) (fun zz => [own rcells 19 x35 (appL ts ls)]) (fun zz => zz ≤ ts.length) (fun zz => ts.length - zz) 0 (Nat.zero_le _) (Sub.cons rfl (Sub.cons rfl (Sub.cons rfl (Sub.cons rfl (Sub.nil _))))) (fun w hw => Keep.mem hw) ?_
          rintro i hI
          refine cw_seq ?_
          refine cw_seq ?_
          refine cw_region ?_
          refine sq_r (ry_move rfl) ?_
          refine sq_r (ry_move rfl) ?_
          refine sq_r (ry_lenH rfl) ?_
          refine sq_r (ry_int rfl rfl rfl) ?_
          refine sq_nil ?_
          refine ex_then ?_
          refine cw_cond rfl (fun h7 => ?_) (fun h7 => ?_)
          · try simp only [Bool.and_eq_true, Bool.or_eq_true, Bool.and_eq_false_iff, Bool.or_eq_false_iff, Bool.not_eq_true', Bool.not_eq_false', decide_eq_true_eq, decide_eq_false_iff_not, Bool.not_eq_true, Bool.not_eq_false] at h7
            obtain ⟨r, hrr⟩ := get_some (xs := ts) (i := i) (by omega)
            refine cw_skip ?_
            refine ex_then ?_
            refine cw_seq ?_
            refine cw_block ?_
            refine cw_seq ?_
            refine cw_region ?_
            refine sq_r (ry_assign rfl) ?_
            refine sq_nil ?_
            refine ex_then ?_
            refine cw_seq ?_
            refine cw_seq ?_
            refine cw_region ?_
            refine sq_r (ry_assign rfl) ?_
            refine sq_nil ?_
            refine ex_then ?_
            refine cw_block ?_
            refine cw_loop (X := Nat × Bool) (fun zz => [(14, .int .i64 (zz.1 : Nat)), (13, .bool zz.2), (0, t.val), (1, l.val), (5, x35.val), (12, .int .i64 (i : Nat))]) (fun zz => [own rcells 19 x35 (appL ts ls)]) (fun zz => zz.1 ≤ ls.length ∧ (zz.2 = false → ∀ c ∈ ls.take zz.1, c.r.p ≠ r.p)) (fun zz => ls.length - zz.1) (0, false) ⟨Nat.zero_le _, fun _ => by simp⟩ (Sub.cons rfl (Sub.cons rfl (Sub.cons rfl (Sub.cons rfl (Sub.cons rfl (Sub.cons rfl (Sub.nil _))))))) (fun w hw => Keep.mem hw) ?_
            rintro ⟨n, b⟩ ⟨hn1, hn2⟩
            dsimp only
            simp only at hn1 hn2
            refine cw_seq ?_
            refine cw_seq ?_
            refine cw_region ?_
            refine sq_r (ry_move rfl) ?_
            refine sq_r (ry_move rfl) ?_
            refine sq_r (ry_lenH rfl) ?_
            refine sq_r (ry_int rfl rfl rfl) ?_
            refine sq_nil ?_
            refine ex_then ?_
            refine cw_cond rfl (fun h8 => ?_) (fun h8 => ?_)
            · try simp only [Bool.and_eq_true, Bool.or_eq_true, Bool.and_eq_false_iff, Bool.or_eq_false_iff, Bool.not_eq_true', Bool.not_eq_false', decide_eq_true_eq, decide_eq_false_iff_not, Bool.not_eq_true, Bool.not_eq_false] at h8
              obtain ⟨c, hc⟩ := get_some (xs := ls) (i := n) (by omega)
              refine cw_skip ?_
              refine ex_then ?_
              refine cw_seq ?_
              refine cw_block ?_
              refine cw_quiet (by kernel_rfl) (by kernel_rfl) ?_
              refine qt_r (ry_move rfl) ?_
              refine qt_r (ry_move rfl) ?_
              refine qt_gf rfl rfl rfl (fun hg => (Ry.yl (ry_move rfl))) ?_
              refine qt_gf rfl rfl rfl (fun hg => (Ry.yl (ry_move rfl))) ?_
              refine qt_gf rfl rfl rfl (fun hg => (Ry.yl (ry_idxH (ev_c hg rfl) (ev_c hg rfl) n rfl (by simp only [Bool.and_eq_true, Bool.or_eq_true, Bool.and_eq_false_iff, Bool.or_eq_false_iff, Bool.not_eq_true', Bool.not_eq_false', decide_eq_true_eq, decide_eq_false_iff_not, Bool.not_eq_true, Bool.not_eq_false] at hg; omega)))) ?_
              refine qt_gf rfl rfl rfl (fun hg => (Ry.yl (ry_field (ev_c hg rfl) rfl))) ?_
              refine qt_gf rfl rfl rfl (fun hg => (Ry.yl (ry_field (ev_c hg rfl) rfl))) ?_
              refine qt_gf rfl rfl rfl (fun hg => (Ry.yl (ry_elempH (j := 0) (ev_c hg rfl) n hc rfl (by decide)))) ?_
              refine qt_gf rfl rfl rfl (fun hg => (Ry.yl (ry_move rfl))) ?_
              refine qt_gf rfl rfl rfl (fun hg => (Ry.yl (ry_move rfl))) ?_
              refine qt_gf rfl rfl rfl (fun hg => (Ry.yl (ry_idxH (ev_c hg rfl) (ev_c hg rfl) i rfl (by simp only [Bool.and_eq_true, Bool.or_eq_true, Bool.and_eq_false_iff, Bool.or_eq_false_iff, Bool.not_eq_true', Bool.not_eq_false', decide_eq_true_eq, decide_eq_false_iff_not, Bool.not_eq_true, Bool.not_eq_false] at hg; omega)))) ?_
              refine qt_gf rfl rfl rfl (fun hg => (Ry.yl (ry_field (ev_c hg rfl) rfl))) ?_
              refine qt_gf rfl rfl rfl (fun hg => (Ry.yl (ry_elempH (j := 0) (ev_c hg rfl) i hrr rfl (by decide)))) ?_
              refine qt_gf rfl rfl rfl (fun hg => (Ry.yl (ry_eq (ev_c hg rfl) (ev_c hg rfl)))) ?_
              refine qt_r (ry_or rfl rfl rfl) ?_
              refine qt_r (ry_assign rfl) ?_
              refine qt_nil ?_
              refine ex_block ?_
              refine ex_then ?_
              refine cw_region ?_
              refine sq_r (ry_move rfl) ?_
              refine sq_r (ry_add rfl rfl (by omega)) ?_
              refine sq_r (ry_assign rfl) ?_
              refine sq_nil ?_
              exact ex_again (x := (n, b)) (n + 1, (b || decide (c.r.p = r.p))) ⟨by first | omega | (simp only []; omega), fun hb => by simp only [Bool.or_eq_false_iff, decide_eq_false_iff_not] at hb; exact take_succ_all (hn2 hb.1) hc hb.2⟩ (by simp only; omega) (Sub.cons rfl (Sub.cons rfl (Sub.cons rfl (Sub.cons rfl (Sub.cons rfl (Sub.cons rfl (Sub.nil _))))))) (fun w hw => Keep.mem hw)
            · try simp only [Bool.and_eq_true, Bool.or_eq_true, Bool.and_eq_false_iff, Bool.or_eq_false_iff, Bool.not_eq_true', Bool.not_eq_false', decide_eq_true_eq, decide_eq_false_iff_not, Bool.not_eq_true, Bool.not_eq_false] at h8
              obtain rfl : n = ls.length := by omega
              rw [List.take_length] at hn2
              refine cw_exit ?_
              refine ex_pass_exit ?_
              refine ex_pass_exit ?_
              refine ex_block_hit ?_
              refine ex_then ?_
              refine cw_seq ?_
              refine cw_region ?_
              refine sq_r (ry_move rfl) ?_
              refine sq_r (ry_move rfl) ?_
              refine sq_r (ry_move rfl) ?_
              refine sq_r (ry_idxH rfl rfl i rfl (by omega)) ?_
              refine sq_r (ry_field rfl rfl) ?_
              refine sq_r (ry_elempH (j := 0) rfl i hrr rfl (by decide)) ?_
              refine sq_y (yl_callC rfl trivial) ?_
              refine sq_r (ry_move rfl) ?_
              refine sq_r (ry_extract (v := .int .u16 ((getH (appL ts ls) r.p).toNat : Nat)) rfl rfl) ?_
              refine sq_r (ry_extract (v := .int .i64 (getE (appL ts ls) r.p)) rfl rfl) ?_
              refine sq_r (ry_assign rfl) ?_
              refine sq_r (ry_assign rfl) ?_
              refine sq_nil ?_
              refine ex_then ?_
              refine cw_seq ?_
              refine cw_region ?_
              refine sq_r (ry_move rfl) ?_
              refine sq_r (ry_not rfl) ?_
              refine sq_r (ry_move rfl) ?_
              refine sq_gt rfl rfl rfl (fun hg => (Ry.yl (ry_move rfl))) ?_
              refine sq_gt rfl rfl rfl (fun hg => (Ry.yl (ry_int (ev_c hg rfl) rfl rfl))) ?_
              refine sq_gt rfl rfl rfl (fun hg => (Ry.yl (ry_move (ev_c hg rfl)))) ?_
              refine sq_nf rfl rfl rfl (fun hg => (Ry.yl (ry_move rfl))) ?_
              refine sq_nf rfl rfl rfl (fun hg => (Ry.yl (ry_move rfl))) ?_
              refine sq_nf rfl rfl rfl (fun hg => (Ry.yl (ry_move rfl))) ?_
              refine sq_nf rfl rfl rfl (fun hg => (Ry.yl (ry_idxH (ev_c hg rfl) (ev_c hg rfl) i rfl (by simp only [Bool.and_eq_true, Bool.or_eq_true, Bool.and_eq_false_iff, Bool.or_eq_false_iff, Bool.not_eq_true', Bool.not_eq_false', decide_eq_true_eq, decide_eq_false_iff_not, Bool.not_eq_true, Bool.not_eq_false] at hg; omega)))) ?_
              refine sq_nf rfl rfl rfl (fun hg => (Ry.yl (ry_field (ev_c hg rfl) rfl))) ?_
              refine sq_nf rfl rfl rfl (fun hg => (Ry.yl (ry_elemcH (j := 18) (ev_c hg rfl) i hrr rfl (by decide)))) ?_
              refine sq_nf rfl rfl rfl (fun hg => (Ry.yl (ry_int (ev_c hg rfl) (ev_c hg rfl) rfl))) ?_
              refine sq_gt rfl rfl rfl (fun hg => (Ry.yl (ry_or (ev_c hg rfl) rfl (ev_cc hg rfl)))) ?_
              refine sq_r (ry_and rfl rfl rfl) ?_
              refine sq_nil ?_
              refine ex_then ?_
              refine cw_cond rfl (fun h9 => ?_) (fun h9 => ?_)
              · try simp only [Bool.and_eq_true, Bool.or_eq_true, Bool.and_eq_false_iff, Bool.or_eq_false_iff, Bool.not_eq_true', Bool.not_eq_false', decide_eq_true_eq, decide_eq_false_iff_not, Bool.not_eq_true, Bool.not_eq_false] at h9
                exfalso
                obtain ⟨h91, h92⟩ := h9
                obtain ⟨w1, w2⟩ := app_kept hr hok (List.mem_of_getElem? hrr) (hn2 (by simpa using h91))
                simp [w1, w2] at h92
              · try simp only [Bool.and_eq_true, Bool.or_eq_true, Bool.and_eq_false_iff, Bool.or_eq_false_iff, Bool.not_eq_true', Bool.not_eq_false', decide_eq_true_eq, decide_eq_false_iff_not, Bool.not_eq_true, Bool.not_eq_false] at h9
                refine cw_skip ?_
                refine ex_block ?_
                refine ex_then ?_
                refine cw_region ?_
                refine sq_r (ry_move rfl) ?_
                refine sq_r (ry_add rfl rfl (by omega)) ?_
                refine sq_r (ry_assign rfl) ?_
                refine sq_nil ?_
                exact ex_again (x := (i)) (i + 1) (by first | omega | (simp only []; omega)) (by first | omega | (simp only []; omega)) (Sub.cons rfl (Sub.cons rfl (Sub.cons rfl (Sub.cons rfl (Sub.nil _))))) (fun w hw => Keep.mem hw)
          · try simp only [Bool.and_eq_true, Bool.or_eq_true, Bool.and_eq_false_iff, Bool.or_eq_false_iff, Bool.not_eq_true', Bool.not_eq_false', decide_eq_true_eq, decide_eq_false_iff_not, Bool.not_eq_true, Bool.not_eq_false] at h7
            have hso := tsort_right hru
            have hus := und_short hru
            have hsl : (shortF (appL ts ls)).length ≤ (appL ts ls).length := List.length_filter_le _ _
            have hul2 : (tsortF (appL ts ls)).length ≤ 256 := by rw [hso]; exact hul
            have hul3 : (undT (appL ts ls) ⟨32, 0, 0#128⟩).length ≤ 256 := by rw [hus]; omega
            refine cw_exit ?_
            refine ex_pass_exit ?_
            refine ex_pass_exit ?_
            refine ex_block_hit ?_
            refine ex_then ?_
            refine cw_seq ?_
            refine cw_region ?_
            refine sq_r (ry_move rfl) ?_
            refine sq_y (yl_callC rfl trivial) ?_
            refine sq_r (ry_move rfl) ?_
            refine sq_ty rfl rfl rfl (by simp [hru, hso, hus]) (Ry.yl (ry_move rfl)) ?_
            refine sq_tcallC rfl rfl (by simp [hru, hso, hus]) rfl (by omega) fun x169 hp169 => ?_
            refine sq_ty rfl rfl rfl (by simp [hru, hso, hus]) (Ry.yl (ry_move rfl)) ?_
            refine sq_ty rfl rfl rfl (by simp [hru, hso, hus]) (yl_callC rfl (by omega)) ?_
            refine sq_r (ry_pickT rfl (by simp [hru, hso, hus]) rfl rfl) ?_
            refine sq_r (ry_move rfl) ?_
            refine sq_ty rfl rfl rfl (by simp [hru, hso, hus]) (Ry.yl (ry_move rfl)) ?_
            refine sq_ty rfl rfl rfl (by simp [hru, hso, hus]) (Ry.yl (ry_build (v := .agg (pcells (⟨32, 0, 0#128⟩ : Pfx))) rfl (fun w => by kernel_rfl))) ?_
            refine sq_tcallC rfl rfl (by simp [hru, hso, hus]) rfl (by omega) fun x176 hp176 => ?_
            refine sq_ty rfl rfl rfl (by simp [hru, hso, hus]) (Ry.yl (ry_move rfl)) ?_
            refine sq_tcallC rfl rfl (by simp [hru, hso, hus]) rfl (by omega) fun x178 hp178 => ?_
            refine sq_ty rfl rfl rfl (by simp [hru, hso, hus]) (yl_callC rfl (by omega)) ?_
            refine sq_r (ry_pickT rfl (by simp [hru, hso, hus]) rfl rfl) ?_
            refine sq_r (ry_assign rfl) ?_
            refine sq_nil ?_
            refine ex_then ?_
            refine cw_ret ?_
            refine ex_ret (.inl rfl) (res_1 rfl (rv_tmp rfl)) (fun w1 hw => ?_)
            exact ⟨congrArg (fun b => Ending.returned (Value.bool b)) ((by simp [hus])), Keep.mem hw⟩

end Go.Proofs.Ytldkgicmfbofiaa

