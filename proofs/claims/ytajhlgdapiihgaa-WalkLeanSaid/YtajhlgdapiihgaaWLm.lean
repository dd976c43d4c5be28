/- The law WalkLean: walked. -/
import Derived.Test.YtajhlgdapiihgaaMi

set_option linter.unusedSimpArgs false
set_option linter.unusedVariables false
namespace Go.Proofs.Ytajhlgdapiihgaa
open Go.Eng Go.Kb
set_option maxRecDepth 20000 in
theorem walkLean_c (w : World) (t : Sv) (ts : List Rt) (k : Key) (bits : Int) (ht : Lies rcells 19 (hp w) t ts) : Calls Try.prog 6 #[t.val, .agg (kcells k), .int .i64 bits] w fun e w' => e = .returned (.bool true) ∧ Mem w [] w' := by
  have ght : Gv w t rcells 19 ts := ⟨ht⟩
  refine calls_of (args := [_, _, _]) Try.func6 rfl Try.ntmps6 rfl ?_
  change Cw _ _ _ _ _ [(0, t.val), (1, .agg (kcells k)), (2, .int .i64 bits)] []
  refine cw_seq ?_
  refine cw_region ?_
  refine sq_boxA rfl fun b4 => ?_
  refine sq_r (ry_assign rfl) ?_
  refine sq_nil ?_
  refine ex_then ?_
  refine cw_seq ?_
  refine cw_seq ?_
  refine cw_region ?_
  refine sq_y (yl_callC rfl trivial) ?_
  refine sq_r (ry_not rfl) ?_
  refine sq_nil ?_
  refine ex_then ?_
  refine cw_cond rfl (fun h0 => ?_) (fun h0 => ?_)
  · exfalso; simp at h0
  · try simp only [Bool.and_eq_true, Bool.or_eq_true, Bool.and_eq_false_iff, Bool.or_eq_false_iff, Bool.not_eq_true', Bool.not_eq_false', decide_eq_true_eq, decide_eq_false_iff_not, Bool.not_eq_true, Bool.not_eq_false] at h0
    refine cw_skip ?_
    refine ex_then ?_
    refine cw_seq ?_
    refine cw_seq ?_
    refine cw_region ?_
    refine sq_r (ry_move rfl) ?_
    refine sq_r (ry_lenH rfl) ?_
    refine sq_r (ry_int rfl rfl rfl) ?_
    refine sq_r (ry_move rfl) ?_
    refine sq_gf rfl rfl rfl (fun hg => (Ry.yl (ry_move rfl))) ?_
    refine sq_gf rfl rfl rfl (fun hg => yl_callC (evl_cons (ev_c hg rfl) evl_nil) trivial) ?_
    refine sq_gf rfl rfl rfl (fun hg => (Ry.yl (ry_not (ev_c hg rfl)))) ?_
    refine sq_r (ry_or rfl rfl rfl) ?_
    refine sq_nil ?_
    refine ex_then ?_
    refine cw_cond rfl (fun h1 => ?_) (fun h1 => ?_)
    · try simp only [Bool.and_eq_true, Bool.or_eq_true, Bool.and_eq_false_iff, Bool.or_eq_false_iff, Bool.not_eq_true', Bool.not_eq_false', decide_eq_true_eq, decide_eq_false_iff_not, Bool.not_eq_true, Bool.not_eq_false] at h1
      refine cw_seq ?_
      refine cw_region ?_
      refine sq_r (ry_assign rfl) ?_
      refine sq_nil ?_
      refine ex_then ?_
      refine cw_ret ?_
      refine ex_pass_ret ?_
      refine ex_ret (.inl rfl) (res_1 rfl (rv_tmp rfl)) (fun w1 hw => ?_)
      exact ⟨congrArg (fun b => Ending.returned (Value.bool b)) (rfl), Keep.mem hw⟩
    · try simp only [Bool.and_eq_true, Bool.or_eq_true, Bool.and_eq_false_iff, Bool.or_eq_false_iff, Bool.not_eq_true', Bool.not_eq_false', decide_eq_true_eq, decide_eq_false_iff_not, Bool.not_eq_true, Bool.not_eq_false] at h1
      have hr : tright ts = true := by simpa using h1.2
      have hlen := tr_len hr
      have hord := right_ord hr
      have hbt := ht.bd
      have hlv : leanV ts = leanP ts := if_pos hr
      have hlr := lean_right hr
      have hll := (leanP_sub ts).length_le
      have hlv2 : leanV (leanV ts) = leanV ts := by rw [hlv, leanV, if_pos hlr, lean_lean hord]
      have hlr2 : tright (leanV ts) = true := by rw [hlv]; exact hlr
      have hll2 : (leanV ts).length ≤ ts.length := by rw [hlv]; exact hll
      obtain ⟨hb1, hb2⟩ := best_lean (k := k) (bits := bits) hr
      rw [← hlv] at hb1 hb2
      refine cw_skip ?_
      refine ex_then ?_
      refine cw_seq ?_
      refine cw_region ?_
      refine sq_r (ry_move rfl) ?_
      refine sq_callC rfl (by omega) fun x26 hp26 => ?_
      refine sq_r (ry_assign rfl) ?_
      refine sq_nil ?_
      refine ex_then ?_
      refine cw_seq ?_
      refine cw_region ?_
      refine sq_r (ry_move rfl) ?_
      refine sq_r (ry_whole rfl) ?_
      refine sq_r (ry_move rfl) ?_
      refine sq_y (yl_callC rfl trivial) ?_
      refine sq_r (ry_move rfl) ?_
      refine sq_r (ry_extract (v := .agg (rcells (bestR ts k bits))) rfl rfl) ?_
      refine sq_r (ry_extract (v := .int .i64 (bestE ts k bits)) rfl rfl) ?_
      refine sq_allocA fun b8 => ?_
      refine sq_storeW rfl rfl ?_
      refine sq_r (ry_assign rfl) ?_
      refine sq_nil ?_
      refine ex_then ?_
      refine cw_seq ?_
      refine cw_region ?_
      refine sq_r (ry_move rfl) ?_
      refine sq_r (ry_whole rfl) ?_
      refine sq_r (ry_move rfl) ?_
      refine sq_y (yl_callC rfl trivial) ?_
      refine sq_r (ry_move rfl) ?_
      refine sq_r (ry_extract (v := .agg (rcells (bestR (leanV ts) k bits))) rfl rfl) ?_
      refine sq_r (ry_extract (v := .int .i64 (bestE (leanV ts) k bits)) rfl rfl) ?_
      refine sq_allocA fun b10 => ?_
      refine sq_storeW rfl rfl ?_
      refine sq_r (ry_assign rfl) ?_
      refine sq_nil ?_
      refine ex_then ?_
      refine cw_seq ?_
      refine cw_seq ?_
      refine cw_region ?_
      refine sq_r (ry_move rfl) ?_
      refine sq_r (ry_move rfl) ?_
      refine sq_r (ry_int rfl rfl rfl) ?_
      refine sq_r (ry_move rfl) ?_
      refine sq_ty rfl rfl rfl (by simp [hb1, hb2, hlr2, hlv2]) (Ry.yl (ry_field (o' := 18) rfl rfl)) ?_
      refine sq_ty rfl rfl rfl (by simp [hb1, hb2, hlr2, hlv2]) (Ry.yl (ry_cellc rfl)) ?_
      refine sq_ty rfl rfl rfl (by simp [hb1, hb2, hlr2, hlv2]) (Ry.yl (ry_field (o' := 18) rfl rfl)) ?_
      refine sq_ty rfl rfl rfl (by simp [hb1, hb2, hlr2, hlv2]) (Ry.yl (ry_cellc rfl)) ?_
      refine sq_ty rfl rfl rfl (by simp [hb1, hb2, hlr2, hlv2]) (Ry.yl (ry_int rfl rfl rfl)) ?_
      refine sq_r (ry_pickF rfl (by simp [hb1, hb2, hlr2, hlv2]) rfl rfl) ?_
      refine sq_r (ry_move rfl) ?_
      refine sq_ty rfl rfl rfl (by simp [hb1, hb2, hlr2, hlv2]) (Ry.yl (ry_move rfl)) ?_
      refine sq_ty rfl rfl rfl (by simp [hb1, hb2, hlr2, hlv2]) (yl_callC rfl trivial) ?_
      refine sq_ty rfl rfl rfl (by simp [hb1, hb2, hlr2, hlv2]) (Ry.yl (ry_not rfl)) ?_
      refine sq_r (ry_pickF rfl (by simp [hb1, hb2, hlr2, hlv2]) rfl rfl) ?_
      refine sq_r (ry_move rfl) ?_
      refine sq_ty rfl rfl rfl (by simp [hb1, hb2, hlr2, hlv2]) (Ry.yl (ry_move rfl)) ?_
      refine sq_tcallC rfl rfl (by simp [hb1, hb2, hlr2, hlv2]) rfl (by omega) fun x58 hp58 => ?_
      refine sq_ty rfl rfl rfl (by simp [hb1, hb2, hlr2, hlv2]) (Ry.yl (ry_move rfl)) ?_
      refine sq_ty rfl rfl rfl (by simp [hb1, hb2, hlr2, hlv2]) (yl_callC rfl (by rw [hlv2]; omega)) ?_
      refine sq_ty rfl rfl rfl (by simp [hb1, hb2, hlr2, hlv2]) (Ry.yl (ry_not rfl)) ?_
      refine sq_r (ry_pickF rfl (by simp [hb1, hb2, hlr2, hlv2]) rfl rfl) ?_
      refine sq_nil ?_
      refine ex_then ?_
      refine cw_cond rfl (fun h2 => ?_) (fun h2 => ?_)
      · exfalso; simp [hlv2] at h2
      · try simp only [Bool.and_eq_true, Bool.or_eq_true, Bool.and_eq_false_iff, Bool.or_eq_false_iff, Bool.not_eq_true', Bool.not_eq_false', decide_eq_true_eq, decide_eq_false_iff_not, Bool.not_eq_true, Bool.not_eq_false] at h2
        refine cw_skip ?_
        refine ex_then ?_
        refine cw_seq ?_
        refine cw_seq ?_
        refine cw_region ?_
        refine sq_r (ry_assign rfl) ?_
        refine sq_nil ?_
        refine ex_then ?_
        refine cw_block ?_
        refine cw_loop (X := Nat) (fun zz => [(12, .int .i64 (zz : Nat)), (0, t.val), (7, x26.val)]) (fun zz => [own rcells 19 x26 (leanV ts), blk b4 (kcells k) 24]) (fun zz => zz ≤ (leanV ts).length) (fun zz => (leanV ts).length - zz) 0 (Nat.zero_le _) (Sub.cons rfl (Sub.cons rfl (Sub.cons rfl (Sub.nil _)))) (fun w hw => Keep.mem hw) ?_
        rintro i hI
        refine cw_seq ?_
        refine cw_seq ?_
        refine cw_region ?_
        refine sq_r (ry_move rfl) ?_
        refine sq_r (ry_move rfl) ?_
        refine sq_r (ry_lenH rfl) ?_
        refine sq_r (ry_int rfl rfl rfl) ?_
        refine sq_nil ?_
        refine ex_then ?_
        refine cw_cond rfl (fun h3 => ?_) (fun h3 => ?_)
        · try simp only [Bool.and_eq_true, Bool.or_eq_true, Bool.and_eq_false_iff, Bool.or_eq_false_iff, Bool.not_eq_true', Bool.not_eq_false', decide_eq_true_eq, decide_eq_false_iff_not, Bool.not_eq_true, Bool.not_eq_false] at h3
          have hmt : ∀ r, (leanV ts)[i]? = some r → getE ts r.p = 0 ∧ getH ts r.p = r.hop := fun r hi => get_of hr (by rw [hlv] at hi; exact (leanP_sub ts).subset (List.mem_of_getElem? hi))
          refine cw_skip ?_
          refine ex_then ?_
          refine cw_seq ?_
          refine cw_block ?_
          refine cw_seq ?_
          refine cw_region ?_
          refine sq_r (ry_move rfl) ?_
          refine sq_r (ry_move rfl) ?_
          refine sq_r (ry_move rfl) ?_
          obtain ⟨e73, he73⟩ := get_some (xs := leanV ts) (i := i) (by omega)
          refine sq_r (ry_idxH rfl rfl i rfl (by omega)) ?_
          refine sq_r (ry_field rfl rfl) ?_
          refine sq_r (ry_elempH (j := 0) rfl i he73 rfl (by decide)) ?_
          refine sq_y (yl_callC rfl trivial) ?_
          refine sq_r (ry_move rfl) ?_
          refine sq_r (ry_extract (v := .int .u16 ((getH ts e73.p).toNat : Nat)) rfl rfl) ?_
          refine sq_r (ry_extract (v := .int .i64 (getE ts e73.p)) rfl rfl) ?_
          refine sq_r (ry_assign rfl) ?_
          refine sq_r (ry_assign rfl) ?_
          refine sq_nil ?_
          refine ex_then ?_
          refine cw_seq ?_
          refine cw_region ?_
          refine sq_r (ry_move rfl) ?_
          refine sq_r (ry_int rfl rfl rfl) ?_
          refine sq_r (ry_move rfl) ?_
          refine sq_gf rfl rfl rfl (fun hg => (Ry.yl (ry_move rfl))) ?_
          refine sq_gf rfl rfl rfl (fun hg => (Ry.yl (ry_move rfl))) ?_
          refine sq_gf rfl rfl rfl (fun hg => (Ry.yl (ry_move rfl))) ?_
          refine sq_gf rfl rfl rfl (fun hg => (Ry.yl (ry_idxH (ev_c hg rfl) (ev_c hg rfl) i rfl (by simp only [Bool.and_eq_true, Bool.or_eq_true, Bool.and_eq_false_iff, Bool.or_eq_false_iff, Bool.not_eq_true', Bool.not_eq_false', decide_eq_true_eq, decide_eq_false_iff_not, Bool.not_eq_true, Bool.not_eq_false] at hg; omega)))) ?_
          refine sq_gf rfl rfl rfl (fun hg => (Ry.yl (ry_field (ev_c hg rfl) rfl))) ?_
          refine sq_gf rfl rfl rfl (fun hg => (Ry.yl (ry_elemcH (j := 18) (ev_c hg rfl) i he73 rfl (by decide)))) ?_
          refine sq_gf rfl rfl rfl (fun hg => (Ry.yl (ry_int (ev_c hg rfl) (ev_c hg rfl) rfl))) ?_
          refine sq_r (ry_or rfl rfl rfl) ?_
          refine sq_nil ?_
          refine ex_then ?_
          refine cw_cond rfl (fun h4 => ?_) (fun h4 => ?_)
          · exfalso; obtain ⟨g1, g2⟩ := hmt _ he73; rw [g1, g2] at h4; simp at h4
          · try simp only [Bool.and_eq_true, Bool.or_eq_true, Bool.and_eq_false_iff, Bool.or_eq_false_iff, Bool.not_eq_true', Bool.not_eq_false', decide_eq_true_eq, decide_eq_false_iff_not, Bool.not_eq_true, Bool.not_eq_false] at h4
            refine cw_skip ?_
            refine ex_block ?_
            refine ex_then ?_
            refine cw_region ?_
            refine sq_r (ry_move rfl) ?_
            refine sq_r (ry_add rfl rfl (by omega)) ?_
            refine sq_r (ry_assign rfl) ?_
            refine sq_nil ?_
            exact ex_again (x := (i)) (i + 1) (by first | omega | (simp only []; omega)) (by first | omega | (simp only []; omega)) (Sub.cons rfl (Sub.cons rfl (Sub.cons rfl (Sub.nil _)))) (fun w hw => Keep.mem hw)
        · try simp only [Bool.and_eq_true, Bool.or_eq_true, Bool.and_eq_false_iff, Bool.or_eq_false_iff, Bool.not_eq_true', Bool.not_eq_false', decide_eq_true_eq, decide_eq_false_iff_not, Bool.not_eq_true, Bool.not_eq_false] at h3
          obtain rfl : i = (leanV ts).length := by omega
          refine cw_exit ?_
          refine ex_pass_exit ?_
          refine ex_pass_exit ?_
          refine ex_block_hit ?_
          refine ex_then ?_
          refine cw_seq ?_
          refine cw_region ?_
          refine sq_r (ry_move rfl) ?_
          refine sq_r (ry_lenH rfl) ?_
          refine sq_r (ry_move rfl) ?_
          refine sq_r (ry_lenH rfl) ?_
          refine sq_r (ry_int rfl rfl rfl) ?_
          refine sq_r (ry_assign rfl) ?_
          refine sq_nil ?_
          refine ex_then ?_
          refine cw_ret ?_
          refine ex_ret (.inl rfl) (res_1 rfl (rv_tmp rfl)) (fun w1 hw => ?_)
          exact ⟨congrArg (fun b => Ending.returned (Value.bool b)) ((by simp; omega)), Keep.mem hw⟩

end Go.Proofs.Ytajhlgdapiihgaa

