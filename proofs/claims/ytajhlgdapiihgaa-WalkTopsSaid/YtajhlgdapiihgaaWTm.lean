/- The law WalkTops: walked. -/
import Derived.Test.YtajhlgdapiihgaaMi

set_option linter.unusedSimpArgs false
set_option linter.unusedVariables false
namespace Go.Proofs.Ytajhlgdapiihgaa
open Go.Eng Go.Kb
set_option maxRecDepth 20000 in
theorem walkTops_c (w : World) (t : Sv) (ts : List Rt) (k : Key) (bits : Int) (ht : Lies rcells 19 (hp w) t ts) : Calls Try.prog 5 #[t.val, .agg (kcells k), .int .i64 bits] w fun e w' => e = .returned (.bool true) ∧ Mem w [] w' := by
  have ght : Gv w t rcells 19 ts := ⟨ht⟩
  refine calls_of (args := [_, _, _]) Try.func5 rfl Try.ntmps5 rfl ?_
  change Cw _ _ _ _ _ [(0, t.val), (1, .agg (kcells k)), (2, .int .i64 bits)] []
  refine cw_seq ?_
  refine cw_region ?_
  refine sq_boxA rfl fun b4 => ?_
  refine sq_r (ry_assign rfl) ?_
  refine sq_nil ?_
  refine ex_then ?_
  refine cw_seq ?_
  refine cw_seq ?_
  refine cw_region ?_
  refine sq_y (yl_callC rfl trivial) ?_
  refine sq_r (ry_not rfl) ?_
  refine sq_nil ?_
  refine ex_then ?_
  refine cw_cond rfl (fun h0 => ?_) (fun h0 => ?_)
  · exfalso; simp at h0
  · try simp only [Bool.and_eq_true, Bool.or_eq_true, Bool.and_eq_false_iff, Bool.or_eq_false_iff, Bool.not_eq_true', Bool.not_eq_false', decide_eq_true_eq, decide_eq_false_iff_not, Bool.not_eq_true, Bool.not_eq_false] at h0
    refine cw_skip ?_
    refine ex_then ?_
    refine cw_seq ?_
    refine cw_seq ?_
    refine cw_region ?_
    refine sq_r (ry_move rfl) ?_
    refine sq_r (ry_lenH rfl) ?_
    refine sq_r (ry_int rfl rfl rfl) ?_
    refine sq_r (ry_move rfl) ?_
    refine sq_gf rfl rfl rfl (fun hg => (Ry.yl (ry_move rfl))) ?_
    refine sq_gf rfl rfl rfl (fun hg => yl_callC (evl_cons (ev_c hg rfl) evl_nil) trivial) ?_
    refine sq_gf rfl rfl rfl (fun hg => (Ry.yl (ry_not (ev_c hg rfl)))) ?_
    refine sq_r (ry_or rfl rfl rfl) ?_
    refine sq_nil ?_
    refine ex_then ?_
    refine cw_cond rfl (fun h1 => ?_) (fun h1 => ?_)
    · try simp only [Bool.and_eq_true, Bool.or_eq_true, Bool.and_eq_false_iff, Bool.or_eq_false_iff, Bool.not_eq_true', Bool.not_eq_false', decide_eq_true_eq, decide_eq_false_iff_not, Bool.not_eq_true, Bool.not_eq_false] at h1
      refine cw_seq ?_
      refine cw_region ?_
      refine sq_r (ry_assign rfl) ?_
      refine sq_nil ?_
      refine ex_then ?_
      refine cw_ret ?_
      refine ex_pass_ret ?_
      refine ex_ret (.inl rfl) (res_1 rfl (rv_tmp rfl)) (fun w1 hw => ?_)
      exact ⟨congrArg (fun b => Ending.returned (Value.bool b)) (rfl), Keep.mem hw⟩
    · try simp only [Bool.and_eq_true, Bool.or_eq_true, Bool.and_eq_false_iff, Bool.or_eq_false_iff, Bool.not_eq_true', Bool.not_eq_false', decide_eq_true_eq, decide_eq_false_iff_not, Bool.not_eq_true, Bool.not_eq_false] at h1
      have hr : tright ts = true := by simpa using h1.2
      have hlen := tr_len hr
      have hord := right_ord hr
      have hbt := ht.bd
      have htv : topsV ts = topsP ts := if_pos hr
      have htl : (topsV ts).length ≤ ts.length := by rw [htv]; exact (topsP_sub ts).length_le
      have hlv : leanV ts = leanP ts := if_pos hr
      have hlr := lean_right hr
      have hll : (leanV ts).length ≤ ts.length := by rw [hlv]; exact (leanP_sub ts).length_le
      have htlv : topsV (leanV ts) = topsV ts := by rw [hlv, htv, topsV, if_pos hlr, tops_lean hord]
      have hd1 : depV (topsV ts) ≤ 1 := by rw [htv, depV, if_pos (tops_right hr)]; exact dep_tops hord
      have hd2 : depV (leanV ts) ≤ depV ts := by rw [hlv, depV, if_pos hlr, depV, if_pos hr]; exact dep_lean ts
      refine cw_skip ?_
      refine ex_then ?_
      refine cw_seq ?_
      refine cw_region ?_
      refine sq_r (ry_move rfl) ?_
      refine sq_callC rfl trivial fun x24 hp24 => ?_
      refine sq_r (ry_assign rfl) ?_
      refine sq_nil ?_
      refine ex_then ?_
      refine cw_seq ?_
      refine cw_region ?_
      refine sq_r (ry_assign rfl) ?_
      refine sq_nil ?_
      refine ex_then ?_
      refine cw_seq ?_
      refine cw_seq ?_
      refine cw_region ?_
      refine sq_r (ry_assign rfl) ?_
      refine sq_nil ?_
      refine ex_then ?_
      refine cw_block ?_
      refine cw_loop (X := Nat) (fun zz => [(9, .int .i64 (zz : Nat)), (8, .int .i64 ((((topsV ts).take zz).countP (onWay k bits)) : Nat)), (0, t.val), (2, .int .i64 bits), (4, .pointer (some ⟨b4, 0, none⟩)), (7, x24.val)]) (fun zz => [own rcells 19 x24 (topsV ts), blk b4 (kcells k) 24]) (fun zz => zz ≤ (topsV ts).length) (fun zz => (topsV ts).length - zz) 0 (Nat.zero_le _) (Sub.cons rfl (Sub.cons (look_eq rfl (by simp)) (Sub.cons rfl (Sub.cons rfl (Sub.cons rfl (Sub.cons rfl (Sub.nil _))))))) (fun w hw => Keep.mem hw) ?_
      rintro i hI
      refine cw_seq ?_
      refine cw_seq ?_
      refine cw_region ?_
      refine sq_r (ry_move rfl) ?_
      refine sq_r (ry_move rfl) ?_
      refine sq_r (ry_lenH rfl) ?_
      refine sq_r (ry_int rfl rfl rfl) ?_
      refine sq_nil ?_
      refine ex_then ?_
      refine cw_cond rfl (fun h2 => ?_) (fun h2 => ?_)
      · try simp only [Bool.and_eq_true, Bool.or_eq_true, Bool.and_eq_false_iff, Bool.or_eq_false_iff, Bool.not_eq_true', Bool.not_eq_false', decide_eq_true_eq, decide_eq_false_iff_not, Bool.not_eq_true, Bool.not_eq_false] at h2
        obtain ⟨e33, he33⟩ := get_some (xs := (topsV ts)) (i := i) (by omega)
        have hcl := List.countP_le_length (p := onWay k bits) (l := (topsV ts).take i)
        have htk := List.length_take (l := (topsV ts)) (i := i)
        obtain ⟨e56, he56⟩ := get_some (xs := (topsV ts)) (i := i - 1) (by omega)
        refine cw_skip ?_
        refine ex_then ?_
        refine cw_seq ?_
        refine cw_block ?_
        refine cw_cut (X := Unit) (fun zz => [(8, .int .i64 ((((topsV ts).take (i + 1)).countP (onWay k bits)) : Nat)), (0, t.val), (2, .int .i64 bits), (4, .pointer (some ⟨b4, 0, none⟩)), (7, x24.val), (9, .int .i64 (i : Nat))]) (fun zz => [own rcells 19 x24 (topsV ts), blk b4 (kcells k) 24]) (fun zz => True) ?_ ?_
        · refine cw_seq ?_
          refine cw_quiet (by kernel_rfl) (by kernel_rfl) ?_
          refine qt_r (ry_move rfl) ?_
          refine qt_r (ry_move rfl) ?_
          refine qt_r (ry_idxH rfl rfl i rfl (by omega)) ?_
          refine qt_r (ry_field rfl rfl) ?_
          refine qt_r (ry_field rfl rfl) ?_
          refine qt_r (ry_elemcH (j := 0) rfl i he33 rfl (by decide)) ?_
          refine qt_r (ry_move rfl) ?_
          refine qt_r (ry_int rfl rfl rfl) ?_
          refine qt_r (ry_move rfl) ?_
          refine qt_gt rfl rfl rfl (fun hg => (Ry.yl (ry_move rfl))) ?_
          refine qt_gt rfl rfl rfl (fun hg => (Ry.yl (ry_move rfl))) ?_
          refine qt_gt rfl rfl rfl (fun hg => (Ry.yl (ry_idxH (ev_c hg rfl) (ev_c hg rfl) i rfl (by simp only [Bool.and_eq_true, Bool.or_eq_true, Bool.and_eq_false_iff, Bool.or_eq_false_iff, Bool.not_eq_true', Bool.not_eq_false', decide_eq_true_eq, decide_eq_false_iff_not, Bool.not_eq_true, Bool.not_eq_false] at hg; omega)))) ?_
          refine qt_gt rfl rfl rfl (fun hg => (Ry.yl (ry_field (ev_c hg rfl) rfl))) ?_
          refine qt_gt rfl rfl rfl (fun hg => (Ry.yl (ry_elempH (j := 0) (ev_c hg rfl) i he33 rfl (by decide)))) ?_
          refine qt_gt rfl rfl rfl (fun hg => (Ry.yl (ry_whole rfl))) ?_
          refine qt_gt rfl rfl rfl (fun hg => yl_callC (evl_cons (ev_c hg rfl) (evl_cons (ev_c hg rfl) evl_nil)) trivial) ?_
          refine qt_r (ry_and rfl rfl rfl) ?_
          refine qt_nil ?_
          refine ex_then ?_
          refine cw_cond rfl (fun h3 => ?_) (fun h3 => ?_)
          · try simp only [Bool.and_eq_true, Bool.or_eq_true, Bool.and_eq_false_iff, Bool.or_eq_false_iff, Bool.not_eq_true', Bool.not_eq_false', decide_eq_true_eq, decide_eq_false_iff_not, Bool.not_eq_true, Bool.not_eq_false] at h3
            have hy : onWay k bits e33 = true := by simp only [onWay, Bool.and_eq_true, decide_eq_true_eq]; exact h3
            refine cw_region ?_
            refine sq_r (ry_move rfl) ?_
            refine sq_r (ry_add rfl rfl (by omega)) ?_
            refine sq_r (ry_assign rfl) ?_
            refine sq_nil ?_
            exact ex_meet () (by first | omega | (simp only []; omega)) (Sub.cons (look_eq rfl (by rw [take_snoc he33, List.countP_append]; simp [hy])) (Sub.cons rfl (Sub.cons rfl (Sub.cons rfl (Sub.cons rfl (Sub.cons rfl (Sub.nil _))))))) (fun w hw => Keep.mem hw)
          · try simp only [Bool.and_eq_true, Bool.or_eq_true, Bool.and_eq_false_iff, Bool.or_eq_false_iff, Bool.not_eq_true', Bool.not_eq_false', decide_eq_true_eq, decide_eq_false_iff_not, Bool.not_eq_true, Bool.not_eq_false] at h3
            have hy : ¬ onWay k bits e33 = true := by simp only [onWay, Bool.and_eq_true, decide_eq_true_eq]; rintro ⟨g1, g2⟩; rcases h3 with h | h; (exact h g1); (rw [g2] at h; cases h)
            refine cw_skip ?_
            exact ex_meet () (by first | omega | (simp only []; omega)) (Sub.cons (look_eq rfl (by rw [take_snoc he33, List.countP_append]; simp [hy])) (Sub.cons rfl (Sub.cons rfl (Sub.cons rfl (Sub.cons rfl (Sub.cons rfl (Sub.nil _))))))) (fun w hw => Keep.mem hw)
        · rintro ⟨⟩ hJ
          refine cw_seq ?_
          refine cw_quiet (by kernel_rfl) (by kernel_rfl) ?_
          refine qt_r (ry_move rfl) ?_
          refine qt_r (ry_int rfl rfl rfl) ?_
          refine qt_r (ry_move rfl) ?_
          refine qt_gt rfl rfl rfl (fun hg => (Ry.yl (ry_move rfl))) ?_
          refine qt_gt rfl rfl rfl (fun hg => (Ry.yl (ry_move rfl))) ?_
          refine qt_gt rfl rfl rfl (fun hg => (Ry.yl (ry_sub (ev_c hg rfl) rfl (by simp only [Bool.and_eq_true, Bool.or_eq_true, Bool.and_eq_false_iff, Bool.or_eq_false_iff, Bool.not_eq_true', Bool.not_eq_false', decide_eq_true_eq, decide_eq_false_iff_not, Bool.not_eq_true, Bool.not_eq_false] at hg; omega)))) ?_
          refine qt_gt rfl rfl rfl (fun hg => (Ry.yl (ry_idxH (ev_c hg rfl) (ev_c hg rfl) (i - 1) (by simp only [Bool.and_eq_true, Bool.or_eq_true, Bool.and_eq_false_iff, Bool.or_eq_false_iff, Bool.not_eq_true', Bool.not_eq_false', decide_eq_true_eq, decide_eq_false_iff_not, Bool.not_eq_true, Bool.not_eq_false] at hg; omega) (by simp only [Bool.and_eq_true, Bool.or_eq_true, Bool.and_eq_false_iff, Bool.or_eq_false_iff, Bool.not_eq_true', Bool.not_eq_false', decide_eq_true_eq, decide_eq_false_iff_not, Bool.not_eq_true, Bool.not_eq_false] at hg; omega)))) ?_
          refine qt_gt rfl rfl rfl (fun hg => (Ry.yl (ry_field (ev_c hg rfl) rfl))) ?_
          refine qt_gt rfl rfl rfl (fun hg => (Ry.yl (ry_elempH (j := 0) (ev_c hg rfl) (i - 1) he56 rfl (by decide)))) ?_
          refine qt_gt rfl rfl rfl (fun hg => (Ry.yl (ry_move rfl))) ?_
          refine qt_gt rfl rfl rfl (fun hg => (Ry.yl (ry_move rfl))) ?_
          refine qt_gt rfl rfl rfl (fun hg => (Ry.yl (ry_idxH (ev_c hg rfl) (ev_c hg rfl) i rfl (by simp only [Bool.and_eq_true, Bool.or_eq_true, Bool.and_eq_false_iff, Bool.or_eq_false_iff, Bool.not_eq_true', Bool.not_eq_false', decide_eq_true_eq, decide_eq_false_iff_not, Bool.not_eq_true, Bool.not_eq_false] at hg; omega)))) ?_
          refine qt_gt rfl rfl rfl (fun hg => (Ry.yl (ry_field (ev_c hg rfl) rfl))) ?_
          refine qt_gt rfl rfl rfl (fun hg => (Ry.yl (ry_elempH (j := 0) (ev_c hg rfl) i he33 rfl (by decide)))) ?_
          refine qt_gt rfl rfl rfl (fun hg => yl_callC (evl_cons (ev_c hg rfl) (evl_cons (ev_c hg rfl) evl_nil)) trivial) ?_
          refine qt_r (ry_and rfl rfl rfl) ?_
          refine qt_nil ?_
          refine ex_then ?_
          refine cw_cond rfl (fun h4 => ?_) (fun h4 => ?_)
          · try simp only [Bool.and_eq_true, Bool.or_eq_true, Bool.and_eq_false_iff, Bool.or_eq_false_iff, Bool.not_eq_true', Bool.not_eq_false', decide_eq_true_eq, decide_eq_false_iff_not, Bool.not_eq_true, Bool.not_eq_false] at h4
            exfalso; have hno := tops_no (i := i - 1) hr (a := e56) (b := e33) (by rw [← htv]; exact he56) (by rw [← htv, show i - 1 + 1 = i by omega]; exact he33); rw [h4.2] at hno; cases hno
          · try simp only [Bool.and_eq_true, Bool.or_eq_true, Bool.and_eq_false_iff, Bool.or_eq_false_iff, Bool.not_eq_true', Bool.not_eq_false', decide_eq_true_eq, decide_eq_false_iff_not, Bool.not_eq_true, Bool.not_eq_false] at h4
            refine cw_skip ?_
            refine ex_block ?_
            refine ex_then ?_
            refine cw_region ?_
            refine sq_r (ry_move rfl) ?_
            refine sq_r (ry_add rfl rfl (by omega)) ?_
            refine sq_r (ry_assign rfl) ?_
            refine sq_nil ?_
            exact ex_again (x := (i)) (i + 1) (by first | omega | (simp only []; omega)) (by first | omega | (simp only []; omega)) (Sub.cons rfl (Sub.cons rfl (Sub.cons rfl (Sub.cons rfl (Sub.cons rfl (Sub.cons rfl (Sub.nil _))))))) (fun w hw => Keep.mem hw)
      · try simp only [Bool.and_eq_true, Bool.or_eq_true, Bool.and_eq_false_iff, Bool.or_eq_false_iff, Bool.not_eq_true', Bool.not_eq_false', decide_eq_true_eq, decide_eq_false_iff_not, Bool.not_eq_true, Bool.not_eq_false] at h2
        obtain rfl : i = (topsV ts).length := by omega
        obtain ⟨hc1, hc2⟩ := tops_few (k := k) (bits := bits) hr
        rw [← htv] at hc1 hc2
        have hz1 : ((((topsV ts).countP (onWay k bits) : Nat)) : Int) < 2 := by omega
        have hz2 : ((((topsV ts).countP (onWay k bits) : Nat)) : Int) = 1 ↔ bestE ts k bits = 0 := by rw [← hc2]; omega
        have hz3 : ((depV (topsV ts) : Nat) : Int) ≤ 1 := by omega
        refine cw_exit ?_
        refine ex_pass_exit ?_
        refine ex_pass_exit ?_
        refine ex_block_hit ?_
        refine ex_then ?_
        refine cw_seq ?_
        refine cw_region ?_
        refine sq_r (ry_move rfl) ?_
        refine sq_r (ry_whole rfl) ?_
        refine sq_r (ry_move rfl) ?_
        refine sq_y (yl_callC rfl trivial) ?_
        refine sq_r (ry_move rfl) ?_
        refine sq_r (ry_extract (v := .agg (rcells (bestR ts k bits))) rfl rfl) ?_
        refine sq_r (ry_extract (v := .int .i64 (bestE ts k bits)) rfl rfl) ?_
        refine sq_allocA fun b10 => ?_
        refine sq_storeW rfl rfl ?_
        refine sq_r (ry_assign rfl) ?_
        refine sq_nil ?_
        refine ex_then ?_
        refine cw_seq ?_
        refine cw_region ?_
        refine sq_r (ry_move rfl) ?_
        refine sq_callC rfl (by omega) fun x74 hp74 => ?_
        refine sq_callC rfl trivial fun x75 hp75 => ?_
        refine sq_r (ry_assign rfl) ?_
        refine sq_nil ?_
        refine ex_then ?_
        refine cw_seq ?_
        refine cw_region ?_
        refine sq_r (ry_move rfl) ?_
        refine sq_r (ry_int rfl rfl rfl) ?_
        refine sq_r (ry_move rfl) ?_
        refine sq_ty rfl rfl rfl (by simp [hz1, hz2, htlv, hz3, hd2]) (Ry.yl (ry_move rfl)) ?_
        refine sq_ty rfl rfl rfl (by simp [hz1, hz2, htlv, hz3, hd2]) (Ry.yl (ry_int rfl rfl rfl)) ?_
        refine sq_ty rfl rfl rfl (by simp [hz1, hz2, htlv, hz3, hd2]) (Ry.yl (ry_move rfl)) ?_
        refine sq_ty rfl rfl rfl (by simp [hz1, hz2, htlv, hz3, hd2]) (Ry.yl (ry_int rfl rfl rfl)) ?_
        refine sq_ty rfl rfl rfl (by simp [hz1, hz2, htlv, hz3, hd2]) (Ry.yl (ry_eqb rfl rfl Try.underlying4)) ?_
        refine sq_r (ry_pickT rfl (by simp [hz1, hz2, htlv, hz3, hd2]) rfl rfl) ?_
        refine sq_r (ry_move rfl) ?_
        refine sq_ty rfl rfl rfl (by simp [hz1, hz2, htlv, hz3, hd2]) (Ry.yl (ry_move rfl)) ?_
        refine sq_ty rfl rfl rfl (by simp [hz1, hz2, htlv, hz3, hd2]) (Ry.yl (ry_move rfl)) ?_
        refine sq_ty rfl rfl rfl (by simp [hz1, hz2, htlv, hz3, hd2]) (yl_callC rfl (by rw [htlv]; omega)) ?_
        refine sq_r (ry_pickT rfl (by simp [hz1, hz2, htlv, hz3, hd2]) rfl rfl) ?_
        refine sq_r (ry_move rfl) ?_
        refine sq_ty rfl rfl rfl (by simp [hz1, hz2, htlv, hz3, hd2]) (Ry.yl (ry_move rfl)) ?_
        refine sq_ty rfl rfl rfl (by simp [hz1, hz2, htlv, hz3, hd2]) (yl_callC rfl trivial) ?_
        refine sq_ty rfl rfl rfl (by simp [hz1, hz2, htlv, hz3, hd2]) (Ry.yl (ry_int rfl rfl rfl)) ?_
        refine sq_r (ry_pickT rfl (by simp [hz1, hz2, htlv, hz3, hd2]) rfl rfl) ?_
        refine sq_r (ry_move rfl) ?_
        refine sq_ty rfl rfl rfl (by simp [hz1, hz2, htlv, hz3, hd2]) (Ry.yl (ry_move rfl)) ?_
        refine sq_tcallC rfl rfl (by simp [hz1, hz2, htlv, hz3, hd2]) rfl (by omega) fun x97 hp97 => ?_
        refine sq_ty rfl rfl rfl (by simp [hz1, hz2, htlv, hz3, hd2]) (yl_callC rfl trivial) ?_
        refine sq_ty rfl rfl rfl (by simp [hz1, hz2, htlv, hz3, hd2]) (Ry.yl (ry_move rfl)) ?_
        refine sq_ty rfl rfl rfl (by simp [hz1, hz2, htlv, hz3, hd2]) (yl_callC rfl trivial) ?_
        refine sq_ty rfl rfl rfl (by simp [hz1, hz2, htlv, hz3, hd2]) (Ry.yl (ry_int rfl rfl rfl)) ?_
        refine sq_r (ry_pickT rfl (by simp [hz1, hz2, htlv, hz3, hd2]) rfl rfl) ?_
        refine sq_r (ry_assign rfl) ?_
        refine sq_nil ?_
        refine ex_then ?_
        refine cw_ret ?_
        refine ex_ret (.inl rfl) (res_1 rfl (rv_tmp rfl)) (fun w1 hw => ?_)
        exact ⟨congrArg (fun b => Ending.returned (Value.bool b)) ((by simp; omega)), Keep.mem hw⟩

end Go.Proofs.Ytajhlgdapiihgaa

