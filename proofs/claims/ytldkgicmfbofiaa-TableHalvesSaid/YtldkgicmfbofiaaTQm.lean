/- The law of halves: walked. -/
import Derived.Test.YtldkgicmfbofiaaMz
import Derived.Test.YtldkgicmfbofiaaMu

set_option linter.unusedSimpArgs false
set_option linter.unusedVariables false
namespace Go.Proofs.Ytldkgicmfbofiaa
open Go.Eng Go.Kb
set_option maxRecDepth 20000 in
theorem tableHalves_c (w : World) (t : Sv) (ts : List Rt) (l : Sv) (ls : List Ch) (m : Sv) (ms : List Ch) (r : Rt) (ht : Lies rcells 19 (hp w) t ts) (hl : Lies chcells 20 (hp w) l ls) (hm : Lies chcells 20 (hp w) m ms) : Calls Try.prog 6 #[t.val, l.val, m.val, .agg (rcells r)] w fun e w' => e = .returned (.bool true) ∧ Mem w [] w' := by
  have ght : Gv w t rcells 19 ts := ⟨ht⟩
  have ghl : Gv w l chcells 20 ls := ⟨hl⟩
  have ghm : Gv w m chcells 20 ms := ⟨hm⟩
  refine calls_of (args := [_, _, _, _]) Try.func6 rfl Try.ntmps6 rfl ?_
  change Cw _ _ _ _ _ [(0, t.val), (1, l.val), (2, m.val), (3, .agg (rcells r))] []
  refine cw_seq ?_
  refine cw_region ?_
  refine sq_boxA rfl fun b7 => ?_
  refine sq_r (ry_assign rfl) ?_
  refine sq_nil ?_
  refine ex_then ?_
  refine cw_seq ?_
  refine cw_seq ?_
  refine cw_region ?_
  refine sq_y (yl_callC rfl trivial) ?_
  refine sq_r (ry_not rfl) ?_
  refine sq_nil ?_
  refine ex_then ?_
  refine cw_cond rfl (fun h0 => ?_) (fun h0 => ?_)
  · exfalso; simp at h0
  · try simp only [Bool.and_eq_true, Bool.or_eq_true, Bool.and_eq_false_iff, Bool.or_eq_false_iff, Bool.not_eq_true', Bool.not_eq_false', decide_eq_true_eq, decide_eq_false_iff_not, Bool.not_eq_true, Bool.not_eq_false] at h0
    refine cw_skip ?_
    refine ex_then ?_
    refine cw_seq ?_
    refine cw_seq ?_
    refine cw_region ?_
    refine sq_r (ry_move rfl) ?_
    refine sq_r (ry_lenH rfl) ?_
    refine sq_r (ry_int rfl rfl rfl) ?_
    refine sq_r (ry_move rfl) ?_
    refine sq_gf rfl rfl rfl (fun hg => (Ry.yl (ry_move rfl))) ?_
    refine sq_gf rfl rfl rfl (fun hg => (Ry.yl (ry_lenH (ev_c hg rfl)))) ?_
    refine sq_gf rfl rfl rfl (fun hg => (Ry.yl (ry_int (ev_c hg rfl) rfl rfl))) ?_
    refine sq_r (ry_or rfl rfl rfl) ?_
    refine sq_r (ry_move rfl) ?_
    refine sq_gf rfl rfl rfl (fun hg => (Ry.yl (ry_move rfl))) ?_
    refine sq_gf rfl rfl rfl (fun hg => (Ry.yl (ry_lenH (ev_c hg rfl)))) ?_
    refine sq_gf rfl rfl rfl (fun hg => (Ry.yl (ry_int (ev_c hg rfl) rfl rfl))) ?_
    refine sq_r (ry_or rfl rfl rfl) ?_
    refine sq_r (ry_move rfl) ?_
    refine sq_gf rfl rfl rfl (fun hg => (Ry.yl (ry_move rfl))) ?_
    refine sq_gf rfl rfl rfl (fun hg => yl_callC (evl_cons (ev_c hg rfl) evl_nil) trivial) ?_
    refine sq_gf rfl rfl rfl (fun hg => (Ry.yl (ry_not (ev_c hg rfl)))) ?_
    refine sq_r (ry_or rfl rfl rfl) ?_
    refine sq_nil ?_
    refine ex_then ?_
    refine cw_cond rfl (fun h1 => ?_) (fun h1 => ?_)
    · try simp only [Bool.and_eq_true, Bool.or_eq_true, Bool.and_eq_false_iff, Bool.or_eq_false_iff, Bool.not_eq_true', Bool.not_eq_false', decide_eq_true_eq, decide_eq_false_iff_not, Bool.not_eq_true, Bool.not_eq_false] at h1
      refine cw_seq ?_
      refine cw_region ?_
      refine sq_r (ry_assign rfl) ?_
      refine sq_nil ?_
      refine ex_then ?_
      refine cw_ret ?_
      refine ex_pass_ret ?_
      refine ex_ret (.inl rfl) (res_1 rfl (rv_tmp rfl)) (fun w1 hw => ?_)
      exact ⟨congrArg (fun b => Ending.returned (Value.bool b)) (rfl), Keep.mem hw⟩
    · try simp only [Bool.and_eq_true, Bool.or_eq_true, Bool.and_eq_false_iff, Bool.or_eq_false_iff, Bool.not_eq_true', Bool.not_eq_false', decide_eq_true_eq, decide_eq_false_iff_not, Bool.not_eq_true, Bool.not_eq_false] at h1
      have hr : tright ts = true := by simpa using h1.2
      have hlen := tr_len hr
      obtain ⟨y1, y2⟩ := app_halves hr ls ms
      have hal := tr_len (apL_right hr ls)
      have ham := tr_len (apL_right (apL_right hr ls) ms)
      have hax := tr_len (apL_right hr ([] ++ ls ++ ms))
      have hay := tr_len (apL_right hr [⟨r, false⟩, ⟨r, true⟩])
      refine cw_skip ?_
      refine ex_then ?_
      refine cw_seq ?_
      refine cw_region ?_
      refine sq_r (ry_move rfl) ?_
      refine sq_r (ry_move rfl) ?_
      refine sq_callC rfl (by omega) fun x42 hp42 => ?_
      refine sq_r (ry_move rfl) ?_
      refine sq_r (ry_extract (v := x42.val) rfl rfl) ?_
      refine sq_r (ry_extract (v := .int .i64 (appE ts ls)) rfl rfl) ?_
      refine sq_r (ry_assign rfl) ?_
      refine sq_r (ry_assign rfl) ?_
      refine sq_nil ?_
      refine ex_then ?_
      refine cw_seq ?_
      refine cw_region ?_
      refine sq_r (ry_move rfl) ?_
      refine sq_r (ry_move rfl) ?_
      refine sq_callC rfl (by omega) fun x48 hp48 => ?_
      refine sq_r (ry_move rfl) ?_
      refine sq_r (ry_extract (v := x48.val) rfl rfl) ?_
      refine sq_r (ry_extract (v := .int .i64 (appE (appL ts ls) ms)) rfl rfl) ?_
      refine sq_r (ry_assign rfl) ?_
      refine sq_r (ry_assign rfl) ?_
      refine sq_nil ?_
      refine ex_then ?_
      refine cw_seq ?_
      refine cw_region ?_
      refine sq_r (ry_move rfl) ?_
      refine sq_build0 chcells fun b53 => ?_
      refine sq_r (ry_move rfl) ?_
      refine sq_append (s := ⟨false, b53, 0, 0, 0, none⟩) (ys := ls) rfl rfl (by decide) (fun w hw => src_rows (s := l) Try.underlying27 (by decide) ((inferInstance : Hd _ _ l chcells 20 ls).h w hw)) (by simp only [List.length_append, List.length_cons, List.length_nil]; omega) (by simp only [List.length_append, List.length_cons, List.length_nil]; omega) fun s55 hs55 hl55 => ?_
      refine sq_r (ry_move rfl) ?_
      refine sq_append (s := s55) (ys := ms) rfl rfl (by decide) (fun w hw => src_rows (s := m) Try.underlying27 (by decide) ((inferInstance : Hd _ _ m chcells 20 ms).h w hw)) (by simp only [List.length_append, List.length_cons, List.length_nil]; omega) (by simp only [List.length_append, List.length_cons, List.length_nil]; omega) fun s57 hs57 hl57 => ?_
      refine sq_callC rfl (by omega) fun x58 hp58 => ?_
      refine sq_r (ry_move rfl) ?_
      refine sq_r (ry_extract (v := x58.val) rfl rfl) ?_
      refine sq_r (ry_extract (v := .int .i64 (appE ts (([] ++ ls) ++ ms))) rfl rfl) ?_
      refine sq_r (ry_assign rfl) ?_
      refine sq_r (ry_assign rfl) ?_
      refine sq_nil ?_
      refine ex_then ?_
      refine cw_seq ?_
      refine cw_seq ?_
      refine cw_region ?_
      refine sq_r (ry_move rfl) ?_
      refine sq_r (ry_int rfl rfl rfl) ?_
      refine sq_r (ry_move rfl) ?_
      refine sq_gt rfl rfl rfl (fun hg => (Ry.yl (ry_move rfl))) ?_
      refine sq_gt rfl rfl rfl (fun hg => (Ry.yl (ry_int (ev_c hg rfl) rfl rfl))) ?_
      refine sq_r (ry_and rfl rfl rfl) ?_
      refine sq_r (ry_move rfl) ?_
      refine sq_gt rfl rfl rfl (fun hg => (Ry.yl (ry_move rfl))) ?_
      refine sq_gt rfl rfl rfl (fun hg => (Ry.yl (ry_int (ev_c hg rfl) rfl rfl))) ?_
      refine sq_gt rfl rfl rfl (fun hg => (Ry.yl (ry_move (ev_c hg rfl)))) ?_
      refine sq_nf rfl rfl rfl (fun hg => (Ry.yl (ry_move rfl))) ?_
      refine sq_nf rfl rfl rfl (fun hg => (Ry.yl (ry_move rfl))) ?_
      refine sq_nf rfl rfl rfl (fun hg => yl_callC (evl_cons (ev_c hg rfl) (evl_cons (ev_c hg rfl) evl_nil)) (by simp only [Bool.and_eq_true, Bool.or_eq_true, Bool.and_eq_false_iff, Bool.or_eq_false_iff, Bool.not_eq_true', Bool.not_eq_false', decide_eq_true_eq, decide_eq_false_iff_not, Bool.not_eq_true, Bool.not_eq_false] at hg; omega)) ?_
      refine sq_nf rfl rfl rfl (fun hg => (Ry.yl (ry_not (ev_c hg rfl)))) ?_
      refine sq_gt rfl rfl rfl (fun hg => (Ry.yl (ry_or (ev_c hg rfl) rfl (ev_cc hg rfl)))) ?_
      refine sq_r (ry_and rfl rfl rfl) ?_
      refine sq_nil ?_
      refine ex_then ?_
      refine cw_cond rfl (fun h2 => ?_) (fun h2 => ?_)
      · try simp only [Bool.and_eq_true, Bool.or_eq_true, Bool.and_eq_false_iff, Bool.or_eq_false_iff, Bool.not_eq_true', Bool.not_eq_false', decide_eq_true_eq, decide_eq_false_iff_not, Bool.not_eq_true, Bool.not_eq_false] at h2
        exfalso
        obtain ⟨⟨h21, h22⟩, h23⟩ := h2
        obtain ⟨y3, y4⟩ := y1 h21
        rcases h23 with h | h
        · exact h (by simpa using y3.trans h22)
        · exact h (by simpa using (y4 h22).symm)
      · try simp only [Bool.and_eq_true, Bool.or_eq_true, Bool.and_eq_false_iff, Bool.or_eq_false_iff, Bool.not_eq_true', Bool.not_eq_false', decide_eq_true_eq, decide_eq_false_iff_not, Bool.not_eq_true, Bool.not_eq_false] at h2
        refine cw_skip ?_
        refine ex_then ?_
        refine cw_seq ?_
        refine cw_seq ?_
        refine cw_region ?_
        refine sq_r (ry_move rfl) ?_
        refine sq_r (ry_int rfl rfl rfl) ?_
        refine sq_r (ry_move rfl) ?_
        refine sq_gt rfl rfl rfl (fun hg => (Ry.yl (ry_move rfl))) ?_
        refine sq_gt rfl rfl rfl (fun hg => (Ry.yl (ry_move rfl))) ?_
        refine sq_gt rfl rfl rfl (fun hg => (Ry.yl (ry_int (ev_c hg rfl) (ev_c hg rfl) rfl))) ?_
        refine sq_gt rfl rfl rfl (fun hg => (Ry.yl (ry_move (ev_c hg rfl)))) ?_
        refine sq_nf rfl rfl rfl (fun hg => (Ry.yl (ry_move rfl))) ?_
        refine sq_nf rfl rfl rfl (fun hg => (Ry.yl (ry_move rfl))) ?_
        refine sq_nf rfl rfl rfl (fun hg => yl_callC (evl_cons (ev_c hg rfl) (evl_cons (ev_c hg rfl) evl_nil)) (by simp only [Bool.and_eq_true, Bool.or_eq_true, Bool.and_eq_false_iff, Bool.or_eq_false_iff, Bool.not_eq_true', Bool.not_eq_false', decide_eq_true_eq, decide_eq_false_iff_not, Bool.not_eq_true, Bool.not_eq_false] at hg; omega)) ?_
        refine sq_nf rfl rfl rfl (fun hg => (Ry.yl (ry_not (ev_c hg rfl)))) ?_
        refine sq_gt rfl rfl rfl (fun hg => (Ry.yl (ry_or (ev_c hg rfl) rfl (ev_cc hg rfl)))) ?_
        refine sq_r (ry_and rfl rfl rfl) ?_
        refine sq_nil ?_
        refine ex_then ?_
        refine cw_cond rfl (fun h3 => ?_) (fun h3 => ?_)
        · try simp only [Bool.and_eq_true, Bool.or_eq_true, Bool.and_eq_false_iff, Bool.or_eq_false_iff, Bool.not_eq_true', Bool.not_eq_false', decide_eq_true_eq, decide_eq_false_iff_not, Bool.not_eq_true, Bool.not_eq_false] at h3
          exfalso
          obtain ⟨h31, h32⟩ := h3
          obtain ⟨y3, y4⟩ := y2 h31
          rcases h32 with h | h
          · exact h (by simpa using y3)
          · exact h (by simpa using y4)
        · try simp only [Bool.and_eq_true, Bool.or_eq_true, Bool.and_eq_false_iff, Bool.or_eq_false_iff, Bool.not_eq_true', Bool.not_eq_false', decide_eq_true_eq, decide_eq_false_iff_not, Bool.not_eq_true, Bool.not_eq_false] at h3
          refine cw_skip ?_
          refine ex_then ?_
          refine cw_seq ?_
          refine cw_region ?_
          refine sq_r (ry_move rfl) ?_
          refine sq_r (ry_field (o' := 0) rfl rfl) ?_
          refine sq_r (ry_part rfl) ?_
          refine sq_y (yl_callC rfl trivial) ?_
          refine sq_r (ry_move rfl) ?_
          refine sq_r (ry_extract (v := .int .u16 ((getH ts r.p).toNat : Nat)) rfl rfl) ?_
          refine sq_r (ry_extract (v := .int .i64 (getE ts r.p)) rfl rfl) ?_
          refine sq_r (ry_assign rfl) ?_
          refine sq_r (ry_assign rfl) ?_
          refine sq_nil ?_
          refine ex_then ?_
          refine cw_seq ?_
          refine cw_region ?_
          refine sq_r (ry_move rfl) ?_
          refine sq_r (ry_whole rfl) ?_
          refine sq_r (ry_buildc rfl) ?_
          refine sq_r (ry_whole rfl) ?_
          refine sq_r (ry_buildc rfl) ?_
          refine sq_buildSlice (enc := chcells) (vals := [_, _]) [(⟨r, false⟩ : Ch), (⟨r, true⟩ : Ch)] rfl rfl rfl (by decide) (by decide) fun b103 => ?_
          refine sq_callC rfl (by omega) fun x104 hp104 => ?_
          refine sq_r (ry_move rfl) ?_
          refine sq_r (ry_extract (v := x104.val) rfl rfl) ?_
          refine sq_r (ry_extract (v := .int .i64 (appE ts [(⟨r, false⟩ : Ch), (⟨r, true⟩ : Ch)])) rfl rfl) ?_
          refine sq_r (ry_assign rfl) ?_
          refine sq_r (ry_assign rfl) ?_
          refine sq_nil ?_
          refine ex_then ?_
          refine cw_seq ?_
          refine cw_region ?_
          refine sq_r (ry_move rfl) ?_
          refine sq_r (ry_int rfl rfl rfl) ?_
          refine sq_r (ry_move rfl) ?_
          refine sq_gf rfl rfl rfl (fun hg => (Ry.yl (ry_move rfl))) ?_
          refine sq_gf rfl rfl rfl (fun hg => (Ry.yl (ry_int (ev_c hg rfl) rfl rfl))) ?_
          refine sq_gf rfl rfl rfl (fun hg => (Ry.yl (ry_move (ev_c hg rfl)))) ?_
          refine sq_nt rfl rfl rfl (fun hg => (Ry.yl (ry_move rfl))) ?_
          refine sq_nt rfl rfl rfl (fun hg => (Ry.yl (ry_move rfl))) ?_
          refine sq_nt rfl rfl rfl (fun hg => yl_callC (evl_cons (ev_c hg rfl) (evl_cons (ev_c hg rfl) evl_nil)) (by simp only [Bool.and_eq_true, Bool.or_eq_true, Bool.and_eq_false_iff, Bool.or_eq_false_iff, Bool.not_eq_true', Bool.not_eq_false', decide_eq_true_eq, decide_eq_false_iff_not, Bool.not_eq_true, Bool.not_eq_false] at hg; omega)) ?_
          refine sq_gf rfl rfl rfl (fun hg => (Ry.yl (ry_and (ev_c hg rfl) (ev_cc hg rfl) rfl))) ?_
          refine sq_r (ry_or rfl rfl rfl) ?_
          refine sq_r (ry_assign rfl) ?_
          refine sq_nil ?_
          refine ex_then ?_
          refine cw_ret ?_
          refine ex_ret (.inl rfl) (res_1 rfl (rv_tmp rfl)) (fun w1 hw => ?_)
          exact ⟨congrArg (fun b => Ending.returned (Value.bool b)) ((by by_cases hg : getE ts r.p = 6; (obtain ⟨v1, v2⟩ := add_gone hr (by omega) hg; simp [hg, v1, v2]); simp [hg])), Keep.mem hw⟩

end Go.Proofs.Ytldkgicmfbofiaa

