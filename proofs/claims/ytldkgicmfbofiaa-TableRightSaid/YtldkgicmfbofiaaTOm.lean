/- The law of tables that are right: walked. -/
import Derived.Test.YtldkgicmfbofiaaMz

set_option linter.unusedSimpArgs false
set_option linter.unusedVariables false
namespace Go.Proofs.Ytldkgicmfbofiaa
open Go.Eng Go.Kb
set_option maxRecDepth 20000 in
theorem tableRight_c (w : World) (t : Sv) (ts : List Rt) (p : Pfx) (k : Key) (bits : Int) (l : Sv) (ls : List Ch) (u : Sv) (us : List Rt) (ht : Lies rcells 19 (hp w) t ts) (hl : Lies chcells 20 (hp w) l ls) (hu : Lies rcells 19 (hp w) u us) : Calls Try.prog 3 #[t.val, .agg (pcells p), .agg (kcells k), .int .i64 bits, l.val, u.val] w fun e w' => e = .returned (.bool true) ∧ Mem w [] w' := by
  have ght : Gv w t rcells 19 ts := ⟨ht⟩
  have ghl : Gv w l chcells 20 ls := ⟨hl⟩
  have ghu : Gv w u rcells 19 us := ⟨hu⟩
  refine calls_of (args := [_, _, _, _, _, _]) Try.func3 rfl Try.ntmps3 rfl ?_
  change Cw _ _ _ _ _ [(0, t.val), (1, .agg (pcells p)), (2, .agg (kcells k)), (3, .int .i64 bits), (4, l.val), (5, u.val)] []
  refine cw_seq ?_
  refine cw_region ?_
  refine sq_boxA rfl fun b7 => ?_
  refine sq_boxA rfl fun b8 => ?_
  refine sq_r (ry_assign rfl) ?_
  refine sq_nil ?_
  refine ex_then ?_
  refine cw_seq ?_
  refine cw_seq ?_
  refine cw_region ?_
  refine sq_y (yl_callC rfl trivial) ?_
  refine sq_r (ry_not rfl) ?_
  refine sq_nil ?_
  refine ex_then ?_
  refine cw_cond rfl (fun h0 => ?_) (fun h0 => ?_)
  · exfalso; simp at h0
  · try simp only [Bool.and_eq_true, Bool.or_eq_true, Bool.and_eq_false_iff, Bool.or_eq_false_iff, Bool.not_eq_true', Bool.not_eq_false', decide_eq_true_eq, decide_eq_false_iff_not, Bool.not_eq_true, Bool.not_eq_false] at h0
    refine cw_skip ?_
    refine ex_then ?_
    refine cw_seq ?_
    refine cw_seq ?_
    refine cw_region ?_
    refine sq_r (ry_move rfl) ?_
    refine sq_r (ry_lenH rfl) ?_
    refine sq_r (ry_int rfl rfl rfl) ?_
    refine sq_r (ry_move rfl) ?_
    refine sq_gf rfl rfl rfl (fun hg => (Ry.yl (ry_move rfl))) ?_
    refine sq_gf rfl rfl rfl (fun hg => (Ry.yl (ry_lenH (ev_c hg rfl)))) ?_
    refine sq_gf rfl rfl rfl (fun hg => (Ry.yl (ry_int (ev_c hg rfl) rfl rfl))) ?_
    refine sq_r (ry_or rfl rfl rfl) ?_
    refine sq_r (ry_move rfl) ?_
    refine sq_gf rfl rfl rfl (fun hg => (Ry.yl (ry_move rfl))) ?_
    refine sq_gf rfl rfl rfl (fun hg => (Ry.yl (ry_lenH (ev_c hg rfl)))) ?_
    refine sq_gf rfl rfl rfl (fun hg => (Ry.yl (ry_int (ev_c hg rfl) rfl rfl))) ?_
    refine sq_r (ry_or rfl rfl rfl) ?_
    refine sq_nil ?_
    refine ex_then ?_
    refine cw_cond rfl (fun h1 => ?_) (fun h1 => ?_)
    · try simp only [Bool.and_eq_true, Bool.or_eq_true, Bool.and_eq_false_iff, Bool.or_eq_false_iff, Bool.not_eq_true', Bool.not_eq_false', decide_eq_true_eq, decide_eq_false_iff_not, Bool.not_eq_true, Bool.not_eq_false] at h1
      refine cw_seq ?_
      refine cw_region ?_
      refine sq_r (ry_assign rfl) ?_
      refine sq_nil ?_
      refine ex_then ?_
      refine cw_ret ?_
      refine ex_pass_ret ?_
      refine ex_ret (.inl rfl) (res_1 rfl (rv_tmp rfl)) (fun w1 hw => ?_)
      exact ⟨congrArg (fun b => Ending.returned (Value.bool b)) (rfl), Keep.mem hw⟩
    · try simp only [Bool.and_eq_true, Bool.or_eq_true, Bool.and_eq_false_iff, Bool.or_eq_false_iff, Bool.not_eq_true', Bool.not_eq_false', decide_eq_true_eq, decide_eq_false_iff_not, Bool.not_eq_true, Bool.not_eq_false] at h1
      have hss := sort_same us
      have hsl := tsort_len us
      refine cw_skip ?_
      refine ex_then ?_
      refine cw_seq ?_
      refine cw_region ?_
      refine sq_build0 rcells fun b43 => ?_
      refine sq_r (ry_move rfl) ?_
      refine sq_append (s := ⟨false, b43, 0, 0, 0, none⟩) (ys := ts) rfl rfl (by decide) (fun w hw => src_rows (s := t) Try.underlying22 (by decide) ((inferInstance : Hd _ _ t rcells 19 ts).h w hw)) (by simp only [List.length_append, List.length_cons, List.length_nil]; omega) (by simp only [List.length_append, List.length_cons, List.length_nil]; omega) fun s45 hs45 hl45 => ?_
      refine sq_r (ry_assign rfl) ?_
      refine sq_nil ?_
      refine ex_then ?_
      refine cw_seq ?_
      refine cw_region ?_
      refine sq_r (ry_move rfl) ?_
      refine sq_r (ry_whole rfl) ?_
      refine sq_y (yl_callC rfl trivial) ?_
      refine sq_r (ry_move rfl) ?_
      refine sq_r (ry_extract (v := .int .u16 ((getH ([] ++ ts) p).toNat : Nat)) rfl rfl) ?_
      refine sq_r (ry_extract (v := .int .i64 (getE ([] ++ ts) p)) rfl rfl) ?_
      refine sq_r (ry_assign rfl) ?_
      refine sq_r (ry_assign rfl) ?_
      refine sq_nil ?_
      refine ex_then ?_
      refine cw_seq ?_
      refine cw_region ?_
      refine sq_r (ry_move rfl) ?_
      refine sq_r (ry_whole rfl) ?_
      refine sq_r (ry_move rfl) ?_
      refine sq_y (yl_callC rfl trivial) ?_
      refine sq_r (ry_move rfl) ?_
      refine sq_r (ry_extract (v := .agg (rcells (bestR ([] ++ ts) k bits))) rfl rfl) ?_
      refine sq_r (ry_extract (v := .int .i64 (bestE ([] ++ ts) k bits)) rfl rfl) ?_
      refine sq_allocA fun b16 => ?_
      refine sq_storeW rfl rfl ?_
      refine sq_r (ry_assign rfl) ?_
      refine sq_nil ?_
      refine ex_then ?_
      refine cw_seq ?_
      refine cw_region ?_
      refine sq_r (ry_move rfl) ?_
      refine sq_r (ry_move rfl) ?_
      refine sq_callC rfl (by simp only [List.nil_append]; omega) fun x62 hp62 => ?_
      refine sq_r (ry_move rfl) ?_
      refine sq_r (ry_extract (v := x62.val) rfl rfl) ?_
      refine sq_r (ry_extract (v := .int .i64 (appE ([] ++ ts) ls)) rfl rfl) ?_
      refine sq_r (ry_assign rfl) ?_
      refine sq_r (ry_assign rfl) ?_
      refine sq_nil ?_
      refine ex_then ?_
      refine cw_seq ?_
      refine cw_region ?_
      refine sq_r (ry_move rfl) ?_
      refine sq_r (ry_whole rfl) ?_
      refine sq_callC rfl (by simp only [List.nil_append]; omega) fun x67 hp67 => ?_
      refine sq_r (ry_assign rfl) ?_
      refine sq_nil ?_
      refine ex_then ?_
      refine cw_seq ?_
      refine cw_region ?_
      refine sq_r (ry_move rfl) ?_
      refine sq_y (yl_callC rfl trivial) ?_
      refine sq_r (ry_assign rfl) ?_
      refine sq_nil ?_
      refine ex_then ?_
      refine cw_seq ?_
      refine cw_seq ?_
      refine cw_region ?_
      refine sq_r (ry_move rfl) ?_
      refine sq_y (yl_callC rfl trivial) ?_
      refine sq_r (ry_move rfl) ?_
      refine sq_r (ry_neb rfl rfl Try.underlying4) ?_
      refine sq_r (ry_move rfl) ?_
      refine sq_ty rfl rfl rfl (by simp [hss]) (Ry.yl (ry_move rfl)) ?_
      refine sq_tcallC rfl rfl (by simp [hss]) rfl (by omega) fun x76 hp76 => ?_
      refine sq_ty rfl rfl rfl (by simp [hss]) (Ry.yl (ry_move rfl)) ?_
      refine sq_tcallC rfl rfl (by simp [hss]) rfl (by omega) fun x78 hp78 => ?_
      refine sq_ty rfl rfl rfl (by simp [hss]) (yl_callC rfl (by omega)) ?_
      refine sq_ty rfl rfl rfl (by simp [hss]) (Ry.yl (ry_not rfl)) ?_
      refine sq_r (ry_pickF rfl (by simp [hss]) rfl rfl) ?_
      refine sq_r (ry_move rfl) ?_
      refine sq_ty rfl rfl rfl (by simp [hss]) (Ry.yl (ry_move rfl)) ?_
      refine sq_ty rfl rfl rfl (by simp [hss]) (Ry.yl (ry_move rfl)) ?_
      refine sq_ty rfl rfl rfl (by simp [hss]) (yl_callC rfl (by simp only [List.nil_append]; omega)) ?_
      refine sq_ty rfl rfl rfl (by simp [hss]) (Ry.yl (ry_not rfl)) ?_
      refine sq_r (ry_pickF rfl (by simp [hss]) rfl rfl) ?_
      refine sq_nil ?_
      refine ex_then ?_
      refine cw_cond rfl (fun h2 => ?_) (fun h2 => ?_)
      · exfalso; simp [hss] at h2
      · try simp only [Bool.and_eq_true, Bool.or_eq_true, Bool.and_eq_false_iff, Bool.or_eq_false_iff, Bool.not_eq_true', Bool.not_eq_false', decide_eq_true_eq, decide_eq_false_iff_not, Bool.not_eq_true, Bool.not_eq_false] at h2
        refine cw_skip ?_
        refine ex_then ?_
        refine cw_seq ?_
        refine cw_seq ?_
        refine cw_region ?_
        refine sq_r (ry_move rfl) ?_
        refine sq_r (ry_not rfl) ?_
        refine sq_nil ?_
        refine ex_then ?_
        refine cw_cond rfl (fun h3 => ?_) (fun h3 => ?_)
        · try simp only [Bool.and_eq_true, Bool.or_eq_true, Bool.and_eq_false_iff, Bool.or_eq_false_iff, Bool.not_eq_true', Bool.not_eq_false', decide_eq_true_eq, decide_eq_false_iff_not, Bool.not_eq_true, Bool.not_eq_false] at h3
          obtain ⟨q1, q2, q3, q4, q5, q6, q7⟩ := ask_wrong (t := ts) (p := p) (k := k) (bits := bits) (l := ls) (by simpa using h3)
          refine cw_seq ?_
          refine cw_region ?_
          refine sq_r (ry_move rfl) ?_
          refine sq_r (ry_int rfl rfl rfl) ?_
          refine sq_r (ry_move rfl) ?_
          refine sq_ty rfl rfl rfl (by simp [q1, q2, q3, q4, q5, q6, q7]) (Ry.yl (ry_move rfl)) ?_
          refine sq_ty rfl rfl rfl (by simp [q1, q2, q3, q4, q5, q6, q7]) (Ry.yl (ry_int rfl rfl rfl)) ?_
          refine sq_r (ry_pickT rfl (by simp [q1, q2, q3, q4, q5, q6, q7]) rfl rfl) ?_
          refine sq_r (ry_move rfl) ?_
          refine sq_ty rfl rfl rfl (by simp [q1, q2, q3, q4, q5, q6, q7]) (Ry.yl (ry_move rfl)) ?_
          refine sq_ty rfl rfl rfl (by simp [q1, q2, q3, q4, q5, q6, q7]) (Ry.yl (ry_int rfl rfl rfl)) ?_
          refine sq_r (ry_pickT rfl (by simp [q1, q2, q3, q4, q5, q6, q7]) rfl rfl) ?_
          refine sq_r (ry_move rfl) ?_
          refine sq_ty rfl rfl rfl (by simp [q1, q2, q3, q4, q5, q6, q7]) (Ry.yl (ry_whole rfl)) ?_
          refine sq_ty rfl rfl rfl (by simp [q1, q2, q3, q4, q5, q6, q7]) (Ry.yl (ry_buildc rfl)) ?_
          refine sq_ty rfl rfl rfl (by simp [q1, q2, q3, q4, q5, q6, q7]) (Ry.yl (ry_eq rfl rfl)) ?_
          refine sq_r (ry_pickT rfl (by simp [q1, q2, q3, q4, q5, q6, q7]) rfl rfl) ?_
          refine sq_r (ry_move rfl) ?_
          refine sq_ty rfl rfl rfl (by simp [q1, q2, q3, q4, q5, q6, q7]) (Ry.yl (ry_move rfl)) ?_
          refine sq_ty rfl rfl rfl (by simp [q1, q2, q3, q4, q5, q6, q7]) (Ry.yl (ry_int rfl rfl rfl)) ?_
          refine sq_r (ry_pickT rfl (by simp [q1, q2, q3, q4, q5, q6, q7]) rfl rfl) ?_
          refine sq_r (ry_move rfl) ?_
          refine sq_ty rfl rfl rfl (by simp [q1, q2, q3, q4, q5, q6, q7]) (Ry.yl (ry_move rfl)) ?_
          refine sq_ty rfl rfl rfl (by simp [q1, q2, q3, q4, q5, q6, q7]) (Ry.yl (ry_move rfl)) ?_
          refine sq_ty rfl rfl rfl (by simp [q1, q2, q3, q4, q5, q6, q7]) (yl_callC rfl (by simp only [List.nil_append, q6]; omega)) ?_
          refine sq_r (ry_pickT rfl (by simp [q1, q2, q3, q4, q5, q6, q7]) rfl rfl) ?_
          refine sq_r (ry_move rfl) ?_
          refine sq_ty rfl rfl rfl (by simp [q1, q2, q3, q4, q5, q6, q7]) (Ry.yl (ry_move rfl)) ?_
          refine sq_ty rfl rfl rfl (by simp [q1, q2, q3, q4, q5, q6, q7]) (Ry.yl (ry_lenH rfl)) ?_
          refine sq_ty rfl rfl rfl (by simp [q1, q2, q3, q4, q5, q6, q7]) (Ry.yl (ry_int rfl rfl rfl)) ?_
          refine sq_r (ry_pickT rfl (by simp [q1, q2, q3, q4, q5, q6, q7]) rfl rfl) ?_
          refine sq_r (ry_assign rfl) ?_
          refine sq_nil ?_
          refine ex_then ?_
          refine cw_ret ?_
          refine ex_pass_ret ?_
          refine ex_ret (.inl rfl) (res_1 rfl (rv_tmp rfl)) (fun w1 hw => ?_)
          exact ⟨congrArg (fun b => Ending.returned (Value.bool b)) ((by simp [q7])), Keep.mem hw⟩
        · try simp only [Bool.and_eq_true, Bool.or_eq_true, Bool.and_eq_false_iff, Bool.or_eq_false_iff, Bool.not_eq_true', Bool.not_eq_false', decide_eq_true_eq, decide_eq_false_iff_not, Bool.not_eq_true, Bool.not_eq_false] at h3
          have hr : tright ts = true := by simpa using h3
          obtain ⟨g1, g2⟩ := get_rget (p := p) hr
          have hu := undT_right (p := p) hr
          have hul := undF_len ts p
          have hal := tr_len (apL_right hr ls)
          refine cw_skip ?_
          refine ex_then ?_
          refine cw_seq ?_
          refine cw_region ?_
          refine sq_r (ry_move rfl) ?_
          refine sq_r (ry_whole rfl) ?_
          refine sq_y (yl_callC rfl trivial) ?_
          refine sq_r (ry_move rfl) ?_
          refine sq_r (ry_extract (v := .int .u16 ((rgetH ts p).toNat : Nat)) rfl rfl) ?_
          refine sq_r (ry_extract (v := .int .i64 (rgetE ts p)) rfl rfl) ?_
          refine sq_r (ry_assign rfl) ?_
          refine sq_r (ry_assign rfl) ?_
          refine sq_nil ?_
          refine ex_then ?_
          refine cw_seq ?_
          refine cw_region ?_
          refine sq_r (ry_move rfl) ?_
          refine sq_r (ry_whole rfl) ?_
          refine sq_r (ry_move rfl) ?_
          refine sq_y (yl_callC rfl (by assumption)) ?_
          refine sq_r (ry_move rfl) ?_
          refine sq_r (ry_extract (v := .agg (rcells (bestR ts k bits))) rfl rfl) ?_
          refine sq_r (ry_extract (v := .int .i64 (bestE ts k bits)) rfl rfl) ?_
          refine sq_allocA fun b24 => ?_
          refine sq_storeW rfl rfl ?_
          refine sq_r (ry_assign rfl) ?_
          refine sq_nil ?_
          refine ex_then ?_
          refine cw_seq ?_
          refine cw_region ?_
          refine sq_r (ry_move rfl) ?_
          refine sq_r (ry_move rfl) ?_
          refine sq_callC rfl (by assumption) fun x135 hp135 => ?_
          have sg135 : SelG x135.2 x135.1 (appL ts ls) t ts := ⟨hp135⟩
          refine sq_r (ry_move rfl) ?_
          refine sq_r (ry_extract (v := x135.1.val) rfl rfl) ?_
          refine sq_r (ry_extract (v := .int .i64 (appE ts ls)) rfl rfl) ?_
          refine sq_r (ry_assign rfl) ?_
          refine sq_r (ry_assign rfl) ?_
          refine sq_nil ?_
          refine ex_then ?_
          refine cw_seq ?_
          refine cw_region ?_
          refine sq_r (ry_move rfl) ?_
          refine sq_r (ry_move rfl) ?_
          refine sq_r (ry_int rfl rfl rfl) ?_
          refine sq_r (ry_move rfl) ?_
          refine sq_ty rfl rfl rfl (by simp [g1, g2, hu]) (Ry.yl (ry_move rfl)) ?_
          refine sq_ty rfl rfl rfl (by simp [g1, g2, hu]) (Ry.yl (ry_move rfl)) ?_
          refine sq_ty rfl rfl rfl (by simp [g1, g2, hu]) (Ry.yl (ry_int rfl rfl rfl)) ?_
          refine sq_r (ry_pickT rfl (by simp [g1, g2, hu]) rfl rfl) ?_
          refine sq_r (ry_move rfl) ?_
          refine sq_ty rfl rfl rfl (by simp [g1, g2, hu]) (Ry.yl (ry_whole rfl)) ?_
          refine sq_ty rfl rfl rfl (by simp [g1, g2, hu]) (Ry.yl (ry_whole rfl)) ?_
          refine sq_ty rfl rfl rfl (by simp [g1, g2, hu]) (Ry.yl (ry_eq rfl rfl)) ?_
          refine sq_r (ry_pickT rfl (by simp [g1, g2, hu]) rfl rfl) ?_
          refine sq_r (ry_move rfl) ?_
          refine sq_ty rfl rfl rfl (by simp [g1, g2, hu]) (Ry.yl (ry_move rfl)) ?_
          refine sq_ty rfl rfl rfl (by simp [g1, g2, hu]) (Ry.yl (ry_move rfl)) ?_
          refine sq_ty rfl rfl rfl (by simp [g1, g2, hu]) (Ry.yl (ry_int rfl rfl rfl)) ?_
          refine sq_r (ry_pickT rfl (by simp [g1, g2, hu]) rfl rfl) ?_
          refine sq_r (ry_move rfl) ?_
          refine sq_ty rfl rfl rfl (by simp [g1, g2, hu]) (Ry.yl (ry_move rfl)) ?_
          refine sq_ty rfl rfl rfl (by simp [g1, g2, hu]) (Ry.yl (ry_move rfl)) ?_
          refine sq_ty rfl rfl rfl (by simp [g1, g2, hu]) (yl_callC rfl (by simp only [List.nil_append]; omega)) ?_
          refine sq_r (ry_pickT rfl (by simp [g1, g2, hu]) rfl rfl) ?_
          refine sq_r (ry_move rfl) ?_
          refine sq_ty rfl rfl rfl (by simp [g1, g2, hu]) (Ry.yl (ry_move rfl)) ?_
          refine sq_ty rfl rfl rfl (by simp [g1, g2, hu]) (Ry.yl (ry_move rfl)) ?_
          refine sq_ty rfl rfl rfl (by simp [g1, g2, hu]) (Ry.yl (ry_int rfl rfl rfl)) ?_
          refine sq_r (ry_pickT rfl (by simp [g1, g2, hu]) rfl rfl) ?_
          refine sq_r (ry_move rfl) ?_
          refine sq_ty rfl rfl rfl (by simp [g1, g2, hu]) (Ry.yl (ry_move rfl)) ?_
          refine sq_ty rfl rfl rfl (by simp [g1, g2, hu]) (Ry.yl (ry_move rfl)) ?_
          refine sq_ty rfl rfl rfl (by simp [g1, g2, hu]) (Ry.yl (ry_whole rfl)) ?_
          refine sq_tcallC rfl rfl (by simp [g1, g2, hu]) rfl (by omega) fun x170 hp170 => ?_
          refine sq_ty rfl rfl rfl (by simp [g1, g2, hu]) (yl_callC rfl (by simp only [List.nil_append, hu]; omega)) ?_
          refine sq_r (ry_pickT rfl (by simp [g1, g2, hu]) rfl rfl) ?_
          refine sq_r (ry_assign rfl) ?_
          refine sq_nil ?_
          refine ex_then ?_
          refine cw_ret ?_
          refine ex_ret (.inl rfl) (res_1 rfl (rv_tmp rfl)) (fun w1 hw => ?_)
          exact ⟨congrArg (fun b => Ending.returned (Value.bool b)) ((by simp [hu])), Keep.mem hw⟩

end Go.Proofs.Ytldkgicmfbofiaa

