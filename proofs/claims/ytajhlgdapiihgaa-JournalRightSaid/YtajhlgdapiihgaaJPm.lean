/- The law JournalRight: walked. -/
import Derived.Test.YtajhlgdapiihgaaMn

set_option linter.unusedSimpArgs false
set_option linter.unusedVariables false
namespace Go.Proofs.Ytajhlgdapiihgaa
open Go.Eng Go.Kb
set_option maxRecDepth 20000 in
theorem journalRight_c (w : World) (l : Sv) (ls : List Ch) (t : Sv) (ts : List Rt) (b : Sv) (bs : List UInt8) (j : Sv) (js : List UInt8) (hl : Lies chcells 20 (hp w) l ls) (ht : Lies rcells 19 (hp w) t ts) (hb : Lies benc 1 (hp w) b bs) (hj : Lies benc 1 (hp w) j js) : Calls Try.prog 12 #[l.val, t.val, b.val, j.val] w fun e w' => e = .returned (.bool true) ∧ Mem w [] w' := by
  have ghl : Gv w l chcells 20 ls := ⟨hl⟩
  have ght : Gv w t rcells 19 ts := ⟨ht⟩
  have ghb : Gv w b benc 1 bs := ⟨hb⟩
  have ghj : Gv w j benc 1 js := ⟨hj⟩
  refine calls_of (args := [_, _, _, _]) Try.func12 rfl Try.ntmps12 rfl ?_
  change Cw _ _ _ _ _ [(0, l.val), (1, t.val), (2, b.val), (3, j.val)] []
  refine cw_seq ?_
  refine cw_region ?_
  refine sq_r (ry_assign rfl) ?_
  refine sq_nil ?_
  refine ex_then ?_
  refine cw_seq ?_
  refine cw_seq ?_
  refine cw_region ?_
  refine sq_y (yl_callC rfl trivial) ?_
  refine sq_r (ry_not rfl) ?_
  refine sq_nil ?_
  refine ex_then ?_
  refine cw_cond rfl (fun h0 => ?_) (fun h0 => ?_)
  · exfalso; simp at h0
  · try simp only [Bool.and_eq_true, Bool.or_eq_true, Bool.and_eq_false_iff, Bool.or_eq_false_iff, Bool.not_eq_true', Bool.not_eq_false', decide_eq_true_eq, decide_eq_false_iff_not, Bool.not_eq_true, Bool.not_eq_false] at h0
    refine cw_skip ?_
    refine ex_then ?_
    refine cw_seq ?_
    refine cw_seq ?_
    refine cw_region ?_
    refine sq_r (ry_move rfl) ?_
    refine sq_r (ry_lenH rfl) ?_
    refine sq_r (ry_int rfl rfl rfl) ?_
    refine sq_r (ry_move rfl) ?_
    refine sq_gf rfl rfl rfl (fun hg => (Ry.yl (ry_move rfl))) ?_
    refine sq_gf rfl rfl rfl (fun hg => (Ry.yl (ry_lenH (ev_c hg rfl)))) ?_
    refine sq_gf rfl rfl rfl (fun hg => (Ry.yl (ry_int (ev_c hg rfl) rfl rfl))) ?_
    refine sq_r (ry_or rfl rfl rfl) ?_
    refine sq_r (ry_move rfl) ?_
    refine sq_gf rfl rfl rfl (fun hg => (Ry.yl (ry_move rfl))) ?_
    refine sq_gf rfl rfl rfl (fun hg => (Ry.yl (ry_lenH (ev_c hg rfl)))) ?_
    refine sq_gf rfl rfl rfl (fun hg => (Ry.yl (ry_int (ev_c hg rfl) rfl rfl))) ?_
    refine sq_r (ry_or rfl rfl rfl) ?_
    refine sq_r (ry_move rfl) ?_
    refine sq_gf rfl rfl rfl (fun hg => (Ry.yl (ry_move rfl))) ?_
    refine sq_gf rfl rfl rfl (fun hg => (Ry.yl (ry_lenH (ev_c hg rfl)))) ?_
    refine sq_gf rfl rfl rfl (fun hg => (Ry.yl (ry_int (ev_c hg rfl) rfl rfl))) ?_
    refine sq_r (ry_or rfl rfl rfl) ?_
    refine sq_nil ?_
    refine ex_then ?_
    refine cw_cond rfl (fun h1 => ?_) (fun h1 => ?_)
    · try simp only [Bool.and_eq_true, Bool.or_eq_true, Bool.and_eq_false_iff, Bool.or_eq_false_iff, Bool.not_eq_true', Bool.not_eq_false', decide_eq_true_eq, decide_eq_false_iff_not, Bool.not_eq_true, Bool.not_eq_false] at h1
      refine cw_seq ?_
      refine cw_region ?_
      refine sq_r (ry_assign rfl) ?_
      refine sq_nil ?_
      refine ex_then ?_
      refine cw_ret ?_
      refine ex_pass_ret ?_
      refine ex_ret (.inl rfl) (res_1 rfl (rv_tmp rfl)) (fun w1 hw => ?_)
      exact ⟨congrArg (fun b => Ending.returned (Value.bool b)) (rfl), Keep.mem hw⟩
    · try simp only [Bool.and_eq_true, Bool.or_eq_true, Bool.and_eq_false_iff, Bool.or_eq_false_iff, Bool.not_eq_true', Bool.not_eq_false', decide_eq_true_eq, decide_eq_false_iff_not, Bool.not_eq_true, Bool.not_eq_false] at h1
      have hlens : ls.length ≤ 220 ∧ ts.length ≤ 100 ∧ bs.length ≤ 3000 ∧ js.length ≤ 3000 := by omega
      refine cw_skip ?_
      refine ex_then ?_
      refine cw_seq ?_
      refine cw_region ?_
      refine sq_r (ry_move rfl) ?_
      refine sq_callC rfl trivial fun x45 hp45 => ?_
      refine sq_r (ry_move rfl) ?_
      refine sq_r (ry_extract (v := x45.val) rfl rfl) ?_
      refine sq_r (ry_extract (v := .int .i64 (jputE ls)) rfl rfl) ?_
      refine sq_r (ry_assign rfl) ?_
      refine sq_r (ry_assign rfl) ?_
      refine sq_nil ?_
      refine ex_then ?_
      refine cw_seq ?_
      refine cw_region ?_
      refine sq_r (ry_move rfl) ?_
      refine sq_callC rfl trivial fun x50 hp50 => ?_
      refine sq_r (ry_move rfl) ?_
      refine sq_r (ry_extract (v := x50.val) rfl rfl) ?_
      refine sq_r (ry_extract (v := .int .i64 (jputE ls)) rfl rfl) ?_
      refine sq_r (ry_assign rfl) ?_
      refine sq_r (ry_assign rfl) ?_
      refine sq_nil ?_
      refine ex_then ?_
      refine cw_seq ?_
      refine cw_seq ?_
      refine cw_region ?_
      refine sq_r (ry_move rfl) ?_
      refine sq_r (ry_bstrH Try.underlying83 Try.underlying5 Try.underlying9 rfl) ?_
      refine sq_r (ry_move rfl) ?_
      refine sq_r (ry_bstrH Try.underlying83 Try.underlying5 Try.underlying9 rfl) ?_
      refine sq_r (ry_strneL rfl rfl) ?_
      refine sq_r (ry_move rfl) ?_
      refine sq_gf rfl rfl rfl (fun hg => (Ry.yl (ry_move rfl))) ?_
      refine sq_gf rfl rfl rfl (fun hg => (Ry.yl (ry_move rfl))) ?_
      refine sq_gf rfl rfl rfl (fun hg => (Ry.yl (ry_int (ev_c hg rfl) (ev_c hg rfl) rfl))) ?_
      refine sq_r (ry_or rfl rfl rfl) ?_
      refine sq_nil ?_
      refine ex_then ?_
      refine cw_cond rfl (fun h2 => ?_) (fun h2 => ?_)
      · exfalso; simp at h2
      · try simp only [Bool.and_eq_true, Bool.or_eq_true, Bool.and_eq_false_iff, Bool.or_eq_false_iff, Bool.not_eq_true', Bool.not_eq_false', decide_eq_true_eq, decide_eq_false_iff_not, Bool.not_eq_true, Bool.not_eq_false] at h2
        refine cw_skip ?_
        refine ex_then ?_
        refine cw_seq ?_
        refine cw_region ?_
        refine sq_r (ry_move rfl) ?_
        refine sq_callC rfl (by omega) fun x65 hp65 => ?_
        refine sq_r (ry_move rfl) ?_
        refine sq_r (ry_extract (v := x65.val) rfl rfl) ?_
        refine sq_r (ry_extract (v := .int .i64 (jreadE bs)) rfl rfl) ?_
        refine sq_r (ry_assign rfl) ?_
        refine sq_r (ry_assign rfl) ?_
        refine sq_nil ?_
        refine ex_then ?_
        refine cw_seq ?_
        refine cw_region ?_
        refine sq_r (ry_move rfl) ?_
        refine sq_callC rfl (by omega) fun x70 hp70 => ?_
        refine sq_r (ry_move rfl) ?_
        refine sq_r (ry_extract (v := x70.val) rfl rfl) ?_
        refine sq_r (ry_extract (v := .int .i64 (jreadE bs)) rfl rfl) ?_
        refine sq_r (ry_assign rfl) ?_
        refine sq_r (ry_assign rfl) ?_
        refine sq_nil ?_
        refine ex_then ?_
        refine cw_seq ?_
        refine cw_seq ?_
        refine cw_region ?_
        refine sq_r (ry_move rfl) ?_
        refine sq_r (ry_move rfl) ?_
        refine sq_y (yl_callC rfl trivial) ?_
        refine sq_r (ry_not rfl) ?_
        refine sq_r (ry_move rfl) ?_
        refine sq_gf rfl rfl rfl (fun hg => (Ry.yl (ry_move rfl))) ?_
        refine sq_gf rfl rfl rfl (fun hg => (Ry.yl (ry_move rfl))) ?_
        refine sq_gf rfl rfl rfl (fun hg => (Ry.yl (ry_int (ev_c hg rfl) (ev_c hg rfl) rfl))) ?_
        refine sq_r (ry_or rfl rfl rfl) ?_
        refine sq_nil ?_
        refine ex_then ?_
        refine cw_cond rfl (fun h3 => ?_) (fun h3 => ?_)
        · exfalso; simp at h3
        · try simp only [Bool.and_eq_true, Bool.or_eq_true, Bool.and_eq_false_iff, Bool.or_eq_false_iff, Bool.not_eq_true', Bool.not_eq_false', decide_eq_true_eq, decide_eq_false_iff_not, Bool.not_eq_true, Bool.not_eq_false] at h3
          refine cw_skip ?_
          refine ex_then ?_
          refine cw_seq ?_
          refine cw_region ?_
          refine sq_r (ry_move rfl) ?_
          refine sq_r (ry_move rfl) ?_
          refine sq_callC rfl (by omega) fun x85 hp85 => ?_
          refine sq_r (ry_move rfl) ?_
          refine sq_r (ry_extract (v := x85.val) rfl rfl) ?_
          refine sq_r (ry_extract (v := .int .i64 (jputE ls)) rfl rfl) ?_
          refine sq_r (ry_assign rfl) ?_
          refine sq_r (ry_assign rfl) ?_
          refine sq_nil ?_
          refine ex_then ?_
          refine cw_seq ?_
          refine cw_region ?_
          refine sq_r (ry_move rfl) ?_
          refine sq_r (ry_move rfl) ?_
          refine sq_callC rfl (by omega) fun x91 hp91 => ?_
          have sg91 : SelG x91.2 x91.1 (jaddV js ls) j js := ⟨hp91⟩
          refine sq_r (ry_move rfl) ?_
          refine sq_r (ry_extract (v := x91.1.val) rfl rfl) ?_
          refine sq_r (ry_extract (v := .int .i64 (jputE ls)) rfl rfl) ?_
          refine sq_r (ry_assign rfl) ?_
          refine sq_r (ry_assign rfl) ?_
          refine sq_nil ?_
          refine ex_then ?_
          refine cw_seq ?_
          refine cw_seq ?_
          refine cw_region ?_
          refine sq_r (ry_move rfl) ?_
          refine sq_r (ry_bstrH Try.underlying83 Try.underlying5 Try.underlying9 rfl) ?_
          refine sq_r (ry_move rfl) ?_
          refine sq_r (ry_bstrH Try.underlying83 Try.underlying5 Try.underlying9 rfl) ?_
          refine sq_r (ry_strneL rfl rfl) ?_
          refine sq_r (ry_move rfl) ?_
          refine sq_gf rfl rfl rfl (fun hg => (Ry.yl (ry_move rfl))) ?_
          refine sq_gf rfl rfl rfl (fun hg => (Ry.yl (ry_move rfl))) ?_
          refine sq_gf rfl rfl rfl (fun hg => (Ry.yl (ry_int (ev_c hg rfl) (ev_c hg rfl) rfl))) ?_
          refine sq_r (ry_or rfl rfl rfl) ?_
          refine sq_nil ?_
          refine ex_then ?_
          refine cw_cond rfl (fun h4 => ?_) (fun h4 => ?_)
          · exfalso; simp at h4
          · try simp only [Bool.and_eq_true, Bool.or_eq_true, Bool.and_eq_false_iff, Bool.or_eq_false_iff, Bool.not_eq_true', Bool.not_eq_false', decide_eq_true_eq, decide_eq_false_iff_not, Bool.not_eq_true, Bool.not_eq_false] at h4
            refine cw_skip ?_
            refine ex_then ?_
            refine cw_seq ?_
            refine cw_region ?_
            refine sq_r (ry_move rfl) ?_
            refine sq_callC rfl (by omega) fun x106 hp106 => ?_
            refine sq_r (ry_move rfl) ?_
            refine sq_r (ry_extract (v := x106.sv.val) rfl rfl) ?_
            refine sq_r (ry_extract (v := .int .i64 (((allJ js).2) : Nat)) rfl rfl) ?_
            refine sq_r (ry_assign rfl) ?_
            refine sq_r (ry_assign rfl) ?_
            refine sq_nil ?_
            refine ex_then ?_
            refine cw_seq ?_
            refine cw_region ?_
            refine sq_r (ry_move rfl) ?_
            refine sq_callC rfl (by omega) fun x111 hp111 => ?_
            refine sq_r (ry_move rfl) ?_
            refine sq_r (ry_extract (v := x111.sv.val) rfl rfl) ?_
            refine sq_r (ry_extract (v := .int .i64 (((allJ js).2) : Nat)) rfl rfl) ?_
            refine sq_r (ry_assign rfl) ?_
            refine sq_r (ry_assign rfl) ?_
            refine sq_nil ?_
            refine ex_then ?_
            refine cw_seq ?_
            refine cw_region ?_
            refine sq_r (ry_move rfl) ?_
            refine sq_r (ry_move rfl) ?_
            refine sq_callC rfl ⟨by omega, by omega⟩ fun x117 hp117 => ?_
            refine sq_r (ry_move rfl) ?_
            refine sq_r (ry_extract (v := x117.val) rfl rfl) ?_
            refine sq_r (ry_extract (v := .int .i64 (((playV ts js).2.1) : Nat)) rfl rfl) ?_
            refine sq_r (ry_extract (v := .int .i64 ((playV ts js).2.2)) rfl rfl) ?_
            refine sq_r (ry_assign rfl) ?_
            refine sq_r (ry_assign rfl) ?_
            refine sq_r (ry_assign rfl) ?_
            refine sq_nil ?_
            refine ex_then ?_
            refine cw_seq ?_
            refine cw_region ?_
            refine sq_r (ry_move rfl) ?_
            refine sq_r (ry_move rfl) ?_
            refine sq_callC rfl ⟨by omega, by omega⟩ fun x124 hp124 => ?_
            have sg124 : SelG x124.2 x124.1 (playV ts js).1 t ts := ⟨hp124⟩
            have hpl := play_len (t := ts) (j := js) (n := 1000) (by omega) (by decide)
            refine sq_r (ry_move rfl) ?_
            refine sq_r (ry_extract (v := x124.1.val) rfl rfl) ?_
            refine sq_r (ry_extract (v := .int .i64 (((playV ts js).2.1) : Nat)) rfl rfl) ?_
            refine sq_r (ry_extract (v := .int .i64 ((playV ts js).2.2)) rfl rfl) ?_
            refine sq_r (ry_assign rfl) ?_
            refine sq_r (ry_assign rfl) ?_
            refine sq_r (ry_assign rfl) ?_
            refine sq_nil ?_
            refine ex_then ?_
            refine cw_seq ?_
            refine cw_region ?_
            refine sq_r (ry_move rfl) ?_
            refine sq_r (ry_move rfl) ?_
            refine sq_y (yl_callC rfl trivial) ?_
            refine sq_r (ry_move rfl) ?_
            refine sq_gt rfl rfl rfl (fun hg => (Ry.yl (ry_move rfl))) ?_
            refine sq_gt rfl rfl rfl (fun hg => (Ry.yl (ry_move rfl))) ?_
            refine sq_gt rfl rfl rfl (fun hg => (Ry.yl (ry_int (ev_c hg rfl) (ev_c hg rfl) rfl))) ?_
            refine sq_r (ry_and rfl rfl rfl) ?_
            refine sq_r (ry_move rfl) ?_
            refine sq_gt rfl rfl rfl (fun hg => (Ry.yl (ry_move rfl))) ?_
            refine sq_gt rfl rfl rfl (fun hg => (Ry.yl (ry_move rfl))) ?_
            refine sq_gt rfl rfl rfl (fun hg => yl_callC (evl_cons (ev_c hg rfl) (evl_cons (ev_c hg rfl) evl_nil)) (by simp only [Bool.and_eq_true, Bool.or_eq_true, Bool.and_eq_false_iff, Bool.or_eq_false_iff, Bool.not_eq_true', Bool.not_eq_false', decide_eq_true_eq, decide_eq_false_iff_not, Bool.not_eq_true, Bool.not_eq_false] at hg; omega)) ?_
            refine sq_r (ry_and rfl rfl rfl) ?_
            refine sq_r (ry_move rfl) ?_
            refine sq_gt rfl rfl rfl (fun hg => (Ry.yl (ry_move rfl))) ?_
            refine sq_gt rfl rfl rfl (fun hg => (Ry.yl (ry_move rfl))) ?_
            refine sq_gt rfl rfl rfl (fun hg => (Ry.yl (ry_int (ev_c hg rfl) (ev_c hg rfl) rfl))) ?_
            refine sq_r (ry_and rfl rfl rfl) ?_
            refine sq_r (ry_move rfl) ?_
            refine sq_gt rfl rfl rfl (fun hg => (Ry.yl (ry_move rfl))) ?_
            refine sq_gt rfl rfl rfl (fun hg => (Ry.yl (ry_move rfl))) ?_
            refine sq_gt rfl rfl rfl (fun hg => (Ry.yl (ry_int (ev_c hg rfl) (ev_c hg rfl) rfl))) ?_
            refine sq_r (ry_and rfl rfl rfl) ?_
            refine sq_r (ry_assign rfl) ?_
            refine sq_nil ?_
            refine ex_then ?_
            refine cw_ret ?_
            refine ex_ret (.inl rfl) (res_1 rfl (rv_tmp rfl)) (fun w1 hw => ?_)
            exact ⟨congrArg (fun b => Ending.returned (Value.bool b)) ((by simp [hp106, hp111])), Keep.mem hw⟩

end Go.Proofs.Ytajhlgdapiihgaa

