/- The law WalkRight: walked. -/
import Derived.Test.YtajhlgdapiihgaaMi

set_option linter.unusedSimpArgs false
set_option linter.unusedVariables false
namespace Go.Proofs.Ytajhlgdapiihgaa
open Go.Eng Go.Kb
set_option maxRecDepth 20000 in
theorem walkRight_c (w : World) (t : Sv) (ts : List Rt) (p : Pfx) (k : Key) (bits : Int) (ht : Lies rcells 19 (hp w) t ts) : Calls Try.prog 3 #[t.val, .agg (pcells p), .agg (kcells k), .int .i64 bits] w fun e w' => e = .returned (.bool true) ∧ Mem w [] w' := by
  have ght : Gv w t rcells 19 ts := ⟨ht⟩
  refine calls_of (args := [_, _, _, _]) Try.func3 rfl Try.ntmps3 rfl ?_
  change Cw _ _ _ _ _ [(0, t.val), (1, .agg (pcells p)), (2, .agg (kcells k)), (3, .int .i64 bits)] []
  refine cw_seq ?_
  refine cw_region ?_
  refine sq_boxA rfl fun b5 => ?_
  refine sq_boxA rfl fun b6 => ?_
  refine sq_r (ry_assign rfl) ?_
  refine sq_nil ?_
  refine ex_then ?_
  refine cw_seq ?_
  refine cw_seq ?_
  refine cw_region ?_
  refine sq_y (yl_callC rfl trivial) ?_
  refine sq_r (ry_not rfl) ?_
  refine sq_nil ?_
  refine ex_then ?_
  refine cw_cond rfl (fun h0 => ?_) (fun h0 => ?_)
  · exfalso; simp at h0
  · try simp only [Bool.and_eq_true, Bool.or_eq_true, Bool.and_eq_false_iff, Bool.or_eq_false_iff, Bool.not_eq_true', Bool.not_eq_false', decide_eq_true_eq, decide_eq_false_iff_not, Bool.not_eq_true, Bool.not_eq_false] at h0
    refine cw_skip ?_
    refine ex_then ?_
    refine cw_seq ?_
    refine cw_seq ?_
    refine cw_region ?_
    refine sq_r (ry_move rfl) ?_
    refine sq_r (ry_lenH rfl) ?_
    refine sq_r (ry_int rfl rfl rfl) ?_
    refine sq_nil ?_
    refine ex_then ?_
    refine cw_cond rfl (fun h1 => ?_) (fun h1 => ?_)
    · try simp only [Bool.and_eq_true, Bool.or_eq_true, Bool.and_eq_false_iff, Bool.or_eq_false_iff, Bool.not_eq_true', Bool.not_eq_false', decide_eq_true_eq, decide_eq_false_iff_not, Bool.not_eq_true, Bool.not_eq_false] at h1
      refine cw_seq ?_
      refine cw_region ?_
      refine sq_r (ry_assign rfl) ?_
      refine sq_nil ?_
      refine ex_then ?_
      refine cw_ret ?_
      refine ex_pass_ret ?_
      refine ex_ret (.inl rfl) (res_1 rfl (rv_tmp rfl)) (fun w1 hw => ?_)
      exact ⟨congrArg (fun b => Ending.returned (Value.bool b)) (rfl), Keep.mem hw⟩
    · try simp only [Bool.and_eq_true, Bool.or_eq_true, Bool.and_eq_false_iff, Bool.or_eq_false_iff, Bool.not_eq_true', Bool.not_eq_false', decide_eq_true_eq, decide_eq_false_iff_not, Bool.not_eq_true, Bool.not_eq_false] at h1
      have hbt := ht.bd
      have hln : ts.length ≤ 40 := by omega
      refine cw_skip ?_
      refine ex_then ?_
      refine cw_seq ?_
      refine cw_region ?_
      refine sq_r (ry_move rfl) ?_
      refine sq_r (ry_whole rfl) ?_
      refine sq_y (yl_callC rfl trivial) ?_
      refine sq_r (ry_move rfl) ?_
      refine sq_r (ry_extract (v := .agg (rcells (wnextR ts p))) rfl rfl) ?_
      refine sq_r (ry_extract (v := .int .i64 (wnextE ts p)) rfl rfl) ?_
      refine sq_allocA fun b9 => ?_
      refine sq_storeW rfl rfl ?_
      refine sq_r (ry_assign rfl) ?_
      refine sq_nil ?_
      refine ex_then ?_
      refine cw_seq ?_
      refine cw_region ?_
      refine sq_r (ry_move rfl) ?_
      refine sq_r (ry_whole rfl) ?_
      refine sq_y (yl_callC rfl trivial) ?_
      refine sq_r (ry_move rfl) ?_
      refine sq_r (ry_extract (v := .agg (rcells (overR ts p))) rfl rfl) ?_
      refine sq_r (ry_extract (v := .int .i64 (overE ts p)) rfl rfl) ?_
      refine sq_allocA fun b11 => ?_
      refine sq_storeW rfl rfl ?_
      refine sq_r (ry_assign rfl) ?_
      refine sq_nil ?_
      refine ex_then ?_
      refine cw_seq ?_
      refine cw_region ?_
      refine sq_r (ry_move rfl) ?_
      refine sq_r (ry_whole rfl) ?_
      refine sq_r (ry_move rfl) ?_
      refine sq_callC rfl trivial fun x41 hp41 => ?_
      refine sq_r (ry_move rfl) ?_
      refine sq_callC rfl (by omega) fun x43 hp43 => ?_
      refine sq_r (ry_move rfl) ?_
      refine sq_callC rfl trivial fun x45 hp45 => ?_
      refine sq_r (ry_move rfl) ?_
      refine sq_y (yl_callC rfl trivial) ?_
      refine sq_r (ry_assign rfl) ?_
      refine sq_r (ry_assign rfl) ?_
      refine sq_r (ry_assign rfl) ?_
      refine sq_r (ry_assign rfl) ?_
      refine sq_nil ?_
      refine ex_then ?_
      refine cw_seq ?_
      refine cw_seq ?_
      refine cw_region ?_
      refine sq_r (ry_move rfl) ?_
      refine sq_y (yl_callC rfl trivial) ?_
      refine sq_r (ry_not rfl) ?_
      refine sq_nil ?_
      refine ex_then ?_
      refine cw_cond rfl (fun h2 => ?_) (fun h2 => ?_)
      · try simp only [Bool.and_eq_true, Bool.or_eq_true, Bool.and_eq_false_iff, Bool.or_eq_false_iff, Bool.not_eq_true', Bool.not_eq_false', decide_eq_true_eq, decide_eq_false_iff_not, Bool.not_eq_true, Bool.not_eq_false] at h2
        have hr : tright ts = false := h2
        have hno : nextOk ts p = false := by rw [nextOk, hr]; simp
        have q1 : wnextE ts p = 1 := by simp [wnextE, hno]
        have q2 : overE ts p = 1 := by simp [overE, hno]
        have q3 : wnextR ts p = zroute := by simp [wnextR, hno]
        have q4 : overR ts p = zroute := by simp [overR, hno]
        have q5 : chainV ts k bits = [] := by rw [chainV, if_pos]; simp [bestE, bestO, hr]
        have q6 : leanV ts = ts := by simp [leanV, hr]
        have q7 : topsV ts = [] := by simp [topsV, hr]
        have q8 : depV ts = 0 := by simp [depV, hr]
        refine cw_seq ?_
        refine cw_region ?_
        refine sq_r (ry_move rfl) ?_
        refine sq_r (ry_int rfl rfl rfl) ?_
        refine sq_r (ry_move rfl) ?_
        refine sq_ty rfl rfl rfl (by simp [q1, q2, q3, q4, q5, q6, q7, q8]) (Ry.yl (ry_move rfl)) ?_
        refine sq_ty rfl rfl rfl (by simp [q1, q2, q3, q4, q5, q6, q7, q8]) (Ry.yl (ry_int rfl rfl rfl)) ?_
        refine sq_r (ry_pickT rfl (by simp [q1, q2, q3, q4, q5, q6, q7, q8]) rfl rfl) ?_
        refine sq_r (ry_move rfl) ?_
        refine sq_ty rfl rfl rfl (by simp [q1, q2, q3, q4, q5, q6, q7, q8]) (Ry.yl (ry_whole rfl)) ?_
        refine sq_ty rfl rfl rfl (by simp [q1, q2, q3, q4, q5, q6, q7, q8]) (Ry.yl (ry_buildc rfl)) ?_
        refine sq_ty rfl rfl rfl (by simp [q1, q2, q3, q4, q5, q6, q7, q8]) (Ry.yl (ry_eq rfl rfl)) ?_
        refine sq_r (ry_pickT rfl (by simp [q1, q2, q3, q4, q5, q6, q7, q8]) rfl rfl) ?_
        refine sq_r (ry_move rfl) ?_
        refine sq_ty rfl rfl rfl (by simp [q1, q2, q3, q4, q5, q6, q7, q8]) (Ry.yl (ry_whole rfl)) ?_
        refine sq_ty rfl rfl rfl (by simp [q1, q2, q3, q4, q5, q6, q7, q8]) (Ry.yl (ry_buildc rfl)) ?_
        refine sq_ty rfl rfl rfl (by simp [q1, q2, q3, q4, q5, q6, q7, q8]) (Ry.yl (ry_eq rfl rfl)) ?_
        refine sq_r (ry_pickT rfl (by simp [q1, q2, q3, q4, q5, q6, q7, q8]) rfl rfl) ?_
        refine sq_r (ry_move rfl) ?_
        refine sq_ty rfl rfl rfl (by simp [q1, q2, q3, q4, q5, q6, q7, q8]) (Ry.yl (ry_move rfl)) ?_
        refine sq_ty rfl rfl rfl (by simp [q1, q2, q3, q4, q5, q6, q7, q8]) (Ry.yl (ry_lenH rfl)) ?_
        refine sq_ty rfl rfl rfl (by simp [q1, q2, q3, q4, q5, q6, q7, q8]) (Ry.yl (ry_int rfl rfl rfl)) ?_
        refine sq_r (ry_pickT rfl (by simp [q1, q2, q3, q4, q5, q6, q7, q8]) rfl rfl) ?_
        refine sq_r (ry_move rfl) ?_
        refine sq_ty rfl rfl rfl (by simp [q1, q2, q3, q4, q5, q6, q7, q8]) (Ry.yl (ry_move rfl)) ?_
        refine sq_ty rfl rfl rfl (by simp [q1, q2, q3, q4, q5, q6, q7, q8]) (Ry.yl (ry_move rfl)) ?_
        refine sq_ty rfl rfl rfl (by simp [q1, q2, q3, q4, q5, q6, q7, q8]) (yl_callC rfl (by rw [q6]; omega)) ?_
        refine sq_r (ry_pickT rfl (by simp [q1, q2, q3, q4, q5, q6, q7, q8]) rfl rfl) ?_
        refine sq_r (ry_move rfl) ?_
        refine sq_ty rfl rfl rfl (by simp [q1, q2, q3, q4, q5, q6, q7, q8]) (Ry.yl (ry_move rfl)) ?_
        refine sq_ty rfl rfl rfl (by simp [q1, q2, q3, q4, q5, q6, q7, q8]) (Ry.yl (ry_lenH rfl)) ?_
        refine sq_ty rfl rfl rfl (by simp [q1, q2, q3, q4, q5, q6, q7, q8]) (Ry.yl (ry_int rfl rfl rfl)) ?_
        refine sq_r (ry_pickT rfl (by simp [q1, q2, q3, q4, q5, q6, q7, q8]) rfl rfl) ?_
        refine sq_r (ry_move rfl) ?_
        refine sq_ty rfl rfl rfl (by simp [q1, q2, q3, q4, q5, q6, q7, q8]) (Ry.yl (ry_move rfl)) ?_
        refine sq_ty rfl rfl rfl (by simp [q1, q2, q3, q4, q5, q6, q7, q8]) (Ry.yl (ry_int rfl rfl rfl)) ?_
        refine sq_r (ry_pickT rfl (by simp [q1, q2, q3, q4, q5, q6, q7, q8]) rfl rfl) ?_
        refine sq_r (ry_assign rfl) ?_
        refine sq_nil ?_
        refine ex_then ?_
        refine cw_ret ?_
        refine ex_pass_ret ?_
        refine ex_ret (.inl rfl) (res_1 rfl (rv_tmp rfl)) (fun w1 hw => ?_)
        exact ⟨congrArg (fun b => Ending.returned (Value.bool b)) ((by simp [q8])), Keep.mem hw⟩
      · try simp only [Bool.and_eq_true, Bool.or_eq_true, Bool.and_eq_false_iff, Bool.or_eq_false_iff, Bool.not_eq_true', Bool.not_eq_false', decide_eq_true_eq, decide_eq_false_iff_not, Bool.not_eq_true, Bool.not_eq_false] at h2
        have hr : tright ts = true := h2
        have hlen := tr_len hr
        have hord := right_ord hr
        have hlv : leanV ts = leanP ts := if_pos hr
        have htv : topsV ts = topsP ts := if_pos hr
        have hdv : depV ts = depP ts := if_pos hr
        have hll : (leanV ts).length ≤ ts.length := by rw [hlv]; exact (leanP_sub ts).length_le
        have htl : (topsV ts).length ≤ ts.length := by rw [htv]; exact (topsP_sub ts).length_le
        have hcv := chainV_eq (k := k) (bits := bits) hr
        have hcl : (chainV ts k bits).length ≤ ts.length := by rw [hcv]; exact List.length_filter_le _ _
        refine cw_skip ?_
        refine ex_then ?_
        refine cw_seq ?_
        refine cw_seq ?_
        refine cw_region ?_
        refine sq_r (ry_whole rfl) ?_
        refine sq_y (yl_callC rfl trivial) ?_
        refine sq_r (ry_not rfl) ?_
        refine sq_nil ?_
        refine ex_then ?_
        refine cw_cond rfl (fun h3 => ?_) (fun h3 => ?_)
        · try simp only [Bool.and_eq_true, Bool.or_eq_true, Bool.and_eq_false_iff, Bool.or_eq_false_iff, Bool.not_eq_true', Bool.not_eq_false', decide_eq_true_eq, decide_eq_false_iff_not, Bool.not_eq_true, Bool.not_eq_false] at h3
          have hno : nextOk ts p = false := by rw [nextOk, h3]; rfl
          have q1 : wnextE ts p = 1 := by simp [wnextE, hno]
          have q2 : overE ts p = 1 := by simp [overE, hno]
          refine cw_seq ?_
          refine cw_region ?_
          refine sq_r (ry_move rfl) ?_
          refine sq_r (ry_int rfl rfl rfl) ?_
          refine sq_r (ry_move rfl) ?_
          refine sq_ty rfl rfl rfl (by simp [q1, q2]) (Ry.yl (ry_move rfl)) ?_
          refine sq_ty rfl rfl rfl (by simp [q1, q2]) (Ry.yl (ry_int rfl rfl rfl)) ?_
          refine sq_r (ry_pickF rfl (by simp [q1, q2]) rfl rfl) ?_
          refine sq_nil ?_
          refine ex_then ?_
          refine cw_cond rfl (fun h4 => ?_) (fun h4 => ?_)
          · exfalso; simp [q1, q2] at h4
          · try simp only [Bool.and_eq_true, Bool.or_eq_true, Bool.and_eq_false_iff, Bool.or_eq_false_iff, Bool.not_eq_true', Bool.not_eq_false', decide_eq_true_eq, decide_eq_false_iff_not, Bool.not_eq_true, Bool.not_eq_false] at h4
            refine cw_skip ?_
            refine ex_then ?_
            refine cw_seq ?_
            refine cw_seq ?_
            refine cw_region ?_
            refine sq_r (ry_move rfl) ?_
            refine sq_r (ry_move rfl) ?_
            refine sq_r (ry_whole rfl) ?_
            refine sq_r (ry_buildc rfl) ?_
            refine sq_y (yl_callC rfl trivial) ?_
            refine sq_nil ?_
            refine ex_then ?_
            refine cw_cond rfl (fun h6 => ?_) (fun h6 => ?_)
            · try simp only [Bool.and_eq_true, Bool.or_eq_true, Bool.and_eq_false_iff, Bool.or_eq_false_iff, Bool.not_eq_true', Bool.not_eq_false', decide_eq_true_eq, decide_eq_false_iff_not, Bool.not_eq_true, Bool.not_eq_false] at h6
              obtain ⟨hb0, _⟩ := (pmay_iff _).1 h6
              have hb : bits = 32 ∨ bits = 128 := hb0
              have hch : chainV ts k bits = rchain ts k bits (bits + 1).toNat := by rw [hcv, rchain_eq hord (by omega)]
              refine cw_seq ?_
              refine cw_region ?_
              refine sq_r (ry_move rfl) ?_
              refine sq_r (ry_move rfl) ?_
              refine sq_r (ry_whole rfl) ?_
              refine sq_r (ry_move rfl) ?_
              refine sq_callC rfl ⟨hr, by omega, by omega⟩ fun x134 hp134 => ?_
              refine sq_y (yl_callC rfl (by omega)) ?_
              refine sq_r (ry_not rfl) ?_
              refine sq_nil ?_
              refine ex_then ?_
              refine cw_cond rfl (fun h7 => ?_) (fun h7 => ?_)
              · exfalso; simp [hch] at h7
              · try simp only [Bool.and_eq_true, Bool.or_eq_true, Bool.and_eq_false_iff, Bool.or_eq_false_iff, Bool.not_eq_true', Bool.not_eq_false', decide_eq_true_eq, decide_eq_false_iff_not, Bool.not_eq_true, Bool.not_eq_false] at h7
                refine cw_skip ?_
                refine ex_then ?_
                refine cw_seq ?_
                refine cw_region ?_
                refine sq_r (ry_move rfl) ?_
                refine sq_r (ry_move rfl) ?_
                refine sq_callC rfl hr fun x142 hp142 => ?_
                refine sq_y (yl_callC rfl (by omega)) ?_
                refine sq_r (ry_move rfl) ?_
                refine sq_ty rfl rfl rfl (by simp [hlv, htv, hdv]) (Ry.yl (ry_move rfl)) ?_
                refine sq_ty rfl rfl rfl (by simp [hlv, htv, hdv]) (Ry.yl (ry_move rfl)) ?_
                refine sq_tcallC rfl rfl (by simp [hlv, htv, hdv]) rfl hr fun x147 hp147 => ?_
                refine sq_ty rfl rfl rfl (by simp [hlv, htv, hdv]) (yl_callC rfl (by omega)) ?_
                refine sq_r (ry_pickT rfl (by simp [hlv, htv, hdv]) rfl rfl) ?_
                refine sq_r (ry_move rfl) ?_
                refine sq_ty rfl rfl rfl (by simp [hlv, htv, hdv]) (Ry.yl (ry_move rfl)) ?_
                refine sq_ty rfl rfl rfl (by simp [hlv, htv, hdv]) (Ry.yl (ry_move rfl)) ?_
                refine sq_ty rfl rfl rfl (by simp [hlv, htv, hdv]) (yl_callC rfl (by omega)) ?_
                refine sq_ty rfl rfl rfl (by simp [hlv, htv, hdv]) (Ry.yl (ry_int rfl rfl rfl)) ?_
                refine sq_r (ry_pickT rfl (by simp [hlv, htv, hdv]) rfl rfl) ?_
                refine sq_r (ry_assign rfl) ?_
                refine sq_nil ?_
                refine ex_then ?_
                refine cw_ret ?_
                refine ex_ret (.inl rfl) (res_1 rfl (rv_tmp rfl)) (fun w1 hw => ?_)
                exact ⟨congrArg (fun b => Ending.returned (Value.bool b)) ((by simp [hdv])), Keep.mem hw⟩
            · try simp only [Bool.and_eq_true, Bool.or_eq_true, Bool.and_eq_false_iff, Bool.or_eq_false_iff, Bool.not_eq_true', Bool.not_eq_false', decide_eq_true_eq, decide_eq_false_iff_not, Bool.not_eq_true, Bool.not_eq_false] at h6
              have hch : chainV ts k bits = [] := by rw [chainV, if_pos]; simp [bestE, bestO, h6]
              refine cw_seq ?_
              refine cw_region ?_
              refine sq_r (ry_move rfl) ?_
              refine sq_r (ry_lenH rfl) ?_
              refine sq_r (ry_int rfl rfl rfl) ?_
              refine sq_nil ?_
              refine ex_then ?_
              refine cw_cond rfl (fun h8 => ?_) (fun h8 => ?_)
              · exfalso; simp [hch] at h8
              · try simp only [Bool.and_eq_true, Bool.or_eq_true, Bool.and_eq_false_iff, Bool.or_eq_false_iff, Bool.not_eq_true', Bool.not_eq_false', decide_eq_true_eq, decide_eq_false_iff_not, Bool.not_eq_true, Bool.not_eq_false] at h8
                refine cw_skip ?_
                refine ex_then ?_
                refine cw_seq ?_
                refine cw_region ?_
                refine sq_r (ry_move rfl) ?_
                refine sq_r (ry_move rfl) ?_
                refine sq_callC rfl hr fun x142 hp142 => ?_
                refine sq_y (yl_callC rfl (by omega)) ?_
                refine sq_r (ry_move rfl) ?_
                refine sq_ty rfl rfl rfl (by simp [hlv, htv, hdv]) (Ry.yl (ry_move rfl)) ?_
                refine sq_ty rfl rfl rfl (by simp [hlv, htv, hdv]) (Ry.yl (ry_move rfl)) ?_
                refine sq_tcallC rfl rfl (by simp [hlv, htv, hdv]) rfl hr fun x147 hp147 => ?_
                refine sq_ty rfl rfl rfl (by simp [hlv, htv, hdv]) (yl_callC rfl (by omega)) ?_
                refine sq_r (ry_pickT rfl (by simp [hlv, htv, hdv]) rfl rfl) ?_
                refine sq_r (ry_move rfl) ?_
                refine sq_ty rfl rfl rfl (by simp [hlv, htv, hdv]) (Ry.yl (ry_move rfl)) ?_
                refine sq_ty rfl rfl rfl (by simp [hlv, htv, hdv]) (Ry.yl (ry_move rfl)) ?_
                refine sq_ty rfl rfl rfl (by simp [hlv, htv, hdv]) (yl_callC rfl (by omega)) ?_
                refine sq_ty rfl rfl rfl (by simp [hlv, htv, hdv]) (Ry.yl (ry_int rfl rfl rfl)) ?_
                refine sq_r (ry_pickT rfl (by simp [hlv, htv, hdv]) rfl rfl) ?_
                refine sq_r (ry_assign rfl) ?_
                refine sq_nil ?_
                refine ex_then ?_
                refine cw_ret ?_
                refine ex_ret (.inl rfl) (res_1 rfl (rv_tmp rfl)) (fun w1 hw => ?_)
                exact ⟨congrArg (fun b => Ending.returned (Value.bool b)) ((by simp [hdv])), Keep.mem hw⟩
        · try simp only [Bool.and_eq_true, Bool.or_eq_true, Bool.and_eq_false_iff, Bool.or_eq_false_iff, Bool.not_eq_true', Bool.not_eq_false', decide_eq_true_eq, decide_eq_false_iff_not, Bool.not_eq_true, Bool.not_eq_false] at h3
          have hok : nextOk ts p = true := by rw [nextOk, h3, hr]; rfl
          have q1 : wnextR ts p = (nextP ts p).getD zroute := if_pos hok
          have q2 : wnextE ts p = (if (nextP ts p).isSome = true then 0 else 6) := if_pos hok
          obtain ⟨ho1, ho2⟩ := over_ref hord p
          have q3 : overR ts p = (if (roverR ts p).p.len < 0 then zroute else roverR ts p) := (if_pos hok).trans ho1.symm
          have q4 : overE ts p = (if (roverR ts p).p.len < 0 then 6 else 0) := (if_pos hok).trans ho2.symm
          refine cw_seq ?_
          refine cw_region ?_
          refine sq_r (ry_move rfl) ?_
          refine sq_r (ry_whole rfl) ?_
          refine sq_y (yl_callC rfl trivial) ?_
          refine sq_r (ry_move rfl) ?_
          refine sq_r (ry_extract (v := .agg (rcells ((nextP ts p).getD zroute))) rfl rfl) ?_
          refine sq_r (ry_extract (v := .int .i64 (if (nextP ts p).isSome = true then 0 else 6)) rfl rfl) ?_
          refine sq_allocA fun b17 => ?_
          refine sq_storeW rfl rfl ?_
          refine sq_r (ry_assign rfl) ?_
          refine sq_nil ?_
          refine ex_then ?_
          refine cw_seq ?_
          refine cw_region ?_
          refine sq_r (ry_move rfl) ?_
          refine sq_r (ry_whole rfl) ?_
          refine sq_y (yl_callC rfl trivial) ?_
          refine sq_r (ry_move rfl) ?_
          refine sq_r (ry_extract (v := .agg (rcells (if (roverR ts p).p.len < 0 then zroute else roverR ts p))) rfl rfl) ?_
          refine sq_r (ry_extract (v := .int .i64 (if (roverR ts p).p.len < 0 then 6 else 0)) rfl rfl) ?_
          refine sq_allocA fun b19 => ?_
          refine sq_storeW rfl rfl ?_
          refine sq_r (ry_assign rfl) ?_
          refine sq_nil ?_
          refine ex_then ?_
          refine cw_seq ?_
          refine cw_region ?_
          refine sq_r (ry_whole rfl) ?_
          refine sq_r (ry_whole rfl) ?_
          refine sq_r (ry_ne rfl rfl) ?_
          refine sq_r (ry_move rfl) ?_
          refine sq_ty rfl rfl rfl (by simp [q1, q2, q3, q4]) (Ry.yl (ry_whole rfl)) ?_
          refine sq_ty rfl rfl rfl (by simp [q1, q2, q3, q4]) (Ry.yl (ry_whole rfl)) ?_
          refine sq_ty rfl rfl rfl (by simp [q1, q2, q3, q4]) (Ry.yl (ry_ne rfl rfl)) ?_
          refine sq_r (ry_pickF rfl (by simp [q1, q2, q3, q4]) rfl rfl) ?_
          refine sq_r (ry_move rfl) ?_
          refine sq_ty rfl rfl rfl (by simp [q1, q2, q3, q4]) (Ry.yl (ry_move rfl)) ?_
          refine sq_ty rfl rfl rfl (by simp [q1, q2, q3, q4]) (Ry.yl (ry_move rfl)) ?_
          refine sq_ty rfl rfl rfl (by simp [q1, q2, q3, q4]) (Ry.yl (ry_int rfl rfl rfl)) ?_
          refine sq_r (ry_pickF rfl (by simp [q1, q2, q3, q4]) rfl rfl) ?_
          refine sq_r (ry_move rfl) ?_
          refine sq_ty rfl rfl rfl (by simp [q1, q2, q3, q4]) (Ry.yl (ry_move rfl)) ?_
          refine sq_ty rfl rfl rfl (by simp [q1, q2, q3, q4]) (Ry.yl (ry_move rfl)) ?_
          refine sq_ty rfl rfl rfl (by simp [q1, q2, q3, q4]) (Ry.yl (ry_int rfl rfl rfl)) ?_
          refine sq_r (ry_pickF rfl (by simp [q1, q2, q3, q4]) rfl rfl) ?_
          refine sq_nil ?_
          refine ex_then ?_
          refine cw_cond rfl (fun h5 => ?_) (fun h5 => ?_)
          · exfalso; simp [q1, q2, q3, q4] at h5
          · try simp only [Bool.and_eq_true, Bool.or_eq_true, Bool.and_eq_false_iff, Bool.or_eq_false_iff, Bool.not_eq_true', Bool.not_eq_false', decide_eq_true_eq, decide_eq_false_iff_not, Bool.not_eq_true, Bool.not_eq_false] at h5
            refine cw_skip ?_
            refine ex_then ?_
            refine cw_seq ?_
            refine cw_seq ?_
            refine cw_region ?_
            refine sq_r (ry_move rfl) ?_
            refine sq_r (ry_move rfl) ?_
            refine sq_r (ry_whole rfl) ?_
            refine sq_r (ry_buildc rfl) ?_
            refine sq_y (yl_callC rfl trivial) ?_
            refine sq_nil ?_
            refine ex_then ?_
            refine cw_cond rfl (fun h6 => ?_) (fun h6 => ?_)
            · try simp only [Bool.and_eq_true, Bool.or_eq_true, Bool.and_eq_false_iff, Bool.or_eq_false_iff, Bool.not_eq_true', Bool.not_eq_false', decide_eq_true_eq, decide_eq_false_iff_not, Bool.not_eq_true, Bool.not_eq_false] at h6
              obtain ⟨hb0, _⟩ := (pmay_iff _).1 h6
              have hb : bits = 32 ∨ bits = 128 := hb0
              have hch : chainV ts k bits = rchain ts k bits (bits + 1).toNat := by rw [hcv, rchain_eq hord (by omega)]
              refine cw_seq ?_
              refine cw_region ?_
              refine sq_r (ry_move rfl) ?_
              refine sq_r (ry_move rfl) ?_
              refine sq_r (ry_whole rfl) ?_
              refine sq_r (ry_move rfl) ?_
              refine sq_callC rfl ⟨hr, by omega, by omega⟩ fun x134 hp134 => ?_
              refine sq_y (yl_callC rfl (by omega)) ?_
              refine sq_r (ry_not rfl) ?_
              refine sq_nil ?_
              refine ex_then ?_
              refine cw_cond rfl (fun h7 => ?_) (fun h7 => ?_)
              · exfalso; simp [hch] at h7
              · try simp only [Bool.and_eq_true, Bool.or_eq_true, Bool.and_eq_false_iff, Bool.or_eq_false_iff, Bool.not_eq_true', Bool.not_eq_false', decide_eq_true_eq, decide_eq_false_iff_not, Bool.not_eq_true, Bool.not_eq_false] at h7
                refine cw_skip ?_
                refine ex_then ?_
                refine cw_seq ?_
                refine cw_region ?_
                refine sq_r (ry_move rfl) ?_
                refine sq_r (ry_move rfl) ?_
                refine sq_callC rfl hr fun x142 hp142 => ?_
                refine sq_y (yl_callC rfl (by omega)) ?_
                refine sq_r (ry_move rfl) ?_
                refine sq_ty rfl rfl rfl (by simp [hlv, htv, hdv]) (Ry.yl (ry_move rfl)) ?_
                refine sq_ty rfl rfl rfl (by simp [hlv, htv, hdv]) (Ry.yl (ry_move rfl)) ?_
                refine sq_tcallC rfl rfl (by simp [hlv, htv, hdv]) rfl hr fun x147 hp147 => ?_
                refine sq_ty rfl rfl rfl (by simp [hlv, htv, hdv]) (yl_callC rfl (by omega)) ?_
                refine sq_r (ry_pickT rfl (by simp [hlv, htv, hdv]) rfl rfl) ?_
                refine sq_r (ry_move rfl) ?_
                refine sq_ty rfl rfl rfl (by simp [hlv, htv, hdv]) (Ry.yl (ry_move rfl)) ?_
                refine sq_ty rfl rfl rfl (by simp [hlv, htv, hdv]) (Ry.yl (ry_move rfl)) ?_
                refine sq_ty rfl rfl rfl (by simp [hlv, htv, hdv]) (yl_callC rfl (by omega)) ?_
                refine sq_ty rfl rfl rfl (by simp [hlv, htv, hdv]) (Ry.yl (ry_int rfl rfl rfl)) ?_
                refine sq_r (ry_pickT rfl (by simp [hlv, htv, hdv]) rfl rfl) ?_
                refine sq_r (ry_assign rfl) ?_
                refine sq_nil ?_
                refine ex_then ?_
                refine cw_ret ?_
                refine ex_ret (.inl rfl) (res_1 rfl (rv_tmp rfl)) (fun w1 hw => ?_)
                exact ⟨congrArg (fun b => Ending.returned (Value.bool b)) ((by simp [hdv])), Keep.mem hw⟩
            · try simp only [Bool.and_eq_true, Bool.or_eq_true, Bool.and_eq_false_iff, Bool.or_eq_false_iff, Bool.not_eq_true', Bool.not_eq_false', decide_eq_true_eq, decide_eq_false_iff_not, Bool.not_eq_true, Bool.not_eq_false] at h6
              have hch : chainV ts k bits = [] := by rw [chainV, if_pos]; simp [bestE, bestO, h6]
              refine cw_seq ?_
              refine cw_region ?_
              refine sq_r (ry_move rfl) ?_
              refine sq_r (ry_lenH rfl) ?_
              refine sq_r (ry_int rfl rfl rfl) ?_
              refine sq_nil ?_
              refine ex_then ?_
              refine cw_cond rfl (fun h8 => ?_) (fun h8 => ?_)
              · exfalso; simp [hch] at h8
              · try simp only [Bool.and_eq_true, Bool.or_eq_true, Bool.and_eq_false_iff, Bool.or_eq_false_iff, Bool.not_eq_true', Bool.not_eq_false', decide_eq_true_eq, decide_eq_false_iff_not, Bool.not_eq_true, Bool.not_eq_false] at h8
                refine cw_skip ?_
                refine ex_then ?_
                refine cw_seq ?_
                refine cw_region ?_
                refine sq_r (ry_move rfl) ?_
                refine sq_r (ry_move rfl) ?_
                refine sq_callC rfl hr fun x142 hp142 => ?_
                refine sq_y (yl_callC rfl (by omega)) ?_
                refine sq_r (ry_move rfl) ?_
                refine sq_ty rfl rfl rfl (by simp [hlv, htv, hdv]) (Ry.yl (ry_move rfl)) ?_
                refine sq_ty rfl rfl rfl (by simp [hlv, htv, hdv]) (Ry.yl (ry_move rfl)) ?_
                refine sq_tcallC rfl rfl (by simp [hlv, htv, hdv]) rfl hr fun x147 hp147 => ?_
                refine sq_ty rfl rfl rfl (by simp [hlv, htv, hdv]) (yl_callC rfl (by omega)) ?_
                refine sq_r (ry_pickT rfl (by simp [hlv, htv, hdv]) rfl rfl) ?_
                refine sq_r (ry_move rfl) ?_
                refine sq_ty rfl rfl rfl (by simp [hlv, htv, hdv]) (Ry.yl (ry_move rfl)) ?_
                refine sq_ty rfl rfl rfl (by simp [hlv, htv, hdv]) (Ry.yl (ry_move rfl)) ?_
                refine sq_ty rfl rfl rfl (by simp [hlv, htv, hdv]) (yl_callC rfl (by omega)) ?_
                refine sq_ty rfl rfl rfl (by simp [hlv, htv, hdv]) (Ry.yl (ry_int rfl rfl rfl)) ?_
                refine sq_r (ry_pickT rfl (by simp [hlv, htv, hdv]) rfl rfl) ?_
                refine sq_r (ry_assign rfl) ?_
                refine sq_nil ?_
                refine ex_then ?_
                refine cw_ret ?_
                refine ex_ret (.inl rfl) (res_1 rfl (rv_tmp rfl)) (fun w1 hw => ?_)
                exact ⟨congrArg (fun b => Ending.returned (Value.bool b)) ((by simp [hdv])), Keep.mem hw⟩

end Go.Proofs.Ytajhlgdapiihgaa

