/- The law TrieMore: walked. -/
import Derived.Test.YtajhlgdapiihgaaMi
import Derived.Test.YtajhlgdapiihgaaMc
import Derived.Test.YtajhlgdapiihgaaMf

set_option linter.unusedSimpArgs false
set_option linter.unusedVariables false
namespace Go.Proofs.Ytajhlgdapiihgaa
open Go.Eng Go.Kb
set_option maxRecDepth 20000 in
theorem trieMore_c (w : World) (t : Sv) (ts : List Rt) (r : Rt) (k : Key) (bits : Int) (ht : Lies rcells 19 (hp w) t ts) : Calls Try.prog 11 #[t.val, .agg (rcells r), .agg (kcells k), .int .i64 bits] w fun e w' => e = .returned (.bool true) ∧ Mem w [] w' := by
  have ght : Gv w t rcells 19 ts := ⟨ht⟩
  refine calls_of (args := [_, _, _, _]) Try.func11 rfl Try.ntmps11 rfl ?_
  change Cw _ _ _ _ _ [(0, t.val), (1, .agg (rcells r)), (2, .agg (kcells k)), (3, .int .i64 bits)] []
  refine cw_seq ?_
  refine cw_region ?_
  refine sq_boxA rfl fun b5 => ?_
  refine sq_boxA rfl fun b6 => ?_
  refine sq_r (ry_assign rfl) ?_
  refine sq_nil ?_
  refine ex_then ?_
  refine cw_seq ?_
  refine cw_seq ?_
  refine cw_region ?_
  refine sq_y (yl_callC rfl trivial) ?_
  refine sq_r (ry_not rfl) ?_
  refine sq_nil ?_
  refine ex_then ?_
  refine cw_cond rfl (fun h0 => ?_) (fun h0 => ?_)
  · exfalso; simp at h0
  · try simp only [Bool.and_eq_true, Bool.or_eq_true, Bool.and_eq_false_iff, Bool.or_eq_false_iff, Bool.not_eq_true', Bool.not_eq_false', decide_eq_true_eq, decide_eq_false_iff_not, Bool.not_eq_true, Bool.not_eq_false] at h0
    refine cw_skip ?_
    refine ex_then ?_
    refine cw_seq ?_
    refine cw_seq ?_
    refine cw_region ?_
    refine sq_r (ry_move rfl) ?_
    refine sq_r (ry_lenH rfl) ?_
    refine sq_r (ry_int rfl rfl rfl) ?_
    refine sq_r (ry_move rfl) ?_
    refine sq_gf rfl rfl rfl (fun hg => (Ry.yl (ry_move rfl))) ?_
    refine sq_gf rfl rfl rfl (fun hg => yl_callC (evl_cons (ev_c hg rfl) evl_nil) trivial) ?_
    refine sq_gf rfl rfl rfl (fun hg => (Ry.yl (ry_not (ev_c hg rfl)))) ?_
    refine sq_r (ry_or rfl rfl rfl) ?_
    refine sq_nil ?_
    refine ex_then ?_
    refine cw_cond rfl (fun h1 => ?_) (fun h1 => ?_)
    · try simp only [Bool.and_eq_true, Bool.or_eq_true, Bool.and_eq_false_iff, Bool.or_eq_false_iff, Bool.not_eq_true', Bool.not_eq_false', decide_eq_true_eq, decide_eq_false_iff_not, Bool.not_eq_true, Bool.not_eq_false] at h1
      refine cw_seq ?_
      refine cw_region ?_
      refine sq_r (ry_assign rfl) ?_
      refine sq_nil ?_
      refine ex_then ?_
      refine cw_ret ?_
      refine ex_pass_ret ?_
      refine ex_ret (.inl rfl) (res_1 rfl (rv_tmp rfl)) (fun w1 hw => ?_)
      exact ⟨congrArg (fun b => Ending.returned (Value.bool b)) (rfl), Keep.mem hw⟩
    · try simp only [Bool.and_eq_true, Bool.or_eq_true, Bool.and_eq_false_iff, Bool.or_eq_false_iff, Bool.not_eq_true', Bool.not_eq_false', decide_eq_true_eq, decide_eq_false_iff_not, Bool.not_eq_true, Bool.not_eq_false] at h1
      have hr : tright ts = true := by simpa using h1.2
      have hlen := tr_len hr
      have hbt := ht.bd
      refine cw_skip ?_
      refine ex_then ?_
      refine cw_seq ?_
      refine cw_region ?_
      refine sq_r (ry_move rfl) ?_
      refine sq_r (ry_whole rfl) ?_
      refine sq_r (ry_buildc rfl) ?_
      refine sq_buildSlice (enc := chcells) (vals := [_]) [(⟨r, false⟩ : Ch)] rfl rfl rfl (by decide) (by decide) fun b36 => ?_
      refine sq_callC rfl (by omega) fun x37 hp37 => ?_
      refine sq_r (ry_move rfl) ?_
      refine sq_r (ry_extract (v := x37.val) rfl rfl) ?_
      refine sq_r (ry_extract (v := .int .i64 (appE ts [(⟨r, false⟩ : Ch)])) rfl rfl) ?_
      refine sq_r (ry_assign rfl) ?_
      refine sq_r (ry_assign rfl) ?_
      refine sq_nil ?_
      refine ex_then ?_
      refine cw_seq ?_
      refine cw_region ?_
      refine sq_r (ry_move rfl) ?_
      refine sq_r (ry_move rfl) ?_
      refine sq_callC rfl trivial fun x43 hp43 => ?_
      refine sq_r (ry_move rfl) ?_
      refine sq_r (ry_extract (v := .agg (tcells x43)) rfl rfl) ?_
      refine sq_r (ry_extract (v := .int .i64 (buildE ts bits)) rfl rfl) ?_
      refine sq_allocA fun b11 => ?_
      refine sq_storeW rfl rfl ?_
      refine sq_r (ry_assign rfl) ?_
      refine sq_nil ?_
      refine ex_then ?_
      refine cw_seq ?_
      refine cw_region ?_
      refine sq_r (ry_move rfl) ?_
      refine sq_r (ry_move rfl) ?_
      refine sq_callC rfl trivial fun x49 hp49 => ?_
      refine sq_r (ry_move rfl) ?_
      refine sq_r (ry_extract (v := .agg (tcells x49)) rfl rfl) ?_
      refine sq_r (ry_extract (v := .int .i64 (buildE (appL ts [(⟨r, false⟩ : Ch)]) bits)) rfl rfl) ?_
      refine sq_allocA fun b13 => ?_
      refine sq_storeW rfl rfl ?_
      refine sq_r (ry_assign rfl) ?_
      refine sq_nil ?_
      refine ex_then ?_
      refine cw_seq ?_
      refine cw_seq ?_
      refine cw_region ?_
      refine sq_r (ry_move rfl) ?_
      refine sq_r (ry_int rfl rfl rfl) ?_
      refine sq_r (ry_move rfl) ?_
      refine sq_gf rfl rfl rfl (fun hg => (Ry.yl (ry_move rfl))) ?_
      refine sq_gf rfl rfl rfl (fun hg => (Ry.yl (ry_int (ev_c hg rfl) rfl rfl))) ?_
      refine sq_r (ry_or rfl rfl rfl) ?_
      refine sq_r (ry_move rfl) ?_
      refine sq_gf rfl rfl rfl (fun hg => (Ry.yl (ry_move rfl))) ?_
      refine sq_gf rfl rfl rfl (fun hg => (Ry.yl (ry_int (ev_c hg rfl) rfl rfl))) ?_
      refine sq_r (ry_or rfl rfl rfl) ?_
      refine sq_nil ?_
      refine ex_then ?_
      refine cw_cond rfl (fun h2 => ?_) (fun h2 => ?_)
      · try simp only [Bool.and_eq_true, Bool.or_eq_true, Bool.and_eq_false_iff, Bool.or_eq_false_iff, Bool.not_eq_true', Bool.not_eq_false', decide_eq_true_eq, decide_eq_false_iff_not, Bool.not_eq_true, Bool.not_eq_false] at h2
        refine cw_seq ?_
        refine cw_region ?_
        refine sq_r (ry_assign rfl) ?_
        refine sq_nil ?_
        refine ex_then ?_
        refine cw_ret ?_
        refine ex_pass_ret ?_
        refine ex_ret (.inl rfl) (res_1 rfl (rv_tmp rfl)) (fun w1 hw => ?_)
        exact ⟨congrArg (fun b => Ending.returned (Value.bool b)) (rfl), Keep.mem hw⟩
      · try simp only [Bool.and_eq_true, Bool.or_eq_true, Bool.and_eq_false_iff, Bool.or_eq_false_iff, Bool.not_eq_true', Bool.not_eq_false', decide_eq_true_eq, decide_eq_false_iff_not, Bool.not_eq_true, Bool.not_eq_false] at h2
        obtain ⟨⟨g1, g2⟩, g3⟩ := h2
        obtain ⟨hc, hU⟩ := app_one g1
        have hm := more_mem hr hc
        obtain ⟨q1, q2, q3⟩ := find_best (k := k) (b := x43.bits) (N := x43.ns.xs) g2 hp43.1 hp43.2
        obtain ⟨q4, q5, q6⟩ := find_best (k := k) (b := x49.bits) (N := x49.ns.xs) g3 hp49.1 hp49.2
        have hu : tright (appL ts [(⟨r, false⟩ : Ch)]) = true := (build_ok g3).1.1
        have hmu : ∀ x, x ∈ appL ts [(⟨r, false⟩ : Ch)] ↔ x = r ∨ (x ∈ ts ∧ x.p ≠ r.p) := by rw [hU]; exact hm
        refine cw_skip ?_
        refine ex_then ?_
        refine cw_seq ?_
        refine cw_region ?_
        refine sq_r (ry_whole rfl) ?_
        refine sq_r (ry_whole rfl) ?_
        refine sq_y (yl_callC rfl trivial) ?_
        refine sq_r (ry_move rfl) ?_
        refine sq_r (ry_extract (v := .int .i64 (findN x43.bits x43.ns.xs k)) rfl rfl) ?_
        refine sq_r (ry_extract (v := .int .u16 ((findH x43.bits x43.ns.xs k).toNat : Nat)) rfl rfl) ?_
        refine sq_r (ry_extract (v := .int .i64 (findE x43.bits x43.ns.xs k)) rfl rfl) ?_
        refine sq_r (ry_assign rfl) ?_
        refine sq_r (ry_assign rfl) ?_
        refine sq_r (ry_assign rfl) ?_
        refine sq_nil ?_
        refine ex_then ?_
        refine cw_seq ?_
        refine cw_region ?_
        refine sq_r (ry_whole rfl) ?_
        refine sq_r (ry_whole rfl) ?_
        refine sq_y (yl_callC rfl trivial) ?_
        refine sq_r (ry_move rfl) ?_
        refine sq_r (ry_extract (v := .int .i64 (findN x49.bits x49.ns.xs k)) rfl rfl) ?_
        refine sq_r (ry_extract (v := .int .u16 ((findH x49.bits x49.ns.xs k).toNat : Nat)) rfl rfl) ?_
        refine sq_r (ry_extract (v := .int .i64 (findE x49.bits x49.ns.xs k)) rfl rfl) ?_
        refine sq_r (ry_assign rfl) ?_
        refine sq_r (ry_assign rfl) ?_
        refine sq_r (ry_assign rfl) ?_
        refine sq_nil ?_
        refine ex_then ?_
        refine cw_seq ?_
        refine cw_region ?_
        refine sq_r (ry_move rfl) ?_
        refine sq_r (ry_move rfl) ?_
        refine sq_r (ry_int rfl rfl rfl) ?_
        refine sq_r (ry_move rfl) ?_
        refine sq_gt rfl rfl rfl (fun hg => (Ry.yl (ry_move rfl))) ?_
        refine sq_gt rfl rfl rfl (fun hg => (Ry.yl (ry_move rfl))) ?_
        refine sq_gt rfl rfl rfl (fun hg => (Ry.yl (ry_int (ev_c hg rfl) (ev_c hg rfl) rfl))) ?_
        refine sq_r (ry_and rfl rfl rfl) ?_
        refine sq_r (ry_move rfl) ?_
        refine sq_gt rfl rfl rfl (fun hg => (Ry.yl (ry_move rfl))) ?_
        refine sq_gt rfl rfl rfl (fun hg => (Ry.yl (ry_move rfl))) ?_
        refine sq_gt rfl rfl rfl (fun hg => (Ry.yl (ry_int (ev_c hg rfl) (ev_c hg rfl) rfl))) ?_
        refine sq_r (ry_and rfl rfl rfl) ?_
        refine sq_r (ry_assign rfl) ?_
        refine sq_nil ?_
        refine ex_then ?_
        refine cw_seq ?_
        refine cw_seq ?_
        refine cw_region ?_
        refine sq_r (ry_field (o' := 0) rfl rfl) ?_
        refine sq_r (ry_field (o' := 0) rfl rfl) ?_
        refine sq_r (ry_cellc rfl) ?_
        refine sq_r (ry_move rfl) ?_
        refine sq_r (ry_int rfl rfl rfl) ?_
        refine sq_nil ?_
        refine ex_then ?_
        refine cw_cond rfl (fun h3 => ?_) (fun h3 => ?_)
        · try simp only [Bool.and_eq_true, Bool.or_eq_true, Bool.and_eq_false_iff, Bool.or_eq_false_iff, Bool.not_eq_true', Bool.not_eq_false', decide_eq_true_eq, decide_eq_false_iff_not, Bool.not_eq_true, Bool.not_eq_false] at h3
          have hw : onWay k bits r = false := by rw [onWay, decide_eq_false h3]; rfl
          obtain ⟨e1, e2⟩ := more_no hr hu hmu hw
          obtain ⟨e3, e4⟩ := more_same hc h3 g2 (by rw [← hU]; exact g3)
          rw [← hU] at e3 e4
          have e5 : x43.bits = x49.bits := by rw [hp43.1, hp49.1, e3]
          have e6 : x43.ns.xs = x49.ns.xs := by rw [hp43.2, hp49.2, e4]
          refine cw_seq ?_
          refine cw_region ?_
          refine sq_r (ry_move rfl) ?_
          refine sq_r (ry_move rfl) ?_
          refine sq_ty rfl rfl rfl (by simp [q1, q2, q3, q4, q5, q6, e1, e2]) (Ry.yl (ry_whole rfl)) ?_
          refine sq_ty rfl rfl rfl (by simp [q1, q2, q3, q4, q5, q6, e1, e2]) (Ry.yl (ry_whole rfl)) ?_
          refine sq_ty rfl rfl rfl (by simp [q1, q2, q3, q4, q5, q6, e1, e2]) (yl_callC rfl trivial) ?_
          refine sq_r (ry_pickT rfl (by simp [q1, q2, q3, q4, q5, q6, e1, e2]) rfl rfl) ?_
          refine sq_r (ry_assign rfl) ?_
          refine sq_nil ?_
          refine ex_then ?_
          refine cw_ret ?_
          refine ex_pass_ret ?_
          refine ex_ret (.inl rfl) (res_1 rfl (rv_tmp rfl)) (fun w1 hw => ?_)
          exact ⟨congrArg (fun b => Ending.returned (Value.bool b)) ((by rw [e5, e6]; simp)), Keep.mem hw⟩
        · try simp only [Bool.and_eq_true, Bool.or_eq_true, Bool.and_eq_false_iff, Bool.or_eq_false_iff, Bool.not_eq_true', Bool.not_eq_false', decide_eq_true_eq, decide_eq_false_iff_not, Bool.not_eq_true, Bool.not_eq_false] at h3
          have h3x : r.p.bits = bits := by simpa using h3
          refine cw_skip ?_
          refine ex_then ?_
          refine cw_seq ?_
          refine cw_seq ?_
          refine cw_region ?_
          refine sq_r (ry_field (o' := 0) rfl rfl) ?_
          refine sq_r (ry_part rfl) ?_
          refine sq_r (ry_whole rfl) ?_
          refine sq_y (yl_callC rfl trivial) ?_
          refine sq_r (ry_not rfl) ?_
          refine sq_nil ?_
          refine ex_then ?_
          refine cw_cond rfl (fun h4 => ?_) (fun h4 => ?_)
          · try simp only [Bool.and_eq_true, Bool.or_eq_true, Bool.and_eq_false_iff, Bool.or_eq_false_iff, Bool.not_eq_true', Bool.not_eq_false', decide_eq_true_eq, decide_eq_false_iff_not, Bool.not_eq_true, Bool.not_eq_false] at h4
            have hw : onWay k bits r = false := by rw [onWay, h4]; simp
            obtain ⟨e1, e2⟩ := more_no hr hu hmu hw
            refine cw_seq ?_
            refine cw_region ?_
            refine sq_r (ry_move rfl) ?_
            refine sq_r (ry_assign rfl) ?_
            refine sq_nil ?_
            refine ex_then ?_
            refine cw_ret ?_
            refine ex_pass_ret ?_
            refine ex_ret (.inl rfl) (res_1 rfl (rv_tmp rfl)) (fun w1 hw => ?_)
            exact ⟨congrArg (fun b => Ending.returned (Value.bool b)) ((by simp [q1, q2, q3, q4, q5, q6, e1, e2])), Keep.mem hw⟩
          · try simp only [Bool.and_eq_true, Bool.or_eq_true, Bool.and_eq_false_iff, Bool.or_eq_false_iff, Bool.not_eq_true', Bool.not_eq_false', decide_eq_true_eq, decide_eq_false_iff_not, Bool.not_eq_true, Bool.not_eq_false] at h4
            have hw : onWay k bits r = true := by rw [onWay, h4, decide_eq_true h3x]; rfl
            refine cw_skip ?_
            refine ex_then ?_
            refine cw_seq ?_
            refine cw_seq ?_
            refine cw_region ?_
            refine sq_r (ry_move rfl) ?_
            refine sq_r (ry_int rfl rfl rfl) ?_
            refine sq_r (ry_move rfl) ?_
            refine sq_gt rfl rfl rfl (fun hg => (Ry.yl (ry_move rfl))) ?_
            refine sq_gt rfl rfl rfl (fun hg => (Ry.yl (ry_field (o' := 0) rfl rfl))) ?_
            refine sq_gt rfl rfl rfl (fun hg => (Ry.yl (ry_field (o' := 1) (ev_c hg rfl) rfl))) ?_
            refine sq_gt rfl rfl rfl (fun hg => (Ry.yl (ry_cellc (ev_c hg rfl)))) ?_
            refine sq_gt rfl rfl rfl (fun hg => (Ry.yl (ry_int (ev_c hg rfl) (ev_c hg rfl) rfl))) ?_
            refine sq_r (ry_and rfl rfl rfl) ?_
            refine sq_nil ?_
            refine ex_then ?_
            refine cw_cond rfl (fun h5 => ?_) (fun h5 => ?_)
            · try simp only [Bool.and_eq_true, Bool.or_eq_true, Bool.and_eq_false_iff, Bool.or_eq_false_iff, Bool.not_eq_true', Bool.not_eq_false', decide_eq_true_eq, decide_eq_false_iff_not, Bool.not_eq_true, Bool.not_eq_false] at h5
              have h5x : bestE ts k bits = 0 ∧ r.p.len < (bestR ts k bits).p.len := by rw [← q1, ← q2]; exact h5
              obtain ⟨e1, e2⟩ := more_long hr hu hmu h5x.1 h5x.2
              refine cw_seq ?_
              refine cw_region ?_
              refine sq_r (ry_move rfl) ?_
              refine sq_r (ry_assign rfl) ?_
              refine sq_nil ?_
              refine ex_then ?_
              refine cw_ret ?_
              refine ex_pass_ret ?_
              refine ex_ret (.inl rfl) (res_1 rfl (rv_tmp rfl)) (fun w1 hw => ?_)
              exact ⟨congrArg (fun b => Ending.returned (Value.bool b)) ((by simp [q1, q2, q3, q4, q5, q6, e1, e2])), Keep.mem hw⟩
            · try simp only [Bool.and_eq_true, Bool.or_eq_true, Bool.and_eq_false_iff, Bool.or_eq_false_iff, Bool.not_eq_true', Bool.not_eq_false', decide_eq_true_eq, decide_eq_false_iff_not, Bool.not_eq_true, Bool.not_eq_false] at h5
              have h5x : bestE ts k bits = 0 → (bestR ts k bits).p.len ≤ r.p.len := by rw [← q1, ← q2]; intro h6; rcases h5 with h | h; (exact absurd h6 h); omega
              obtain ⟨e1, e2⟩ := more_new hr hu hmu hw h5x
              refine cw_skip ?_
              refine ex_then ?_
              refine cw_seq ?_
              refine cw_region ?_
              refine sq_r (ry_move rfl) ?_
              refine sq_r (ry_int rfl rfl rfl) ?_
              refine sq_r (ry_move rfl) ?_
              refine sq_ty rfl rfl rfl (by simp [q4, q5, q6, e1, e2]) (Ry.yl (ry_move rfl)) ?_
              refine sq_ty rfl rfl rfl (by simp [q4, q5, q6, e1, e2]) (Ry.yl (ry_field (o' := 0) rfl rfl)) ?_
              refine sq_ty rfl rfl rfl (by simp [q4, q5, q6, e1, e2]) (Ry.yl (ry_field (o' := 1) rfl rfl)) ?_
              refine sq_ty rfl rfl rfl (by simp [q4, q5, q6, e1, e2]) (Ry.yl (ry_cellc rfl)) ?_
              refine sq_ty rfl rfl rfl (by simp [q4, q5, q6, e1, e2]) (Ry.yl (ry_int rfl rfl rfl)) ?_
              refine sq_r (ry_pickT rfl (by simp [q4, q5, q6, e1, e2]) rfl rfl) ?_
              refine sq_r (ry_move rfl) ?_
              refine sq_ty rfl rfl rfl (by simp [q4, q5, q6, e1, e2]) (Ry.yl (ry_move rfl)) ?_
              refine sq_ty rfl rfl rfl (by simp [q4, q5, q6, e1, e2]) (Ry.yl (ry_field (o' := 18) rfl rfl)) ?_
              refine sq_ty rfl rfl rfl (by simp [q4, q5, q6, e1, e2]) (Ry.yl (ry_cellc rfl)) ?_
              refine sq_ty rfl rfl rfl (by simp [q4, q5, q6, e1, e2]) (Ry.yl (ry_int rfl rfl rfl)) ?_
              refine sq_r (ry_pickT rfl (by simp [q4, q5, q6, e1, e2]) rfl rfl) ?_
              refine sq_r (ry_assign rfl) ?_
              refine sq_nil ?_
              refine ex_then ?_
              refine cw_ret ?_
              refine ex_ret (.inl rfl) (res_1 rfl (rv_tmp rfl)) (fun w1 hw => ?_)
              exact ⟨congrArg (fun b => Ending.returned (Value.bool b)) ((by simp [q4, q5, q6, e1, e2])), Keep.mem hw⟩

end Go.Proofs.Ytajhlgdapiihgaa

