/- TrieBest: walked. -/
import Derived.Test.YtembaconocgmlaaT3k
import Derived.Test.YtembaconocgmlaaPm
set_option linter.unusedSimpArgs false
set_option linter.unusedVariables false
namespace Go.Proofs.Ytembaconocgmlaa
open Go.Eng Go.Kb
set_option maxRecDepth 20000 in
theorem trieBest_c (w : World) (t : Sv) (ts : List Rt) (k : Key) (bits : Int) (ht : Lies rcells 19 (hp w) t ts) : Calls Try.prog 17 #[t.val, .agg (kcells k), .int .i64 bits] w fun e w' => e = .returned (.bool true) ∧ Mem w [] w' := by
  have ght : Gv w t rcells 19 ts := ⟨ht⟩
  refine calls_of (args := [_, _, _]) Try.func17 rfl Try.ntmps17 rfl ?_
  change Cw _ _ _ _ _ [(0, t.val), (1, .agg (kcells k)), (2, .int .i64 bits)] []
  refine cw_seq ?_
  refine cw_region ?_
  refine sq_boxA rfl fun b4 => ?_
  refine sq_r (ry_assign rfl) ?_
  refine sq_nil ?_
  refine ex_then ?_
  refine cw_seq ?_
  refine cw_seq ?_
  refine cw_region ?_
  refine sq_y (yl_callC rfl trivial) ?_
  refine sq_r (ry_not rfl) ?_
  refine sq_nil ?_
  refine ex_then ?_
  refine cw_cond rfl (fun h0 => ?_) (fun h0 => ?_)
  · exfalso; simp at h0
  · try simp only [Bool.and_eq_true, Bool.or_eq_true, Bool.and_eq_false_iff, Bool.or_eq_false_iff, Bool.not_eq_true', Bool.not_eq_false', decide_eq_true_eq, decide_eq_false_iff_not, Bool.not_eq_true, Bool.not_eq_false] at h0
    refine cw_skip ?_
    refine ex_then ?_
    refine cw_seq ?_
    refine cw_seq ?_
    refine cw_region ?_
    refine sq_r (ry_move rfl) ?_
    refine sq_r (ry_lenH rfl) ?_
    refine sq_r (ry_int rfl rfl rfl) ?_
    refine sq_r (ry_move rfl) ?_
    refine sq_gf rfl rfl rfl (fun hg => (Ry.yl (ry_move rfl))) ?_
    refine sq_gf rfl rfl rfl (fun hg => yl_callC (evl_cons (ev_c hg rfl) evl_nil) trivial) ?_
    refine sq_gf rfl rfl rfl (fun hg => (Ry.yl (ry_not (ev_c hg rfl)))) ?_
    refine sq_r (ry_or rfl rfl rfl) ?_
    refine sq_nil ?_
    refine ex_then ?_
    refine cw_cond rfl (fun h1 => ?_) (fun h1 => ?_)
    · try simp only [Bool.and_eq_true, Bool.or_eq_true, Bool.and_eq_false_iff, Bool.or_eq_false_iff, Bool.not_eq_true', Bool.not_eq_false', decide_eq_true_eq, decide_eq_false_iff_not, Bool.not_eq_true, Bool.not_eq_false] at h1
      refine cw_seq ?_
      refine cw_region ?_
      refine sq_r (ry_assign rfl) ?_
      refine sq_nil ?_
      refine ex_then ?_
      refine cw_ret ?_
      refine ex_pass_ret ?_
      refine ex_ret (.inl rfl) (res_1 rfl (rv_tmp rfl)) (fun w1 hw => ?_)
      exact ⟨congrArg (fun b => Ending.returned (Value.bool b)) (rfl), Keep.mem hw⟩
    · try simp only [Bool.and_eq_true, Bool.or_eq_true, Bool.and_eq_false_iff, Bool.or_eq_false_iff, Bool.not_eq_true', Bool.not_eq_false', decide_eq_true_eq, decide_eq_false_iff_not, Bool.not_eq_true, Bool.not_eq_false] at h1
      have hr : tright ts = true := by simpa using h1.2
      have hlen := tr_len hr
      have hm : ∀ r ∈ ts, pmay r.p = true := fun r hx => tr_may hr hx
      refine cw_skip ?_
      refine ex_then ?_
      refine cw_seq ?_
      refine cw_region ?_
      refine sq_r (ry_move rfl) ?_
      refine sq_r (ry_move rfl) ?_
      refine sq_callC rfl trivial fun x27 hp27 => ?_
      refine sq_r (ry_move rfl) ?_
      refine sq_r (ry_extract (v := .agg (tcells x27)) rfl rfl) ?_
      refine sq_r (ry_extract (v := .int .i64 (buildE ts bits)) rfl rfl) ?_
      refine sq_allocA fun b7 => ?_
      refine sq_storeW rfl rfl ?_
      refine sq_r (ry_assign rfl) ?_
      refine sq_nil ?_
      refine ex_then ?_
      refine cw_seq ?_
      refine cw_seq ?_
      refine cw_region ?_
      refine sq_r (ry_move rfl) ?_
      refine sq_r (ry_int rfl rfl rfl) ?_
      refine sq_nil ?_
      refine ex_then ?_
      refine cw_cond rfl (fun h2 => ?_) (fun h2 => ?_)
      · try simp only [Bool.and_eq_true, Bool.or_eq_true, Bool.and_eq_false_iff, Bool.or_eq_false_iff, Bool.not_eq_true', Bool.not_eq_false', decide_eq_true_eq, decide_eq_false_iff_not, Bool.not_eq_true, Bool.not_eq_false] at h2
        have hcc : (bits = 32 ∨ bits = 128) ∧ buildE ts bits = 5 ∧ 10 < ts.length ∨ ¬ (bits = 32 ∨ bits = 128) := by
          by_cases hb : bits = 32 ∨ bits = 128
          · have hl : ¬ (waysF bits ts).length ≤ 512 := fun hl => h2 (buildE_ok ⟨hr, hb⟩ hl).1
            have e5 := (buildE_full ⟨hr, hb⟩ hl).1
            have h8 := ways_few (bits := bits) (t := ts) ts.length
            have h9 := (allR_take (bits := bits) ts.length hm).2
            rw [List.take_length] at h8 h9
            exact .inl ⟨hb, e5, by omega⟩
          · exact .inr hb
        refine cw_seq ?_
        refine cw_region ?_
        refine sq_r (ry_move rfl) ?_
        refine sq_r (ry_int rfl rfl rfl) ?_
        refine sq_r (ry_move rfl) ?_
        refine sq_gt rfl rfl rfl (fun hg => (Ry.yl (ry_move rfl))) ?_
        refine sq_gt rfl rfl rfl (fun hg => (Ry.yl (ry_lenH (ev_c hg rfl)))) ?_
        refine sq_gt rfl rfl rfl (fun hg => (Ry.yl (ry_int (ev_c hg rfl) rfl rfl))) ?_
        refine sq_r (ry_and rfl rfl rfl) ?_
        refine sq_r (ry_move rfl) ?_
        refine sq_gf rfl rfl rfl (fun hg => (Ry.yl (ry_move rfl))) ?_
        refine sq_gf rfl rfl rfl (fun hg => (Ry.yl (ry_int (ev_c hg rfl) rfl rfl))) ?_
        refine sq_gf rfl rfl rfl (fun hg => (Ry.yl (ry_move (ev_c hg rfl)))) ?_
        refine sq_nt rfl rfl rfl (fun hg => (Ry.yl (ry_move rfl))) ?_
        refine sq_nt rfl rfl rfl (fun hg => (Ry.yl (ry_int (ev_c hg rfl) rfl rfl))) ?_
        refine sq_gf rfl rfl rfl (fun hg => (Ry.yl (ry_and (ev_c hg rfl) (ev_cc hg rfl) rfl))) ?_
        refine sq_r (ry_or rfl rfl rfl) ?_
        refine sq_r (ry_assign rfl) ?_
        refine sq_nil ?_
        refine ex_then ?_
        refine cw_ret ?_
        refine ex_pass_ret ?_
        refine ex_ret (.inl rfl) (res_1 rfl (rv_tmp rfl)) (fun w1 hw => ?_)
        exact ⟨congrArg (fun b => Ending.returned (Value.bool b)) ((by rcases hcc with ⟨_, h5, h6⟩ | h5; (have h7 : (10 : Int) < (ts.length : Int) := (by omega)); (simp [h5, h7]); (have h6 := not_or.1 h5; simp [h6.1, h6.2]))), Keep.mem hw⟩
      · try simp only [Bool.and_eq_true, Bool.or_eq_true, Bool.and_eq_false_iff, Bool.or_eq_false_iff, Bool.not_eq_true', Bool.not_eq_false', decide_eq_true_eq, decide_eq_false_iff_not, Bool.not_eq_true, Bool.not_eq_false] at h2
        have hb : bits = 32 ∨ bits = 128 := by apply Classical.byContradiction; intro hc; have := (buildE_arg (t := ts) (bits := bits) (fun h => hc h.2)).1; omega
        have hl : (waysF bits ts).length ≤ 512 := by apply Classical.byContradiction; intro hc; have := (buildE_full ⟨hr, hb⟩ hc).1; omega
        obtain ⟨he1, he2, he3⟩ := buildE_ok ⟨hr, hb⟩ hl
        have hx1 : x27.bits = bits := hp27.1.trans he2
        have hx2 : x27.ns.xs = nodes bits (waysF bits ts) ts := hp27.2.trans he3
        obtain ⟨q1, q2, q3⟩ := trie_best (k := k) hr hb hl
        rw [← hx2] at q1 q2 q3
        refine cw_skip ?_
        refine ex_then ?_
        refine cw_seq ?_
        refine cw_region ?_
        refine sq_r (ry_move rfl) ?_
        refine sq_r (ry_whole rfl) ?_
        refine sq_r (ry_move rfl) ?_
        refine sq_y (yl_callC rfl trivial) ?_
        refine sq_r (ry_move rfl) ?_
        refine sq_r (ry_extract (v := .agg (rcells (bestR ts k bits))) rfl rfl) ?_
        refine sq_r (ry_extract (v := .int .i64 (bestE ts k bits)) rfl rfl) ?_
        refine sq_allocA fun b9 => ?_
        refine sq_storeW rfl rfl ?_
        refine sq_r (ry_assign rfl) ?_
        refine sq_nil ?_
        refine ex_then ?_
        refine cw_seq ?_
        refine cw_region ?_
        refine sq_r (ry_whole rfl) ?_
        refine sq_r (ry_whole rfl) ?_
        refine sq_y (yl_callC rfl trivial) ?_
        refine sq_r (ry_move rfl) ?_
        refine sq_r (ry_extract (v := .int .i64 (findN x27.bits x27.ns.xs k)) rfl rfl) ?_
        refine sq_r (ry_extract (v := .int .u16 ((findH x27.bits x27.ns.xs k).toNat : Nat)) rfl rfl) ?_
        refine sq_r (ry_extract (v := .int .i64 (findE x27.bits x27.ns.xs k)) rfl rfl) ?_
        refine sq_r (ry_assign rfl) ?_
        refine sq_r (ry_assign rfl) ?_
        refine sq_r (ry_assign rfl) ?_
        refine sq_nil ?_
        refine ex_then ?_
        refine cw_seq ?_
        refine cw_region ?_
        refine sq_r (ry_move rfl) ?_
        refine sq_r (ry_move rfl) ?_
        refine sq_r (ry_int rfl rfl rfl) ?_
        refine sq_r (ry_move rfl) ?_
        refine sq_gt rfl rfl rfl (fun hg => (Ry.yl (ry_move rfl))) ?_
        refine sq_gt rfl rfl rfl (fun hg => (Ry.yl (ry_field (o' := 0) rfl rfl))) ?_
        refine sq_gt rfl rfl rfl (fun hg => (Ry.yl (ry_field (o' := 1) (ev_c hg rfl) rfl))) ?_
        refine sq_gt rfl rfl rfl (fun hg => (Ry.yl (ry_cellc (ev_c hg rfl)))) ?_
        refine sq_gt rfl rfl rfl (fun hg => (Ry.yl (ry_int (ev_c hg rfl) (ev_c hg rfl) rfl))) ?_
        refine sq_r (ry_and rfl rfl rfl) ?_
        refine sq_r (ry_move rfl) ?_
        refine sq_gt rfl rfl rfl (fun hg => (Ry.yl (ry_move rfl))) ?_
        refine sq_gt rfl rfl rfl (fun hg => (Ry.yl (ry_field (o' := 18) rfl rfl))) ?_
        refine sq_gt rfl rfl rfl (fun hg => (Ry.yl (ry_cellc (ev_c hg rfl)))) ?_
        refine sq_gt rfl rfl rfl (fun hg => (Ry.yl (ry_int (ev_c hg rfl) (ev_c hg rfl) rfl))) ?_
        refine sq_r (ry_and rfl rfl rfl) ?_
        refine sq_r (ry_assign rfl) ?_
        refine sq_nil ?_
        refine ex_then ?_
        refine cw_ret ?_
        refine ex_ret (.inl rfl) (res_1 rfl (rv_tmp rfl)) (fun w1 hw => ?_)
        exact ⟨congrArg (fun b => Ending.returned (Value.bool b)) ((by rw [hx1, q1, q2, q3]; simp)), Keep.mem hw⟩

end Go.Proofs.Ytembaconocgmlaa
