/- PackRight: walked. -/
import Derived.Test.YtembaconocgmlaaP2h
set_option linter.unusedSimpArgs false
set_option linter.unusedVariables false
namespace Go.Proofs.Ytembaconocgmlaa
open Go.Eng Go.Kb
set_option maxRecDepth 20000 in
theorem packRight_c (w : World) (t : Sv) (ts : List Rt) (ids : Int) (room : Int) (a : Sl (Sl UInt8)) (b : Sl (Sl UInt8)) (ht : Lies rcells 19 (hp w) t ts) (ha : Deep.good (hp w) a) (hb : Deep.good (hp w) b) (hpre : ∀ x ∈ b.xs, x.xs.length ≤ 140737488355328) : Calls Try.prog 10 #[t.val, .int .i64 ids, .int .i64 room, a.sv.val, b.sv.val] w fun e w' => e = .returned (.bool true) ∧ Mem w [] w' := by
  have ght : Gv w t rcells 19 ts := ⟨ht⟩
  have gha : GvD w a := ⟨ha⟩
  have ghb : GvD w b := ⟨hb⟩
  have hla := ha.1.bd
  have hlb := hb.1.bd
  refine calls_of (args := [_, _, _, _, _]) Try.func10 rfl Try.ntmps10 rfl ?_
  change Cw _ _ _ _ _ [(0, t.val), (1, .int .i64 ids), (2, .int .i64 room), (3, a.sv.val), (4, b.sv.val)] []
  refine cw_seq ?_
  refine cw_region ?_
  refine sq_r (ry_assign rfl) ?_
  refine sq_nil ?_
  refine ex_then ?_
  refine cw_seq ?_
  refine cw_seq ?_
  refine cw_region ?_
  refine sq_y (yl_callC rfl trivial) ?_
  refine sq_r (ry_not rfl) ?_
  refine sq_nil ?_
  refine ex_then ?_
  refine cw_cond rfl (fun h0 => ?_) (fun h0 => ?_)
  · exfalso; simp at h0
  · try simp only [Bool.and_eq_true, Bool.or_eq_true, Bool.and_eq_false_iff, Bool.or_eq_false_iff, Bool.not_eq_true', Bool.not_eq_false', decide_eq_true_eq, decide_eq_false_iff_not, Bool.not_eq_true, Bool.not_eq_false] at h0
    refine cw_skip ?_
    refine ex_then ?_
    refine cw_seq ?_
    refine cw_seq ?_
    refine cw_region ?_
    refine sq_r (ry_move rfl) ?_
    refine sq_r (ry_lenH rfl) ?_
    refine sq_r (ry_int rfl rfl rfl) ?_
    refine sq_r (ry_move rfl) ?_
    refine sq_gf rfl rfl rfl (fun hg => (Ry.yl (ry_move rfl))) ?_
    refine sq_gf rfl rfl rfl (fun hg => (Ry.yl (ry_lenH (ev_c hg rfl)))) ?_
    refine sq_gf rfl rfl rfl (fun hg => (Ry.yl (ry_int (ev_c hg rfl) rfl rfl))) ?_
    refine sq_r (ry_or rfl rfl rfl) ?_
    refine sq_r (ry_move rfl) ?_
    refine sq_gf rfl rfl rfl (fun hg => (Ry.yl (ry_move rfl))) ?_
    refine sq_gf rfl rfl rfl (fun hg => (Ry.yl (ry_lenH (ev_c hg rfl)))) ?_
    refine sq_gf rfl rfl rfl (fun hg => (Ry.yl (ry_int (ev_c hg rfl) rfl rfl))) ?_
    refine sq_r (ry_or rfl rfl rfl) ?_
    refine sq_nil ?_
    refine ex_then ?_
    refine cw_cond rfl (fun h1 => ?_) (fun h1 => ?_)
    · try simp only [Bool.and_eq_true, Bool.or_eq_true, Bool.and_eq_false_iff, Bool.or_eq_false_iff, Bool.not_eq_true', Bool.not_eq_false', decide_eq_true_eq, decide_eq_false_iff_not, Bool.not_eq_true, Bool.not_eq_false] at h1
      refine cw_seq ?_
      refine cw_region ?_
      refine sq_r (ry_assign rfl) ?_
      refine sq_nil ?_
      refine ex_then ?_
      refine cw_ret ?_
      refine ex_pass_ret ?_
      refine ex_ret (.inl rfl) (res_1 rfl (rv_tmp rfl)) (fun w1 hw => ?_)
      exact ⟨congrArg (fun b => Ending.returned (Value.bool b)) (rfl), Keep.mem hw⟩
    · try simp only [Bool.and_eq_true, Bool.or_eq_true, Bool.and_eq_false_iff, Bool.or_eq_false_iff, Bool.not_eq_true', Bool.not_eq_false', decide_eq_true_eq, decide_eq_false_iff_not, Bool.not_eq_true, Bool.not_eq_false] at h1
      refine cw_skip ?_
      refine ex_then ?_
      refine cw_seq ?_
      refine cw_seq ?_
      refine cw_region ?_
      refine sq_r (ry_assign rfl) ?_
      refine sq_nil ?_
      refine ex_then ?_
      refine cw_block ?_
      refine cw_loop (X := Nat) (fun zz => [(11, .int .i64 (zz : Nat)), (0, t.val), (1, .int .i64 ids), (2, .int .i64 room), (3, a.sv.val), (4, b.sv.val)]) (fun zz => []) (fun zz => zz ≤ a.xs.length ∧ ∀ j x, j < zz → a.xs[j]? = some x → x.xs.length ≤ 300) (fun zz => a.xs.length - zz) 0 ⟨by first | omega | (simp only []; omega), fun j x h => by first | omega | (simp only []; omega)⟩ (Sub.cons rfl (Sub.cons rfl (Sub.cons rfl (Sub.cons rfl (Sub.cons rfl (Sub.cons rfl (Sub.nil _))))))) (fun w hw => Keep.mem hw) ?_
      rintro i ⟨hi1, hi2⟩
      refine cw_seq ?_
      refine cw_seq ?_
      refine cw_region ?_
      refine sq_r (ry_move rfl) ?_
      refine sq_r (ry_move rfl) ?_
      refine sq_r (ry_lenH rfl) ?_
      refine sq_r (ry_int rfl rfl rfl) ?_
      refine sq_nil ?_
      refine ex_then ?_
      refine cw_cond rfl (fun h2 => ?_) (fun h2 => ?_)
      · try simp only [Bool.and_eq_true, Bool.or_eq_true, Bool.and_eq_false_iff, Bool.or_eq_false_iff, Bool.not_eq_true', Bool.not_eq_false', decide_eq_true_eq, decide_eq_false_iff_not, Bool.not_eq_true, Bool.not_eq_false] at h2
        refine cw_skip ?_
        refine ex_then ?_
        refine cw_seq ?_
        refine cw_block ?_
        refine cw_seq ?_
        refine cw_region ?_
        refine sq_r (ry_move rfl) ?_
        refine sq_r (ry_move rfl) ?_
        obtain ⟨e46, he46⟩ := get_some (xs := a.xs) (i := i) (by omega)
        refine sq_r (ry_idxH rfl rfl i rfl (by omega)) ?_
        refine sq_r (ry_elemcH (j := 0) rfl i he46 rfl (by decide)) ?_
        have mb47 : Mb e46 _ := ⟨List.mem_of_getElem? he46⟩
        refine sq_r (ry_lenH rfl) ?_
        refine sq_r (ry_int rfl rfl rfl) ?_
        refine sq_nil ?_
        refine ex_then ?_
        refine cw_cond rfl (fun h3 => ?_) (fun h3 => ?_)
        · try simp only [Bool.and_eq_true, Bool.or_eq_true, Bool.and_eq_false_iff, Bool.or_eq_false_iff, Bool.not_eq_true', Bool.not_eq_false', decide_eq_true_eq, decide_eq_false_iff_not, Bool.not_eq_true, Bool.not_eq_false] at h3
          refine cw_seq ?_
          refine cw_region ?_
          refine sq_r (ry_assign rfl) ?_
          refine sq_nil ?_
          refine ex_then ?_
          refine cw_ret ?_
          refine ex_block_ret ?_
          refine ex_pass_ret ?_
          refine ex_pass_ret ?_
          refine ex_block_ret ?_
          refine ex_pass_ret ?_
          refine ex_ret (.inl rfl) (res_1 rfl (rv_tmp rfl)) (fun w1 hw => ?_)
          exact ⟨congrArg (fun b => Ending.returned (Value.bool b)) (rfl), Keep.mem hw⟩
        · try simp only [Bool.and_eq_true, Bool.or_eq_true, Bool.and_eq_false_iff, Bool.or_eq_false_iff, Bool.not_eq_true', Bool.not_eq_false', decide_eq_true_eq, decide_eq_false_iff_not, Bool.not_eq_true, Bool.not_eq_false] at h3
          refine cw_skip ?_
          refine ex_block ?_
          refine ex_then ?_
          refine cw_region ?_
          refine sq_r (ry_move rfl) ?_
          refine sq_r (ry_add rfl rfl (by omega)) ?_
          refine sq_r (ry_assign rfl) ?_
          refine sq_nil ?_
          exact ex_again (x := (i)) (i + 1) ⟨by first | omega | (simp only []; omega), fun j x hj hx => if e : j = i then (by subst e; rw [hx] at he46; obtain rfl := Option.some.inj he46; omega) else hi2 j x (by first | omega | (simp only []; omega)) hx⟩ (by first | omega | (simp only []; omega)) (Sub.cons rfl (Sub.cons rfl (Sub.cons rfl (Sub.cons rfl (Sub.cons rfl (Sub.cons rfl (Sub.nil _))))))) (fun w hw => Keep.mem hw)
      · try simp only [Bool.and_eq_true, Bool.or_eq_true, Bool.and_eq_false_iff, Bool.or_eq_false_iff, Bool.not_eq_true', Bool.not_eq_false', decide_eq_true_eq, decide_eq_false_iff_not, Bool.not_eq_true, Bool.not_eq_false] at h2
        refine cw_exit ?_
        refine ex_pass_exit ?_
        refine ex_pass_exit ?_
        refine ex_block_hit ?_
        refine ex_then ?_
        refine cw_seq ?_
        have hsm : ∀ x ∈ a.xs, x.xs.length ≤ 300 := fun x hx => by obtain ⟨j, hj⟩ := List.getElem?_of_mem hx; exact hi2 j x (by have := (List.getElem?_eq_some_iff.1 hj).1; omega) hj
        refine cw_region ?_
        refine sq_r (ry_move rfl) ?_
        refine sq_r (ry_move rfl) ?_
        refine sq_r (ry_move rfl) ?_
        refine sq_callC rfl trivial fun x54 hp54 => ?_
        refine sq_r (ry_move rfl) ?_
        refine sq_r (ry_extract (v := x54.sv.val) rfl rfl) ?_
        refine sq_r (ry_extract (v := .int .i64 (bodiesE ts ids room)) rfl rfl) ?_
        refine sq_r (ry_assign rfl) ?_
        refine sq_r (ry_assign rfl) ?_
        refine sq_nil ?_
        refine ex_then ?_
        refine cw_seq ?_
        refine cw_region ?_
        refine sq_r (ry_move rfl) ?_
        refine sq_r (ry_move rfl) ?_
        refine sq_r (ry_move rfl) ?_
        refine sq_callC rfl trivial fun x61 hp61 => ?_
        have e14 : lx x54 = lx x61 := hp54.trans hp61.symm
        have hl54 : (lx x54).length ≤ 64 := by rw [hp54]; exact bodiesV_le.1
        have hlt : (tabV (lx a)).length ≤ 256 := by unfold tabV; split; split; rename_i h; exact tright_len h; exact Nat.zero_le _; exact Nat.zero_le _
        refine sq_r (ry_move rfl) ?_
        refine sq_r (ry_extract (v := x61.sv.val) rfl rfl) ?_
        refine sq_r (ry_extract (v := .int .i64 (bodiesE ts ids room)) rfl rfl) ?_
        refine sq_r (ry_assign rfl) ?_
        refine sq_r (ry_assign rfl) ?_
        refine sq_nil ?_
        refine ex_then ?_
        refine cw_seq ?_
        refine cw_region ?_
        refine sq_r (ry_move rfl) ?_
        refine sq_callC rfl ⟨by omega, fun x hx => Nat.le_trans (hsm x hx) (by decide)⟩ fun x66 hp66 => ?_
        refine sq_r (ry_move rfl) ?_
        refine sq_r (ry_extract (v := x66.val) rfl rfl) ?_
        refine sq_r (ry_extract (v := .int .i64 (tabE (lx a))) rfl rfl) ?_
        refine sq_r (ry_assign rfl) ?_
        refine sq_r (ry_assign rfl) ?_
        refine sq_nil ?_
        refine ex_then ?_
        refine cw_seq ?_
        refine cw_region ?_
        refine sq_r (ry_move rfl) ?_
        refine sq_callC rfl ⟨by omega, fun x hx => Nat.le_trans (hsm x hx) (by decide)⟩ fun x71 hp71 => ?_
        refine sq_r (ry_move rfl) ?_
        refine sq_r (ry_extract (v := x71.val) rfl rfl) ?_
        refine sq_r (ry_extract (v := .int .i64 (tabE (lx a))) rfl rfl) ?_
        refine sq_r (ry_assign rfl) ?_
        refine sq_r (ry_assign rfl) ?_
        refine sq_nil ?_
        refine ex_then ?_
        refine cw_seq ?_
        refine cw_seq ?_
        refine cw_region ?_
        refine sq_r (ry_move rfl) ?_
        refine sq_r (ry_move rfl) ?_
        refine sq_y (yl_callC rfl (by omega)) ?_
        refine sq_r (ry_not rfl) ?_
        refine sq_r (ry_move rfl) ?_
        refine sq_ty rfl rfl rfl (by simp [e14]) (Ry.yl (ry_move rfl)) ?_
        refine sq_ty rfl rfl rfl (by simp [e14]) (Ry.yl (ry_move rfl)) ?_
        refine sq_ty rfl rfl rfl (by simp [e14]) (Ry.yl (ry_int rfl rfl rfl)) ?_
        refine sq_r (ry_pickF rfl (by simp [e14]) rfl rfl) ?_
        refine sq_r (ry_move rfl) ?_
        refine sq_ty rfl rfl rfl (by simp [e14]) (Ry.yl (ry_move rfl)) ?_
        refine sq_ty rfl rfl rfl (by simp [e14]) (Ry.yl (ry_move rfl)) ?_
        refine sq_ty rfl rfl rfl (by simp [e14]) (yl_callC rfl (by omega)) ?_
        refine sq_ty rfl rfl rfl (by simp [e14]) (Ry.yl (ry_not rfl)) ?_
        refine sq_r (ry_pickF rfl (by simp [e14]) rfl rfl) ?_
        refine sq_r (ry_move rfl) ?_
        refine sq_ty rfl rfl rfl (by simp [e14]) (Ry.yl (ry_move rfl)) ?_
        refine sq_ty rfl rfl rfl (by simp [e14]) (Ry.yl (ry_move rfl)) ?_
        refine sq_ty rfl rfl rfl (by simp [e14]) (Ry.yl (ry_int rfl rfl rfl)) ?_
        refine sq_r (ry_pickF rfl (by simp [e14]) rfl rfl) ?_
        refine sq_r (ry_move rfl) ?_
        refine sq_ty rfl rfl rfl (by simp [e14]) (Ry.yl (ry_move rfl)) ?_
        refine sq_ty rfl rfl rfl (by simp [e14]) (Ry.yl (ry_move rfl)) ?_
        refine sq_ty rfl rfl rfl (by simp [e14]) (yl_callC rfl trivial) ?_
        refine sq_ty rfl rfl rfl (by simp [e14]) (Ry.yl (ry_move rfl)) ?_
        refine sq_ty rfl rfl rfl (by simp [e14]) (Ry.yl (ry_move rfl)) ?_
        refine sq_ty rfl rfl rfl (by simp [e14]) (yl_callC rfl trivial) ?_
        refine sq_ty rfl rfl rfl (by simp [e14]) (Ry.yl (ry_int rfl rfl rfl)) ?_
        refine sq_r (ry_pickF rfl (by simp [e14]) rfl rfl) ?_
        refine sq_nil ?_
        refine ex_then ?_
        refine cw_cond rfl (fun h4 => ?_) (fun h4 => ?_)
        · exfalso; simp at h4
        · try simp only [Bool.and_eq_true, Bool.or_eq_true, Bool.and_eq_false_iff, Bool.or_eq_false_iff, Bool.not_eq_true', Bool.not_eq_false', decide_eq_true_eq, decide_eq_false_iff_not, Bool.not_eq_true, Bool.not_eq_false] at h4
          refine cw_skip ?_
          refine ex_then ?_
          refine cw_seq ?_
          refine cw_region ?_
          refine sq_r (ry_move rfl) ?_
          refine sq_r (ry_move rfl) ?_
          refine sq_callC rfl ⟨by omega, by omega, hpre⟩ fun x105 hp105 => ?_
          refine sq_r (ry_move rfl) ?_
          refine sq_r (ry_move rfl) ?_
          refine sq_callC rfl ⟨by omega, by omega, hpre⟩ fun x108 hp108 => ?_
          refine sq_r (ry_assign rfl) ?_
          refine sq_r (ry_assign rfl) ?_
          refine sq_nil ?_
          refine ex_then ?_
          refine cw_seq ?_
          refine cw_seq ?_
          refine cw_region ?_
          refine sq_r (ry_assign rfl) ?_
          refine sq_nil ?_
          refine ex_then ?_
          refine cw_block ?_
          have hll : x105.xs.length = x108.xs.length := by have := congrArg List.length (hp105.trans hp108.symm); simpa [its] using this
          have hlk : x105.xs.length ≤ 1000000 := by have h1 := congrArg List.length hp105; have h2 := chgTo_length (lx a) (lx b) (max (lx a).length (lx b).length); rw [its, List.length_map] at h1; rw [lx_length, lx_length] at h2; unfold chg at h1; rw [lx_length, lx_length] at h1; omega
          refine cw_loop (X := Nat) (fun zz => [(22, .int .i64 (zz : Nat)), (20, x105.sv.val), (21, x108.sv.val)]) (fun zz => [Deep.ent x108, Deep.ent x105]) (fun zz => zz ≤ x105.xs.length) (fun zz => x105.xs.length - zz) 0 (by first | omega | (simp only []; omega)) (Sub.cons rfl (Sub.cons rfl (Sub.cons rfl (Sub.nil _)))) (fun w hw => Keep.mem hw) ?_
          rintro k hI
          refine cw_seq ?_
          refine cw_seq ?_
          refine cw_region ?_
          refine sq_r (ry_move rfl) ?_
          refine sq_r (ry_move rfl) ?_
          refine sq_r (ry_lenH rfl) ?_
          refine sq_r (ry_int rfl rfl rfl) ?_
          refine sq_nil ?_
          refine ex_then ?_
          refine cw_cond rfl (fun h5 => ?_) (fun h5 => ?_)
          · try simp only [Bool.and_eq_true, Bool.or_eq_true, Bool.and_eq_false_iff, Bool.or_eq_false_iff, Bool.not_eq_true', Bool.not_eq_false', decide_eq_true_eq, decide_eq_false_iff_not, Bool.not_eq_true, Bool.not_eq_false] at h5
            refine cw_skip ?_
            refine ex_then ?_
            refine cw_seq ?_
            refine cw_block ?_
            refine cw_seq ?_
            obtain ⟨u, hu⟩ := get_some (xs := x105.xs) (i := k) (by omega)
            obtain ⟨v, hv⟩ := get_some (xs := x108.xs) (i := k) (by omega)
            have euv : (u.id, u.body.xs) = (v.id, v.body.xs) := by
              have h1 : (its x105)[k]? = some (u.id, u.body.xs) := by simp [its, hu]
              have h2 : (its x108)[k]? = some (v.id, v.body.xs) := by simp [its, hv]
              rw [hp105, ← hp108, h2] at h1
              exact (Option.some.inj h1).symm
            have eu := (Prod.mk.inj euv).1
            have ev := (Prod.mk.inj euv).2
            have mbu : Mb u x105 := ⟨List.mem_of_getElem? hu⟩
            have mbv : Mb v x108 := ⟨List.mem_of_getElem? hv⟩
            refine cw_quiet (by kernel_rfl) (by kernel_rfl) ?_
            refine qt_r (ry_move rfl) ?_
            refine qt_r (ry_lenH rfl) ?_
            refine qt_r (ry_move rfl) ?_
            refine qt_r (ry_lenH rfl) ?_
            refine qt_r (ry_int rfl rfl rfl) ?_
            refine qt_r (ry_move rfl) ?_
            refine qt_ty rfl rfl rfl (by simp [hll, eu]) (Ry.yl (ry_move rfl)) ?_
            refine qt_ty rfl rfl rfl (by simp [hll, eu]) (Ry.yl (ry_move rfl)) ?_
            refine qt_ty rfl rfl rfl (by simp [hll, eu]) (Ry.yl (ry_idxH rfl rfl k rfl (by omega))) ?_
            refine qt_ty rfl rfl rfl (by simp [hll, eu]) (Ry.yl (ry_field rfl rfl)) ?_
            refine qt_ty rfl rfl rfl (by simp [hll, eu]) (Ry.yl (ry_elemcH (j := 0) rfl k hu rfl (by decide))) ?_
            refine qt_ty rfl rfl rfl (by simp [hll, eu]) (Ry.yl (ry_move rfl)) ?_
            refine qt_ty rfl rfl rfl (by simp [hll, eu]) (Ry.yl (ry_move rfl)) ?_
            refine qt_ty rfl rfl rfl (by simp [hll, eu]) (Ry.yl (ry_idxH rfl rfl k rfl (by omega))) ?_
            refine qt_ty rfl rfl rfl (by simp [hll, eu]) (Ry.yl (ry_field rfl rfl)) ?_
            refine qt_ty rfl rfl rfl (by simp [hll, eu]) (Ry.yl (ry_elemcH (j := 0) rfl k hv rfl (by decide))) ?_
            refine qt_ty rfl rfl rfl (by simp [hll, eu]) (Ry.yl (ry_int rfl rfl rfl)) ?_
            refine qt_r (ry_pickF rfl (by simp [hll, eu]) rfl rfl) ?_
            refine qt_r (ry_move rfl) ?_
            refine qt_ty rfl rfl rfl (by simp [hll, eu]) (Ry.yl (ry_move rfl)) ?_
            refine qt_ty rfl rfl rfl (by simp [hll, eu]) (Ry.yl (ry_move rfl)) ?_
            refine qt_ty rfl rfl rfl (by simp [hll, eu]) (Ry.yl (ry_idxH rfl rfl k rfl (by omega))) ?_
            refine qt_ty rfl rfl rfl (by simp [hll, eu]) (Ry.yl (ry_field rfl rfl)) ?_
            refine qt_ty rfl rfl rfl (by simp [hll, eu]) (Ry.yl (ry_elemcH (j := 1) rfl k hu rfl (by decide))) ?_
            have mb138 : Mb u _ := ⟨List.mem_of_getElem? hu⟩
            refine qt_ty rfl rfl rfl (by simp [hll, eu]) (Ry.yl (ry_bstrH Try.underlying30 Try.underlying5 Try.underlying9 rfl)) ?_
            refine qt_ty rfl rfl rfl (by simp [hll, eu]) (Ry.yl (ry_move rfl)) ?_
            refine qt_ty rfl rfl rfl (by simp [hll, eu]) (Ry.yl (ry_move rfl)) ?_
            refine qt_ty rfl rfl rfl (by simp [hll, eu]) (Ry.yl (ry_idxH rfl rfl k rfl (by omega))) ?_
            refine qt_ty rfl rfl rfl (by simp [hll, eu]) (Ry.yl (ry_field rfl rfl)) ?_
            refine qt_ty rfl rfl rfl (by simp [hll, eu]) (Ry.yl (ry_elemcH (j := 1) rfl k hv rfl (by decide))) ?_
            have mb144 : Mb v _ := ⟨List.mem_of_getElem? hv⟩
            refine qt_ty rfl rfl rfl (by simp [hll, eu]) (Ry.yl (ry_bstrH Try.underlying30 Try.underlying5 Try.underlying9 rfl)) ?_
            refine qt_ty rfl rfl rfl (by simp [hll, eu]) (Ry.yl (ry_strneL rfl rfl)) ?_
            refine qt_r (ry_pickF rfl (by simp [hll, eu]) rfl rfl) ?_
            refine qt_nil ?_
            refine ex_then ?_
            refine cw_cond rfl (fun h6 => ?_) (fun h6 => ?_)
            · exfalso; simp [ev] at h6
            · try simp only [Bool.and_eq_true, Bool.or_eq_true, Bool.and_eq_false_iff, Bool.or_eq_false_iff, Bool.not_eq_true', Bool.not_eq_false', decide_eq_true_eq, decide_eq_false_iff_not, Bool.not_eq_true, Bool.not_eq_false] at h6
              refine cw_skip ?_
              refine ex_block ?_
              refine ex_then ?_
              refine cw_region ?_
              refine sq_r (ry_move rfl) ?_
              refine sq_r (ry_add rfl rfl (by omega)) ?_
              refine sq_r (ry_assign rfl) ?_
              refine sq_nil ?_
              exact ex_again (x := (k)) (k + 1) (by first | omega | (simp only []; omega)) (by first | omega | (simp only []; omega)) (Sub.cons rfl (Sub.cons rfl (Sub.cons rfl (Sub.nil _)))) (fun w hw => Keep.mem hw)
          · try simp only [Bool.and_eq_true, Bool.or_eq_true, Bool.and_eq_false_iff, Bool.or_eq_false_iff, Bool.not_eq_true', Bool.not_eq_false', decide_eq_true_eq, decide_eq_false_iff_not, Bool.not_eq_true, Bool.not_eq_false] at h5
            refine cw_exit ?_
            refine ex_pass_exit ?_
            refine ex_pass_exit ?_
            refine ex_block_hit ?_
            refine ex_then ?_
            refine cw_seq ?_
            refine cw_region ?_
            refine sq_r (ry_move rfl) ?_
            refine sq_r (ry_lenH rfl) ?_
            refine sq_r (ry_move rfl) ?_
            refine sq_r (ry_lenH rfl) ?_
            refine sq_r (ry_int rfl rfl rfl) ?_
            refine sq_r (ry_assign rfl) ?_
            refine sq_nil ?_
            refine ex_then ?_
            refine cw_ret ?_
            refine ex_ret (.inl rfl) (res_1 rfl (rv_tmp rfl)) (fun w1 hw => ?_)
            exact ⟨congrArg (fun b => Ending.returned (Value.bool b)) ((by simp [hll])), Keep.mem hw⟩

end Go.Proofs.Ytembaconocgmlaa
