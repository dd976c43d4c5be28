/- PackBack: walked. -/
import Derived.Test.YtembaconocgmlaaP2h
set_option linter.unusedSimpArgs false
set_option linter.unusedVariables false
namespace Go.Proofs.Ytembaconocgmlaa
open Go.Eng Go.Kb
set_option maxRecDepth 20000 in
theorem packBack_c (w : World) (t : Sv) (ts : List Rt) (u : Sv) (us : List Rt) (ids : Int) (room : Int) (ht : Lies rcells 19 (hp w) t ts) (hu : Lies rcells 19 (hp w) u us) : Calls Try.prog 11 #[t.val, u.val, .int .i64 ids, .int .i64 room] w fun e w' => e = .returned (.bool true) ∧ Mem w [] w' := by
  have ght : Gv w t rcells 19 ts := ⟨ht⟩
  have ghu : Gv w u rcells 19 us := ⟨hu⟩
  have hbt := ht.bd
  have hbu := hu.bd
  refine calls_of (args := [_, _, _, _]) Try.func11 rfl Try.ntmps11 rfl ?_
  change Cw _ _ _ _ _ [(0, t.val), (1, u.val), (2, .int .i64 ids), (3, .int .i64 room)] []
  refine cw_seq ?_
  refine cw_region ?_
  refine sq_r (ry_assign rfl) ?_
  refine sq_nil ?_
  refine ex_then ?_
  refine cw_seq ?_
  refine cw_seq ?_
  refine cw_region ?_
  refine sq_y (yl_callC rfl trivial) ?_
  refine sq_r (ry_not rfl) ?_
  refine sq_nil ?_
  refine ex_then ?_
  refine cw_cond rfl (fun h0 => ?_) (fun h0 => ?_)
  · exfalso; simp at h0
  · try simp only [Bool.and_eq_true, Bool.or_eq_true, Bool.and_eq_false_iff, Bool.or_eq_false_iff, Bool.not_eq_true', Bool.not_eq_false', decide_eq_true_eq, decide_eq_false_iff_not, Bool.not_eq_true, Bool.not_eq_false] at h0
    refine cw_skip ?_
    refine ex_then ?_
    refine cw_seq ?_
    refine cw_region ?_
    refine sq_r (ry_move rfl) ?_
    refine sq_r (ry_move rfl) ?_
    refine sq_r (ry_move rfl) ?_
    refine sq_callC rfl trivial fun x24 hp24 => ?_
    have hz24 : decide ((x24.xs.length : Int) = 0) = !decide (bodiesE ts ids room = 0) := by
      rw [← lx_length, hp24]
      by_cases h : bodiesE ts ids room = 0
      · have := bodiesV_length h
        rw [decide_eq_true h]; simp; intro h9; rw [h9] at this; simp at this; omega
      · rw [bodiesV_no h, decide_eq_false h]; rfl
    refine sq_r (ry_move rfl) ?_
    refine sq_r (ry_extract (v := x24.sv.val) rfl rfl) ?_
    refine sq_r (ry_extract (v := .int .i64 (bodiesE ts ids room)) rfl rfl) ?_
    refine sq_r (ry_assign rfl) ?_
    refine sq_r (ry_assign rfl) ?_
    refine sq_nil ?_
    refine ex_then ?_
    refine cw_seq ?_
    refine cw_region ?_
    refine sq_r (ry_move rfl) ?_
    refine sq_r (ry_move rfl) ?_
    refine sq_r (ry_move rfl) ?_
    refine sq_callC rfl trivial fun x31 hp31 => ?_
    have hz31 : decide ((x31.xs.length : Int) = 0) = !decide (bodiesE us ids room = 0) := by
      rw [← lx_length, hp31]
      by_cases h : bodiesE us ids room = 0
      · have := bodiesV_length h
        rw [decide_eq_true h]; simp; intro h9; rw [h9] at this; simp at this; omega
      · rw [bodiesV_no h, decide_eq_false h]; rfl
    refine sq_r (ry_move rfl) ?_
    refine sq_r (ry_extract (v := x31.sv.val) rfl rfl) ?_
    refine sq_r (ry_extract (v := .int .i64 (bodiesE us ids room)) rfl rfl) ?_
    refine sq_r (ry_assign rfl) ?_
    refine sq_r (ry_assign rfl) ?_
    refine sq_nil ?_
    refine ex_then ?_
    refine cw_seq ?_
    refine cw_seq ?_
    refine cw_region ?_
    refine sq_r (ry_move rfl) ?_
    refine sq_r (ry_int rfl rfl rfl) ?_
    refine sq_r (ry_move rfl) ?_
    refine sq_gf rfl rfl rfl (fun hg => (Ry.yl (ry_move rfl))) ?_
    refine sq_gf rfl rfl rfl (fun hg => (Ry.yl (ry_int (ev_c hg rfl) rfl rfl))) ?_
    refine sq_r (ry_or rfl rfl rfl) ?_
    refine sq_nil ?_
    refine ex_then ?_
    refine cw_cond rfl (fun h1 => ?_) (fun h1 => ?_)
    · try simp only [Bool.and_eq_true, Bool.or_eq_true, Bool.and_eq_false_iff, Bool.or_eq_false_iff, Bool.not_eq_true', Bool.not_eq_false', decide_eq_true_eq, decide_eq_false_iff_not, Bool.not_eq_true, Bool.not_eq_false] at h1
      refine cw_seq ?_
      refine cw_region ?_
      refine sq_r (ry_move rfl) ?_
      refine sq_r (ry_int rfl rfl rfl) ?_
      refine sq_r (ry_move rfl) ?_
      refine sq_r (ry_lenH rfl) ?_
      refine sq_r (ry_int rfl rfl rfl) ?_
      refine sq_r (ry_eqb rfl rfl Try.underlying4) ?_
      refine sq_r (ry_move rfl) ?_
      refine sq_gt rfl rfl rfl (fun hg => (Ry.yl (ry_move rfl))) ?_
      refine sq_gt rfl rfl rfl (fun hg => (Ry.yl (ry_int (ev_c hg rfl) rfl rfl))) ?_
      refine sq_gt rfl rfl rfl (fun hg => (Ry.yl (ry_move rfl))) ?_
      refine sq_gt rfl rfl rfl (fun hg => (Ry.yl (ry_lenH (ev_c hg rfl)))) ?_
      refine sq_gt rfl rfl rfl (fun hg => (Ry.yl (ry_int (ev_c hg rfl) rfl rfl))) ?_
      refine sq_gt rfl rfl rfl (fun hg => (Ry.yl (ry_eqb (ev_c hg rfl) (ev_c hg rfl) Try.underlying4))) ?_
      refine sq_r (ry_and rfl rfl rfl) ?_
      refine sq_r (ry_assign rfl) ?_
      refine sq_nil ?_
      refine ex_then ?_
      refine cw_ret ?_
      refine ex_pass_ret ?_
      refine ex_ret (.inl rfl) (res_1 rfl (rv_tmp rfl)) (fun w1 hw => ?_)
      exact ⟨congrArg (fun b => Ending.returned (Value.bool b)) ((by rw [hz24, hz31]; simp)), Keep.mem hw⟩
    · try simp only [Bool.and_eq_true, Bool.or_eq_true, Bool.and_eq_false_iff, Bool.or_eq_false_iff, Bool.not_eq_true', Bool.not_eq_false', decide_eq_true_eq, decide_eq_false_iff_not, Bool.not_eq_true, Bool.not_eq_false] at h1
      obtain ⟨E1, E2⟩ := h1
      have hl24 : (x24.xs.length : Int) = ids := by rw [← lx_length, hp24]; exact (bodiesV_length E1).1
      have hl31 : (x31.xs.length : Int) = ids := by rw [← lx_length, hp31]; exact (bodiesV_length E2).1
      have hids := (bodiesV_length E1).2
      have e57 : tabV (lx x24) = ts := by rw [hp24]; exact (tab_bodies E1).1
      have e58 : tabE (lx x24) = 0 := by rw [hp24]; exact (tab_bodies E1).2
      refine cw_skip ?_
      refine ex_then ?_
      refine cw_seq ?_
      refine cw_region ?_
      refine sq_r (ry_move rfl) ?_
      refine sq_callC rfl ⟨by omega, (fun x hx => by have := bodiesV_le.2 x.xs (by rw [← hp24]; exact List.mem_map_of_mem hx); omega)⟩ fun x56 hp56 => ?_
      refine sq_r (ry_move rfl) ?_
      refine sq_r (ry_extract (v := x56.val) rfl rfl) ?_
      refine sq_r (ry_extract (v := .int .i64 (tabE (lx x24))) rfl rfl) ?_
      refine sq_r (ry_assign rfl) ?_
      refine sq_r (ry_assign rfl) ?_
      refine sq_nil ?_
      refine ex_then ?_
      refine cw_seq ?_
      refine cw_seq ?_
      refine cw_region ?_
      refine sq_r (ry_move rfl) ?_
      refine sq_r (ry_int rfl rfl rfl) ?_
      refine sq_r (ry_move rfl) ?_
      refine sq_ty rfl rfl rfl (by simp [e57, e58, hl24]) (Ry.yl (ry_move rfl)) ?_
      refine sq_ty rfl rfl rfl (by simp [e57, e58, hl24]) (Ry.yl (ry_move rfl)) ?_
      refine sq_ty rfl rfl rfl (by simp [e57, e58, hl24]) (yl_callC rfl (by rw [e57]; omega)) ?_
      refine sq_ty rfl rfl rfl (by simp [e57, e58, hl24]) (Ry.yl (ry_not rfl)) ?_
      refine sq_r (ry_pickF rfl (by simp [e57, e58, hl24]) rfl rfl) ?_
      refine sq_r (ry_move rfl) ?_
      refine sq_ty rfl rfl rfl (by simp [e57, e58, hl24]) (Ry.yl (ry_move rfl)) ?_
      refine sq_ty rfl rfl rfl (by simp [e57, e58, hl24]) (Ry.yl (ry_lenH rfl)) ?_
      refine sq_ty rfl rfl rfl (by simp [e57, e58, hl24]) (Ry.yl (ry_move rfl)) ?_
      refine sq_ty rfl rfl rfl (by simp [e57, e58, hl24]) (Ry.yl (ry_int rfl rfl rfl)) ?_
      refine sq_r (ry_pickF rfl (by simp [e57, e58, hl24]) rfl rfl) ?_
      refine sq_r (ry_move rfl) ?_
      refine sq_ty rfl rfl rfl (by simp [e57, e58, hl24]) (Ry.yl (ry_move rfl)) ?_
      refine sq_ty rfl rfl rfl (by simp [e57, e58, hl24]) (Ry.yl (ry_move rfl)) ?_
      refine sq_tcallC rfl rfl (by simp [e57, e58, hl24]) rfl ⟨by omega, by omega, (fun x hx => by have := bodiesV_le.2 x.xs (by rw [← hp24]; exact List.mem_map_of_mem hx); omega)⟩ fun x76 hp76 => ?_
      have hl76 : x76.xs.length = 0 := by have := congrArg List.length hp76; rw [chg_self] at this; simpa [its] using this
      refine sq_ty rfl rfl rfl (by simp [e57, e58, hl24]) (Ry.yl (ry_lenH rfl)) ?_
      refine sq_ty rfl rfl rfl (by simp [e57, e58, hl24]) (Ry.yl (ry_int rfl rfl rfl)) ?_
      refine sq_r (ry_pickF rfl (by simp [e57, e58, hl24]) rfl rfl) ?_
      refine sq_nil ?_
      refine ex_then ?_
      refine cw_cond rfl (fun h2 => ?_) (fun h2 => ?_)
      · exfalso; simp [hl76] at h2
      · try simp only [Bool.and_eq_true, Bool.or_eq_true, Bool.and_eq_false_iff, Bool.or_eq_false_iff, Bool.not_eq_true', Bool.not_eq_false', decide_eq_true_eq, decide_eq_false_iff_not, Bool.not_eq_true, Bool.not_eq_false] at h2
        refine cw_skip ?_
        refine ex_then ?_
        refine cw_seq ?_
        refine cw_region ?_
        refine sq_r (ry_move rfl) ?_
        refine sq_r (ry_move rfl) ?_
        refine sq_callC rfl ⟨by omega, by omega, (fun x hx => by have := bodiesV_le.2 x.xs (by rw [← hp31]; exact List.mem_map_of_mem hx); omega)⟩ fun x82 hp82 => ?_
        have e85 : decide ((x82.xs.length : Int) = 0) = decide (ts = us) := by
          have h1 : x82.xs.length = 0 ↔ its x82 = [] := by simp [its]
          have h2 := chg_nil (a := lx x24) (b := lx x31) (by rw [lx_length, lx_length]; omega)
          have h3 := bodiesV_inj E1 E2
          rw [← hp82, ← h1, hp24, hp31, h3] at h2
          rw [Bool.eq_iff_iff, decide_eq_true_iff, decide_eq_true_iff, ← h2]; omega
        refine sq_r (ry_assign rfl) ?_
        refine sq_nil ?_
        refine ex_then ?_
        refine cw_seq ?_
        refine cw_seq ?_
        refine cw_region ?_
        refine sq_r (ry_move rfl) ?_
        refine sq_r (ry_lenH rfl) ?_
        refine sq_r (ry_int rfl rfl rfl) ?_
        refine sq_r (ry_move rfl) ?_
        refine sq_r (ry_move rfl) ?_
        refine sq_y (yl_callC rfl (by omega)) ?_
        refine sq_r (ry_neb rfl rfl Try.underlying4) ?_
        refine sq_nil ?_
        refine ex_then ?_
        refine cw_cond rfl (fun h3 => ?_) (fun h3 => ?_)
        · exfalso; rw [e85] at h3; simp at h3
        · try simp only [Bool.and_eq_true, Bool.or_eq_true, Bool.and_eq_false_iff, Bool.or_eq_false_iff, Bool.not_eq_true', Bool.not_eq_false', decide_eq_true_eq, decide_eq_false_iff_not, Bool.not_eq_true, Bool.not_eq_false] at h3
          refine cw_skip ?_
          refine ex_then ?_
          refine cw_seq ?_
          refine cw_region ?_
          refine sq_build0 (scells (τ := UInt8)) fun b90 => ?_
          refine sq_r (ry_move rfl) ?_
          refine sq_append (s := ⟨false, b90, 0, 0, 0, none⟩) (ys := x24.xs) rfl rfl (by decide) (fun w hw => src_rows (s := x24.sv) Try.underlying63 (by decide) ((inferInstance : Hd _ _ x24.sv scells 1 x24.xs).h w hw)) (by simp only [List.length_nil]; omega) (by simp only [List.length_nil]; omega) fun s92 hs92 hl92 => ?_
          refine sq_r (ry_assign rfl) ?_
          refine sq_nil ?_
          refine ex_then ?_
          refine cw_seq ?_
          refine cw_seq ?_
          refine cw_region ?_
          refine sq_r (ry_assign rfl) ?_
          refine sq_nil ?_
          refine ex_then ?_
          refine cw_block ?_
          have hlk : x82.xs.length ≤ 64 := by have h1 := congrArg List.length hp82; have h2 := chgTo_length (lx x24) (lx x31) (max (lx x24).length (lx x31).length); rw [its, List.length_map] at h1; unfold chg at h1; rw [lx_length, lx_length] at h1 h2; omega
          refine cw_loop (X := Nat × List (Sl UInt8)) (fun zz => [(17, .int .i64 (zz.1 : Nat)), (16, s92.val), (2, .int .i64 ids), (11, x31.sv.val), (15, x82.sv.val)]) (fun zz => [own scells 1 s92 zz.2, Deep.ent x82, Deep.ent x24, Deep.ent x31]) (fun zz => zz.1 ≤ x82.xs.length ∧ zz.2.map (·.xs) = patch (lx x24) ((its x82).take zz.1) ∧ (∀ x ∈ zz.2, x ∈ x24.xs ∨ ∃ it ∈ x82.xs, x = it.body) ∧ zz.2.length = x24.xs.length) (fun zz => x82.xs.length - zz.1) (0, x24.xs) ⟨by first | omega | (simp only []; omega), rfl, fun x hx => .inl hx, rfl⟩ (Sub.cons rfl (Sub.cons rfl (Sub.cons rfl (Sub.cons rfl (Sub.cons rfl (Sub.nil _)))))) (fun w hw => by rw [List.nil_append] at hw; exact Keep.mem hw) ?_
          rintro ⟨k, dl⟩ ⟨hi1, hi2, hi3, hi4⟩
          dsimp only
          simp only at hi1 hi2 hi3 hi4
          refine cw_seq ?_
          refine cw_seq ?_
          refine cw_region ?_
          refine sq_r (ry_move rfl) ?_
          refine sq_r (ry_move rfl) ?_
          refine sq_r (ry_lenH rfl) ?_
          refine sq_r (ry_int rfl rfl rfl) ?_
          refine sq_nil ?_
          refine ex_then ?_
          refine cw_cond rfl (fun h4 => ?_) (fun h4 => ?_)
          · try simp only [Bool.and_eq_true, Bool.or_eq_true, Bool.and_eq_false_iff, Bool.or_eq_false_iff, Bool.not_eq_true', Bool.not_eq_false', decide_eq_true_eq, decide_eq_false_iff_not, Bool.not_eq_true, Bool.not_eq_false] at h4
            refine cw_skip ?_
            refine ex_then ?_
            refine cw_seq ?_
            refine cw_block ?_
            refine cw_seq ?_
            refine cw_seq ?_
            obtain ⟨v, hv⟩ := get_some (xs := x82.xs) (i := k) (by omega)
            obtain ⟨p, hp⟩ := get_some (xs := x82.xs) (i := k - 1) (by omega)
            have hv2 : (its x82)[k]? = some (v.id, v.body.xs) := by simp [its, hv]
            have hp2 : (its x82)[k - 1]? = some (p.id, p.body.xs) := by simp [its, hp]
            have mbv : Mb v x82 := ⟨List.mem_of_getElem? hv⟩
            obtain ⟨j, hj2, hjp, _⟩ := chgTo_mem (by have := List.mem_of_getElem? hv2; rw [hp82] at this; exact this)
            have hj : v.id = (j : Int) := (Prod.mk.inj hjp).1
            rw [lx_length, lx_length] at hj2
            have hu0 : ¬ v.id < 0 := by omega
            have hu1 : ¬ ids ≤ v.id := by omega
            have hsrt : 0 < k → p.id < v.id := fun h0 => by
              have hs := chgTo_sorted (lx x24) (lx x31) (max (lx x24).length (lx x31).length)
              have hc : chgTo (lx x24) (lx x31) (max (lx x24).length (lx x31).length) = its x82 := hp82.symm
              rw [hc, List.pairwise_iff_getElem] at hs
              obtain ⟨h1, e1⟩ := List.getElem?_eq_some_iff.1 hp2
              obtain ⟨h2, e2⟩ := List.getElem?_eq_some_iff.1 hv2
              have := hs (k - 1) k h1 h2 (by omega)
              rw [e1, e2] at this; exact this
            refine cw_quiet (by kernel_rfl) (by kernel_rfl) ?_
            refine qt_r (ry_move rfl) ?_
            refine qt_r (ry_move rfl) ?_
            refine qt_r (ry_idxH rfl rfl k rfl (by omega)) ?_
            refine qt_r (ry_field rfl rfl) ?_
            refine qt_r (ry_elemcH (j := 0) rfl k hv rfl (by decide)) ?_
            refine qt_r (ry_int rfl rfl rfl) ?_
            refine qt_r (ry_move rfl) ?_
            refine qt_ty rfl rfl rfl (by simp [hu0, hu1]) (Ry.yl (ry_move rfl)) ?_
            refine qt_ty rfl rfl rfl (by simp [hu0, hu1]) (Ry.yl (ry_move rfl)) ?_
            refine qt_ty rfl rfl rfl (by simp [hu0, hu1]) (Ry.yl (ry_idxH rfl rfl k rfl (by omega))) ?_
            refine qt_ty rfl rfl rfl (by simp [hu0, hu1]) (Ry.yl (ry_field rfl rfl)) ?_
            refine qt_ty rfl rfl rfl (by simp [hu0, hu1]) (Ry.yl (ry_elemcH (j := 0) rfl k hv rfl (by decide))) ?_
            refine qt_ty rfl rfl rfl (by simp [hu0, hu1]) (Ry.yl (ry_move rfl)) ?_
            refine qt_ty rfl rfl rfl (by simp [hu0, hu1]) (Ry.yl (ry_int rfl rfl rfl)) ?_
            refine qt_r (ry_pickF rfl (by simp [hu0, hu1]) rfl rfl) ?_
            refine qt_r (ry_move rfl) ?_
            refine qt_ty rfl rfl rfl (by simp [hu0, hu1]) (Ry.yl (ry_move rfl)) ?_
            refine qt_ty rfl rfl rfl (by simp [hu0, hu1]) (Ry.yl (ry_int rfl rfl rfl)) ?_
            refine qt_ty rfl rfl rfl (by simp [hu0, hu1]) (Ry.yl (ry_move rfl)) ?_
            refine qt_gt rfl rfl rfl (fun hg => (Ry.yl (ry_move rfl))) ?_
            refine qt_gt rfl rfl rfl (fun hg => (Ry.yl (ry_move rfl))) ?_
            refine qt_gt rfl rfl rfl (fun hg => (Ry.yl (ry_idxH (ev_c hg rfl) (ev_c hg rfl) k rfl (by simp only [Bool.and_eq_true, Bool.or_eq_true, Bool.and_eq_false_iff, Bool.or_eq_false_iff, Bool.not_eq_true', Bool.not_eq_false', decide_eq_true_eq, decide_eq_false_iff_not, Bool.not_eq_true, Bool.not_eq_false] at hg; omega)))) ?_
            refine qt_gt rfl rfl rfl (fun hg => (Ry.yl (ry_field (ev_c hg rfl) rfl))) ?_
            refine qt_gt rfl rfl rfl (fun hg => (Ry.yl (ry_elemcH (j := 0) (ev_c hg rfl) k hv rfl (by decide)))) ?_
            refine qt_gt rfl rfl rfl (fun hg => (Ry.yl (ry_move rfl))) ?_
            refine qt_gt rfl rfl rfl (fun hg => (Ry.yl (ry_move rfl))) ?_
            refine qt_gt rfl rfl rfl (fun hg => (Ry.yl (ry_sub (ev_c hg rfl) rfl (by simp only [Bool.and_eq_true, Bool.or_eq_true, Bool.and_eq_false_iff, Bool.or_eq_false_iff, Bool.not_eq_true', Bool.not_eq_false', decide_eq_true_eq, decide_eq_false_iff_not, Bool.not_eq_true, Bool.not_eq_false] at hg; omega)))) ?_
            refine qt_gt rfl rfl rfl (fun hg => (Ry.yl (ry_idxH (ev_c hg rfl) (ev_c hg rfl) (k - 1) (by have := of_decide_eq_true hg; omega) (by omega)))) ?_
            refine qt_gt rfl rfl rfl (fun hg => (Ry.yl (ry_field (ev_c hg rfl) rfl))) ?_
            refine qt_gt rfl rfl rfl (fun hg => (Ry.yl (ry_elemcH (j := 0) (ev_c hg rfl) (k - 1) hp rfl (by decide)))) ?_
            refine qt_gt rfl rfl rfl (fun hg => (Ry.yl (ry_int (ev_c hg rfl) (ev_c hg rfl) rfl))) ?_
            refine qt_ty rfl rfl rfl (by simp [hu0, hu1]) (Ry.yl (ry_and rfl rfl rfl)) ?_
            refine qt_r (ry_pickF rfl (by simp [hu0, hu1]) rfl rfl) ?_
            refine qt_nil ?_
            refine ex_then ?_
            refine cw_cond rfl (fun h5 => ?_) (fun h5 => ?_)
            · exfalso; simp only [Bool.and_eq_true, decide_eq_true_eq] at h5; have := hsrt (by omega); omega
            · try simp only [Bool.and_eq_true, Bool.or_eq_true, Bool.and_eq_false_iff, Bool.or_eq_false_iff, Bool.not_eq_true', Bool.not_eq_false', decide_eq_true_eq, decide_eq_false_iff_not, Bool.not_eq_true, Bool.not_eq_false] at h5
              refine cw_skip ?_
              refine ex_then ?_
              obtain ⟨y, hy⟩ := get_some (xs := dl) (i := j) (by omega)
              refine cw_lin [11, 12] [[], [], [], [], [], [], [], [], [], [], [], [], [11]] [0, 1, 2, 3, 4, 5, 6, 7, 8, 9, 10, 11, 12] [Deep.ent x82] (fun _ hw => Keep.mem hw) (by kernel_rfl) (by kernel_rfl) ?_
              refine ln_r rfl (ry_move rfl) ?_
              refine ln_r rfl (ry_move rfl) ?_
              refine ln_r rfl (ry_move rfl) ?_
              refine ln_r rfl (ry_idxH rfl rfl k rfl (by omega)) ?_
              refine ln_r rfl (ry_field rfl rfl) ?_
              refine ln_r rfl (ry_elemcH (j := 0) rfl k hv rfl (by decide)) ?_
              refine ln_r rfl (ry_move rfl) ?_
              refine ln_r rfl (ry_move rfl) ?_
              refine ln_r rfl (ry_idxH rfl rfl k rfl (by omega)) ?_
              refine ln_r rfl (ry_field rfl rfl) ?_
              refine ln_r rfl (ry_elemcH (j := 1) rfl k hv rfl (by decide)) ?_
              have mb142 : Mb v _ := ⟨List.mem_of_getElem? hv⟩
              refine ln_st rfl (st_r (ry_idxH rfl rfl j hj (by omega)) ⟨fun _ hw => Keep.mem hw, ?_⟩)
              refine ln_st rfl (st_storeSv (k := j) v.body (by kernel_rfl) rfl rfl rfl hy ⟨fun _ hw => Keep.mem hw, ?_⟩)
              refine ln_nil ?_
              refine ex_block ?_
              refine ex_then ?_
              refine cw_region ?_
              refine sq_r (ry_move rfl) ?_
              refine sq_r (ry_add rfl rfl (by omega)) ?_
              refine sq_r (ry_assign rfl) ?_
              refine sq_nil ?_
              exact ex_again (x := (k, dl)) (k + 1, dl.set j v.body) ⟨by first | omega | (simp only []; omega), by rw [List.map_set, hi2, List.take_add_one, hv2, Option.toList_some, patch_snoc]; simp [hj], fun x hx => by
                rcases List.mem_or_eq_of_mem_set hx with h | h
                · exact hi3 x h
                · exact .inr ⟨v, List.mem_of_getElem? hv, h⟩, by rw [List.length_set]; exact hi4⟩ (by first | omega | (simp only []; omega)) (Sub.cons rfl (Sub.cons rfl (Sub.cons rfl (Sub.cons rfl (Sub.cons rfl (Sub.nil _)))))) (fun w hw => Keep.mem hw)
          · try simp only [Bool.and_eq_true, Bool.or_eq_true, Bool.and_eq_false_iff, Bool.or_eq_false_iff, Bool.not_eq_true', Bool.not_eq_false', decide_eq_true_eq, decide_eq_false_iff_not, Bool.not_eq_true, Bool.not_eq_false] at h4
            refine cw_exit ?_
            refine ex_pass_exit ?_
            refine ex_pass_exit ?_
            refine ex_block_hit ?_
            refine ex_then ?_
            refine cw_seq ?_
            refine cw_region ?_
            refine sq_r (ry_move rfl) ?_
            refine sq_r (ry_move rfl) ?_
            refine sq_y (yl_call rfl (fun w hw => same14_c w (⟨s92, dl⟩ : Sl (Sl UInt8)) x31 ⟨Hd.h (s := s92) w hw, fun x hx => (hi3 x hx).elim (fun h => (HdD.h (a := x24) w hw).2 x h) (fun ⟨it, h, e⟩ => e ▸ (HdD.h (a := x82) w hw).2 it h)⟩ (HdD.h (a := x31) w hw))) ?_
            refine sq_r (ry_assign rfl) ?_
            refine sq_nil ?_
            refine ex_then ?_
            refine cw_ret ?_
            refine ex_ret (.inl rfl) (res_1 rfl (rv_tmp rfl)) (fun w1 hw => ?_)
            exact ⟨congrArg (fun b => Ending.returned (Value.bool b)) ((decide_eq_true (by show dl.map _ = _; rw [hi2, List.take_of_length_le (by rw [its, List.length_map]; omega), hp82, patch_chg (by rw [lx_length, lx_length]; omega)]))), Keep.mem hw⟩

end Go.Proofs.Ytembaconocgmlaa
