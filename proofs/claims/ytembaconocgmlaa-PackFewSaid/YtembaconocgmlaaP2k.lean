/- PackFew: walked. -/
import Derived.Test.YtembaconocgmlaaP2h
set_option linter.unusedSimpArgs false
set_option linter.unusedVariables false
namespace Go.Proofs.Ytembaconocgmlaa
open Go.Eng Go.Kb
set_option maxRecDepth 20000 in
theorem packFew_c (w : World) (t : Sv) (ts : List Rt) (ids : Int) (room : Int) (at_ : UInt8) (hop : UInt16) (ht : Lies rcells 19 (hp w) t ts) : Calls Try.prog 12 #[t.val, .int .i64 ids, .int .i64 room, .int .u8 (at_.toNat : Nat), .int .u16 (hop.toNat : Nat)] w fun e w' => e = .returned (.bool true) ∧ Mem w [] w' := by
  have ght : Gv w t rcells 19 ts := ⟨ht⟩
  have hbt := ht.bd
  refine calls_of (args := [_, _, _, _, _]) Try.func12 rfl Try.ntmps12 rfl ?_
  change Cw _ _ _ _ _ [(0, t.val), (1, .int .i64 ids), (2, .int .i64 room), (3, .int .u8 (at_.toNat : Nat)), (4, .int .u16 (hop.toNat : Nat))] []
  refine cw_seq ?_
  refine cw_region ?_
  refine sq_r (ry_assign rfl) ?_
  refine sq_nil ?_
  refine ex_then ?_
  refine cw_seq ?_
  refine cw_seq ?_
  refine cw_region ?_
  refine sq_y (yl_callC rfl trivial) ?_
  refine sq_r (ry_not rfl) ?_
  refine sq_nil ?_
  refine ex_then ?_
  refine cw_cond rfl (fun h0 => ?_) (fun h0 => ?_)
  · exfalso; simp at h0
  · try simp only [Bool.and_eq_true, Bool.or_eq_true, Bool.and_eq_false_iff, Bool.or_eq_false_iff, Bool.not_eq_true', Bool.not_eq_false', decide_eq_true_eq, decide_eq_false_iff_not, Bool.not_eq_true, Bool.not_eq_false] at h0
    refine cw_skip ?_
    refine ex_then ?_
    refine cw_seq ?_
    refine cw_region ?_
    refine sq_r (ry_move rfl) ?_
    refine sq_r (ry_move rfl) ?_
    refine sq_r (ry_move rfl) ?_
    refine sq_callC rfl trivial fun x30 hp30 => ?_
    have hz24 : decide ((x30.xs.length : Int) = 0) = !decide (bodiesE ts ids room = 0) := by
      rw [← lx_length, hp30]
      by_cases h : bodiesE ts ids room = 0
      · have := bodiesV_length h
        rw [decide_eq_true h]; simp; intro h9; rw [h9] at this; simp at this; omega
      · rw [bodiesV_no h, decide_eq_false h]; rfl
    refine sq_r (ry_move rfl) ?_
    refine sq_r (ry_extract (v := x30.sv.val) rfl rfl) ?_
    refine sq_r (ry_extract (v := .int .i64 (bodiesE ts ids room)) rfl rfl) ?_
    refine sq_r (ry_assign rfl) ?_
    refine sq_r (ry_assign rfl) ?_
    refine sq_nil ?_
    refine ex_then ?_
    refine cw_seq ?_
    refine cw_seq ?_
    refine cw_region ?_
    refine sq_r (ry_move rfl) ?_
    refine sq_r (ry_int rfl rfl rfl) ?_
    refine sq_r (ry_move rfl) ?_
    refine sq_gf rfl rfl rfl (fun hg => (Ry.yl (ry_move rfl))) ?_
    refine sq_gf rfl rfl rfl (fun hg => (Ry.yl (ry_lenH (ev_c hg rfl)))) ?_
    refine sq_gf rfl rfl rfl (fun hg => (Ry.yl (ry_int (ev_c hg rfl) rfl rfl))) ?_
    refine sq_r (ry_or rfl rfl rfl) ?_
    refine sq_nil ?_
    refine ex_then ?_
    refine cw_cond rfl (fun h1 => ?_) (fun h1 => ?_)
    · try simp only [Bool.and_eq_true, Bool.or_eq_true, Bool.and_eq_false_iff, Bool.or_eq_false_iff, Bool.not_eq_true', Bool.not_eq_false', decide_eq_true_eq, decide_eq_false_iff_not, Bool.not_eq_true, Bool.not_eq_false] at h1
      refine cw_seq ?_
      refine cw_region ?_
      refine sq_r (ry_move rfl) ?_
      refine sq_r (ry_int rfl rfl rfl) ?_
      refine sq_r (ry_move rfl) ?_
      refine sq_gf rfl rfl rfl (fun hg => (Ry.yl (ry_move rfl))) ?_
      refine sq_gf rfl rfl rfl (fun hg => (Ry.yl (ry_lenH (ev_c hg rfl)))) ?_
      refine sq_gf rfl rfl rfl (fun hg => (Ry.yl (ry_int (ev_c hg rfl) rfl rfl))) ?_
      refine sq_r (ry_or rfl rfl rfl) ?_
      refine sq_r (ry_assign rfl) ?_
      refine sq_nil ?_
      refine ex_then ?_
      refine cw_ret ?_
      refine ex_pass_ret ?_
      refine ex_ret (.inl rfl) (res_1 rfl (rv_tmp rfl)) (fun w1 hw => ?_)
      exact ⟨congrArg (fun b => Ending.returned (Value.bool b)) ((by rw [hz24]; cases decide (bodiesE ts ids room = 0) <;> rfl)), Keep.mem hw⟩
    · try simp only [Bool.and_eq_true, Bool.or_eq_true, Bool.and_eq_false_iff, Bool.or_eq_false_iff, Bool.not_eq_true', Bool.not_eq_false', decide_eq_true_eq, decide_eq_false_iff_not, Bool.not_eq_true, Bool.not_eq_false] at h1
      obtain ⟨E1, h1b⟩ := h1
      obtain ⟨hm0, hr0, hlm, hV⟩ := bodiesE_ok E1
      have hm := most_pos hm0
      obtain ⟨d, hd⟩ : ∃ d : Nat, ids = d := ⟨ids.toNat, by omega⟩
      obtain ⟨n, hn⟩ : ∃ n : Nat, room / 20 = n := ⟨(room / 20).toNat, by omega⟩
      have hkn : ids * (room / 20) = ((d * n : Nat) : Int) := by rw [hd, hn, Int.natCast_mul]
      have ed : ids.toNat = d := by omega
      have en : (room / 20).toNat = n := by omega
      rw [ed, en] at hV
      have htk : ts.length ≤ d * n := by omega
      have hl30 : x30.xs.length = d := by rw [← lx_length, hp30, hV, bodiesOf_length]
      have hlx : ∀ (i : Nat) x, x30.xs[i]? = some x → x.xs = bodyAt ts n i := fun i x hx => by
        have h1 : (lx x30)[i]? = some x.xs := by simp [lx, hx]
        have hi : i < d := by rw [← hl30]; exact (List.getElem?_eq_some_iff.1 hx).1
        rw [hp30, hV] at h1
        simpa [bodiesOf, hi] using h1.symm
      have hfl : fullTo (lx x30) d = (ts.length + n - 1) / n := by
        rw [hp30, hV, full_bodies (by omega) d d (Nat.le_refl _)]
        have : (ts.length + n - 1) / n ≤ d := by
          rw [Nat.div_le_iff_le_mul_add_pred (by omega), Nat.mul_comm]; omega
        omega
      have hkt : at_.toNat % ts.length < ts.length := Nat.mod_lt _ (by omega)
      obtain ⟨r, hr⟩ := get_some hkt
      refine cw_skip ?_
      refine ex_then ?_
      refine cw_seq ?_
      refine cw_region ?_
      refine sq_r (ry_move rfl) ?_
      refine sq_r (ry_quo rfl rfl (by omega) (by omega)) ?_
      refine sq_r (ry_assign rfl) ?_
      refine sq_nil ?_
      refine ex_then ?_
      refine cw_seq ?_
      refine cw_region ?_
      refine sq_r (ry_assign rfl) ?_
      refine sq_nil ?_
      refine ex_then ?_
      refine cw_seq ?_
      refine cw_seq ?_
      refine cw_region ?_
      refine sq_r (ry_assign rfl) ?_
      refine sq_nil ?_
      refine ex_then ?_
      refine cw_block ?_
      refine cw_loop (X := Nat) (fun zz => [(15, .int .i64 (zz : Nat)), (14, .int .i64 ((fullTo (lx x30) zz) : Nat)), (0, t.val), (1, .int .i64 ids), (2, .int .i64 room), (3, .int .u8 (at_.toNat : Nat)), (4, .int .u16 (hop.toNat : Nat)), (11, x30.sv.val), (13, .int .i64 (room / 20))]) (fun zz => [Deep.ent x30]) (fun zz => zz ≤ x30.xs.length) (fun zz => x30.xs.length - zz) 0 (by first | omega | (simp only []; omega)) (Sub.cons rfl (Sub.cons (look_eq rfl (by rw [fullTo_zero]; rfl)) (Sub.cons rfl (Sub.cons rfl (Sub.cons rfl (Sub.cons rfl (Sub.cons rfl (Sub.cons rfl (Sub.cons rfl (Sub.nil _)))))))))) (fun w hw => Keep.mem hw) ?_
      rintro i hi
      refine cw_seq ?_
      refine cw_seq ?_
      refine cw_region ?_
      refine sq_r (ry_move rfl) ?_
      refine sq_r (ry_move rfl) ?_
      refine sq_r (ry_lenH rfl) ?_
      refine sq_r (ry_int rfl rfl rfl) ?_
      refine sq_nil ?_
      refine ex_then ?_
      refine cw_cond rfl (fun h2 => ?_) (fun h2 => ?_)
      · try simp only [Bool.and_eq_true, Bool.or_eq_true, Bool.and_eq_false_iff, Bool.or_eq_false_iff, Bool.not_eq_true', Bool.not_eq_false', decide_eq_true_eq, decide_eq_false_iff_not, Bool.not_eq_true, Bool.not_eq_false] at h2
        refine cw_skip ?_
        refine ex_then ?_
        refine cw_seq ?_
        refine cw_block ?_
        refine cw_cut (X := Unit) (fun zz => [(14, .int .i64 ((fullTo (lx x30) (i + 1)) : Nat)), (0, t.val), (1, .int .i64 ids), (2, .int .i64 room), (3, .int .u8 (at_.toNat : Nat)), (4, .int .u16 (hop.toNat : Nat)), (11, x30.sv.val), (13, .int .i64 (room / 20)), (15, .int .i64 (i : Nat))]) (fun zz => [Deep.ent x30]) (fun zz => True) ?_ ?_
        · refine cw_seq ?_
          obtain ⟨x, hx⟩ := get_some (xs := x30.xs) (i := i) (by omega)
          have ex := hlx i x hx
          have hfi := fullTo_le (lx x30) i
          have hfm : x.xs.length ≤ 20 * n := by rw [ex]; exact bodyAt_le _ _ _
          refine cw_region ?_
          refine sq_r (ry_move rfl) ?_
          refine sq_r (ry_move rfl) ?_
          refine sq_r (ry_idxH rfl rfl i rfl (by omega)) ?_
          refine sq_r (ry_elemcH (j := 0) rfl i hx rfl (by decide)) ?_
          have mb58 : Mb x _ := ⟨List.mem_of_getElem? hx⟩
          refine sq_r (ry_lenH rfl) ?_
          refine sq_r (ry_int rfl rfl rfl) ?_
          refine sq_nil ?_
          refine ex_then ?_
          refine cw_cond rfl (fun h3 => ?_) (fun h3 => ?_)
          · try simp only [Bool.and_eq_true, Bool.or_eq_true, Bool.and_eq_false_iff, Bool.or_eq_false_iff, Bool.not_eq_true', Bool.not_eq_false', decide_eq_true_eq, decide_eq_false_iff_not, Bool.not_eq_true, Bool.not_eq_false] at h3
            refine cw_region ?_
            refine sq_r (ry_move rfl) ?_
            refine sq_r (ry_add rfl rfl (by omega)) ?_
            refine sq_r (ry_assign rfl) ?_
            refine sq_nil ?_
            exact ex_meet () trivial (Sub.cons (look_eq rfl (by rw [fullTo_yes (show (lx x30)[i]? = some x.xs by simp [lx, hx]) (by omega)]; rfl)) (Sub.cons rfl (Sub.cons rfl (Sub.cons rfl (Sub.cons rfl (Sub.cons rfl (Sub.cons rfl (Sub.cons rfl (Sub.cons rfl (Sub.nil _)))))))))) (fun w hw => Keep.mem hw)
          · try simp only [Bool.and_eq_true, Bool.or_eq_true, Bool.and_eq_false_iff, Bool.or_eq_false_iff, Bool.not_eq_true', Bool.not_eq_false', decide_eq_true_eq, decide_eq_false_iff_not, Bool.not_eq_true, Bool.not_eq_false] at h3
            refine cw_skip ?_
            exact ex_meet () trivial (Sub.cons (look_eq rfl (by rw [fullTo_no (show (lx x30)[i]? = some x.xs by simp [lx, hx]) (by omega)])) (Sub.cons rfl (Sub.cons rfl (Sub.cons rfl (Sub.cons rfl (Sub.cons rfl (Sub.cons rfl (Sub.cons rfl (Sub.cons rfl (Sub.nil _)))))))))) (fun w hw => Keep.mem hw)
        · rintro ⟨⟩ hJ
          refine cw_seq ?_
          obtain ⟨x, hx⟩ := get_some (xs := x30.xs) (i := i) (by omega)
          have ex := hlx i x hx
          obtain ⟨p, hp⟩ := get_some (xs := x30.xs) (i := i - 1) (by omega)
          have hfm : x.xs.length ≤ 20 * n := by rw [ex]; exact bodyAt_le _ _ _
          have f7 : ¬ room < (x.xs.length : Int) := by omega
          have mbx : Mb x x30 := ⟨List.mem_of_getElem? hx⟩
          have mbp : Mb p x30 := ⟨List.mem_of_getElem? hp⟩
          refine cw_region ?_
          refine sq_r (ry_move rfl) ?_
          refine sq_r (ry_move rfl) ?_
          refine sq_r (ry_idxH rfl rfl i rfl (by omega)) ?_
          refine sq_r (ry_elemcH (j := 0) rfl i hx rfl (by decide)) ?_
          have mb66 : Mb x _ := ⟨List.mem_of_getElem? hx⟩
          refine sq_r (ry_lenH rfl) ?_
          refine sq_r (ry_move rfl) ?_
          refine sq_r (ry_int rfl rfl rfl) ?_
          refine sq_r (ry_move rfl) ?_
          refine sq_ty rfl rfl rfl (by simp [f7]) (Ry.yl (ry_move rfl)) ?_
          refine sq_ty rfl rfl rfl (by simp [f7]) (Ry.yl (ry_int rfl rfl rfl)) ?_
          refine sq_ty rfl rfl rfl (by simp [f7]) (Ry.yl (ry_move rfl)) ?_
          refine sq_gt rfl rfl rfl (fun hg => (Ry.yl (ry_move rfl))) ?_
          refine sq_gt rfl rfl rfl (fun hg => (Ry.yl (ry_move rfl))) ?_
          refine sq_gt rfl rfl rfl (fun hg => (Ry.yl (ry_idxH (ev_c hg rfl) (ev_c hg rfl) i rfl (by omega)))) ?_
          refine sq_gt rfl rfl rfl (fun hg => (Ry.yl (ry_elemcH (j := 0) (ev_c hg rfl) i hx rfl (by decide)))) ?_
          refine sq_gt rfl rfl rfl (fun hg => (Ry.yl (ry_lenH (ev_c hg rfl)))) ?_
          refine sq_gt rfl rfl rfl (fun hg => (Ry.yl (ry_int (ev_c hg rfl) rfl rfl))) ?_
          refine sq_ty rfl rfl rfl (by simp [f7]) (Ry.yl (ry_and rfl rfl rfl)) ?_
          refine sq_ty rfl rfl rfl (by simp [f7]) (Ry.yl (ry_move rfl)) ?_
          refine sq_gt rfl rfl rfl (fun hg => (Ry.yl (ry_move rfl))) ?_
          refine sq_gt rfl rfl rfl (fun hg => (Ry.yl (ry_move rfl))) ?_
          refine sq_gt rfl rfl rfl (fun hg => (Ry.yl (ry_sub (ev_c hg rfl) rfl (by simp only [Bool.and_eq_true, Bool.or_eq_true, Bool.and_eq_false_iff, Bool.or_eq_false_iff, Bool.not_eq_true', Bool.not_eq_false', decide_eq_true_eq, decide_eq_false_iff_not, Bool.not_eq_true, Bool.not_eq_false] at hg; omega)))) ?_
          refine sq_gt rfl rfl rfl (fun hg => (Ry.yl (ry_idxH (ev_c hg rfl) (ev_c hg rfl) (i - 1) (by simp only [Bool.and_eq_true, decide_eq_true_eq] at hg; omega) (by omega)))) ?_
          refine sq_gt rfl rfl rfl (fun hg => (Ry.yl (ry_elemcH (j := 0) (ev_c hg rfl) (i - 1) hp rfl (by decide)))) ?_
          refine sq_gt rfl rfl rfl (fun hg => (Ry.yl (ry_lenH (ev_c hg rfl)))) ?_
          refine sq_gt rfl rfl rfl (fun hg => (Ry.yl (ry_move rfl))) ?_
          refine sq_gt rfl rfl rfl (fun hg => (Ry.yl (ry_mul rfl (ev_c hg rfl) (by simp only [Bool.and_eq_true, Bool.or_eq_true, Bool.and_eq_false_iff, Bool.or_eq_false_iff, Bool.not_eq_true', Bool.not_eq_false', decide_eq_true_eq, decide_eq_false_iff_not, Bool.not_eq_true, Bool.not_eq_false] at hg; omega)))) ?_
          refine sq_gt rfl rfl rfl (fun hg => (Ry.yl (ry_int (ev_c hg rfl) (ev_c hg rfl) rfl))) ?_
          refine sq_ty rfl rfl rfl (by simp [f7]) (Ry.yl (ry_and rfl rfl rfl)) ?_
          refine sq_r (ry_pickF rfl (by simp [f7]) rfl rfl) ?_
          refine sq_nil ?_
          refine ex_then ?_
          refine cw_cond rfl (fun h4 => ?_) (fun h4 => ?_)
          · exfalso; simp only [Bool.and_eq_true, decide_eq_true_eq, Bool.not_eq_true', decide_eq_false_iff_not] at h4; obtain ⟨i, rfl⟩ : ∃ j, i = j + 1 := ⟨i - 1, by omega⟩; have hb := body_ahead (t := ts) (n := n) (i := i) (by rw [← ex]; omega); rw [Nat.add_sub_cancel] at hp; rw [← hlx _ _ hp] at hb; omega
          · try simp only [Bool.and_eq_true, Bool.or_eq_true, Bool.and_eq_false_iff, Bool.or_eq_false_iff, Bool.not_eq_true', Bool.not_eq_false', decide_eq_true_eq, decide_eq_false_iff_not, Bool.not_eq_true, Bool.not_eq_false] at h4
            refine cw_skip ?_
            refine ex_block ?_
            refine ex_then ?_
            refine cw_region ?_
            refine sq_r (ry_move rfl) ?_
            refine sq_r (ry_add rfl rfl (by omega)) ?_
            refine sq_r (ry_assign rfl) ?_
            refine sq_nil ?_
            exact ex_again (x := (i)) (i + 1) (by first | omega | (simp only []; omega)) (by first | omega | (simp only []; omega)) (Sub.cons rfl (Sub.cons rfl (Sub.cons rfl (Sub.cons rfl (Sub.cons rfl (Sub.cons rfl (Sub.cons rfl (Sub.cons rfl (Sub.cons rfl (Sub.nil _)))))))))) (fun w hw => Keep.mem hw)
      · try simp only [Bool.and_eq_true, Bool.or_eq_true, Bool.and_eq_false_iff, Bool.or_eq_false_iff, Bool.not_eq_true', Bool.not_eq_false', decide_eq_true_eq, decide_eq_false_iff_not, Bool.not_eq_true, Bool.not_eq_false] at h2
        refine cw_exit ?_
        refine ex_pass_exit ?_
        refine ex_pass_exit ?_
        refine ex_block_hit ?_
        refine ex_then ?_
        refine cw_seq ?_
        refine cw_seq ?_
        refine cw_region ?_
        refine sq_r (ry_move rfl) ?_
        refine sq_r (ry_move rfl) ?_
        refine sq_r (ry_lenH rfl) ?_
        refine sq_r (ry_move rfl) ?_
        refine sq_r (ry_add rfl rfl (by omega)) ?_
        refine sq_r (ry_sub rfl rfl (by omega)) ?_
        refine sq_r (ry_move rfl) ?_
        refine sq_r (ry_quo rfl rfl (by omega) (by omega)) ?_
        refine sq_r (ry_int rfl rfl rfl) ?_
        refine sq_nil ?_
        refine ex_then ?_
        refine cw_cond rfl (fun h5 => ?_) (fun h5 => ?_)
        · exfalso; simp only [Bool.not_eq_true', decide_eq_false_iff_not] at h5; apply h5; rw [hn, show ((ts.length : Int) + n - 1) = ((ts.length + n - 1 : Nat) : Int) by omega, ← Int.natCast_ediv, ← hfl, show i = d by omega]
        · try simp only [Bool.and_eq_true, Bool.or_eq_true, Bool.and_eq_false_iff, Bool.or_eq_false_iff, Bool.not_eq_true', Bool.not_eq_false', decide_eq_true_eq, decide_eq_false_iff_not, Bool.not_eq_true, Bool.not_eq_false] at h5
          refine cw_skip ?_
          refine ex_then ?_
          refine cw_seq ?_
          refine cw_region ?_
          refine sq_r (ry_move rfl) ?_
          refine sq_r (ry_conv_u8 rfl) ?_
          refine sq_r (ry_move rfl) ?_
          refine sq_r (ry_lenH rfl) ?_
          refine sq_r (ry_remn (p := at_.toNat) (q := ts.length) rfl rfl rfl rfl (by omega)) ?_
          refine sq_r (ry_assign rfl) ?_
          refine sq_nil ?_
          refine ex_then ?_
          refine cw_seq ?_
          refine cw_region ?_
          refine sq_build0 rcells fun b107 => ?_
          refine sq_r (ry_move rfl) ?_
          refine sq_append (s := ⟨false, b107, 0, 0, 0, none⟩) (ys := ts) rfl rfl (by decide) (fun w hw => src_rows (s := t) Try.underlying62 (by decide) ((inferInstance : Hd _ _ t rcells 19 ts).h w hw)) (by simp only [List.length_nil]; omega) (by simp only [List.length_nil]; omega) fun s109 hs109 hl109 => ?_
          refine sq_r (ry_assign rfl) ?_
          refine sq_nil ?_
          refine ex_then ?_
          refine cw_seq ?_
          refine cw_region ?_
          refine sq_r (ry_move rfl) ?_
          refine sq_r (ry_move rfl) ?_
          refine sq_r (ry_move rfl) ?_
          refine sq_r (ry_idxH rfl rfl (at_.toNat % ts.length) rfl (by rw [List.nil_append]; exact hkt)) ?_
          refine sq_r (ry_field rfl rfl) ?_
          refine sq_storeS (n := 1) (k := (at_.toNat % ts.length)) (j := 18) (a := r) (a' := ⟨r.p, hop⟩) (by kernel_rfl) rfl rfl rfl (by rw [List.nil_append]; exact hr) (by simp [Value.cells, Value.oneCell']) rfl (by decide) (rcells_over18 r hop) ?_
          refine sq_nil ?_
          refine ex_then ?_
          refine cw_seq ?_
          refine cw_region ?_
          refine sq_r (ry_move rfl) ?_
          refine sq_r (ry_move rfl) ?_
          refine sq_r (ry_move rfl) ?_
          refine sq_callC rfl trivial fun x119 hp119 => ?_
          have hoo := hop_other (h := hop) E1 hr
          rw [List.nil_append] at hp119
          have h119 := hp119
          have e121 : bodiesE (([] ++ ts).set (at_.toNat % ts.length) ⟨r.p, hop⟩) ids room = 0 := by rw [List.nil_append]; exact hoo.1
          have e121b := hoo.1
          refine sq_r (ry_move rfl) ?_
          refine sq_r (ry_extract (v := x119.sv.val) rfl rfl) ?_
          refine sq_r (ry_extract (v := .int .i64 (bodiesE (([] ++ ts).set (at_.toNat % ts.length) ⟨r.p, hop⟩) ids room)) rfl rfl) ?_
          refine sq_r (ry_assign rfl) ?_
          refine sq_r (ry_assign rfl) ?_
          refine sq_nil ?_
          refine ex_then ?_
          refine cw_seq ?_
          refine cw_region ?_
          refine sq_r (ry_move rfl) ?_
          refine sq_r (ry_move rfl) ?_
          refine sq_callC rfl ⟨by omega, by rw [← lx_length, h119]; have := (bodiesV_le (t := ts.set (at_.toNat % ts.length) ⟨r.p, hop⟩) (ids := ids) (room := room)).1; omega, (fun x hx => by have := bodiesV_le.2 x.xs (by rw [← hp119]; exact List.mem_map_of_mem hx); omega)⟩ fun x124 hp124 => ?_
          have f16 : (decide ((hop.toNat : Int) = (r.hop.toNat : Int)) && !decide ((x124.xs.length : Int) = 0)) = false := by
            by_cases e : hop = r.hop
            · have h1 := hoo.2.1 e
              rw [← hp30, ← h119, ← hp124] at h1
              have : x124.xs.length = 0 := by have := congrArg List.length h1; simpa [its] using this
              simp [this]
            · rw [decide_eq_false (fun h => e (UInt16.toNat_inj.1 (by omega)))]; rfl
          refine sq_r (ry_assign rfl) ?_
          refine sq_nil ?_
          refine ex_then ?_
          refine cw_seq ?_
          refine cw_seq ?_
          refine cw_quiet (by kernel_rfl) (by kernel_rfl) ?_
          refine qt_r (ry_move rfl) ?_
          refine qt_r (ry_int rfl rfl rfl) ?_
          refine qt_r (ry_move rfl) ?_
          refine qt_ty rfl rfl rfl (by simp [e121, e121b, f16]) (Ry.yl (ry_move rfl)) ?_
          refine qt_ty rfl rfl rfl (by simp [e121, e121b, f16]) (Ry.yl (ry_move rfl)) ?_
          refine qt_ty rfl rfl rfl (by simp [e121, e121b, f16]) (Ry.yl (ry_move rfl)) ?_
          refine qt_ty rfl rfl rfl (by simp [e121, e121b, f16]) (Ry.yl (ry_idxH rfl rfl (at_.toNat % ts.length) rfl (by omega))) ?_
          refine qt_ty rfl rfl rfl (by simp [e121, e121b, f16]) (Ry.yl (ry_field rfl rfl)) ?_
          refine qt_ty rfl rfl rfl (by simp [e121, e121b, f16]) (Ry.yl (ry_elemcH (j := 18) rfl (at_.toNat % ts.length) hr rfl (by decide))) ?_
          refine qt_ty rfl rfl rfl (by simp [e121, e121b, f16]) (Ry.yl (ry_int rfl rfl rfl)) ?_
          refine qt_ty rfl rfl rfl (by simp [e121, e121b, f16]) (Ry.yl (ry_move rfl)) ?_
          refine qt_gt rfl rfl rfl (fun hg => (Ry.yl (ry_move rfl))) ?_
          refine qt_gt rfl rfl rfl (fun hg => (Ry.yl (ry_lenH (ev_c hg rfl)))) ?_
          refine qt_gt rfl rfl rfl (fun hg => (Ry.yl (ry_int (ev_c hg rfl) rfl rfl))) ?_
          refine qt_ty rfl rfl rfl (by simp [e121, e121b, f16]) (Ry.yl (ry_and rfl rfl rfl)) ?_
          refine qt_r (ry_pickF rfl (by simp [e121, e121b, f16]) rfl rfl) ?_
          refine qt_r (ry_move rfl) ?_
          refine qt_ty rfl rfl rfl f16 (Ry.yl (ry_move rfl)) ?_
          refine qt_ty rfl rfl rfl f16 (Ry.yl (ry_move rfl)) ?_
          refine qt_ty rfl rfl rfl f16 (Ry.yl (ry_move rfl)) ?_
          refine qt_ty rfl rfl rfl f16 (Ry.yl (ry_idxH rfl rfl (at_.toNat % ts.length) rfl (by omega))) ?_
          refine qt_ty rfl rfl rfl f16 (Ry.yl (ry_field rfl rfl)) ?_
          refine qt_ty rfl rfl rfl f16 (Ry.yl (ry_elemcH (j := 18) rfl (at_.toNat % ts.length) hr rfl (by decide))) ?_
          refine qt_ty rfl rfl rfl f16 (Ry.yl (ry_int rfl rfl rfl)) ?_
          refine qt_ty rfl rfl rfl f16 (Ry.yl (ry_move rfl)) ?_
          refine qt_gt rfl rfl rfl (fun hg => (Ry.yl (ry_move rfl))) ?_
          refine qt_gt rfl rfl rfl (fun hg => (Ry.yl (ry_lenH (ev_c hg rfl)))) ?_
          refine qt_gt rfl rfl rfl (fun hg => (Ry.yl (ry_int (ev_c hg rfl) rfl rfl))) ?_
          refine qt_gt rfl rfl rfl (fun hg => (Ry.yl (ry_move (ev_c hg rfl)))) ?_
          refine qt_nf rfl rfl rfl (fun hg => (Ry.yl (ry_move rfl))) ?_
          refine qt_nf rfl rfl rfl (fun hg => (Ry.yl (ry_idxH (ev_c hg rfl) rfl 0 rfl (by simp only [Bool.and_eq_true, Bool.or_eq_true, Bool.and_eq_false_iff, Bool.or_eq_false_iff, Bool.not_eq_true', Bool.not_eq_false', decide_eq_true_eq, decide_eq_false_iff_not, Bool.not_eq_true, Bool.not_eq_false] at hg; omega)))) ?_
          refine qt_nf rfl rfl rfl (fun hg => (Ry.yl (ry_field (ev_c hg rfl) rfl))) ?_
          refine qt_nf rfl rfl rfl (fun hg => (Ry.yl (ry_elemcH (j := 0) (ev_c hg rfl) 0 (get_getD (xs := x124.xs) (i := 0) (d := ⟨0, ⟨Sv.none, []⟩⟩) (by simp only [Bool.and_eq_true, Bool.or_eq_true, Bool.and_eq_false_iff, Bool.or_eq_false_iff, Bool.not_eq_true', Bool.not_eq_false', decide_eq_true_eq, decide_eq_false_iff_not, Bool.not_eq_true, Bool.not_eq_false] at hg; omega)) rfl (by decide)))) ?_
          refine qt_nf rfl rfl rfl (fun hg => (Ry.yl (ry_move rfl))) ?_
          refine qt_nf rfl rfl rfl (fun hg => (Ry.yl (ry_move rfl))) ?_
          refine qt_nf rfl rfl rfl (fun hg => (Ry.yl (ry_quo (ev_c hg rfl) (ev_c hg rfl) (by simp only [Bool.and_eq_true, Bool.or_eq_true, Bool.and_eq_false_iff, Bool.or_eq_false_iff, Bool.not_eq_true', Bool.not_eq_false', decide_eq_true_eq, decide_eq_false_iff_not, Bool.not_eq_true, Bool.not_eq_false] at hg; omega) (by simp only [Bool.and_eq_true, Bool.or_eq_true, Bool.and_eq_false_iff, Bool.or_eq_false_iff, Bool.not_eq_true', Bool.not_eq_false', decide_eq_true_eq, decide_eq_false_iff_not, Bool.not_eq_true, Bool.not_eq_false] at hg; omega)))) ?_
          refine qt_nf rfl rfl rfl (fun hg => (Ry.yl (ry_int (ev_c hg rfl) (ev_c hg rfl) rfl))) ?_
          refine qt_gt rfl rfl rfl (fun hg => (Ry.yl (ry_or (ev_c hg rfl) rfl (ev_cc hg rfl)))) ?_
          refine qt_ty rfl rfl rfl f16 (Ry.yl (ry_and rfl rfl rfl)) ?_
          refine qt_r (ry_pickF rfl f16 rfl rfl) ?_
          refine qt_nil ?_
          refine ex_then ?_
          refine cw_cond rfl (fun h6 => ?_) (fun h6 => ?_)
          · exfalso; simp only [Bool.and_eq_true, Bool.or_eq_true, Bool.not_eq_true', decide_eq_false_iff_not] at h6; obtain ⟨h6a, h6b⟩ := h6; obtain ⟨b, hb⟩ := hoo.2.2 (fun e => h6a (by rw [e])); rw [en, ← hp30, ← h119, ← hp124] at hb; obtain ⟨y, hy⟩ := list1 (l := x124.xs) (by have := congrArg List.length hb; simpa [its] using this); have hyi : y.id = ((at_.toNat % ts.length / n : Nat) : Int) := by have h9 := hb; simp [its, hy] at h9; rw [h9.1]; first | rfl | norm_cast | simp
            rw [hy] at h6b; simp only [List.length_cons, List.length_nil, hn] at h6b; rcases h6b with h | h; exact h rfl; apply h; show y.id = _; rw [hyi]; exact Int.natCast_ediv _ _
          · try simp only [Bool.and_eq_true, Bool.or_eq_true, Bool.and_eq_false_iff, Bool.or_eq_false_iff, Bool.not_eq_true', Bool.not_eq_false', decide_eq_true_eq, decide_eq_false_iff_not, Bool.not_eq_true, Bool.not_eq_false] at h6
            refine cw_skip ?_
            refine ex_then ?_
            refine cw_seq ?_
            refine cw_lin [0, 4, 9, 12] [[], [], [], [], [0], [], [], [], [], [0, 4], [], [], [0, 4, 9], [0, 4, 9, 12], [0, 4, 9, 12], [0, 4, 9, 12], [0, 4, 9, 12], [0, 4, 9, 12]] [1, 2, 3, 5, 6, 7, 8, 10, 11, 0, 4, 9, 12, 13, 14, 15, 16, 17] [] (fun _ hw => Keep.mem hw) (by kernel_rfl) (by kernel_rfl) ?_
            refine ln_r rfl (ry_move rfl) ?_
            refine ln_r rfl (ry_move rfl) ?_
            have rg169 : Rg 0 (at_.toNat % ts.length) ts.length := ⟨by omega⟩
            refine ln_r rfl (ry_subH_hi rfl rfl (at_.toNat % ts.length) rfl rg169.h.2) ?_
            refine ln_r rfl (ry_move rfl) ?_
            refine ln_r rfl (ry_move rfl) ?_
            refine ln_r rfl (ry_add rfl rfl (by omega)) ?_
            have rg174 : Rg ((at_.toNat % ts.length) + 1) ts.length ts.length := ⟨by omega⟩
            refine ln_r rfl (ry_subH_lo rfl rfl ((at_.toNat % ts.length) + 1) rfl rg174.h.1) ?_
            refine ln_r rfl (ry_move rfl) ?_
            refine ln_r rfl (ry_move rfl) ?_
            refine ln_st rfl (st_build0 rcells fun b166 => ⟨fun _ hw => Keep.mem hw, ?_⟩)
            refine ln_st rfl (st_append (s := ⟨false, b166, 0, 0, 0, none⟩) (ys := ((ts.drop 0).take ((at_.toNat % ts.length) - 0))) rfl rfl (by decide) (fun w hw => src_rows (s := (t.sub 19 0 (at_.toNat % ts.length))) Try.underlying62 (by decide) ((inferInstance : Hd _ _ (t.sub 19 0 (at_.toNat % ts.length)) rcells 19 ((ts.drop 0).take ((at_.toNat % ts.length) - 0))).h w hw)) (by simp only [List.length_nil, List.length_take, List.length_drop]; omega) (by simp only [List.length_nil, List.length_take, List.length_drop]; omega) fun s170 hs170 hl170 => ⟨fun _ hw => Keep.mem hw, ?_⟩)
            refine ln_st rfl (st_append (s := s170) (ys := ((ts.drop ((at_.toNat % ts.length) + 1)).take (ts.length - ((at_.toNat % ts.length) + 1)))) rfl rfl (by decide) (fun w hw => src_rows (s := (t.sub 19 ((at_.toNat % ts.length) + 1) ts.length)) Try.underlying62 (by decide) ((inferInstance : Hd _ _ (t.sub 19 ((at_.toNat % ts.length) + 1) ts.length) rcells 19 ((ts.drop ((at_.toNat % ts.length) + 1)).take (ts.length - ((at_.toNat % ts.length) + 1)))).h w hw)) (by simp only [List.nil_append, List.length_append, List.length_take, List.length_drop]; omega) (by simp only [List.nil_append, List.length_append, List.length_take, List.length_drop]; omega) fun s175 hs175 hl175 => ⟨fun _ hw => Keep.mem hw, ?_⟩)
            refine ln_st rfl (st_callC rfl trivial fun x178 hp178 => ⟨fun _ hw => Keep.mem hw, ?_⟩)
            have hgo := route_goes E1 hr
            have eL : (([] ++ (ts.drop 0).take ((at_.toNat % ts.length) - 0)) ++ (ts.drop ((at_.toNat % ts.length) + 1)).take (ts.length - ((at_.toNat % ts.length) + 1))) = ts.take (at_.toNat % ts.length) ++ ts.drop ((at_.toNat % ts.length) + 1) := by
              rw [List.nil_append, List.drop_zero, Nat.sub_zero, List.take_of_length_le (l := ts.drop ((at_.toNat % ts.length) + 1)) (by rw [List.length_drop]; exact Nat.le_refl _)]
            rw [eL] at hp178
            have e180 : bodiesE (([] ++ (ts.drop 0).take ((at_.toNat % ts.length) - 0)) ++ (ts.drop ((at_.toNat % ts.length) + 1)).take (ts.length - ((at_.toNat % ts.length) + 1))) ids room = 0 := by rw [eL]; exact hgo.1
            have e180b := e180
            simp at e180b
            refine ln_r rfl (ry_move rfl) ?_
            refine ln_r rfl (ry_extract (v := x178.sv.val) rfl rfl) ?_
            refine ln_r rfl (ry_extract (v := .int .i64 (bodiesE (([] ++ ((ts.drop 0).take ((at_.toNat % ts.length) - 0))) ++ ((ts.drop ((at_.toNat % ts.length) + 1)).take (ts.length - ((at_.toNat % ts.length) + 1)))) ids room)) rfl rfl) ?_
            refine ln_r rfl (ry_assign rfl) ?_
            refine ln_r rfl (ry_assign rfl) ?_
            refine ln_nil ?_
            refine ex_then ?_
            refine cw_seq ?_
            refine cw_region ?_
            refine sq_r (ry_move rfl) ?_
            refine sq_r (ry_move rfl) ?_
            refine sq_callC rfl ⟨by omega, by rw [← lx_length, hp178]; have := (bodiesV_le (t := ts.take (at_.toNat % ts.length) ++ ts.drop ((at_.toNat % ts.length) + 1)) (ids := ids) (room := room)).1; omega, (fun x hx => by have := bodiesV_le.2 x.xs (by rw [← hp178]; exact List.mem_map_of_mem hx); omega)⟩ fun x183 hp183 => ?_
            obtain ⟨b, hb⟩ := hgo.2
            rw [en, ← hp30, ← hp178, ← hp183] at hb
            obtain ⟨y, hy, hyb⟩ : ∃ y, x183.xs[0]? = some y ∧ y.id = ((at_.toNat % ts.length / n : Nat) : Int) := by
              rw [its, List.getElem?_map, Option.map_eq_some_iff] at hb
              obtain ⟨y, h1, h2⟩ := hb
              exact ⟨y, h1, (Prod.mk.inj h2).1⟩
            have hy0 : 0 < x183.xs.length := (List.getElem?_eq_some_iff.1 hy).1
            refine sq_r (ry_assign rfl) ?_
            refine sq_nil ?_
            refine ex_then ?_
            refine cw_seq ?_
            refine cw_quiet (by kernel_rfl) (by kernel_rfl) ?_
            refine qt_r (ry_move rfl) ?_
            refine qt_r (ry_int rfl rfl rfl) ?_
            refine qt_r (ry_move rfl) ?_
            refine qt_ty rfl rfl rfl (by simp [e180, e180b, hy0]) (Ry.yl (ry_move rfl)) ?_
            refine qt_ty rfl rfl rfl (by simp [e180, e180b, hy0]) (Ry.yl (ry_lenH rfl)) ?_
            refine qt_ty rfl rfl rfl (by simp [e180, e180b, hy0]) (Ry.yl (ry_int rfl rfl rfl)) ?_
            refine qt_r (ry_pickT rfl (by simp [e180, e180b, hy0]) rfl rfl) ?_
            refine qt_r (ry_move rfl) ?_
            refine qt_ty rfl rfl rfl (by simp [e180, e180b, hy0]) (Ry.yl (ry_move rfl)) ?_
            refine qt_ty rfl rfl rfl (by simp [e180, e180b, hy0]) (Ry.yl (ry_idxH rfl rfl 0 rfl (by omega))) ?_
            refine qt_ty rfl rfl rfl (by simp [e180, e180b, hy0]) (Ry.yl (ry_field rfl rfl)) ?_
            refine qt_ty rfl rfl rfl (by simp [e180, e180b, hy0]) (Ry.yl (ry_elemcH (j := 0) rfl 0 hy rfl (by decide))) ?_
            refine qt_ty rfl rfl rfl (by simp [e180, e180b, hy0]) (Ry.yl (ry_move rfl)) ?_
            refine qt_ty rfl rfl rfl (by simp [e180, e180b, hy0]) (Ry.yl (ry_move rfl)) ?_
            refine qt_ty rfl rfl rfl (by simp [e180, e180b, hy0]) (Ry.yl (ry_quo rfl rfl (by omega) (by omega))) ?_
            refine qt_ty rfl rfl rfl (by simp [e180, e180b, hy0]) (Ry.yl (ry_int rfl rfl rfl)) ?_
            refine qt_r (ry_pickT rfl (by simp [e180, e180b, hy0]) rfl rfl) ?_
            refine qt_r (ry_assign rfl) ?_
            refine qt_nil ?_
            refine ex_then ?_
            refine cw_ret ?_
            refine ex_ret (.inl rfl) (res_1 rfl (rv_tmp rfl)) (fun w1 hw => ?_)
            exact ⟨congrArg (fun b => Ending.returned (Value.bool b)) ((decide_eq_true (by rw [hyb, hn]; exact Int.natCast_ediv _ _))), Keep.mem hw⟩

end Go.Proofs.Ytembaconocgmlaa
