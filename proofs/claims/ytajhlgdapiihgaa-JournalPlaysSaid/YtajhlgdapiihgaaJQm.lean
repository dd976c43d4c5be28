/- The law JournalPlays: walked. -/
import Derived.Test.YtajhlgdapiihgaaMn

set_option linter.unusedSimpArgs false
set_option linter.unusedVariables false
namespace Go.Proofs.Ytajhlgdapiihgaa
open Go.Eng Go.Kb
set_option maxRecDepth 20000 in
theorem journalPlays_c (w : World) (t : Sv) (ts : List Rt) (l : Sl (Sl Ch)) (ht : Lies rcells 19 (hp w) t ts) (hl : Deep.good (hp w) l) : Calls Try.prog 14 #[t.val, l.sv.val] w fun e w' => e = .returned (.bool true) ∧ Mem w [] w' := by
  have ght : Gv w t rcells 19 ts := ⟨ht⟩
  have ghl : GvD w l := ⟨hl⟩
  refine calls_of (args := [_, _]) Try.func14 rfl Try.ntmps14 rfl ?_
  change Cw _ _ _ _ _ [(0, t.val), (1, l.sv.val)] []
  refine cw_seq ?_
  refine cw_region ?_
  refine sq_r (ry_assign rfl) ?_
  refine sq_nil ?_
  refine ex_then ?_
  refine cw_seq ?_
  refine cw_seq ?_
  refine cw_region ?_
  refine sq_y (yl_callC rfl trivial) ?_
  refine sq_r (ry_not rfl) ?_
  refine sq_nil ?_
  refine ex_then ?_
  refine cw_cond rfl (fun h0 => ?_) (fun h0 => ?_)
  · exfalso; simp at h0
  · try simp only [Bool.and_eq_true, Bool.or_eq_true, Bool.and_eq_false_iff, Bool.or_eq_false_iff, Bool.not_eq_true', Bool.not_eq_false', decide_eq_true_eq, decide_eq_false_iff_not, Bool.not_eq_true, Bool.not_eq_false] at h0
    refine cw_skip ?_
    refine ex_then ?_
    refine cw_seq ?_
    refine cw_seq ?_
    refine cw_region ?_
    refine sq_r (ry_move rfl) ?_
    refine sq_r (ry_lenH rfl) ?_
    refine sq_r (ry_int rfl rfl rfl) ?_
    refine sq_r (ry_move rfl) ?_
    refine sq_gf rfl rfl rfl (fun hg => (Ry.yl (ry_move rfl))) ?_
    refine sq_gf rfl rfl rfl (fun hg => (Ry.yl (ry_lenH (ev_c hg rfl)))) ?_
    refine sq_gf rfl rfl rfl (fun hg => (Ry.yl (ry_int (ev_c hg rfl) rfl rfl))) ?_
    refine sq_r (ry_or rfl rfl rfl) ?_
    refine sq_r (ry_move rfl) ?_
    refine sq_gf rfl rfl rfl (fun hg => (Ry.yl (ry_move rfl))) ?_
    refine sq_gf rfl rfl rfl (fun hg => yl_callC (evl_cons (ev_c hg rfl) evl_nil) trivial) ?_
    refine sq_gf rfl rfl rfl (fun hg => (Ry.yl (ry_not (ev_c hg rfl)))) ?_
    refine sq_r (ry_or rfl rfl rfl) ?_
    refine sq_nil ?_
    refine ex_then ?_
    refine cw_cond rfl (fun h1 => ?_) (fun h1 => ?_)
    · try simp only [Bool.and_eq_true, Bool.or_eq_true, Bool.and_eq_false_iff, Bool.or_eq_false_iff, Bool.not_eq_true', Bool.not_eq_false', decide_eq_true_eq, decide_eq_false_iff_not, Bool.not_eq_true, Bool.not_eq_false] at h1
      refine cw_seq ?_
      refine cw_region ?_
      refine sq_r (ry_assign rfl) ?_
      refine sq_nil ?_
      refine ex_then ?_
      refine cw_ret ?_
      refine ex_pass_ret ?_
      refine ex_ret (.inl rfl) (res_1 rfl (rv_tmp rfl)) (fun w1 hw => ?_)
      exact ⟨congrArg (fun b => Ending.returned (Value.bool b)) (rfl), Keep.mem hw⟩
    · try simp only [Bool.and_eq_true, Bool.or_eq_true, Bool.and_eq_false_iff, Bool.or_eq_false_iff, Bool.not_eq_true', Bool.not_eq_false', decide_eq_true_eq, decide_eq_false_iff_not, Bool.not_eq_true, Bool.not_eq_false] at h1
      have hr : tright ts = true := by simpa using h1.2
      have hlen := tr_len hr
      have hll : l.xs.length ≤ 12 := by omega
      refine cw_skip ?_
      refine ex_then ?_
      refine cw_seq ?_
      refine cw_region ?_
      refine sq_r (ry_assign rfl) ?_
      refine sq_nil ?_
      refine ex_then ?_
      refine cw_seq ?_
      refine cw_region ?_
      refine sq_r (ry_move rfl) ?_
      refine sq_r (ry_assign rfl) ?_
      refine sq_nil ?_
      refine ex_then ?_
      refine cw_seq ?_
      refine cw_region ?_
      refine sq_r (ry_assign rfl) ?_
      refine sq_r (ry_assign rfl) ?_
      refine sq_nil ?_
      refine ex_then ?_
      refine cw_seq ?_
      refine cw_seq ?_
      refine cw_region ?_
      refine sq_r (ry_assign rfl) ?_
      refine sq_nil ?_
      refine ex_then ?_
      refine cw_block ?_
      refine cw_loop (X := Nat × Sv × List (List Ch) × Sv × Bool × List Rt × Nat × Bool) (fun zz => [(9, .int .i64 (zz.1 : Nat)), (5, zz.2.1.val), (6, zz.2.2.2.1.val), (7, .int .i64 (zz.2.2.2.2.2.2.1 : Nat)), (8, .bool zz.2.2.2.2.2.2.2), (0, t.val), (1, l.sv.val)]) (fun zz => [own benc 1 zz.2.1 (framesJ zz.2.2.1), selE zz.2.2.2.2.1 (own rcells 19 zz.2.2.2.1 zz.2.2.2.2.2.1)]) (fun zz => zz.1 ≤ l.xs.length ∧ (∀ x ∈ zz.2.2.1, jputE x = 0) ∧ (playF ts zz.2.2.1).1 = zz.2.2.2.2.2.1 ∧ (playF ts zz.2.2.1).2.1 = zz.2.2.2.2.2.2.1 ∧ zz.2.2.2.2.2.2.2 = decide ((playF ts zz.2.2.1).2.2 ≠ 0) ∧ tright zz.2.2.2.2.2.1 = true ∧ (framesJ zz.2.2.1).length ≤ 4208 * zz.1 ∧ zz.2.2.2.2.2.2.1 ≤ zz.1 ∧ (zz.2.2.2.2.1 = true → zz.2.2.2.1 = t ∧ zz.2.2.2.2.2.1 = ts)) (fun zz => l.xs.length - zz.1) (0, Sv.none, [], t, true, ts, 0, false) ⟨Nat.zero_le _, fun _ h => (List.not_mem_nil h).elim, rfl, rfl, rfl, hr, by simp [framesJ], Nat.le_refl _, fun _ => ⟨rfl, rfl⟩⟩ (Sub.cons rfl (Sub.cons rfl (Sub.cons rfl (Sub.cons rfl (Sub.cons rfl (Sub.cons rfl (Sub.cons rfl (Sub.nil _)))))))) (fun w hw => Mem.nilOwn benc 1 (Mem.selT (Keep.mem hw))) ?_
      rintro ⟨i, s, p, o, g, q, n, bd⟩ ⟨hi1, hi2, hi3, hi4, hi5, hi6, hi7, hi8, hi9⟩
      dsimp only
      simp only at hi1 hi2 hi3 hi4 hi5 hi6 hi7 hi8 hi9
      have hql := tr_len hi6
      have sg : SelG g o q t ts := ⟨hi9⟩
      refine cw_seq ?_
      refine cw_seq ?_
      refine cw_region ?_
      refine sq_r (ry_move rfl) ?_
      refine sq_r (ry_move rfl) ?_
      refine sq_r (ry_lenH rfl) ?_
      refine sq_r (ry_int rfl rfl rfl) ?_
      refine sq_nil ?_
      refine ex_then ?_
      refine cw_cond rfl (fun h2 => ?_) (fun h2 => ?_)
      · try simp only [Bool.and_eq_true, Bool.or_eq_true, Bool.and_eq_false_iff, Bool.or_eq_false_iff, Bool.not_eq_true', Bool.not_eq_false', decide_eq_true_eq, decide_eq_false_iff_not, Bool.not_eq_true, Bool.not_eq_false] at h2
        obtain ⟨z, hz⟩ := get_some (xs := l.xs) (i := i) (by omega)
        have mbz : Mb z _ := ⟨List.mem_of_getElem? hz⟩
        refine cw_skip ?_
        refine ex_then ?_
        refine cw_seq ?_
        refine cw_block ?_
        refine cw_seq ?_
        refine cw_seq ?_
        refine cw_region ?_
        refine sq_r (ry_move rfl) ?_
        refine sq_r (ry_move rfl) ?_
        refine sq_r (ry_idxH rfl rfl i rfl (by omega)) ?_
        refine sq_r (ry_elemcH (j := 0) rfl i hz rfl (by decide)) ?_
        have mb42 : Mb z _ := ⟨List.mem_of_getElem? hz⟩
        refine sq_r (ry_lenH rfl) ?_
        refine sq_r (ry_int rfl rfl rfl) ?_
        refine sq_nil ?_
        refine ex_then ?_
        refine cw_cond rfl (fun h3 => ?_) (fun h3 => ?_)
        · try simp only [Bool.and_eq_true, Bool.or_eq_true, Bool.and_eq_false_iff, Bool.or_eq_false_iff, Bool.not_eq_true', Bool.not_eq_false', decide_eq_true_eq, decide_eq_false_iff_not, Bool.not_eq_true, Bool.not_eq_false] at h3
          refine cw_seq ?_
          refine cw_region ?_
          refine sq_r (ry_assign rfl) ?_
          refine sq_nil ?_
          refine ex_then ?_
          refine cw_ret ?_
          refine ex_pass_ret ?_
          refine ex_block_ret ?_
          refine ex_pass_ret ?_
          refine ex_pass_ret ?_
          refine ex_block_ret ?_
          refine ex_pass_ret ?_
          refine ex_ret (.inl rfl) (res_1 rfl (rv_tmp rfl)) (fun w1 hw => ?_)
          exact ⟨congrArg (fun b => Ending.returned (Value.bool b)) (rfl), Keep.mem hw⟩
        · try simp only [Bool.and_eq_true, Bool.or_eq_true, Bool.and_eq_false_iff, Bool.or_eq_false_iff, Bool.not_eq_true', Bool.not_eq_false', decide_eq_true_eq, decide_eq_false_iff_not, Bool.not_eq_true, Bool.not_eq_false] at h3
          refine cw_skip ?_
          refine ex_then ?_
          refine cw_seq ?_
          refine cw_region ?_
          refine sq_r (ry_move rfl) ?_
          refine sq_r (ry_move rfl) ?_
          refine sq_r (ry_move rfl) ?_
          refine sq_r (ry_idxH rfl rfl i rfl (by omega)) ?_
          refine sq_r (ry_elemcH (j := 0) rfl i hz rfl (by decide)) ?_
          have mb50 : Mb z _ := ⟨List.mem_of_getElem? hz⟩
          refine sq_callC rfl (by omega) fun x51 hp51 => ?_
          refine sq_r (ry_move rfl) ?_
          refine sq_r (ry_extract (v := x51.val) rfl rfl) ?_
          refine sq_r (ry_extract (v := .int .i64 (jputE z.xs)) rfl rfl) ?_
          refine sq_r (ry_assign rfl) ?_
          refine sq_r (ry_assign rfl) ?_
          refine sq_nil ?_
          refine ex_then ?_
          refine cw_seq ?_
          refine cw_seq ?_
          refine cw_region ?_
          refine sq_r (ry_move rfl) ?_
          refine sq_r (ry_int rfl rfl rfl) ?_
          refine sq_nil ?_
          refine ex_then ?_
          refine cw_cond rfl (fun h4 => ?_) (fun h4 => ?_)
          · try simp only [Bool.and_eq_true, Bool.or_eq_true, Bool.and_eq_false_iff, Bool.or_eq_false_iff, Bool.not_eq_true', Bool.not_eq_false', decide_eq_true_eq, decide_eq_false_iff_not, Bool.not_eq_true, Bool.not_eq_false] at h4
            have he : jputE z.xs ≠ 0 := h4
            refine cw_exit ?_
            refine ex_pass_exit ?_
            refine ex_block_hit ?_
            refine ex_then ?_
            refine cw_region ?_
            refine sq_r (ry_move rfl) ?_
            refine sq_r (ry_add rfl rfl (by omega)) ?_
            refine sq_r (ry_assign rfl) ?_
            refine sq_nil ?_
            exact ex_again (x := (i, s, p, o, g, q, n, bd)) (i + 1, s, p, o, g, q, n, bd) ⟨by first | omega | (simp only []; omega), hi2, hi3, hi4, hi5, hi6, by simp only; omega, by simp only; omega, hi9⟩ (by simp only; omega) (Sub.cons rfl (Sub.cons rfl (Sub.cons rfl (Sub.cons rfl (Sub.cons rfl (Sub.cons rfl (Sub.cons rfl (Sub.nil _)))))))) (fun w hw => Keep.mem hw)
          · try simp only [Bool.and_eq_true, Bool.or_eq_true, Bool.and_eq_false_iff, Bool.or_eq_false_iff, Bool.not_eq_true', Bool.not_eq_false', decide_eq_true_eq, decide_eq_false_iff_not, Bool.not_eq_true, Bool.not_eq_false] at h4
            have he : jputE z.xs = 0 := by simpa using h4
            have hfr : jaddV (framesJ p) z.xs = framesJ (p ++ [z.xs]) := jadd_frames he
            have hfl := framesJ_max (p := p) (l := z.xs)
            have hmem : ∀ x ∈ p ++ [z.xs], jputE x = 0 := fun x hx => by rcases List.mem_append.1 hx with h | h; (exact hi2 x h); (rw [show x = z.xs by simpa using h]; exact he)
            have hsn := playF_snoc (p := p) (t := ts) (g := z.xs)
            rw [hi3, hi4] at hsn
            refine cw_skip ?_
            refine ex_then ?_
            refine cw_seq ?_
            refine cw_region ?_
            refine sq_r (ry_move rfl) ?_
            refine sq_r (ry_assign rfl) ?_
            refine sq_nil ?_
            refine ex_then ?_
            refine cw_seq ?_
            refine cw_region ?_
            refine sq_r (ry_move rfl) ?_
            refine sq_r (ry_move rfl) ?_
            refine sq_r (ry_move rfl) ?_
            refine sq_r (ry_idxH rfl rfl i rfl (by omega)) ?_
            refine sq_r (ry_elemcH (j := 0) rfl i hz rfl (by decide)) ?_
            have mb62 : Mb z _ := ⟨List.mem_of_getElem? hz⟩
            refine sq_callC rfl (by omega) fun x63 hp63 => ?_
            refine sq_r (ry_move rfl) ?_
            refine sq_r (ry_extract (v := x63.val) rfl rfl) ?_
            refine sq_r (ry_extract (v := .int .i64 (appE q z.xs)) rfl rfl) ?_
            refine sq_r (ry_assign rfl) ?_
            refine sq_r (ry_assign rfl) ?_
            refine sq_nil ?_
            refine ex_then ?_
            refine cw_seq ?_
            refine cw_region ?_
            refine sq_r (ry_move rfl) ?_
            refine sq_r (ry_move rfl) ?_
            refine sq_gf rfl rfl rfl (fun hg => (Ry.yl (ry_move rfl))) ?_
            refine sq_gf rfl rfl rfl (fun hg => (Ry.yl (ry_int (ev_c hg rfl) rfl rfl))) ?_
            refine sq_r (ry_or rfl rfl rfl) ?_
            refine sq_r (ry_assign rfl) ?_
            refine sq_nil ?_
            refine ex_then ?_
            refine cw_seq ?_
            refine cw_region ?_
            refine sq_r (ry_move rfl) ?_
            refine sq_r (ry_not rfl) ?_
            refine sq_nil ?_
            refine ex_then ?_
            refine cw_cond rfl (fun h5 => ?_) (fun h5 => ?_)
            · try simp only [Bool.and_eq_true, Bool.or_eq_true, Bool.and_eq_false_iff, Bool.or_eq_false_iff, Bool.not_eq_true', Bool.not_eq_false', decide_eq_true_eq, decide_eq_false_iff_not, Bool.not_eq_true, Bool.not_eq_false] at h5
              have hb0 : (playF ts p).2.2 = 0 := by have := h5.1; rw [hi5] at this; simpa using this
              have hap : appE q z.xs = 0 := by simpa using h5.2
              rw [if_pos hb0, if_pos hap] at hsn
              refine cw_seq ?_
              refine cw_region ?_
              refine sq_r (ry_move rfl) ?_
              refine sq_r (ry_assign rfl) ?_
              refine sq_nil ?_
              refine ex_then ?_
              refine cw_region ?_
              refine sq_r (ry_move rfl) ?_
              refine sq_r (ry_add rfl rfl (by omega)) ?_
              refine sq_r (ry_assign rfl) ?_
              refine sq_nil ?_
              refine ex_block ?_
              refine ex_then ?_
              refine cw_region ?_
              refine sq_r (ry_move rfl) ?_
              refine sq_r (ry_add rfl rfl (by omega)) ?_
              refine sq_r (ry_assign rfl) ?_
              refine sq_nil ?_
              exact ex_again (x := (i, s, p, o, g, q, n, bd)) (i + 1, x51, p ++ [z.xs], x63, false, appL q z.xs, n + 1, false) ⟨by first | omega | (simp only []; omega), hmem, by rw [hsn], by rw [hsn], by rw [hsn]; rfl, appL_right hi6 _, by simp only; omega, by simp only; omega, fun h => by cases h⟩ (by simp only; omega) (Sub.cons rfl (Sub.cons rfl (Sub.cons rfl (Sub.cons rfl (Sub.cons (look_eq rfl (by rw [h5.1, hap]; rfl)) (Sub.cons rfl (Sub.cons rfl (Sub.nil _)))))))) (fun w hw => by rw [hfr] at hw; exact Keep.mem (Mem.selF hw))
            · try simp only [Bool.and_eq_true, Bool.or_eq_true, Bool.and_eq_false_iff, Bool.or_eq_false_iff, Bool.not_eq_true', Bool.not_eq_false', decide_eq_true_eq, decide_eq_false_iff_not, Bool.not_eq_true, Bool.not_eq_false] at h5
              have hbad : (playF ts (p ++ [z.xs])).1 = q ∧ (playF ts (p ++ [z.xs])).2.1 = n ∧ (playF ts (p ++ [z.xs])).2.2 ≠ 0 := by
                by_cases hb0 : (playF ts p).2.2 = 0
                · have hap : appE q z.xs ≠ 0 := by
                    rcases h5 with h | h
                    · rw [hi5, decide_eq_true_iff] at h; exact absurd hb0 h
                    · exact h
                  rw [if_pos hb0, if_neg hap] at hsn
                  rw [hsn]; exact ⟨rfl, rfl, hap⟩
                · rw [if_neg hb0] at hsn; rw [hsn]; exact ⟨hi3, hi4, hb0⟩
              refine cw_skip ?_
              refine ex_block ?_
              refine ex_then ?_
              refine cw_region ?_
              refine sq_r (ry_move rfl) ?_
              refine sq_r (ry_add rfl rfl (by omega)) ?_
              refine sq_r (ry_assign rfl) ?_
              refine sq_nil ?_
              exact ex_again (x := (i, s, p, o, g, q, n, bd)) (i + 1, x51, p ++ [z.xs], o, g, q, n, true) ⟨by first | omega | (simp only []; omega), hmem, hbad.1, hbad.2.1, by simp [hbad.2.2], hi6, by simp only; omega, by simp only; omega, hi9⟩ (by simp only; omega) (Sub.cons rfl (Sub.cons rfl (Sub.cons rfl (Sub.cons rfl (Sub.cons (look_eq rfl (by rcases h5 with h | h; (rw [h]; rfl); (cases bd <;> simp [h]))) (Sub.cons rfl (Sub.cons rfl (Sub.nil _)))))))) (fun w hw => by rw [hfr] at hw; exact Keep.mem hw)
      · try simp only [Bool.and_eq_true, Bool.or_eq_true, Bool.and_eq_false_iff, Bool.or_eq_false_iff, Bool.not_eq_true', Bool.not_eq_false', decide_eq_true_eq, decide_eq_false_iff_not, Bool.not_eq_true, Bool.not_eq_false] at h2
        refine cw_exit ?_
        refine ex_pass_exit ?_
        refine ex_pass_exit ?_
        refine ex_block_hit ?_
        refine ex_then ?_
        refine cw_seq ?_
        refine cw_region ?_
        refine sq_r (ry_move rfl) ?_
        refine sq_r (ry_move rfl) ?_
        refine sq_callC rfl ⟨by omega, by omega⟩ fun x79 hp79 => ?_
        have haf : playV ts (framesJ p) = playF ts p := by rw [playV, if_pos hr, all_frames hi2]
        have hpl := play_len (t := ts) (j := framesJ p) (n := 1000) (by omega) (by decide)
        refine sq_r (ry_move rfl) ?_
        refine sq_r (ry_extract (v := x79.val) rfl rfl) ?_
        refine sq_r (ry_extract (v := .int .i64 (((playV ts (framesJ p)).2.1) : Nat)) rfl rfl) ?_
        refine sq_r (ry_extract (v := .int .i64 ((playV ts (framesJ p)).2.2)) rfl rfl) ?_
        refine sq_r (ry_assign rfl) ?_
        refine sq_r (ry_assign rfl) ?_
        refine sq_r (ry_assign rfl) ?_
        refine sq_nil ?_
        refine ex_then ?_
        refine cw_seq ?_
        refine cw_region ?_
        refine sq_r (ry_move rfl) ?_
        refine sq_r (ry_move rfl) ?_
        refine sq_y (yl_callC rfl (by omega)) ?_
        refine sq_r (ry_move rfl) ?_
        refine sq_gt rfl rfl rfl (fun hg => (Ry.yl (ry_move rfl))) ?_
        refine sq_gt rfl rfl rfl (fun hg => (Ry.yl (ry_move rfl))) ?_
        refine sq_gt rfl rfl rfl (fun hg => (Ry.yl (ry_int (ev_c hg rfl) (ev_c hg rfl) rfl))) ?_
        refine sq_r (ry_and rfl rfl rfl) ?_
        refine sq_r (ry_move rfl) ?_
        refine sq_gt rfl rfl rfl (fun hg => (Ry.yl (ry_move rfl))) ?_
        refine sq_gt rfl rfl rfl (fun hg => (Ry.yl (ry_int (ev_c hg rfl) rfl rfl))) ?_
        refine sq_gt rfl rfl rfl (fun hg => (Ry.yl (ry_move rfl))) ?_
        refine sq_gt rfl rfl rfl (fun hg => (Ry.yl (ry_not (ev_c hg rfl)))) ?_
        refine sq_gt rfl rfl rfl (fun hg => (Ry.yl (ry_eqb (ev_c hg rfl) (ev_c hg rfl) Try.underlying4))) ?_
        refine sq_r (ry_and rfl rfl rfl) ?_
        refine sq_r (ry_assign rfl) ?_
        refine sq_nil ?_
        refine ex_then ?_
        refine cw_ret ?_
        refine ex_ret (.inl rfl) (res_1 rfl (rv_tmp rfl)) (fun w1 hw => ?_)
        exact ⟨congrArg (fun b => Ending.returned (Value.bool b)) ((by rw [haf]; simp only [hi3, hi4, hi5]; cases h : decide ((playF ts p).2.2 = 0) <;> simp_all)), Keep.mem hw⟩

end Go.Proofs.Ytajhlgdapiihgaa

