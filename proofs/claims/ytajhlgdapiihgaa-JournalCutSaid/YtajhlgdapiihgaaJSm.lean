/- The law JournalCut: walked. -/
import Derived.Test.YtajhlgdapiihgaaMn

set_option linter.unusedSimpArgs false
set_option linter.unusedVariables false
namespace Go.Proofs.Ytajhlgdapiihgaa
open Go.Eng Go.Kb
set_option maxHeartbeats 800000 in
set_option maxRecDepth 20000 in
theorem journalCut_c (w : World) (l : Sl (Sl Ch)) (c : UInt16) (e : UInt16) (hl : Deep.good (hp w) l) : Calls Try.prog 13 #[l.sv.val, .int .u16 (c.toNat : Nat), .int .u16 (e.toNat : Nat)] w fun e w' => e = .returned (.bool true) ∧ Mem w [] w' := by
  have ghl : GvD w l := ⟨hl⟩
  have hcl := c.toNat_lt
  have hel0 := e.toNat_lt
  refine calls_of (args := [_, _, _]) Try.func13 rfl Try.ntmps13 rfl ?_
  change Cw _ _ _ _ _ [(0, l.sv.val), (1, .int .u16 (c.toNat : Nat)), (2, .int .u16 (e.toNat : Nat))] []
  refine cw_seq ?_
  refine cw_region ?_
  refine sq_r (ry_assign rfl) ?_
  refine sq_nil ?_
  refine ex_then ?_
  refine cw_seq ?_
  refine cw_seq ?_
  refine cw_region ?_
  refine sq_y (yl_callC rfl trivial) ?_
  refine sq_r (ry_not rfl) ?_
  refine sq_nil ?_
  refine ex_then ?_
  refine cw_cond rfl (fun h0 => ?_) (fun h0 => ?_)
  · exfalso; simp at h0
  · try simp only [Bool.and_eq_true, Bool.or_eq_true, Bool.and_eq_false_iff, Bool.or_eq_false_iff, Bool.not_eq_true', Bool.not_eq_false', decide_eq_true_eq, decide_eq_false_iff_not, Bool.not_eq_true, Bool.not_eq_false] at h0
    refine cw_skip ?_
    refine ex_then ?_
    refine cw_seq ?_
    refine cw_seq ?_
    refine cw_region ?_
    refine sq_r (ry_move rfl) ?_
    refine sq_r (ry_lenH rfl) ?_
    refine sq_r (ry_int rfl rfl rfl) ?_
    refine sq_nil ?_
    refine ex_then ?_
    refine cw_cond rfl (fun h1 => ?_) (fun h1 => ?_)
    · try simp only [Bool.and_eq_true, Bool.or_eq_true, Bool.and_eq_false_iff, Bool.or_eq_false_iff, Bool.not_eq_true', Bool.not_eq_false', decide_eq_true_eq, decide_eq_false_iff_not, Bool.not_eq_true, Bool.not_eq_false] at h1
      refine cw_seq ?_
      refine cw_region ?_
      refine sq_r (ry_assign rfl) ?_
      refine sq_nil ?_
      refine ex_then ?_
      refine cw_ret ?_
      refine ex_pass_ret ?_
      refine ex_ret (.inl rfl) (res_1 rfl (rv_tmp rfl)) (fun w1 hw => ?_)
      exact ⟨congrArg (fun b => Ending.returned (Value.bool b)) (rfl), Keep.mem hw⟩
    · try simp only [Bool.and_eq_true, Bool.or_eq_true, Bool.and_eq_false_iff, Bool.or_eq_false_iff, Bool.not_eq_true', Bool.not_eq_false', decide_eq_true_eq, decide_eq_false_iff_not, Bool.not_eq_true, Bool.not_eq_false] at h1
      have hll : l.xs.length ≤ 12 := by omega
      refine cw_skip ?_
      refine ex_then ?_
      refine cw_seq ?_
      refine cw_region ?_
      refine sq_r (ry_assign rfl) ?_
      refine sq_nil ?_
      refine ex_then ?_
      refine cw_seq ?_
      refine cw_region ?_
      refine sq_r (ry_assign rfl) ?_
      refine sq_nil ?_
      refine ex_then ?_
      refine cw_seq ?_
      refine cw_region ?_
      refine sq_r (ry_assign rfl) ?_
      refine sq_nil ?_
      refine ex_then ?_
      refine cw_seq ?_
      refine cw_seq ?_
      refine cw_region ?_
      refine sq_r (ry_assign rfl) ?_
      refine sq_nil ?_
      refine ex_then ?_
      refine cw_block ?_
      refine cw_loop (X := Nat × Sv × Sv × Sv × List (Sl Ch)) (fun zz => [(10, .int .i64 (zz.1 : Nat)), (7, zz.2.1.val), (8, zz.2.2.1.val), (9, zz.2.2.2.1.val), (0, l.sv.val), (1, .int .u16 (c.toNat : Nat)), (2, .int .u16 (e.toNat : Nat))]) (fun zz => [own benc 1 zz.2.1 (framesJ (lz zz.2.2.2.2)), own iec 1 zz.2.2.1 (endsJ (lz zz.2.2.2.2)), own (scells (τ := Ch)) 1 zz.2.2.2.1 zz.2.2.2.2]) (fun zz => zz.1 ≤ l.xs.length ∧ (∀ x ∈ lz zz.2.2.2.2, jputE x = 0) ∧ (∀ x ∈ zz.2.2.2.2, x ∈ l.xs) ∧ (framesJ (lz zz.2.2.2.2)).length ≤ 4208 * zz.1 ∧ zz.2.2.2.2.length ≤ zz.1) (fun zz => l.xs.length - zz.1) (0, Sv.none, Sv.none, Sv.none, []) ⟨Nat.zero_le _, fun _ h => (List.not_mem_nil h).elim, fun _ h => (List.not_mem_nil h).elim, by simp [framesJ, lz], Nat.le_refl _⟩ (Sub.cons rfl (Sub.cons rfl (Sub.cons rfl (Sub.cons rfl (Sub.cons rfl (Sub.cons rfl (Sub.cons rfl (Sub.nil _)))))))) (fun w hw => Mem.nilOwn benc 1 (Mem.nilOwn iec 1 (Mem.nilOwn (scells (τ := Ch)) 1 (Keep.mem hw)))) ?_
      rintro ⟨i, s, v, u, zs⟩ ⟨hi1, hi2, hi3, hi4, hi5⟩
      dsimp only
      simp only at hi1 hi2 hi3 hi4 hi5
      have wi : Within zs l := ⟨hi3⟩
      have hel := endsJ_length (lz zs)
      have hlz := lz_length zs
      refine cw_seq ?_
      refine cw_seq ?_
      refine cw_region ?_
      refine sq_r (ry_move rfl) ?_
      refine sq_r (ry_move rfl) ?_
      refine sq_r (ry_lenH rfl) ?_
      refine sq_r (ry_int rfl rfl rfl) ?_
      refine sq_nil ?_
      refine ex_then ?_
      refine cw_cond rfl (fun h2 => ?_) (fun h2 => ?_)
      · try simp only [Bool.and_eq_true, Bool.or_eq_true, Bool.and_eq_false_iff, Bool.or_eq_false_iff, Bool.not_eq_true', Bool.not_eq_false', decide_eq_true_eq, decide_eq_false_iff_not, Bool.not_eq_true, Bool.not_eq_false] at h2
        obtain ⟨z, hz⟩ := get_some (xs := l.xs) (i := i) (by omega)
        have mbz : Mb z _ := ⟨List.mem_of_getElem? hz⟩
        refine cw_skip ?_
        refine ex_then ?_
        refine cw_seq ?_
        refine cw_block ?_
        refine cw_seq ?_
        refine cw_seq ?_
        refine cw_region ?_
        refine sq_r (ry_move rfl) ?_
        refine sq_r (ry_move rfl) ?_
        refine sq_r (ry_idxH rfl rfl i rfl (by omega)) ?_
        refine sq_r (ry_elemcH (j := 0) rfl i hz rfl (by decide)) ?_
        have mb37 : Mb z _ := ⟨List.mem_of_getElem? hz⟩
        refine sq_r (ry_lenH rfl) ?_
        refine sq_r (ry_int rfl rfl rfl) ?_
        refine sq_nil ?_
        refine ex_then ?_
        refine cw_cond rfl (fun h3 => ?_) (fun h3 => ?_)
        · try simp only [Bool.and_eq_true, Bool.or_eq_true, Bool.and_eq_false_iff, Bool.or_eq_false_iff, Bool.not_eq_true', Bool.not_eq_false', decide_eq_true_eq, decide_eq_false_iff_not, Bool.not_eq_true, Bool.not_eq_false] at h3
          refine cw_seq ?_
          refine cw_region ?_
          refine sq_r (ry_assign rfl) ?_
          refine sq_nil ?_
          refine ex_then ?_
          refine cw_ret ?_
          refine ex_pass_ret ?_
          refine ex_block_ret ?_
          refine ex_pass_ret ?_
          refine ex_pass_ret ?_
          refine ex_block_ret ?_
          refine ex_pass_ret ?_
          refine ex_ret (.inl rfl) (res_1 rfl (rv_tmp rfl)) (fun w1 hw => ?_)
          exact ⟨congrArg (fun b => Ending.returned (Value.bool b)) (rfl), Keep.mem hw⟩
        · try simp only [Bool.and_eq_true, Bool.or_eq_true, Bool.and_eq_false_iff, Bool.or_eq_false_iff, Bool.not_eq_true', Bool.not_eq_false', decide_eq_true_eq, decide_eq_false_iff_not, Bool.not_eq_true, Bool.not_eq_false] at h3
          refine cw_skip ?_
          refine ex_then ?_
          refine cw_seq ?_
          refine cw_region ?_
          refine sq_r (ry_move rfl) ?_
          refine sq_r (ry_move rfl) ?_
          refine sq_r (ry_move rfl) ?_
          refine sq_r (ry_idxH rfl rfl i rfl (by omega)) ?_
          refine sq_r (ry_elemcH (j := 0) rfl i hz rfl (by decide)) ?_
          have mb45 : Mb z _ := ⟨List.mem_of_getElem? hz⟩
          refine sq_callC rfl (by omega) fun x46 hp46 => ?_
          refine sq_r (ry_move rfl) ?_
          refine sq_r (ry_extract (v := x46.val) rfl rfl) ?_
          refine sq_r (ry_extract (v := .int .i64 (jputE z.xs)) rfl rfl) ?_
          refine sq_r (ry_assign rfl) ?_
          refine sq_r (ry_assign rfl) ?_
          refine sq_nil ?_
          refine ex_then ?_
          refine cw_seq ?_
          refine cw_seq ?_
          refine cw_region ?_
          refine sq_r (ry_move rfl) ?_
          refine sq_r (ry_int rfl rfl rfl) ?_
          refine sq_nil ?_
          refine ex_then ?_
          refine cw_cond rfl (fun h4 => ?_) (fun h4 => ?_)
          · try simp only [Bool.and_eq_true, Bool.or_eq_true, Bool.and_eq_false_iff, Bool.or_eq_false_iff, Bool.not_eq_true', Bool.not_eq_false', decide_eq_true_eq, decide_eq_false_iff_not, Bool.not_eq_true, Bool.not_eq_false] at h4
            have he : jputE z.xs = 0 := h4
            have hfr : jaddV (framesJ (lz zs)) z.xs = framesJ (lz zs ++ [z.xs]) := jadd_frames he
            have hfl := framesJ_max (p := lz zs) (l := z.xs)
            have hmem : ∀ x ∈ lz zs ++ [z.xs], jputE x = 0 := fun x hx => by rcases List.mem_append.1 hx with h | h; (exact hi2 x h); (rw [show x = z.xs by simpa using h]; exact he)
            have hmem2 : ∀ x ∈ zs ++ [z], x ∈ l.xs := fun x hx => by rcases List.mem_append.1 hx with h | h; (exact hi3 x h); (rw [show x = z by simpa using h]; exact List.mem_of_getElem? hz)
            refine cw_seq ?_
            refine cw_region ?_
            refine sq_r (ry_move rfl) ?_
            refine sq_r (ry_move rfl) ?_
            refine sq_r (ry_move rfl) ?_
            refine sq_r (ry_idxH rfl rfl i rfl (by omega)) ?_
            refine sq_r (ry_elemcH (j := 0) rfl i hz rfl (by decide)) ?_
            have mb55 : Mb z _ := ⟨List.mem_of_getElem? hz⟩
            refine sq_buildSlice (enc := scells) (vals := [z.sv.val]) [z] rfl (by simp only [List.map_cons, List.map_nil, Sv.cells_val]; rfl) rfl (by decide) (by decide) fun b56 => ?_
            refine sq_append (s := u) (enc := (scells (τ := Ch))) (ys := [z]) rfl rfl (by decide) (fun w hw => src_rows (s := (⟨false, b56, 0, 1, 1, none⟩ : Sv)) Try.underlying95 (by decide) ((inferInstance : HdE _ _ (scells (τ := Ch)) 1 (⟨false, b56, 0, 1, 1, none⟩ : Sv) [z]).h w hw)) (by simp only [List.length_cons, List.length_nil]; omega) (by simp only [List.length_cons, List.length_nil]; omega) fun s57 hs57 hl57 => ?_
            refine sq_r (ry_assign rfl) ?_
            refine sq_nil ?_
            refine ex_then ?_
            refine cw_region ?_
            refine sq_r (ry_move rfl) ?_
            refine sq_r (ry_move rfl) ?_
            refine sq_r (ry_lenH rfl) ?_
            refine sq_buildSlice (enc := iec) (vals := [_]) [((jaddV (framesJ (lz zs)) z.xs).length : Int)] rfl rfl rfl (by decide) (by decide) fun b61 => ?_
            refine sq_append (s := v) (ys := [((jaddV (framesJ (lz zs)) z.xs).length : Int)]) rfl rfl (by decide) (fun w hw => src_rows (s := ⟨false, b61, 0, 1, 1, none⟩) Try.underlying104 (by decide) ((inferInstance : Hd _ _ ⟨false, b61, 0, 1, 1, none⟩ iec 1 [((jaddV (framesJ (lz zs)) z.xs).length : Int)]).h w hw)) (by simp only [List.length_append, List.length_cons, List.length_nil]; omega) (by simp only [List.length_append, List.length_cons, List.length_nil]; omega) fun s62 hs62 hl62 => ?_
            refine sq_r (ry_assign rfl) ?_
            refine sq_nil ?_
            refine ex_then ?_
            refine cw_region ?_
            refine sq_r (ry_move rfl) ?_
            refine sq_r (ry_assign rfl) ?_
            refine sq_nil ?_
            refine ex_block ?_
            refine ex_then ?_
            refine cw_region ?_
            refine sq_r (ry_move rfl) ?_
            refine sq_r (ry_add rfl rfl (by omega)) ?_
            refine sq_r (ry_assign rfl) ?_
            refine sq_nil ?_
            exact ex_again (x := (i, s, v, u, zs)) (i + 1, x46, s62, s57, zs ++ [z]) ⟨by first | omega | (simp only []; omega), by rw [lz_snoc]; exact hmem, hmem2, by rw [lz_snoc]; simp only; omega, by simp only [List.length_append, List.length_singleton]; omega⟩ (by simp only; omega) (Sub.cons rfl (Sub.cons rfl (Sub.cons rfl (Sub.cons rfl (Sub.cons rfl (Sub.cons rfl (Sub.cons rfl (Sub.nil _)))))))) (fun w hw => by rw [hfr] at hw; rw [lz_snoc, ← endsJ_snoc]; exact Keep.mem hw)
          · try simp only [Bool.and_eq_true, Bool.or_eq_true, Bool.and_eq_false_iff, Bool.or_eq_false_iff, Bool.not_eq_true', Bool.not_eq_false', decide_eq_true_eq, decide_eq_false_iff_not, Bool.not_eq_true, Bool.not_eq_false] at h4
            have he : jputE z.xs ≠ 0 := h4
            refine cw_seq ?_
            refine cw_region ?_
            refine sq_r (ry_move rfl) ?_
            refine sq_r (ry_bstrH Try.underlying83 Try.underlying5 Try.underlying9 rfl) ?_
            refine sq_r (ry_move rfl) ?_
            refine sq_r (ry_bstrH Try.underlying83 Try.underlying5 Try.underlying9 rfl) ?_
            refine sq_r (ry_strneL rfl rfl) ?_
            refine sq_nil ?_
            refine ex_then ?_
            refine cw_cond rfl (fun h5 => ?_) (fun h5 => ?_)
            · exfalso; simp [jadd_no he] at h5
            · try simp only [Bool.and_eq_true, Bool.or_eq_true, Bool.and_eq_false_iff, Bool.or_eq_false_iff, Bool.not_eq_true', Bool.not_eq_false', decide_eq_true_eq, decide_eq_false_iff_not, Bool.not_eq_true, Bool.not_eq_false] at h5
              refine cw_skip ?_
              refine ex_then ?_
              refine cw_region ?_
              refine sq_r (ry_move rfl) ?_
              refine sq_r (ry_assign rfl) ?_
              refine sq_nil ?_
              refine ex_block ?_
              refine ex_then ?_
              refine cw_region ?_
              refine sq_r (ry_move rfl) ?_
              refine sq_r (ry_add rfl rfl (by omega)) ?_
              refine sq_r (ry_assign rfl) ?_
              refine sq_nil ?_
              exact ex_again (x := (i, s, v, u, zs)) (i + 1, x46, v, u, zs) ⟨by first | omega | (simp only []; omega), hi2, hi3, by simp only; omega, by simp only; omega⟩ (by simp only; omega) (Sub.cons rfl (Sub.cons rfl (Sub.cons rfl (Sub.cons rfl (Sub.cons rfl (Sub.cons rfl (Sub.cons rfl (Sub.nil _)))))))) (fun w hw => by rw [jadd_no he] at hw; exact Keep.mem hw)
      · try simp only [Bool.and_eq_true, Bool.or_eq_true, Bool.and_eq_false_iff, Bool.or_eq_false_iff, Bool.not_eq_true', Bool.not_eq_false', decide_eq_true_eq, decide_eq_false_iff_not, Bool.not_eq_true, Bool.not_eq_false] at h2
        have hFl : (framesJ (lz zs)).length ≤ 50496 := by omega
        have hat : (c.toNat % ((framesJ (lz zs)).length + 1)) ≤ (framesJ (lz zs)).length := by have := Nat.mod_lt c.toNat (show 0 < (framesJ (lz zs)).length + 1 by omega); omega
        refine cw_exit ?_
        refine ex_pass_exit ?_
        refine ex_pass_exit ?_
        refine ex_block_hit ?_
        refine ex_then ?_
        refine cw_seq ?_
        refine cw_region ?_
        refine sq_r (ry_move rfl) ?_
        refine sq_r (ry_conv_u16 rfl) ?_
        refine sq_r (ry_move rfl) ?_
        refine sq_r (ry_lenH rfl) ?_
        refine sq_r (ry_add rfl rfl (by omega)) ?_
        refine sq_r (ry_remn (p := c.toNat) (q := ((framesJ (lz zs)).length + 1)) rfl rfl rfl rfl (by omega)) ?_
        refine sq_r (ry_assign rfl) ?_
        refine sq_nil ?_
        refine ex_then ?_
        refine cw_seq ?_
        refine cw_region ?_
        refine sq_r (ry_assign rfl) ?_
        refine sq_nil ?_
        refine ex_then ?_
        refine cw_seq ?_
        refine cw_seq ?_
        refine cw_region ?_
        refine sq_r (ry_assign rfl) ?_
        refine sq_nil ?_
        refine ex_then ?_
        refine cw_block ?_
        refine cw_loop (X := Nat × Nat) (fun zz => [(15, .int .i64 (zz.1 : Nat)), (14, .int .i64 (zz.2 : Nat)), (2, .int .u16 (e.toNat : Nat)), (7, s.val), (8, v.val), (9, u.val), (13, .int .i64 ((c.toNat % ((framesJ (lz zs)).length + 1)) : Nat))]) (fun zz => [own benc 1 s (framesJ (lz zs)), own iec 1 v (endsJ (lz zs)), own (scells (τ := Ch)) 1 u zs]) (fun zz => zz.1 ≤ zs.length ∧ zz.2 ≤ zz.1 ∧ (framesJ ((lz zs).take zz.2)).length ≤ (c.toNat % ((framesJ (lz zs)).length + 1)) ∧ ∀ j, zz.2 ≤ j → j < zz.1 → (c.toNat % ((framesJ (lz zs)).length + 1)) < (framesJ ((lz zs).take (j + 1))).length) (fun zz => zs.length - zz.1) (0, 0) ⟨Nat.zero_le _, Nat.le_refl _, by simp [framesJ], fun j _ h => by simp at h⟩ (Sub.cons rfl (Sub.cons rfl (Sub.cons rfl (Sub.cons rfl (Sub.cons rfl (Sub.cons rfl (Sub.cons rfl (Sub.nil _)))))))) (fun w hw => Keep.mem hw) ?_
        rintro ⟨k, wh⟩ ⟨hj1, hj2, hj3, hj4⟩
        dsimp only
        simp only at hj1 hj2 hj3 hj4
        refine cw_seq ?_
        refine cw_seq ?_
        refine cw_region ?_
        refine sq_r (ry_move rfl) ?_
        refine sq_r (ry_move rfl) ?_
        refine sq_r (ry_lenH rfl) ?_
        refine sq_r (ry_int rfl rfl rfl) ?_
        refine sq_nil ?_
        refine ex_then ?_
        refine cw_cond rfl (fun h6 => ?_) (fun h6 => ?_)
        · try simp only [Bool.and_eq_true, Bool.or_eq_true, Bool.and_eq_false_iff, Bool.or_eq_false_iff, Bool.not_eq_true', Bool.not_eq_false', decide_eq_true_eq, decide_eq_false_iff_not, Bool.not_eq_true, Bool.not_eq_false] at h6
          refine cw_skip ?_
          refine ex_then ?_
          refine cw_seq ?_
          refine cw_block ?_
          refine cw_seq ?_
          refine cw_region ?_
          refine sq_r (ry_move rfl) ?_
          refine sq_r (ry_move rfl) ?_
          refine sq_r (ry_idxH rfl rfl k rfl (by omega)) ?_
          refine sq_r (ry_elemcH (j := 0) rfl k (endsJ_at (by omega)) rfl (by decide)) ?_
          refine sq_r (ry_move rfl) ?_
          refine sq_r (ry_int rfl rfl rfl) ?_
          refine sq_nil ?_
          refine ex_then ?_
          refine cw_cond rfl (fun h7 => ?_) (fun h7 => ?_)
          · try simp only [Bool.and_eq_true, Bool.or_eq_true, Bool.and_eq_false_iff, Bool.or_eq_false_iff, Bool.not_eq_true', Bool.not_eq_false', decide_eq_true_eq, decide_eq_false_iff_not, Bool.not_eq_true, Bool.not_eq_false] at h7
            refine cw_region ?_
            refine sq_r (ry_move rfl) ?_
            refine sq_r (ry_add rfl rfl (by omega)) ?_
            refine sq_r (ry_assign rfl) ?_
            refine sq_nil ?_
            refine ex_block ?_
            refine ex_then ?_
            refine cw_region ?_
            refine sq_r (ry_move rfl) ?_
            refine sq_r (ry_add rfl rfl (by omega)) ?_
            refine sq_r (ry_assign rfl) ?_
            refine sq_nil ?_
            exact ex_again (x := (k, wh)) (k + 1, k + 1) ⟨by simp only; omega, Nat.le_refl _, by simp only; omega, fun j h1 h2 => by simp only at h1 h2; omega⟩ (by simp only; omega) (Sub.cons rfl (Sub.cons rfl (Sub.cons rfl (Sub.cons rfl (Sub.cons rfl (Sub.cons rfl (Sub.cons rfl (Sub.nil _)))))))) (fun w hw => Keep.mem hw)
          · try simp only [Bool.and_eq_true, Bool.or_eq_true, Bool.and_eq_false_iff, Bool.or_eq_false_iff, Bool.not_eq_true', Bool.not_eq_false', decide_eq_true_eq, decide_eq_false_iff_not, Bool.not_eq_true, Bool.not_eq_false] at h7
            refine cw_skip ?_
            refine ex_block ?_
            refine ex_then ?_
            refine cw_region ?_
            refine sq_r (ry_move rfl) ?_
            refine sq_r (ry_add rfl rfl (by omega)) ?_
            refine sq_r (ry_assign rfl) ?_
            refine sq_nil ?_
            exact ex_again (x := (k, wh)) (k + 1, wh) ⟨by simp only; omega, by simp only; omega, hj3, fun j h1 h2 => by
              simp only at h1 h2
              by_cases hjk : j = k
              · subst hjk; omega
              · exact hj4 j h1 (by first | omega | (simp only []; omega))⟩ (by simp only; omega) (Sub.cons rfl (Sub.cons rfl (Sub.cons rfl (Sub.cons rfl (Sub.cons rfl (Sub.cons rfl (Sub.cons rfl (Sub.nil _)))))))) (fun w hw => Keep.mem hw)
        · try simp only [Bool.and_eq_true, Bool.or_eq_true, Bool.and_eq_false_iff, Bool.or_eq_false_iff, Bool.not_eq_true', Bool.not_eq_false', decide_eq_true_eq, decide_eq_false_iff_not, Bool.not_eq_true, Bool.not_eq_false] at h6
          obtain rfl : k = zs.length := by omega
          have hcut := cut_law hi2 (a := (c.toNat % ((framesJ (lz zs)).length + 1))) (wh := wh) (by omega) hj3 (fun hw => hj4 wh (Nat.le_refl _) (by omega))
          have hev : 0 < wh → (endsJ (lz zs))[wh - 1]? = some ((framesJ ((lz zs).take wh)).length : Int) := fun h0 => by have := endsJ_at (p := lz zs) (k := wh - 1) (by omega); rwa [show wh - 1 + 1 = wh by omega] at this
          refine cw_exit ?_
          refine ex_pass_exit ?_
          refine ex_pass_exit ?_
          refine ex_block_hit ?_
          refine ex_then ?_
          refine cw_seq ?_
          refine cw_region ?_
          refine sq_r (ry_move rfl) ?_
          refine sq_r (ry_move rfl) ?_
          have rg92 : Rg 0 (c.toNat % ((framesJ (lz zs)).length + 1)) (framesJ (lz zs)).length := ⟨by omega⟩
          refine sq_r (ry_subH_hi rfl rfl (c.toNat % ((framesJ (lz zs)).length + 1)) rfl rg92.h.2) ?_
          refine sq_callC rfl (by simp only [List.length_take, List.length_drop]; omega) fun x93 hp93 => ?_
          have ec : allJ (((framesJ (lz zs)).drop 0).take ((c.toNat % ((framesJ (lz zs)).length + 1)) - 0)) = ((lz zs).take wh, (framesJ ((lz zs).take wh)).length) := by rw [List.drop_zero, Nat.sub_zero]; exact hcut
          refine sq_r (ry_move rfl) ?_
          refine sq_r (ry_extract (v := x93.sv.val) rfl rfl) ?_
          refine sq_r (ry_extract (v := .int .i64 (((allJ (((framesJ (lz zs)).drop 0).take ((c.toNat % ((framesJ (lz zs)).length + 1)) - 0))).2) : Nat)) rfl rfl) ?_
          refine sq_r (ry_assign rfl) ?_
          refine sq_r (ry_assign rfl) ?_
          refine sq_nil ?_
          refine ex_then ?_
          refine cw_seq ?_
          refine cw_seq ?_
          obtain ⟨a99, h99⟩ : ∃ a : Sl (Sl Ch), a = ⟨u.sub 1 0 wh, (zs.drop 0).take (wh - 0)⟩ := ⟨_, rfl⟩
          have rgx99 : Rg 0 wh zs.length := ⟨by omega⟩
          have n99 : NamedD a99 (u.sub 1 0 wh) ((zs.drop 0).take (wh - 0)) := ⟨h99⟩
          have la99 : lc a99 = (lz zs).take wh := by rw [h99]; exact lz_take zs wh
          have e99 : lc x93 = lc a99 := by rw [hp93, la99, ec]
          refine cw_region ?_
          refine sq_r (ry_move rfl) ?_
          refine sq_r (ry_move rfl) ?_
          refine sq_r (ry_move rfl) ?_
          have rg99 : Rg 0 wh zs.length := ⟨by omega⟩
          refine sq_r (Ry.to (v' := a99.sv.val) (ry_subH_hi rfl rfl wh rfl (by omega)) (by rw [h99])) ?_
          refine sq_y (yl_callC rfl trivial) ?_
          refine sq_r (ry_not rfl) ?_
          refine sq_r (ry_move rfl) ?_
          refine sq_gf rfl rfl rfl (fun hg => (Ry.yl (ry_move rfl))) ?_
          refine sq_gf rfl rfl rfl (fun hg => (Ry.yl (ry_int (ev_c hg rfl) rfl rfl))) ?_
          refine sq_gf rfl rfl rfl (fun hg => (Ry.yl (ry_move (ev_c hg rfl)))) ?_
          refine sq_nt rfl rfl rfl (fun hg => (Ry.yl (ry_move rfl))) ?_
          refine sq_nt rfl rfl rfl (fun hg => (Ry.yl (ry_move rfl))) ?_
          refine sq_nt rfl rfl rfl (fun hg => (Ry.yl (ry_move rfl))) ?_
          refine sq_nt rfl rfl rfl (fun hg => (Ry.yl (ry_sub (ev_c hg rfl) rfl (by simp only [Bool.and_eq_true, Bool.or_eq_true, Bool.and_eq_false_iff, Bool.or_eq_false_iff, Bool.not_eq_true', Bool.not_eq_false', decide_eq_true_eq, decide_eq_false_iff_not, Bool.not_eq_true, Bool.not_eq_false] at hg; omega)))) ?_
          refine sq_nt rfl rfl rfl (fun hg => (Ry.yl (ry_idxH (ev_c hg rfl) (ev_c hg rfl) (wh - 1) (by simp only [Bool.and_eq_true, Bool.or_eq_true, Bool.and_eq_false_iff, Bool.or_eq_false_iff, Bool.not_eq_true', Bool.not_eq_false', decide_eq_true_eq, decide_eq_false_iff_not, Bool.not_eq_true, Bool.not_eq_false] at hg; omega) (by simp only [Bool.and_eq_true, Bool.or_eq_true, Bool.and_eq_false_iff, Bool.or_eq_false_iff, Bool.not_eq_true', Bool.not_eq_false', decide_eq_true_eq, decide_eq_false_iff_not, Bool.not_eq_true, Bool.not_eq_false] at hg; omega)))) ?_
          refine sq_nt rfl rfl rfl (fun hg => (Ry.yl (ry_elemcH (j := 0) (ev_c hg rfl) (wh - 1) (hev (by simp only [Bool.and_eq_true, Bool.or_eq_true, Bool.and_eq_false_iff, Bool.or_eq_false_iff, Bool.not_eq_true', Bool.not_eq_false', decide_eq_true_eq, decide_eq_false_iff_not, Bool.not_eq_true, Bool.not_eq_false] at hg; omega)) rfl (by decide)))) ?_
          refine sq_nt rfl rfl rfl (fun hg => (Ry.yl (ry_int (ev_c hg rfl) (ev_c hg rfl) rfl))) ?_
          refine sq_gf rfl rfl rfl (fun hg => (Ry.yl (ry_and (ev_c hg rfl) (ev_cc hg rfl) rfl))) ?_
          refine sq_r (ry_or rfl rfl rfl) ?_
          refine sq_r (ry_move rfl) ?_
          refine sq_gf rfl rfl rfl (fun hg => (Ry.yl (ry_move rfl))) ?_
          refine sq_gf rfl rfl rfl (fun hg => (Ry.yl (ry_int (ev_c hg rfl) rfl rfl))) ?_
          refine sq_gf rfl rfl rfl (fun hg => (Ry.yl (ry_move (ev_c hg rfl)))) ?_
          refine sq_nt rfl rfl rfl (fun hg => (Ry.yl (ry_move rfl))) ?_
          refine sq_nt rfl rfl rfl (fun hg => (Ry.yl (ry_int (ev_c hg rfl) rfl rfl))) ?_
          refine sq_gf rfl rfl rfl (fun hg => (Ry.yl (ry_and (ev_c hg rfl) (ev_cc hg rfl) rfl))) ?_
          refine sq_r (ry_or rfl rfl rfl) ?_
          refine sq_nil ?_
          refine ex_then ?_
          refine cw_cond rfl (fun h8 => ?_) (fun h8 => ?_)
          · exfalso
            simp only [Bool.and_eq_true, Bool.or_eq_true, Bool.and_eq_false_iff, Bool.or_eq_false_iff, Bool.not_eq_true', Bool.not_eq_false', decide_eq_true_eq, decide_eq_false_iff_not, Bool.not_eq_true, Bool.not_eq_false] at h8
            rcases h8 with (h | ⟨_, h⟩) | ⟨h0, h⟩
            · exact h e99
            · rw [ec] at h; exact h rfl
            · rw [ec] at h; obtain rfl : wh = 0 := by omega
              simp [framesJ] at h
          · try simp only [Bool.and_eq_true, Bool.or_eq_true, Bool.and_eq_false_iff, Bool.or_eq_false_iff, Bool.not_eq_true', Bool.not_eq_false', decide_eq_true_eq, decide_eq_false_iff_not, Bool.not_eq_true, Bool.not_eq_false] at h8
            refine cw_skip ?_
            refine ex_then ?_
            refine cw_seq ?_
            refine cw_seq ?_
            refine cw_region ?_
            refine sq_r (ry_move rfl) ?_
            refine sq_r (ry_lenH rfl) ?_
            refine sq_r (ry_int rfl rfl rfl) ?_
            refine sq_nil ?_
            refine ex_then ?_
            refine cw_cond rfl (fun h9 => ?_) (fun h9 => ?_)
            · try simp only [Bool.and_eq_true, Bool.or_eq_true, Bool.and_eq_false_iff, Bool.or_eq_false_iff, Bool.not_eq_true', Bool.not_eq_false', decide_eq_true_eq, decide_eq_false_iff_not, Bool.not_eq_true, Bool.not_eq_false] at h9
              refine cw_seq ?_
              refine cw_region ?_
              refine sq_r (ry_assign rfl) ?_
              refine sq_nil ?_
              refine ex_then ?_
              refine cw_ret ?_
              refine ex_pass_ret ?_
              refine ex_ret (.inl rfl) (res_1 rfl (rv_tmp rfl)) (fun w1 hw => ?_)
              exact ⟨congrArg (fun b => Ending.returned (Value.bool b)) (rfl), Keep.mem hw⟩
            · try simp only [Bool.and_eq_true, Bool.or_eq_true, Bool.and_eq_false_iff, Bool.or_eq_false_iff, Bool.not_eq_true', Bool.not_eq_false', decide_eq_true_eq, decide_eq_false_iff_not, Bool.not_eq_true, Bool.not_eq_false] at h9
              have hzl : 0 < zs.length := by
                rcases Nat.eq_zero_or_pos zs.length with h | h
                · have : zs = [] := List.length_eq_zero_iff.1 h
                  subst this; simp [lz, framesJ] at h9
                · exact h
              have hK : (e.toNat % zs.length) < zs.length := Nat.mod_lt _ hzl
              have hgK : (lz zs)[(e.toNat % zs.length)]? = some (lz zs)[(e.toNat % zs.length)] := List.getElem?_eq_getElem (by omega)
              have hFK : (framesJ ((lz zs).take ((e.toNat % zs.length) + 1))).length = (framesJ ((lz zs).take (e.toNat % zs.length))).length + (frame (lz zs)[(e.toNat % zs.length)]).length := by rw [framesJ_at hgK, List.length_append]
              have hFk6 := jput_six (hi2 _ (List.getElem_mem (show (e.toNat % zs.length) < (lz zs).length by omega)))
              have hFk7 := frame_length (lz zs)[(e.toNat % zs.length)]
              have hFk8 := framesJ_le (lz zs) ((e.toNat % zs.length) + 1)
              refine cw_skip ?_
              refine ex_then ?_
              refine cw_seq ?_
              refine cw_region ?_
              refine sq_r (ry_move rfl) ?_
              refine sq_r (ry_conv_u16 rfl) ?_
              refine sq_r (ry_move rfl) ?_
              refine sq_r (ry_lenH rfl) ?_
              refine sq_r (ry_remn (p := e.toNat) (q := zs.length) rfl rfl rfl rfl (by omega)) ?_
              refine sq_r (ry_assign rfl) ?_
              refine sq_nil ?_
              refine ex_then ?_
              refine cw_seq ?_
              refine cw_region ?_
              refine sq_r (ry_assign rfl) ?_
              refine sq_nil ?_
              refine ex_then ?_
              refine cw_cut (X := Unit) (fun zz => [(19, .int .i64 (((framesJ ((lz zs).take (e.toNat % zs.length))).length + 2) : Nat)), (2, .int .u16 (e.toNat : Nat)), (7, s.val), (8, v.val), (9, u.val), (18, .int .i64 ((e.toNat % zs.length) : Nat))]) (fun zz => [own benc 1 s (framesJ (lz zs)), own iec 1 v (endsJ (lz zs)), own (scells (τ := Ch)) 1 u zs]) (fun zz => True) ?_ ?_
              · refine cw_seq ?_
                refine cw_region ?_
                refine sq_r (ry_move rfl) ?_
                refine sq_r (ry_int rfl rfl rfl) ?_
                refine sq_nil ?_
                refine ex_then ?_
                refine cw_cond rfl (fun h10 => ?_) (fun h10 => ?_)
                · try simp only [Bool.and_eq_true, Bool.or_eq_true, Bool.and_eq_false_iff, Bool.or_eq_false_iff, Bool.not_eq_true', Bool.not_eq_false', decide_eq_true_eq, decide_eq_false_iff_not, Bool.not_eq_true, Bool.not_eq_false] at h10
                  have hek : (endsJ (lz zs))[(e.toNat % zs.length) - 1]? = some ((framesJ ((lz zs).take (e.toNat % zs.length))).length : Int) := by have := endsJ_at (p := lz zs) (k := (e.toNat % zs.length) - 1) (by omega); rwa [show (e.toNat % zs.length) - 1 + 1 = (e.toNat % zs.length) by omega] at this
                  refine cw_region ?_
                  refine sq_r (ry_move rfl) ?_
                  refine sq_r (ry_move rfl) ?_
                  refine sq_r (ry_sub rfl rfl (by omega)) ?_
                  refine sq_r (ry_idxH rfl rfl ((e.toNat % zs.length) - 1) (by omega) (by omega)) ?_
                  refine sq_r (ry_elemcH (j := 0) rfl ((e.toNat % zs.length) - 1) hek rfl (by decide)) ?_
                  refine sq_r (ry_add rfl rfl (by omega)) ?_
                  refine sq_r (ry_assign rfl) ?_
                  refine sq_nil ?_
                  exact ex_meet () trivial (Sub.cons (look_eq rfl (by rfl)) (Sub.cons rfl (Sub.cons rfl (Sub.cons rfl (Sub.cons rfl (Sub.cons rfl (Sub.nil _))))))) (fun w hw => Keep.mem hw)
                · try simp only [Bool.and_eq_true, Bool.or_eq_true, Bool.and_eq_false_iff, Bool.or_eq_false_iff, Bool.not_eq_true', Bool.not_eq_false', decide_eq_true_eq, decide_eq_false_iff_not, Bool.not_eq_true, Bool.not_eq_false] at h10
                  have hk0 : (e.toNat % zs.length) = 0 := by omega
                  refine cw_skip ?_
                  exact ex_meet () trivial (Sub.cons (look_eq rfl (by rw [hk0]; simp [framesJ])) (Sub.cons rfl (Sub.cons rfl (Sub.cons rfl (Sub.cons rfl (Sub.cons rfl (Sub.nil _))))))) (fun w hw => Keep.mem hw)
              · rintro ⟨⟩ hJ
                refine cw_seq ?_
                obtain ⟨x, hx, hx1, hx2⟩ : ∃ x : Nat, (((framesJ ((lz zs).take (e.toNat % zs.length))).length + 2 : Nat) : Int) * 8 + (e.toNat : Int) % (8 * (((framesJ ((lz zs).take ((e.toNat % zs.length) + 1))).length : Int) - (((framesJ ((lz zs).take (e.toNat % zs.length))).length + 2 : Nat) : Int))) = (x : Int) ∧ ((framesJ ((lz zs).take (e.toNat % zs.length))).length + 2) * 8 ≤ x ∧ x < 8 * (framesJ ((lz zs).take ((e.toNat % zs.length) + 1))).length := by
                  have p1 : (0 : Int) < 8 * (((framesJ ((lz zs).take ((e.toNat % zs.length) + 1))).length : Int) - (((framesJ ((lz zs).take (e.toNat % zs.length))).length + 2 : Nat) : Int)) := by omega
                  have p2 := Int.emod_nonneg (e.toNat : Int) (Int.ne_of_gt p1)
                  have p3 := Int.emod_lt_of_pos (e.toNat : Int) p1
                  refine ⟨((((framesJ ((lz zs).take (e.toNat % zs.length))).length + 2 : Nat) : Int) * 8 + (e.toNat : Int) % (8 * (((framesJ ((lz zs).take ((e.toNat % zs.length) + 1))).length : Int) - (((framesJ ((lz zs).take (e.toNat % zs.length))).length + 2 : Nat) : Int)))).toNat, by omega, by omega, by omega⟩
                obtain ⟨y, hy⟩ := get_some (xs := (framesJ (lz zs))) (i := x / 8) (by omega)
                refine cw_region ?_
                refine sq_r (ry_move rfl) ?_
                refine sq_r (ry_mul rfl rfl (by omega)) ?_
                refine sq_r (ry_move rfl) ?_
                refine sq_r (ry_conv_u16 rfl) ?_
                refine sq_r (ry_move rfl) ?_
                refine sq_r (ry_move rfl) ?_
                refine sq_r (ry_idxH rfl rfl (e.toNat % zs.length) rfl (by omega)) ?_
                refine sq_r (ry_elemcH (j := 0) rfl (e.toNat % zs.length) (endsJ_at (by omega)) rfl (by decide)) ?_
                refine sq_r (ry_move rfl) ?_
                refine sq_r (ry_sub rfl rfl (by omega)) ?_
                refine sq_r (ry_mul rfl rfl (by omega)) ?_
                refine sq_r (ry_rem rfl rfl (by omega) (by omega)) ?_
                refine sq_r (Ry.to (v' := .int .i64 ((x : Nat) : Int)) (ry_add rfl rfl (by omega)) (by rw [hx])) ?_
                refine sq_r (ry_assign rfl) ?_
                refine sq_nil ?_
                refine ex_then ?_
                refine cw_seq ?_
                refine cw_region ?_
                refine sq_r (ry_move rfl) ?_
                refine sq_r (ry_move rfl) ?_
                refine sq_r (ry_quo rfl rfl (by omega) (by omega)) ?_
                refine sq_r (ry_move rfl) ?_
                refine sq_r (ry_move rfl) ?_
                refine sq_r (ry_quo rfl rfl (by omega) (by omega)) ?_
                refine sq_r (ry_idxH rfl rfl (x / 8) rfl (by omega)) ?_
                refine sq_r (ry_elemcH (j := 0) rfl (x / 8) hy rfl (by decide)) ?_
                refine sq_r (ry_move rfl) ?_
                refine sq_r (ry_remn (p := x) (q := 8) rfl rfl rfl rfl (by omega)) ?_
                refine sq_r (ry_convn rfl (by simp only [nb]; omega)) ?_
                refine sq_r (Ry.to (v' := .int .u8 ((UInt8.ofNat (2 ^ (x % 8))).toNat : Int)) (ry_shl rfl rfl (by omega)) (congrArg (Value.int .u8) (shl_one (by omega)))) ?_
                refine sq_r (Ry.to (v' := .int .u8 ((y ^^^ (UInt8.ofNat (2 ^ (x % 8)))).toNat : Int)) (ry_bxor (p := y.toNat) (q := (UInt8.ofNat (2 ^ (x % 8))).toNat) rfl rfl rfl rfl (by simp only [nb]; exact y.toNat_lt) (by simp only [nb]; exact UInt8.toNat_lt _)) (by rw [UInt8.toNat_xor])) ?_
                refine sq_r (ry_idxH rfl rfl (x / 8) rfl (by omega)) ?_
                refine sq_stU rfl rfl hy rfl ?_
                refine sq_nil ?_
                refine ex_then ?_
                refine cw_seq ?_
                refine cw_region ?_
                refine sq_r (ry_move rfl) ?_
                refine sq_callC rfl (by simp only [List.length_set]; omega) fun x168 hp168 => ?_
                have et : allJ ((framesJ (lz zs)).set (x / 8) (y ^^^ (UInt8.ofNat (2 ^ (x % 8))))) = ((lz zs).take (e.toNat % zs.length), (framesJ ((lz zs).take (e.toNat % zs.length))).length) := turn_law hi2 (by omega) (by omega) (by omega) hy (bit_turned y (x % 8) (by omega))
                refine sq_r (ry_move rfl) ?_
                refine sq_r (ry_extract (v := x168.sv.val) rfl rfl) ?_
                refine sq_r (ry_extract (v := .int .i64 (((allJ ((framesJ (lz zs)).set (x / 8) (y ^^^ (UInt8.ofNat (2 ^ (x % 8)))))).2) : Nat)) rfl rfl) ?_
                refine sq_r (ry_assign rfl) ?_
                refine sq_r (ry_assign rfl) ?_
                refine sq_nil ?_
                refine ex_then ?_
                refine cw_seq ?_
                obtain ⟨a174, h174⟩ : ∃ a : Sl (Sl Ch), a = ⟨u.sub 1 0 (e.toNat % zs.length), (zs.drop 0).take ((e.toNat % zs.length) - 0)⟩ := ⟨_, rfl⟩
                have rgx174 : Rg 0 (e.toNat % zs.length) zs.length := ⟨by omega⟩
                have n174 : NamedD a174 (u.sub 1 0 (e.toNat % zs.length)) ((zs.drop 0).take ((e.toNat % zs.length) - 0)) := ⟨h174⟩
                have la174 : lc a174 = (lz zs).take (e.toNat % zs.length) := by rw [h174]; exact lz_take zs (e.toNat % zs.length)
                have e174 : lc x168 = lc a174 := by rw [hp168, la174, et]
                refine cw_region ?_
                refine sq_r (ry_move rfl) ?_
                refine sq_r (ry_move rfl) ?_
                refine sq_r (ry_move rfl) ?_
                have rg174 : Rg 0 (e.toNat % zs.length) zs.length := ⟨by omega⟩
                refine sq_r (Ry.to (v' := a174.sv.val) (ry_subH_hi rfl rfl (e.toNat % zs.length) rfl (by omega)) (by rw [h174])) ?_
                refine sq_y (yl_callC rfl trivial) ?_
                refine sq_r (ry_move rfl) ?_
                refine sq_gt rfl rfl rfl (fun hg => (Ry.yl (ry_move rfl))) ?_
                refine sq_gt rfl rfl rfl (fun hg => (Ry.yl (ry_move rfl))) ?_
                refine sq_gt rfl rfl rfl (fun hg => (Ry.yl (ry_sub (ev_c hg rfl) rfl (by simp only [Bool.and_eq_true, Bool.or_eq_true, Bool.and_eq_false_iff, Bool.or_eq_false_iff, Bool.not_eq_true', Bool.not_eq_false', decide_eq_true_eq, decide_eq_false_iff_not, Bool.not_eq_true, Bool.not_eq_false] at hg; omega)))) ?_
                refine sq_gt rfl rfl rfl (fun hg => (Ry.yl (ry_int (ev_c hg rfl) (ev_c hg rfl) rfl))) ?_
                refine sq_r (ry_and rfl rfl rfl) ?_
                refine sq_r (ry_assign rfl) ?_
                refine sq_nil ?_
                refine ex_then ?_
                refine cw_ret ?_
                refine ex_ret (.inl rfl) (res_1 rfl (rv_tmp rfl)) (fun w1 hw => ?_)
                exact ⟨congrArg (fun b => Ending.returned (Value.bool b)) ((by rw [et]; simp [e174])), Keep.mem hw⟩

end Go.Proofs.Ytajhlgdapiihgaa

