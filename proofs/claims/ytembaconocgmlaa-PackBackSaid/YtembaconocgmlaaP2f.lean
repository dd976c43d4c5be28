/- A table out of its bodies, by the reference: walked. -/
import Derived.Test.YtembaconocgmlaaP2e
set_option linter.unusedSimpArgs false
set_option linter.unusedVariables false
namespace Go.Proofs.Ytembaconocgmlaa
open Go.Eng Go.Kb
set_option maxRecDepth 20000 in
theorem rtable_c (w : World) (a : Sl (Sl UInt8)) (ha : Deep.good (hp w) a) (hpre : a.xs.length ≤ 1000 ∧ ∀ x ∈ a.xs, x.xs.length ≤ 100000) : Calls Try.prog 48 #[a.sv.val] w fun e w' => ∃ zz : Sv, e = .returned (.tuple #[zz.val, .int .i64 (tabE (lx a))]) ∧ (True) ∧ Mem w [own rcells 19 zz (tabV (lx a))] w' := by
  have gha : GvD w a := ⟨ha⟩
  obtain ⟨hpa, hpb⟩ := hpre
  have hl := lx_length a
  refine calls_of (args := [_]) Try.func48 rfl Try.ntmps48 rfl ?_
  change Cw _ _ _ _ _ [(0, a.sv.val)] []
  refine cw_seq ?_
  refine cw_region ?_
  refine sq_r (ry_assign rfl) ?_
  refine sq_r (ry_assign rfl) ?_
  refine sq_nil ?_
  refine ex_then ?_
  refine cw_seq ?_
  refine cw_region ?_
  refine sq_r (ry_assign rfl) ?_
  refine sq_nil ?_
  refine ex_then ?_
  refine cw_seq ?_
  refine cw_seq ?_
  refine cw_region ?_
  refine sq_r (ry_assign rfl) ?_
  refine sq_nil ?_
  refine ex_then ?_
  refine cw_block ?_
  refine cw_loop (X := Nat × Sv × List Rt) (fun zz => [(5, .int .i64 (zz.1 : Nat)), (4, zz.2.1.val), (0, a.sv.val)]) (fun zz => [own rcells 19 zz.2.1 zz.2.2]) (fun zz => zz.1 ≤ a.xs.length ∧ untable ((lx a).take zz.1) = some zz.2.2 ∧ zz.2.2.length ≤ zz.1 * 100000) (fun zz => a.xs.length - zz.1) (0, Sv.none, []) ⟨by first | omega | (simp only []; omega), rfl, by simp⟩ (Sub.cons rfl (Sub.cons rfl (Sub.cons rfl (Sub.nil _)))) (fun w hw => Mem.nilOwn rcells 19 hw) ?_
  rintro ⟨i, t, q⟩ ⟨hi1, hi2, hi3⟩
  dsimp only
  simp only at hi1 hi2 hi3
  refine cw_seq ?_
  refine cw_seq ?_
  refine cw_region ?_
  refine sq_r (ry_move rfl) ?_
  refine sq_r (ry_move rfl) ?_
  refine sq_r (ry_lenH rfl) ?_
  refine sq_r (ry_int rfl rfl rfl) ?_
  refine sq_nil ?_
  refine ex_then ?_
  refine cw_cond rfl (fun h0 => ?_) (fun h0 => ?_)
  · try simp only [Bool.and_eq_true, Bool.or_eq_true, Bool.and_eq_false_iff, Bool.or_eq_false_iff, Bool.not_eq_true', Bool.not_eq_false', decide_eq_true_eq, decide_eq_false_iff_not, Bool.not_eq_true, Bool.not_eq_false] at h0
    refine cw_skip ?_
    refine ex_then ?_
    refine cw_seq ?_
    refine cw_block ?_
    refine cw_seq ?_
    refine cw_region ?_
    refine sq_r (ry_move rfl) ?_
    refine sq_r (ry_move rfl) ?_
    obtain ⟨x, hx⟩ := get_some (xs := a.xs) (i := i) (by omega)
    refine sq_r (ry_idxH rfl rfl i rfl (by omega)) ?_
    refine sq_r (ry_elemcH (j := 0) rfl i hx rfl (by decide)) ?_
    have mbx : Mb x _ := ⟨List.mem_of_getElem? hx⟩
    have hxl := hpb x (List.mem_of_getElem? hx)
    have ex : (lx a)[i]? = some x.xs := by simp [lx, hx]
    have mb19 : Mb x _ := ⟨List.mem_of_getElem? hx⟩
    refine sq_r (ry_assign rfl) ?_
    refine sq_nil ?_
    refine ex_then ?_
    refine cw_seq ?_
    refine cw_seq ?_
    refine cw_region ?_
    refine sq_r (ry_move rfl) ?_
    refine sq_r (ry_lenH rfl) ?_
    refine sq_r (ry_remn (p := x.xs.length) (q := 20) rfl rfl rfl rfl (by omega)) ?_
    refine sq_r (ry_int rfl rfl rfl) ?_
    refine sq_nil ?_
    refine ex_then ?_
    refine cw_cond rfl (fun h1 => ?_) (fun h1 => ?_)
    · try simp only [Bool.and_eq_true, Bool.or_eq_true, Bool.and_eq_false_iff, Bool.or_eq_false_iff, Bool.not_eq_true', Bool.not_eq_false', decide_eq_true_eq, decide_eq_false_iff_not, Bool.not_eq_true, Bool.not_eq_false] at h1
      have hun : untable (lx a) = none := untable_none (i := i + 1) (by rw [untable_succ ex, hi2, unbody_mod _ x.xs (Nat.le_refl _) (by omega)]; rfl)
      refine cw_seq ?_
      refine cw_region ?_
      refine sq_r (ry_assign rfl) ?_
      refine sq_r (ry_assign rfl) ?_
      refine sq_nil ?_
      refine ex_then ?_
      refine cw_ret ?_
      refine ex_pass_ret ?_
      refine ex_block_ret ?_
      refine ex_pass_ret ?_
      refine ex_pass_ret ?_
      refine ex_block_ret ?_
      refine ex_pass_ret ?_
      refine ex_ret (.inl rfl) (res_2 rfl (rv_tmp rfl) (rv_tmp rfl)) (fun w1 hw => ?_)
      exact ⟨Sv.none, by rw [(tab_none hun).2]; rfl, trivial, by rw [(tab_none hun).1]; exact (Keep.mem hw : Mem w [] _).nilOwn rcells 19⟩
    · try simp only [Bool.and_eq_true, Bool.or_eq_true, Bool.and_eq_false_iff, Bool.or_eq_false_iff, Bool.not_eq_true', Bool.not_eq_false', decide_eq_true_eq, decide_eq_false_iff_not, Bool.not_eq_true, Bool.not_eq_false] at h1
      refine cw_skip ?_
      refine ex_then ?_
      refine cw_seq ?_
      refine cw_region ?_
      refine sq_r (ry_assign rfl) ?_
      refine sq_nil ?_
      refine ex_then ?_
      refine cw_block ?_
      refine cw_loop (X := Nat × Sv × List Rt) (fun zz => [(7, .int .i64 (zz.1 : Nat)), (4, zz.2.1.val), (0, a.sv.val), (5, .int .i64 (i : Nat)), (6, x.sv.val)]) (fun zz => [own rcells 19 zz.2.1 zz.2.2]) (fun zz => ∃ pre, zz.2.2 = q ++ pre ∧ unbody x.xs = (unbody (x.xs.drop zz.1)).map (pre ++ ·) ∧ zz.1 % 20 = 0 ∧ zz.1 ≤ x.xs.length ∧ zz.2.2.length ≤ i * 100000 + zz.1) (fun zz => x.xs.length - zz.1) (0, t, q) ⟨[], by simp, by show _ = (unbody (x.xs.drop 0)).map _; rw [List.drop_zero]; cases unbody x.xs <;> rfl, rfl, Nat.zero_le _, Nat.le_trans hi3 (Nat.le_add_right _ _)⟩ (Sub.cons rfl (Sub.cons rfl (Sub.cons rfl (Sub.cons rfl (Sub.cons rfl (Sub.nil _)))))) (fun w hw => Keep.mem hw) ?_
      rintro ⟨k, t2, q2⟩ ⟨pre, hj1, hj2, hj3, hj4, hj5⟩
      dsimp only
      simp only at hj1 hj2 hj3 hj4 hj5
      refine cw_seq ?_
      refine cw_seq ?_
      refine cw_region ?_
      refine sq_r (ry_move rfl) ?_
      refine sq_r (ry_move rfl) ?_
      refine sq_r (ry_lenH rfl) ?_
      refine sq_r (ry_int rfl rfl rfl) ?_
      refine sq_nil ?_
      refine ex_then ?_
      refine cw_cond rfl (fun h2 => ?_) (fun h2 => ?_)
      · try simp only [Bool.and_eq_true, Bool.or_eq_true, Bool.and_eq_false_iff, Bool.or_eq_false_iff, Bool.not_eq_true', Bool.not_eq_false', decide_eq_true_eq, decide_eq_false_iff_not, Bool.not_eq_true, Bool.not_eq_false] at h2
        have hk20 : k + 20 ≤ x.xs.length := by omega
        have ec := unbody_step hk20
        rw [rd_eq] at ec
        have eg : ∀ (i : Nat) e, x.xs[i]? = some e → x.xs.getD i 0 = e := fun i e h => by simp [List.getD, h]
        refine cw_skip ?_
        refine ex_then ?_
        refine cw_seq ?_
        refine cw_block ?_
        refine cw_seq ?_
        refine cw_seq ?_
        refine cw_region ?_
        refine sq_r (ry_move rfl) ?_
        refine sq_r (ry_move rfl) ?_
        obtain ⟨e0, he0⟩ := get_some (xs := x.xs) (i := k) (by omega)
        refine sq_r (ry_idxH rfl rfl k rfl (by omega)) ?_
        refine sq_r (ry_elemcH (j := 0) rfl k he0 rfl (by decide)) ?_
        refine sq_r (ry_int rfl rfl rfl) ?_
        refine sq_nil ?_
        refine ex_then ?_
        refine cw_cond rfl (fun h3 => ?_) (fun h3 => ?_)
        · try simp only [Bool.and_eq_true, Bool.or_eq_true, Bool.and_eq_false_iff, Bool.or_eq_false_iff, Bool.not_eq_true', Bool.not_eq_false', decide_eq_true_eq, decide_eq_false_iff_not, Bool.not_eq_true, Bool.not_eq_false] at h3
          have hno : rdok ((x.xs.drop k).take 20) = false := by rw [rdok, rd_drop 0 (by decide), Nat.add_zero, eg k e0 he0]; exact decide_eq_false (fun h => by rw [UInt8.le_iff_toNat_le] at h; simp at h; omega)
          have hun : untable (lx a) = none := untable_none (i := i + 1) (by rw [untable_succ ex, hi2, hj2, ec, hno]; rfl)
          refine cw_seq ?_
          refine cw_region ?_
          refine sq_r (ry_assign rfl) ?_
          refine sq_r (ry_assign rfl) ?_
          refine sq_nil ?_
          refine ex_then ?_
          refine cw_ret ?_
          refine ex_pass_ret ?_
          refine ex_block_ret ?_
          refine ex_pass_ret ?_
          refine ex_pass_ret ?_
          refine ex_block_ret ?_
          refine ex_block_ret ?_
          refine ex_pass_ret ?_
          refine ex_pass_ret ?_
          refine ex_block_ret ?_
          refine ex_pass_ret ?_
          refine ex_ret (.inl rfl) (res_2 rfl (rv_tmp rfl) (rv_tmp rfl)) (fun w1 hw => ?_)
          exact ⟨Sv.none, by rw [(tab_none hun).2]; rfl, trivial, by rw [(tab_none hun).1]; exact (Keep.mem hw : Mem w [] _).nilOwn rcells 19⟩
        · try simp only [Bool.and_eq_true, Bool.or_eq_true, Bool.and_eq_false_iff, Bool.or_eq_false_iff, Bool.not_eq_true', Bool.not_eq_false', decide_eq_true_eq, decide_eq_false_iff_not, Bool.not_eq_true, Bool.not_eq_false] at h3
          have hyes : rdok ((x.xs.drop k).take 20) = true := by rw [rdok, rd_drop 0 (by decide), Nat.add_zero, eg k e0 he0]; exact decide_eq_true (by rw [UInt8.le_iff_toNat_le]; simp; omega)
          rw [hyes] at ec
          simp only [if_true, Option.bind_some] at ec
          refine cw_skip ?_
          refine ex_then ?_
          refine cw_seq ?_
          obtain ⟨e18, he18⟩ := get_some (xs := x.xs) (i := k + 18) (by omega)
          obtain ⟨e19, he19⟩ := get_some (xs := x.xs) (i := k + 18 + 1) (by omega)
          refine cw_lin [16, 17] [[], [], [], [], [], [], [], [], [], [], [], [], [], [], [], [], [], [16]] [0, 1, 2, 3, 4, 5, 6, 7, 8, 9, 10, 11, 12, 13, 14, 15, 16, 17] [] (fun _ hw => Keep.mem hw) (by kernel_rfl) (by kernel_rfl) ?_
          refine ln_r rfl (ry_move rfl) ?_
          refine ln_r rfl (ry_move rfl) ?_
          refine ln_r rfl (ry_add rfl rfl (by omega)) ?_
          obtain ⟨e38, he38⟩ := get_some (xs := x.xs) (i := (k + 1)) (by omega)
          refine ln_r rfl (ry_idxH rfl rfl (k + 1) rfl (by omega)) ?_
          refine ln_r rfl (ry_elemcH (j := 0) rfl (k + 1) he38 rfl (by decide)) ?_
          refine ln_r rfl (ry_conv_u8 rfl) ?_
          refine ln_r rfl (ry_buildc rfl) ?_
          refine ln_r rfl (ry_move rfl) ?_
          refine ln_r rfl (ry_move rfl) ?_
          refine ln_r rfl (ry_add rfl rfl (by omega)) ?_
          refine ln_r rfl (ry_move rfl) ?_
          refine ln_r rfl (ry_add rfl rfl (by omega)) ?_
          have rg47 : Rg (k + 18) (k + 20) x.xs.length := ⟨by omega⟩
          refine ln_r rfl (ry_subH rfl rfl rfl (k + 18) (k + 20) rfl rfl rg47.h.1 rg47.h.2) ?_
          refine ln_y rfl (yl_callC rfl (by simp; omega)) ?_
          refine ln_r rfl (ry_conv rfl (show IntKind.u16.wrap _ = ((hop16 e18 e19).toNat : Int) from by rw [de_two he18 he19 rfl]; exact wrap_nat (by simp only [nb]; exact (hop16 e18 e19).toNat_lt))) ?_
          refine ln_r rfl (ry_buildc rfl) ?_
          refine ln_st rfl (st_allocA fun b8 => ⟨fun _ hw => Keep.mem hw, ?_⟩)
          refine ln_st rfl (st_storeW rfl rfl ⟨fun _ hw => Keep.mem hw, ?_⟩)
          refine ln_nil ?_
          refine ex_then ?_
          refine cw_cut (X := Unit) (fun zz => [(0, a.sv.val), (4, t2.val), (5, .int .i64 (i : Nat)), (6, x.sv.val), (7, .int .i64 (k : Nat)), (8, .pointer (some ⟨b8, 0, none⟩))]) (fun zz => [blk b8 (rcells ⟨⟨if x.xs.getD k 0 = 1 then 128 else 32, (x.xs.getD (k + 1) 0).toNat, 0#128⟩, hop16 (x.xs.getD (k + 18) 0) (x.xs.getD (k + 19) 0)⟩) 82, own rcells 19 t2 q2]) (fun zz => True) ?_ ?_
          · refine cw_seq ?_
            refine cw_region ?_
            refine sq_r (ry_move rfl) ?_
            refine sq_r (ry_move rfl) ?_
            obtain ⟨e53, he53⟩ := get_some (xs := x.xs) (i := k) (by omega)
            refine sq_r (ry_idxH rfl rfl k rfl (by omega)) ?_
            refine sq_r (ry_elemcH (j := 0) rfl k he53 rfl (by decide)) ?_
            refine sq_r (ry_int rfl rfl rfl) ?_
            refine sq_nil ?_
            refine ex_then ?_
            refine cw_cond rfl (fun h4 => ?_) (fun h4 => ?_)
            · try simp only [Bool.and_eq_true, Bool.or_eq_true, Bool.and_eq_false_iff, Bool.or_eq_false_iff, Bool.not_eq_true', Bool.not_eq_false', decide_eq_true_eq, decide_eq_false_iff_not, Bool.not_eq_true, Bool.not_eq_false] at h4
              have h4x : x.xs.getD k 0 = 1 := by rw [eg _ _ he53]; exact UInt8.toNat_inj.1 (by simp; omega)
              refine cw_region ?_
              refine sq_r (ry_field (o' := 0) rfl rfl) ?_
              refine sq_r (ry_field (o' := 0) rfl rfl) ?_
              refine sq_store rfl rfl (by rw [rcells_size]; decide) rfl (rcells_set0 _ _) ?_
              refine sq_nil ?_
              exact ex_meet () trivial (Sub.cons rfl (Sub.cons rfl (Sub.cons rfl (Sub.cons rfl (Sub.cons rfl (Sub.cons rfl (Sub.nil _))))))) (fun w hw => by rw [if_pos h4x, eg _ _ he38, eg _ _ he18, eg (k + 19) _ he19]; exact hw)
            · try simp only [Bool.and_eq_true, Bool.or_eq_true, Bool.and_eq_false_iff, Bool.or_eq_false_iff, Bool.not_eq_true', Bool.not_eq_false', decide_eq_true_eq, decide_eq_false_iff_not, Bool.not_eq_true, Bool.not_eq_false] at h4
              have h4x : ¬ x.xs.getD k 0 = 1 := by rw [eg _ _ he53]; intro h; rw [h] at h4; simp at h4
              refine cw_skip ?_
              exact ex_meet () trivial (Sub.cons rfl (Sub.cons rfl (Sub.cons rfl (Sub.cons rfl (Sub.cons rfl (Sub.cons rfl (Sub.nil _))))))) (fun w hw => by rw [if_neg h4x, eg _ _ he38, eg _ _ he18, eg (k + 19) _ he19]; exact hw)
          · rintro ⟨⟩ hJ
            refine cw_seq ?_
            refine cw_seq ?_
            refine cw_region ?_
            refine sq_r (ry_assign rfl) ?_
            refine sq_nil ?_
            refine ex_then ?_
            refine cw_block ?_
            refine cw_loop (X := Nat) (fun zz => [(9, .int .i64 (zz : Nat)), (0, a.sv.val), (4, t2.val), (5, .int .i64 (i : Nat)), (6, x.sv.val), (7, .int .i64 (k : Nat)), (8, .pointer (some ⟨b8, 0, none⟩))]) (fun zz => [blk b8 (rcells ⟨⟨if x.xs.getD k 0 = 1 then 128 else 32, (x.xs.getD (k + 1) 0).toNat, kpre (fun j => (x.xs.getD (k + (2 + j)) 0).toNat) zz⟩, hop16 (x.xs.getD (k + 18) 0) (x.xs.getD (k + 19) 0)⟩) 82, own rcells 19 t2 q2]) (fun zz => zz ≤ 16) (fun zz => 16 - zz) 0 (by first | omega | (simp only []; omega)) (Sub.cons rfl (Sub.cons rfl (Sub.cons rfl (Sub.cons rfl (Sub.cons rfl (Sub.cons rfl (Sub.cons rfl (Sub.nil _)))))))) (fun w hw => by rw [kpre_zero]; exact hw) ?_
            rintro n hn
            refine cw_seq ?_
            refine cw_seq ?_
            refine cw_region ?_
            refine sq_r (ry_move rfl) ?_
            refine sq_r (ry_int rfl rfl rfl) ?_
            refine sq_nil ?_
            refine ex_then ?_
            refine cw_cond rfl (fun h5 => ?_) (fun h5 => ?_)
            · try simp only [Bool.and_eq_true, Bool.or_eq_true, Bool.and_eq_false_iff, Bool.or_eq_false_iff, Bool.not_eq_true', Bool.not_eq_false', decide_eq_true_eq, decide_eq_false_iff_not, Bool.not_eq_true, Bool.not_eq_false] at h5
              refine cw_skip ?_
              refine ex_then ?_
              refine cw_seq ?_
              refine cw_block ?_
              refine cw_region ?_
              refine sq_r (ry_move rfl) ?_
              refine sq_r (ry_move rfl) ?_
              refine sq_r (ry_move rfl) ?_
              refine sq_r (ry_add rfl rfl (by omega)) ?_
              refine sq_r (ry_move rfl) ?_
              refine sq_r (ry_add rfl rfl (by omega)) ?_
              obtain ⟨e68, he68⟩ := get_some (xs := x.xs) (i := ((k + 2) + n)) (by omega)
              refine sq_r (ry_idxH rfl rfl ((k + 2) + n) rfl (by omega)) ?_
              refine sq_r (ry_elemcH (j := 0) rfl ((k + 2) + n) he68 rfl (by decide)) ?_
              have hst : ∀ b l h, (rcells ⟨⟨b, l, kpre (fun j => (x.xs.getD (k + (2 + j)) 0).toNat) n⟩, h⟩).setIfInBounds (2 + Int.toNat (n : Int) * 1) (.int .u8 e68.toNat) = rcells ⟨⟨b, l, kpre (fun j => (x.xs.getD (k + (2 + j)) 0).toNat) (n + 1)⟩, h⟩ := fun b l h => by
                rw [Int.toNat_natCast, Nat.mul_one, ← eg (k + (2 + n)) e68 (by rw [← Nat.add_assoc]; exact he68)]
                exact rcells_kpre (f := (fun j => (x.xs.getD (k + (2 + j)) 0).toNat)) (by omega) (UInt8.toNat_lt _)
              refine sq_r (ry_field (o' := 0) rfl rfl) ?_
              refine sq_r (ry_field (o' := 2) rfl rfl) ?_
              refine sq_r (ry_idxA rfl rfl (by omega) (by omega)) ?_
              refine sq_store (o := 2 + Int.toNat (n : Int) * 1) rfl rfl (by rw [rcells_size]; omega) rfl (hst _ _ _) ?_
              refine sq_nil ?_
              refine ex_block ?_
              refine ex_then ?_
              refine cw_region ?_
              refine sq_r (ry_move rfl) ?_
              refine sq_r (ry_add rfl rfl (by omega)) ?_
              refine sq_r (ry_assign rfl) ?_
              refine sq_nil ?_
              exact ex_again (x := (n)) (n + 1) (by first | omega | (simp only []; omega)) (by first | omega | (simp only []; omega)) (Sub.cons rfl (Sub.cons rfl (Sub.cons rfl (Sub.cons rfl (Sub.cons rfl (Sub.cons rfl (Sub.cons rfl (Sub.nil _)))))))) (fun w hw => Keep.mem hw)
            · try simp only [Bool.and_eq_true, Bool.or_eq_true, Bool.and_eq_false_iff, Bool.or_eq_false_iff, Bool.not_eq_true', Bool.not_eq_false', decide_eq_true_eq, decide_eq_false_iff_not, Bool.not_eq_true, Bool.not_eq_false] at h5
              obtain rfl : n = 16 := by omega
              refine cw_exit ?_
              refine ex_pass_exit ?_
              refine ex_pass_exit ?_
              refine ex_block_hit ?_
              refine ex_then ?_
              refine cw_mem [blk b8 (rcells (rdroute ((x.xs.drop k).take 20))) 82, own rcells 19 t2 q2] (fun w hw => by rw [rd_at]; exact hw) ?_
              refine cw_region ?_
              refine sq_r (ry_move rfl) ?_
              refine sq_r (ry_whole rfl) ?_
              refine sq_buildSlice (enc := rcells) (vals := [_]) [(rdroute ((x.xs.drop k).take 20))] rfl rfl rfl (by decide) (by decide) fun b75 => ?_
              refine sq_append (s := t2) (ys := [(rdroute ((x.xs.drop k).take 20))]) rfl rfl (by decide) (fun w hw => src_rows (s := ⟨false, b75, 0, 1, 1, none⟩) Try.underlying62 (by decide) ((inferInstance : Hd _ _ ⟨false, b75, 0, 1, 1, none⟩ rcells 19 [(rdroute ((x.xs.drop k).take 20))]).h w hw)) (by simp only [List.length_cons, List.length_nil]; omega) (by simp only [List.length_cons, List.length_nil]; omega) fun s76 hs76 hl76 => ?_
              refine sq_r (ry_assign rfl) ?_
              refine sq_nil ?_
              refine ex_block ?_
              refine ex_then ?_
              refine cw_region ?_
              refine sq_r (ry_move rfl) ?_
              refine sq_r (ry_add rfl rfl (by omega)) ?_
              refine sq_r (ry_assign rfl) ?_
              refine sq_nil ?_
              exact ex_again (x := (k, t2, q2)) (k + 20, s76, q2 ++ [rdroute ((x.xs.drop k).take 20)]) ⟨pre ++ [rdroute ((x.xs.drop k).take 20)], by simp [hj1], by rw [hj2, ec]; cases unbody (x.xs.drop (k + 20)) <;> simp, by first | omega | (simp only []; omega), by first | omega | (simp only []; omega), by simp only [List.length_append, List.length_cons, List.length_nil]; omega⟩ (by simp only; omega) (Sub.cons rfl (Sub.cons rfl (Sub.cons rfl (Sub.cons rfl (Sub.cons rfl (Sub.nil _)))))) (fun w hw => Keep.mem hw)
      · try simp only [Bool.and_eq_true, Bool.or_eq_true, Bool.and_eq_false_iff, Bool.or_eq_false_iff, Bool.not_eq_true', Bool.not_eq_false', decide_eq_true_eq, decide_eq_false_iff_not, Bool.not_eq_true, Bool.not_eq_false] at h2
        refine cw_exit ?_
        refine ex_pass_exit ?_
        refine ex_pass_exit ?_
        refine ex_block_hit ?_
        refine ex_block ?_
        refine ex_then ?_
        refine cw_region ?_
        refine sq_r (ry_move rfl) ?_
        refine sq_r (ry_add rfl rfl (by omega)) ?_
        refine sq_r (ry_assign rfl) ?_
        refine sq_nil ?_
        exact ex_again (x := (i, t, q)) (i + 1, t2, q2) ⟨by first | omega | (simp only []; omega), by rw [untable_succ ex, hi2, Option.bind_some, hj2, List.drop_eq_nil_of_le (by first | omega | (simp only []; omega)), unbody_nil]; simp [hj1], by first | omega | (simp only []; omega)⟩ (by simp only; omega) (Sub.cons rfl (Sub.cons rfl (Sub.cons rfl (Sub.nil _)))) (fun w hw => Keep.mem hw)
  · try simp only [Bool.and_eq_true, Bool.or_eq_true, Bool.and_eq_false_iff, Bool.or_eq_false_iff, Bool.not_eq_true', Bool.not_eq_false', decide_eq_true_eq, decide_eq_false_iff_not, Bool.not_eq_true, Bool.not_eq_false] at h0
    refine cw_exit ?_
    refine ex_pass_exit ?_
    refine ex_pass_exit ?_
    refine ex_block_hit ?_
    refine ex_then ?_
    refine cw_seq ?_
    refine cw_seq ?_
    have hal : untable (lx a) = some q := by rw [← hi2, List.take_of_length_le (by omega)]
    refine cw_region ?_
    refine sq_r (ry_move rfl) ?_
    refine sq_y (yl_callC rfl trivial) ?_
    refine sq_r (ry_not rfl) ?_
    refine sq_nil ?_
    refine ex_then ?_
    refine cw_cond rfl (fun h6 => ?_) (fun h6 => ?_)
    · try simp only [Bool.and_eq_true, Bool.or_eq_true, Bool.and_eq_false_iff, Bool.or_eq_false_iff, Bool.not_eq_true', Bool.not_eq_false', decide_eq_true_eq, decide_eq_false_iff_not, Bool.not_eq_true, Bool.not_eq_false] at h6
      refine cw_seq ?_
      refine cw_region ?_
      refine sq_r (ry_assign rfl) ?_
      refine sq_r (ry_assign rfl) ?_
      refine sq_nil ?_
      refine ex_then ?_
      refine cw_ret ?_
      refine ex_pass_ret ?_
      refine ex_ret (.inl rfl) (res_2 rfl (rv_tmp rfl) (rv_tmp rfl)) (fun w1 hw => ?_)
      exact ⟨Sv.none, by rw [(tab_bad hal h6).2]; rfl, trivial, by rw [(tab_bad hal h6).1]; exact (Keep.mem hw : Mem w [] _).nilOwn rcells 19⟩
    · try simp only [Bool.and_eq_true, Bool.or_eq_true, Bool.and_eq_false_iff, Bool.or_eq_false_iff, Bool.not_eq_true', Bool.not_eq_false', decide_eq_true_eq, decide_eq_false_iff_not, Bool.not_eq_true, Bool.not_eq_false] at h6
      refine cw_skip ?_
      refine ex_then ?_
      refine cw_seq ?_
      refine cw_region ?_
      refine sq_r (ry_move rfl) ?_
      refine sq_r (ry_assign rfl) ?_
      refine sq_r (ry_assign rfl) ?_
      refine sq_nil ?_
      refine ex_then ?_
      refine cw_ret ?_
      refine ex_ret (.inl rfl) (res_2 rfl (rv_tmp rfl) (rv_tmp rfl)) (fun w1 hw => ?_)
      exact ⟨t, by rw [(tab_ok hal h6).2], trivial, by rw [(tab_ok hal h6).1]; exact hw⟩
instance rtable_i {w0 : World} {L : List Ent} {a : Sl (Sl UInt8)} [ha : HdD w0 L a] : FnC Try.prog 48 w0 L [a.sv.val] (Sv) (fun zz => .tuple #[zz.val, .int .i64 (tabE (lx a))]) (fun zz => own rcells 19 zz (tabV (lx a)) :: L) (fun zz => True) (a.xs.length ≤ 1000 ∧ ∀ x ∈ a.xs, x.xs.length ≤ 100000) := ⟨fun hp w hw => (rtable_c w a (ha.h w hw) hp).mono fun e w' ⟨x, h1, h2, h3⟩ => ⟨x, h1, h2, hw.call h3⟩⟩

end Go.Proofs.Ytembaconocgmlaa
