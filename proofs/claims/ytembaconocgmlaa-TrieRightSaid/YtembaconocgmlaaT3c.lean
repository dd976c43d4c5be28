/- A route more in a trie: walked. -/
import Derived.Test.YtembaconocgmlaaT3b
set_option linter.unusedSimpArgs false
set_option linter.unusedVariables false
namespace Go.Proofs.Ytembaconocgmlaa
open Go.Eng Go.Kb
set_option maxRecDepth 20000 in
theorem tadd_c (w0 w : World) (L : List Ent) (B : Nat) (T : TypeId) (bits : Int) (s : Sv) (W : List Wy) (R : List Rt) (r : Rt) (hw : Mem w0 (blk B (tcells ⟨bits, ⟨s, []⟩⟩) T :: own ncells 48 s (nodes bits W R) :: L) w) (hpre : pmay r.p = true ∧ r.p.bits = bits ∧ WOk W ∧ Holds' bits W R ∧ W.length ≤ 512) : Calls Try.prog 81 #[.pointer (some ⟨B, 0, none⟩), .agg (rcells r)] w fun e w' => ∃ zz : Sv × List Nd, e = .returned (.bool (decide ((addTo W r.p (lastN r.p)).length ≤ 512))) ∧ ((addTo W r.p (lastN r.p)).length ≤ 512 → zz.2 = nodes bits (addTo W r.p (lastN r.p)) (R ++ [r])) ∧ Mem w0 (blk B (tcells ⟨bits, ⟨zz.1, []⟩⟩) T :: own ncells 48 zz.1 zz.2 :: L) w' := by
  obtain ⟨hp1, hp2, hp3, hp4, hp5⟩ := hpre
  obtain ⟨hq1, hq2, hq3, hq4⟩ := (pmay_iff r.p).1 hp1
  have hlt := lastN_lt hp1
  have hroom := kst_room hp1
  have hke := kst_eq r.p.key (lastN r.p)
  have hop := openN_eq hp1
  have htd := tdiv_rng hq2 (by omega)
  refine calls_in (args := [_, _]) Try.func81 rfl Try.ntmps81 rfl hw ?_
  change Cw _ _ _ _ _ [(0, .pointer (some ⟨B, 0, none⟩)), (1, .agg (rcells r))] (blk B (tcells ⟨bits, ⟨s, []⟩⟩) T :: own ncells 48 s (nodes bits W R) :: L)
  refine cw_seq ?_
  refine cw_region ?_
  refine sq_boxA rfl fun b3 => ?_
  refine sq_r (ry_assign rfl) ?_
  refine sq_nil ?_
  refine ex_then ?_
  refine cw_seq ?_
  refine cw_region ?_
  refine sq_r (ry_field (o' := 0) rfl rfl) ?_
  refine sq_r (ry_field (o' := 1) rfl rfl) ?_
  refine sq_r (ry_cellc rfl) ?_
  refine sq_r (ry_sub rfl rfl (by omega)) ?_
  refine sq_r (ry_int rfl rfl (by rw [intOp, if_neg (by decide), wrap64_in (by omega)])) ?_
  refine sq_r (Ry.to (ry_max rfl rfl) (by rw [max_last hq2])) ?_
  refine sq_r (ry_assign rfl) ?_
  refine sq_nil ?_
  refine ex_then ?_
  refine cw_seq ?_
  refine cw_region ?_
  refine sq_r (ry_assign rfl) ?_
  refine sq_nil ?_
  refine ex_then ?_
  refine cw_seq ?_
  refine cw_seq ?_
  refine cw_region ?_
  refine sq_r (ry_move rfl) ?_
  refine sq_r (ry_move rfl) ?_
  refine sq_nil ?_
  refine ex_then ?_
  refine cw_block ?_
  refine cw_loop (X := Nat × Sv) (fun zz => [(21, .int .i64 (zz.1 : Nat)), (6, .int .i64 (((addTo W r.p zz.1).idxOf (wayAt r.p.key zz.1)) : Nat)), (0, .pointer (some ⟨B, 0, none⟩)), (3, .pointer (some ⟨b3, 0, none⟩)), (5, .int .i64 (lastN r.p : Nat)), (20, .int .i64 (lastN r.p : Nat))]) (fun zz => blk B (tcells ⟨bits, ⟨zz.2, []⟩⟩) T :: own ncells 48 zz.2 (nodes bits (addTo W r.p zz.1) R) :: blk b3 (rcells r) 82 :: L) (fun zz => zz.1 ≤ lastN r.p ∧ (addTo W r.p zz.1).length ≤ 512) (fun zz => lastN r.p - zz.1) (0, s) ⟨Nat.zero_le _, hp5⟩ (Sub.cons rfl (Sub.cons (look_eq rfl (by rw [wayAt_zero, addTo_zero, get_idx hp3.nodup hp3.root]; rfl)) (Sub.cons rfl (Sub.cons rfl (Sub.cons rfl (Sub.cons rfl (Sub.nil _))))))) (fun w hw => (Keep.mem hw : Mem _ (blk B (tcells ⟨bits, ⟨s, []⟩⟩) T :: own ncells 48 s (nodes bits W R) :: blk b3 (rcells r) 82 :: L) _)) ?_
  rintro ⟨i, s1⟩ ⟨hi1, hi2⟩
  dsimp only
  simp only at hi1 hi2
  have hWi := hp3.add (p := r.p) (n := i) (by omega)
  have hix := idx_get (addTo_last hp3 r.p i)
  have hil := idx_lt (addTo_last hp3 r.p i)
  have hk := kst_lt r.p.key i
  have hke2 := kst_eq r.p.key i
  refine cw_seq ?_
  refine cw_region ?_
  refine sq_r (ry_int rfl rfl rfl) ?_
  refine sq_nil ?_
  refine ex_then ?_
  refine cw_seq ?_
  refine cw_cond rfl (fun h0 => ?_) (fun h0 => ?_)
  · try simp only [Bool.and_eq_true, Bool.or_eq_true, Bool.and_eq_false_iff, Bool.or_eq_false_iff, Bool.not_eq_true', Bool.not_eq_false', decide_eq_true_eq, decide_eq_false_iff_not, Bool.not_eq_true, Bool.not_eq_false] at h0
    refine cw_skip ?_
    refine ex_then ?_
    refine cw_seq ?_
    refine cw_block ?_
    refine cw_seq ?_
    refine cw_region ?_
    refine sq_r (ry_move rfl) ?_
    refine sq_r (ry_assign rfl) ?_
    refine sq_nil ?_
    refine ex_then ?_
    refine cw_seq ?_
    refine cw_region ?_
    refine sq_r (ry_move rfl) ?_
    refine sq_r (ry_move rfl) ?_
    refine sq_r (ry_field (o' := 0) rfl rfl) ?_
    refine sq_r (ry_field (o' := 2) rfl rfl) ?_
    refine sq_r (ry_part rfl) ?_
    refine sq_r (ry_move rfl) ?_
    refine sq_y (yl_callC rfl trivial) ?_
    refine sq_callC rfl ⟨by rw [nodes_length]; exact hil, by omega, by omega, by rw [nodes_length]; exact hi2⟩ fun x32 hp32 => ?_
    have ho : nextO (nodes bits (addTo W r.p i) R) ((addTo W r.p i).idxOf (wayAt r.p.key i)) (kstep r.p.key i).toNat = decide ((addTo W r.p (i + 1)).length ≤ 512) := by have := next_ok hWi (R := R) (bits := bits) hix hk hi2; rw [child_wayAt _ _ (by omega), ← addTo_succ] at this; exact this
    refine sq_r (ry_move rfl) ?_
    refine sq_r (ry_extract (v := .int .i64 (nextN (nodes bits (addTo W r.p i) R) ((addTo W r.p i).idxOf (wayAt r.p.key i)) (kstep r.p.key ((i : Nat) : Int)).toNat)) rfl rfl) ?_
    refine sq_r (ry_extract (v := .bool (nextO (nodes bits (addTo W r.p i) R) ((addTo W r.p i).idxOf (wayAt r.p.key i)) (kstep r.p.key ((i : Nat) : Int)).toNat)) rfl rfl) ?_
    refine sq_r (ry_assign rfl) ?_
    refine sq_r (ry_assign rfl) ?_
    refine sq_nil ?_
    refine ex_then ?_
    refine cw_seq ?_
    refine cw_seq ?_
    refine cw_region ?_
    refine sq_r (ry_move rfl) ?_
    refine sq_r (ry_not rfl) ?_
    refine sq_nil ?_
    refine ex_then ?_
    refine cw_cond rfl (fun h1 => ?_) (fun h1 => ?_)
    · try simp only [Bool.and_eq_true, Bool.or_eq_true, Bool.and_eq_false_iff, Bool.or_eq_false_iff, Bool.not_eq_true', Bool.not_eq_false', decide_eq_true_eq, decide_eq_false_iff_not, Bool.not_eq_true, Bool.not_eq_false] at h1
      refine cw_seq ?_
      refine cw_region ?_
      refine sq_r (ry_assign rfl) ?_
      refine sq_nil ?_
      refine ex_then ?_
      refine cw_ret ?_
      refine ex_pass_ret ?_
      refine ex_block_ret ?_
      refine ex_pass_ret ?_
      refine ex_pass_ret ?_
      refine ex_block_ret ?_
      refine ex_pass_ret ?_
      refine ex_ret (.inl rfl) (res_1 rfl (rv_tmp rfl)) (fun w1 hw => ?_)
      have hno : ¬ (addTo W r.p (lastN r.p)).length ≤ 512 := by
        have h5 := (addTo_le (W := W) (p := r.p) (show i + 1 ≤ lastN r.p by omega)).length_le
        have h6 : ¬ (addTo W r.p (i + 1)).length ≤ 512 := by simpa [ho] using h1
        omega
      exact ⟨(x32, nextL (nodes bits (addTo W r.p i) R) ((addTo W r.p i).idxOf (wayAt r.p.key i)) (kstep r.p.key i).toNat), by rw [decide_eq_false hno], fun h => absurd h hno, Keep.mem hw⟩
    · try simp only [Bool.and_eq_true, Bool.or_eq_true, Bool.and_eq_false_iff, Bool.or_eq_false_iff, Bool.not_eq_true', Bool.not_eq_false', decide_eq_true_eq, decide_eq_false_iff_not, Bool.not_eq_true, Bool.not_eq_false] at h1
      refine cw_skip ?_
      refine ex_then ?_
      refine cw_region ?_
      refine sq_r (ry_move rfl) ?_
      refine sq_r (ry_assign rfl) ?_
      refine sq_nil ?_
      refine ex_block ?_
      refine ex_then ?_
      refine cw_region ?_
      refine sq_r (ry_add rfl rfl (by omega)) ?_
      refine sq_r (ry_move rfl) ?_
      refine sq_nil ?_
      have hl1 : (addTo W r.p (i + 1)).length ≤ 512 := by simpa [ho] using h1
      have hl2 := hl1
      rw [addTo_succ, ← child_wayAt _ _ (by omega)] at hl2
      have hnl : nextL (nodes bits (addTo W r.p i) R) ((addTo W r.p i).idxOf (wayAt r.p.key i)) (kst r.p.key i) = nodes bits (addTo W r.p (i + 1)) R := by rw [next_list hWi hix hk (by show i < 31; omega) (hp4.mono (addTo_pre _)) hl2, child_wayAt _ _ (by omega), ← addTo_succ]
      have hnn : nextN (nodes bits (addTo W r.p i) R) ((addTo W r.p i).idxOf (wayAt r.p.key i)) (kstep r.p.key i).toNat = (((addTo W r.p (i + 1)).idxOf (wayAt r.p.key (i + 1)) : Nat) : Int) := by have := next_num hWi (R := R) (bits := bits) hix hk hl2; rw [child_wayAt _ _ (by omega), ← addTo_succ] at this; exact this
      unfold kst at hnl
      exact ex_again (x := (i, s1)) (i + 1, x32) ⟨by first | omega | (simp only []; omega), by simpa [ho] using h1⟩ (by simp only; omega) (Sub.cons rfl (Sub.cons (look_eq rfl (by rw [hnn])) (Sub.cons rfl (Sub.cons rfl (Sub.cons rfl (Sub.cons rfl (Sub.nil _))))))) (fun w hw => by rw [hnl] at hw; exact Keep.mem hw)
  · try simp only [Bool.and_eq_true, Bool.or_eq_true, Bool.and_eq_false_iff, Bool.or_eq_false_iff, Bool.not_eq_true', Bool.not_eq_false', decide_eq_true_eq, decide_eq_false_iff_not, Bool.not_eq_true, Bool.not_eq_false] at h0
    obtain rfl : i = lastN r.p := by omega
    refine cw_exit ?_
    refine ex_pass_exit ?_
    refine ex_pass_exit ?_
    refine ex_block_hit ?_
    refine ex_then ?_
    refine cw_seq ?_
    refine cw_region ?_
    refine sq_r (ry_field (o' := 0) rfl rfl) ?_
    refine sq_r (ry_field (o' := 2) rfl rfl) ?_
    refine sq_r (ry_part rfl) ?_
    refine sq_r (ry_move rfl) ?_
    refine sq_y (yl_callC rfl trivial) ?_
    refine sq_r (ry_assign rfl) ?_
    refine sq_nil ?_
    refine ex_then ?_
    refine cw_seq ?_
    refine cw_region ?_
    refine sq_r (ry_field (o' := 0) rfl rfl) ?_
    refine sq_r (ry_field (o' := 1) rfl rfl) ?_
    refine sq_r (ry_cellc rfl) ?_
    refine sq_r (ry_move rfl) ?_
    refine sq_r (ry_mul rfl rfl (by omega)) ?_
    refine sq_r (ry_sub rfl rfl (by omega)) ?_
    refine sq_r (ry_sub rfl rfl (by omega)) ?_
    refine sq_r (Ry.to (ry_shl rfl rfl (by omega)) (by rw [shl_open hp1])) ?_
    refine sq_r (ry_assign rfl) ?_
    refine sq_nil ?_
    refine ex_then ?_
    refine cw_seq ?_
    refine cw_seq ?_
    refine cw_region ?_
    refine sq_r (ry_move rfl) ?_
    refine sq_r (ry_assign rfl) ?_
    refine sq_nil ?_
    refine ex_then ?_
    refine cw_block ?_
    refine cw_loop (X := Nat) (fun zz => [(12, .int .i64 (zz : Nat)), (0, .pointer (some ⟨B, 0, none⟩)), (3, .pointer (some ⟨b3, 0, none⟩)), (6, .int .i64 (((addTo W r.p (lastN r.p)).idxOf (wayAt r.p.key (lastN r.p))) : Nat)), (10, .int .i64 (kstep r.p.key ((lastN r.p : Nat) : Int))), (11, .int .i64 (2 ^ openN r.p : Nat))]) (fun zz => blk B (tcells ⟨bits, ⟨s1, []⟩⟩) T :: own ncells 48 s1 (nodesP bits (addTo W r.p (lastN r.p)) R r zz) :: blk b3 (rcells r) 82 :: L) (fun zz => kst r.p.key (lastN r.p) ≤ zz ∧ zz ≤ kst r.p.key (lastN r.p) + 2 ^ openN r.p) (fun zz => kst r.p.key (lastN r.p) + 2 ^ openN r.p - zz) (kst r.p.key (lastN r.p)) ⟨Nat.le_refl _, Nat.le_add_right _ _⟩ (Sub.cons (look_eq rfl (by rw [hke])) (Sub.cons rfl (Sub.cons rfl (Sub.cons rfl (Sub.cons rfl (Sub.cons rfl (Sub.nil _))))))) (fun w hw => by rw [nodesP_start hWi hp1 hp2]; exact Keep.mem hw) ?_
    rintro f ⟨hf1, hf2⟩
    refine cw_seq ?_
    refine cw_seq ?_
    refine cw_region ?_
    refine sq_r (ry_move rfl) ?_
    refine sq_r (ry_move rfl) ?_
    refine sq_r (ry_move rfl) ?_
    refine sq_r (ry_add rfl rfl (by omega)) ?_
    refine sq_r (ry_int rfl rfl rfl) ?_
    refine sq_nil ?_
    refine ex_then ?_
    refine cw_cond rfl (fun h2 => ?_) (fun h2 => ?_)
    · try simp only [Bool.and_eq_true, Bool.or_eq_true, Bool.and_eq_false_iff, Bool.or_eq_false_iff, Bool.not_eq_true', Bool.not_eq_false', decide_eq_true_eq, decide_eq_false_iff_not, Bool.not_eq_true, Bool.not_eq_false] at h2
      refine cw_skip ?_
      refine ex_then ?_
      refine cw_seq ?_
      refine cw_block ?_
      refine cw_seq ?_
      refine cw_region ?_
      refine sq_r (ry_move rfl) ?_
      refine sq_r (ry_nilp rfl) ?_
      refine sq_r (ry_field (o' := 0) rfl rfl) ?_
      refine sq_r (ry_field (o' := 1) rfl rfl) ?_
      refine sq_r (ry_cellc rfl) ?_
      refine sq_r (ry_move rfl) ?_
      refine sq_r (ry_move rfl) ?_
      obtain ⟨n, hn⟩ := get_some (xs := (nodesP bits (addTo W r.p (lastN r.p)) R r f)) (i := ((addTo W r.p (lastN r.p)).idxOf (wayAt r.p.key (lastN r.p)))) (by rw [nodesP_length]; exact hil)
      refine sq_r (ry_idxH rfl rfl ((addTo W r.p (lastN r.p)).idxOf (wayAt r.p.key (lastN r.p))) rfl (by rw [nodesP_length]; exact hil)) ?_
      refine sq_r (ry_field rfl rfl) ?_
      refine sq_r (ry_idxA rfl rfl (by omega) (by omega)) ?_
      refine sq_r (ry_assign rfl) ?_
      refine sq_nil ?_
      refine ex_then ?_
      refine cw_seq ?_
      refine cw_quiet (by kernel_rfl) (by kernel_rfl) ?_
      refine qt_r (ry_move rfl) ?_
      refine qt_r (ry_nilp rfl) ?_
      refine qt_r (ry_field rfl rfl) ?_
      refine qt_r (ry_slen rfl ((addTo W r.p (lastN r.p)).idxOf (wayAt r.p.key (lastN r.p))) hn f (by omega) (by simp only [Nat.add_eq, Int.toNat_natCast, Nat.mul_one, Nat.zero_add, Nat.add_zero] <;> omega)) ?_
      refine qt_r (ry_field (o' := 0) rfl rfl) ?_
      refine qt_r (ry_field (o' := 1) rfl rfl) ?_
      refine qt_r (ry_cellc rfl) ?_
      refine qt_r (ry_int rfl rfl rfl) ?_
      refine qt_nil ?_
      refine ex_then ?_
      refine cw_cond rfl (fun h3 => ?_) (fun h3 => ?_)
      · try simp only [Bool.and_eq_true, Bool.or_eq_true, Bool.and_eq_false_iff, Bool.or_eq_false_iff, Bool.not_eq_true', Bool.not_eq_false', decide_eq_true_eq, decide_eq_false_iff_not, Bool.not_eq_true, Bool.not_eq_false] at h3
        refine cw_region ?_
        refine sq_r (ry_move rfl) ?_
        refine sq_r (ry_field (o' := 0) rfl rfl) ?_
        refine sq_r (ry_field (o' := 1) rfl rfl) ?_
        refine sq_r (ry_cellc rfl) ?_
        refine sq_r (ry_add rfl rfl (by omega)) ?_
        refine sq_r (ry_field (o' := 18) rfl rfl) ?_
        refine sq_r (ry_cellc rfl) ?_
        refine sq_r (ry_buildc rfl) ?_
        refine sq_r (ry_nilp rfl) ?_
        refine sq_stSl rfl rfl hn f (by omega) (by simp only [Nat.add_eq, Int.toNat_natCast, Nat.mul_one, Nat.zero_add, Nat.add_zero] <;> omega) ?_
        refine sq_nil ?_
        refine ex_block ?_
        refine ex_then ?_
        refine cw_region ?_
        refine sq_r (ry_move rfl) ?_
        refine sq_r (ry_add rfl rfl (by omega)) ?_
        refine sq_r (ry_assign rfl) ?_
        refine sq_nil ?_
        have hsl : (slotF bits R (wayAt r.p.key (lastN r.p)) f).len ≤ r.p.len := by rw [← nodesP_slot hix (by omega) hn]; exact h3
        exact ex_again (x := (f)) (f + 1) ⟨by first | omega | (simp only []; omega), by first | omega | (simp only []; omega)⟩ (by first | omega | (simp only []; omega)) (Sub.cons rfl (Sub.cons rfl (Sub.cons rfl (Sub.cons rfl (Sub.cons rfl (Sub.cons rfl (Sub.nil _))))))) (fun w hw => by rw [nodesP_put hWi hp1 hp2 hix hn hf1 (by omega) hsl] at hw; exact Keep.mem hw)
      · try simp only [Bool.and_eq_true, Bool.or_eq_true, Bool.and_eq_false_iff, Bool.or_eq_false_iff, Bool.not_eq_true', Bool.not_eq_false', decide_eq_true_eq, decide_eq_false_iff_not, Bool.not_eq_true, Bool.not_eq_false] at h3
        refine cw_skip ?_
        refine ex_block ?_
        refine ex_then ?_
        refine cw_region ?_
        refine sq_r (ry_move rfl) ?_
        refine sq_r (ry_add rfl rfl (by omega)) ?_
        refine sq_r (ry_assign rfl) ?_
        refine sq_nil ?_
        have hsl : ¬ (slotF bits R (wayAt r.p.key (lastN r.p)) f).len ≤ r.p.len := by rw [← nodesP_slot hix (by omega) hn]; exact h3
        exact ex_again (x := (f)) (f + 1) ⟨by first | omega | (simp only []; omega), by first | omega | (simp only []; omega)⟩ (by first | omega | (simp only []; omega)) (Sub.cons rfl (Sub.cons rfl (Sub.cons rfl (Sub.cons rfl (Sub.cons rfl (Sub.cons rfl (Sub.nil _))))))) (fun w hw => by rw [nodesP_keep hWi hsl]; exact Keep.mem hw)
    · try simp only [Bool.and_eq_true, Bool.or_eq_true, Bool.and_eq_false_iff, Bool.or_eq_false_iff, Bool.not_eq_true', Bool.not_eq_false', decide_eq_true_eq, decide_eq_false_iff_not, Bool.not_eq_true, Bool.not_eq_false] at h2
      obtain rfl : f = kst r.p.key (lastN r.p) + 2 ^ openN r.p := by omega
      refine cw_exit ?_
      refine ex_pass_exit ?_
      refine ex_pass_exit ?_
      refine ex_block_hit ?_
      refine ex_then ?_
      refine cw_seq ?_
      refine cw_region ?_
      refine sq_r (ry_assign rfl) ?_
      refine sq_nil ?_
      refine ex_then ?_
      refine cw_ret ?_
      refine ex_ret (.inl rfl) (res_1 rfl (rv_tmp rfl)) (fun w1 hw => ?_)
      exact ⟨(s1, nodesP bits (addTo W r.p (lastN r.p)) R r (kst r.p.key (lastN r.p) + 2 ^ openN r.p)), by rw [decide_eq_true hi2], fun _ => nodesP_end hWi hp1 hp2, Keep.mem hw⟩
instance tadd_i {w0 : World} {L R1 L2 : List Ent} {i j : Nat} {B : Nat} {T : TypeId} {bits : Int} {s : Sv} {W : List Wy} {R : List Rt} {r : Rt} [h : Has L B (tcells ⟨bits, ⟨s, []⟩⟩) T i] [d1 : DelI L i R1] [q : Owns R1 s ncells 48 (nodes bits W R) j] [d2 : DelI R1 j L2] : FnC Try.prog 81 w0 L [.pointer (some ⟨B, 0, none⟩), .agg (rcells r)] (Sv × List Nd) (fun zz => .bool (decide ((addTo W r.p (lastN r.p)).length ≤ 512))) (fun zz => blk B (tcells ⟨bits, ⟨zz.1, []⟩⟩) T :: own ncells 48 zz.1 zz.2 :: L2) (fun zz => (addTo W r.p (lastN r.p)).length ≤ 512 → zz.2 = nodes bits (addTo W r.p (lastN r.p)) (R ++ [r])) (pmay r.p = true ∧ r.p.bits = bits ∧ WOk W ∧ Holds' bits W R ∧ W.length ≤ 512) := ⟨fun hp w hw => tadd_c w0 w L2 B T bits s W R r (mem_two h.h d1.h q.h d2.h hw) hp⟩

end Go.Proofs.Ytembaconocgmlaa
