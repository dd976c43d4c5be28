/- The functions of package key, walked. -/
import Derived.Test.YtldkgicmfbofiaaDoorKinst
set_option linter.unusedSimpArgs false
set_option linter.unusedVariables false
namespace Go.Proofs.YtldkgicmfbofiaaDoor
open Go.Eng Go.Kb

theorem tab8 (s : ByteArray) (hs : (List.range 256).all (fun j => (s[j]?).map (·.toNat) == some (len8 j)) = true) (x : Nat) (hx : x < 256) : (s[(x : Int).toNat]?).map (·.toNat) = some (len8 x) := by
  have := List.all_eq_true.1 hs x (List.mem_range.2 hx)
  simpa using this
theorem fits_no {p : Pfx} {k : Key} {n : Nat} (h : ((decide ((n : Int) < p.len) && !decide (kbit p.key n = kbit k n)) || (decide (p.bits ≤ (n : Int)) && !decide (kbit k n = 0))) = false) :
    ((n : Int) < p.len → p.key.getMsbD n = k.getMsbD n) ∧ (p.bits ≤ (n : Int) → k.getMsbD n = false) := by
  simp only [Bool.or_eq_false_iff, Bool.and_eq_false_imp, decide_eq_true_eq, Bool.not_eq_false', kbit_same] at h
  refine ⟨h.1, fun hb => ?_⟩
  have := h.2 hb
  rw [kbit_nat] at this
  cases e : k.getMsbD n with
  | false => rfl
  | true => rw [e] at this; simp at this
theorem fits_yes {p : Pfx} {k : Key} {n : Nat} (h : ((decide ((n : Int) < p.len) && !decide (kbit p.key n = kbit k n)) || (decide (p.bits ≤ (n : Int)) && !decide (kbit k n = 0))) = true) :
    ¬ (((n : Int) < p.len → p.key.getMsbD n = k.getMsbD n) ∧ (p.bits ≤ (n : Int) → k.getMsbD n = false)) := by
  rintro ⟨h1, h2⟩
  simp only [Bool.or_eq_true, Bool.and_eq_true, decide_eq_true_eq, Bool.not_eq_true', decide_eq_false_iff_not, kbit_same] at h
  rcases h with ⟨h3, h4⟩ | ⟨h3, h4⟩
  · exact h4 (h1 h3)
  · refine h4 ?_
    rw [kbit_nat, h2 h3]; rfl

set_option maxRecDepth 20000 in
theorem kind_c (n : Int) : PureFn Tryd.prog 35 [.int .i64 n] (.bool (decide (n = 32) || decide (n = 128))) := ⟨fun w => by
  refine calls_of (args := [_]) Tryd.func35 rfl Tryd.ntmps35 rfl ?_
  change Cw _ _ _ _ _ [(0, .int .i64 n)] []
  refine cw_seq ?_
  refine cw_region ?_
  refine sq_r (ry_assign rfl) ?_
  refine sq_nil ?_
  refine ex_then ?_
  refine cw_seq ?_
  refine cw_region ?_
  refine sq_r (ry_move rfl) ?_
  refine sq_r (ry_int rfl rfl rfl) ?_
  refine sq_r (ry_move rfl) ?_
  refine sq_gf rfl rfl rfl (fun hg => (ry_move rfl).yl) ?_
  refine sq_gf rfl rfl rfl (fun hg => (ry_int (ev_c hg rfl) rfl rfl).yl) ?_
  refine sq_r (ry_or rfl rfl rfl) ?_
  refine sq_r (ry_assign rfl) ?_
  refine sq_nil ?_
  refine ex_then ?_
  refine cw_ret ?_
  refine ex_ret (.inl rfl) (res_tmp rfl rfl) (fun w hw => ?_)
  exact ⟨rfl, hw.sub (List.nil_sublist _)⟩⟩
instance kind_i (n : Int) : PureFn Tryd.prog 35 [.int .i64 n] (.bool (decide (n = 32) || decide (n = 128))) := kind_c n


set_option maxRecDepth 20000 in
theorem rbit_c (k : Key) (n : Int) : PureFn Tryd.prog 37 [.agg (kcells k), .int .i64 n] (.int .i64 (kbit k n)) := ⟨fun w => by
  refine calls_of (args := [_, _]) Tryd.func37 rfl Tryd.ntmps37 rfl ?_
  change Cw _ _ _ _ _ [(0, .agg (kcells k)), (1, .int .i64 n)] []
  refine cw_seq ?_
  refine cw_region ?_
  refine sq_boxA rfl fun b2 => ?_
  refine sq_r (ry_assign rfl) ?_
  refine sq_nil ?_
  refine ex_then ?_
  refine cw_seq ?_
  refine cw_seq ?_
  refine cw_region ?_
  refine sq_r (ry_move rfl) ?_
  refine sq_r (ry_int rfl rfl rfl) ?_
  refine sq_r (ry_move rfl) ?_
  refine sq_gf rfl rfl rfl (fun hg => (ry_move rfl).yl) ?_
  refine sq_gf rfl rfl rfl (fun hg => (ry_int (ev_c hg rfl) rfl rfl).yl) ?_
  refine sq_r (ry_or rfl rfl rfl) ?_
  refine sq_nil ?_
  refine ex_then ?_
  refine cw_cond rfl (fun h0 => ?_) (fun h0 => ?_)
  · simp at h0
    refine cw_seq ?_
    refine cw_region ?_
    refine sq_r (ry_assign rfl) ?_
    refine sq_nil ?_
    refine ex_then ?_
    refine cw_ret ?_
    refine ex_pass_ret ?_
    refine ex_ret (.inl rfl) (res_tmp rfl rfl) (fun w hw => ?_)
    exact ⟨by rw [kbit_out k n (by omega)], hw.sub (List.nil_sublist _)⟩
  · simp at h0
    have hb := kbyte_lt k (n / 8).toNat
    refine cw_skip ?_
    refine ex_then ?_
    refine cw_seq ?_
    refine cw_region ?_
    refine sq_r (ry_move rfl) ?_
    refine sq_r (ry_quo rfl rfl (by omega) (by omega)) ?_
    refine sq_r (ry_idxA1 rfl rfl (by omega) (by omega)) ?_
    refine sq_r (ry_cell rfl (kcells_get _ _ (by omega))) ?_
    refine sq_r (ry_convn rfl (Nat.lt_of_lt_of_le (kbyte_lt _ _) (by decide))) ?_
    refine sq_r (ry_assign rfl) ?_
    refine sq_nil ?_
    refine ex_then ?_
    refine cw_seq ?_
    refine cw_seq ?_
    refine cw_region ?_
    refine sq_r (ry_move rfl) ?_
    refine sq_r (ry_rem rfl rfl (by omega) (by omega)) ?_
    refine sq_r (ry_assign rfl) ?_
    refine sq_nil ?_
    refine ex_then ?_
    refine cw_block ?_
    refine cw_loop (X := Int) (fun i => [(6, .int .i64 i), (5, .int .i64 ((kbyte k (n / 8).toNat / 2 ^ (i - n % 8).toNat : Nat) : Int))]) (fun i => [blk b2 (kcells k) 23]) (fun i => n % 8 ≤ i ∧ i ≤ 7) (fun i => (7 - i).toNat) (n % 8) (by omega) (Sub.cons rfl (Sub.cons (look_eq rfl (by rw [Int.sub_self]; simp)) (Sub.nil _))) (fun w hw => hw) ?_
    rintro i hI
    have hd : kbyte k (n / 8).toNat / 2 ^ (i - n % 8).toNat < 256 := Nat.lt_of_le_of_lt (Nat.div_le_self _ _) hb
    have hd0 : (0 : Int) ≤ ((kbyte k (n / 8).toNat / 2 ^ (i - n % 8).toNat : Nat) : Int) := Int.natCast_nonneg _
    refine cw_seq ?_
    refine cw_seq ?_
    refine cw_region ?_
    refine sq_r (ry_move rfl) ?_
    refine sq_r (ry_int rfl rfl rfl) ?_
    refine sq_nil ?_
    refine ex_then ?_
    refine cw_cond rfl (fun h1 => ?_) (fun h1 => ?_)
    · have h1 := of_decide_eq_true h1
      refine cw_skip ?_
      refine ex_then ?_
      refine cw_seq ?_
      refine cw_block ?_
      refine cw_region ?_
      refine sq_r (ry_move rfl) ?_
      refine sq_r (ry_quo rfl rfl (by omega) (by omega)) ?_
      refine sq_r (ry_assign rfl) ?_
      refine sq_nil ?_
      refine ex_block ?_
      refine ex_then ?_
      refine cw_region ?_
      refine sq_r (ry_move rfl) ?_
      refine sq_r (ry_add rfl rfl (by omega)) ?_
      refine sq_r (ry_assign rfl) ?_
      refine sq_nil ?_
      exact ex_again (i + 1) (by omega) (by omega) (Sub.cons rfl (Sub.cons (look_eq rfl (by rw [show (i + 1 - n % 8).toNat = (i - n % 8).toNat + 1 by omega, Nat.pow_succ, ← Nat.div_div_eq_div_mul]; rfl)) (Sub.nil _))) (fun w hw => hw)
    · have h1 := of_decide_eq_false h1
      refine cw_exit ?_
      refine ex_pass_exit ?_
      refine ex_pass_exit ?_
      refine ex_block_hit ?_
      refine ex_then ?_
      refine cw_seq ?_
      refine cw_region ?_
      refine sq_r (ry_move rfl) ?_
      refine sq_r (ry_rem rfl rfl (by omega) (by omega)) ?_
      refine sq_r (ry_assign rfl) ?_
      refine sq_nil ?_
      refine ex_then ?_
      refine cw_ret ?_
      refine ex_ret (.inl rfl) (res_tmp rfl rfl) (fun w hw => ?_)
      exact ⟨by rw [kbit_eq k n (by omega) (by omega), show i = 7 by omega]; rfl, hw.sub (List.nil_sublist _)⟩⟩
instance rbit_i (k : Key) (n : Int) : PureFn Tryd.prog 37 [.agg (kcells k), .int .i64 n] (.int .i64 (kbit k n)) := rbit_c k n


theorem cut_whole (k : Key) (h : Nat) (hh : h ≤ 16) : over (kcells 0#128) 0 ((kcells k).extract 0 h) = kcells (kcut k ((8 * h : Nat) : Int)) := by
  refine eq_kcells (by simp [over, kcells_size]; omega) fun i hi => ?_
  have hl : ((kcells k).extract 0 h).size = h := by simp [kcells_size]; omega
  rw [kbyte_kcut k (8 * h) i hi]
  simp only [over, hl, List.take_zero, List.nil_append, Nat.zero_add, List.getElem?_toArray]
  by_cases h1 : i < h
  · rw [List.getElem?_append_left (by simp [kcells_size]; omega), if_pos (by omega)]
    have := kcells_get k i hi
    simpa [h1] using this
  · rw [List.getElem?_append_right (by simp [kcells_size]; omega), if_neg (by omega)]
    have h2 : (kcells 0#128)[i]? = some (.int .u8 ((0 : Nat) : Int)) := by rw [kcells_get _ i hi]; simp [kbyte]
    simp only [Array.length_toList, hl, List.getElem?_drop, show h + (i - h) = i by omega]
    rw [Array.getElem?_toList, h2]
    by_cases h3 : 8 * i ≤ 8 * h
    · rw [if_pos h3, show 8 - (8 * h - 8 * i) = 8 by omega, Nat.div_eq_of_lt (kbyte_lt k i), Nat.zero_mul]
    · rw [if_neg h3]
theorem andNot_byte (b r : Nat) (hb : b < 256) (hr : r ≤ 8) : intOp .andNot .u8 b ((255 / 2 ^ r : Nat) : Int) = some (.int .u8 ((b / 2 ^ (8 - r) * 2 ^ (8 - r) : Nat) : Int)) := by
  have hm : 255 / 2 ^ r < 256 := Nat.lt_of_le_of_lt (Nat.div_le_self _ _) (by omega)
  rw [intOp_andNot hb hm]
  have key : b &&& (256 - 1 - 255 / 2 ^ r) = b / 2 ^ (8 - r) * 2 ^ (8 - r) := by
    have e1 : 255 / 2 ^ r = 2 ^ (8 - r) - 1 := by
      match r, hr with
      | 0, _ | 1, _ | 2, _ | 3, _ | 4, _ | 5, _ | 6, _ | 7, _ | 8, _ => rfl
      | n + 9, h => omega
    rw [e1]
    apply Nat.eq_of_testBit_eq
    intro j
    have e2 : 256 - 1 - (2 ^ (8 - r) - 1) = 2 ^ 8 - (2 ^ (8 - r) - 1 + 1) := by omega
    rw [Nat.testBit_and, e2, Nat.testBit_two_pow_sub_succ (by have : 2 ^ (8 - r) ≤ 2 ^ 8 := Nat.pow_le_pow_right (by decide) (by omega); have := Nat.two_pow_pos (8 - r); omega), Nat.testBit_two_pow_sub_one, Nat.testBit_mul_two_pow, Nat.testBit_div_two_pow]
    by_cases hj : 8 - r ≤ j
    · simp only [hj, show ¬ j < 8 - r by omega, decide_true, decide_false, Bool.not_false, Bool.and_true, Bool.true_and, show j - (8 - r) + (8 - r) = j by omega]
      by_cases h8 : j < 8
      · simp [h8]
      · have : b.testBit j = false := Nat.testBit_lt_two_pow (Nat.lt_of_lt_of_le hb (by have := Nat.pow_le_pow_right (n := 2) (by decide) (show 8 ≤ j by omega); simpa using this))
        simp [this]
    · simp [hj, show j < 8 - r by omega]
  show some (Value.int .u8 ((b &&& (256 - 1 - 255 / 2 ^ r) : Nat) : Int)) = _
  rw [key]
theorem cut_part (k : Key) (n : Int) (h0 : 1 ≤ n) (h1 : n < 128) (h2 : 0 < n % 8) : (kcells (kcut k ((8 * (n / 8).toNat : Nat) : Int))).setIfInBounds (n / 8).toNat (.int .u8 ((kbyte k (n / 8).toNat / 2 ^ (8 - (n % 8).toNat) * 2 ^ (8 - (n % 8).toNat) : Nat) : Int)) = kcells (kcut k n) := by
  have hb := kbyte_lt k (n / 8).toNat
  rw [kcells_set _ _ _ (by omega) (Nat.lt_of_le_of_lt (Nat.div_mul_le_self _ _) hb)]
  congr 1
  refine key_ext_byte fun i hi => ?_
  rw [kbyte_kset _ _ _ i hi (Nat.lt_of_le_of_lt (Nat.div_mul_le_self _ _) hb), kbyte_kcut k _ i hi]
  have e : kcut k n = kcut k ((n.toNat : Nat) : Int) := by rw [Int.toNat_of_nonneg (by omega)]
  rw [e, kbyte_kcut k n.toNat i hi]
  by_cases hj : i = (n / 8).toNat
  · rw [if_pos hj, if_neg (by omega), if_pos (by omega), hj, show n.toNat - 8 * (n / 8).toNat = (n % 8).toNat by omega]
  · rw [if_neg hj]
    by_cases hlt : i < (n / 8).toNat
    · rw [if_pos (by omega), if_pos (by omega)]
    · rw [if_neg (by omega), if_neg (by omega), if_neg (by omega), if_neg (by omega)]
theorem cut_even (k : Key) (n : Int) (h0 : 1 ≤ n) (h2 : ¬ 0 < n % 8) : kcut k ((8 * (n / 8).toNat : Nat) : Int) = kcut k n := by
  congr 1; omega

set_option maxRecDepth 20000 in
theorem cut_c (k : Key) (n : Int) : PureFn Tryd.prog 36 [.agg (kcells k), .int .i64 n] (.agg (kcells (kcut k n))) := ⟨fun w => by
  refine calls_of (args := [_, _]) Tryd.func36 rfl Tryd.ntmps36 rfl ?_
  change Cw _ _ _ _ _ [(0, .agg (kcells k)), (1, .int .i64 n)] []
  refine cw_seq ?_
  refine cw_region ?_
  refine sq_boxA rfl fun b2 => ?_
  refine sq_allocA fun b4 => ?_
  refine sq_nil ?_
  refine ex_then ?_
  refine cw_seq ?_
  refine cw_seq ?_
  refine cw_region ?_
  refine sq_r (ry_move rfl) ?_
  refine sq_r (ry_int rfl rfl rfl) ?_
  refine sq_nil ?_
  refine ex_then ?_
  refine cw_cond rfl (fun h0 => ?_) (fun h0 => ?_)
  · have h0 := of_decide_eq_true h0
    refine cw_seq ?_
    refine cw_region ?_
    refine sq_r (ry_whole rfl) ?_
    refine sq_storeW rfl rfl ?_
    refine sq_nil ?_
    refine ex_then ?_
    refine cw_ret ?_
    refine ex_pass_ret ?_
    refine ex_ret (.inl rfl) (res_cell rfl rfl) (fun w hw => ?_)
    exact ⟨by rw [kcut_all k n (by omega)], hw.sub (List.nil_sublist _)⟩
  · have h0 := of_decide_eq_false h0
    refine cw_skip ?_
    refine ex_then ?_
    refine cw_seq ?_
    refine cw_region ?_
    refine sq_allocA fun b5 => ?_
    refine sq_nil ?_
    refine ex_then ?_
    refine cw_seq ?_
    refine cw_seq ?_
    refine cw_region ?_
    refine sq_r (ry_move rfl) ?_
    refine sq_r (ry_int rfl rfl rfl) ?_
    refine sq_nil ?_
    refine ex_then ?_
    refine cw_cond rfl (fun h1 => ?_) (fun h1 => ?_)
    · have h1 := of_decide_eq_true h1
      refine cw_seq ?_
      refine cw_region ?_
      refine sq_r (ry_whole rfl) ?_
      refine sq_storeW rfl rfl ?_
      refine sq_nil ?_
      refine ex_then ?_
      refine cw_ret ?_
      refine ex_pass_ret ?_
      refine ex_ret (.inl rfl) (res_cell rfl rfl) (fun w hw => ?_)
      exact ⟨by rw [kcut_none k n (by omega)], hw.sub (List.nil_sublist _)⟩
    · have h1 := of_decide_eq_false h1
      refine cw_skip ?_
      refine ex_then ?_
      refine cw_seq ?_
      refine cw_region ?_
      refine sq_r (ry_move rfl) ?_
      refine sq_r (ry_quo rfl rfl (by omega) (by omega)) ?_
      refine sq_r (ry_assign rfl) ?_
      refine sq_nil ?_
      refine ex_then ?_
      refine cw_seq ?_
      refine cw_tail 4 [] (by kernel_rfl) (by kernel_rfl) ?_
      simp only [List.take_succ_cons, List.take_zero]
      refine qt_r (ry_move rfl) ?_
      refine qt_r (ry_sliceA_hi rfl rfl (by omega) (by omega)) ?_
      refine qt_r (ry_move rfl) ?_
      refine qt_r (ry_sliceA_hi rfl rfl (by omega) (by omega)) ?_
      refine qt_end ?_
      refine fr_nil ?_
      simp only [List.drop_succ_cons, List.drop_zero]
      refine sq_copy (vs := (kcells k).extract 0 (n / 8).toNat) rfl rfl (by have e : Nat.min (n / 8).toNat (n / 8).toNat = (n / 8).toNat := Nat.min_self _; rw [e, Array.size_extract, kcells_size]; omega) (fun w hw j hj => by rw [Addr.add_none, hw.cell (Has.h (b := b2)), Nat.zero_add]; simp at hj; simp [hj]) (all_ext (SizeIs.one (cs := kcells k)) _ _) (by rw [Array.size_extract, kcells_size, kcells_size]; omega) (cut_whole k _ (by omega)) ?_
      refine sq_nil ?_
      refine ex_then ?_
      refine cw_seq ?_
      refine cw_seq ?_
      refine cw_region ?_
      refine sq_r (ry_move rfl) ?_
      refine sq_r (ry_rem rfl rfl (by omega) (by omega)) ?_
      refine sq_r (ry_assign rfl) ?_
      refine sq_nil ?_
      refine ex_then ?_
      refine cw_seq ?_
      refine cw_region ?_
      refine sq_r (ry_move rfl) ?_
      refine sq_r (ry_int rfl rfl rfl) ?_
      refine sq_nil ?_
      refine ex_then ?_
      refine cw_cond rfl (fun h2 => ?_) (fun h2 => ?_)
      · have h2 := of_decide_eq_true h2
        refine cw_tail 8 [] (by kernel_rfl) (by kernel_rfl) ?_
        simp only [List.take_succ_cons, List.take_zero]
        refine qt_r (ry_move rfl) ?_
        refine qt_r (ry_move rfl) ?_
        refine qt_r (ry_idxA1 rfl rfl (by omega) (by omega)) ?_
        refine qt_r (ry_cell rfl (kcells_get _ _ (by omega))) ?_
        refine qt_r (ry_move rfl) ?_
        refine qt_r (ry_shr (p := 255) rfl rfl (by decide) (by omega)) ?_
        refine qt_r (ry_int rfl rfl (andNot_byte _ _ (kbyte_lt _ _) (by omega))) ?_
        refine qt_r (ry_idxA1 rfl rfl (by omega) (by omega)) ?_
        refine qt_end ?_
        refine fr_nil ?_
        simp only [List.drop_succ_cons, List.drop_zero]
        refine sq_store rfl rfl (by rw [kcells_size]; omega) rfl (cut_part k n (by omega) (by omega) h2) ?_
        refine sq_nil ?_
        refine ex_then ?_
        refine cw_seq ?_
        refine cw_region ?_
        refine sq_r (ry_whole rfl) ?_
        refine sq_storeW rfl rfl ?_
        refine sq_nil ?_
        refine ex_then ?_
        refine cw_ret ?_
        refine ex_ret (.inl rfl) (res_cell rfl rfl) (fun w hw => ?_)
        exact ⟨rfl, hw.sub (List.nil_sublist _)⟩
      · have h2 := of_decide_eq_false h2
        refine cw_skip ?_
        refine ex_then ?_
        refine cw_seq ?_
        refine cw_region ?_
        refine sq_r (ry_whole rfl) ?_
        refine sq_storeW rfl rfl ?_
        refine sq_nil ?_
        refine ex_then ?_
        refine cw_ret ?_
        refine ex_ret (.inl rfl) (res_cell rfl rfl) (fun w hw => ?_)
        exact ⟨by rw [cut_even k n (by omega) h2], hw.sub (List.nil_sublist _)⟩⟩
instance cut_i (k : Key) (n : Int) : PureFn Tryd.prog 36 [.agg (kcells k), .int .i64 n] (.agg (kcells (kcut k n))) := cut_c k n


theorem cut_step_same (k : Key) (i : Int) (h : kbit k i ≠ 1) : kcut k (i + 1) = kcut k i := key_ext fun n hn => by
  rw [kcut_msb, kcut_msb]
  by_cases e : (n : Int) = i
  · have : k.getMsbD n = false := by
      have h2 : kbit k (n : Int) = if k.getMsbD n then 1 else 0 := kbit_nat k n
      rw [e] at h2
      cases hb : k.getMsbD n with
      | false => rfl
      | true => rw [hb] at h2; exact absurd h2 h
    simp [this]
  · have : ((n : Int) < i + 1) = ((n : Int) < i) := by rw [eq_iff_iff]; omega
    simp [this]
theorem pow_halves (r : Nat) (hr : r < 8) (b : Nat) : b / 2 ^ (7 - r) * 2 ^ (7 - r) = b / 2 ^ (8 - r) * 2 ^ (8 - r) + b / 2 ^ (7 - r) % 2 * 2 ^ (7 - r) := by
  rw [show 8 - r = (7 - r) + 1 by omega, Nat.pow_succ, ← Nat.div_div_eq_div_mul]
  generalize b / 2 ^ (7 - r) = q
  generalize 2 ^ (7 - r) = m
  rw [show q / 2 * (m * 2) = q / 2 * 2 * m by rw [Nat.mul_assoc, Nat.mul_comm m 2], ← Nat.add_mul]
  congr 1; omega
theorem cut_step_byte (k : Key) (i : Int) (h0 : 0 ≤ i) (h1 : i < 128) (h : kbit k i = 1) : kbyte (kcut k i) (i / 8).toNat + 2 ^ (7 - i % 8).toNat = kbyte (kcut k (i + 1)) (i / 8).toNat := by
  obtain ⟨m, rfl⟩ := Int.eq_ofNat_of_zero_le h0
  rw [show (m : Int) + 1 = ((m + 1 : Nat) : Int) by omega, kbyte_kcut k m _ (by omega), kbyte_kcut k (m + 1) _ (by omega)]
  rw [kbit_eq k _ h0 h1] at h
  have hb : kbyte k ((m : Int) / 8).toNat / 2 ^ (7 - (m : Int) % 8).toNat % 2 = 1 := by omega
  generalize hj : ((m : Int) / 8).toNat = j at *
  generalize hr : (7 - (m : Int) % 8).toNat = r at *
  have hp := pow_halves (7 - r) (by omega) (kbyte k j)
  rw [show 7 - (7 - r) = r by omega, show 8 - (7 - r) = r + 1 by omega, hb, Nat.one_mul] at hp
  rw [if_neg (by omega), if_pos (by omega), show 8 - (m - 8 * j) = r + 1 by omega, ← hp]
  by_cases h7 : 8 * j + 8 ≤ m + 1
  · rw [if_pos h7, show r = 0 by omega, Nat.pow_zero, Nat.div_one, Nat.mul_one]
  · rw [if_neg h7, if_pos (by omega), show 8 - (m + 1 - 8 * j) = r by omega]
theorem cut_step_set (k : Key) (i : Int) (h0 : 0 ≤ i) (h1 : i < 128) (h : kbit k i = 1) : (kcells (kcut k i)).setIfInBounds (i / 8).toNat (.int .u8 ((kbyte (kcut k i) (i / 8).toNat + 2 ^ (7 - i % 8).toNat : Nat) : Int)) = kcells (kcut k (i + 1)) := by
  rw [cut_step_byte k i h0 h1 h, kcells_set _ _ _ (by omega) (kbyte_lt _ _)]
  congr 1
  refine key_ext_byte fun n hn => ?_
  rw [kbyte_kset _ _ _ n hn (kbyte_lt _ _)]
  by_cases e : n = (i / 8).toNat
  · rw [if_pos e, e]
  · rw [if_neg e]
    obtain ⟨m, rfl⟩ := Int.eq_ofNat_of_zero_le h0
    rw [show (m : Int) + 1 = ((m + 1 : Nat) : Int) by omega, kbyte_kcut k m _ hn, kbyte_kcut k (m + 1) _ hn]
    by_cases h2 : 8 * n + 8 ≤ m
    · rw [if_pos h2, if_pos (by omega)]
    · have h3 : ¬ 8 * n ≤ m := fun h3 => e (by omega)
      rw [if_neg h2, if_neg h3, if_neg (show ¬ 8 * n + 8 ≤ m + 1 by omega)]
      by_cases h4 : 8 * n ≤ m + 1
      · rw [if_pos h4, show 8 - (m + 1 - 8 * n) = 8 by omega, Nat.div_eq_of_lt (kbyte_lt k n), Nat.zero_mul]
      · rw [if_neg h4]
theorem cut_end (k : Key) (n i : Int) (h0 : 0 ≤ i) (h1 : i ≤ 128) (h2 : i ≤ n ∨ i = 0) (h : ¬ (i < 128 ∧ i < n)) : kcut k i = kcut k n := by
  refine key_ext fun m hm => ?_
  rw [kcut_msb, kcut_msb]
  congr 1
  rw [decide_eq_decide]; omega
theorem pow_half (j : Int) (h0 : 0 ≤ j) (h : j < 8) : ((2 ^ (7 - j).toNat : Nat) : Int) / 2 = if j = 7 then 0 else ((2 ^ (7 - (j + 1)).toNat : Nat) : Int) := by
  have : (7 - j).toNat = 7 - j.toNat := by omega
  obtain ⟨m, rfl⟩ := Int.eq_ofNat_of_zero_le h0
  match m, h with
  | 0, _ | 1, _ | 2, _ | 3, _ | 4, _ | 5, _ | 6, _ | 7, _ => rfl




theorem lz8_aux (x : Nat) (hx : x < 256) : (8 : Int) - (len8 x : Int) = ((8 - len8 x : Nat) : Int) := by have := len8_le x hx; omega





set_option maxRecDepth 20000 in
theorem rstep_c (k : Key) (n : Int) : PureFn Tryd.prog 25 [.agg (kcells k), .int .i64 n] (.int .i64 (kstep k n)) := ⟨fun w => by
  refine calls_of (args := [_, _]) Tryd.func25 rfl Tryd.ntmps25 rfl ?_
  change Cw _ _ _ _ _ [(0, .agg (kcells k)), (1, .int .i64 n)] []
  refine cw_seq ?_
  refine cw_region ?_
  refine sq_boxA rfl fun b2 => ?_
  refine sq_r (ry_assign rfl) ?_
  refine sq_nil ?_
  refine ex_then ?_
  refine cw_seq ?_
  refine cw_seq ?_
  refine cw_region ?_
  refine sq_r (ry_move rfl) ?_
  refine sq_r (ry_int rfl rfl rfl) ?_
  refine sq_r (ry_move rfl) ?_
  refine sq_gf rfl rfl rfl (fun hg => (ry_move rfl).yl) ?_
  refine sq_gf rfl rfl rfl (fun hg => (ry_int (ev_c hg rfl) rfl rfl).yl) ?_
  refine sq_r (ry_or rfl rfl rfl) ?_
  refine sq_nil ?_
  refine ex_then ?_
  refine cw_cond rfl (fun h0 => ?_) (fun h0 => ?_)
  · simp at h0
    refine cw_seq ?_
    refine cw_region ?_
    refine sq_r (ry_assign rfl) ?_
    refine sq_nil ?_
    refine ex_then ?_
    refine cw_ret ?_
    refine ex_pass_ret ?_
    refine ex_ret (.inl rfl) (res_tmp rfl rfl) (fun w hw => ?_)
    exact ⟨by rw [kstep_out k n (by omega)], hw.sub (List.nil_sublist _)⟩
  · simp at h0
    have q0 := kbit_01 k (4 * n)
    have q1 := kbit_01 k (4 * n + 1)
    have q2 := kbit_01 k (4 * n + 2)
    have q3 := kbit_01 k (4 * n + 3)
    refine cw_skip ?_
    refine ex_then ?_
    refine cw_seq ?_
    refine cw_quiet (by kernel_rfl) (by kernel_rfl) ?_
    refine qt_r (ry_whole rfl) ?_
    refine qt_r (ry_move rfl) ?_
    refine qt_r (ry_mul rfl rfl (by omega)) ?_
    refine qt_y (yl_pure rfl) ?_
    refine qt_r (ry_mul rfl rfl (by omega)) ?_
    refine qt_r (ry_whole rfl) ?_
    refine qt_r (ry_move rfl) ?_
    refine qt_r (ry_mul rfl rfl (by omega)) ?_
    refine qt_r (ry_add rfl rfl (by omega)) ?_
    refine qt_y (yl_pure rfl) ?_
    refine qt_r (ry_mul rfl rfl (by omega)) ?_
    refine qt_r (ry_add rfl rfl (by omega)) ?_
    refine qt_r (ry_whole rfl) ?_
    refine qt_r (ry_move rfl) ?_
    refine qt_r (ry_mul rfl rfl (by omega)) ?_
    refine qt_r (ry_add rfl rfl (by omega)) ?_
    refine qt_y (yl_pure rfl) ?_
    refine qt_r (ry_mul rfl rfl (by omega)) ?_
    refine qt_r (ry_add rfl rfl (by omega)) ?_
    refine qt_r (ry_whole rfl) ?_
    refine qt_r (ry_move rfl) ?_
    refine qt_r (ry_mul rfl rfl (by omega)) ?_
    refine qt_r (ry_add rfl rfl (by omega)) ?_
    refine qt_y (yl_pure rfl) ?_
    refine qt_r (ry_add rfl rfl (by omega)) ?_
    refine qt_r (ry_assign rfl) ?_
    refine qt_nil ?_
    refine ex_then ?_
    refine cw_ret ?_
    refine ex_ret (.inl rfl) (res_tmp rfl rfl) (fun w hw => ?_)
    exact ⟨by rw [kstep, if_pos (by omega)], hw.sub (List.nil_sublist _)⟩⟩
instance rstep_i (k : Key) (n : Int) : PureFn Tryd.prog 25 [.agg (kcells k), .int .i64 n] (.int .i64 (kstep k n)) := rstep_c k n

set_option maxRecDepth 20000 in
theorem may_c (p : Pfx) : PureFn Tryd.prog 22 [.agg (pcells p)] (.bool (pmay p)) := ⟨fun w => by
  refine calls_of (args := [_]) Tryd.func22 rfl Tryd.ntmps22 rfl ?_
  change Cw _ _ _ _ _ [(0, .agg (pcells p))] []
  refine cw_seq ?_
  refine cw_region ?_
  refine sq_boxA rfl fun b1 => ?_
  refine sq_r (ry_assign rfl) ?_
  refine sq_nil ?_
  refine ex_then ?_
  refine cw_seq ?_
  refine cw_seq ?_
  refine cw_region ?_
  refine sq_r (ry_field (o' := 0) rfl rfl) ?_
  refine sq_r (ry_cellc rfl) ?_
  refine sq_y (yl_pure rfl) ?_
  refine sq_r (ry_not rfl) ?_
  refine sq_r (ry_move rfl) ?_
  refine sq_gf rfl rfl rfl (fun hg => (ry_field (o' := 1) rfl rfl).yl) ?_
  refine sq_gf rfl rfl rfl (fun hg => (ry_cellc (ev_c hg rfl)).yl) ?_
  refine sq_gf rfl rfl rfl (fun hg => (ry_int (ev_c hg rfl) rfl rfl).yl) ?_
  refine sq_r (ry_or rfl rfl rfl) ?_
  refine sq_r (ry_move rfl) ?_
  refine sq_gf rfl rfl rfl (fun hg => (ry_field (o' := 1) rfl rfl).yl) ?_
  refine sq_gf rfl rfl rfl (fun hg => (ry_cellc (ev_c hg rfl)).yl) ?_
  refine sq_gf rfl rfl rfl (fun hg => (ry_field (o' := 0) rfl rfl).yl) ?_
  refine sq_gf rfl rfl rfl (fun hg => (ry_cellc (ev_c hg rfl)).yl) ?_
  refine sq_gf rfl rfl rfl (fun hg => (ry_int (ev_c hg rfl) (ev_c hg rfl) rfl).yl) ?_
  refine sq_r (ry_or rfl rfl rfl) ?_
  refine sq_nil ?_
  refine ex_then ?_
  refine cw_cond rfl (fun h0 => ?_) (fun h0 => ?_)
  · refine cw_seq ?_
    refine cw_region ?_
    refine sq_r (ry_assign rfl) ?_
    refine sq_nil ?_
    refine ex_then ?_
    refine cw_ret ?_
    refine ex_pass_ret ?_
    refine ex_ret (.inl rfl) (res_tmp rfl rfl) (fun w hw => ?_)
    refine ⟨?_, hw.sub (List.nil_sublist _)⟩
    have : pmay p = false := by unfold pmay; simp at h0 ⊢; omega
    rw [this]
  · refine cw_skip ?_
    refine ex_then ?_
    refine cw_seq ?_
    refine cw_quiet (by kernel_rfl) (by kernel_rfl) ?_
    refine qt_r (ry_field (o' := 2) rfl rfl) ?_
    refine qt_r (ry_part rfl) ?_
    refine qt_r (ry_field (o' := 1) rfl rfl) ?_
    refine qt_r (ry_cellc rfl) ?_
    refine qt_y (yl_pure rfl) ?_
    refine qt_r (ry_field (o' := 2) rfl rfl) ?_
    refine qt_r (ry_part rfl) ?_
    refine qt_r (ry_eq rfl rfl) ?_
    refine qt_r (ry_assign rfl) ?_
    refine qt_nil ?_
    refine ex_then ?_
    refine cw_ret ?_
    refine ex_ret (.inl rfl) (res_tmp rfl rfl) (fun w hw => ?_)
    refine ⟨?_, hw.sub (List.nil_sublist _)⟩
    congr 2; unfold pmay; simp at h0 ⊢; obtain ⟨⟨h1, h2⟩, h3⟩ := h0; simp [h2, h3, show p.bits = 32 ∨ p.bits = 128 by omega]⟩
instance may_i (p : Pfx) : PureFn Tryd.prog 22 [.agg (pcells p)] (.bool (pmay p)) := may_c p

set_option maxRecDepth 20000 in
theorem rmay_c (p : Pfx) : PureFn Tryd.prog 23 [.agg (pcells p)] (.bool (pmay p)) := ⟨fun w => by
  refine calls_of (args := [_]) Tryd.func23 rfl Tryd.ntmps23 rfl ?_
  change Cw _ _ _ _ _ [(0, .agg (pcells p))] []
  refine cw_seq ?_
  refine cw_region ?_
  refine sq_boxA rfl fun b1 => ?_
  refine sq_r (ry_assign rfl) ?_
  refine sq_nil ?_
  refine ex_then ?_
  refine cw_seq ?_
  refine cw_seq ?_
  refine cw_region ?_
  refine sq_r (ry_field (o' := 0) rfl rfl) ?_
  refine sq_r (ry_cellc rfl) ?_
  refine sq_r (ry_int rfl rfl rfl) ?_
  refine sq_r (ry_move rfl) ?_
  refine sq_gt rfl rfl rfl (fun hg => (ry_field (o' := 0) rfl rfl).yl) ?_
  refine sq_gt rfl rfl rfl (fun hg => (ry_cellc (ev_c hg rfl)).yl) ?_
  refine sq_gt rfl rfl rfl (fun hg => (ry_int (ev_c hg rfl) rfl rfl).yl) ?_
  refine sq_r (ry_and rfl rfl rfl) ?_
  refine sq_r (ry_move rfl) ?_
  refine sq_gf rfl rfl rfl (fun hg => (ry_field (o' := 1) rfl rfl).yl) ?_
  refine sq_gf rfl rfl rfl (fun hg => (ry_cellc (ev_c hg rfl)).yl) ?_
  refine sq_gf rfl rfl rfl (fun hg => (ry_int (ev_c hg rfl) rfl rfl).yl) ?_
  refine sq_r (ry_or rfl rfl rfl) ?_
  refine sq_r (ry_move rfl) ?_
  refine sq_gf rfl rfl rfl (fun hg => (ry_field (o' := 1) rfl rfl).yl) ?_
  refine sq_gf rfl rfl rfl (fun hg => (ry_cellc (ev_c hg rfl)).yl) ?_
  refine sq_gf rfl rfl rfl (fun hg => (ry_field (o' := 0) rfl rfl).yl) ?_
  refine sq_gf rfl rfl rfl (fun hg => (ry_cellc (ev_c hg rfl)).yl) ?_
  refine sq_gf rfl rfl rfl (fun hg => (ry_int (ev_c hg rfl) (ev_c hg rfl) rfl).yl) ?_
  refine sq_r (ry_or rfl rfl rfl) ?_
  refine sq_nil ?_
  refine ex_then ?_
  refine cw_cond rfl (fun h0 => ?_) (fun h0 => ?_)
  · simp at h0
    refine cw_seq ?_
    refine cw_region ?_
    refine sq_r (ry_assign rfl) ?_
    refine sq_nil ?_
    refine ex_then ?_
    refine cw_ret ?_
    refine ex_pass_ret ?_
    refine ex_ret (.inl rfl) (res_tmp rfl rfl) (fun w hw => ?_)
    refine ⟨?_, hw.sub (List.nil_sublist _)⟩
    have : pmay p = false := by unfold pmay; simp; omega
    rw [this]
  · simp at h0
    refine cw_skip ?_
    refine ex_then ?_
    refine cw_seq ?_
    refine cw_seq ?_
    refine cw_region ?_
    refine sq_r (ry_field (o' := 1) rfl rfl) ?_
    refine sq_r (ry_cellc rfl) ?_
    refine sq_r (ry_assign rfl) ?_
    refine sq_nil ?_
    refine ex_then ?_
    refine cw_block ?_
    refine cw_loop (X := Int) (fun i => [(3, .int .i64 i), (1, .pointer (some ⟨b1, 0, none⟩))]) (fun i => [blk b1 (pcells p) 25]) (fun i => p.len ≤ i ∧ i ≤ 128 ∧ ∀ j : Nat, p.len ≤ (j : Int) → (j : Int) < i → p.key.getMsbD j = false) (fun i => (128 - i).toNat) p.len ⟨by omega, by omega, fun j h h2 => by omega⟩ (Sub.cons rfl (Sub.cons rfl (Sub.nil _))) (fun w hw => hw) ?_
    rintro i ⟨hi0, hi1, hs⟩
    refine cw_seq ?_
    refine cw_seq ?_
    refine cw_region ?_
    refine sq_r (ry_move rfl) ?_
    refine sq_r (ry_int rfl rfl rfl) ?_
    refine sq_nil ?_
    refine ex_then ?_
    refine cw_cond rfl (fun h1 => ?_) (fun h1 => ?_)
    · have h1 := of_decide_eq_true h1
      refine cw_skip ?_
      refine ex_then ?_
      refine cw_seq ?_
      refine cw_block ?_
      refine cw_seq ?_
      refine cw_region ?_
      refine sq_r (ry_field (o' := 2) rfl rfl) ?_
      refine sq_r (ry_part rfl) ?_
      refine sq_r (ry_move rfl) ?_
      refine sq_y (yl_pure rfl) ?_
      refine sq_r (ry_int rfl rfl rfl) ?_
      refine sq_nil ?_
      refine ex_then ?_
      refine cw_cond rfl (fun h2 => ?_) (fun h2 => ?_)
      · simp at h2
        refine cw_seq ?_
        refine cw_region ?_
        refine sq_r (ry_assign rfl) ?_
        refine sq_nil ?_
        refine ex_then ?_
        refine cw_ret ?_
        refine ex_block_ret ?_
        refine ex_pass_ret ?_
        refine ex_pass_ret ?_
        refine ex_block_ret ?_
        refine ex_pass_ret ?_
        refine ex_ret (.inl rfl) (res_tmp rfl rfl) (fun w hw => ?_)
        refine ⟨?_, hw.sub (List.nil_sublist _)⟩
        have : pmay p = false := by
          rw [← Bool.not_eq_true, pmay_bits]; rintro ⟨_, _, _, h⟩; have := h i.toNat (by omega) (by omega); rw [show i = ((i.toNat : Nat) : Int) by omega, kbit_nat, this] at h2; simp at h2
        rw [this]
      · simp at h2
        refine cw_skip ?_
        refine ex_block ?_
        refine ex_then ?_
        refine cw_region ?_
        refine sq_r (ry_move rfl) ?_
        refine sq_r (ry_add rfl rfl (by omega)) ?_
        refine sq_r (ry_assign rfl) ?_
        refine sq_nil ?_
        exact ex_again (i + 1) ⟨by omega, by omega, fun j hj hj2 => if e : (j : Int) = i then (by rw [← e, kbit_nat] at h2; simpa using h2) else hs j hj (by omega)⟩ (by omega) (Sub.cons rfl (Sub.cons rfl (Sub.nil _))) (fun w hw => hw)
    · have h1 := of_decide_eq_false h1
      refine cw_exit ?_
      refine ex_pass_exit ?_
      refine ex_pass_exit ?_
      refine ex_block_hit ?_
      refine ex_then ?_
      refine cw_seq ?_
      refine cw_region ?_
      refine sq_r (ry_assign rfl) ?_
      refine sq_nil ?_
      refine ex_then ?_
      refine cw_ret ?_
      refine ex_ret (.inl rfl) (res_tmp rfl rfl) (fun w hw => ?_)
      refine ⟨?_, hw.sub (List.nil_sublist _)⟩
      have : pmay p = true := (pmay_bits p).2 ⟨by omega, by omega, by omega, fun j hj hj2 => hs j hj2 (by omega)⟩
      rw [this]⟩
instance rmay_i (p : Pfx) : PureFn Tryd.prog 23 [.agg (pcells p)] (.bool (pmay p)) := rmay_c p





end Go.Proofs.YtldkgicmfbofiaaDoor
