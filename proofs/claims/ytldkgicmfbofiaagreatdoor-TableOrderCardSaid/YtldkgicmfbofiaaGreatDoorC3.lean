/- The functions of package key, walked. -/
import Derived.Test.YtldkgicmfbofiaaGreatDoorC2
import Derived.Lib.BytesEntry
import Derived.Test.YtldkgicmfbofiaaGreatDoorC1
import Derived.Lib.Bytealg

set_option linter.unusedSimpArgs false
set_option linter.unusedVariables false
namespace Go.Proofs.YtldkgicmfbofiaaGreatDoor
open Go.Eng Go.Kb

theorem tab8 (s : ByteArray) (hs : (List.range 256).all (fun j => (s[j]?).map (·.toNat) == some (len8 j)) = true) (x : Nat) (hx : x < 256) : (s[(x : Int).toNat]?).map (·.toNat) = some (len8 x) := by
 have := List.all_eq_true.1 hs x (List.mem_range.2 hx)
 simpa using this
theorem fits_no {p : Pfx} {k : Key} {n : Nat} (h : ((decide ((n : Int) < p.len) && !decide (kbit p.key n = kbit k n)) || (decide (p.bits ≤ (n : Int)) && !decide (kbit k n = 0))) = false) :
  ((n : Int) < p.len → p.key.getMsbD n = k.getMsbD n) ∧ (p.bits ≤ (n : Int) → k.getMsbD n = false) := by
 simp only [Bool.or_eq_false_iff, Bool.and_eq_false_imp, decide_eq_true_eq, Bool.not_eq_false', kbit_same] at h
 refine ⟨h.1, fun hb => ?_⟩
 have := h.2 hb
 rw [kbit_nat] at this
 cases e : k.getMsbD n with
 | false => rfl
 | true => rw [e] at this; simp at this
theorem fits_yes {p : Pfx} {k : Key} {n : Nat} (h : ((decide ((n : Int) < p.len) && !decide (kbit p.key n = kbit k n)) || (decide (p.bits ≤ (n : Int)) && !decide (kbit k n = 0))) = true) :
  ¬ (((n : Int) < p.len → p.key.getMsbD n = k.getMsbD n) ∧ (p.bits ≤ (n : Int) → k.getMsbD n = false)) := by
 rintro ⟨h1, h2⟩
 simp only [Bool.or_eq_true, Bool.and_eq_true, decide_eq_true_eq, Bool.not_eq_true', decide_eq_false_iff_not, kbit_same] at h
 rcases h with ⟨h3, h4⟩ | ⟨h3, h4⟩
 ·
  exact h4 (h1 h3)
 ·
  refine h4 ?_
  rw [kbit_nat, h2 h3]; rfl

set_option maxRecDepth 20000 in
theorem kind_c (n : Int) : PureFn Tryz.prog 31 [.int .i64 n] (.bool (decide (n = 32) || decide (n = 128))) := ⟨fun w => by
 refine calls_of (args := [_]) Tryz.func31 rfl Tryz.ntmps31 rfl ?_
 change Cw _ _ _ _ _ [(0, .int .i64 n)] []
 refine cw_seq ?_
 refine cw_region ?_
 refine sq_r (ry_assign rfl) ?_
 refine sq_nil ?_
 refine ex_then ?_
 refine cw_seq ?_
 refine cw_region ?_
 refine sq_r (ry_move rfl) ?_
 refine sq_r (ry_int rfl rfl rfl) ?_
 refine sq_r (ry_move rfl) ?_
 refine sq_gf rfl rfl rfl (fun hg => (ry_move rfl).yl) ?_
 refine sq_gf rfl rfl rfl (fun hg => (ry_int (ev_c hg rfl) rfl rfl).yl) ?_
 refine sq_r (ry_or rfl rfl rfl) ?_
 refine sq_r (ry_assign rfl) ?_
 refine sq_nil ?_
 refine ex_then ?_
 refine cw_ret ?_
 refine ex_ret (.inl rfl) (res_tmp rfl rfl) (fun w hw => ?_)
 exact ⟨rfl, hw.sub (List.nil_sublist _)⟩⟩
instance kind_i (n : Int) : PureFn Tryz.prog 31 [.int .i64 n] (.bool (decide (n = 32) || decide (n = 128))) := kind_c n




theorem cut_whole (k : Key) (h : Nat) (hh : h ≤ 16) : over (kcells 0#128) 0 ((kcells k).extract 0 h) = kcells (kcut k ((8 * h : Nat) : Int)) := by
 refine eq_kcells (by simp [over, kcells_size]; omega) fun i hi => ?_
 have hl : ((kcells k).extract 0 h).size = h := by simp [kcells_size]; omega
 rw [kbyte_kcut k (8 * h) i hi]
 simp only [over, hl, List.take_zero, List.nil_append, Nat.zero_add, List.getElem?_toArray]
 by_cases h1 : i < h
 ·
  rw [List.getElem?_append_left (by simp [kcells_size]; omega), if_pos (by omega)]
  have := kcells_get k i hi
  simpa [h1] using this
 ·
  rw [List.getElem?_append_right (by simp [kcells_size]; omega), if_neg (by omega)]
  have h2 : (kcells 0#128)[i]? = some (.int .u8 ((0 : Nat) : Int)) := by rw [kcells_get _ i hi]; simp [kbyte]
  simp only [Array.length_toList, hl, List.getElem?_drop, show h + (i - h) = i by omega]
  rw [Array.getElem?_toList, h2]
  by_cases h3 : 8 * i ≤ 8 * h
  ·
   rw [if_pos h3, show 8 - (8 * h - 8 * i) = 8 by omega, Nat.div_eq_of_lt (kbyte_lt k i), Nat.zero_mul]
  ·
   rw [if_neg h3]
theorem andNot_byte (b r : Nat) (hb : b < 256) (hr : r ≤ 8) : intOp .andNot .u8 b ((255 / 2 ^ r : Nat) : Int) = some (.int .u8 ((b / 2 ^ (8 - r) * 2 ^ (8 - r) : Nat) : Int)) := by
 have hm : 255 / 2 ^ r < 256 := Nat.lt_of_le_of_lt (Nat.div_le_self _ _) (by omega)
 rw [intOp_andNot hb hm]
 have key : b &&& (256 - 1 - 255 / 2 ^ r) = b / 2 ^ (8 - r) * 2 ^ (8 - r) := by
  have e1 : 255 / 2 ^ r = 2 ^ (8 - r) - 1 := by
   match r, hr with
   | 0, _ | 1, _ | 2, _ | 3, _ | 4, _ | 5, _ | 6, _ | 7, _ | 8, _ => rfl
   | n + 9, h => omega
  rw [e1]
  apply Nat.eq_of_testBit_eq
  intro j
  have e2 : 256 - 1 - (2 ^ (8 - r) - 1) = 2 ^ 8 - (2 ^ (8 - r) - 1 + 1) := by omega
  rw [Nat.testBit_and, e2, Nat.testBit_two_pow_sub_succ (by have : 2 ^ (8 - r) ≤ 2 ^ 8 := Nat.pow_le_pow_right (by decide) (by omega); have := Nat.two_pow_pos (8 - r); omega), Nat.testBit_two_pow_sub_one, Nat.testBit_mul_two_pow, Nat.testBit_div_two_pow]
  by_cases hj : 8 - r ≤ j
  ·
   simp only [hj, show ¬ j < 8 - r by omega, decide_true, decide_false, Bool.not_false, Bool.and_true, Bool.true_and, show j - (8 - r) + (8 - r) = j by omega]
   by_cases h8 : j < 8
   ·
    simp [h8]
   ·
    have : b.testBit j = false := Nat.testBit_lt_two_pow (Nat.lt_of_lt_of_le hb (by have := Nat.pow_le_pow_right (n := 2) (by decide) (show 8 ≤ j by omega); simpa using this))
    simp [this]
  ·
   simp [hj, show j < 8 - r by omega]
 show some (Value.int .u8 ((b &&& (256 - 1 - 255 / 2 ^ r) : Nat) : Int)) = _
 rw [key]
theorem cut_part (k : Key) (n : Int) (h0 : 1 ≤ n) (h1 : n < 128) (h2 : 0 < n % 8) : (kcells (kcut k ((8 * (n / 8).toNat : Nat) : Int))).setIfInBounds (n / 8).toNat (.int .u8 ((kbyte k (n / 8).toNat / 2 ^ (8 - (n % 8).toNat) * 2 ^ (8 - (n % 8).toNat) : Nat) : Int)) = kcells (kcut k n) := by
 have hb := kbyte_lt k (n / 8).toNat
 rw [kcells_set _ _ _ (by omega) (Nat.lt_of_le_of_lt (Nat.div_mul_le_self _ _) hb)]
 congr 1
 refine key_ext_byte fun i hi => ?_
 rw [kbyte_kset _ _ _ i hi (Nat.lt_of_le_of_lt (Nat.div_mul_le_self _ _) hb), kbyte_kcut k _ i hi]
 have e : kcut k n = kcut k ((n.toNat : Nat) : Int) := by rw [Int.toNat_of_nonneg (by omega)]
 rw [e, kbyte_kcut k n.toNat i hi]
 by_cases hj : i = (n / 8).toNat
 ·
  rw [if_pos hj, if_neg (by omega), if_pos (by omega), hj, show n.toNat - 8 * (n / 8).toNat = (n % 8).toNat by omega]
 ·
  rw [if_neg hj]
  by_cases hlt : i < (n / 8).toNat
  ·
   rw [if_pos (by omega), if_pos (by omega)]
  ·
   rw [if_neg (by omega), if_neg (by omega), if_neg (by omega), if_neg (by omega)]
theorem cut_even (k : Key) (n : Int) (h0 : 1 ≤ n) (h2 : ¬ 0 < n % 8) : kcut k ((8 * (n / 8).toNat : Nat) : Int) = kcut k n := by
 congr 1; omega

set_option maxRecDepth 20000 in
theorem cut_c (k : Key) (n : Int) : PureFn Tryz.prog 28 [.agg (kcells k), .int .i64 n] (.agg (kcells (kcut k n))) := ⟨fun w => by
 refine calls_of (args := [_, _]) Tryz.func28 rfl Tryz.ntmps28 rfl ?_
 change Cw _ _ _ _ _ [(0, .agg (kcells k)), (1, .int .i64 n)] []
 refine cw_seq ?_
 refine cw_region ?_
 refine sq_boxA rfl fun b2 => ?_
 refine sq_allocA fun b4 => ?_
 refine sq_nil ?_
 refine ex_then ?_
 refine cw_seq ?_
 refine cw_seq ?_
 refine cw_region ?_
 refine sq_r (ry_move rfl) ?_
 refine sq_r (ry_int rfl rfl rfl) ?_
 refine sq_nil ?_
 refine ex_then ?_
 refine cw_cond rfl (fun h0 => ?_) (fun h0 => ?_)
 ·
  have h0 := of_decide_eq_true h0
  refine cw_seq ?_
  refine cw_region ?_
  refine sq_r (ry_whole rfl) ?_
  refine sq_storeW rfl rfl ?_
  refine sq_nil ?_
  refine ex_then ?_
  refine cw_ret ?_
  refine ex_pass_ret ?_
  refine ex_ret (.inl rfl) (res_cell rfl rfl) (fun w hw => ?_)
  exact ⟨by rw [kcut_all k n (by omega)], hw.sub (List.nil_sublist _)⟩
 ·
  have h0 := of_decide_eq_false h0
  refine cw_skip ?_
  refine ex_then ?_
  refine cw_seq ?_
  refine cw_region ?_
  refine sq_allocA fun b5 => ?_
  refine sq_nil ?_
  refine ex_then ?_
  refine cw_seq ?_
  refine cw_seq ?_
  refine cw_region ?_
  refine sq_r (ry_move rfl) ?_
  refine sq_r (ry_int rfl rfl rfl) ?_
  refine sq_nil ?_
  refine ex_then ?_
  refine cw_cond rfl (fun h1 => ?_) (fun h1 => ?_)
  ·
   have h1 := of_decide_eq_true h1
   refine cw_seq ?_
   refine cw_region ?_
   refine sq_r (ry_whole rfl) ?_
   refine sq_storeW rfl rfl ?_
   refine sq_nil ?_
   refine ex_then ?_
   refine cw_ret ?_
   refine ex_pass_ret ?_
   refine ex_ret (.inl rfl) (res_cell rfl rfl) (fun w hw => ?_)
   exact ⟨by rw [kcut_none k n (by omega)], hw.sub (List.nil_sublist _)⟩
  ·
   have h1 := of_decide_eq_false h1
   refine cw_skip ?_
   refine ex_then ?_
   refine cw_seq ?_
   refine cw_region ?_
   refine sq_r (ry_move rfl) ?_
   refine sq_r (ry_quo rfl rfl (by omega) (by omega)) ?_
   refine sq_r (ry_assign rfl) ?_
   refine sq_nil ?_
   refine ex_then ?_
   refine cw_seq ?_
   refine cw_tail 4 [] (by kernel_rfl) (by kernel_rfl) ?_
   simp only [List.take_succ_cons, List.take_zero]
   refine qt_r (ry_move rfl) ?_
   refine qt_r (ry_sliceA_hi rfl rfl (by omega) (by omega)) ?_
   refine qt_r (ry_move rfl) ?_
   refine qt_r (ry_sliceA_hi rfl rfl (by omega) (by omega)) ?_
   refine qt_end ?_
   refine fr_nil ?_
   simp only [List.drop_succ_cons, List.drop_zero]
   refine sq_copy (vs := (kcells k).extract 0 (n / 8).toNat) rfl rfl (by have e : Nat.min (n / 8).toNat (n / 8).toNat = (n / 8).toNat := Nat.min_self _; rw [e, Array.size_extract, kcells_size]; omega) (fun w hw j hj => by rw [Addr.add_none, hw.cell (Has.h (b := b2)), Nat.zero_add]; simp at hj; simp [hj]) (all_ext (SizeIs.one (cs := kcells k)) _ _) (by rw [Array.size_extract, kcells_size, kcells_size]; omega) (cut_whole k _ (by omega)) ?_
   refine sq_nil ?_
   refine ex_then ?_
   refine cw_seq ?_
   refine cw_seq ?_
   refine cw_region ?_
   refine sq_r (ry_move rfl) ?_
   refine sq_r (ry_rem rfl rfl (by omega) (by omega)) ?_
   refine sq_r (ry_assign rfl) ?_
   refine sq_nil ?_
   refine ex_then ?_
   refine cw_seq ?_
   refine cw_region ?_
   refine sq_r (ry_move rfl) ?_
   refine sq_r (ry_int rfl rfl rfl) ?_
   refine sq_nil ?_
   refine ex_then ?_
   refine cw_cond rfl (fun h2 => ?_) (fun h2 => ?_)
   ·
    have h2 := of_decide_eq_true h2
    refine cw_tail 8 [] (by kernel_rfl) (by kernel_rfl) ?_
    simp only [List.take_succ_cons, List.take_zero]
    refine qt_r (ry_move rfl) ?_
    refine qt_r (ry_move rfl) ?_
    refine qt_r (ry_idxA1 rfl rfl (by omega) (by omega)) ?_
    refine qt_r (ry_cell rfl (kcells_get _ _ (by omega))) ?_
    refine qt_r (ry_move rfl) ?_
    refine qt_r (ry_shr (p := 255) rfl rfl (by decide) (by omega)) ?_
    refine qt_r (ry_int rfl rfl (andNot_byte _ _ (kbyte_lt _ _) (by omega))) ?_
    refine qt_r (ry_idxA1 rfl rfl (by omega) (by omega)) ?_
    refine qt_end ?_
    refine fr_nil ?_
    simp only [List.drop_succ_cons, List.drop_zero]
    refine sq_store rfl rfl (by rw [kcells_size]; omega) rfl (cut_part k n (by omega) (by omega) h2) ?_
    refine sq_nil ?_
    refine ex_then ?_
    refine cw_seq ?_
    refine cw_region ?_
    refine sq_r (ry_whole rfl) ?_
    refine sq_storeW rfl rfl ?_
    refine sq_nil ?_
    refine ex_then ?_
    refine cw_ret ?_
    refine ex_ret (.inl rfl) (res_cell rfl rfl) (fun w hw => ?_)
    exact ⟨rfl, hw.sub (List.nil_sublist _)⟩
   ·
    have h2 := of_decide_eq_false h2
    refine cw_skip ?_
    refine ex_then ?_
    refine cw_seq ?_
    refine cw_region ?_
    refine sq_r (ry_whole rfl) ?_
    refine sq_storeW rfl rfl ?_
    refine sq_nil ?_
    refine ex_then ?_
    refine cw_ret ?_
    refine ex_ret (.inl rfl) (res_cell rfl rfl) (fun w hw => ?_)
    exact ⟨by rw [cut_even k n (by omega) h2], hw.sub (List.nil_sublist _)⟩⟩
instance cut_i (k : Key) (n : Int) : PureFn Tryz.prog 28 [.agg (kcells k), .int .i64 n] (.agg (kcells (kcut k n))) := cut_c k n


theorem cut_step_same (k : Key) (i : Int) (h : kbit k i ≠ 1) : kcut k (i + 1) = kcut k i := key_ext fun n hn => by
 rw [kcut_msb, kcut_msb]
 by_cases e : (n : Int) = i
 ·
  have : k.getMsbD n = false := by
   have h2 : kbit k (n : Int) = if k.getMsbD n then 1 else 0 := kbit_nat k n
   rw [e] at h2
   cases hb : k.getMsbD n with
   | false => rfl
   | true => rw [hb] at h2; exact absurd h2 h
  simp [this]
 ·
  have : ((n : Int) < i + 1) = ((n : Int) < i) := by rw [eq_iff_iff]; omega
  simp [this]
theorem pow_halves (r : Nat) (hr : r < 8) (b : Nat) : b / 2 ^ (7 - r) * 2 ^ (7 - r) = b / 2 ^ (8 - r) * 2 ^ (8 - r) + b / 2 ^ (7 - r) % 2 * 2 ^ (7 - r) := by
 rw [show 8 - r = (7 - r) + 1 by omega, Nat.pow_succ, ← Nat.div_div_eq_div_mul]
 generalize b / 2 ^ (7 - r) = q
 generalize 2 ^ (7 - r) = m
 rw [show q / 2 * (m * 2) = q / 2 * 2 * m by rw [Nat.mul_assoc, Nat.mul_comm m 2], ← Nat.add_mul]
 congr 1; omega
theorem cut_step_byte (k : Key) (i : Int) (h0 : 0 ≤ i) (h1 : i < 128) (h : kbit k i = 1) : kbyte (kcut k i) (i / 8).toNat + 2 ^ (7 - i % 8).toNat = kbyte (kcut k (i + 1)) (i / 8).toNat := by
 obtain ⟨m, rfl⟩ := Int.eq_ofNat_of_zero_le h0
 rw [show (m : Int) + 1 = ((m + 1 : Nat) : Int) by omega, kbyte_kcut k m _ (by omega), kbyte_kcut k (m + 1) _ (by omega)]
 rw [kbit_eq k _ h0 h1] at h
 have hb : kbyte k ((m : Int) / 8).toNat / 2 ^ (7 - (m : Int) % 8).toNat % 2 = 1 := by omega
 generalize hj : ((m : Int) / 8).toNat = j at *
 generalize hr : (7 - (m : Int) % 8).toNat = r at *
 have hp := pow_halves (7 - r) (by omega) (kbyte k j)
 rw [show 7 - (7 - r) = r by omega, show 8 - (7 - r) = r + 1 by omega, hb, Nat.one_mul] at hp
 rw [if_neg (by omega), if_pos (by omega), show 8 - (m - 8 * j) = r + 1 by omega, ← hp]
 by_cases h7 : 8 * j + 8 ≤ m + 1
 ·
  rw [if_pos h7, show r = 0 by omega, Nat.pow_zero, Nat.div_one, Nat.mul_one]
 ·
  rw [if_neg h7, if_pos (by omega), show 8 - (m + 1 - 8 * j) = r by omega]
theorem cut_step_set (k : Key) (i : Int) (h0 : 0 ≤ i) (h1 : i < 128) (h : kbit k i = 1) : (kcells (kcut k i)).setIfInBounds (i / 8).toNat (.int .u8 ((kbyte (kcut k i) (i / 8).toNat + 2 ^ (7 - i % 8).toNat : Nat) : Int)) = kcells (kcut k (i + 1)) := by
 rw [cut_step_byte k i h0 h1 h, kcells_set _ _ _ (by omega) (kbyte_lt _ _)]
 congr 1
 refine key_ext_byte fun n hn => ?_
 rw [kbyte_kset _ _ _ n hn (kbyte_lt _ _)]
 by_cases e : n = (i / 8).toNat
 ·
  rw [if_pos e, e]
 ·
  rw [if_neg e]
  obtain ⟨m, rfl⟩ := Int.eq_ofNat_of_zero_le h0
  rw [show (m : Int) + 1 = ((m + 1 : Nat) : Int) by omega, kbyte_kcut k m _ hn, kbyte_kcut k (m + 1) _ hn]
  by_cases h2 : 8 * n + 8 ≤ m
  ·
   rw [if_pos h2, if_pos (by omega)]
  ·
   have h3 : ¬ 8 * n ≤ m := fun h3 => e (by omega)
   rw [if_neg h2, if_neg h3, if_neg (show ¬ 8 * n + 8 ≤ m + 1 by omega)]
   by_cases h4 : 8 * n ≤ m + 1
   ·
    rw [if_pos h4, show 8 - (m + 1 - 8 * n) = 8 by omega, Nat.div_eq_of_lt (kbyte_lt k n), Nat.zero_mul]
   ·
    rw [if_neg h4]
theorem cut_end (k : Key) (n i : Int) (h0 : 0 ≤ i) (h1 : i ≤ 128) (h2 : i ≤ n ∨ i = 0) (h : ¬ (i < 128 ∧ i < n)) : kcut k i = kcut k n := by
 refine key_ext fun m hm => ?_
 rw [kcut_msb, kcut_msb]
 congr 1
 rw [decide_eq_decide]; omega
theorem pow_half (j : Int) (h0 : 0 ≤ j) (h : j < 8) : ((2 ^ (7 - j).toNat : Nat) : Int) / 2 = if j = 7 then 0 else ((2 ^ (7 - (j + 1)).toNat : Nat) : Int) := by
 have : (7 - j).toNat = 7 - j.toNat := by omega
 obtain ⟨m, rfl⟩ := Int.eq_ofNat_of_zero_le h0
 match m, h with
 | 0, _ | 1, _ | 2, _ | 3, _ | 4, _ | 5, _ | 6, _ | 7, _ => rfl


set_option maxRecDepth 20000 in
theorem len8_c (x : Nat) (hx : x < 256) : PureFn Tryz.prog 97 [.int .u8 x] (.int .i64 (len8 x)) := ⟨fun w => by
 refine calls_of (args := [_]) Tryz.func97 rfl Tryz.ntmps97 rfl ?_
 change Cw _ _ _ _ _ [(0, .int .u8 x)] []
 refine cw_seq ?_
 refine cw_region ?_
 refine sq_r (ry_assign rfl) ?_
 refine sq_nil ?_
 refine ex_then ?_
 refine cw_seq ?_
 refine cw_region ?_
 refine sq_r (ry_move rfl) ?_
 refine sq_r (ry_idxStr Tryz.underlying9 rfl rfl (Int.natCast_nonneg _) (tab8 _ (by decide +kernel) x hx)) ?_
 refine sq_r (ry_convn rfl (Nat.lt_of_le_of_lt (len8_le x hx) (by decide))) ?_
 refine sq_r (ry_assign rfl) ?_
 refine sq_nil ?_
 refine ex_then ?_
 refine cw_ret ?_
 refine ex_ret (.inl rfl) (res_tmp rfl rfl) (fun w hw => ?_)
 exact ⟨rfl, hw.sub (List.nil_sublist _)⟩⟩


theorem lz8_aux (x : Nat) (hx : x < 256) : (8 : Int) - (len8 x : Int) = ((8 - len8 x : Nat) : Int) := by have := len8_le x hx; omega

set_option maxRecDepth 20000 in
theorem lz8_c (x : Nat) (hx : x < 256) : PureFn Tryz.prog 84 [.int .u8 x] (.int .i64 (8 - len8 x : Int)) := ⟨fun w => by
 have hl := len8_le x hx
 refine calls_of (args := [_]) Tryz.func84 rfl Tryz.ntmps84 rfl ?_
 change Cw _ _ _ _ _ [(0, .int .u8 x)] []
 refine cw_seq ?_
 refine cw_region ?_
 refine sq_r (ry_assign rfl) ?_
 refine sq_nil ?_
 refine ex_then ?_
 refine cw_seq ?_
 refine cw_region ?_
 refine sq_r (ry_move rfl) ?_
 refine sq_y (yl_call rfl (fun w _ => (len8_c x hx).h w)) ?_
 refine sq_r (ry_sub rfl rfl (by omega)) ?_
 refine sq_r (ry_assign rfl) ?_
 refine sq_nil ?_
 refine ex_then ?_
 refine cw_ret ?_
 refine ex_ret (.inl rfl) (res_tmp rfl rfl) (fun w hw => ?_)
 exact ⟨rfl, hw.sub (List.nil_sublist _)⟩⟩

set_option maxRecDepth 20000 in
theorem common_c (a b : Key) : PureFn Tryz.prog 69 [.agg (kcells a), .agg (kcells b)] (.int .i64 (kcommon a b)) := ⟨fun w => by
 refine calls_of (args := [_, _]) Tryz.func69 rfl Tryz.ntmps69 rfl ?_
 change Cw _ _ _ _ _ [(0, .agg (kcells a)), (1, .agg (kcells b))] []
 refine cw_seq ?_
 refine cw_region ?_
 refine sq_boxA rfl fun b2 => ?_
 refine sq_boxA rfl fun b3 => ?_
 refine sq_r (ry_assign rfl) ?_
 refine sq_nil ?_
 refine ex_then ?_
 refine cw_seq ?_
 refine cw_seq ?_
 refine cw_region ?_
 refine sq_r (ry_move rfl) ?_
 refine sq_nil ?_
 refine ex_then ?_
 refine cw_block ?_
 refine cw_loop (X := Int) (fun i => [(6, .int .i64 i), (2, .pointer (some ⟨b2, 0, none⟩)), (3, .pointer (some ⟨b3, 0, none⟩))]) (fun i => [blk b3 (kcells b) 27, blk b2 (kcells a) 27]) (fun i => 0 ≤ i ∧ i ≤ 16 ∧ ∀ j : Nat, (j : Int) < i → kbyte a j = kbyte b j) (fun i => (16 - i).toNat) 0 ⟨by omega, by omega, fun j h => by omega⟩ (Sub.cons rfl (Sub.cons rfl (Sub.cons rfl (Sub.nil _)))) (fun w hw => hw) ?_
 rintro i ⟨hi0, hi1, hs⟩
 refine cw_seq ?_
 refine cw_region ?_
 refine sq_r (ry_int rfl rfl rfl) ?_
 refine sq_nil ?_
 refine ex_then ?_
 refine cw_seq ?_
 refine cw_cond rfl (fun h0 => ?_) (fun h0 => ?_)
 ·
  have h0 := of_decide_eq_true h0
  refine cw_skip ?_
  refine ex_then ?_
  refine cw_seq ?_
  refine cw_block ?_
  refine cw_seq ?_
  refine cw_region ?_
  refine sq_r (ry_move rfl) ?_
  refine sq_r (ry_assign rfl) ?_
  refine sq_nil ?_
  refine ex_then ?_
  refine cw_seq ?_
  refine cw_quiet (by kernel_rfl) (by kernel_rfl) ?_
  refine qt_r (ry_move rfl) ?_
  refine qt_r (ry_idxA1 rfl rfl (by omega) (by omega)) ?_
  refine qt_r (ry_cell rfl (kcells_get _ _ (by omega))) ?_
  refine qt_r (ry_move rfl) ?_
  refine qt_r (ry_idxA1 rfl rfl (by omega) (by omega)) ?_
  refine qt_r (ry_cell rfl (kcells_get _ _ (by omega))) ?_
  refine qt_r (ry_int rfl rfl rfl) ?_
  refine qt_nil ?_
  refine ex_then ?_
  refine cw_cond rfl (fun h1 => ?_) (fun h1 => ?_)
  ·
   simp at h1
   have hx := Nat.xor_lt_two_pow (n := 8) (kbyte_lt a i.toNat) (kbyte_lt b i.toNat)
   have hl := len8_le _ hx
   refine cw_seq ?_
   refine cw_quiet (by kernel_rfl) (by kernel_rfl) ?_
   refine qt_r (ry_move rfl) ?_
   refine qt_r (ry_mul rfl rfl (by omega)) ?_
   refine qt_r (ry_move rfl) ?_
   refine qt_r (ry_idxA1 rfl rfl (by omega) (by omega)) ?_
   refine qt_r (ry_cell rfl (kcells_get _ _ (by omega))) ?_
   refine qt_r (ry_move rfl) ?_
   refine qt_r (ry_idxA1 rfl rfl (by omega) (by omega)) ?_
   refine qt_r (ry_cell rfl (kcells_get _ _ (by omega))) ?_
   refine qt_r (ry_bxor rfl rfl rfl rfl (kbyte_lt _ _) (kbyte_lt _ _)) ?_
   refine qt_y (yl_call rfl (fun w _ => (lz8_c _ (Nat.xor_lt_two_pow (n := 8) (kbyte_lt a i.toNat) (kbyte_lt b i.toNat))).h w)) ?_
   refine qt_r (ry_add rfl rfl (by omega)) ?_
   refine qt_r (ry_assign rfl) ?_
   refine qt_nil ?_
   refine ex_then ?_
   refine cw_ret ?_
   refine ex_block_ret ?_
   refine ex_pass_ret ?_
   refine ex_pass_ret ?_
   refine ex_block_ret ?_
   refine ex_pass_ret ?_
   refine ex_ret (.inl rfl) (res_tmp rfl rfl) (fun w hw => ?_)
   exact ⟨by rw [kcommon_byte (i := i.toNat) (by omega) (fun j hj => hs j (by omega)) (by omega), Int.toNat_of_nonneg hi0], hw.sub (List.nil_sublist _)⟩
  ·
   simp at h1
   refine cw_skip ?_
   refine ex_block ?_
   refine ex_then ?_
   refine cw_region ?_
   refine sq_r (ry_add rfl rfl (by omega)) ?_
   refine sq_r (ry_move rfl) ?_
   refine sq_nil ?_
   exact ex_again (i + 1) ⟨by omega, by omega, fun j hj => if e : (j : Int) = i then (by rw [show j = i.toNat by omega]; omega) else hs j (by omega)⟩ (by omega) (Sub.cons rfl (Sub.cons rfl (Sub.cons rfl (Sub.nil _)))) (fun w hw => hw)
 ·
  have h0 := of_decide_eq_false h0
  refine cw_exit ?_
  refine ex_pass_exit ?_
  refine ex_pass_exit ?_
  refine ex_block_hit ?_
  refine ex_then ?_
  refine cw_seq ?_
  refine cw_region ?_
  refine sq_r (ry_assign rfl) ?_
  refine sq_nil ?_
  refine ex_then ?_
  refine cw_ret ?_
  refine ex_ret (.inl rfl) (res_tmp rfl rfl) (fun w hw => ?_)
  exact ⟨by rw [kcommon_same (fun j hj => hs j (by omega))], hw.sub (List.nil_sublist _)⟩⟩
instance common_i (a b : Key) : PureFn Tryz.prog 69 [.agg (kcells a), .agg (kcells b)] (.int .i64 (kcommon a b)) := common_c a b




set_option maxRecDepth 20000 in
theorem may_c (p : Pfx) : PureFn Tryz.prog 14 [.agg (pcells p)] (.bool (pmay p)) := ⟨fun w => by
 refine calls_of (args := [_]) Tryz.func14 rfl Tryz.ntmps14 rfl ?_
 change Cw _ _ _ _ _ [(0, .agg (pcells p))] []
 refine cw_seq ?_
 refine cw_region ?_
 refine sq_boxA rfl fun b1 => ?_
 refine sq_r (ry_assign rfl) ?_
 refine sq_nil ?_
 refine ex_then ?_
 refine cw_seq ?_
 refine cw_seq ?_
 refine cw_region ?_
 refine sq_r (ry_field (o' := 0) rfl rfl) ?_
 refine sq_r (ry_cellc rfl) ?_
 refine sq_y (yl_pure rfl) ?_
 refine sq_r (ry_not rfl) ?_
 refine sq_r (ry_move rfl) ?_
 refine sq_gf rfl rfl rfl (fun hg => (ry_field (o' := 1) rfl rfl).yl) ?_
 refine sq_gf rfl rfl rfl (fun hg => (ry_cellc (ev_c hg rfl)).yl) ?_
 refine sq_gf rfl rfl rfl (fun hg => (ry_int (ev_c hg rfl) rfl rfl).yl) ?_
 refine sq_r (ry_or rfl rfl rfl) ?_
 refine sq_r (ry_move rfl) ?_
 refine sq_gf rfl rfl rfl (fun hg => (ry_field (o' := 1) rfl rfl).yl) ?_
 refine sq_gf rfl rfl rfl (fun hg => (ry_cellc (ev_c hg rfl)).yl) ?_
 refine sq_gf rfl rfl rfl (fun hg => (ry_field (o' := 0) rfl rfl).yl) ?_
 refine sq_gf rfl rfl rfl (fun hg => (ry_cellc (ev_c hg rfl)).yl) ?_
 refine sq_gf rfl rfl rfl (fun hg => (ry_int (ev_c hg rfl) (ev_c hg rfl) rfl).yl) ?_
 refine sq_r (ry_or rfl rfl rfl) ?_
 refine sq_nil ?_
 refine ex_then ?_
 refine cw_cond rfl (fun h0 => ?_) (fun h0 => ?_)
 ·
  refine cw_seq ?_
  refine cw_region ?_
  refine sq_r (ry_assign rfl) ?_
  refine sq_nil ?_
  refine ex_then ?_
  refine cw_ret ?_
  refine ex_pass_ret ?_
  refine ex_ret (.inl rfl) (res_tmp rfl rfl) (fun w hw => ?_)
  refine ⟨?_, hw.sub (List.nil_sublist _)⟩
  have : pmay p = false := by unfold pmay; simp at h0 ⊢; omega
  rw [this]
 ·
  refine cw_skip ?_
  refine ex_then ?_
  refine cw_seq ?_
  refine cw_quiet (by kernel_rfl) (by kernel_rfl) ?_
  refine qt_r (ry_field (o' := 2) rfl rfl) ?_
  refine qt_r (ry_part rfl) ?_
  refine qt_r (ry_field (o' := 1) rfl rfl) ?_
  refine qt_r (ry_cellc rfl) ?_
  refine qt_y (yl_pure rfl) ?_
  refine qt_r (ry_field (o' := 2) rfl rfl) ?_
  refine qt_r (ry_part rfl) ?_
  refine qt_r (ry_eq rfl rfl) ?_
  refine qt_r (ry_assign rfl) ?_
  refine qt_nil ?_
  refine ex_then ?_
  refine cw_ret ?_
  refine ex_ret (.inl rfl) (res_tmp rfl rfl) (fun w hw => ?_)
  refine ⟨?_, hw.sub (List.nil_sublist _)⟩
  congr 2; unfold pmay; simp at h0 ⊢; obtain ⟨⟨h1, h2⟩, h3⟩ := h0; simp [h2, h3, show p.bits = 32 ∨ p.bits = 128 by omega]⟩
instance may_i (p : Pfx) : PureFn Tryz.prog 14 [.agg (pcells p)] (.bool (pmay p)) := may_c p


set_option maxRecDepth 20000 in
theorem fits_c (p : Pfx) (k : Key) : PureFn Tryz.prog 47 [.agg (pcells p), .agg (kcells k)] (.bool (pfits p k)) := ⟨fun w => by
 refine calls_of (args := [_, _]) Tryz.func47 rfl Tryz.ntmps47 rfl ?_
 change Cw _ _ _ _ _ [(0, .agg (pcells p)), (1, .agg (kcells k))] []
 refine cw_seq ?_
 refine cw_region ?_
 refine sq_boxA rfl fun b2 => ?_
 refine sq_boxA rfl fun b3 => ?_
 refine sq_r (ry_assign rfl) ?_
 refine sq_nil ?_
 refine ex_then ?_
 refine cw_seq ?_
 refine cw_seq ?_
 refine cw_quiet (by kernel_rfl) (by kernel_rfl) ?_
 refine qt_r (ry_whole rfl) ?_
 refine qt_y (yl_pure rfl) ?_
 refine qt_r (ry_not rfl) ?_
 refine qt_r (ry_move rfl) ?_
 refine qt_gf rfl rfl rfl (fun hg => (ry_whole rfl).yl) ?_
 refine qt_gf rfl rfl rfl (fun hg => (ry_field (o' := 0) rfl rfl).yl) ?_
 refine qt_gf rfl rfl rfl (fun hg => (ry_cellc (ev_c hg rfl)).yl) ?_
 refine qt_gf rfl rfl rfl (fun hg => yl_pure (evl_cons (ev_c hg rfl) (evl_cons (ev_c hg rfl) evl_nil))) ?_
 refine qt_gf rfl rfl rfl (fun hg => (ry_whole rfl).yl) ?_
 refine qt_gf rfl rfl rfl (fun hg => (ry_ne (ev_c hg rfl) (ev_c hg rfl)).yl) ?_
 refine qt_r (ry_or rfl rfl rfl) ?_
 refine qt_nil ?_
 refine ex_then ?_
 refine cw_cond rfl (fun h0 => ?_) (fun h0 => ?_)
 ·
  refine cw_seq ?_
  refine cw_region ?_
  refine sq_r (ry_assign rfl) ?_
  refine sq_nil ?_
  refine ex_then ?_
  refine cw_ret ?_
  refine ex_pass_ret ?_
  refine ex_ret (.inl rfl) (res_tmp rfl rfl) (fun w hw => ?_)
  refine ⟨?_, hw.sub (List.nil_sublist _)⟩
  have : pfits p k = false := by rw [← Bool.not_eq_true, pfits_iff]; rintro ⟨h1, h2, _⟩; simp [h1, h2] at h0
  rw [this]
 ·
  refine cw_skip ?_
  refine ex_then ?_
  refine cw_seq ?_
  refine cw_quiet (by kernel_rfl) (by kernel_rfl) ?_
  refine qt_r (ry_field (o' := 2) rfl rfl) ?_
  refine qt_r (ry_part rfl) ?_
  refine qt_r (ry_whole rfl) ?_
  refine qt_y (yl_pure rfl) ?_
  refine qt_r (ry_field (o' := 1) rfl rfl) ?_
  refine qt_r (ry_cellc rfl) ?_
  refine qt_r (ry_int rfl rfl rfl) ?_
  refine qt_r (ry_assign rfl) ?_
  refine qt_nil ?_
  refine ex_then ?_
  refine cw_ret ?_
  refine ex_ret (.inl rfl) (res_tmp rfl rfl) (fun w hw => ?_)
  refine ⟨?_, hw.sub (List.nil_sublist _)⟩
  congr 2; simp at h0; obtain ⟨h1, h2⟩ := h0; obtain ⟨h3, h4, h5, h6⟩ := (pmay_iff p).1 h1; rw [Bool.eq_iff_iff, pfits_iff, decide_eq_true_iff, kcommon_ge (by omega), h6]; exact ⟨fun h => ⟨h1, h2, h.symm⟩, fun h => h.2.2.symm⟩⟩
instance fits_i (p : Pfx) (k : Key) : PureFn Tryz.prog 47 [.agg (pcells p), .agg (kcells k)] (.bool (pfits p k)) := fits_c p k


set_option maxRecDepth 20000 in
theorem covers_c (p q : Pfx) : PureFn Tryz.prog 30 [.agg (pcells p), .agg (pcells q)] (.bool (pcovers p q)) := ⟨fun w => by
 refine calls_of (args := [_, _]) Tryz.func30 rfl Tryz.ntmps30 rfl ?_
 change Cw _ _ _ _ _ [(0, .agg (pcells p)), (1, .agg (pcells q))] []
 refine cw_seq ?_
 refine cw_region ?_
 refine sq_boxA rfl fun b2 => ?_
 refine sq_boxA rfl fun b3 => ?_
 refine sq_r (ry_assign rfl) ?_
 refine sq_nil ?_
 refine ex_then ?_
 refine cw_seq ?_
 refine cw_seq ?_
 refine cw_region ?_
 refine sq_r (ry_whole rfl) ?_
 refine sq_y (yl_pure rfl) ?_
 refine sq_r (ry_not rfl) ?_
 refine sq_r (ry_move rfl) ?_
 refine sq_gf rfl rfl rfl (fun hg => (ry_whole rfl).yl) ?_
 refine sq_gf rfl rfl rfl (fun hg => yl_pure (evl_cons (ev_c hg rfl) evl_nil)) ?_
 refine sq_gf rfl rfl rfl (fun hg => (ry_not (ev_c hg rfl)).yl) ?_
 refine sq_r (ry_or rfl rfl rfl) ?_
 refine sq_r (ry_move rfl) ?_
 refine sq_gf rfl rfl rfl (fun hg => (ry_field (o' := 0) rfl rfl).yl) ?_
 refine sq_gf rfl rfl rfl (fun hg => (ry_cellc (ev_c hg rfl)).yl) ?_
 refine sq_gf rfl rfl rfl (fun hg => (ry_field (o' := 0) rfl rfl).yl) ?_
 refine sq_gf rfl rfl rfl (fun hg => (ry_cellc (ev_c hg rfl)).yl) ?_
 refine sq_gf rfl rfl rfl (fun hg => (ry_int (ev_c hg rfl) (ev_c hg rfl) rfl).yl) ?_
 refine sq_r (ry_or rfl rfl rfl) ?_
 refine sq_r (ry_move rfl) ?_
 refine sq_gf rfl rfl rfl (fun hg => (ry_field (o' := 1) rfl rfl).yl) ?_
 refine sq_gf rfl rfl rfl (fun hg => (ry_cellc (ev_c hg rfl)).yl) ?_
 refine sq_gf rfl rfl rfl (fun hg => (ry_field (o' := 1) rfl rfl).yl) ?_
 refine sq_gf rfl rfl rfl (fun hg => (ry_cellc (ev_c hg rfl)).yl) ?_
 refine sq_gf rfl rfl rfl (fun hg => (ry_int (ev_c hg rfl) (ev_c hg rfl) rfl).yl) ?_
 refine sq_r (ry_or rfl rfl rfl) ?_
 refine sq_nil ?_
 refine ex_then ?_
 refine cw_cond rfl (fun h0 => ?_) (fun h0 => ?_)
 ·
  refine cw_seq ?_
  refine cw_region ?_
  refine sq_r (ry_assign rfl) ?_
  refine sq_nil ?_
  refine ex_then ?_
  refine cw_ret ?_
  refine ex_pass_ret ?_
  refine ex_ret (.inl rfl) (res_tmp rfl rfl) (fun w hw => ?_)
  refine ⟨?_, hw.sub (List.nil_sublist _)⟩
  have : pcovers p q = false := by unfold pcovers; simp at h0 ⊢; intro h1 h2 h3 h4; simp [h1, h2, h3] at h0; omega
  rw [this]
 ·
  refine cw_skip ?_
  refine ex_then ?_
  refine cw_seq ?_
  refine cw_region ?_
  refine sq_r (ry_whole rfl) ?_
  refine sq_r (ry_field (o' := 2) rfl rfl) ?_
  refine sq_r (ry_part rfl) ?_
  refine sq_y (yl_pure rfl) ?_
  refine sq_r (ry_assign rfl) ?_
  refine sq_nil ?_
  refine ex_then ?_
  refine cw_ret ?_
  refine ex_ret (.inl rfl) (res_tmp rfl rfl) (fun w hw => ?_)
  refine ⟨?_, hw.sub (List.nil_sublist _)⟩
  congr 2; simp at h0; obtain ⟨⟨⟨h1, h2⟩, h3⟩, h4⟩ := h0; obtain ⟨q1, q2, q3, q4⟩ := (pmay_iff q).1 h2; rw [Bool.eq_iff_iff, pfits_iff, pcovers_iff]
  have h5 : kcut q.key p.bits = q.key := (kcut_self_iff _ _).2 fun i hi hb => (kcut_self_iff _ _).1 q4 i hi (by omega)
  exact ⟨fun h => ⟨h1, h2, h3, h4, h.2.2⟩, fun h => ⟨h1, h5, h.2.2.2.2⟩⟩⟩
instance covers_i (p q : Pfx) : PureFn Tryz.prog 30 [.agg (pcells p), .agg (pcells q)] (.bool (pcovers p q)) := covers_c p q


end Go.Proofs.YtldkgicmfbofiaaGreatDoor

/- bytes.Compare over two keys. -/
namespace Go.Proofs.YtldkgicmfbofiaaGreatDoor
open Go.Eng Go.Kb
open Go.RowKit

def kints (k : Key) : List Int := (List.range 16).map fun i => (kbyte k i : Int)
theorem kints_get (k : Key) (j : Nat) (x : Int) (h : (kints k)[j]? = some x) : j < 16 ∧ x = kbyte k j := by
 have hl : j < 16 := by have := (List.getElem?_eq_some_iff.1 h).1; simpa [kints] using this
 refine ⟨hl, ?_⟩
 simp [kints, hl] at h
 exact h.symm
theorem cmpB_eq {x y : UInt8} {xs ys : List UInt8} : Lib.compareBytes (x :: xs) (y :: ys) = if x.toNat < y.toNat then -1 else if y.toNat < x.toNat then 1 else Lib.compareBytes xs ys := by
 simp [Lib.compareBytes, UInt8.lt_iff_toNat_lt]
theorem cmpB_key (a b : Key) : ∀ (n i : Nat), i + n = 16 → (∀ j, j < i → kbyte a j = kbyte b j) →
  Lib.compareBytes ((List.range' i n).map fun j => (kbyte a j).toUInt8) ((List.range' i n).map fun j => (kbyte b j).toUInt8) = kcmp a b
 | 0, i, hi, hs => by
  have : a = b := key_ext_byte fun j hj => hs j (by omega)
  subst this
  simp [Lib.compareBytes, kcmp]
 | n + 1, i, hi, hs => by
  have ha := kbyte_lt a i
  have hb := kbyte_lt b i
  rw [List.range'_succ, List.map_cons, List.map_cons, cmpB_eq]
  have ea : (kbyte a i).toUInt8.toNat = kbyte a i := by simp; omega
  have eb : (kbyte b i).toUInt8.toNat = kbyte b i := by simp; omega
  rw [ea, eb]
  by_cases h1 : kbyte a i < kbyte b i
  ·
   rw [if_pos h1]
   have := key_lt_of_byte (by omega) hs h1
   unfold kcmp; rw [if_pos this]
  ·
   rw [if_neg h1]
   by_cases h2 : kbyte b i < kbyte a i
   ·
    rw [if_pos h2]
    have := key_lt_of_byte (by omega) (fun j hj => (hs j hj).symm) h2
    unfold kcmp; rw [if_neg (by omega), if_pos this]
   ·
    rw [if_neg h2]
    exact cmpB_key a b n (i + 1) (by omega) fun j hj => by
     by_cases e : j = i
     ·
      subst e; omega
     ·
      exact hs j (by omega)
theorem bytesOf_kints (k : Key) : (⟨ByteArray.empty.data ++ (Lib.bytesOf (kints k)).toArray⟩ : ByteArray).data.toList = (List.range' 0 16).map fun j => (kbyte k j).toUInt8 := by
 simp [Lib.bytesOf, kints, List.range_eq_range']
theorem cmp_c (a b : Key) (p q : Addr) (c c' : Nat) (w : World) (hp : ∀ j, j < 16 → w.cell? (p.add j) = some (.int .u8 (kbyte a j))) (hq : ∀ j, j < 16 → w.cell? (q.add j) = some (.int .u8 (kbyte b j))) :
  Calls Tryz.prog 26 [.slice (some p) 16 c, .slice (some q) 16 c'].toArray w fun e w' => e = .returned (.int .i64 (kcmp a b)) ∧ Mem w [] w' := by
 refine calls_of (args := [_, _]) Tryz.func26 rfl Tryz.ntmps26 rfl ?_
 change Cw _ _ _ _ _ [(0, .slice (some p) 16 c), (1, .slice (some q) 16 c')] []
 refine cw_seq ?_
 refine cw_region ?_
 refine sq_r (ry_assign rfl) ?_
 refine sq_nil ?_
 refine ex_then ?_
 refine cw_seq ?_
 refine cw_region ?_
 refine sq_r (ry_move rfl) ?_
 refine sq_r (ry_move rfl) ?_
 refine sq_r (v := .int .i64 (kcmp a b)) ?_ ?_
 ·
  intro aa w1 ha hw
  have hpb : ∀ j, j < 16 → w1.cell? (p.add j) = some (.int .u8 (kbyte a j)) := fun j hj => by
   rw [← hp j hj]; exact hw.below.cell (block_lt_of_cell (hp j hj))
  have hqb : ∀ j, j < 16 → w1.cell? (q.add j) = some (.int .u8 (kbyte b j)) := fun j hj => by
   rw [← hq j hj]; exact hw.below.cell (block_lt_of_cell (hq j hj))
  have r1 := Lib.run_loadBytesX (P := Tryz.prog) w1 (kints a) p .empty (fun j x hx => by obtain ⟨h1, rfl⟩ := kints_get a j x hx; exact hpb j h1)
  have r2 := Lib.run_loadBytesX (P := Tryz.prog) w1 (kints b) q .empty (fun j x hx => by obtain ⟨h1, rfl⟩ := kints_get b j x hx; exact hqb j h1)
  have l1 : (kints a).length = 16 := by simp [kints]
  have l2 : (kints b).length = 16 := by simp [kints]
  rw [l1] at r1
  rw [l2] at r2
  have e5 := ha.ev (x := .tmp 5) (v := .slice (some p) 16 c) rfl
  have e6 := ha.ev (x := .tmp 6) (v := .slice (some q) 16 c') rfl
  have hrun : (callFunc 42 #[.slice (some p) 16 c, .slice (some q) 16 c']).run Tryz.prog w1 = .ok (.value (.int .i64 (kcmp a b))) w1 := by
   rw [run_callFunc_extern Tryz.func42 (by kernel_rfl) (by kernel_rfl) (by kernel_rfl) (e := Extern.BytealgCompare.compare) (by kernel_rfl)]
   have : (Extern.BytealgCompare.compare #[.slice (some p) 16 c, .slice (some q) 16 c']).run Tryz.prog w1 = .ok (.int .i64 (kcmp a b)) w1 := by
    change Sem.run Tryz.prog (do pure (goInt (Extern.BytealgCompare.cmp (← Extern.Bytes.bytesOf (.slice (some p) 16 c)) (← Extern.Bytes.bytesOf (.slice (some q) 16 c'))))) w1 = _
    simp only [Extern.Bytes.bytesOf, Sem.run_bind, r1, r2, Sem.run_pure, Result.andThen]
    rw [Lib.cmp_eq, bytesOf_kints, bytesOf_kints, cmpB_key a b 16 0 rfl (fun j h => by omega)]
    rfl
   rw [this]; rfl
  simp [execOp, resolve, Act.eval, Deferred.ofValue, invoke] at e5 e6 ⊢
  rw [e5, e6, hrun]
 refine sq_r (ry_assign rfl) ?_
 refine sq_nil ?_
 refine ex_then ?_
 refine cw_ret ?_
 refine ex_ret (.inl rfl) (res_tmp rfl rfl) (fun w hw => ?_)
 exact ⟨rfl, hw.sub (List.nil_sublist _)⟩

end Go.Proofs.YtldkgicmfbofiaaGreatDoor

/- The order of prefixes, walked. -/
namespace Go.Proofs.YtldkgicmfbofiaaGreatDoor
open Go.Eng Go.Kb
open Go.RowKit

theorem key_cell {w0 w : World} {L : List Ent} {b : Nat} {p : Pfx} {T : TypeId} {i : Nat} (hw : Mem w0 L w) [hh : Has L b (pcells p) T i] (j : Nat) (hj : j < 16) : w.cell? ((⟨b, 2, none⟩ : Addr).add j) = some (.int .u8 (kbyte p.key j)) := by
 rw [Addr.add_none, hw.cell hh.h, pcells_k, kcells_get _ j hj]
theorem bit_less {a b : Key} {n : Nat} (hn : n < 128) (hs : ∀ j, j < n → a.getMsbD j = b.getMsbD j) (hd : ¬ kbit a (n : Int) = kbit b (n : Int)) : kbit a (n : Int) = 0 ↔ a.toNat < b.toNat := by
 rw [kbit_same] at hd
 rw [kbit_nat]
 cases ha : a.getMsbD n <;> cases hb : b.getMsbD n <;> simp [ha, hb] at hd ⊢
 ·
  exact key_lt_of_bit hn hs ha hb
 ·
  have := key_lt_of_bit hn (fun j hj => (hs j hj).symm) hb ha
  omega
theorem pless_eq {p q : Pfx} (h1 : pmay p = true) (h2 : pmay q = true) : pless p q = (if p.bits ≠ q.bits then decide (p.bits = 32) else if p.key ≠ q.key then decide (p.key.toNat < q.key.toNat) else decide (p.len < q.len)) := by
 unfold pless; rw [h1, h2]; rfl

set_option maxRecDepth 20000 in
theorem less_c (p q : Pfx) : PureFn Tryz.prog 9 [.agg (pcells p), .agg (pcells q)] (.bool (pless p q)) := ⟨fun w => by
 refine calls_of (args := [_, _]) Tryz.func9 rfl Tryz.ntmps9 rfl ?_
 change Cw _ _ _ _ _ [(0, .agg (pcells p)), (1, .agg (pcells q))] []
 refine cw_seq ?_
 refine cw_region ?_
 refine sq_boxA rfl fun b2 => ?_
 refine sq_boxA rfl fun b3 => ?_
 refine sq_r (ry_assign rfl) ?_
 refine sq_nil ?_
 refine ex_then ?_
 refine cw_seq ?_
 refine cw_seq ?_
 refine cw_region ?_
 refine sq_r (ry_whole rfl) ?_
 refine sq_y (yl_pure rfl) ?_
 refine sq_r (ry_not rfl) ?_
 refine sq_r (ry_move rfl) ?_
 refine sq_gf rfl rfl rfl (fun hg => (ry_whole rfl).yl) ?_
 refine sq_gf rfl rfl rfl (fun hg => yl_pure (evl_cons (ev_c hg rfl) evl_nil)) ?_
 refine sq_gf rfl rfl rfl (fun hg => (ry_not (ev_c hg rfl)).yl) ?_
 refine sq_r (ry_or rfl rfl rfl) ?_
 refine sq_nil ?_
 refine ex_then ?_
 refine cw_cond rfl (fun h0 => ?_) (fun h0 => ?_)
 ·
  simp at h0
  refine cw_seq ?_
  refine cw_region ?_
  refine sq_r (ry_assign rfl) ?_
  refine sq_nil ?_
  refine ex_then ?_
  refine cw_ret ?_
  refine ex_pass_ret ?_
  refine ex_ret (.inl rfl) (res_tmp rfl rfl) (fun w hw => ?_)
  refine ⟨?_, hw.sub (List.nil_sublist _)⟩
  have : pless p q = false := by unfold pless; cases h1 : pmay p <;> cases h2 : pmay q <;> simp_all
  rw [this]
 ·
  simp at h0
  obtain ⟨m1, m2⟩ := h0
  refine cw_skip ?_
  refine ex_then ?_
  refine cw_seq ?_
  refine cw_seq ?_
  refine cw_region ?_
  refine sq_r (ry_field (o' := 0) rfl rfl) ?_
  refine sq_r (ry_cellc rfl) ?_
  refine sq_r (ry_field (o' := 0) rfl rfl) ?_
  refine sq_r (ry_cellc rfl) ?_
  refine sq_r (ry_int rfl rfl rfl) ?_
  refine sq_nil ?_
  refine ex_then ?_
  refine cw_cond rfl (fun h1 => ?_) (fun h1 => ?_)
  ·
   simp at h1
   refine cw_seq ?_
   refine cw_region ?_
   refine sq_r (ry_field (o' := 0) rfl rfl) ?_
   refine sq_r (ry_cellc rfl) ?_
   refine sq_r (ry_int rfl rfl rfl) ?_
   refine sq_r (ry_assign rfl) ?_
   refine sq_nil ?_
   refine ex_then ?_
   refine cw_ret ?_
   refine ex_pass_ret ?_
   refine ex_ret (.inl rfl) (res_tmp rfl rfl) (fun w hw => ?_)
   exact ⟨by rw [pless_eq m1 m2, if_pos h1], hw.sub (List.nil_sublist _)⟩
  ·
   simp at h1
   refine cw_skip ?_
   refine ex_then ?_
   refine cw_seq ?_
   refine cw_seq ?_
   refine cw_quiet (by kernel_rfl) (by kernel_rfl) ?_
   refine qt_r (ry_field (o' := 2) rfl rfl) ?_
   refine qt_r (ry_sliceA_all rfl) ?_
   refine qt_r (ry_field (o' := 2) rfl rfl) ?_
   refine qt_r (ry_sliceA_all rfl) ?_
   refine qt_y (yl_call rfl (fun w hw => cmp_c p.key q.key _ _ _ _ w (key_cell hw) (key_cell hw))) ?_
   refine qt_r (ry_assign rfl) ?_
   refine qt_nil ?_
   refine ex_then ?_
   refine cw_seq ?_
   refine cw_region ?_
   refine sq_r (ry_move rfl) ?_
   refine sq_r (ry_int rfl rfl rfl) ?_
   refine sq_nil ?_
   refine ex_then ?_
   refine cw_cond rfl (fun h2 => ?_) (fun h2 => ?_)
   ·
    simp at h2
    refine cw_seq ?_
    refine cw_region ?_
    refine sq_r (ry_move rfl) ?_
    refine sq_r (ry_int rfl rfl rfl) ?_
    refine sq_r (ry_assign rfl) ?_
    refine sq_nil ?_
    refine ex_then ?_
    refine cw_ret ?_
    refine ex_pass_ret ?_
    refine ex_ret (.inl rfl) (res_tmp rfl rfl) (fun w hw => ?_)
    exact ⟨by rw [pless_eq m1 m2, if_neg (by simpa using h1), if_pos (fun e => h2 ((kcmp_eq _ _).2 e)), decide_eq_decide.2 (kcmp_lt _ _)], hw.sub (List.nil_sublist _)⟩
   ·
    simp at h2
    refine cw_skip ?_
    refine ex_then ?_
    refine cw_seq ?_
    refine cw_region ?_
    refine sq_r (ry_field (o' := 1) rfl rfl) ?_
    refine sq_r (ry_cellc rfl) ?_
    refine sq_r (ry_field (o' := 1) rfl rfl) ?_
    refine sq_r (ry_cellc rfl) ?_
    refine sq_r (ry_int rfl rfl rfl) ?_
    refine sq_r (ry_assign rfl) ?_
    refine sq_nil ?_
    refine ex_then ?_
    refine cw_ret ?_
    refine ex_ret (.inl rfl) (res_tmp rfl rfl) (fun w hw => ?_)
    exact ⟨by rw [pless_eq m1 m2, if_neg (by simpa using h1), if_neg (by simpa using (kcmp_eq _ _).1 h2)], hw.sub (List.nil_sublist _)⟩⟩
instance less_i (p q : Pfx) : PureFn Tryz.prog 9 [.agg (pcells p), .agg (pcells q)] (.bool (pless p q)) := less_c p q


end Go.Proofs.YtldkgicmfbofiaaGreatDoor

/- Slices and routes as cells of this program. -/
namespace Go.Proofs.YtldkgicmfbofiaaGreatDoor
open Go.Eng Go.Kb
instance zsT22 : ZeroT Tryz.prog 22 (.slice none 0 0) := ⟨by kernel_rfl⟩
instance slT22 : SlT Tryz.prog 22 32 19 40 := ⟨Tryz.underlying22, by kernel_rfl⟩
instance zsT23 : ZeroT Tryz.prog 23 (.slice none 0 0) := ⟨by kernel_rfl⟩
instance slT23 : SlT Tryz.prog 23 5 1 1 := ⟨Tryz.underlying23, by kernel_rfl⟩
instance zsT45 : ZeroT Tryz.prog 45 (.slice none 0 0) := ⟨by kernel_rfl⟩
instance slT45 : SlT Tryz.prog 45 44 20 48 := ⟨Tryz.underlying45, by kernel_rfl⟩
instance zsT70 : ZeroT Tryz.prog 70 (.slice none 0 0) := ⟨by kernel_rfl⟩
instance slT70 : SlT Tryz.prog 70 9 1 16 := ⟨Tryz.underlying70, by kernel_rfl⟩
instance : Enc rcells 19 := ⟨rcells_size, fun r => by
 have h : (pcells r.p).all (·.oneCell') = true := (inferInstance : SizeIs (pcells r.p) 18).one
 rw [rcells, Array.all_append, h]; simp [Value.oneCell']⟩
instance : Deep Rt := Deep.flat rcells 19
instance : FlatT Rt rcells 19 := ⟨rfl, fun _ => rfl⟩
instance (r : Rt) : SizeIs (rcells r) 19 := ⟨rcells_size r, Enc.one r⟩
instance (r : Rt) : PartAt (rcells r) 0 18 (pcells r.p) := ⟨pcells_size _, fun j hj => by rw [Nat.zero_add]; exact rcells_p r j hj⟩
instance (r : Rt) : CellAt (rcells r) 18 (.int .u16 r.hop.toNat) := ⟨rcells_hop r⟩
instance (r : Rt) : CellAt (rcells r) 0 (.int .i64 r.p.bits) := ⟨(rcells_p r 0 (by decide)).trans (pcells_0 r.p)⟩
instance (r : Rt) : CellAt (rcells r) 1 (.int .i64 r.p.len) := ⟨(rcells_p r 1 (by decide)).trans (pcells_1 r.p)⟩
instance (r : Rt) : PartAt (rcells r) 2 16 (kcells r.p.key) := ⟨kcells_size _, fun j hj => (rcells_p r (2 + j) (by omega)).trans (pcells_k r.p j)⟩
theorem part22 (d : Nat) : PartT Tryz.prog (d + 1) 30 false [0] := ⟨⟨_, Tryz.underlying30, rfl⟩, by kernel_rfl, fun _ => rfl, eqF_int Tryz.underlying30⟩
theorem stoodR : Tryz.prog.stoodInHeld 32 = false := by kernel_rfl
theorem partR (d : Nat) : PartT Tryz.prog (d + 1 + 1 + 1 + 1) 32 true (([0] ++ ([0] ++ ((List.replicate 16 [0]).flatten ++ []))) ++ ([0] ++ [])) := ⟨⟨_, Tryz.underlying32, rfl⟩, by kernel_rfl, (fun h => by cases h),
 eqF_struct Tryz.underlying32 stoodR ⟨by decide, rfl, _, _, _, rfl, partX _, by decide, rfl, _, _, _, rfl, part22 _, rfl⟩⟩
theorem guardR : Tryz.prog.eqGuardType Tryz.prog.depth 32 = false := by kernel_rfl
instance (a b : Rt) : EqV Tryz.prog 32 (.agg (rcells a)) (.agg (rcells b)) (decide (a = b)) :=
 (partR 9996).eq.val rfl guardR (rcells_size a) (rcells_size b) (fun i k hk => by
  have h0 : k = 0 := by
   have : k ∈ (([0] ++ ([0] ++ ((List.replicate 16 [0]).flatten ++ []))) ++ ([0] ++ [])) := List.mem_of_getElem? hk
   simpa using this
  subst h0
  have hi : i < 19 := (List.getElem?_eq_some_iff.1 hk).1
  match i, hi with
  | 0, _ => exact ⟨_, _, (inferInstance : CellAt (rcells a) 0 _).h, (inferInstance : CellAt (rcells b) 0 _).h, rfl⟩
  | 1, _ => exact ⟨_, _, (inferInstance : CellAt (rcells a) 1 _).h, (inferInstance : CellAt (rcells b) 1 _).h, rfl⟩
  | j + 2, hi =>
   rcases Nat.lt_or_ge j 16 with h | h
   ·
    rw [Nat.add_comm j 2]
    exact ⟨_, _, (rcells_p a _ (by omega)).trans ((pcells_k a.p j).trans (kcells_get _ j h)), (rcells_p b _ (by omega)).trans ((pcells_k b.p j).trans (kcells_get _ j h)), rfl⟩
   ·
    obtain rfl : j = 16 := by omega
    exact ⟨_, _, rcells_hop a, rcells_hop b, rfl⟩) (by rw [decide_eq_true_iff]; exact ⟨rcells_inj, fun h => by rw [h]⟩)
instance : BuildT Tryz.prog 32 [] (.agg (rcells zroute)) := ⟨fun w => by unfold rcells pcells zroute; rw [kcells_zero]; kernel_rfl⟩
instance : BuildT Tryz.prog 29 [] (.agg (pcells ⟨0, 0, 0#128⟩)) := ⟨fun w => by unfold pcells; rw [kcells_zero]; kernel_rfl⟩
instance (n m : Int) : BuildT Tryz.prog 29 [(0, .int .i64 n), (1, .int .i64 m)] (.agg (pcells ⟨n, m, 0#128⟩)) := ⟨fun w => by unfold pcells; rw [kcells_zero]; kernel_rfl⟩
instance (p : Pfx) (h : UInt16) : BuildT Tryz.prog 32 [(0, .agg (pcells p)), (1, .int .u16 h.toNat)] (.agg (rcells ⟨p, h⟩)) := ⟨fun w => by kernel_rfl⟩
instance : ZeroT Tryz.prog 32 (.agg (rcells zroute)) := ⟨by unfold rcells pcells zroute; rw [kcells_zero]; kernel_rfl⟩

end Go.Proofs.YtldkgicmfbofiaaGreatDoor

/- The types that reach memory. -/
namespace Go.Kb
open Go.Eng

structure It where
  id : Int
  body : Sl UInt8
def icells (x : It) : Array Value := #[.int .i64 x.id, x.body.sv.val]
instance : Enc icells 2 := ⟨fun _ => rfl, fun x => by
  have h1 : (Value.int .i64 x.id).oneCell' = true := rfl
  simp only [icells, List.all_toArray, List.all_cons, List.all_nil, Sv.one, h1, Bool.and_self]⟩
instance (x : It) : CellAt (icells x) 0 (.int .i64 x.id) := ⟨rfl⟩
instance (x : It) : CellAt (icells x) 1 x.body.sv.val := ⟨rfl⟩
instance : Deep It where
  c := 2
  cells := icells
  size := Enc.size
  one := Enc.one
  good h x := Deep.good h x.body
  ent x := Deep.ent x.body
  good_of h x hs := Deep.good_of h x.body hs
  mono w w' x := Deep.mono w w' x.body
instance : FlatT It icells 2 := ⟨rfl, fun _ => rfl⟩
instance {w0 : World} {L : List Ent} {x : It} [q : HdD w0 L x] : HdD w0 L x.body := ⟨q.h⟩
instance {L R : List Ent} {x : It} [k : Take L x.body R] : Take L x R := ⟨k.h⟩
instance {L R : List Ent} {i : Int} {b : Sl UInt8} [k : Take L b R] : Take L (It.mk i b) R := ⟨k.h⟩
def its (a : Sl It) : List (Int × List UInt8) := a.xs.map fun x => (x.id, x.body.xs)
end Go.Kb

/- A region that draws its order, told in one line: operations that only read and yield stand wherever; what makes or writes memory goes one behind the other. -/
namespace Go.Eng
section
variable {P : Program} {l : List Oper} {Q : Exit → Act → World → Prop} {fs : List Nat} {w0 : World}

def IsAlloc (P : Program) (o : Oper) (t : TypeId) (z : Value) : Prop := ∀ (ρ : Operand → Value) (w : World), (execOp ρ o).run P w = .ok (.value (.pointer (some ⟨w.heap.size, 0, none⟩))) (w.alloc (.cells z.cells t))
theorem IsAlloc.uniq {o : Oper} {t t' : TypeId} {z z' : Value} (h : IsAlloc P o t z) (h' : IsAlloc P o t' z') (b : Nat) : blk b z.cells t = blk b z'.cells t' := by
  have w0 : World := default
  have h1 := h (fun _ => undef) w0
  rw [h' (fun _ => undef) w0] at h1
  simp only [Result.ok.injEq, true_and] at h1
  have h2 := congrArg (fun w : World => w.heap[w0.heap.size]?) h1
  simp only [Below.heap_new] at h2
  simp only [Option.some.injEq, Obj.cells.injEq] at h2
  rw [h2.1, h2.2.1]
def upon (P : Program) (w : World) (R : Value → World → Prop) : Result Next → Prop
  | .ok (.value v) w' => R v w'
  | .ok .skip w' => R undef w'
  | .ok (.enter f args) w' => w' = w ∧ Calls P f args w fun e w'' => ∃ v, e = .returned v ∧ R v w''
  | _ => False

def Lin (P : Program) (l : List Oper) (fs : List Nat) (Q : Exit → Act → World → Prop) (w0 : World) : List Nat → Act → List Ent → List Ent → Prop
  | [], af, L, _ => ∀ w, Mem w0 L w → Q .normal af w
  | k :: ord, af, L, Lq => ∃ o, l[k]? = some o ∧ (if fs.contains k = true then (if fs.contains (k + 2000) = true then
      o.guard = none ∧ ∃ t z, IsAlloc P o t z ∧ ∀ b, Lin P l fs Q w0 ord (af.put o.dst (.pointer (some ⟨b, 0, none⟩))) (blk b z.cells t :: L) Lq
    else
      Region.wanted o (yielded l.toArray af.tmps) = true ∧ ∀ w, Mem w0 L w → upon P w (fun v w' => ∃ L' Lq', Mem w0 L' w' ∧ (∀ w, Mem w0 L' w → Mem w0 Lq' w) ∧ (∀ w, Mem w0 Lq' w → Mem w0 Lq w) ∧ Lin P l fs Q w0 ord (af.put o.dst v) L' Lq') ((execOp af.eval o).run P w))
    else ∃ v, (Region.wanted o (yielded l.toArray af.tmps) = true → quietR P o af (Mem w0 (if fs.contains (k + 1000) = true then L else Lq)) v) ∧ (Region.wanted o (yielded l.toArray af.tmps) = false → v = undef) ∧ Lin P l fs Q w0 ord (af.put o.dst v) L Lq)

def deps (o : Oper) : List Nat := (o.after.toList.filter fun e => Region.binds .any e).map (·.on)

def linOp (l : List Oper) (fs : List Nat) (A : List (List Nat)) (prev seen : List Nat) (k : Nat) (o : Oper) : Bool :=
  (!fs.contains k || (prev.all fun j => !fs.contains (j + 1000) || (A.getD k []).contains j)) &&
  (match o.op with | .select .. => false | _ => true) &&
  ((deps o).all fun j => decide (j < k)) &&
  (fs.contains (k + 2000) || seen.all fun f => (A.getD k []).contains f) &&
  ((A.getD k []).all fun f => (deps o).any fun j => j == f || (A.getD j []).contains f) &&
  ((List.range l.length).all fun j => match dstAt l j with
    | none => true
    | some d => (!(o.looksAt l.toArray).contains d || (prev.contains j && (deps o).contains j)) && (j == k || o.dst != some d))
def linGo (l : List Oper) (fs : List Nat) (A : List (List Nat)) : List Nat → List Nat → List Nat → Bool
  | _, _, [] => true
  | prev, seen, k :: ord => (match l[k]? with | none => false | some o => linOp l fs A prev seen k o) && (!fs.contains k || fs.contains (k + 2000) || ord.all fun j => !fs.contains (j + 2000)) && linGo l fs A (k :: prev) (if fs.contains k then k :: seen else seen) ord
def linB (l : List Oper) (fs : List Nat) (A : List (List Nat)) (ord : List Nat) : Bool :=
  ((List.range l.length).all fun j => ord.contains j) && decide ord.Nodup && (ord.all fun j => decide (j < l.length)) && (fs.all fun j => decide (j < 2000)) && linGo l fs A [] [] ord
def linB2 (l : List Oper) (fs : List Nat) (A : List (List Nat)) (ord : List Nat) : Bool :=
  ((List.range l.length).all fun j => ord.contains j) && decide ord.Nodup && (ord.all fun j => decide (j < l.length)) && linGo l fs A [] [] ord

structure OpOk (l : List Oper) (fs : List Nat) (A : List (List Nat)) (prev seen : List Nat) (k : Nat) (o : Oper) : Prop where
  tmp : fs.contains k = true → ∀ j ∈ prev, fs.contains (j + 1000) = true → j ∈ A.getD k []
  nosel : ∀ cs b, o.op ≠ .select cs b
  back : ∀ e ∈ o.after, Region.binds .any e = true → e.on < k
  anc : fs.contains (k + 2000) = false → ∀ f ∈ seen, f ∈ A.getD k []
  cert : ∀ f ∈ A.getD k [], ∃ e ∈ o.after, Region.binds .any e = true ∧ (e.on = f ∨ f ∈ A.getD e.on [])
  reads : ∀ j d, j < l.length → dstAt l j = some d → d ∈ o.looksAt l.toArray → j ∈ prev ∧ ∃ e ∈ o.after, Region.binds .any e = true ∧ e.on = j
  one : ∀ j d, j < l.length → dstAt l j = some d → j ≠ k → o.dst ≠ some d

theorem mem_deps {o : Oper} {j : Nat} : j ∈ deps o ↔ ∃ e ∈ o.after, Region.binds .any e = true ∧ e.on = j := by
  unfold deps
  simp only [List.mem_map, List.mem_filter]
  constructor
  · rintro ⟨e, ⟨h1, h2⟩, h3⟩; exact ⟨e, by simpa using h1, h2, h3⟩
  · rintro ⟨e, h1, h2, h3⟩; exact ⟨e, ⟨by simpa using h1, h2⟩, h3⟩

theorem linOp_spec {A : List (List Nat)} {prev seen : List Nat} {k : Nat} {o : Oper} (h : linOp l fs A prev seen k o = true) : OpOk l fs A prev seen k o := by
  simp only [linOp, Bool.and_eq_true] at h
  obtain ⟨⟨⟨⟨⟨h0, h1⟩, h2⟩, h3⟩, h4⟩, h5⟩ := h
  refine ⟨fun hk j hj ht => by
    rw [hk, Bool.not_true, Bool.false_or] at h0
    have := List.all_eq_true.1 h0 j hj
    rw [ht] at this
    simpa using this, fun cs b e => by rw [e] at h1; simp at h1, fun e he hb => ?_, fun hal f hf => ?_, fun f hf => ?_, fun j d hj hd hl => ?_, fun j d hj hd hne => ?_⟩
  · have := List.all_eq_true.1 h2 e.on (mem_deps.2 ⟨e, he, hb, rfl⟩)
    simpa using this
  · rw [hal, Bool.false_or] at h3
    have := List.all_eq_true.1 h3 f hf
    simpa using this
  · have := List.all_eq_true.1 h4 f hf
    obtain ⟨j, hj, hj2⟩ := List.any_eq_true.1 this
    obtain ⟨e, he, hb, rfl⟩ := mem_deps.1 hj
    exact ⟨e, he, hb, by simpa using hj2⟩
  · have := List.all_eq_true.1 h5 j (List.mem_range.2 hj)
    rw [hd] at this
    simp only [Bool.and_eq_true, Bool.or_eq_true, Bool.not_eq_true'] at this
    rcases this.1 with h6 | h6
    · exact absurd hl (by simpa using h6)
    · exact ⟨by simpa using h6.1, mem_deps.1 (by simpa using h6.2)⟩
  · have := List.all_eq_true.1 h5 j (List.mem_range.2 hj)
    rw [hd] at this
    simp only [Bool.and_eq_true, Bool.or_eq_true, beq_iff_eq] at this
    rcases this.2 with h6 | h6
    · exact absurd h6 hne
    · simpa using h6

theorem linGo_spec {A : List (List Nat)} : ∀ (ord prev seen : List Nat), linGo l fs A prev seen ord = true → ∀ (x : List Nat) (k : Nat) (y : List Nat), ord = x ++ k :: y →
    ∃ o, l[k]? = some o ∧ OpOk l fs A (x.reverse ++ prev) ((x.filter fun j => fs.contains j).reverse ++ seen) k o ∧ (fs.contains k = true → fs.contains (k + 2000) = false → ∀ j ∈ y, fs.contains (j + 2000) = false)
  | [], _, _, _, x, k, y, e => by simp at e
  | k0 :: ord, prev, seen, h, x, k, y, e => by
    simp only [linGo, Bool.and_eq_true] at h
    cases x with
    | nil =>
      simp only [List.nil_append, List.cons.injEq] at e
      obtain ⟨rfl, rfl⟩ := e
      cases ho : l[k0]? with
      | none => rw [ho] at h; simp at h
      | some o =>
        rw [ho] at h
        refine ⟨o, rfl, by simpa using linOp_spec h.1.1, fun h1 h2 j hj => ?_⟩
        have h3 := h.1.2
        rw [h1, h2] at h3
        simp only [Bool.not_true, Bool.false_or] at h3
        have := List.all_eq_true.1 h3 j hj
        simpa using this
    | cons x0 x =>
      simp only [List.cons_append, List.cons.injEq] at e
      obtain ⟨rfl, rfl⟩ := e
      obtain ⟨o, ho, hk, hy⟩ := linGo_spec _ _ _ h.2 x k y rfl
      refine ⟨o, ho, ?_, hy⟩
      have e1 : (k0 :: x).reverse ++ prev = x.reverse ++ (k0 :: prev) := by simp
      have e2 : (((k0 :: x).filter fun j => fs.contains j).reverse ++ seen) = (x.filter fun j => fs.contains j).reverse ++ (if fs.contains k0 then k0 :: seen else seen) := by
        cases hc : fs.contains k0 with
        | true =>
          rw [List.filter_cons, if_pos hc, List.reverse_cons, List.append_assoc]; rfl
        | false =>
          rw [List.filter_cons, if_neg (by rw [hc]; exact Bool.false_ne_true)]; rfl
      rw [e1, e2]; exact hk

def slotIs (N0 d : Nat) (v : Value) (a : Act) : Prop := a.tmps[d]? = if d < N0 then some v else none
theorem slotIs_put {N0 d : Nat} {v : Value} {a : Act} (h : a.tmps.size = N0) : slotIs N0 d v (a.put (some d) v) := by
  subst h
  unfold slotIs
  simp [Act.put, Array.getElem?_setIfInBounds]

def Pend (P : Program) (l : List Oper) (w0 : World) (N0 k : Nat) (af : Act) (Lq : List Ent) : Prop :=
  ∃ o v, l[k]? = some o ∧ (∀ d, o.dst = some d → slotIs N0 d v af) ∧ (Region.wanted o (yielded l.toArray af.tmps) = true → quietR P o af (Mem w0 Lq) v) ∧ (Region.wanted o (yielded l.toArray af.tmps) = false → v = undef)

def Early (P : Program) (l : List Oper) (fs : List Nat) (N0 : Nat) (suf : List Nat) (listed : Array Bool) (a : Act) (e : Nat × Ent) : Prop :=
  e.1 ∈ suf ∧ listed.getD e.1 true = true ∧ fs.contains e.1 = true ∧ fs.contains (e.1 + 2000) = true ∧ ∃ o t z b, l[e.1]? = some o ∧ IsAlloc P o t z ∧ e.2 = blk b z.cells t ∧ ∀ d, o.dst = some d → slotIs N0 d (.pointer (some ⟨b, 0, none⟩)) a
structure Core (P : Program) (l : List Oper) (fs : List Nat) (Q : Exit → Act → World → Prop) (w0 : World) (ord : List Nat) (a0 : Act) (pre suf : List Nat) (af : Act) (L Lq : List Ent) (E : List (Nat × Ent)) (listed : Array Bool) (a : Act) (w : World) : Prop where
  ord : ord = pre ++ suf
  inv : HeadInv .any l.toArray l.length listed
  mem : Mem w0 (E.map (·.2) ++ L) w
  ear : ∀ e ∈ E, Early P l fs a0.tmps.size suf listed a e
  keys : (E.map (·.1)).Nodup
  sees : ∀ w, Mem w0 L w → Mem w0 Lq w
  lin : Lin P l fs Q w0 suf af L Lq
  size : a.tmps.size = a0.tmps.size
  sizef : af.tmps.size = a0.tmps.size
  defers : a.defers = a0.defers
  defersf : af.defers = a0.defers
  sub : ∀ j, j < l.length → listed.getD j true = true → j ∈ pre ∨ j ∈ E.map (·.1)
  fresh : ∀ j ∈ pre, fs.contains j = true → listed.getD j true = true
  pend : ∀ j ∈ pre, listed.getD j true = false → Pend P l w0 a0.tmps.size j af (if fs.contains (j + 1000) = true then L else Lq)
  done : ∀ j d, j < l.length → listed.getD j true = true → j ∈ pre → dstAt l j = some d → a.tmps[d]? = af.tmps[d]?
  rest : ∀ d, (∀ j, j < l.length → listed.getD j true = true → dstAt l j ≠ some d) → a.tmps[d]? = a0.tmps[d]?
  full : ∀ d, (∀ j ∈ pre, dstAt l j ≠ some d) → af.tmps[d]? = a0.tmps[d]?

variable {A : List (List Nat)} {ord : List Nat} {a0 : Act}

theorem looks_same {o : Oper} (hn : ∀ cs b, o.op ≠ .select cs b) {a b : Act} (h : ∀ t ∈ o.looksAt l.toArray, a.tmps[t]? = b.tmps[t]?) :
    execOp a.eval o = execOp b.eval o ∧ Region.wanted o (yielded l.toArray a.tmps) = Region.wanted o (yielded l.toArray b.tmps) :=
  ⟨execOp_congr o hn (eval_same h), wanted_same h⟩
theorem quietR_congr {o : Oper} {a b : Act} {C D : World → Prop} {v : Value} (e : execOp a.eval o = execOp b.eval o) (hD : ∀ w, D w → C w) (h : quietR P o a C v) : quietR P o b D v := fun w hw => by
  have := h w (hD w hw)
  unfold Oper.quietAt at this ⊢
  rw [← e]; exact this

theorem pend_put {pre suf : List Nat} {i k N0 : Nat} {af : Act} {Lq Lq' : List Ent} {oi : Oper} {u : Value} (hB : linGo l fs A [] [] ord = true) (hnd : ord.Nodup) (hlt : ∀ j ∈ ord, j < l.length) (ho : ord = pre ++ i :: suf) (hio : l[i]? = some oi) (hk : k ∈ pre) (hq : ∀ w, Mem w0 Lq' w → Mem w0 Lq w)
    (h : Pend P l w0 N0 k af Lq) : Pend P l w0 N0 k (af.put oi.dst u) Lq' := by
  obtain ⟨o, v, h1, h2, h3, h4⟩ := h
  obtain ⟨x, y, rfl⟩ := List.append_of_mem hk
  have ho' : ord = x ++ k :: (y ++ i :: suf) := by rw [ho]; simp
  obtain ⟨o', hko, hok, -⟩ := linGo_spec ord [] [] hB x k _ ho'
  have : o' = o := by rw [h1] at hko; exact (Option.some.inj hko).symm
  subst this
  have hil : i < l.length := (List.getElem?_eq_some_iff.1 hio).1
  have hdi : dstAt l i = oi.dst := by simp [dstAt, hio]
  have hik : i ≠ k := fun e => by
    subst e
    rw [ho'] at hnd
    have := (List.nodup_append.1 hnd).2.1
    exact (List.nodup_cons.1 this).1 (by simp)
  have hix : i ∉ x := fun hx => by
    rw [ho'] at hnd
    exact (List.nodup_append.1 hnd).2.2 i hx i (by simp) rfl
  have hlook : ∀ t ∈ o'.looksAt l.toArray, af.tmps[t]? = (af.put oi.dst u).tmps[t]? := fun t ht => by
    refine (put_get _ _ _ _ fun e => ?_).symm
    obtain ⟨hp, _⟩ := hok.reads i t hil (by rw [hdi]; exact e) ht
    rw [List.append_nil, List.mem_reverse] at hp
    exact hix hp
  obtain ⟨e1, e2⟩ := looks_same hok.nosel hlook
  refine ⟨o', v, h1, fun d hd => ?_, fun hw => quietR_congr e1 hq (h3 (by rw [e2]; exact hw)), fun hw => h4 (by rw [e2]; exact hw)⟩
  have := h2 d hd
  unfold slotIs at this ⊢
  rw [put_get _ _ _ _ fun e => ?_]
  · exact this
  · exact hok.one i d hil (by rw [hdi]; exact e) hik hd

theorem mem_split {E : List (Nat × Ent)} {k : Nat} (h : k ∈ E.map (·.1)) : ∃ E1 x E2, E = E1 ++ (k, x) :: E2 := by
  obtain ⟨e, he, rfl⟩ := List.mem_map.1 h
  obtain ⟨E1, E2, rfl⟩ := List.append_of_mem he
  exact ⟨E1, e.2, E2, rfl⟩
theorem core_adv (hB : linGo l fs A [] [] ord = true) (hnd : ord.Nodup) (hlt : ∀ j ∈ ord, j < l.length) : ∀ (suf pre : List Nat) (af : Act) {L Lq : List Ent} {E : List (Nat × Ent)} {listed : Array Bool} {a : Act} {w : World}, Core P l fs Q w0 ord a0 pre suf af L Lq E listed a w →
    ∃ pre' suf' af' L' E', Core P l fs Q w0 ord a0 pre' suf' af' L' Lq E' listed a w ∧ (suf' = [] ∨ ∃ f r, suf' = f :: r ∧ fs.contains f = true ∧ f ∉ E'.map (·.1))
  | [], pre, af, L, _, E, _, _, _, H => ⟨pre, [], af, L, E, H, .inl rfl⟩
  | k :: suf, pre, af, L, Lq, E, listed, a, w, H => by
    have hkp : k ∉ pre := fun h => by
      have hnd' := hnd
      rw [H.ord] at hnd'
      exact (List.nodup_append.1 hnd').2.2 k h k (by simp) rfl
    have hun : ∀ j, j ∈ pre → j ≠ k := fun j hj e => hkp (e ▸ hj)
    have hks : k ∉ suf := fun h => by
      have hnd' := hnd
      rw [H.ord] at hnd'
      exact (List.nodup_cons.1 (List.nodup_append.1 hnd').2.1).1 h
    obtain ⟨o', hko', hok, -⟩ := linGo_spec ord [] [] hB pre k suf H.ord
    have hkl : k < l.length := (List.getElem?_eq_some_iff.1 hko').1
    have hdk : dstAt l k = o'.dst := by simp [dstAt, hko']
    cases hf : fs.contains k with
    | true =>
      by_cases hE : k ∈ E.map (·.1)
      · obtain ⟨E1, x, E2, rfl⟩ := mem_split hE
        obtain ⟨_, hlk, _, hal, oe, t, z, b, hoe, hA, hx, hsl⟩ := H.ear (k, x) (by simp)
        simp only at hlk hal hoe hx hsl
        have e0 : oe = o' := by rw [hoe] at hko'; exact Option.some.inj hko'
        subst e0
        obtain ⟨o, hko, hl⟩ := H.lin
        rw [if_pos hf, if_pos hal] at hl
        have e1 : o = oe := by rw [hko] at hko'; exact Option.some.inj hko'
        subst e1
        obtain ⟨_, t2, z2, hA2, hlin⟩ := hl
        have hx2 : x = blk b z2.cells t2 := hx.trans (hA.uniq hA2 b)
        have hperm : (((E1 ++ (k, x) :: E2).map (·.2)) ++ L).Perm (((E1 ++ E2).map (·.2)) ++ x :: L) := by
          simp only [List.map_append, List.map_cons, List.append_assoc, List.cons_append]
          exact List.Perm.append_left _ (List.perm_middle.symm)
        have hkeys := H.keys
        simp only [List.map_append, List.map_cons] at hkeys
        have hkE : ∀ e ∈ E1 ++ E2, e.1 ≠ k := fun e he e2 => by
          obtain ⟨n1, n2, n3⟩ := List.nodup_append.1 hkeys
          rcases List.mem_append.1 he with h | h
          · exact n3 e.1 (List.mem_map_of_mem h) k (by simp) e2
          · exact (List.nodup_cons.1 n2).1 (e2 ▸ List.mem_map_of_mem h)
        refine core_adv hB hnd hlt suf (pre ++ [k]) (af.put o.dst (.pointer (some ⟨b, 0, none⟩))) (L := x :: L) (E := E1 ++ E2) ⟨by rw [H.ord]; simp, H.inv, H.mem.perm hperm, fun e he => ?_, ?_, fun w hw => H.sees w (hw.sub (List.sublist_cons_self _ _)), by rw [hx2]; exact hlin b, H.size, by rw [put_size]; exact H.sizef, H.defers, by rw [put_def]; exact H.defersf, fun j hj hl => ?_, fun j hj hf' => ?_, fun j hj hl => ?_, fun j d hj hl hjp hd => ?_, H.rest, fun d hd => ?_⟩
        · have hm : e ∈ E1 ++ (k, x) :: E2 := by
            rcases List.mem_append.1 he with h | h
            · exact List.mem_append_left _ h
            · exact List.mem_append_right _ (List.mem_cons_of_mem _ h)
          obtain ⟨g1, g2⟩ := H.ear e hm
          exact ⟨(List.mem_cons.1 g1).resolve_left (hkE e he), g2⟩
        · rw [List.map_append]
          exact hkeys.sublist (List.Sublist.append_left (List.sublist_cons_self _ _) _)
        · rcases H.sub j hj hl with h | h
          · exact .inl (List.mem_append_left _ h)
          · simp only [List.map_append, List.map_cons, List.mem_append, List.mem_cons] at h
            rcases h with h | h | h
            · exact .inr (by simp only [List.map_append, List.mem_append]; exact .inl h)
            · exact .inl (by rw [h]; simp)
            · exact .inr (by simp only [List.map_append, List.mem_append]; exact .inr h)
        · rcases List.mem_append.1 hj with h | h
          · exact H.fresh j h hf'
          · obtain rfl := List.mem_singleton.1 h; exact hlk
        · rcases List.mem_append.1 hj with h | h
          · have hp := H.pend j h hl
            cases htj : fs.contains (j + 1000) with
            | true =>
              rw [htj] at hp
              simp only [if_true] at hp ⊢
              exact pend_put hB hnd hlt H.ord hko h (fun w hw => hw.sub (List.sublist_cons_self _ _)) hp
            | false =>
              rw [htj] at hp
              simp only [Bool.false_eq_true, if_false] at hp ⊢
              exact pend_put hB hnd hlt H.ord hko h (fun _ h => h) hp
          · obtain rfl := List.mem_singleton.1 h
            rw [hlk] at hl; cases hl
        · rcases List.mem_append.1 hjp with h | h
          · rw [put_get _ _ _ _ (hok.one j d hj hd (hun j h))]
            exact H.done j d hj hl h hd
          · obtain rfl := List.mem_singleton.1 h
            rw [hdk] at hd
            have h3 := hsl d hd
            rw [hd]
            have h4 : slotIs a0.tmps.size d (.pointer (some ⟨b, 0, none⟩)) (af.put (some d) (.pointer (some ⟨b, 0, none⟩))) := slotIs_put H.sizef
            unfold slotIs at h3 h4
            rw [h3, h4]
        · rw [put_get _ _ _ _ (by have := hd k (by simp); rwa [hdk] at this)]
          exact H.full d fun j hj => hd j (List.mem_append_left _ hj)
      · exact ⟨pre, k :: suf, af, L, E, H, .inr ⟨k, suf, rfl, hf, hE⟩⟩
    | false =>
      obtain ⟨o, hko, hl⟩ := H.lin
      rw [if_neg (by rw [hf]; exact Bool.false_ne_true)] at hl
      obtain ⟨v, h1, h2, h3⟩ := hl
      have : o' = o := by rw [hko] at hko'; exact (Option.some.inj hko').symm
      subst this
      have hlook : ∀ t ∈ o'.looksAt l.toArray, af.tmps[t]? = (af.put o'.dst v).tmps[t]? := fun t ht => by
        refine (put_get _ _ _ _ fun e => ?_).symm
        obtain ⟨hp, _⟩ := hok.reads k t hkl (by rw [hdk]; exact e) ht
        rw [List.append_nil, List.mem_reverse] at hp
        exact hkp hp
      obtain ⟨e1, e2⟩ := looks_same hok.nosel hlook
      refine core_adv hB hnd hlt suf (pre ++ [k]) (af.put o'.dst v) ⟨by rw [H.ord]; simp, H.inv, H.mem, fun e he => ?_, H.keys, H.sees, h3, H.size, by rw [put_size]; exact H.sizef, H.defers, by rw [put_def]; exact H.defersf, fun j hj hl => (H.sub j hj hl).imp_left fun h => List.mem_append_left _ h, fun j hj hf' => ?_, fun j hj hl => ?_, fun j d hj hl hjp hd => ?_, H.rest, fun d hd => ?_⟩
      · obtain ⟨g1, g2, g3, g4⟩ := H.ear e he
        exact ⟨(List.mem_cons.1 g1).resolve_left (fun e2 => by rw [e2, hf] at g3; cases g3), g2, g3, g4⟩
      · rcases List.mem_append.1 hj with h | h
        · exact H.fresh j h hf'
        · obtain rfl := List.mem_singleton.1 h
          rw [hf] at hf'; cases hf'
      · rcases List.mem_append.1 hj with h | h
        · exact pend_put hB hnd hlt H.ord hko h (fun _ h => h) (H.pend j h hl)
        · obtain rfl := List.mem_singleton.1 h
          refine ⟨o', v, hko, fun d hd => by rw [hd]; exact slotIs_put H.sizef, fun hw => quietR_congr e1 (fun _ h => h) (h1 (by rw [e2]; exact hw)), fun hw => h2 (by rw [e2]; exact hw)⟩
      · rcases List.mem_append.1 hjp with h | h
        · rw [put_get _ _ _ _ (hok.one j d hj hd (hun j h))]
          exact H.done j d hj hl h hd
        · obtain rfl := List.mem_singleton.1 h
          rcases H.sub j hj hl with h5 | h5
          · exact absurd h5 hkp
          · obtain ⟨e, he, hej⟩ := List.mem_map.1 h5
            obtain ⟨_, _, g3, _⟩ := H.ear e he
            rw [hej, hf] at g3; cases g3
      · rw [put_get _ _ _ _ (by have := hd k (by simp); rwa [hdk] at this)]
        exact H.full d fun j hj => hd j (List.mem_append_left _ hj)

theorem split_uniq {x p1 y y' : List Nat} {i : Nat} (hn : (p1 ++ i :: y').Nodup) (h : x ++ i :: y = p1 ++ i :: y') : x = p1 := by
  induction x generalizing p1 with
  | nil =>
    cases p1 with
    | nil => rfl
    | cons q p1 =>
      simp only [List.nil_append, List.cons_append, List.cons.injEq] at h
      obtain ⟨rfl, _⟩ := h
      exact absurd (by simp) (List.nodup_cons.1 hn).1
  | cons c x ih =>
    cases p1 with
    | nil =>
      simp only [List.nil_append, List.cons_append, List.cons.injEq] at h
      obtain ⟨rfl, h2⟩ := h
      rw [← h2] at hn
      exact absurd (by simp) (List.nodup_cons.1 hn).1
    | cons q p1 =>
      simp only [List.cons_append, List.cons.injEq] at h
      obtain ⟨rfl, h2⟩ := h
      rw [ih (List.nodup_cons.1 hn).2 h2]
theorem cert_listed {listed : Array Bool} (hB : linGo l fs A [] [] ord = true) (hin : ∀ j, j < l.length → j ∈ ord) (inv : HeadInv .any l.toArray l.length listed) : ∀ (k : Nat) (o : Oper), l[k]? = some o → (∀ e ∈ o.after, Region.binds .any e = true → listed.getD e.on false = true) →
    ∀ f ∈ A.getD k [], listed.getD f false = true := by
  intro k
  induction k using Nat.strongRecOn with
  | _ k ih =>
    intro o hko hd f hf
    obtain ⟨x, y, hx⟩ := List.append_of_mem (hin k (List.getElem?_eq_some_iff.1 hko).1)
    obtain ⟨o', hko', hok, -⟩ := linGo_spec ord [] [] hB x k y hx
    have : o' = o := by rw [hko] at hko'; exact (Option.some.inj hko').symm
    subst this
    obtain ⟨e, he, hb, h⟩ := hok.cert f hf
    have hl := hd e he hb
    rcases h with rfl | h
    · exact hl
    · have hlt := hok.back e he hb
      have hel : e.on < l.length := by have := (List.getElem?_eq_some_iff.1 hko).1; omega
      exact ih e.on hlt l[e.on] (by simp [hel]) (inv.closed e.on _ (by simp [hel]) hl) f h

theorem getD_tf {listed : Array Bool} {i : Nat} (hi : i < listed.size) (h : listed.getD i false = true) : listed.getD i true = true := by
  simp [hi] at h ⊢; exact h

theorem any_of_core (hB : linGo l fs A [] [] ord = true) (hnd : ord.Nodup) (hlt : ∀ j ∈ ord, j < l.length) (hin : ∀ j, j < l.length → j ∈ ord) (hAq : ∀ k, fs.contains k = false → fs.contains (k + 2000) = false) (hA : ∀ k, fs.contains (k + 2000) = true → ∃ o t z, l[k]? = some o ∧ o.guard = none ∧ IsAlloc P o t z) :
    ∀ (m : Nat) (pre suf : List Nat) (af : Act) (L Lq : List Ent) (E : List (Nat × Ent)) (listed : Array Bool) (a : Act) (w : World), left l.length listed = m → Core P l fs Q w0 ord a0 pre suf af L Lq E listed a w → wpAny P .any l.toArray Q m listed a w
  | 0, pre0, suf0, af0, L0, Lq, E0, listed, a, w, hm, H0 => by
    obtain ⟨pre, suf, af, L, E, H, hsuf⟩ := core_adv hB hnd hlt suf0 pre0 af0 H0
    have hall : ∀ j, j < l.length → listed.getD j true = true := fun j hj => by
      cases h : listed.getD j true with
      | true => rfl
      | false =>
        have : j ∈ (List.range l.length).filter fun i => !listed.getD i true := List.mem_filter.2 ⟨List.mem_range.2 hj, by rw [h]; rfl⟩
        rw [List.length_eq_zero_iff.1 hm] at this
        cases this
    have hr : Region.ready .any l.toArray listed = [] := by
      refine List.eq_nil_iff_forall_not_mem.2 fun i hi => ?_
      obtain ⟨h1, o, h2, _⟩ := mem_ready.1 hi
      rw [hall i (by have := (Array.getElem?_eq_some_iff.1 h2).1; simpa using this)] at h1; cases h1
    have hsuf2 : suf = [] := by
      rcases hsuf with h | ⟨k, r, hs, _, hE⟩
      · exact h
      · exfalso
        have hk : k ∈ ord := by rw [H.ord, hs]; simp
        rcases H.sub k (hlt k hk) (hall k (hlt k hk)) with this | this
        · have hnd' := hnd
          rw [H.ord, hs] at hnd'
          exact absurd rfl ((List.nodup_append.1 hnd').2.2 k this k (by simp))
        · exact hE this
    have hE : E = [] := List.eq_nil_iff_forall_not_mem.2 fun e he => by
      have := (H.ear e he).1
      rw [hsuf2] at this; cases this
    have hlin := H.lin
    rw [hsuf2] at hlin
    have hord := H.ord
    rw [hsuf2, List.append_nil] at hord
    have e1 : a = af := by
      have : a.tmps = af.tmps := by
        apply Array.ext_getElem?
        intro d
        by_cases hw : ∃ j, j < l.length ∧ dstAt l j = some d
        · obtain ⟨j, hj, hd⟩ := hw
          exact H.done j d hj (hall j hj) (by rw [← hord]; exact hin j hj) hd
        · have h1 : ∀ j, j < l.length → dstAt l j ≠ some d := fun j hj hd => hw ⟨j, hj, hd⟩
          rw [H.rest d fun j hj _ => h1 j hj, H.full d fun j hj => h1 j (hlt j (by rw [hord]; exact hj))]
      have h2 : a.defers = af.defers := by rw [H.defers, H.defersf]
      cases a; cases af
      simp_all
    subst e1
    have hmem := H.mem
    rw [hE] at hmem
    exact ⟨hr, hlin w (by simpa using hmem)⟩
  | m + 1, pre0, suf0, af0, L0, Lq, E0, listed, a, w, hm, H0 => by
    obtain ⟨pre, suf, af, L, E, H, hsuf⟩ := core_adv hB hnd hlt suf0 pre0 af0 H0
    have hmL : Mem w0 L w := H.mem.sub (List.sublist_append_right _ _)
    obtain ⟨i0, hi0, hun0, hmin⟩ : ∃ i, i < l.length ∧ listed.getD i true = false ∧ ∀ j, j < i → listed.getD j true = true := by
      have hne : ∃ i, i < l.length ∧ listed.getD i true = false := by
        cases hf : (List.range l.length).filter fun i => !listed.getD i true with
        | nil => rw [left, hf] at hm; cases hm
        | cons i r =>
          have : i ∈ (List.range l.length).filter fun i => !listed.getD i true := by rw [hf]; simp
          obtain ⟨h1, h2⟩ := List.mem_filter.1 this
          exact ⟨i, List.mem_range.1 h1, by simpa using h2⟩
      obtain ⟨i, h1, h2⟩ := hne
      induction i using Nat.strongRecOn with
      | _ i ih =>
        by_cases h : ∃ j, j < i ∧ listed.getD j true = false
        · obtain ⟨j, hj, hj2⟩ := h
          exact ih j hj (by omega) hj2
        · refine ⟨i, h1, h2, fun j hj => ?_⟩
          cases hh : listed.getD j true with
          | true => rfl
          | false => exact absurd ⟨j, hj, hh⟩ h
    have hsz : listed.size = l.length := by simpa using H.inv.size
    have ok : ∀ k, k < l.length → ∃ x y o, ord = x ++ k :: y ∧ l[k]? = some o ∧ OpOk l fs A (x.reverse ++ []) ((x.filter fun j => fs.contains j).reverse ++ []) k o := fun k hk => by
      obtain ⟨x, y, hx⟩ := List.append_of_mem (hin k hk)
      obtain ⟨o, ho, hok, -⟩ := linGo_spec ord [] [] hB x k y hx
      exact ⟨x, y, o, hx, ho, hok⟩
    have hready : i0 ∈ Region.ready .any l.toArray listed := by
      obtain ⟨x, y, o, _, ho, hok⟩ := ok i0 hi0
      refine mem_ready.2 ⟨hun0, o, by simpa using ho, fun e he hb => ?_⟩
      have h1 := hok.back e he hb
      have h2 := hmin e.on h1
      have h3 : e.on < listed.size := by omega
      simp [h3] at h2 ⊢; exact h2
    refine ⟨fun h => (by rw [h] at hready; cases hready), fun i hi => ?_⟩
    obtain ⟨hun, o', ho', hdep⟩ := mem_ready.1 hi
    have hin' : i < l.length := by have := (Array.getElem?_eq_some_iff.1 ho').1; simpa using this
    obtain ⟨x, y, o, hx, ho, hok⟩ := ok i hin'
    have : o' = o := by simpa [ho] using ho'.symm
    subst this
    have hleft : left l.length (listed.setIfInBounds i true) = m := by have := left_set hin' hun; omega
    have hdi : dstAt l i = o'.dst := by simp [dstAt, ho]
    have getne : ∀ j, j ≠ i → (listed.setIfInBounds i true).getD j true = listed.getD j true := fun j hji => getD_set_ne true (Ne.symm hji)
    have geti : (listed.setIfInBounds i true).getD i true = true := by simp [show i < listed.size by omega]
    have hone : ∀ j d, j < l.length → dstAt l j = some d → j ≠ i → o'.dst ≠ some d := hok.one
    have hlook0 : (∀ j ∈ x, j ∈ pre) → ∀ t ∈ o'.looksAt l.toArray, a.tmps[t]? = af.tmps[t]? := fun hpx t ht => by
      by_cases hw : ∃ j, j < l.length ∧ dstAt l j = some t
      · obtain ⟨j, hj, hd⟩ := hw
        obtain ⟨hjx, e, he, hb, hon⟩ := hok.reads j t hj hd ht
        have hl := hdep e he hb
        rw [hon] at hl
        rw [List.append_nil, List.mem_reverse] at hjx
        exact H.done j t hj (getD_tf (by omega) hl) (hpx j hjx) hd
      · have h1 : ∀ j, j < l.length → dstAt l j ≠ some t := fun j hj hd => hw ⟨j, hj, hd⟩
        rw [H.rest t fun j hj _ => h1 j hj, H.full t fun j hj => h1 j (hlt j (by rw [H.ord]; exact List.mem_append_left _ hj))]
    by_cases hip : i ∈ pre
    · -- a quiet operation
      have hpx : ∀ j ∈ x, j ∈ pre := fun j hj => by
        obtain ⟨p1, p2, hp⟩ := List.append_of_mem hip
        have h1 := H.ord
        rw [hp, hx, List.append_assoc, List.cons_append] at h1
        have hnd1 := hnd
        rw [hx] at hnd1
        have h2 : x = p1 := split_uniq (h1 ▸ hnd1) h1
        rw [hp, ← h2]; exact List.mem_append_left _ hj
      obtain ⟨ee, ew⟩ := looks_same hok.nosel (hlook0 hpx)
      obtain ⟨op, v, hop, hv1, hv2, hv3⟩ := H.pend i hip hun
      have : op = o' := by rw [ho] at hop; exact (Option.some.inj hop).symm
      subst this
      have hfi : fs.contains i = false := by
        cases h : fs.contains i with
        | false => rfl
        | true => have := H.fresh i hip h; rw [hun] at this; cases this
      have next : ∀ w', Mem w [] w' → wpAny P .any l.toArray Q m (listed.setIfInBounds i true) (a.put op.dst v) w' := fun w' hw' => by
        refine any_of_core hB hnd hlt hin hAq hA m pre suf af L Lq E _ _ w' hleft ⟨H.ord, H.inv.set hi hin', by simpa using H.mem.call hw', fun e he => ?_, H.keys, H.sees, H.lin, by rw [put_size]; exact H.size, H.sizef, by rw [put_def]; exact H.defers, H.defersf, fun j hj hl => ?_, fun j hj hf => ?_, fun j hj hl => ?_, fun j d hj hl hjp hd => ?_, fun d hd => ?_, H.full⟩
        · obtain ⟨g1, g2, g3, g4, oe, t, z, b, g5, g6, g7, g8⟩ := H.ear e he
          have hei : e.1 ≠ i := fun e2 => by
            have hnd' := hnd
            rw [H.ord] at hnd'
            exact (List.nodup_append.1 hnd').2.2 i hip e.1 g1 e2.symm
          refine ⟨g1, by rw [getne _ hei]; exact g2, g3, g4, oe, t, z, b, g5, g6, g7, fun d hd => ?_⟩
          have := g8 d hd
          unfold slotIs at this ⊢
          rw [put_get _ _ _ _ (hone e.1 d (List.getElem?_eq_some_iff.1 g5).1 (by simp [dstAt, g5, hd]) hei)]
          exact this
        · by_cases hji : j = i
          · subst hji; exact .inl hip
          · exact H.sub j hj (by rw [← getne j hji]; exact hl)
        · rw [getne j (fun e => by subst e; rw [hfi] at hf; cases hf)]; exact H.fresh j hj hf
        · exact H.pend j hj (by rw [← getne j (fun e => by subst e; rw [geti] at hl; cases hl)]; exact hl)
        · by_cases hji : j = i
          · subst hji
            rw [hdi] at hd
            have h2 := hv1 d hd
            rw [hd]
            have h3 : slotIs a0.tmps.size d v (a.put (some d) v) := slotIs_put H.size
            unfold slotIs at h2 h3
            rw [h2, h3]
          · rw [getne j hji] at hl
            rw [put_get _ _ _ _ (hone j d hj hd hji)]
            exact H.done j d hj hl hjp hd
        · have h1 : op.dst ≠ some d := by
            have := hd i hin' geti
            rwa [hdi] at this
          rw [put_get _ _ _ _ h1]
          refine H.rest d fun j hj hl => ?_
          by_cases hji : j = i
          · subst hji; rw [hdi]; exact h1
          · exact hd j hj (by rw [getne j hji]; exact hl)
      unfold wpOp
      simp only [ho']
      rw [ew]
      split
      · rename_i hwt
        have h1 := hv2 hwt w (by
          split
          · exact hmL
          · exact H.sees w hmL)
        refine .inl ?_
        unfold Oper.wp
        rw [ee]
        unfold Oper.quietAt at h1
        generalize (execOp af.eval op).run P w = r at h1
        unfold Oper.quietUpon at h1
        split at h1
        · obtain ⟨rfl, rfl⟩ := h1; exact next _ (Mem.init _)
        · obtain ⟨rfl, e⟩ := h1; rw [e] at next; exact next _ (Mem.init _)
        · obtain ⟨rfl, hcal⟩ := h1
          exact hcal.mono fun e w'' ⟨he, hm⟩ => by subst he; exact next _ hm
        · exact h1.elim
      · rename_i hwt
        have := hv3 (by simpa using hwt)
        rw [this] at next
        exact next w (Mem.init _)
    · -- what is to be made next
      have his : i ∈ suf := by
        have := hin i hin'
        rw [H.ord] at this
        exact (List.mem_append.1 this).resolve_left hip
      rcases hsuf with rfl | ⟨f, r, rfl, hff, hfE⟩
      · cases his
      have hdone : ∀ (v : Value) (j d : Nat), j < l.length → (listed.setIfInBounds i true).getD j true = true → j ∈ pre → dstAt l j = some d → (a.put o'.dst v).tmps[d]? = af.tmps[d]? := fun v j d hj hl hjp hd => by
        have hji : j ≠ i := fun e => hip (e ▸ hjp)
        rw [getne j hji] at hl
        rw [put_get _ _ _ _ (hone j d hj hd hji)]
        exact H.done j d hj hl hjp hd
      have hrest : ∀ (v : Value) (d : Nat), (∀ j, j < l.length → (listed.setIfInBounds i true).getD j true = true → dstAt l j ≠ some d) → (a.put o'.dst v).tmps[d]? = a0.tmps[d]? := fun v d hd => by
        have h1 : o'.dst ≠ some d := by
          have := hd i hin' geti
          rwa [hdi] at this
        rw [put_get _ _ _ _ h1]
        refine H.rest d fun j hj hl => ?_
        by_cases hji : j = i
        · subst hji; rw [hdi]; exact h1
        · exact hd j hj (by rw [getne j hji]; exact hl)
      have hnE : i ∉ E.map (·.1) := fun h => by
        obtain ⟨e, he, rfl⟩ := List.mem_map.1 h
        have := (H.ear e he).2.1
        rw [hun] at this; cases this
      have hear : ∀ (v : Value), ∀ e ∈ E, Early P l fs a0.tmps.size (f :: r) (listed.setIfInBounds i true) (a.put o'.dst v) e := fun v e he => by
        obtain ⟨g1, g2, g3, g4, oe, t, z, b, g5, g6, g7, g8⟩ := H.ear e he
        have hei : e.1 ≠ i := fun e2 => hnE (e2 ▸ List.mem_map_of_mem he)
        refine ⟨g1, by rw [getne _ hei]; exact g2, g3, g4, oe, t, z, b, g5, g6, g7, fun d hd => ?_⟩
        have := g8 d hd
        unfold slotIs at this ⊢
        rw [put_get _ _ _ _ (hone e.1 d (List.getElem?_eq_some_iff.1 g5).1 (by simp [dstAt, g5, hd]) hei)]
        exact this
      by_cases hif : i = f
      · subst hif
        have hpx : ∀ j ∈ x, j ∈ pre := fun j hj => by
          have h1 := H.ord
          rw [hx] at h1
          have hnd1 := hnd
          rw [hx] at hnd1
          have h2 : x = pre := split_uniq (h1 ▸ hnd1) h1
          rw [← h2]; exact hj
        obtain ⟨ee, ew⟩ := looks_same hok.nosel (hlook0 hpx)
        obtain ⟨of, hof, hl⟩ := H.lin
        have : of = o' := by rw [ho] at hof; exact (Option.some.inj hof).symm
        subst this
        rw [if_pos hff] at hl
        have next : ∀ v w' E' L' Lq', E' = E → (∀ e ∈ E, e.1 ∈ r) → Mem w0 (E'.map (·.2) ++ L') w' → (∀ w, Mem w0 L' w → Mem w0 Lq' w) → (∀ w, Mem w0 Lq' w → Mem w0 Lq w) → (fs.contains (i + 2000) = true → ∀ w, Mem w0 L' w → Mem w0 L w) → Lin P l fs Q w0 r (af.put of.dst v) L' Lq' → wpAny P .any l.toArray Q m (listed.setIfInBounds i true) (a.put of.dst v) w' := fun v w' E' L' Lq' hEE hEr g1 g2 g3 gal g4 => by
          subst hEE
          refine any_of_core hB hnd hlt hin hAq hA m (pre ++ [i]) r (af.put of.dst v) L' Lq' E' _ _ w' hleft ⟨by rw [H.ord]; simp, H.inv.set hi hin', g1, fun e he => ?_, H.keys, g2, g4, by rw [put_size]; exact H.size, by rw [put_size]; exact H.sizef, by rw [put_def]; exact H.defers, by rw [put_def]; exact H.defersf, fun j hj hlj => ?_, fun j hj hf => ?_, fun j hj hlj => ?_, fun j d hj hlj hjp hd => ?_, hrest v, fun d hd => ?_⟩
          · obtain ⟨g1', g2'⟩ := hear v e he
            exact ⟨hEr e he, g2'⟩
          · by_cases hji : j = i
            · subst hji; exact .inl (by simp)
            · exact (H.sub j hj (by rw [← getne j hji]; exact hlj)).imp_left fun h => List.mem_append_left _ h
          · rcases List.mem_append.1 hj with h | h
            · by_cases hji : j = i
              · subst hji; exact geti
              · rw [getne j hji]; exact H.fresh j h hf
            · obtain rfl := List.mem_singleton.1 h; exact geti
          · rcases List.mem_append.1 hj with h | h
            · have hji : j ≠ i := fun e => hip (e ▸ h)
              cases htj : fs.contains (j + 1000) with
              | true =>
                cases hali : fs.contains (i + 2000) with
                | true =>
                  have hp := H.pend j h (by rw [← getne j hji]; exact hlj)
                  rw [htj] at hp
                  simp only [if_true] at hp ⊢
                  exact pend_put hB hnd hlt H.ord ho h (gal hali) hp
                | false =>
                  exfalso
                  obtain ⟨oi, hoi, hoki, -⟩ := linGo_spec ord [] [] hB pre i r H.ord
                  have e1 : oi = of := by rw [ho] at hoi; exact (Option.some.inj hoi).symm
                  subst e1
                  have hja := hoki.tmp hff j (by rw [List.append_nil, List.mem_reverse]; exact h) htj
                  have hjl := cert_listed hB hin H.inv i oi ho hdep j hja
                  have hjo : j ∈ ord := by rw [H.ord]; exact List.mem_append_left _ h
                  have := getD_tf (by have := hlt j hjo; omega) hjl
                  rw [getne j hji] at hlj
                  rw [this] at hlj; cases hlj
              | false =>
                have hp := H.pend j h (by rw [← getne j hji]; exact hlj)
                rw [htj] at hp
                simp only [Bool.false_eq_true, if_false] at hp ⊢
                exact pend_put hB hnd hlt H.ord ho h g3 hp
            · obtain rfl := List.mem_singleton.1 h
              rw [geti] at hlj; cases hlj
          · rcases List.mem_append.1 hjp with h | h
            · have hji : j ≠ i := fun e => hip (e ▸ h)
              rw [put_get _ _ _ _ (hone j d hj hd hji), put_get _ _ _ _ (hone j d hj hd hji)]
              rw [getne j hji] at hlj
              exact H.done j d hj hlj h hd
            · obtain rfl := List.mem_singleton.1 h
              rw [hdi] at hd
              rw [hd]
              have h3 : slotIs a0.tmps.size d v (a.put (some d) v) := slotIs_put H.size
              have h4 : slotIs a0.tmps.size d v (af.put (some d) v) := slotIs_put H.sizef
              unfold slotIs at h3 h4
              rw [h3, h4]
          · have h1 : of.dst ≠ some d := by
              have := hd i (by simp)
              rwa [hdi] at this
            rw [put_get _ _ _ _ h1]
            exact H.full d fun j hj => hd j (List.mem_append_left _ hj)
        have hEr : ∀ e ∈ E, e.1 ∈ r := fun e he => by
          have := (H.ear e he).1
          exact (List.mem_cons.1 this).resolve_left fun e2 => hnE (e2 ▸ List.mem_map_of_mem he)
        cases hali : fs.contains (i + 2000) with
        | true =>
          rw [if_pos hali] at hl
          obtain ⟨hg, t, z, hAl, hlin⟩ := hl
          unfold wpOp
          simp only [ho']
          rw [if_pos (by simp [Region.wanted, hg])]
          refine .inl ?_
          unfold Oper.wp
          rw [hAl]
          refine next _ _ E (blk w.heap.size z.cells t :: L) Lq rfl hEr ?_ (fun w hw => H.sees w (hw.sub (List.sublist_cons_self _ _))) (fun _ h => h) (fun _ w hw => hw.sub (List.sublist_cons_self _ _)) (hlin _)
          exact (H.mem.alloc z.cells t).perm (List.perm_middle.symm)
        | false =>
          rw [if_neg (by rw [hali]; exact Bool.false_ne_true)] at hl
          obtain ⟨hg, hrun⟩ := hl
          have hE0 : E = [] := List.eq_nil_iff_forall_not_mem.2 fun e he => by
            obtain ⟨oi, hoi, hoki, hry⟩ := linGo_spec ord [] [] hB pre i r H.ord
            have h1 := hry hff hali e.1 (hEr e he)
            rw [(H.ear e he).2.2.2.1] at h1; cases h1
          have h1 := hrun w hmL
          have next2 : ∀ v w', (∃ L' Lq', Mem w0 L' w' ∧ (∀ w, Mem w0 L' w → Mem w0 Lq' w) ∧ (∀ w, Mem w0 Lq' w → Mem w0 Lq w) ∧ Lin P l fs Q w0 r (af.put of.dst v) L' Lq') → wpAny P .any l.toArray Q m (listed.setIfInBounds i true) (a.put of.dst v) w' := fun v w' ⟨L', Lq', g1, g2, g3, g4⟩ =>
            next v w' E L' Lq' rfl hEr (by rw [hE0]; simpa using g1) g2 g3 (fun h => by rw [hali] at h; cases h) g4
          unfold wpOp
          simp only [ho']
          rw [if_pos (by rw [ew]; exact hg)]
          refine .inl ?_
          unfold Oper.wp
          rw [ee]
          generalize (execOp af.eval of).run P w = r' at h1
          unfold upon at h1
          split at h1
          · exact next2 _ _ h1
          · exact next2 _ _ h1
          · obtain ⟨rfl, hcal⟩ := h1
            exact hcal.mono fun e w'' ⟨u, he, hR⟩ => by subst he; exact next2 u _ hR
          · exact h1.elim
      · have hir : i ∈ r := (List.mem_cons.1 his).resolve_left hif
        cases hali : fs.contains (i + 2000) with
        | false =>
          exfalso
          obtain ⟨r1, r2, rfl⟩ := List.append_of_mem hir
          have hx' : ord = (pre ++ f :: r1) ++ i :: r2 := by rw [H.ord]; simp
          obtain ⟨oi, hoi, hoki, -⟩ := linGo_spec ord [] [] hB _ i r2 hx'
          have e1 : oi = o' := by rw [ho] at hoi; exact (Option.some.inj hoi).symm
          subst e1
          have hfa := hoki.anc hali f (by
            rw [List.append_nil, List.mem_reverse, List.mem_filter]
            exact ⟨by simp, hff⟩)
          have hfl := cert_listed hB hin H.inv i oi ho hdep f hfa
          have hf' : f ∈ ord := by rw [H.ord]; simp
          rcases H.sub f (hlt f hf') (getD_tf (by have := hlt f hf'; omega) hfl) with hfp | hfp
          · have hnd' := hnd
            rw [H.ord] at hnd'
            exact (List.nodup_append.1 hnd').2.2 f hfp f (by simp) rfl
          · exact hfE hfp
        | true =>
          obtain ⟨oa, t, z, hoa, hga, hAl⟩ := hA i hali
          have e1 : oa = o' := by rw [ho] at hoa; exact (Option.some.inj hoa).symm
          subst e1
          have hfi : fs.contains i = true := by
            cases hfi : fs.contains i with
            | true => rfl
            | false =>
              exfalso
              obtain ⟨r1, r2, rfl⟩ := List.append_of_mem hir
              exact absurd hali (by rw [hAq i hfi]; exact Bool.false_ne_true)
          unfold wpOp
          simp only [ho']
          rw [if_pos (by simp [Region.wanted, hga])]
          refine .inl ?_
          unfold Oper.wp
          rw [hAl]
          refine any_of_core hB hnd hlt hin hAq hA m pre (f :: r) af L Lq ((i, blk w.heap.size z.cells t) :: E) _ _ _ hleft ⟨H.ord, H.inv.set hi hin', H.mem.alloc z.cells t, fun e he => ?_, List.nodup_cons.2 ⟨hnE, H.keys⟩, H.sees, H.lin, by rw [put_size]; exact H.size, H.sizef, by rw [put_def]; exact H.defers, H.defersf, fun j hj hl => ?_, fun j hj hf => ?_, fun j hj hl => ?_, hdone _, hrest _, H.full⟩
          · rcases List.mem_cons.1 he with rfl | he
            · exact ⟨his, geti, hfi, hali, oa, t, z, w.heap.size, ho, hAl, rfl, fun d hd => by rw [hd]; exact slotIs_put H.size⟩
            · exact hear _ e he
          · by_cases hji : j = i
            · subst hji; exact .inr (by simp)
            · exact (H.sub j hj (by rw [← getne j hji]; exact hl)).imp_right fun h => List.mem_cons_of_mem _ h
          · have hji : j ≠ i := fun e => hip (e ▸ hj)
            rw [getne j hji]; exact H.fresh j hj hf
          · have hji : j ≠ i := fun e => hip (e ▸ hj)
            exact H.pend j hj (by rw [← getne j hji]; exact hl)

theorem wp_region_lin2 {id : Nat} {ro : Option Nat} [Tame Q] {a : Act} {w : World} {L Lq : List Ent} (A : List (List Nat)) (ord : List Nat) (hnd : noDefer l = true) (hm : P.follows .mixedOrders = true) (hB : linB2 l fs A ord = true) (hC : Mem w0 L { w with drawn := w.drawn + 1 }) (hsub : ∀ w, Mem w0 L w → Mem w0 Lq w)
    (hAq : ∀ k, fs.contains k = false → fs.contains (k + 2000) = false) (hA : ∀ k, fs.contains (k + 2000) = true → ∃ o t z, l[k]? = some o ∧ o.guard = none ∧ IsAlloc P o t z)
    (h : Lin P l fs Q w0 ord a L Lq) : (Code.region id l.toArray true).wpIn (fen ro) 0 P Q a w := by
  simp only [linB2, Bool.and_eq_true, decide_eq_true_eq] at hB
  obtain ⟨⟨⟨h1, h2⟩, h3⟩, h4⟩ := hB
  have hin : ∀ j, j < l.length → j ∈ ord := fun j hj => by have := List.all_eq_true.1 h1 j (List.mem_range.2 hj); simpa using this
  have hlt : ∀ j ∈ ord, j < l.length := fun j hj => by have := List.all_eq_true.1 h3 j hj; simpa using this
  refine fen_region_any hnd hm ?_
  have inv0 : HeadInv .any l.toArray l.length (Array.replicate l.toArray.size false) :=
    ⟨by simp, fun j oj _ hl => (by rw [getD_replicate_false] at hl; cases hl), fun t h1 h2 => by simp at h2; omega⟩
  have hun : ∀ j, j < l.length → (Array.replicate l.toArray.size false).getD j true = false := fun j hj => by simp [hj]
  have hleft : left l.length (Array.replicate l.toArray.size false) = l.length := by
    unfold left
    rw [List.filter_eq_self.2 (fun j hj => ?_), List.length_range]
    rw [hun j (List.mem_range.1 hj)]; rfl
  have := any_of_core (P := P) (Q := Q) (w0 := w0) (a0 := a) h4 h2 hlt hin hAq hA l.length [] ord a L Lq [] (Array.replicate l.toArray.size false) a _ hleft
    ⟨rfl, inv0, hC, fun e he => (by cases he), List.nodup_nil, hsub, h, rfl, rfl, rfl, rfl, fun j hj hl => (by rw [hun j hj] at hl; cases hl), fun j hj => (by cases hj), fun j hj => (by cases hj), fun j d hj hl => (by rw [hun j hj] at hl; cases hl), fun _ _ => rfl, fun _ _ => rfl⟩
  simpa using this
theorem wp_region_lin {id : Nat} {ro : Option Nat} [Tame Q] {a : Act} {w : World} {L Lq : List Ent} (A : List (List Nat)) (ord : List Nat) (hnd : noDefer l = true) (hm : P.follows .mixedOrders = true) (hB : linB l fs A ord = true) (hC : Mem w0 L { w with drawn := w.drawn + 1 }) (hsub : ∀ w, Mem w0 L w → Mem w0 Lq w)
    (h : Lin P l fs Q w0 ord a L Lq) : (Code.region id l.toArray true).wpIn (fen ro) 0 P Q a w := by
  have h5 : ∀ k, fs.contains (k + 2000) = false := fun k => by
    simp only [linB, Bool.and_eq_true] at hB
    cases hk : fs.contains (k + 2000) with
    | false => rfl
    | true =>
      have := List.all_eq_true.1 hB.1.2 (k + 2000) (by simpa using hk)
      have := of_decide_eq_true this
      omega
  refine wp_region_lin2 A ord hnd hm ?_ hC hsub (fun k _ => h5 k) (fun k hk => by rw [h5 k] at hk; cases hk) h
  simp only [linB, linB2, Bool.and_eq_true] at hB ⊢
  exact ⟨hB.1.1, hB.2⟩
end
end Go.Eng

/- Steps that make or write memory, and the line of a region that draws its order. -/
namespace Go.Eng
open Go.RowKit
section
variable {P : Program} {N : Fra} {w0 : World} {env : Env} {L R R1 R2 : List Ent} {Q : Exit → Act → World → Prop} {d : Option Tmp} {ty : TypeId} {ps : String} {af : Array Edge} {gd : Option (Nat × Bool)} {K : Value → List Ent → Prop}
def Stp (P : Program) (N : Fra) (w0 : World) (env : Env) (L : List Ent) (o : Oper) (K : Value → List Ent → Prop) : Prop :=
  ∀ a w, Rep N env a → Mem w0 L w → upon P w (fun v w' => ∃ L', Mem w0 L' w' ∧ K v L') ((execOp a.eval o).run P w)
theorem st_run {o : Oper} (h : ∀ a w, Rep N env a → Mem w0 L w → ∃ v w' L', (execOp a.eval o).run P w = .ok (.value v) w' ∧ Mem w0 L' w' ∧ K v L') : Stp P N w0 env L o K := fun a w ha hw => by
  obtain ⟨v, w', L', h1, h2, h3⟩ := h a w ha hw
  rw [h1]; exact ⟨L', h2, h3⟩
theorem st_skip {o : Oper} (h : ∀ a w, Rep N env a → Mem w0 L w → ∃ w' L', (execOp a.eval o).run P w = .ok .skip w' ∧ Mem w0 L' w' ∧ K undef L') : Stp P N w0 env L o K := fun a w ha hw => by
  obtain ⟨w', L', h1, h2, h3⟩ := h a w ha hw
  rw [h1]; exact ⟨L', h2, h3⟩
theorem upon_mono {w : World} {R R' : Value → World → Prop} (h : ∀ v w, R v w → R' v w) {r : Result Next} (hr : upon P w R r) : upon P w R' r := by
  unfold upon at hr ⊢
  split at hr
  · exact h _ _ hr
  · exact h _ _ hr
  · exact ⟨hr.1, hr.2.mono fun e w'' ⟨v, he, hv⟩ => ⟨v, he, h _ _ hv⟩⟩
  · exact hr.elim
theorem st_mono {o : Oper} {K' : Value → List Ent → Prop} (h : Stp P N w0 env L o K') (hk : ∀ v L', K' v L' → ∃ L'', (∀ w, Mem w0 L' w → Mem w0 L'' w) ∧ K v L'') : Stp P N w0 env L o K := fun a w ha hw =>
  upon_mono (fun v _ ⟨L', h1, h2⟩ => by obtain ⟨L'', h3, h4⟩ := hk v L' h2; exact ⟨L'', h3 _ h1, h4⟩) (h a w ha hw)
theorem st_mem {o : Oper} (L' : List Ent) (h : ∀ w, Mem w0 L w → Mem w0 L' w) (hk : Stp P N w0 env L' o K) : Stp P N w0 env L o K := fun a w ha hw => hk a w ha (h w hw)
theorem st_r {o : Oper} {v : Value} (h : Ry P N w0 env L o v) (hk : K v L) : Stp P N w0 env L o K := st_run fun a w ha hw => ⟨v, w, L, h a w ha hw, hw, hk⟩
theorem st_callC {X : Type} {val : X → Value} {L' : X → List Ent} {pr : X → Prop} {pre : Prop} {f : FuncId} {xs : List Operand} {ts : Array TypeId} {vs : List Value} [hf : IsFn P f] (hx : evl env xs = some vs)
    [hc : FnC P f w0 L vs X val L' pr pre] (hp : pre) (hk : ∀ x, pr x → K (val x) (L' x)) :
    Stp P N w0 env L ⟨d, .call { callee := .value (.func f), args := xs.toArray, argTypes := ts }, ty, ps, af, gd⟩ K := fun a w ha hw => by
  rw [run_call hf w rfl, ha.evl hx]
  exact ⟨rfl, (hc.h hp w hw).mono fun e w' ⟨x, he, hpx, hm⟩ => ⟨val x, he, L' x, hm, hk x hpx⟩⟩
section
variable {α : Type} {enc : α → Array Value} {c : Nat} {s : Sv} {xs ys : List α}
theorem st_box {t : TypeId} {x : Operand} {v : Value} (hx : ev env x = some v) (hk : ∀ b, K ((.pointer (some ⟨b, 0, none⟩))) ((blk b v.cells t :: L))) :
    Stp P N w0 env L ⟨d, .box t x, ty, ps, af, none⟩ K :=
  st_run fun a w ha hw => ⟨_, _, _, by simp only [execOp, ha.ev hx, Instr.box, newVar, newRow, Sem.run_bind, newObj, Sem.run, Result.andThen, Sem.run_pure]; rfl, hw.alloc v.cells t, hk _⟩
theorem st_alloc {t : TypeId} {z : Value} [hz : ZeroT P t z] (hk : ∀ b, K ((.pointer (some ⟨b, 0, none⟩))) ((blk b z.cells t :: L))) :
    Stp P N w0 env L ⟨d, .alloc t, ty, ps, af, none⟩ K :=
  st_run fun a w ha hw => ⟨_, _, _, by simp only [execOp, Instr.alloc, newVar, newRow, Sem.run_bind, run_zeroValue' w hz, newObj, Sem.run, Result.andThen, Sem.run_pure]; rfl, hw.alloc z.cells t, hk _⟩
theorem st_boxA {t : TypeId} {x : Operand} {cs : Array Value} (hx : ev env x = some (.agg cs)) (hk : ∀ b, K ((.pointer (some ⟨b, 0, none⟩))) ((blk b cs t :: L))) :
    Stp P N w0 env L ⟨d, .box t x, ty, ps, af, none⟩ K := st_box hx hk
theorem st_allocA {t : TypeId} {cs : Array Value} [hz : ZeroT P t (.agg cs)] (hk : ∀ b, K ((.pointer (some ⟨b, 0, none⟩))) ((blk b cs t :: L))) :
    Stp P N w0 env L ⟨d, .alloc t, ty, ps, af, none⟩ K := st_alloc (z := .agg cs) hk
theorem st_store {t : TypeId} {x y : Operand} {i b o : Nat} {cs : Array Value} {T : TypeId} {v : Value} (hx : ev env x = some (.pointer (some ⟨b, o, none⟩))) (hy : ev env y = some v) [ht : OneT P t] [hh : Has L b cs T i] (ho : o < cs.size) (hv : v.oneCell' = true) {cs' : Array Value} {L' : List Ent} (hcs : cs.setIfInBounds o v = cs') [hu : Upd L i (blk b cs' T) L'] (hk : K undef (L')) :
    Stp P N w0 env L ⟨none, .store t x y, ty, ps, af, none⟩ K :=
  st_skip fun a w ha hw => by
    have hi := hh.h
    have hb := hw.block hi
    have hc : w.cell? ⟨b, o, none⟩ = some cs[o] := by rw [hw.cell hi]; simp [ho]
    have hf : w.frozen? ⟨b, o, none⟩ = false := frozen_of_row w b o cs T hb
    subst hcs
    refine ⟨w.setCell ⟨b, o, none⟩ v, _, ?_, ?_, hk⟩
    · have h1 : (storeCells ⟨b, o, none⟩ [v]).run P w = .ok () (w.setCell ⟨b, o, none⟩ v) := by
        have := run_storeCells_at (P := P) b o T [v] 0 cs w hb (by simp; omega) (by simpa using hv)
        rw [this, setCell_eq_setRow w b o cs T (0, 0) v hb]
        congr 2
        apply Array.ext'
        simp [List.set_eq_take_append_cons_drop, ho]
      have hcs : v.cells = #[v] := by cases v <;> simp_all [Value.oneCell', Value.cells]
      simp only [execOp, ha.ev hx, ha.ev hy, Instr.storeAt, Instr.sureAddr, storeVar, Sem.run_bind, Sem.run_pure, Result.andThen, run_sizeOf' w ht.size, hcs]
      simp [h1]
    · rw [setCell_eq_setRow w b o cs T (0, 0) v hb]
      rw [← hu.h]
      exact hw.setRow hi _
theorem st_storeN {t : TypeId} {x y : Operand} {i b o n : Nat} {cs vs : Array Value} {T : TypeId} (hx : ev env x = some (.pointer (some ⟨b, o, none⟩))) (hy : ev env y = some (.agg vs)) [ht : RowT P t n] [hh : Has L b cs T i] [hs : SizeIs vs n] (ho : o + n ≤ cs.size) {cs' : Array Value} {L' : List Ent} (hcs : over cs o vs = cs') [hu : Upd L i (blk b cs' T) L'] (hk : K undef (L')) :
    Stp P N w0 env L ⟨none, .store t x y, ty, ps, af, none⟩ K :=
  st_skip fun a w ha hw => by
    have hi := hh.h
    have hn := hs.h
    have hv := hs.one
    have hb := hw.block hi
    subst hcs
    refine ⟨_, _, ?_, by rw [← hu.h]; exact hw.setRow hi _, hk⟩
    have h1 := run_storeCells_at (P := P) b o T vs.toList 0 cs w hb (by simp; omega) (fun v hv' => (Array.all_eq_true_iff_forall_mem.1 hv) v (by simpa using hv'))
    simp only [execOp, ha.ev hx, ha.ev hy, Instr.storeAt, Instr.sureAddr, storeVar, Value.cells, Sem.run_bind, Sem.run_pure, Result.andThen, run_sizeOf' w ht.size, hn]
    simp [h1, over]
theorem st_storeW {t : TypeId} {x y : Operand} {i b n : Nat} {cs vs : Array Value} {T : TypeId} (hx : ev env x = some (.pointer (some ⟨b, 0, none⟩))) (hy : ev env y = some (.agg vs)) [ht : RowT P t n] [hh : Has L b cs T i] [hs : SizeIs vs n] [hc : SizeIs cs n] {L' : List Ent} [hu : Upd L i (blk b vs T) L'] (hk : K undef (L')) :
    Stp P N w0 env L ⟨none, .store t x y, ty, ps, af, none⟩ K := by
  have hn := hs.h
  have hc' := hc.h
  refine st_storeN hx hy (by omega) (?_ : over cs 0 vs = vs) hk
  apply Array.ext'
  simp [over]; omega
theorem st_copy {x y : Operand} {tx tys e : TypeId} {i b o dl dc sl sc : Nat} {a : Addr} {cs vs : Array Value} {T : TypeId} (hx : ev env x = some (.slice (some ⟨b, o, none⟩) dl dc)) (hy : ev env y = some (.slice (some a) sl sc))
    [ht : SliceT P tx e 1] [hh : Has L b cs T i] (hn : vs.size = Nat.min sl dl) (hsrc : ∀ w, Mem w0 L w → ∀ j, j < vs.size → w.cell? (a.add j) = vs[j]?) (hv : vs.all (·.oneCell') = true) (ho : o + vs.size ≤ cs.size)
    {cs' : Array Value} {L' : List Ent} (hcs : over cs o vs = cs') [hu : Upd L i (blk b cs' T) L'] (hk : K ((.int .i64 vs.size)) (L')) :
    Stp P N w0 env L ⟨d, .call { callee := .builtin .copy, args := #[x, y], argTypes := #[tx, tys] }, ty, ps, af, none⟩ K :=
  st_run fun aa w ha hw => by
    have hi := hh.h
    have hb := hw.block hi
    subst hcs
    have hrun := run_copy_row (P := P) w tx tys ty e b o dl dc a sl sc cs T vs.toList ht.und ht.size hb (by simpa using hn)
      (fun j v hv' => by
        have hj : j < vs.size := by simpa using (List.getElem?_eq_some_iff.1 hv').1
        rw [hsrc w hw j hj]; simpa using hv') (by simpa using ho) (fun v hv' => (Array.all_eq_true_iff_forall_mem.1 hv) v (by simpa using hv'))
    refine ⟨_, w.setRow b (over cs o vs), _, ?_, by rw [← hu.h]; exact hw.setRow hi _, hk⟩
    simp [execOp, ha.ev hx, ha.ev hy, resolve, invoke, builtin, hrun, Result.andThen, goInt, over]
theorem st_append {t tx e : TypeId} {x y : Operand} {yv : Value} {by' i : Nat} [ht : SlT P t e c by'] [he : Enc enc c] (hx : ev env x = some s.val) (hy : ev env y = some yv) [q : Owns L s enc c xs i] (hc : 0 < c)
    (hs : ∀ w, Mem w0 L w → Src P c tx yv ys.length (flatR enc ys) w) (hb : (xs.length + ys.length) * by' ≤ 140737488355328) (h63 : xs.length + ys.length ≤ 140737488355328) {L' : Sv → List Ent} [hu : ∀ s', Upd L i (own enc c s' (xs ++ ys)) (L' s')]
    (hk : ∀ s' : Sv, s'.Ok → s'.len = (xs ++ ys).length → K (s'.val) ((L' s'))) :
    Stp P N w0 env L ⟨d, .call { callee := .builtin .append, args := #[x, y], argTypes := #[t, tx] }, ty, ps, af, none⟩ K :=
  st_run fun a w ha hw => by
    obtain ⟨s', w', h1, h2, h3, h4⟩ := append_own (ty := ty) ht hc hw q.h (hs w hw) hb h63
    refine ⟨s'.val, w', L' s', ?_, by rw [← (hu s').h]; exact h4, hk s' h2 h3⟩
    simp [execOp, ha.ev hx, ha.ev hy, resolve, invoke, builtin, h1, Result.andThen]
theorem st_buildSlice {t e : TypeId} {by' n : Nat} [ht : SlT P t e c by'] [he : Enc enc c] {ops : List (Nat × Operand)} {vals : List Value} (xs : List α) (hx : evp env ops = some (idx vals 0)) (hv : vals.map Value.cells = xs.map enc) (hn : xs.length = n) (hc : 0 < n * c) (h24 : n * c ≤ 16777216)
    (hk : ∀ b, K ((Sv.val ⟨false, b, 0, n, n, none⟩)) ((own enc c ⟨false, b, 0, n, n, none⟩ xs :: L))) :
    Stp P N w0 env L ⟨d, .buildSlice t n ops.toArray, ty, ps, af, none⟩ K :=
  st_run fun a w ha hw => by
    subst hn
    have e1 : (ops.toArray.map fun (p : Nat × Operand) => match p with | (i, x) => (i, a.eval x)) = (idx vals 0).toArray := by
      rw [← ha.evp hx]; simp
    refine ⟨_, _, _, ?_, hw.call (mem_new (enc := enc) (c := c) (xs := xs) (cs := (flatR enc xs).toArray) (e := e) rfl xs.length xs.length rfl (Nat.le_refl _) (len24 hc h24) (by simp [flatR_length]) fun i x hx j hj => by rw [← flatR_get (enc := enc) xs i x hx j hj]; simp), hk _⟩
    simp only [execOp, e1, Sem.run_bind, run_buildSlice ht hv hc h24 w, Result.andThen, Sem.run_pure]; rfl
theorem st_makeS {t e : TypeId} {by' n cap : Nat} {z : Value} {x y : Operand} {k k' : IntKind} {ix iy : Int} [ht : SlT P t e c by'] [hz : ZeroT P e z] (x0 : α) (h0 : enc x0 = z.cells) (hx : ev env x = some (.int k ix)) (hy : ev env y = some (.int k' iy)) (ex : ix = (n : Int)) (ey : iy = (cap : Int)) (hle : n ≤ cap) (hb : by' * cap ≤ 281474976710656) (h63 : cap ≤ 140737488355328)
    (hk : ∀ b, K ((Sv.val ⟨false, b, 0, n, cap, none⟩)) ((own enc c ⟨false, b, 0, n, cap, none⟩ (List.replicate n x0) :: L))) :
    Stp P N w0 env L ⟨d, .makeSlice t x y, ty, ps, af, none⟩ K :=
  st_run fun a w ha hw => by
    subst ex ey
    obtain ⟨w', h1, h2⟩ := run_makeS ht hz (k := k) (k' := k') (n := n) x0 h0 hle hb h63 w
    exact ⟨_, w', _, by simp only [execOp, ha.ev hx, ha.ev hy, Sem.run_bind, h1, Result.andThen, Sem.run_pure], hw.call h2, hk _⟩
theorem st_storeS {t : TypeId} {x y : Operand} {i k j n p : Nat} {a a' : α} {v : Value} (sz : (P.info? t).map (·.size) = some n) [he : Enc enc c] (hx : ev env x = some (.pointer (some ⟨s.b, p, none⟩))) (hy : ev env y = some v) [q : Owns L s enc c xs i] (hp' : p = s.o + k * c + j)
    (ha : xs[k]? = some a) (hv : v.cells.all (·.oneCell') = true) (hn : v.cells.size = n) (hj : j + n ≤ c) (he' : over (enc a) j v.cells = enc a') {L' : List Ent} [hu : Upd L i (own enc c s (xs.set k a')) L'] (hk : K undef (L')) :
    Stp P N w0 env L ⟨none, .store t x y, ty, ps, af, none⟩ K :=
  st_skip fun aa w haa hw => by
    subst hp' hn
    obtain ⟨w', h1, h2⟩ := mem_store (P := P) hw q ha hv hj he' hu
    refine ⟨w', _, ?_, h2, hk⟩
    simp only [execOp, haa.ev hx, haa.ev hy, Instr.storeAt, Instr.sureAddr, storeVar, Sem.run_bind, Sem.run_pure, Result.andThen, run_sizeOf' w sz]
    simp [h1]
theorem st_strb {s t e : TypeId} {x : Operand} {xs : List UInt8} (hs : P.underlying s = some .string) (hd : P.underlying t = some (.slice e)) (he : P.underlying e = some (.int .u8)) (hx : ev env x = some (.string ⟨xs.toArray⟩)) (hl : xs.length ≤ 140737488355328)
    (hk : ∀ sv, K ((Sv.val sv)) ((own benc 1 sv xs :: L))) :
    Stp P N w0 env L ⟨d, .convert s t x, ty, ps, af, none⟩ K :=
  st_run fun a w ha hw => by
    obtain ⟨sv, w', h1, h2⟩ := run_strb hs hd he xs hl w
    exact ⟨_, w', _, by simp only [execOp, ha.ev hx, Sem.run_bind, h1, Result.andThen, Sem.run_pure], hw.call h2, hk sv⟩
theorem st_build0 {t e : TypeId} {by' : Nat} (enc : α → Array Value) [ht : SlT P t e c by'] [he : Enc enc c] (hk : ∀ b, K ((Sv.val ⟨false, b, 0, 0, 0, none⟩)) ((own enc c ⟨false, b, 0, 0, 0, none⟩ [] :: L))) :
    Stp P N w0 env L ⟨d, .buildSlice t 0 #[], ty, ps, af, none⟩ K :=
  st_run fun a w _ hw => by
    refine ⟨_, _, _, ?_, hw.call (mem_new (enc := enc) (c := c) (xs := []) (cs := #[]) (e := e) rfl 0 0 rfl (Nat.le_refl _) (Nat.zero_le _) (by simp) (by simp)), hk _⟩
    simp only [execOp, Sem.run_bind, List.map_toArray, List.map_nil, run_build0 ht w, Result.andThen, Sem.run_pure]; rfl
theorem st_appendG {α : Type} {enc : α → Array Value} {c : Nat} {s : Sv} {xs ys : List α} {t tx e : TypeId} {x y : Operand} {yv : Value} {by' : Nat} [ht : SlT P t e c by'] [he : Enc enc c] (R : List Ent) (hx : ev env x = some s.val) (hy : ev env y = some yv)
    (ho : ∀ w, Mem w0 L w → Mem w0 (own enc c s xs :: R) w) (hc : 0 < c) (hs : ∀ w, Mem w0 L w → Src P c tx yv ys.length (flatR enc ys) w) (hb : (xs.length + ys.length) * by' ≤ 140737488355328) (h63 : xs.length + ys.length ≤ 140737488355328)
    (hk : ∀ s' : Sv, K (s'.val) ((own enc c s' (xs ++ ys) :: R))) :
    Stp P N w0 env L ⟨d, .call { callee := .builtin .append, args := #[x, y], argTypes := #[t, tx] }, ty, ps, af, none⟩ K :=
  st_run fun a w ha hw => by
    obtain ⟨s', w', h1, h2, h3, h4⟩ := append_own (i := 0) (ty := ty) ht hc (ho w hw) rfl (hs w hw) hb h63
    refine ⟨s'.val, w', _, ?_, by simpa using h4, hk s'⟩
    simp [execOp, ha.ev hx, ha.ev hy, resolve, invoke, builtin, h1, Result.andThen]
theorem st_storeSv {P : Program} {N : Fra} {w0 : World} {env : Env} {L : List Ent} {ty : TypeId} {ps : String} {af : Array Edge} {τ : Type} {t : TypeId} {x y : Operand} {i k p : Nat} {s : Sv} {xs : List (Sl τ)} {a : Sl τ} (a' : Sl τ)
    (sz : (P.info? t).map (·.size) = some 1) (hx : ev env x = some (.pointer (some ⟨s.b, p, none⟩))) (hy : ev env y = some a'.sv.val) [q : Owns L s (scells (τ := τ)) 1 xs i] (hp' : p = s.o + k * 1) (ha : xs[k]? = some a) {L' : List Ent} [hu : Upd L i (own scells 1 s (xs.set k a')) L'] (hk : K undef (L')) :
    Stp P N w0 env L ⟨none, .store t x y, ty, ps, af, none⟩ K :=
  st_storeS (j := 0) (a' := a') sz hx hy (q := q) hp' ha (by rw [Sv.cells_val]; simp [Sv.one]) (by rw [Sv.cells_val]; rfl) (by decide) (by rw [Sv.cells_val]; rfl) hk
theorem st_copyS {α : Type} {enc : α → Array Value} {x y : Operand} {tx tys e : TypeId} {i b o dl dc : Nat} {sv : Sv} {ys : List α} {cs : Array Value} {T : TypeId} (hx : ev env x = some (.slice (some ⟨b, o, none⟩) dl dc)) (hy : ev env y = some sv.val)
    [ht : SliceT P tx e 1] [hh : Has L b cs T i] [q : Hd w0 L sv enc 1 ys] [he : Enc enc 1] (h0 : 0 < ys.length) (hl : ys.length ≤ dl) (ho : o + ys.length ≤ cs.size)
    {cs' : Array Value} {L' : List Ent} (hcs : over cs o (flatR enc ys).toArray = cs') [hu : Upd L i (blk b cs' T) L'] (hk : K ((.int .i64 (ys.length : Nat))) (L')) :
    Stp P N w0 env L ⟨d, .call { callee := .builtin .copy, args := #[x, y], argTypes := #[tx, tys] }, ty, ps, af, none⟩ K := fun a w ha hw => by
  have r := q.h w hw
  have hn := r.some (i := 0) h0
  have hlen := r.len
  rw [Sv.val_some hn, r.ok.sp (by have := r.ok.le; omega)] at hy
  have hs : (flatR enc ys).toArray.size = ys.length := by rw [List.size_toArray, flatR_length, Nat.mul_one]
  have hk' := hk
  rw [← hs] at hk'
  refine st_copy (vs := (flatR enc ys).toArray) hx hy ?_ (fun w hw j hj => ?_) ?_ (by rw [hs]; exact ho) hcs hk' a w ha hw
  · rw [hs]; simp only [Nat.min_def]; split <;> omega
  · rw [hs] at hj
    have := flatR_get (enc := enc) ys j ys[j] (by simp [hj]) 0 (by decide)
    have r2 := (q.h w hw).row j ys[j] (by simp [hj]) 0 (by decide)
    simp only [Nat.mul_one, Nat.add_zero] at this r2
    rw [Addr.add_none, cell_hp, r2, ← this]; simp
  · rw [Array.all_eq_true_iff_forall_mem]; intro v hv; exact flatR_one (enc := enc) ys v (by simpa using hv)
end

theorem st_own0 {o : Oper} {α : Type} (enc : α → Array Value) (c : Nat) (h : Stp P N w0 env (own enc c Sv.none [] :: L) o K) : Stp P N w0 env L o K := fun a w ha hw => h a w ha (hw.nilOwn enc c)
section
variable {τ : Type} [dp : Deep τ] {enc : τ → Array Value} {c : Nat}
theorem st_ownD0 {o : Oper} (τ : Type) [Deep τ] {enc : τ → Array Value} {c : Nat} [f : FlatT τ enc c] (h : Stp P N w0 env (Deep.ent (⟨Sv.none, []⟩ : Sl τ) :: L) o K) : Stp P N w0 env L o K := fun a w ha hw => h a w ha (Mem.nilEnt (enc := enc) (c := c) hw)
theorem st_appendD {s : Sv} {t tx e e' : TypeId} {x y : Operand} {by' m : Nat} [f : FlatT τ enc c] [ht : SlT P t e c by'] [ht' : SliceT P tx e' m] [he : Enc enc c] (a : Sl τ) (ys : List τ) (hx : ev env x = some a.sv.val) (hy : ev env y = some s.val) [q : Hd w0 L s enc c ys]
    [k1 : Take L a R1] [k2 : TakeL R1 ys R2] (hc : 0 < c) (hb : (a.xs.length + ys.length) * by' ≤ 140737488355328) (h63 : a.xs.length + ys.length ≤ 140737488355328)
    (hk : ∀ a' : Sl τ, a'.xs = a.xs ++ ys → K a'.sv.val (Deep.ent a' :: R2)) :
    Stp P N w0 env L ⟨d, .call { callee := .builtin .append, args := #[x, y], argTypes := #[t, tx] }, ty, ps, af, none⟩ K :=
  st_mono (st_appendG (K := fun v L' => ∃ s', v = Sv.val s' ∧ L' = own enc c s' (a.xs ++ ys) :: (a.xs.map dp.ent ++ (ys.map dp.ent ++ R2))) (enc := enc) (c := c) (xs := a.xs) (ys := ys) (a.xs.map dp.ent ++ (ys.map dp.ent ++ R2)) hx hy (fun w hw => ((k1.h.trans (k2.h.cons _)).trans Tr.open_d).mem hw) hc (fun w hw => src_rows ht'.und hc (q.h w hw)) hb h63
    (fun s' => ⟨s', rfl, rfl⟩)) fun v L' ⟨s', hv, hL⟩ => ⟨Deep.ent (⟨s', a.xs ++ ys⟩ : Sl τ) :: R2, fun w hw => by
      have t1 : Tr (own enc c s' (a.xs ++ ys) :: (a.xs.map dp.ent ++ (ys.map dp.ent ++ R2))) (Deep.ent (⟨s', a.xs ++ ys⟩ : Sl τ) :: R2) := by
        have := Tr.shut_d (enc := enc) (c := c) (a := (⟨s', a.xs ++ ys⟩ : Sl τ)) (L := R2)
        simpa using this
      rw [hL] at hw
      exact t1.mem hw, by rw [hv]; exact hk ⟨s', a.xs ++ ys⟩ rfl⟩
end
theorem sq_st {l : List Oper} {rest : List Oper} {o : Oper} (hg : o.guard = none) (hd : dstOk N o.dst = true) (h : Stp P N w0 env L o (fun v L' => Sq P N w0 l Q rest (putE env o.dst v) L')) : Sq P N w0 l Q (o :: rest) env L := fun a w ha hw => by
  unfold wpList
  rw [if_pos (wanted_none hg)]
  refine .inl ?_
  have h1 := h a w ha hw
  unfold Oper.wp
  generalize (execOp a.eval o).run P w = r at h1
  unfold upon at h1
  split at h1
  · obtain ⟨L', h2, h3⟩ := h1; exact h3 _ _ (ha.put hd _) h2
  · obtain ⟨L', h2, h3⟩ := h1; exact h3 _ _ (ha.put hd _) h2
  · obtain ⟨rfl, hc⟩ := h1
    exact hc.mono fun e w'' ⟨v, he, L', h2, h3⟩ => by subst he; exact h3 _ _ (ha.put hd _) h2
  · exact h1.elim
end

/-! The line of a region. -/
section
variable {P : Program} {N : Fra} {w0 : World} {env : Env} {L Lq : List Ent} {l : List Oper} {fs ord : List Nat} {Q : Exit → Act → World → Prop} {k : Nat} {o : Oper}
def Ln (P : Program) (N : Fra) (w0 : World) (l : List Oper) (fs : List Nat) (Q : Exit → Act → World → Prop) (ord : List Nat) (env : Env) (L Lq : List Ent) : Prop := ∀ a, Rep N env a → Lin P l fs Q w0 ord a L Lq
theorem ln_nil (h : Ex N w0 Q .normal env L) : Ln P N w0 l fs Q [] env L Lq := fun a ha w hw => h a w ha hw
theorem ln_quiet {v : Value} (ho : l[k]? = some o) (hf : fs.contains k = false) (hd : dstOk N o.dst = true) (h1 : ∀ a, Rep N env a → Region.wanted o (yielded l.toArray a.tmps) = true → quietR P o a (Mem w0 Lq) v) (h2 : ∀ a, Rep N env a → Region.wanted o (yielded l.toArray a.tmps) = false → v = undef)
    (hk : Ln P N w0 l fs Q ord (putE env o.dst v) L Lq) (hf2 : fs.contains (k + 1000) = false := by rfl) : Ln P N w0 l fs Q (k :: ord) env L Lq := fun a ha =>
  ⟨o, ho, by
    rw [if_neg (by rw [hf]; exact Bool.false_ne_true)]
    exact ⟨v, by rw [if_neg (by rw [hf2]; exact Bool.false_ne_true)]; exact h1 a ha, h2 a ha, hk _ (ha.put hd v)⟩⟩
theorem lt_y {v : Value} (ho : l[k]? = some o) (h : Yl P N w0 env L o v) (hk : Ln P N w0 l fs Q ord (putE env o.dst v) L Lq) (hg : o.guard = none := by rfl) (hd : dstOk N o.dst = true := by rfl) (hf : fs.contains k = false := by rfl) (hf2 : fs.contains (k + 1000) = true := by rfl) : Ln P N w0 l fs Q (k :: ord) env L Lq := fun a ha =>
  ⟨o, ho, by
    rw [if_neg (by rw [hf]; exact Bool.false_ne_true)]
    exact ⟨v, fun _ => by rw [if_pos hf2]; exact h a ha, (fun hw => by rw [wanted_none hg] at hw; cases hw), hk _ (ha.put hd v)⟩⟩
theorem lt_r {v : Value} (ho : l[k]? = some o) (h : Ry P N w0 env L o v) (hk : Ln P N w0 l fs Q ord (putE env o.dst v) L Lq) (hg : o.guard = none := by rfl) (hd : dstOk N o.dst = true := by rfl) (hf : fs.contains k = false := by rfl) (hf2 : fs.contains (k + 1000) = true := by rfl) : Ln P N w0 l fs Q (k :: ord) env L Lq := lt_y ho h.yl hk hg hd hf hf2
theorem ln_y {v : Value} (ho : l[k]? = some o) (h : Yl P N w0 env Lq o v) (hk : Ln P N w0 l fs Q ord (putE env o.dst v) L Lq) (hg : o.guard = none := by rfl) (hd : dstOk N o.dst = true := by rfl) (hf : fs.contains k = false := by rfl) (hf2 : fs.contains (k + 1000) = false := by rfl) : Ln P N w0 l fs Q (k :: ord) env L Lq :=
  ln_quiet (hf2 := hf2) ho hf hd (fun a ha _ => h a ha) (fun a ha hw => by rw [wanted_none hg] at hw; cases hw) hk
theorem ln_r {v : Value} (ho : l[k]? = some o) (h : Ry P N w0 env Lq o v) (hk : Ln P N w0 l fs Q ord (putE env o.dst v) L Lq) (hg : o.guard = none := by rfl) (hd : dstOk N o.dst = true := by rfl) (hf : fs.contains k = false := by rfl) (hf2 : fs.contains (k + 1000) = false := by rfl) : Ln P N w0 l fs Q (k :: ord) env L Lq := ln_y ho h.yl hk hg hd hf hf2
theorem ln_gt {v : Value} {j t : Nat} {g : Bool} (ho : l[k]? = some o) (hg : o.guard = some (j, true)) (hj : (l[j]?).bind (·.dst) = some t) (hv : look env t = some (.bool g)) (h : g = true → Yl P N w0 env Lq o v)
    (hk : Ln P N w0 l fs Q ord (putE env o.dst (if g = true then v else undef)) L Lq) (hd : dstOk N o.dst = true := by rfl) (hf : fs.contains k = false := by rfl) (hf2 : fs.contains (k + 1000) = false := by rfl) : Ln P N w0 l fs Q (k :: ord) env L Lq :=
  ln_quiet (hf2 := hf2) ho hf hd (fun a ha hw => by
    rw [wanted_some ha hg hj hv] at hw
    cases g
    · cases hw
    · exact h rfl a ha) (fun a ha hw => by
    rw [wanted_some ha hg hj hv] at hw
    cases g
    · rfl
    · cases hw) hk
theorem ln_gf {v : Value} {j t : Nat} {g : Bool} (ho : l[k]? = some o) (hg : o.guard = some (j, false)) (hj : (l[j]?).bind (·.dst) = some t) (hv : look env t = some (.bool g)) (h : (!g) = true → Yl P N w0 env Lq o v)
    (hk : Ln P N w0 l fs Q ord (putE env o.dst (if (!g) = true then v else undef)) L Lq) (hd : dstOk N o.dst = true := by rfl) (hf : fs.contains k = false := by rfl) (hf2 : fs.contains (k + 1000) = false := by rfl) : Ln P N w0 l fs Q (k :: ord) env L Lq :=
  ln_quiet (hf2 := hf2) ho hf hd (fun a ha hw => by
    rw [wanted_some ha hg hj hv] at hw
    cases g
    · exact h rfl a ha
    · cases hw) (fun a ha hw => by
    rw [wanted_some ha hg hj hv] at hw
    cases g
    · cases hw
    · rfl) hk
theorem ln_nt {v : Value} {j t : Nat} {c g : Bool} (ho : l[k]? = some o) (hg : o.guard = some (j, true)) (hj : (l[j]?).bind (·.dst) = some t) (hv : look env t = some (if c = true then .bool g else undef)) (h : (c && g) = true → Yl P N w0 env Lq o v)
    (hk : Ln P N w0 l fs Q ord (putE env o.dst (if (c && g) = true then v else undef)) L Lq) (hd : dstOk N o.dst = true := by rfl) (hf : fs.contains k = false := by rfl) (hf2 : fs.contains (k + 1000) = false := by rfl) : Ln P N w0 l fs Q (k :: ord) env L Lq :=
  ln_quiet (hf2 := hf2) ho hf hd (fun a ha hw => by
    rw [wanted_nest ha hg hj hv] at hw
    cases c <;> cases g <;> first | exact h rfl a ha | cases hw) (fun a ha hw => by
    rw [wanted_nest ha hg hj hv] at hw
    cases c <;> cases g <;> first | rfl | cases hw) hk
theorem ln_nf {v : Value} {j t : Nat} {c g : Bool} (ho : l[k]? = some o) (hg : o.guard = some (j, false)) (hj : (l[j]?).bind (·.dst) = some t) (hv : look env t = some (if c = true then .bool g else undef)) (h : (c && !g) = true → Yl P N w0 env Lq o v)
    (hk : Ln P N w0 l fs Q ord (putE env o.dst (if (c && !g) = true then v else undef)) L Lq) (hd : dstOk N o.dst = true := by rfl) (hf : fs.contains k = false := by rfl) (hf2 : fs.contains (k + 1000) = false := by rfl) : Ln P N w0 l fs Q (k :: ord) env L Lq :=
  ln_quiet (hf2 := hf2) ho hf hd (fun a ha hw => by
    rw [wanted_nest ha hg hj hv] at hw
    cases c <;> cases g <;> first | exact h rfl a ha | cases hw) (fun a ha hw => by
    rw [wanted_nest ha hg hj hv] at hw
    cases c <;> cases g <;> first | rfl | cases hw) hk
theorem ln_ty {v : Value} {j t : Nat} {b g : Bool} (ho : l[k]? = some o) (hg : o.guard = some (j, b)) (hj : (l[j]?).bind (·.dst) = some t) (hv : look env t = some (.bool g)) (ht : g = b) (h : Yl P N w0 env Lq o v)
    (hk : Ln P N w0 l fs Q ord (putE env o.dst v) L Lq) (hd : dstOk N o.dst = true := by rfl) (hf : fs.contains k = false := by rfl) (hf2 : fs.contains (k + 1000) = false := by rfl) : Ln P N w0 l fs Q (k :: ord) env L Lq :=
  ln_quiet (hf2 := hf2) ho hf hd (fun a ha _ => h a ha) (fun a ha hw => by
    rw [wanted_some ha hg hj hv, ht, beq_self_eq_true] at hw; cases hw) hk
theorem ln_st' (ho : l[k]? = some o) (h : Stp P N w0 env L o fun v L' => ∃ Lq', (∀ w, Mem w0 L' w → Mem w0 Lq' w) ∧ (∀ w, Mem w0 Lq' w → Mem w0 Lq w) ∧ Ln P N w0 l fs Q ord (putE env o.dst v) L' Lq') (hg : o.guard = none := by rfl) (hd : dstOk N o.dst = true := by rfl) (hf : fs.contains k = true := by rfl) (hf3 : fs.contains (k + 2000) = false := by rfl) : Ln P N w0 l fs Q (k :: ord) env L Lq := fun a ha =>
  ⟨o, ho, by
    rw [if_pos hf, if_neg (by rw [hf3]; exact Bool.false_ne_true)]
    exact ⟨wanted_none hg, fun w hw => upon_mono (fun v w' ⟨L', h1, Lq', h2, h3, h4⟩ => ⟨L', Lq', h1, h2, h3, h4 _ (ha.put hd v)⟩) (h a w ha hw)⟩⟩
theorem ln_stT {j t : Nat} {b g : Bool} (ho : l[k]? = some o) (hg : o.guard = some (j, b)) (hj : (l[j]?).bind (·.dst) = some t) (hv : look env t = some (.bool g)) (ht : g = b) (h : Stp P N w0 env L o fun v L' => (∀ w, Mem w0 L' w → Mem w0 Lq w) ∧ Ln P N w0 l fs Q ord (putE env o.dst v) L' L') (hd : dstOk N o.dst = true := by rfl) (hf : fs.contains k = true := by rfl) (hf3 : fs.contains (k + 2000) = false := by rfl) : Ln P N w0 l fs Q (k :: ord) env L Lq := fun a ha =>
  ⟨o, ho, by
    rw [if_pos hf, if_neg (by rw [hf3]; exact Bool.false_ne_true)]
    exact ⟨by rw [wanted_some ha hg hj hv, ht]; simp, fun w hw => upon_mono (fun v w' ⟨L', h1, h2, h4⟩ => ⟨L', L', h1, fun _ h => h, h2, h4 _ (ha.put hd v)⟩) (h a w ha hw)⟩⟩
theorem ln_st (ho : l[k]? = some o) (h : Stp P N w0 env L o fun v L' => (∀ w, Mem w0 L' w → Mem w0 Lq w) ∧ Ln P N w0 l fs Q ord (putE env o.dst v) L' Lq) (hg : o.guard = none := by rfl) (hd : dstOk N o.dst = true := by rfl) (hf : fs.contains k = true := by rfl) (hf3 : fs.contains (k + 2000) = false := by rfl) : Ln P N w0 l fs Q (k :: ord) env L Lq :=
  ln_st' (hf3 := hf3) ho (st_mono h fun v L' ⟨h1, h2⟩ => ⟨L', fun _ h => h, Lq, h1, fun _ h => h, h2⟩) hg hd hf
theorem isAlloc_of {t : TypeId} {z : Value} [hz : ZeroT P t z] {d : Option Tmp} {ty : TypeId} {ps : String} {af : Array Edge} {gd : Option (Nat × Bool)} : IsAlloc P ⟨d, .alloc t, ty, ps, af, gd⟩ t z := fun ρ w => by
  simp only [execOp, Instr.alloc, newVar, newRow, Sem.run_bind, run_zeroValue' w hz, newObj, Sem.run, Result.andThen, Sem.run_pure]; rfl
theorem ln_al {t : TypeId} {z : Value} {d : Option Tmp} {ty : TypeId} {ps : String} {af : Array Edge} [hz : ZeroT P t z] (ho : l[k]? = some ⟨d, .alloc t, ty, ps, af, none⟩) (hk : ∀ b, Ln P N w0 l fs Q ord (putE env d (.pointer (some ⟨b, 0, none⟩))) (blk b z.cells t :: L) Lq) (hd : dstOk N d = true := by rfl) (hf : fs.contains k = true := by rfl) (hf2 : fs.contains (k + 2000) = true := by rfl) : Ln P N w0 l fs Q (k :: ord) env L Lq := fun a ha =>
  ⟨_, ho, by
    rw [if_pos hf, if_pos hf2]
    exact ⟨rfl, t, z, isAlloc_of, fun b => hk b _ (ha.put hd _)⟩⟩
theorem ln_alA {t : TypeId} {cs : Array Value} {d : Option Tmp} {ty : TypeId} {ps : String} {af : Array Edge} [hz : ZeroT P t (.agg cs)] (ho : l[k]? = some ⟨d, .alloc t, ty, ps, af, none⟩) (hk : ∀ b, Ln P N w0 l fs Q ord (putE env d (.pointer (some ⟨b, 0, none⟩))) (blk b cs t :: L) Lq) (hd : dstOk N d = true := by rfl) (hf : fs.contains k = true := by rfl) (hf2 : fs.contains (k + 2000) = true := by rfl) : Ln P N w0 l fs Q (k :: ord) env L Lq := ln_al (z := .agg cs) ho hk hd hf hf2
inductive Als (P : Program) (l : List Oper) : List Nat → Prop
  | nil : Als P l []
  | cons {k : Nat} {ks : List Nat} {t : TypeId} {z : Value} {d : Option Tmp} {ty : TypeId} {ps : String} {af : Array Edge} (ho : l[k]? = some ⟨d, .alloc t, ty, ps, af, none⟩) (hz : ZeroT P t z) (h : Als P l ks) : Als P l (k :: ks)
theorem Als.get {als : List Nat} (h : Als P l als) {k : Nat} (hk : k ∈ als) : ∃ o t z, l[k]? = some o ∧ o.guard = none ∧ IsAlloc P o t z := by
  induction h with
  | nil => cases hk
  | cons ho hz h ih =>
    rcases List.mem_cons.1 hk with rfl | hk
    · exact ⟨_, _, _, ho, rfl, @isAlloc_of _ _ _ hz _ _ _ _ _⟩
    · exact ih hk
theorem cw_lin2 {id : Nat} [Tame Q] (fs : List Nat) (A : List (List Nat)) (ord : List Nat) (Lq : List Ent) (als : List Nat) (hals : Als P l als) (hck : ((fs.all fun j => decide (j < 2000) || als.contains (j - 2000)) && als.all fun k => fs.contains k) = true) (hsub : ∀ w, Mem w0 L w → Mem w0 Lq w) (hm : P.follows .mixedOrders = true) (hB : linB2 l fs A ord = true) (h : Ln P N w0 l fs Q ord env L Lq) (hnd : noDefer l = true := by kernel_rfl) : Cw P N w0 Q (.region id l.toArray true) env L := fun a _ ha hw => by
  rw [Bool.and_eq_true] at hck
  have h1 : ∀ k, fs.contains (k + 2000) = true → k ∈ als := fun k hk => by
    have := List.all_eq_true.1 hck.1 (k + 2000) (by simpa using hk)
    rw [Bool.or_eq_true, decide_eq_true_eq] at this
    rcases this with h | h
    · omega
    · simpa using h
  refine wp_region_lin2 A ord hnd hm hB hw.drew' hsub (fun k hk => ?_) (fun k hk => hals.get (h1 k hk)) (h a ha)
  cases h2 : fs.contains (k + 2000) with
  | false => rfl
  | true =>
    have := List.all_eq_true.1 hck.2 k (h1 k h2)
    rw [hk] at this; cases this
theorem cw_lin {id : Nat} [Tame Q] (fs : List Nat) (A : List (List Nat)) (ord : List Nat) (Lq : List Ent) (hsub : ∀ w, Mem w0 L w → Mem w0 Lq w) (hm : P.follows .mixedOrders = true) (hB : linB l fs A ord = true) (h : Ln P N w0 l fs Q ord env L Lq) (hnd : noDefer l = true := by kernel_rfl) : Cw P N w0 Q (.region id l.toArray true) env L := fun a _ ha hw =>
  wp_region_lin A ord hnd hm hB hw.drew' hsub (h a ha)
end
end Go.Eng

/- Numerals, walked. -/
namespace Go.Proofs.YtldkgicmfbofiaaGreatDoor
open Go.Eng Go.Kb


set_option maxRecDepth 20000 in
theorem number_c (w : World) (s : List UInt8) (top : Nat)  (hpre : top ≤ 65535 ∧ s.length ≤ 1000000000) : Calls Tryz.prog 20 #[.string ⟨s.toArray⟩, .int .i64 (top : Nat)] w fun e w' => e = .returned (.tuple #[.int .i64 (((numO s top).getD 0) : Nat), .bool ((numO s top).isSome)]) ∧ Mem w [] w' := by
  refine calls_of (args := [_, _]) Tryz.func20 rfl Tryz.ntmps20 rfl ?_
  change Cw _ _ _ _ _ [(0, .string ⟨s.toArray⟩), (1, .int .i64 (top : Nat))] []
  refine cw_seq ?_
  refine cw_region ?_
  refine sq_r (ry_assign rfl) ?_
  refine sq_r (ry_assign rfl) ?_
  refine sq_nil ?_
  refine ex_then ?_
  refine cw_seq ?_
  refine cw_seq ?_
  refine cw_region ?_
  refine sq_r (ry_move rfl) ?_
  refine sq_r (ry_streqL rfl rfl) ?_
  refine sq_r (ry_move rfl) ?_
  refine sq_gf rfl rfl rfl (fun hg => (Ry.yl (ry_move rfl))) ?_
  refine sq_gf rfl rfl rfl (fun hg => (Ry.yl (ry_lenT (s := s) Tryz.underlying9 (ev_c hg rfl)))) ?_
  refine sq_gf rfl rfl rfl (fun hg => (Ry.yl (ry_int (ev_c hg rfl) rfl rfl))) ?_
  refine sq_gf rfl rfl rfl (fun hg => (Ry.yl (ry_move (ev_c hg rfl)))) ?_
  refine sq_nt rfl rfl rfl (fun hg => (Ry.yl (ry_move rfl))) ?_
  refine sq_nt rfl rfl rfl (fun hg => (Ry.yl (ry_idxT (s := s) 0 Tryz.underlying9 (ev_c hg rfl) rfl rfl (by simp only [bz0, bz1, bz2, bz3, bz4, bz5, bz6, bz7, bz8, bz9] at hg; omega)))) ?_
  refine sq_nt rfl rfl rfl (fun hg => (Ry.yl (ry_int (ev_c hg rfl) rfl rfl))) ?_
  refine sq_gf rfl rfl rfl (fun hg => (Ry.yl (ry_and (ev_c hg rfl) (ev_cc hg rfl) rfl))) ?_
  refine sq_r (ry_or rfl rfl rfl) ?_
  refine sq_nil ?_
  refine ex_then ?_
  refine cw_cond rfl (fun h0 => ?_) (fun h0 => ?_)
  · try simp only [bz0, bz1, bz2, bz3, bz4, bz5, bz6, bz7, bz8, bz9] at h0
    refine cw_seq ?_
    refine cw_region ?_
    refine sq_r (ry_assign rfl) ?_
    refine sq_r (ry_assign rfl) ?_
    refine sq_nil ?_
    refine ex_then ?_
    refine cw_ret ?_
    refine ex_pass_ret ?_
    refine ex_ret (.inl rfl) (res_2 rfl (rv_tmp rfl) (rv_tmp rfl)) (fun w1 hw => ?_)
    exact ⟨(by rw [num_head (h0.imp id fun h => ⟨by omega, by omega⟩)]; rfl), Keep.mem hw⟩
  · try simp only [bz0, bz1, bz2, bz3, bz4, bz5, bz6, bz7, bz8, bz9] at h0
    refine cw_skip ?_
    refine ex_then ?_
    refine cw_seq ?_
    refine cw_region ?_
    refine sq_r (ry_assign rfl) ?_
    refine sq_nil ?_
    refine ex_then ?_
    refine cw_seq ?_
    refine cw_seq ?_
    refine cw_region ?_
    refine sq_r (ry_move rfl) ?_
    refine sq_r (ry_lenT (s := s) Tryz.underlying9 rfl) ?_
    refine sq_r (ry_move rfl) ?_
    refine sq_nil ?_
    refine ex_then ?_
    refine cw_block ?_
    refine cw_loop (X := Nat) (fun zz => [(22, .int .i64 (zz : Nat)), (6, .int .i64 ((val (s.take zz)) : Nat)), (0, .string ⟨s.toArray⟩), (1, .int .i64 (top : Nat)), (21, .int .i64 (s.length : Nat))]) (fun zz => []) (fun zz => zz ≤ s.length ∧ (s.take zz).all dig = true ∧ val (s.take zz) ≤ top) (fun zz => s.length - zz) 0 ⟨Nat.zero_le _, rfl, Nat.zero_le _⟩ (Sub.cons rfl (Sub.cons (look_eq rfl rfl) (Sub.cons rfl (Sub.cons rfl (Sub.cons rfl (Sub.nil _)))))) (fun w hw => Keep.mem hw) ?_
    rintro i ⟨hi, hd, hv⟩
    refine cw_seq ?_
    refine cw_region ?_
    refine sq_r (ry_int rfl rfl rfl) ?_
    refine sq_nil ?_
    refine ex_then ?_
    refine cw_seq ?_
    refine cw_cond rfl (fun h1 => ?_) (fun h1 => ?_)
    · try simp only [bz0, bz1, bz2, bz3, bz4, bz5, bz6, bz7, bz8, bz9] at h1
      refine cw_skip ?_
      refine ex_then ?_
      refine cw_seq ?_
      refine cw_block ?_
      refine cw_seq ?_
      refine cw_region ?_
      refine sq_r (ry_move rfl) ?_
      refine sq_r (ry_assign rfl) ?_
      refine sq_nil ?_
      refine ex_then ?_
      refine cw_seq ?_
      refine cw_seq ?_
      refine cw_region ?_
      refine sq_r (ry_move rfl) ?_
      refine sq_r (ry_move rfl) ?_
      refine sq_r (ry_idxT (s := s) i Tryz.underlying9 rfl rfl rfl (by omega)) ?_
      refine sq_r (ry_int rfl rfl rfl) ?_
      refine sq_r (ry_move rfl) ?_
      refine sq_gf rfl rfl rfl (fun hg => (Ry.yl (ry_move rfl))) ?_
      refine sq_gf rfl rfl rfl (fun hg => (Ry.yl (ry_move rfl))) ?_
      refine sq_gf rfl rfl rfl (fun hg => (Ry.yl (ry_idxT (s := s) i Tryz.underlying9 (ev_c hg rfl) (ev_c hg rfl) rfl (by simp only [bz0, bz1, bz2, bz3, bz4, bz5, bz6, bz7, bz8, bz9] at hg; omega)))) ?_
      refine sq_gf rfl rfl rfl (fun hg => (Ry.yl (ry_int (ev_c hg rfl) rfl rfl))) ?_
      refine sq_r (ry_or rfl rfl rfl) ?_
      refine sq_nil ?_
      refine ex_then ?_
      refine cw_cond rfl (fun h2 => ?_) (fun h2 => ?_)
      · try simp only [bz0, bz1, bz2, bz3, bz4, bz5, bz6, bz7, bz8, bz9] at h2
        refine cw_seq ?_
        refine cw_region ?_
        refine sq_r (ry_assign rfl) ?_
        refine sq_r (ry_assign rfl) ?_
        refine sq_nil ?_
        refine ex_then ?_
        refine cw_ret ?_
        refine ex_pass_ret ?_
        refine ex_block_ret ?_
        refine ex_pass_ret ?_
        refine ex_pass_ret ?_
        refine ex_block_ret ?_
        refine ex_pass_ret ?_
        refine ex_ret (.inl rfl) (res_2 rfl (rv_tmp rfl) (rv_tmp rfl)) (fun w1 hw => ?_)
        exact ⟨(by rw [num_char (i := i) (by omega) (by omega)]; rfl), Keep.mem hw⟩
      · try simp only [bz0, bz1, bz2, bz3, bz4, bz5, bz6, bz7, bz8, bz9] at h2
        refine cw_skip ?_
        refine ex_then ?_
        refine cw_seq ?_
        refine cw_region ?_
        refine sq_r (ry_move rfl) ?_
        refine sq_r (ry_mul rfl rfl (by omega)) ?_
        refine sq_r (ry_move rfl) ?_
        refine sq_r (ry_move rfl) ?_
        refine sq_r (ry_idxT (s := s) i Tryz.underlying9 rfl rfl rfl (by omega)) ?_
        refine sq_r (ry_subn (p := (s.getD i 0).toNat) (q := 48) rfl rfl rfl rfl (by omega)) ?_
        refine sq_r (ry_convn rfl (by simp only [nb]; omega)) ?_
        refine sq_r (ry_add rfl rfl (by omega)) ?_
        refine sq_r (ry_assign rfl) ?_
        refine sq_nil ?_
        refine ex_then ?_
        refine cw_seq ?_
        refine cw_region ?_
        refine sq_r (ry_move rfl) ?_
        refine sq_r (ry_move rfl) ?_
        refine sq_r (ry_int rfl rfl rfl) ?_
        refine sq_nil ?_
        refine ex_then ?_
        refine cw_cond rfl (fun h3 => ?_) (fun h3 => ?_)
        · try simp only [bz0, bz1, bz2, bz3, bz4, bz5, bz6, bz7, bz8, bz9] at h3
          refine cw_seq ?_
          refine cw_region ?_
          refine sq_r (ry_assign rfl) ?_
          refine sq_r (ry_assign rfl) ?_
          refine sq_nil ?_
          refine ex_then ?_
          refine cw_ret ?_
          refine ex_block_ret ?_
          refine ex_pass_ret ?_
          refine ex_pass_ret ?_
          refine ex_block_ret ?_
          refine ex_pass_ret ?_
          refine ex_ret (.inl rfl) (res_2 rfl (rv_tmp rfl) (rv_tmp rfl)) (fun w1 hw => ?_)
          exact ⟨(by rw [num_big (i := i + 1) (by rw [val_take (by omega)]; omega)]; rfl), Keep.mem hw⟩
        · try simp only [bz0, bz1, bz2, bz3, bz4, bz5, bz6, bz7, bz8, bz9] at h3
          refine cw_skip ?_
          refine ex_block ?_
          refine ex_then ?_
          refine cw_region ?_
          refine sq_r (ry_add rfl rfl (by omega)) ?_
          refine sq_r (ry_move rfl) ?_
          refine sq_nil ?_
          exact ex_again (x := (i)) (i + 1) ⟨by first | omega | (simp only []; omega), dig_take (by first | omega | (simp only []; omega)) hd (by first | omega | (simp only []; omega)), by rw [val_take (by first | omega | (simp only []; omega))]; omega⟩ (by first | omega | (simp only []; omega)) (Sub.cons rfl (Sub.cons (look_eq rfl (by rw [val_take (by omega)]; rfl)) (Sub.cons rfl (Sub.cons rfl (Sub.cons rfl (Sub.nil _)))))) (fun w hw => Keep.mem hw)
    · try simp only [bz0, bz1, bz2, bz3, bz4, bz5, bz6, bz7, bz8, bz9] at h1
      refine cw_exit ?_
      refine ex_pass_exit ?_
      refine ex_pass_exit ?_
      refine ex_block_hit ?_
      refine ex_then ?_
      refine cw_seq ?_
      refine cw_region ?_
      refine sq_r (ry_move rfl) ?_
      refine sq_r (ry_assign rfl) ?_
      refine sq_r (ry_assign rfl) ?_
      refine sq_nil ?_
      refine ex_then ?_
      refine cw_ret ?_
      refine ex_ret (.inl rfl) (res_2 rfl (rv_tmp rfl) (rv_tmp rfl)) (fun w1 hw => ?_)
      exact ⟨(by have e : s.take i = s := List.take_of_length_le (by omega); rw [e] at hd hv; rw [num_ok h0.1 (by have := h0.2; omega) hd hv, e]; rfl), Keep.mem hw⟩
instance number_i {w0 : World} {L : List Ent} {s : List UInt8} {top : Nat}  : FnQ Tryz.prog 20 w0 L [.string ⟨s.toArray⟩, .int .i64 (top : Nat)] (.tuple #[.int .i64 (((numO s top).getD 0) : Nat), .bool ((numO s top).isSome)]) (top ≤ 65535 ∧ s.length ≤ 1000000000) := ⟨fun hp w hw => number_c w s top  hp⟩

end Go.Proofs.YtldkgicmfbofiaaGreatDoor

/- A text cut at a sign: walked. -/
namespace Go.Proofs.YtldkgicmfbofiaaGreatDoor
open Go.Eng Go.Kb

end Go.Proofs.YtldkgicmfbofiaaGreatDoor

/- Keys as texts: walked. -/
namespace Go.Proofs.YtldkgicmfbofiaaGreatDoor
open Go.Eng Go.Kb
set_option maxRecDepth 20000 in
theorem exists_c (w : World) (k : Key) (n : Int)  : Calls Tryz.prog 48 #[.agg (kcells k), .int .i64 n] w fun e w' => e = .returned (.bool (keyB k n)) ∧ Mem w [] w' := by
  refine calls_of (args := [_, _]) Tryz.func48 rfl Tryz.ntmps48 rfl ?_
  change Cw _ _ _ _ _ [(0, .agg (kcells k)), (1, .int .i64 n)] []
  refine cw_seq ?_
  refine cw_region ?_
  refine sq_boxA rfl fun b2 => ?_
  refine sq_r (ry_assign rfl) ?_
  refine sq_nil ?_
  refine ex_then ?_
  refine cw_seq ?_
  refine cw_seq ?_
  refine cw_region ?_
  refine sq_r (ry_move rfl) ?_
  refine sq_r (ry_int rfl rfl rfl) ?_
  refine sq_r (ry_move rfl) ?_
  refine sq_gt rfl rfl rfl (fun hg => (Ry.yl (ry_move rfl))) ?_
  refine sq_gt rfl rfl rfl (fun hg => (Ry.yl (ry_int (ev_c hg rfl) rfl rfl))) ?_
  refine sq_r (ry_and rfl rfl rfl) ?_
  refine sq_nil ?_
  refine ex_then ?_
  refine cw_cond rfl (fun h0 => ?_) (fun h0 => ?_)
  · try simp only [bz0, bz1, bz2, bz3, bz4, bz5, bz6, bz7, bz8, bz9] at h0
    refine cw_seq ?_
    refine cw_region ?_
    refine sq_r (ry_assign rfl) ?_
    refine sq_nil ?_
    refine ex_then ?_
    refine cw_ret ?_
    refine ex_pass_ret ?_
    refine ex_ret (.inl rfl) (res_1 rfl (rv_tmp rfl)) (fun w1 hw => ?_)
    exact ⟨congrArg (fun b => Ending.returned (Value.bool b)) ((by rw [keyB_no (by omega)])), Keep.mem hw⟩
  · try simp only [bz0, bz1, bz2, bz3, bz4, bz5, bz6, bz7, bz8, bz9] at h0
    refine cw_skip ?_
    refine ex_then ?_
    refine cw_seq ?_
    refine cw_quiet (by kernel_rfl) (by kernel_rfl) ?_
    refine qt_r (ry_whole rfl) ?_
    refine qt_r (ry_move rfl) ?_
    refine qt_y (yl_callC rfl trivial) ?_
    refine qt_r (ry_whole rfl) ?_
    refine qt_r (ry_eq rfl rfl) ?_
    refine qt_r (ry_assign rfl) ?_
    refine qt_nil ?_
    refine ex_then ?_
    refine cw_ret ?_
    refine ex_ret (.inl rfl) (res_1 rfl (rv_tmp rfl)) (fun w1 hw => ?_)
    exact ⟨congrArg (fun b => Ending.returned (Value.bool b)) ((by rw [keyB_cut (by omega)])), Keep.mem hw⟩
instance exists_i {w0 : World} {L : List Ent} {k : Key} {n : Int}  : FnQ Tryz.prog 48 w0 L [.agg (kcells k), .int .i64 n] (.bool (keyB k n)) (True) := ⟨fun hp w hw => exists_c w k n ⟩

set_option maxRecDepth 20000 in
theorem joined_c (w : World) (sep : List UInt8) (z : Sv) (zs : List Txt) (hz : Lies txc 1 (hp w) z zs) (hpre : zs ≠ [] ∧ (joinT sep zs).length ≤ 140737488355328) : Calls Tryz.prog 16 #[.string ⟨sep.toArray⟩, z.val] w fun e w' => e = .returned (.string ⟨(joinT sep zs).toArray⟩) ∧ Mem w [] w' := by
  have ghz : Gv w z txc 1 zs := ⟨hz⟩
  refine calls_of (args := [_, _]) Tryz.func16 rfl Tryz.ntmps16 rfl ?_
  change Cw _ _ _ _ _ [(0, .string ⟨sep.toArray⟩), (1, z.val)] []
  refine cw_seq ?_
  refine cw_region ?_
  refine sq_r (ry_assign rfl) ?_
  refine sq_nil ?_
  refine ex_then ?_
  refine cw_seq ?_
  refine cw_region ?_
  refine sq_r (ry_move rfl) ?_
  refine sq_r (ry_move rfl) ?_
  refine sq_y (yl_callC rfl hpre) ?_
  refine sq_r (ry_assign rfl) ?_
  refine sq_nil ?_
  refine ex_then ?_
  refine cw_ret ?_
  refine ex_ret (.inl rfl) (res_1 rfl (rv_tmp rfl)) (fun w1 hw => ?_)
  exact ⟨rfl, Keep.mem hw⟩
instance joined_i {w0 : World} {L : List Ent} {sep : List UInt8} {z : Sv} {zs : List Txt} [hz : HdE w0 L txc 1 z zs] : FnQ Tryz.prog 16 w0 L [.string ⟨sep.toArray⟩, z.val] (.string ⟨(joinT sep zs).toArray⟩) (zs ≠ [] ∧ (joinT sep zs).length ≤ 140737488355328) := ⟨fun hp w hw => joined_c w sep z zs (hz.h w hw) hp⟩


end Go.Proofs.YtldkgicmfbofiaaGreatDoor

/- Keys, prefixes, routes as texts: walked. -/
namespace Go.Proofs.YtldkgicmfbofiaaGreatDoor
open Go.Eng Go.Kb
instance : ZeroT Tryz.prog 5 (.int .u8 0) := ⟨by kernel_rfl⟩
set_option maxRecDepth 20000 in
theorem tkey_c (w : World) [tb : Tabs w] (k : Key) (n : Int)  : Calls Tryz.prog 32 #[.agg (kcells k), .int .i64 n] w fun e w' => e = .returned (.tuple #[.string ⟨(keyS k n).toArray⟩, .int .i64 (errB (keyB k n))]) ∧ Mem w [] w' := by
  have h4 := four_len k
  refine calls_of (args := [_, _]) Tryz.func32 rfl Tryz.ntmps32 rfl ?_
  change Cw _ _ _ _ _ [(0, .agg (kcells k)), (1, .int .i64 n)] []
  refine cw_seq ?_
  refine cw_region ?_
  refine sq_boxA rfl fun b2 => ?_
  refine sq_r (ry_assign rfl) ?_
  refine sq_r (ry_assign rfl) ?_
  refine sq_nil ?_
  refine ex_then ?_
  refine cw_seq ?_
  refine cw_seq ?_
  refine cw_region ?_
  refine sq_r (ry_whole rfl) ?_
  refine sq_r (ry_move rfl) ?_
  refine sq_y (yl_callC rfl trivial) ?_
  refine sq_r (ry_not rfl) ?_
  refine sq_nil ?_
  refine ex_then ?_
  refine cw_cond rfl (fun h0 => ?_) (fun h0 => ?_)
  · try simp only [bz0, bz1, bz2, bz3, bz4, bz5, bz6, bz7, bz8, bz9] at h0
    refine cw_seq ?_
    refine cw_region ?_
    refine sq_r (ry_assign rfl) ?_
    refine sq_r (ry_assign rfl) ?_
    refine sq_nil ?_
    refine ex_then ?_
    refine cw_ret ?_
    refine ex_pass_ret ?_
    refine ex_ret (.inl rfl) (res_2 rfl (rv_tmp rfl) (rv_tmp rfl)) (fun w1 hw => ?_)
    exact ⟨(by rw [keyS, h0]; rfl), Keep.mem hw⟩
  · try simp only [bz0, bz1, bz2, bz3, bz4, bz5, bz6, bz7, bz8, bz9] at h0
    refine cw_skip ?_
    refine ex_then ?_
    refine cw_seq ?_
    refine cw_seq ?_
    refine cw_region ?_
    refine sq_r (ry_move rfl) ?_
    refine sq_r (ry_int rfl rfl rfl) ?_
    refine sq_nil ?_
    refine ex_then ?_
    refine cw_cond rfl (fun h1 => ?_) (fun h1 => ?_)
    · try simp only [bz0, bz1, bz2, bz3, bz4, bz5, bz6, bz7, bz8, bz9] at h1
      refine cw_seq ?_
      refine cw_region ?_
      refine sq_r (ry_assign rfl) ?_
      refine sq_nil ?_
      refine ex_then ?_
      refine cw_seq ?_
      refine cw_seq ?_
      refine cw_region ?_
      refine sq_r (Ry.as (v' := Sv.val ⟨false, b2, 0, 4, 16, none⟩) (ry_sliceA_hi rfl rfl (by decide) (by decide)) rfl) ?_
      refine sq_r (ry_lenH rfl) ?_
      refine sq_r (ry_move rfl) ?_
      refine sq_nil ?_
      refine ex_then ?_
      refine cw_block ?_
      refine cw_loop (X := Nat × Sv × List Txt) (fun zz => [(20, .int .i64 (zz.1 : Nat)), (6, zz.2.1.val), (18, (⟨false, b2, 0, 4, 16, none⟩ : Sv).val), (19, .int .i64 (((kbytes k).take 4).length : Nat))]) (fun zz => [own txc 1 zz.2.1 zz.2.2, blk b2 (kcells k) 27]) (fun zz => zz.1 ≤ 4 ∧ zz.2.2 = ((((kbytes k).take 4).take zz.1).map fun b => dec b.toNat)) (fun zz => 4 - zz.1) (0, Sv.none, []) ⟨Nat.zero_le _, rfl⟩ (Sub.cons rfl (Sub.cons rfl (Sub.cons rfl (Sub.cons rfl (Sub.nil _))))) (fun w hw => Mem.nilOwn txc 1 (Keep.mem hw)) ?_
      rintro ⟨i, o, q⟩ ⟨hi, hq⟩
      dsimp only
      simp only at hi hq
      have hql : q.length ≤ 4 := by rw [hq, List.length_map, List.length_take]; omega
      refine cw_seq ?_
      refine cw_region ?_
      refine sq_r (ry_int rfl rfl rfl) ?_
      refine sq_nil ?_
      refine ex_then ?_
      refine cw_seq ?_
      refine cw_cond rfl (fun h2 => ?_) (fun h2 => ?_)
      · try simp only [bz0, bz1, bz2, bz3, bz4, bz5, bz6, bz7, bz8, bz9] at h2
        refine cw_skip ?_
        refine ex_then ?_
        refine cw_seq ?_
        refine cw_block ?_
        refine cw_seq ?_
        refine cw_region ?_
        obtain ⟨x, hx⟩ := get_some (xs := ((kbytes k).take 4)) (i := i) (by omega)
        refine sq_r (ry_idxH rfl rfl i rfl (by omega)) ?_
        refine sq_r (ry_elemcH (j := 0) rfl i hx rfl (by decide)) ?_
        refine sq_r (ry_assign rfl) ?_
        refine sq_nil ?_
        refine ex_then ?_
        refine cw_region ?_
        refine sq_r (ry_move rfl) ?_
        refine sq_r (ry_move rfl) ?_
        refine sq_r (ry_conv_u8 rfl) ?_
        refine sq_y (yl_callC rfl (by first | omega | exact Nat.lt_trans (UInt8.toNat_lt _) (by decide) | exact Nat.lt_trans (UInt16.toNat_lt _) (by decide))) ?_
        refine sq_buildSlice (enc := txc) (vals := [_]) [(dec x.toNat)] rfl rfl rfl (by decide) (by decide) fun b28 => ?_
        refine sq_append (s := o) (ys := [(dec x.toNat)]) rfl rfl (by decide) (fun w hw => src_rows (s := ⟨false, b28, 0, 1, 1, none⟩) Tryz.underlying70 (by decide) ((inferInstance : Hd _ _ ⟨false, b28, 0, 1, 1, none⟩ txc 1 [(dec x.toNat)]).h w hw)) (by simp only [List.length_append, List.length_cons, List.length_nil]; omega) (by simp only [List.length_append, List.length_cons, List.length_nil]; omega) fun s29 hs29 hl29 => ?_
        refine sq_r (ry_assign rfl) ?_
        refine sq_nil ?_
        refine ex_block ?_
        refine ex_then ?_
        refine cw_region ?_
        refine sq_r (ry_add rfl rfl (by omega)) ?_
        refine sq_r (ry_move rfl) ?_
        refine sq_nil ?_
        exact ex_again (x := (i, o, q)) (i + 1, s29, q ++ [dec x.toNat]) ⟨by first | omega | (simp only []; omega), by simp only; rw [hq, four_take (by first | omega | (simp only []; omega)) hx]⟩ (by simp only; omega) (Sub.cons rfl (Sub.cons rfl (Sub.cons rfl (Sub.cons rfl (Sub.nil _))))) (fun w hw => Keep.mem hw)
      · try simp only [bz0, bz1, bz2, bz3, bz4, bz5, bz6, bz7, bz8, bz9] at h2
        refine cw_exit ?_
        refine ex_pass_exit ?_
        refine ex_pass_exit ?_
        refine ex_block_hit ?_
        refine ex_then ?_
        refine cw_seq ?_
        have hq4 : q = ((kbytes k).take 4).map fun b => dec b.toNat := by rw [hq, List.take_of_length_le (by omega)]
        refine cw_region ?_
        refine sq_r (ry_move rfl) ?_
        refine sq_y (yl_callC rfl (by rw [hq4]; exact four_pre k)) ?_
        refine sq_r (ry_assign rfl) ?_
        refine sq_r (ry_assign rfl) ?_
        refine sq_nil ?_
        refine ex_then ?_
        refine cw_ret ?_
        refine ex_pass_ret ?_
        refine ex_ret (.inl rfl) (res_2 rfl (rv_tmp rfl) (rv_tmp rfl)) (fun w1 hw => ?_)
        exact ⟨(by rw [keyS, h0, if_pos rfl, keyT, if_pos h1, hq4, joinT_four]; rfl), Keep.mem hw⟩
    · try simp only [bz0, bz1, bz2, bz3, bz4, bz5, bz6, bz7, bz8, bz9] at h1
      refine cw_skip ?_
      refine ex_then ?_
      refine cw_seq ?_
      refine cw_region ?_
      refine sq_makeS (enc := benc) (n := 0) (cap := 32) 0 rfl rfl rfl rfl rfl (by omega) (by omega) (by omega) fun b33 => ?_
      refine sq_r (ry_assign rfl) ?_
      refine sq_nil ?_
      refine ex_then ?_
      refine cw_seq ?_
      refine cw_seq ?_
      refine cw_region ?_
      refine sq_r (ry_whole rfl) ?_
      refine sq_r (ry_move rfl) ?_
      refine sq_nil ?_
      refine ex_then ?_
      refine cw_block ?_
      refine cw_loop (X := Nat × Sv × List UInt8) (fun zz => [(35, .int .i64 (zz.1 : Nat)), (9, zz.2.1.val), (34, .agg (kcells k))]) (fun zz => [own benc 1 zz.2.1 zz.2.2, blk b2 (kcells k) 27]) (fun zz => zz.1 ≤ 16 ∧ zz.2.2 = (wideT k).take (2 * zz.1)) (fun zz => 16 - zz.1) (0, ⟨false, b33, 0, 0, 32, none⟩, []) ⟨Nat.zero_le _, rfl⟩ (Sub.cons rfl (Sub.cons rfl (Sub.cons rfl (Sub.nil _)))) (fun w hw => hw) ?_
      rintro ⟨i, o, q⟩ ⟨hi, hq⟩
      dsimp only
      simp only at hi hq
      have hql : q.length ≤ 32 := by rw [hq, List.length_take, wide_len]; omega
      refine cw_seq ?_
      refine cw_region ?_
      refine sq_r (ry_int rfl rfl rfl) ?_
      refine sq_nil ?_
      refine ex_then ?_
      refine cw_seq ?_
      refine cw_cond rfl (fun h3 => ?_) (fun h3 => ?_)
      · try simp only [bz0, bz1, bz2, bz3, bz4, bz5, bz6, bz7, bz8, bz9] at h3
        refine cw_skip ?_
        refine ex_then ?_
        refine cw_seq ?_
        refine cw_block ?_
        refine cw_seq ?_
        refine cw_region ?_
        refine sq_r (ry_ixKey Tryz.underlying27 rfl rfl i rfl (by omega)) ?_
        refine sq_r (ry_assign rfl) ?_
        refine sq_nil ?_
        refine ex_then ?_
        refine cw_tail 8 [7] (by kernel_rfl) (by kernel_rfl) ?_
        simp only [List.take_succ_cons, List.take_zero]
        refine qt_r (ry_move rfl) ?_
        refine qt_r (ry_move rfl) ?_
        refine qt_r (ry_shr (p := kbyte k i) rfl rfl (kbyte_lt k i) (by decide)) ?_
        refine qt_r (ry_idxStr (s := ⟨([48, 49, 50, 51, 52, 53, 54, 55, 56, 57, 97, 98, 99, 100, 101, 102] : Txt).toArray⟩) (v := (hexc (nib k (2 * i))).toNat) Tryz.underlying9 rfl rfl (Int.natCast_nonneg _) (hexHi k i)) ?_
        refine qt_r (ry_move rfl) ?_
        refine qt_r (ry_band (p := kbyte k i) (q := 15) rfl rfl rfl rfl (kbyte_lt k i) (by decide)) ?_
        refine qt_r (ry_idxStr (s := ⟨([48, 49, 50, 51, 52, 53, 54, 55, 56, 57, 97, 98, 99, 100, 101, 102] : Txt).toArray⟩) (v := (hexc (nib k (2 * i + 1))).toNat) Tryz.underlying9 rfl rfl (Int.natCast_nonneg _) (hexLo k i)) ?_
        refine qt_skip ?_
        refine qt_end ?_
        refine fr_buildSlice (enc := benc) rfl (vals := [_, _]) [(hexc (nib k (2 * i))), (hexc (nib k (2 * i + 1)))] rfl rfl rfl (by decide) (by decide) fun b45 => ?_
        refine fr_nil ?_
        simp only [List.drop_succ_cons, List.drop_zero]
        refine sq_append (s := o) (ys := [(hexc (nib k (2 * i))), (hexc (nib k (2 * i + 1)))]) rfl rfl (by decide) (fun w hw => src_rows (s := ⟨false, b45, 0, 2, 2, none⟩) Tryz.underlying23 (by decide) ((inferInstance : Hd _ _ ⟨false, b45, 0, 2, 2, none⟩ benc 1 [(hexc (nib k (2 * i))), (hexc (nib k (2 * i + 1)))]).h w hw)) (by simp only [List.length_append, List.length_cons, List.length_nil]; omega) (by simp only [List.length_append, List.length_cons, List.length_nil]; omega) fun s46 hs46 hl46 => ?_
        refine sq_r (ry_assign rfl) ?_
        refine sq_nil ?_
        refine ex_block ?_
        refine ex_then ?_
        refine cw_region ?_
        refine sq_r (ry_add rfl rfl (by omega)) ?_
        refine sq_r (ry_move rfl) ?_
        refine sq_nil ?_
        exact ex_again (x := (i, o, q)) (i + 1, s46, q ++ [hexc (nib k (2 * i)), hexc (nib k (2 * i + 1))]) ⟨by first | omega | (simp only []; omega), by simp only; rw [hq, wide_take2 k (by first | omega | (simp only []; omega))]⟩ (by simp only; omega) (Sub.cons rfl (Sub.cons rfl (Sub.cons rfl (Sub.nil _)))) (fun w hw => Keep.mem hw)
      · try simp only [bz0, bz1, bz2, bz3, bz4, bz5, bz6, bz7, bz8, bz9] at h3
        refine cw_exit ?_
        refine ex_pass_exit ?_
        refine ex_pass_exit ?_
        refine ex_block_hit ?_
        refine ex_then ?_
        refine cw_seq ?_
        refine cw_region ?_
        refine sq_r (ry_move rfl) ?_
        refine sq_r (ry_bstrH Tryz.underlying23 Tryz.underlying5 Tryz.underlying9 rfl) ?_
        refine sq_r (ry_assign rfl) ?_
        refine sq_r (ry_assign rfl) ?_
        refine sq_nil ?_
        refine ex_then ?_
        refine cw_ret ?_
        refine ex_ret (.inl rfl) (res_2 rfl (rv_tmp rfl) (rv_tmp rfl)) (fun w1 hw => ?_)
        exact ⟨(by rw [keyS, h0, if_pos rfl, keyT, if_neg h1, hq, List.take_of_length_le (by rw [wide_len]; omega)]; rfl), Keep.mem hw⟩
instance tkey_i {w0 : World} {L : List Ent} {k : Key} {n : Int} [tb : Tabs w0]  : FnQ Tryz.prog 32 w0 L [.agg (kcells k), .int .i64 n] (.tuple #[.string ⟨(keyS k n).toArray⟩, .int .i64 (errB (keyB k n))]) (True) := ⟨fun hp w hw => tkey_c w (tb := tb.at hw) k n ⟩

set_option maxRecDepth 20000 in
theorem tpfx_c (w : World) [tb : Tabs w] (p : Pfx)  : Calls Tryz.prog 15 #[.agg (pcells p)] w fun e w' => e = .returned (.tuple #[.string ⟨(pfxS p).toArray⟩, .int .i64 (errB (pmay p))]) ∧ Mem w [] w' := by
  have hkl := keyS_len p.key p.bits
  refine calls_of (args := [_]) Tryz.func15 rfl Tryz.ntmps15 rfl ?_
  change Cw _ _ _ _ _ [(0, .agg (pcells p))] []
  refine cw_seq ?_
  refine cw_region ?_
  refine sq_boxA rfl fun b1 => ?_
  refine sq_r (ry_assign rfl) ?_
  refine sq_r (ry_assign rfl) ?_
  refine sq_nil ?_
  refine ex_then ?_
  refine cw_seq ?_
  refine cw_seq ?_
  refine cw_region ?_
  refine sq_r (ry_whole rfl) ?_
  refine sq_y (yl_callC rfl trivial) ?_
  refine sq_r (ry_not rfl) ?_
  refine sq_nil ?_
  refine ex_then ?_
  refine cw_cond rfl (fun h0 => ?_) (fun h0 => ?_)
  · try simp only [bz0, bz1, bz2, bz3, bz4, bz5, bz6, bz7, bz8, bz9] at h0
    refine cw_seq ?_
    refine cw_region ?_
    refine sq_r (ry_assign rfl) ?_
    refine sq_r (ry_assign rfl) ?_
    refine sq_nil ?_
    refine ex_then ?_
    refine cw_ret ?_
    refine ex_pass_ret ?_
    refine ex_ret (.inl rfl) (res_2 rfl (rv_tmp rfl) (rv_tmp rfl)) (fun w1 hw => ?_)
    exact ⟨(by rw [pfxS, h0]; rfl), Keep.mem hw⟩
  · try simp only [bz0, bz1, bz2, bz3, bz4, bz5, bz6, bz7, bz8, bz9] at h0
    obtain ⟨k1, k2, k3⟩ := pmay_key h0
    have hdl := dec_len 3 p.len.toNat (by omega) (by decide)
    refine cw_skip ?_
    refine ex_then ?_
    refine cw_seq ?_
    refine cw_region ?_
    refine sq_r (ry_field (o' := 2) rfl rfl) ?_
    refine sq_r (ry_part rfl) ?_
    refine sq_r (ry_field (o' := 0) rfl rfl) ?_
    refine sq_r (ry_cellc rfl) ?_
    refine sq_y (yl_callC rfl trivial) ?_
    refine sq_r (ry_move rfl) ?_
    refine sq_r (ry_extract (v := .string ⟨(keyS p.key p.bits).toArray⟩) rfl rfl) ?_
    refine sq_r (ry_extract (v := .int .i64 (errB (keyB p.key p.bits))) rfl rfl) ?_
    refine sq_r (ry_assign rfl) ?_
    refine sq_r (ry_assign rfl) ?_
    refine sq_nil ?_
    refine ex_then ?_
    refine cw_seq ?_
    refine cw_seq ?_
    refine cw_region ?_
    refine sq_r (ry_move rfl) ?_
    refine sq_r (ry_int rfl rfl rfl) ?_
    refine sq_nil ?_
    refine ex_then ?_
    refine cw_cond rfl (fun h1 => ?_) (fun h1 => ?_)
    · try simp only [bz0, bz1, bz2, bz3, bz4, bz5, bz6, bz7, bz8, bz9] at h1
      exfalso; rw [k1] at h1; simp [errB] at h1
    · try simp only [bz0, bz1, bz2, bz3, bz4, bz5, bz6, bz7, bz8, bz9] at h1
      refine cw_skip ?_
      refine ex_then ?_
      refine cw_seq ?_
      refine cw_region ?_
      refine sq_r (ry_move rfl) ?_
      refine sq_r (ry_field (o' := 1) rfl rfl) ?_
      refine sq_r (ry_cellc rfl) ?_
      refine sq_y (yl_callC rfl ⟨k2, by omega⟩) ?_
      refine sq_buildSlice (enc := txc) (vals := [_, _]) [(keyS p.key p.bits), (dec p.len.toNat)] rfl rfl rfl (by decide) (by decide) fun b24 => ?_
      refine sq_y (yl_callC rfl (join2_pre _ _ 47 (by omega))) ?_
      refine sq_r (ry_assign rfl) ?_
      refine sq_r (ry_assign rfl) ?_
      refine sq_nil ?_
      refine ex_then ?_
      refine cw_ret ?_
      refine ex_ret (.inl rfl) (res_2 rfl (rv_tmp rfl) (rv_tmp rfl)) (fun w1 hw => ?_)
      exact ⟨(by rw [pfxS, h0, if_pos rfl, joinT_two, pfxT, keyS, if_pos k1]; rfl), Keep.mem hw⟩
instance tpfx_i {w0 : World} {L : List Ent} {p : Pfx} [tb : Tabs w0]  : FnQ Tryz.prog 15 w0 L [.agg (pcells p)] (.tuple #[.string ⟨(pfxS p).toArray⟩, .int .i64 (errB (pmay p))]) (True) := ⟨fun hp w hw => tpfx_c w (tb := tb.at hw) p ⟩


set_option maxRecDepth 20000 in
theorem tline_c (w : World) [tb : Tabs w] (r : Rt)  : Calls Tryz.prog 6 #[.agg (rcells r)] w fun e w' => e = .returned (.tuple #[.string ⟨(lineS r).toArray⟩, .int .i64 (errB (pmay r.p))]) ∧ Mem w [] w' := by
  have hpl := pfxS_len r.p
  have hdl := dec_len 5 r.hop.toNat (Nat.lt_trans (UInt16.toNat_lt _) (by decide)) (by decide)
  refine calls_of (args := [_]) Tryz.func6 rfl Tryz.ntmps6 rfl ?_
  change Cw _ _ _ _ _ [(0, .agg (rcells r))] []
  refine cw_seq ?_
  refine cw_region ?_
  refine sq_boxA rfl fun b1 => ?_
  refine sq_r (ry_assign rfl) ?_
  refine sq_r (ry_assign rfl) ?_
  refine sq_nil ?_
  refine ex_then ?_
  refine cw_seq ?_
  refine cw_region ?_
  refine sq_r (ry_field (o' := 0) rfl rfl) ?_
  refine sq_r (ry_part rfl) ?_
  refine sq_y (yl_callC rfl trivial) ?_
  refine sq_r (ry_move rfl) ?_
  refine sq_r (ry_extract (v := .string ⟨(pfxS r.p).toArray⟩) rfl rfl) ?_
  refine sq_r (ry_extract (v := .int .i64 (errB (pmay r.p))) rfl rfl) ?_
  refine sq_r (ry_assign rfl) ?_
  refine sq_r (ry_assign rfl) ?_
  refine sq_nil ?_
  refine ex_then ?_
  refine cw_seq ?_
  refine cw_seq ?_
  refine cw_region ?_
  refine sq_r (ry_move rfl) ?_
  refine sq_r (ry_int rfl rfl rfl) ?_
  refine sq_nil ?_
  refine ex_then ?_
  refine cw_cond rfl (fun h0 => ?_) (fun h0 => ?_)
  · try simp only [bz0, bz1, bz2, bz3, bz4, bz5, bz6, bz7, bz8, bz9] at h0
    have e0 : pmay r.p = false := by cases e : pmay r.p with
      | false => rfl
      | true => rw [e] at h0; simp [errB] at h0
    refine cw_seq ?_
    refine cw_region ?_
    refine sq_r (ry_move rfl) ?_
    refine sq_r (ry_assign rfl) ?_
    refine sq_r (ry_assign rfl) ?_
    refine sq_nil ?_
    refine ex_then ?_
    refine cw_ret ?_
    refine ex_pass_ret ?_
    refine ex_ret (.inl rfl) (res_2 rfl (rv_tmp rfl) (rv_tmp rfl)) (fun w1 hw => ?_)
    exact ⟨(by rw [lineS, e0]; rfl), Keep.mem hw⟩
  · try simp only [bz0, bz1, bz2, bz3, bz4, bz5, bz6, bz7, bz8, bz9] at h0
    have e0 : pmay r.p = true := by cases e : pmay r.p with
      | true => rfl
      | false => rw [e] at h0; simp [errB] at h0
    refine cw_skip ?_
    refine ex_then ?_
    refine cw_seq ?_
    refine cw_region ?_
    refine sq_r (ry_move rfl) ?_
    refine sq_r (ry_field (o' := 18) rfl rfl) ?_
    refine sq_r (ry_cellc rfl) ?_
    refine sq_r (ry_conv_u16 rfl) ?_
    refine sq_y (yl_callC rfl (by first | omega | exact Nat.lt_trans (UInt8.toNat_lt _) (by decide) | exact Nat.lt_trans (UInt16.toNat_lt _) (by decide))) ?_
    refine sq_buildSlice (enc := txc) (vals := [_, _]) [(pfxS r.p), (dec r.hop.toNat)] rfl rfl rfl (by decide) (by decide) fun b20 => ?_
    refine sq_y (yl_callC rfl (join2_pre _ _ 32 (by omega))) ?_
    refine sq_r (ry_assign rfl) ?_
    refine sq_r (ry_assign rfl) ?_
    refine sq_nil ?_
    refine ex_then ?_
    refine cw_ret ?_
    refine ex_ret (.inl rfl) (res_2 rfl (rv_tmp rfl) (rv_tmp rfl)) (fun w1 hw => ?_)
    exact ⟨(by rw [lineS, e0, if_pos rfl, joinT_two, lineT, pfxS, if_pos e0]; rfl), Keep.mem hw⟩
instance tline_i {w0 : World} {L : List Ent} {r : Rt} [tb : Tabs w0]  : FnQ Tryz.prog 6 w0 L [.agg (rcells r)] (.tuple #[.string ⟨(lineS r).toArray⟩, .int .i64 (errB (pmay r.p))]) (True) := ⟨fun hp w hw => tline_c w (tb := tb.at hw) r ⟩


end Go.Proofs.YtldkgicmfbofiaaGreatDoor

/- Keys read out of texts, byte by byte. No program in sight. -/
namespace Go.Kb
open Go.Eng
variable {k kk : Key} {i j n v : Nat} {s : Txt} {c : UInt8}
def kput (k : Key) (i v : Nat) : Key := kof fun j => if j = i then v else kbyte k j
theorem kput_byte (k : Key) (i : Nat) (hv : v < 256) (hj : j < 16) : kbyte (kput k i v) j = if j = i then v else kbyte k j := by
  rw [kput, kbyte_kof _ _ hj]
  have := kbyte_lt k j
  split <;> omega
theorem kputs (k : Key) (i : Nat) (hi : i < 16) (hv : v < 256) : (kcells k).setIfInBounds i (.int .u8 ((v : Nat) : Int)) = kcells (kput k i v) := by
  refine eq_kcells (by simp [kcells_size]) fun j hj => ?_
  rw [kput_byte k i hv hj, Array.getElem?_setIfInBounds]
  by_cases e : i = j
  · subst e; simp [kcells_size, hi]
  · rw [if_neg e, if_neg (fun h => e h.symm)]; exact kcells_get k j hj
theorem kbyte_zero : kbyte (0#128) j = 0 := by simp [kbyte]
def Part4 (ps : List Txt) (i : Nat) (k : Key) : Prop := (∀ j, j < 16 → kbyte k j = if j < i then (numO (ps.getD j []) 255).getD 0 else 0) ∧ ∀ j, j < i → (numO (ps.getD j []) 255).isSome = true
theorem part4_0 (ps : List Txt) : Part4 ps 0 (0#128) := ⟨fun j _ => by rw [kbyte_zero, if_neg (by omega)], fun j h => absurd h (Nat.not_lt_zero j)⟩
theorem num255 (s : Txt) : (numO s 255).getD 0 < 256 := by
  cases e : numO s 255 with
  | none => simp
  | some n => have := (num_iff.1 e).2; simp; omega
theorem getD_of {α : Type} {xs : List α} {i : Nat} {x d : α} (h : xs[i]? = some x) : xs.getD i d = x := by simp [List.getD, h]
theorem Part4.step {ps : List Txt} {x : Txt} (h : Part4 ps i k) (hx : ps[i]? = some x) (ho : (numO x 255).isSome = true) (hi : i < 4) : Part4 ps (i + 1) (kput k i ((numO x 255).getD 0)) := by
  have e : ps.getD i [] = x := getD_of hx
  refine ⟨fun j hj => ?_, fun j hj => ?_⟩
  · rw [kput_byte k i (num255 x) hj]
    by_cases ej : j = i
    · subst ej; rw [if_pos rfl, if_pos (by omega), e]
    · rw [if_neg ej, h.1 j hj]
      by_cases hl : j < i
      · rw [if_pos hl, if_pos (by omega)]
      · rw [if_neg hl, if_neg (by omega)]
  · by_cases ej : j = i
    · subst ej; rw [e]; exact ho
    · exact h.2 j (by omega)
theorem len4 {ps : List Txt} (h : ps.length = 4) : ∃ a b c d, ps = [a, b, c, d] := by
  match ps, h with
  | [a, b, c, d], _ => exact ⟨a, b, c, d, rfl⟩
theorem short_no_len (h : (splitL 46 s).length ≠ 4) : shortO s = none := by
  unfold shortO
  split
  · rename_i a b c d e; rw [e] at h; exact absurd rfl h
  · rfl
theorem short_no_num {x : Txt} (hl : (splitL 46 s).length = 4) (hx : (splitL 46 s)[i]? = some x) (hn : (numO x 255).isSome = false) : shortO s = none := by
  obtain ⟨a, b, c, d, e⟩ := len4 hl
  have hn' : numO x 255 = none := by cases q : numO x 255 with
    | none => rfl
    | some z => rw [q] at hn; cases hn
  unfold shortO
  rw [e] at hx ⊢
  have hm : x ∈ [a, b, c, d] := List.mem_of_getElem? hx
  simp only [List.mem_cons, List.not_mem_nil, or_false] at hm
  rcases hm with rfl | rfl | rfl | rfl
  all_goals simp only [hn']
  all_goals (split <;> first | rfl | (rename_i h1 h2 h3 h4; simp_all))
theorem short_yes (hl : (splitL 46 s).length = 4) (h : Part4 (splitL 46 s) 4 k) : shortO s = some k := by
  obtain ⟨a, b, c, d, e⟩ := len4 hl
  rw [e] at h
  obtain ⟨na, ha⟩ := Option.isSome_iff_exists.1 (h.2 0 (by decide))
  obtain ⟨nb, hb⟩ := Option.isSome_iff_exists.1 (h.2 1 (by decide))
  obtain ⟨nc, hc⟩ := Option.isSome_iff_exists.1 (h.2 2 (by decide))
  obtain ⟨nd, hd⟩ := Option.isSome_iff_exists.1 (h.2 3 (by decide))
  simp only [List.getD_cons_zero, List.getD_cons_succ] at ha hb hc hd
  unfold shortO
  rw [e]
  simp only [ha, hb, hc, hd]
  refine congrArg some (key_ext_byte fun j hj => ?_)
  rw [four_byte (num_iff.1 ha).2 (num_iff.1 hb).2 (num_iff.1 hc).2 (num_iff.1 hd).2 hj, h.1 j hj]
  rcases Nat.lt_or_ge j 4 with h4 | h4
  · have : j = 0 ∨ j = 1 ∨ j = 2 ∨ j = 3 := by omega
    rcases this with rfl | rfl | rfl | rfl
    · simp [ha]
    · simp [hb]
    · simp [hc]
    · simp [hd]
  · rw [if_neg (by omega), if_neg (by omega), if_neg (by omega), if_neg (by omega), if_neg (by omega)]
theorem hexI_at (h : ¬ hexI (s.getD i 0) < 0) : hexI (s.getD i 0) = ((hexAt s i : Nat) : Int) ∧ hexAt s i < 16 ∧ (hexO (s.getD i 0)).isSome = true := by
  unfold hexI hexAt at *
  cases e : hexO (s.getD i 0) with
  | none => rw [e] at h; simp at h
  | some n => exact ⟨rfl, hex_lt e, rfl⟩
theorem hexI_no (h : hexI (s.getD i 0) < 0) (hi : i < s.length) : wideO s = none := by
  unfold wideO
  rw [if_neg]
  rintro ⟨_, ha⟩
  have := List.all_eq_true.1 ha (s.getD i 0) (by simp [List.getD, hi])
  unfold hexI at h
  cases e : hexO (s.getD i 0) with
  | none => rw [e] at this; cases this
  | some n => rw [e] at h; simp only at h; omega
theorem index_hex (c : UInt8) : Lib.indexByte ([48, 49, 50, 51, 52, 53, 54, 55, 56, 57, 97, 98, 99, 100, 101, 102] : Txt) c = hexI c := by
  have key : ∀ n, n < 256 → Lib.indexByte ([48, 49, 50, 51, 52, 53, 54, 55, 56, 57, 97, 98, 99, 100, 101, 102] : Txt) (UInt8.ofNat n) = hexI (UInt8.ofNat n) := by decide +kernel
  have := key c.toNat c.toNat_lt
  rwa [UInt8.ofNat_toNat] at this
def PartW (s : Txt) (i : Nat) (k : Key) : Prop := (∀ j, j < 16 → kbyte k j = if 2 * j + 1 < i then 16 * hexAt s (2 * j) + hexAt s (2 * j + 1) else if 2 * j < i then hexAt s (2 * j) else 0) ∧ ∀ j, j < i → (hexO (s.getD j 0)).isSome = true
theorem partW_0 (s : Txt) : PartW s 0 (0#128) := ⟨fun j _ => by rw [kbyte_zero, if_neg (by omega), if_neg (by omega)], fun j h => absurd h (Nat.not_lt_zero j)⟩
theorem hexAt_lt (h : (hexO (s.getD i 0)).isSome = true) : hexAt s i < 16 := by
  unfold hexAt
  obtain ⟨n, e⟩ := Option.isSome_iff_exists.1 h
  rw [e]; exact hex_lt e
theorem PartW.lt (h : PartW s i k) (hi : i < 32) : kbyte k (i / 2) < 16 := by
  rw [h.1 (i / 2) (by omega), if_neg (by omega)]
  split
  · exact hexAt_lt (h.2 _ (by omega))
  · omega
theorem or16 (hn : n < 16) : v * 16 ||| n = v * 16 + n := by
  have := Nat.two_pow_add_eq_or_of_lt (i := 4) (show n < 2 ^ 4 from hn) v
  rw [Nat.mul_comm v 16]; exact this.symm
theorem PartW.step (h : PartW s i k) (hi : i < 32) (ho : (hexO (s.getD i 0)).isSome = true) : PartW s (i + 1) (kput k (i / 2) (kbyte k (i / 2) * 16 ||| hexAt s i)) := by
  have hl := h.lt hi
  have hx := hexAt_lt ho
  rw [or16 hx]
  refine ⟨fun j hj => ?_, fun j hj => ?_⟩
  · rw [kput_byte k _ (by omega) hj]
    by_cases ej : j = i / 2
    · rw [if_pos ej, ← ej, h.1 j hj, if_neg (by omega)]
      rcases Nat.mod_two_eq_zero_or_one i with e | e
      · rw [if_neg (by omega), if_neg (by omega), if_pos (by omega), show 2 * j = i by omega]; omega
      · rw [if_pos (by omega), if_pos (by omega), show 2 * j + 1 = i by omega]; omega
    · rw [if_neg ej, h.1 j hj]
      by_cases h1 : 2 * j + 1 < i
      · rw [if_pos h1, if_pos (by omega)]
      · rw [if_neg h1, if_neg (by omega), if_neg (by omega), if_neg (by omega)]
  · by_cases ej : j = i
    · subst ej; exact ho
    · exact h.2 j (by omega)
theorem wide_no_len (h : s.length ≠ 32) : wideO s = none := by unfold wideO; rw [if_neg (fun e => h e.1)]
theorem allHex_of (h : ∀ j, j < s.length → (hexO (s.getD j 0)).isSome = true) : allHex s = true := by
  refine List.all_eq_true.2 fun c hc => ?_
  obtain ⟨j, hj, rfl⟩ := List.getElem_of_mem hc
  have := h j hj
  simpa [List.getD, hj] using this
theorem wide_yes (hl : s.length = 32) (h : PartW s 32 k) : wideO s = some k := by
  unfold wideO
  rw [if_pos ⟨hl, allHex_of fun j hj => h.2 j (by omega)⟩]
  refine congrArg some (key_ext_byte fun j hj => ?_)
  rw [h.1 j hj, if_pos (by omega), wideK, kbyte_kof _ _ hj]
  have := hexAt_lt (h.2 (2 * j) (by omega))
  have := hexAt_lt (h.2 (2 * j + 1) (by omega))
  omega
def PartR (s : Txt) (i : Nat) (k : Key) : Prop := (∀ j, j < 16 → kbyte k j = if j < i then 16 * hexAt s (2 * j) + hexAt s (2 * j + 1) else 0) ∧ ∀ j, j < 2 * i → (hexO (s.getD j 0)).isSome = true
theorem partR_0 (s : Txt) : PartR s 0 (0#128) := ⟨fun j _ => by rw [kbyte_zero, if_neg (by omega)], fun j h => by omega⟩
theorem PartR.step (h : PartR s i k) (hi : i < 16) (h1 : (hexO (s.getD (2 * i) 0)).isSome = true) (h2 : (hexO (s.getD (2 * i + 1) 0)).isSome = true) : PartR s (i + 1) (kput k i (16 * hexAt s (2 * i) + hexAt s (2 * i + 1))) := by
  have := hexAt_lt h1
  have := hexAt_lt h2
  refine ⟨fun j hj => ?_, fun j hj => ?_⟩
  · rw [kput_byte k i (by omega) hj]
    by_cases ej : j = i
    · subst ej; rw [if_pos rfl, if_pos (by omega)]
    · rw [if_neg ej, h.1 j hj]
      by_cases hl : j < i
      · rw [if_pos hl, if_pos (by omega)]
      · rw [if_neg hl, if_neg (by omega)]
  · by_cases e1 : j = 2 * i
    · subst e1; exact h1
    · by_cases e2 : j = 2 * i + 1
      · subst e2; exact h2
      · exact h.2 j (by omega)
theorem wide_yesR (hl : s.length = 32) (h : PartR s 16 k) : wideO s = some k := by
  unfold wideO
  rw [if_pos ⟨hl, allHex_of fun j hj => h.2 j (by omega)⟩]
  refine congrArg some (key_ext_byte fun j hj => ?_)
  rw [h.1 j hj, if_pos hj, wideK, kbyte_kof _ _ hj]
  have := hexAt_lt (h.2 (2 * j) (by omega))
  have := hexAt_lt (h.2 (2 * j + 1) (by omega))
  omega
theorem wide_no_dot (h : (splitL 46 s).length = 4) : wideO s = none := by
  unfold wideO
  rw [if_neg]
  rintro ⟨_, ha⟩
  have hm : (46 : UInt8) ∈ s := by
    rcases Classical.em ((46 : UInt8) ∈ s) with q | q
    · exact q
    · rw [split_one q] at h; simp at h
  have := List.all_eq_true.1 ha 46 hm
  exact absurd this (by decide)
/-! What is read. -/
def rkK (s : Txt) : Key := if 60 < s.length then 0#128 else match keyO s with | some (k, _) => k | none => 0#128
def rkN (s : Txt) : Nat := if 60 < s.length then 0 else match keyO s with | some (_, n) => n.toNat | none => 0
def rkE (s : Txt) : Int := if 60 < s.length then 3 else match keyO s with | some _ => 0 | none => 2
theorem rk_long (h : 60 < s.length) : rkK s = 0#128 ∧ rkN s = 0 ∧ rkE s = 3 := by simp [rkK, rkN, rkE, h]
theorem rk_short (h : ¬ 60 < s.length) (hs : shortO s = some k) : rkK s = k ∧ rkN s = 32 ∧ rkE s = 0 := by simp [rkK, rkN, rkE, h, keyO, hs]
theorem rk_wide (h : ¬ 60 < s.length) (hs : shortO s = none) (hw : wideO s = some k) : rkK s = k ∧ rkN s = 128 ∧ rkE s = 0 := by simp [rkK, rkN, rkE, h, keyO, hs, hw]
theorem rk_none (h : ¬ 60 < s.length) (hs : shortO s = none) (hw : wideO s = none) : rkK s = 0#128 ∧ rkN s = 0 ∧ rkE s = 2 := by simp [rkK, rkN, rkE, h, keyO, hs, hw]
end Go.Kb

/- Keys read: walked. -/
namespace Go.Proofs.YtldkgicmfbofiaaGreatDoor
open Go.Eng Go.Kb
instance : BuildT Tryz.prog 27 [] (.agg (kcells 0#128)) := ⟨fun w => by rw [kcells_zero]; kernel_rfl⟩
instance : BuildT Tryz.prog 29 [] (.agg (pcells ⟨0, 0, 0#128⟩)) := ⟨fun w => by unfold pcells; rw [kcells_zero]; kernel_rfl⟩
instance : BuildT Tryz.prog 32 [] (.agg (rcells zroute)) := ⟨fun w => by unfold rcells pcells zroute; rw [kcells_zero]; kernel_rfl⟩
set_option maxRecDepth 20000 in
theorem short_c (w : World) [tb : Tabs w] (s : List UInt8)  (hpre : s.length ≤ 60) : Calls Tryz.prog 54 #[.string ⟨s.toArray⟩] w fun e w' => e = .returned (.tuple #[.agg (kcells ((shortO s).getD 0#128)), .bool ((shortO s).isSome)]) ∧ Mem w [] w' := by
  refine calls_of (args := [_]) Tryz.func54 rfl Tryz.ntmps54 rfl ?_
  change Cw _ _ _ _ _ [(0, .string ⟨s.toArray⟩)] []
  refine cw_seq ?_
  refine cw_region ?_
  refine sq_allocA fun b2 => ?_
  refine sq_r (ry_assign rfl) ?_
  refine sq_nil ?_
  refine ex_then ?_
  refine cw_seq ?_
  refine cw_region ?_
  refine sq_r (ry_move rfl) ?_
  refine sq_callC rfl (by omega) fun x11 hp11 => ?_
  refine sq_r (ry_assign rfl) ?_
  refine sq_nil ?_
  refine ex_then ?_
  refine cw_seq ?_
  refine cw_seq ?_
  refine cw_region ?_
  refine sq_r (ry_move rfl) ?_
  refine sq_r (ry_lenH rfl) ?_
  refine sq_r (ry_int rfl rfl rfl) ?_
  refine sq_nil ?_
  refine ex_then ?_
  refine cw_cond rfl (fun h0 => ?_) (fun h0 => ?_)
  · try simp only [bz0, bz1, bz2, bz3, bz4, bz5, bz6, bz7, bz8, bz9] at h0
    refine cw_seq ?_
    refine cw_region ?_
    refine sq_r (ry_buildc rfl) ?_
    refine sq_storeW rfl rfl ?_
    refine sq_r (ry_assign rfl) ?_
    refine sq_nil ?_
    refine ex_then ?_
    refine cw_ret ?_
    refine ex_pass_ret ?_
    refine ex_ret (.inl rfl) (res_2 rfl (rv_agg rfl) (rv_tmp rfl)) (fun w1 hw => ?_)
    exact ⟨(by rw [short_no_len (by omega)]; rfl), Keep.mem hw⟩
  · try simp only [bz0, bz1, bz2, bz3, bz4, bz5, bz6, bz7, bz8, bz9] at h0
    refine cw_skip ?_
    refine ex_then ?_
    refine cw_seq ?_
    refine cw_region ?_
    refine sq_allocA fun b5 => ?_
    refine sq_nil ?_
    refine ex_then ?_
    refine cw_seq ?_
    refine cw_seq ?_
    refine cw_region ?_
    refine sq_r (ry_move rfl) ?_
    refine sq_r (ry_lenH rfl) ?_
    refine sq_r (ry_move rfl) ?_
    refine sq_nil ?_
    refine ex_then ?_
    refine cw_block ?_
    refine cw_loop (X := Nat × Key) (fun zz => [(18, .int .i64 (zz.1 : Nat)), (5, .pointer (some ⟨b5, 0, none⟩)), (2, .pointer (some ⟨b2, 0, none⟩)), (16, (⟨false, x11, 0, (splitL 46 s).length, (splitL 46 s).length, none⟩ : Sv).val), (17, .int .i64 ((splitL 46 s).length : Nat))]) (fun zz => [blk b5 (kcells zz.2) 27, own txc 1 ⟨false, x11, 0, (splitL 46 s).length, (splitL 46 s).length, none⟩ (splitL 46 s), blk b2 (kcells 0#128) 27]) (fun zz => zz.1 ≤ 4 ∧ Part4 (splitL 46 s) zz.1 zz.2) (fun zz => 4 - zz.1) (0, 0#128) ⟨Nat.zero_le _, part4_0 _⟩ (Sub.cons rfl (Sub.cons rfl (Sub.cons rfl (Sub.cons rfl (Sub.cons rfl (Sub.nil _)))))) (fun w hw => Keep.mem hw) ?_
    rintro ⟨i, kk⟩ ⟨hi, hp⟩
    dsimp only
    simp only at hi hp
    refine cw_seq ?_
    refine cw_region ?_
    refine sq_r (ry_int rfl rfl rfl) ?_
    refine sq_nil ?_
    refine ex_then ?_
    refine cw_seq ?_
    refine cw_cond rfl (fun h1 => ?_) (fun h1 => ?_)
    · try simp only [bz0, bz1, bz2, bz3, bz4, bz5, bz6, bz7, bz8, bz9] at h1
      refine cw_skip ?_
      refine ex_then ?_
      refine cw_seq ?_
      refine cw_block ?_
      refine cw_seq ?_
      refine cw_region ?_
      refine sq_r (ry_move rfl) ?_
      obtain ⟨x, hx⟩ := get_some (xs := (splitL 46 s)) (i := i) (by omega)
      refine sq_r (ry_idxH rfl rfl i rfl (by omega)) ?_
      refine sq_r (ry_elemcH (j := 0) rfl i hx rfl (by decide)) ?_
      refine sq_r (ry_assign rfl) ?_
      refine sq_r (ry_assign rfl) ?_
      refine sq_nil ?_
      refine ex_then ?_
      refine cw_seq ?_
      refine cw_region ?_
      refine sq_r (ry_move rfl) ?_
      refine sq_y (yl_callC (vs := [_, .int .i64 ((255 : Nat) : Int)]) rfl ⟨by decide, by have := split_mem s (List.mem_of_getElem? hx); omega⟩) ?_
      refine sq_r (ry_move rfl) ?_
      refine sq_r (ry_extract (v := .int .i64 (((numO x 255).getD 0) : Nat)) rfl rfl) ?_
      refine sq_r (ry_extract (v := .bool ((numO x 255).isSome)) rfl rfl) ?_
      refine sq_r (ry_assign rfl) ?_
      refine sq_r (ry_assign rfl) ?_
      refine sq_nil ?_
      refine ex_then ?_
      refine cw_seq ?_
      refine cw_seq ?_
      refine cw_region ?_
      refine sq_r (ry_move rfl) ?_
      refine sq_r (ry_not rfl) ?_
      refine sq_nil ?_
      refine ex_then ?_
      refine cw_cond rfl (fun h2 => ?_) (fun h2 => ?_)
      · try simp only [bz0, bz1, bz2, bz3, bz4, bz5, bz6, bz7, bz8, bz9] at h2
        refine cw_seq ?_
        refine cw_region ?_
        refine sq_r (ry_buildc rfl) ?_
        refine sq_storeW rfl rfl ?_
        refine sq_r (ry_assign rfl) ?_
        refine sq_nil ?_
        refine ex_then ?_
        refine cw_ret ?_
        refine ex_pass_ret ?_
        refine ex_block_ret ?_
        refine ex_pass_ret ?_
        refine ex_pass_ret ?_
        refine ex_block_ret ?_
        refine ex_pass_ret ?_
        refine ex_ret (.inl rfl) (res_2 rfl (rv_agg rfl) (rv_tmp rfl)) (fun w1 hw => ?_)
        exact ⟨(by rw [short_no_num (by omega) hx h2]; rfl), Keep.mem hw⟩
      · try simp only [bz0, bz1, bz2, bz3, bz4, bz5, bz6, bz7, bz8, bz9] at h2
        refine cw_skip ?_
        refine ex_then ?_
        refine cw_region ?_
        refine sq_r (ry_move rfl) ?_
        refine sq_r (ry_move rfl) ?_
        refine sq_r (ry_convi (n := (((numO x 255).getD 0 : Nat) : Int)) rfl (by omega) (by have := num255 x; simp only [nb]; omega)) ?_
        refine sq_r (ry_idxA1 rfl rfl (by omega) (by omega)) ?_
        refine sq_store (cs' := kcells (kput kk i ((numO x 255).getD 0))) rfl rfl (by rw [kcells_size]; omega) rfl (kputs kk i (by omega) (num255 x)) ?_
        refine sq_nil ?_
        refine ex_block ?_
        refine ex_then ?_
        refine cw_region ?_
        refine sq_r (ry_add rfl rfl (by omega)) ?_
        refine sq_r (ry_move rfl) ?_
        refine sq_nil ?_
        exact ex_again (x := (i, kk)) (i + 1, kput kk i ((numO x 255).getD 0)) ⟨by first | omega | (simp only []; omega), hp.step hx h2 (by first | omega | (simp only []; omega))⟩ (by simp only; omega) (Sub.cons rfl (Sub.cons rfl (Sub.cons rfl (Sub.cons rfl (Sub.cons rfl (Sub.nil _)))))) (fun w hw => Keep.mem hw)
    · try simp only [bz0, bz1, bz2, bz3, bz4, bz5, bz6, bz7, bz8, bz9] at h1
      refine cw_exit ?_
      refine ex_pass_exit ?_
      refine ex_pass_exit ?_
      refine ex_block_hit ?_
      refine ex_then ?_
      refine cw_seq ?_
      refine cw_region ?_
      refine sq_r (ry_whole rfl) ?_
      refine sq_storeW rfl rfl ?_
      refine sq_r (ry_assign rfl) ?_
      refine sq_nil ?_
      refine ex_then ?_
      refine cw_ret ?_
      refine ex_ret (.inl rfl) (res_2 rfl (rv_agg rfl) (rv_tmp rfl)) (fun w1 hw => ?_)
      exact ⟨(by rw [short_yes (by omega) (by rw [show i = 4 by omega] at hp; exact hp)]; rfl), Keep.mem hw⟩
instance short_i {w0 : World} {L : List Ent} {s : List UInt8} [tb : Tabs w0]  : FnQ Tryz.prog 54 w0 L [.string ⟨s.toArray⟩] (.tuple #[.agg (kcells ((shortO s).getD 0#128)), .bool ((shortO s).isSome)]) (s.length ≤ 60) := ⟨fun hp w hw => short_c w (tb := tb.at hw) s  hp⟩

set_option maxRecDepth 20000 in
theorem wide_c (w : World) (s : List UInt8)  (hpre : s.length ≤ 60) : Calls Tryz.prog 55 #[.string ⟨s.toArray⟩] w fun e w' => e = .returned (.tuple #[.agg (kcells ((wideO s).getD 0#128)), .bool ((wideO s).isSome)]) ∧ Mem w [] w' := by
  refine calls_of (args := [_]) Tryz.func55 rfl Tryz.ntmps55 rfl ?_
  change Cw _ _ _ _ _ [(0, .string ⟨s.toArray⟩)] []
  refine cw_seq ?_
  refine cw_region ?_
  refine sq_allocA fun b2 => ?_
  refine sq_r (ry_assign rfl) ?_
  refine sq_nil ?_
  refine ex_then ?_
  refine cw_seq ?_
  refine cw_region ?_
  refine sq_allocA fun b4 => ?_
  refine sq_nil ?_
  refine ex_then ?_
  refine cw_seq ?_
  refine cw_seq ?_
  refine cw_region ?_
  refine sq_r (ry_move rfl) ?_
  refine sq_r (ry_lenT (s := s) Tryz.underlying9 rfl) ?_
  refine sq_r (ry_int rfl rfl rfl) ?_
  refine sq_nil ?_
  refine ex_then ?_
  refine cw_cond rfl (fun h0 => ?_) (fun h0 => ?_)
  · try simp only [bz0, bz1, bz2, bz3, bz4, bz5, bz6, bz7, bz8, bz9] at h0
    refine cw_seq ?_
    refine cw_region ?_
    refine sq_r (ry_buildc rfl) ?_
    refine sq_storeW rfl rfl ?_
    refine sq_r (ry_assign rfl) ?_
    refine sq_nil ?_
    refine ex_then ?_
    refine cw_ret ?_
    refine ex_pass_ret ?_
    refine ex_ret (.inl rfl) (res_2 rfl (rv_agg rfl) (rv_tmp rfl)) (fun w1 hw => ?_)
    exact ⟨(by rw [wide_no_len (by omega)]; rfl), Keep.mem hw⟩
  · try simp only [bz0, bz1, bz2, bz3, bz4, bz5, bz6, bz7, bz8, bz9] at h0
    refine cw_skip ?_
    refine ex_then ?_
    refine cw_seq ?_
    refine cw_seq ?_
    refine cw_region ?_
    refine sq_r (ry_move rfl) ?_
    refine sq_r (ry_lenT (s := s) Tryz.underlying9 rfl) ?_
    refine sq_r (ry_move rfl) ?_
    refine sq_nil ?_
    refine ex_then ?_
    refine cw_block ?_
    refine cw_loop (X := Nat × Key) (fun zz => [(13, .int .i64 (zz.1 : Nat)), (4, .pointer (some ⟨b4, 0, none⟩)), (0, .string ⟨s.toArray⟩), (2, .pointer (some ⟨b2, 0, none⟩)), (12, .int .i64 (s.length : Nat))]) (fun zz => [blk b4 (kcells zz.2) 27, blk b2 (kcells 0#128) 27]) (fun zz => zz.1 ≤ 32 ∧ PartW s zz.1 zz.2) (fun zz => 32 - zz.1) (0, 0#128) ⟨Nat.zero_le _, partW_0 s⟩ (Sub.cons rfl (Sub.cons rfl (Sub.cons rfl (Sub.cons rfl (Sub.cons rfl (Sub.nil _)))))) (fun w hw => Keep.mem hw) ?_
    rintro ⟨i, kk⟩ ⟨hi, hp⟩
    dsimp only
    simp only at hi hp
    refine cw_seq ?_
    refine cw_region ?_
    refine sq_r (ry_int rfl rfl rfl) ?_
    refine sq_nil ?_
    refine ex_then ?_
    refine cw_seq ?_
    refine cw_cond rfl (fun h1 => ?_) (fun h1 => ?_)
    · try simp only [bz0, bz1, bz2, bz3, bz4, bz5, bz6, bz7, bz8, bz9] at h1
      refine cw_skip ?_
      refine ex_then ?_
      refine cw_seq ?_
      refine cw_block ?_
      refine cw_seq ?_
      refine cw_region ?_
      refine sq_r (ry_move rfl) ?_
      refine sq_r (ry_assign rfl) ?_
      refine sq_nil ?_
      refine ex_then ?_
      refine cw_seq ?_
      refine cw_region ?_
      refine sq_r (ry_move rfl) ?_
      refine sq_r (ry_move rfl) ?_
      refine sq_r (ry_idxT (s := s) i Tryz.underlying9 rfl rfl rfl (by omega)) ?_
      refine sq_y (yl_callC rfl trivial) ?_
      rw [index_hex]
      refine sq_r (ry_assign rfl) ?_
      refine sq_nil ?_
      refine ex_then ?_
      refine cw_seq ?_
      refine cw_seq ?_
      refine cw_region ?_
      refine sq_r (ry_move rfl) ?_
      refine sq_r (ry_int rfl rfl rfl) ?_
      refine sq_nil ?_
      refine ex_then ?_
      refine cw_cond rfl (fun h2 => ?_) (fun h2 => ?_)
      · try simp only [bz0, bz1, bz2, bz3, bz4, bz5, bz6, bz7, bz8, bz9] at h2
        refine cw_seq ?_
        refine cw_region ?_
        refine sq_r (ry_buildc rfl) ?_
        refine sq_storeW rfl rfl ?_
        refine sq_r (ry_assign rfl) ?_
        refine sq_nil ?_
        refine ex_then ?_
        refine cw_ret ?_
        refine ex_pass_ret ?_
        refine ex_block_ret ?_
        refine ex_pass_ret ?_
        refine ex_pass_ret ?_
        refine ex_block_ret ?_
        refine ex_pass_ret ?_
        refine ex_ret (.inl rfl) (res_2 rfl (rv_agg rfl) (rv_tmp rfl)) (fun w1 hw => ?_)
        exact ⟨(by rw [hexI_no h2 (by omega)]; rfl), Keep.mem hw⟩
      · try simp only [bz0, bz1, bz2, bz3, bz4, bz5, bz6, bz7, bz8, bz9] at h2
        refine cw_skip ?_
        refine ex_then ?_
        obtain ⟨he, hx, ho⟩ := hexI_at h2
        have hlt := hp.lt (show i < 32 by omega)
        have hi2 : (((i : Nat) : Int) / 2).toNat = i / 2 := by omega
        refine cw_region ?_
        refine sq_r (ry_move rfl) ?_
        refine sq_r (ry_quo rfl rfl (by omega) (by omega)) ?_
        refine sq_r (ry_move rfl) ?_
        refine sq_r (ry_quo rfl rfl (by omega) (by omega)) ?_
        refine sq_r (ry_idxA1 rfl rfl (by omega) (by omega)) ?_
        refine sq_r (Ry.as (v' := .int .u8 ((kbyte kk (i / 2) : Nat) : Int)) (ry_cell rfl (kcells_get kk (((i : Nat) : Int) / 2).toNat (by omega))) (by rw [hi2])) ?_
        refine sq_r (ry_shl16 (p := kbyte kk (i / 2)) rfl rfl rfl (by omega)) ?_
        refine sq_r (ry_move rfl) ?_
        refine sq_r (ry_convi rfl (by omega) (by simp only [nb]; omega)) ?_
        refine sq_r (ry_bor (p := kbyte kk (i / 2) * 16) (q := hexAt s i) rfl rfl rfl he (by simp only [nb]; omega) (by simp only [nb]; omega)) ?_
        refine sq_r (ry_idxA1 rfl rfl (by omega) (by omega)) ?_
        refine sq_store (cs' := kcells (kput kk (i / 2) (kbyte kk (i / 2) * 16 ||| hexAt s i))) rfl rfl (by rw [kcells_size]; omega) rfl (by rw [hi2]; exact kputs kk (i / 2) (by omega) (by rw [or16 hx]; omega)) ?_
        refine sq_nil ?_
        refine ex_block ?_
        refine ex_then ?_
        refine cw_region ?_
        refine sq_r (ry_add rfl rfl (by omega)) ?_
        refine sq_r (ry_move rfl) ?_
        refine sq_nil ?_
        exact ex_again (x := (i, kk)) (i + 1, kput kk (i / 2) (kbyte kk (i / 2) * 16 ||| hexAt s i)) ⟨by first | omega | (simp only []; omega), hp.step (by first | omega | (simp only []; omega)) ho⟩ (by simp only; omega) (Sub.cons rfl (Sub.cons rfl (Sub.cons rfl (Sub.cons rfl (Sub.cons rfl (Sub.nil _)))))) (fun w hw => Keep.mem hw)
    · try simp only [bz0, bz1, bz2, bz3, bz4, bz5, bz6, bz7, bz8, bz9] at h1
      refine cw_exit ?_
      refine ex_pass_exit ?_
      refine ex_pass_exit ?_
      refine ex_block_hit ?_
      refine ex_then ?_
      refine cw_seq ?_
      refine cw_region ?_
      refine sq_r (ry_whole rfl) ?_
      refine sq_storeW rfl rfl ?_
      refine sq_r (ry_assign rfl) ?_
      refine sq_nil ?_
      refine ex_then ?_
      refine cw_ret ?_
      refine ex_ret (.inl rfl) (res_2 rfl (rv_agg rfl) (rv_tmp rfl)) (fun w1 hw => ?_)
      exact ⟨(by rw [wide_yes (by omega) (by rw [show i = 32 by omega] at hp; exact hp)]; rfl), Keep.mem hw⟩
instance wide_i {w0 : World} {L : List Ent} {s : List UInt8}  : FnQ Tryz.prog 55 w0 L [.string ⟨s.toArray⟩] (.tuple #[.agg (kcells ((wideO s).getD 0#128)), .bool ((wideO s).isSome)]) (s.length ≤ 60) := ⟨fun hp w hw => wide_c w s  hp⟩

set_option maxRecDepth 20000 in
theorem treadk_c (w : World) [tb : Tabs w] (s : List UInt8)  (hpre : s.length ≤ 1000000000) : Calls Tryz.prog 36 #[.string ⟨s.toArray⟩] w fun e w' => e = .returned (.tuple #[.agg (kcells (rkK s)), .int .i64 ((rkN s) : Nat), .int .i64 (rkE s)]) ∧ Mem w [] w' := by
  refine calls_of (args := [_]) Tryz.func36 rfl Tryz.ntmps36 rfl ?_
  change Cw _ _ _ _ _ [(0, .string ⟨s.toArray⟩)] []
  refine cw_seq ?_
  refine cw_region ?_
  refine sq_allocA fun b2 => ?_
  refine sq_r (ry_assign rfl) ?_
  refine sq_r (ry_assign rfl) ?_
  refine sq_nil ?_
  refine ex_then ?_
  refine cw_seq ?_
  refine cw_seq ?_
  refine cw_region ?_
  refine sq_r (ry_move rfl) ?_
  refine sq_r (ry_lenT (s := s) Tryz.underlying9 rfl) ?_
  refine sq_r (ry_int rfl rfl rfl) ?_
  refine sq_nil ?_
  refine ex_then ?_
  refine cw_cond rfl (fun h0 => ?_) (fun h0 => ?_)
  · try simp only [bz0, bz1, bz2, bz3, bz4, bz5, bz6, bz7, bz8, bz9] at h0
    refine cw_seq ?_
    refine cw_region ?_
    refine sq_r (ry_buildc rfl) ?_
    refine sq_storeW rfl rfl ?_
    refine sq_r (ry_assign rfl) ?_
    refine sq_r (ry_assign rfl) ?_
    refine sq_nil ?_
    refine ex_then ?_
    refine cw_ret ?_
    refine ex_pass_ret ?_
    refine ex_ret (.inl rfl) (res_3 rfl (rv_agg rfl) (rv_tmp rfl) (rv_tmp rfl)) (fun w1 hw => ?_)
    exact ⟨(by obtain ⟨e1, e2, e3⟩ := rk_long (s := s) (by omega); rw [e1, e2, e3]; rfl), Keep.mem hw⟩
  · try simp only [bz0, bz1, bz2, bz3, bz4, bz5, bz6, bz7, bz8, bz9] at h0
    refine cw_skip ?_
    refine ex_then ?_
    refine cw_seq ?_
    refine cw_seq ?_
    refine cw_region ?_
    refine sq_r (ry_move rfl) ?_
    refine sq_y (yl_callC rfl (by omega)) ?_
    refine sq_r (ry_move rfl) ?_
    refine sq_r (ry_extract (v := .agg (kcells ((shortO s).getD 0#128))) rfl rfl) ?_
    refine sq_r (ry_extract (v := .bool ((shortO s).isSome)) rfl rfl) ?_
    refine sq_allocA fun b5 => ?_
    refine sq_storeW rfl rfl ?_
    refine sq_r (ry_assign rfl) ?_
    refine sq_nil ?_
    refine ex_then ?_
    refine cw_seq ?_
    refine cw_region ?_
    refine sq_r (ry_move rfl) ?_
    refine sq_nil ?_
    refine ex_then ?_
    refine cw_cond rfl (fun h1 => ?_) (fun h1 => ?_)
    · try simp only [bz0, bz1, bz2, bz3, bz4, bz5, bz6, bz7, bz8, bz9] at h1
      obtain ⟨q, hq⟩ := Option.isSome_iff_exists.1 h1
      refine cw_seq ?_
      refine cw_region ?_
      refine sq_r (ry_whole rfl) ?_
      refine sq_storeW rfl rfl ?_
      refine sq_r (ry_assign rfl) ?_
      refine sq_r (ry_assign rfl) ?_
      refine sq_nil ?_
      refine ex_then ?_
      refine cw_ret ?_
      refine ex_pass_ret ?_
      refine ex_ret (.inl rfl) (res_3 rfl (rv_agg rfl) (rv_tmp rfl) (rv_tmp rfl)) (fun w1 hw => ?_)
      exact ⟨(by obtain ⟨e1, e2, e3⟩ := rk_short (by omega) hq; rw [e1, e2, e3, hq]; rfl), Keep.mem hw⟩
    · try simp only [bz0, bz1, bz2, bz3, bz4, bz5, bz6, bz7, bz8, bz9] at h1
      have hs : shortO s = none := by simpa using h1
      refine cw_skip ?_
      refine ex_then ?_
      refine cw_seq ?_
      refine cw_seq ?_
      refine cw_region ?_
      refine sq_r (ry_move rfl) ?_
      refine sq_y (yl_callC rfl (by omega)) ?_
      refine sq_r (ry_move rfl) ?_
      refine sq_r (ry_extract (v := .agg (kcells ((wideO s).getD 0#128))) rfl rfl) ?_
      refine sq_r (ry_extract (v := .bool ((wideO s).isSome)) rfl rfl) ?_
      refine sq_allocA fun b7 => ?_
      refine sq_storeW rfl rfl ?_
      refine sq_r (ry_assign rfl) ?_
      refine sq_nil ?_
      refine ex_then ?_
      refine cw_seq ?_
      refine cw_region ?_
      refine sq_r (ry_move rfl) ?_
      refine sq_nil ?_
      refine ex_then ?_
      refine cw_cond rfl (fun h2 => ?_) (fun h2 => ?_)
      · try simp only [bz0, bz1, bz2, bz3, bz4, bz5, bz6, bz7, bz8, bz9] at h2
        obtain ⟨q, hq⟩ := Option.isSome_iff_exists.1 h2
        refine cw_seq ?_
        refine cw_region ?_
        refine sq_r (ry_whole rfl) ?_
        refine sq_storeW rfl rfl ?_
        refine sq_r (ry_assign rfl) ?_
        refine sq_r (ry_assign rfl) ?_
        refine sq_nil ?_
        refine ex_then ?_
        refine cw_ret ?_
        refine ex_pass_ret ?_
        refine ex_ret (.inl rfl) (res_3 rfl (rv_agg rfl) (rv_tmp rfl) (rv_tmp rfl)) (fun w1 hw => ?_)
        exact ⟨(by obtain ⟨e1, e2, e3⟩ := rk_wide (by omega) hs hq; rw [e1, e2, e3, hq]; rfl), Keep.mem hw⟩
      · try simp only [bz0, bz1, bz2, bz3, bz4, bz5, bz6, bz7, bz8, bz9] at h2
        have hw0 : wideO s = none := by simpa using h2
        refine cw_skip ?_
        refine ex_then ?_
        refine cw_seq ?_
        refine cw_region ?_
        refine sq_r (ry_buildc rfl) ?_
        refine sq_storeW rfl rfl ?_
        refine sq_r (ry_assign rfl) ?_
        refine sq_r (ry_assign rfl) ?_
        refine sq_nil ?_
        refine ex_then ?_
        refine cw_ret ?_
        refine ex_ret (.inl rfl) (res_3 rfl (rv_agg rfl) (rv_tmp rfl) (rv_tmp rfl)) (fun w1 hw => ?_)
        exact ⟨(by obtain ⟨e1, e2, e3⟩ := rk_none (by omega) hs hw0; rw [e1, e2, e3]; rfl), Keep.mem hw⟩
instance treadk_i {w0 : World} {L : List Ent} {s : List UInt8} [tb : Tabs w0]  : FnQ Tryz.prog 36 w0 L [.string ⟨s.toArray⟩] (.tuple #[.agg (kcells (rkK s)), .int .i64 ((rkN s) : Nat), .int .i64 (rkE s)]) (s.length ≤ 1000000000) := ⟨fun hp w hw => treadk_c w (tb := tb.at hw) s  hp⟩

end Go.Proofs.YtldkgicmfbofiaaGreatDoor

/- Prefixes and routes read out of texts, as both do it. No program in sight. -/
namespace Go.Kb
open Go.Eng
variable {s a b : Txt} {c : UInt8} {n top : Nat}
theorem cutSplit (c : UInt8) (s : Txt) : (∃ a b, s = a ++ c :: b ∧ cutL c s = (a, b, true) ∧ splitL c s = a :: splitL c b) ∨ (cutL c s = (s, [], false) ∧ splitL c s = [s]) := by
  rcases split_cases (c := c) s with ⟨h1, h2⟩ | ⟨a, b, h1, h2, h3⟩
  · exact .inr ⟨cut_none h1, h2⟩
  · exact .inl ⟨a, b, h1, by rw [h1, cut_some h2], h3⟩
theorem num_no (hc : c ∈ b) (hd : dig c = false) : numO b top = none := by
  cases e : numO b top with
  | none => rfl
  | some n =>
    obtain ⟨rfl, _⟩ := num_iff.1 e
    exact absurd hc (dec_no hd)
theorem cut_len (c : UInt8) (s : Txt) : (cutL c s).1.length ≤ s.length ∧ (cutL c s).2.1.length ≤ s.length := by
  rcases cutSplit c s with ⟨a, b, h1, h2, _⟩ | ⟨h2, _⟩
  · rw [h2, h1]; simp; omega
  · rw [h2]; simp
theorem pfx_cut_no (h : (cutL 47 s).2.2 = false) : pfxO s = none := by
  rcases cutSplit 47 s with ⟨a, b, _, h2, _⟩ | ⟨_, h3⟩
  · rw [h2] at h; cases h
  · unfold pfxO; rw [h3]
def pfxM (a b : Txt) : Option Pfx := match keyO a, numO b 128 with
  | some (k, bits), some n => if pmay ⟨bits, (n : Int), k⟩ = true then some ⟨bits, (n : Int), k⟩ else none
  | _, _ => none
theorem pfx_two (h : splitL 47 s = [a, b]) : pfxO s = pfxM a b := by
  unfold pfxO; rw [h]; rfl
theorem pfx_cut (h : (cutL 47 s).2.2 = true) : pfxO s = pfxM (cutL 47 s).1 (cutL 47 s).2.1 := by
  rcases cutSplit 47 s with ⟨a, b, _, h2, h3⟩ | ⟨h2, _⟩
  · rw [h2]
    rcases cutSplit 47 b with ⟨x, y, e1, _, e3⟩ | ⟨_, e3⟩
    · have hn : numO b 128 = none := num_no (c := 47) (by rw [e1]; simp) (by decide)
      unfold pfxO pfxM
      rw [h3, e3, hn]
      have : splitL 47 y ≠ [] := split_ne y
      cases q : splitL 47 y with
      | nil => exact absurd q this
      | cons z zs => simp only; split <;> simp_all
    · exact pfx_two (by rw [h3, e3])
  · rw [h2] at h; cases h
def lineM (a b : Txt) : Option Rt := match pfxO a, numO b 65535 with
  | some p, some n => some ⟨p, UInt16.ofNat n⟩
  | _, _ => none
theorem line_cut_no (h : (cutL 32 s).2.2 = false) : lineO s = none := by
  rcases cutSplit 32 s with ⟨a, b, _, h2, _⟩ | ⟨_, h3⟩
  · rw [h2] at h; cases h
  · unfold lineO; rw [h3]
theorem line_two (h : splitL 32 s = [a, b]) : lineO s = lineM a b := by
  unfold lineO; rw [h]; rfl
theorem line_cut (h : (cutL 32 s).2.2 = true) : lineO s = lineM (cutL 32 s).1 (cutL 32 s).2.1 := by
  rcases cutSplit 32 s with ⟨a, b, _, h2, h3⟩ | ⟨h2, _⟩
  · rw [h2]
    rcases cutSplit 32 b with ⟨x, y, e1, _, e3⟩ | ⟨_, e3⟩
    · have hn : numO b 65535 = none := num_no (c := 32) (by rw [e1]; simp) (by decide)
      unfold lineO lineM
      rw [h3, e3, hn]
      have : splitL 32 y ≠ [] := split_ne y
      cases q : splitL 32 y with
      | nil => exact absurd q this
      | cons z zs => simp only; split <;> simp_all
    · exact line_two (by rw [h3, e3])
  · rw [h2] at h; cases h
theorem rk_ok (h : a.length ≤ 60) (he : rkE a = 0) : keyO a = some (rkK a, ((rkN a : Nat) : Int)) ∧ (rkN a = 32 ∨ rkN a = 128) := by
  have hl : ¬ 60 < a.length := by omega
  unfold rkE at he
  rw [if_neg hl] at he
  cases e : keyO a with
  | none => rw [e] at he; cases he
  | some z =>
    obtain ⟨k, m⟩ := z
    have hm := ((pmay_bits _).1 (key_iff.1 e).1).1
    simp only at hm
    unfold rkK rkN
    rw [if_neg hl, if_neg hl, e]
    simp only
    rcases hm with rfl | rfl
    · exact ⟨rfl, .inl rfl⟩
    · exact ⟨rfl, .inr rfl⟩
theorem rk_no (h : a.length ≤ 60) (he : ¬ rkE a = 0) : keyO a = none := by
  unfold rkE at he
  rw [if_neg (show ¬ 60 < a.length by omega)] at he
  cases e : keyO a with
  | none => rfl
  | some z => rw [e] at he; exact absurd rfl he
def rpP (s : Txt) : Pfx := if 60 < s.length then ⟨0, 0, 0#128⟩ else (pfxO s).getD ⟨0, 0, 0#128⟩
def rpE (s : Txt) : Int := if 60 < s.length then 3 else if (pfxO s).isSome = true then 0 else 2
theorem rp_long (h : 60 < s.length) : rpP s = ⟨0, 0, 0#128⟩ ∧ rpE s = 3 := by simp [rpP, rpE, h]
theorem rp_none (h : ¬ 60 < s.length) (hp : pfxO s = none) : rpP s = ⟨0, 0, 0#128⟩ ∧ rpE s = 2 := by simp [rpP, rpE, h, hp]
theorem rp_some {p : Pfx} (h : ¬ 60 < s.length) (hp : pfxO s = some p) : rpP s = p ∧ rpE s = 0 := by simp [rpP, rpE, h, hp]
theorem rp_ok (h : a.length ≤ 60) (he : rpE a = 0) : pfxO a = some (rpP a) := by
  have hl : ¬ 60 < a.length := by omega
  unfold rpE at he
  rw [if_neg hl] at he
  cases e : pfxO a with
  | none => rw [e] at he; simp at he
  | some z => rw [rpP, if_neg hl, e]; rfl
theorem rp_no (h : a.length ≤ 60) (he : ¬ rpE a = 0) : pfxO a = none := by
  unfold rpE at he
  rw [if_neg (show ¬ 60 < a.length by omega)] at he
  cases e : pfxO a with
  | none => rfl
  | some z => rw [e] at he; exact absurd rfl he
def rlR (s : Txt) : Rt := if 60 < s.length then zroute else (lineO s).getD zroute
def rlE (s : Txt) : Int := if 60 < s.length then 3 else if (lineO s).isSome = true then 0 else 2
theorem rl_long (h : 60 < s.length) : rlR s = zroute ∧ rlE s = 3 := by simp [rlR, rlE, h]
theorem rl_none (h : ¬ 60 < s.length) (hp : lineO s = none) : rlR s = zroute ∧ rlE s = 2 := by simp [rlR, rlE, h, hp]
theorem rl_some {r : Rt} (h : ¬ 60 < s.length) (hp : lineO s = some r) : rlR s = r ∧ rlE s = 0 := by simp [rlR, rlE, h, hp]
/-! A prefix, its parts known. -/
theorem pm_key (h : a.length ≤ 60) (he : ¬ rkE a = 0) : pfxM a b = none := by unfold pfxM; rw [rk_no h he]
theorem num_sub (h : numO b n = none) (hn : n ≤ top) {m : Nat} (e : numO b top = some m) : n < m := by
  obtain ⟨rfl, h2⟩ := num_iff.1 e
  rcases Nat.lt_or_ge n m with q | q
  · exact q
  · rw [num_dec q] at h; cases h
theorem pm_num (h : a.length ≤ 60) (he : rkE a = 0) (hn : (numO b (rkN a)).isSome = false) : pfxM a b = none := by
  obtain ⟨hk, hm⟩ := rk_ok h he
  have hn' : numO b (rkN a) = none := by simpa using hn
  unfold pfxM
  rw [hk]
  cases e : numO b 128 with
  | none => rfl
  | some m =>
    have := num_sub hn' (by omega) e
    simp only
    rw [if_neg]
    intro hp
    have := ((pmay_bits _).1 hp).2.2.1
    simp only at this; omega
theorem pm_val (h : a.length ≤ 60) (he : rkE a = 0) (hn : (numO b (rkN a)).isSome = true) : pfxM a b = if pmay ⟨((rkN a : Nat) : Int), (((numO b (rkN a)).getD 0 : Nat) : Int), rkK a⟩ = true then some ⟨((rkN a : Nat) : Int), (((numO b (rkN a)).getD 0 : Nat) : Int), rkK a⟩ else none := by
  obtain ⟨hk, hm⟩ := rk_ok h he
  obtain ⟨m, e⟩ := Option.isSome_iff_exists.1 hn
  obtain ⟨rfl, h2⟩ := num_iff.1 e
  unfold pfxM
  rw [hk, e, num_dec (show m ≤ 128 by omega)]; rfl
theorem pm_ref (h : a.length ≤ 60) : pfxM a b = if rkE a = 0 ∧ pmay ⟨((rkN a : Nat) : Int), numI b 128, rkK a⟩ = true then some ⟨((rkN a : Nat) : Int), numI b 128, rkK a⟩ else none := by
  by_cases he : rkE a = 0
  · obtain ⟨hk, hm⟩ := rk_ok h he
    unfold pfxM numI
    rw [hk]
    cases e : numO b 128 with
    | none =>
      simp only
      rw [if_neg]
      rintro ⟨_, hp⟩
      have := ((pmay_bits _).1 hp).2.1
      simp only at this; omega
    | some m => simp only [he, true_and]
  · rw [pm_key h he, if_neg (fun q => he q.1)]
theorem lm_pfx (h : a.length ≤ 60) (he : ¬ rpE a = 0) : lineM a b = none := by unfold lineM; rw [rp_no h he]
theorem lm_num (hn : numO b 65535 = none) : lineM a b = none := by
  unfold lineM; rw [hn]; cases pfxO a <;> rfl
theorem lm_val (h : a.length ≤ 60) (he : rpE a = 0) (hn : numO b 65535 = some n) : lineM a b = some ⟨rpP a, UInt16.ofNat n⟩ := by
  unfold lineM; rw [hn, rp_ok h he]
theorem numI_at (h : ¬ numI s top < 0) : numI s top = (((numO s top).getD 0 : Nat) : Int) ∧ (numO s top).isSome = true := by
  unfold numI at *
  cases e : numO s top with
  | none => rw [e] at h; simp at h
  | some n => exact ⟨rfl, rfl⟩
theorem numI_none (h : numI s top < 0) : numO s top = none := by
  unfold numI at h
  cases e : numO s top with
  | none => rfl
  | some n => rw [e] at h; simp only at h; omega
theorem num_top (s : Txt) (top : Nat) : (numO s top).getD 0 ≤ top := by
  cases e : numO s top with
  | none => simp
  | some n => exact (num_iff.1 e).2
theorem u16_nat {n : Nat} (h : n ≤ 65535) : (Value.int .u16 ((n : Nat) : Int)) = Value.int .u16 (((UInt16.ofNat n).toNat : Nat) : Int) := by
  rw [UInt16.toNat_ofNat', Nat.mod_eq_of_lt (show n < 2 ^ 16 by omega)]
theorem len2 {ps : List Txt} (h : ps.length = 2) : ∃ a b, ps = [a, b] := by
  match ps, h with
  | [a, b], _ => exact ⟨a, b, rfl⟩
theorem pfx_len2 (h : (splitL 47 s).length ≠ 2) : pfxO s = none := by
  unfold pfxO
  split
  · rename_i a b e; rw [e] at h; exact absurd rfl h
  · rfl
theorem line_len2 (h : (splitL 32 s).length ≠ 2) : lineO s = none := by
  unfold lineO
  split
  · rename_i a b e; rw [e] at h; exact absurd rfl h
  · rfl
theorem wide_rk_dot (h : ¬ 60 < s.length) (h4 : (splitL 46 s).length = 4) (hs : shortO s = none) : rkK s = 0#128 ∧ rkN s = 0 ∧ rkE s = 2 := rk_none h hs (wide_no_dot h4)
end Go.Kb

/- Prefixes and routes read: walked. -/
namespace Go.Proofs.YtldkgicmfbofiaaGreatDoor
open Go.Eng Go.Kb
set_option maxRecDepth 20000 in
theorem treadp_c (w : World) [tb : Tabs w] (s : List UInt8)  (hpre : s.length ≤ 1000000000) : Calls Tryz.prog 19 #[.string ⟨s.toArray⟩] w fun e w' => e = .returned (.tuple #[.agg (pcells (rpP s)), .int .i64 (rpE s)]) ∧ Mem w [] w' := by
  obtain ⟨hca, hcb⟩ := cut_len 47 s
  refine calls_of (args := [_]) Tryz.func19 rfl Tryz.ntmps19 rfl ?_
  change Cw _ _ _ _ _ [(0, .string ⟨s.toArray⟩)] []
  refine cw_seq ?_
  refine cw_region ?_
  refine sq_allocA fun b2 => ?_
  refine sq_r (ry_assign rfl) ?_
  refine sq_nil ?_
  refine ex_then ?_
  refine cw_seq ?_
  refine cw_seq ?_
  refine cw_region ?_
  refine sq_r (ry_move rfl) ?_
  refine sq_r (ry_lenT (s := s) Tryz.underlying9 rfl) ?_
  refine sq_r (ry_int rfl rfl rfl) ?_
  refine sq_nil ?_
  refine ex_then ?_
  refine cw_cond rfl (fun h0 => ?_) (fun h0 => ?_)
  · try simp only [bz0, bz1, bz2, bz3, bz4, bz5, bz6, bz7, bz8, bz9] at h0
    refine cw_seq ?_
    refine cw_region ?_
    refine sq_r (ry_buildc rfl) ?_
    refine sq_storeW rfl rfl ?_
    refine sq_r (ry_assign rfl) ?_
    refine sq_nil ?_
    refine ex_then ?_
    refine cw_ret ?_
    refine ex_pass_ret ?_
    refine ex_ret (.inl rfl) (res_2 rfl (rv_agg rfl) (rv_tmp rfl)) (fun w1 hw => ?_)
    exact ⟨(by obtain ⟨e1, e2⟩ := rp_long (s := s) (by omega); rw [e1, e2]), Keep.mem hw⟩
  · try simp only [bz0, bz1, bz2, bz3, bz4, bz5, bz6, bz7, bz8, bz9] at h0
    refine cw_skip ?_
    refine ex_then ?_
    refine cw_seq ?_
    refine cw_region ?_
    refine sq_r (ry_move rfl) ?_
    refine sq_y (yl_callC rfl (by omega)) ?_
    refine sq_r (ry_move rfl) ?_
    refine sq_r (ry_extract (v := .string ⟨((cutL 47 s).1).toArray⟩) rfl rfl) ?_
    refine sq_r (ry_extract (v := .string ⟨((cutL 47 s).2.1).toArray⟩) rfl rfl) ?_
    refine sq_r (ry_extract (v := .bool ((cutL 47 s).2.2)) rfl rfl) ?_
    refine sq_r (ry_assign rfl) ?_
    refine sq_r (ry_assign rfl) ?_
    refine sq_r (ry_assign rfl) ?_
    refine sq_nil ?_
    refine ex_then ?_
    refine cw_seq ?_
    refine cw_seq ?_
    refine cw_region ?_
    refine sq_r (ry_move rfl) ?_
    refine sq_r (ry_not rfl) ?_
    refine sq_nil ?_
    refine ex_then ?_
    refine cw_cond rfl (fun h1 => ?_) (fun h1 => ?_)
    · try simp only [bz0, bz1, bz2, bz3, bz4, bz5, bz6, bz7, bz8, bz9] at h1
      refine cw_seq ?_
      refine cw_region ?_
      refine sq_r (ry_buildc rfl) ?_
      refine sq_storeW rfl rfl ?_
      refine sq_r (ry_assign rfl) ?_
      refine sq_nil ?_
      refine ex_then ?_
      refine cw_ret ?_
      refine ex_pass_ret ?_
      refine ex_ret (.inl rfl) (res_2 rfl (rv_agg rfl) (rv_tmp rfl)) (fun w1 hw => ?_)
      exact ⟨(by obtain ⟨e1, e2⟩ := rp_none (s := s) (by omega) (pfx_cut_no h1); rw [e1, e2]), Keep.mem hw⟩
    · try simp only [bz0, bz1, bz2, bz3, bz4, bz5, bz6, bz7, bz8, bz9] at h1
      refine cw_skip ?_
      refine ex_then ?_
      refine cw_seq ?_
      refine cw_region ?_
      refine sq_r (ry_move rfl) ?_
      refine sq_y (yl_callC rfl (by omega)) ?_
      refine sq_r (ry_move rfl) ?_
      refine sq_r (ry_extract (v := .agg (kcells (rkK ((cutL 47 s).1)))) rfl rfl) ?_
      refine sq_r (ry_extract (v := .int .i64 ((rkN ((cutL 47 s).1)) : Nat)) rfl rfl) ?_
      refine sq_r (ry_extract (v := .int .i64 (rkE ((cutL 47 s).1))) rfl rfl) ?_
      refine sq_allocA fun b7 => ?_
      refine sq_storeW rfl rfl ?_
      refine sq_r (ry_assign rfl) ?_
      refine sq_r (ry_assign rfl) ?_
      refine sq_nil ?_
      refine ex_then ?_
      refine cw_seq ?_
      refine cw_seq ?_
      refine cw_region ?_
      refine sq_r (ry_move rfl) ?_
      refine sq_r (ry_int rfl rfl rfl) ?_
      refine sq_nil ?_
      refine ex_then ?_
      refine cw_cond rfl (fun h2 => ?_) (fun h2 => ?_)
      · try simp only [bz0, bz1, bz2, bz3, bz4, bz5, bz6, bz7, bz8, bz9] at h2
        refine cw_seq ?_
        refine cw_region ?_
        refine sq_r (ry_buildc rfl) ?_
        refine sq_storeW rfl rfl ?_
        refine sq_r (ry_assign rfl) ?_
        refine sq_nil ?_
        refine ex_then ?_
        refine cw_ret ?_
        refine ex_pass_ret ?_
        refine ex_ret (.inl rfl) (res_2 rfl (rv_agg rfl) (rv_tmp rfl)) (fun w1 hw => ?_)
        exact ⟨(by obtain ⟨e1, e2⟩ := rp_none (s := s) (by omega) (by rw [pfx_cut h1]; exact pm_key (by omega) (by omega)); rw [e1, e2]), Keep.mem hw⟩
      · try simp only [bz0, bz1, bz2, bz3, bz4, bz5, bz6, bz7, bz8, bz9] at h2
        have hr : rkE (cutL 47 s).1 = 0 := by omega
        obtain ⟨_, hm⟩ := rk_ok (by omega) hr
        refine cw_skip ?_
        refine ex_then ?_
        refine cw_seq ?_
        refine cw_region ?_
        refine sq_r (ry_move rfl) ?_
        refine sq_r (ry_move rfl) ?_
        refine sq_y (yl_callC rfl ⟨by omega, by omega⟩) ?_
        refine sq_r (ry_move rfl) ?_
        refine sq_r (ry_extract (v := .int .i64 (((numO ((cutL 47 s).2.1) (rkN ((cutL 47 s).1))).getD 0) : Nat)) rfl rfl) ?_
        refine sq_r (ry_extract (v := .bool ((numO ((cutL 47 s).2.1) (rkN ((cutL 47 s).1))).isSome)) rfl rfl) ?_
        refine sq_r (ry_assign rfl) ?_
        refine sq_r (ry_assign rfl) ?_
        refine sq_nil ?_
        refine ex_then ?_
        refine cw_seq ?_
        refine cw_seq ?_
        refine cw_region ?_
        refine sq_r (ry_move rfl) ?_
        refine sq_r (ry_not rfl) ?_
        refine sq_nil ?_
        refine ex_then ?_
        refine cw_cond rfl (fun h3 => ?_) (fun h3 => ?_)
        · try simp only [bz0, bz1, bz2, bz3, bz4, bz5, bz6, bz7, bz8, bz9] at h3
          refine cw_seq ?_
          refine cw_region ?_
          refine sq_r (ry_buildc rfl) ?_
          refine sq_storeW rfl rfl ?_
          refine sq_r (ry_assign rfl) ?_
          refine sq_nil ?_
          refine ex_then ?_
          refine cw_ret ?_
          refine ex_pass_ret ?_
          refine ex_ret (.inl rfl) (res_2 rfl (rv_agg rfl) (rv_tmp rfl)) (fun w1 hw => ?_)
          exact ⟨(by obtain ⟨e1, e2⟩ := rp_none (s := s) (by omega) (by rw [pfx_cut h1]; exact pm_num (by omega) hr h3); rw [e1, e2]), Keep.mem hw⟩
        · try simp only [bz0, bz1, bz2, bz3, bz4, bz5, bz6, bz7, bz8, bz9] at h3
          refine cw_skip ?_
          refine ex_then ?_
          refine cw_seq ?_
          refine cw_region ?_
          refine sq_r (ry_move rfl) ?_
          refine sq_r (ry_move rfl) ?_
          refine sq_r (ry_whole rfl) ?_
          refine sq_r (ry_buildc rfl) ?_
          refine sq_allocA fun b11 => ?_
          refine sq_storeW rfl rfl ?_
          refine sq_nil ?_
          refine ex_then ?_
          refine cw_seq ?_
          refine cw_seq ?_
          refine cw_region ?_
          refine sq_r (ry_whole rfl) ?_
          refine sq_y (yl_callC rfl trivial) ?_
          refine sq_r (ry_not rfl) ?_
          refine sq_nil ?_
          refine ex_then ?_
          refine cw_cond rfl (fun h4 => ?_) (fun h4 => ?_)
          · try simp only [bz0, bz1, bz2, bz3, bz4, bz5, bz6, bz7, bz8, bz9] at h4
            refine cw_seq ?_
            refine cw_region ?_
            refine sq_r (ry_buildc rfl) ?_
            refine sq_storeW rfl rfl ?_
            refine sq_r (ry_assign rfl) ?_
            refine sq_nil ?_
            refine ex_then ?_
            refine cw_ret ?_
            refine ex_pass_ret ?_
            refine ex_ret (.inl rfl) (res_2 rfl (rv_agg rfl) (rv_tmp rfl)) (fun w1 hw => ?_)
            exact ⟨(by obtain ⟨e1, e2⟩ := rp_none (s := s) (by omega) (by rw [pfx_cut h1, pm_val (by omega) hr h3, h4]; rfl); rw [e1, e2]), Keep.mem hw⟩
          · try simp only [bz0, bz1, bz2, bz3, bz4, bz5, bz6, bz7, bz8, bz9] at h4
            refine cw_skip ?_
            refine ex_then ?_
            refine cw_seq ?_
            refine cw_region ?_
            refine sq_r (ry_whole rfl) ?_
            refine sq_storeW rfl rfl ?_
            refine sq_r (ry_assign rfl) ?_
            refine sq_nil ?_
            refine ex_then ?_
            refine cw_ret ?_
            refine ex_ret (.inl rfl) (res_2 rfl (rv_agg rfl) (rv_tmp rfl)) (fun w1 hw => ?_)
            exact ⟨(by obtain ⟨e1, e2⟩ := rp_some (s := s) (p := (⟨((rkN (cutL 47 s).1 : Nat) : Int), (((numO (cutL 47 s).2.1 (rkN (cutL 47 s).1)).getD 0 : Nat) : Int), rkK (cutL 47 s).1⟩ : Pfx)) (by omega) (by rw [pfx_cut h1, pm_val (by omega) hr h3, if_pos h4]); rw [e1, e2]), Keep.mem hw⟩
instance treadp_i {w0 : World} {L : List Ent} {s : List UInt8} [tb : Tabs w0]  : FnQ Tryz.prog 19 w0 L [.string ⟨s.toArray⟩] (.tuple #[.agg (pcells (rpP s)), .int .i64 (rpE s)]) (s.length ≤ 1000000000) := ⟨fun hp w hw => treadp_c w (tb := tb.at hw) s  hp⟩

set_option maxRecDepth 20000 in
theorem treadl_c (w : World) [tb : Tabs w] (s : List UInt8)  (hpre : s.length ≤ 1000000000) : Calls Tryz.prog 7 #[.string ⟨s.toArray⟩] w fun e w' => e = .returned (.tuple #[.agg (rcells (rlR s)), .int .i64 (rlE s)]) ∧ Mem w [] w' := by
  obtain ⟨hca, hcb⟩ := cut_len 32 s
  refine calls_of (args := [_]) Tryz.func7 rfl Tryz.ntmps7 rfl ?_
  change Cw _ _ _ _ _ [(0, .string ⟨s.toArray⟩)] []
  refine cw_seq ?_
  refine cw_region ?_
  refine sq_allocA fun b2 => ?_
  refine sq_r (ry_assign rfl) ?_
  refine sq_nil ?_
  refine ex_then ?_
  refine cw_seq ?_
  refine cw_seq ?_
  refine cw_region ?_
  refine sq_r (ry_move rfl) ?_
  refine sq_r (ry_lenT (s := s) Tryz.underlying9 rfl) ?_
  refine sq_r (ry_int rfl rfl rfl) ?_
  refine sq_nil ?_
  refine ex_then ?_
  refine cw_cond rfl (fun h0 => ?_) (fun h0 => ?_)
  · try simp only [bz0, bz1, bz2, bz3, bz4, bz5, bz6, bz7, bz8, bz9] at h0
    refine cw_seq ?_
    refine cw_region ?_
    refine sq_r (ry_buildc rfl) ?_
    refine sq_storeW rfl rfl ?_
    refine sq_r (ry_assign rfl) ?_
    refine sq_nil ?_
    refine ex_then ?_
    refine cw_ret ?_
    refine ex_pass_ret ?_
    refine ex_ret (.inl rfl) (res_2 rfl (rv_agg rfl) (rv_tmp rfl)) (fun w1 hw => ?_)
    exact ⟨(by obtain ⟨e1, e2⟩ := rl_long (s := s) (by omega); rw [e1, e2]), Keep.mem hw⟩
  · try simp only [bz0, bz1, bz2, bz3, bz4, bz5, bz6, bz7, bz8, bz9] at h0
    refine cw_skip ?_
    refine ex_then ?_
    refine cw_seq ?_
    refine cw_region ?_
    refine sq_r (ry_move rfl) ?_
    refine sq_y (yl_callC rfl (by omega)) ?_
    refine sq_r (ry_move rfl) ?_
    refine sq_r (ry_extract (v := .string ⟨((cutL 32 s).1).toArray⟩) rfl rfl) ?_
    refine sq_r (ry_extract (v := .string ⟨((cutL 32 s).2.1).toArray⟩) rfl rfl) ?_
    refine sq_r (ry_extract (v := .bool ((cutL 32 s).2.2)) rfl rfl) ?_
    refine sq_r (ry_assign rfl) ?_
    refine sq_r (ry_assign rfl) ?_
    refine sq_r (ry_assign rfl) ?_
    refine sq_nil ?_
    refine ex_then ?_
    refine cw_seq ?_
    refine cw_seq ?_
    refine cw_region ?_
    refine sq_r (ry_move rfl) ?_
    refine sq_r (ry_not rfl) ?_
    refine sq_nil ?_
    refine ex_then ?_
    refine cw_cond rfl (fun h1 => ?_) (fun h1 => ?_)
    · try simp only [bz0, bz1, bz2, bz3, bz4, bz5, bz6, bz7, bz8, bz9] at h1
      refine cw_seq ?_
      refine cw_region ?_
      refine sq_r (ry_buildc rfl) ?_
      refine sq_storeW rfl rfl ?_
      refine sq_r (ry_assign rfl) ?_
      refine sq_nil ?_
      refine ex_then ?_
      refine cw_ret ?_
      refine ex_pass_ret ?_
      refine ex_ret (.inl rfl) (res_2 rfl (rv_agg rfl) (rv_tmp rfl)) (fun w1 hw => ?_)
      exact ⟨(by obtain ⟨e1, e2⟩ := rl_none (s := s) (by omega) (line_cut_no h1); rw [e1, e2]), Keep.mem hw⟩
    · try simp only [bz0, bz1, bz2, bz3, bz4, bz5, bz6, bz7, bz8, bz9] at h1
      refine cw_skip ?_
      refine ex_then ?_
      refine cw_seq ?_
      refine cw_region ?_
      refine sq_r (ry_move rfl) ?_
      refine sq_y (yl_callC rfl (by omega)) ?_
      refine sq_r (ry_move rfl) ?_
      refine sq_r (ry_extract (v := .agg (pcells (rpP ((cutL 32 s).1)))) rfl rfl) ?_
      refine sq_r (ry_extract (v := .int .i64 (rpE ((cutL 32 s).1))) rfl rfl) ?_
      refine sq_allocA fun b7 => ?_
      refine sq_storeW rfl rfl ?_
      refine sq_r (ry_assign rfl) ?_
      refine sq_nil ?_
      refine ex_then ?_
      refine cw_seq ?_
      refine cw_seq ?_
      refine cw_region ?_
      refine sq_r (ry_move rfl) ?_
      refine sq_r (ry_int rfl rfl rfl) ?_
      refine sq_nil ?_
      refine ex_then ?_
      refine cw_cond rfl (fun h2 => ?_) (fun h2 => ?_)
      · try simp only [bz0, bz1, bz2, bz3, bz4, bz5, bz6, bz7, bz8, bz9] at h2
        refine cw_seq ?_
        refine cw_region ?_
        refine sq_r (ry_buildc rfl) ?_
        refine sq_storeW rfl rfl ?_
        refine sq_r (ry_assign rfl) ?_
        refine sq_nil ?_
        refine ex_then ?_
        refine cw_ret ?_
        refine ex_pass_ret ?_
        refine ex_ret (.inl rfl) (res_2 rfl (rv_agg rfl) (rv_tmp rfl)) (fun w1 hw => ?_)
        exact ⟨(by obtain ⟨e1, e2⟩ := rl_none (s := s) (by omega) (by rw [line_cut h1]; exact lm_pfx (by omega) (by omega)); rw [e1, e2]), Keep.mem hw⟩
      · try simp only [bz0, bz1, bz2, bz3, bz4, bz5, bz6, bz7, bz8, bz9] at h2
        refine cw_skip ?_
        refine ex_then ?_
        refine cw_seq ?_
        refine cw_region ?_
        refine sq_r (ry_move rfl) ?_
        refine sq_y (yl_callC (vs := [_, .int .i64 ((65535 : Nat) : Int)]) rfl ⟨by omega, by omega⟩) ?_
        refine sq_r (ry_move rfl) ?_
        refine sq_r (ry_extract (v := .int .i64 (((numO ((cutL 32 s).2.1) 65535).getD 0) : Nat)) rfl rfl) ?_
        refine sq_r (ry_extract (v := .bool ((numO ((cutL 32 s).2.1) 65535).isSome)) rfl rfl) ?_
        refine sq_r (ry_assign rfl) ?_
        refine sq_r (ry_assign rfl) ?_
        refine sq_nil ?_
        refine ex_then ?_
        refine cw_seq ?_
        refine cw_seq ?_
        refine cw_region ?_
        refine sq_r (ry_move rfl) ?_
        refine sq_r (ry_not rfl) ?_
        refine sq_nil ?_
        refine ex_then ?_
        refine cw_cond rfl (fun h3 => ?_) (fun h3 => ?_)
        · try simp only [bz0, bz1, bz2, bz3, bz4, bz5, bz6, bz7, bz8, bz9] at h3
          refine cw_seq ?_
          refine cw_region ?_
          refine sq_r (ry_buildc rfl) ?_
          refine sq_storeW rfl rfl ?_
          refine sq_r (ry_assign rfl) ?_
          refine sq_nil ?_
          refine ex_then ?_
          refine cw_ret ?_
          refine ex_pass_ret ?_
          refine ex_ret (.inl rfl) (res_2 rfl (rv_agg rfl) (rv_tmp rfl)) (fun w1 hw => ?_)
          exact ⟨(by obtain ⟨e1, e2⟩ := rl_none (s := s) (by omega) (by rw [line_cut h1]; exact lm_num (by simpa using h3)); rw [e1, e2]), Keep.mem hw⟩
        · try simp only [bz0, bz1, bz2, bz3, bz4, bz5, bz6, bz7, bz8, bz9] at h3
          obtain ⟨m, hm⟩ := Option.isSome_iff_exists.1 h3
          have hm2 := (num_iff.1 hm).2
          refine cw_skip ?_
          refine ex_then ?_
          refine cw_seq ?_
          refine cw_region ?_
          refine sq_r (ry_whole rfl) ?_
          refine sq_r (ry_move rfl) ?_
          refine sq_r (Ry.as (v' := .int .u16 (((UInt16.ofNat ((numO (cutL 32 s).2.1 65535).getD 0)).toNat : Nat) : Int)) (ry_convn rfl (by have := num_top (cutL 32 s).2.1 65535; simp only [nb]; omega)) (u16_nat (num_top (cutL 32 s).2.1 65535))) ?_
          refine sq_r (ry_buildc rfl) ?_
          refine sq_storeW rfl rfl ?_
          refine sq_r (ry_assign rfl) ?_
          refine sq_nil ?_
          refine ex_then ?_
          refine cw_ret ?_
          refine ex_ret (.inl rfl) (res_2 rfl (rv_agg rfl) (rv_tmp rfl)) (fun w1 hw => ?_)
          exact ⟨(by obtain ⟨e1, e2⟩ := rl_some (s := s) (by omega) ((line_cut h1).trans (lm_val (by omega) (by omega) hm)); rw [e1, e2, hm]; rfl), Keep.mem hw⟩
instance treadl_i {w0 : World} {L : List Ent} {s : List UInt8} [tb : Tabs w0]  : FnQ Tryz.prog 7 w0 L [.string ⟨s.toArray⟩] (.tuple #[.agg (rcells (rlR s)), .int .i64 (rlE s)]) (s.length ≤ 1000000000) := ⟨fun hp w hw => treadl_c w (tb := tb.at hw) s  hp⟩

end Go.Proofs.YtldkgicmfbofiaaGreatDoor

/- A trie's nodes, and the ways to them. No program in sight. -/
namespace Go.Kb

structure Slt where
  len : Int
  hop : UInt16
  deriving DecidableEq
def Slt.no : Slt := ⟨0, 0⟩
structure Nd where
  slots : List Slt
  nexts : List Int
  hs : slots.length = 16
  hn : nexts.length = 16
  deriving DecidableEq
def Nd.sl (n : Nd) (b : Nat) : Slt := n.slots.getD b Slt.no
def Nd.nx (n : Nd) (b : Nat) : Int := n.nexts.getD b 0
def Nd.mk' (f : Nat → Slt) (g : Nat → Int) : Nd := ⟨(List.range 16).map f, (List.range 16).map g, by simp, by simp⟩
def Nd.zero : Nd := Nd.mk' (fun _ => Slt.no) (fun _ => 0)
def Nd.setSl (n : Nd) (b : Nat) (s : Slt) : Nd := ⟨n.slots.set b s, n.nexts, by simp [n.hs], n.hn⟩
def Nd.setNx (n : Nd) (b : Nat) (x : Int) : Nd := ⟨n.slots, n.nexts.set b x, n.hs, by simp [n.hn]⟩
theorem Nd.sl_mk' {f : Nat → Slt} {g : Nat → Int} {b : Nat} (h : b < 16) : (Nd.mk' f g).sl b = f b := by simp [Nd.sl, Nd.mk', h]
theorem Nd.nx_mk' {f : Nat → Slt} {g : Nat → Int} {b : Nat} (h : b < 16) : (Nd.mk' f g).nx b = g b := by simp [Nd.nx, Nd.mk', h]
theorem Nd.sl_out {n : Nd} {b : Nat} (h : 16 ≤ b) : n.sl b = Slt.no := by
  have := n.hs
  rw [Nd.sl, List.getD_eq_getElem?_getD, List.getElem?_eq_none (by omega)]; rfl
theorem Nd.nx_out {n : Nd} {b : Nat} (h : 16 ≤ b) : n.nx b = 0 := by
  have := n.hn
  rw [Nd.nx, List.getD_eq_getElem?_getD, List.getElem?_eq_none (by omega)]; rfl
theorem Nd.sl_zero (b : Nat) : Nd.zero.sl b = Slt.no := by
  rcases Nat.lt_or_ge b 16 with h | h
  · exact Nd.sl_mk' h
  · exact Nd.sl_out h
theorem Nd.nx_zero (b : Nat) : Nd.zero.nx b = 0 := by
  rcases Nat.lt_or_ge b 16 with h | h
  · exact Nd.nx_mk' h
  · exact Nd.nx_out h
theorem Nd.sl_set {n : Nd} {b c : Nat} {s : Slt} (h : b < 16) : (n.setSl b s).sl c = if b = c then s else n.sl c := by
  have := n.hs
  simp only [Nd.sl, Nd.setSl, List.getD_eq_getElem?_getD, List.getElem?_set]
  split
  · rename_i e; subst e; rw [if_pos (by omega)]; rfl
  · rfl
theorem Nd.nx_set {n : Nd} {b c : Nat} {x : Int} (h : b < 16) : (n.setNx b x).nx c = if b = c then x else n.nx c := by
  have := n.hn
  simp only [Nd.nx, Nd.setNx, List.getD_eq_getElem?_getD, List.getElem?_set]
  split
  · rename_i e; subst e; rw [if_pos (by omega)]; rfl
  · rfl
@[simp] theorem Nd.nx_setSl {n : Nd} {b c : Nat} {s : Slt} : (n.setSl b s).nx c = n.nx c := rfl
@[simp] theorem Nd.sl_setNx {n : Nd} {b c : Nat} {x : Int} : (n.setNx b x).sl c = n.sl c := rfl
theorem Nd.ext' {m n : Nd} (h1 : ∀ b, b < 16 → m.sl b = n.sl b) (h2 : ∀ b, b < 16 → m.nx b = n.nx b) : m = n := by
  obtain ⟨a, b, ha, hb⟩ := m
  obtain ⟨c, d, hc, hd⟩ := n
  have e1 : a = c := List.ext_getElem? fun i => by
    rcases Nat.lt_or_ge i 16 with hi | hi
    · have := h1 i hi
      simp only [Nd.sl, List.getD_eq_getElem?_getD] at this
      rw [List.getElem?_eq_getElem (by omega), List.getElem?_eq_getElem (by omega)] at this ⊢
      simpa using this
    · rw [List.getElem?_eq_none (by omega), List.getElem?_eq_none (by omega)]
  have e2 : b = d := List.ext_getElem? fun i => by
    rcases Nat.lt_or_ge i 16 with hi | hi
    · have := h2 i hi
      simp only [Nd.nx, List.getD_eq_getElem?_getD] at this
      rw [List.getElem?_eq_getElem (by omega), List.getElem?_eq_getElem (by omega)] at this ⊢
      simpa using this
    · rw [List.getElem?_eq_none (by omega), List.getElem?_eq_none (by omega)]
  subst e1; subst e2; rfl

/-! Four bits of a key. -/
def rset (k : Key) (n b : Nat) : Key := if n % 2 = 0 then kset k (n / 2) (16 * b % 256) else kset k (n / 2) ((kbyte k (n / 2) + b) % 256)

def lastN (p : Pfx) : Nat := ((p.len - 1) / 4).toNat
structure Wy where
  steps : Nat
  key : Key
  deriving DecidableEq
def wayAt (k : Key) (s : Nat) : Wy := ⟨s, kcut k ((4 * s : Nat) : Int)⟩
def root : Wy := ⟨0, 0#128⟩
theorem wayAt_zero (k : Key) : wayAt k 0 = root := by rw [wayAt, root, kcut_none _ _ (by decide)]
def child (w : Wy) (b : Nat) : Wy := ⟨w.steps + 1, rset w.key w.steps b⟩
def addW (W : List Wy) (w : Wy) : List Wy := if w ∈ W then W else W ++ [w]
def addTo (W : List Wy) (p : Pfx) (n : Nat) : List Wy := (List.range n).foldl (fun W i => addW W (wayAt p.key (i + 1))) W
def addWs (W : List Wy) (r : Rt) (bits : Int) : List Wy := if r.p.bits = bits then addTo W r.p (lastN r.p) else W
def waysF (bits : Int) (t : List Rt) : List Wy := t.foldl (fun W r => addWs W r bits) [root]

def hit (r : Rt) (bits : Int) (w : Wy) (b : Nat) : Bool := decide (r.p.bits = bits) && decide (lastN r.p = w.steps) && pfits r.p (rset w.key w.steps b)
def slotUp (bits : Int) (w : Wy) (b : Nat) (s : Slt) (r : Rt) : Slt := if hit r bits w b = true ∧ s.len ≤ r.p.len then ⟨r.p.len + 1, r.hop⟩ else s
def slotF (bits : Int) (R : List Rt) (w : Wy) (b : Nat) : Slt := R.foldl (slotUp bits w b) Slt.no
def nextF (W : List Wy) (w : Wy) (b : Nat) : Int := if child w b ∈ W then (W.idxOf (child w b) : Nat) else 0
def nodeF (bits : Int) (W : List Wy) (R : List Rt) (w : Wy) : Nd := Nd.mk' (slotF bits R w) (nextF W w)
def nodesF (bits : Int) (t : List Rt) : List Nd := (waysF bits t).map (nodeF bits (waysF bits t) t)

theorem addTo_zero (W : List Wy) (p : Pfx) : addTo W p 0 = W := rfl
theorem addTo_succ (W : List Wy) (p : Pfx) (n : Nat) : addTo W p (n + 1) = addW (addTo W p n) (wayAt p.key (n + 1)) := by simp [addTo, List.range_succ]
theorem ways_nil (bits : Int) : waysF bits [] = [root] := rfl
theorem ways_snoc (bits : Int) (t : List Rt) (r : Rt) : waysF bits (t ++ [r]) = addWs (waysF bits t) r bits := by simp [waysF]
theorem slotF_snoc (bits : Int) (R : List Rt) (r : Rt) (w : Wy) (b : Nat) : slotF bits (R ++ [r]) w b = slotUp bits w b (slotF bits R w b) r := by simp [slotF]

/-! Bits of a key whose four bits are set. -/
theorem rset_msb {k : Key} {n b : Nat} (hn : n < 32) (hb : b < 16) (hk : kcut k ((4 * n : Nat) : Int) = k) (i : Nat) (hi : i < 128) :
    (rset k n b).getMsbD i = if i < 4 * n then k.getMsbD i else if i < 4 * n + 4 then b.testBit (4 * n + 3 - i) else false := by
  have hz : ∀ j, j < 128 → 4 * n ≤ j → k.getMsbD j = false := fun j hj h => (kcut_self_iff k _).1 hk j hj (by omega)
  have hkb : ∀ (x : Nat), x < 256 → (kset k (n / 2) x).getMsbD i = if i / 8 = n / 2 then x.testBit (7 - i % 8) else k.getMsbD i := fun x hx => by
    rw [msb_kbyte _ i hi, kbyte_kset k _ x _ (by omega) hx]
    split
    · rfl
    · rw [msb_kbyte k i hi]
  unfold rset
  split
  · rename_i he
    rw [hkb _ (by omega)]
    by_cases h1 : i / 8 = n / 2
    · rw [if_pos h1, if_neg (by omega)]
      have e : 16 * b % 256 = b * 2 ^ 4 := by omega
      rw [e, Nat.testBit_mul_two_pow]
      by_cases h2 : i < 4 * n + 4
      · rw [if_pos h2, decide_eq_true (by omega), Bool.true_and]; congr 1; omega
      · rw [if_neg h2, decide_eq_false (by omega), Bool.false_and]
    · rw [if_neg h1]
      by_cases h2 : i < 4 * n
      · rw [if_pos h2]
      · rw [if_neg h2, if_neg (by omega)]; exact hz i hi (by omega)
  · rename_i ho
    have hlow : kbyte k (n / 2) % 16 = 0 := by
      have : ∀ j, (kbyte k (n / 2) % 2 ^ 4).testBit j = false := fun j => by
        rw [Nat.testBit_mod_two_pow]
        by_cases hj : j < 4
        · have := msb_kbyte k (8 * (n / 2) + (7 - j)) (by omega)
          rw [show (8 * (n / 2) + (7 - j)) / 8 = n / 2 by omega, show 7 - (8 * (n / 2) + (7 - j)) % 8 = j by omega, hz _ (by omega) (by omega)] at this
          simp [← this]
        · simp [hj]
      have := Nat.eq_of_testBit_eq (x := kbyte k (n / 2) % 2 ^ 4) (y := 0) (fun j => by rw [this j]; simp)
      simpa using this
    have hlt := kbyte_lt k (n / 2)
    have e : (kbyte k (n / 2) + b) % 256 = kbyte k (n / 2) ||| b := by
      obtain ⟨q, hq⟩ : ∃ q, kbyte k (n / 2) = 2 ^ 4 * q := ⟨kbyte k (n / 2) / 16, by omega⟩
      rw [hq, ← Nat.two_pow_add_eq_or_of_lt (i := 4) (by omega) q]; omega
    rw [hkb _ (by omega), e]
    by_cases h1 : i / 8 = n / 2
    · rw [if_pos h1, Nat.testBit_or]
      have hm := msb_kbyte k i hi
      rw [h1] at hm
      rw [← hm]
      by_cases h2 : i < 4 * n
      · rw [if_pos h2, Nat.testBit_lt_two_pow (x := b) (Nat.lt_of_lt_of_le (show b < 2 ^ 4 by omega) (Nat.pow_le_pow_right (by decide) (by omega)))]; simp
      · rw [if_neg h2, if_pos (by omega), hz i hi (by omega), Bool.false_or]; congr 1; omega
    · rw [if_neg h1]
      by_cases h2 : i < 4 * n
      · rw [if_pos h2]
      · rw [if_neg h2, if_neg (by omega)]; exact hz i hi (by omega)

def kst (k : Key) (n : Nat) : Nat := (kstep k n).toNat
theorem kst_lt (k : Key) (n : Nat) : kst k n < 16 := by
  unfold kst kstep
  have h1 := kbit_01 k (4 * n); have h2 := kbit_01 k (4 * n + 1); have h3 := kbit_01 k (4 * n + 2); have h4 := kbit_01 k (4 * n + 3)
  split <;> omega
theorem kst_eq (k : Key) (n : Nat) : kstep k n = (kst k n : Int) := by
  unfold kst kstep
  have h1 := kbit_01 k (4 * n); have h2 := kbit_01 k (4 * n + 1); have h3 := kbit_01 k (4 * n + 2); have h4 := kbit_01 k (4 * n + 3)
  split <;> omega
theorem kst_bit (k : Key) (n j : Nat) (hn : n < 32) (hj : j < 4) : (kst k n).testBit j = k.getMsbD (4 * n + 3 - j) := by
  have e := kst_eq k n
  rw [kstep, if_pos (by omega)] at e
  have b0 := kbit_nat k (4 * n); have b1 := kbit_nat k (4 * n + 1); have b2 := kbit_nat k (4 * n + 2); have b3 := kbit_nat k (4 * n + 3)
  simp only [Int.natCast_add, Int.natCast_mul, Int.cast_ofNat_Int] at b0 b1 b2 b3
  rw [b0, b1, b2, b3] at e
  have key : ∀ (a0 a1 a2 a3 : Bool) (x : Nat), (8 * (if a0 then 1 else 0) + 4 * (if a1 then 1 else 0) + 2 * (if a2 then 1 else 0) + (if a3 then 1 else 0) : Int) = (x : Int) → x.testBit 0 = a3 ∧ x.testBit 1 = a2 ∧ x.testBit 2 = a1 ∧ x.testBit 3 = a0 := by
    intro a0 a1 a2 a3 x hx
    have hx' : x = (8 * (if a0 then 1 else 0) + 4 * (if a1 then 1 else 0) + 2 * (if a2 then 1 else 0) + (if a3 then 1 else 0) : Nat) := by
      cases a0 <;> cases a1 <;> cases a2 <;> cases a3 <;> simp at hx ⊢ <;> omega
    subst hx'
    cases a0 <;> cases a1 <;> cases a2 <;> cases a3 <;> decide
  obtain ⟨h0, h1, h2, h3⟩ := key _ _ _ _ _ e
  match j, hj with
  | 0, _ => exact h0
  | 1, _ => exact h1
  | 2, _ => exact h2
  | 3, _ => exact h3
theorem nib_ext {x y : Nat} (hx : x < 16) (hy : y < 16) (h : ∀ j, j < 4 → x.testBit j = y.testBit j) : x = y := by
  refine Nat.eq_of_testBit_eq fun j => ?_
  rcases Nat.lt_or_ge j 4 with hj | hj
  · exact h j hj
  · have hp : 2 ^ 4 ≤ 2 ^ j := Nat.pow_le_pow_right (by decide) hj
    rw [Nat.testBit_lt_two_pow (Nat.lt_of_lt_of_le hx hp), Nat.testBit_lt_two_pow (Nat.lt_of_lt_of_le hy hp)]
theorem cut_nat_msb (k : Key) (n i : Nat) : (kcut k (n : Int)).getMsbD i = (decide (i < n) && k.getMsbD i) := by
  rw [kcut_msb]; congr 1; simp
section
variable {k : Key} {n b : Nat}
theorem rset_kst (hn : n < 32) (hb : b < 16) (hk : kcut k ((4 * n : Nat) : Int) = k) : kst (rset k n b) n = b :=
  nib_ext (kst_lt _ _) hb fun j hj => by
    rw [kst_bit _ _ _ hn hj, rset_msb hn hb hk _ (by omega), if_neg (by omega), if_pos (by omega)]; congr 1; omega
theorem rset_cut (hn : n < 32) (hb : b < 16) (hk : kcut k ((4 * n : Nat) : Int) = k) : kcut (rset k n b) ((4 * n : Nat) : Int) = k :=
  key_ext fun i hi => by
    have h2 := cut_nat_msb k (4 * n) i
    rw [hk] at h2
    rw [cut_nat_msb, rset_msb hn hb hk i hi]
    by_cases h : i < 4 * n
    · simp [h]
    · simp [h] at h2 ⊢; exact h2
theorem rset_full (hn : n < 32) (hb : b < 16) (hk : kcut k ((4 * n : Nat) : Int) = k) : kcut (rset k n b) ((4 * (n + 1) : Nat) : Int) = rset k n b :=
  key_ext fun i hi => by
    rw [cut_nat_msb, rset_msb hn hb hk i hi]
    by_cases h : i < 4 * (n + 1)
    · simp [h]
    · rw [if_neg (by omega), if_neg (by omega)]; simp
end
theorem cut_cut_nat (k : Key) (n m : Nat) : kcut (kcut k (n : Int)) (m : Int) = kcut k ((min n m : Nat) : Int) := by
  rw [kcut_cut]; congr 1; omega
theorem wayAt_cut (k : Key) (s : Nat) : kcut (wayAt k s).key ((4 * s : Nat) : Int) = (wayAt k s).key := by
  simp only [wayAt]; rw [cut_cut_nat, Nat.min_self]
theorem child_wayAt (k : Key) (n : Nat) (hn : n < 32) : child (wayAt k n) (kst k n) = wayAt k (n + 1) := by
  have e : rset (kcut k ((4 * n : Nat) : Int)) n (kst k n) = kcut k ((4 * (n + 1) : Nat) : Int) := key_ext fun i hi => by
    have hm := rset_msb (k := kcut k ((4 * n : Nat) : Int)) hn (kst_lt k n) (wayAt_cut k n) i hi
    rw [hm, cut_nat_msb, cut_nat_msb]
    by_cases h : i < 4 * n
    · simp [h, show i < 4 * (n + 1) by omega]
    · rw [if_neg h]
      by_cases h2 : i < 4 * n + 4
      · rw [if_pos h2, kst_bit _ _ _ hn (by omega), decide_eq_true (show i < 4 * (n + 1) by omega), Bool.true_and]; congr 1; omega
      · rw [if_neg h2, decide_eq_false (show ¬ i < 4 * (n + 1) by omega), Bool.false_and]
  simp only [child, wayAt, e]
def Wy.ok (w : Wy) : Prop := w.steps < 32 ∧ kcut w.key ((4 * w.steps : Nat) : Int) = w.key
theorem child_inj {w v : Wy} {b c : Nat} (hw : w.ok) (hv : v.ok) (hb : b < 16) (hc : c < 16) (e : child w b = child v c) : w = v ∧ b = c := by
  obtain ⟨ws, wk⟩ := w
  obtain ⟨vs, vk⟩ := v
  simp only [child, Wy.mk.injEq] at e
  obtain ⟨e1, e2⟩ := e
  have e3 : ws = vs := by omega
  subst e3
  have h1 := rset_cut hw.1 hb hw.2
  have h2 := rset_kst hw.1 hb hw.2
  simp only at h1 h2
  rw [e2, rset_kst hv.1 hc hv.2] at h2
  rw [e2, rset_cut hv.1 hc hv.2] at h1
  have h1' : vk = wk := h1
  exact ⟨by rw [h1'], h2.symm⟩
theorem wayAt_ok (k : Key) (s : Nat) (h : s < 32) : (wayAt k s).ok := ⟨h, wayAt_cut k s⟩
theorem wayAt_up (k : Key) (s n : Nat) (h : s ≤ n) : wayAt (wayAt k n).key s = wayAt k s := by
  simp only [wayAt]; rw [cut_cut_nat, Nat.min_eq_right (by omega)]
theorem root_ok : root.ok := ⟨by decide, by rw [root]; exact kcut_none _ _ (by decide)⟩

/-! Ways put together. -/
theorem addW_mem {W : List Wy} {w v : Wy} : v ∈ addW W w ↔ v ∈ W ∨ v = w := by
  unfold addW; split
  · rename_i h; exact ⟨.inl, fun | .inl h => h | .inr e => e ▸ h⟩
  · simp
theorem addW_nodup {W : List Wy} {w : Wy} (h : W.Nodup) : (addW W w).Nodup := by
  unfold addW; split
  · exact h
  · rename_i hw
    rw [List.nodup_append]
    exact ⟨h, by simp, fun a ha b hb => by simp at hb; subst hb; intro e; subst e; exact hw ha⟩
theorem addW_pre {W : List Wy} {w : Wy} : W <+: addW W w := by
  unfold addW; split
  · exact List.prefix_rfl
  · exact List.prefix_append _ _
theorem addTo_mem {W : List Wy} {p : Pfx} {v : Wy} : ∀ {n : Nat}, v ∈ addTo W p n ↔ v ∈ W ∨ ∃ s, 1 ≤ s ∧ s ≤ n ∧ v = wayAt p.key s
  | 0 => by simp [addTo_zero]; omega
  | n + 1 => by
    rw [addTo_succ, addW_mem, addTo_mem (n := n)]
    constructor
    · rintro ((h | ⟨s, h1, h2, h3⟩) | h)
      · exact .inl h
      · exact .inr ⟨s, h1, by omega, h3⟩
      · exact .inr ⟨n + 1, by omega, by omega, h⟩
    · rintro (h | ⟨s, h1, h2, h3⟩)
      · exact .inl (.inl h)
      · rcases Nat.lt_or_ge n s with h4 | h4
        · obtain rfl : s = n + 1 := by omega
          exact .inr h3
        · exact .inl (.inr ⟨s, h1, h4, h3⟩)
theorem addTo_nodup {W : List Wy} {p : Pfx} (h : W.Nodup) : ∀ n, (addTo W p n).Nodup
  | 0 => h
  | n + 1 => by rw [addTo_succ]; exact addW_nodup (addTo_nodup h n)
theorem addTo_pre {W : List Wy} {p : Pfx} : ∀ n, W <+: addTo W p n
  | 0 => List.prefix_rfl
  | n + 1 => by rw [addTo_succ]; exact (addTo_pre n).trans addW_pre
theorem addTo_le {W : List Wy} {p : Pfx} {n m : Nat} (h : n ≤ m) : addTo W p n <+: addTo W p m := by
  induction m with
  | zero => obtain rfl : n = 0 := by omega
            exact List.prefix_rfl
  | succ m ih =>
    rcases Nat.lt_or_ge m n with h' | h'
    · obtain rfl : n = m + 1 := by omega
      exact List.prefix_rfl
    · rw [addTo_succ]; exact (ih h').trans addW_pre
theorem addWs_pre {W : List Wy} {r : Rt} {bits : Int} : W <+: addWs W r bits := by
  unfold addWs; split
  · exact addTo_pre _
  · exact List.prefix_rfl
structure WOk (W : List Wy) : Prop where
  nodup : W.Nodup
  root : W[0]? = some root
  ok : ∀ w ∈ W, w.ok
  up : ∀ w ∈ W, ∀ s, s ≤ w.steps → wayAt w.key s ∈ W
  ord : ∀ (i : Nat) (w : Wy), W[i]? = some w → ∀ s, s < w.steps → ∃ j, j < i ∧ W[j]? = some (wayAt w.key s)
theorem WOk.ne {W : List Wy} (h : WOk W) : 0 < W.length := by
  have := h.root
  rcases Nat.eq_zero_or_pos W.length with e | e
  · rw [List.getElem?_eq_none (by omega)] at this; simp at this
  · exact e
theorem WOk.one : WOk [Kb.root] := ⟨by simp, rfl, fun w hw => by simp at hw; subst hw; exact root_ok, fun w hw s hs => by
  simp at hw; subst hw
  have : s = 0 := by simpa [Kb.root] using hs
  subst this; rw [wayAt_zero]; simp, fun i w hi s hs => by
  have hw := List.mem_of_getElem? hi
  simp at hw; subst hw
  exact absurd hs (by simp [Kb.root])⟩
theorem WOk.add {W : List Wy} (h : WOk W) {p : Pfx} : ∀ {n : Nat}, n < 32 → WOk (addTo W p n)
  | 0, _ => h
  | n + 1, hn => by
    have ih := h.add (p := p) (n := n) (by omega)
    refine ⟨addTo_nodup h.nodup _, ?_, fun w hw => ?_, fun w hw s hs => ?_, fun i w hi s hs => ?_⟩
    · have := addTo_pre (W := W) (p := p) (n + 1)
      obtain ⟨t, ht⟩ := this
      rw [← ht, List.getElem?_append_left h.ne]; exact h.root
    · rcases addTo_mem.1 hw with hw | ⟨s, h1, h2, rfl⟩
      · exact h.ok w hw
      · exact wayAt_ok _ _ (by omega)
    · rcases addTo_mem.1 hw with hw | ⟨s', h1, h2, rfl⟩
      · exact addTo_mem.2 (.inl (h.up w hw s hs))
      · have hs' : s ≤ s' := hs
        rw [wayAt_up _ _ _ hs']
        rcases Nat.eq_zero_or_pos s with e | e
        · subst e; rw [wayAt_zero]; exact addTo_mem.2 (.inl (List.mem_of_getElem? h.root))
        · exact addTo_mem.2 (.inr ⟨s, e, by omega, rfl⟩)
    · rw [addTo_succ] at hi ⊢
      unfold addW at hi ⊢
      split at hi
      · rename_i hm; rw [if_pos hm]; exact ih.ord i w hi s hs
      · rename_i hm; rw [if_neg hm]
        rcases Nat.lt_or_ge i (addTo W p n).length with hlt | hge
        · rw [List.getElem?_append_left hlt] at hi
          obtain ⟨j, hj, e⟩ := ih.ord i w hi s hs
          exact ⟨j, hj, by rw [List.getElem?_append_left (by omega)]; exact e⟩
        · have hi2 := (List.getElem?_eq_some_iff.1 hi).1
          simp only [List.length_append, List.length_cons, List.length_nil] at hi2
          obtain rfl : i = (addTo W p n).length := by omega
          rw [List.getElem?_append_right (Nat.le_refl _), Nat.sub_self, List.getElem?_cons_zero] at hi
          obtain rfl := Option.some.inj hi
          have hs' : s < n + 1 := hs
          have hmem : wayAt p.key s ∈ addTo W p n := by
            rcases Nat.eq_zero_or_pos s with e | e
            · subst e; rw [wayAt_zero]; exact List.mem_of_getElem? ih.root
            · exact addTo_mem.2 (.inr ⟨s, e, by omega, rfl⟩)
          obtain ⟨j, hj⟩ := List.mem_iff_getElem?.1 hmem
          have hjl := (List.getElem?_eq_some_iff.1 hj).1
          exact ⟨j, hjl, by rw [wayAt_up _ _ _ (by omega), List.getElem?_append_left hjl]; exact hj⟩
theorem lastN_lt {p : Pfx} (h : pmay p = true) : lastN p < 32 := by
  obtain ⟨h1, h2, h3, _⟩ := (pmay_iff p).1 h
  unfold lastN; omega
theorem WOk.addWs {W : List Wy} (h : WOk W) {r : Rt} {bits : Int} (hr : pmay r.p = true) : WOk (addWs W r bits) := by
  unfold Kb.addWs; split
  · exact h.add (lastN_lt hr)
  · exact h
theorem ways_ok' {bits : Int} : ∀ {t : List Rt} {W : List Wy}, WOk W → (∀ r ∈ t, pmay r.p = true) → WOk (t.foldl (fun W r => Kb.addWs W r bits) W)
  | [], _, h, _ => h
  | r :: t, _, h, ha => ways_ok' (t := t) (h.addWs (ha r (by simp))) fun x hx => ha x (by simp [hx])
theorem ways_ok {bits : Int} {t : List Rt} (h : ∀ r ∈ t, pmay r.p = true) : WOk (waysF bits t) := ways_ok' WOk.one h
def Holds' (bits : Int) (W : List Wy) (R : List Rt) : Prop := ∀ r ∈ R, r.p.bits = bits → ∀ s, 1 ≤ s → s ≤ lastN r.p → wayAt r.p.key s ∈ W
end Go.Kb

