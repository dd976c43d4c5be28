/- Keys read out of texts, byte by byte. No program in sight. -/
import Derived.Test.YtldkgicmfbofiaaDoorKy
import Derived.Lib.Bytealg
set_option linter.unusedSimpArgs false
set_option linter.unusedVariables false
namespace Go.Kb
open Go.Eng
variable {k kk : Key} {i j n v : Nat} {s : Txt} {c : UInt8}
def kput (k : Key) (i v : Nat) : Key := kof fun j => if j = i then v else kbyte k j
theorem kput_byte (k : Key) (i : Nat) (hv : v < 256) (hj : j < 16) : kbyte (kput k i v) j = if j = i then v else kbyte k j := by
  rw [kput, kbyte_kof _ _ hj]
  have := kbyte_lt k j
  split <;> omega
theorem kputs (k : Key) (i : Nat) (hi : i < 16) (hv : v < 256) : (kcells k).setIfInBounds i (.int .u8 ((v : Nat) : Int)) = kcells (kput k i v) := by
  refine eq_kcells (by simp [kcells_size]) fun j hj => ?_
  rw [kput_byte k i hv hj, Array.getElem?_setIfInBounds]
  by_cases e : i = j
  · subst e; simp [kcells_size, hi]
  · rw [if_neg e, if_neg (fun h => e h.symm)]; exact kcells_get k j hj
theorem kbyte_zero : kbyte (0#128) j = 0 := by simp [kbyte]
/-- The first i parts of a short key lie. -/
def Part4 (ps : List Txt) (i : Nat) (k : Key) : Prop := (∀ j, j < 16 → kbyte k j = if j < i then (numO (ps.getD j []) 255).getD 0 else 0) ∧ ∀ j, j < i → (numO (ps.getD j []) 255).isSome = true
theorem part4_0 (ps : List Txt) : Part4 ps 0 (0#128) := ⟨fun j _ => by rw [kbyte_zero, if_neg (by omega)], fun j h => absurd h (Nat.not_lt_zero j)⟩
theorem num255 (s : Txt) : (numO s 255).getD 0 < 256 := by
  cases e : numO s 255 with
  | none => simp
  | some n => have := (num_iff.1 e).2; simp; omega
theorem getD_of {α : Type} {xs : List α} {i : Nat} {x d : α} (h : xs[i]? = some x) : xs.getD i d = x := by simp [List.getD, h]
theorem Part4.step {ps : List Txt} {x : Txt} (h : Part4 ps i k) (hx : ps[i]? = some x) (ho : (numO x 255).isSome = true) (hi : i < 4) : Part4 ps (i + 1) (kput k i ((numO x 255).getD 0)) := by
  have e : ps.getD i [] = x := getD_of hx
  refine ⟨fun j hj => ?_, fun j hj => ?_⟩
  · rw [kput_byte k i (num255 x) hj]
    by_cases ej : j = i
    · subst ej; rw [if_pos rfl, if_pos (by omega), e]
    · rw [if_neg ej, h.1 j hj]
      by_cases hl : j < i
      · rw [if_pos hl, if_pos (by omega)]
      · rw [if_neg hl, if_neg (by omega)]
  · by_cases ej : j = i
    · subst ej; rw [e]; exact ho
    · exact h.2 j (by omega)
theorem len4 {ps : List Txt} (h : ps.length = 4) : ∃ a b c d, ps = [a, b, c, d] := by
  match ps, h with
  | [a, b, c, d], _ => exact ⟨a, b, c, d, rfl⟩
theorem short_no_len (h : (splitL 46 s).length ≠ 4) : shortO s = none := by
  unfold shortO
  split
  · rename_i a b c d e; rw [e] at h; exact absurd rfl h
  · rfl
theorem short_no_num {x : Txt} (hl : (splitL 46 s).length = 4) (hx : (splitL 46 s)[i]? = some x) (hn : (numO x 255).isSome = false) : shortO s = none := by
  obtain ⟨a, b, c, d, e⟩ := len4 hl
  have hn' : numO x 255 = none := by cases q : numO x 255 with
    | none => rfl
    | some z => rw [q] at hn; cases hn
  unfold shortO
  rw [e] at hx ⊢
  have hm : x ∈ [a, b, c, d] := List.mem_of_getElem? hx
  simp only [List.mem_cons, List.not_mem_nil, or_false] at hm
  rcases hm with rfl | rfl | rfl | rfl
  all_goals simp only [hn']
  all_goals (split <;> first | rfl | (rename_i h1 h2 h3 h4; simp_all))
theorem short_yes (hl : (splitL 46 s).length = 4) (h : Part4 (splitL 46 s) 4 k) : shortO s = some k := by
  obtain ⟨a, b, c, d, e⟩ := len4 hl
  rw [e] at h
  obtain ⟨na, ha⟩ := Option.isSome_iff_exists.1 (h.2 0 (by decide))
  obtain ⟨nb, hb⟩ := Option.isSome_iff_exists.1 (h.2 1 (by decide))
  obtain ⟨nc, hc⟩ := Option.isSome_iff_exists.1 (h.2 2 (by decide))
  obtain ⟨nd, hd⟩ := Option.isSome_iff_exists.1 (h.2 3 (by decide))
  simp only [List.getD_cons_zero, List.getD_cons_succ] at ha hb hc hd
  unfold shortO
  rw [e]
  simp only [ha, hb, hc, hd]
  refine congrArg some (key_ext_byte fun j hj => ?_)
  rw [four_byte (num_iff.1 ha).2 (num_iff.1 hb).2 (num_iff.1 hc).2 (num_iff.1 hd).2 hj, h.1 j hj]
  rcases Nat.lt_or_ge j 4 with h4 | h4
  · have : j = 0 ∨ j = 1 ∨ j = 2 ∨ j = 3 := by omega
    rcases this with rfl | rfl | rfl | rfl
    · simp [ha]
    · simp [hb]
    · simp [hc]
    · simp [hd]
  · rw [if_neg (by omega), if_neg (by omega), if_neg (by omega), if_neg (by omega), if_neg (by omega)]
theorem hexI_at (h : ¬ hexI (s.getD i 0) < 0) : hexI (s.getD i 0) = ((hexAt s i : Nat) : Int) ∧ hexAt s i < 16 ∧ (hexO (s.getD i 0)).isSome = true := by
  unfold hexI hexAt at *
  cases e : hexO (s.getD i 0) with
  | none => rw [e] at h; simp at h
  | some n => exact ⟨rfl, hex_lt e, rfl⟩
theorem hexI_no (h : hexI (s.getD i 0) < 0) (hi : i < s.length) : wideO s = none := by
  unfold wideO
  rw [if_neg]
  rintro ⟨_, ha⟩
  have := List.all_eq_true.1 ha (s.getD i 0) (by simp [List.getD, hi])
  unfold hexI at h
  cases e : hexO (s.getD i 0) with
  | none => rw [e] at this; cases this
  | some n => rw [e] at h; simp only at h; omega
theorem index_hex (c : UInt8) : Lib.indexByte ([48, 49, 50, 51, 52, 53, 54, 55, 56, 57, 97, 98, 99, 100, 101, 102] : Txt) c = hexI c := by
  have key : ∀ n, n < 256 → Lib.indexByte ([48, 49, 50, 51, 52, 53, 54, 55, 56, 57, 97, 98, 99, 100, 101, 102] : Txt) (UInt8.ofNat n) = hexI (UInt8.ofNat n) := by decide +kernel
  have := key c.toNat c.toNat_lt
  rwa [UInt8.ofNat_toNat] at this
/-- The first i signs of a long key lie. -/
def PartW (s : Txt) (i : Nat) (k : Key) : Prop := (∀ j, j < 16 → kbyte k j = if 2 * j + 1 < i then 16 * hexAt s (2 * j) + hexAt s (2 * j + 1) else if 2 * j < i then hexAt s (2 * j) else 0) ∧ ∀ j, j < i → (hexO (s.getD j 0)).isSome = true
theorem partW_0 (s : Txt) : PartW s 0 (0#128) := ⟨fun j _ => by rw [kbyte_zero, if_neg (by omega), if_neg (by omega)], fun j h => absurd h (Nat.not_lt_zero j)⟩
theorem hexAt_lt (h : (hexO (s.getD i 0)).isSome = true) : hexAt s i < 16 := by
  unfold hexAt
  obtain ⟨n, e⟩ := Option.isSome_iff_exists.1 h
  rw [e]; exact hex_lt e
theorem PartW.lt (h : PartW s i k) (hi : i < 32) : kbyte k (i / 2) < 16 := by
  rw [h.1 (i / 2) (by omega), if_neg (by omega)]
  split
  · exact hexAt_lt (h.2 _ (by omega))
  · omega
theorem or16 (hn : n < 16) : v * 16 ||| n = v * 16 + n := by
  have := Nat.two_pow_add_eq_or_of_lt (i := 4) (show n < 2 ^ 4 from hn) v
  rw [Nat.mul_comm v 16]; exact this.symm
theorem PartW.step (h : PartW s i k) (hi : i < 32) (ho : (hexO (s.getD i 0)).isSome = true) : PartW s (i + 1) (kput k (i / 2) (kbyte k (i / 2) * 16 ||| hexAt s i)) := by
  have hl := h.lt hi
  have hx := hexAt_lt ho
  rw [or16 hx]
  refine ⟨fun j hj => ?_, fun j hj => ?_⟩
  · rw [kput_byte k _ (by omega) hj]
    by_cases ej : j = i / 2
    · rw [if_pos ej, ← ej, h.1 j hj, if_neg (by omega)]
      rcases Nat.mod_two_eq_zero_or_one i with e | e
      · rw [if_neg (by omega), if_neg (by omega), if_pos (by omega), show 2 * j = i by omega]; omega
      · rw [if_pos (by omega), if_pos (by omega), show 2 * j + 1 = i by omega]; omega
    · rw [if_neg ej, h.1 j hj]
      by_cases h1 : 2 * j + 1 < i
      · rw [if_pos h1, if_pos (by omega)]
      · rw [if_neg h1, if_neg (by omega), if_neg (by omega), if_neg (by omega)]
  · by_cases ej : j = i
    · subst ej; exact ho
    · exact h.2 j (by omega)
theorem wide_no_len (h : s.length ≠ 32) : wideO s = none := by unfold wideO; rw [if_neg (fun e => h e.1)]
theorem allHex_of (h : ∀ j, j < s.length → (hexO (s.getD j 0)).isSome = true) : allHex s = true := by
  refine List.all_eq_true.2 fun c hc => ?_
  obtain ⟨j, hj, rfl⟩ := List.getElem_of_mem hc
  have := h j hj
  simpa [List.getD, hj] using this
theorem wide_yes (hl : s.length = 32) (h : PartW s 32 k) : wideO s = some k := by
  unfold wideO
  rw [if_pos ⟨hl, allHex_of fun j hj => h.2 j (by omega)⟩]
  refine congrArg some (key_ext_byte fun j hj => ?_)
  rw [h.1 j hj, if_pos (by omega), wideK, kbyte_kof _ _ hj]
  have := hexAt_lt (h.2 (2 * j) (by omega))
  have := hexAt_lt (h.2 (2 * j + 1) (by omega))
  omega
/-- The first i bytes of a long key lie, two signs at once. -/
def PartR (s : Txt) (i : Nat) (k : Key) : Prop := (∀ j, j < 16 → kbyte k j = if j < i then 16 * hexAt s (2 * j) + hexAt s (2 * j + 1) else 0) ∧ ∀ j, j < 2 * i → (hexO (s.getD j 0)).isSome = true
theorem partR_0 (s : Txt) : PartR s 0 (0#128) := ⟨fun j _ => by rw [kbyte_zero, if_neg (by omega)], fun j h => by omega⟩
theorem PartR.step (h : PartR s i k) (hi : i < 16) (h1 : (hexO (s.getD (2 * i) 0)).isSome = true) (h2 : (hexO (s.getD (2 * i + 1) 0)).isSome = true) : PartR s (i + 1) (kput k i (16 * hexAt s (2 * i) + hexAt s (2 * i + 1))) := by
  have := hexAt_lt h1
  have := hexAt_lt h2
  refine ⟨fun j hj => ?_, fun j hj => ?_⟩
  · rw [kput_byte k i (by omega) hj]
    by_cases ej : j = i
    · subst ej; rw [if_pos rfl, if_pos (by omega)]
    · rw [if_neg ej, h.1 j hj]
      by_cases hl : j < i
      · rw [if_pos hl, if_pos (by omega)]
      · rw [if_neg hl, if_neg (by omega)]
  · by_cases e1 : j = 2 * i
    · subst e1; exact h1
    · by_cases e2 : j = 2 * i + 1
      · subst e2; exact h2
      · exact h.2 j (by omega)
theorem wide_yesR (hl : s.length = 32) (h : PartR s 16 k) : wideO s = some k := by
  unfold wideO
  rw [if_pos ⟨hl, allHex_of fun j hj => h.2 j (by omega)⟩]
  refine congrArg some (key_ext_byte fun j hj => ?_)
  rw [h.1 j hj, if_pos hj, wideK, kbyte_kof _ _ hj]
  have := hexAt_lt (h.2 (2 * j) (by omega))
  have := hexAt_lt (h.2 (2 * j + 1) (by omega))
  omega
theorem wide_no_dot (h : (splitL 46 s).length = 4) : wideO s = none := by
  unfold wideO
  rw [if_neg]
  rintro ⟨_, ha⟩
  have hm : (46 : UInt8) ∈ s := by
    rcases Classical.em ((46 : UInt8) ∈ s) with q | q
    · exact q
    · rw [split_one q] at h; simp at h
  have := List.all_eq_true.1 ha 46 hm
  exact absurd this (by decide)
/-! What is read. -/
def rkK (s : Txt) : Key := if 60 < s.length then 0#128 else match keyO s with | some (k, _) => k | none => 0#128
def rkN (s : Txt) : Nat := if 60 < s.length then 0 else match keyO s with | some (_, n) => n.toNat | none => 0
def rkE (s : Txt) : Int := if 60 < s.length then 3 else match keyO s with | some _ => 0 | none => 2
theorem rk_long (h : 60 < s.length) : rkK s = 0#128 ∧ rkN s = 0 ∧ rkE s = 3 := by simp [rkK, rkN, rkE, h]
theorem rk_short (h : ¬ 60 < s.length) (hs : shortO s = some k) : rkK s = k ∧ rkN s = 32 ∧ rkE s = 0 := by simp [rkK, rkN, rkE, h, keyO, hs]
theorem rk_wide (h : ¬ 60 < s.length) (hs : shortO s = none) (hw : wideO s = some k) : rkK s = k ∧ rkN s = 128 ∧ rkE s = 0 := by simp [rkK, rkN, rkE, h, keyO, hs, hw]
theorem rk_none (h : ¬ 60 < s.length) (hs : shortO s = none) (hw : wideO s = none) : rkK s = 0#128 ∧ rkN s = 0 ∧ rkE s = 2 := by simp [rkK, rkN, rkE, h, keyO, hs, hw]
end Go.Kb
