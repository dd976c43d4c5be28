/- Keys of 128 bits, their bytes and bits; what a prefix says of them. No program in sight. -/
import GoSem.Core.Value
set_option linter.unusedSimpArgs false
set_option linter.unusedVariables false
namespace Go.Kb

abbrev Key := BitVec 128

/-- Byte i of a key. -/
def kbyte (k : Key) (i : Nat) : Nat := k.toNat / 2 ^ (8 * (15 - i)) % 2 ^ 8
theorem kbyte_lt (k : Key) (i : Nat) : kbyte k i < 256 := Nat.mod_lt _ (by decide)

theorem kbyte_testBit (k : Key) (i j : Nat) (hj : j < 8) : (kbyte k i).testBit j = k.toNat.testBit (8 * (15 - i) + j) := by
  unfold kbyte
  rw [Nat.testBit_mod_two_pow, Nat.testBit_div_two_pow]
  simp [hj, Nat.add_comm]

theorem msb_eq (k : Key) (n : Nat) (h : n < 128) : k.getMsbD n = k.toNat.testBit (127 - n) := by
  simp only [BitVec.getMsbD, BitVec.getLsbD, h, decide_true, Bool.true_and]

/-- Bit n of a key is bit 7 - n % 8 of its byte n / 8. -/
theorem msb_kbyte (k : Key) (n : Nat) (h : n < 128) : k.getMsbD n = (kbyte k (n / 8)).testBit (7 - n % 8) := by
  rw [msb_eq k n h, kbyte_testBit k (n / 8) (7 - n % 8) (by omega)]
  congr 1; omega

theorem msb_out (k : Key) (n : Nat) (h : 128 ≤ n) : k.getMsbD n = false := by
  simp only [BitVec.getMsbD]; simp; omega

theorem key_ext {a b : Key} (h : ∀ n, n < 128 → a.getMsbD n = b.getMsbD n) : a = b := BitVec.eq_of_getMsbD_eq fun i hi => h i hi

theorem byte_ext {x y : Nat} (hx : x < 256) (hy : y < 256) (h : ∀ j, j < 8 → x.testBit j = y.testBit j) : x = y := by
  refine Nat.eq_of_testBit_eq fun j => ?_
  rcases Nat.lt_or_ge j 8 with hj | hj
  · exact h j hj
  · have hp : 2 ^ 8 ≤ 2 ^ j := Nat.pow_le_pow_right (by decide) hj
    rw [Nat.testBit_lt_two_pow (Nat.lt_of_lt_of_le hx hp), Nat.testBit_lt_two_pow (Nat.lt_of_lt_of_le hy hp)]

/-- Keys with the same bytes are the same. -/
theorem key_ext_byte {a b : Key} (h : ∀ i, i < 16 → kbyte a i = kbyte b i) : a = b :=
  key_ext fun n hn => by rw [msb_kbyte a n hn, msb_kbyte b n hn, h (n / 8) (by omega)]

/-- A byte from its bits. -/
theorem kbyte_of_bits {k : Key} {i x : Nat} (hi : i < 16) (hx : x < 256) (h : ∀ m, m < 8 → k.getMsbD (8 * i + m) = x.testBit (7 - m)) : kbyte k i = x :=
  byte_ext (kbyte_lt k i) hx fun j hj => by
    have := h (7 - j) (by omega)
    rw [msb_kbyte k _ (by omega), show (8 * i + (7 - j)) / 8 = i by omega, show 7 - (8 * i + (7 - j)) % 8 = j by omega, show 7 - (7 - j) = j by omega] at this
    exact this

/-- The key of such bytes. -/
def kof (f : Nat → Nat) : Key := BitVec.ofNat 128 ((List.range 16).foldl (fun a i => a * 2 ^ 8 + f i % 2 ^ 8) 0)

theorem fold_lt (f : Nat → Nat) : ∀ n, (List.range n).foldl (fun a i => a * 2 ^ 8 + f i % 2 ^ 8) 0 < 2 ^ (8 * n)
  | 0 => by simp
  | n + 1 => by
    rw [List.range_succ, List.foldl_append]
    have := fold_lt f n
    have h2 : f n % 2 ^ 8 < 2 ^ 8 := Nat.mod_lt _ (by decide)
    simp only [List.foldl_cons, List.foldl_nil]
    rw [Nat.mul_add, Nat.mul_one, Nat.pow_add]
    omega

theorem fold_byte (f : Nat → Nat) : ∀ n i, i < n → (List.range n).foldl (fun a i => a * 2 ^ 8 + f i % 2 ^ 8) 0 / 2 ^ (8 * (n - 1 - i)) % 2 ^ 8 = f i % 2 ^ 8
  | 0, i, h => by omega
  | n + 1, i, h => by
    rw [List.range_succ, List.foldl_append]
    simp only [List.foldl_cons, List.foldl_nil]
    generalize hF : (List.range n).foldl (fun a i => a * 2 ^ 8 + f i % 2 ^ 8) 0 = F
    by_cases hi : i = n
    · subst hi
      rw [show i + 1 - 1 - i = 0 by omega]
      simp
    · have ih := fold_byte f n i (by omega)
      rw [hF] at ih
      rw [show 8 * (n + 1 - 1 - i) = 8 + 8 * (n - 1 - i) by omega, Nat.pow_add, ← Nat.div_div_eq_div_mul]
      have : (F * 2 ^ 8 + f n % 2 ^ 8) / 2 ^ 8 = F := by
        have h2 : f n % 2 ^ 8 < 2 ^ 8 := Nat.mod_lt _ (by decide)
        omega
      rw [this]; exact ih

theorem kbyte_kof (f : Nat → Nat) (i : Nat) (h : i < 16) : kbyte (kof f) i = f i % 2 ^ 8 := by
  unfold kbyte kof
  have e : ((List.range 16).foldl (fun a i => a * 2 ^ 8 + f i % 2 ^ 8) 0) % 2 ^ 128 = (List.range 16).foldl (fun a i => a * 2 ^ 8 + f i % 2 ^ 8) 0 := Nat.mod_eq_of_lt (fold_lt f 16)
  rw [BitVec.toNat_ofNat, e]
  exact fold_byte f 16 i h

/-- Byte i put anew. -/
def kset (k : Key) (i x : Nat) : Key := kof fun j => if j = i then x else kbyte k j
theorem kbyte_kset (k : Key) (i x j : Nat) (hj : j < 16) (hx : x < 256) : kbyte (kset k i x) j = if j = i then x else kbyte k j := by
  unfold kset
  rw [kbyte_kof _ j hj]
  split
  · omega
  · have := kbyte_lt k j; omega

/-! The key as cells. -/
def kcells (k : Key) : Array Value := ((List.range 16).map fun i => Value.int .u8 (kbyte k i)).toArray
theorem kcells_size (k : Key) : (kcells k).size = 16 := by unfold kcells; simp
theorem kcells_get (k : Key) (i : Nat) (h : i < 16) : (kcells k)[i]? = some (.int .u8 (kbyte k i)) := by unfold kcells; simp [h]
theorem kcells_none (k : Key) (i : Nat) (h : 16 ≤ i) : (kcells k)[i]? = none := by unfold kcells; simp; omega

theorem eq_kcells {A : Array Value} {k : Key} (hs : A.size = 16) (h : ∀ i, i < 16 → A[i]? = some (.int .u8 (kbyte k i))) : A = kcells k := by
  apply Array.ext_getElem?
  intro i
  rcases Nat.lt_or_ge i 16 with hi | hi
  · rw [h i hi, kcells_get k i hi]
  · rw [kcells_none k i hi]; simp; omega

theorem kcells_set (k : Key) (i x : Nat) (hi : i < 16) (hx : x < 256) : (kcells k).setIfInBounds i (.int .u8 x) = kcells (kset k i x) := by
  refine eq_kcells (by simp [kcells_size]) fun j hj => ?_
  rw [Array.getElem?_setIfInBounds, kbyte_kset k i x j hj hx]
  by_cases h : i = j
  · subst h; simp [kcells_size, hi]
  · rw [if_neg h, if_neg (fun e => h e.symm), kcells_get k j hj]

theorem kcells_inj {a b : Key} (h : kcells a = kcells b) : a = b := key_ext_byte fun i hi => by
  have h1 := kcells_get a i hi
  rw [h, kcells_get b i hi] at h1
  simp at h1; omega

/-! Cut. -/
def kcut (k : Key) (n : Int) : Key := if n < 1 then 0#128 else (k >>> (128 - n.toNat)) <<< (128 - n.toNat)

theorem kcut_msb (k : Key) (n : Int) (i : Nat) : (kcut k n).getMsbD i = (decide ((i : Int) < n) && k.getMsbD i) := by
  unfold kcut
  split
  · have : ¬ ((i : Int) < n) := by omega
    simp [this]
  · rcases Nat.lt_or_ge i 128 with hi | hi
    · rw [BitVec.getMsbD_shiftLeft, BitVec.getMsbD_ushiftRight]
      by_cases hn : (i : Int) < n
      · have h1 : i + (128 - n.toNat) < 128 := by omega
        have h2 : i + (128 - n.toNat) - (128 - n.toNat) = i := by omega
        simp [hn, h1, h2]
      · have h1 : ¬ i + (128 - n.toNat) < 128 := by omega
        simp [hn, h1]
    · rw [msb_out _ _ hi, msb_out _ _ hi]; simp

theorem kcut_all (k : Key) (n : Int) (h : 128 ≤ n) : kcut k n = k := key_ext fun i hi => by
  rw [kcut_msb]; have : (i : Int) < n := by omega
  simp [this]
theorem kcut_none (k : Key) (n : Int) (h : n < 1) : kcut k n = 0#128 := by unfold kcut; rw [if_pos h]
theorem kcut_cut (k : Key) (n m : Int) : kcut (kcut k n) m = kcut k (min n m) := key_ext fun i _ => by
  rw [kcut_msb, kcut_msb, kcut_msb, ← Bool.and_assoc]
  congr 1
  rw [← Bool.decide_and, decide_eq_decide]; omega
theorem kcut_eq_iff (k q : Key) (n : Int) : kcut k n = kcut q n ↔ ∀ i : Nat, i < 128 → (i : Int) < n → k.getMsbD i = q.getMsbD i := by
  constructor
  · intro h i _ hn
    have h1 := congrArg (·.getMsbD i) h
    simpa [kcut_msb, hn] using h1
  · intro h
    refine key_ext fun i hi => ?_
    rw [kcut_msb, kcut_msb]
    by_cases hn : (i : Int) < n
    · simp [hn, h i hi hn]
    · simp [hn]
/-- A key is its own cut just if nothing stands behind it. -/
theorem kcut_self_iff (k : Key) (n : Int) : kcut k n = k ↔ ∀ i : Nat, i < 128 → n ≤ (i : Int) → k.getMsbD i = false := by
  constructor
  · intro h i hi hn
    rw [← h, kcut_msb]; have : ¬ (i : Int) < n := by omega
    simp [this]
  · intro h
    refine key_ext fun i hi => ?_
    rw [kcut_msb]
    by_cases hn : (i : Int) < n
    · simp [hn]
    · rw [h i hi (by omega)]; simp

/-- Bytes of a cut key. -/
theorem kbyte_kcut (k : Key) (n : Nat) (i : Nat) (hi : i < 16) : kbyte (kcut k n) i = if 8 * i + 8 ≤ n then kbyte k i else if 8 * i ≤ n then kbyte k i / 2 ^ (8 - (n - 8 * i)) * 2 ^ (8 - (n - 8 * i)) else 0 := by
  have hb := kbyte_lt k i
  have hlt : (if 8 * i + 8 ≤ n then kbyte k i else if 8 * i ≤ n then kbyte k i / 2 ^ (8 - (n - 8 * i)) * 2 ^ (8 - (n - 8 * i)) else 0) < 256 := by
    split
    · exact hb
    · split
      · exact Nat.lt_of_le_of_lt (Nat.div_mul_le_self _ _) hb
      · omega
  refine kbyte_of_bits hi hlt fun m hm => ?_
  rw [kcut_msb, msb_kbyte k _ (by omega), show (8 * i + m) / 8 = i by omega, show 7 - (8 * i + m) % 8 = 7 - m by omega]
  split
  · have : ((8 * i + m : Nat) : Int) < (n : Int) := by omega
    simp only [this, decide_true, Bool.true_and]
  · split
    · generalize ht : 8 - (n - 8 * i) = t
      rw [Nat.testBit_mul_two_pow, Nat.testBit_div_two_pow]
      by_cases hlt : ((8 * i + m : Nat) : Int) < (n : Int)
      · have h1 : t ≤ 7 - m := by omega
        simp only [hlt, h1, decide_true, Bool.true_and]
        rw [show 7 - m - t + t = 7 - m by omega]
      · have h1 : ¬ t ≤ 7 - m := by omega
        simp only [hlt, h1, decide_false, Bool.false_and]
    · have : ¬ ((8 * i + m : Nat) : Int) < (n : Int) := by omega
      simp only [this, decide_false, Bool.false_and, Nat.zero_testBit]

/-! Bit. -/
def kbit (k : Key) (n : Int) : Int := if 0 ≤ n ∧ n < 128 then (if k.getMsbD n.toNat then 1 else 0) else 0
theorem testBit_int (x j : Nat) : ((x / 2 ^ j % 2 : Nat) : Int) = if x.testBit j then 1 else 0 := by
  rw [Nat.testBit_eq_decide_div_mod_eq]
  by_cases h : x / 2 ^ j % 2 = 1
  · simp [h]
  · have : x / 2 ^ j % 2 = 0 := by omega
    simp [this]
theorem kbit_eq (k : Key) (n : Int) (h0 : 0 ≤ n) (h1 : n < 128) : kbit k n = ((kbyte k (n / 8).toNat / 2 ^ (7 - n % 8).toNat % 2 : Nat) : Int) := by
  unfold kbit
  rw [if_pos ⟨h0, h1⟩, testBit_int, msb_kbyte k n.toNat (by omega)]
  rw [show (n / 8).toNat = n.toNat / 8 by omega, show (7 - n % 8).toNat = 7 - n.toNat % 8 by omega]
theorem kbit_out (k : Key) (n : Int) (h : n < 0 ∨ 128 ≤ n) : kbit k n = 0 := by unfold kbit; rw [if_neg (by omega)]
theorem kbit_01 (k : Key) (n : Int) : 0 ≤ kbit k n ∧ kbit k n ≤ 1 := by unfold kbit; split <;> (try split) <;> omega
theorem kbit_nat (k : Key) (n : Nat) : kbit k n = if k.getMsbD n then 1 else 0 := by
  unfold kbit
  rcases Nat.lt_or_ge n 128 with h | h
  · rw [if_pos (by omega)]; simp
  · rw [if_neg (by omega), msb_out k n h]; simp
theorem kbit_same {a b : Key} {n : Nat} : kbit a n = kbit b n ↔ a.getMsbD n = b.getMsbD n := by
  rw [kbit_nat, kbit_nat]
  cases a.getMsbD n <;> cases b.getMsbD n <;> simp

/-! Common. -/
def kcommon (a b : Key) : Int := (((List.range 128).find? fun n => a.getMsbD n != b.getMsbD n).getD 128 : Nat)
theorem kcommon_spec (a b : Key) : ∃ m : Nat, kcommon a b = m ∧ m ≤ 128 ∧ (∀ n, n < m → a.getMsbD n = b.getMsbD n) ∧ (m < 128 → a.getMsbD m ≠ b.getMsbD m) := by
  unfold kcommon
  cases h : (List.range 128).find? fun n => a.getMsbD n != b.getMsbD n with
  | none =>
    refine ⟨128, rfl, Nat.le_refl _, fun n hn => ?_, fun h => absurd h (by omega)⟩
    have := List.find?_eq_none.1 h n (List.mem_range.2 hn)
    simpa using this
  | some m =>
    obtain ⟨h1, as, bs, h2, h3⟩ := List.find?_eq_some_iff_append.1 h
    have hm : as.length = m := by
      have h4 := congrArg (·[as.length]?) h2
      simp at h4
      have hl : as.length < 128 := by
        have := congrArg List.length h2
        simp at this; omega
      rw [List.getElem?_range hl] at h4
      simpa using h4
    have hlt : m < 128 := by
      have := congrArg List.length h2
      simp at this; omega
    refine ⟨m, rfl, by omega, fun n hn => ?_, fun _ => by simpa using h1⟩
    have h4 : as[n]? = some n := by
      have h5 := congrArg (·[n]?) h2
      simp only [List.getElem?_range (show n < 128 by omega)] at h5
      rw [List.getElem?_append_left (by omega)] at h5
      exact h5.symm
    have := h3 n (List.mem_of_getElem? h4)
    simpa using this
theorem kcommon_eq {a b : Key} {m : Nat} (h0 : m ≤ 128) (h1 : ∀ n, n < m → a.getMsbD n = b.getMsbD n) (h2 : m < 128 → a.getMsbD m ≠ b.getMsbD m) : kcommon a b = m := by
  obtain ⟨q, e, q0, q1, q2⟩ := kcommon_spec a b
  rw [e]
  rcases Nat.lt_trichotomy q m with h | h | h
  · exact absurd (h1 q h) (q2 (by omega))
  · omega
  · exact absurd (q1 m h) (h2 (by omega))
theorem kcommon_ge {a b : Key} {n : Int} (hn : n ≤ 128) : n ≤ kcommon a b ↔ kcut a n = kcut b n := by
  obtain ⟨q, e, q0, q1, q2⟩ := kcommon_spec a b
  rw [e, kcut_eq_iff]
  constructor
  · intro h i _ hin; exact q1 i (by omega)
  · intro h
    by_cases hq : n ≤ (q : Int)
    · exact hq
    · exact absurd (h q (by omega) (by omega)) (q2 (by omega))

/-- How many bits a byte takes. -/
def len8 (x : Nat) : Nat := if x = 0 then 0 else x.log2 + 1
theorem len8_le (x : Nat) (h : x < 256) : len8 x ≤ 8 := by
  unfold len8; split
  · omega
  · rename_i h0
    have := (Nat.log2_lt h0 (k := 8)).2 h
    omega
/-- The first bit that is set. -/
theorem len8_first (x : Nat) (h0 : x ≠ 0) (h : x < 256) : x.testBit (7 - (8 - len8 x)) = true ∧ ∀ m, m < 8 - len8 x → x.testBit (7 - m) = false := by
  have h8 : len8 x = x.log2 + 1 := by unfold len8; rw [if_neg h0]
  have hl : x.log2 < 8 := (Nat.log2_lt h0).2 h
  refine ⟨?_, fun m hm => ?_⟩
  · rw [h8, show 7 - (8 - (x.log2 + 1)) = x.log2 by omega]
    exact Nat.testBit_log2 h0
  · refine Nat.testBit_lt_two_pow ?_
    exact (Nat.log2_lt h0).1 (by omega)

theorem kcommon_byte {a b : Key} {i : Nat} (hi : i < 16) (hs : ∀ j, j < i → kbyte a j = kbyte b j) (hd : kbyte a i ≠ kbyte b i) : kcommon a b = 8 * i + (8 - len8 (kbyte a i ^^^ kbyte b i)) := by
  have ha := kbyte_lt a i
  have hb := kbyte_lt b i
  have hx : kbyte a i ^^^ kbyte b i < 256 := Nat.xor_lt_two_pow (n := 8) ha hb
  have h0 : kbyte a i ^^^ kbyte b i ≠ 0 := fun e => hd (Nat.eq_of_testBit_eq fun j => by
    have := congrArg (·.testBit j) e
    simp [Nat.testBit_xor] at this; exact this)
  obtain ⟨h1, h2⟩ := len8_first _ h0 hx
  have hl : len8 (kbyte a i ^^^ kbyte b i) ≤ 8 := len8_le _ hx
  have hl0 : 1 ≤ len8 (kbyte a i ^^^ kbyte b i) := by unfold len8; rw [if_neg h0]; omega
  generalize hL : len8 (kbyte a i ^^^ kbyte b i) = L at *
  have := kcommon_eq (a := a) (b := b) (m := 8 * i + (8 - L)) (by omega) (fun n hn => ?_) (fun _ => ?_)
  · rw [this]; omega
  · rw [msb_kbyte a n (by omega), msb_kbyte b n (by omega)]
    by_cases hni : n / 8 = i
    · have h3 := h2 (n % 8) (by omega)
      rw [Nat.testBit_xor] at h3
      rw [hni]; simpa using h3
    · rw [hs (n / 8) (by omega)]
  · rw [msb_kbyte a _ (by omega), msb_kbyte b _ (by omega), show (8 * i + (8 - L)) / 8 = i by omega, show (8 * i + (8 - L)) % 8 = 8 - L by omega]
    rw [Nat.testBit_xor] at h1
    simpa using h1
theorem kcommon_same {a b : Key} (hs : ∀ j, j < 16 → kbyte a j = kbyte b j) : kcommon a b = 128 := by
  rw [key_ext_byte hs]
  exact kcommon_eq (m := 128) (by omega) (fun _ _ => rfl) (fun h => absurd h (by omega))

/-! Step. -/
def kstep (k : Key) (n : Int) : Int := if 0 ≤ n ∧ n < 32 then 8 * kbit k (4 * n) + 4 * kbit k (4 * n + 1) + 2 * kbit k (4 * n + 2) + kbit k (4 * n + 3) else 0
theorem kstep_out (k : Key) (n : Int) (h : n < 0 ∨ 32 ≤ n) : kstep k n = 0 := by unfold kstep; rw [if_neg (by omega)]
theorem kbit_byte (k : Key) (i j : Nat) (hi : i < 16) (hj : j < 8) : kbit k ((8 * i + j : Nat) : Int) = ((kbyte k i / 2 ^ (7 - j) % 2 : Nat) : Int) := by
  rw [kbit_eq k _ (by omega) (by omega)]
  rw [show (((8 * i + j : Nat) : Int) / 8).toNat = i by omega, show (7 - ((8 * i + j : Nat) : Int) % 8).toNat = 7 - j by omega]
theorem nib_hi (b : Nat) (h : b < 256) : 8 * (b / 2 ^ 7 % 2) + 4 * (b / 2 ^ 6 % 2) + 2 * (b / 2 ^ 5 % 2) + b / 2 ^ 4 % 2 = b / 2 ^ 4 := by
  simp only [Nat.reducePow]; omega
theorem nib_lo (b : Nat) : 8 * (b / 2 ^ 3 % 2) + 4 * (b / 2 ^ 2 % 2) + 2 * (b / 2 ^ 1 % 2) + b / 2 ^ 0 % 2 = b % 16 := by
  simp only [Nat.reducePow]; omega
theorem kstep_even (k : Key) (n : Int) (h0 : 0 ≤ n) (h1 : n < 32) (he : n % 2 = 0) : kstep k n = ((kbyte k (n / 2).toNat / 2 ^ 4 : Nat) : Int) := by
  unfold kstep
  rw [if_pos ⟨h0, h1⟩]
  generalize hi : (n / 2).toNat = i
  have e0 : 4 * n = ((8 * i + 0 : Nat) : Int) := by omega
  have e1 : 4 * n + 1 = ((8 * i + 1 : Nat) : Int) := by omega
  have e2 : 4 * n + 2 = ((8 * i + 2 : Nat) : Int) := by omega
  have e3 : 4 * n + 3 = ((8 * i + 3 : Nat) : Int) := by omega
  rw [e1, e2, e3, e0, kbit_byte k i 0 (by omega) (by omega), kbit_byte k i 1 (by omega) (by omega), kbit_byte k i 2 (by omega) (by omega), kbit_byte k i 3 (by omega) (by omega)]
  have := nib_hi (kbyte k i) (kbyte_lt k i)
  simp only [Nat.reduceSub] at *
  omega
theorem kstep_odd (k : Key) (n : Int) (h0 : 0 ≤ n) (h1 : n < 32) (he : n % 2 = 1) : kstep k n = ((kbyte k (n / 2).toNat % 16 : Nat) : Int) := by
  unfold kstep
  rw [if_pos ⟨h0, h1⟩]
  generalize hi : (n / 2).toNat = i
  have e0 : 4 * n = ((8 * i + 4 : Nat) : Int) := by omega
  have e1 : 4 * n + 1 = ((8 * i + 5 : Nat) : Int) := by omega
  have e2 : 4 * n + 2 = ((8 * i + 6 : Nat) : Int) := by omega
  have e3 : 4 * n + 3 = ((8 * i + 7 : Nat) : Int) := by omega
  rw [e1, e2, e3, e0, kbit_byte k i 4 (by omega) (by omega), kbit_byte k i 5 (by omega) (by omega), kbit_byte k i 6 (by omega) (by omega), kbit_byte k i 7 (by omega) (by omega)]
  have := nib_lo (kbyte k i)
  simp only [Nat.reduceSub] at *
  omega

/-! Prefixes. -/
structure Pfx where
  bits : Int
  len : Int
  key : Key
  deriving DecidableEq

def pmay (p : Pfx) : Bool := decide (p.bits = 32 ∨ p.bits = 128) && decide (0 ≤ p.len) && decide (p.len ≤ p.bits) && decide (kcut p.key p.len = p.key)
theorem pmay_iff (p : Pfx) : pmay p = true ↔ (p.bits = 32 ∨ p.bits = 128) ∧ 0 ≤ p.len ∧ p.len ≤ p.bits ∧ kcut p.key p.len = p.key := by
  unfold pmay; simp [and_assoc]
def pfits (p : Pfx) (k : Key) : Bool := pmay p && decide (kcut k p.bits = k) && decide (kcut k p.len = p.key)
def pcovers (p q : Pfx) : Bool := pmay p && pmay q && decide (p.bits = q.bits) && decide (p.len ≤ q.len) && decide (kcut q.key p.len = p.key)
def pless (p q : Pfx) : Bool := pmay p && pmay q && (if p.bits ≠ q.bits then decide (p.bits = 32) else if p.key ≠ q.key then decide (p.key.toNat < q.key.toNat) else decide (p.len < q.len))

def pcells (p : Pfx) : Array Value := #[.int .i64 p.bits, .int .i64 p.len] ++ kcells p.key
theorem pcells_size (p : Pfx) : (pcells p).size = 18 := by unfold pcells; rw [Array.size_append, kcells_size]; rfl
theorem pcells_0 (p : Pfx) : (pcells p)[0]? = some (.int .i64 p.bits) := by unfold pcells; rw [Array.getElem?_append]; rfl
theorem pcells_1 (p : Pfx) : (pcells p)[1]? = some (.int .i64 p.len) := by unfold pcells; rw [Array.getElem?_append]; rfl
theorem pcells_k (p : Pfx) (j : Nat) : (pcells p)[2 + j]? = (kcells p.key)[j]? := by
  unfold pcells; rw [Array.getElem?_append, if_neg (by simp)]; congr 1; simp
theorem pcells_set (p : Pfx) (i x : Nat) (hi : i < 16) (hx : x < 256) : (pcells p).setIfInBounds (2 + i) (.int .u8 x) = pcells ⟨p.bits, p.len, kset p.key i x⟩ := by
  apply Array.ext_getElem?
  intro j
  rw [Array.getElem?_setIfInBounds]
  match j with
  | 0 => rw [if_neg (by omega), pcells_0, pcells_0]
  | 1 => rw [if_neg (by omega), pcells_1, pcells_1]
  | j + 2 =>
    rw [Nat.add_comm j 2, pcells_k, pcells_k]
    show _ = (kcells (kset p.key i x))[j]?
    rw [← kcells_set p.key i x hi hx, Array.getElem?_setIfInBounds, pcells_size, kcells_size]
    by_cases h : i = j
    · subst h; simp [hi]; omega
    · rw [if_neg (by omega), if_neg h]
theorem pcells_kb (p : Pfx) (i : Nat) (hi : i < 16) : (pcells p)[2 + i * 1]? = some (.int .u8 (kbyte p.key i)) := by rw [Nat.mul_one, pcells_k, kcells_get _ i hi]
theorem pcells_setb (p : Pfx) (i x : Nat) (hi : i < 16) (hx : x < 256) : (pcells p).setIfInBounds (2 + i * 1) (.int .u8 x) = pcells ⟨p.bits, p.len, kset p.key i x⟩ := by rw [Nat.mul_one, pcells_set p i x hi hx]
theorem pcells_inj {a b : Pfx} (h : pcells a = pcells b) : a = b := by
  have h0 := pcells_0 a; rw [h, pcells_0] at h0
  have h1 := pcells_1 a; rw [h, pcells_1] at h1
  have h2 : a.key = b.key := kcells_inj (Array.ext_getElem? fun i => by rw [← pcells_k, ← pcells_k, h])
  cases a; cases b
  simp at h0 h1 h2 ⊢
  exact ⟨h0.symm, h1.symm, h2⟩

/-! The order of keys is that of their bytes. -/
theorem kof_kbyte (k : Key) : kof (kbyte k) = k := key_ext_byte fun i hi => by
  rw [kbyte_kof _ i hi]; have := kbyte_lt k i; omega
theorem key_lt_of_byte {a b : Key} {i : Nat} (hi : i < 16) (hs : ∀ j, j < i → kbyte a j = kbyte b j) (hd : kbyte a i < kbyte b i) : a.toNat < b.toNat := by
  have key : ∀ n, n ≤ 16 → i < n → (List.range n).foldl (fun x j => x * 2 ^ 8 + kbyte a j % 2 ^ 8) 0 < (List.range n).foldl (fun x j => x * 2 ^ 8 + kbyte b j % 2 ^ 8) 0 := by
    intro n
    induction n with
    | zero => intro _ h; omega
    | succ n ih =>
      intro hn hin
      rw [List.range_succ, List.foldl_append, List.foldl_append]
      simp only [List.foldl_cons, List.foldl_nil]
      have ha := kbyte_lt a n
      have hb := kbyte_lt b n
      by_cases h : i = n
      · subst h
        have e : (List.range i).foldl (fun x j => x * 2 ^ 8 + kbyte a j % 2 ^ 8) 0 = (List.range i).foldl (fun x j => x * 2 ^ 8 + kbyte b j % 2 ^ 8) 0 := by
          have aux : ∀ (l : List Nat) (z : Nat), (∀ j ∈ l, kbyte a j = kbyte b j) → l.foldl (fun x j => x * 2 ^ 8 + kbyte a j % 2 ^ 8) z = l.foldl (fun x j => x * 2 ^ 8 + kbyte b j % 2 ^ 8) z := by
            intro l
            induction l with
            | nil => intro z _; rfl
            | cons x l ih => intro z hl; simp only [List.foldl_cons]; rw [hl x (by simp)]; exact ih _ fun j hj => hl j (by simp [hj])
          exact aux _ _ fun j hj => hs j (List.mem_range.1 hj)
        rw [e]; omega
      · have := ih (by omega) (by omega); omega
  have h16 := key 16 (Nat.le_refl _) hi
  have ea : a.toNat = (List.range 16).foldl (fun x j => x * 2 ^ 8 + kbyte a j % 2 ^ 8) 0 := by
    conv => lhs; rw [← kof_kbyte a]
    unfold kof; rw [BitVec.toNat_ofNat]; exact Nat.mod_eq_of_lt (fold_lt (kbyte a) 16)
  have eb : b.toNat = (List.range 16).foldl (fun x j => x * 2 ^ 8 + kbyte b j % 2 ^ 8) 0 := by
    conv => lhs; rw [← kof_kbyte b]
    unfold kof; rw [BitVec.toNat_ofNat]; exact Nat.mod_eq_of_lt (fold_lt (kbyte b) 16)
  rw [ea, eb]; exact h16
theorem lt_of_bits {x y : Nat} (i : Nat) (hx : x.testBit i = false) (hy : y.testBit i = true) (h : ∀ j, i < j → x.testBit j = y.testBit j) : x < y := by
  have e : x / 2 ^ (i + 1) = y / 2 ^ (i + 1) := Nat.eq_of_testBit_eq fun j => by
    rw [Nat.testBit_div_two_pow, Nat.testBit_div_two_pow]; exact h _ (by omega)
  rw [Nat.pow_succ, ← Nat.div_div_eq_div_mul, ← Nat.div_div_eq_div_mul] at e
  rw [Nat.testBit_eq_decide_div_mod_eq] at hx hy
  simp at hx hy
  rcases Nat.lt_or_ge x y with h1 | h1
  · exact h1
  · have := Nat.div_le_div_right (c := 2 ^ i) h1
    omega
theorem key_lt_of_bit {a b : Key} {n : Nat} (hn : n < 128) (hs : ∀ j, j < n → a.getMsbD j = b.getMsbD j) (ha : a.getMsbD n = false) (hb : b.getMsbD n = true) : a.toNat < b.toNat := by
  refine key_lt_of_byte (i := n / 8) (by omega) (fun j hj => ?_) ?_
  · exact kbyte_of_bits (by omega) (kbyte_lt b j) fun m hm => by
      rw [hs _ (by omega), msb_kbyte b _ (by omega)]
      congr 2 <;> omega
  · have h8 : ∀ m, m < n % 8 → (kbyte a (n / 8)).testBit (7 - m) = (kbyte b (n / 8)).testBit (7 - m) := fun m hm => by
      have h1 := hs (8 * (n / 8) + m) (by omega)
      rw [msb_kbyte a _ (by omega), msb_kbyte b _ (by omega)] at h1
      rw [show (8 * (n / 8) + m) / 8 = n / 8 by omega, show (8 * (n / 8) + m) % 8 = m by omega] at h1
      exact h1
    rw [msb_kbyte a n hn] at ha
    rw [msb_kbyte b n hn] at hb
    refine lt_of_bits (7 - n % 8) ha hb fun j hj => ?_
    rcases Nat.lt_or_ge j 8 with h | h
    · have := h8 (7 - j) (by omega)
      rw [show 7 - (7 - j) = j by omega] at this
      exact this
    · have hp : 2 ^ 8 ≤ 2 ^ j := Nat.pow_le_pow_right (by decide) h
      rw [Nat.testBit_lt_two_pow (Nat.lt_of_lt_of_le (kbyte_lt a _) hp), Nat.testBit_lt_two_pow (Nat.lt_of_lt_of_le (kbyte_lt b _) hp)]

/-- -1, 0, 1: how two keys stand to each other. -/
def kcmp (a b : Key) : Int := if a.toNat < b.toNat then -1 else if b.toNat < a.toNat then 1 else 0
theorem kcmp_eq (a b : Key) : kcmp a b = 0 ↔ a = b := by
  unfold kcmp
  constructor
  · intro h
    split at h
    · omega
    · split at h
      · omega
      · exact BitVec.eq_of_toNat_eq (by omega)
  · rintro rfl; simp
theorem kcmp_lt (a b : Key) : kcmp a b < 0 ↔ a.toNat < b.toNat := by
  unfold kcmp; split
  · simp [*]
  · split <;> simp [*]

/-! Prefixes: what fits, bit by bit. -/
theorem pfits_iff (p : Pfx) (k : Key) : pfits p k = true ↔ pmay p = true ∧ kcut k p.bits = k ∧ kcut k p.len = p.key := by
  unfold pfits; simp [and_assoc]
theorem pcovers_iff (p q : Pfx) : pcovers p q = true ↔ pmay p = true ∧ pmay q = true ∧ p.bits = q.bits ∧ p.len ≤ q.len ∧ kcut q.key p.len = p.key := by
  unfold pcovers; simp [and_assoc]
theorem pfits_bits (p : Pfx) (k : Key) (h : pmay p = true) : pfits p k = true ↔ ∀ i : Nat, i < 128 → ((i : Int) < p.len → p.key.getMsbD i = k.getMsbD i) ∧ (p.bits ≤ (i : Int) → k.getMsbD i = false) := by
  rw [pfits_iff]
  obtain ⟨_, h2, h3, h4⟩ := (pmay_iff p).1 h
  constructor
  · rintro ⟨_, h5, h6⟩ i hi
    refine ⟨fun hl => ?_, fun hb => (kcut_self_iff k p.bits).1 h5 i hi hb⟩
    have := congrArg (·.getMsbD i) h6
    simp only [kcut_msb, hl, decide_true, Bool.true_and] at this
    exact this.symm
  · intro hh
    refine ⟨h, (kcut_self_iff k p.bits).2 fun i hi hb => (hh i hi).2 hb, ?_⟩
    rw [← h4]
    exact (kcut_eq_iff k p.key p.len).2 fun i hi hl => ((hh i hi).1 hl).symm
theorem pmay_bits (p : Pfx) : pmay p = true ↔ (p.bits = 32 ∨ p.bits = 128) ∧ 0 ≤ p.len ∧ p.len ≤ p.bits ∧ ∀ i : Nat, i < 128 → p.len ≤ (i : Int) → p.key.getMsbD i = false := by
  rw [pmay_iff, kcut_self_iff]

/-! The laws of layer 1, of these alone. -/
theorem kcut_le (k : Key) (n : Int) : (kcut k n).toNat ≤ k.toNat := by
  rcases Nat.lt_or_ge k.toNat (kcut k n).toNat with h | h
  · exfalso
    by_cases e : kcut k n = k
    · rw [e] at h; omega
    · obtain ⟨m, e1, m0, m1, m2⟩ := kcommon_spec (kcut k n) k
      have hm : m < 128 := by
        rcases Nat.lt_or_ge m 128 with hm | hm
        · exact hm
        · exact absurd (key_ext fun i hi => m1 i (by omega)) e
      have hd := m2 hm
      rw [kcut_msb] at hd
      have hb : k.getMsbD m = true := by
        cases hb : k.getMsbD m with
        | true => rfl
        | false => rw [hb] at hd; simp at hd
      have := key_lt_of_bit hm m1 (by rw [kcut_msb]; rw [hb] at hd ⊢; simpa using hd) hb
      omega
  · exact h
theorem covers_of_fits {p q : Pfx} {k : Key} (hp : pfits p k = true) (hq : pfits q k = true) (hb : p.bits = q.bits) (hl : p.len ≤ q.len) : pcovers p q = true := by
  rw [pfits_iff] at hp hq
  refine (pcovers_iff p q).2 ⟨hp.1, hq.1, hb, hl, ?_⟩
  rw [← hq.2.2, kcut_cut, ← hp.2.2]; congr 1; omega
theorem law_covers2 {p q : Pfx} {k : Key} : (pfits p k && pfits q k && decide (p.bits = q.bits) && !pcovers p q && !pcovers q p) = false := by
  rw [← Bool.not_eq_true]
  simp only [Bool.and_eq_true, Bool.not_eq_true', decide_eq_true_eq]
  rintro ⟨⟨⟨⟨h1, h2⟩, h3⟩, h4⟩, h5⟩
  rcases Int.le_total p.len q.len with h | h
  · rw [covers_of_fits h1 h2 h3 h] at h4; cases h4
  · rw [covers_of_fits h2 h1 h3.symm h] at h5; cases h5
theorem law_covers1 {p q : Pfx} {k : Key} (h : (!pmay p || !pmay q) = true) : (!pcovers p q && !pless p q && !(pfits p k && !pmay p)) = true := by
  simp only [Bool.or_eq_true, Bool.not_eq_true'] at h
  have h1 : pcovers p q = false := by unfold pcovers; rcases h with h | h <;> simp [h]
  have h2 : pless p q = false := by unfold pless; rcases h with h | h <;> simp [h]
  have h3 : (pfits p k && !pmay p) = false := by unfold pfits; cases pmay p <;> simp
  rw [h1, h2, h3]; rfl
theorem covers_less {p q : Pfx} (h : pcovers p q = true) : pless q p = false := by
  obtain ⟨h1, h2, h3, h4, h5⟩ := (pcovers_iff p q).1 h
  have hle := kcut_le q.key p.len
  rw [h5] at hle
  unfold pless
  rw [h1, h2, if_neg (by simp [h3])]
  by_cases e : q.key = p.key
  · rw [if_neg (by simp [e])]; simp; omega
  · rw [if_pos e]; simp; omega
theorem covers_fits {p q : Pfx} {k : Key} (h : pcovers p q = true) (hq : pfits q k = true) : pfits p k = true := by
  obtain ⟨h1, h2, h3, h4, h5⟩ := (pcovers_iff p q).1 h
  obtain ⟨_, q2, q3⟩ := (pfits_iff q k).1 hq
  refine (pfits_iff p k).2 ⟨h1, by rw [h3]; exact q2, ?_⟩
  rw [← h5, ← q3, kcut_cut]; congr 1; omega
theorem covers_anti {p q : Pfx} (h : pcovers p q = true) (h' : pcovers q p = true) : p = q := by
  obtain ⟨h1, h2, h3, h4, h5⟩ := (pcovers_iff p q).1 h
  obtain ⟨_, _, _, g4, _⟩ := (pcovers_iff q p).1 h'
  obtain ⟨_, _, _, q4⟩ := (pmay_iff q).1 h2
  have hl : p.len = q.len := by omega
  have hk : p.key = q.key := by rw [← h5, hl, q4]
  cases p; cases q; simp_all
theorem law_covers4 {p q : Pfx} {k : Key} (h : (!pcovers p q) = false) : (!pless q p && (!pfits q k || pfits p k) && (decide (p = q) || !pcovers q p)) = true := by
  have h : pcovers p q = true := by simpa using h
  rw [covers_less h]
  have h2 : (!pfits q k || pfits p k) = true := by
    cases hq : pfits q k with
    | false => rfl
    | true => rw [covers_fits h hq]; rfl
  have h3 : (decide (p = q) || !pcovers q p) = true := by
    cases hq : pcovers q p with
    | false => simp
    | true => simp [covers_anti h hq]
  rw [h2, h3]; rfl
theorem pless_iff {p q : Pfx} (hp : pmay p = true) (hq : pmay q = true) : pless p q = true ↔ p.bits < q.bits ∨ (p.bits = q.bits ∧ (p.key.toNat < q.key.toNat ∨ (p.key.toNat = q.key.toNat ∧ p.len < q.len))) := by
  obtain ⟨p1, _⟩ := (pmay_iff p).1 hp
  obtain ⟨q1, _⟩ := (pmay_iff q).1 hq
  have ek : p.key = q.key ↔ p.key.toNat = q.key.toNat := ⟨fun h => by rw [h], BitVec.eq_of_toNat_eq⟩
  unfold pless
  rw [hp, hq, Bool.true_and, Bool.true_and]
  by_cases hb : p.bits = q.bits
  · rw [if_neg (by simpa using hb)]
    by_cases hk : p.key = q.key
    · rw [if_neg (by simpa using hk)]; rw [ek] at hk; simp; omega
    · rw [if_pos hk]; rw [ek] at hk; simp; omega
  · rw [if_pos hb]; simp; omega
theorem pfx_eq {p q : Pfx} : p = q ↔ p.bits = q.bits ∧ p.key.toNat = q.key.toNat ∧ p.len = q.len := by
  constructor
  · rintro rfl; exact ⟨rfl, rfl, rfl⟩
  · rintro ⟨h1, h2, h3⟩
    have := BitVec.eq_of_toNat_eq h2
    cases p; cases q; simp_all
theorem law_order {p q r : Pfx} (h : ((!pmay p || !pmay q) || !pmay r) = false) :
    ((decide (p = q) == (!pless p q && !pless q p)) && !(pless p q && pless q p) && ((!pless p q || !pless q r) || pless p r)) = true := by
  simp only [Bool.or_eq_false_iff, Bool.not_eq_false'] at h
  obtain ⟨⟨hp, hq⟩, hr⟩ := h
  have a1 := pless_iff hp hq
  have a2 := pless_iff hq hp
  have a3 := pless_iff hq hr
  have a4 := pless_iff hp hr
  have e := pfx_eq (p := p) (q := q)
  have h1 : decide (p = q) = (!pless p q && !pless q p) := by
    rw [Bool.eq_iff_iff, decide_eq_true_eq, Bool.and_eq_true, Bool.not_eq_true', Bool.not_eq_true', ← Bool.not_eq_true, ← Bool.not_eq_true, a1, a2, e]; omega
  have h2 : (pless p q && pless q p) = false := by
    rw [← Bool.not_eq_true, Bool.and_eq_true, a1, a2]; omega
  have h3 : ((!pless p q || !pless q r) || pless p r) = true := by
    rw [Bool.or_eq_true, Bool.or_eq_true, Bool.not_eq_true', Bool.not_eq_true', ← Bool.not_eq_true, ← Bool.not_eq_true, a1, a3, a4]; omega
  rw [h2, h3, h1]; simp
/-- A prefix that is one bit longer. -/
theorem flip_byte (k : Key) (n : Nat) (i : Nat) (hi : i < 128) :
    (kset k (n / 8) (kbyte k (n / 8) ^^^ 128 / 2 ^ (n % 8))).getMsbD i = (k.getMsbD i ^^ decide (i = n)) := by
  have h128 : 128 / 2 ^ (n % 8) = 2 ^ (7 - n % 8) := by
    have : n % 8 < 8 := Nat.mod_lt _ (by decide)
    match n % 8, this with
    | 0, _ | 1, _ | 2, _ | 3, _ | 4, _ | 5, _ | 6, _ | 7, _ => rfl
  have hlt : kbyte k (n / 8) ^^^ 128 / 2 ^ (n % 8) < 256 := Nat.xor_lt_two_pow (n := 8) (kbyte_lt _ _) (by rw [h128]; exact Nat.pow_lt_pow_right (by decide) (by omega))
  rw [msb_kbyte _ i hi, msb_kbyte k i hi, kbyte_kset k _ _ _ (by omega) hlt]
  by_cases e : i / 8 = n / 8
  · rw [if_pos e, e, Nat.testBit_xor, h128, Nat.testBit_two_pow]
    congr 1
    rw [decide_eq_decide]; omega
  · rw [if_neg e]
    have : ¬ i = n := fun h => e (by rw [h])
    simp [this]
theorem own_fits {p : Pfx} {k : Key} (hp : pmay p = true) (hk : kcut k p.bits = k) (hl : p.len ≠ p.bits) : pfits ⟨p.bits, p.len + 1, kcut k (p.len + 1)⟩ k = true := by
  obtain ⟨h1, h2, h3, h4⟩ := (pmay_iff p).1 hp
  refine (pfits_iff _ _).2 ⟨(pmay_iff _).2 ⟨h1, by show (0 : Int) ≤ p.len + 1; omega, by show p.len + 1 ≤ p.bits; omega, ?_⟩, hk, rfl⟩
  show kcut (kcut k (p.len + 1)) (p.len + 1) = _
  rw [kcut_cut]; congr 1; omega
theorem other_may {p : Pfx} {k o : Key} (hp : pmay p = true) (hl : p.len ≠ p.bits) (ho : ∀ i, i < 128 → o.getMsbD i = ((kcut k (p.len + 1)).getMsbD i ^^ decide (i = p.len.toNat))) : pmay ⟨p.bits, p.len + 1, o⟩ = true := by
  obtain ⟨h1, h2, h3, h4⟩ := (pmay_iff p).1 hp
  refine (pmay_bits _).2 ⟨h1, by show (0 : Int) ≤ p.len + 1; omega, by show p.len + 1 ≤ p.bits; omega, fun i hi hb => ?_⟩
  have hb' : p.len + 1 ≤ (i : Int) := hb
  show o.getMsbD i = false
  rw [ho i hi, kcut_msb, decide_eq_false (show ¬ (i : Int) < p.len + 1 by omega), decide_eq_false (show ¬ i = p.len.toNat by omega)]; rfl
theorem law_steps {p : Pfx} {k o : Key} (hp : pmay p = true) (hk : kcut k p.bits = k) (hf : pfits p k = true) (hl : p.len ≠ p.bits) (ho : ∀ i, i < 128 → o.getMsbD i = ((kcut k (p.len + 1)).getMsbD i ^^ decide (i = p.len.toNat))) :
    (pfits ⟨p.bits, p.len + 1, kcut k (p.len + 1)⟩ k && !pfits ⟨p.bits, p.len + 1, o⟩ k && pcovers p ⟨p.bits, p.len + 1, kcut k (p.len + 1)⟩ && pcovers p ⟨p.bits, p.len + 1, o⟩ && !pcovers ⟨p.bits, p.len + 1, kcut k (p.len + 1)⟩ ⟨p.bits, p.len + 1, o⟩) = true := by
  obtain ⟨h1, h2, h3, h4⟩ := (pmay_iff p).1 hp
  have hfit := own_fits hp hk hl
  have hown := ((pfits_iff _ _).1 hfit).1
  have hom := other_may hp hl ho
  have hpk := ((pfits_iff p k).1 hf).2.2
  obtain ⟨m, hm⟩ := Int.eq_ofNat_of_zero_le h2
  have hm128 : m < 128 := by omega
  -- the bit that is turned
  have hbit : o.getMsbD m ≠ k.getMsbD m := by
    rw [ho m hm128, kcut_msb, decide_eq_true (show (m : Int) < p.len + 1 by omega), decide_eq_true (show m = p.len.toNat by omega)]
    cases k.getMsbD m <;> simp
  have hrest : ∀ i : Nat, i < 128 → (i : Int) < p.len → o.getMsbD i = k.getMsbD i := fun i hi hlt => by
    rw [ho i hi, kcut_msb, decide_eq_true (show (i : Int) < p.len + 1 by omega), decide_eq_false (show ¬ i = p.len.toNat by omega)]; simp
  have b2 : pfits ⟨p.bits, p.len + 1, o⟩ k = false := by
    rw [← Bool.not_eq_true, pfits_bits _ _ hom]
    intro h
    exact hbit ((h m hm128).1 (show (m : Int) < p.len + 1 by omega))
  have b3 : pcovers p ⟨p.bits, p.len + 1, kcut k (p.len + 1)⟩ = true := by
    refine (pcovers_iff _ _).2 ⟨hp, hown, rfl, by show p.len ≤ p.len + 1; omega, ?_⟩
    show kcut (kcut k (p.len + 1)) p.len = p.key
    rw [kcut_cut, ← hpk]; congr 1; omega
  have b4 : pcovers p ⟨p.bits, p.len + 1, o⟩ = true := by
    refine (pcovers_iff _ _).2 ⟨hp, hom, rfl, by show p.len ≤ p.len + 1; omega, ?_⟩
    show kcut o p.len = p.key
    rw [← hpk, kcut_eq_iff]
    exact fun i hi hlt => hrest i hi hlt
  have b5 : pcovers ⟨p.bits, p.len + 1, kcut k (p.len + 1)⟩ ⟨p.bits, p.len + 1, o⟩ = false := by
    rw [← Bool.not_eq_true, pcovers_iff]
    rintro ⟨_, _, _, _, h⟩
    have h : kcut o (p.len + 1) = kcut k (p.len + 1) := h
    exact hbit ((kcut_eq_iff _ _ _).1 h m hm128 (by omega))
  rw [hfit, b2, b3, b4, b5]; rfl
/-- The whole steps and the bits behind them. -/
def stepsFit (p : Pfx) (k : Key) (n : Nat) : Bool := (List.range n).all fun i => decide (kstep p.key i = kstep k i)
def bitsFit (p : Pfx) (k : Key) (m n : Nat) : Bool := (List.range' m (n - m)).all fun i => decide (kbit p.key i = kbit k i)
theorem stepsFit_succ (p : Pfx) (k : Key) (n : Nat) : stepsFit p k (n + 1) = (stepsFit p k n && decide (kstep p.key n = kstep k n)) := by
  unfold stepsFit; rw [List.range_succ, List.all_append]; simp
theorem bitsFit_succ (p : Pfx) (k : Key) (m n : Nat) (h : m ≤ n) : bitsFit p k m (n + 1) = (bitsFit p k m n && decide (kbit p.key n = kbit k n)) := by
  unfold bitsFit
  rw [show n + 1 - m = (n - m) + 1 by omega, List.range'_concat, List.all_append]
  simp [show m + (n - m) = n by omega]
theorem kstep_bits {a b : Key} {n : Nat} (hn : n < 32) : kstep a n = kstep b n ↔ ∀ j, j < 4 → a.getMsbD (4 * n + j) = b.getMsbD (4 * n + j) := by
  have e : ∀ k : Key, kstep k n = 8 * kbit k ((4 * n + 0 : Nat) : Int) + 4 * kbit k ((4 * n + 1 : Nat) : Int) + 2 * kbit k ((4 * n + 2 : Nat) : Int) + kbit k ((4 * n + 3 : Nat) : Int) := fun k => by
    unfold kstep; rw [if_pos (by omega)]
    simp only [Nat.add_zero, Int.natCast_add, Int.natCast_mul]
    rfl
  rw [e a, e b]
  constructor
  · intro h
    have f : ∀ (k : Key) (j : Nat), 0 ≤ kbit k j ∧ kbit k j ≤ 1 := fun k j => kbit_01 k j
    have a0 := f a (4 * n + 0); have a1 := f a (4 * n + 1); have a2 := f a (4 * n + 2); have a3 := f a (4 * n + 3)
    have b0 := f b (4 * n + 0); have b1 := f b (4 * n + 1); have b2 := f b (4 * n + 2); have b3 := f b (4 * n + 3)
    intro j hj
    rw [← kbit_same]
    match j, hj with
    | 0, _ | 1, _ | 2, _ | 3, _ => omega
  · intro h
    rw [kbit_same.2 (h 0 (by omega)), kbit_same.2 (h 1 (by omega)), kbit_same.2 (h 2 (by omega)), kbit_same.2 (h 3 (by omega))]
theorem fits_steps {p : Pfx} {k : Key} (hp : pmay p = true) (hk : kcut k p.bits = k) : pfits p k = (stepsFit p k (p.len / 4).toNat && bitsFit p k (p.len / 4 * 4).toNat p.len.toNat) := by
  obtain ⟨h1, h2, h3, h4⟩ := (pmay_iff p).1 hp
  obtain ⟨m, hm⟩ := Int.eq_ofNat_of_zero_le h2
  rw [Bool.eq_iff_iff, pfits_iff, Bool.and_eq_true]
  unfold stepsFit bitsFit
  simp only [List.all_eq_true, List.mem_range, List.mem_range'_1, decide_eq_true_eq]
  constructor
  · rintro ⟨_, _, h⟩
    rw [← h4, kcut_eq_iff] at h
    refine ⟨fun i hi => (kstep_bits (by omega)).2 fun j hj => (h _ (by omega) (by omega)).symm, fun i hi => kbit_same.2 (h i (by omega) (by omega)).symm⟩
  · rintro ⟨hs, hb⟩
    refine ⟨hp, hk, ?_⟩
    rw [← h4, kcut_eq_iff]
    intro i hi hlt
    by_cases hc : i / 4 < (p.len / 4).toNat
    · have := (kstep_bits (by omega)).1 (hs (i / 4) hc) (i % 4) (by omega)
      rw [show 4 * (i / 4) + i % 4 = i by omega] at this
      exact this.symm
    · exact (kbit_same.1 (hb i (by omega))).symm
/-- What is cut, bit by bit. -/
theorem law_cuts1 (k : Key) (n m : Int) : (!decide (kcut (kcut k n) m = kcut k (min n m)) || decide (kcommon (kcut k n) k < min n 128)) = false := by
  have h1 : kcut (kcut k n) m = kcut k (min n m) := kcut_cut k n m
  have h2 : min n 128 ≤ kcommon (kcut k n) k := (kcommon_ge (by omega)).2 (by rw [kcut_cut]; congr 1; omega)
  simp [h1]; omega
theorem law_cuts2 (k : Key) (n i : Int) : (decide (i < n) && !decide (kbit (kcut k n) i = kbit k i) || decide (n ≤ i) && !decide (kbit (kcut k n) i = 0)) = false := by
  have hb : kbit (kcut k n) i = if i < n then kbit k i else 0 := by
    unfold kbit
    by_cases h : 0 ≤ i ∧ i < 128
    · rw [if_pos h, if_pos h, kcut_msb, show ((i.toNat : Nat) : Int) = i by omega]
      by_cases hn : i < n <;> simp [hn]
    · rw [if_neg h, if_neg h]; simp
  by_cases h : i < n
  · rw [hb, if_pos h]; simp; intro h2; omega
  · rw [hb, if_neg h]; simp [h]
theorem law_cuts3 (k : Key) (i : Int) (h0 : 0 ≤ i) (h1 : i < 32) : kstep k i = 8 * kbit k (4 * i) + 4 * kbit k (4 * i + 1) + 2 * kbit k (4 * i + 2) + kbit k (4 * i + 3) := by
  unfold kstep; rw [if_pos ⟨h0, h1⟩]

end Go.Kb
