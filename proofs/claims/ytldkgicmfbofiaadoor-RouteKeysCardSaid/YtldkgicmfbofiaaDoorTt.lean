/- Numbers in texts, read byte by byte. No program in sight. -/
import Derived.Test.YtldkgicmfbofiaaDoorRb
set_option linter.unusedSimpArgs false
set_option linter.unusedVariables false
namespace Go.Kb
open Go.Eng
variable {s : Txt} {i n top : Nat} {c : UInt8}
def hexI (c : UInt8) : Int := match hexO c with
  | some n => (n : Int)
  | none => -1
def numI (s : Txt) (top : Nat) : Int := match numO s top with
  | some n => (n : Int)
  | none => -1
theorem take_getD (h : i < s.length) : s.take (i + 1) = s.take i ++ [s.getD i 0] := by
  rw [List.take_succ_eq_append_getElem h]; simp [List.getD, h]
theorem val_take (h : i < s.length) : val (s.take (i + 1)) = 10 * val (s.take i) + ((s.getD i 0).toNat - 48) := by rw [take_getD h, val_snoc]
theorem dig_take (h : i < s.length) (h1 : (s.take i).all dig = true) (h2 : 48 ≤ (s.getD i 0).toNat ∧ (s.getD i 0).toNat ≤ 57) : (s.take (i + 1)).all dig = true := by
  rw [take_getD h, List.all_append, h1]
  simp only [List.all_cons, List.all_nil, dig]
  simpa using h2
theorem val_lt : ∀ k (s : Txt), s.length = k → s.all dig = true → val s < 10 ^ k := by
  intro k
  induction k with
  | zero => intro s hl _; rw [List.length_eq_zero_iff.1 hl]; simp [val]
  | succ k ih =>
    intro s hl hd
    obtain ⟨t, c, rfl⟩ : ∃ t c, s = t ++ [c] := by
      rcases List.eq_nil_or_concat s with h | ⟨t, c, h⟩
      · subst h; simp at hl
      · exact ⟨t, c, by simpa using h⟩
    rw [List.all_append, Bool.and_eq_true] at hd
    have hc : 48 ≤ c.toNat ∧ c.toNat ≤ 57 := by
      have := hd.2
      simpa [dig] using this
    have := ih t (by simpa using hl) hd.1
    rw [val_snoc, Nat.pow_succ]; omega
theorem take_lt (h : i ≤ 5) (hi : i ≤ s.length) (h1 : (s.take i).all dig = true) : val (s.take i) < 100000 := by
  have := val_lt i (s.take i) (by simp; omega) h1
  exact Nat.lt_of_lt_of_le this (Nat.pow_le_pow_right (by decide) h)
theorem val_mono (a b : Txt) : val a ≤ val (a ++ b) := by
  have key : ∀ (b : Txt) (m : Nat), m ≤ b.foldl (fun a c => 10 * a + (c.toNat - 48)) m := by
    intro b
    induction b with
    | nil => intro m; exact Nat.le_refl _
    | cons x b ih => intro m; exact Nat.le_trans (show m ≤ 10 * m + (x.toNat - 48) by omega) (ih _)
  unfold val
  rw [List.foldl_append]; exact key b _
theorem head_getD (h : 0 < s.length) : s.head? = some (s.getD 0 0) := by
  cases s with
  | nil => simp at h
  | cons x s => rfl
theorem num_bad (ht : top ≤ 65535) (h : s.length = 0 ∨ 5 < s.length ∨ (1 < s.length ∧ (s.getD 0 0).toNat = 48)) : numO s top = none := by
  cases e : numO s top with
  | none => rfl
  | some n =>
    obtain ⟨rfl, hn⟩ := num_iff.1 e
    have hl := dec_len 5 n (by omega) (by decide)
    have hp := dec_plain n
    have h0 := List.length_pos_iff.2 hp.1
    rcases h with h | h | ⟨h, h2⟩
    · omega
    · omega
    · rcases hp.2 with h3 | h3
      · omega
      · rw [head_getD h0] at h3
        exact absurd (congrArg some (UInt8.toNat_inj.1 h2 : (dec n).getD 0 0 = 48)) h3
theorem num_head (h : s = [] ∨ (1 < s.length ∧ (s.getD 0 0).toNat = 48)) : numO s top = none := by
  cases e : numO s top with
  | none => rfl
  | some n =>
    obtain ⟨rfl, hn⟩ := num_iff.1 e
    have hp := dec_plain n
    have h0 := List.length_pos_iff.2 hp.1
    rcases h with h | ⟨h, h2⟩
    · exact absurd h hp.1
    · rcases hp.2 with h3 | h3
      · omega
      · rw [head_getD h0] at h3
        exact absurd (congrArg some (UInt8.toNat_inj.1 h2 : (dec n).getD 0 0 = 48)) h3
theorem num_char (h : i < s.length) (h2 : (s.getD i 0).toNat < 48 ∨ 57 < (s.getD i 0).toNat) : numO s top = none := by
  cases e : numO s top with
  | none => rfl
  | some n =>
    obtain ⟨rfl, hn⟩ := num_iff.1 e
    have := List.all_eq_true.1 (dec_all n) ((dec n).getD i 0) (by simp [List.getD, h])
    simp only [dig, decide_eq_true_eq] at this; omega
theorem num_big (h : top < val (s.take i)) : numO s top = none := by
  cases e : numO s top with
  | none => rfl
  | some n =>
    obtain ⟨rfl, hn⟩ := num_iff.1 e
    have := val_mono ((dec n).take i) ((dec n).drop i)
    rw [List.take_append_drop, val_dec] at this; omega
theorem num_ok (h : s ≠ []) (h1 : ¬ (1 < s.length ∧ (s.getD 0 0).toNat = 48)) (h2 : s.all dig = true) (h3 : val s ≤ top) : numO s top = some (val s) := by
  unfold numO
  rw [if_pos]
  refine ⟨h, ?_, h2, h3⟩
  have h0 := List.length_pos_iff.2 h
  rcases Nat.lt_or_ge 1 s.length with h4 | h4
  · right
    rw [head_getD h0]
    intro e
    exact h1 ⟨h4, by rw [Option.some.inj e]; rfl⟩
  · exact .inl h4
end Go.Kb
