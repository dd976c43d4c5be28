/- Numerals, and texts cut at a sign. No program in sight. -/
import Derived.Lib.ItoaNum
set_option linter.unusedSimpArgs false
set_option linter.unusedVariables false
namespace Go.Eng
abbrev Txt := List UInt8
def dec (n : Nat) : Txt := Lib.decDigits n
variable {n top : Nat} {s t : Txt} {c : UInt8}
theorem dec_small (h : n < 10) : dec n = [UInt8.ofNat (48 + n)] := by rw [dec, Lib.decDigits, dif_pos h]
theorem dec_step (h : 10 ≤ n) : dec n = dec (n / 10) ++ [UInt8.ofNat (48 + n % 10)] := by
  rw [dec, Lib.decDigits, dif_neg (by omega)]; rfl
def dig (c : UInt8) : Bool := decide (48 ≤ c.toNat ∧ c.toNat ≤ 57)
def val (s : Txt) : Nat := s.foldl (fun a c => 10 * a + (c.toNat - 48)) 0
theorem val_snoc : val (s ++ [c]) = 10 * val s + (c.toNat - 48) := by simp [val, List.foldl_append]
theorem ofNat_dig {d : Nat} (h : d < 10) : (UInt8.ofNat (48 + d)).toNat = 48 + d := by
  rw [UInt8.toNat_ofNat']; omega
theorem dec_all : ∀ n, (dec n).all dig = true := by
  intro n
  induction n using Nat.strongRecOn with
  | _ n ih =>
    rcases Nat.lt_or_ge n 10 with h | h
    · rw [dec_small h]
      have := ofNat_dig h
      simp [dig, this]; omega
    · rw [dec_step h, List.all_append, ih (n / 10) (by omega)]
      have := ofNat_dig (Nat.mod_lt n (show 0 < 10 by decide))
      simp [dig, this]; omega
theorem val_dec : ∀ n, val (dec n) = n := by
  intro n
  induction n using Nat.strongRecOn with
  | _ n ih =>
    rcases Nat.lt_or_ge n 10 with h | h
    · rw [dec_small h]
      have := ofNat_dig h
      simp [val]; omega
    · rw [dec_step h, val_snoc, ih (n / 10) (by omega), ofNat_dig (Nat.mod_lt n (by decide))]; omega
theorem dec_ne : dec n ≠ [] := by
  rcases Nat.lt_or_ge n 10 with h | h
  · rw [dec_small h]; simp
  · rw [dec_step h]; simp
theorem dec_inj {a b : Nat} (h : dec a = dec b) : a = b := by rw [← val_dec a, h, val_dec]
/-- No zero stands ahead. -/
def plainN (s : Txt) : Prop := s ≠ [] ∧ (s.length ≤ 1 ∨ s.head? ≠ some 48)
theorem dec_head : ∀ n, 0 < n → (dec n).head? ≠ some 48 := by
  intro n
  induction n using Nat.strongRecOn with
  | _ n ih =>
    intro hn
    rcases Nat.lt_or_ge n 10 with h | h
    · rw [dec_small h]
      intro e
      simp only [List.head?_cons, Option.some.injEq] at e
      have h2 := congrArg UInt8.toNat e
      rw [ofNat_dig h] at h2
      have : (48 : UInt8).toNat = 48 := rfl
      omega
    · rw [dec_step h, List.head?_append]
      cases hd : (dec (n / 10)).head? with
      | none => exact absurd (List.head?_eq_none_iff.1 hd) dec_ne
      | some x =>
        have := ih (n / 10) (by omega) (by omega)
        rw [hd] at this
        simpa using this
theorem dec_plain (n : Nat) : plainN (dec n) := by
  refine ⟨dec_ne, ?_⟩
  rcases Nat.eq_zero_or_pos n with rfl | h
  · left; rw [dec_small (by decide)]; simp
  · exact .inr (dec_head n h)
theorem dec_val : ∀ {s : Txt}, plainN s → s.all dig = true → dec (val s) = s := by
  intro s
  have key : ∀ k (s : Txt), s.length = k → plainN s → s.all dig = true → dec (val s) = s := by
    intro k
    induction k with
    | zero => intro s hl hp _; exact absurd (List.length_eq_zero_iff.1 hl) hp.1
    | succ k ih =>
      intro s hl hp hd
      obtain ⟨t, c, rfl⟩ : ∃ t c, s = t ++ [c] := by
        rcases List.eq_nil_or_concat s with h | ⟨t, c, h⟩
        · exact absurd h hp.1
        · exact ⟨t, c, by simpa using h⟩
      rw [List.all_append, Bool.and_eq_true] at hd
      have hc : 48 ≤ c.toNat ∧ c.toNat ≤ 57 := by
        have := hd.2
        simpa [dig] using this
      have hco : UInt8.ofNat (48 + (c.toNat - 48)) = c := by
        rw [show 48 + (c.toNat - 48) = c.toNat by omega]; exact UInt8.ofNat_toNat
      rw [val_snoc]
      by_cases ht : t = []
      · subst ht
        rw [show val [] = 0 from rfl, Nat.mul_zero, Nat.zero_add, dec_small (by omega), hco]; rfl
      · have hlt : t.length = k := by simpa using hl
        have hpt : plainN t := by
          refine ⟨ht, ?_⟩
          rcases hp.2 with h | h
          · left
            simp only [List.length_append, List.length_cons, List.length_nil] at h; omega
          · right
            rw [List.head?_append] at h
            cases hd' : t.head? with
            | none => simp
            | some x => rw [hd'] at h; simpa using h
        have iht := ih t hlt hpt hd.1
        have hv : 0 < val t := by
          rcases Nat.eq_zero_or_pos (val t) with h0 | h0
          · exfalso
            rw [h0, dec_small (by decide)] at iht
            rcases hp.2 with h | h
            · simp only [List.length_append, List.length_cons, List.length_nil] at h
              have := List.length_pos_iff.2 ht; omega
            · rw [← iht] at h
              exact h rfl
          · exact h0
        rw [dec_step (by omega), show (10 * val t + (c.toNat - 48)) / 10 = val t by omega, iht, show (10 * val t + (c.toNat - 48)) % 10 = c.toNat - 48 by omega, hco]
  exact key s.length s rfl
/-- A number of a text, up to top. -/
def numO (s : Txt) (top : Nat) : Option Nat := if (s ≠ [] ∧ (s.length ≤ 1 ∨ s.head? ≠ some 48) ∧ s.all dig = true ∧ val s ≤ top) then some (val s) else none
theorem num_iff : numO s top = some n ↔ s = dec n ∧ n ≤ top := by
  unfold numO
  constructor
  · intro h
    split at h
    · rename_i h1
      obtain ⟨h2, h3, h4, h5⟩ := h1
      obtain rfl := Option.some.inj h
      exact ⟨(dec_val ⟨h2, h3⟩ h4).symm, h5⟩
    · cases h
  · rintro ⟨rfl, h⟩
    obtain ⟨h1, h2⟩ := dec_plain n
    rw [if_pos ⟨h1, h2, dec_all n, by rw [val_dec]; exact h⟩, val_dec]
theorem num_dec (h : n ≤ top) : numO (dec n) top = some n := num_iff.2 ⟨rfl, h⟩
theorem dec_len : ∀ k n, n < 10 ^ k → 0 < k → (dec n).length ≤ k := by
  intro k
  induction k with
  | zero => intro n _ h; omega
  | succ k ih =>
    intro n h _
    rcases Nat.lt_or_ge n 10 with h1 | h1
    · rw [dec_small h1]; simp
    · rw [dec_step h1, List.length_append]
      have hk : 0 < k := by
        rcases Nat.eq_zero_or_pos k with rfl | hk
        · simp at h; omega
        · exact hk
      have := ih (n / 10) (by rw [Nat.pow_succ] at h; omega) hk
      simpa using this
theorem dec_no (h : dig c = false) : c ∉ dec n := fun hc => by
  have := List.all_eq_true.1 (dec_all n) c hc
  rw [h] at this; cases this
/-! Cut at a sign. -/
def splitL (c : UInt8) : Txt → List Txt
  | [] => [[]]
  | x :: s => if x = c then [] :: splitL c s else match splitL c s with
    | [] => [[x]]
    | p :: r => (x :: p) :: r
theorem split_ne : ∀ s, splitL c s ≠ []
  | [] => by simp [splitL]
  | x :: s => by
    rw [splitL]
    split
    · simp
    · split <;> simp
theorem split_one (h : c ∉ s) : splitL c s = [s] := by
  induction s with
  | nil => rfl
  | cons x s ih =>
    rw [splitL, if_neg (fun e => h (by simp [e])), ih (fun hc => h (List.mem_cons_of_mem _ hc))]
theorem split_two (h : c ∉ s) : splitL c (s ++ c :: t) = s :: splitL c t := by
  induction s with
  | nil => rw [List.nil_append, splitL, if_pos rfl]
  | cons x s ih =>
    rw [List.cons_append, splitL, if_neg (fun e => h (by simp [e])), ih (fun hc => h (List.mem_cons_of_mem _ hc))]
theorem split_cases : ∀ (s : Txt), (c ∉ s ∧ splitL c s = [s]) ∨ ∃ a b, s = a ++ c :: b ∧ c ∉ a ∧ splitL c s = a :: splitL c b
  | [] => .inl ⟨by simp, rfl⟩
  | x :: s => by
    by_cases hx : x = c
    · subst hx
      exact .inr ⟨[], s, rfl, by simp, by rw [splitL, if_pos rfl]⟩
    · rcases split_cases s with ⟨h1, h2⟩ | ⟨a, b, h1, h2, h3⟩
      · left
        have : c ∉ x :: s := fun h => (List.mem_cons.1 h).elim (fun e => hx e.symm) h1
        exact ⟨this, split_one this⟩
      · right
        have : c ∉ x :: a := fun h => (List.mem_cons.1 h).elim (fun e => hx e.symm) h2
        exact ⟨x :: a, b, by rw [h1]; rfl, this, by rw [h1, ← List.cons_append, split_two this]⟩
theorem split_is_one {a : Txt} (h : splitL c s = [a]) : s = a ∧ c ∉ s := by
  rcases split_cases (c := c) s with ⟨h1, h2⟩ | ⟨x, y, h1, h2, h3⟩
  · rw [h2] at h
    exact ⟨(List.cons.inj h).1, h1⟩
  · rw [h3] at h
    exact absurd (List.cons.inj h).2 (split_ne y)
theorem split_is_cons {a b : Txt} {r : List Txt} (h : splitL c s = a :: b :: r) : ∃ u, s = a ++ c :: u ∧ c ∉ a ∧ splitL c u = b :: r := by
  rcases split_cases (c := c) s with ⟨h1, h2⟩ | ⟨x, y, h1, h2, h3⟩
  · rw [h2] at h; cases (List.cons.inj h).2
  · rw [h3] at h
    obtain ⟨e1, e2⟩ := List.cons.inj h
    subst e1
    exact ⟨y, h1, h2, e2⟩
end Go.Eng
