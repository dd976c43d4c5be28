/- A text cut at a sign, byte by byte. No program in sight. -/
import Derived.Test.YtldkgicmfbofiaaDoorTt
set_option linter.unusedSimpArgs false
set_option linter.unusedVariables false
namespace Go.Kb
open Go.Eng
variable {s : Txt} {i n st : Nat} {c : UInt8}
theorem drop_cut (h : i < s.length) (hs : st ≤ i) : s.drop st = (s.drop st).take (i - st) ++ s.getD i 0 :: s.drop (i + 1) := by
  have h1 : s.drop st = (s.drop st).take (i - st) ++ (s.drop st).drop (i - st) := (List.take_append_drop _ _).symm
  rw [List.drop_drop, show st + (i - st) = i by omega] at h1
  have h2 : s.drop i = s.getD i 0 :: s.drop (i + 1) := by
    rw [List.drop_eq_getElem_cons h]; simp [List.getD, h]
  rw [h2] at h1; exact h1
theorem cut_hit (h : i < s.length) (hs : st ≤ i) (he : (s.getD i 0).toNat = c.toNat) (hc : c ∉ (s.drop st).take (i - st)) : splitL c (s.drop st) = (s.drop st).take (i - st) :: splitL c (s.drop (i + 1)) := by
  have e : s.getD i 0 = c := UInt8.toNat_inj.1 he
  have h1 := drop_cut h hs
  rw [e] at h1
  have := split_two (c := c) (t := s.drop (i + 1)) hc
  rw [← h1] at this; exact this
theorem cut_end (hs : st ≤ i) (hi : i = s.length) (hc : c ∉ (s.drop st).take (i - st)) : splitL c (s.drop st) = [(s.drop st).take (i - st)] := by
  have e : (s.drop st).take (i - st) = s.drop st := List.take_of_length_le (by simp; omega)
  rw [e] at hc ⊢
  exact split_one hc
theorem cut_miss (h : i < s.length) (hs : st ≤ i) (he : (s.getD i 0).toNat ≠ c.toNat) (hc : c ∉ (s.drop st).take (i - st)) : c ∉ (s.drop st).take (i + 1 - st) := by
  rw [show i + 1 - st = (i - st) + 1 by omega]
  have hl : i - st < (s.drop st).length := by simp; omega
  rw [take_getD hl, List.mem_append]
  rintro (h1 | h1)
  · exact hc h1
  · have e : (s.drop st).getD (i - st) 0 = s.getD i 0 := by simp [List.getD, show st + (i - st) = i by omega]
    rw [e] at h1
    exact he (by rw [List.mem_singleton.1 h1])
/-- Where the cutting stands: ps is cut off, the next text begins at st. -/
def Cutting (c : UInt8) (s : Txt) (i st : Nat) (ps : List Txt) : Prop := (i ≤ s.length ∧ st ≤ i ∧ splitL c s = ps ++ splitL c (s.drop st) ∧ c ∉ (s.drop st).take (i - st)) ∨ (i = s.length + 1 ∧ ps = splitL c s)
theorem cutting_0 (c : UInt8) (s : Txt) : Cutting c s 0 0 [] := .inl ⟨Nat.zero_le _, Nat.le_refl _, rfl, by simp⟩
variable {ps : List Txt}
theorem Cutting.hit (h : Cutting c s i st ps) (hi : i ≤ s.length) (he : i = s.length ∨ (s.getD i 0).toNat = c.toNat) : Cutting c s (i + 1) (i + 1) (ps ++ [(s.drop st).take (i - st)]) := by
  rcases h with ⟨h1, h2, h3, h4⟩ | ⟨h1, _⟩
  · by_cases hl : i = s.length
    · exact .inr ⟨by omega, by rw [h3, cut_end h2 hl h4]⟩
    · have he' : (s.getD i 0).toNat = c.toNat := he.resolve_left hl
      exact .inl ⟨by omega, Nat.le_refl _, by rw [h3, cut_hit (by omega) h2 he' h4]; simp, by simp⟩
  · omega
theorem Cutting.miss (h : Cutting c s i st ps) (hi : i ≤ s.length) (he : ¬ (i = s.length ∨ (s.getD i 0).toNat = c.toNat)) : Cutting c s (i + 1) st ps := by
  rcases h with ⟨h1, h2, h3, h4⟩ | ⟨h1, _⟩
  · exact .inl ⟨by omega, by omega, h3, cut_miss (by omega) h2 (fun e => he (.inr e)) h4⟩
  · omega
theorem Cutting.done (h : Cutting c s i st ps) (hi : s.length < i) : ps = splitL c s := by
  rcases h with ⟨h1, _⟩ | ⟨_, h2⟩
  · omega
  · exact h2
theorem Cutting.le (h : Cutting c s i st ps) (hi : i ≤ s.length) : st ≤ i ∧ i ≤ s.length := by
  rcases h with ⟨_, h2, _⟩ | ⟨h1, _⟩
  · exact ⟨h2, hi⟩
  · omega
theorem split_mem {x : Txt} : ∀ (s : Txt), x ∈ splitL c s → x.length ≤ s.length := by
  intro s
  have key : ∀ n (s : Txt), s.length ≤ n → x ∈ splitL c s → x.length ≤ s.length := by
    intro n
    induction n with
    | zero =>
      intro s hs hx
      obtain rfl := List.length_eq_zero_iff.1 (Nat.le_zero.1 hs)
      simp [splitL] at hx; simp [hx]
    | succ n ih =>
      intro s hs hx
      rcases split_cases (c := c) s with ⟨_, h2⟩ | ⟨a, b, h1, _, h3⟩
      · rw [h2, List.mem_singleton] at hx; rw [hx]; exact Nat.le_refl _
      · rw [h3, List.mem_cons] at hx
        have hl : s.length = a.length + (b.length + 1) := by rw [h1]; simp
        rcases hx with rfl | hx
        · omega
        · have := ih b (by omega) hx; omega
  exact key s.length s (Nat.le_refl _)
end Go.Kb
