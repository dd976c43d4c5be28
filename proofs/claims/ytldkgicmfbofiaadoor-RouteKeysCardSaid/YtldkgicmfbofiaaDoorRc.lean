/- The library's words for cutting a text, told by ours. No program in sight. -/
import Derived.Test.YtldkgicmfbofiaaDoorRa
import Derived.Lib.SplitLaws
import Derived.Lib.CutLaws
set_option linter.unusedSimpArgs false
set_option linter.unusedVariables false
namespace Go.Eng
variable {s a b : Txt} {c : UInt8}
theorem idx_none (h : c ∉ s) : Lib.index s [c] = -1 := by
  induction s with
  | nil => rfl
  | cons x s ih =>
    have hx : x ≠ c := fun e => h (by simp [e])
    have hp : ([c] : Txt).isPrefixOf (x :: s) = false := by
      simp only [List.isPrefixOf, Bool.and_true]
      simpa using fun e => hx e.symm
    rw [Lib.index, hp, ih (fun hc => h (List.mem_cons_of_mem _ hc))]; rfl
theorem idx_some (h : c ∉ a) : Lib.index (a ++ c :: b) [c] = (a.length : Int) := by
  induction a with
  | nil =>
    rw [List.nil_append, Lib.index, if_pos (by simp [List.isPrefixOf])]; rfl
  | cons x a ih =>
    have hx : x ≠ c := fun e => h (by simp [e])
    have hp : ([c] : Txt).isPrefixOf (x :: (a ++ c :: b)) = false := by
      simp only [List.isPrefixOf, Bool.and_true]
      simpa using fun e => hx e.symm
    rw [List.cons_append, Lib.index, hp, ih (fun hc => h (List.mem_cons_of_mem _ hc)), if_neg (by simp), if_neg (by simp only [beq_iff_eq]; omega)]
    simp
/-- What a text is cut into. -/
def cutL (c : UInt8) (s : Txt) : Txt × Txt × Bool := Lib.cut s [c]
theorem cut_none (h : c ∉ s) : cutL c s = (s, [], false) := by
  rw [cutL, Lib.cut, idx_none h, if_neg (by decide)]
theorem cut_some (h : c ∉ a) : cutL c (a ++ c :: b) = (a, b, true) := by
  rw [cutL, Lib.cut, idx_some h, if_pos (by omega)]
  simp
theorem splitB_L (c : UInt8) : ∀ (n : Nat) (s : ByteArray), s.size ≤ n → (Lib.splitB ⟨#[c]⟩ 0 (Lib.countB s ⟨#[c]⟩) s).map (·.data.toList) = splitL c s.data.toList := by
  intro n
  induction n with
  | zero =>
    intro s hs
    have hz : s.data.toList = [] := by
      apply List.length_eq_zero_iff.1
      have := Lib.size_eq s; omega
    have hi : Lib.indexB s ⟨#[c]⟩ = -1 := by
      show Lib.index s.data.toList [c] = -1
      rw [hz]; rfl
    rw [Lib.splitB_miss _ _ _ _ hi, hz]
    simp [hz, splitL]
  | succ n ih =>
    intro s hs
    rcases split_cases (c := c) s.data.toList with ⟨h1, h2⟩ | ⟨a, b, h1, h2, h3⟩
    · have hi : Lib.indexB s ⟨#[c]⟩ = -1 := idx_none h1
      rw [Lib.splitB_miss _ _ _ _ hi, h2]; rfl
    · have hi : Lib.indexB s ⟨#[c]⟩ = (a.length : Int) := by
        show Lib.index s.data.toList [c] = _
        rw [h1]; exact idx_some h2
      have hsz : (⟨#[c]⟩ : ByteArray).size = 1 := rfl
      have hlen : s.size = a.length + (b.length + 1) := by rw [Lib.size_eq, h1]; simp
      rw [Lib.countB_hit s _ a.length (by rw [hsz]; decide) hi, Nat.add_comm 1, Lib.splitB, if_neg (by rw [hi]; simp only [beq_iff_eq]; omega), hi, h3]
      have e1 : ((a.length : Int)).toNat = a.length := by omega
      rw [e1, List.map_cons]
      have ed : ∀ x y : Nat, (s.extract x y).data.toList = (s.data.toList.drop x).take (y - x) := fun x y => Lib.extract_data s x y
      have e2 : (s.extract 0 (a.length + 0)).data.toList = a := by rw [ed, h1]; simp
      have e3 : (s.extract (a.length + (⟨#[c]⟩ : ByteArray).size) s.size).data.toList = b := by
        rw [ed, h1, hsz, hlen]
        simp
        exact List.take_of_length_le (by omega)
      rw [e2, ih _ (by have := Lib.size_eq (s.extract (a.length + (⟨#[c]⟩ : ByteArray).size) s.size); rw [e3] at this; omega), e3]
theorem splitB_length (c : UInt8) (s : ByteArray) : Lib.countB s ⟨#[c]⟩ + 1 = (splitL c s.data.toList).length := by
  rw [← splitB_L c s.size s (Nat.le_refl _), List.length_map, Lib.splitB_all _ (Nat.le_refl _) 0 _ s rfl]
end Go.Eng
