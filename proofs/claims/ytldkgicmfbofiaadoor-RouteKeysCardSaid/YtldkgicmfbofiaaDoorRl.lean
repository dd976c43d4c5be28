/- What the laws of routes say, of texts told and read. No program in sight. -/
import Derived.Test.YtldkgicmfbofiaaDoorRp
set_option linter.unusedSimpArgs false
set_option linter.unusedVariables false
namespace Go.Kb
open Go.Eng
variable {s : Txt} {k : Key} {n : Int} {a b r : Rt} {p : Pfx}
theorem lineS_len (r : Rt) : (lineS r).length ≤ 42 := by
  unfold lineS
  split
  · rename_i h
    have hp := pfxS_len r.p
    rw [pfxS, if_pos h] at hp
    have hd := dec_len 5 r.hop.toNat (Nat.lt_trans (UInt16.toNat_lt _) (by decide)) (by decide)
    simp only [lineT, List.length_append, List.length_cons]; omega
  · simp
theorem line_back (h : pmay r.p = true) : rlR (lineS r) = r ∧ rlE (lineS r) = 0 := by
  have hl := lineS_len r
  refine rl_some (by omega) (line_iff.2 ⟨h, ?_⟩)
  rw [lineS, if_pos h]
theorem rl_yes (he : rlE s = 0) : pmay (rlR s).p = true ∧ lineS (rlR s) = s := by
  by_cases hl : 60 < s.length
  · rw [(rl_long hl).2] at he; cases he
  · cases e : lineO s with
    | none => rw [(rl_none hl e).2] at he; cases he
    | some r =>
      rw [(rl_some hl e).1]
      obtain ⟨h1, h2⟩ := line_iff.1 e
      exact ⟨h1, by rw [lineS, if_pos h1, h2]⟩
theorem rl_not (he : ¬ rlE s = 0) : rlR s = zroute := by
  by_cases hl : 60 < s.length
  · exact (rl_long hl).1
  · cases e : lineO s with
    | none => exact (rl_none hl e).1
    | some r => exact absurd (rl_some hl e).2 he
theorem rk_yes (he : rkE s = 0) : keyB (rkK s) ((rkN s : Nat) : Int) = true ∧ keyS (rkK s) ((rkN s : Nat) : Int) = s := by
  have hl : s.length ≤ 60 := by
    rcases Nat.lt_or_ge 60 s.length with h | h
    · rw [(rk_long h).2.2] at he; cases he
    · exact h
  obtain ⟨e, _⟩ := rk_ok hl he
  obtain ⟨h1, h2⟩ := key_iff.1 e
  exact ⟨h1, by rw [keyS, if_pos (show keyB (rkK s) ((rkN s : Nat) : Int) = true from h1)]; exact h2.symm⟩
theorem rk_not (he : ¬ rkE s = 0) : rkK s = 0#128 ∧ rkN s = 0 := by
  by_cases hl : 60 < s.length
  · exact ⟨(rk_long hl).1, (rk_long hl).2.1⟩
  · have e := rk_no (by omega) he
    simp [rkK, rkN, hl, e]
theorem key_back (h : keyB k n = true) : rkK (keyS k n) = k ∧ ((rkN (keyS k n) : Nat) : Int) = n ∧ rkE (keyS k n) = 0 := by
  have hl := keyS_len k n
  have e : keyO (keyS k n) = some (k, n) := key_iff.2 ⟨h, by rw [keyS, if_pos h]⟩
  have hn := (keyB_iff.1 h).1
  have h60 : ¬ 60 < (keyS k n).length := by omega
  refine ⟨by rw [rkK, if_neg h60, e], by rw [rkN, if_neg h60, e]; simp only; omega, by rw [rkE, if_neg h60, e]⟩
theorem pfx_back (h : pmay p = true) : rpP (pfxS p) = p ∧ rpE (pfxS p) = 0 := by
  have hl := pfxS_len p
  exact rp_some (by omega) (pfx_iff.2 ⟨h, by rw [pfxS, if_pos h]⟩)
theorem whole_pfx (h : keyB k n = true) : pfxS ⟨n, n, k⟩ = keyS k n ++ 47 :: dec n.toNat := by
  rw [pfxS, if_pos (show pmay ⟨n, n, k⟩ = true from h), pfxT, keyS, if_pos h]
theorem whole_len (h : keyB k n = true) : (keyS k n).length < (pfxS ⟨n, n, k⟩).length := by rw [whole_pfx h, List.length_append, List.length_cons]; omega
theorem whole_take (h : keyB k n = true) : (pfxS ⟨n, n, k⟩).take (keyS k n).length = keyS k n := by rw [whole_pfx h, List.take_left]
theorem whole_at (h : keyB k n = true) : ((pfxS ⟨n, n, k⟩).getD (keyS k n).length 0).toNat = 47 := by
  rw [whole_pfx h, List.getD, List.getElem?_append_right (Nat.le_refl _), Nat.sub_self]; rfl
theorem err_yes {b : Bool} (h : b = true) : errB b = 0 := by rw [errB, if_pos h]
theorem err_zero {b : Bool} : errB b = 0 ↔ b = true := by cases b <;> simp [errB]
def AWL : Txt := [49, 48, 46, 49, 46, 48, 46, 48, 47, 49, 54, 32, 55]
def AWK : Txt := [50, 48, 48, 49, 48, 100, 98, 56, 48, 48, 48, 48, 48, 48, 48, 48, 48, 48, 48, 48, 48, 48, 48, 48, 48, 48, 48, 48, 48, 48, 48, 49]
theorem aw_1 : rlE [49, 48, 46, 49, 46, 48, 46, 48, 47, 49, 54, 32, 55] = 0 := by decide +kernel
theorem aw_2 : (rlR [49, 48, 46, 49, 46, 48, 46, 48, 47, 49, 54, 32, 55]).hop.toNat = 7 := by decide +kernel
theorem aw_3 : (rlR [49, 48, 46, 49, 46, 48, 46, 48, 47, 49, 54, 32, 55]).p.len = 16 := by decide +kernel
theorem aw_4 : errB (pmay (rlR [49, 48, 46, 49, 46, 48, 46, 48, 47, 49, 54, 32, 55]).p) = 0 := err_yes (rl_yes aw_1).1
theorem aw_5 : lineS (rlR [49, 48, 46, 49, 46, 48, 46, 48, 47, 49, 54, 32, 55]) = [49, 48, 46, 49, 46, 48, 46, 48, 47, 49, 54, 32, 55] := (rl_yes aw_1).2
theorem aw_6 : rkE [50, 48, 48, 49, 48, 100, 98, 56, 48, 48, 48, 48, 48, 48, 48, 48, 48, 48, 48, 48, 48, 48, 48, 48, 48, 48, 48, 48, 48, 48, 48, 49] = 0 := by decide +kernel
theorem aw_7 : rkN [50, 48, 48, 49, 48, 100, 98, 56, 48, 48, 48, 48, 48, 48, 48, 48, 48, 48, 48, 48, 48, 48, 48, 48, 48, 48, 48, 48, 48, 48, 48, 49] = 128 := by decide +kernel
theorem aw_8 : kbyte (rkK [50, 48, 48, 49, 48, 100, 98, 56, 48, 48, 48, 48, 48, 48, 48, 48, 48, 48, 48, 48, 48, 48, 48, 48, 48, 48, 48, 48, 48, 48, 48, 49]) 1 = 1 := by decide +kernel
theorem aw_9 : kbyte (rkK [50, 48, 48, 49, 48, 100, 98, 56, 48, 48, 48, 48, 48, 48, 48, 48, 48, 48, 48, 48, 48, 48, 48, 48, 48, 48, 48, 48, 48, 48, 48, 49]) 15 = 1 := by decide +kernel
end Go.Kb
