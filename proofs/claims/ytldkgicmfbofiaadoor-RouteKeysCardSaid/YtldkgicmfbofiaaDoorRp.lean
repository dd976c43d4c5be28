/- Prefixes and routes read out of texts, as both do it. No program in sight. -/
import Derived.Test.YtldkgicmfbofiaaDoorRk
import Derived.Test.YtldkgicmfbofiaaDoorRc
set_option linter.unusedSimpArgs false
set_option linter.unusedVariables false
namespace Go.Kb
open Go.Eng
variable {s a b : Txt} {c : UInt8} {n top : Nat}
theorem cutSplit (c : UInt8) (s : Txt) : (∃ a b, s = a ++ c :: b ∧ cutL c s = (a, b, true) ∧ splitL c s = a :: splitL c b) ∨ (cutL c s = (s, [], false) ∧ splitL c s = [s]) := by
  rcases split_cases (c := c) s with ⟨h1, h2⟩ | ⟨a, b, h1, h2, h3⟩
  · exact .inr ⟨cut_none h1, h2⟩
  · exact .inl ⟨a, b, h1, by rw [h1, cut_some h2], h3⟩
theorem num_no (hc : c ∈ b) (hd : dig c = false) : numO b top = none := by
  cases e : numO b top with
  | none => rfl
  | some n =>
    obtain ⟨rfl, _⟩ := num_iff.1 e
    exact absurd hc (dec_no hd)
theorem cut_len (c : UInt8) (s : Txt) : (cutL c s).1.length ≤ s.length ∧ (cutL c s).2.1.length ≤ s.length := by
  rcases cutSplit c s with ⟨a, b, h1, h2, _⟩ | ⟨h2, _⟩
  · rw [h2, h1]; simp; omega
  · rw [h2]; simp
theorem pfx_cut_no (h : (cutL 47 s).2.2 = false) : pfxO s = none := by
  rcases cutSplit 47 s with ⟨a, b, _, h2, _⟩ | ⟨_, h3⟩
  · rw [h2] at h; cases h
  · unfold pfxO; rw [h3]
def pfxM (a b : Txt) : Option Pfx := match keyO a, numO b 128 with
  | some (k, bits), some n => if pmay ⟨bits, (n : Int), k⟩ = true then some ⟨bits, (n : Int), k⟩ else none
  | _, _ => none
theorem pfx_two (h : splitL 47 s = [a, b]) : pfxO s = pfxM a b := by
  unfold pfxO; rw [h]; rfl
theorem pfx_cut (h : (cutL 47 s).2.2 = true) : pfxO s = pfxM (cutL 47 s).1 (cutL 47 s).2.1 := by
  rcases cutSplit 47 s with ⟨a, b, _, h2, h3⟩ | ⟨h2, _⟩
  · rw [h2]
    rcases cutSplit 47 b with ⟨x, y, e1, _, e3⟩ | ⟨_, e3⟩
    · have hn : numO b 128 = none := num_no (c := 47) (by rw [e1]; simp) (by decide)
      unfold pfxO pfxM
      rw [h3, e3, hn]
      have : splitL 47 y ≠ [] := split_ne y
      cases q : splitL 47 y with
      | nil => exact absurd q this
      | cons z zs => simp only; split <;> simp_all
    · exact pfx_two (by rw [h3, e3])
  · rw [h2] at h; cases h
def lineM (a b : Txt) : Option Rt := match pfxO a, numO b 65535 with
  | some p, some n => some ⟨p, UInt16.ofNat n⟩
  | _, _ => none
theorem line_cut_no (h : (cutL 32 s).2.2 = false) : lineO s = none := by
  rcases cutSplit 32 s with ⟨a, b, _, h2, _⟩ | ⟨_, h3⟩
  · rw [h2] at h; cases h
  · unfold lineO; rw [h3]
theorem line_two (h : splitL 32 s = [a, b]) : lineO s = lineM a b := by
  unfold lineO; rw [h]; rfl
theorem line_cut (h : (cutL 32 s).2.2 = true) : lineO s = lineM (cutL 32 s).1 (cutL 32 s).2.1 := by
  rcases cutSplit 32 s with ⟨a, b, _, h2, h3⟩ | ⟨h2, _⟩
  · rw [h2]
    rcases cutSplit 32 b with ⟨x, y, e1, _, e3⟩ | ⟨_, e3⟩
    · have hn : numO b 65535 = none := num_no (c := 32) (by rw [e1]; simp) (by decide)
      unfold lineO lineM
      rw [h3, e3, hn]
      have : splitL 32 y ≠ [] := split_ne y
      cases q : splitL 32 y with
      | nil => exact absurd q this
      | cons z zs => simp only; split <;> simp_all
    · exact line_two (by rw [h3, e3])
  · rw [h2] at h; cases h
theorem rk_ok (h : a.length ≤ 60) (he : rkE a = 0) : keyO a = some (rkK a, ((rkN a : Nat) : Int)) ∧ (rkN a = 32 ∨ rkN a = 128) := by
  have hl : ¬ 60 < a.length := by omega
  unfold rkE at he
  rw [if_neg hl] at he
  cases e : keyO a with
  | none => rw [e] at he; cases he
  | some z =>
    obtain ⟨k, m⟩ := z
    have hm := ((pmay_bits _).1 (key_iff.1 e).1).1
    simp only at hm
    unfold rkK rkN
    rw [if_neg hl, if_neg hl, e]
    simp only
    rcases hm with rfl | rfl
    · exact ⟨rfl, .inl rfl⟩
    · exact ⟨rfl, .inr rfl⟩
theorem rk_no (h : a.length ≤ 60) (he : ¬ rkE a = 0) : keyO a = none := by
  unfold rkE at he
  rw [if_neg (show ¬ 60 < a.length by omega)] at he
  cases e : keyO a with
  | none => rfl
  | some z => rw [e] at he; exact absurd rfl he
def rpP (s : Txt) : Pfx := if 60 < s.length then ⟨0, 0, 0#128⟩ else (pfxO s).getD ⟨0, 0, 0#128⟩
def rpE (s : Txt) : Int := if 60 < s.length then 3 else if (pfxO s).isSome = true then 0 else 2
theorem rp_long (h : 60 < s.length) : rpP s = ⟨0, 0, 0#128⟩ ∧ rpE s = 3 := by simp [rpP, rpE, h]
theorem rp_none (h : ¬ 60 < s.length) (hp : pfxO s = none) : rpP s = ⟨0, 0, 0#128⟩ ∧ rpE s = 2 := by simp [rpP, rpE, h, hp]
theorem rp_some {p : Pfx} (h : ¬ 60 < s.length) (hp : pfxO s = some p) : rpP s = p ∧ rpE s = 0 := by simp [rpP, rpE, h, hp]
theorem rp_ok (h : a.length ≤ 60) (he : rpE a = 0) : pfxO a = some (rpP a) := by
  have hl : ¬ 60 < a.length := by omega
  unfold rpE at he
  rw [if_neg hl] at he
  cases e : pfxO a with
  | none => rw [e] at he; simp at he
  | some z => rw [rpP, if_neg hl, e]; rfl
theorem rp_no (h : a.length ≤ 60) (he : ¬ rpE a = 0) : pfxO a = none := by
  unfold rpE at he
  rw [if_neg (show ¬ 60 < a.length by omega)] at he
  cases e : pfxO a with
  | none => rfl
  | some z => rw [e] at he; exact absurd rfl he
def rlR (s : Txt) : Rt := if 60 < s.length then zroute else (lineO s).getD zroute
def rlE (s : Txt) : Int := if 60 < s.length then 3 else if (lineO s).isSome = true then 0 else 2
theorem rl_long (h : 60 < s.length) : rlR s = zroute ∧ rlE s = 3 := by simp [rlR, rlE, h]
theorem rl_none (h : ¬ 60 < s.length) (hp : lineO s = none) : rlR s = zroute ∧ rlE s = 2 := by simp [rlR, rlE, h, hp]
theorem rl_some {r : Rt} (h : ¬ 60 < s.length) (hp : lineO s = some r) : rlR s = r ∧ rlE s = 0 := by simp [rlR, rlE, h, hp]
/-! A prefix, its parts known. -/
theorem pm_key (h : a.length ≤ 60) (he : ¬ rkE a = 0) : pfxM a b = none := by unfold pfxM; rw [rk_no h he]
theorem num_sub (h : numO b n = none) (hn : n ≤ top) {m : Nat} (e : numO b top = some m) : n < m := by
  obtain ⟨rfl, h2⟩ := num_iff.1 e
  rcases Nat.lt_or_ge n m with q | q
  · exact q
  · rw [num_dec q] at h; cases h
theorem pm_num (h : a.length ≤ 60) (he : rkE a = 0) (hn : (numO b (rkN a)).isSome = false) : pfxM a b = none := by
  obtain ⟨hk, hm⟩ := rk_ok h he
  have hn' : numO b (rkN a) = none := by simpa using hn
  unfold pfxM
  rw [hk]
  cases e : numO b 128 with
  | none => rfl
  | some m =>
    have := num_sub hn' (by omega) e
    simp only
    rw [if_neg]
    intro hp
    have := ((pmay_bits _).1 hp).2.2.1
    simp only at this; omega
theorem pm_val (h : a.length ≤ 60) (he : rkE a = 0) (hn : (numO b (rkN a)).isSome = true) : pfxM a b = if pmay ⟨((rkN a : Nat) : Int), (((numO b (rkN a)).getD 0 : Nat) : Int), rkK a⟩ = true then some ⟨((rkN a : Nat) : Int), (((numO b (rkN a)).getD 0 : Nat) : Int), rkK a⟩ else none := by
  obtain ⟨hk, hm⟩ := rk_ok h he
  obtain ⟨m, e⟩ := Option.isSome_iff_exists.1 hn
  obtain ⟨rfl, h2⟩ := num_iff.1 e
  unfold pfxM
  rw [hk, e, num_dec (show m ≤ 128 by omega)]; rfl
theorem pm_ref (h : a.length ≤ 60) : pfxM a b = if rkE a = 0 ∧ pmay ⟨((rkN a : Nat) : Int), numI b 128, rkK a⟩ = true then some ⟨((rkN a : Nat) : Int), numI b 128, rkK a⟩ else none := by
  by_cases he : rkE a = 0
  · obtain ⟨hk, hm⟩ := rk_ok h he
    unfold pfxM numI
    rw [hk]
    cases e : numO b 128 with
    | none =>
      simp only
      rw [if_neg]
      rintro ⟨_, hp⟩
      have := ((pmay_bits _).1 hp).2.1
      simp only at this; omega
    | some m => simp only [he, true_and]
  · rw [pm_key h he, if_neg (fun q => he q.1)]
theorem lm_pfx (h : a.length ≤ 60) (he : ¬ rpE a = 0) : lineM a b = none := by unfold lineM; rw [rp_no h he]
theorem lm_num (hn : numO b 65535 = none) : lineM a b = none := by
  unfold lineM; rw [hn]; cases pfxO a <;> rfl
theorem lm_val (h : a.length ≤ 60) (he : rpE a = 0) (hn : numO b 65535 = some n) : lineM a b = some ⟨rpP a, UInt16.ofNat n⟩ := by
  unfold lineM; rw [hn, rp_ok h he]
theorem numI_at (h : ¬ numI s top < 0) : numI s top = (((numO s top).getD 0 : Nat) : Int) ∧ (numO s top).isSome = true := by
  unfold numI at *
  cases e : numO s top with
  | none => rw [e] at h; simp at h
  | some n => exact ⟨rfl, rfl⟩
theorem numI_none (h : numI s top < 0) : numO s top = none := by
  unfold numI at h
  cases e : numO s top with
  | none => rfl
  | some n => rw [e] at h; simp only at h; omega
theorem num_top (s : Txt) (top : Nat) : (numO s top).getD 0 ≤ top := by
  cases e : numO s top with
  | none => simp
  | some n => exact (num_iff.1 e).2
theorem u16_nat {n : Nat} (h : n ≤ 65535) : (Value.int .u16 ((n : Nat) : Int)) = Value.int .u16 (((UInt16.ofNat n).toNat : Nat) : Int) := by
  rw [UInt16.toNat_ofNat', Nat.mod_eq_of_lt (show n < 2 ^ 16 by omega)]
theorem len2 {ps : List Txt} (h : ps.length = 2) : ∃ a b, ps = [a, b] := by
  match ps, h with
  | [a, b], _ => exact ⟨a, b, rfl⟩
theorem pfx_len2 (h : (splitL 47 s).length ≠ 2) : pfxO s = none := by
  unfold pfxO
  split
  · rename_i a b e; rw [e] at h; exact absurd rfl h
  · rfl
theorem line_len2 (h : (splitL 32 s).length ≠ 2) : lineO s = none := by
  unfold lineO
  split
  · rename_i a b e; rw [e] at h; exact absurd rfl h
  · rfl
theorem wide_rk_dot (h : ¬ 60 < s.length) (h4 : (splitL 46 s).length = 4) (hs : shortO s = none) : rkK s = 0#128 ∧ rkN s = 0 ∧ rkE s = 2 := rk_none h hs (wide_no_dot h4)
end Go.Kb
