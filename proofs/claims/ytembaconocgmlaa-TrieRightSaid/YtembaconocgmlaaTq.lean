/- What a trie's functions answer: steps, walk, find. No program in sight. -/
import Derived.Test.YtembaconocgmlaaTp
set_option linter.unusedSimpArgs false
set_option linter.unusedVariables false
namespace Go.Kb

/-! Steps. -/
def stepOne (m i : Nat) (nd : Nd) (b : Nat) (a : List Int) : Option (List Int) :=
  if (nd.sl b).len < 0 ∨ 4 * a.getD i 0 + 1 < (nd.sl b).len then none
  else if nd.nx b = 0 then some a
  else if nd.nx b ≤ (i : Int) ∨ (m : Int) ≤ nd.nx b ∨ a.getD (nd.nx b).toNat 0 ≠ 0 then none
  else some (a.set (nd.nx b).toNat (a.getD i 0 + 1))
def stepsB (m i : Nat) (nd : Nd) : Nat → List Int → Option (List Int)
  | 0, a => some a
  | b + 1, a => (stepsB m i nd b a).bind (stepOne m i nd b)
def stepsN (bits : Int) (ns : List Nd) : Nat → Option (List Int)
  | 0 => some ((List.replicate ns.length 0).set 0 1)
  | i + 1 => (stepsN bits ns i).bind fun a => if a.getD i 0 = 0 ∨ bits / 4 < a.getD i 0 then none else stepsB ns.length i (ns.getD i Nd.zero) 16 a
def stepsV (bits : Int) (ns : List Nd) : Option (List Int) := if (bits = 32 ∨ bits = 128) ∧ 1 ≤ ns.length ∧ ns.length ≤ 512 then stepsN bits ns ns.length else none
theorem stepsN_none {bits : Int} {ns : List Nd} {i : Nat} (h : stepsN bits ns i = none) : ∀ j, i ≤ j → stepsN bits ns j = none := by
  intro j hj
  induction j with
  | zero => obtain rfl : i = 0 := by omega
            exact h
  | succ j ih =>
    rcases Nat.lt_or_ge j i with h' | h'
    · obtain rfl : i = j + 1 := by omega
      exact h
    · rw [stepsN, ih h']; rfl
theorem stepsB_none {m i : Nat} {nd : Nd} {a : List Int} {b : Nat} (h : stepsB m i nd b a = none) : ∀ c, b ≤ c → stepsB m i nd c a = none := by
  intro c hc
  induction c with
  | zero => obtain rfl : b = 0 := by omega
            exact h
  | succ c ih =>
    rcases Nat.lt_or_ge c b with h' | h'
    · obtain rfl : b = c + 1 := by omega
      exact h
    · rw [stepsB, ih h']; rfl
theorem stepsV_none {bits : Int} {ns : List Nd} {i : Nat} (hi : i ≤ ns.length) (h : stepsN bits ns i = none) : stepsV bits ns = none := by
  rw [stepsV]; split
  · exact stepsN_none h _ hi
  · rfl
section
variable {bits : Int} {ns : List Nd} {i : Nat} {a a2 : List Int} {nd : Nd}
theorem stepsV_bad (hi : i < ns.length) (h : stepsN bits ns i = some a) (hx : a.getD i 0 = 0 ∨ bits / 4 < a.getD i 0) : stepsV bits ns = none :=
  stepsV_none (i := i + 1) hi (by rw [stepsN, h, Option.bind_some, if_pos hx])
theorem stepsV_bad2 {b : Nat} (hi : i < ns.length) (h : stepsN bits ns i = some a) (hn : ns[i]? = some nd) (hb : b < 16) (h2 : stepsB ns.length i nd b a = some a2) (h3 : stepOne ns.length i nd b a2 = none) : stepsV bits ns = none :=
  stepsV_none (i := i + 1) hi (by
    rw [stepsN, h, Option.bind_some]
    split
    · rfl
    · have e : ns.getD i Nd.zero = nd := by rw [List.getD_eq_getElem?_getD, hn]; rfl
      rw [e]
      exact stepsB_none (b := b + 1) (by rw [stepsB, h2, Option.bind_some, h3]) _ hb)
theorem stepsN_next (h : stepsN bits ns i = some a) (hn : ns[i]? = some nd) (hx : ¬ (a.getD i 0 = 0 ∨ bits / 4 < a.getD i 0)) (h2 : stepsB ns.length i nd 16 a = some a2) : stepsN bits ns (i + 1) = some a2 := by
  have e : ns.getD i Nd.zero = nd := by rw [List.getD_eq_getElem?_getD, hn]; rfl
  rw [stepsN, h, Option.bind_some, if_neg hx, e, h2]
theorem getD_some {α : Type} {xs : List α} {i : Nat} {x d : α} (h : xs[i]? = some x) : xs.getD i d = x := by rw [List.getD_eq_getElem?_getD, h]; rfl
end

/-! Nodes that lead to nodes. -/
def InR (ns : List Nd) : Prop := ∀ (i : Nat) (nd : Nd), ns[i]? = some nd → ∀ b : Nat, b < 16 → 0 ≤ nd.nx b ∧ nd.nx b < ns.length
theorem stepsB_some {m i : Nat} {nd : Nd} {a a2 : List Int} : ∀ {n : Nat}, stepsB m i nd n a = some a2 → ∀ b, b < n → nd.nx b = 0 ∨ (i : Int) < nd.nx b ∧ nd.nx b < m := by
  intro n
  induction n generalizing a2 with
  | zero => intro _ b hb; omega
  | succ n ih =>
    intro h b hb
    rw [stepsB] at h
    cases e : stepsB m i nd n a with
    | none => rw [e] at h; cases h
    | some a3 =>
      rcases Nat.lt_or_ge b n with h' | h'
      · exact ih e b h'
      · obtain rfl : b = n := by omega
        rw [e, Option.bind_some, stepOne] at h
        split at h
        · cases h
        · split at h
          · left; assumption
          · split at h
            · cases h
            · right; omega
theorem stepsN_some {bits : Int} {ns : List Nd} {a : List Int} : ∀ {n : Nat}, stepsN bits ns n = some a → ∀ i nd, i < n → ns[i]? = some nd → ∀ b, b < 16 → nd.nx b = 0 ∨ (i : Int) < nd.nx b ∧ nd.nx b < ns.length := by
  intro n
  induction n generalizing a with
  | zero => intro _ i nd hi; omega
  | succ n ih =>
    intro h i nd hi hn b hb
    rw [stepsN] at h
    cases e : stepsN bits ns n with
    | none => rw [e] at h; cases h
    | some a3 =>
      rcases Nat.lt_or_ge i n with h' | h'
      · exact ih e i nd h' hn b hb
      · obtain rfl : i = n := by omega
        rw [e, Option.bind_some] at h
        split at h
        · cases h
        · rw [getD_some hn] at h
          exact stepsB_some h b hb
theorem inR_of {bits : Int} {ns : List Nd} (h : (stepsV bits ns).isSome = true) : InR ns ∧ (bits = 32 ∨ bits = 128) ∧ 1 ≤ ns.length ∧ ns.length ≤ 512 := by
  rw [stepsV] at h
  split at h
  · rename_i hc
    refine ⟨fun i nd hi b hb => ?_, hc⟩
    obtain ⟨a, ha⟩ := Option.isSome_iff_exists.1 h
    have hil := (List.getElem?_eq_some_iff.1 hi).1
    rcases stepsN_some ha i nd hil hi b hb with h1 | h1
    · omega
    · omega
  · cases h

theorem stepsB_len {m i : Nat} {nd : Nd} {a a2 : List Int} : ∀ {n : Nat}, stepsB m i nd n a = some a2 → a2.getD i 0 = a.getD i 0 ∧ ∀ b, b < n → 0 ≤ (nd.sl b).len ∧ (nd.sl b).len ≤ 4 * a.getD i 0 + 1 := by
  intro n
  induction n generalizing a2 with
  | zero => intro h; rw [stepsB] at h; exact ⟨by rw [Option.some.inj h], fun b hb => by omega⟩
  | succ n ih =>
    intro h
    rw [stepsB] at h
    cases e : stepsB m i nd n a with
    | none => rw [e] at h; cases h
    | some a3 =>
      obtain ⟨ih1, ih2⟩ := ih e
      rw [e, Option.bind_some, stepOne] at h
      split at h
      · cases h
      · rename_i h1
        have hb2 : ∀ b, b < n + 1 → 0 ≤ (nd.sl b).len ∧ (nd.sl b).len ≤ 4 * a.getD i 0 + 1 := fun b hb => by
          rcases Nat.lt_or_ge b n with h' | h'
          · exact ih2 b h'
          · obtain rfl : b = n := by omega
            rw [← ih1]; omega
        split at h
        · exact ⟨by rw [← Option.some.inj h]; exact ih1, hb2⟩
        · split at h
          · cases h
          · refine ⟨?_, hb2⟩
            rw [← Option.some.inj h, ← ih1, List.getD_eq_getElem?_getD, List.getD_eq_getElem?_getD, List.getElem?_set_ne (by omega)]
theorem stepsN_len {bits : Int} {ns : List Nd} {a : List Int} : ∀ {n : Nat}, stepsN bits ns n = some a → ∀ (i : Nat) (nd : Nd), i < n → ns[i]? = some nd → ∀ b, b < 16 → 0 ≤ (nd.sl b).len ∧ (nd.sl b).len ≤ 4 * (bits / 4) + 1 := by
  intro n
  induction n generalizing a with
  | zero => intro _ i nd hi; omega
  | succ n ih =>
    intro h i nd hi hn b hb
    rw [stepsN] at h
    cases e : stepsN bits ns n with
    | none => rw [e] at h; cases h
    | some a3 =>
      rcases Nat.lt_or_ge i n with h' | h'
      · exact ih e i nd h' hn b hb
      · obtain rfl : i = n := by omega
        rw [e, Option.bind_some] at h
        split at h
        · cases h
        · rw [getD_some hn] at h
          have := (stepsB_len h).2 b hb
          omega
theorem len_of {bits : Int} {ns : List Nd} (h : (stepsV bits ns).isSome = true) {i : Nat} {nd : Nd} (hn : ns[i]? = some nd) {b : Nat} (hb : b < 16) : 0 ≤ (nd.sl b).len ∧ (nd.sl b).len ≤ 129 := by
  obtain ⟨_, hbits, _⟩ := inR_of h
  rw [stepsV] at h
  split at h
  · obtain ⟨a, ha⟩ := Option.isSome_iff_exists.1 h
    have := stepsN_len ha i nd (List.getElem?_eq_some_iff.1 hn).1 hn b hb
    omega
  · cases h

/-! The way of a key. -/
def chain (ns : List Nd) (k : Key) : Nat → Nat
  | 0 => 0
  | n + 1 => ((ns.getD (chain ns k n) Nd.zero).nx (kst k n)).toNat
theorem chain_lt {ns : List Nd} {k : Key} (h : InR ns) (h0 : 0 < ns.length) : ∀ n, chain ns k n < ns.length
  | 0 => h0
  | n + 1 => by
    have ih := chain_lt (k := k) h h0 n
    obtain ⟨nd, hn⟩ : ∃ nd, ns[chain ns k n]? = some nd := ⟨ns[chain ns k n], by simp [ih]⟩
    have := h _ nd hn (kst k n) (kst_lt k n)
    rw [chain, getD_some hn]; omega
/-- How far a key's way goes: at most n steps. -/
def wayLen (ns : List Nd) (k : Key) (n : Nat) : Nat := ((List.range n).find? fun j => chain ns k (j + 1) == 0).getD n
theorem wayLen_stop {ns : List Nd} {k : Key} {n i : Nat} (hi : i < n) (h : ∀ j, j < i → chain ns k (j + 1) ≠ 0) (h0 : chain ns k (i + 1) = 0) : wayLen ns k n = i := by
  unfold wayLen
  have : (List.range n).find? (fun j => chain ns k (j + 1) == 0) = some i := by
    rw [List.find?_range_eq_some]
    exact ⟨by simpa using h0, by simpa using hi, fun j hj => by simpa using h j hj⟩
  rw [this]; rfl
theorem wayLen_all {ns : List Nd} {k : Key} {n : Nat} (h : ∀ j, j < n → chain ns k (j + 1) ≠ 0) : wayLen ns k n = n := by
  unfold wayLen
  have : (List.range n).find? (fun j => chain ns k (j + 1) == 0) = none := by
    rw [List.find?_range_eq_none]
    intro j hj
    simpa using h j hj
  rw [this]; rfl
def wayL (ns : List Nd) (k : Key) (n : Nat) : List Int := (List.range (n + 1)).map fun j => ((chain ns k j : Nat) : Int)
theorem wayL_zero (ns : List Nd) (k : Key) : wayL ns k 0 = [0] := rfl
theorem wayL_succ (ns : List Nd) (k : Key) (n : Nat) : wayL ns k (n + 1) = wayL ns k n ++ [((chain ns k (n + 1) : Nat) : Int)] := by simp [wayL, List.range_succ]
theorem wayL_length (ns : List Nd) (k : Key) (n : Nat) : (wayL ns k n).length = n + 1 := by simp [wayL]
theorem wayL_get {ns : List Nd} {k : Key} {n i : Nat} (h : i ≤ n) : (wayL ns k n)[i]? = some ((chain ns k i : Nat) : Int) := by
  simp [wayL, show i < n + 1 by omega]
/-- What Walk answers. -/
def walkOk (bits : Int) (ns : List Nd) (k : Key) : Bool := (stepsV bits ns).isSome && decide (kcut k bits = k)
def walkV (bits : Int) (ns : List Nd) (k : Key) : List Int := if walkOk bits ns k = true then wayL ns k (wayLen ns k (bits / 4).toNat) else []

/-! The best slot on a key's way. -/
def bestOf (ns : List Nd) (k : Key) : Nat → Slt
  | 0 => Slt.no
  | n + 1 => let s := (ns.getD (chain ns k n) Nd.zero).sl (kst k n)
    if (bestOf ns k n).len < s.len then s else bestOf ns k n
theorem bestOf_rng {bits : Int} {ns : List Nd} {k : Key} (h : (stepsV bits ns).isSome = true) : ∀ n, 0 ≤ (bestOf ns k n).len ∧ (bestOf ns k n).len ≤ 129
  | 0 => by simp [bestOf, Slt.no]
  | n + 1 => by
    obtain ⟨h1, _, h3, _⟩ := inR_of h
    have ih := bestOf_rng (k := k) h n
    have hl := chain_lt (k := k) h1 (by omega) n
    obtain ⟨nd, hn⟩ : ∃ nd, ns[chain ns k n]? = some nd := ⟨ns[chain ns k n], by simp [hl]⟩
    have := len_of h hn (kst_lt k n)
    simp only [bestOf, getD_some hn]
    split <;> omega
theorem walkV_len {bits : Int} {ns : List Nd} {k : Key} : (walkV bits ns k).length = 0 ↔ walkOk bits ns k = false := by
  unfold walkV; split
  · rename_i h; simp [wayL_length, h]
  · rename_i h; simpa using h
theorem walkV_get {bits : Int} {ns : List Nd} {k : Key} {i : Nat} (h : i < (walkV bits ns k).length) : (walkV bits ns k)[i]? = some ((chain ns k i : Nat) : Int) := by
  unfold walkV at h ⊢
  split at h
  · rename_i hk; rw [if_pos hk]; rw [wayL_length] at h; exact wayL_get (by omega)
  · simp at h
def findS (bits : Int) (ns : List Nd) (k : Key) : Slt := bestOf ns k (walkV bits ns k).length
def findE (bits : Int) (ns : List Nd) (k : Key) : Int := if walkOk bits ns k = true then (if (findS bits ns k).len = 0 then 6 else 0) else 1
def findN (bits : Int) (ns : List Nd) (k : Key) : Int := if findE bits ns k = 0 then (findS bits ns k).len - 1 else 0
def findH (bits : Int) (ns : List Nd) (k : Key) : UInt16 := if findE bits ns k = 0 then (findS bits ns k).hop else 0
def deepV (bits : Int) (ns : List Nd) : Int := ((stepsV bits ns).getD []).foldl max 0
end Go.Kb
