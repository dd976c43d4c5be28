/- Routes, and tables of them: what is right of a table. No program in sight. -/
import Derived.Test.YtldkgicmfbofiaaDoorKey
set_option linter.unusedSimpArgs false
set_option linter.unusedVariables false
namespace Go.Kb

structure Rt where
  p : Pfx
  hop : UInt16
  deriving DecidableEq

def zroute : Rt := ⟨⟨0, 0, 0#128⟩, 0⟩
def rcells (r : Rt) : Array Value := pcells r.p ++ #[.int .u16 r.hop.toNat]
theorem rcells_size (r : Rt) : (rcells r).size = 19 := by unfold rcells; rw [Array.size_append, pcells_size]; rfl
theorem rcells_p (r : Rt) (j : Nat) (h : j < 18) : (rcells r)[j]? = (pcells r.p)[j]? := by
  unfold rcells; rw [Array.getElem?_append_left (by rw [pcells_size]; exact h)]
theorem rcells_hop (r : Rt) : (rcells r)[18]? = some (.int .u16 r.hop.toNat) := by
  unfold rcells; rw [Array.getElem?_append_right (by rw [pcells_size]; omega), pcells_size]; rfl

/-- Route i of a table may be, and stands behind the one ahead of it. -/
def okAt (xs : List Rt) (i : Nat) : Bool := match xs[i]? with
  | none => true
  | some r => pmay r.p && match i with
    | 0 => true
    | j + 1 => match xs[j]? with
      | none => true
      | some q => pless q.p r.p
def okTo (xs : List Rt) (n : Nat) : Bool := (List.range n).all (okAt xs)
/-- The table is right. -/
def tright (xs : List Rt) : Bool := decide (xs.length ≤ 256) && okTo xs xs.length
theorem okTo_zero (xs : List Rt) : okTo xs 0 = true := rfl
theorem okTo_succ (xs : List Rt) (n : Nat) : okTo xs (n + 1) = (okTo xs n && okAt xs n) := by
  simp [okTo, List.range_succ]
theorem tright_long {xs : List Rt} (h : 256 < xs.length) : tright xs = false := by
  simp [tright]; omega
theorem tright_no {xs : List Rt} {i : Nat} (hi : i < xs.length) (h : okAt xs i = false) : tright xs = false := by
  have : okTo xs xs.length = false := by
    rw [okTo, List.all_eq_false]
    exact ⟨i, List.mem_range.2 hi, by simp [h]⟩
  simp [tright, this]
theorem tright_all {xs : List Rt} (h : xs.length ≤ 256) (ho : okTo xs xs.length = true) : tright xs = true := by simp [tright, h, ho]
theorem okAt_may {xs : List Rt} {i : Nat} {r : Rt} (hi : xs[i]? = some r) (h : pmay r.p = false) : okAt xs i = false := by simp [okAt, hi, h]
theorem okAt_zero {xs : List Rt} {r : Rt} (hi : xs[0]? = some r) : okAt xs 0 = pmay r.p := by simp [okAt, hi]
theorem okAt_succ {xs : List Rt} {i : Nat} {q r : Rt} (hi : xs[i + 1]? = some r) (hq : xs[i]? = some q) : okAt xs (i + 1) = (pmay r.p && pless q.p r.p) := by simp [okAt, hi, hq]
theorem okAt_pos {xs : List Rt} {i : Nat} {q r : Rt} (h0 : 0 < i) (hi : xs[i]? = some r) (hq : xs[i - 1]? = some q) : okAt xs i = (pmay r.p && pless q.p r.p) := by
  obtain ⟨j, rfl⟩ : ∃ j, i = j + 1 := ⟨i - 1, by omega⟩
  exact okAt_succ hi (by simpa using hq)
theorem okAt_eq {xs : List Rt} {i : Nat} {q r : Rt} (hi : xs[i]? = some r) (hq : xs[i - 1]? = some q) : okAt xs i = (pmay r.p && !(decide (0 < (i : Int)) && !pless q.p r.p)) := by
  rcases Nat.eq_zero_or_pos i with h | h
  · subst h; rw [okAt_zero hi]; simp
  · rw [okAt_pos h hi hq]; simp [h]
theorem okAt_eq' {xs : List Rt} {i : Nat} {q r : Rt} (hi : xs[i]? = some r) (hq : xs[i - 1]? = some q) : okAt xs i = !(!pmay r.p || (decide (0 < (i : Int)) && !pless q.p r.p)) := by
  rw [okAt_eq hi hq]; cases pmay r.p <;> simp
theorem and_r {c g : Bool} (h : (c && g) = true) : g = true := by cases c <;> simp_all
theorem get_some {α : Type} {xs : List α} {i : Nat} (h : i < xs.length) : ∃ r, xs[i]? = some r := ⟨xs[i], by simp [h]⟩

theorem rcells_inj {a b : Rt} (h : rcells a = rcells b) : a = b := by
  have hp : pcells a.p = pcells b.p := Array.ext_getElem? fun j => by
    rcases Nat.lt_or_ge j 18 with hj | hj
    · rw [← rcells_p a j hj, ← rcells_p b j hj, h]
    · rw [Array.getElem?_eq_none (by rw [pcells_size]; exact hj), Array.getElem?_eq_none (by rw [pcells_size]; exact hj)]
  have hh := rcells_hop a
  rw [h, rcells_hop b] at hh
  have e1 : b.hop = a.hop := by
    apply UInt16.toNat_inj.1
    simp only [Option.some.injEq, Value.int.injEq, true_and] at hh
    omega
  obtain ⟨p, q⟩ := a
  obtain ⟨p', q'⟩ := b
  simp only at e1 hp
  rw [pcells_inj hp, e1]

/-- Two lists that differ at i are not the same; two that are of one length and agree everywhere are. -/
theorem list_no {α : Type} {xs ys : List α} {i : Nat} {a b : α} (ha : xs[i]? = some a) (hb : ys[i]? = some b) (h : ¬ a = b) : ¬ xs = ys := fun e => by
  rw [e, hb] at ha; exact h (Option.some.inj ha).symm
theorem list_all {α : Type} {xs ys : List α} (hl : xs.length = ys.length) (h : ∀ j, j < xs.length → xs[j]? = ys[j]?) : xs = ys := List.ext_getElem? fun j => by
  rcases Nat.lt_or_ge j xs.length with hj | hj
  · exact h j hj
  · rw [List.getElem?_eq_none hj, List.getElem?_eq_none (by omega)]

end Go.Kb
