/- The sum of bytes: one byte changed is another sum. No program in sight. -/
import Derived.Test.YtldkgicmfbofiaaMa
import Derived.Test.YtldkgicmfbofiaaMt
import Derived.Test.YtldkgicmfbofiaaMb
import Derived.Lib.AppendZeros

set_option linter.unusedSimpArgs false
set_option linter.unusedVariables false
namespace Go.Kb

def crcP : Nat := 3988292384
def crcT (n : Nat) : Nat := (n / 2) ^^^ (if n % 2 = 1 then crcP else 0)
theorem crcT_lt {n : Nat} (h : n < 2 ^ 32) : crcT n < 2 ^ 32 := by
  refine Nat.xor_lt_two_pow (by omega) ?_
  split
  · decide
  · decide
theorem crcT_bit {n : Nat} (h : n < 2 ^ 32) : (crcT n).testBit 31 = decide (n % 2 = 1) := by
  have h1 : (n / 2).testBit 31 = false := Nat.testBit_lt_two_pow (by omega)
  rw [crcT, Nat.testBit_xor, h1]
  by_cases e : n % 2 = 1
  · rw [if_pos e, decide_eq_true e]; decide
  · rw [if_neg e, decide_eq_false e]; decide
theorem crcT_inj {a b : Nat} (ha : a < 2 ^ 32) (hb : b < 2 ^ 32) (h : crcT a = crcT b) : a = b := by
  have h1 := crcT_bit ha
  rw [h, crcT_bit hb] at h1
  have h2 : a % 2 = b % 2 := by
    by_cases e : b % 2 = 1
    · rw [decide_eq_true e] at h1; have := of_decide_eq_true h1.symm; omega
    · rw [decide_eq_false e] at h1; have := of_decide_eq_false h1.symm; omega
  have h3 := congrArg (fun x => x ^^^ (if b % 2 = 1 then crcP else 0)) h
  simp only [crcT, h2, Nat.xor_assoc, Nat.xor_self, Nat.xor_zero] at h3
  omega
def crcN (n : Nat) : Nat → Nat
  | 0 => n
  | k + 1 => crcT (crcN n k)
theorem crcN_lt {n : Nat} (h : n < 2 ^ 32) : ∀ k, crcN n k < 2 ^ 32
  | 0 => h
  | k + 1 => crcT_lt (crcN_lt h k)
theorem crcN_inj {a b : Nat} (ha : a < 2 ^ 32) (hb : b < 2 ^ 32) : ∀ k, crcN a k = crcN b k → a = b
  | 0, h => h
  | k + 1, h => crcN_inj ha hb k (crcT_inj (crcN_lt ha k) (crcN_lt hb k) h)
def crcB (n : Nat) (b : UInt8) : Nat := crcN (n ^^^ b.toNat) 8
theorem crcB_lt {n : Nat} {b : UInt8} (h : n < 2 ^ 32) : crcB n b < 2 ^ 32 := crcN_lt (Nat.xor_lt_two_pow h (by have := b.toNat_lt; omega)) 8
theorem xor_cancel {a b c : Nat} (h : a ^^^ c = b ^^^ c) : a = b := by
  have := congrArg (fun x => x ^^^ c) h
  simpa only [Nat.xor_assoc, Nat.xor_self, Nat.xor_zero] using this
theorem crcB_inj {a b : Nat} {x : UInt8} (ha : a < 2 ^ 32) (hb : b < 2 ^ 32) (h : crcB a x = crcB b x) : a = b :=
  xor_cancel (crcN_inj (Nat.xor_lt_two_pow ha (by have := x.toNat_lt; omega)) (Nat.xor_lt_two_pow hb (by have := x.toNat_lt; omega)) 8 h)
theorem crcB_byte {a : Nat} {x y : UInt8} (ha : a < 2 ^ 32) (h : crcB a x = crcB a y) : x = y := by
  have := crcN_inj (Nat.xor_lt_two_pow ha (by have := x.toNat_lt; omega)) (Nat.xor_lt_two_pow ha (by have := y.toNat_lt; omega)) 8 h
  rw [Nat.xor_comm a, Nat.xor_comm a] at this
  exact UInt8.toNat_inj.1 (xor_cancel this)
def crcS (n : Nat) (l : List UInt8) : Nat := l.foldl crcB n
theorem crcS_lt {n : Nat} (h : n < 2 ^ 32) : ∀ l, crcS n l < 2 ^ 32
  | [] => h
  | b :: l => crcS_lt (crcB_lt h) l
theorem crcS_inj {a b : Nat} (ha : a < 2 ^ 32) (hb : b < 2 ^ 32) : ∀ l, crcS a l = crcS b l → a = b
  | [], h => h
  | x :: l, h => crcB_inj ha hb (crcS_inj (crcB_lt ha) (crcB_lt hb) l h)
theorem crcS_snoc {n : Nat} {l : List UInt8} {i : Nat} {b : UInt8} (h : l[i]? = some b) : crcS n (l.take (i + 1)) = crcB (crcS n (l.take i)) b := by
  rw [List.take_add_one, h, crcS, crcS, List.foldl_append]; rfl
def crc (l : List UInt8) : Nat := 4294967295 - crcS 4294967295 l
theorem crc_lt (l : List UInt8) : crc l < 2 ^ 32 := by unfold crc; omega
theorem crc_one {l : List UInt8} {i : Nat} {x y : UInt8} (hx : l[i]? = some x) (hne : x ≠ y) : crc (l.set i y) ≠ crc l := by
  have h0 : (4294967295 : Nat) < 2 ^ 32 := by decide
  obtain ⟨hi, hx'⟩ := List.getElem?_eq_some_iff.1 hx
  have e1 : l = l.take i ++ x :: l.drop (i + 1) := by rw [← hx', List.getElem_cons_drop, List.take_append_drop]
  have e2 : l.set i y = l.take i ++ y :: l.drop (i + 1) := by rw [List.set_eq_take_append_cons_drop, if_pos hi]
  intro h
  have k1 := crcS_lt h0 l
  have k2 := crcS_lt h0 (l.set i y)
  have h3 : crcS 4294967295 (l.set i y) = crcS 4294967295 l := by unfold crc at h; omega
  rw [e2] at h3
  rw [e1] at h3
  have h4 : crcS (crcB (crcS 4294967295 (l.take i)) y) (l.drop (i + 1)) = crcS (crcB (crcS 4294967295 (l.take i)) x) (l.drop (i + 1)) := by
    have := h3
    simp only [crcS, List.foldl_append, List.foldl_cons] at this ⊢
    rw [← e1] at this
    exact this
  have k3 := crcS_lt h0 (l.take i)
  exact hne (crcB_byte k3 (crcS_inj (crcB_lt k3) (crcB_lt k3) _ h4)).symm
end Go.Kb

/- Changes of a table: what is less, the route itself, and what is more. No program in sight. -/
namespace Go.Kb
variable {t u : List Rt} {r : Rt} {q p : Pfx}
theorem less_tri (hp : pmay p = true) (hq : pmay q = true) (h : pless p q = false) (hn : p ≠ q) : pless q p = true := by
  rw [pless_iff hq hp]
  have h1 : ¬ pless p q = true := by rw [h]; simp
  rw [pless_iff hp hq] at h1
  have h2 : ¬ (p.bits = q.bits ∧ p.key.toNat = q.key.toNat ∧ p.len = q.len) := fun e => hn (pfx_eq.2 e)
  omega
theorem less_asym (hp : pmay p = true) (hq : pmay q = true) (h : pless p q = true) : pless q p = false := by
  cases hx : pless q p with
  | false => rfl
  | true => rw [pless_iff hq hp] at hx; rw [pless_iff hp hq] at h; omega
theorem less_ne (hp : pmay p = true) (h : pless p q = true) : p ≠ q := fun e => by subst e; rw [less_irr hp] at h; cases h
theorem less_trans' {a b c : Pfx} (ha : pmay a = true) (hb : pmay b = true) (hc : pmay c = true) (h1 : pless a b = true) (h2 : pless b c = true) : pless a c = true := by
  rw [pless_iff ha hb] at h1; rw [pless_iff hb hc] at h2; rw [pless_iff ha hc]; omega
def lessF (t : List Rt) (q : Pfx) : List Rt := t.filter fun x => pless x.p q
def moreF (t : List Rt) (q : Pfx) : List Rt := t.filter fun x => pless q x.p
theorem filter_all {α : Type} {f : α → Bool} {l : List α} (h : ∀ x ∈ l, f x = true) : l.filter f = l := List.filter_eq_self.2 h
theorem filter_none {α : Type} {f : α → Bool} {l : List α} (h : ∀ x ∈ l, f x = false) : l.filter f = [] := List.filter_eq_nil_iff.2 fun x hx => by rw [h x hx]; simp
theorem Ord.ext : ∀ {s t : List Rt}, Ord s → Ord t → (∀ x, x ∈ s ↔ x ∈ t) → s = t
  | [], [], _, _, _ => rfl
  | [], b :: t, _, _, h => by have := (h b).2 (List.mem_cons_self); cases this
  | a :: s, [], _, _, h => by have := (h a).1 (List.mem_cons_self); cases this
  | a :: s, b :: t, hs, ht, h => by
    have ha := (List.pairwise_cons.1 hs.less)
    have hb := (List.pairwise_cons.1 ht.less)
    have ma := hs.may a List.mem_cons_self
    have mb := ht.may b List.mem_cons_self
    have e : a = b := by
      apply Classical.byContradiction; intro hn
      rcases List.mem_cons.1 ((h a).1 List.mem_cons_self) with h1 | h1
      · exact hn h1
      · rcases List.mem_cons.1 ((h b).2 List.mem_cons_self) with h2 | h2
        · exact hn h2.symm
        · have h3 := hb.1 a h1
          have h4 := ha.1 b h2
          rw [less_asym mb ma h3] at h4; cases h4
    subst e
    have hne : ∀ x, (∀ y ∈ s, pless a.p y.p = true) → x ∈ s → x ≠ a := fun x hy hx e => by
      subst e; have := hy x hx; rw [less_irr ma] at this; cases this
    rw [Ord.ext (hs.sub (List.sublist_cons_self _ _)) (ht.sub (List.sublist_cons_self _ _)) fun x => ⟨fun hx => ?_, fun hx => ?_⟩]
    · rcases List.mem_cons.1 ((h x).1 (List.mem_cons_of_mem _ hx)) with h1 | h1
      · exact absurd h1 (hne x ha.1 hx)
      · exact h1
    · rcases List.mem_cons.1 ((h x).2 (List.mem_cons_of_mem _ hx)) with h1 | h1
      · subst h1; have := hb.1 x hx; rw [less_irr ma] at this; cases this
      · exact h1
theorem place_less (h : tright t = true) (hq : pmay q = true) : (∀ x ∈ t.take (placeN t q), pless x.p q = true) ∧ ∀ x ∈ t.drop (placeN t q), pless x.p q = false := by
  obtain ⟨h1, h2, h3⟩ := bs_spec (p := behind t q) (n := t.length) fun a b => behind_mono h hq a b
  constructor
  · intro x hx
    obtain ⟨i, hi⟩ := List.mem_iff_getElem?.1 hx
    have hil := (List.getElem?_eq_some_iff.1 hi).1
    rw [List.length_take] at hil
    rw [List.getElem?_take, if_pos (by omega)] at hi
    have := h2 i (by have : placeN t q = bs (behind t q) t.length := rfl; omega)
    simpa [behind, hi] using this
  · intro x hx
    obtain ⟨i, hi⟩ := List.mem_iff_getElem?.1 hx
    rw [List.getElem?_drop] at hi
    have hil := (List.getElem?_eq_some_iff.1 hi).1
    have := h3 (placeN t q + i) (Nat.le_add_right _ _) hil
    simpa [behind, hi] using this
theorem place_parts (h : tright t = true) (hq : pmay q = true) : t.take (placeN t q) = lessF t q ∧ (placeB t q = true → t.drop (placeN t q + 1) = moreF t q) ∧ (placeB t q = false → t.drop (placeN t q) = moreF t q) := by
  obtain ⟨h1, h2⟩ := place_less h hq
  have ho := right_ord h
  have e : t = t.take (placeN t q) ++ t.drop (placeN t q) := (List.take_append_drop _ _).symm
  have hm : ∀ x ∈ t, pmay x.p = true := ho.may
  have mt : ∀ x ∈ t.take (placeN t q), x ∈ t := fun x hx => List.mem_of_mem_take hx
  have md : ∀ x ∈ t.drop (placeN t q), x ∈ t := fun x hx => List.mem_of_mem_drop hx
  have k1 : t.take (placeN t q) = lessF t q := by
    unfold lessF
    conv => rhs; rw [e]
    rw [List.filter_append, filter_all h1, filter_none h2, List.append_nil]
  have k2 : moreF t q = moreF (t.drop (placeN t q)) q := by
    unfold moreF
    conv => lhs; rw [e]
    rw [List.filter_append, filter_none (l := t.take (placeN t q)) fun x hx => less_asym (hm x (mt x hx)) hq (h1 x hx), List.nil_append]
  refine ⟨k1, fun hb => ?_, fun hb => ?_⟩
  · obtain ⟨x, hx, hi, hp⟩ := place_in hb
    obtain ⟨hil, hi'⟩ := List.getElem?_eq_some_iff.1 hi
    have e2 : t.drop (placeN t q) = x :: t.drop (placeN t q + 1) := by rw [← hi', List.getElem_cons_drop]
    rw [k2, e2, moreF, List.filter_cons, hp, less_irr hq]
    simp only [Bool.false_eq_true, if_false]
    refine (filter_all fun y hy => ?_).symm
    obtain ⟨j, hj⟩ := List.mem_iff_getElem?.1 hy
    rw [List.getElem?_drop] at hj
    have := right_less h (placeN t q) (placeN t q + 1 + j) x y (by omega) hi hj
    rw [hp] at this; exact this
  · rw [k2]
    refine (filter_all fun y hy => ?_).symm
    refine less_tri (hm y (md y hy)) hq (h2 y hy) fun ep => ?_
    have := (place_some h hq (md y hy) ep).2
    rw [hb] at this; cases this
theorem chg_put (h : tright t = true) (he : chgE t ⟨r, false⟩ = 0) : chgL t ⟨r, false⟩ = lessF t r.p ++ r :: moreF t r.p := by
  obtain ⟨k1, k2, k3⟩ := place_parts h (chg_may he)
  rw [chgL, if_pos he, if_neg (by simp)]
  by_cases hb : placeB t r.p = true
  · obtain ⟨x, hx, hi, hp⟩ := place_in hb
    have hil := (List.getElem?_eq_some_iff.1 hi).1
    rw [if_pos hb, List.set_eq_take_append_cons_drop, if_pos hil, k1, k2 hb]
  · rw [if_neg hb]
    show t.take (placeN t r.p) ++ r :: t.drop (placeN t r.p) = _
    rw [k1, k3 (by simpa using hb)]
theorem chg_gone (h : tright t = true) (he : chgE t ⟨r, true⟩ = 0) : chgL t ⟨r, true⟩ = lessF t r.p ++ moreF t r.p := by
  have hm := chg_may he
  obtain ⟨k1, k2, k3⟩ := place_parts h hm
  have hb : placeB t r.p = true := by
    apply Classical.byContradiction; intro hn
    rw [chgE, if_pos hm, if_neg hn, if_pos rfl] at he; omega
  rw [chgL, if_pos he, if_pos rfl]
  show t.take (placeN t r.p) ++ t.drop (placeN t r.p + 1) = _
  rw [k1, k2 hb]
theorem gone_filter (h : Ord t) (hq : pmay q = true) : t.filter (fun x => decide (x.p ≠ q)) = lessF t q ++ moreF t q := by
  refine Ord.ext (h.sub List.filter_sublist) ⟨fun x hx => ?_, ?_⟩ fun x => ?_
  · rcases List.mem_append.1 hx with h1 | h1 <;> exact h.may x (List.mem_filter.1 h1).1
  · refine List.pairwise_append.2 ⟨h.less.sublist List.filter_sublist, h.less.sublist List.filter_sublist, fun a ha b hb => ?_⟩
    have ha := List.mem_filter.1 ha
    have hb := List.mem_filter.1 hb
    exact less_trans' (h.may a ha.1) hq (h.may b hb.1) ha.2 hb.2
  · rw [List.mem_append, List.mem_filter, lessF, moreF, List.mem_filter, List.mem_filter]
    constructor
    · rintro ⟨h1, h2⟩
      cases h3 : pless x.p q with
      | true => exact .inl ⟨h1, rfl⟩
      | false => exact .inr ⟨h1, less_tri (h.may x h1) hq h3 (by simpa using h2)⟩
    · rintro (⟨h1, h2⟩ | ⟨h1, h2⟩)
      · exact ⟨h1, by simpa using less_ne (h.may x h1) h2⟩
      · exact ⟨h1, by simpa using (less_ne hq h2).symm⟩
theorem ord_put (h : Ord t) (hr : pmay r.p = true) : Ord (lessF t r.p ++ r :: moreF t r.p) := by
  refine ⟨fun x hx => ?_, ?_⟩
  · rcases List.mem_append.1 hx with h1 | h1
    · exact h.may x (List.mem_filter.1 h1).1
    · rcases List.mem_cons.1 h1 with rfl | h1
      · exact hr
      · exact h.may x (List.mem_filter.1 h1).1
  · refine List.pairwise_append.2 ⟨h.less.sublist List.filter_sublist, List.pairwise_cons.2 ⟨fun y hy => (List.mem_filter.1 hy).2, h.less.sublist List.filter_sublist⟩, fun a ha b hb => ?_⟩
    have ha := List.mem_filter.1 ha
    rcases List.mem_cons.1 hb with rfl | hb
    · exact ha.2
    · have hb := List.mem_filter.1 hb
      exact less_trans' (h.may a ha.1) hr (h.may b hb.1) ha.2 hb.2
theorem chg_right (h : tright t = true) (c : Ch) : tright (chgL t c) = true := by
  by_cases he : chgE t c = 0
  · refine ord_right ?_ (chgL_len (tr_len h) c)
    obtain ⟨r, g⟩ := c
    cases g with
    | false => rw [chg_put h he]; exact ord_put (right_ord h) (chg_may he)
    | true => rw [chg_gone h he, ← gone_filter (right_ord h) (chg_may he)]; exact (right_ord h).sub List.filter_sublist
  · rw [chgL, if_neg he]; exact h
def putF (r : Rt) : List Rt → Bool → List Rt
  | [], d => if d = true then [] else [r]
  | x :: l, d => (if (!d && !pless x.p r.p) = true then [r] else []) ++ ((if x.p ≠ r.p then [x] else []) ++ putF r l (d || !pless x.p r.p))
theorem putF_done (r : Rt) : ∀ l, putF r l true = l.filter fun x => decide (x.p ≠ r.p)
  | [] => rfl
  | x :: l => by
    rw [putF, Bool.true_or, putF_done r l, List.filter_cons]
    by_cases h : x.p = r.p <;> simp [h]
theorem putF_eq (hr : pmay r.p = true) : ∀ {t : List Rt}, Ord t → putF r t false = lessF t r.p ++ r :: moreF t r.p
  | [], _ => rfl
  | x :: l, h => by
    have hl := h.sub (List.sublist_cons_self x l)
    have mx := h.may x List.mem_cons_self
    rw [putF]
    cases hx : pless x.p r.p with
    | true =>
      have hn := less_ne mx hx
      rw [show (false || !true) = false from rfl, putF_eq hr hl]
      simp [hn, lessF, moreF, List.filter_cons, hx, less_asym mx hr hx]
    | false =>
      rw [show (false || !false) = true from rfl, putF_done]
      have hp := (List.pairwise_cons.1 h.less).1
      have hg : ∀ y ∈ l, pless r.p y.p = true := fun y hy => by
        by_cases e : x.p = r.p
        · rw [← e]; exact hp y hy
        · exact less_trans' hr mx (hl.may y hy) (less_tri mx hr hx e) (hp y hy)
      have e1 : lessF (x :: l) r.p = [] := filter_none fun y hy => by
        rcases List.mem_cons.1 hy with rfl | hy
        · exact hx
        · exact less_asym hr (hl.may y hy) (hg y hy)
      have e2 : l.filter (fun y => decide (y.p ≠ r.p)) = l := filter_all fun y hy => by simpa using (less_ne hr (hg y hy)).symm
      have e3 : moreF l r.p = l := filter_all hg
      rw [e1, e2, moreF, List.filter_cons, show l.filter (fun y => pless r.p y.p) = l from e3]
      by_cases e : x.p = r.p
      · rw [e, less_irr hr]; simp
      · rw [less_tri mx hr hx e]; simp [e]
def rgetE (t : List Rt) (q : Pfx) : Int := if pmay q = true then (if (t.any fun x => decide (x.p = q)) = true then 0 else 6) else 1
def rgetH (t : List Rt) (q : Pfx) : UInt16 := if pmay q = true then ((t.find? fun x => decide (x.p = q)).map Rt.hop).getD 0 else 0
theorem get_place (h : tright t = true) (hq : pmay q = true) : (t.any fun x => decide (x.p = q)) = placeB t q := by
  cases hb : placeB t q with
  | true =>
    obtain ⟨x, hx, _, hp⟩ := place_in hb
    exact List.any_eq_true.2 ⟨x, hx, by simp [hp]⟩
  | false =>
    refine List.any_eq_false.2 fun x hx => ?_
    have hn : x.p ≠ q := fun e => by have := (place_some h hq hx e).2; rw [hb] at this; cases this
    simp [hn]
theorem chgE_get (h : tright t = true) (c : Ch) : chgE t c = if rgetE t c.r.p = 1 ∨ (rgetE t c.r.p = 6 ∧ c.gone = true) then rgetE t c.r.p else if rgetE t c.r.p = 6 ∧ 256 ≤ t.length then 5 else 0 := by
  unfold chgE rgetE
  by_cases hm : pmay c.r.p = true
  · rw [if_pos hm, if_pos hm, get_place h hm]
    cases placeB t c.r.p <;> cases c.gone <;> simp
  · rw [if_neg hm, if_neg hm]; simp
theorem rget_bad (h : pmay q = false) : rgetE t q = 1 ∧ rgetH t q = 0 := by simp [rgetE, rgetH, h]
theorem rget_no (hm : pmay q = true) (h : ∀ x ∈ t, x.p ≠ q) : rgetE t q = 6 ∧ rgetH t q = 0 := by
  have h1 : (t.any fun x => decide (x.p = q)) = false := List.any_eq_false.2 fun x hx => by simp [h x hx]
  have h2 : (t.find? fun x => decide (x.p = q)) = none := List.find?_eq_none.2 fun x hx => by simp [h x hx]
  simp [rgetE, rgetH, hm, h1, h2]
theorem rget_hit {i : Nat} {e : Rt} (hm : pmay q = true) (hno : ∀ x ∈ t.take i, x.p ≠ q) (he : t[i]? = some e) (hp : e.p = q) : rgetE t q = 0 ∧ rgetH t q = e.hop := by
  obtain ⟨hi, he'⟩ := List.getElem?_eq_some_iff.1 he
  have ht : t = t.take i ++ e :: t.drop (i + 1) := by rw [← he', List.getElem_cons_drop, List.take_append_drop]
  have h1 : (t.any fun x => decide (x.p = q)) = true := List.any_eq_true.2 ⟨e, List.mem_of_getElem? he, by simp [hp]⟩
  have h2 : (t.find? fun x => decide (x.p = q)) = some e := by
    rw [ht, List.find?_append, List.find?_eq_none.2 fun x hx => by simp [hno x hx]]
    simp [hp]
  rw [rgetE, rgetH, if_pos hm, if_pos hm, if_pos h1, h2]
  exact ⟨rfl, rfl⟩
theorem take_succ_all {α : Type} {P : α → Prop} {l : List α} {i : Nat} {e : α} (h : ∀ x ∈ l.take i, P x) (he : l[i]? = some e) (hp : P e) : ∀ x ∈ l.take (i + 1), P x := fun x hx => by
  rw [List.take_add_one, he] at hx
  rcases List.mem_append.1 hx with h1 | h1
  · exact h x h1
  · rw [show x = e by simpa using h1]; exact hp
theorem dropAt {α : Type} {l : List α} {i : Nat} {e : α} (he : l[i]? = some e) : l.drop i = e :: l.drop (i + 1) := by
  obtain ⟨hi, rfl⟩ := List.getElem?_eq_some_iff.1 he
  rw [List.getElem_cons_drop]
theorem filter_take1 {α : Type} {f : α → Bool} {l : List α} {i : Nat} {e : α} (he : l[i]? = some e) : (l.take (i + 1)).filter f = (l.take i).filter f ++ (if f e = true then [e] else []) := by
  rw [List.take_add_one, he, List.filter_append]
  cases h : f e <;> simp [h]
theorem chg_putF (h : tright t = true) (he : chgE t ⟨r, false⟩ = 0) : chgL t ⟨r, false⟩ = putF r t false := by rw [chg_put h he, putF_eq (chg_may he) (right_ord h)]
theorem chg_goneF (h : tright t = true) (he : chgE t ⟨r, true⟩ = 0) : chgL t ⟨r, true⟩ = t.filter fun x => decide (x.p ≠ r.p) := by rw [chg_gone h he, gone_filter (right_ord h) (chg_may he)]
theorem app_none {t : List Rt} {l : List Ch} (h : tright t = true) (he : appE t l ≠ 0) : appL t l = t := by rw [appL, if_neg he]
theorem app_end {t q : List Rt} {l : List Ch} {i : Nat} {c : Ch} (h : tright t = true) (hf : appF t l = appF q (l.drop i)) (hc : l[i]? = some c) (he : chgE q c ≠ 0) : appE t l = chgE q c ∧ appL t l = t := by
  have ef : appF t l = (q, chgE q c) := by rw [hf, appF_step hc, if_neg he]
  have e1 : appE t l = chgE q c := by rw [appE, if_pos h, ef]
  exact ⟨e1, by rw [appL, if_neg (by rw [e1]; exact he)]⟩
theorem app_done {t q : List Rt} {l : List Ch} (h : tright t = true) (hf : appF t l = appF q (l.drop l.length)) : appE t l = 0 ∧ appL t l = q := by
  have ef : appF t l = (q, 0) := by rw [hf, List.drop_length]; rfl
  have e1 : appE t l = 0 := by rw [appE, if_pos h, ef]
  exact ⟨e1, by rw [appL, if_pos e1, ef]⟩
theorem chcells_inj {a b : Ch} (h : chcells a = chcells b) : a = b := by
  have h1 : rcells a.r = rcells b.r := Array.ext_getElem? fun j => by
    rcases Nat.lt_or_ge j 19 with hj | hj
    · rw [← chcells_r a j hj, ← chcells_r b j hj, h]
    · rw [Array.getElem?_eq_none (by rw [rcells_size]; exact hj), Array.getElem?_eq_none (by rw [rcells_size]; exact hj)]
  have h2 := chcells_g a
  rw [h, chcells_g b] at h2
  obtain ⟨ar, ag⟩ := a
  obtain ⟨br, bg⟩ := b
  have e1 := rcells_inj h1
  simp only [Option.some.injEq, Value.bool.injEq] at h2
  simp only at e1
  rw [e1, h2]
theorem putF_yes {e : Rt} {l : List Rt} {d : Bool} (h : d = false) (h' : pless e.p r.p = false) : putF r (e :: l) d = [r] ++ ((if e.p ≠ r.p then [e] else []) ++ putF r l true) := by
  rw [putF, h, h']; rfl
theorem putF_no {e : Rt} {l : List Rt} {d : Bool} (h : d = true ∨ pless e.p r.p = true) : putF r (e :: l) d = (if e.p ≠ r.p then [e] else []) ++ putF r l d := by
  rw [putF]
  rcases h with h | h <;> rw [h] <;> cases d <;> rfl
end Go.Kb

/- A row told shorter; zero values behind the nil slice; a slice whose elements are known one by one. -/
namespace Go.Eng
open Go.RowKit
section
variable {α : Type} {enc : α → Array Value} {c : Nat} {s : Sv} {xs : List α}
theorem Mem.ownTake {w0 w : World} {L : List Ent} {i k : Nat} (hw : Mem w0 L w) (hi : L[i]? = some (own enc c s xs)) (hk : k ≤ xs.length) : Mem w0 (L.set i (own enc c (s.sub c 0 k) (xs.take k))) w := by
  obtain ⟨r, hrow⟩ := hw.get hi
  have r2 := r.sub (lo := 0) (hi := k) (Nat.zero_le _) hk
  rw [List.drop_zero, Nat.sub_zero] at r2
  refine hw.change hi (fun k hk => hk) (fun _ _ => rfl) rfl ⟨rfl, rfl, rfl⟩ ⟨r2, fun hn => ?_⟩
  obtain ⟨h1, cs, T, fz, h2, h3, h4, h5⟩ := hrow hn
  refine ⟨h1, cs, T, fz, h2, ?_, h4, h5⟩
  rw [Sv.sub_0]; exact h3
end
section
variable {P : Program} {N : Fra} {w0 : World} {env : Env} {L : List Ent} {Q : Exit → Act → World → Prop} {l rest : List Oper} {d : Option Tmp} {ty : TypeId} {ps : String} {af : Array Edge} {gd : Option (Nat × Bool)}
variable {α : Type} {enc : α → Array Value} {c : Nat} {xs : List α}
theorem sq_appendN {x y : Operand} {tx tys e : TypeId} {by' k : Nat} {z : Value} {kn kq : IntKind} {iy : Int} (x0 : α) (hx : ev env x = some (.slice none 0 0)) (hy : ev env y = some (.int kq iy)) (hk0 : iy = (k : Int)) (h0 : 0 < k)
    [ht : SlT P tx e c by'] [he : Enc enc c] (hc : 0 < c) [hz : ZeroT P e z] (hz0 : enc x0 = z.cells) (htn : P.underlying tys = some (.int kn)) (hb : k * by' ≤ 140737488355328) (h63 : k ≤ 140737488355328)
    (hk : ∀ b C : Nat, k ≤ C → Sq P N w0 l Q rest (putE env d (Sv.val ⟨false, b, 0, k, C, none⟩)) (own enc c ⟨false, b, 0, k, C, none⟩ (List.replicate k x0) :: L)) (hd : dstOk N d = true := by rfl) :
    Sq P N w0 l Q (⟨d, .call { callee := .builtin .append, args := #[x, y], argTypes := #[tx, tys] }, ty, ps, af, none⟩ :: rest) env L :=
  sq_run rfl hd fun aa w ha hw => by
    subst hk0
    obtain ⟨i', z', hi1, hi2, hi3, hi4, hzc⟩ := ht.info
    obtain rfl : z' = z := by
      have := hz.zero
      rw [hi1, Option.map_some, hi2] at this; exact Option.some.inj (Option.some.inj this)
    subst hi3 hi4
    have hrun := Lib.run_append_nil_zeros (P := P) w tx tys ty e i' z' kq kn ht.und htn hi1 hi2 k h0 hc (by omega) (by omega)
    have hcge := grownCap_ge w k 0 e
    generalize grownCap w k 0 e = C at hrun hcge
    have hZ1 := size_zeroCells z'.cells k
    have hZ2 := size_zeroCells z'.cells (C - k)
    have hgetZ : ∀ m i j, i < m → j < i'.size → (Builtin.zeroCells z'.cells m)[i * i'.size + j]? = z'.cells[j]? := fun m i j hi hj => by
      have hlt : i * i'.size + j < m * z'.cells.size := by
        rw [hzc]
        have : (i + 1) * i'.size ≤ m * i'.size := Nat.mul_le_mul_right _ hi
        rw [Nat.add_mul] at this; omega
      have e1 : (i * i'.size + j) % z'.cells.size = j := by rw [hzc, Nat.mul_comm, Nat.mul_add_mod]; exact Nat.mod_eq_of_lt hj
      have hz3 : j < z'.cells.size := by omega
      simp [Builtin.zeroCells, hlt, e1, hz3]
    refine ⟨_, _, _, ?_, hw.drew.call (mem_new (enc := enc) (c := i'.size) (xs := List.replicate k x0) (cs := Builtin.zeroCells z'.cells k ++ Builtin.zeroCells z'.cells (C - k)) (e := e) rfl k C (by simp) hcge h63 ?_ fun i x hx j hj => ?_), hk _ C hcge⟩
    · simp [execOp, ha.ev hx, ha.ev hy, resolve, invoke, builtin, hrun, Result.andThen, Sv.val]
    · rw [Array.size_append, hZ1, hZ2, hzc, ← Nat.add_mul]; exact Nat.mul_le_mul_right _ (by omega)
    · have hi : i < k := by
        have := (List.getElem?_eq_some_iff.1 hx).1
        simpa using this
      obtain rfl : x0 = x := by rw [List.getElem?_replicate, if_pos hi] at hx; exact Option.some.inj hx
      rw [hz0, ← hgetZ k i j hi hj, Array.getElem?_append_left]
      rw [hZ1, hzc]
      have : (i + 1) * i'.size ≤ k * i'.size := Nat.mul_le_mul_right _ hi
      rw [Nat.add_mul] at this; omega
theorem ry_capN {t e : TypeId} {x : Operand} {m : Nat} [ht : SliceT P t e m] (hx : ev env x = some (.slice none 0 0)) :
    Ry P N w0 env L ⟨d, .call { callee := .builtin .cap, args := #[x], argTypes := #[t] }, ty, ps, af, gd⟩ (.int .i64 (0 : Nat)) := fun a w ha _ => by
  have hu : P.underlying t = some (.slice (P.elem t)) := by rw [elem_of ht.und]; exact ht.und
  have := run_cap_slice (P := P) (w := w) t ty none 0 0 hu
  simp [execOp, ha.ev hx, resolve, invoke, builtin, this, Result.andThen, goInt]
class AllG (w0 : World) (L : List Ent) {τ : Type} [Deep τ] (xs : List τ) : Prop where
  h : ∀ w, Mem w0 L w → ∀ x ∈ xs, Deep.good (hp w) x
instance AllG.nil {τ : Type} [Deep τ] : AllG w0 L ([] : List τ) := ⟨fun _ _ _ h => by cases h⟩
instance AllG.cons {τ : Type} [Deep τ] {x : τ} {xs : List τ} [a : HdD w0 L x] [b : AllG w0 L xs] : AllG w0 L (x :: xs) := ⟨fun w hw y hy => by
  rcases List.mem_cons.1 hy with rfl | hy
  · exact a.h w hw
  · exact b.h w hw y hy⟩
instance (priority := low) HdD.flat {τ : Type} [Deep τ] [Plain τ] {enc : τ → Array Value} {c : Nat} [FlatT τ enc c] {s : Sv} {xs : List τ} [q : HdE w0 L enc c s xs] : HdD w0 L (⟨s, xs⟩ : Sl τ) := ⟨fun w hw => by
  have hl := q.h w hw
  have e1 : Deep.cells (τ := τ) = enc := funext (FlatT.h (c := c))
  have e2 : Deep.c τ = c := FlatT.hc (enc := enc)
  refine ⟨?_, fun x _ => Deep.good_of _ x (by rw [Plain.h x]; exact trivial)⟩
  subst e1 e2
  exact hl⟩
instance (priority := low) HdD.rows {τ : Type} [Deep τ] {enc : τ → Array Value} {c : Nat} [FlatT τ enc c] {s : Sv} {xs : List τ} [q : HdE w0 L enc c s xs] [g : AllG w0 L xs] : HdD w0 L (⟨s, xs⟩ : Sl τ) := ⟨fun w hw => by
  have hl := q.h w hw
  have e1 : Deep.cells (τ := τ) = enc := funext (FlatT.h (c := c))
  have e2 : Deep.c τ = c := FlatT.hc (enc := enc)
  refine ⟨?_, g.h w hw⟩
  subst e1 e2
  exact hl⟩
theorem sq_nameD {τ : Type} [Deep τ] {s : Sv} {xs : List τ} [g : HdD w0 L (⟨s, xs⟩ : Sl τ)] (h : ∀ a : Sl τ, a = ⟨s, xs⟩ → HdD w0 L a → Sq P N w0 l Q rest (putE env d a.sv.val) L) : Sq P N w0 l Q rest (putE env d s.val) L := h _ rfl g
def flatB (l : List (Sl UInt8)) : List UInt8 := (l.map Sl.xs).flatten
theorem flatB_snoc {l : List (Sl UInt8)} {i : Nat} {x : Sl UInt8} (h : l[i]? = some x) : flatB (l.take (i + 1)) = flatB (l.take i) ++ x.xs := by
  rw [flatB, List.take_add_one, h]; simp [flatB]
theorem flatB_le (l : List (Sl UInt8)) (i : Nat) : (flatB (l.take i)).length ≤ (flatB l).length := by
  have e : flatB l = flatB (l.take i) ++ flatB (l.drop i) := by
    unfold flatB
    rw [← List.flatten_append, ← List.map_append, List.take_append_drop]
  rw [e, List.length_append]; omega
end
def sealed (l : List UInt8) : List UInt8 := l ++ be (Kb.crc l) 4
def openE (l : List UInt8) : Int := if l.length < 4 then 3 else if Kb.crc (l.take (l.length - 4)) = de (l.drop (l.length - 4)) then 0 else 4
def openV (l : List UInt8) : List UInt8 := if openE l = 0 then l.take (l.length - 4) else []
/-! Numbers as bytes, and back. -/
theorem de_foldl (l : List UInt8) : ∀ n, l.foldl (fun a b => a * 256 + b.toNat) n = n * 256 ^ l.length + de l := by
  induction l with
  | nil => intro n; simp [de]
  | cons x l ih =>
    intro n
    rw [List.foldl_cons, ih, show de (x :: l) = l.foldl (fun a b => a * 256 + b.toNat) (0 * 256 + x.toNat) from rfl, ih, List.length_cons, Nat.pow_succ]
    simp only [Nat.zero_mul, Nat.zero_add, Nat.add_mul]
    rw [Nat.mul_assoc n, Nat.mul_comm 256, Nat.add_assoc]
theorem de_cons (x : UInt8) (l : List UInt8) : de (x :: l) = x.toNat * 256 ^ l.length + de l := by
  rw [show de (x :: l) = l.foldl (fun a b => a * 256 + b.toNat) (0 * 256 + x.toNat) from rfl, de_foldl]; simp
theorem de_all (l : List UInt8) : de l < 256 ^ l.length := by
  have := de_lt l l.length (Nat.le_refl _)
  rwa [List.take_length] at this
theorem be_add (m n : Nat) : ∀ k, be (m * 256 ^ k + n) k = be n k
  | 0 => rfl
  | k + 1 => by
    have e : m * 256 ^ (k + 1) + n = (m * 256) * 256 ^ k + n := by rw [Nat.pow_succ, Nat.mul_assoc, Nat.mul_comm 256]
    rw [be, be, e, be_add (m * 256) n k, Nat.add_comm, Nat.add_mul_div_right _ _ (Nat.pow_pos (by decide))]
    congr 1
    apply UInt8.toNat_inj.1
    rw [b8_toNat, b8_toNat]; omega
theorem be_de : ∀ l : List UInt8, be (de l) l.length = l
  | [] => rfl
  | x :: l => by
    have h := de_all l
    rw [de_cons, List.length_cons, be, be_add, be_de l, Nat.add_comm, Nat.add_mul_div_right _ _ (Nat.pow_pos (by decide)), Nat.div_eq_of_lt h, Nat.zero_add, b8_of]
theorem de_be (n : Nat) : ∀ k, de (be n k) = n % 256 ^ k
  | 0 => by simp [be, de, Nat.mod_one]
  | k + 1 => by
    rw [be, de_cons, be_length, de_be n k, b8_toNat, Nat.pow_succ, Nat.mod_mul, Nat.mul_comm, Nat.add_comm]
theorem open_iff {l : List UInt8} (h : ¬ l.length < 4) : sealed (l.take (l.length - 4)) = l ↔ Kb.crc (l.take (l.length - 4)) = de (l.drop (l.length - 4)) := by
  have hd : (l.drop (l.length - 4)).length = 4 := by simp; omega
  have e : l = l.take (l.length - 4) ++ l.drop (l.length - 4) := (List.take_append_drop _ _).symm
  constructor
  · intro h1
    have h2 : be (Kb.crc (l.take (l.length - 4))) 4 = l.drop (l.length - 4) := by
      have h3 : l.take (l.length - 4) ++ be (Kb.crc (l.take (l.length - 4))) 4 = l.take (l.length - 4) ++ l.drop (l.length - 4) := by rw [← e]; exact h1
      exact List.append_cancel_left h3
    rw [← h2, de_be, Nat.mod_eq_of_lt (Nat.lt_of_lt_of_le (Kb.crc_lt _) (by decide))]
  · intro h1
    have h2 := be_de (l.drop (l.length - 4))
    rw [hd, ← h1] at h2
    rw [sealed, h2, ← e]
def openS (b : Sv) (l : List UInt8) : Sv := if openE l = 0 then b.sub 1 0 (l.length - 4) else Sv.none
instance {w0 : World} {L : List Ent} {b : Sv} {l : List UInt8} [q : HdE w0 L benc 1 b l] : HdE w0 L benc 1 (openS b l) (openV l) := ⟨fun w hw => by
  unfold openS openV
  split
  · have := (q.h w hw).sub (lo := 0) (hi := l.length - 4) (Nat.zero_le _) (by omega)
    rwa [List.drop_zero, Nat.sub_zero] at this
  · exact Lies.nil benc 1 _⟩
end Go.Eng

/- A slice that is either one that the call was given, or one of its own. -/
namespace Go.Eng
open Go.RowKit
section
variable {w0 : World} {L : List Ent} {α : Type} {enc : α → Array Value} {c : Nat} {xs ys : List α} {s t : Sv} {g : Bool}
def selE (g : Bool) (e : Ent) : Ent := if g = true then .emp else e
class SelG (g : Bool) (s : Sv) {α : outParam Type} (xs : outParam (List α)) (t : outParam Sv) (ys : outParam (List α)) : Prop where
  h : g = true → s = t ∧ xs = ys
class OwnsS (L : List Ent) (s : Sv) {α : outParam Type} (enc : outParam (α → Array Value)) (c : outParam Nat) (xs : outParam (List α)) (g : outParam Bool) (i : outParam Nat) : Prop where
  h : L[i]? = some (selE g (own enc c s xs))
instance (priority := high) OwnsS.here {L : List Ent} : OwnsS (selE g (own enc c s xs) :: L) s enc c xs g 0 := ⟨rfl⟩
instance OwnsS.there {L : List Ent} {e : Ent} {i : Nat} [q : OwnsS L s enc c xs g i] : OwnsS (e :: L) s enc c xs g (i + 1) := ⟨by simpa using q.h⟩
instance (priority := low) Hd.sel {i : Nat} [q : OwnsS L s enc c xs g i] [r : SelG g s xs t ys] [h : HdE w0 L enc c t ys] : Hd w0 L s enc c xs := ⟨fun w hw => by
  cases hg : g with
  | true =>
    obtain ⟨rfl, rfl⟩ := r.h hg
    exact h.h w hw
  | false =>
    have e : (own enc c s xs).sat (fun k => w.heap[k]?) := by
      have := hw.get q.h
      rw [hg] at this; exact this
    exact e.1⟩
theorem Mem.selT {e : Ent} {w : World} (h : Mem w0 L w) : Mem w0 (selE true e :: L) w := Mem.emp_iff.2 h
theorem Mem.selF {e : Ent} {w : World} (h : Mem w0 (e :: L) w) : Mem w0 (selE false e :: L) w := h
theorem Mem.selJoin {g g' : Bool} {s s' : Sv} {w : World} (h : Mem w0 (selE g' (own enc c s' ys) :: selE g (own enc c s xs) :: L) w) (hg : g' = true → s' = s ∧ ys = xs) : Mem w0 (selE (g' && g) (own enc c s' ys) :: L) w := by
  cases g' with
  | true =>
    obtain ⟨rfl, rfl⟩ := hg rfl
    exact Mem.emp_iff.1 h
  | false =>
    rw [Bool.false_and]
    exact h.sub (List.Sublist.cons_cons _ (List.sublist_cons_self _ _))
end
section
variable {P : Program} {N : Fra} {w0 : World} {env : Env} {L : List Ent} {l : List Oper} {Q : Exit → Act → World → Prop} {rest : List Oper} {d : Option Tmp} {ty : TypeId} {ps : String} {af : Array Edge}
theorem sq_gd {op} {j t : Nat} {b g : Bool} (hj : (l[j]?).bind (·.dst) = some t) (hv : look env t = some (.bool g)) (ht : g = b) (h : Sq P N w0 l Q (⟨d, op, ty, ps, af, none⟩ :: rest) env L) :
    Sq P N w0 l Q (⟨d, op, ty, ps, af, some (j, b)⟩ :: rest) env L := fun a w ha hw => by
  have h1 := h a w ha hw
  unfold wpList at h1 ⊢
  rw [if_pos (wanted_none rfl)] at h1
  rw [wanted_some ha rfl hj hv, ht, beq_self_eq_true, if_pos rfl]
  exact h1
end
/-! Slices of slices whose elements are others'. -/
section
variable {w0 : World} {L : List Ent} {τ : Type} [Deep τ]
instance (priority := low) AllG.of {a : Sl τ} [q : HdD w0 L a] : AllG w0 L a.xs := ⟨fun w hw => (q.h w hw).2⟩
instance AllG.append {xs ys : List τ} [a : AllG w0 L xs] [b : AllG w0 L ys] : AllG w0 L (xs ++ ys) := ⟨fun w hw x hx => by
  rcases List.mem_append.1 hx with h | h
  · exact a.h w hw x h
  · exact b.h w hw x h⟩
class Within (xs : List τ) (a : outParam (Sl τ)) : Prop where
  h : ∀ x ∈ xs, x ∈ a.xs
instance (priority := low) AllG.within {xs : List τ} {a : Sl τ} [q : Within xs a] [g : HdD w0 L a] : AllG w0 L xs := ⟨fun w hw x hx => (g.h w hw).2 x (q.h x hx)⟩
end
section
variable {w0 : World} {L : List Ent} {τ : Type} [Deep τ]
instance AllG.take {xs : List τ} {n : Nat} [q : AllG w0 L xs] : AllG w0 L (xs.take n) := ⟨fun w hw x hx => q.h w hw x (List.mem_of_mem_take hx)⟩
instance AllG.drop {xs : List τ} {n : Nat} [q : AllG w0 L xs] : AllG w0 L (xs.drop n) := ⟨fun w hw x hx => q.h w hw x (List.mem_of_mem_drop hx)⟩
class NamedD (a : Sl τ) (s : outParam Sv) (xs : outParam (List τ)) : Prop where
  h : a = ⟨s, xs⟩
instance (priority := low) HdD.named {a : Sl τ} {s : Sv} {xs : List τ} [n : NamedD a s xs] [q : HdD w0 L (⟨s, xs⟩ : Sl τ)] : HdD w0 L a := ⟨by rw [n.h]; exact q.h⟩
end
end Go.Eng

