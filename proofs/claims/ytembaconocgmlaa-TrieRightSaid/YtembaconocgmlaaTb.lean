/- The best route of a table, by halving, and by its trie. No program in sight. -/
import Derived.Test.YtembaconocgmlaaTw
set_option linter.unusedSimpArgs false
set_option linter.unusedVariables false
namespace Go.Kb

/-! Search by halving. -/
def bsl (p : Nat → Bool) : Nat → Nat → Nat → Nat
  | 0, i, _ => i
  | f + 1, i, j => if i < j then (if p ((i + j) / 2) = true then bsl p f i ((i + j) / 2) else bsl p f ((i + j) / 2 + 1) j) else i
/-- What halving finds among n. -/
def bs (p : Nat → Bool) (n : Nat) : Nat := bsl p (n + 1) 0 n
theorem bsl_more (p : Nat → Bool) : ∀ (f g i j : Nat), j - i < f → j - i < g → bsl p f i j = bsl p g i j
  | 0, _, _, _, h, _ => by omega
  | _ + 1, 0, _, _, _, h => by omega
  | f + 1, g + 1, i, j, h1, h2 => by
    rw [bsl, bsl]
    split
    · split
      · exact bsl_more p f g _ _ (by omega) (by omega)
      · exact bsl_more p f g _ _ (by omega) (by omega)
    · rfl
theorem bsl_step {p : Nat → Bool} {f i j : Nat} (h : i < j) (hf : j - i < f) : bsl p f i j = if p ((i + j) / 2) = true then bsl p f i ((i + j) / 2) else bsl p f ((i + j) / 2 + 1) j := by
  match f, hf with
  | f + 1, hf =>
    rw [bsl, if_pos h]
    split
    · exact bsl_more p f (f + 1) _ _ (by omega) (by omega)
    · exact bsl_more p f (f + 1) _ _ (by omega) (by omega)
theorem bsl_stop {p : Nat → Bool} {f i j : Nat} (h : ¬ i < j) (hf : 0 < f) : bsl p f i j = i := by
  match f, hf with
  | f + 1, _ => rw [bsl, if_neg h]
theorem bsl_spec {p : Nat → Bool} {n : Nat} (hm : ∀ a b, a ≤ b → b < n → p a = true → p b = true) : ∀ (f i j : Nat), j - i < f → i ≤ j → j ≤ n → (∀ a, a < i → p a = false) → (∀ a, j ≤ a → a < n → p a = true) →
    bsl p f i j ≤ n ∧ (∀ a, a < bsl p f i j → p a = false) ∧ ∀ a, bsl p f i j ≤ a → a < n → p a = true
  | 0, _, _, h, _, _, _, _ => by omega
  | f + 1, i, j, h, hij, hjn, h1, h2 => by
    rw [bsl]
    split
    · rename_i hlt
      split
      · rename_i hp
        exact bsl_spec hm f _ _ (by omega) (by omega) (by omega) h1 fun a ha han => hm _ a ha han hp
      · rename_i hp
        refine bsl_spec hm f _ _ (by omega) (by omega) hjn (fun a ha => ?_) h2
        cases hpa : p a with
        | false => rfl
        | true => exact absurd (hm a ((i + j) / 2) (by omega) (by omega) hpa) hp
    · obtain rfl : i = j := by omega
      exact ⟨hjn, h1, h2⟩
theorem bs_spec {p : Nat → Bool} {n : Nat} (hm : ∀ a b, a ≤ b → b < n → p a = true → p b = true) : bs p n ≤ n ∧ (∀ a, a < bs p n → p a = false) ∧ ∀ a, bs p n ≤ a → a < n → p a = true :=
  bsl_spec hm (n + 1) 0 n (by omega) (Nat.zero_le _) (Nat.le_refl _) (fun a ha => by omega) (fun a h1 h2 => by omega)

/-! A prefix's place in a table. -/
def behind (t : List Rt) (q : Pfx) (j : Nat) : Bool := match t[j]? with
  | some r => !pless r.p q
  | none => true
def placeN (t : List Rt) (q : Pfx) : Nat := bs (behind t q) t.length
def placeB (t : List Rt) (q : Pfx) : Bool := match t[placeN t q]? with
  | some r => decide (r.p = q)
  | none => false
theorem bsl_le {p : Nat → Bool} : ∀ (f i j : Nat), i ≤ j → bsl p f i j ≤ j
  | 0, _, _, h => h
  | f + 1, i, j, h => by
    rw [bsl]; split
    · split
      · exact Nat.le_trans (bsl_le f _ _ (by omega)) (by omega)
      · exact bsl_le f _ _ (by omega)
    · exact h
theorem placeN_le (t : List Rt) (q : Pfx) : placeN t q ≤ t.length := bsl_le _ _ _ (Nat.zero_le _)

theorem placeB_eq (t : List Rt) (q : Pfx) : placeB t q = (decide (((placeN t q : Nat) : Int) < (t.length : Int)) && decide ((t.getD (placeN t q) zroute).p = q)) := by
  rcases Nat.lt_or_ge (placeN t q) t.length with h | h
  · have e : t[placeN t q]? = some t[placeN t q] := by simp [h]
    rw [placeB, e, List.getD_eq_getElem?_getD, e]; simp [h]
  · rw [placeB, List.getElem?_eq_none h, decide_eq_false (by omega)]; rfl
/-- The route of the longest cut of a key, of at most n bits. -/
def bestAt (t : List Rt) (k : Key) (bits : Int) (n : Nat) : Option Rt := if placeB t ⟨bits, n, kcut k n⟩ = true then t[placeN t ⟨bits, n, kcut k n⟩]? else none
def bestF (t : List Rt) (k : Key) (bits : Int) : Nat → Option Rt
  | 0 => bestAt t k bits 0
  | n + 1 => match bestAt t k bits (n + 1) with
    | some r => some r
    | none => bestF t k bits n
def bestO (t : List Rt) (k : Key) (bits : Int) : Bool := tright t && pmay ⟨bits, bits, k⟩
def bestR (t : List Rt) (k : Key) (bits : Int) : Rt := if bestO t k bits = true then (bestF t k bits bits.toNat).getD zroute else zroute
def bestE (t : List Rt) (k : Key) (bits : Int) : Int := if bestO t k bits = true then (if (bestF t k bits bits.toNat).isSome = true then 0 else 6) else 1

/-! In a right table. -/
theorem right_less {t : List Rt} (h : tright t = true) : ∀ (i j : Nat) (a b : Rt), i < j → t[i]? = some a → t[j]? = some b → pless a.p b.p = true := by
  intro i j
  induction j with
  | zero => intro a b hij; omega
  | succ j ih =>
    intro a b hij ha hb
    have hjl := (List.getElem?_eq_some_iff.1 hb).1
    obtain ⟨c, hc⟩ : ∃ c, t[j]? = some c := ⟨t[j], by simp [show j < t.length by omega]⟩
    have hcb : pless c.p b.p = true := by
      cases hx : pless c.p b.p with
      | true => rfl
      | false =>
        have := tright_no hjl (by rw [okAt_succ hb hc, hx]; simp)
        rw [this] at h; cases h
    rcases Nat.lt_or_ge i j with h1 | h1
    · have hac := ih a c h1 ha hc
      have m1 := tr_may h (List.mem_of_getElem? ha)
      have m2 := tr_may h (List.mem_of_getElem? hb)
      have m3 := tr_may h (List.mem_of_getElem? hc)
      rw [pless_iff m1 m3] at hac
      rw [pless_iff m3 m2] at hcb
      rw [pless_iff m1 m2]
      omega
    · obtain rfl : i = j := by omega
      obtain rfl := Option.some.inj (ha.symm.trans hc)
      exact hcb
theorem less_irr {p : Pfx} (h : pmay p = true) : pless p p = false := by
  cases hx : pless p p with
  | false => rfl
  | true => rw [pless_iff h h] at hx; omega
theorem right_uniq {t : List Rt} (h : tright t = true) {a b : Rt} (ha : a ∈ t) (hb : b ∈ t) (e : a.p = b.p) : a = b := by
  obtain ⟨i, hi⟩ := List.mem_iff_getElem?.1 ha
  obtain ⟨j, hj⟩ := List.mem_iff_getElem?.1 hb
  rcases Nat.lt_trichotomy i j with h1 | h1 | h1
  · have := right_less h i j a b h1 hi hj
    rw [e, less_irr (tr_may h hb)] at this; cases this
  · subst h1; exact Option.some.inj (hi.symm.trans hj)
  · have := right_less h j i b a h1 hj hi
    rw [e, less_irr (tr_may h hb)] at this; cases this
theorem behind_mono {t : List Rt} (h : tright t = true) {q : Pfx} (hq : pmay q = true) (a b : Nat) (hab : a ≤ b) (hb : b < t.length) (ha : behind t q a = true) : behind t q b = true := by
  obtain ⟨x, hx⟩ : ∃ x, t[a]? = some x := ⟨t[a], by simp [show a < t.length by omega]⟩
  obtain ⟨y, hy⟩ : ∃ y, t[b]? = some y := ⟨t[b], by simp [hb]⟩
  simp only [behind, hx, hy, Bool.not_eq_true'] at ha ⊢
  rcases Nat.lt_or_ge a b with h1 | h1
  · have hl := right_less h a b x y h1 hx hy
    have m1 := tr_may h (List.mem_of_getElem? hx)
    have m2 := tr_may h (List.mem_of_getElem? hy)
    cases hz : pless y.p q with
    | false => rfl
    | true =>
      rw [pless_iff m1 m2] at hl
      rw [pless_iff m2 hq] at hz
      have : pless x.p q = true := by rw [pless_iff m1 hq]; omega
      rw [this] at ha; cases ha
  · obtain rfl : a = b := by omega
    obtain rfl := Option.some.inj (hx.symm.trans hy)
    exact ha
theorem place_some {t : List Rt} (h : tright t = true) {q : Pfx} (hq : pmay q = true) {r : Rt} (hr : r ∈ t) (e : r.p = q) : t[placeN t q]? = some r ∧ placeB t q = true := by
  obtain ⟨h1, h2, h3⟩ := bs_spec (p := behind t q) (n := t.length) fun a b => behind_mono h hq a b
  obtain ⟨i, hi⟩ := List.mem_iff_getElem?.1 hr
  have hil := (List.getElem?_eq_some_iff.1 hi).1
  have e1 : placeN t q = i := by
    have hbi : behind t q i = true := by simp only [behind, hi, e, less_irr hq]; rfl
    rcases Nat.lt_trichotomy (placeN t q) i with h4 | h4 | h4
    · obtain ⟨x, hx⟩ : ∃ x, t[placeN t q]? = some x := ⟨t[placeN t q], by simp [show placeN t q < t.length by omega]⟩
      have h5 := h3 (placeN t q) (Nat.le_refl _) (by omega)
      have h6 := right_less h _ _ x r h4 hx hi
      simp only [behind, hx] at h5
      rw [e] at h6; rw [h6] at h5; cases h5
    · exact h4
    · have := h2 i h4; rw [this] at hbi; cases hbi
  rw [placeB, e1, hi]
  exact ⟨rfl, by simp [e]⟩
theorem place_in {t : List Rt} {q : Pfx} (h : placeB t q = true) : ∃ r ∈ t, t[placeN t q]? = some r ∧ r.p = q := by
  rw [placeB] at h
  cases e : t[placeN t q]? with
  | none => rw [e] at h; cases h
  | some r => rw [e] at h; exact ⟨r, List.mem_of_getElem? e, rfl, by simpa using h⟩

section
variable {t : List Rt} {k : Key} {bits : Int}
theorem cut_may (hb : bits = 32 ∨ bits = 128) {n : Nat} (hn : (n : Int) ≤ bits) : pmay ⟨bits, n, kcut k n⟩ = true :=
  (pmay_iff _).2 ⟨hb, by simp, hn, by simp only; rw [kcut_cut]; congr 1; omega⟩
theorem bestAt_some (h : tright t = true) (hb : bits = 32 ∨ bits = 128) {n : Nat} (hn : (n : Int) ≤ bits) {r : Rt} : bestAt t k bits n = some r ↔ r ∈ t ∧ r.p = ⟨bits, n, kcut k n⟩ := by
  constructor
  · intro e
    unfold bestAt at e
    split at e
    · rename_i hp
      obtain ⟨r', h1, h2, h3⟩ := place_in hp
      rw [h2] at e
      obtain rfl := Option.some.inj e
      exact ⟨h1, h3⟩
    · cases e
  · rintro ⟨h1, h2⟩
    obtain ⟨h3, h4⟩ := place_some h (cut_may hb hn) h1 h2
    rw [bestAt, if_pos h4, h3]
/-- Who is the best of n bits. -/
theorem bestF_some (h : tright t = true) (hb : bits = 32 ∨ bits = 128) : ∀ {n : Nat} {r : Rt}, (n : Int) ≤ bits → bestF t k bits n = some r → r ∈ t ∧ (∃ m : Nat, m ≤ n ∧ r.p = ⟨bits, m, kcut k m⟩) ∧ ∀ q ∈ t, ∀ m : Nat, m ≤ n → q.p = ⟨bits, m, kcut k m⟩ → q.p.len ≤ r.p.len
  | 0, r, hn, e => by
    obtain ⟨h1, h2⟩ := (bestAt_some h hb hn).1 e
    exact ⟨h1, ⟨0, Nat.le_refl _, h2⟩, fun q _ m hm hq => by rw [hq, h2]; simp; omega⟩
  | n + 1, r, hn, e => by
    rw [bestF] at e
    cases hx : bestAt t k bits (n + 1) with
    | some r' =>
      rw [hx] at e
      obtain rfl := Option.some.inj e
      obtain ⟨h1, h2⟩ := (bestAt_some h hb hn).1 hx
      exact ⟨h1, ⟨n + 1, Nat.le_refl _, h2⟩, fun q _ m hm hq => by rw [hq, h2]; simp; omega⟩
    | none =>
      rw [hx] at e
      obtain ⟨h1, ⟨m, hm, h2⟩, h3⟩ := bestF_some h hb (by omega) e
      refine ⟨h1, ⟨m, by omega, h2⟩, fun q hq m' hm' e' => ?_⟩
      rcases Nat.lt_or_ge n m' with h4 | h4
      · obtain rfl : m' = n + 1 := by omega
        rw [(bestAt_some h hb hn).2 ⟨hq, e'⟩] at hx; cases hx
      · exact h3 q hq m' h4 e'
theorem bestF_none (h : tright t = true) (hb : bits = 32 ∨ bits = 128) : ∀ {n : Nat}, (n : Int) ≤ bits → bestF t k bits n = none → ∀ q ∈ t, ∀ m : Nat, m ≤ n → q.p ≠ ⟨bits, m, kcut k m⟩
  | 0, hn, e => fun q hq m hm e' => by
    obtain rfl : m = 0 := by omega
    rw [bestF, (bestAt_some h hb hn).2 ⟨hq, e'⟩] at e; cases e
  | n + 1, hn, e => fun q hq m hm e' => by
    rw [bestF] at e
    cases hx : bestAt t k bits (n + 1) with
    | some r' => rw [hx] at e; cases e
    | none =>
      rw [hx] at e
      rcases Nat.lt_or_ge n m with h4 | h4
      · obtain rfl : m = n + 1 := by omega
        rw [(bestAt_some h hb hn).2 ⟨hq, e'⟩] at hx; cases hx
      · exact bestF_none h hb (by omega) e q hq m h4 e'
/-- A route of so many bits that fits a key has its cut. -/
theorem fit_cut {r : Rt} (hbits : r.p.bits = bits) (hf : pfits r.p k = true) : ∃ m : Nat, (m : Int) ≤ bits ∧ r.p = ⟨bits, m, kcut k m⟩ := by
  obtain ⟨h1, _, h3⟩ := (pfits_iff _ _).1 hf
  obtain ⟨_, h4, h5, _⟩ := (pmay_iff _).1 h1
  refine ⟨r.p.len.toNat, by omega, ?_⟩
  obtain ⟨⟨b, l, q⟩, hop⟩ := r
  simp only at *
  have : ((l.toNat : Nat) : Int) = l := by omega
  rw [this, h3, hbits]
theorem cut_fit (hb : bits = 32 ∨ bits = 128) (hk : kcut k bits = k) {r : Rt} {m : Nat} (hm : (m : Int) ≤ bits) (e : r.p = ⟨bits, m, kcut k m⟩) : r.p.bits = bits ∧ pfits r.p k = true := by
  refine ⟨by rw [e], (pfits_iff _ _).2 ⟨by rw [e]; exact cut_may hb hm, by rw [e]; exact hk, by rw [e]⟩⟩

/-! What a trie finds. -/
theorem hit_fit {r : Rt} (hm : pmay r.p = true) (hb : bits = 32 ∨ bits = 128) {s : Nat} (hs : 4 * ((s : Int) + 1) ≤ bits) : hit r bits (wayAt k s) (kst k s) = true ↔ r.p.bits = bits ∧ lastN r.p = s ∧ kcut k r.p.len = r.p.key := by
  have hk2 : rset (wayAt k s).key (wayAt k s).steps (kst k s) = kcut k ((4 * (s + 1) : Nat) : Int) := congrArg Wy.key (child_wayAt k s (by omega))
  obtain ⟨h1, h2, h3, h4⟩ := (pmay_iff _).1 hm
  simp only [hit, Bool.and_eq_true, decide_eq_true_eq]
  rw [hk2, pfits_iff]
  constructor
  · rintro ⟨⟨h5, h6⟩, h7, h8, h9⟩
    have h6' : lastN r.p = s := h6
    refine ⟨h5, h6', ?_⟩
    rw [kcut_cut] at h9
    have : min ((4 * (s + 1) : Nat) : Int) r.p.len = r.p.len := by unfold lastN at h6'; omega
    rwa [this] at h9
  · rintro ⟨h5, h6, h7⟩
    refine ⟨⟨h5, h6⟩, hm, ?_, ?_⟩
    · rw [kcut_cut]; congr 1; omega
    · rw [kcut_cut]
      have : min ((4 * (s + 1) : Nat) : Int) r.p.len = r.p.len := by unfold lastN at h6; omega
      rw [this, h7]
theorem slot_best {w : Wy} {b : Nat} : ∀ (R : List Rt) (s : Slt) (S : Rt → Prop), (∀ r ∈ R, pmay r.p = true) →
    ((s = Slt.no ∧ ∀ r, ¬ S r) ∨ ∃ r, S r ∧ s = ⟨r.p.len + 1, r.hop⟩ ∧ ∀ q, S q → q.p.len ≤ r.p.len) →
    (R.foldl (slotUp bits w b) s = Slt.no ∧ ∀ r, ¬ (S r ∨ r ∈ R ∧ hit r bits w b = true)) ∨ ∃ r, (S r ∨ r ∈ R ∧ hit r bits w b = true) ∧ R.foldl (slotUp bits w b) s = ⟨r.p.len + 1, r.hop⟩ ∧ ∀ q, (S q ∨ q ∈ R ∧ hit q bits w b = true) → q.p.len ≤ r.p.len
  | [], s, S, _, h => by
    rcases h with ⟨h1, h2⟩ | ⟨r, h1, h2, h3⟩
    · exact .inl ⟨h1, fun r hr => by rcases hr with hr | ⟨hr, _⟩; exact h2 r hr; cases hr⟩
    · exact .inr ⟨r, .inl h1, h2, fun q hq => by rcases hq with hq | ⟨hq, _⟩; exact h3 q hq; cases hq⟩
  | a :: R, s, S, hm, h => by
    have hl := ((pmay_iff a.p).1 (hm a (by simp))).2.1
    have ih := slot_best (w := w) (b := b) R (slotUp bits w b s a) (fun r => S r ∨ r = a ∧ hit a bits w b = true) (fun r hr => hm r (by simp [hr])) (by
      unfold slotUp
      by_cases hh : hit a bits w b = true
      · rcases h with ⟨h1, h2⟩ | ⟨r, h1, h2, h3⟩
        · refine .inr ⟨a, .inr ⟨rfl, hh⟩, ?_, fun q hq => ?_⟩
          · rw [if_pos ⟨hh, by rw [h1]; exact hl⟩]
          · rcases hq with hq | ⟨hq, _⟩
            · exact absurd hq (h2 q)
            · rw [hq]; exact Int.le_refl _
        · by_cases hc : r.p.len + 1 ≤ a.p.len
          · refine .inr ⟨a, .inr ⟨rfl, hh⟩, ?_, fun q hq => ?_⟩
            · rw [if_pos ⟨hh, by rw [h2]; exact hc⟩]
            · rcases hq with hq | ⟨hq, _⟩
              · have := h3 q hq; omega
              · rw [hq]; exact Int.le_refl _
          · refine .inr ⟨r, .inl h1, ?_, fun q hq => ?_⟩
            · rw [if_neg (by rw [h2]; exact fun h9 => hc h9.2)]; exact h2
            · rcases hq with hq | ⟨hq, _⟩
              · exact h3 q hq
              · rw [hq]; omega
      · rcases h with ⟨h1, h2⟩ | ⟨r, h1, h2, h3⟩
        · refine .inl ⟨by rw [if_neg (fun h9 => hh h9.1)]; exact h1, fun r hr => ?_⟩
          rcases hr with hr | ⟨_, hr⟩
          · exact h2 r hr
          · exact hh hr
        · refine .inr ⟨r, .inl h1, by rw [if_neg (fun h9 => hh h9.1)]; exact h2, fun q hq => ?_⟩
          rcases hq with hq | ⟨_, hq⟩
          · exact h3 q hq
          · exact absurd hq hh)
    have eqv : ∀ r, ((S r ∨ r = a ∧ hit a bits w b = true) ∨ r ∈ R ∧ hit r bits w b = true) ↔ (S r ∨ r ∈ a :: R ∧ hit r bits w b = true) := fun r => by
      constructor
      · rintro ((h1 | ⟨rfl, h2⟩) | ⟨h1, h2⟩)
        · exact .inl h1
        · exact .inr ⟨by simp, h2⟩
        · exact .inr ⟨by simp [h1], h2⟩
      · rintro (h1 | ⟨h1, h2⟩)
        · exact .inl (.inl h1)
        · rcases List.mem_cons.1 h1 with rfl | h1
          · exact .inl (.inr ⟨rfl, h2⟩)
          · exact .inr ⟨h1, h2⟩
    rw [List.foldl_cons]
    rcases ih with ⟨h1, h2⟩ | ⟨r, h1, h2, h3⟩
    · exact .inl ⟨h1, fun r hr => h2 r ((eqv r).2 hr)⟩
    · exact .inr ⟨r, (eqv r).1 h1, h2, fun q hq => h3 q ((eqv q).2 hq)⟩
/-- A route of the table that fits a key, and ends ahead of step n. -/
def Fit (t : List Rt) (k : Key) (bits : Int) (n : Nat) (r : Rt) : Prop := r ∈ t ∧ r.p.bits = bits ∧ kcut k r.p.len = r.p.key ∧ lastN r.p < n
theorem best_steps (h : tright t = true) (hb : bits = 32 ∨ bits = 128) (hl : (waysF bits t).length ≤ 512) : ∀ n, n ≤ deepT bits t k + 1 →
    (bestOf (nodes bits (waysF bits t) t) k n = Slt.no ∧ ∀ r, ¬ Fit t k bits n r) ∨ ∃ r, Fit t k bits n r ∧ bestOf (nodes bits (waysF bits t) t) k n = ⟨r.p.len + 1, r.hop⟩ ∧ ∀ q, Fit t k bits n q → q.p.len ≤ r.p.len
  | 0, _ => .inl ⟨rfl, fun r hr => absurd hr.2.2.2 (Nat.not_lt_zero _)⟩
  | n + 1, hn => by
    have hm : ∀ r ∈ t, pmay r.p = true := fun r hr => tr_may h hr
    have hW := ways_bits hb hm
    have hd := deepT_lt hb hm k
    have hin : ∀ j, j ≤ n → wayAt k j ∈ waysF bits t := fun j hj => (deepT_iff hb hm k).2 (by omega)
    have hc := chain_at (bits := bits) (R := t) hW.w (k := k) (n := n) (by omega) hin
    have hget := idx_get (hin n (Nat.le_refl _))
    have hroom := hW.room _ (hin n (Nat.le_refl _))
    have hroom' : 4 * ((n : Int) + 1) ≤ bits := hroom
    have hs := slot_best (bits := bits) (w := wayAt k n) (b := kst k n) t Slt.no (fun _ => False) hm (.inl ⟨rfl, fun _ h => h⟩)
    have hsl : ((nodes bits (waysF bits t) t).getD (chain (nodes bits (waysF bits t) t) k n) Nd.zero).sl (kst k n) = t.foldl (slotUp bits (wayAt k n) (kst k n)) Slt.no := by
      rw [hc, nodes_getD hget, nodeF, Nd.sl_mk' (kst_lt k n)]; rfl
    have hf : ∀ r, (False ∨ r ∈ t ∧ hit r bits (wayAt k n) (kst k n) = true) ↔ Fit t k bits (n + 1) r ∧ lastN r.p = n := fun r => by
      constructor
      · rintro (h1 | ⟨h1, h2⟩)
        · exact h1.elim
        · obtain ⟨h3, h4, h5⟩ := (hit_fit (hm r h1) hb hroom').1 h2
          exact ⟨⟨h1, h3, h5, by omega⟩, h4⟩
      · rintro ⟨⟨h1, h3, h5, _⟩, h4⟩
        exact .inr ⟨h1, (hit_fit (hm r h1) hb hroom').2 ⟨h3, h4, h5⟩⟩
    have hup : ∀ r, Fit t k bits n r → Fit t k bits (n + 1) r := fun r hr => ⟨hr.1, hr.2.1, hr.2.2.1, by have := hr.2.2.2; omega⟩
    have hdn : ∀ r, Fit t k bits (n + 1) r → Fit t k bits n r ∨ lastN r.p = n := fun r hr => by
      rcases Nat.lt_or_ge (lastN r.p) n with h9 | h9
      · exact .inl ⟨hr.1, hr.2.1, hr.2.2.1, h9⟩
      · have := hr.2.2.2; exact .inr (by omega)
    have hlen : ∀ r, Fit t k bits n r → ∀ q, lastN q.p = n → q ∈ t → r.p.len < q.p.len := fun r hr q hq hqt => by
      have h9 := hr.2.2.2
      have hq0 := ((pmay_iff q.p).1 (hm q hqt)).2.1
      unfold lastN at h9 hq; omega
    simp only [bestOf]
    rw [hsl]
    rcases best_steps h hb hl n (by omega) with ⟨h1, h2⟩ | ⟨r, h1, h2, h3⟩
    · rw [h1]
      rcases hs with ⟨h4, h5⟩ | ⟨q, h4, h5, h6⟩
      · rw [h4, if_neg (by decide)]
        refine .inl ⟨rfl, fun r hr => ?_⟩
        rcases hdn r hr with h9 | h9
        · exact h2 r h9
        · exact h5 r ((hf r).2 ⟨hr, h9⟩)
      · obtain ⟨h7, h8⟩ := (hf q).1 h4
        have hq0 := ((pmay_iff q.p).1 (hm q h7.1)).2.1
        rw [h5, if_pos (by show (0 : Int) < q.p.len + 1; omega)]
        refine .inr ⟨q, h7, rfl, fun r hr => ?_⟩
        rcases hdn r hr with h9 | h9
        · exact absurd h9 (h2 r)
        · exact h6 r ((hf r).2 ⟨hr, h9⟩)
    · rw [h2]
      rcases hs with ⟨h4, h5⟩ | ⟨q, h4, h5, h6⟩
      · have hr0 := ((pmay_iff r.p).1 (hm r h1.1)).2.1
        rw [h4, if_neg (by show ¬ r.p.len + 1 < 0; omega)]
        refine .inr ⟨r, hup r h1, rfl, fun q hq => ?_⟩
        rcases hdn q hq with h9 | h9
        · exact h3 q h9
        · exact absurd ((hf q).2 ⟨hq, h9⟩) (h5 q)
      · obtain ⟨h7, h8⟩ := (hf q).1 h4
        have hlt := hlen r h1 q h8 h7.1
        rw [h5, if_pos (by show r.p.len + 1 < q.p.len + 1; omega)]
        refine .inr ⟨q, h7, rfl, fun r' hr => ?_⟩
        rcases hdn r' hr with h9 | h9
        · have := h3 r' h9; omega
        · exact h6 r' ((hf r').2 ⟨hr, h9⟩)
/-- What a table's trie finds is what the table finds. -/
theorem trie_best (h : tright t = true) (hb : bits = 32 ∨ bits = 128) (hl : (waysF bits t).length ≤ 512) :
    findE bits (nodes bits (waysF bits t) t) k = bestE t k bits ∧ findN bits (nodes bits (waysF bits t) t) k = (bestR t k bits).p.len ∧ findH bits (nodes bits (waysF bits t) t) k = (bestR t k bits).hop := by
  have hm : ∀ r ∈ t, pmay r.p = true := fun r hr => tr_may h hr
  have hok := walkOk_eq hb hm hl k
  have hbo : bestO t k bits = decide (kcut k bits = k) := by
    rw [bestO, h, Bool.true_and]
    have : pmay ⟨bits, bits, k⟩ = true ↔ kcut k bits = k := by
      rw [pmay_iff]; exact ⟨fun h9 => h9.2.2.2, fun h9 => ⟨hb, by simp only; omega, Int.le_refl _, h9⟩⟩
    cases hx : pmay ⟨bits, bits, k⟩ with
    | true => rw [decide_eq_true (this.1 hx)]
    | false => rw [decide_eq_false (fun h9 => by rw [this.2 h9] at hx; cases hx)]
  by_cases hk : kcut k bits = k
  · rw [decide_eq_true hk] at hok hbo
    have hwl : (walkV bits (nodes bits (waysF bits t) t) k).length = deepT bits t k + 1 := by rw [walkV_eq hb hm hl hk]; simp
    have hall : ∀ r ∈ t, r.p.bits = bits → kcut k r.p.len = r.p.key → Fit t k bits (deepT bits t k + 1) r := fun r hr hbr hf => by
      refine ⟨hr, hbr, hf, ?_⟩
      have h1 := way_in hm hr hbr (Nat.le_refl _)
      have h2 : wayAt r.p.key (lastN r.p) = wayAt k (lastN r.p) := by
        have h0 := ((pmay_iff r.p).1 (hm r hr)).2.1
        rw [wayAt, wayAt, ← hf, kcut_cut]; congr 2; unfold lastN; omega
      rw [h2] at h1
      have := (deepT_iff hb hm k).1 h1
      omega
    have hbn : ((bits.toNat : Nat) : Int) = bits := by omega
    rcases best_steps (k := k) h hb hl (deepT bits t k + 1) (Nat.le_refl _) with ⟨h1, h2⟩ | ⟨r, h1, h2, h3⟩
    · have hfs : findS bits (nodes bits (waysF bits t) t) k = Slt.no := by rw [findS, hwl, h1]
      have he : findE bits (nodes bits (waysF bits t) t) k = 6 := by rw [findE, if_pos hok, hfs]; rfl
      have hbf : bestF t k bits bits.toNat = none := by
        cases hx : bestF t k bits bits.toNat with
        | none => rfl
        | some r =>
          obtain ⟨h4, ⟨m, h5, h6⟩, _⟩ := bestF_some h hb (by omega) hx
          exact absurd (hall r h4 (by rw [h6]) (by rw [h6])) (h2 r)
      refine ⟨by rw [he, bestE, if_pos hbo, hbf]; rfl, by rw [findN, he, bestR, if_pos hbo, hbf]; rfl, by rw [findH, he, bestR, if_pos hbo, hbf]; rfl⟩
    · have hr0 := ((pmay_iff r.p).1 (hm r h1.1)).2.1
      have hfs : findS bits (nodes bits (waysF bits t) t) k = ⟨r.p.len + 1, r.hop⟩ := by rw [findS, hwl, h2]
      have he : findE bits (nodes bits (waysF bits t) t) k = 0 := by rw [findE, if_pos hok, hfs, if_neg (by show ¬ r.p.len + 1 = 0; omega)]
      have hrf : pfits r.p k = true := (pfits_iff _ _).2 ⟨hm r h1.1, by rw [h1.2.1]; exact hk, h1.2.2.1⟩
      obtain ⟨m, hm1, hm2⟩ := fit_cut h1.2.1 hrf
      have hbf : bestF t k bits bits.toNat = some r := by
        cases hx : bestF t k bits bits.toNat with
        | none => exact absurd hm2 (bestF_none h hb (by omega) hx r h1.1 m (by omega))
        | some q =>
          obtain ⟨h4, ⟨m', h5, h6⟩, h7⟩ := bestF_some h hb (by omega) hx
          have h8 := h7 r h1.1 m (by omega) hm2
          have h9 := h3 q (hall q h4 (by rw [h6]) (by rw [h6]))
          have h10 : m = m' := by rw [hm2, h6] at h8 h9; simp only at h8 h9; omega
          exact congrArg some (right_uniq h h4 h1.1 (by rw [h6, hm2, h10]))
      refine ⟨by rw [he, bestE, if_pos hbo, hbf]; rfl, ?_, ?_⟩
      · rw [findN, if_pos he, hfs, bestR, if_pos hbo, hbf]; show r.p.len + 1 - 1 = r.p.len; omega
      · rw [findH, if_pos he, hfs, bestR, if_pos hbo, hbf]; rfl
  · rw [decide_eq_false hk] at hok hbo
    have he : findE bits (nodes bits (waysF bits t) t) k = 1 := by rw [findE, if_neg (by rw [hok]; simp)]
    refine ⟨by rw [he, bestE, if_neg (by rw [hbo]; simp)], by rw [findN, if_neg (by rw [he]; decide), bestR, if_neg (by rw [hbo]; simp)]; rfl, by rw [findH, if_neg (by rw [he]; decide), bestR, if_neg (by rw [hbo]; simp)]; rfl⟩
end
end Go.Kb
