/- What the laws of layer 14 say of bodies. No program in sight. -/
import Derived.Test.YtembaconocgmlaaPl
set_option linter.unusedSimpArgs false
set_option linter.unusedVariables false
namespace Go.Kb
open Go.Eng

theorem pless_may {p q : Pfx} (h : pless p q = true) : pmay p = true ∧ pmay q = true := by
  simp only [pless, Bool.and_eq_true] at h
  exact ⟨h.1.1, h.1.2⟩
theorem pless_trans {p q r : Pfx} (h : pless p q = true) (h' : pless q r = true) : pless p r = true := by
  obtain ⟨hp, hq⟩ := pless_may h
  obtain ⟨_, hr⟩ := pless_may h'
  rw [pless_iff hp hq] at h
  rw [pless_iff hq hr] at h'
  rw [pless_iff hp hr]
  omega
theorem pless_irrefl (p : Pfx) : pless p p = false := by
  cases h : pless p p with
  | false => rfl
  | true =>
    obtain ⟨hp, _⟩ := pless_may h
    rw [pless_iff hp hp] at h
    omega
/-- A table is right, told by pairs. -/
def tok (ps : List Pfx) : Prop := ps.length ≤ 256 ∧ (∀ p ∈ ps, pmay p = true) ∧ ps.Pairwise fun p q => pless p q = true
theorem okTo_iff (xs : List Rt) : ∀ n, n ≤ xs.length → (okTo xs n = true ↔ (∀ p ∈ (xs.take n).map (·.p), pmay p = true) ∧ ((xs.take n).map (·.p)).Pairwise fun p q => pless p q = true)
  | 0, _ => by simp [okTo_zero]
  | n + 1, h => by
    obtain ⟨r, hr⟩ := get_some (xs := xs) (i := n) (by omega)
    have e : xs.take (n + 1) = xs.take n ++ [r] := by rw [List.take_add_one, hr]; rfl
    rw [okTo_succ, Bool.and_eq_true, okTo_iff xs n (by omega), e, List.map_append, List.pairwise_append]
    simp only [List.map_cons, List.map_nil, List.mem_append, List.mem_singleton, List.pairwise_cons, List.not_mem_nil, false_implies, implies_true, List.Pairwise.nil, and_self, true_and, and_true]
    cases n with
    | zero => rw [okAt_zero hr]; simp
    | succ m =>
      obtain ⟨q, hq⟩ := get_some (xs := xs) (i := m) (by omega)
      rw [okAt_succ hr hq, Bool.and_eq_true]
      have e2 : xs.take (m + 1) = xs.take m ++ [q] := by rw [List.take_add_one, hq]; rfl
      constructor
      · rintro ⟨⟨h1, h2⟩, h3, h4⟩
        refine ⟨fun p hp => hp.elim (h1 p) (fun e => e ▸ h3), h2, fun p hp b hb => ?_⟩
        subst hb
        rw [e2, List.map_append] at hp h2
        rcases List.mem_append.1 hp with hp | hp
        · have := (List.pairwise_append.1 h2).2.2 p hp q.p (by simp)
          exact pless_trans this h4
        · have : p = q.p := by simpa using hp
          rw [this]; exact h4
      · rintro ⟨h1, h2, h3⟩
        refine ⟨⟨fun p hp => h1 p (.inl hp), h2⟩, h1 _ (.inr rfl), h3 q.p ?_ _ rfl⟩
        rw [e2]; simp
theorem tright_iff (xs : List Rt) : tright xs = true ↔ tok (xs.map (·.p)) := by
  rw [tright, Bool.and_eq_true, okTo_iff xs _ (Nat.le_refl _), List.take_length, decide_eq_true_iff]
  simp [tok]
theorem tok_sub {ps qs : List Pfx} (h : tok ps) (s : qs.Sublist ps) : tok qs :=
  ⟨Nat.le_trans s.length_le h.1, fun p hp => h.2.1 p (s.subset hp), h.2.2.sublist s⟩
theorem tright_may {xs : List Rt} (h : tright xs = true) : ∀ r ∈ xs, pmay r.p = true := fun r hr => ((tright_iff xs).1 h).2.1 r.p (List.mem_map_of_mem hr)
theorem tright_len {xs : List Rt} (h : tright xs = true) : xs.length ≤ 256 := by
  have := ((tright_iff xs).1 h).1; simpa using this

/-- A route is read out of its bytes. -/
theorem rd_rbytes {r : Rt} (h : pmay r.p = true) : rd (rbytes r) = some r := by
  obtain ⟨h1, h2, h3, -⟩ := (pmay_iff r.p).1 h
  have e0 : (rbytes r).getD 0 0 = if r.p.bits = 128 then 1 else 0 := by simp [List.getD, rbytes_0]
  have e1 : (rbytes r).getD 1 0 = b8i r.p.len := by simp [List.getD, rbytes_1]
  have e18 : (rbytes r).getD 18 0 = b8 (r.hop.toNat / 256) := by simp [List.getD, rbytes_18]
  have e19 : (rbytes r).getD 19 0 = b8 r.hop.toNat := by simp [List.getD, rbytes_19]
  have ok : rdok (rbytes r) = true := by
    rw [rdok, e0]; split <;> decide
  rw [rd_eq, if_pos ok]
  congr 1
  obtain ⟨⟨b, l, k⟩, hop⟩ := r
  simp only at h1 h2 h3 e0 e1 e18 e19
  have ek : (kof fun i => ((rbytes ⟨⟨b, l, k⟩, hop⟩).getD (2 + i) 0).toNat) = k := by
    refine key_ext_byte fun i hi => ?_
    rw [kbyte_kof _ _ hi]
    simp only [List.getD, rbytes_k _ i hi, Option.getD_some, b8_toNat]
    have := kbyte_lt k i
    omega
  have el : ((b8i l).toNat : Int) = l := by
    obtain ⟨n, rfl⟩ : ∃ n : Nat, l = n := ⟨l.toNat, by omega⟩
    rw [b8i_nat, b8_toNat]; omega
  have eh : hop16 (b8 (hop.toNat / 256)) (b8 hop.toNat) = hop := by
    apply UInt16.toNat_inj.1
    have := hop.toNat_lt
    rw [hop16_toNat, b8_toNat, b8_toNat]; omega
  show (⟨⟨if (rbytes ⟨⟨b, l, k⟩, hop⟩).getD 0 0 = 1 then 128 else 32, ((rbytes ⟨⟨b, l, k⟩, hop⟩).getD 1 0).toNat, kof fun i => ((rbytes ⟨⟨b, l, k⟩, hop⟩).getD (2 + i) 0).toNat⟩, hop16 ((rbytes ⟨⟨b, l, k⟩, hop⟩).getD 18 0) ((rbytes ⟨⟨b, l, k⟩, hop⟩).getD 19 0)⟩ : Rt) = _
  rw [ek, e0, e1, e18, e19, el, eh]
  congr 2
  rcases h1 with rfl | rfl <;> simp
theorem unbody_flat : ∀ {l : List Rt}, (∀ r ∈ l, pmay r.p = true) → unbody (l.flatMap rbytes) = some l
  | [], _ => unbody_nil
  | r :: l, h => by
    rw [List.flatMap_cons, unbody_cons (by rw [List.length_append, rbytes_length]; omega), List.take_left' (rbytes_length r), List.drop_left' (rbytes_length r), rd_rbytes (h r (by simp)), unbody_flat fun r hr => h r (by simp [hr])]
    rfl
theorem untable_bodies {t : List Rt} (n : Nat) (h : ∀ r ∈ t, pmay r.p = true) : ∀ k, untable (bodiesOf t k n) = some (t.take (k * n))
  | 0 => by simp [bodiesOf, untable]
  | k + 1 => by
    rw [bodiesOf_succ, untable_append, untable_bodies n h k, Option.bind_some, untable, untable, bodyAt, unbody_flat fun r hr => h r (List.mem_of_mem_drop (List.mem_of_mem_take hr))]
    simp only [Option.map_some, Option.bind_some, List.append_nil, Option.some.injEq]
    rw [Nat.add_mul, Nat.one_mul, List.take_add]
/-- A table is read from its bodies as it was. -/
theorem tab_bodies {t : List Rt} {ids room : Int} (h : bodiesE t ids room = 0) : tabV (bodiesV t ids room) = t ∧ tabE (bodiesV t ids room) = 0 := by
  obtain ⟨h1, h2, h3⟩ : ¬ most ids room = 0 ∧ tright t = true ∧ ¬ most ids room < t.length := by
    unfold bodiesE at h
    split at h
    · cases h
    · rename_i hn
      split at h
      · cases h
      · rename_i hm
        exact ⟨fun e => hn (.inr e), by cases hr : tright t; exact absurd (.inl hr) hn; rfl, hm⟩
  have hm := most_pos h1
  obtain ⟨_, hV⟩ := bodiesE_0 h1 h2 h3
  have hkn : ids * (room / 20) = ((ids.toNat * (room / 20).toNat : Nat) : Int) := by
    rw [Int.natCast_mul, Int.toNat_of_nonneg (by omega), Int.toNat_of_nonneg (by omega)]
  have hu : untable (bodiesV t ids room) = some t := by
    rw [hV, untable_bodies _ (tright_may h2), List.take_of_length_le (by omega)]
  exact tab_ok hu h2
theorem bodiesE_ok {t : List Rt} {ids room : Int} (h : bodiesE t ids room = 0) : ¬ most ids room = 0 ∧ tright t = true ∧ ¬ most ids room < t.length ∧ bodiesV t ids room = bodiesOf t ids.toNat (room / 20).toNat := by
  unfold bodiesE at h
  split at h
  · cases h
  · rename_i hn
    split at h
    · cases h
    · rename_i hm
      have h1 : ¬ most ids room = 0 := fun e => hn (.inr e)
      have h2 : tright t = true := by cases hr : tright t; exact absurd (.inl hr) hn; rfl
      exact ⟨h1, h2, hm, (bodiesE_0 h1 h2 hm).2⟩
theorem bodiesV_no {t : List Rt} {ids room : Int} (h : ¬ bodiesE t ids room = 0) : bodiesV t ids room = [] := by rw [bodiesV, if_neg h]
theorem bodiesV_length {t : List Rt} {ids room : Int} (h : bodiesE t ids room = 0) : ((bodiesV t ids room).length : Int) = ids ∧ 1 ≤ ids ∧ ids ≤ 64 := by
  obtain ⟨h1, _, _, hV⟩ := bodiesE_ok h
  have := most_pos h1
  rw [hV, bodiesOf_length]; omega
theorem bodiesV_inj {t u : List Rt} {ids room : Int} (h : bodiesE t ids room = 0) (h' : bodiesE u ids room = 0) : bodiesV t ids room = bodiesV u ids room ↔ t = u :=
  ⟨fun e => by rw [← (tab_bodies h).1, e, (tab_bodies h').1], fun e => by rw [e]⟩
theorem bodiesV_le {t : List Rt} {ids room : Int} : (bodiesV t ids room).length ≤ 64 ∧ ∀ x ∈ bodiesV t ids room, x.length ≤ 240 := by
  by_cases h : bodiesE t ids room = 0
  · have h2 := bodiesV_length h
    obtain ⟨h1, _, _, hV⟩ := bodiesE_ok h
    have hm := most_pos h1
    refine ⟨by omega, fun x hx => ?_⟩
    rw [hV] at hx
    obtain ⟨j, _, rfl⟩ := List.mem_map.1 hx
    have := bodyAt_le t (room / 20).toNat j
    omega
  · rw [bodiesV_no h]; simp

/-! What changed. -/
theorem chg_self (a : List (List UInt8)) : chg a a = [] := by
  rw [chg, chgTo, List.filterMap_eq_nil_iff]
  intro i _
  rw [chgAt, if_pos rfl]
theorem chg_nil {a b : List (List UInt8)} (hl : a.length = b.length) : chg a b = [] ↔ a = b := by
  refine ⟨fun h => ?_, fun h => by rw [h, chg_self]⟩
  rw [chg, chgTo, List.filterMap_eq_nil_iff, hl, Nat.max_self] at h
  refine List.ext_getElem? fun i => ?_
  by_cases hi : i < b.length
  · have := h i (List.mem_range.2 hi)
    unfold chgAt at this
    split at this
    · rename_i he
      rw [List.getElem?_eq_getElem (by omega), List.getElem?_eq_getElem hi]
      simpa [List.getD, hi, show i < a.length by omega] using he
    · cases this
  · rw [List.getElem?_eq_none (by omega), List.getElem?_eq_none (by omega)]
/-- The ids of what changed go up, and stand within. -/
theorem chgTo_mem {a b : List (List UInt8)} {n : Nat} {p : Int × List UInt8} (h : p ∈ chgTo a b n) : ∃ i : Nat, i < n ∧ p = ((i : Int), b.getD i []) ∧ ¬ a.getD i [] = b.getD i [] := by
  rw [chgTo, List.mem_filterMap] at h
  obtain ⟨i, hi, he⟩ := h
  unfold chgAt at he
  split at he
  · cases he
  · rename_i hn
    exact ⟨i, List.mem_range.1 hi, (Option.some.inj he).symm, hn⟩
theorem chgTo_sorted (a b : List (List UInt8)) : ∀ n, (chgTo a b n).Pairwise fun p q => p.1 < q.1
  | 0 => List.Pairwise.nil
  | n + 1 => by
    by_cases h : a.getD n [] = b.getD n []
    · rw [chgTo_no h]; exact chgTo_sorted a b n
    · rw [chgTo_yes h, List.pairwise_append]
      refine ⟨chgTo_sorted a b n, List.pairwise_singleton _ _, fun p hp q hq => ?_⟩
      obtain ⟨i, hi, rfl, _⟩ := chgTo_mem hp
      obtain rfl := List.mem_singleton.1 hq
      simp only; omega
/-- With what changed put in. -/
def patch (a : List (List UInt8)) (l : List (Int × List UInt8)) : List (List UInt8) := l.foldl (fun d p => d.set p.1.toNat p.2) a
theorem patch_snoc (a : List (List UInt8)) (l : List (Int × List UInt8)) (p : Int × List UInt8) : patch a (l ++ [p]) = (patch a l).set p.1.toNat p.2 := by simp [patch]
theorem patch_length (a : List (List UInt8)) (l : List (Int × List UInt8)) : (patch a l).length = a.length := by
  induction l generalizing a with
  | nil => rfl
  | cons p l ih => simp only [patch, List.foldl_cons] at ih ⊢; rw [ih]; simp
theorem patch_chgTo {a b : List (List UInt8)} (hl : a.length = b.length) : ∀ n, n ≤ a.length → patch a (chgTo a b n) = b.take n ++ a.drop n
  | 0, _ => by simp [chgTo, patch]
  | n + 1, h => by
    have ih := patch_chgTo hl n (by omega)
    have ea : a.drop n = a.getD n [] :: a.drop (n + 1) := by
      rw [List.drop_eq_getElem_cons (by omega)]; simp [List.getD, show n < a.length by omega]
    have eb : b.take (n + 1) = b.take n ++ [b.getD n []] := by
      rw [List.take_add_one]; simp [List.getD, show n < b.length by omega]
    by_cases hc : a.getD n [] = b.getD n []
    · rw [chgTo_no hc, ih, ea, eb, hc]; simp
    · rw [chgTo_yes hc, patch_snoc, ih, ea, eb]
      simp only [Int.toNat_natCast]
      rw [List.set_append_right _ _ (by rw [List.length_take]; omega), List.length_take, Nat.min_eq_left (by omega), Nat.sub_self]
      simp
theorem patch_chg {a b : List (List UInt8)} (hl : a.length = b.length) : patch a (chg a b) = b := by
  rw [chg, ← hl, Nat.max_self, patch_chgTo hl _ (Nat.le_refl _), hl, List.take_length, ← hl, List.drop_length, List.append_nil]

/-! A route that leads elsewhere, or goes. -/
theorem bodyAt_flat (t : List Rt) (n id : Nat) : bodyAt t n id = [] ↔ n = 0 ∨ t.length ≤ id * n := by
  rw [← List.length_eq_zero_iff, bodyAt_length]; omega
theorem rbytes_inj {r q : Rt} (hp : r.p = q.p) (hb : rbytes r = rbytes q) : r = q := by
  have e18 : b8 (r.hop.toNat / 256) = b8 (q.hop.toNat / 256) := by have := congrArg (·[18]?) hb; simpa [rbytes_18] using this
  have e19 : b8 r.hop.toNat = b8 q.hop.toNat := by have := congrArg (·[19]?) hb; simpa [rbytes_19] using this
  obtain ⟨p, h⟩ := r
  obtain ⟨p', h'⟩ := q
  simp only at hp e18 e19
  subst hp
  congr 1
  apply UInt16.toNat_inj.1
  have a1 := congrArg UInt8.toNat e18
  have a2 := congrArg UInt8.toNat e19
  rw [b8_toNat, b8_toNat] at a1 a2
  have := h.toNat_lt; have := h'.toNat_lt
  omega
theorem flat_inj {l m : List Rt} (h : ∀ r ∈ l, pmay r.p = true) (h' : ∀ r ∈ m, pmay r.p = true) (e : l.flatMap rbytes = m.flatMap rbytes) : l = m := by
  have := unbody_flat h
  rw [e, unbody_flat h'] at this
  exact (Option.some.inj this).symm
/-- Which bodies of two tables are alike. -/
theorem body_eq_iff {t u : List Rt} (h : ∀ r ∈ t, pmay r.p = true) (h' : ∀ r ∈ u, pmay r.p = true) (n id : Nat) : bodyAt t n id = bodyAt u n id ↔ (t.drop (id * n)).take n = (u.drop (id * n)).take n :=
  ⟨fun e => flat_inj (fun r hr => h r (List.mem_of_mem_drop (List.mem_of_mem_take hr))) (fun r hr => h' r (List.mem_of_mem_drop (List.mem_of_mem_take hr))) e, fun e => by rw [bodyAt, bodyAt, e]⟩
theorem bodiesOf_getD {t : List Rt} {ids n i : Nat} (h : i < ids) : (bodiesOf t ids n).getD i [] = bodyAt t n i := by
  simp [bodiesOf, List.getD, h]
/-- Only one id's bodies are unlike. -/
theorem chg_one {a b : List (List UInt8)} {j : Nat} (hl : a.length = b.length) (hj : j < a.length) (hne : ¬ a.getD j [] = b.getD j []) (he : ∀ i, i < a.length → ¬ i = j → a.getD i [] = b.getD i []) : chg a b = [((j : Int), b.getD j [])] := by
  have key : ∀ n, n ≤ a.length → chgTo a b n = if j < n then [((j : Int), b.getD j [])] else [] := by
    intro n
    induction n with
    | zero => intro _; simp [chgTo]
    | succ n ih =>
      intro hn
      by_cases e : n = j
      · subst e
        rw [chgTo_yes hne, ih (by omega), if_neg (by omega), if_pos (by omega)]; rfl
      · rw [chgTo_no (he n (by omega) e), ih (by omega)]
        by_cases h2 : j < n
        · rw [if_pos h2, if_pos (by omega)]
        · rw [if_neg h2, if_neg (by omega)]
  rw [chg, ← hl, Nat.max_self, key _ (Nat.le_refl _), if_pos hj]
/-- The first id whose bodies are unlike. -/
theorem chg_first {a b : List (List UInt8)} {j : Nat} (hj : j < max a.length b.length) (hne : ¬ a.getD j [] = b.getD j []) (he : ∀ i, i < j → a.getD i [] = b.getD i []) : (chg a b)[0]? = some ((j : Int), b.getD j []) := by
  have key : ∀ n, j < n → (chgTo a b n)[0]? = some ((j : Int), b.getD j []) := by
    have zero : ∀ n, n ≤ j → chgTo a b n = [] := by
      intro n
      induction n with
      | zero => intro _; simp [chgTo]
      | succ n ih => intro hn; rw [chgTo_no (he n (by omega)), ih (by omega)]
    intro n
    induction n with
    | zero => intro h; omega
    | succ n ih =>
      intro hn
      by_cases e : n = j
      · subst e; rw [chgTo_yes hne, zero n (Nat.le_refl _)]; rfl
      · by_cases h : a.getD n [] = b.getD n []
        · rw [chgTo_no h]; exact ih (by omega)
        · rw [chgTo_yes h, List.getElem?_append_left]
          · exact ih (by omega)
          · have := ih (by omega)
            exact (List.getElem?_eq_some_iff.1 this).1
  exact key _ hj
theorem drop_take_set {α : Type} (t : List α) (k a n : Nat) (r : α) (h : ¬ (a ≤ k ∧ k < a + n)) : ((t.set k r).drop a).take n = (t.drop a).take n := by
  refine List.ext_getElem? fun i => ?_
  rw [List.getElem?_take, List.getElem?_take, List.getElem?_drop, List.getElem?_drop]
  by_cases hi : i < n
  · rw [if_pos hi, if_pos hi, List.getElem?_set_ne (by omega)]
  · rw [if_neg hi, if_neg hi]
/-- A route leads elsewhere. -/
theorem hop_other {t : List Rt} {r : Rt} {k : Nat} {h : UInt16} {ids room : Int} (hE : bodiesE t ids room = 0) (hr : t[k]? = some r) :
    bodiesE (t.set k ⟨r.p, h⟩) ids room = 0 ∧ (h = r.hop → chg (bodiesV t ids room) (bodiesV (t.set k ⟨r.p, h⟩) ids room) = []) ∧
    (¬ h = r.hop → ∃ b, chg (bodiesV t ids room) (bodiesV (t.set k ⟨r.p, h⟩) ids room) = [(((k / (room / 20).toNat : Nat) : Int), b)]) := by
  obtain ⟨h1, h2, h3, hV⟩ := bodiesE_ok hE
  have hm := most_pos h1
  have hk : k < t.length := (List.getElem?_eq_some_iff.1 hr).1
  have hrm := tright_may h2 r (List.mem_of_getElem? hr)
  have ep : (t.set k ⟨r.p, h⟩).map (·.p) = t.map (·.p) := by
    rw [List.map_set]
    refine List.ext_getElem? fun i => ?_
    rw [List.getElem?_set]
    split
    · rename_i e; subst e; rw [if_pos (by simpa using hk), List.getElem?_map, hr]; rfl
    · rfl
  have hu : tright (t.set k ⟨r.p, h⟩) = true := by rw [tright_iff, ep, ← tright_iff]; exact h2
  obtain ⟨hE', hV'⟩ := bodiesE_0 (ids := ids) (room := room) (t := t.set k ⟨r.p, h⟩) h1 hu (by rwa [List.length_set])
  have hkn : ids * (room / 20) = ((ids.toNat * (room / 20).toNat : Nat) : Int) := by
    rw [Int.natCast_mul, Int.toNat_of_nonneg (by omega), Int.toNat_of_nonneg (by omega)]
  have hn : 0 < (room / 20).toNat := by omega
  have hkd : k / (room / 20).toNat < ids.toNat := Nat.div_lt_of_lt_mul (by rw [Nat.mul_comm]; omega)
  have hd := Nat.div_add_mod k (room / 20).toNat
  have hmod := Nat.mod_lt k hn
  have hc : (room / 20).toNat * (k / (room / 20).toNat) = k / (room / 20).toNat * (room / 20).toNat := Nat.mul_comm _ _
  refine ⟨hE', fun e => ?_, fun hne => ⟨(bodiesOf (t.set k ⟨r.p, h⟩) ids.toNat (room / 20).toNat).getD (k / (room / 20).toNat) [], ?_⟩⟩
  · have : t.set k ⟨r.p, h⟩ = t := by
      refine List.ext_getElem? fun i => ?_
      rw [List.getElem?_set]
      split
      · rename_i e2; subst e2; rw [hr, e]
      · rfl
    rw [this, chg_self]
  · rw [hV, hV']
    refine chg_one (by simp [bodiesOf_length]) (by rw [bodiesOf_length]; exact hkd) ?_ fun i hi hij => ?_
    · rw [bodiesOf_getD hkd, bodiesOf_getD hkd]
      intro e
      have := (body_eq_iff (tright_may h2) (tright_may hu) _ _).1 e
      have e2 := congrArg (·[k - k / (room / 20).toNat * (room / 20).toNat]?) this
      simp only [List.getElem?_take, List.getElem?_drop] at e2
      rw [if_pos (by omega), if_pos (by omega), show k / (room / 20).toNat * (room / 20).toNat + (k - k / (room / 20).toNat * (room / 20).toNat) = k by omega, hr, List.getElem?_set_self hk] at e2
      have := Option.some.inj e2
      exact hne (by rw [this])
    · rw [bodiesOf_length] at hi
      rw [bodiesOf_getD hi, bodiesOf_getD hi, bodyAt, bodyAt, drop_take_set]
      intro ⟨g1, g2⟩
      refine hij ?_
      have : k / (room / 20).toNat = i := by
        rw [Nat.div_eq_iff hn]; omega
      exact this.symm
/-- A route goes. -/
theorem route_goes {t : List Rt} {r : Rt} {k : Nat} {ids room : Int} (hE : bodiesE t ids room = 0) (hr : t[k]? = some r) :
    bodiesE (t.take k ++ t.drop (k + 1)) ids room = 0 ∧ ∃ b, (chg (bodiesV t ids room) (bodiesV (t.take k ++ t.drop (k + 1)) ids room))[0]? = some (((k / (room / 20).toNat : Nat) : Int), b) := by
  obtain ⟨h1, h2, h3, hV⟩ := bodiesE_ok hE
  have hm := most_pos h1
  have hk : k < t.length := (List.getElem?_eq_some_iff.1 hr).1
  have hs : (t.take k ++ t.drop (k + 1)).Sublist t := by
    have e := List.take_append_drop k t
    conv => rhs; rw [← e]
    exact (List.Sublist.refl _).append (by rw [List.drop_eq_getElem_cons hk]; exact List.sublist_cons_self _ _)
  have hu : tright (t.take k ++ t.drop (k + 1)) = true := by rw [tright_iff]; exact tok_sub ((tright_iff t).1 h2) (hs.map _)
  have hl := hs.length_le
  obtain ⟨hE', hV'⟩ := bodiesE_0 (ids := ids) (room := room) (t := t.take k ++ t.drop (k + 1)) h1 hu (by omega)
  have hkn : ids * (room / 20) = ((ids.toNat * (room / 20).toNat : Nat) : Int) := by
    rw [Int.natCast_mul, Int.toNat_of_nonneg (by omega), Int.toNat_of_nonneg (by omega)]
  have hn : 0 < (room / 20).toNat := by omega
  have hkd : k / (room / 20).toNat < ids.toNat := Nat.div_lt_of_lt_mul (by rw [Nat.mul_comm]; omega)
  have hd := Nat.div_add_mod k (room / 20).toNat
  have hmod := Nat.mod_lt k hn
  have hc : (room / 20).toNat * (k / (room / 20).toNat) = k / (room / 20).toNat * (room / 20).toNat := Nat.mul_comm _ _
  have hget : ∀ i, i < k → (t.take k ++ t.drop (k + 1))[i]? = t[i]? := fun i hi => by
    rw [List.getElem?_append_left (by rw [List.length_take]; omega), List.getElem?_take, if_pos hi]
  refine ⟨hE', (bodiesOf (t.take k ++ t.drop (k + 1)) ids.toNat (room / 20).toNat).getD (k / (room / 20).toNat) [], ?_⟩
  rw [hV, hV']
  refine chg_first (by rw [bodiesOf_length]; omega) ?_ fun i hi => ?_
  · rw [bodiesOf_getD hkd, bodiesOf_getD hkd]
    intro e
    have := (body_eq_iff (tright_may h2) (tright_may hu) _ _).1 e
    have e2 := congrArg (·[k - k / (room / 20).toNat * (room / 20).toNat]?) this
    simp only [List.getElem?_take, List.getElem?_drop] at e2
    rw [if_pos (by omega), if_pos (by omega), show k / (room / 20).toNat * (room / 20).toNat + (k - k / (room / 20).toNat * (room / 20).toNat) = k by omega, hr, List.getElem?_append_right (by rw [List.length_take]; omega), List.getElem?_drop, List.length_take, Nat.min_eq_left (by omega), Nat.sub_self, Nat.add_zero] at e2
    have hp := ((tright_iff t).1 h2).2.2
    rw [List.pairwise_map, List.pairwise_iff_getElem] at hp
    have hk1 : k + 1 < t.length := (List.getElem?_eq_some_iff.1 e2.symm).1
    have := hp k (k + 1) hk hk1 (by omega)
    rw [List.getElem?_eq_getElem hk1] at e2
    rw [List.getElem?_eq_getElem hk] at hr
    rw [Option.some.inj hr, ← Option.some.inj e2, pless_irrefl] at this
    cases this
  · have hi' : i < ids.toNat := by omega
    have : (i + 1) * (room / 20).toNat ≤ k / (room / 20).toNat * (room / 20).toNat := Nat.mul_le_mul_right _ hi
    rw [Nat.add_mul, Nat.one_mul] at this
    rw [bodiesOf_getD hi', bodiesOf_getD hi', bodyAt, bodyAt]
    congr 1
    refine List.ext_getElem? fun j => ?_
    rw [List.getElem?_take, List.getElem?_take, List.getElem?_drop, List.getElem?_drop]
    by_cases hj : j < (room / 20).toNat
    · rw [if_pos hj, if_pos hj, hget _ (by omega)]
    · rw [if_neg hj, if_neg hj]

/-! How many bodies bear something. -/
def fullTo (a : List (List UInt8)) (i : Nat) : Nat := ((a.take i).filter fun x => decide (0 < x.length)).length
theorem fullTo_zero (a : List (List UInt8)) : fullTo a 0 = 0 := by simp [fullTo]
theorem fullTo_yes {a : List (List UInt8)} {i : Nat} {x : List UInt8} (h : a[i]? = some x) (hx : 0 < x.length) : fullTo a (i + 1) = fullTo a i + 1 := by
  simp [fullTo, List.take_add_one, h, List.filter_append, hx]
theorem fullTo_no {a : List (List UInt8)} {i : Nat} {x : List UInt8} (h : a[i]? = some x) (hx : ¬ 0 < x.length) : fullTo a (i + 1) = fullTo a i := by
  simp [fullTo, List.take_add_one, h, List.filter_append, hx]
theorem fullTo_le (a : List (List UInt8)) (i : Nat) : fullTo a i ≤ i := by
  have := List.length_filter_le (fun x : List UInt8 => decide (0 < x.length)) (a.take i)
  rw [fullTo]; rw [List.length_take] at this; omega
theorem full_bodies {t : List Rt} {n : Nat} (hn : 0 < n) (k : Nat) : ∀ i, i ≤ k → fullTo (bodiesOf t k n) i = min i ((t.length + n - 1) / n)
  | 0, _ => by rw [fullTo_zero]; simp
  | i + 1, h => by
    have ih := full_bodies (t := t) hn k i (by omega)
    have hx : (bodiesOf t k n)[i]? = some (bodyAt t n i) := by simp [bodiesOf, show i < k by omega]
    have hl := bodyAt_length t n i
    have hiff : i < (t.length + n - 1) / n ↔ i * n < t.length := by
      rw [Nat.lt_div_iff_mul_lt hn]; omega
    by_cases hb : i * n < t.length
    · rw [fullTo_yes hx (by rw [hl]; omega), ih]
      have := hiff.2 hb
      omega
    · rw [fullTo_no hx (by rw [hl]; omega), ih]
      have : ¬ i < (t.length + n - 1) / n := fun h => hb (hiff.1 h)
      omega
theorem rcells_over18 (r : Rt) (h : UInt16) : over (rcells r) 18 (Value.int .u16 h.toNat).cells = rcells ⟨r.p, h⟩ := by
  have h0 : ∀ r, (rcells r).size = 19 := rcells_size
  have hc : (Value.int .u16 h.toNat).cells.size = 1 := rfl
  have hs : 18 + (Value.int .u16 h.toNat).cells.size ≤ (rcells r).size := by rw [h0, hc]; decide
  refine Array.ext_getElem? fun j => ?_
  rw [cells_over hs]
  by_cases hj : j = 18
  · subst hj; rw [if_pos ⟨Nat.le_refl _, by omega⟩, rcells_hop]; rfl
  · rw [if_neg (by omega)]
    rcases Nat.lt_or_ge j 18 with h1 | h1
    · rw [rcells_p _ _ h1, rcells_p _ _ h1]
    · rw [Array.getElem?_eq_none (by rw [h0]; omega), Array.getElem?_eq_none (by rw [h0]; omega)]
/-- A body ahead of one that bears something is full. -/
theorem body_ahead {t : List Rt} {n i : Nat} (h : 0 < (bodyAt t n (i + 1)).length) : (bodyAt t n i).length = 20 * n := by
  rw [bodyAt_length] at h ⊢
  rw [Nat.add_mul] at h
  omega
end Go.Kb
