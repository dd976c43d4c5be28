/- Changes sorted, each prefix once, by both ways. No program in sight. -/
import Derived.Test.YtldkgicmfbofiaaMu
import Derived.Test.YtldkgicmfbofiaaMj

set_option linter.unusedSimpArgs false
set_option linter.unusedVariables false
namespace Go.Eng
open Go.Kb
variable {t u : List Ch} {p : Pfx} {r : Ch}
def rkC (r : Ch) : Nat := rkP r.r.p
def MayC (l : List Ch) : Prop := ∀ c ∈ l, pmay c.r.p = true
structure OrdC (t : List Ch) : Prop where
  may : ∀ r ∈ t, pmay r.r.p = true
  less : t.Pairwise fun a b => pless a.r.p b.r.p = true
theorem OrdC.sub {s t : List Ch} (h : OrdC t) (hs : s.Sublist t) : OrdC s := ⟨fun r hr => h.may r (hs.subset hr), h.less.sublist hs⟩
theorem OrdC.uniq {t : List Ch} (h : OrdC t) {a b : Ch} (ha : a ∈ t) (hb : b ∈ t) (e : a.r.p = b.r.p) : a = b := by
  obtain ⟨i, hi, rfl⟩ := List.getElem_of_mem ha
  obtain ⟨j, hj, rfl⟩ := List.getElem_of_mem hb
  have hp := List.pairwise_iff_getElem.1 h.less
  have hm := h.may _ hb
  rcases Nat.lt_trichotomy i j with h1 | h1 | h1
  · have := hp i j hi hj h1; rw [e, less_irr hm] at this; cases this
  · subst h1; rfl
  · have := hp j i hj hi h1; rw [e, less_irr hm] at this; cases this
def lessC (t : List Ch) (q : Pfx) : List Ch := t.filter fun x => pless x.r.p q

def moreC (t : List Ch) (q : Pfx) : List Ch := t.filter fun x => pless q x.r.p

theorem OrdC.ext : ∀ {s t : List Ch}, OrdC s → OrdC t → (∀ x, x ∈ s ↔ x ∈ t) → s = t
  | [], [], _, _, _ => rfl
  | [], b :: t, _, _, h => by have := (h b).2 (List.mem_cons_self); cases this
  | a :: s, [], _, _, h => by have := (h a).1 (List.mem_cons_self); cases this
  | a :: s, b :: t, hs, ht, h => by
    have ha := (List.pairwise_cons.1 hs.less)
    have hb := (List.pairwise_cons.1 ht.less)
    have ma := hs.may a List.mem_cons_self
    have mb := ht.may b List.mem_cons_self
    have e : a = b := by
      apply Classical.byContradiction; intro hn
      rcases List.mem_cons.1 ((h a).1 List.mem_cons_self) with h1 | h1
      · exact hn h1
      · rcases List.mem_cons.1 ((h b).2 List.mem_cons_self) with h2 | h2
        · exact hn h2.symm
        · have h3 := hb.1 a h1
          have h4 := ha.1 b h2
          rw [less_asym mb ma h3] at h4; cases h4
    subst e
    have hne : ∀ x, (∀ y ∈ s, pless a.r.p y.r.p = true) → x ∈ s → x ≠ a := fun x hy hx e => by
      subst e; have := hy x hx; rw [less_irr ma] at this; cases this
    rw [OrdC.ext (hs.sub (List.sublist_cons_self _ _)) (ht.sub (List.sublist_cons_self _ _)) fun x => ⟨fun hx => ?_, fun hx => ?_⟩]
    · rcases List.mem_cons.1 ((h x).1 (List.mem_cons_of_mem _ hx)) with h1 | h1
      · exact absurd h1 (hne x ha.1 hx)
      · exact h1
    · rcases List.mem_cons.1 ((h x).2 (List.mem_cons_of_mem _ hx)) with h1 | h1
      · subst h1; have := hb.1 x hx; rw [less_irr ma] at this; cases this
      · exact h1

def putC (r : Ch) : List Ch → Bool → List Ch
  | [], d => if d = true then [] else [r]
  | x :: l, d => (if (!d && !pless x.r.p r.r.p) = true then [r] else []) ++ ((if x.r.p ≠ r.r.p then [x] else []) ++ putC r l (d || !pless x.r.p r.r.p))

theorem putC_done (r : Ch) : ∀ l, putC r l true = l.filter fun x => decide (x.r.p ≠ r.r.p)
  | [] => rfl
  | x :: l => by
    rw [putC, Bool.true_or, putC_done r l, List.filter_cons]
    by_cases h : x.r.p = r.r.p <;> simp [h]

theorem putC_eq (hr : pmay r.r.p = true) : ∀ {t : List Ch}, OrdC t → putC r t false = lessC t r.r.p ++ r :: moreC t r.r.p
  | [], _ => rfl
  | x :: l, h => by
    have hl := h.sub (List.sublist_cons_self x l)
    have mx := h.may x List.mem_cons_self
    rw [putC]
    cases hx : pless x.r.p r.r.p with
    | true =>
      have hn := less_ne mx hx
      rw [show (false || !true) = false from rfl, putC_eq hr hl]
      simp [hn, lessC, moreC, List.filter_cons, hx, less_asym mx hr hx]
    | false =>
      rw [show (false || !false) = true from rfl, putC_done]
      have hp := (List.pairwise_cons.1 h.less).1
      have hg : ∀ y ∈ l, pless r.r.p y.r.p = true := fun y hy => by
        by_cases e : x.r.p = r.r.p
        · rw [← e]; exact hp y hy
        · exact less_trans' hr mx (hl.may y hy) (less_tri mx hr hx e) (hp y hy)
      have e1 : lessC (x :: l) r.r.p = [] := filter_none fun y hy => by
        rcases List.mem_cons.1 hy with rfl | hy
        · exact hx
        · exact less_asym hr (hl.may y hy) (hg y hy)
      have e2 : l.filter (fun y => decide (y.r.p ≠ r.r.p)) = l := filter_all fun y hy => by simpa using (less_ne hr (hg y hy)).symm
      have e3 : moreC l r.r.p = l := filter_all hg
      rw [e1, e2, moreC, List.filter_cons, show l.filter (fun y => pless r.r.p y.r.p) = l from e3]
      by_cases e : x.r.p = r.r.p
      · rw [e, less_irr hr]; simp
      · rw [less_tri mx hr hx e]; simp [e]

theorem putC_yes {e : Ch} {l : List Ch} {d : Bool} (h : d = false) (h' : pless e.r.p r.r.p = false) : putC r (e :: l) d = [r] ++ ((if e.r.p ≠ r.r.p then [e] else []) ++ putC r l true) := by
  rw [putC, h, h']; rfl

theorem putC_no {e : Ch} {l : List Ch} {d : Bool} (h : d = true ∨ pless e.r.p r.r.p = true) : putC r (e :: l) d = (if e.r.p ≠ r.r.p then [e] else []) ++ putC r l d := by
  rw [putC]
  rcases h with h | h <;> rw [h] <;> cases d <;> rfl

theorem putC_len (r : Ch) : ∀ (l : List Ch) (d : Bool), (putC r l d).length + (if d then 1 else 0) ≤ l.length + 1
  | [], d => by cases d <;> simp [putC]
  | x :: l, d => by
    have h1 := putC_len r l true
    have h2 := putC_len r l d
    have h3 : ((if x.r.p ≠ r.r.p then [x] else []) : List Ch).length ≤ 1 := by split <;> simp
    cases d with
    | true =>
      rw [putC_no (.inl rfl), List.length_append, List.length_cons]
      simp only [if_true] at *
      omega
    | false =>
      cases hx : pless x.r.p r.r.p with
      | true =>
        rw [putC_no (.inr hx), List.length_append, List.length_cons]
        simp only [Bool.false_eq_true, if_false, if_true] at *
        omega
      | false =>
        rw [putC_yes rfl hx, List.length_append, List.length_append, List.length_cons]
        simp only [Bool.false_eq_true, if_false, if_true, List.length_cons, List.length_nil] at *
        omega

theorem putC_len1 (r : Ch) (l : List Ch) : (putC r l false).length ≤ l.length + 1 := by
  have := putC_len r l false
  simpa using this

theorem putC_mem (hr : pmay p = true) {r x : Ch} (hp : r.r.p = p) (ho : OrdC t) : x ∈ putC r t false ↔ x = r ∨ (x ∈ t ∧ x.r.p ≠ r.r.p) := by
  subst hp
  rw [putC_eq hr ho]
  simp only [List.mem_append, List.mem_cons, lessC, moreC, List.mem_filter]
  constructor
  · rintro (⟨h1, h2⟩ | h | ⟨h1, h2⟩)
    · exact .inr ⟨h1, less_ne (ho.may x h1) h2⟩
    · exact .inl h
    · exact .inr ⟨h1, fun e => less_ne hr h2 e.symm⟩
  · rintro (h | ⟨h1, h2⟩)
    · exact .inr (.inl h)
    · cases h3 : pless x.r.p r.r.p with
      | true => exact .inl ⟨h1, rfl⟩
      | false => exact .inr (.inr ⟨h1, less_tri (ho.may x h1) hr h3 h2⟩)

theorem putC_ord {r : Ch} (hr : pmay r.r.p = true) (ho : OrdC t) : OrdC (putC r t false) := by
  rw [putC_eq hr ho]
  refine ⟨fun x hx => ?_, ?_⟩
  · simp only [List.mem_append, List.mem_cons, lessC, moreC, List.mem_filter] at hx
    rcases hx with h | rfl | h
    · exact ho.may x h.1
    · exact hr
    · exact ho.may x h.1
  · refine List.pairwise_append.2 ⟨ho.less.sublist List.filter_sublist, List.pairwise_cons.2 ⟨fun y hy => (List.mem_filter.1 hy).2, ho.less.sublist List.filter_sublist⟩, fun a ha b hb => ?_⟩
    have h1 := List.mem_filter.1 ha
    rcases List.mem_cons.1 hb with rfl | hb
    · exact h1.2
    · have h2 := List.mem_filter.1 hb
      exact less_trans' (ho.may a h1.1) hr (ho.may b h2.1) h1.2 h2.2

def sameC (ys : List Ch) (i : Nat) : Bool := match ys[i]?, ys[i + 1]? with
  | some x, some y => decide (y.r.p = x.r.p)
  | _, _ => false

def ddC (ys : List Ch) : Nat → List Ch
  | 0 => []
  | i + 1 => if sameC ys i = true then ddC ys i else ddC ys i ++ (ys[i]?).toList

theorem ddC_length (ys : List Ch) : ∀ i, (ddC ys i).length ≤ i
  | 0 => Nat.le_refl _
  | i + 1 => by
    have := ddC_length ys i
    unfold ddC
    split
    · omega
    · rw [List.length_append]
      have : (ys[i]?).toList.length ≤ 1 := by cases ys[i]? <;> simp
      omega

theorem ddC_yes {ys : List Ch} {i : Nat} {x y : Ch} (hx : ys[i]? = some x) (hy : ys[i + 1]? = some y) (h : y.r.p = x.r.p) : ddC ys (i + 1) = ddC ys i := by
  rw [ddC, if_pos (by unfold sameC; rw [hx, hy]; simp [h])]

theorem ddC_no {ys : List Ch} {i : Nat} {x : Ch} (hx : ys[i]? = some x) (h : ∀ y, ys[i + 1]? = some y → y.r.p ≠ x.r.p) : ddC ys (i + 1) = ddC ys i ++ [x] := by
  rw [ddC, if_neg (by
    unfold sameC
    rw [hx]
    cases hy : ys[i + 1]? with
    | none => simp
    | some y => simp [h y hy]), hx]; rfl

def keepC (xs : List Ch) : List Ch := xs.filter fun r => pmay r.r.p

theorem keepC_may (xs : List Ch) : MayC (keepC xs) := fun x hx => by
  have := (List.mem_filter.1 hx).2
  simpa using this

theorem keepC_length (xs : List Ch) : (keepC xs).length ≤ xs.length := List.length_filter_le _ _

theorem keepC_app (l : List Ch) (r : Ch) : keepC (l ++ [r]) = keepC l ++ (if pmay r.r.p = true then [r] else []) := by
  unfold keepC
  rw [List.filter_append]
  cases h : pmay r.r.p <;> simp [h]

def foldF (ts : List Ch) : List Ch := ddC (srt rkC (keepC ts)) (srt rkC (keepC ts)).length

theorem fold_of {ts ys : List Ch} (h : Stb rkC (keepC ts) ys) : foldF ts = ddC ys ys.length := by
  rw [foldF, Stb.uniq (srt_stb (keepC ts)) h]

def rfoldF (ts : List Ch) : List Ch := ts.foldl (fun t r => if pmay r.r.p = true then putC r t false else t) []

theorem rfold_yes {ts : List Ch} {i : Nat} {x : Ch} (hx : ts[i]? = some x) (h : pmay x.r.p = true) : rfoldF (ts.take (i + 1)) = putC x (rfoldF (ts.take i)) false := by
  rw [rfoldF, List.take_add_one, hx, List.foldl_append]
  simp [h, rfoldF]

theorem rfold_no {ts : List Ch} {i : Nat} {x : Ch} (hx : ts[i]? = some x) (h : pmay x.r.p = false) : rfoldF (ts.take (i + 1)) = rfoldF (ts.take i) := by
  rw [rfoldF, List.take_add_one, hx, List.foldl_append]
  simp [h, rfoldF]


theorem rfold_ok (l : List Ch) : OrdC (rfoldF l) ∧ ∀ x, x ∈ rfoldF l ↔ lastC (keepC l) x.r.p = some x := by
  have key : ∀ n, n ≤ l.length → OrdC (rfoldF (l.take n)) ∧ ∀ x, x ∈ rfoldF (l.take n) ↔ lastC (keepC (l.take n)) x.r.p = some x := by
    intro n
    induction n with
    | zero =>
      intro _
      simp only [List.take_zero]
      exact ⟨⟨fun _ h => (by simp [rfoldF] at h), by simp [rfoldF]⟩, fun x => by simp [rfoldF, keepC, lastC]⟩
    | succ n ih =>
      intro hn
      obtain ⟨h1, h2⟩ := ih (by omega)
      obtain ⟨r, hr⟩ := get_some (xs := l) (i := n) (by omega)
      have e : l.take (n + 1) = l.take n ++ [r] := by rw [List.take_add_one, hr]; rfl
      cases hm : pmay r.r.p with
      | false =>
        rw [rfold_no hr hm, e, keepC_app, hm]
        simpa using ⟨h1, h2⟩
      | true =>
        rw [rfold_yes hr hm]
        refine ⟨putC_ord hm h1, fun x => ?_⟩
        rw [putC_mem hm rfl h1, e, keepC_app, hm, if_pos rfl, lastC_app, h2]
        by_cases hp : r.r.p = x.r.p
        · rw [if_pos hp]
          constructor
          · rintro (h | ⟨_, h⟩)
            · rw [h]
            · exact absurd hp.symm h
          · intro h; exact .inl (Option.some.inj h).symm
        · rw [if_neg hp]
          constructor
          · rintro (h | ⟨h, _⟩)
            · exact absurd (by rw [h]) hp
            · exact h
          · intro h; exact .inr ⟨h, fun h' => hp h'.symm⟩
  have := key l.length (Nat.le_refl _)
  rwa [List.take_length] at this

theorem ddC_mem {ys : List Ch} {x : Ch} : ∀ i, i ≤ ys.length → (x ∈ ddC ys i ↔ ∃ j, j < i ∧ ys[j]? = some x ∧ ∀ y, ys[j + 1]? = some y → y.r.p ≠ x.r.p)
  | 0, _ => by simp [ddC]
  | i + 1, hi => by
    obtain ⟨e, he⟩ := get_some (xs := ys) (i := i) (by omega)
    have ih := ddC_mem (ys := ys) (x := x) i (by omega)
    by_cases hs : ∀ y, ys[i + 1]? = some y → y.r.p ≠ e.r.p
    · rw [ddC_no he hs, List.mem_append, ih]
      constructor
      · rintro (⟨j, h1, h2, h3⟩ | h)
        · exact ⟨j, by omega, h2, h3⟩
        · obtain rfl : x = e := by simpa using h
          exact ⟨i, by omega, he, hs⟩
      · rintro ⟨j, h1, h2, h3⟩
        rcases Nat.eq_or_lt_of_le (Nat.le_of_lt_succ h1) with rfl | h4
        · right; rw [he] at h2; simp [(Option.some.inj h2).symm]
        · exact .inl ⟨j, h4, h2, h3⟩
    · obtain ⟨y, hy, hyp⟩ : ∃ y, ys[i + 1]? = some y ∧ y.r.p = e.r.p := by
        apply Classical.byContradiction
        intro hc
        exact hs fun y hy h => hc ⟨y, hy, h⟩
      rw [ddC_yes he hy hyp, ih]
      constructor
      · rintro ⟨j, h1, h2, h3⟩; exact ⟨j, by omega, h2, h3⟩
      · rintro ⟨j, h1, h2, h3⟩
        rcases Nat.eq_or_lt_of_le (Nat.le_of_lt_succ h1) with rfl | h4
        · rw [he] at h2
          obtain rfl := Option.some.inj h2
          exact absurd hyp (h3 y hy)
        · exact ⟨j, h4, h2, h3⟩

theorem filt_rkC {l : List Ch} (hm : MayC l) (hp : pmay p = true) : (l.filter fun r => decide (r.r.p = p)) = l.filter fun r => decide (rkC r = rkP p) := by
  refine List.filter_congr fun r hr => ?_
  rw [decide_eq_decide]
  exact ⟨fun e => by rw [rkC, e], fun e => rkP_inj (hm r hr) hp e⟩

theorem lastC_stb {l ys : List Ch} (h : Stb rkC l ys) (hm : MayC l) (hp : pmay p = true) : lastC ys p = lastC l p := by
  unfold lastC
  rw [filt_rkC (fun x hx => hm x (h.mem.1 hx)) hp, filt_rkC hm hp, h.same]

theorem last_srtC {ys : List Ch} (hs : Srt rkC ys) (hm : MayC ys) {x : Ch} : (∃ j, j < ys.length ∧ ys[j]? = some x ∧ ∀ y, ys[j + 1]? = some y → y.r.p ≠ x.r.p) ↔ lastC ys x.r.p = some x := by
  constructor
  · rintro ⟨j, hj, hx, hn⟩
    obtain ⟨_, hv⟩ := List.getElem?_eq_some_iff.1 hx
    have e : ys = ys.take j ++ x :: ys.drop (j + 1) := by rw [← hv, List.getElem_cons_drop, List.take_append_drop]
    have hz : (ys.drop (j + 1)).filter (fun r => decide (r.r.p = x.r.p)) = [] := by
      rw [List.filter_eq_nil_iff]
      intro y hy
      obtain ⟨i, hi⟩ := List.mem_iff_getElem?.1 hy
      rw [List.getElem?_drop] at hi
      obtain ⟨z, hz⟩ := get_some (xs := ys) (i := j + 1) (by have := (List.getElem?_eq_some_iff.1 hi).1; omega)
      have hle : ∀ s t a b, s ≤ t → ys[s]? = some a → ys[t]? = some b → rkC a ≤ rkC b := fun s t a b hst ha hb => by
        obtain ⟨h1, rfl⟩ := List.getElem?_eq_some_iff.1 ha
        obtain ⟨h2, rfl⟩ := List.getElem?_eq_some_iff.1 hb
        rcases Nat.eq_or_lt_of_le hst with rfl | h3
        · exact Nat.le_refl _
        · exact (List.pairwise_iff_getElem.1 hs) s t h1 h2 h3
      have h1 := hle j (j + 1) x z (by omega) hx hz
      have h2 := hle (j + 1) (j + 1 + i) z y (by omega) hz hi
      have h3 := hn z hz
      simp only [decide_eq_true_eq]
      intro h4
      have h5 : rkC y = rkC x := by rw [rkC, h4]; rfl
      exact h3 (rkP_inj (hm z (List.mem_of_getElem? hz)) (hm x (List.mem_of_getElem? hx)) (by show rkC z = rkC x; omega))
    unfold lastC
    rw [e, List.filter_append, List.filter_cons, if_pos (by simp), hz]
    simp
  · intro h
    obtain ⟨A, hA⟩ := List.getLast?_eq_some_iff.1 h
    obtain ⟨l1, l2, e1, _, e2⟩ := List.filter_eq_append_iff.1 hA
    obtain ⟨m1, m2, e3, _, _, e4⟩ := List.filter_eq_cons_iff.1 e2
    subst e3
    have ey : ys = (l1 ++ m1) ++ x :: m2 := by rw [e1, List.append_assoc]
    refine ⟨(l1 ++ m1).length, by rw [ey]; simp, by rw [ey]; simp, fun y hy => ?_⟩
    rw [ey, List.getElem?_append_right (by omega)] at hy
    rw [show (l1 ++ m1).length + 1 - (l1 ++ m1).length = 0 + 1 by omega, List.getElem?_cons_succ] at hy
    have := List.filter_eq_nil_iff.1 e4 y (List.mem_of_getElem? hy)
    simpa using this

theorem fold_ok (l : List Ch) : OrdC (foldF l) ∧ ∀ x, x ∈ foldF l ↔ lastC (keepC l) x.r.p = some x := by
  have hst := srt_stb (f := rkC) (keepC l)
  have hmy : MayC (srt rkC (keepC l)) := fun x hx => keepC_may l x (hst.mem.1 hx)
  have hmem : ∀ x, x ∈ foldF l ↔ lastC (srt rkC (keepC l)) x.r.p = some x := fun x => by
    rw [foldF, ddC_mem _ (Nat.le_refl _)]
    exact last_srtC hst.srt hmy
  have hin : ∀ x, x ∈ foldF l → x ∈ srt rkC (keepC l) := fun x hx => (lastC_mem ((hmem x).1 hx)).1
  have hpw : ∀ i, i ≤ (srt rkC (keepC l)).length → (ddC (srt rkC (keepC l)) i).Pairwise fun a b => pless a.r.p b.r.p = true := by
    generalize hys : srt rkC (keepC l) = ys at *
    have hle : ∀ s t a b, s ≤ t → ys[s]? = some a → ys[t]? = some b → rkC a ≤ rkC b := fun s t a b hst' ha hb => by
      obtain ⟨h1, rfl⟩ := List.getElem?_eq_some_iff.1 ha
      obtain ⟨h2, rfl⟩ := List.getElem?_eq_some_iff.1 hb
      rcases Nat.eq_or_lt_of_le hst' with rfl | h3
      · exact Nat.le_refl _
      · exact (List.pairwise_iff_getElem.1 hst.srt) s t h1 h2 h3
    intro i
    induction i with
    | zero => intro _; exact List.Pairwise.nil
    | succ i ih =>
      intro hi
      obtain ⟨e, he⟩ := get_some (xs := ys) (i := i) (by omega)
      rw [ddC]
      split
      · exact ih (by omega)
      · rw [he]
        refine List.pairwise_append.2 ⟨ih (by omega), by simp, fun a ha b hb => ?_⟩
        obtain rfl : b = e := by simpa using hb
        obtain ⟨j, h1, h2, h3⟩ := (ddC_mem i (by omega)).1 ha
        obtain ⟨z, hz⟩ := get_some (xs := ys) (i := j + 1) (by omega)
        have g1 := hle j (j + 1) a z (by omega) h2 hz
        have g2 := hle (j + 1) i z b (by omega) hz he
        have ma := hmy a (List.mem_of_getElem? h2)
        have mz := hmy z (List.mem_of_getElem? hz)
        have g3 : rkC a ≠ rkC z := fun e => h3 z hz (rkP_inj mz ma e.symm)
        rw [pless_rk ma (hmy b (List.mem_of_getElem? he)), decide_eq_true_eq]
        show rkC a < rkC b
        omega
  refine ⟨⟨fun x hx => hmy x (hin x hx), hpw _ (Nat.le_refl _)⟩, fun x => ?_⟩
  rw [hmem]
  cases hx : pmay x.r.p with
  | true => rw [lastC_stb hst (keepC_may l) hx]
  | false =>
    constructor
    · intro h
      have := hmy x (lastC_mem h).1
      rw [hx] at this; cases this
    · intro h
      have := keepC_may l x (lastC_mem h).1
      rw [hx] at this; cases this

theorem fold_same (l : List Ch) : foldF l = rfoldF l :=
  OrdC.ext (fold_ok l).1 (rfold_ok l).1 fun x => ((fold_ok l).2 x).trans ((rfold_ok l).2 x).symm

theorem fold_len (l : List Ch) : (foldF l).length ≤ l.length := by
  have h1 := ddC_length (srt rkC (keepC l)) (srt rkC (keepC l)).length
  have h2 := (srt_stb (f := rkC) (keepC l)).length
  have h3 := keepC_length l
  unfold foldF
  omega
theorem keepC_all {l : List Ch} (h : MayC l) : keepC l = l := by
  rw [keepC, List.filter_eq_self]; exact fun x hx => h x hx
end Go.Eng

/- Where a prefix leads; what makes one table of another one. No program in sight. -/
namespace Go.Eng
open Go.Kb
variable {t u v : List Rt} {p : Pfx} {l : List Ch}
/-! Who stands at a prefix. -/
def hasR (t : List Rt) (p : Pfx) : Option Rt := t.find? fun x => decide (x.p = p)
theorem has_some (ho : Ord t) {x : Rt} : hasR t p = some x ↔ x ∈ t ∧ x.p = p := by
  unfold hasR
  constructor
  · intro h
    exact ⟨List.mem_of_find?_eq_some h, by simpa using List.find?_some h⟩
  · rintro ⟨h1, h2⟩
    cases h : t.find? fun x => decide (x.p = p) with
    | some y =>
      have h3 := List.mem_of_find?_eq_some h
      have h4 : y.p = p := by simpa using List.find?_some h
      rw [ho.uniq h1 h3 (h2.trans h4.symm)]
    | none =>
      have := List.find?_eq_none.1 h x h1
      simp [h2] at this
theorem has_none : hasR t p = none ↔ ∀ x ∈ t, x.p ≠ p := by
  unfold hasR
  rw [List.find?_eq_none]
  exact ⟨fun h x hx => by simpa using h x hx, fun h x hx => by simpa using h x hx⟩
theorem has_p {x : Rt} (h : hasR t p = some x) : x.p = p := by
  unfold hasR at h; simpa using List.find?_some h
theorem has_in {x : Rt} (h : hasR t p = some x) : x ∈ t := by
  unfold hasR at h; exact List.mem_of_find?_eq_some h
theorem has_ext (h1 : Ord t) (h2 : Ord u) (h : ∀ p, hasR t p = hasR u p) : t = u :=
  Go.Kb.Ord.ext h1 h2 fun x => by
    have := h x.p
    constructor
    · intro hx
      exact has_in (this ▸ (has_some h1).2 ⟨hx, rfl⟩)
    · intro hx
      exact has_in (this.symm ▸ (has_some h2).2 ⟨hx, rfl⟩)
/-! Changes, each prefix once. -/
def Dst (l : List Ch) : Prop := l.Pairwise fun a b => a.r.p ≠ b.r.p
theorem Dst.uniq (h : Dst l) {a b : Ch} (ha : a ∈ l) (hb : b ∈ l) (e : a.r.p = b.r.p) : a = b := by
  obtain ⟨i, hi, rfl⟩ := List.getElem_of_mem ha
  obtain ⟨j, hj, rfl⟩ := List.getElem_of_mem hb
  have hp := List.pairwise_iff_getElem.1 h
  rcases Nat.lt_trichotomy i j with h1 | h1 | h1
  · exact absurd e (hp i j hi hj h1)
  · subst h1; rfl
  · exact absurd e.symm (hp j i hj hi h1)
theorem OrdC.dst (h : OrdC l) : Dst l := h.less.imp_of_mem fun {a b} ha _ hab => less_ne (h.may a ha) hab
theorem last_dst (h : Dst l) {c : Ch} : lastC l p = some c ↔ c ∈ l ∧ c.r.p = p := by
  constructor
  · exact lastC_mem
  · rintro ⟨h1, h2⟩
    cases hl : lastC l p with
    | some d =>
      obtain ⟨h3, h4⟩ := lastC_mem hl
      rw [h.uniq h1 h3 (h2.trans h4.symm)]
    | none =>
      have : (l.filter fun c => decide (c.r.p = p)) = [] := List.getLast?_eq_none_iff.1 hl
      have := List.filter_eq_nil_iff.1 this c h1
      simp [h2] at this
theorem last_none : lastC l p = none ↔ ∀ c ∈ l, c.r.p ≠ p := by
  constructor
  · intro hl c hc
    have : (l.filter fun c => decide (c.r.p = p)) = [] := List.getLast?_eq_none_iff.1 hl
    have := List.filter_eq_nil_iff.1 this c hc
    simpa using this
  · exact lastC_none
theorem last_same {m : List Ch} (hl : Dst l) (hm : Dst m) (h : ∀ c, c ∈ l ↔ c ∈ m) (p : Pfx) : lastC l p = lastC m p := by
  cases h1 : lastC m p with
  | some c =>
    obtain ⟨h2, h3⟩ := (last_dst hm).1 h1
    exact (last_dst hl).2 ⟨(h c).2 h2, h3⟩
  | none =>
    rw [last_none] at h1 ⊢
    exact fun c hc => h1 c ((h c).1 hc)
def aC : Option Ch → Option Rt → Option Rt
  | some c, _ => if c.gone = true then none else some c.r
  | none, o => o
theorem app_has (h : tright t = true) (he : appE t l = 0) (p : Pfx) : hasR (appL t l) p = aC (lastC l p) (hasR t p) := by
  have hu := right_ord (apL_right h l)
  have key : ∀ x : Rt, x.p = p → (x ∈ appL t l ↔ aC (lastC l p) (hasR t p) = some x) := fun x hx => by
    rw [app_mem h he, hx]
    cases hl : lastC l p with
    | none => simp only [aC]; rw [has_some (right_ord h)]; exact ⟨fun h => ⟨h, hx⟩, fun h => h.1⟩
    | some c =>
      simp only [aC]
      cases c.gone <;> simp [eq_comm]
  cases ha : aC (lastC l p) (hasR t p) with
  | some x =>
    have hx : x.p = p := by
      cases hl : lastC l p with
      | none => rw [hl] at ha; exact has_p ha
      | some c =>
        rw [hl] at ha
        simp only [aC] at ha
        split at ha
        · cases ha
        · rw [← Option.some.inj ha]; exact (lastC_mem hl).2
    exact (has_some hu).2 ⟨(key x hx).2 ha, hx⟩
  | none =>
    rw [has_none]
    intro x hx e
    have := (key x e).1 hx
    rw [ha] at this; cases this
/-! Changes that can be made. -/
theorem chg_ok (h : tright t = true) {c : Ch} (hm : pmay c.r.p = true) (hg : c.gone = true → hasR t c.r.p ≠ none) (hl : c.gone = false → t.length < 256) : chgE t c = 0 := by
  rw [chgE_get h]
  cases hh : hasR t c.r.p with
  | some x =>
    have h2 := get_of h (has_in hh)
    rw [has_p hh, (get_rget h).1] at h2
    rw [h2.1, if_neg (by simp), if_neg (by simp)]
  | none =>
    have h2 := rget_no hm (has_none.1 hh)
    have hgn : c.gone = false := by
      cases hgn : c.gone with
      | false => rfl
      | true => exact absurd hh (hg hgn)
    have := hl hgn
    rw [h2.1, if_neg (by simp [hgn]), if_neg (by omega)]
theorem chg_len (h : tright t = true) (c : Ch) : (chgL t c).length ≤ t.length + (if c.gone = true then 0 else 1) := by
  unfold chgL
  split
  · split
    · simp only [List.length_append, List.length_take, List.length_drop]; omega
    · split
      · simp
      · have := placeN_le t c.r.p
        simp only [List.length_append, List.length_take, List.length_cons, List.length_drop]; omega
  · omega
theorem chg_has (h : tright t = true) {c : Ch} (he : chgE t c = 0) (p : Pfx) : hasR (chgL t c) p = if c.r.p = p then (if c.gone = true then none else some c.r) else hasR t p := by
  obtain ⟨e1, e2⟩ := app1 h he
  have := app_has h e1 p
  rw [e2] at this
  rw [this]
  unfold lastC
  by_cases hp : c.r.p = p
  · rw [if_pos hp]; simp [hp, aC]
  · rw [if_neg hp]; simp [hp, aC]
def putsN (l : List Ch) : Nat := l.countP fun c => !c.gone
theorem puts_cons (c : Ch) (l : List Ch) : putsN (c :: l) = putsN l + (if c.gone = true then 0 else 1) := by
  unfold putsN
  rw [List.countP_cons]
  cases c.gone <;> simp
theorem app_ok : ∀ {l : List Ch} {t : List Rt}, tright t = true → Dst l → (∀ c ∈ l, pmay c.r.p = true ∧ (c.gone = true → hasR t c.r.p ≠ none)) → t.length + putsN l ≤ 256 → (appF t l).2 = 0
  | [], _, _, _, _, _ => rfl
  | c :: l, t, h, hd, hc, hn => by
    rw [puts_cons] at hn
    obtain ⟨h1, h2⟩ := List.pairwise_cons.1 hd
    obtain ⟨h3, h4⟩ := hc c List.mem_cons_self
    have he : chgE t c = 0 := chg_ok h h3 h4 fun hg => by rw [hg] at hn; simp at hn; omega
    rw [appF, if_pos he]
    have hcl := chg_len h c
    refine app_ok (chg_right h c) h2 (fun d hdl => ?_) (by omega)
    obtain ⟨h5, h6⟩ := hc d (List.mem_cons_of_mem _ hdl)
    refine ⟨h5, fun hg => ?_⟩
    rw [chg_has h he, if_neg (h1 d hdl)]
    exact h6 hg
theorem app_okE (h : tright t = true) (hd : Dst l) (hc : ∀ c ∈ l, pmay c.r.p = true ∧ (c.gone = true → hasR t c.r.p ≠ none)) (hn : t.length + putsN l ≤ 256) : appE t l = 0 := by
  rw [appE, if_pos h]; exact app_ok h hd hc hn
theorem puts_app (a b : List Ch) : putsN (a ++ b) = putsN a + putsN b := by unfold putsN; exact List.countP_append
/-! What makes one table of another one. -/
def diffF : List Rt → List Rt → List Ch
  | [], [] => []
  | a :: t, [] => ⟨a, true⟩ :: diffF t []
  | [], b :: u => ⟨b, false⟩ :: diffF [] u
  | a :: t, b :: u => if pless a.p b.p = true then ⟨a, true⟩ :: diffF t (b :: u) else if a.p = b.p then (if a.hop ≠ b.hop then [⟨b, false⟩] else []) ++ diffF t u else ⟨b, false⟩ :: diffF (a :: t) u
termination_by t u => t.length + u.length
theorem diff_nil : diffF [] [] = [] := by rw [diffF]
theorem diff_gone {a : Rt} (h : u = [] ∨ ∃ b u', u = b :: u' ∧ pless a.p b.p = true) : diffF (a :: t) u = ⟨a, true⟩ :: diffF t u := by
  rcases h with rfl | ⟨b, u', rfl, h⟩
  · rw [diffF]
  · rw [diffF, if_pos h]
theorem diff_new {b : Rt} (h : t = [] ∨ ∃ a t', t = a :: t' ∧ pless a.p b.p = false ∧ a.p ≠ b.p) : diffF t (b :: u) = ⟨b, false⟩ :: diffF t u := by
  rcases h with rfl | ⟨a, t', rfl, h, h'⟩
  · rw [diffF]
  · rw [diffF, if_neg (by rw [h]; simp), if_neg h']
theorem diff_both {a b : Rt} (hm : pmay a.p = true) (h : a.p = b.p) : diffF (a :: t) (b :: u) = (if a.hop ≠ b.hop then [⟨b, false⟩] else []) ++ diffF t u := by
  rw [diffF, if_neg (by rw [h, less_irr (h ▸ hm)]; simp), if_pos h]
theorem diff_from : ∀ {t u : List Rt} {c : Ch}, c ∈ diffF t u → (c.gone = true ∧ c.r ∈ t) ∨ (c.gone = false ∧ c.r ∈ u) := by
  intro t u
  induction t, u using diffF.induct with
  | case1 => intro c hc; rw [diff_nil] at hc; cases hc
  | case2 a t ih =>
    intro c hc
    rw [diffF] at hc
    rcases List.mem_cons.1 hc with rfl | hc
    · exact .inl ⟨rfl, List.mem_cons_self⟩
    · rcases ih hc with ⟨h1, h2⟩ | ⟨h1, h2⟩
      · exact .inl ⟨h1, List.mem_cons_of_mem _ h2⟩
      · exact .inr ⟨h1, h2⟩
  | case3 b u ih =>
    intro c hc
    rw [diffF] at hc
    rcases List.mem_cons.1 hc with rfl | hc
    · exact .inr ⟨rfl, List.mem_cons_self⟩
    · rcases ih hc with ⟨h1, h2⟩ | ⟨h1, h2⟩
      · exact .inl ⟨h1, h2⟩
      · exact .inr ⟨h1, List.mem_cons_of_mem _ h2⟩
  | case4 a t b u h ih =>
    intro c hc
    rw [diffF, if_pos h] at hc
    rcases List.mem_cons.1 hc with rfl | hc
    · exact .inl ⟨rfl, List.mem_cons_self⟩
    · rcases ih hc with ⟨h1, h2⟩ | ⟨h1, h2⟩
      · exact .inl ⟨h1, List.mem_cons_of_mem _ h2⟩
      · exact .inr ⟨h1, h2⟩
  | case5 a t b u h h' ih =>
    intro c hc
    rw [diffF, if_neg h, if_pos h'] at hc
    rcases List.mem_append.1 hc with hc | hc
    · split at hc
      · obtain rfl : c = ⟨b, false⟩ := by simpa using hc
        exact .inr ⟨rfl, List.mem_cons_self⟩
      · cases hc
    · rcases ih hc with ⟨h1, h2⟩ | ⟨h1, h2⟩
      · exact .inl ⟨h1, List.mem_cons_of_mem _ h2⟩
      · exact .inr ⟨h1, List.mem_cons_of_mem _ h2⟩
  | case6 a t b u h h' ih =>
    intro c hc
    rw [diffF, if_neg h, if_neg h'] at hc
    rcases List.mem_cons.1 hc with rfl | hc
    · exact .inr ⟨rfl, List.mem_cons_self⟩
    · rcases ih hc with ⟨h1, h2⟩ | ⟨h1, h2⟩
      · exact .inl ⟨h1, h2⟩
      · exact .inr ⟨h1, List.mem_cons_of_mem _ h2⟩
theorem diff_len : ∀ {t u : List Rt}, (diffF t u).length ≤ t.length + u.length ∧ putsN (diffF t u) ≤ u.length := by
  intro t u
  induction t, u using diffF.induct with
  | case1 => rw [diff_nil]; exact ⟨Nat.le_refl _, Nat.le_refl _⟩
  | case2 a t ih => rw [diffF, puts_cons]; simp only [List.length_cons, if_true] at ih ⊢; omega
  | case3 b u ih => rw [diffF, puts_cons]; simp only [List.length_cons, Bool.false_eq_true, if_false] at ih ⊢; omega
  | case4 a t b u h ih => rw [diffF, if_pos h, puts_cons]; simp only [List.length_cons, if_true] at ih ⊢; omega
  | case5 a t b u h h' ih =>
    rw [diffF, if_neg h, if_pos h', puts_app, List.length_append]
    have : (if a.hop ≠ b.hop then [(⟨b, false⟩ : Ch)] else []).length ≤ 1 ∧ putsN (if a.hop ≠ b.hop then [(⟨b, false⟩ : Ch)] else []) ≤ 1 := by
      split
      · exact ⟨Nat.le_refl _, Nat.le_refl _⟩
      · exact ⟨Nat.zero_le _, Nat.zero_le _⟩
    simp only [List.length_cons] at ih ⊢
    omega
  | case6 a t b u h h' ih => rw [diffF, if_neg h, if_neg h', puts_cons]; simp only [List.length_cons, Bool.false_eq_true, if_false] at ih ⊢; omega
theorem ord_tail {a : Rt} (h : Ord (a :: t)) : Ord t ∧ ∀ x ∈ t, pless a.p x.p = true := ⟨h.sub (List.sublist_cons_self _ _), (List.pairwise_cons.1 h.less).1⟩
theorem diff_ord : ∀ {t u : List Rt}, Ord t → Ord u → OrdC (diffF t u) := by
  intro t u
  have cons : ∀ {c : Ch} {m : List Ch}, pmay c.r.p = true → OrdC m → (∀ d ∈ m, pless c.r.p d.r.p = true) → OrdC (c :: m) := fun hc hm hl =>
    ⟨fun x hx => by
      rcases List.mem_cons.1 hx with rfl | hx
      · exact hc
      · exact hm.may x hx, List.pairwise_cons.2 ⟨hl, hm.less⟩⟩
  induction t, u using diffF.induct with
  | case1 => intro _ _; rw [diff_nil]; exact ⟨fun _ h => (by cases h), List.Pairwise.nil⟩
  | case2 a t ih =>
    intro h1 h2
    obtain ⟨g1, g2⟩ := ord_tail h1
    rw [diffF]
    refine cons (h1.may a List.mem_cons_self) (ih g1 h2) fun d hd => ?_
    rcases diff_from hd with ⟨_, h⟩ | ⟨_, h⟩
    · exact g2 _ h
    · cases h
  | case3 b u ih =>
    intro h1 h2
    obtain ⟨g1, g2⟩ := ord_tail h2
    rw [diffF]
    refine cons (h2.may b List.mem_cons_self) (ih h1 g1) fun d hd => ?_
    rcases diff_from hd with ⟨_, h⟩ | ⟨_, h⟩
    · cases h
    · exact g2 _ h
  | case4 a t b u h ih =>
    intro h1 h2
    obtain ⟨g1, g2⟩ := ord_tail h1
    obtain ⟨_, k2⟩ := ord_tail h2
    have ma := h1.may a List.mem_cons_self
    have mb := h2.may b List.mem_cons_self
    rw [diffF, if_pos h]
    refine cons ma (ih g1 h2) fun d hd => ?_
    rcases diff_from hd with ⟨_, h3⟩ | ⟨_, h3⟩
    · exact g2 _ h3
    · rcases List.mem_cons.1 h3 with h4 | h4
      · rw [h4]; exact h
      · exact less_trans' ma mb (h2.may _ h3) h (k2 _ h4)
  | case5 a t b u h h' ih =>
    intro h1 h2
    obtain ⟨g1, g2⟩ := ord_tail h1
    obtain ⟨k1, k2⟩ := ord_tail h2
    rw [diffF, if_neg h, if_pos h']
    split
    · rw [List.singleton_append]
      refine cons (h2.may b List.mem_cons_self) (ih g1 k1) fun d hd => ?_
      rcases diff_from hd with ⟨_, h3⟩ | ⟨_, h3⟩
      · show pless b.p _ = true
        rw [← h']; exact g2 _ h3
      · exact k2 _ h3
    · rw [List.nil_append]; exact ih g1 k1
  | case6 a t b u h h' ih =>
    intro h1 h2
    obtain ⟨_, g2⟩ := ord_tail h1
    obtain ⟨k1, k2⟩ := ord_tail h2
    have ma := h1.may a List.mem_cons_self
    have mb := h2.may b List.mem_cons_self
    rw [diffF, if_neg h, if_neg h']
    have hba : pless b.p a.p = true := less_tri ma mb (by simpa using h) h'
    refine cons mb (ih h1 k1) fun d hd => ?_
    rcases diff_from hd with ⟨_, h3⟩ | ⟨_, h3⟩
    · rcases List.mem_cons.1 h3 with h4 | h4
      · rw [h4]; exact hba
      · exact less_trans' mb ma (h1.may _ h3) hba (g2 _ h4)
    · exact k2 _ h3
def dC : Option Rt → Option Rt → Option Ch
  | none, none => none
  | some x, none => some ⟨x, true⟩
  | none, some y => some ⟨y, false⟩
  | some x, some y => if x = y then none else some ⟨y, false⟩
theorem has_cons (a : Rt) (t : List Rt) : hasR (a :: t) p = if a.p = p then some a else hasR t p := by
  unfold hasR
  rw [List.find?_cons]
  by_cases h : a.p = p <;> simp [h]
theorem has_nil : hasR [] p = none := rfl
theorem has_lt {a : Pfx} (ha : pmay a = true) (h : ∀ x ∈ t, pless a x.p = true) : hasR t a = none := has_none.2 fun x hx e => by
  have := h x hx
  rw [e, less_irr ha] at this; cases this
theorem diff_has : ∀ {t u : List Rt}, Ord t → Ord u → ∀ p, lastC (diffF t u) p = dC (hasR t p) (hasR u p) := by
  intro t u
  induction t, u using diffF.induct with
  | case1 => intro _ _ p; rw [diff_nil]; rfl
  | case2 a t ih =>
    intro h1 h2 p
    obtain ⟨g1, g2⟩ := ord_tail h1
    rw [diffF, lastC_cons, ih g1 h2, has_cons, has_nil]
    by_cases hp : a.p = p
    · subst hp
      rw [if_pos rfl, if_pos rfl, has_lt (h1.may a List.mem_cons_self) g2]; rfl
    · rw [if_neg hp, if_neg hp, Option.or_none]
  | case3 b u ih =>
    intro h1 h2 p
    obtain ⟨g1, g2⟩ := ord_tail h2
    rw [diffF, lastC_cons, ih h1 g1, has_cons, has_nil]
    by_cases hp : b.p = p
    · subst hp
      rw [if_pos rfl, if_pos rfl, has_lt (h2.may b List.mem_cons_self) g2]; rfl
    · rw [if_neg hp, if_neg hp, Option.or_none]
  | case4 a t b u h ih =>
    intro h1 h2 p
    obtain ⟨g1, g2⟩ := ord_tail h1
    obtain ⟨_, k2⟩ := ord_tail h2
    have ma := h1.may a List.mem_cons_self
    have mb := h2.may b List.mem_cons_self
    rw [diffF, if_pos h, lastC_cons, ih g1 h2, has_cons a]
    by_cases hp : a.p = p
    · subst hp
      have hz : hasR (b :: u) a.p = none := has_lt ma fun x hx => by
        rcases List.mem_cons.1 hx with rfl | hx'
        · exact h
        · exact less_trans' ma mb (h2.may _ hx) h (k2 _ hx')
      rw [if_pos rfl, if_pos rfl, has_lt ma g2, hz]; rfl
    · rw [if_neg hp, if_neg hp, Option.or_none]
  | case5 a t b u h h' ih =>
    intro h1 h2 p
    obtain ⟨g1, g2⟩ := ord_tail h1
    obtain ⟨k1, k2⟩ := ord_tail h2
    have ma := h1.may a List.mem_cons_self
    have mb := h2.may b List.mem_cons_self
    rw [diffF, if_neg h, if_pos h', has_cons, has_cons]
    by_cases hp : b.p = p
    · subst hp
      rw [if_pos h', if_pos rfl]
      have e1 := ih g1 k1 b.p
      rw [has_lt mb k2, has_lt mb (by rw [← h']; exact g2)] at e1
      by_cases hh : a.hop = b.hop
      · rw [if_neg (by simpa using hh), List.nil_append, e1]
        have : a = b := by obtain ⟨ap, ah⟩ := a; obtain ⟨bp, bh⟩ := b; simp only at h' hh; rw [h', hh]
        simp [dC, this]
      · rw [if_pos hh, List.singleton_append, lastC_cons, e1]
        have : a ≠ b := fun e => hh (by rw [e])
        simp [dC, this]
    · have ha : ¬ a.p = p := by rw [h']; exact hp
      rw [if_neg ha, if_neg hp, ← ih g1 k1 p]
      by_cases hh : a.hop = b.hop
      · rw [if_neg (by simpa using hh), List.nil_append]
      · rw [if_pos hh, List.singleton_append, lastC_cons, if_neg hp, Option.or_none]
  | case6 a t b u h h' ih =>
    intro h1 h2 p
    obtain ⟨_, g2⟩ := ord_tail h1
    obtain ⟨k1, k2⟩ := ord_tail h2
    have ma := h1.may a List.mem_cons_self
    have mb := h2.may b List.mem_cons_self
    have hba : pless b.p a.p = true := less_tri ma mb (by simpa using h) h'
    rw [diffF, if_neg h, if_neg h', lastC_cons, ih h1 k1, has_cons b]
    by_cases hp : b.p = p
    · subst hp
      have hz : hasR (a :: t) b.p = none := has_lt mb fun x hx => by
        rcases List.mem_cons.1 hx with rfl | hx'
        · exact hba
        · exact less_trans' mb ma (h1.may _ hx) hba (g2 _ hx')
      rw [if_pos rfl, if_pos rfl, has_lt mb k2, hz]; rfl
    · rw [if_neg hp, if_neg hp, Option.or_none]
theorem diff_self (h : Ord t) : diffF t t = [] := by
  have ho := diff_ord h h
  refine List.eq_nil_iff_forall_not_mem.2 fun c hc => ?_
  have h1 := (last_dst ho.dst).2 ⟨hc, rfl⟩
  rw [diff_has h h] at h1
  cases hh : hasR t c.r.p with
  | none => rw [hh] at h1; cases h1
  | some x => rw [hh] at h1; simp [dC] at h1
theorem dC_aC {x y : Option Rt} : aC (dC x y) x = y := by
  cases x <;> cases y
  · rfl
  · rfl
  · rfl
  · simp only [dC]; split
    · rename_i h; rw [h]; rfl
    · rfl
theorem dC_none {x y : Option Rt} : dC x y = none ↔ x = y := by
  cases x <;> cases y <;> simp [dC]
theorem diff_zero (h1 : Ord t) (h2 : Ord u) : diffF t u = [] ↔ t = u := by
  constructor
  · intro h
    refine has_ext h1 h2 fun p => dC_none.1 ?_
    rw [← diff_has h1 h2, h]; rfl
  · rintro rfl; exact diff_self h1
theorem app_diff (h1 : tright t = true) (h2 : Ord u) {m : List Ch} (hd : Dst m) (hm : ∀ c, c ∈ m ↔ c ∈ diffF t u) (he : appE t m = 0) : appL t m = u := by
  refine has_ext (right_ord (apL_right h1 m)) h2 fun p => ?_
  rw [app_has h1 he, last_same hd (diff_ord (right_ord h1) h2).dst hm, diff_has (right_ord h1) h2, dC_aC]
theorem diff_fits (h1 : Ord t) (h2 : Ord u) {c : Ch} (hc : c ∈ diffF t u) : pmay c.r.p = true ∧ (c.gone = true → hasR t c.r.p ≠ none) := by
  refine ⟨(diff_ord h1 h2).may c hc, fun hg hn => ?_⟩
  rcases diff_from hc with ⟨_, h⟩ | ⟨h, _⟩
  · exact has_none.1 hn c.r h rfl
  · rw [hg] at h; cases h
end Go.Eng

/- How two changes compare; two elements swapped by two stores. No program in sight. -/
namespace Go.Eng
open Go.Kb
def ordV (p q : Pfx) : Int := if pless p q = true then -1 else if pless q p = true then 1 else 0
theorem ord_lt {p q : Pfx} : ordV p q < 0 ↔ pless p q = true := by
  unfold ordV
  split
  · rename_i h; simp [h]
  · rename_i h
    split <;> simp [h]
theorem ord_zero {p q : Pfx} (hp : pmay p = true) (hq : pmay q = true) : ordV p q = 0 ↔ p = q := by
  unfold ordV
  constructor
  · intro h
    split at h
    · omega
    · split at h
      · omega
      · rename_i h1 h2
        apply Classical.byContradiction; intro hn
        exact h2 (less_tri hp hq (by simpa using h1) hn)
  · rintro rfl
    rw [less_irr hp]; rfl
theorem ord_gt {p q : Pfx} (hp : pmay p = true) (hq : pmay q = true) : 0 < ordV p q ↔ pless q p = true := by
  unfold ordV
  split
  · rename_i h; rw [less_asym hp hq h]; simp
  · split
    · rename_i h; simp [h]
    · rename_i h; simp [h]
def cmpC (x y : Ch) : Int := ordV x.r.p y.r.p
theorem cmp_rk {xs : List Ch} {s t : Nat} {x y : Ch} (h : MayC xs) (hx : xs[s]? = some x) (hy : xs[t]? = some y) : cmpC x y < 0 ↔ rk rkC xs s < rk rkC xs t := by
  rw [cmpC, ord_lt, pless_rk (h x (List.mem_of_getElem? hx)) (h y (List.mem_of_getElem? hy)), decide_eq_true_eq, rk_at hx, rk_at hy]; rfl
theorem cmp_rkD {xs : List Ch} {s t : Nat} (h : MayC xs) (hs : s < xs.length) (ht : t < xs.length) : cmpC (xs.getD s zch) (xs.getD t zch) < 0 ↔ rk rkC xs s < rk rkC xs t :=
  cmp_rk h (get_getD hs) (get_getD ht)
theorem swp_set {α : Type} {xs : List α} {i j : Nat} {x y : α} (hx : xs[i]? = some x) (hy : xs[j]? = some y) : swp xs i j = (xs.set i y).set j x := by
  unfold swp; rw [hx, hy]
end Go.Eng

/- Two tables made of one, put together; changes one behind the other; what the laws of package delta ask. No program in sight. -/
namespace Go.Eng
open Go.Kb
variable {t u v ts us ys zs a b : List Rt} {p : Pfx} {l ls : List Ch} {i k : Nat}
def mayB (l : List Ch) : Bool := l.all fun c => pmay c.r.p
theorem mayB_iff : mayB l = true ↔ MayC l := by simp [mayB, MayC, List.all_eq_true]
theorem mayB_no {c : Ch} (hc : l[i]? = some c) (h : pmay c.r.p = false) : mayB l = false := by
  cases hm : mayB l with
  | false => rfl
  | true => rw [mayB_iff.1 hm c (List.mem_of_getElem? hc)] at h; cases h
theorem mayB_yes (h : ∀ c ∈ l.take l.length, pmay c.r.p = true) : mayB l = true := mayB_iff.2 fun c hc => h c (by rw [List.take_length]; exact hc)
/-! Where a prefix leads. -/
def hopO (t : List Rt) (p : Pfx) : Option UInt16 := (hasR t p).map (·.hop)
theorem hop_mem (h : Ord t) {x : Rt} : x ∈ t ↔ hopO t x.p = some x.hop := by
  unfold hopO
  constructor
  · intro hx; rw [(has_some h).2 ⟨hx, rfl⟩]; rfl
  · intro hx
    cases hh : hasR t x.p with
    | none => rw [hh] at hx; cases hx
    | some y =>
      rw [hh] at hx
      have h1 : y.hop = x.hop := by simpa using hx
      have h2 := has_p hh
      have : y = x := by obtain ⟨yp, yh⟩ := y; obtain ⟨xp, xh⟩ := x; simp only at h1 h2; rw [h1, h2]
      exact this ▸ has_in hh
theorem hop_none : hopO t p = none ↔ ∀ x ∈ t, x.p ≠ p := by rw [hopO, Option.map_eq_none_iff, has_none]
theorem hop_at {e : Rt} (he : ts[i]? = some e) (hp : e.p = p) (h : ∀ x ∈ ts.take i, x.p ≠ p) : hopO ts p = some e.hop := by
  have : hasR ts p = some e := by
    obtain ⟨hi, he'⟩ := List.getElem?_eq_some_iff.1 he
    have ht : ts = ts.take i ++ e :: ts.drop (i + 1) := by rw [← he', List.getElem_cons_drop, List.take_append_drop]
    rw [hasR, ht, List.find?_append, List.find?_eq_none.2 fun x hx => by simp [h x hx]]
    simp [hp]
  rw [hopO, this]; rfl
structure Ld where
  there : Bool
  hop : UInt16
  deriving DecidableEq
def ldcells (x : Ld) : Array Value := #[.bool x.there, .int .u16 x.hop.toNat]
def ldO : Option UInt16 → Ld
  | some h => ⟨true, h⟩
  | none => ⟨false, 0⟩
theorem ldO_inj {x y : Option UInt16} : ldO x = ldO y ↔ x = y := by
  cases x <;> cases y <;> simp [ldO]
def hasI (o : Option UInt16) : Int := match o with
  | some h => (h.toNat : Int)
  | none => -1
theorem hasI_inj {x y : Option UInt16} : hasI x = hasI y ↔ x = y := by
  cases x <;> cases y
  · simp [hasI]
  · simp only [hasI]; exact ⟨fun h => by omega, fun h => by cases h⟩
  · simp only [hasI]; exact ⟨fun h => by omega, fun h => by cases h⟩
  · simp only [hasI, Option.some.injEq]; exact ⟨fun h => UInt16.toNat_inj.1 (by omega), fun h => by rw [h]⟩
theorem hasI_ge {x : Option UInt16} : 0 ≤ hasI x ↔ x ≠ none := by cases x <;> simp [hasI]
/-! Two put together. -/
def useO (w x y : Option UInt16) : Option UInt16 := if x = w then y else x
def tornO (w x y : Option UInt16) : Bool := decide (x ≠ w ∧ y ≠ w ∧ x ≠ y)
def useP (t a b : List Rt) (p : Pfx) : Option UInt16 := useO (hopO t p) (hopO a p) (hopO b p)
def tornP (t a b : List Rt) (p : Pfx) : Bool := tornO (hopO t p) (hopO a p) (hopO b p)
def outF (t a b l : List Rt) : List Rt := l.filterMap fun r => (useP t a b r.p).map fun h => (⟨r.p, h⟩ : Rt)
def tornF (t a b l : List Rt) : List Pfx := (l.filter fun r => tornP t a b r.p).map (·.p)
theorem out_take {x : Rt} (hx : ys[i]? = some x) : outF t a b (ys.take (i + 1)) = outF t a b (ys.take i) ++ ((useP t a b x.p).map fun h => (⟨x.p, h⟩ : Rt)).toList := by
  unfold outF
  rw [List.take_add_one, hx, List.filterMap_append]
  cases h : useP t a b x.p <;> simp [h]
theorem torn_take {x : Rt} (hx : ys[i]? = some x) : tornF t a b (ys.take (i + 1)) = tornF t a b (ys.take i) ++ if tornP t a b x.p = true then [x.p] else [] := by
  unfold tornF
  rw [filter_take1 hx, List.map_append]
  split <;> simp
theorem out_len : (outF t a b ys).length ≤ ys.length := List.length_filterMap_le _ _
theorem torn_len : (tornF t a b ys).length ≤ ys.length := by unfold tornF; rw [List.length_map]; exact List.length_filter_le _ _
theorem out_mem {x : Rt} : x ∈ outF t a b ys ↔ (∃ r ∈ ys, r.p = x.p) ∧ useP t a b x.p = some x.hop := by
  unfold outF
  rw [List.mem_filterMap]
  constructor
  · rintro ⟨r, hr, h⟩
    obtain ⟨h2, h3, rfl⟩ := Option.map_eq_some_iff.1 h
    exact ⟨⟨r, hr, rfl⟩, h3⟩
  · rintro ⟨⟨r, hr, h1⟩, h2⟩
    exact ⟨r, hr, by rw [h1, h2]; rfl⟩
theorem out_ord (h : Ord ys) : Ord (outF t a b ys) := by
  refine ⟨fun x hx => ?_, ?_⟩
  · obtain ⟨⟨r, hr, h1⟩, _⟩ := out_mem.1 hx
    rw [← h1]; exact h.may r hr
  · unfold outF
    rw [List.pairwise_filterMap]
    refine h.less.imp fun {r q} hrq x hx y hy => ?_
    obtain ⟨_, _, rfl⟩ := Option.map_eq_some_iff.1 hx
    obtain ⟨_, _, rfl⟩ := Option.map_eq_some_iff.1 hy
    exact hrq
theorem torn_mem : p ∈ tornF t a b ys ↔ (∃ r ∈ ys, r.p = p) ∧ tornP t a b p = true := by
  unfold tornF
  rw [List.mem_map]
  constructor
  · rintro ⟨r, hr, rfl⟩
    obtain ⟨h1, h2⟩ := List.mem_filter.1 hr
    exact ⟨⟨r, h1, rfl⟩, h2⟩
  · rintro ⟨⟨r, hr, rfl⟩, h⟩
    exact ⟨r, List.mem_filter.2 ⟨hr, h⟩, rfl⟩
def Covs (a b l : List Rt) : Prop := ∀ x, x ∈ a ∨ x ∈ b → ∃ r ∈ l, r.p = x.p
theorem use_cov (hc : Covs a b ys) (h : useP t a b p ≠ none) : ∃ r ∈ ys, r.p = p := by
  have : hopO a p ≠ none ∨ hopO b p ≠ none := by
    unfold useP useO at h
    split at h
    · exact .inr h
    · exact .inl h
  rcases this with h1 | h1
  · obtain ⟨y, hy⟩ := Option.ne_none_iff_exists'.1 h1
    obtain ⟨x, hx, _⟩ := Option.map_eq_some_iff.1 hy
    obtain ⟨r, hr, he⟩ := hc x (.inl (has_in hx))
    exact ⟨r, hr, he.trans (has_p hx)⟩
  · obtain ⟨y, hy⟩ := Option.ne_none_iff_exists'.1 h1
    obtain ⟨x, hx, _⟩ := Option.map_eq_some_iff.1 hy
    obtain ⟨r, hr, he⟩ := hc x (.inr (has_in hx))
    exact ⟨r, hr, he.trans (has_p hx)⟩
theorem torn_cov (hc : Covs a b ys) (h : tornP t a b p = true) : ∃ r ∈ ys, r.p = p := by
  unfold tornP tornO at h
  rw [decide_eq_true_eq] at h
  have : hopO a p ≠ none ∨ hopO b p ≠ none := by
    apply Classical.byContradiction; intro hn
    have h1 : hopO a p = none := Classical.byContradiction fun h => hn (.inl h)
    have h2 : hopO b p = none := Classical.byContradiction fun h => hn (.inr h)
    exact h.2.2 (h1.trans h2.symm)
  rcases this with h1 | h1
  · obtain ⟨y, hy⟩ := Option.ne_none_iff_exists'.1 h1
    obtain ⟨x, hx, _⟩ := Option.map_eq_some_iff.1 hy
    obtain ⟨r, hr, he⟩ := hc x (.inl (has_in hx))
    exact ⟨r, hr, he.trans (has_p hx)⟩
  · obtain ⟨y, hy⟩ := Option.ne_none_iff_exists'.1 h1
    obtain ⟨x, hx, _⟩ := Option.map_eq_some_iff.1 hy
    obtain ⟨r, hr, he⟩ := hc x (.inr (has_in hx))
    exact ⟨r, hr, he.trans (has_p hx)⟩
theorem out_memC (hc : Covs a b ys) {x : Rt} : x ∈ outF t a b ys ↔ useP t a b x.p = some x.hop := by
  rw [out_mem]
  exact ⟨fun h => h.2, fun h => ⟨use_cov hc (by rw [h]; simp), h⟩⟩
theorem torn_memC (hc : Covs a b ys) : p ∈ tornF t a b ys ↔ tornP t a b p = true := by
  rw [torn_mem]
  exact ⟨fun h => h.2, fun h => ⟨torn_cov hc h, h⟩⟩
theorem hop_out (ho : Ord ys) (hc : Covs a b ys) (hp : ∀ h, useP t a b p = some h → True) : hopO (outF t a b ys) p = useP t a b p := by
  cases hu : useP t a b p with
  | some h =>
    have := (hop_mem (out_ord (t := t) (a := a) (b := b) ho) (x := ⟨p, h⟩)).1 ((out_memC hc).2 hu)
    exact this
  | none =>
    rw [hop_none]
    intro x hx e
    have := (out_memC hc).1 hx
    rw [e, hu] at this; cases this
theorem pfx_ext {x y : List Pfx} (hx : Ord (x.map fun p => (⟨p, 0⟩ : Rt))) (hy : Ord (y.map fun p => (⟨p, 0⟩ : Rt))) (h : ∀ p, p ∈ x ↔ p ∈ y) : x = y := by
  have : x.map (fun p => (⟨p, 0⟩ : Rt)) = y.map fun p => (⟨p, 0⟩ : Rt) := Go.Kb.Ord.ext hx hy fun r => by
    simp only [List.mem_map]
    exact ⟨fun ⟨p, h1, h2⟩ => ⟨p, (h p).1 h1, h2⟩, fun ⟨p, h1, h2⟩ => ⟨p, (h p).2 h1, h2⟩⟩
  have h2 := congrArg (List.map Rt.p) this
  simpa [List.map_map, Function.comp_def] using h2
theorem torn_ord (h : Ord ys) : Ord ((tornF t a b ys).map fun p => (⟨p, 0⟩ : Rt)) := by
  refine ⟨fun x hx => ?_, ?_⟩
  · obtain ⟨p, hp, rfl⟩ := List.mem_map.1 hx
    obtain ⟨⟨r, hr, rfl⟩, _⟩ := torn_mem.1 hp
    exact h.may r hr
  · unfold tornF
    rw [List.map_map, List.pairwise_map]
    exact (h.less.sublist List.filter_sublist)
theorem sort_pfx (l : List Rt) (hm : MayAll l) {x : Rt} (hx : x ∈ l) : ∃ r ∈ tsortF l, r.p = x.p := by
  have hk : keepF l = l := by rw [keepF, List.filter_eq_self]; exact fun y hy => hm y hy
  cases hl : lastP l x.p with
  | some y =>
    have h2 := (lastP_mem hl).2
    exact ⟨y, ((tsort_ok l).2 y).2 (by rw [hk, h2]; exact hl), h2⟩
  | none =>
    have : (l.filter fun r => decide (r.p = x.p)) = [] := List.getLast?_eq_none_iff.1 hl
    have := List.filter_eq_nil_iff.1 this x hx
    simp at this
theorem may_of (h : Ord t) : MayAll t := h.may
theorem cov_three (h1 : Ord t) (h2 : Ord a) (h3 : Ord b) : Covs a b (tsortF (t ++ a ++ b)) := fun x hx => sort_pfx _ (fun y hy => by
  rcases List.mem_append.1 hy with hy | hy
  · rcases List.mem_append.1 hy with hy | hy
    · exact h1.may y hy
    · exact h2.may y hy
  · exact h3.may y hy) (by rcases hx with h | h <;> simp [h])
theorem cov_two (h2 : Ord a) (h3 : Ord b) : Covs a b (rsortF (a ++ b)) := fun x hx => by
  rw [← sort_same]
  exact sort_pfx _ (fun y hy => by
    rcases List.mem_append.1 hy with hy | hy
    · exact h2.may y hy
    · exact h3.may y hy) (by rcases hx with h | h <;> simp [h])
theorem both_same (h1 : Ord t) (h2 : Ord a) (h3 : Ord b) : outF t a b (tsortF (t ++ a ++ b)) = outF t a b (rsortF (a ++ b)) ∧ tornF t a b (tsortF (t ++ a ++ b)) = tornF t a b (rsortF (a ++ b)) := by
  have o1 := (tsort_ok (t ++ a ++ b)).1
  have o2 := (rsort_ok (a ++ b)).1
  exact ⟨Go.Kb.Ord.ext (out_ord o1) (out_ord o2) fun x => (out_memC (cov_three h1 h2 h3)).trans (out_memC (cov_two h2 h3)).symm,
    pfx_ext (torn_ord o1) (torn_ord o2) fun p => (torn_memC (cov_three h1 h2 h3)).trans (torn_memC (cov_two h2 h3)).symm⟩
/-! What both functions hand back. -/
def bothO (t a b : List Rt) : List Rt := outF t a b (tsortF (t ++ a ++ b))
def bothT (t a b : List Rt) : List Pfx := tornF t a b (tsortF (t ++ a ++ b))
def bothOk (t a b : List Rt) : Bool := tright t && tright a && tright b
def bothE (t a b : List Rt) : Int := if bothOk t a b = true then (if 256 < (bothO t a b).length then 5 else 0) else 1
def bothL (t a b : List Rt) : List Rt := if bothE t a b = 0 then bothO t a b else []
def bothK (t a b : List Rt) : List Pfx := if bothE t a b = 0 then bothT t a b else []
theorem rsort_len (l : List Rt) : (rsortF l).length ≤ l.length := by rw [← sort_same]; exact tsort_len l
theorem both_len (h1 : Ord t) (h2 : Ord a) (h3 : Ord b) : (bothO t a b).length ≤ a.length + b.length := by
  rw [bothO, (both_same h1 h2 h3).1]
  have h4 := out_len (t := t) (a := a) (b := b) (ys := rsortF (a ++ b))
  have h5 := rsort_len (a ++ b)
  rw [List.length_append] at h5
  omega
theorem both_ok (h1 : tright t = true) (h2 : tright a = true) (h3 : tright b = true) (hl : a.length + b.length ≤ 256) : bothE t a b = 0 ∧ bothL t a b = bothO t a b ∧ bothK t a b = bothT t a b := by
  have := both_len (right_ord h1) (right_ord h2) (right_ord h3)
  have e : bothE t a b = 0 := by rw [bothE, if_pos (by rw [bothOk, h1, h2, h3]; rfl), if_neg (by omega)]
  exact ⟨e, by rw [bothL, if_pos e], by rw [bothK, if_pos e]⟩
theorem both_mem (h1 : tright t = true) (h2 : tright a = true) (h3 : tright b = true) {x : Rt} : x ∈ bothO t a b ↔ useP t a b x.p = some x.hop := out_memC (cov_three (right_ord h1) (right_ord h2) (right_ord h3))
theorem both_ord : Ord (bothO t a b) := out_ord (tsort_ok _).1
theorem both_left (h1 : tright t = true) (h2 : tright a = true) : bothO t a t = a ∧ bothT t a t = [] := by
  have o2 := right_ord h2
  refine ⟨Go.Kb.Ord.ext both_ord o2 fun x => ?_, List.eq_nil_iff_forall_not_mem.2 fun p hp => ?_⟩
  · rw [both_mem h1 h2 h1, hop_mem o2, useP, useO]
    split
    · rename_i h; rw [h]
    · exact Iff.rfl
  · have := (torn_mem.1 hp).2
    simp [tornP, tornO] at this
theorem both_right (h1 : tright t = true) (h2 : tright a = true) : bothO t t a = a ∧ bothT t t a = [] := by
  have o2 := right_ord h2
  refine ⟨Go.Kb.Ord.ext both_ord o2 fun x => ?_, List.eq_nil_iff_forall_not_mem.2 fun p hp => ?_⟩
  · rw [both_mem h1 h1 h2, hop_mem o2, useP, useO, if_pos rfl]
  · have := (torn_mem.1 hp).2
    simp [tornP, tornO] at this
theorem both_one (h1 : tright t = true) (h2 : tright a = true) : bothO t a a = a ∧ bothT t a a = [] := by
  have o2 := right_ord h2
  refine ⟨Go.Kb.Ord.ext both_ord o2 fun x => ?_, List.eq_nil_iff_forall_not_mem.2 fun p hp => ?_⟩
  · rw [both_mem h1 h2 h2, hop_mem o2, useP, useO]
    split <;> exact Iff.rfl
  · have := (torn_mem.1 hp).2
    simp [tornP, tornO] at this
theorem both_torn (h1 : tright t = true) (h2 : tright a = true) (h3 : tright b = true) (hp : p ∈ bothT t a b) : hopO t p ≠ hopO a p ∧ hopO t p ≠ hopO b p ∧ hopO a p ≠ hopO b p ∧ hopO (bothO t a b) p = hopO a p := by
  have h := (torn_mem.1 hp).2
  unfold tornP tornO at h
  rw [decide_eq_true_eq] at h
  refine ⟨fun e => h.1 e.symm, fun e => h.2.1 e.symm, h.2.2, ?_⟩
  rw [bothO, hop_out (tsort_ok _).1 (cov_three (right_ord h1) (right_ord h2) (right_ord h3)) (fun _ _ => trivial), useP, useO, if_neg h.1]
/-! What is behind changes. -/
def bhE (t : List Rt) (l : List Ch) : Int := if (tright t && mayB l) = true then appE t l else 1
def needL (t : List Rt) (l : List Ch) : List Ch := if bhE t l = 0 then diffF t (appL t l) else []
def undoL (t : List Rt) (l : List Ch) : List Ch := if bhE t l = 0 then diffF (appL t l) t else []
def difE (t u : List Rt) : Int := if (tright t && tright u) = true then 0 else 1
def difL (t u : List Rt) : List Ch := if difE t u = 0 then diffF t u else []
def fldE (l : List Ch) : Int := if mayB l = true then 0 else 1
def fldL (l : List Ch) : List Ch := if fldE l = 0 then foldF l else []
theorem len_sub {α : Type} [DecidableEq α] : ∀ {a b : List α}, a.Nodup → (∀ x ∈ a, x ∈ b) → a.length ≤ b.length
  | [], _, _, _ => Nat.zero_le _
  | x :: a, b, h, hs => by
    obtain ⟨h1, h2⟩ := List.nodup_cons.1 h
    have hx := hs x List.mem_cons_self
    have := len_sub (b := b.erase x) h2 fun y hy => (List.mem_erase_of_ne (fun e => h1 (by rw [← e]; exact hy))).2 (hs y (List.mem_cons_of_mem _ hy))
    rw [List.length_erase_of_mem hx] at this
    have := List.length_pos_of_mem hx
    simp only [List.length_cons]; omega
/-! Makes. -/
def firstF (l : List Ch) : List Ch := l.filter fun c => c.gone
def thenF (l : List Ch) : List Ch := l.filter fun c => !c.gone
theorem Dst.perm {m : List Ch} (h : Dst l) (hp : m.Perm l) : Dst m := (hp.pairwise_iff fun h => fun e => h e.symm).2 h
theorem parts_perm (l : List Ch) : (firstF l ++ thenF l).Perm l := List.filter_append_perm _ _
theorem putsN_perm {m : List Ch} (h : m.Perm l) : putsN m = putsN l := h.countP_eq _
theorem makes (h1 : tright t = true) (h2 : tright u = true) (hl : t.length ≤ 100) (hu : u.length ≤ 100) : appE t (firstF (diffF t u) ++ thenF (diffF t u)) = 0 ∧ appL t (firstF (diffF t u) ++ thenF (diffF t u)) = u := by
  have o1 := right_ord h1
  have o2 := right_ord h2
  have hp := parts_perm (diffF t u)
  have hd := (diff_ord o1 o2).dst.perm hp
  have hn := putsN_perm hp
  have hn2 := (diff_len (t := t) (u := u)).2
  have he := app_okE h1 hd (fun c hc => diff_fits o1 o2 (hp.mem_iff.1 hc)) (by omega)
  exact ⟨he, app_diff h1 o2 hd (fun c => hp.mem_iff) he⟩
theorem less_one2 (h1 : tright t = true) (h2 : tright u = true) (hl : t.length ≤ 100) (hu : u.length ≤ 100) (hk : k < (diffF t u).length) : appE t ((diffF t u).take k ++ (diffF t u).drop (k + 1)) = 0 ∧ appL t ((diffF t u).take k ++ (diffF t u).drop (k + 1)) ≠ u := by
  have o1 := right_ord h1
  have o2 := right_ord h2
  have hd := (diff_ord o1 o2).dst
  generalize hm : diffF t u = m at *
  have hs : (m.take k ++ m.drop (k + 1)).Sublist m := by
    have h3 : m = m.take k ++ m.drop k := (List.take_append_drop k m).symm
    conv => rhs; rw [h3]
    rw [← List.drop_drop (i := 1) (j := k)]
    exact List.Sublist.append_left (List.drop_sublist _ _) _
  have hn2 := (diff_len (t := t) (u := u)).2
  have hn3 : putsN (m.take k ++ m.drop (k + 1)) ≤ putsN m := hs.countP_le
  have he := app_okE h1 (hd.sublist hs) (fun c hc => diff_fits o1 o2 (by rw [hm]; exact hs.subset hc)) (by rw [hm] at hn2; omega)
  refine ⟨he, fun e => ?_⟩
  obtain ⟨c, hc⟩ := get_some hk
  have h3 : lastC m c.r.p = some c := (last_dst hd).2 ⟨List.mem_of_getElem? hc, rfl⟩
  have h4 : lastC (m.take k ++ m.drop (k + 1)) c.r.p = none := by
    rw [last_none]
    intro d hdm e2
    have hdc := hd.uniq (hs.subset hdm) (List.mem_of_getElem? hc) e2
    subst hdc
    have hp := List.pairwise_iff_getElem.1 hd
    obtain ⟨hk2, hc2⟩ := List.getElem?_eq_some_iff.1 hc
    rcases List.mem_append.1 hdm with h | h
    · obtain ⟨j, hj, hv⟩ := List.mem_take_iff_getElem.1 h
      have := hp j k (by omega) hk2 (by omega)
      rw [hv, hc2] at this; exact this rfl
    · obtain ⟨j, hj⟩ := List.mem_iff_getElem?.1 h
      rw [List.getElem?_drop] at hj
      obtain ⟨hj2, hv⟩ := List.getElem?_eq_some_iff.1 hj
      have := hp k (k + 1 + j) hk2 hj2 (by omega)
      rw [hv, hc2] at this; exact this rfl
  have h5 := app_has h1 he c.r.p
  rw [e, h4] at h5
  rw [← hm, diff_has o1 o2, h5] at h3
  simp only [aC] at h3
  rw [dC_none.2 rfl] at h3; cases h3
/-! Chains. -/
theorem lastC_append (l m : List Ch) (p : Pfx) : lastC (l ++ m) p = (lastC m p).or (lastC l p) := by
  unfold lastC
  rw [List.filter_append, List.getLast?_append]
def chnF (t u v : List Rt) : List Ch := foldF (diffF t u ++ diffF u v)
theorem chain_may (h1 : Ord t) (h2 : Ord u) (h3 : Ord v) : MayC (diffF t u ++ diffF u v) := fun c hc => by
  rcases List.mem_append.1 hc with h | h
  · exact (diff_ord h1 h2).may c h
  · exact (diff_ord h2 h3).may c h
theorem chain_last (h1 : Ord t) (h2 : Ord u) (h3 : Ord v) (p : Pfx) : lastC (chnF t u v) p = (dC (hasR u p) (hasR v p)).or (dC (hasR t p) (hasR u p)) := by
  have hm := chain_may h1 h2 h3
  obtain ⟨k1, k2⟩ := fold_ok (diffF t u ++ diffF u v)
  rw [keepC_all hm] at k2
  rw [← diff_has h1 h2, ← diff_has h2 h3, ← lastC_append]
  cases h : lastC (diffF t u ++ diffF u v) p with
  | some c =>
    have hp := (lastC_mem h).2
    exact (last_dst k1.dst).2 ⟨(k2 c).2 (by rw [hp]; exact h), hp⟩
  | none =>
    rw [last_none]
    intro c hc e
    have := (k2 c).1 hc
    rw [e, h] at this; cases this
theorem chain_ord (t u v : List Rt) : OrdC (chnF t u v) := (fold_ok _).1
theorem chain_len (t u v : List Rt) : (chnF t u v).length ≤ (diffF t u).length + (diffF u v).length := by
  have := fold_len (diffF t u ++ diffF u v)
  rwa [List.length_append] at this
theorem dst_nodup (h : Dst l) : (l.map fun c => c.r.p).Nodup := by
  unfold List.Nodup
  rw [List.pairwise_map]; exact h
theorem chain_more (h1 : Ord t) (h2 : Ord u) (h3 : Ord v) : (diffF t v).length ≤ (chnF t u v).length := by
  have := len_sub (dst_nodup (diff_ord h1 h3).dst) (b := (chnF t u v).map fun c => c.r.p) fun p hp => by
    obtain ⟨c, hc, rfl⟩ := List.mem_map.1 hp
    have h4 := (last_dst (diff_ord h1 h3).dst).2 ⟨hc, rfl⟩
    rw [diff_has h1 h3] at h4
    have h5 : lastC (chnF t u v) c.r.p ≠ none := by
      rw [chain_last h1 h2 h3]
      intro hn
      rw [Option.or_eq_none_iff, dC_none, dC_none] at hn
      rw [hn.2, hn.1, dC_none.2 rfl] at h4; cases h4
    obtain ⟨d, hd⟩ := Option.ne_none_iff_exists'.1 h5
    exact List.mem_map.2 ⟨d, (lastC_mem hd).1, (lastC_mem hd).2⟩
  simpa using this
structure Chn (t u v : List Rt) (i : Nat) (w : List Rt) : Prop where
  right : tright w = true
  has : ∀ p, hasR w p = aC (lastC ((chnF t u v).take i) p) (hasR t p)
theorem Chn.start (h : tright t = true) : Chn t u v 0 t := ⟨h, fun p => rfl⟩
theorem Chn.len {w : List Rt} (h1 : Ord t) (h2 : Ord u) (h3 : Ord v) (h : Chn t u v i w) : w.length ≤ t.length + u.length + v.length := by
  have := len_sub (right_ord h.right).nodup (b := t ++ u ++ v) fun x hx => by
    have h4 := (has_some (right_ord h.right)).2 ⟨hx, rfl⟩
    rw [h.has] at h4
    cases hl : lastC ((chnF t u v).take i) x.p with
    | none => rw [hl] at h4; simp [has_in h4]
    | some c =>
      rw [hl] at h4
      simp only [aC] at h4
      split at h4
      · cases h4
      · rename_i hg
        rw [← Option.some.inj h4]
        have hc := List.mem_of_mem_take (lastC_mem hl).1
        have h5 := ((fold_ok (diffF t u ++ diffF u v)).2 c).1 hc
        rw [keepC_all (chain_may h1 h2 h3)] at h5
        rcases List.mem_append.1 (lastC_mem h5).1 with h6 | h6
        · rcases diff_from h6 with ⟨h7, _⟩ | ⟨_, h7⟩
          · exact absurd h7 hg
          · simp [h7]
        · rcases diff_from h6 with ⟨h7, _⟩ | ⟨_, h7⟩
          · exact absurd h7 hg
          · simp [h7]
  simp only [List.length_append] at this
  omega
theorem chain_take {c : Ch} (hc : (chnF t u v)[i]? = some c) (p : Pfx) : lastC ((chnF t u v).take (i + 1)) p = if c.r.p = p then some c else lastC ((chnF t u v).take i) p := by
  rw [List.take_add_one, hc]; exact lastC_app _ _ _
theorem chain_new {c : Ch} (hc : (chnF t u v)[i]? = some c) : lastC ((chnF t u v).take i) c.r.p = none := by
  rw [last_none]
  intro d hd e
  obtain ⟨j, hj, hv⟩ := List.mem_take_iff_getElem.1 hd
  obtain ⟨hi, hcv⟩ := List.getElem?_eq_some_iff.1 hc
  have := (List.pairwise_iff_getElem.1 (chain_ord t u v).dst) j i (by omega) hi (by omega)
  rw [hv, hcv] at this; exact this e
theorem Chn.skip {w : List Rt} {c : Ch} (h : Chn t u v i w) (hc : (chnF t u v)[i]? = some c) (hg : c.gone = true) (hn : hasR t c.r.p = none) : Chn t u v (i + 1) w := by
  refine ⟨h.right, fun p => ?_⟩
  rw [chain_take hc, h.has]
  by_cases hp : c.r.p = p
  · subst hp
    rw [if_pos rfl, chain_new hc]; simp [aC, hg, hn]
  · rw [if_neg hp]
theorem Chn.step {w : List Rt} {c : Ch} (h1 : Ord t) (h2 : Ord u) (h3 : Ord v) (hl : t.length + u.length + v.length < 256) (h : Chn t u v i w) (hc : (chnF t u v)[i]? = some c) (hg : c.gone = true → hasR t c.r.p ≠ none) : appE w [c] = 0 ∧ Chn t u v (i + 1) (appL w [c]) := by
  have hw : hasR w c.r.p = hasR t c.r.p := by rw [h.has, chain_new hc]; rfl
  have hlen := h.len h1 h2 h3
  have he := chg_ok h.right ((chain_ord t u v).may c (List.mem_of_getElem? hc)) (fun g => by rw [hw]; exact hg g) (fun _ => by omega)
  obtain ⟨e1, e2⟩ := app1 h.right he
  refine ⟨e1, by rw [e2]; exact chg_right h.right c, fun p => ?_⟩
  rw [e2, chg_has h.right he, chain_take hc]
  by_cases hp : c.r.p = p
  · rw [if_pos hp, if_pos hp]; rfl
  · rw [if_neg hp, if_neg hp, h.has]
theorem Chn.done {w : List Rt} (h1 : Ord t) (h2 : Ord u) (h3 : Ord v) (h : Chn t u v (chnF t u v).length w) : w = v := by
  refine has_ext (right_ord h.right) h3 fun p => ?_
  rw [h.has, List.take_length, chain_last h1 h2 h3]
  cases hd : dC (hasR u p) (hasR v p) with
  | some c =>
    have := dC_aC (x := hasR u p) (y := hasR v p)
    rw [hd] at this
    exact this
  | none =>
    rw [Option.none_or, dC_aC, dC_none.1 hd]
end Go.Eng

/- The steps of the two walks that tell changes; lists put one behind the other. No program in sight. -/
namespace Go.Eng
open Go.Kb Go.RowKit
variable {t u v ts us y : List Rt} {p : Pfx} {l ls : List Ch} {i k : Nat} {h : Int}
def Nxt (y v : List Rt) (h : Int) : Prop := (h < 0 ∧ ∃ a, y[0]? = some a ∧ ∀ b, v[0]? = some b → pless a.p b.p = true) ∨ (0 < h ∧ ∃ b, v[0]? = some b ∧ ∀ a, y[0]? = some a → pless a.p b.p = false ∧ a.p ≠ b.p) ∨ (h = 0 ∧ ∃ a b, y[0]? = some a ∧ v[0]? = some b ∧ pless a.p b.p = false ∧ a.p = b.p)
theorem nxt_gone (hv : v.length = 0) (hy : 0 < y.length) : Nxt y v (-1) := by
  obtain ⟨a, ha⟩ := get_some hy
  refine .inl ⟨by decide, a, ha, fun b hb => ?_⟩
  have := (List.getElem?_eq_some_iff.1 hb).1; omega
theorem nxt_new (hv : 0 < v.length) (hy : y.length = 0) : Nxt y v 1 := by
  obtain ⟨b, hb⟩ := get_some hv
  refine .inr (.inl ⟨by decide, b, hb, fun a ha => ?_⟩)
  have := (List.getElem?_eq_some_iff.1 ha).1; omega
theorem nxt_ord {a b : Rt} (hy : MayAll y) (hv : MayAll v) (ha : y[0]? = some a) (hb : v[0]? = some b) : Nxt y v (ordV a.p b.p) := by
  have ma := hy a (List.mem_of_getElem? ha)
  have mb := hv b (List.mem_of_getElem? hb)
  rcases Int.lt_trichotomy (ordV a.p b.p) 0 with h | h | h
  · exact .inl ⟨h, a, ha, fun c hc => by rw [hb] at hc; rw [← Option.some.inj hc]; exact ord_lt.1 h⟩
  · have e := (ord_zero ma mb).1 h
    exact .inr (.inr ⟨h, a, b, ha, hb, by rw [e]; exact less_irr mb, e⟩)
  · have e := (ord_gt ma mb).1 h
    exact .inr (.inl ⟨h, b, hb, fun c hc => by
      rw [ha] at hc; rw [← Option.some.inj hc]
      exact ⟨less_asym mb ma e, fun e2 => by rw [e2, less_irr mb] at e; cases e⟩⟩)
theorem Nxt.lens (h1 : Nxt y v h) : (0 < h ∨ 0 < y.length) ∧ (h < 0 ∨ 0 < v.length) := by
  rcases h1 with ⟨h1, a, ha, _⟩ | ⟨h1, b, hb, _⟩ | ⟨h1, a, b, ha, hb, _⟩
  · exact ⟨.inr (List.getElem?_eq_some_iff.1 ha).1, .inl h1⟩
  · exact ⟨.inl h1, .inr (List.getElem?_eq_some_iff.1 hb).1⟩
  · exact ⟨.inr (List.getElem?_eq_some_iff.1 ha).1, .inr (List.getElem?_eq_some_iff.1 hb).1⟩
theorem cons_at {α : Type} {l : List α} {a : α} (h : l[0]? = some a) : l = a :: l.drop 1 := by
  cases l with
  | nil => cases h
  | cons b l => simp at h; rw [h]; rfl
theorem Nxt.gone {a : Rt} (h1 : Nxt y v h) (hn : h < 0) (ha : y[0]? = some a) : diffF y v = [⟨a, true⟩] ++ diffF (if h ≤ 0 then y.drop 1 else y) (if 0 ≤ h then v.drop 1 else v) := by
  rw [if_pos (by omega), if_neg (by omega)]
  rcases h1 with ⟨_, a', ha', hb⟩ | ⟨h2, _⟩ | ⟨h2, _⟩
  · rw [ha] at ha'
    obtain rfl := Option.some.inj ha'
    conv => lhs; rw [cons_at ha]
    rw [List.singleton_append]
    refine diff_gone ?_
    cases v with
    | nil => exact .inl rfl
    | cons b v => exact .inr ⟨b, v, rfl, hb b rfl⟩
  · omega
  · omega
theorem Nxt.new {b : Rt} (h1 : Nxt y v h) (hn : ¬ h < 0) (hb : v[0]? = some b) (hc : 0 < h ∨ (y.getD 0 zroute).hop ≠ (v.getD 0 zroute).hop) : diffF y v = [⟨b, false⟩] ++ diffF (if h ≤ 0 then y.drop 1 else y) (if 0 ≤ h then v.drop 1 else v) := by
  have hb0 : v.getD 0 zroute = b := by simp [List.getD, hb]
  rcases h1 with ⟨h2, _⟩ | ⟨h2, b', hb', ha⟩ | ⟨h2, a, b', ha, hb', h3, h4⟩
  · omega
  · rw [if_neg (by omega), if_pos (by omega)]
    rw [hb] at hb'
    obtain rfl := Option.some.inj hb'
    conv => lhs; rw [cons_at hb]
    rw [List.singleton_append]
    refine diff_new ?_
    cases y with
    | nil => exact .inl rfl
    | cons a y => exact .inr ⟨a, y, rfl, ha a rfl⟩
  · rw [if_pos (by omega), if_pos (by omega)]
    rw [hb] at hb'
    obtain rfl := Option.some.inj hb'
    have ha0 : y.getD 0 zroute = a := by simp [List.getD, ha]
    rw [ha0, hb0] at hc
    conv => lhs; rw [cons_at ha, cons_at hb]
    rw [diffF, if_neg (by rw [h3]; simp), if_pos h4, if_pos (hc.resolve_left (by omega))]
theorem Nxt.none (h1 : Nxt y v h) (hn : ¬ h < 0) (hc : ¬ 0 < h ∧ (y.getD 0 zroute).hop = (v.getD 0 zroute).hop) : diffF y v = diffF (if h ≤ 0 then y.drop 1 else y) (if 0 ≤ h then v.drop 1 else v) := by
  rcases h1 with ⟨h2, _⟩ | ⟨h2, _⟩ | ⟨h2, a, b, ha, hb, h3, h4⟩
  · omega
  · omega
  · rw [if_pos (by omega), if_pos (by omega)]
    have ha0 : y.getD 0 zroute = a := by simp [List.getD, ha]
    have hb0 : v.getD 0 zroute = b := by simp [List.getD, hb]
    rw [ha0, hb0] at hc
    conv => lhs; rw [cons_at ha, cons_at hb]
    rw [diffF, if_neg (by rw [h3]; simp), if_pos h4, if_neg (by rw [hc.2]; simp)]; rfl
theorem sub1 {H : Nat → Option Obj} {x : Sv} (hx : Lies rcells 19 H x y) (hl : 0 < y.length) : Lies rcells 19 H (x.sub 19 1 y.length) (y.drop 1) := by
  have := hx.sub (lo := 1) (hi := y.length) hl (Nat.le_refl _)
  rwa [List.take_of_length_le (by rw [List.length_drop]; omega)] at this
theorem may_drop (h : MayAll y) : MayAll (y.drop 1) := fun x hx => h x (List.mem_of_mem_drop hx)
/-! The reference's steps. -/
theorem drop_at0 {α : Type} {d : α} {l : List α} (h : i < l.length) : l.drop i = l.getD i d :: l.drop (i + 1) := by
  rw [dropAt (get_getD (d := d) h)]
theorem ref_gone (hi : i < ts.length) (hk : k ≤ us.length) (h : k = us.length ∨ pless (ts.getD i zroute).p (us.getD k zroute).p = true) : diffF (ts.drop i) (us.drop k) = ⟨ts.getD i zroute, true⟩ :: diffF (ts.drop (i + 1)) (us.drop k) := by
  conv => lhs; rw [drop_at0 (d := zroute) hi]
  refine diff_gone ?_
  rcases Nat.eq_or_lt_of_le hk with rfl | h1
  · exact .inl (List.drop_length)
  · refine .inr ⟨_, _, drop_at0 (d := zroute) h1, ?_⟩
    rcases h with h | h
    · omega
    · exact h
theorem ref_both (hi : i < ts.length) (hk : k < us.length) (h : pless (ts.getD i zroute).p (us.getD k zroute).p = false) (he : (ts.getD i zroute).p = (us.getD k zroute).p) : diffF (ts.drop i) (us.drop k) = (if (ts.getD i zroute).hop ≠ (us.getD k zroute).hop then [⟨us.getD k zroute, false⟩] else []) ++ diffF (ts.drop (i + 1)) (us.drop (k + 1)) := by
  conv => lhs; rw [drop_at0 (d := zroute) hi, drop_at0 (d := zroute) hk]
  rw [diffF, if_neg (by rw [h]; simp), if_pos he]
theorem ref_new (hi : i ≤ ts.length) (hk : k < us.length) (h : i < ts.length → pless (ts.getD i zroute).p (us.getD k zroute).p = false ∧ (ts.getD i zroute).p ≠ (us.getD k zroute).p) : diffF (ts.drop i) (us.drop k) = ⟨us.getD k zroute, false⟩ :: diffF (ts.drop i) (us.drop (k + 1)) := by
  conv => lhs; rw [drop_at0 (d := zroute) hk]
  refine diff_new ?_
  rcases Nat.eq_or_lt_of_le hi with rfl | h1
  · exact .inl (List.drop_length)
  · exact .inr ⟨_, _, drop_at0 (d := zroute) h1, h h1⟩
/-! Lists, one behind the other. -/
def catR (l : List (Sl Rt)) : List Rt := (l.map fun a => a.xs).flatten
theorem catR_snoc {l : List (Sl Rt)} {a : Sl Rt} (h : l[i]? = some a) : catR (l.take (i + 1)) = catR (l.take i) ++ a.xs := by
  unfold catR
  rw [List.take_add_one, h, List.map_append, List.flatten_append]
  simp
theorem catR_le (l : List (Sl Rt)) (i : Nat) : (catR (l.take i)).length ≤ (catR l).length := by
  unfold catR
  conv => rhs; rw [← List.take_append_drop i l]
  rw [List.map_append, List.flatten_append, List.length_append]; omega
theorem place_hop (h : tright ts = true) (hm : pmay p = true) : (placeB ts p = false → hopO ts p = none) ∧ (placeB ts p = true → ∃ x, ts[placeN ts p]? = some x ∧ hopO ts p = some x.hop) := by
  constructor
  · intro hb
    rw [hop_none]
    intro x hx e
    have := (place_some h hm hx e).2
    rw [hb] at this; cases this
  · intro hb
    obtain ⟨x, hx, h1, h2⟩ := place_in hb
    refine ⟨x, h1, ?_⟩
    have := (hop_mem (right_ord h)).1 hx
    rwa [h2] at this
def bhL (t : List Rt) (l : List Ch) : List Rt := if (tright t && mayB l) = true then appL t l else []
theorem bh_ok (h : bhE ts ls = 0) : tright ts = true ∧ bhL ts ls = appL ts ls ∧ tright (appL ts ls) = true := by
  unfold bhE at h
  split at h
  · rename_i h1
    simp only [Bool.and_eq_true] at h1
    exact ⟨h1.1, by rw [bhL, if_pos (by rw [h1.1, h1.2]; rfl)], apL_right h1.1 ls⟩
  · omega
end Go.Eng
namespace Go.Eng
open Go.Kb
variable {t a b : List Rt} {p : Pfx}
theorem use_yes (h : hopO a p = hopO t p) : useP t a b p = hopO b p ∧ tornP t a b p = false := by
  refine ⟨by rw [useP, useO, if_pos h], ?_⟩
  simp [tornP, tornO, h]
theorem use_torn (h : ¬ hopO a p = hopO t p) (h' : hopO b p ≠ hopO t p ∧ hopO a p ≠ hopO b p) : useP t a b p = hopO a p ∧ tornP t a b p = true := by
  refine ⟨by rw [useP, useO, if_neg h], ?_⟩
  rw [tornP, tornO, decide_eq_true_eq]; exact ⟨h, h'.1, h'.2⟩
theorem use_no (h : ¬ hopO a p = hopO t p) (h' : hopO b p = hopO t p ∨ hopO a p = hopO b p) : useP t a b p = hopO a p ∧ tornP t a b p = false := by
  refine ⟨by rw [useP, useO, if_neg h], ?_⟩
  rw [tornP, tornO, decide_eq_false_iff_not]
  rintro ⟨_, h2, h3⟩
  rcases h' with h' | h'
  · exact h2 h'
  · exact h3 h'
theorem ld_yes {o : Option UInt16} (h : (ldO o).there = true) : o = some (ldO o).hop := by
  cases o with
  | none => simp [ldO] at h
  | some x => rfl
theorem ld_no {o : Option UInt16} (h : (ldO o).there = false) : o = none := by
  cases o with
  | none => rfl
  | some x => simp [ldO] at h
theorem bothOk_no (h : ¬ (tright t = true ∧ tright a = true ∧ tright b = true)) : bothE t a b = 1 ∧ bothL t a b = [] ∧ bothK t a b = [] := by
  have e : bothE t a b = 1 := by
    rw [bothE, if_neg]
    intro hb
    simp only [bothOk, Bool.and_eq_true] at hb
    exact h ⟨hb.1.1, hb.1.2, hb.2⟩
  exact ⟨e, by rw [bothL, if_neg (by rw [e]; decide)], by rw [bothK, if_neg (by rw [e]; decide)]⟩
theorem both_full (h1 : tright t = true) (h2 : tright a = true) (h3 : tright b = true) (hl : 256 < (bothO t a b).length) : bothE t a b = 5 ∧ bothL t a b = [] ∧ bothK t a b = [] := by
  have e : bothE t a b = 5 := by rw [bothE, if_pos (by rw [bothOk, h1, h2, h3]; rfl), if_pos hl]
  exact ⟨e, by rw [bothL, if_neg (by rw [e]; decide)], by rw [bothK, if_neg (by rw [e]; decide)]⟩
theorem both_fine (h1 : tright t = true) (h2 : tright a = true) (h3 : tright b = true) (hl : ¬ 256 < (bothO t a b).length) : bothE t a b = 0 ∧ bothL t a b = bothO t a b ∧ bothK t a b = bothT t a b := by
  have e : bothE t a b = 0 := by rw [bothE, if_pos (by rw [bothOk, h1, h2, h3]; rfl), if_neg hl]
  exact ⟨e, by rw [bothL, if_pos e], by rw [bothK, if_pos e]⟩
end Go.Eng

/- Guards that are known not to hold. -/
namespace Go.Eng
section
variable {P : Program} {N : Fra} {w0 : World} {env : Env} {L : List Ent} {l : List Oper} {Q : Exit → Act → World → Prop} {rest : List Oper} {d : Option Tmp} {ty : TypeId} {ps : String} {af : Array Edge}
theorem sq_sk {op} {j t : Nat} {b g : Bool} (hj : (l[j]?).bind (·.dst) = some t) (hv : look env t = some (.bool g)) (ht : g = !b) (h : Sq P N w0 l Q rest (putE env d undef) L) (hd : dstOk N d = true := by rfl) :
    Sq P N w0 l Q (⟨d, op, ty, ps, af, some (j, b)⟩ :: rest) env L := fun a w ha hw => by
  unfold wpList
  rw [wanted_some ha rfl hj hv, ht]
  have : ((!b) == b) = false := by cases b <;> rfl
  rw [this, if_neg (by simp)]
  exact h _ _ (ha.put hd _) hw
theorem sq_sk2 {op} {j t : Nat} {b : Bool} (hj : (l[j]?).bind (·.dst) = some t) (hv : look env t = some undef) (h : Sq P N w0 l Q rest (putE env d undef) L) (hd : dstOk N d = true := by rfl) :
    Sq P N w0 l Q (⟨d, op, ty, ps, af, some (j, b)⟩ :: rest) env L := fun a w ha hw => by
  unfold wpList
  rw [wanted_nest (c := false) (g := true) ha rfl hj (by simpa using hv), Bool.false_and, if_neg (by simp)]
  exact h _ _ (ha.put hd _) hw
theorem ry_pickO {gd : Option (Nat × Bool)} {c x y : Operand} {g : Bool} {vx v : Value} (hc : ev env c = some (.bool g)) (ht : g = false) (hx : ev env x = some vx) (hy : ev env y = some v) :
    Ry P N w0 env L ⟨d, .pick c x y, ty, ps, af, gd⟩ v := by
  subst ht
  have h := ry_pick (P := P) (N := N) (w0 := w0) (L := L) (d := d) (ty := ty) (ps := ps) (af := af) (gd := gd) hc hx hy
  simpa using h
end
end Go.Eng

