/- Routes in order, and who stands over whom. No program in sight. -/
import Derived.Test.YtldkgicmfbofiaaGreatDoorC4
import Derived.Test.YtldkgicmfbofiaaGreatDoorC1
import Derived.Lib.AppendZeros
import Derived.Test.YtldkgicmfbofiaaGreatDoorC2
import Derived.Lib.ReflectliteSwap
import Derived.Laws.Externs
import Derived.Test.YtldkgicmfbofiaaGreatDoorC3

set_option linter.unusedSimpArgs false
set_option linter.unusedVariables false
namespace Go.Kb

structure Ord (t : List Rt) : Prop where
  may : ∀ r ∈ t, pmay r.p = true
  less : t.Pairwise fun a b => pless a.p b.p = true
theorem right_ord {t : List Rt} (h : tright t = true) : Ord t := ⟨fun _ hr => tr_may h hr, by
  rw [List.pairwise_iff_getElem]
  intro i j hi hj hij
  exact right_less h i j _ _ hij (by simp [hi]) (by simp [hj])⟩
theorem ord_right {t : List Rt} (h : Ord t) (hl : t.length ≤ 256) : tright t = true := by
  refine tright_all hl ?_
  have key : ∀ n, n ≤ t.length → okTo t n = true := by
    intro n
    induction n with
    | zero => intro _; rfl
    | succ n ih =>
      intro hn
      rw [okTo_succ, ih (by omega), Bool.true_and]
      have hi : t[n]? = some t[n] := by simp [show n < t.length by omega]
      have hm := h.may _ (List.mem_of_getElem? hi)
      cases n with
      | zero => rw [okAt_zero hi, hm]
      | succ m =>
        have hq : t[m]? = some t[m] := by simp [show m < t.length by omega]
        rw [okAt_succ hi hq, hm, Bool.true_and]
        exact (List.pairwise_iff_getElem.1 h.less) m (m + 1) (by omega) (by omega) (by omega)
  exact key _ (Nat.le_refl _)
theorem Ord.sub {s t : List Rt} (h : Ord t) (hs : s.Sublist t) : Ord s := ⟨fun r hr => h.may r (hs.subset hr), h.less.sublist hs⟩
theorem Ord.uniq {t : List Rt} (h : Ord t) {a b : Rt} (ha : a ∈ t) (hb : b ∈ t) (e : a.p = b.p) : a = b := by
  obtain ⟨i, hi, rfl⟩ := List.getElem_of_mem ha
  obtain ⟨j, hj, rfl⟩ := List.getElem_of_mem hb
  have hp := List.pairwise_iff_getElem.1 h.less
  have hm := h.may _ hb
  rcases Nat.lt_trichotomy i j with h1 | h1 | h1
  · have := hp i j hi hj h1; rw [e, less_irr hm] at this; cases this
  · subst h1; rfl
  · have := hp j i hj hi h1; rw [e, less_irr hm] at this; cases this
theorem Ord.nodup {t : List Rt} (h : Ord t) : t.Nodup := h.less.imp_of_mem fun {a b} ha _ hab e => by
  subst e; rw [less_irr (h.may _ ha)] at hab; cases hab

theorem covers_len {a b p : Pfx} (ha : pcovers a p = true) (hb : pcovers b p = true) (hl : b.len ≤ a.len) : pcovers b a = true := by
  obtain ⟨a1, a2, a3, a4, a5⟩ := (pcovers_iff a p).1 ha
  obtain ⟨b1, b2, b3, b4, b5⟩ := (pcovers_iff b p).1 hb
  refine (pcovers_iff b a).2 ⟨b1, a1, b3.trans a3.symm, hl, ?_⟩
  rw [← a5, kcut_cut, ← b5]; congr 1; omega
theorem covers_trans {a b c : Pfx} (ha : pcovers a b = true) (hb : pcovers b c = true) : pcovers a c = true := by
  obtain ⟨a1, a2, a3, a4, a5⟩ := (pcovers_iff a b).1 ha
  obtain ⟨b1, b2, b3, b4, b5⟩ := (pcovers_iff b c).1 hb
  refine (pcovers_iff a c).2 ⟨a1, b2, a3.trans b3, by omega, ?_⟩
  rw [← a5, ← b5, kcut_cut]; congr 1; omega
theorem covers_self {p : Pfx} (h : pmay p = true) : pcovers p p = true := by
  obtain ⟨h1, h2, h3, h4⟩ := (pmay_iff p).1 h
  exact (pcovers_iff p p).2 ⟨h, h, rfl, Int.le_refl _, h4⟩
theorem covers_lens {a b : Pfx} (h : pcovers a b = true) (hl : b.len ≤ a.len) : a = b := by
  obtain ⟨a1, a2, a3, a4, a5⟩ := (pcovers_iff a b).1 h
  obtain ⟨_, _, _, b4⟩ := (pmay_iff b).1 a2
  have e : a.len = b.len := by omega
  have hk : a.key = b.key := by rw [← a5, e, b4]
  cases a; cases b; simp_all

/-! Over. -/
def cov (r : Rt) (p : Pfx) : Bool := decide (r.p ≠ p) && pcovers r.p p
theorem cov_iff {r : Rt} {p : Pfx} : cov r p = true ↔ r.p ≠ p ∧ pcovers r.p p = true := by simp [cov]
theorem cov_len {r : Rt} {p : Pfx} (h : cov r p = true) : r.p.len < p.len := by
  obtain ⟨h1, h2⟩ := cov_iff.1 h
  apply Classical.byContradiction; intro hn
  exact h1 (covers_lens h2 (by omega))
def overF (t : List Rt) (p : Pfx) : Option Rt := t.reverse.find? fun r => cov r p
theorem overF_nil (p : Pfx) : overF [] p = none := rfl
theorem overF_snoc (t : List Rt) (r : Rt) (p : Pfx) : overF (t ++ [r]) p = if cov r p = true then some r else overF t p := by
  rw [overF, List.reverse_append]
  simp only [List.reverse_cons, List.reverse_nil, List.nil_append, List.singleton_append, List.find?_cons]
  cases cov r p <;> rfl
theorem overF_none {t : List Rt} {p : Pfx} : overF t p = none ↔ ∀ r ∈ t, cov r p = false := by
  rw [overF, List.find?_eq_none]
  simp
theorem overF_mem {t : List Rt} {p : Pfx} {o : Rt} (h : overF t p = some o) : o ∈ t ∧ cov o p = true := by
  have h1 := List.mem_of_find?_eq_some h
  have h2 := List.find?_some h
  exact ⟨by simpa using h1, h2⟩
theorem Ord.overF_max {t : List Rt} (h : Ord t) {p : Pfx} {o : Rt} (ho : overF t p = some o) {q : Rt} (hq : q ∈ t) (hc : cov q p = true) : q.p.len ≤ o.p.len := by
  obtain ⟨ho1, ho2⟩ := overF_mem ho
  apply Classical.byContradiction; intro hn
  have hn : o.p.len < q.p.len := by omega
  have hcov := covers_len (cov_iff.1 hc).2 (cov_iff.1 ho2).2 (by omega)
  obtain ⟨us, bs, e1, h3⟩ : ∃ us bs, t = us ++ o :: bs ∧ ∀ b ∈ bs, cov b p = false := by
    rw [overF, List.find?_eq_some_iff_append] at ho
    obtain ⟨_, us, bs, e, h3⟩ := ho
    refine ⟨bs.reverse, us.reverse, ?_, fun b hb => by simpa using h3 b (by simpa using hb)⟩
    have := congrArg List.reverse e
    simpa using this
  rw [e1] at hq
  rcases List.mem_append.1 hq with hq | hq
  · have hl := h.less
    rw [e1, List.pairwise_append] at hl
    have := hl.2.2 q hq o (by simp)
    rw [covers_less hcov] at this; cases this
  · rcases List.mem_cons.1 hq with rfl | hq
    · omega
    · rw [h3 q hq] at hc; cases hc
theorem Ord.overF_eq {t : List Rt} (h : Ord t) {p : Pfx} {o : Rt} (ho : o ∈ t) (hc : cov o p = true) (hm : ∀ q ∈ t, cov q p = true → q.p.len ≤ o.p.len) : overF t p = some o := by
  cases hf : overF t p with
  | none => rw [overF_none.1 hf o ho] at hc; cases hc
  | some r =>
    obtain ⟨h1, h2⟩ := overF_mem hf
    have a := h.overF_max hf ho hc
    have b := hm r h1 h2
    have e := covers_lens (covers_len (cov_iff.1 h2).2 (cov_iff.1 hc).2 a) b
    rw [h.uniq ho h1 e]
def rstep (p : Pfx) (b : Rt) (r : Rt) : Rt := if cov r p = true ∧ b.p.len < r.p.len then r else b
def noR : Rt := ⟨⟨0, -1, 0#128⟩, 0⟩
def roverR (t : List Rt) (p : Pfx) : Rt := t.foldl (rstep p) noR
theorem rover_snoc (t : List Rt) (r : Rt) (p : Pfx) : roverR (t ++ [r]) p = rstep p (roverR t p) r := by simp [roverR]
theorem rover_eq : ∀ (n : Nat) {t : List Rt}, t.length = n → Ord t → ∀ p, roverR t p = (overF t p).getD noR
  | 0, t, hn, _, p => by obtain rfl : t = [] := List.length_eq_zero_iff.1 hn; rfl
  | n + 1, t, hn, h, p => by
    obtain ⟨s, r, rfl⟩ : ∃ s r, t = s ++ [r] := ⟨t.dropLast, t.getLast (by intro e; simp [e] at hn), (List.dropLast_concat_getLast _).symm⟩
    have hs : Ord s := h.sub (List.sublist_append_left _ _)
    rw [rover_snoc, overF_snoc, rover_eq n (by simpa using hn) hs p, rstep]
    by_cases hc : cov r p = true
    · rw [if_pos hc, if_pos]
      · rfl
      · refine ⟨hc, ?_⟩
        cases ho : overF s p with
        | none =>
          have := (pmay_iff r.p).1 (h.may r (by simp))
          show (-1 : Int) < r.p.len; omega
        | some o =>
          obtain ⟨ho1, ho2⟩ := overF_mem ho
          show o.p.len < r.p.len
          apply Classical.byContradiction; intro hn2
          have hcov := covers_len (cov_iff.1 ho2).2 (cov_iff.1 hc).2 (by omega)
          have hl := h.less
          rw [List.pairwise_append] at hl
          have := hl.2.2 o ho1 r (by simp)
          rw [covers_less hcov] at this; cases this
    · rw [if_neg hc, if_neg (fun h => hc h.1)]

/-! Next; chains. -/
def nextP (t : List Rt) (p : Pfx) : Option Rt := t.find? fun r => pless p r.p
def onWay (k : Key) (bits : Int) (r : Rt) : Bool := decide (r.p.bits = bits) && pfits r.p k
def chainP (t : List Rt) (k : Key) (bits : Int) : List Rt := t.filter (onWay k bits)
def rchain (t : List Rt) (k : Key) (bits : Int) : Nat → List Rt
  | 0 => []
  | n + 1 => rchain t k bits n ++ t.filter fun r => decide (r.p.bits = bits) && decide (r.p.len = (n : Int)) && pfits r.p k
theorem Ord.fits_less {t : List Rt} (h : Ord t) {k : Key} {bits : Int} : (t.filter (onWay k bits)).Pairwise fun a b => a.p.len < b.p.len := by
  rw [List.pairwise_filter]
  refine h.less.imp_of_mem fun {a b} _ _ hab ha hb => ?_
  simp only [onWay, Bool.and_eq_true, decide_eq_true_eq] at ha hb
  apply Classical.byContradiction; intro hn
  rw [covers_less (covers_of_fits hb.2 ha.2 (hb.1.trans ha.1.symm) (by omega))] at hab; cases hab
theorem filter_lt {l : List Rt} (h : l.Pairwise fun a b => a.p.len < b.p.len) (n : Int) : l.filter (fun r => decide (r.p.len < n + 1)) = l.filter (fun r => decide (r.p.len < n)) ++ l.filter (fun r => decide (r.p.len = n)) := by
  induction l with
  | nil => rfl
  | cons a l ih =>
    rw [List.pairwise_cons] at h
    have ih := ih h.2
    simp only [List.filter_cons]
    rcases Int.lt_trichotomy a.p.len n with h1 | h1 | h1
    · rw [if_pos (by simp only [decide_eq_true_eq]; omega), if_pos (by simpa using h1), if_neg (by simp only [decide_eq_true_eq]; omega), ih]; rfl
    · have e1 : l.filter (fun r => decide (r.p.len < n)) = [] := List.filter_eq_nil_iff.2 fun b hb => by have := h.1 b hb; simp; omega
      rw [if_pos (by simp only [decide_eq_true_eq]; omega), if_neg (by simp only [decide_eq_true_eq]; omega), if_pos (by simpa using h1), ih, e1]; rfl
    · have e1 : l.filter (fun r => decide (r.p.len < n)) = [] := List.filter_eq_nil_iff.2 fun b hb => by have := h.1 b hb; simp; omega
      have e2 : l.filter (fun r => decide (r.p.len = n)) = [] := List.filter_eq_nil_iff.2 fun b hb => by have := h.1 b hb; simp; omega
      rw [if_neg (by simp only [decide_eq_true_eq]; omega), if_neg (by simp only [decide_eq_true_eq]; omega), if_neg (by simp only [decide_eq_true_eq]; omega), ih, e1, e2]
theorem rchain_lt {t : List Rt} (h : Ord t) {k : Key} {bits : Int} : ∀ n : Nat, rchain t k bits n = (chainP t k bits).filter fun r => decide (r.p.len < (n : Int))
  | 0 => by
    rw [rchain, eq_comm, List.filter_eq_nil_iff]
    intro r hr
    have := (pmay_iff r.p).1 (h.may r (List.mem_filter.1 hr).1)
    simp; omega
  | n + 1 => by
    rw [rchain, rchain_lt h n, show ((n + 1 : Nat) : Int) = (n : Int) + 1 by omega, chainP, filter_lt (h.fits_less (k := k) (bits := bits))]
    congr 1
    rw [List.filter_filter]
    refine List.filter_congr fun r _ => ?_
    simp only [onWay]
    cases decide (r.p.bits = bits) <;> cases decide (r.p.len = (n : Int)) <;> cases pfits r.p k <;> rfl
theorem rchain_eq {t : List Rt} (h : Ord t) {k : Key} {bits : Int} {n : Nat} (hn : bits < n) : rchain t k bits n = chainP t k bits := by
  rw [rchain_lt h, List.filter_eq_self]
  intro r hr
  have hm := (pmay_iff r.p).1 (h.may r (List.mem_filter.1 hr).1)
  have h2 := (List.mem_filter.1 hr).2
  simp only [onWay, Bool.and_eq_true, decide_eq_true_eq] at h2
  simp; omega

/-! Lean tables, tops, depth. -/
def needed (t : List Rt) (r : Rt) : Bool := match overF t r.p with
  | none => true
  | some o => !decide (o.hop = r.hop)
def leanP (t : List Rt) : List Rt := t.filter (needed t)
def isTop (t : List Rt) (r : Rt) : Bool := (overF t r.p).isNone
def topsP (t : List Rt) : List Rt := t.filter (isTop t)
def cnt (t : List Rt) (p : Pfx) : Nat := t.countP fun q => pcovers q.p p
def depP (t : List Rt) : Nat := t.foldl (fun m r => max m (cnt t r.p)) 0
theorem leanP_sub (t : List Rt) : (leanP t).Sublist t := List.filter_sublist
theorem topsP_sub (t : List Rt) : (topsP t).Sublist t := List.filter_sublist
theorem countP_or {α : Type} {p q r : α → Bool} : ∀ {l : List α}, (∀ x ∈ l, r x = (p x || q x) ∧ (p x && q x) = false) → l.countP r = l.countP p + l.countP q
  | [], _ => rfl
  | a :: l, h => by
    have ih := countP_or (l := l) fun x hx => h x (by simp [hx])
    have ha := h a (by simp)
    rw [List.countP_cons, List.countP_cons, List.countP_cons, ih, ha.1]
    have h2 := ha.2
    cases hp : p a <;> cases hq : q a <;> simp_all <;> omega
theorem Ord.count_one {t : List Rt} (h : Ord t) {r : Rt} (hr : r ∈ t) : (t.countP fun q => decide (q.p = r.p)) = 1 := by
  have key : ∀ s : List Rt, s.Pairwise (fun a b => a ≠ b) → (∀ q ∈ s, q ∈ t) → r ∈ s → (s.countP fun q => decide (q.p = r.p)) = 1 := by
    intro s
    induction s with
    | nil => intro _ _ h; cases h
    | cons a s ih =>
      intro hp hs hm
      rw [List.pairwise_cons] at hp
      rw [List.countP_cons]
      rcases List.mem_cons.1 hm with rfl | hm
      · have h0 : (s.countP fun q => decide (q.p = r.p)) = 0 := List.countP_eq_zero.2 fun q hq => by
          simp only [decide_eq_true_eq]
          intro e
          exact hp.1 q hq (h.uniq (hs _ (by simp)) (hs q (by simp [hq])) e.symm)
        rw [h0]; simp
      · rw [ih hp.2 (fun q hq => hs q (by simp [hq])) hm, if_neg]
        simp only [decide_eq_true_eq]
        intro e
        exact hp.1 r hm (h.uniq (hs _ (by simp)) hr e)
  exact key t h.nodup (fun _ h => h) hr
theorem Ord.cnt_top {t : List Rt} (h : Ord t) {r : Rt} (hr : r ∈ t) (ho : overF t r.p = none) : cnt t r.p = 1 := by
  rw [← h.count_one hr, cnt]
  refine List.countP_congr fun q hq => ?_
  have hc := overF_none.1 ho q hq
  simp only [decide_eq_true_eq]
  constructor
  · intro h1; apply Classical.byContradiction; intro hne
    rw [cov_iff.2 ⟨hne, h1⟩] at hc; cases hc
  · intro e; rw [e]; exact covers_self (h.may r hr)
theorem Ord.cnt_over {t : List Rt} (h : Ord t) {r o : Rt} (hr : r ∈ t) (ho : overF t r.p = some o) : cnt t r.p = cnt t o.p + 1 := by
  obtain ⟨ho1, ho2⟩ := overF_mem ho
  obtain ⟨o1, o2⟩ := cov_iff.1 ho2
  rw [cnt, cnt, ← h.count_one hr]
  refine countP_or fun q hq => ?_
  constructor
  · rw [Bool.eq_iff_iff]; simp only [Bool.or_eq_true, decide_eq_true_eq]
    constructor
    · intro h1
      by_cases e : q.p = r.p
      · exact .inr e
      · exact .inl (covers_len o2 h1 (h.overF_max ho hq (cov_iff.2 ⟨e, h1⟩)))
    · rintro (h1 | e)
      · exact covers_trans h1 o2
      · rw [e]; exact covers_self (h.may r hr)
  · rw [← Bool.not_eq_true]; simp only [Bool.and_eq_true, decide_eq_true_eq]
    rintro ⟨h1, e⟩
    rw [e] at h1; exact o1 (covers_anti o2 h1)
theorem dep_foldl (t s : List Rt) : ∀ {m : Nat}, m ≤ s.foldl (fun m r => max m (cnt t r.p)) m ∧ ∀ r ∈ s, cnt t r.p ≤ s.foldl (fun m r => max m (cnt t r.p)) m := by
  induction s with
  | nil => intro m; exact ⟨Nat.le_refl _, by simp⟩
  | cons a s ih =>
    intro m
    obtain ⟨h1, h2⟩ := ih (m := max m (cnt t a.p))
    rw [List.foldl_cons]
    refine ⟨by omega, fun r hr => ?_⟩
    rcases List.mem_cons.1 hr with rfl | hr
    · omega
    · exact h2 r hr
theorem dep_ge {t : List Rt} {r : Rt} (hr : r ∈ t) : cnt t r.p ≤ depP t := (dep_foldl t t).2 r hr
theorem dep_le {t : List Rt} {n : Nat} (h : ∀ r ∈ t, cnt t r.p ≤ n) : depP t ≤ n := by
  have key : ∀ (s : List Rt) (m : Nat), m ≤ n → (∀ r ∈ s, cnt t r.p ≤ n) → s.foldl (fun m r => max m (cnt t r.p)) m ≤ n := by
    intro s
    induction s with
    | nil => intro m hm _; exact hm
    | cons a s ih => intro m hm hs; rw [List.foldl_cons]; exact ih _ (by have := hs a (by simp); omega) fun r hr => hs r (by simp [hr])
  exact key t 0 (Nat.zero_le _) h

/-! What fits, or covers: of two such ones the shorter one covers the longer one; who covers such a one is such a one. -/
structure Fam (t : List Rt) (F : Rt → Prop) : Prop where
  comp : ∀ a b, a ∈ t → b ∈ t → F a → F b → b.p.len ≤ a.p.len → pcovers b.p a.p = true
  up : ∀ a b, a ∈ t → b ∈ t → F a → cov b a.p = true → F b
theorem fam_fits {t : List Rt} (k : Key) (bits : Int) : Fam t fun r => onWay k bits r = true :=
  ⟨fun a b _ _ ha hb hl => by
    simp only [onWay, Bool.and_eq_true, decide_eq_true_eq] at ha hb
    exact covers_of_fits hb.2 ha.2 (hb.1.trans ha.1.symm) hl,
   fun a b _ _ ha hb => by
    simp only [onWay, Bool.and_eq_true, decide_eq_true_eq] at ha ⊢
    obtain ⟨h1, h2⟩ := cov_iff.1 hb
    exact ⟨((pcovers_iff _ _).1 h2).2.2.1.trans ha.1, covers_fits h2 ha.2⟩⟩
theorem fam_cov {t : List Rt} (p : Pfx) : Fam t fun r => cov r p = true :=
  ⟨fun a b _ _ ha hb hl => covers_len (cov_iff.1 ha).2 (cov_iff.1 hb).2 hl,
   fun a b _ _ ha hb => by
    obtain ⟨a1, a2⟩ := cov_iff.1 ha
    obtain ⟨b1, b2⟩ := cov_iff.1 hb
    refine cov_iff.2 ⟨fun e => ?_, covers_trans b2 a2⟩
    rw [e] at b2; exact a1 (covers_anti a2 b2)⟩
theorem Fam.over {t : List Rt} {F : Rt → Prop} (f : Fam t F) (h : Ord t) {r q : Rt} (hr : r ∈ t) (hF : F r) (hq : q ∈ t) (hFq : F q) (hl : q.p.len < r.p.len) : ∃ o, overF t r.p = some o ∧ o ∈ t ∧ F o ∧ o.p.len < r.p.len ∧ q.p.len ≤ o.p.len := by
  have hc : cov q r.p = true := cov_iff.2 ⟨fun e => by rw [e] at hl; omega, f.comp r q hr hq hF hFq (by omega)⟩
  cases ho : overF t r.p with
  | none => rw [overF_none.1 ho q hq] at hc; cases hc
  | some o =>
    obtain ⟨h1, h2⟩ := overF_mem ho
    exact ⟨o, rfl, h1, f.up r o hr h1 hF h2, cov_len h2, h.overF_max ho hq hc⟩
theorem Fam.lean {t : List Rt} {F : Rt → Prop} (f : Fam t F) (h : Ord t) : ∀ (n : Nat) {r : Rt}, r.p.len.toNat = n → r ∈ t → F r →
    ∃ s ∈ leanP t, F s ∧ s.p.len ≤ r.p.len ∧ s.hop = r.hop ∧ ∀ q ∈ leanP t, F q → q.p.len ≤ r.p.len → q.p.len ≤ s.p.len := by
  intro n
  induction n using Nat.strongRecOn with
  | _ n ih =>
    intro r hn hr hF
    cases hd : needed t r with
    | true => exact ⟨r, List.mem_filter.2 ⟨hr, hd⟩, hF, Int.le_refl _, rfl, fun q _ _ hl => hl⟩
    | false =>
      unfold needed at hd
      split at hd
      · cases hd
      · rename_i o ho
        have hhop : o.hop = r.hop := by simpa using hd
        obtain ⟨h1, h2⟩ := overF_mem ho
        have hFo := f.up r o hr h1 hF h2
        have hlo := cov_len h2
        have hmo := (pmay_iff o.p).1 (h.may o h1)
        obtain ⟨s, hs1, hs2, hs3, hs4, hs5⟩ := ih o.p.len.toNat (by omega) rfl h1 hFo
        refine ⟨s, hs1, hs2, by omega, hs4.trans hhop, fun q hq hFq hl => hs5 q hq hFq ?_⟩
        have hqt := (leanP_sub t).subset hq
        have hne : q.p ≠ r.p := fun e => by
          have := h.uniq hqt hr e
          subst this
          have hq2 := (List.mem_filter.1 hq).2
          unfold needed at hq2; rw [ho] at hq2
          simp [hhop] at hq2
        exact h.overF_max ho hqt (cov_iff.2 ⟨hne, f.comp r q hr hqt hF hFq hl⟩)
theorem lean_over {t : List Rt} (h : Ord t) {p : Pfx} {o : Rt} (ho : overF t p = some o) : ∃ s, overF (leanP t) p = some s ∧ s.hop = o.hop := by
  obtain ⟨h1, h2⟩ := overF_mem ho
  obtain ⟨s, hs1, hs2, hs3, hs4, hs5⟩ := (fam_cov p).lean h _ rfl h1 h2
  refine ⟨s, (h.sub (leanP_sub t)).overF_eq hs1 hs2 fun q hq hc => hs5 q hq hc (h.overF_max ho ((leanP_sub t).subset hq) hc), hs4⟩
theorem over_sub {s t : List Rt} (hs : s.Sublist t) {p : Pfx} (h : overF t p = none) : overF s p = none := overF_none.2 fun r hr => overF_none.1 h r (hs.subset hr)
theorem lean_lean {t : List Rt} (h : Ord t) : leanP (leanP t) = leanP t := by
  show (leanP t).filter (needed (leanP t)) = leanP t
  rw [List.filter_eq_self]
  intro r hr
  have h2 := (List.mem_filter.1 hr).2
  unfold needed at h2 ⊢
  cases ho : overF t r.p with
  | none => rw [over_sub (leanP_sub t) ho]
  | some o =>
    rw [ho] at h2
    obtain ⟨s, hs1, hs2⟩ := lean_over h ho
    rw [hs1]; simp only [hs2]; exact h2
theorem tops_lean {t : List Rt} (h : Ord t) : topsP (leanP t) = topsP t := by
  rw [topsP, topsP, leanP, List.filter_filter]
  refine List.filter_congr fun r _ => ?_
  rw [Bool.eq_iff_iff]
  simp only [Bool.and_eq_true, isTop, Option.isNone_iff_eq_none]
  constructor
  · rintro ⟨h1, h2⟩
    cases ho : overF t r.p with
    | none => rfl
    | some o =>
      obtain ⟨s, hs1, _⟩ := lean_over h ho
      rw [leanP] at hs1
      rw [hs1] at h1; cases h1
  · intro h1
    exact ⟨over_sub List.filter_sublist h1, by unfold needed; rw [h1]⟩
theorem Fam.top {t : List Rt} {F : Rt → Prop} (f : Fam t F) (h : Ord t) : ∀ (n : Nat) {r : Rt}, r.p.len.toNat = n → r ∈ t → F r → ∃ s ∈ topsP t, F s := by
  intro n
  induction n using Nat.strongRecOn with
  | _ n ih =>
    intro r hn hr hF
    cases ho : overF t r.p with
    | none => exact ⟨r, List.mem_filter.2 ⟨hr, by rw [isTop, ho]; rfl⟩, hF⟩
    | some o =>
      obtain ⟨h1, h2⟩ := overF_mem ho
      have hlo := cov_len h2
      have hmo := (pmay_iff o.p).1 (h.may o h1)
      exact ih o.p.len.toNat (by omega) rfl h1 (f.up r o hr h1 hF h2)
theorem Fam.top_one {t : List Rt} {F : Rt → Prop} (f : Fam t F) (h : Ord t) {a b : Rt} (ha : a ∈ topsP t) (hb : b ∈ topsP t) (hFa : F a) (hFb : F b) : a = b := by
  have ha2 := List.mem_filter.1 ha
  have hb2 := List.mem_filter.1 hb
  simp only [isTop, Option.isNone_iff_eq_none] at ha2 hb2
  rcases Int.lt_trichotomy a.p.len b.p.len with h1 | h1 | h1
  · obtain ⟨o, ho, _⟩ := f.over h hb2.1 hFb ha2.1 hFa h1
    rw [hb2.2] at ho; cases ho
  · exact h.uniq ha2.1 hb2.1 (covers_lens (f.comp b a hb2.1 ha2.1 hFb hFa (by omega)) (by omega))
  · obtain ⟨o, ho, _⟩ := f.over h ha2.1 hFa hb2.1 hFb h1
    rw [ha2.2] at ho; cases ho
theorem tops_apart {t : List Rt} {a b : Rt} (ha : a ∈ t) (hb : b ∈ topsP t) (hne : a.p ≠ b.p) : pcovers a.p b.p = false := by
  have hb2 := List.mem_filter.1 hb
  simp only [isTop, Option.isNone_iff_eq_none] at hb2
  cases hc : pcovers a.p b.p with
  | false => rfl
  | true => have := overF_none.1 hb2.2 a ha; rw [cov_iff.2 ⟨hne, hc⟩] at this; cases this
theorem cnt_sub {s t : List Rt} (hs : s.Sublist t) (p : Pfx) : cnt s p ≤ cnt t p := hs.countP_le
theorem dep_lean (t : List Rt) : depP (leanP t) ≤ depP t := dep_le fun r hr => Nat.le_trans (cnt_sub (leanP_sub t) r.p) (dep_ge ((leanP_sub t).subset hr))
theorem dep_tops {t : List Rt} (h : Ord t) : depP (topsP t) ≤ 1 := dep_le fun r hr => by
  have hr2 := List.mem_filter.1 hr
  simp only [isTop, Option.isNone_iff_eq_none] at hr2
  rw [(h.sub (topsP_sub t)).cnt_top hr (over_sub (topsP_sub t) hr2.2)]
  exact Nat.le_refl _
end Go.Kb
namespace Go.Kb
theorem over_app {us bs : List Rt} {r : Rt} {p : Pfx} (hc : cov r p = true) (h : ∀ b ∈ bs, cov b p = false) : overF (us ++ r :: bs) p = some r := by
  rw [overF, List.find?_eq_some_iff_append]
  exact ⟨hc, bs.reverse, us.reverse, by simp, fun b hb => by rw [h b (by simpa using hb)]; rfl⟩
theorem over_at {t : List Rt} {p : Pfx} {k : Nat} (hk : k < t.length) (h : ∀ j, j < k → cov (t.getD (t.length - 1 - j) zroute) p = false) (hc : cov (t.getD (t.length - 1 - k) zroute) p = true) : overF t p = some (t.getD (t.length - 1 - k) zroute) := by
  have hi : t.length - 1 - k < t.length := by omega
  have e : t = t.take (t.length - 1 - k) ++ t.getD (t.length - 1 - k) zroute :: t.drop (t.length - 1 - k + 1) := by
    have : t.getD (t.length - 1 - k) zroute = t[t.length - 1 - k] := by simp [List.getD, hi]
    rw [this, List.getElem_cons_drop, List.take_append_drop]
  have := over_app (us := t.take (t.length - 1 - k)) (bs := t.drop (t.length - 1 - k + 1)) hc fun b hb => by
    obtain ⟨j, hj, rfl⟩ := List.getElem_of_mem hb
    rw [List.length_drop] at hj
    have := h (t.length - 1 - (t.length - 1 - k + 1 + j)) (by omega)
    rw [show t.length - 1 - (t.length - 1 - (t.length - 1 - k + 1 + j)) = t.length - 1 - k + 1 + j by omega] at this
    rw [List.getElem_drop]
    simpa [List.getD, show t.length - 1 - k + 1 + j < t.length by omega] using this
  rw [← e] at this; exact this
theorem over_no {t : List Rt} {p : Pfx} (h : ∀ j, j < t.length → cov (t.getD (t.length - 1 - j) zroute) p = false) : overF t p = none := overF_none.2 fun r hr => by
  obtain ⟨j, hj, rfl⟩ := List.getElem_of_mem hr
  have := h (t.length - 1 - j) (by omega)
  rw [show t.length - 1 - (t.length - 1 - j) = j by omega] at this
  simpa [List.getD, hj] using this
def nextOk (t : List Rt) (p : Pfx) : Bool := pmay p && tright t
def wnextE (t : List Rt) (p : Pfx) : Int := if nextOk t p = true then (if (nextP t p).isSome = true then 0 else 6) else 1
def wnextR (t : List Rt) (p : Pfx) : Rt := if nextOk t p = true then (nextP t p).getD zroute else zroute
def overE (t : List Rt) (p : Pfx) : Int := if nextOk t p = true then (if (overF t p).isSome = true then 0 else 6) else 1
def overR (t : List Rt) (p : Pfx) : Rt := if nextOk t p = true then (overF t p).getD zroute else zroute
theorem next_at {t : List Rt} {p : Pfx} {i : Nat} {r : Rt} (hr : t[i]? = some r) (h : ∀ j q, j < i → t[j]? = some q → pless p q.p = false) (hl : pless p r.p = true) : nextP t p = some r := by
  rw [nextP, List.find?_eq_some_iff_getElem]
  have hi := (List.getElem?_eq_some_iff.1 hr).1
  refine ⟨hl, i, hi, (List.getElem?_eq_some_iff.1 hr).2, fun j hj => ?_⟩
  rw [h j _ hj (by simp [show j < t.length by omega])]; rfl
theorem next_no {t : List Rt} {p : Pfx} (h : ∀ j q, j < t.length → t[j]? = some q → pless p q.p = false) : nextP t p = none := by
  rw [nextP, List.find?_eq_none]
  intro r hr
  obtain ⟨j, hj, rfl⟩ := List.getElem_of_mem hr
  rw [h j _ hj (by simp [hj])]; simp
theorem filter_take {α : Type} {f : α → Bool} {t : List α} {i : Nat} {r : α} (hr : t[i]? = some r) : (t.take (i + 1)).filter f = (t.take i).filter f ++ if f r = true then [r] else [] := by
  rw [List.take_add_one, hr, List.filter_append]
  congr 1
  simp only [Option.toList_some, List.filter_cons, List.filter_nil]
def chainV (t : List Rt) (k : Key) (bits : Int) : List Rt := if bestE t k bits = 1 then [] else chainP t k bits
def leanV (t : List Rt) : List Rt := if tright t = true then leanP t else t
def topsV (t : List Rt) : List Rt := if tright t = true then topsP t else []
def depV (t : List Rt) : Nat := if tright t = true then depP t else 0
def depM (t : List Rt) (i : Nat) (p : Pfx) : Option Int := if ((t.take i).any fun r => decide (r.p = p)) = true then some ((cnt t p : Nat) : Int) else none
theorem depM_zero (t : List Rt) : depM t 0 = fun _ => none := rfl
theorem depM_step {t : List Rt} {i : Nat} {r : Rt} (hr : t[i]? = some r) : depM t (i + 1) = fun z => if z = r.p then some ((cnt t r.p : Nat) : Int) else depM t i z := by
  funext z
  unfold depM
  rw [List.take_add_one, hr]
  simp only [Option.toList_some, List.any_append, List.any_cons, List.any_nil, Bool.or_false]
  by_cases e : z = r.p
  · subst e; simp
  · have e2 : ¬ r.p = z := fun h => e h.symm
    simp [e, e2]
theorem depM_over {t : List Rt} (h : Ord t) {i : Nat} {r o : Rt} (hr : t[i]? = some r) (ho : overF t r.p = some o) : depM t i o.p = some ((cnt t o.p : Nat) : Int) ∧ o.p ≠ r.p := by
  obtain ⟨h1, h2⟩ := overF_mem ho
  obtain ⟨h3, h4⟩ := cov_iff.1 h2
  refine ⟨?_, h3⟩
  obtain ⟨j, hj, hje⟩ := List.getElem_of_mem h1
  have hi := (List.getElem?_eq_some_iff.1 hr).1
  have hri : t[i] = r := (List.getElem?_eq_some_iff.1 hr).2
  have hji : j < i := by
    rcases Nat.lt_trichotomy j i with a | a | a
    · exact a
    · subst a; rw [hri] at hje; rw [hje] at h3; exact absurd rfl h3
    · have := (List.pairwise_iff_getElem.1 h.less) i j hi hj a
      rw [hje, hri, covers_less h4] at this; cases this
  rw [depM, if_pos]
  rw [List.any_eq_true]
  exact ⟨o, List.mem_iff_getElem?.2 ⟨j, by rw [List.getElem?_take_of_lt hji]; simp [hj, hje]⟩, by simp⟩
def depTo (t : List Rt) (i : Nat) : Nat := (t.take i).foldl (fun m r => max m (cnt t r.p)) 0
theorem depTo_step {t : List Rt} {i : Nat} {r : Rt} (hr : t[i]? = some r) : depTo t (i + 1) = max (depTo t i) (cnt t r.p) := by
  rw [depTo, List.take_add_one, hr, List.foldl_append]; rfl
theorem depTo_all (t : List Rt) : depTo t t.length = depP t := by rw [depTo, List.take_length]; rfl
theorem cnt_le (t : List Rt) (p : Pfx) : cnt t p ≤ t.length := List.countP_le_length
theorem depTo_le (t : List Rt) (i : Nat) : depTo t i ≤ t.length := by
  unfold depTo
  have key : ∀ (s : List Rt) (m : Nat), m ≤ t.length → s.foldl (fun m r => max m (cnt t r.p)) m ≤ t.length := by
    intro s
    induction s with
    | nil => intro m hm; exact hm
    | cons a s ih => intro m hm; rw [List.foldl_cons]; exact ih _ (by have := cnt_le t a.p; omega)
  exact key _ 0 (Nat.zero_le _)
theorem over_ref {t : List Rt} (h : Ord t) (p : Pfx) : (if (roverR t p).p.len < 0 then zroute else roverR t p) = (overF t p).getD zroute ∧ (if (roverR t p).p.len < 0 then (6 : Int) else 0) = if (overF t p).isSome = true then 0 else 6 := by
  rw [rover_eq _ rfl h p]
  cases ho : overF t p with
  | none => exact ⟨rfl, rfl⟩
  | some o =>
    have := (pmay_iff o.p).1 (h.may o (overF_mem ho).1)
    simp only [Option.getD_some, Option.isSome_some]
    rw [if_neg (by omega), if_neg (by omega)]
    exact ⟨rfl, rfl⟩
end Go.Kb
namespace Go.Kb
/-! Get: the hop of one prefix. -/
def getOk (t : List Rt) (p : Pfx) : Bool := tright t && pmay p
def getF (t : List Rt) (p : Pfx) : Option Rt := if placeB t p = true then t[placeN t p]? else none
def getH (t : List Rt) (p : Pfx) : UInt16 := if getOk t p = true then ((getF t p).getD zroute).hop else 0
def getE (t : List Rt) (p : Pfx) : Int := if getOk t p = true then (if (getF t p).isSome = true then 0 else 6) else 1
theorem getF_some {t : List Rt} (h : tright t = true) {r : Rt} (hr : r ∈ t) : getF t r.p = some r := by
  obtain ⟨h1, h2⟩ := place_some h (tr_may h hr) hr rfl
  rw [getF, if_pos h2, h1]
theorem get_of {t : List Rt} (h : tright t = true) {r : Rt} (hr : r ∈ t) : getE t r.p = 0 ∧ getH t r.p = r.hop := by
  have hok : getOk t r.p = true := by rw [getOk, h, tr_may h hr]; rfl
  rw [getE, getH, if_pos hok, if_pos hok, getF_some h hr]
  exact ⟨rfl, rfl⟩
theorem get_in {t : List Rt} (h : tright t = true) {p : Pfx} (he : getE t p = 0) : ∃ r ∈ t, r.p = p ∧ getH t p = r.hop := by
  unfold getE at he
  split at he
  · rename_i hok
    split at he
    · rename_i hs
      obtain ⟨r, hr⟩ := Option.isSome_iff_exists.1 hs
      unfold getF at hr
      split at hr
      · rename_i hp
        obtain ⟨q, h1, h2, h3⟩ := place_in hp
        rw [h2] at hr; cases hr
        exact ⟨r, h1, h3, by rw [getH, if_pos hok, getF, if_pos hp, h2]; rfl⟩
      · cases hr
    · cases he
  · cases he
end Go.Kb

/- Changes of a table. No program in sight. -/
namespace Go.Kb

structure Ch where
  r : Rt
  gone : Bool
  deriving DecidableEq
def zch : Ch := ⟨zroute, false⟩
def chcells (x : Ch) : Array Value := rcells x.r ++ #[.bool x.gone]
theorem chcells_size (x : Ch) : (chcells x).size = 20 := by unfold chcells; rw [Array.size_append, rcells_size]; rfl
theorem chcells_r (x : Ch) (j : Nat) (h : j < 19) : (chcells x)[j]? = (rcells x.r)[j]? := by
  unfold chcells; rw [Array.getElem?_append_left (by rw [rcells_size]; exact h)]
theorem chcells_g (x : Ch) : (chcells x)[19]? = some (.bool x.gone) := by
  unfold chcells; rw [Array.getElem?_append_right (by rw [rcells_size]; omega), rcells_size]; rfl

def chgE (t : List Rt) (c : Ch) : Int := if pmay c.r.p = true then (if placeB t c.r.p = true then 0 else if c.gone = true then 6 else if 256 ≤ t.length then 5 else 0) else 1
def chgL (t : List Rt) (c : Ch) : List Rt :=
  if chgE t c = 0 then (if c.gone = true then t.take (placeN t c.r.p) ++ t.drop (placeN t c.r.p + 1) else if placeB t c.r.p = true then t.set (placeN t c.r.p) c.r else t.take (placeN t c.r.p) ++ c.r :: t.drop (placeN t c.r.p)) else t
theorem chgL_len {t : List Rt} (h : t.length ≤ 256) (c : Ch) : (chgL t c).length ≤ 256 := by
  unfold chgL
  split
  · rename_i he
    split
    · simp only [List.length_append, List.length_take, List.length_drop]; omega
    · split
      · simpa using h
      · rename_i h1 h2
        have : t.length < 256 := by
          apply Classical.byContradiction; intro hn
          unfold chgE at he
          rw [if_neg h2, if_neg h1, if_pos (show 256 ≤ t.length by omega)] at he
          split at he <;> omega
        have hp := placeN_le t c.r.p
        simp only [List.length_append, List.length_take, List.length_cons, List.length_drop]; omega
  · exact h
def appF : List Rt → List Ch → List Rt × Int
  | t, [] => (t, 0)
  | t, c :: l => if chgE t c = 0 then appF (chgL t c) l else (t, chgE t c)
theorem appF_step {t : List Rt} {l : List Ch} {i : Nat} {c : Ch} (hc : l[i]? = some c) : appF t (l.drop i) = if chgE t c = 0 then appF (chgL t c) (l.drop (i + 1)) else (t, chgE t c) := by
  obtain ⟨hi, rfl⟩ := List.getElem?_eq_some_iff.1 hc
  rw [List.drop_eq_getElem_cons hi, appF]
def appE (t : List Rt) (l : List Ch) : Int := if tright t = true then (appF t l).2 else 1
def appL (t : List Rt) (l : List Ch) : List Rt := if appE t l = 0 then (appF t l).1 else t
end Go.Kb

/- Changes of a table, as cells; a table is changed: walked. -/
namespace Go.Proofs.YtldkgicmfbofiaaGreatDoor
open Go.Eng Go.Kb

instance : Enc chcells 20 := ⟨chcells_size, fun x => by
 have h : (rcells x.r).all (·.oneCell') = true := Enc.one x.r
 rw [chcells, Array.all_append, h]; simp [Value.oneCell']⟩
instance : Deep Ch := Deep.flat chcells 20
instance : FlatT Ch chcells 20 := ⟨rfl, fun _ => rfl⟩
instance : Plain Ch := ⟨fun _ => rfl⟩
instance (x : Ch) : SizeIs (chcells x) 20 := ⟨chcells_size x, Enc.one x⟩
instance (x : Ch) : PartAt (chcells x) 0 19 (rcells x.r) := ⟨rcells_size _, fun j hj => by rw [Nat.zero_add]; exact chcells_r x j hj⟩
instance (x : Ch) : PartAt (chcells x) 0 18 (pcells x.r.p) := ⟨pcells_size _, fun j hj => by rw [Nat.zero_add]; exact (chcells_r x j (by omega)).trans (rcells_p x.r j hj)⟩
instance (x : Ch) : CellAt (chcells x) 19 (.bool x.gone) := ⟨chcells_g x⟩
instance (x : Ch) : CellAt (chcells x) 18 (.int .u16 x.r.hop.toNat) := ⟨(chcells_r x 18 (by decide)).trans (rcells_hop x.r)⟩
instance (x : Ch) : CellAt (chcells x) 0 (.int .i64 x.r.p.bits) := ⟨(chcells_r x 0 (by decide)).trans ((rcells_p x.r 0 (by decide)).trans (pcells_0 x.r.p))⟩
instance (x : Ch) : CellAt (chcells x) 1 (.int .i64 x.r.p.len) := ⟨(chcells_r x 1 (by decide)).trans ((rcells_p x.r 1 (by decide)).trans (pcells_1 x.r.p))⟩
instance (x : Ch) : PartAt (chcells x) 2 16 (kcells x.r.p.key) := ⟨kcells_size _, fun j hj => (chcells_r x (2 + j) (by omega)).trans ((rcells_p x.r (2 + j) (by omega)).trans (pcells_k x.r.p j))⟩
instance : BuildT Tryz.prog 44 [] (.agg (chcells zch)) := ⟨fun w => by unfold chcells rcells pcells zch zroute; rw [kcells_zero]; kernel_rfl⟩
instance (r : Rt) : BuildT Tryz.prog 44 [(0, .agg (rcells r))] (.agg (chcells ⟨r, false⟩)) := ⟨fun w => by kernel_rfl⟩
instance : ZeroT Tryz.prog 44 (.agg (chcells zch)) := ⟨by unfold chcells rcells pcells zch zroute; rw [kcells_zero]; kernel_rfl⟩
theorem over_whole {cs vs : Array Value} (h : cs.size = vs.size) : over cs 0 vs = vs := by
 unfold over; apply Array.ext'; simp [← h]
set_option maxRecDepth 20000 in
theorem tchange_c (w0 w : World) (L : List Ent) (t : Sv) (ts : List Rt) (g : Ch) (hw : Mem w0 (own rcells 19 t ts :: L) w) (hpre : ts.length ≤ 1000) : Calls Tryz.prog 27 #[t.val, .agg (chcells g)] w fun e w' => ∃ zz : Sv, e = .returned (.tuple #[zz.val, .int .i64 (chgE ts g)]) ∧ (True) ∧ Mem w0 (own rcells 19 zz (chgL ts g) :: L) w' := by
 have hpn := placeN_le ts g.r.p
 refine calls_in (args := [_, _]) Tryz.func27 rfl Tryz.ntmps27 rfl hw ?_
 change Cw _ _ _ _ _ [(0, t.val), (1, .agg (chcells g))] (own rcells 19 t ts :: L)
 refine cw_seq ?_
 refine cw_region ?_
 refine sq_boxA rfl fun b3 => ?_
 refine sq_r (ry_assign rfl) ?_
 refine sq_r (ry_assign rfl) ?_
 refine sq_nil ?_
 refine ex_then ?_
 refine cw_seq ?_
 refine cw_seq ?_
 refine cw_region ?_
 refine sq_r (ry_field (o' := 0) rfl rfl) ?_
 refine sq_r (ry_field (o' := 0) rfl rfl) ?_
 refine sq_r (ry_part rfl) ?_
 refine sq_y (yl_callC rfl trivial) ?_
 refine sq_r (ry_not rfl) ?_
 refine sq_nil ?_
 refine ex_then ?_
 refine cw_cond rfl (fun h0 => ?_) (fun h0 => ?_)
 ·
  try simp only [bz0, bz1, bz2, bz3, bz4, bz5, bz6, bz7, bz8, bz9] at h0
  have hm : pmay g.r.p = false := h0
  have he : chgE ts g = 1 := by rw [chgE, if_neg (by rw [hm]; simp)]
  refine cw_seq ?_
  refine cw_region ?_
  refine sq_r (ry_move rfl) ?_
  refine sq_r (ry_assign rfl) ?_
  refine sq_r (ry_assign rfl) ?_
  refine sq_nil ?_
  refine ex_then ?_
  refine cw_ret ?_
  refine ex_pass_ret ?_
  refine ex_ret (.inl rfl) (res_2 rfl (rv_tmp rfl) (rv_tmp rfl)) (fun w1 hw => ?_)
  exact ⟨t, by rw [he], trivial, by rw [chgL, if_neg (by rw [he]; decide)]; exact Keep.mem hw⟩
 ·
  try simp only [bz0, bz1, bz2, bz3, bz4, bz5, bz6, bz7, bz8, bz9] at h0
  have hm : pmay g.r.p = true := h0
  refine cw_skip ?_
  refine ex_then ?_
  refine cw_seq ?_
  refine cw_region ?_
  refine sq_r (ry_move rfl) ?_
  refine sq_r (ry_field (o' := 0) rfl rfl) ?_
  refine sq_r (ry_field (o' := 0) rfl rfl) ?_
  refine sq_r (ry_part rfl) ?_
  refine sq_y (yl_callC rfl (by omega)) ?_
  refine sq_r (ry_move rfl) ?_
  refine sq_r (ry_extract (v := .int .i64 ((placeN ts g.r.p : Nat) : Int)) rfl rfl) ?_
  refine sq_r (ry_extract (v := .bool (placeB ts g.r.p)) rfl rfl) ?_
  refine sq_r (ry_assign rfl) ?_
  refine sq_r (ry_assign rfl) ?_
  refine sq_nil ?_
  refine ex_then ?_
  refine cw_seq ?_
  refine cw_block ?_
  refine cw_seq ?_
  refine cw_region ?_
  refine sq_r (ry_field (o' := 19) rfl rfl) ?_
  refine sq_r (ry_cellc rfl) ?_
  refine sq_r (ry_move rfl) ?_
  refine sq_gt rfl rfl rfl (fun hg => (Ry.yl (ry_move rfl))) ?_
  refine sq_gt rfl rfl rfl (fun hg => (Ry.yl (ry_not (ev_c hg rfl)))) ?_
  refine sq_r (ry_and rfl rfl rfl) ?_
  refine sq_r (ry_assign rfl) ?_
  refine sq_nil ?_
  refine ex_then ?_
  refine cw_cond rfl (fun h1 => ?_) (fun h1 => ?_)
  ·
   try simp only [bz0, bz1, bz2, bz3, bz4, bz5, bz6, bz7, bz8, bz9] at h1
   have he : chgE ts g = 6 := by rw [chgE, if_pos hm, if_neg (by rw [h1.2]; simp), if_pos h1.1]
   refine cw_seq ?_
   refine cw_region ?_
   refine sq_r (ry_move rfl) ?_
   refine sq_r (ry_assign rfl) ?_
   refine sq_r (ry_assign rfl) ?_
   refine sq_nil ?_
   refine ex_then ?_
   refine cw_ret ?_
   refine ex_block_ret ?_
   refine ex_pass_ret ?_
   refine ex_ret (.inl rfl) (res_2 rfl (rv_tmp rfl) (rv_tmp rfl)) (fun w1 hw => ?_)
   exact ⟨t, by rw [he], trivial, by rw [chgL, if_neg (by rw [he]; decide)]; exact Keep.mem hw⟩
  ·
   try simp only [bz0, bz1, bz2, bz3, bz4, bz5, bz6, bz7, bz8, bz9] at h1
   refine cw_seq ?_
   refine cw_region ?_
   refine sq_r (ry_field (o' := 19) rfl rfl) ?_
   refine sq_r (ry_cellc rfl) ?_
   refine sq_r (ry_assign rfl) ?_
   refine sq_nil ?_
   refine ex_then ?_
   refine cw_cond rfl (fun h2 => ?_) (fun h2 => ?_)
   ·
    try simp only [bz0, bz1, bz2, bz3, bz4, bz5, bz6, bz7, bz8, bz9] at h2
    have hb : placeB ts g.r.p = true := by rcases h1 with h | h; (rw [h2] at h; cases h); exact h
    have he : chgE ts g = 0 := by rw [chgE, if_pos hm, if_pos hb]
    have hl : chgL ts g = ts.take (placeN ts g.r.p) ++ ts.drop ((placeN ts g.r.p) + 1) := by rw [chgL, if_pos he, if_pos h2]
    obtain ⟨r0, _, hr0, _⟩ := place_in hb
    have hpl := (List.getElem?_eq_some_iff.1 hr0).1
    refine cw_seq ?_
    refine cw_region ?_
    refine sq_r (ry_move rfl) ?_
    refine sq_r (ry_move rfl) ?_
    refine sq_r (ry_move rfl) ?_
    refine sq_r (Ry.to (v' := .int .i64 (((placeN ts g.r.p) + 1 : Nat) : Int)) (ry_add rfl rfl (by omega)) rfl) ?_
    refine sq_callC rfl ⟨by omega, by omega⟩ fun x37 hp37 => ?_
    refine sq_r (ry_assign rfl) ?_
    refine sq_r (ry_assign rfl) ?_
    refine sq_nil ?_
    refine ex_then ?_
    refine cw_ret ?_
    refine ex_block_ret ?_
    refine ex_pass_ret ?_
    refine ex_ret (.inl rfl) (res_2 rfl (rv_tmp rfl) (rv_tmp rfl)) (fun w1 hw => ?_)
    exact ⟨x37, by rw [he], trivial, by rw [hl]; exact Keep.mem hw⟩
   ·
    try simp only [bz0, bz1, bz2, bz3, bz4, bz5, bz6, bz7, bz8, bz9] at h2
    refine cw_seq ?_
    refine cw_region ?_
    refine sq_r (ry_move rfl) ?_
    refine sq_r (ry_assign rfl) ?_
    refine sq_nil ?_
    refine ex_then ?_
    refine cw_cond rfl (fun h3 => ?_) (fun h3 => ?_)
    ·
     try simp only [bz0, bz1, bz2, bz3, bz4, bz5, bz6, bz7, bz8, bz9] at h3
     have hb : placeB ts g.r.p = true := h3
     have he : chgE ts g = 0 := by rw [chgE, if_pos hm, if_pos hb]
     have hl : chgL ts g = ts.set (placeN ts g.r.p) g.r := by rw [chgL, if_pos he, if_neg (by rw [h2]; simp), if_pos hb]
     obtain ⟨r0, _, hr0, _⟩ := place_in hb
     have hpl := (List.getElem?_eq_some_iff.1 hr0).1
     refine cw_seq ?_
     refine cw_region ?_
     refine sq_r (ry_move rfl) ?_
     refine sq_r (ry_move rfl) ?_
     refine sq_r (ry_field (o' := 0) rfl rfl) ?_
     refine sq_r (ry_part rfl) ?_
     refine sq_r (ry_idxH rfl rfl (placeN ts g.r.p) rfl hpl) ?_
     refine sq_storeS (n := 19) (k := (placeN ts g.r.p)) (j := 0) (a := r0) (a' := g.r) (xs := ts) (enc := rcells) (c := 19) (v := .agg (rcells g.r)) (by kernel_rfl) rfl rfl rfl hr0 (Enc.one g.r) (rcells_size g.r) (by decide) (over_whole (by rw [rcells_size]; exact (rcells_size g.r).symm)) ?_
     refine sq_nil ?_
     refine ex_then ?_
     refine cw_seq ?_
     refine cw_region ?_
     refine sq_r (ry_move rfl) ?_
     refine sq_r (ry_assign rfl) ?_
     refine sq_r (ry_assign rfl) ?_
     refine sq_nil ?_
     refine ex_then ?_
     refine cw_ret ?_
     refine ex_block_ret ?_
     refine ex_pass_ret ?_
     refine ex_ret (.inl rfl) (res_2 rfl (rv_tmp rfl) (rv_tmp rfl)) (fun w1 hw => ?_)
     exact ⟨t, by rw [he], trivial, by rw [hl]; exact Keep.mem hw⟩
    ·
     try simp only [bz0, bz1, bz2, bz3, bz4, bz5, bz6, bz7, bz8, bz9] at h3
     refine cw_seq ?_
     refine cw_region ?_
     refine sq_r (ry_move rfl) ?_
     refine sq_r (ry_lenH rfl) ?_
     refine sq_r (ry_int rfl rfl rfl) ?_
     refine sq_r (ry_assign rfl) ?_
     refine sq_nil ?_
     refine ex_then ?_
     refine cw_cond rfl (fun h4 => ?_) (fun h4 => ?_)
     ·
      try simp only [bz0, bz1, bz2, bz3, bz4, bz5, bz6, bz7, bz8, bz9] at h4
      have he : chgE ts g = 5 := by rw [chgE, if_pos hm, if_neg (by rw [h3]; simp), if_neg (by rw [h2]; simp), if_pos (by omega)]
      refine cw_seq ?_
      refine cw_region ?_
      refine sq_r (ry_move rfl) ?_
      refine sq_r (ry_assign rfl) ?_
      refine sq_r (ry_assign rfl) ?_
      refine sq_nil ?_
      refine ex_then ?_
      refine cw_ret ?_
      refine ex_block_ret ?_
      refine ex_pass_ret ?_
      refine ex_ret (.inl rfl) (res_2 rfl (rv_tmp rfl) (rv_tmp rfl)) (fun w1 hw => ?_)
      exact ⟨t, by rw [he], trivial, by rw [chgL, if_neg (by rw [he]; decide)]; exact Keep.mem hw⟩
     ·
      try simp only [bz0, bz1, bz2, bz3, bz4, bz5, bz6, bz7, bz8, bz9] at h4
      have he : chgE ts g = 0 := by rw [chgE, if_pos hm, if_neg (by rw [h3]; simp), if_neg (by rw [h2]; simp), if_neg (by omega)]
      have hl : chgL ts g = ts.take (placeN ts g.r.p) ++ g.r :: ts.drop (placeN ts g.r.p) := by rw [chgL, if_pos he, if_neg (by rw [h2]; simp), if_neg (by rw [h3]; simp)]
      refine cw_skip ?_
      refine ex_block ?_
      refine ex_then ?_
      refine cw_seq ?_
      refine cw_region ?_
      refine sq_r (ry_move rfl) ?_
      refine sq_r (ry_move rfl) ?_
      refine sq_r (ry_field (o' := 0) rfl rfl) ?_
      refine sq_r (ry_part rfl) ?_
      refine sq_buildSlice (enc := rcells) (vals := [_]) [g.r] rfl rfl rfl (by decide) (by decide) fun b55 => ?_
      refine sq_callC rfl ⟨by omega, by omega⟩ fun x56 hp56 => ?_
      refine sq_r (ry_assign rfl) ?_
      refine sq_r (ry_assign rfl) ?_
      refine sq_nil ?_
      refine ex_then ?_
      refine cw_ret ?_
      refine ex_ret (.inl rfl) (res_2 rfl (rv_tmp rfl) (rv_tmp rfl)) (fun w1 hw => ?_)
      exact ⟨x56, by rw [he], trivial, by rw [hl]; exact Keep.mem hw⟩
instance tchange_i {w0 : World} {L R : List Ent} {i : Nat} {t : Sv} {ts : List Rt} {g : Ch} [q : Owns L t rcells 19 ts i] [d : DelI L i R] : FnC Tryz.prog 27 w0 L [t.val, .agg (chcells g)] (Sv) (fun zz => .tuple #[zz.val, .int .i64 (chgE ts g)]) (fun zz => own rcells 19 zz (chgL ts g) :: R) (fun zz => True) (ts.length ≤ 1000) := ⟨fun hp w hw => tchange_c w0 w R t ts g (mem_one q.h d.h hw) hp⟩
set_option maxRecDepth 20000 in
theorem tapply_c (w : World) (t : Sv) (ts : List Rt) (l : Sv) (ls : List Ch) (ht : Lies rcells 19 (hp w) t ts) (hl : Lies chcells 20 (hp w) l ls) (hpre : ts.length ≤ 1000000) : Calls Tryz.prog 10 #[t.val, l.val] w fun e w' => ∃ zz : Sv, e = .returned (.tuple #[zz.val, .int .i64 (appE ts ls)]) ∧ (True) ∧ Mem w [own rcells 19 zz (appL ts ls)] w' := by
 have ght : Gv w t rcells 19 ts := ⟨ht⟩
 have ghl : Gv w l chcells 20 ls := ⟨hl⟩
 have hlb := hl.bd
 refine calls_of (args := [_, _]) Tryz.func10 rfl Tryz.ntmps10 rfl ?_
 change Cw _ _ _ _ _ [(0, t.val), (1, l.val)] []
 refine cw_seq ?_
 refine cw_region ?_
 refine sq_r (ry_assign rfl) ?_
 refine sq_r (ry_assign rfl) ?_
 refine sq_nil ?_
 refine ex_then ?_
 refine cw_seq ?_
 refine cw_seq ?_
 refine cw_region ?_
 refine sq_r (ry_move rfl) ?_
 refine sq_y (yl_callC rfl trivial) ?_
 refine sq_r (ry_not rfl) ?_
 refine sq_nil ?_
 refine ex_then ?_
 refine cw_cond rfl (fun h0 => ?_) (fun h0 => ?_)
 ·
  try simp only [bz0, bz1, bz2, bz3, bz4, bz5, bz6, bz7, bz8, bz9] at h0
  have he : appE ts ls = 1 := if_neg (by rw [h0]; simp)
  have ha : appL ts ls = ts := by rw [appL, if_neg (by rw [he]; decide)]
  refine cw_seq ?_
  refine cw_region ?_
  refine sq_r (ry_move rfl) ?_
  refine sq_callC rfl (by omega) fun x14 hp14 => ?_
  refine sq_r (ry_assign rfl) ?_
  refine sq_r (ry_assign rfl) ?_
  refine sq_nil ?_
  refine ex_then ?_
  refine cw_ret ?_
  refine ex_pass_ret ?_
  refine ex_ret (.inl rfl) (res_2 rfl (rv_tmp rfl) (rv_tmp rfl)) (fun w1 hw => ?_)
  exact ⟨x14, by rw [he], trivial, by rw [ha]; exact Keep.mem hw⟩
 ·
  try simp only [bz0, bz1, bz2, bz3, bz4, bz5, bz6, bz7, bz8, bz9] at h0
  have hr : tright ts = true := h0
  have hlen := tr_len hr
  refine cw_skip ?_
  refine ex_then ?_
  refine cw_seq ?_
  refine cw_region ?_
  refine sq_r (ry_move rfl) ?_
  refine sq_callC rfl (by omega) fun x16 hp16 => ?_
  refine sq_r (ry_assign rfl) ?_
  refine sq_nil ?_
  refine ex_then ?_
  refine cw_seq ?_
  refine cw_seq ?_
  refine cw_region ?_
  refine sq_r (ry_move rfl) ?_
  refine sq_r (ry_lenH rfl) ?_
  refine sq_r (ry_move rfl) ?_
  refine sq_nil ?_
  refine ex_then ?_
  refine cw_block ?_
  refine cw_loop (X := Nat × Sv × List Rt) (fun zz => [(19, .int .i64 (zz.1 : Nat)), (6, zz.2.1.val), (0, t.val), (17, l.val), (18, .int .i64 (ls.length : Nat))]) (fun zz => [own rcells 19 zz.2.1 zz.2.2]) (fun zz => zz.1 ≤ ls.length ∧ appF ts ls = appF zz.2.2 (ls.drop zz.1) ∧ zz.2.2.length ≤ 256) (fun zz => ls.length - zz.1) (0, x16, ts) ⟨Nat.zero_le _, rfl, hlen⟩ (Sub.cons rfl (Sub.cons rfl (Sub.cons rfl (Sub.cons rfl (Sub.cons rfl (Sub.nil _)))))) (fun w hw => Keep.mem hw) ?_
  rintro ⟨i, s1, q⟩ ⟨hi1, hi2, hi3⟩
  dsimp only
  simp only at hi1 hi2 hi3
  refine cw_seq ?_
  refine cw_region ?_
  refine sq_r (ry_int rfl rfl rfl) ?_
  refine sq_nil ?_
  refine ex_then ?_
  refine cw_seq ?_
  refine cw_cond rfl (fun h1 => ?_) (fun h1 => ?_)
  ·
   try simp only [bz0, bz1, bz2, bz3, bz4, bz5, bz6, bz7, bz8, bz9] at h1
   refine cw_skip ?_
   refine ex_then ?_
   refine cw_seq ?_
   refine cw_block ?_
   refine cw_seq ?_
   refine cw_region ?_
   obtain ⟨g, hg⟩ := get_some (xs := ls) (i := i) (by omega)
   refine sq_r (ry_idxH rfl rfl i rfl (by omega)) ?_
   refine sq_r (ry_elemH rfl i hg rfl) ?_
   refine sq_allocA fun b8 => ?_
   refine sq_storeW rfl rfl ?_
   refine sq_nil ?_
   refine ex_then ?_
   refine cw_seq ?_
   refine cw_region ?_
   refine sq_r (ry_assign rfl) ?_
   refine sq_nil ?_
   refine ex_then ?_
   refine cw_seq ?_
   refine cw_region ?_
   refine sq_r (ry_move rfl) ?_
   refine sq_r (ry_whole rfl) ?_
   refine sq_callC rfl (by omega) fun x26 hp26 => ?_
   refine sq_r (ry_move rfl) ?_
   refine sq_r (ry_extract (v := x26.val) rfl rfl) ?_
   refine sq_r (ry_extract (v := .int .i64 (chgE q g)) rfl rfl) ?_
   refine sq_r (ry_assign rfl) ?_
   refine sq_r (ry_assign rfl) ?_
   refine sq_nil ?_
   refine ex_then ?_
   refine cw_seq ?_
   refine cw_region ?_
   refine sq_r (ry_move rfl) ?_
   refine sq_r (ry_int rfl rfl rfl) ?_
   refine sq_nil ?_
   refine ex_then ?_
   refine cw_cond rfl (fun h2 => ?_) (fun h2 => ?_)
   ·
    try simp only [bz0, bz1, bz2, bz3, bz4, bz5, bz6, bz7, bz8, bz9] at h2
    have hce : ¬ chgE q g = 0 := h2
    have ef : appF ts ls = (q, chgE q g) := by rw [hi2, appF_step hg, if_neg hce]
    have he : appE ts ls = chgE q g := by rw [appE, if_pos hr, ef]
    have ha : appL ts ls = ts := by rw [appL, if_neg (by rw [he]; exact hce)]
    refine cw_seq ?_
    refine cw_region ?_
    refine sq_r (ry_move rfl) ?_
    refine sq_callC rfl (by omega) fun x32 hp32 => ?_
    refine sq_r (ry_move rfl) ?_
    refine sq_r (ry_assign rfl) ?_
    refine sq_r (ry_assign rfl) ?_
    refine sq_nil ?_
    refine ex_then ?_
    refine cw_ret ?_
    refine ex_block_ret ?_
    refine ex_pass_ret ?_
    refine ex_pass_ret ?_
    refine ex_block_ret ?_
    refine ex_pass_ret ?_
    refine ex_ret (.inl rfl) (res_2 rfl (rv_tmp rfl) (rv_tmp rfl)) (fun w1 hw => ?_)
    exact ⟨x32, by rw [he], trivial, by rw [ha]; exact Keep.mem hw⟩
   ·
    try simp only [bz0, bz1, bz2, bz3, bz4, bz5, bz6, bz7, bz8, bz9] at h2
    refine cw_skip ?_
    refine ex_block ?_
    refine ex_then ?_
    refine cw_region ?_
    refine sq_r (ry_add rfl rfl (by omega)) ?_
    refine sq_r (ry_move rfl) ?_
    refine sq_nil ?_
    exact ex_again (x := (i, s1, q)) (i + 1, x26, chgL q g) ⟨by first | omega | (simp only []; omega), by rw [hi2, appF_step hg, if_pos h2], chgL_len hi3 g⟩ (by simp only; omega) (Sub.cons rfl (Sub.cons rfl (Sub.cons rfl (Sub.cons rfl (Sub.cons rfl (Sub.nil _)))))) (fun w hw => Keep.mem hw)
  ·
   try simp only [bz0, bz1, bz2, bz3, bz4, bz5, bz6, bz7, bz8, bz9] at h1
   obtain rfl : i = ls.length := by omega
   have ef : appF ts ls = (q, 0) := by rw [hi2, List.drop_length]; rfl
   have he : appE ts ls = 0 := by rw [appE, if_pos hr, ef]
   have ha : appL ts ls = q := by rw [appL, if_pos he, ef]
   refine cw_exit ?_
   refine ex_pass_exit ?_
   refine ex_pass_exit ?_
   refine ex_block_hit ?_
   refine ex_then ?_
   refine cw_seq ?_
   refine cw_region ?_
   refine sq_r (ry_move rfl) ?_
   refine sq_r (ry_assign rfl) ?_
   refine sq_r (ry_assign rfl) ?_
   refine sq_nil ?_
   refine ex_then ?_
   refine cw_ret ?_
   refine ex_ret (.inl rfl) (res_2 rfl (rv_tmp rfl) (rv_tmp rfl)) (fun w1 hw => ?_)
   exact ⟨s1, by rw [he], trivial, by rw [ha]; exact Keep.mem hw⟩
instance tapply_i {w0 : World} {L : List Ent} {t : Sv} {ts : List Rt} {l : Sv} {ls : List Ch} [ht : HdE w0 L rcells 19 t ts] [hl : HdE w0 L chcells 20 l ls] : FnC Tryz.prog 10 w0 L [t.val, l.val] (Sv) (fun zz => .tuple #[zz.val, .int .i64 (appE ts ls)]) (fun zz => own rcells 19 zz (appL ts ls) :: L) (fun zz => True) (ts.length ≤ 1000000) := ⟨fun hp w hw => (tapply_c w t ts l ls (ht.h w hw) (hl.h w hw) hp).mono fun e w' ⟨x, h1, h2, h3⟩ => ⟨x, h1, h2, hw.call h3⟩⟩

end Go.Proofs.YtldkgicmfbofiaaGreatDoor

/- The sum of bytes: one byte changed is another sum. No program in sight. -/
namespace Go.Kb

def crcP : Nat := 3988292384
def crcT (n : Nat) : Nat := (n / 2) ^^^ (if n % 2 = 1 then crcP else 0)
theorem crcT_lt {n : Nat} (h : n < 2 ^ 32) : crcT n < 2 ^ 32 := by
  refine Nat.xor_lt_two_pow (by omega) ?_
  split
  · decide
  · decide
theorem crcT_bit {n : Nat} (h : n < 2 ^ 32) : (crcT n).testBit 31 = decide (n % 2 = 1) := by
  have h1 : (n / 2).testBit 31 = false := Nat.testBit_lt_two_pow (by omega)
  rw [crcT, Nat.testBit_xor, h1]
  by_cases e : n % 2 = 1
  · rw [if_pos e, decide_eq_true e]; decide
  · rw [if_neg e, decide_eq_false e]; decide
theorem crcT_inj {a b : Nat} (ha : a < 2 ^ 32) (hb : b < 2 ^ 32) (h : crcT a = crcT b) : a = b := by
  have h1 := crcT_bit ha
  rw [h, crcT_bit hb] at h1
  have h2 : a % 2 = b % 2 := by
    by_cases e : b % 2 = 1
    · rw [decide_eq_true e] at h1; have := of_decide_eq_true h1.symm; omega
    · rw [decide_eq_false e] at h1; have := of_decide_eq_false h1.symm; omega
  have h3 := congrArg (fun x => x ^^^ (if b % 2 = 1 then crcP else 0)) h
  simp only [crcT, h2, Nat.xor_assoc, Nat.xor_self, Nat.xor_zero] at h3
  omega
def crcN (n : Nat) : Nat → Nat
  | 0 => n
  | k + 1 => crcT (crcN n k)
theorem crcN_lt {n : Nat} (h : n < 2 ^ 32) : ∀ k, crcN n k < 2 ^ 32
  | 0 => h
  | k + 1 => crcT_lt (crcN_lt h k)
theorem crcN_inj {a b : Nat} (ha : a < 2 ^ 32) (hb : b < 2 ^ 32) : ∀ k, crcN a k = crcN b k → a = b
  | 0, h => h
  | k + 1, h => crcN_inj ha hb k (crcT_inj (crcN_lt ha k) (crcN_lt hb k) h)
def crcB (n : Nat) (b : UInt8) : Nat := crcN (n ^^^ b.toNat) 8
theorem crcB_lt {n : Nat} {b : UInt8} (h : n < 2 ^ 32) : crcB n b < 2 ^ 32 := crcN_lt (Nat.xor_lt_two_pow h (by have := b.toNat_lt; omega)) 8
theorem xor_cancel {a b c : Nat} (h : a ^^^ c = b ^^^ c) : a = b := by
  have := congrArg (fun x => x ^^^ c) h
  simpa only [Nat.xor_assoc, Nat.xor_self, Nat.xor_zero] using this
theorem crcB_inj {a b : Nat} {x : UInt8} (ha : a < 2 ^ 32) (hb : b < 2 ^ 32) (h : crcB a x = crcB b x) : a = b :=
  xor_cancel (crcN_inj (Nat.xor_lt_two_pow ha (by have := x.toNat_lt; omega)) (Nat.xor_lt_two_pow hb (by have := x.toNat_lt; omega)) 8 h)
theorem crcB_byte {a : Nat} {x y : UInt8} (ha : a < 2 ^ 32) (h : crcB a x = crcB a y) : x = y := by
  have := crcN_inj (Nat.xor_lt_two_pow ha (by have := x.toNat_lt; omega)) (Nat.xor_lt_two_pow ha (by have := y.toNat_lt; omega)) 8 h
  rw [Nat.xor_comm a, Nat.xor_comm a] at this
  exact UInt8.toNat_inj.1 (xor_cancel this)
def crcS (n : Nat) (l : List UInt8) : Nat := l.foldl crcB n
theorem crcS_lt {n : Nat} (h : n < 2 ^ 32) : ∀ l, crcS n l < 2 ^ 32
  | [] => h
  | b :: l => crcS_lt (crcB_lt h) l
theorem crcS_inj {a b : Nat} (ha : a < 2 ^ 32) (hb : b < 2 ^ 32) : ∀ l, crcS a l = crcS b l → a = b
  | [], h => h
  | x :: l, h => crcB_inj ha hb (crcS_inj (crcB_lt ha) (crcB_lt hb) l h)
theorem crcS_snoc {n : Nat} {l : List UInt8} {i : Nat} {b : UInt8} (h : l[i]? = some b) : crcS n (l.take (i + 1)) = crcB (crcS n (l.take i)) b := by
  rw [List.take_add_one, h, crcS, crcS, List.foldl_append]; rfl
def crc (l : List UInt8) : Nat := 4294967295 - crcS 4294967295 l
theorem crc_lt (l : List UInt8) : crc l < 2 ^ 32 := by unfold crc; omega
theorem crc_one {l : List UInt8} {i : Nat} {x y : UInt8} (hx : l[i]? = some x) (hne : x ≠ y) : crc (l.set i y) ≠ crc l := by
  have h0 : (4294967295 : Nat) < 2 ^ 32 := by decide
  obtain ⟨hi, hx'⟩ := List.getElem?_eq_some_iff.1 hx
  have e1 : l = l.take i ++ x :: l.drop (i + 1) := by rw [← hx', List.getElem_cons_drop, List.take_append_drop]
  have e2 : l.set i y = l.take i ++ y :: l.drop (i + 1) := by rw [List.set_eq_take_append_cons_drop, if_pos hi]
  intro h
  have k1 := crcS_lt h0 l
  have k2 := crcS_lt h0 (l.set i y)
  have h3 : crcS 4294967295 (l.set i y) = crcS 4294967295 l := by unfold crc at h; omega
  rw [e2] at h3
  rw [e1] at h3
  have h4 : crcS (crcB (crcS 4294967295 (l.take i)) y) (l.drop (i + 1)) = crcS (crcB (crcS 4294967295 (l.take i)) x) (l.drop (i + 1)) := by
    have := h3
    simp only [crcS, List.foldl_append, List.foldl_cons] at this ⊢
    rw [← e1] at this
    exact this
  have k3 := crcS_lt h0 (l.take i)
  exact hne (crcB_byte k3 (crcS_inj (crcB_lt k3) (crcB_lt k3) _ h4)).symm
end Go.Kb

/- A row told shorter; zero values behind the nil slice; a slice whose elements are known one by one. -/
namespace Go.Eng
open Go.RowKit
section
variable {α : Type} {enc : α → Array Value} {c : Nat} {s : Sv} {xs : List α}
theorem Mem.ownTake {w0 w : World} {L : List Ent} {i k : Nat} (hw : Mem w0 L w) (hi : L[i]? = some (own enc c s xs)) (hk : k ≤ xs.length) : Mem w0 (L.set i (own enc c (s.sub c 0 k) (xs.take k))) w := by
  obtain ⟨r, hrow⟩ := hw.get hi
  have r2 := r.sub (lo := 0) (hi := k) (Nat.zero_le _) hk
  rw [List.drop_zero, Nat.sub_zero] at r2
  refine hw.change hi (fun k hk => hk) (fun _ _ => rfl) rfl ⟨rfl, rfl, rfl⟩ ⟨r2, fun hn => ?_⟩
  obtain ⟨h1, cs, T, fz, h2, h3, h4, h5⟩ := hrow hn
  refine ⟨h1, cs, T, fz, h2, ?_, h4, h5⟩
  rw [Sv.sub_0]; exact h3
end
section
variable {P : Program} {N : Fra} {w0 : World} {env : Env} {L : List Ent} {Q : Exit → Act → World → Prop} {l rest : List Oper} {d : Option Tmp} {ty : TypeId} {ps : String} {af : Array Edge} {gd : Option (Nat × Bool)}
variable {α : Type} {enc : α → Array Value} {c : Nat} {xs : List α}
theorem sq_appendN {x y : Operand} {tx tys e : TypeId} {by' k : Nat} {z : Value} {kn kq : IntKind} {iy : Int} (x0 : α) (hx : ev env x = some (.slice none 0 0)) (hy : ev env y = some (.int kq iy)) (hk0 : iy = (k : Int)) (h0 : 0 < k)
    [ht : SlT P tx e c by'] [he : Enc enc c] (hc : 0 < c) [hz : ZeroT P e z] (hz0 : enc x0 = z.cells) (htn : P.underlying tys = some (.int kn)) (hb : k * by' ≤ 140737488355328) (h63 : k ≤ 140737488355328)
    (hk : ∀ b C : Nat, k ≤ C → Sq P N w0 l Q rest (putE env d (Sv.val ⟨false, b, 0, k, C, none⟩)) (own enc c ⟨false, b, 0, k, C, none⟩ (List.replicate k x0) :: L)) (hd : dstOk N d = true := by rfl) :
    Sq P N w0 l Q (⟨d, .call { callee := .builtin .append, args := #[x, y], argTypes := #[tx, tys] }, ty, ps, af, none⟩ :: rest) env L :=
  sq_run rfl hd fun aa w ha hw => by
    subst hk0
    obtain ⟨i', z', hi1, hi2, hi3, hi4, hzc⟩ := ht.info
    obtain rfl : z' = z := by
      have := hz.zero
      rw [hi1, Option.map_some, hi2] at this; exact Option.some.inj (Option.some.inj this)
    subst hi3 hi4
    have hrun := Lib.run_append_nil_zeros (P := P) w tx tys ty e i' z' kq kn ht.und htn hi1 hi2 k h0 hc (by omega) (by omega)
    have hcge := grownCap_ge w k 0 e
    generalize grownCap w k 0 e = C at hrun hcge
    have hZ1 := size_zeroCells z'.cells k
    have hZ2 := size_zeroCells z'.cells (C - k)
    have hgetZ : ∀ m i j, i < m → j < i'.size → (Builtin.zeroCells z'.cells m)[i * i'.size + j]? = z'.cells[j]? := fun m i j hi hj => by
      have hlt : i * i'.size + j < m * z'.cells.size := by
        rw [hzc]
        have : (i + 1) * i'.size ≤ m * i'.size := Nat.mul_le_mul_right _ hi
        rw [Nat.add_mul] at this; omega
      have e1 : (i * i'.size + j) % z'.cells.size = j := by rw [hzc, Nat.mul_comm, Nat.mul_add_mod]; exact Nat.mod_eq_of_lt hj
      have hz3 : j < z'.cells.size := by omega
      simp [Builtin.zeroCells, hlt, e1, hz3]
    refine ⟨_, _, _, ?_, hw.drew.call (mem_new (enc := enc) (c := i'.size) (xs := List.replicate k x0) (cs := Builtin.zeroCells z'.cells k ++ Builtin.zeroCells z'.cells (C - k)) (e := e) rfl k C (by simp) hcge h63 ?_ fun i x hx j hj => ?_), hk _ C hcge⟩
    · simp [execOp, ha.ev hx, ha.ev hy, resolve, invoke, builtin, hrun, Result.andThen, Sv.val]
    · rw [Array.size_append, hZ1, hZ2, hzc, ← Nat.add_mul]; exact Nat.mul_le_mul_right _ (by omega)
    · have hi : i < k := by
        have := (List.getElem?_eq_some_iff.1 hx).1
        simpa using this
      obtain rfl : x0 = x := by rw [List.getElem?_replicate, if_pos hi] at hx; exact Option.some.inj hx
      rw [hz0, ← hgetZ k i j hi hj, Array.getElem?_append_left]
      rw [hZ1, hzc]
      have : (i + 1) * i'.size ≤ k * i'.size := Nat.mul_le_mul_right _ hi
      rw [Nat.add_mul] at this; omega
theorem ry_capN {t e : TypeId} {x : Operand} {m : Nat} [ht : SliceT P t e m] (hx : ev env x = some (.slice none 0 0)) :
    Ry P N w0 env L ⟨d, .call { callee := .builtin .cap, args := #[x], argTypes := #[t] }, ty, ps, af, gd⟩ (.int .i64 (0 : Nat)) := fun a w ha _ => by
  have hu : P.underlying t = some (.slice (P.elem t)) := by rw [elem_of ht.und]; exact ht.und
  have := run_cap_slice (P := P) (w := w) t ty none 0 0 hu
  simp [execOp, ha.ev hx, resolve, invoke, builtin, this, Result.andThen, goInt]
class AllG (w0 : World) (L : List Ent) {τ : Type} [Deep τ] (xs : List τ) : Prop where
  h : ∀ w, Mem w0 L w → ∀ x ∈ xs, Deep.good (hp w) x
instance AllG.nil {τ : Type} [Deep τ] : AllG w0 L ([] : List τ) := ⟨fun _ _ _ h => by cases h⟩
instance AllG.cons {τ : Type} [Deep τ] {x : τ} {xs : List τ} [a : HdD w0 L x] [b : AllG w0 L xs] : AllG w0 L (x :: xs) := ⟨fun w hw y hy => by
  rcases List.mem_cons.1 hy with rfl | hy
  · exact a.h w hw
  · exact b.h w hw y hy⟩
instance (priority := low) HdD.flat {τ : Type} [Deep τ] [Plain τ] {enc : τ → Array Value} {c : Nat} [FlatT τ enc c] {s : Sv} {xs : List τ} [q : HdE w0 L enc c s xs] : HdD w0 L (⟨s, xs⟩ : Sl τ) := ⟨fun w hw => by
  have hl := q.h w hw
  have e1 : Deep.cells (τ := τ) = enc := funext (FlatT.h (c := c))
  have e2 : Deep.c τ = c := FlatT.hc (enc := enc)
  refine ⟨?_, fun x _ => Deep.good_of _ x (by rw [Plain.h x]; exact trivial)⟩
  subst e1 e2
  exact hl⟩
instance (priority := low) HdD.rows {τ : Type} [Deep τ] {enc : τ → Array Value} {c : Nat} [FlatT τ enc c] {s : Sv} {xs : List τ} [q : HdE w0 L enc c s xs] [g : AllG w0 L xs] : HdD w0 L (⟨s, xs⟩ : Sl τ) := ⟨fun w hw => by
  have hl := q.h w hw
  have e1 : Deep.cells (τ := τ) = enc := funext (FlatT.h (c := c))
  have e2 : Deep.c τ = c := FlatT.hc (enc := enc)
  refine ⟨?_, g.h w hw⟩
  subst e1 e2
  exact hl⟩
theorem sq_nameD {τ : Type} [Deep τ] {s : Sv} {xs : List τ} [g : HdD w0 L (⟨s, xs⟩ : Sl τ)] (h : ∀ a : Sl τ, a = ⟨s, xs⟩ → HdD w0 L a → Sq P N w0 l Q rest (putE env d a.sv.val) L) : Sq P N w0 l Q rest (putE env d s.val) L := h _ rfl g
def flatB (l : List (Sl UInt8)) : List UInt8 := (l.map Sl.xs).flatten
theorem flatB_snoc {l : List (Sl UInt8)} {i : Nat} {x : Sl UInt8} (h : l[i]? = some x) : flatB (l.take (i + 1)) = flatB (l.take i) ++ x.xs := by
  rw [flatB, List.take_add_one, h]; simp [flatB]
theorem flatB_le (l : List (Sl UInt8)) (i : Nat) : (flatB (l.take i)).length ≤ (flatB l).length := by
  have e : flatB l = flatB (l.take i) ++ flatB (l.drop i) := by
    unfold flatB
    rw [← List.flatten_append, ← List.map_append, List.take_append_drop]
  rw [e, List.length_append]; omega
end
def sealed (l : List UInt8) : List UInt8 := l ++ be (Kb.crc l) 4
def openE (l : List UInt8) : Int := if l.length < 4 then 3 else if Kb.crc (l.take (l.length - 4)) = de (l.drop (l.length - 4)) then 0 else 4
def openV (l : List UInt8) : List UInt8 := if openE l = 0 then l.take (l.length - 4) else []
/-! Numbers as bytes, and back. -/
theorem de_foldl (l : List UInt8) : ∀ n, l.foldl (fun a b => a * 256 + b.toNat) n = n * 256 ^ l.length + de l := by
  induction l with
  | nil => intro n; simp [de]
  | cons x l ih =>
    intro n
    rw [List.foldl_cons, ih, show de (x :: l) = l.foldl (fun a b => a * 256 + b.toNat) (0 * 256 + x.toNat) from rfl, ih, List.length_cons, Nat.pow_succ]
    simp only [Nat.zero_mul, Nat.zero_add, Nat.add_mul]
    rw [Nat.mul_assoc n, Nat.mul_comm 256, Nat.add_assoc]
theorem de_cons (x : UInt8) (l : List UInt8) : de (x :: l) = x.toNat * 256 ^ l.length + de l := by
  rw [show de (x :: l) = l.foldl (fun a b => a * 256 + b.toNat) (0 * 256 + x.toNat) from rfl, de_foldl]; simp
theorem de_all (l : List UInt8) : de l < 256 ^ l.length := by
  have := de_lt l l.length (Nat.le_refl _)
  rwa [List.take_length] at this
theorem be_add (m n : Nat) : ∀ k, be (m * 256 ^ k + n) k = be n k
  | 0 => rfl
  | k + 1 => by
    have e : m * 256 ^ (k + 1) + n = (m * 256) * 256 ^ k + n := by rw [Nat.pow_succ, Nat.mul_assoc, Nat.mul_comm 256]
    rw [be, be, e, be_add (m * 256) n k, Nat.add_comm, Nat.add_mul_div_right _ _ (Nat.pow_pos (by decide))]
    congr 1
    apply UInt8.toNat_inj.1
    rw [b8_toNat, b8_toNat]; omega
theorem be_de : ∀ l : List UInt8, be (de l) l.length = l
  | [] => rfl
  | x :: l => by
    have h := de_all l
    rw [de_cons, List.length_cons, be, be_add, be_de l, Nat.add_comm, Nat.add_mul_div_right _ _ (Nat.pow_pos (by decide)), Nat.div_eq_of_lt h, Nat.zero_add, b8_of]
theorem de_be (n : Nat) : ∀ k, de (be n k) = n % 256 ^ k
  | 0 => by simp [be, de, Nat.mod_one]
  | k + 1 => by
    rw [be, de_cons, be_length, de_be n k, b8_toNat, Nat.pow_succ, Nat.mod_mul, Nat.mul_comm, Nat.add_comm]
theorem open_iff {l : List UInt8} (h : ¬ l.length < 4) : sealed (l.take (l.length - 4)) = l ↔ Kb.crc (l.take (l.length - 4)) = de (l.drop (l.length - 4)) := by
  have hd : (l.drop (l.length - 4)).length = 4 := by simp; omega
  have e : l = l.take (l.length - 4) ++ l.drop (l.length - 4) := (List.take_append_drop _ _).symm
  constructor
  · intro h1
    have h2 : be (Kb.crc (l.take (l.length - 4))) 4 = l.drop (l.length - 4) := by
      have h3 : l.take (l.length - 4) ++ be (Kb.crc (l.take (l.length - 4))) 4 = l.take (l.length - 4) ++ l.drop (l.length - 4) := by rw [← e]; exact h1
      exact List.append_cancel_left h3
    rw [← h2, de_be, Nat.mod_eq_of_lt (Nat.lt_of_lt_of_le (Kb.crc_lt _) (by decide))]
  · intro h1
    have h2 := be_de (l.drop (l.length - 4))
    rw [hd, ← h1] at h2
    rw [sealed, h2, ← e]
def openS (b : Sv) (l : List UInt8) : Sv := if openE l = 0 then b.sub 1 0 (l.length - 4) else Sv.none
instance {w0 : World} {L : List Ent} {b : Sv} {l : List UInt8} [q : HdE w0 L benc 1 b l] : HdE w0 L benc 1 (openS b l) (openV l) := ⟨fun w hw => by
  unfold openS openV
  split
  · have := (q.h w hw).sub (lo := 0) (hi := l.length - 4) (Nat.zero_le _) (by omega)
    rwa [List.drop_zero, Nat.sub_zero] at this
  · exact Lies.nil benc 1 _⟩
end Go.Eng

/- A slice that is either one that the call was given, or one of its own. -/
namespace Go.Eng
open Go.RowKit
section
variable {w0 : World} {L : List Ent} {α : Type} {enc : α → Array Value} {c : Nat} {xs ys : List α} {s t : Sv} {g : Bool}
def selE (g : Bool) (e : Ent) : Ent := if g = true then .emp else e
class SelG (g : Bool) (s : Sv) {α : outParam Type} (xs : outParam (List α)) (t : outParam Sv) (ys : outParam (List α)) : Prop where
  h : g = true → s = t ∧ xs = ys
class OwnsS (L : List Ent) (s : Sv) {α : outParam Type} (enc : outParam (α → Array Value)) (c : outParam Nat) (xs : outParam (List α)) (g : outParam Bool) (i : outParam Nat) : Prop where
  h : L[i]? = some (selE g (own enc c s xs))
instance (priority := high) OwnsS.here {L : List Ent} : OwnsS (selE g (own enc c s xs) :: L) s enc c xs g 0 := ⟨rfl⟩
instance OwnsS.there {L : List Ent} {e : Ent} {i : Nat} [q : OwnsS L s enc c xs g i] : OwnsS (e :: L) s enc c xs g (i + 1) := ⟨by simpa using q.h⟩
instance (priority := low) Hd.sel {i : Nat} [q : OwnsS L s enc c xs g i] [r : SelG g s xs t ys] [h : HdE w0 L enc c t ys] : Hd w0 L s enc c xs := ⟨fun w hw => by
  cases hg : g with
  | true =>
    obtain ⟨rfl, rfl⟩ := r.h hg
    exact h.h w hw
  | false =>
    have e : (own enc c s xs).sat (fun k => w.heap[k]?) := by
      have := hw.get q.h
      rw [hg] at this; exact this
    exact e.1⟩
theorem Mem.selT {e : Ent} {w : World} (h : Mem w0 L w) : Mem w0 (selE true e :: L) w := Mem.emp_iff.2 h
theorem Mem.selF {e : Ent} {w : World} (h : Mem w0 (e :: L) w) : Mem w0 (selE false e :: L) w := h
theorem Mem.selJoin {g g' : Bool} {s s' : Sv} {w : World} (h : Mem w0 (selE g' (own enc c s' ys) :: selE g (own enc c s xs) :: L) w) (hg : g' = true → s' = s ∧ ys = xs) : Mem w0 (selE (g' && g) (own enc c s' ys) :: L) w := by
  cases g' with
  | true =>
    obtain ⟨rfl, rfl⟩ := hg rfl
    exact Mem.emp_iff.1 h
  | false =>
    rw [Bool.false_and]
    exact h.sub (List.Sublist.cons_cons _ (List.sublist_cons_self _ _))
end
section
variable {P : Program} {N : Fra} {w0 : World} {env : Env} {L : List Ent} {l : List Oper} {Q : Exit → Act → World → Prop} {rest : List Oper} {d : Option Tmp} {ty : TypeId} {ps : String} {af : Array Edge}
theorem sq_gd {op} {j t : Nat} {b g : Bool} (hj : (l[j]?).bind (·.dst) = some t) (hv : look env t = some (.bool g)) (ht : g = b) (h : Sq P N w0 l Q (⟨d, op, ty, ps, af, none⟩ :: rest) env L) :
    Sq P N w0 l Q (⟨d, op, ty, ps, af, some (j, b)⟩ :: rest) env L := fun a w ha hw => by
  have h1 := h a w ha hw
  unfold wpList at h1 ⊢
  rw [if_pos (wanted_none rfl)] at h1
  rw [wanted_some ha rfl hj hv, ht, beq_self_eq_true, if_pos rfl]
  exact h1
end
/-! Slices of slices whose elements are others'. -/
section
variable {w0 : World} {L : List Ent} {τ : Type} [Deep τ]
instance (priority := low) AllG.of {a : Sl τ} [q : HdD w0 L a] : AllG w0 L a.xs := ⟨fun w hw => (q.h w hw).2⟩
instance AllG.append {xs ys : List τ} [a : AllG w0 L xs] [b : AllG w0 L ys] : AllG w0 L (xs ++ ys) := ⟨fun w hw x hx => by
  rcases List.mem_append.1 hx with h | h
  · exact a.h w hw x h
  · exact b.h w hw x h⟩
class Within (xs : List τ) (a : outParam (Sl τ)) : Prop where
  h : ∀ x ∈ xs, x ∈ a.xs
instance (priority := low) AllG.within {xs : List τ} {a : Sl τ} [q : Within xs a] [g : HdD w0 L a] : AllG w0 L xs := ⟨fun w hw x hx => (g.h w hw).2 x (q.h x hx)⟩
end
section
variable {w0 : World} {L : List Ent} {τ : Type} [Deep τ]
instance AllG.take {xs : List τ} {n : Nat} [q : AllG w0 L xs] : AllG w0 L (xs.take n) := ⟨fun w hw x hx => q.h w hw x (List.mem_of_mem_take hx)⟩
instance AllG.drop {xs : List τ} {n : Nat} [q : AllG w0 L xs] : AllG w0 L (xs.drop n) := ⟨fun w hw x hx => q.h w hw x (List.mem_of_mem_drop hx)⟩
class NamedD (a : Sl τ) (s : outParam Sv) (xs : outParam (List τ)) : Prop where
  h : a = ⟨s, xs⟩
instance (priority := low) HdD.named {a : Sl τ} {s : Sv} {xs : List τ} [n : NamedD a s xs] [q : HdD w0 L (⟨s, xs⟩ : Sl τ)] : HdD w0 L a := ⟨by rw [n.h]; exact q.h⟩
end
end Go.Eng

/- What the laws of package walk say of routes in order. No program in sight. -/
namespace Go.Kb
variable {t : List Rt} {k : Key} {bits : Int}
theorem less_asymm {p q : Pfx} (hp : pmay p = true) (hq : pmay q = true) (h : pless p q = true) : pless q p = false := by
  rw [← Bool.not_eq_true, pless_iff hq hp]
  have := (pless_iff hp hq).1 h
  omega
theorem Ord.at {t : List Rt} (h : Ord t) {i j : Nat} {a b : Rt} (ha : t[i]? = some a) (hb : t[j]? = some b) (hij : i < j) : pless a.p b.p = true := by
  obtain ⟨hi, rfl⟩ := List.getElem?_eq_some_iff.1 ha
  obtain ⟨hj, rfl⟩ := List.getElem?_eq_some_iff.1 hb
  exact (List.pairwise_iff_getElem.1 h.less) i j hi hj hij
theorem next_succ (h : Ord t) {n : Nat} {r : Rt} (hr : t[n]? = some r) : nextP t r.p = t[n + 1]? := by
  have key : ∀ j q, j < n + 1 → t[j]? = some q → pless r.p q.p = false := fun j q hj hq => by
    rcases Nat.lt_or_ge j n with h1 | h1
    · exact less_asymm (h.may _ (List.mem_of_getElem? hq)) (h.may _ (List.mem_of_getElem? hr)) (h.at hq hr h1)
    · obtain rfl : j = n := by omega
      rw [hr] at hq; cases hq
      exact less_irr (h.may _ (List.mem_of_getElem? hr))
  cases hn : t[n + 1]? with
  | some q => exact next_at hn key (h.at hr hn (by omega))
  | none => exact next_no fun j q hj hq => key j q (by rw [List.getElem?_eq_none_iff] at hn; omega) hq
theorem lean_right (h : tright t = true) : tright (leanP t) = true := ord_right ((right_ord h).sub (leanP_sub t)) (Nat.le_trans (leanP_sub t).length_le (tr_len h))
theorem tops_right (h : tright t = true) : tright (topsP t) = true := ord_right ((right_ord h).sub (topsP_sub t)) (Nat.le_trans (topsP_sub t).length_le (tr_len h))

/-! The best one is the longest one on the way. -/
theorem onWay_ok {r : Rt} (h : onWay k bits r = true) : (bits = 32 ∨ bits = 128) ∧ kcut k bits = k ∧ pmay ⟨bits, bits, k⟩ = true := by
  simp only [onWay, Bool.and_eq_true, decide_eq_true_eq] at h
  obtain ⟨h1, h2⟩ := h
  obtain ⟨h3, h4, _⟩ := (pfits_iff _ _).1 h2
  obtain ⟨h5, _⟩ := (pmay_iff _).1 h3
  rw [h1] at h4 h5
  exact ⟨h5, h4, (pmay_iff _).2 ⟨h5, by simp only; omega, Int.le_refl _, h4⟩⟩
theorem best_cases (h : tright t = true) : (bestE t k bits = 0 ∧ bestR t k bits ∈ t ∧ onWay k bits (bestR t k bits) = true ∧ ∀ q ∈ t, onWay k bits q = true → q.p.len ≤ (bestR t k bits).p.len) ∨
    (bestE t k bits = (if pmay ⟨bits, bits, k⟩ = true then 6 else 1) ∧ bestR t k bits = zroute ∧ ∀ q ∈ t, onWay k bits q = false) := by
  by_cases hk : pmay ⟨bits, bits, k⟩ = true
  · have ho : bestO t k bits = true := by rw [bestO, h, hk]; rfl
    obtain ⟨hb, _, _, hc⟩ := (pmay_iff _).1 hk
    have hb : bits = 32 ∨ bits = 128 := hb
    have hc : kcut k bits = k := hc
    have hbb : ((bits.toNat : Nat) : Int) ≤ bits := by omega
    cases hf : bestF t k bits bits.toNat with
    | none =>
      refine .inr ⟨by rw [bestE, if_pos ho, hf, if_pos hk]; rfl, by rw [bestR, if_pos ho, hf]; rfl, fun q hq => ?_⟩
      rw [← Bool.not_eq_true]
      intro hw
      simp only [onWay, Bool.and_eq_true, decide_eq_true_eq] at hw
      obtain ⟨m, hm, e⟩ := fit_cut hw.1 hw.2
      exact bestF_none h hb hbb hf q hq m (by omega) e
    | some r =>
      obtain ⟨h1, ⟨m, hm, h2⟩, h3⟩ := bestF_some h hb hbb hf
      have e : bestR t k bits = r := by rw [bestR, if_pos ho, hf]; rfl
      refine .inl ⟨by rw [bestE, if_pos ho, hf]; rfl, by rw [e]; exact h1, ?_, fun q hq hw => ?_⟩
      · rw [e]
        have := cut_fit hb hc (r := r) (m := m) (by omega) h2
        rw [onWay, this.1, this.2]; simp
      · rw [e]
        simp only [onWay, Bool.and_eq_true, decide_eq_true_eq] at hw
        obtain ⟨m, hm, e⟩ := fit_cut hw.1 hw.2
        exact h3 q hq m (by omega) e
  · have ho : ¬ bestO t k bits = true := by rw [bestO, h]; simpa using hk
    refine .inr ⟨by rw [bestE, if_neg ho, if_neg hk], by rw [bestR, if_neg ho], fun q _ => ?_⟩
    rw [← Bool.not_eq_true]; intro hw
    exact hk (onWay_ok hw).2.2
theorem best_uniq (h : tright t = true) {r : Rt} (hr : r ∈ t) (hw : onWay k bits r = true) (hm : ∀ q ∈ t, onWay k bits q = true → q.p.len ≤ r.p.len) : bestE t k bits = 0 ∧ bestR t k bits = r := by
  rcases best_cases (k := k) (bits := bits) h with ⟨h1, h2, h3, h4⟩ | ⟨_, _, h3⟩
  · refine ⟨h1, ?_⟩
    have a := h4 r hr hw
    have b := hm _ h2 h3
    exact (right_ord h).uniq h2 hr (covers_lens ((fam_fits (t := t) k bits).comp r _ hr h2 hw h3 b) a)
  · rw [h3 r hr] at hw; cases hw
theorem best_lean (h : tright t = true) : bestE (leanP t) k bits = bestE t k bits ∧ (bestR (leanP t) k bits).hop = (bestR t k bits).hop := by
  rcases best_cases (k := k) (bits := bits) h with ⟨h1, h2, h3, h4⟩ | ⟨h1, h2, h3⟩
  · obtain ⟨s, hs1, hs2, hs3, hs4, hs5⟩ := (fam_fits (t := t) k bits).lean (right_ord h) _ rfl h2 h3
    obtain ⟨e1, e2⟩ := best_uniq (lean_right h) hs1 hs2 fun q hq hw => hs5 q hq hw (h4 q ((leanP_sub t).subset hq) hw)
    exact ⟨e1.trans h1.symm, by rw [e2, hs4]⟩
  · rcases best_cases (k := k) (bits := bits) (lean_right h) with ⟨g1, g2, g3, g4⟩ | ⟨g1, g2, g3⟩
    · rw [h3 _ ((leanP_sub t).subset g2)] at g3; cases g3
    · exact ⟨g1.trans h1.symm, by rw [g2, h2]⟩

/-! Chains. -/
theorem chain_mem {r : Rt} : r ∈ chainP t k bits ↔ r ∈ t ∧ onWay k bits r = true := List.mem_filter
theorem chainV_eq (h : tright t = true) : chainV t k bits = chainP t k bits := by
  unfold chainV
  split
  · rename_i he
    rcases best_cases (k := k) (bits := bits) h with ⟨h1, _⟩ | ⟨_, _, h3⟩
    · omega
    · rw [eq_comm, chainP, List.filter_eq_nil_iff]
      intro r hr; rw [h3 r hr]; simp
  · rfl
theorem chain_nil (h : tright t = true) (he : chainP t k bits = []) : bestE t k bits ≠ 0 := by
  rcases best_cases (k := k) (bits := bits) h with ⟨_, h2, h3, _⟩ | ⟨h1, _⟩
  · have := chain_mem.2 ⟨h2, h3⟩
    rw [he] at this; cases this
  · rw [h1]; split <;> omega
theorem chain_ord (h : tright t = true) {i j : Nat} {a b : Rt} (ha : (chainP t k bits)[i]? = some a) (hb : (chainP t k bits)[j]? = some b) (hij : i < j) : a.p.len < b.p.len := by
  obtain ⟨hi, rfl⟩ := List.getElem?_eq_some_iff.1 ha
  obtain ⟨hj, rfl⟩ := List.getElem?_eq_some_iff.1 hb
  exact (List.pairwise_iff_getElem.1 ((right_ord h).fits_less (k := k) (bits := bits))) i j hi hj hij
theorem chain_last (h : tright t = true) {r : Rt} (hr : (chainP t k bits)[(chainP t k bits).length - 1]? = some r) : bestE t k bits = 0 ∧ bestR t k bits = r ∧ (chainP t k bits).length ≤ depP t := by
  obtain ⟨h1, h2⟩ := chain_mem.1 (List.mem_of_getElem? hr)
  have hmax : ∀ q ∈ t, onWay k bits q = true → q.p.len ≤ r.p.len := fun q hq hw => by
    obtain ⟨j, hj⟩ := List.mem_iff_getElem?.1 (chain_mem.2 ⟨hq, hw⟩)
    have hjl := (List.getElem?_eq_some_iff.1 hj).1
    rcases Nat.lt_or_ge j ((chainP t k bits).length - 1) with g | g
    · exact Int.le_of_lt (chain_ord h hj hr g)
    · obtain rfl : j = (chainP t k bits).length - 1 := by omega
      rw [hr] at hj; cases hj; exact Int.le_refl _
  obtain ⟨e1, e2⟩ := best_uniq h h1 h2 hmax
  refine ⟨e1, e2, Nat.le_trans ?_ (dep_ge h1)⟩
  rw [chainP, ← List.countP_eq_length_filter, cnt]
  exact List.countP_mono_left fun q hq hw => (fam_fits (t := t) k bits).comp r q h1 hq h2 hw (hmax q hq hw)
theorem chain_over (h : tright t = true) {i : Nat} {a b : Rt} (ha : (chainP t k bits)[i]? = some a) (hb : (chainP t k bits)[i + 1]? = some b) : overF t b.p = some a ∧ pcovers a.p b.p = true := by
  obtain ⟨a1, a2⟩ := chain_mem.1 (List.mem_of_getElem? ha)
  obtain ⟨b1, b2⟩ := chain_mem.1 (List.mem_of_getElem? hb)
  have hl := chain_ord h ha hb (by omega)
  have hc := (fam_fits (t := t) k bits).comp b a b1 a1 b2 a2 (by omega)
  refine ⟨(right_ord h).overF_eq a1 (cov_iff.2 ⟨fun e => by rw [e] at hl; omega, hc⟩) fun q hq hcq => ?_, hc⟩
  have hw := (fam_fits (t := t) k bits).up b q b1 hq b2 hcq
  have hql := cov_len hcq
  obtain ⟨j, hj⟩ := List.mem_iff_getElem?.1 (chain_mem.2 ⟨hq, hw⟩)
  rcases Nat.lt_trichotomy j i with g | g | g
  · exact Int.le_of_lt (chain_ord h hj ha g)
  · subst g; rw [ha] at hj; cases hj; exact Int.le_refl _
  · rcases Nat.lt_or_ge (i + 1) j with g2 | g2
    · have := chain_ord h hb hj g2; omega
    · obtain rfl : j = i + 1 := by omega
      rw [hb] at hj; cases hj; omega
theorem chain_head (h : tright t = true) {a : Rt} (ha : (chainP t k bits)[0]? = some a) : overF t a.p = none ∧ a ∈ topsP t := by
  obtain ⟨a1, a2⟩ := chain_mem.1 (List.mem_of_getElem? ha)
  have key : overF t a.p = none := overF_none.2 fun q hq => by
    rw [← Bool.not_eq_true]; intro hc
    have hw := (fam_fits (t := t) k bits).up a q a1 hq a2 hc
    have hql := cov_len hc
    obtain ⟨j, hj⟩ := List.mem_iff_getElem?.1 (chain_mem.2 ⟨hq, hw⟩)
    cases j with
    | zero => rw [ha] at hj; cases hj; omega
    | succ j => have := chain_ord h ha hj (by omega); omega
  exact ⟨key, List.mem_filter.2 ⟨a1, by rw [isTop, key]; rfl⟩⟩

/-! Tops. -/
theorem countP_one {α : Type} {p : α → Bool} : ∀ {l : List α}, l.Nodup → (∀ a b, a ∈ l → b ∈ l → p a = true → p b = true → a = b) → l.countP p ≤ 1
  | [], _, _ => by simp
  | a :: l, hn, h => by
    rw [List.nodup_cons] at hn
    rw [List.countP_cons]
    have ih := countP_one hn.2 fun x y hx hy => h x y (by simp [hx]) (by simp [hy])
    split
    · rename_i ha
      have : l.countP p = 0 := List.countP_eq_zero.2 fun x hx hp => by
        have := h a x (by simp) (by simp [hx]) ha hp
        subst this; exact hn.1 hx
      omega
    · omega
theorem tops_few (h : tright t = true) : (topsP t).countP (onWay k bits) < 2 ∧ ((topsP t).countP (onWay k bits) = 1 ↔ bestE t k bits = 0) := by
  have ho := right_ord h
  have h1 : (topsP t).countP (onWay k bits) ≤ 1 := countP_one (ho.sub (topsP_sub t)).nodup fun a b ha hb hpa hpb => (fam_fits k bits).top_one ho ha hb hpa hpb
  refine ⟨by omega, ?_⟩
  rcases best_cases (k := k) (bits := bits) h with ⟨g1, g2, g3, _⟩ | ⟨g1, _, g3⟩
  · obtain ⟨s, hs1, hs2⟩ := (fam_fits (t := t) k bits).top ho _ rfl g2 g3
    have : 0 < (topsP t).countP (onWay k bits) := List.countP_pos_iff.2 ⟨s, hs1, hs2⟩
    exact ⟨fun _ => g1, fun _ => by omega⟩
  · have : (topsP t).countP (onWay k bits) = 0 := List.countP_eq_zero.2 fun x hx => by rw [g3 x ((topsP_sub t).subset hx)]; simp
    constructor
    · omega
    · intro h0; rw [g1] at h0; split at h0 <;> omega
theorem tops_no (h : tright t = true) {i : Nat} {a b : Rt} (ha : (topsP t)[i]? = some a) (hb : (topsP t)[i + 1]? = some b) : pcovers a.p b.p = false := by
  have ho := (right_ord h).sub (topsP_sub t)
  have hl := ho.at ha hb (by omega)
  refine tops_apart ((topsP_sub t).subset (List.mem_of_getElem? ha)) (List.mem_of_getElem? hb) fun e => ?_
  rw [e, less_irr (ho.may _ (List.mem_of_getElem? hb))] at hl; cases hl
end Go.Kb

/- A route more in a table, and what is best of a key. No program in sight. -/
namespace Go.Kb
variable {t u : List Rt} {r : Rt} {k : Key} {bits : Int}
theorem app_one (he : appE t [⟨r, false⟩] = 0) : chgE t ⟨r, false⟩ = 0 ∧ appL t [⟨r, false⟩] = chgL t ⟨r, false⟩ := by
  have hr : tright t = true := by
    cases h : tright t with
    | true => rfl
    | false => rw [appE, if_neg (by rw [h]; simp)] at he; omega
  have h2 := he
  rw [appE, if_pos hr, appF] at h2
  have hc : chgE t ⟨r, false⟩ = 0 := by
    apply Classical.byContradiction; intro hn
    rw [if_neg hn] at h2; exact hn h2
  exact ⟨hc, by rw [appL, if_pos he, appF, if_pos hc]; rfl⟩
theorem chg_may {c : Ch} (he : chgE t c = 0) : pmay c.r.p = true := by
  apply Classical.byContradiction; intro hn
  rw [chgE, if_neg hn] at he; omega
theorem more_mem (hr : tright t = true) (he : chgE t ⟨r, false⟩ = 0) (x : Rt) : x ∈ chgL t ⟨r, false⟩ ↔ x = r ∨ (x ∈ t ∧ x.p ≠ r.p) := by
  have hm : pmay r.p = true := chg_may he
  have ho := right_ord hr
  rw [chgL, if_pos he, if_neg (by simp)]
  by_cases hb : placeB t r.p = true
  · rw [if_pos hb]
    obtain ⟨r0, _, h1, h2⟩ := place_in hb
    have hn := (List.getElem?_eq_some_iff.1 h1).1
    have hne : ∀ j y, t[j]? = some y → j ≠ placeN t r.p → y.p ≠ r.p := fun j y hy hj e => by
      rcases Nat.lt_or_gt_of_ne hj with g | g
      · have := ho.at hy h1 g; rw [e, h2, less_irr hm] at this; cases this
      · have := ho.at h1 hy g; rw [e, h2, less_irr hm] at this; cases this
    constructor
    · intro hx
      obtain ⟨j, hj⟩ := List.mem_iff_getElem?.1 hx
      by_cases e : placeN t r.p = j
      · subst e
        rw [List.getElem?_set_self hn] at hj
        exact .inl (Option.some.inj hj).symm
      · rw [List.getElem?_set_ne e] at hj
        exact .inr ⟨List.mem_of_getElem? hj, hne j x hj fun h => e h.symm⟩
    · rintro (rfl | ⟨hx, hp⟩)
      · exact List.mem_of_getElem? (List.getElem?_set_self hn)
      · obtain ⟨j, hj⟩ := List.mem_iff_getElem?.1 hx
        have e : placeN t r.p ≠ j := fun e => by
          subst e; rw [h1] at hj; cases hj; exact hp h2
        exact List.mem_of_getElem? ((List.getElem?_set_ne e).trans hj)
  · rw [if_neg hb]
    have hno : ∀ y ∈ t, y.p ≠ r.p := fun y hy e => hb (place_some hr hm hy e).2
    have e : x ∈ t ↔ x ∈ t.take (placeN t r.p) ∨ x ∈ t.drop (placeN t r.p) := by
      rw [← List.mem_append, List.take_append_drop]
    simp only [List.mem_append, List.mem_cons]
    constructor
    · rintro (h | h | h)
      · exact .inr ⟨e.2 (.inl h), hno x (e.2 (.inl h))⟩
      · exact .inl h
      · exact .inr ⟨e.2 (.inr h), hno x (e.2 (.inr h))⟩
    · rintro (h | ⟨h, _⟩)
      · exact .inr (.inl h)
      · rcases e.1 h with h | h
        · exact .inl h
        · exact .inr (.inr h)
theorem onWay_p {a b : Rt} (e : a.p = b.p) : onWay k bits a = onWay k bits b := by rw [onWay, onWay, e]
theorem more_no (ht : tright t = true) (hu : tright u = true) (hm : ∀ x, x ∈ u ↔ x = r ∨ (x ∈ t ∧ x.p ≠ r.p)) (hw : onWay k bits r = false) : bestE u k bits = bestE t k bits ∧ bestR u k bits = bestR t k bits := by
  rcases best_cases (k := k) (bits := bits) ht with ⟨h1, h2, h3, h4⟩ | ⟨h1, h2, h3⟩
  · obtain ⟨e1, e2⟩ := best_uniq (k := k) (bits := bits) hu ((hm _).2 (.inr ⟨h2, fun e => by rw [onWay_p e, hw] at h3; cases h3⟩)) h3 fun q hq hwq => by
      rcases (hm q).1 hq with rfl | ⟨hq, _⟩
      · rw [hw] at hwq; cases hwq
      · exact h4 q hq hwq
    exact ⟨e1.trans h1.symm, e2⟩
  · rcases best_cases (k := k) (bits := bits) hu with ⟨g1, g2, g3, g4⟩ | ⟨g1, g2, g3⟩
    · rcases (hm _).1 g2 with e | ⟨e, _⟩
      · rw [e, hw] at g3; cases g3
      · rw [h3 _ e] at g3; cases g3
    · exact ⟨g1.trans h1.symm, g2.trans h2.symm⟩
theorem more_long (ht : tright t = true) (hu : tright u = true) (hm : ∀ x, x ∈ u ↔ x = r ∨ (x ∈ t ∧ x.p ≠ r.p)) (h0 : bestE t k bits = 0) (hl : r.p.len < (bestR t k bits).p.len) : bestE u k bits = bestE t k bits ∧ bestR u k bits = bestR t k bits := by
  rcases best_cases (k := k) (bits := bits) ht with ⟨h1, h2, h3, h4⟩ | ⟨h1, _⟩
  · obtain ⟨e1, e2⟩ := best_uniq (k := k) (bits := bits) hu ((hm _).2 (.inr ⟨h2, fun e => by rw [e] at hl; omega⟩)) h3 fun q hq hwq => by
      rcases (hm q).1 hq with rfl | ⟨hq, _⟩
      · omega
      · exact h4 q hq hwq
    exact ⟨e1.trans h1.symm, e2⟩
  · rw [h1] at h0; split at h0 <;> omega
theorem more_new (ht : tright t = true) (hu : tright u = true) (hm : ∀ x, x ∈ u ↔ x = r ∨ (x ∈ t ∧ x.p ≠ r.p)) (hw : onWay k bits r = true) (hl : bestE t k bits = 0 → (bestR t k bits).p.len ≤ r.p.len) : bestE u k bits = 0 ∧ bestR u k bits = r := by
  refine best_uniq hu ((hm r).2 (.inl rfl)) hw fun q hq hwq => ?_
  rcases (hm q).1 hq with rfl | ⟨hq, _⟩
  · exact Int.le_refl _
  · rcases best_cases (k := k) (bits := bits) ht with ⟨h1, h2, h3, h4⟩ | ⟨_, _, h3⟩
    · exact Int.le_trans (h4 q hq hwq) (hl h1)
    · rw [h3 q hq] at hwq; cases hwq

/-! Routes of other bits count for nothing. -/
def ofBits (bits : Int) (x : Rt) : Bool := decide (x.p.bits = bits)
theorem ways_bits_only (t : List Rt) : waysF bits (t.filter (ofBits bits)) = waysF bits t := by
  unfold waysF
  rw [List.foldl_filter]
  congr 1
  funext W x
  by_cases h : x.p.bits = bits
  · rw [if_pos (by simp [ofBits, h])]
  · rw [if_neg (by simp [ofBits, h]), addWs, if_neg h]
theorem slot_bits_only (t : List Rt) (w : Wy) (b : Nat) : slotF bits (t.filter (ofBits bits)) w b = slotF bits t w b := by
  unfold slotF
  rw [List.foldl_filter]
  congr 1
  funext s x
  by_cases h : x.p.bits = bits
  · rw [if_pos (by simp [ofBits, h])]
  · rw [if_neg (by simp [ofBits, h]), slotUp, if_neg (by simp [hit, h])]
theorem nodes_bits_only {t u : List Rt} (h : t.filter (ofBits bits) = u.filter (ofBits bits)) : nodes bits (waysF bits t) t = nodes bits (waysF bits u) u := by
  have e1 : waysF bits t = waysF bits u := by rw [← ways_bits_only t, h, ways_bits_only]
  have e2 : ∀ w b, slotF bits t w b = slotF bits u w b := fun w b => by rw [← slot_bits_only t, h, slot_bits_only]
  rw [e1]
  unfold nodes
  refine List.map_congr_left fun w _ => ?_
  unfold nodeF
  rw [show slotF bits t w = slotF bits u w from funext (e2 w)]
theorem more_filter (he : chgE t ⟨r, false⟩ = 0) (hb : r.p.bits ≠ bits) : t.filter (ofBits bits) = (chgL t ⟨r, false⟩).filter (ofBits bits) := by
  have hr : ofBits bits r = false := by simp [ofBits, hb]
  rw [chgL, if_pos he, if_neg (by simp)]
  by_cases hp : placeB t r.p = true
  · rw [if_pos hp]
    obtain ⟨r0, _, h1, h2⟩ := place_in hp
    obtain ⟨hn, h1'⟩ := List.getElem?_eq_some_iff.1 h1
    have hr0 : ofBits bits r0 = false := by simp [ofBits, h2, hb]
    have e : t = t.take (placeN t r.p) ++ r0 :: t.drop (placeN t r.p + 1) := by
      rw [← h1', List.getElem_cons_drop, List.take_append_drop]
    rw [List.set_eq_take_append_cons_drop, if_pos hn]
    conv => lhs; rw [e]
    simp [List.filter_append, List.filter_cons, hr, hr0]
  · rw [if_neg hp]
    rw [List.filter_append, List.filter_cons, hr]
    simp only [Bool.false_eq_true, if_false]
    rw [← List.filter_append, List.take_append_drop]
theorem more_same (he : chgE t ⟨r, false⟩ = 0) (hb : r.p.bits ≠ bits) (h1 : buildE t bits = 0) (h2 : buildE (chgL t ⟨r, false⟩) bits = 0) : buildB (chgL t ⟨r, false⟩) bits = buildB t bits ∧ buildN (chgL t ⟨r, false⟩) bits = buildN t bits := by
  rw [buildB, buildB, buildN, buildN, if_pos h1, if_pos h2, if_pos h1, if_pos h2]
  exact ⟨rfl, (nodes_bits_only (more_filter he hb)).symm⟩
theorem build_ok {t : List Rt} (h : buildE t bits = 0) : (tright t = true ∧ (bits = 32 ∨ bits = 128)) ∧ (waysF bits t).length ≤ 512 := by
  have h1 : tright t = true ∧ (bits = 32 ∨ bits = 128) := by
    apply Classical.byContradiction; intro hc; have := (buildE_arg hc).1; omega
  refine ⟨h1, ?_⟩
  apply Classical.byContradiction; intro hc
  have := (buildE_full h1 hc).1; omega
theorem find_best {t : List Rt} {b : Int} {N : List Nd} (h : buildE t bits = 0) (hb : b = buildB t bits) (hN : N = buildN t bits) : findE b N k = bestE t k bits ∧ findN b N k = (bestR t k bits).p.len ∧ findH b N k = (bestR t k bits).hop := by
  obtain ⟨h1, h2⟩ := build_ok h
  obtain ⟨_, e2, e3⟩ := buildE_ok h1 h2
  subst hb hN
  rw [e2, e3]
  exact trie_best h1.1 h1.2 h2
end Go.Kb

/- Changes of a table: what is less, the route itself, and what is more. No program in sight. -/
namespace Go.Kb
variable {t u : List Rt} {r : Rt} {q p : Pfx}
theorem less_tri (hp : pmay p = true) (hq : pmay q = true) (h : pless p q = false) (hn : p ≠ q) : pless q p = true := by
  rw [pless_iff hq hp]
  have h1 : ¬ pless p q = true := by rw [h]; simp
  rw [pless_iff hp hq] at h1
  have h2 : ¬ (p.bits = q.bits ∧ p.key.toNat = q.key.toNat ∧ p.len = q.len) := fun e => hn (pfx_eq.2 e)
  omega
theorem less_asym (hp : pmay p = true) (hq : pmay q = true) (h : pless p q = true) : pless q p = false := by
  cases hx : pless q p with
  | false => rfl
  | true => rw [pless_iff hq hp] at hx; rw [pless_iff hp hq] at h; omega
theorem less_ne (hp : pmay p = true) (h : pless p q = true) : p ≠ q := fun e => by subst e; rw [less_irr hp] at h; cases h
theorem less_trans' {a b c : Pfx} (ha : pmay a = true) (hb : pmay b = true) (hc : pmay c = true) (h1 : pless a b = true) (h2 : pless b c = true) : pless a c = true := by
  rw [pless_iff ha hb] at h1; rw [pless_iff hb hc] at h2; rw [pless_iff ha hc]; omega
def lessF (t : List Rt) (q : Pfx) : List Rt := t.filter fun x => pless x.p q
def moreF (t : List Rt) (q : Pfx) : List Rt := t.filter fun x => pless q x.p
theorem filter_all {α : Type} {f : α → Bool} {l : List α} (h : ∀ x ∈ l, f x = true) : l.filter f = l := List.filter_eq_self.2 h
theorem filter_none {α : Type} {f : α → Bool} {l : List α} (h : ∀ x ∈ l, f x = false) : l.filter f = [] := List.filter_eq_nil_iff.2 fun x hx => by rw [h x hx]; simp
theorem Ord.ext : ∀ {s t : List Rt}, Ord s → Ord t → (∀ x, x ∈ s ↔ x ∈ t) → s = t
  | [], [], _, _, _ => rfl
  | [], b :: t, _, _, h => by have := (h b).2 (List.mem_cons_self); cases this
  | a :: s, [], _, _, h => by have := (h a).1 (List.mem_cons_self); cases this
  | a :: s, b :: t, hs, ht, h => by
    have ha := (List.pairwise_cons.1 hs.less)
    have hb := (List.pairwise_cons.1 ht.less)
    have ma := hs.may a List.mem_cons_self
    have mb := ht.may b List.mem_cons_self
    have e : a = b := by
      apply Classical.byContradiction; intro hn
      rcases List.mem_cons.1 ((h a).1 List.mem_cons_self) with h1 | h1
      · exact hn h1
      · rcases List.mem_cons.1 ((h b).2 List.mem_cons_self) with h2 | h2
        · exact hn h2.symm
        · have h3 := hb.1 a h1
          have h4 := ha.1 b h2
          rw [less_asym mb ma h3] at h4; cases h4
    subst e
    have hne : ∀ x, (∀ y ∈ s, pless a.p y.p = true) → x ∈ s → x ≠ a := fun x hy hx e => by
      subst e; have := hy x hx; rw [less_irr ma] at this; cases this
    rw [Ord.ext (hs.sub (List.sublist_cons_self _ _)) (ht.sub (List.sublist_cons_self _ _)) fun x => ⟨fun hx => ?_, fun hx => ?_⟩]
    · rcases List.mem_cons.1 ((h x).1 (List.mem_cons_of_mem _ hx)) with h1 | h1
      · exact absurd h1 (hne x ha.1 hx)
      · exact h1
    · rcases List.mem_cons.1 ((h x).2 (List.mem_cons_of_mem _ hx)) with h1 | h1
      · subst h1; have := hb.1 x hx; rw [less_irr ma] at this; cases this
      · exact h1
theorem place_less (h : tright t = true) (hq : pmay q = true) : (∀ x ∈ t.take (placeN t q), pless x.p q = true) ∧ ∀ x ∈ t.drop (placeN t q), pless x.p q = false := by
  obtain ⟨h1, h2, h3⟩ := bs_spec (p := behind t q) (n := t.length) fun a b => behind_mono h hq a b
  constructor
  · intro x hx
    obtain ⟨i, hi⟩ := List.mem_iff_getElem?.1 hx
    have hil := (List.getElem?_eq_some_iff.1 hi).1
    rw [List.length_take] at hil
    rw [List.getElem?_take, if_pos (by omega)] at hi
    have := h2 i (by have : placeN t q = bs (behind t q) t.length := rfl; omega)
    simpa [behind, hi] using this
  · intro x hx
    obtain ⟨i, hi⟩ := List.mem_iff_getElem?.1 hx
    rw [List.getElem?_drop] at hi
    have hil := (List.getElem?_eq_some_iff.1 hi).1
    have := h3 (placeN t q + i) (Nat.le_add_right _ _) hil
    simpa [behind, hi] using this
theorem place_parts (h : tright t = true) (hq : pmay q = true) : t.take (placeN t q) = lessF t q ∧ (placeB t q = true → t.drop (placeN t q + 1) = moreF t q) ∧ (placeB t q = false → t.drop (placeN t q) = moreF t q) := by
  obtain ⟨h1, h2⟩ := place_less h hq
  have ho := right_ord h
  have e : t = t.take (placeN t q) ++ t.drop (placeN t q) := (List.take_append_drop _ _).symm
  have hm : ∀ x ∈ t, pmay x.p = true := ho.may
  have mt : ∀ x ∈ t.take (placeN t q), x ∈ t := fun x hx => List.mem_of_mem_take hx
  have md : ∀ x ∈ t.drop (placeN t q), x ∈ t := fun x hx => List.mem_of_mem_drop hx
  have k1 : t.take (placeN t q) = lessF t q := by
    unfold lessF
    conv => rhs; rw [e]
    rw [List.filter_append, filter_all h1, filter_none h2, List.append_nil]
  have k2 : moreF t q = moreF (t.drop (placeN t q)) q := by
    unfold moreF
    conv => lhs; rw [e]
    rw [List.filter_append, filter_none (l := t.take (placeN t q)) fun x hx => less_asym (hm x (mt x hx)) hq (h1 x hx), List.nil_append]
  refine ⟨k1, fun hb => ?_, fun hb => ?_⟩
  · obtain ⟨x, hx, hi, hp⟩ := place_in hb
    obtain ⟨hil, hi'⟩ := List.getElem?_eq_some_iff.1 hi
    have e2 : t.drop (placeN t q) = x :: t.drop (placeN t q + 1) := by rw [← hi', List.getElem_cons_drop]
    rw [k2, e2, moreF, List.filter_cons, hp, less_irr hq]
    simp only [Bool.false_eq_true, if_false]
    refine (filter_all fun y hy => ?_).symm
    obtain ⟨j, hj⟩ := List.mem_iff_getElem?.1 hy
    rw [List.getElem?_drop] at hj
    have := right_less h (placeN t q) (placeN t q + 1 + j) x y (by omega) hi hj
    rw [hp] at this; exact this
  · rw [k2]
    refine (filter_all fun y hy => ?_).symm
    refine less_tri (hm y (md y hy)) hq (h2 y hy) fun ep => ?_
    have := (place_some h hq (md y hy) ep).2
    rw [hb] at this; cases this
theorem chg_put (h : tright t = true) (he : chgE t ⟨r, false⟩ = 0) : chgL t ⟨r, false⟩ = lessF t r.p ++ r :: moreF t r.p := by
  obtain ⟨k1, k2, k3⟩ := place_parts h (chg_may he)
  rw [chgL, if_pos he, if_neg (by simp)]
  by_cases hb : placeB t r.p = true
  · obtain ⟨x, hx, hi, hp⟩ := place_in hb
    have hil := (List.getElem?_eq_some_iff.1 hi).1
    rw [if_pos hb, List.set_eq_take_append_cons_drop, if_pos hil, k1, k2 hb]
  · rw [if_neg hb]
    show t.take (placeN t r.p) ++ r :: t.drop (placeN t r.p) = _
    rw [k1, k3 (by simpa using hb)]
theorem chg_gone (h : tright t = true) (he : chgE t ⟨r, true⟩ = 0) : chgL t ⟨r, true⟩ = lessF t r.p ++ moreF t r.p := by
  have hm := chg_may he
  obtain ⟨k1, k2, k3⟩ := place_parts h hm
  have hb : placeB t r.p = true := by
    apply Classical.byContradiction; intro hn
    rw [chgE, if_pos hm, if_neg hn, if_pos rfl] at he; omega
  rw [chgL, if_pos he, if_pos rfl]
  show t.take (placeN t r.p) ++ t.drop (placeN t r.p + 1) = _
  rw [k1, k2 hb]
theorem gone_filter (h : Ord t) (hq : pmay q = true) : t.filter (fun x => decide (x.p ≠ q)) = lessF t q ++ moreF t q := by
  refine Ord.ext (h.sub List.filter_sublist) ⟨fun x hx => ?_, ?_⟩ fun x => ?_
  · rcases List.mem_append.1 hx with h1 | h1 <;> exact h.may x (List.mem_filter.1 h1).1
  · refine List.pairwise_append.2 ⟨h.less.sublist List.filter_sublist, h.less.sublist List.filter_sublist, fun a ha b hb => ?_⟩
    have ha := List.mem_filter.1 ha
    have hb := List.mem_filter.1 hb
    exact less_trans' (h.may a ha.1) hq (h.may b hb.1) ha.2 hb.2
  · rw [List.mem_append, List.mem_filter, lessF, moreF, List.mem_filter, List.mem_filter]
    constructor
    · rintro ⟨h1, h2⟩
      cases h3 : pless x.p q with
      | true => exact .inl ⟨h1, rfl⟩
      | false => exact .inr ⟨h1, less_tri (h.may x h1) hq h3 (by simpa using h2)⟩
    · rintro (⟨h1, h2⟩ | ⟨h1, h2⟩)
      · exact ⟨h1, by simpa using less_ne (h.may x h1) h2⟩
      · exact ⟨h1, by simpa using (less_ne hq h2).symm⟩
theorem ord_put (h : Ord t) (hr : pmay r.p = true) : Ord (lessF t r.p ++ r :: moreF t r.p) := by
  refine ⟨fun x hx => ?_, ?_⟩
  · rcases List.mem_append.1 hx with h1 | h1
    · exact h.may x (List.mem_filter.1 h1).1
    · rcases List.mem_cons.1 h1 with rfl | h1
      · exact hr
      · exact h.may x (List.mem_filter.1 h1).1
  · refine List.pairwise_append.2 ⟨h.less.sublist List.filter_sublist, List.pairwise_cons.2 ⟨fun y hy => (List.mem_filter.1 hy).2, h.less.sublist List.filter_sublist⟩, fun a ha b hb => ?_⟩
    have ha := List.mem_filter.1 ha
    rcases List.mem_cons.1 hb with rfl | hb
    · exact ha.2
    · have hb := List.mem_filter.1 hb
      exact less_trans' (h.may a ha.1) hr (h.may b hb.1) ha.2 hb.2
theorem chg_right (h : tright t = true) (c : Ch) : tright (chgL t c) = true := by
  by_cases he : chgE t c = 0
  · refine ord_right ?_ (chgL_len (tr_len h) c)
    obtain ⟨r, g⟩ := c
    cases g with
    | false => rw [chg_put h he]; exact ord_put (right_ord h) (chg_may he)
    | true => rw [chg_gone h he, ← gone_filter (right_ord h) (chg_may he)]; exact (right_ord h).sub List.filter_sublist
  · rw [chgL, if_neg he]; exact h
def putF (r : Rt) : List Rt → Bool → List Rt
  | [], d => if d = true then [] else [r]
  | x :: l, d => (if (!d && !pless x.p r.p) = true then [r] else []) ++ ((if x.p ≠ r.p then [x] else []) ++ putF r l (d || !pless x.p r.p))
theorem putF_done (r : Rt) : ∀ l, putF r l true = l.filter fun x => decide (x.p ≠ r.p)
  | [] => rfl
  | x :: l => by
    rw [putF, Bool.true_or, putF_done r l, List.filter_cons]
    by_cases h : x.p = r.p <;> simp [h]
theorem putF_eq (hr : pmay r.p = true) : ∀ {t : List Rt}, Ord t → putF r t false = lessF t r.p ++ r :: moreF t r.p
  | [], _ => rfl
  | x :: l, h => by
    have hl := h.sub (List.sublist_cons_self x l)
    have mx := h.may x List.mem_cons_self
    rw [putF]
    cases hx : pless x.p r.p with
    | true =>
      have hn := less_ne mx hx
      rw [show (false || !true) = false from rfl, putF_eq hr hl]
      simp [hn, lessF, moreF, List.filter_cons, hx, less_asym mx hr hx]
    | false =>
      rw [show (false || !false) = true from rfl, putF_done]
      have hp := (List.pairwise_cons.1 h.less).1
      have hg : ∀ y ∈ l, pless r.p y.p = true := fun y hy => by
        by_cases e : x.p = r.p
        · rw [← e]; exact hp y hy
        · exact less_trans' hr mx (hl.may y hy) (less_tri mx hr hx e) (hp y hy)
      have e1 : lessF (x :: l) r.p = [] := filter_none fun y hy => by
        rcases List.mem_cons.1 hy with rfl | hy
        · exact hx
        · exact less_asym hr (hl.may y hy) (hg y hy)
      have e2 : l.filter (fun y => decide (y.p ≠ r.p)) = l := filter_all fun y hy => by simpa using (less_ne hr (hg y hy)).symm
      have e3 : moreF l r.p = l := filter_all hg
      rw [e1, e2, moreF, List.filter_cons, show l.filter (fun y => pless r.p y.p) = l from e3]
      by_cases e : x.p = r.p
      · rw [e, less_irr hr]; simp
      · rw [less_tri mx hr hx e]; simp [e]
def rgetE (t : List Rt) (q : Pfx) : Int := if pmay q = true then (if (t.any fun x => decide (x.p = q)) = true then 0 else 6) else 1
def rgetH (t : List Rt) (q : Pfx) : UInt16 := if pmay q = true then ((t.find? fun x => decide (x.p = q)).map Rt.hop).getD 0 else 0
theorem get_place (h : tright t = true) (hq : pmay q = true) : (t.any fun x => decide (x.p = q)) = placeB t q := by
  cases hb : placeB t q with
  | true =>
    obtain ⟨x, hx, _, hp⟩ := place_in hb
    exact List.any_eq_true.2 ⟨x, hx, by simp [hp]⟩
  | false =>
    refine List.any_eq_false.2 fun x hx => ?_
    have hn : x.p ≠ q := fun e => by have := (place_some h hq hx e).2; rw [hb] at this; cases this
    simp [hn]
theorem chgE_get (h : tright t = true) (c : Ch) : chgE t c = if rgetE t c.r.p = 1 ∨ (rgetE t c.r.p = 6 ∧ c.gone = true) then rgetE t c.r.p else if rgetE t c.r.p = 6 ∧ 256 ≤ t.length then 5 else 0 := by
  unfold chgE rgetE
  by_cases hm : pmay c.r.p = true
  · rw [if_pos hm, if_pos hm, get_place h hm]
    cases placeB t c.r.p <;> cases c.gone <;> simp
  · rw [if_neg hm, if_neg hm]; simp
theorem rget_bad (h : pmay q = false) : rgetE t q = 1 ∧ rgetH t q = 0 := by simp [rgetE, rgetH, h]
theorem rget_no (hm : pmay q = true) (h : ∀ x ∈ t, x.p ≠ q) : rgetE t q = 6 ∧ rgetH t q = 0 := by
  have h1 : (t.any fun x => decide (x.p = q)) = false := List.any_eq_false.2 fun x hx => by simp [h x hx]
  have h2 : (t.find? fun x => decide (x.p = q)) = none := List.find?_eq_none.2 fun x hx => by simp [h x hx]
  simp [rgetE, rgetH, hm, h1, h2]
theorem rget_hit {i : Nat} {e : Rt} (hm : pmay q = true) (hno : ∀ x ∈ t.take i, x.p ≠ q) (he : t[i]? = some e) (hp : e.p = q) : rgetE t q = 0 ∧ rgetH t q = e.hop := by
  obtain ⟨hi, he'⟩ := List.getElem?_eq_some_iff.1 he
  have ht : t = t.take i ++ e :: t.drop (i + 1) := by rw [← he', List.getElem_cons_drop, List.take_append_drop]
  have h1 : (t.any fun x => decide (x.p = q)) = true := List.any_eq_true.2 ⟨e, List.mem_of_getElem? he, by simp [hp]⟩
  have h2 : (t.find? fun x => decide (x.p = q)) = some e := by
    rw [ht, List.find?_append, List.find?_eq_none.2 fun x hx => by simp [hno x hx]]
    simp [hp]
  rw [rgetE, rgetH, if_pos hm, if_pos hm, if_pos h1, h2]
  exact ⟨rfl, rfl⟩
theorem take_succ_all {α : Type} {P : α → Prop} {l : List α} {i : Nat} {e : α} (h : ∀ x ∈ l.take i, P x) (he : l[i]? = some e) (hp : P e) : ∀ x ∈ l.take (i + 1), P x := fun x hx => by
  rw [List.take_add_one, he] at hx
  rcases List.mem_append.1 hx with h1 | h1
  · exact h x h1
  · rw [show x = e by simpa using h1]; exact hp
theorem dropAt {α : Type} {l : List α} {i : Nat} {e : α} (he : l[i]? = some e) : l.drop i = e :: l.drop (i + 1) := by
  obtain ⟨hi, rfl⟩ := List.getElem?_eq_some_iff.1 he
  rw [List.getElem_cons_drop]
theorem filter_take1 {α : Type} {f : α → Bool} {l : List α} {i : Nat} {e : α} (he : l[i]? = some e) : (l.take (i + 1)).filter f = (l.take i).filter f ++ (if f e = true then [e] else []) := by
  rw [List.take_add_one, he, List.filter_append]
  cases h : f e <;> simp [h]
theorem chg_putF (h : tright t = true) (he : chgE t ⟨r, false⟩ = 0) : chgL t ⟨r, false⟩ = putF r t false := by rw [chg_put h he, putF_eq (chg_may he) (right_ord h)]
theorem chg_goneF (h : tright t = true) (he : chgE t ⟨r, true⟩ = 0) : chgL t ⟨r, true⟩ = t.filter fun x => decide (x.p ≠ r.p) := by rw [chg_gone h he, gone_filter (right_ord h) (chg_may he)]
theorem app_none {t : List Rt} {l : List Ch} (h : tright t = true) (he : appE t l ≠ 0) : appL t l = t := by rw [appL, if_neg he]
theorem app_end {t q : List Rt} {l : List Ch} {i : Nat} {c : Ch} (h : tright t = true) (hf : appF t l = appF q (l.drop i)) (hc : l[i]? = some c) (he : chgE q c ≠ 0) : appE t l = chgE q c ∧ appL t l = t := by
  have ef : appF t l = (q, chgE q c) := by rw [hf, appF_step hc, if_neg he]
  have e1 : appE t l = chgE q c := by rw [appE, if_pos h, ef]
  exact ⟨e1, by rw [appL, if_neg (by rw [e1]; exact he)]⟩
theorem app_done {t q : List Rt} {l : List Ch} (h : tright t = true) (hf : appF t l = appF q (l.drop l.length)) : appE t l = 0 ∧ appL t l = q := by
  have ef : appF t l = (q, 0) := by rw [hf, List.drop_length]; rfl
  have e1 : appE t l = 0 := by rw [appE, if_pos h, ef]
  exact ⟨e1, by rw [appL, if_pos e1, ef]⟩
theorem chcells_inj {a b : Ch} (h : chcells a = chcells b) : a = b := by
  have h1 : rcells a.r = rcells b.r := Array.ext_getElem? fun j => by
    rcases Nat.lt_or_ge j 19 with hj | hj
    · rw [← chcells_r a j hj, ← chcells_r b j hj, h]
    · rw [Array.getElem?_eq_none (by rw [rcells_size]; exact hj), Array.getElem?_eq_none (by rw [rcells_size]; exact hj)]
  have h2 := chcells_g a
  rw [h, chcells_g b] at h2
  obtain ⟨ar, ag⟩ := a
  obtain ⟨br, bg⟩ := b
  have e1 := rcells_inj h1
  simp only [Option.some.injEq, Value.bool.injEq] at h2
  simp only at e1
  rw [e1, h2]
theorem putF_yes {e : Rt} {l : List Rt} {d : Bool} (h : d = false) (h' : pless e.p r.p = false) : putF r (e :: l) d = [r] ++ ((if e.p ≠ r.p then [e] else []) ++ putF r l true) := by
  rw [putF, h, h']; rfl
theorem putF_no {e : Rt} {l : List Rt} {d : Bool} (h : d = true ∨ pless e.p r.p = true) : putF r (e :: l) d = (if e.p ≠ r.p then [e] else []) ++ putF r l d := by
  rw [putF]
  rcases h with h | h <;> rw [h] <;> cases d <;> rfl
end Go.Kb

/- Tables by the reference: walked. -/
namespace Go.Proofs.YtldkgicmfbofiaaGreatDoor
open Go.Eng Go.Kb

theorem partCB (d : Nat) : PartT Tryz.prog (d + 1) 4 false [1] := ⟨⟨_, Tryz.underlying4, rfl⟩, by kernel_rfl, fun _ => rfl, eqF_bool Tryz.underlying4⟩
theorem stoodC : Tryz.prog.stoodInHeld 44 = false := by kernel_rfl
theorem partC (d : Nat) : PartT Tryz.prog (d + 1 + 1 + 1 + 1 + 1) 44 true ((([0] ++ ([0] ++ ((List.replicate 16 [0]).flatten ++ []))) ++ ([0] ++ [])) ++ ([1] ++ [])) := ⟨⟨_, Tryz.underlying44, rfl⟩, by kernel_rfl, (fun h => by cases h),
 eqF_struct Tryz.underlying44 stoodC ⟨by decide, rfl, _, _, _, rfl, partR d, by decide, rfl, _, _, _, rfl, partCB _, rfl⟩⟩
theorem guardC : Tryz.prog.eqGuardType Tryz.prog.depth 44 = false := by kernel_rfl
instance (a b : Ch) : EqV Tryz.prog 44 (.agg (chcells a)) (.agg (chcells b)) (decide (a = b)) :=
 (partC 9995).eq.val rfl guardC (chcells_size a) (chcells_size b) (fun i k hk => by
  have hi : i < 20 := (List.getElem?_eq_some_iff.1 hk).1
  rcases Nat.lt_or_ge i 19 with h | h
  ·
   have h0 : k = 0 := by
    rw [List.getElem?_append_left (by exact h)] at hk
    have : k ∈ (([0] ++ ([0] ++ ((List.replicate 16 [0]).flatten ++ []))) ++ ([0] ++ [])) := List.mem_of_getElem? hk
    simpa using this
   subst h0
   match i, h with
   | 0, _ => exact ⟨_, _, (inferInstance : CellAt (chcells a) 0 _).h, (inferInstance : CellAt (chcells b) 0 _).h, rfl⟩
   | 1, _ => exact ⟨_, _, (inferInstance : CellAt (chcells a) 1 _).h, (inferInstance : CellAt (chcells b) 1 _).h, rfl⟩
   | j + 2, h =>
    rcases Nat.lt_or_ge j 16 with h2 | h2
    ·
     rw [Nat.add_comm j 2]
     exact ⟨_, _, (chcells_r a _ (by omega)).trans ((rcells_p a.r _ (by omega)).trans ((pcells_k a.r.p j).trans (kcells_get _ j h2))), (chcells_r b _ (by omega)).trans ((rcells_p b.r _ (by omega)).trans ((pcells_k b.r.p j).trans (kcells_get _ j h2))), rfl⟩
    ·
     obtain rfl : j = 16 := by omega
     exact ⟨_, _, (chcells_r a 18 (by decide)).trans (rcells_hop a.r), (chcells_r b 18 (by decide)).trans (rcells_hop b.r), rfl⟩
  ·
   obtain rfl : i = 19 := by omega
   have h0 : k = 1 := by simpa using hk.symm
   subst h0
   exact ⟨_, _, chcells_g a, chcells_g b, trivial⟩) (by rw [decide_eq_true_iff]; exact ⟨chcells_inj, fun h => by rw [h]⟩)

end Go.Proofs.YtldkgicmfbofiaaGreatDoor

/- Sorting that keeps the order of equals: insertion, and merging in place. No program in sight. -/
namespace Go.Kb
section
variable {α : Type} (f : α → Nat)
def Srt (l : List α) : Prop := l.Pairwise fun a b => f a ≤ f b
structure Stb (l l' : List α) : Prop where
  srt : Srt f l'
  same : ∀ k, l'.filter (fun x => decide (f x = k)) = l.filter (fun x => decide (f x = k))
variable {f}
theorem Stb.refl {l : List α} (h : Srt f l) : Stb f l l := ⟨h, fun _ => rfl⟩
theorem Stb.trans {a b c : List α} (h : ∀ k, b.filter (fun x => decide (f x = k)) = a.filter (fun x => decide (f x = k))) (h' : Stb f b c) : Stb f a c := ⟨h'.srt, fun k => (h'.same k).trans (h k)⟩
theorem Stb.mem {l l' : List α} (h : Stb f l l') {x : α} : x ∈ l' ↔ x ∈ l := by
  have h1 := h.same (f x)
  have e : ∀ m : List α, x ∈ m ↔ x ∈ m.filter fun y => decide (f y = f x) := fun m => by simp [List.mem_filter]
  rw [e l', h1, ← e l]
theorem Stb.length {l l' : List α} (h : Stb f l l') : l'.length = l.length := by
  have key : ∀ (n : Nat) (a b : List α), a.length = n → (∀ k, b.filter (fun x => decide (f x = k)) = a.filter (fun x => decide (f x = k))) → b.length = a.length := by
    intro n
    induction n using Nat.strongRecOn with
    | _ n ih =>
      intro a b hn hs
      cases a with
      | nil =>
        cases b with
        | nil => rfl
        | cons y b => have := hs (f y); simp at this
      | cons x a =>
        have e1 : ∀ m : List α, m.length = (m.filter fun y => decide (f y = f x)).length + (m.filter fun y => !decide (f y = f x)).length := fun m => by
          rw [← List.countP_eq_length_filter, ← List.countP_eq_length_filter]
          induction m with
          | nil => rfl
          | cons z m ihm => by_cases hz : f z = f x <;> simp [List.countP_cons, hz] at ihm ⊢ <;> omega
        have hx : ((x :: a).filter fun y => !decide (f y = f x)).length < n := by
          have := e1 (x :: a)
          have h2 : 0 < ((x :: a).filter fun y => decide (f y = f x)).length := List.length_pos_of_mem (by simp : x ∈ _)
          omega
        have hs' : ∀ k, (b.filter fun y => !decide (f y = f x)).filter (fun y => decide (f y = k)) = ((x :: a).filter fun y => !decide (f y = f x)).filter (fun y => decide (f y = k)) := fun k => by
          have sw : ∀ m : List α, (m.filter fun y => !decide (f y = f x)).filter (fun y => decide (f y = k)) = (m.filter (fun y => decide (f y = k))).filter fun y => !decide (f y = f x) := fun m => by
            rw [List.filter_filter, List.filter_filter]; congr 1; funext y; rw [Bool.and_comm]
          rw [sw, sw, hs k]
        have := ih _ hx _ _ rfl hs'
        rw [e1 b, e1 (x :: a), hs, this]
  exact key _ l l' rfl h.same
theorem srt_uniq : ∀ {a b : List α}, Srt f a → Srt f b → (∀ k, a.filter (fun x => decide (f x = k)) = b.filter (fun x => decide (f x = k))) → a = b
  | [], [], _, _, _ => rfl
  | [], y :: b, _, _, h => by have := h (f y); simp at this
  | x :: a, [], _, _, h => by have := h (f x); simp at this
  | x :: a, y :: b, ha, hb, h => by
    have ha' := List.pairwise_cons.1 ha
    have hb' := List.pairwise_cons.1 hb
    have hx : x ∈ y :: b := by
      have := (show x ∈ (x :: a).filter (fun z => decide (f z = f x)) by simp)
      rw [h] at this; exact (List.mem_filter.1 this).1
    have hy : y ∈ x :: a := by
      have := (show y ∈ (y :: b).filter (fun z => decide (f z = f y)) by simp)
      rw [← h] at this; exact (List.mem_filter.1 this).1
    have hle1 : f x ≤ f y := by
      rcases List.mem_cons.1 hy with e | e
      · rw [e]; exact Nat.le_refl _
      · exact ha'.1 y e
    have hle2 : f y ≤ f x := by
      rcases List.mem_cons.1 hx with e | e
      · rw [e]; exact Nat.le_refl _
      · exact hb'.1 x e
    have hf : f x = f y := by omega
    have h0 := h (f x)
    rw [List.filter_cons, List.filter_cons, if_pos (by simp), if_pos (by simp [hf])] at h0
    have exy := (List.cons.inj h0).1
    subst exy
    congr 1
    refine srt_uniq ha'.2 hb'.2 fun k => ?_
    have hk := h k
    rw [List.filter_cons, List.filter_cons] at hk
    by_cases e : f x = k
    · rw [if_pos (by simp [e]), if_pos (by simp [e])] at hk; exact (List.cons.inj hk).2
    · rw [if_neg (by simp [e]), if_neg (by simp [e])] at hk; exact hk
theorem Stb.uniq {l a b : List α} (ha : Stb f l a) (hb : Stb f l b) : a = b := srt_uniq ha.srt hb.srt fun k => (ha.same k).trans (hb.same k).symm
def ins (f : α → Nat) (x : α) : List α → List α
  | [] => [x]
  | y :: r => if f y < f x then y :: ins f x r else x :: y :: r
def srt (f : α → Nat) (l : List α) : List α := l.foldr (ins f) []
theorem ins_mem {x y : α} : ∀ {l : List α}, y ∈ ins f x l ↔ y = x ∨ y ∈ l
  | [] => by simp [ins]
  | z :: r => by
    rw [ins]; split
    · rw [List.mem_cons, ins_mem, List.mem_cons]
      constructor
      · rintro (h | h | h) <;> simp [h]
      · rintro (h | h | h) <;> simp [h]
    · simp
theorem ins_srt {x : α} : ∀ {l : List α}, Srt f l → Srt f (ins f x l)
  | [], _ => List.pairwise_singleton _ _
  | y :: r, h => by
    have h' := List.pairwise_cons.1 h
    rw [ins]; split
    · rename_i hl
      refine List.pairwise_cons.2 ⟨fun z hz => ?_, ins_srt h'.2⟩
      rcases ins_mem.1 hz with rfl | hz
      · omega
      · exact h'.1 z hz
    · rename_i hl
      refine List.pairwise_cons.2 ⟨fun z hz => ?_, h⟩
      rcases List.mem_cons.1 hz with rfl | hz
      · omega
      · have := h'.1 z hz; omega
theorem ins_filter {x : α} (k : Nat) : ∀ {l : List α}, Srt f l → (ins f x l).filter (fun z => decide (f z = k)) = (x :: l).filter (fun z => decide (f z = k))
  | [], _ => rfl
  | y :: r, h => by
    have h' := List.pairwise_cons.1 h
    rw [ins]; split
    · rename_i hl
      rw [List.filter_cons, ins_filter k h'.2]
      simp only [List.filter_cons]
      by_cases e1 : f y = k
      · have e2 : ¬ f x = k := by omega
        simp [e1, e2]
      · simp [e1]
    · rfl
theorem srt_stb : ∀ l : List α, Stb f l (srt f l)
  | [] => ⟨List.Pairwise.nil, fun _ => rfl⟩
  | x :: l => by
    have ih := srt_stb l
    refine ⟨ins_srt ih.srt, fun k => ?_⟩
    show (ins f x (srt f l)).filter _ = _
    rw [ins_filter k ih.srt, List.filter_cons, List.filter_cons, ih.same k]
theorem ins_behind {l S A B : List α} {x : α} (h : Stb f l S) (hS : S = A ++ B) (hB : ∀ y ∈ B, f x < f y) (hA : ∀ y ∈ A, f y ≤ f x) : Stb f (l ++ [x]) (A ++ x :: B) := by
  have hs := h.srt
  rw [hS] at hs
  have hp := List.pairwise_append.1 hs
  refine ⟨List.pairwise_append.2 ⟨hp.1, List.pairwise_cons.2 ⟨fun y hy => Nat.le_of_lt (hB y hy), hp.2.1⟩, fun a ha b hb => ?_⟩, fun k => ?_⟩
  · rcases List.mem_cons.1 hb with rfl | hb
    · exact hA a ha
    · exact hp.2.2 a ha b hb
  · have h1 := h.same k
    rw [hS, List.filter_append] at h1
    rw [List.filter_append, List.filter_append, ← h1, List.filter_cons]
    by_cases e : f x = k
    · have hn : B.filter (fun z => decide (f z = k)) = [] := List.filter_eq_nil_iff.2 fun y hy => by have := hB y hy; simp; omega
      simp [e, hn]
    · simp [e]
theorem stb_append {a b a' b' : List α} (ha : Stb f a a') (hb : Stb f b b') (h : ∀ x ∈ a, ∀ y ∈ b, f x ≤ f y) : Stb f (a ++ b) (a' ++ b') :=
  ⟨List.pairwise_append.2 ⟨ha.srt, hb.srt, fun x hx y hy => h x (ha.mem.1 hx) y (hb.mem.1 hy)⟩, fun k => by rw [List.filter_append, List.filter_append, ha.same, hb.same]⟩
theorem swap_mid {L1 L2 R1 R2 : List α} (h : ∀ x ∈ L2, ∀ y ∈ R1, f y < f x) (k : Nat) : ((L1 ++ R1) ++ (L2 ++ R2)).filter (fun z => decide (f z = k)) = ((L1 ++ L2) ++ (R1 ++ R2)).filter (fun z => decide (f z = k)) := by
  simp only [List.filter_append, List.append_assoc]
  congr 1
  rw [← List.append_assoc, ← List.append_assoc]
  congr 1
  cases hl : L2.filter (fun z => decide (f z = k)) with
  | nil => simp
  | cons x _ =>
    have hx : x ∈ L2.filter (fun z => decide (f z = k)) := by rw [hl]; simp
    have hx' := List.mem_filter.1 hx
    have hn : R1.filter (fun z => decide (f z = k)) = [] := List.filter_eq_nil_iff.2 fun y hy => by
      have h1 := h x hx'.1 y hy
      have h2 : f x = k := by simpa using hx'.2
      simp; omega
    rw [hn]; simp
theorem merge_parts {L1 L2 R1 R2 A B : List α} (hLR : Srt f (L1 ++ L2)) (hR : Srt f (R1 ++ R2)) (h1 : ∀ x ∈ L2, ∀ y ∈ R1, f y < f x) (h2 : ∀ x ∈ L1, ∀ y ∈ R2, f x ≤ f y) (hA : Stb f (L1 ++ R1) A) (hB : Stb f (L2 ++ R2) B) : Stb f ((L1 ++ L2) ++ (R1 ++ R2)) (A ++ B) := by
  have pL := (List.pairwise_append.1 hLR).2.2
  have pR := (List.pairwise_append.1 hR).2.2
  refine Stb.trans (fun k => swap_mid h1 k) (stb_append hA hB fun x hx y hy => ?_)
  rcases List.mem_append.1 hx with hx | hx <;> rcases List.mem_append.1 hy with hy | hy
  · exact pL x hx y hy
  · exact h2 x hx y hy
  · exact Nat.le_of_lt (h1 y hy x hx)
  · exact pR x hx y hy
end
end Go.Kb

/- Parts of a list by their places: sorted, turned, merged. No program in sight. -/
namespace Go.Kb
section
variable {α : Type} {f : α → Nat} {xs ys zs : List α} {a b m i j k s e : Nat}
def seg (xs : List α) (i j : Nat) : List α := (xs.drop i).take (j - i)
def rk (f : α → Nat) (xs : List α) (i : Nat) : Nat := match xs[i]? with
  | some x => f x
  | none => 0
theorem rk_at {x : α} (h : xs[i]? = some x) : rk f xs i = f x := by rw [rk, h]
theorem seg_length (h : j ≤ xs.length) : (seg xs i j).length = j - i := by rw [seg, List.length_take, List.length_drop]; omega
theorem seg_nil (h : j ≤ i) : seg xs i j = [] := by rw [seg, show j - i = 0 by omega, List.take_zero]
theorem seg_split (h1 : i ≤ k) (h2 : k ≤ j) : seg xs i j = seg xs i k ++ seg xs k j := by
  unfold seg
  rw [show j - i = (k - i) + (j - k) by omega, List.take_add, List.drop_drop, show i + (k - i) = k by omega]
theorem seg_get (h : k < j - i) : (seg xs i j)[k]? = xs[i + k]? := by rw [seg, List.getElem?_take, if_pos h, List.getElem?_drop]
theorem seg_mem {x : α} : x ∈ seg xs i j ↔ ∃ t, i ≤ t ∧ t < j ∧ xs[t]? = some x := by
  rw [List.mem_iff_getElem?]
  constructor
  · rintro ⟨t, ht⟩
    have hl := (List.getElem?_eq_some_iff.1 ht).1
    have hl2 : t < j - i := by rw [seg, List.length_take] at hl; omega
    rw [seg_get hl2] at ht
    exact ⟨i + t, by omega, by omega, ht⟩
  · rintro ⟨t, h1, h2, h3⟩
    exact ⟨t - i, by rw [seg_get (by omega), show i + (t - i) = t by omega]; exact h3⟩
theorem srt_seg (h : j ≤ xs.length) : Srt f (seg xs i j) ↔ ∀ s t, i ≤ s → s ≤ t → t < j → rk f xs s ≤ rk f xs t := by
  unfold Srt
  rw [List.pairwise_iff_getElem]
  have hl := seg_length (xs := xs) (i := i) h
  have hg : ∀ t (ht : t < (seg xs i j).length), rk f xs (i + t) = f (seg xs i j)[t] := fun t ht => by
    refine rk_at ?_
    rw [← seg_get (i := i) (j := j) (by omega), List.getElem?_eq_getElem ht]
  constructor
  · intro h1 s t h2 h3 h4
    rcases Nat.eq_or_lt_of_le h3 with rfl | h5
    · exact Nat.le_refl _
    · have := h1 (s - i) (t - i) (by omega) (by omega) (by omega)
      rw [← hg, ← hg] at this
      rwa [show i + (s - i) = s by omega, show i + (t - i) = t by omega] at this
  · intro h1 s t hs ht hst
    have := h1 (i + s) (i + t) (by omega) (by omega) (by omega)
    rwa [hg, hg] at this
def Upto (f : α → Nat) (xs : List α) (a b : Nat) (ys : List α) : Prop := ∃ T, Stb f (seg xs a b) T ∧ ys = xs.take a ++ T ++ xs.drop b
theorem Upto.length (h : Upto f xs a b ys) (h1 : a ≤ b) (h2 : b ≤ xs.length) : ys.length = xs.length := by
  obtain ⟨T, hT, rfl⟩ := h
  have := hT.length
  rw [seg_length h2] at this
  simp only [List.length_append, List.length_take, List.length_drop]; omega
theorem parts (h1 : a ≤ b) (h2 : b ≤ xs.length) : xs = xs.take a ++ seg xs a b ++ xs.drop b := by
  rw [seg, List.append_assoc]
  conv => lhs; rw [← List.take_append_drop a xs, ← List.take_append_drop (b - a) (xs.drop a), List.drop_drop, show a + (b - a) = b by omega]
theorem Upto.refl (h1 : a ≤ b) (h2 : b ≤ xs.length) (h : Srt f (seg xs a b)) : Upto f xs a b xs := ⟨seg xs a b, Stb.refl h, parts h1 h2⟩
theorem app_get {P T S : List α} (hP : P.length = a) : (P ++ T ++ S)[i]? = if i < a then P[i]? else if i < a + T.length then T[i - a]? else S[i - a - T.length]? := by
  rw [List.append_assoc, List.getElem?_append, hP]
  split
  · rfl
  · rw [List.getElem?_append]
    split
    · rw [if_pos (by omega)]
    · rw [if_neg (by omega)]
theorem Upto.get (h : Upto f xs a b ys) (h1 : a ≤ b) (h2 : b ≤ xs.length) (hi : i < a ∨ b ≤ i) : ys[i]? = xs[i]? := by
  obtain ⟨T, hT, rfl⟩ := h
  have hl := hT.length
  rw [seg_length h2] at hl
  rw [app_get (a := a) (by rw [List.length_take]; omega)]
  rcases hi with hi | hi
  · rw [if_pos hi, List.getElem?_take, if_pos hi]
  · rw [if_neg (by omega), if_neg (by omega), List.getElem?_drop]; congr 1; omega
theorem seg_ext {l : List α} (h2 : j ≤ xs.length) (hl : l.length = j - i) (h : ∀ t, i ≤ t → t < j → l[t - i]? = xs[t]?) : seg xs i j = l := by
  refine List.ext_getElem? fun t => ?_
  rcases Nat.lt_or_ge t (j - i) with ht | ht
  · rw [seg_get ht, ← h (i + t) (by omega) (by omega), Nat.add_sub_cancel_left]
  · rw [List.getElem?_eq_none (by rw [seg_length h2]; exact ht), List.getElem?_eq_none (by omega)]
theorem seg_same (hl : xs.length = ys.length) (hj : j ≤ xs.length) (h : ∀ t, i ≤ t → t < j → ys[t]? = xs[t]?) : seg ys i j = seg xs i j := by
  refine List.ext_getElem? fun t => ?_
  rcases Nat.lt_or_ge t (j - i) with ht | ht
  · rw [seg_get ht, seg_get ht, h (i + t) (by omega) (by omega)]
  · rw [List.getElem?_eq_none (by rw [seg_length (by omega)]; exact ht), List.getElem?_eq_none (by rw [seg_length hj]; exact ht)]
theorem Upto.seg_in (h : Upto f xs a b ys) (h1 : a ≤ b) (h2 : b ≤ xs.length) : Stb f (seg xs a b) (seg ys a b) := by
  have hl := h.length h1 h2
  obtain ⟨T, hT, rfl⟩ := h
  have hTl := hT.length
  rw [seg_length h2] at hTl
  rw [seg_ext (xs := xs.take a ++ T ++ xs.drop b) (i := a) (j := b) (l := T) (by omega) (by omega) fun t h3 h4 => by rw [app_get (a := a) (by rw [List.length_take]; omega), if_neg (by omega), if_pos (by omega)]]
  exact hT
theorem upto_of (h1 : a ≤ b) (h2 : b ≤ xs.length) (hl : ys.length = xs.length) (ho : ∀ i, i < a ∨ b ≤ i → ys[i]? = xs[i]?) (h : Stb f (seg xs a b) (seg ys a b)) : Upto f xs a b ys := by
  refine ⟨_, h, ?_⟩
  have e := parts (xs := ys) h1 (by omega)
  conv => lhs; rw [e]
  congr 1
  · congr 1
    refine List.ext_getElem? fun i => ?_
    rw [List.getElem?_take, List.getElem?_take]; split
    · exact ho i (.inl (by omega))
    · rfl
  · refine List.ext_getElem? fun i => ?_
    rw [List.getElem?_drop, List.getElem?_drop]; exact ho _ (.inr (by omega))
def rot (xs : List α) (s m e : Nat) : List α := xs.take s ++ (seg xs m e ++ seg xs s m) ++ xs.drop e
theorem rot_length (h1 : s ≤ m) (h2 : m ≤ e) (h3 : e ≤ xs.length) : (rot xs s m e).length = xs.length := by
  unfold rot
  simp only [List.length_append, seg_length h3, seg_length (show m ≤ xs.length by omega), List.length_take, List.length_drop]; omega
theorem rot_get (h1 : s ≤ m) (h2 : m ≤ e) (h3 : e ≤ xs.length) : (rot xs s m e)[i]? = if i < s then xs[i]? else if i < s + (e - m) then xs[m + (i - s)]? else if i < e then xs[i - (e - m)]? else xs[i]? := by
  have l1 := seg_length (xs := xs) (i := m) h3
  have l2 := seg_length (xs := xs) (i := s) (j := m) (by omega)
  unfold rot
  rw [app_get (a := s) (by rw [List.length_take]; omega)]
  split
  · rw [List.getElem?_take, if_pos (by omega)]
  · rw [List.length_append, l1, l2]
    split
    · rw [List.getElem?_append, l1]
      split
      · rw [if_pos (by omega), seg_get (by omega)]
      · rw [if_neg (by omega), if_pos (by omega), seg_get (by omega)]; congr 1; omega
    · rw [if_neg (by omega), if_neg (by omega), List.getElem?_drop]; congr 1; omega
theorem sym_done (h1 : a ≤ s) (h2 : s ≤ m) (h3 : m ≤ e) (h4 : e ≤ b) (h5 : b ≤ xs.length) (hL : Srt f (seg xs a m)) (hR : Srt f (seg xs m b))
    (k1 : ∀ x ∈ seg xs s m, ∀ y ∈ seg xs m e, f y < f x) (k2 : ∀ x ∈ seg xs a s, ∀ y ∈ seg xs e b, f x ≤ f y)
    (hA : Upto f (rot xs s m e) a (s + (e - m)) ys) (hB : Upto f ys (s + (e - m)) b zs) : Upto f xs a b zs := by
  have lr := rot_length h2 h3 (show e ≤ xs.length by omega)
  have ly := hA.length (by omega) (by omega)
  have lz := hB.length (by omega) (by omega)
  have gr : ∀ i, (rot xs s m e)[i]? = _ := fun i => rot_get (i := i) h2 h3 (show e ≤ xs.length by omega)
  have eL : seg (rot xs s m e) a (s + (e - m)) = seg xs a s ++ seg xs m e := by
    refine seg_ext (by omega) (by rw [List.length_append, seg_length (by omega), seg_length (by omega)]; omega) fun t t1 t2 => ?_
    rw [List.getElem?_append, seg_length (by omega)]
    by_cases ht : t < s
    · have e1 : (rot xs s m e)[t]? = xs[t]? := by rw [gr, if_pos ht]
      rw [e1, if_pos (by omega), seg_get (by omega)]; congr 1; omega
    · have e1 : (rot xs s m e)[t]? = xs[m + (t - s)]? := by rw [gr, if_neg ht, if_pos t2]
      rw [e1, if_neg (by omega), seg_get (by omega)]; congr 1; omega
  have eR0 : seg (rot xs s m e) (s + (e - m)) b = seg xs s m ++ seg xs e b := by
    refine seg_ext (by omega) (by rw [List.length_append, seg_length (by omega), seg_length (by omega)]; omega) fun t t1 t2 => ?_
    rw [List.getElem?_append, seg_length (by omega)]
    by_cases ht : t < e
    · have e1 : (rot xs s m e)[t]? = xs[t - (e - m)]? := by rw [gr, if_neg (by omega), if_neg (by omega), if_pos ht]
      rw [e1, if_pos (by omega), seg_get (by omega)]; congr 1; omega
    · have e1 : (rot xs s m e)[t]? = xs[t]? := by rw [gr, if_neg (by omega), if_neg (by omega), if_neg ht]
      rw [e1, if_neg (by omega), seg_get (by omega)]; congr 1; omega
  have eR : seg ys (s + (e - m)) b = seg xs s m ++ seg xs e b := by
    rw [← eR0]
    exact seg_same ly.symm (by omega) fun t t1 t2 => hA.get (by omega) (by omega) (.inr t1)
  have sA := hA.seg_in (by omega) (by omega)
  have sB := hB.seg_in (by omega) (by omega)
  rw [eL] at sA
  rw [eR] at sB
  have eA : seg zs a (s + (e - m)) = seg ys a (s + (e - m)) := seg_same lz.symm (by omega) fun t t1 t2 => hB.get (by omega) (by omega) (.inl t2)
  rw [seg_split h1 h2] at hL
  rw [seg_split h3 h4] at hR
  have := merge_parts hL hR k1 k2 sA sB
  rw [← seg_split h1 h2, ← seg_split h3 h4, ← seg_split (by omega) (by omega), ← eA, ← seg_split (by omega) (by omega)] at this
  refine upto_of (by omega) h5 (by omega) (fun i hi => ?_) this
  rw [hB.get (by omega) (by omega) (by omega), hA.get (by omega) (by omega) (by omega), gr]
  rcases hi with hi | hi
  · rw [if_pos (by omega)]
  · rw [if_neg (by omega), if_neg (by omega), if_neg (by omega)]
theorem upto_more (h1 : a ≤ b) (h2 : b ≤ xs.length) (h : Upto f xs a b ys) (i j : Nat) (hi : a ≤ i) (hj : j ≤ b) (hz : Upto f ys i j zs) (hij : i ≤ j) (hs : Srt f (seg zs a b)) : Upto f xs a b zs := by
  have ly := h.length h1 h2
  have lz := hz.length hij (by omega)
  refine upto_of h1 h2 (by omega) (fun t ht => by rw [hz.get hij (by omega) (by omega), h.get h1 h2 ht]) ⟨hs, fun k => ?_⟩
  rw [← (h.seg_in h1 h2).same k]
  have e1 : seg zs a b = seg ys a i ++ (seg zs i j ++ seg ys j b) := by
    rw [seg_split hi (show i ≤ b by omega), seg_split hij hj]
    congr 1
    · exact seg_same lz.symm (by omega) fun t t1 t2 => hz.get hij (by omega) (.inl t2)
    · congr 1
      exact seg_same lz.symm (by omega) fun t t1 t2 => hz.get hij (by omega) (.inr t1)
  have e2 : seg ys a b = seg ys a i ++ (seg ys i j ++ seg ys j b) := by rw [seg_split hi (show i ≤ b by omega), seg_split hij hj]
  rw [e1, e2]
  simp only [List.filter_append]
  rw [(hz.seg_in hij (by omega)).same k]
end
end Go.Kb

/- Natives that sorting calls: the swapper of a slice. -/
namespace Go.Eng
open Go.RowKit Go.Kb
section
variable {P : Program} {w0 w : World} {L : List Ent} {α : Type} {enc : α → Array Value} {c : Nat} {s : Sv} {xs : List α}
def swp (xs : List α) (i j : Nat) : List α := match xs[i]?, xs[j]? with
  | some x, some y => (xs.set i y).set j x
  | _, _ => xs
theorem swp_length (xs : List α) (i j : Nat) : (swp xs i j).length = xs.length := by
  unfold swp; split <;> simp
theorem swp_at {i j : Nat} {x y : α} (hx : xs[i]? = some x) (hy : xs[j]? = some y) (k : Nat) : (swp xs i j)[k]? = if k = j then some x else if k = i then some y else xs[k]? := by
  have hi := (List.getElem?_eq_some_iff.1 hx).1
  have hj := (List.getElem?_eq_some_iff.1 hy).1
  have e : swp xs i j = (xs.set i y).set j x := by unfold swp; rw [hx, hy]
  rw [e, List.getElem?_set, List.getElem?_set, List.length_set]
  by_cases e1 : k = j
  · subst e1; simp [hj]
  · rw [if_neg (fun h => e1 h.symm), if_neg e1]
    by_cases e2 : k = i
    · subst e2; simp [hi]
    · rw [if_neg (fun h => e2 h.symm), if_neg e2]
theorem swap_run {e : TypeId} {ie : TypeInfo} (hie : P.info? e = some ie) (hsz : ie.size = c) (hagg : ∀ w, (isAgg e).run P w = .ok true w) {i j idx : Nat} [he : Enc enc c] (hw : Mem w0 L w) (q : Owns L s enc c xs idx) (hi : i < xs.length) (hj : j < xs.length) :
    ∃ w', (Extern.ReflectliteSwapper.swap false #[.int .i64 i, .int .i64 j, s.val, typeHandle P e]).run P w = .ok (.tuple #[]) w' ∧ Mem w0 (L.set idx (own enc c s (swp xs i j))) w' := by
  obtain ⟨x, hx⟩ := get_some hi
  obtain ⟨y, hy⟩ := get_some hj
  obtain ⟨r, hrow⟩ := hw.get q.h
  have hn := r.some hi
  obtain ⟨hsp, _⟩ := hrow hn
  have hlen := r.len
  have cell : ∀ k z, xs[k]? = some z → ∀ t v, (enc z).toList[t]? = some v → w.cell? ⟨s.b, s.o + k * c + t, none⟩ = some v := fun k z hz t v hv => by
    have ht : t < c := by rw [← he.size z]; have := (List.getElem?_eq_some_iff.1 hv).1; simpa using this
    rw [cell_hp]
    have := r.row k z hz t ht
    rw [Array.getElem?_toList] at hv
    rw [← hv]; exact this
  have l1 := Lib.rl_loadVar_cells (P := P) e ie hie hagg s.b (s.o + i * c) (enc x).toList (by rw [Array.length_toList, he.size, hsz]) w (cell i x hx)
  have l2 := Lib.rl_loadVar_cells (P := P) e ie hie hagg s.b (s.o + j * c) (enc y).toList (by rw [Array.length_toList, he.size, hsz]) w (cell j y hy)
  obtain ⟨w1, s1, m1⟩ := mem_store (P := P) (j := 0) (a' := y) (vs := enc y) (L' := L.set idx (own enc c s (xs.set i y))) hw q hx (he.one y) (by rw [he.size]; omega) (by unfold over; apply Array.ext'; simp [he.size]) ⟨rfl⟩
  have hil : idx < L.length := (List.getElem?_eq_some_iff.1 q.h).1
  have q2 : Owns (L.set idx (own enc c s (xs.set i y))) s enc c (xs.set i y) idx := ⟨by rw [List.getElem?_set_self hil]⟩
  obtain ⟨z, hz⟩ := get_some (xs := xs.set i y) (i := j) (by rw [List.length_set]; exact hj)
  obtain ⟨w2, s2, m2⟩ := mem_store (P := P) (j := 0) (a' := x) (vs := enc x) (L' := L.set idx (own enc c s ((xs.set i y).set j x))) m1 q2 hz (he.one x) (by rw [he.size]; omega) (by unfold over; apply Array.ext'; simp [he.size]) ⟨by rw [List.set_set]⟩
  have st : ∀ (o : Nat) (vs : Array Value) (w w' : World), vs.size = c → (storeCells ⟨s.b, o, none⟩ vs.toList).run P w = .ok () w' → (storeVar e ⟨s.b, o, none⟩ (.agg vs)).run P w = .ok () w' := fun o vs w w' hs h => by
    simp [storeVar, Value.cells, sizeOf, Lib.rl_info e ie hie, hsz, hs, h, Result.andThen]
  have st1 := st _ _ _ _ (he.size y) s1
  have st2 := st _ _ _ _ (he.size x) s2
  rw [Nat.add_zero] at st1 st2
  have ex : (enc x).toList.toArray = enc x := by simp
  have ey : (enc y).toList.toArray = enc y := by simp
  rw [ex] at l1
  rw [ey] at l2
  refine ⟨w2, ?_, ?_⟩
  · rw [Sv.val_some hn, hsp, Lib.rl_swap]
    have i0 : ¬ ((i : Int) < 0) := by omega
    have i1 : ¬ ((i : Int) ≥ s.len) := by omega
    have j0 : ¬ ((j : Int) < 0) := by omega
    have j1 : ¬ ((j : Int) ≥ s.len) := by omega
    simp [i0, i1, j0, j1, Extern.Rtype.ofHandle, handleType, typeHandle, Extern.ReflectliteSwapper.exchange, sizeOf, Lib.rl_info e ie hie, hsz, Addr.add_lit, l1, l2, st1, st2, Result.andThen]
  · have : swp xs i j = (xs.set i y).set j x := by unfold swp; rw [hx, hy]
    rw [this]; exact m2
end
section
variable {P : Program} {N : Fra} {w0 : World} {env : Env} {L : List Ent} {l : List Oper} {Q : Exit → Act → World → Prop} {rest : List Oper} {d : Option Tmp} {ty : TypeId} {ps : String} {af : Array Edge} {gd : Option (Nat × Bool)}
theorem sq_native {f : FuncId} {fn : Func} {e : Array Value → Sem Value} {xs : List Operand} {ts : Array TypeId} {vs : List Value} (hf : P.funcs[f]? = some fn) (hname : (fn.name == "runtime.NumGoroutine") = false) (hb : fn.body.isNone = true) (hn : Extern.findNext fn = none) (he : Extern.find fn = some e) (hx : evl env xs = some vs)
    (h : ∀ w, Mem w0 L w → ∃ v w' L', (e vs.toArray).run P w = .ok v w' ∧ Mem w0 L' w' ∧ Sq P N w0 l Q rest (putE env d v) L') (hd : dstOk N d = true := by rfl) :
    Sq P N w0 l Q (⟨d, .call { callee := .value (.func f), args := xs.toArray, argTypes := ts }, ty, ps, af, none⟩ :: rest) env L :=
  sq_run rfl hd fun a w ha hw => by
    obtain ⟨v, w', L', h1, h2, h3⟩ := h w hw
    refine ⟨v, w', L', ?_, h2, h3⟩
    have hm := ha.evl hx
    have hr := run_callFunc_extern hf hname hb hn he vs.toArray w
    rw [h1] at hr
    simp [execOp, resolve, Act.eval, Deferred.ofValue, invoke, ← hm] at hr ⊢
    rw [hr]
theorem sq_nativeV {f : FuncId} {fn : Func} {e : Array Value → Sem Value} {x : Operand} {caps : Array Value} {xs : List Operand} {ts : Array TypeId} {vs : List Value} (hf : P.funcs[f]? = some fn) (hname : (fn.name == "runtime.NumGoroutine") = false) (hb : fn.body.isNone = true) (hn : Extern.findNext fn = none) (he : Extern.find fn = some e) (hx : ev env x = some (.func (.func f) #[] caps)) (hxs : evl env xs = some vs)
    (h : ∀ w, Mem w0 L w → ∃ v w' L', (e (vs ++ caps.toList).toArray).run P w = .ok v w' ∧ Mem w0 L' w' ∧ Sq P N w0 l Q rest (putE env d v) L') (hd : dstOk N d = true := by rfl) :
    Sq P N w0 l Q (⟨d, .call { callee := .value x, args := xs.toArray, argTypes := ts }, ty, ps, af, none⟩ :: rest) env L :=
  sq_run rfl hd fun a w ha hw => by
    obtain ⟨v, w', L', h1, h2, h3⟩ := h w hw
    refine ⟨v, w', L', ?_, h2, h3⟩
    have hm := ha.evl hxs
    have hr := run_callFunc_extern hf hname hb hn he (vs ++ caps.toList).toArray w
    rw [h1] at hr
    simp [execOp, resolve, ha.ev hx, Deferred.ofValue, invoke, ← hm] at hr ⊢
    have e2 : ((List.map a.eval xs).toArray ++ caps) = (List.map a.eval xs ++ caps.toList).toArray := by apply Array.ext'; simp
    rw [e2, hr]
theorem ry_iface {t : TypeId} {x : Operand} {v : Value} (hu : ∃ d, P.underlying t = some d ∧ (match d with | .interface _ => False | _ => True)) (hx : ev env x = some v) : Ry P N w0 env L ⟨d, .makeInterface t x, ty, ps, af, gd⟩ (.iface t v) := fun a w ha _ => by
  obtain ⟨D, h1, h2⟩ := hu
  have h3 : (underlying t).run P w = .ok D w := run_underlying h1 w
  have h4 : (Instr.makeInterface t v).run P w = .ok (.iface t v) w := by
    unfold Instr.makeInterface
    simp only [Sem.run_bind, h3, Result.andThen]
    cases D <;> first | rfl | exact h2.elim
  simp [execOp, ha.ev hx, h4, Result.andThen]
end
end Go.Eng

/- Steps of a stable sort in place. No program in sight. -/
namespace Go.Eng
open Go.Kb
section
variable {α : Type} {f : α → Nat} {xs ys zs ts : List α} {a b m i j k n : Nat}
theorem upto_same (h : Upto f xs a b ys) (h1 : a ≤ b) (h2 : b ≤ xs.length) {x : α} : x ∈ ys ↔ x ∈ xs := by
  have e := parts (xs := xs) h1 h2
  obtain ⟨T, hT, rfl⟩ := h
  conv => rhs; rw [e]
  simp only [List.mem_append, hT.mem]
structure Slid (zs ts : List α) (i j : Nat) : Prop where
  len : ts.length = zs.length
  at' : ∀ t, ts[t]? = if t < j then zs[t]? else if t = j then zs[i]? else if t ≤ i then zs[t - 1]? else zs[t]?
theorem Slid.refl : Slid zs zs i i := ⟨rfl, fun t => by
  split
  · rfl
  · split
    · rename_i h; rw [h]
    · split
      · omega
      · rfl⟩
theorem Slid.step (h : Slid zs ts i j) (hj : 0 < j) (hji : j ≤ i) (hi : i < zs.length) : Slid zs (swp ts j (j - 1)) i (j - 1) := by
  have hl := h.len
  obtain ⟨x, hx⟩ := get_some (xs := ts) (i := j) (by omega)
  obtain ⟨y, hy⟩ := get_some (xs := ts) (i := j - 1) (by omega)
  have ex : zs[i]? = some x := by rw [← hx, h.at', if_neg (by omega), if_pos rfl]
  have ey : zs[j - 1]? = some y := by rw [← hy, h.at', if_pos (by omega)]
  refine ⟨by rw [swp_length, hl], fun t => ?_⟩
  rw [swp_at hx hy]
  by_cases e1 : t = j - 1
  · rw [if_pos e1, if_neg (by omega), if_pos e1, ex]
  · rw [if_neg e1]
    by_cases e2 : t = j
    · rw [if_pos e2, if_neg (by omega), if_neg e1, if_pos (by omega), e2, ey]
    · rw [if_neg e2]
      by_cases e3 : t < j
      · have el : ts[t]? = zs[t]? := by rw [h.at', if_pos e3]
        rw [el, if_pos (by omega)]
      · rw [if_neg (show ¬ t < j - 1 by omega), if_neg e1, h.at', if_neg e3, if_neg e2]
theorem Slid.mem (h : Slid zs ts i j) (hji : j ≤ i) (hi : i < zs.length) {x : α} (hx : x ∈ ts) : x ∈ zs := by
  obtain ⟨t, ht⟩ := List.mem_iff_getElem?.1 hx
  rw [h.at'] at ht
  split at ht
  · exact List.mem_of_getElem? ht
  · split at ht
    · exact List.mem_of_getElem? ht
    · split at ht <;> exact List.mem_of_getElem? ht
theorem Slid.seg (h : Slid zs ts i j) (ha : a ≤ j) (hji : j ≤ i) (hi : i < zs.length) {x : α} (hx : zs[i]? = some x) : seg ts a (i + 1) = seg zs a j ++ x :: seg zs j i := by
  have hl := h.len
  refine seg_ext (by omega) (by rw [List.length_append, List.length_cons, seg_length (by omega), seg_length (by omega)]; omega) fun t h1 h2 => ?_
  rw [List.getElem?_append, seg_length (by omega), h.at']
  by_cases e1 : t < j
  · rw [if_pos (by omega), if_pos e1, seg_get (by omega), show a + (t - a) = t by omega]
  · rw [if_neg (by omega), if_neg e1]
    by_cases e2 : t = j
    · rw [if_pos e2, show t - a - (j - a) = 0 by omega, hx]; rfl
    · rw [if_neg e2, if_pos (by omega), show t - a - (j - a) = (t - j - 1) + 1 by omega, List.getElem?_cons_succ, seg_get (by omega)]; congr 1; omega
theorem mem_rk {x : α} (h : x ∈ seg zs i j) : ∃ t, i ≤ t ∧ t < j ∧ rk f zs t = f x := by
  obtain ⟨t, h1, h2, h3⟩ := seg_mem.1 h
  exact ⟨t, h1, h2, rk_at h3⟩
theorem ins_done (hu : Upto f xs a i zs) (hai : a ≤ i) (hi : i < xs.length) (h : Slid zs ts i j) (ha : a ≤ j) (hji : j ≤ i) (h1 : ∀ t, j ≤ t → t < i → rk f zs i < rk f zs t) (h2 : j = a ∨ rk f zs (j - 1) ≤ rk f zs i) : Upto f xs a (i + 1) ts := by
  have lz := hu.length hai (by omega)
  have hl := h.len
  obtain ⟨x, hx⟩ := get_some (xs := zs) (i := i) (by omega)
  have fx : rk f zs i = f x := rk_at hx
  have hs := hu.seg_in hai (by omega)
  have hsr := (srt_seg (xs := zs) (f := f) (i := a) (j := i) (by omega)).1 hs.srt
  have hxx : xs[i]? = some x := by rw [← hx]; exact (hu.get hai (by omega) (.inr (Nat.le_refl _))).symm
  have e1 : seg xs a (i + 1) = seg xs a i ++ [x] := by
    rw [seg_split hai (Nat.le_succ i)]
    congr 1
    unfold Go.Kb.seg
    obtain ⟨hh, hv⟩ := List.getElem?_eq_some_iff.1 hxx
    rw [show i + 1 - i = 1 by omega, List.drop_eq_getElem_cons hh, List.take_succ_cons, List.take_zero, hv]
  refine upto_of (by omega) (by omega) (by omega) (fun t ht => ?_) ?_
  · rw [h.at', ← hu.get hai (by omega) (i := t) (by omega)]
    rcases ht with ht | ht
    · rw [if_pos (by omega)]
    · rw [if_neg (by omega), if_neg (by omega), if_neg (by omega)]
  · rw [e1, h.seg ha hji (by omega) hx]
    refine ins_behind hs (seg_split ha hji) (fun y hy => ?_) fun y hy => ?_
    · obtain ⟨t, t1, t2, t3⟩ := mem_rk (f := f) hy
      rw [← t3, ← fx]; exact h1 t t1 t2
    · obtain ⟨t, t1, t2, t3⟩ := mem_rk (f := f) hy
      rw [← t3, ← fx]
      rcases h2 with h2 | h2
      · omega
      · exact Nat.le_trans (hsr t (j - 1) t1 (by omega) (by omega)) h2
theorem upto_one (h : a < xs.length) : Upto f xs a (a + 1) xs := Upto.refl (Nat.le_succ a) h ((srt_seg (by omega)).2 fun s t h1 h2 h3 => by obtain rfl : s = t := (by omega); exact Nat.le_refl _)
theorem upto_nil (h : a ≤ xs.length) : Upto f xs a a xs := Upto.refl (Nat.le_refl a) h (by rw [seg_nil (Nat.le_refl a)]; exact List.Pairwise.nil)
/-! Parts that change places. -/
structure Swr (xs ys : List α) (a b n : Nat) : Prop where
  len : ys.length = xs.length
  at' : ∀ t, ys[t]? = if a ≤ t ∧ t < a + n then xs[t - a + b]? else if b ≤ t ∧ t < b + n then xs[t - b + a]? else xs[t]?
theorem Swr.zero : Swr xs xs a b 0 := ⟨rfl, fun t => by rw [if_neg (by omega), if_neg (by omega)]⟩
theorem Swr.step (h : Swr xs ys a b n) (h1 : a + n < b) (h2 : b + n < xs.length) : Swr xs (swp ys (a + n) (b + n)) a b (n + 1) := by
  have hl := h.len
  obtain ⟨x, hx⟩ := get_some (xs := ys) (i := a + n) (by omega)
  obtain ⟨y, hy⟩ := get_some (xs := ys) (i := b + n) (by omega)
  have ex : xs[a + n]? = some x := by rw [← hx, h.at', if_neg (by omega), if_neg (by omega)]
  have ey : xs[b + n]? = some y := by rw [← hy, h.at', if_neg (by omega), if_neg (by omega)]
  refine ⟨by rw [swp_length, hl], fun t => ?_⟩
  rw [swp_at hx hy]
  by_cases e1 : t = b + n
  · rw [if_pos e1, if_neg (by omega), if_pos (by omega), show t - b + a = a + n by omega, ex]
  · rw [if_neg e1]
    by_cases e2 : t = a + n
    · rw [if_pos e2, if_pos (by omega), show t - a + b = b + n by omega, ey]
    · rw [if_neg e2]
      by_cases e3 : a ≤ t ∧ t < a + n
      · have el : ys[t]? = xs[t - a + b]? := by rw [h.at', if_pos e3]
        rw [el, if_pos (by omega)]
      · by_cases e4 : b ≤ t ∧ t < b + n
        · have el : ys[t]? = xs[t - b + a]? := by rw [h.at', if_neg e3, if_pos e4]
          rw [el, if_neg (by omega), if_pos (by omega)]
        · have el : ys[t]? = xs[t]? := by rw [h.at', if_neg e3, if_neg e4]
          rw [el, if_neg (by omega), if_neg (by omega)]
theorem four {P U W V S : List α} (t : Nat) : (P ++ (U ++ (W ++ (V ++ S))))[t]? = if t < P.length then P[t]? else if t < P.length + U.length then U[t - P.length]? else if t < P.length + U.length + W.length then W[t - P.length - U.length]? else if t < P.length + U.length + W.length + V.length then V[t - P.length - U.length - W.length]? else S[t - P.length - U.length - W.length - V.length]? := by
  simp only [List.getElem?_append]
  by_cases c1 : t < P.length
  · rw [if_pos c1, if_pos c1]
  · rw [if_neg c1, if_neg c1]
    by_cases c2 : t < P.length + U.length
    · rw [if_pos c2, if_pos (show t - P.length < U.length by omega)]
    · rw [if_neg c2, if_neg (show ¬ t - P.length < U.length by omega)]
      by_cases c3 : t < P.length + U.length + W.length
      · rw [if_pos c3, if_pos (show t - P.length - U.length < W.length by omega)]
      · rw [if_neg c3, if_neg (show ¬ t - P.length - U.length < W.length by omega)]
        by_cases c4 : t < P.length + U.length + W.length + V.length
        · rw [if_pos c4, if_pos (show t - P.length - U.length - W.length < V.length by omega)]
        · rw [if_neg c4, if_neg (show ¬ t - P.length - U.length - W.length < V.length by omega)]
theorem Swr.app {P U W V S : List α} (h : Swr (P ++ (U ++ (W ++ (V ++ S)))) ys P.length (P.length + U.length + W.length) U.length) (he : V.length = U.length) : ys = P ++ (V ++ (W ++ (U ++ S))) := by
  refine List.ext_getElem? fun t => ?_
  by_cases c2 : P.length ≤ t ∧ t < P.length + U.length
  · have e1 : ys[t]? = V[t - P.length]? := by
      rw [h.at', if_pos c2, four, if_neg (by omega), if_neg (by omega), if_neg (by omega), if_pos (by omega)]; congr 1; omega
    rw [e1, four, if_neg (by omega), if_pos (by omega)]
  · by_cases c4 : P.length + U.length + W.length ≤ t ∧ t < P.length + U.length + W.length + U.length
    · have e1 : ys[t]? = U[t - (P.length + U.length + W.length)]? := by
        rw [h.at', if_neg c2, if_pos c4, four, if_neg (by omega), if_pos (by omega)]; congr 1; omega
      rw [e1, four, if_neg (by omega), if_neg (by omega), if_neg (by omega), if_pos (by omega)]; congr 1; omega
    · rw [h.at', if_neg c2, if_neg c4, four, four]
      by_cases d1 : t < P.length
      · rw [if_pos d1, if_pos d1]
      · rw [if_neg d1, if_neg d1, if_neg (show ¬ t < P.length + U.length by omega), if_neg (show ¬ t < P.length + V.length by omega)]
        by_cases d3 : t < P.length + U.length + W.length
        · rw [if_pos d3, if_pos (show t < P.length + V.length + W.length by omega), he]
        · rw [if_neg d3, if_neg (show ¬ t < P.length + V.length + W.length by omega), if_neg (show ¬ t < P.length + U.length + W.length + V.length by omega), if_neg (show ¬ t < P.length + V.length + W.length + U.length by omega), he]
def Turns (cur fin : List α) (m i j : Nat) : Prop := ∃ P U V S : List α, cur = P ++ (U ++ (V ++ S)) ∧ fin = P ++ (V ++ (U ++ S)) ∧ P.length = m - i ∧ U.length = i ∧ V.length = j ∧ i ≤ m
theorem Turns.start (h1 : a ≤ m) (h2 : m ≤ b) (h3 : b ≤ xs.length) : Turns xs (rot xs a m b) m (m - a) (b - m) := by
  refine ⟨xs.take a, seg xs a m, seg xs m b, xs.drop b, ?_, by rw [rot]; simp only [List.append_assoc], by rw [List.length_take]; omega, seg_length (by omega), seg_length h3, by omega⟩
  have := parts (xs := xs) (show a ≤ b by omega) h3
  rw [seg_split h1 h2] at this
  simpa only [List.append_assoc] using this
theorem Turns.left {cur fin : List α} (h : Turns cur fin m i j) (hij : j ≤ i) (hs : Swr cur ys (m - i) m j) : Turns ys fin m (i - j) j := by
  obtain ⟨P, U, V, S, rfl, rfl, h1, h2, h3, h4⟩ := h
  obtain ⟨U1, U2, rfl, hu⟩ : ∃ U1 U2, U = U1 ++ U2 ∧ U1.length = j := ⟨U.take j, U.drop j, (List.take_append_drop j U).symm, by rw [List.length_take]; omega⟩
  have hu2 : U2.length = i - j := by rw [List.length_append] at h2; omega
  have e := Swr.app (P := P) (U := U1) (W := U2) (V := V) (S := S) (ys := ys) (by
    rw [show P.length = m - i from h1, hu, hu2, show m - i + j + (i - j) = m by omega]
    simpa only [List.append_assoc] using hs) (by omega)
  exact ⟨P ++ V, U2, U1, S, by rw [e]; simp only [List.append_assoc], by simp only [List.append_assoc], by rw [List.length_append]; omega, hu2, hu, by omega⟩
theorem Turns.right {cur fin : List α} (h : Turns cur fin m i j) (hij : i ≤ j) (hs : Swr cur ys (m - i) (m + j - i) i) : Turns ys fin m i (j - i) := by
  obtain ⟨P, U, V, S, rfl, rfl, h1, h2, h3, h4⟩ := h
  obtain ⟨V1, V2, rfl, hv⟩ : ∃ V1 V2, V = V1 ++ V2 ∧ V2.length = i := ⟨V.take (j - i), V.drop (j - i), (List.take_append_drop _ V).symm, by rw [List.length_drop]; omega⟩
  have hv1 : V1.length = j - i := by rw [List.length_append] at h3; omega
  have e := Swr.app (P := P) (U := U) (W := V1) (V := V2) (S := S) (ys := ys) (by
    rw [show P.length = m - i from h1, h2, hv1, show m - i + i + (j - i) = m + j - i by omega]
    simpa only [List.append_assoc] using hs) (by omega)
  exact ⟨P, V2, V1, U ++ S, by rw [e], by simp only [List.append_assoc], h1, hv, hv1, h4⟩
theorem Turns.done {cur fin : List α} (h : Turns cur fin m i i) (hs : Swr cur ys (m - i) m i) : ys = fin := by
  obtain ⟨P, U, V, S, rfl, rfl, h1, h2, h3, h4⟩ := h
  have e := Swr.app (P := P) (U := U) (W := []) (V := V) (S := S) (ys := ys) (by
    rw [h1, h2, show m - i + i + ([] : List α).length = m by simp; omega]
    simpa using hs) (by omega)
  rw [e]; simp
end
end Go.Eng

/- The order of routes as a number; steps of a merge in place; blocks. No program in sight. -/
namespace Go.Eng
open Go.Kb
/-! The order of prefixes as a number. -/
def rkP (p : Pfx) : Nat := (p.bits.toNat * 2 ^ 128 + p.key.toNat) * 256 + p.len.toNat
def rkR (r : Rt) : Nat := rkP r.p
def MayAll (xs : List Rt) : Prop := ∀ x ∈ xs, pmay x.p = true
theorem pless_rk {p q : Pfx} (hp : pmay p = true) (hq : pmay q = true) : pless p q = decide (rkP p < rkP q) := by
  rw [Bool.eq_iff_iff, decide_eq_true_iff, pless_iff hp hq]
  obtain ⟨a1, a2, a3, _⟩ := (pmay_iff p).1 hp
  obtain ⟨b1, b2, b3, _⟩ := (pmay_iff q).1 hq
  have := p.key.isLt
  have := q.key.isLt
  unfold rkP
  omega
theorem rkP_inj {p q : Pfx} (hp : pmay p = true) (hq : pmay q = true) (h : rkP p = rkP q) : p = q := by
  obtain ⟨a1, a2, a3, _⟩ := (pmay_iff p).1 hp
  obtain ⟨b1, b2, b3, _⟩ := (pmay_iff q).1 hq
  have h1 := p.key.isLt
  have h2 := q.key.isLt
  unfold rkP at h
  cases p; cases q
  simp only [Pfx.mk.injEq] at *
  refine ⟨by omega, by omega, BitVec.eq_of_toNat_eq (by omega)⟩
def lessV (xs : List Rt) (i j : Int) : Bool := pless (xs.getD i.toNat zroute).p (xs.getD j.toNat zroute).p
theorem lessV_rk {xs : List Rt} (h : MayAll xs) {i j : Int} {s t : Nat} (ei : i.toNat = s) (ej : j.toNat = t) (hi : s < xs.length) (hj : t < xs.length) : lessV xs i j = decide (rk rkR xs s < rk rkR xs t) := by
  obtain ⟨x, hx⟩ := get_some (xs := xs) (i := s) hi
  obtain ⟨y, hy⟩ := get_some (xs := xs) (i := t) hj
  have e1 : xs.getD s zroute = x := by simp [List.getD, hx]
  have e2 : xs.getD t zroute = y := by simp [List.getD, hy]
  unfold lessV
  rw [ei, ej, e1, e2, pless_rk (h x (List.mem_of_getElem? hx)) (h y (List.mem_of_getElem? hy)), rk_at hx, rk_at hy]; rfl
section
variable {α : Type} {f : α → Nat} {xs ys zs ts : List α} {a b c m i j k n s e : Nat}
theorem rot_mem (h1 : s ≤ m) (h2 : m ≤ e) (h3 : e ≤ xs.length) {x : α} (h : x ∈ rot xs s m e) : x ∈ xs := by
  obtain ⟨t, ht⟩ := List.mem_iff_getElem?.1 h
  rw [rot_get h1 h2 h3] at ht
  split at ht
  · exact List.mem_of_getElem? ht
  · split at ht
    · exact List.mem_of_getElem? ht
    · split at ht <;> exact List.mem_of_getElem? ht
theorem slid_at (h : Slid zs ts i j) : rk f ts j = rk f zs i := by
  unfold Go.Kb.rk
  rw [h.at', if_neg (Nat.lt_irrefl _), if_pos rfl]
theorem slid_below (h : Slid zs ts i j) (hj : 0 < j) : rk f ts (j - 1) = rk f zs (j - 1) := by
  unfold Go.Kb.rk
  rw [h.at', if_pos (by omega)]
structure Slir (zs ts : List α) (a k : Nat) : Prop where
  len : ts.length = zs.length
  at' : ∀ t, ts[t]? = if t < a then zs[t]? else if t < k then zs[t + 1]? else if t = k then zs[a]? else zs[t]?
theorem Slir.refl : Slir zs zs a a := ⟨rfl, fun t => by
  by_cases h1 : t < a
  · rw [if_pos h1]
  · rw [if_neg h1, if_neg h1]
    split
    · rename_i h; rw [h]
    · rfl⟩
theorem Slir.step (h : Slir zs ts a k) (hak : a ≤ k) (hk : k + 1 < zs.length) : Slir zs (swp ts k (k + 1)) a (k + 1) := by
  have hl := h.len
  obtain ⟨x, hx⟩ := get_some (xs := ts) (i := k) (by omega)
  obtain ⟨y, hy⟩ := get_some (xs := ts) (i := k + 1) (by omega)
  have ex : zs[a]? = some x := by rw [← hx, h.at', if_neg (by omega), if_neg (by omega), if_pos rfl]
  have ey : zs[k + 1]? = some y := by rw [← hy, h.at', if_neg (by omega), if_neg (by omega), if_neg (by omega)]
  refine ⟨by rw [swp_length, hl], fun t => ?_⟩
  rw [swp_at hx hy]
  by_cases e1 : t = k + 1
  · rw [if_pos e1, if_neg (by omega), if_neg (by omega), if_pos e1, ex]
  · rw [if_neg e1]
    by_cases e2 : t = k
    · rw [if_pos e2, if_neg (by omega), if_pos (by omega), e2, ey]
    · rw [if_neg e2]
      by_cases e3 : t < a
      · have el : ts[t]? = zs[t]? := by rw [h.at', if_pos e3]
        rw [el, if_pos e3]
      · by_cases e4 : t < k
        · have el : ts[t]? = zs[t + 1]? := by rw [h.at', if_neg e3, if_pos e4]
          rw [el, if_neg e3, if_pos (by omega)]
        · have el : ts[t]? = zs[t]? := by rw [h.at', if_neg e3, if_neg e4, if_neg e2]
          rw [el, if_neg e3, if_neg (by omega), if_neg e1]
theorem Slir.mem (h : Slir zs ts a k) {x : α} (hx : x ∈ ts) : x ∈ zs := by
  obtain ⟨t, ht⟩ := List.mem_iff_getElem?.1 hx
  rw [h.at'] at ht
  split at ht
  · exact List.mem_of_getElem? ht
  · split at ht
    · exact List.mem_of_getElem? ht
    · split at ht <;> exact List.mem_of_getElem? ht
theorem seg_one {x : α} (h : xs[i]? = some x) : seg xs i (i + 1) = [x] := by
  unfold Go.Kb.seg
  obtain ⟨hh, hv⟩ := List.getElem?_eq_some_iff.1 h
  rw [show i + 1 - i = 1 by omega, List.drop_eq_getElem_cons hh, List.take_succ_cons, List.take_zero, hv]
theorem srt_sub (h : Srt f (seg xs i j)) (hj : j ≤ xs.length) (h1 : i ≤ s) (h2 : e ≤ j) : Srt f (seg xs s e) :=
  (srt_seg (by omega)).2 fun p q hp hq he => (srt_seg hj).1 h p q (by omega) hq (by omega)
theorem front_done (h : Slir xs ts a (i - 1)) (h1 : a + 1 ≤ i) (h2 : i ≤ b) (h3 : b ≤ xs.length) (hs : Srt f (seg xs (a + 1) b)) (k1 : ∀ t, a + 1 ≤ t → t < i → rk f xs t < rk f xs a) (k2 : ∀ t, i ≤ t → t < b → rk f xs a ≤ rk f xs t) : Upto f xs a b ts := by
  have hl := h.len
  obtain ⟨x, hx⟩ := get_some (xs := xs) (i := a) (by omega)
  have fx : rk f xs a = f x := rk_at hx
  have e1 : seg xs a b = ([] ++ [x]) ++ (seg xs (a + 1) i ++ seg xs i b) := by
    rw [seg_split (show a ≤ a + 1 by omega) (show a + 1 ≤ b by omega), seg_one hx, seg_split h1 h2]; rfl
  have e2 : seg ts a b = seg xs (a + 1) i ++ ([x] ++ seg xs i b) := by
    refine seg_ext (by omega) (by simp only [List.length_append, List.length_cons, List.length_nil]; rw [seg_length (by omega), seg_length (by omega)]; omega) fun t t1 t2 => ?_
    rw [List.getElem?_append, seg_length (by omega), h.at', if_neg (show ¬ t < a by omega)]
    by_cases c1 : t < i - 1
    · rw [if_pos (by omega), if_pos c1, seg_get (by omega)]; congr 1; omega
    · rw [if_neg (by omega), if_neg c1]
      by_cases c2 : t = i - 1
      · rw [if_pos c2, show t - a - (i - (a + 1)) = 0 by omega, hx]; rfl
      · rw [if_neg c2, show t - a - (i - (a + 1)) = (t - i) + 1 by omega]
        show (seg xs i b)[t - i]? = _
        rw [seg_get (by omega)]; congr 1; omega
  refine upto_of (by omega) h3 (by omega) (fun t ht => ?_) ?_
  · rw [h.at']
    rcases ht with ht | ht
    · rw [if_pos ht]
    · rw [if_neg (by omega), if_neg (by omega), if_neg (by omega)]
  · have hb : ∀ y ∈ seg xs i b, f x ≤ f y := fun y hy => by
      obtain ⟨t, t1, t2, t3⟩ := mem_rk (f := f) hy
      rw [← t3, ← fx]; exact k2 t t1 t2
    rw [e1, e2]
    refine merge_parts (List.pairwise_singleton _ _) (by rw [← seg_split h1 h2]; exact hs) (fun z hz y hy => ?_) (fun z hz => by cases hz) (Stb.refl ?_) (Stb.refl ?_)
    · obtain rfl : z = x := by simpa using hz
      obtain ⟨t, t1, t2, t3⟩ := mem_rk (f := f) hy
      rw [← t3, ← fx]; exact k1 t t1 t2
    · exact srt_sub hs h3 (Nat.le_refl _) h2
    · exact List.pairwise_cons.2 ⟨hb, srt_sub hs h3 h1 (Nat.le_refl _)⟩
/-! The merge itself. -/
theorem rot_same (h1 : s ≤ m) (h2 : m ≤ e) (h3 : e ≤ xs.length) (h : ¬ (s < m ∧ m < e)) : rot xs s m e = xs := by
  have := parts (xs := xs) (show s ≤ e by omega) h3
  unfold rot
  rw [seg_split h1 h2] at this
  rcases Nat.lt_or_ge s m with h4 | h4
  · have h5 : e ≤ m := Nat.le_of_not_lt fun h5 => h ⟨h4, h5⟩
    rw [seg_nil h5] at this ⊢
    simpa using this.symm
  · rw [seg_nil h4] at this ⊢
    simpa using this.symm
theorem rot_segs (h1 : a ≤ s) (h2 : s ≤ m) (h3 : m ≤ e) (h4 : e ≤ b) (h5 : b ≤ xs.length) : seg (rot xs s m e) a s = seg xs a s ∧ seg (rot xs s m e) s (s + (e - m)) = seg xs m e ∧ seg (rot xs s m e) (s + (e - m)) e = seg xs s m ∧ seg (rot xs s m e) e b = seg xs e b := by
  have lr := rot_length h2 h3 (show e ≤ xs.length by omega)
  have gr : ∀ i, (rot xs s m e)[i]? = _ := fun i => rot_get (i := i) h2 h3 (show e ≤ xs.length by omega)
  refine ⟨?_, ?_, ?_, ?_⟩
  · exact seg_same lr.symm (by omega) fun t t1 t2 => by rw [gr, if_pos t2]
  · refine seg_ext (by omega) (by rw [seg_length (by omega)]; omega) fun t t1 t2 => ?_
    rw [gr, if_neg (by omega), if_pos t2, seg_get (by omega)]
  · refine seg_ext (by omega) (by rw [seg_length (by omega)]; omega) fun t t1 t2 => ?_
    rw [gr, if_neg (by omega), if_neg (by omega), if_pos t2, seg_get (by omega)]; congr 1; omega
  · exact seg_same lr.symm (by omega) fun t t1 t2 => by rw [gr, if_neg (by omega), if_neg (by omega), if_neg (by omega)]
theorem two_skip (h1 : a ≤ s) (h2 : s ≤ c) (h3 : c ≤ xs.length) (h : ¬ (a < s ∧ s < c)) (hA : Srt f (seg xs a s)) (hB : Srt f (seg xs s c)) : Upto f xs a c xs := by
  refine Upto.refl (by omega) h3 ?_
  rcases Nat.lt_or_ge a s with h4 | h4
  · obtain rfl : s = c := by omega
    exact hA
  · obtain rfl : a = s := by omega
    exact hB
theorem upto_behind (hu : Upto f xs a c ys) (h1 : a ≤ c) (h2 : c ≤ i) (h3 : i ≤ j) (h4 : j ≤ xs.length) : seg ys i j = seg xs i j :=
  seg_same (hu.length h1 (by omega)).symm h4 fun t t1 t2 => hu.get h1 (by omega) (.inr (by omega))
theorem sym_k1 (hL : Srt f (seg xs a m)) (hR : Srt f (seg xs m b)) (h1 : a ≤ s) (h2 : s ≤ m) (h3 : m ≤ e) (h4 : e ≤ b) (h5 : b ≤ xs.length) (h : s = m ∨ e = m ∨ rk f xs (e - 1) < rk f xs s) : ∀ x ∈ seg xs s m, ∀ y ∈ seg xs m e, f y < f x := fun x hx y hy => by
  obtain ⟨t, t1, t2, t3⟩ := mem_rk (f := f) hx
  obtain ⟨u, u1, u2, u3⟩ := mem_rk (f := f) hy
  have := (srt_seg (by omega)).1 hL s t h1 t1 t2
  have := (srt_seg h5).1 hR u (e - 1) u1 (by omega) (by omega)
  omega
theorem sym_k2 (hL : Srt f (seg xs a m)) (hR : Srt f (seg xs m b)) (h1 : a ≤ s) (h2 : s ≤ m) (h3 : m ≤ e) (h4 : e ≤ b) (h5 : b ≤ xs.length) (h : s = a ∨ e = b ∨ rk f xs (s - 1) ≤ rk f xs e) : ∀ x ∈ seg xs a s, ∀ y ∈ seg xs e b, f x ≤ f y := fun x hx y hy => by
  obtain ⟨t, t1, t2, t3⟩ := mem_rk (f := f) hx
  obtain ⟨u, u1, u2, u3⟩ := mem_rk (f := f) hy
  have := (srt_seg (by omega)).1 hL t (s - 1) t1 (by omega) (by omega)
  have := (srt_seg h5).1 hR e u h3 u1 u2
  omega
/-! Blocks. -/
def Bk (f : α → Nat) (xs ys : List α) (c lo hi : Nat) : Prop := ∀ s, lo ≤ s → s < hi → s % c = 0 → Stb f (seg xs s (min (s + c) xs.length)) (seg ys s (min (s + c) xs.length))
theorem gap (hs : s % c = 0) (ha : a % c = 0) (h : s < a) : s + c ≤ a := by
  obtain ⟨p, rfl⟩ := Nat.dvd_of_mod_eq_zero hs
  obtain ⟨q, rfl⟩ := Nat.dvd_of_mod_eq_zero ha
  have : p < q := Nat.lt_of_mul_lt_mul_left h
  calc c * p + c = c * (p + 1) := by rw [Nat.mul_succ]
    _ ≤ c * q := Nat.mul_le_mul_left c this
theorem bk_ins (hl : ys.length = xs.length) (hb : Bk f xs ys c 0 a) (ha : a % c = 0) (hab : a ≤ b) (eb : b = min (a + c) xs.length) (hsm : ∀ t, a ≤ t → ys[t]? = xs[t]?) (hu : Upto f ys a b zs) : zs.length = xs.length ∧ Bk f xs zs c 0 b ∧ ∀ t, b ≤ t → zs[t]? = xs[t]? := by
  have lz := hu.length hab (by omega)
  refine ⟨by omega, fun s _ hs h0 => ?_, fun t ht => by rw [hu.get hab (by omega) (.inr ht), hsm t (by omega)]⟩
  rcases Nat.lt_or_ge s a with h1 | h1
  · have hg := gap h0 ha h1
    have := hb s (Nat.zero_le _) h1 h0
    rwa [show seg zs s (min (s + c) xs.length) = seg ys s (min (s + c) xs.length) from seg_same lz.symm (by omega) fun t t1 t2 => hu.get hab (by omega) (.inl (by omega))]
  · obtain rfl : s = a := by
      rcases Nat.eq_or_lt_of_le h1 with h2 | h2
      · exact h2.symm
      · have := gap ha h0 h2; omega
    rw [← eb]
    have h2 := hu.seg_in hab (by omega)
    rwa [show seg ys s b = seg xs s b from seg_same hl.symm (by omega) fun t t1 _ => hsm t t1] at h2
theorem bk_merge (hl : ys.length = xs.length) (hb : Bk f xs ys (2 * c) 0 a) (hc : Bk f xs ys c a xs.length) (ha : a % (2 * c) = 0) (hcp : 0 < c) (ham : a + c < xs.length) (eb : b = min (a + 2 * c) xs.length) (hu : Upto f ys a b zs) : zs.length = xs.length ∧ Bk f xs zs (2 * c) 0 b ∧ Bk f xs zs c b xs.length := by
  have lz := hu.length (by omega) (by omega)
  have hac : a % c = 0 := by
    obtain ⟨p, rfl⟩ := Nat.dvd_of_mod_eq_zero ha
    rw [Nat.mul_comm 2 c, Nat.mul_assoc, Nat.mul_mod_right]
  refine ⟨by omega, fun s _ hs h0 => ?_, fun s h1 h2 h0 => ?_⟩
  · rcases Nat.lt_or_ge s a with h1 | h1
    · have hg := gap h0 ha h1
      have := hb s (Nat.zero_le _) h1 h0
      rwa [show seg zs s (min (s + 2 * c) xs.length) = seg ys s (min (s + 2 * c) xs.length) from seg_same lz.symm (by omega) fun t t1 t2 => hu.get (by omega) (by omega) (.inl (by omega))]
    · obtain rfl : s = a := by
        rcases Nat.eq_or_lt_of_le h1 with h2 | h2
        · exact h2.symm
        · have := gap ha h0 h2; omega
      rw [← eb]
      have b1 := hc s (Nat.le_refl _) (by omega) hac
      have b2 := hc (s + c) (by omega) ham (by rw [Nat.add_mod_right]; exact hac)
      rw [show min (s + c) xs.length = s + c by omega] at b1
      rw [show min (s + c + c) xs.length = b by omega] at b2
      refine Stb.trans (fun k => ?_) (hu.seg_in (by omega) (by omega))
      rw [seg_split (xs := ys) (show s ≤ s + c by omega) (show s + c ≤ b by omega), seg_split (xs := xs) (show s ≤ s + c by omega) (show s + c ≤ b by omega), List.filter_append, List.filter_append, b1.same k, b2.same k]
  · have := hc s (by omega) h2 h0
    rwa [show seg zs s (min (s + c) xs.length) = seg ys s (min (s + c) xs.length) from seg_same lz.symm (by omega) fun t t1 t2 => hu.get (by omega) (by omega) (.inr (by omega))]
theorem bk_srt (hl : ys.length = xs.length) (hc : Bk f xs ys c a xs.length) (hac : a % c = 0) (ham : a + c < xs.length) (eb : b = min (a + c + c) xs.length) : Srt f (seg ys a (a + c)) ∧ Srt f (seg ys (a + c) b) := by
  have b1 := hc a (Nat.le_refl _) (by omega) hac
  have b2 := hc (a + c) (by omega) ham (by rw [Nat.add_mod_right]; exact hac)
  rw [show min (a + c) xs.length = a + c by omega] at b1
  rw [← eb] at b2
  exact ⟨b1.srt, b2.srt⟩
theorem mod_half (h : a % (2 * c) = 0) : a % c = 0 := by
  obtain ⟨p, rfl⟩ := Nat.dvd_of_mod_eq_zero h
  rw [Nat.mul_comm 2 c, Nat.mul_assoc, Nat.mul_mod_right]
theorem bk_last (hb : Bk f xs ys (2 * c) 0 a) (hc : Bk f xs ys c a xs.length) (ha : a % (2 * c) = 0) (hal : xs.length ≤ a + c) : Bk f xs ys (2 * c) 0 xs.length := fun s _ hs h0 => by
  rcases Nat.lt_or_ge s a with h1 | h1
  · exact hb s (Nat.zero_le _) h1 h0
  · have := hc s h1 hs (mod_half h0)
    rwa [show min (s + 2 * c) xs.length = min (s + c) xs.length by omega]
theorem bk_done (hl : ys.length = xs.length) (hb : Bk f xs ys c 0 xs.length) (hc : xs.length ≤ c) : Upto f xs 0 xs.length ys := by
  refine upto_of (Nat.zero_le _) (Nat.le_refl _) hl (fun t ht => ?_) ?_
  · rw [List.getElem?_eq_none (by omega), List.getElem?_eq_none (by omega)]
  · rcases Nat.eq_zero_or_pos xs.length with h0 | h0
    · rw [h0, seg_nil (Nat.le_refl 0), seg_nil (Nat.le_refl 0)]
      exact Stb.refl List.Pairwise.nil
    · have := hb 0 (Nat.le_refl _) h0 (Nat.zero_mod c)
      rwa [show min (0 + c) xs.length = xs.length by omega] at this
theorem upto_stb (h : Upto f xs 0 xs.length ys) : Stb f xs ys := by
  have := h.seg_in (Nat.zero_le _) (Nat.le_refl _)
  have hl := h.length (Nat.zero_le _) (Nat.le_refl _)
  have e : ∀ l : List α, seg l 0 l.length = l := fun l => by unfold Go.Kb.seg; simp
  rw [e xs, ← hl, e ys] at this
  exact this
theorem Turns.len {cur fin : List α} (h : Turns cur fin m i j) : m + j ≤ cur.length ∧ i ≤ m := by
  obtain ⟨P, U, V, S, rfl, _, h1, h2, h3, h4⟩ := h
  refine ⟨?_, h4⟩
  simp only [List.length_append]; omega
theorem Turns.same {cur fin : List α} (h : Turns cur fin m i j) {x : α} : x ∈ cur ↔ x ∈ fin := by
  obtain ⟨P, U, V, S, rfl, rfl, _, _, _, _⟩ := h
  simp only [List.mem_append]
  constructor
  · rintro (h | h | h | h)
    · exact .inl h
    · exact .inr (.inr (.inl h))
    · exact .inr (.inl h)
    · exact .inr (.inr (.inr h))
  · rintro (h | h | h | h)
    · exact .inl h
    · exact .inr (.inr (.inl h))
    · exact .inr (.inl h)
    · exact .inr (.inr (.inr h))
end
end Go.Eng

/- Results of none; a cell that lay there ahead; variables of one cell. -/
namespace Go.Eng
open Go.RowKit
theorem res_none {P : Program} {fn : Func} {N : Fra} {env : Env} {w0 : World} {L : List Ent} (hf : fn.results = #[]) : ∀ a w, Rep N env a → Mem w0 L w → (results fn a.tmps).run P w = .ok (.tuple #[]) w := fun a w _ _ => by
  simp [results, hf]
section
variable {P : Program} {w0 : World} {env : Env}
theorem ry_old {N : Fra} {L : List Ent} {d : Option Tmp} {ty : TypeId} {ps : String} {af : Array Edge} {gd : Option (Nat × Bool)} {t : TypeId} {x : Operand} {p : Addr} {v : Value} [ht : OneT P t] (hx : ev env x = some (.pointer (some p))) (hc : w0.cell? p = some v) : Ry P N w0 env L ⟨d, .load t x, ty, ps, af, gd⟩ v :=
  ry_load_one ht hx fun w hw => (hw.below.cell (by
    unfold World.cell? at hc
    cases ho : w0.heap[p.block]? with
    | none => simp [ho] at hc
    | some o => exact (Array.getElem?_eq_some_iff.1 ho).1)).trans hc
end
/-! Variables of one cell. -/
section
variable {P : Program} {N : Fra} {w0 : World} {env : Env} {L : List Ent} {l : List Oper} {Q : Exit → Act → World → Prop} {rest : List Oper} {d : Option Tmp} {ty : TypeId} {ps : String} {af : Array Edge} {K : Value → List Ent → Prop}
instance CellAt.one {v : Value} : CellAt #[v] 0 v := ⟨rfl⟩
theorem sq_box1 {t : TypeId} {x : Operand} {v : Value} (hc : v.cells = #[v]) (hx : ev env x = some v) (hk : ∀ b, Sq P N w0 l Q rest (putE env d (.pointer (some ⟨b, 0, none⟩))) (blk b #[v] t :: L)) (hd : dstOk N d = true := by rfl) :
    Sq P N w0 l Q (⟨d, .box t x, ty, ps, af, none⟩ :: rest) env L := sq_box hx (by rw [hc]; exact hk) hd
theorem sq_alloc1 {t : TypeId} {z : Value} [hz : ZeroT P t z] (hc : z.cells = #[z]) (hk : ∀ b, Sq P N w0 l Q rest (putE env d (.pointer (some ⟨b, 0, none⟩))) (blk b #[z] t :: L)) (hd : dstOk N d = true := by rfl) :
    Sq P N w0 l Q (⟨d, .alloc t, ty, ps, af, none⟩ :: rest) env L := sq_alloc (z := z) (by rw [hc]; exact hk) hd
theorem sq_store1 {t : TypeId} {x y : Operand} {i b : Nat} {u : Value} {T : TypeId} {v : Value} (hv : v.oneCell' = true) (hx : ev env x = some (.pointer (some ⟨b, 0, none⟩))) (hy : ev env y = some v) [ht : OneT P t] [hh : Has L b #[u] T i] {L' : List Ent} [hu : Upd L i (blk b #[v] T) L'] (hk : Sq P N w0 l Q rest env L') :
    Sq P N w0 l Q (⟨none, .store t x y, ty, ps, af, none⟩ :: rest) env L := sq_store (cs' := #[v]) hx hy (by show 0 < 1; decide) hv rfl hk
theorem st_box1 {t : TypeId} {x : Operand} {v : Value} (hc : v.cells = #[v]) (hx : ev env x = some v) (hk : ∀ b, K ((.pointer (some ⟨b, 0, none⟩))) ((blk b #[v] t :: L))) :
    Stp P N w0 env L ⟨d, .box t x, ty, ps, af, none⟩ K := st_box hx (by rw [hc]; exact hk)
theorem st_alloc1 {t : TypeId} {z : Value} [hz : ZeroT P t z] (hc : z.cells = #[z]) (hk : ∀ b, K ((.pointer (some ⟨b, 0, none⟩))) ((blk b #[z] t :: L))) :
    Stp P N w0 env L ⟨d, .alloc t, ty, ps, af, none⟩ K := st_alloc (z := z) (by rw [hc]; exact hk)
theorem st_store1 {t : TypeId} {x y : Operand} {i b : Nat} {u : Value} {T : TypeId} {v : Value} (hv : v.oneCell' = true) (hx : ev env x = some (.pointer (some ⟨b, 0, none⟩))) (hy : ev env y = some v) [ht : OneT P t] [hh : Has L b #[u] T i] {L' : List Ent} [hu : Upd L i (blk b #[v] T) L'] (hk : K undef L') :
    Stp P N w0 env L ⟨none, .store t x y, ty, ps, af, none⟩ K := st_store (cs' := #[v]) hx hy (by show 0 < 1; decide) hv rfl hk
end

theorem sq_stU {P : Program} {N : Fra} {w0 : World} {env : Env} {L : List Ent} {l : List Oper} {Q : Exit → Act → World → Prop} {rest : List Oper} {ty : TypeId} {ps : String} {af : Array Edge} {t : TypeId} {x y : Operand} {i k p : Nat} {s : Sv} {xs : List UInt8} {a v : UInt8} [ht : OneT P t] (hx : ev env x = some (.pointer (some ⟨s.b, p, none⟩))) (hy : ev env y = some (.int .u8 v.toNat)) [q : Owns L s benc 1 xs i] (ha : xs[k]? = some a) (hp' : p = s.o + k * 1) {L' : List Ent} [hu : Upd L i (own benc 1 s (xs.set k v)) L'] (hk : Sq P N w0 l Q rest env L') :
    Sq P N w0 l Q (⟨none, .store t x y, ty, ps, af, none⟩ :: rest) env L :=
  sq_storeS (j := 0) (n := 1) (a' := v) ht.size hx hy (q := q) (by omega) ha (by simp [Value.cells, Value.oneCell']) rfl (by omega) (by rfl) hk
end Go.Eng

/- Calls of functions held as values; the swapper that a slice was given. -/
namespace Go.Eng
open Go.RowKit Go.Kb
section
variable {P : Program} {N : Fra} {w0 : World} {env : Env} {L : List Ent} {l : List Oper} {Q : Exit → Act → World → Prop} {rest : List Oper} {d : Option Tmp} {ty : TypeId} {ps : String} {af : Array Edge} {gd : Option (Nat × Bool)}
theorem run_callV {f : FuncId} (hf : IsFn P f) {ρ : Operand → Value} {x : Operand} {caps : Array Value} {xs : List Operand} {ts : Array TypeId} (w : World) (hρ : ρ x = .func (.func f) #[] caps) :
    (execOp ρ ⟨d, .call { callee := .value x, args := xs.toArray, argTypes := ts }, ty, ps, af, gd⟩).run P w = .ok (.enter f (xs.map ρ ++ caps.toList).toArray) w := by
  obtain ⟨fn, h1, h2, h3⟩ := hf.fn
  have h2' : ¬ fn.body = none := fun e => by simp [e] at h2
  have h3' : ¬ fn.name = "runtime.NumGoroutine" := by simpa using h3
  have e : ((List.map ρ xs).toArray ++ caps) = (List.map ρ xs ++ caps.toList).toArray := by apply Array.ext'; simp
  simp [execOp, resolve, hρ, Deferred.ofValue, invoke, callFunc, h1, h2', h3', Result.andThen, e]
theorem yl_callV {f : FuncId} {x : Operand} {caps : Array Value} {xs : List Operand} {ts : Array TypeId} {vs vs2 : List Value} {v : Value} {pre : Prop} (hx : ev env x = some (.func (.func f) #[] caps)) (hxs : evl env xs = some vs) (e : vs ++ caps.toList = vs2) [hf : IsFn P f] [hc : FnQ P f w0 L vs2 v pre] (hp : pre) :
    Yl P N w0 env L ⟨d, .call { callee := .value x, args := xs.toArray, argTypes := ts }, ty, ps, af, gd⟩ v := fun a ha w hw => by
  unfold Oper.quietAt
  rw [run_callV hf w (ha.ev hx), ha.evl hxs, e]
  exact ⟨rfl, hc.h hp w hw⟩
end
end Go.Eng

/- Sorting: how to compare, how to swap. -/
namespace Go.Proofs.YtldkgicmfbofiaaGreatDoor
open Go.Eng Go.Kb
open Go.RowKit

def LF (b : Nat) : Value := .func (.func 25) #[] #[.pointer (some ⟨b, 0, none⟩)]
noncomputable def SF (s : Sv) : Value := .func (.func 64) #[] #[s.val, typeHandle Tryz.prog 32]
structure Lsw where
 b : Nat
 s : Sv
 k : FuncId
 caps : Array Value
def WF (l : Lsw) : Value := .func (.func l.k) #[] l.caps
def lscells (l : Lsw) : Array Value := #[LF l.b, WF l]
theorem lscells_one (x : Lsw) : (lscells x).all (·.oneCell') = true := by simp [lscells, LF, WF, Value.oneCell']
instance : Enc lscells 2 := ⟨fun _ => rfl, lscells_one⟩
instance (x : Lsw) : SizeIs (lscells x) 2 := ⟨rfl, lscells_one x⟩
instance (x : Lsw) : CellAt (lscells x) 0 (LF x.b) := ⟨rfl⟩
instance (x : Lsw) : CellAt (lscells x) 1 (WF x) := ⟨rfl⟩
def Swaps (g : Lsw) (n : Nat) : Prop := 2 ≤ n → WF g = SF g.s
set_option maxRecDepth 20000 in
theorem sless_c (w : World) (b : Nat) (s : Sv) (xs : List Rt) (i j : Int) (hb : w.cell? ⟨b, 0, none⟩ = some s.val) (hs : Lies rcells 19 (hp w) s xs) (hi : 0 ≤ i ∧ i < (xs.length : Int)) (hj : 0 ≤ j ∧ j < (xs.length : Int)) : Calls Tryz.prog 25 #[.int .i64 i, .int .i64 j, .pointer (some ⟨b, 0, none⟩)] w fun e w' => e = .returned (.bool (lessV xs i j)) ∧ Mem w [] w' := by
 have ghs : Gv w s rcells 19 xs := ⟨hs⟩
 refine calls_of (args := [_, _, _]) Tryz.func25 rfl Tryz.ntmps25 rfl ?_
 change Cw _ _ _ _ _ [(0, .int .i64 i), (1, .int .i64 j), (2, .pointer (some ⟨b, 0, none⟩))] []
 refine cw_seq ?_
 refine cw_region ?_
 refine sq_r (ry_assign rfl) ?_
 refine sq_nil ?_
 refine ex_then ?_
 refine cw_seq ?_
 refine cw_quiet (by kernel_rfl) (by kernel_rfl) ?_
 refine qt_r (ry_old rfl hb) ?_
 refine qt_r (ry_move rfl) ?_
 obtain ⟨x, hx⟩ := get_some (xs := xs) (i := i.toNat) (by omega)
 refine qt_r (ry_idxH rfl rfl i.toNat (by omega) (by omega)) ?_
 refine qt_r (ry_field rfl rfl) ?_
 refine qt_r (ry_elempH (j := 0) rfl i.toNat hx rfl (by decide)) ?_
 refine qt_r (ry_old rfl hb) ?_
 refine qt_r (ry_move rfl) ?_
 obtain ⟨y, hy⟩ := get_some (xs := xs) (i := j.toNat) (by omega)
 refine qt_r (ry_idxH rfl rfl j.toNat (by omega) (by omega)) ?_
 refine qt_r (ry_field rfl rfl) ?_
 refine qt_r (ry_elempH (j := 0) rfl j.toNat hy rfl (by decide)) ?_
 refine qt_y (yl_callC rfl trivial) ?_
 refine qt_r (ry_assign rfl) ?_
 refine qt_nil ?_
 refine ex_then ?_
 refine cw_ret ?_
 refine ex_ret (.inl rfl) (res_1 rfl (rv_tmp rfl)) (fun w1 hw => ?_)
 exact ⟨congrArg (fun b => Ending.returned (Value.bool b)) (by simp [lessV, List.getD, hx, hy]), Keep.mem hw⟩
theorem cell_has {w0 w : World} {L : List Ent} {b i : Nat} {v : Value} {T : TypeId} (h : L[i]? = some (blk b #[v] T)) (hw : Mem w0 L w) : w.cell? ⟨b, 0, none⟩ = some v := by
 rw [hw.cell h]; rfl
instance sless_i {w0 : World} {L : List Ent} {b k : Nat} {s : Sv} {xs : List Rt} {T : TypeId} {i j : Int} [h : Has L b #[s.val] T k] [q : Hd w0 L s rcells 19 xs] : FnQ Tryz.prog 25 w0 L [.int .i64 i, .int .i64 j, .pointer (some ⟨b, 0, none⟩)] (.bool (lessV xs i j)) ((0 ≤ i ∧ i < (xs.length : Int)) ∧ (0 ≤ j ∧ j < (xs.length : Int))) := ⟨fun hp w hw => sless_c w b s xs i j (cell_has h.h hw) (q.h w hw) hp.1 hp.2⟩

theorem swap_fn : ∃ fn, Tryz.prog.funcs[64]? = some fn ∧ (fn.name == "runtime.NumGoroutine") = false ∧ fn.body.isNone = true ∧ Extern.findNext fn = none ∧ Extern.find fn = some (Extern.ReflectliteSwapper.swap false) := ⟨Option.get (Tryz.prog.funcs[64]?) (by kernel_rfl), by kernel_rfl, by kernel_rfl, by kernel_rfl, by kernel_rfl, by kernel_rfl⟩
theorem route_info : ∃ ie, Tryz.prog.info? 32 = some ie ∧ ie.size = 19 := ⟨Option.get (Tryz.prog.info? 32) (by kernel_rfl), by kernel_rfl, by kernel_rfl⟩
theorem route_agg (w : World) : (isAgg 32).run Tryz.prog w = .ok true w := by
 have := Tryz.underlying32
 simp [isAgg, underlying, this, Result.andThen]
section
variable {N : Fra} {w0 : World} {env : Env} {L : List Ent} {l : List Oper} {Q : Exit → Act → World → Prop} {rest : List Oper} {d : Option Tmp} {ty : TypeId} {ps : String} {af : Array Edge}
theorem sq_swap {x : Operand} {zs : List Operand} {ts : Array TypeId} {s : Sv} {xs : List Rt} {i j : Int} {k : Nat} {L' : List Ent} (p q : Nat) {v : Value} (hx : ev env x = some v) (hv : v = SF s) (hxs : evl env zs = some [.int .i64 i, .int .i64 j]) (hi : i = (p : Int)) (hj : j = (q : Int)) (h1 : p < xs.length) (h2 : q < xs.length) [ho : Owns L s rcells 19 xs k] [hu : Upd L k (own rcells 19 s (swp xs p q)) L'] (hk : Sq Tryz.prog N w0 l Q rest (putE env d (.tuple #[])) L') (hd : dstOk N d = true := by rfl) :
  Sq Tryz.prog N w0 l Q (⟨d, .call { callee := .value x, args := zs.toArray, argTypes := ts }, ty, ps, af, none⟩ :: rest) env L := by
 subst hi hj hv
 obtain ⟨fn, f1, f2, f3, f4, f5⟩ := swap_fn
 obtain ⟨ie, i1, i2⟩ := route_info
 refine sq_nativeV f1 f2 f3 f4 f5 hx hxs (fun w hw => ?_) hd
 obtain ⟨w', r, m⟩ := swap_run i1 i2 route_agg hw ho h1 h2
 exact ⟨_, w', L', r, by rw [← hu.h]; exact m, hk⟩
end

end Go.Proofs.YtldkgicmfbofiaaGreatDoor

/- Insertion sort, turns: walked. -/
namespace Go.Proofs.YtldkgicmfbofiaaGreatDoor
open Go.Eng Go.Kb
set_option maxRecDepth 20000 in
theorem insort_c (w0 w : World) (L : List Ent) (xs : List Rt) (T : TypeId) (g : Lsw) (a : Nat) (n : Nat) (hw : Mem w0 (blk g.b #[g.s.val] T :: own rcells 19 g.s xs :: L) w) (hpre : a ≤ n ∧ n ≤ xs.length ∧ xs.length ≤ 1000000 ∧ MayAll xs ∧ Swaps g xs.length) : Calls Tryz.prog 65 #[.agg (lscells g), .int .i64 (a : Nat), .int .i64 (n : Nat)] w fun e w' => ∃ zz : List Rt, e = .returned (.tuple #[]) ∧ (Upto rkR xs a n zz) ∧ Mem w0 (blk g.b #[g.s.val] T :: own rcells 19 g.s zz :: L) w' := by
 obtain ⟨hp1, hp2, hp3, hp4, hsw⟩ := hpre
 refine calls_in (args := [_, _, _]) Tryz.func65 rfl Tryz.ntmps65 rfl hw ?_
 change Cw _ _ _ _ _ [(0, .agg (lscells g)), (1, .int .i64 (a : Nat)), (2, .int .i64 (n : Nat))] (blk g.b #[g.s.val] T :: own rcells 19 g.s xs :: L)
 refine cw_seq ?_
 refine cw_region ?_
 refine sq_boxA rfl fun b3 => ?_
 refine sq_nil ?_
 refine ex_then ?_
 refine cw_seq ?_
 refine cw_region ?_
 refine sq_r (ry_move rfl) ?_
 refine sq_r (ry_add rfl rfl (by omega)) ?_
 refine sq_r (ry_assign rfl) ?_
 refine sq_nil ?_
 refine ex_then ?_
 refine cw_block ?_
 refine cw_loop (X := Nat × List Rt) (fun zz => [(6, .int .i64 (zz.1 : Nat)), (1, .int .i64 (a : Nat)), (2, .int .i64 (n : Nat)), (3, .pointer (some ⟨b3, 0, none⟩))]) (fun zz => blk b3 (lscells g) 84 :: blk g.b #[g.s.val] T :: own rcells 19 g.s zz.2 :: L) (fun zz => a < zz.1 ∧ zz.1 ≤ n + 1 ∧ Upto rkR xs a (min zz.1 n) zz.2) (fun zz => n + 1 - zz.1) (a + 1, xs) ⟨by first | omega | (simp only []; omega), by first | omega | (simp only []; omega), by rcases Nat.lt_or_ge a n with h | h; (rw [show min (a + 1) n = a + 1 by first | omega | (simp only []; omega)]; exact upto_one (by first | omega | (simp only []; omega))); (rw [show min (a + 1) n = a by first | omega | (simp only []; omega)]; exact upto_nil (by first | omega | (simp only []; omega)))⟩ (Sub.cons rfl (Sub.cons rfl (Sub.cons rfl (Sub.cons rfl (Sub.nil _))))) (fun w hw => Keep.mem hw) ?_
 rintro ⟨i, ys⟩ ⟨hi1, hi2, hi3⟩
 dsimp only
 simp only at hi1 hi2 hi3
 have ly := hi3.length (by omega) (by omega)
 have hmy : MayAll ys := fun x hx => hp4 x ((upto_same hi3 (by omega) (by omega)).1 hx)
 refine cw_seq ?_
 refine cw_seq ?_
 refine cw_region ?_
 refine sq_r (ry_move rfl) ?_
 refine sq_r (ry_move rfl) ?_
 refine sq_r (ry_int rfl rfl rfl) ?_
 refine sq_nil ?_
 refine ex_then ?_
 refine cw_cond rfl (fun h0 => ?_) (fun h0 => ?_)
 ·
  try simp only [bz0, bz1, bz2, bz3, bz4, bz5, bz6, bz7, bz8, bz9] at h0
  rw [show min i n = i by omega] at hi3
  refine cw_skip ?_
  refine ex_then ?_
  refine cw_seq ?_
  refine cw_block ?_
  refine cw_seq ?_
  refine cw_region ?_
  refine sq_r (ry_move rfl) ?_
  refine sq_r (ry_assign rfl) ?_
  refine sq_nil ?_
  refine ex_then ?_
  refine cw_block ?_
  refine cw_loop (X := Nat × List Rt) (fun zz => [(7, .int .i64 (zz.1 : Nat)), (1, .int .i64 (a : Nat)), (2, .int .i64 (n : Nat)), (3, .pointer (some ⟨b3, 0, none⟩)), (6, .int .i64 (i : Nat))]) (fun zz => blk b3 (lscells g) 84 :: blk g.b #[g.s.val] T :: own rcells 19 g.s zz.2 :: L) (fun zz => Slid ys zz.2 i zz.1 ∧ a ≤ zz.1 ∧ zz.1 ≤ i ∧ ∀ t, zz.1 ≤ t → t < i → rk rkR ys i < rk rkR ys t) (fun zz => zz.1) (i, ys) ⟨Slid.refl, by first | omega | (simp only []; omega), Nat.le_refl _, fun t h1 h2 => absurd h2 (Nat.not_lt_of_le h1)⟩ (Sub.cons rfl (Sub.cons rfl (Sub.cons rfl (Sub.cons rfl (Sub.cons rfl (Sub.nil _)))))) (fun w hw => Keep.mem hw) ?_
  rintro ⟨j, ts⟩ ⟨hj1, hj2, hj3, hj4⟩
  dsimp only
  simp only at hj1 hj2 hj3 hj4
  have lt := hj1.len
  have hmt : MayAll ts := fun x hx => hmy x (hj1.mem hj3 (by omega) hx)
  refine cw_seq ?_
  refine cw_seq ?_
  refine cw_region ?_
  refine sq_r (ry_move rfl) ?_
  refine sq_r (ry_move rfl) ?_
  refine sq_r (ry_int rfl rfl rfl) ?_
  refine sq_r (ry_move rfl) ?_
  refine sq_gt rfl rfl rfl (fun hg => (Ry.yl (ry_field (o' := 0) rfl rfl))) ?_
  refine sq_gt rfl rfl rfl (fun hg => (Ry.yl (ry_cellc (ev_c hg rfl)))) ?_
  refine sq_gt rfl rfl rfl (fun hg => (Ry.yl (ry_move rfl))) ?_
  refine sq_gt rfl rfl rfl (fun hg => (Ry.yl (ry_move rfl))) ?_
  refine sq_gt rfl rfl rfl (fun hg => (Ry.yl (ry_sub (ev_c hg rfl) rfl (by simp only [bz0, bz1, bz2, bz3, bz4, bz5, bz6, bz7, bz8, bz9] at hg; omega)))) ?_
  refine sq_gt rfl rfl rfl (fun hg => yl_callV (vs := [.int .i64 (j : Int), .int .i64 ((j : Int) - 1)]) (vs2 := [.int .i64 (j : Int), .int .i64 ((j : Int) - 1), .pointer (some ⟨g.b, 0, none⟩)]) (ev_c hg rfl) (evl_cons (ev_c hg rfl) (evl_cons (ev_c hg rfl) evl_nil)) rfl (by simp only [bz0, bz1, bz2, bz3, bz4, bz5, bz6, bz7, bz8, bz9] at hg; omega)) ?_
  refine sq_r (ry_and rfl rfl rfl) ?_
  refine sq_nil ?_
  refine ex_then ?_
  refine cw_cond rfl (fun h1 => ?_) (fun h1 => ?_)
  ·
   try simp only [bz0, bz1, bz2, bz3, bz4, bz5, bz6, bz7, bz8, bz9] at h1
   have hlt : rk rkR ys i < rk rkR ys (j - 1) := by
    have h2 := h1.2
    rw [lessV_rk hmt (s := j) (t := j - 1) (by omega) (by omega) (by omega) (by omega), decide_eq_true_eq, slid_at hj1, slid_below hj1 (by omega)] at h2
    exact h2
   refine cw_skip ?_
   refine ex_then ?_
   refine cw_seq ?_
   refine cw_block ?_
   refine cw_region ?_
   refine sq_r (ry_field (o' := 1) rfl rfl) ?_
   refine sq_r (ry_cellc rfl) ?_
   refine sq_r (ry_move rfl) ?_
   refine sq_r (ry_move rfl) ?_
   refine sq_r (ry_sub rfl rfl (by omega)) ?_
   refine sq_swap j (j - 1) rfl (hsw (by omega)) rfl (by omega) (by omega) (by omega) (by omega) ?_
   refine sq_nil ?_
   refine ex_block ?_
   refine ex_then ?_
   refine cw_region ?_
   refine sq_r (ry_move rfl) ?_
   refine sq_r (ry_sub rfl rfl (by omega)) ?_
   refine sq_r (ry_assign rfl) ?_
   refine sq_nil ?_
   exact ex_again (x := (j, ts)) (j - 1, swp ts j (j - 1)) ⟨hj1.step (by first | omega | (simp only []; omega)) hj3 (by first | omega | (simp only []; omega)), by first | omega | (simp only []; omega), by first | omega | (simp only []; omega), fun t h2 h3 => (Nat.eq_or_lt_of_le h2).elim (fun h => h ▸ hlt) fun h => hj4 t (by first | omega | (simp only []; omega)) h3⟩ (by simp only; omega) (Sub.cons (look_eq rfl (by congr 1; omega)) (Sub.cons rfl (Sub.cons rfl (Sub.cons rfl (Sub.cons rfl (Sub.nil _)))))) (fun w hw => Keep.mem hw)
  ·
   try simp only [bz0, bz1, bz2, bz3, bz4, bz5, bz6, bz7, bz8, bz9] at h1
   have hdone : Upto rkR xs a (i + 1) ts := by
    refine ins_done hi3 (by omega) (by omega) hj1 hj2 hj3 hj4 ?_
    rcases h1 with h | h
    ·
     left; omega
    ·
     by_cases e : j = a
     ·
      exact .inl e
     ·
      rw [lessV_rk hmt (s := j) (t := j - 1) (by omega) (by omega) (by omega) (by omega), decide_eq_false_iff_not, slid_at hj1, slid_below hj1 (by omega)] at h
      right; omega
   refine cw_exit ?_
   refine ex_pass_exit ?_
   refine ex_pass_exit ?_
   refine ex_block_hit ?_
   refine ex_block ?_
   refine ex_then ?_
   refine cw_region ?_
   refine sq_r (ry_move rfl) ?_
   refine sq_r (ry_add rfl rfl (by omega)) ?_
   refine sq_r (ry_assign rfl) ?_
   refine sq_nil ?_
   exact ex_again (x := (i, ys)) (i + 1, ts) ⟨by first | omega | (simp only []; omega), by first | omega | (simp only []; omega), by rw [show min (i + 1) n = i + 1 by first | omega | (simp only []; omega)]; exact hdone⟩ (by simp only; omega) (Sub.cons rfl (Sub.cons rfl (Sub.cons rfl (Sub.cons rfl (Sub.nil _))))) (fun w hw => Keep.mem hw)
 ·
  try simp only [bz0, bz1, bz2, bz3, bz4, bz5, bz6, bz7, bz8, bz9] at h0
  rw [show min i n = n by omega] at hi3
  refine cw_exit ?_
  refine ex_pass_exit ?_
  refine ex_pass_exit ?_
  refine ex_block_hit ?_
  refine ex_ret (.inr rfl) (res_none rfl) (fun w1 hw => ?_)
  exact ⟨ys, rfl, hi3, Keep.mem hw⟩
instance insort_i {w0 : World} {L R1 L2 : List Ent} {i j : Nat} {xs : List Rt} {T : TypeId} {g : Lsw} {a : Nat} {n : Nat} [h : Has L g.b #[g.s.val] T i] [d1 : DelI L i R1] [q : Owns R1 g.s rcells 19 xs j] [d2 : DelI R1 j L2] : FnC Tryz.prog 65 w0 L [.agg (lscells g), .int .i64 (a : Nat), .int .i64 (n : Nat)] (List Rt) (fun zz => .tuple #[]) (fun zz => blk g.b #[g.s.val] T :: own rcells 19 g.s zz :: L2) (fun zz => Upto rkR xs a n zz) (a ≤ n ∧ n ≤ xs.length ∧ xs.length ≤ 1000000 ∧ MayAll xs ∧ Swaps g xs.length) := ⟨fun hp w hw => insort_c w0 w L2 xs T g a n (mem_two h.h d1.h q.h d2.h hw) hp⟩
set_option maxRecDepth 20000 in
theorem swrange_c (w0 w : World) (L : List Ent) (xs : List Rt) (T : TypeId) (g : Lsw) (a : Nat) (b : Nat) (n : Nat) (hw : Mem w0 (blk g.b #[g.s.val] T :: own rcells 19 g.s xs :: L) w) (hpre : a + n ≤ b ∧ b + n ≤ xs.length ∧ xs.length ≤ 1000000 ∧ Swaps g xs.length) : Calls Tryz.prog 95 #[.agg (lscells g), .int .i64 (a : Nat), .int .i64 (b : Nat), .int .i64 (n : Nat)] w fun e w' => ∃ zz : List Rt, e = .returned (.tuple #[]) ∧ (Swr xs zz a b n) ∧ Mem w0 (blk g.b #[g.s.val] T :: own rcells 19 g.s zz :: L) w' := by
 obtain ⟨hp1, hp2, hp3, hsw⟩ := hpre
 refine calls_in (args := [_, _, _, _]) Tryz.func95 rfl Tryz.ntmps95 rfl hw ?_
 change Cw _ _ _ _ _ [(0, .agg (lscells g)), (1, .int .i64 (a : Nat)), (2, .int .i64 (b : Nat)), (3, .int .i64 (n : Nat))] (blk g.b #[g.s.val] T :: own rcells 19 g.s xs :: L)
 refine cw_seq ?_
 refine cw_region ?_
 refine sq_boxA rfl fun b4 => ?_
 refine sq_nil ?_
 refine ex_then ?_
 refine cw_seq ?_
 refine cw_region ?_
 refine sq_r (ry_assign rfl) ?_
 refine sq_nil ?_
 refine ex_then ?_
 refine cw_block ?_
 refine cw_loop (X := Nat × List Rt) (fun zz => [(8, .int .i64 (zz.1 : Nat)), (1, .int .i64 (a : Nat)), (2, .int .i64 (b : Nat)), (3, .int .i64 (n : Nat)), (4, .pointer (some ⟨b4, 0, none⟩))]) (fun zz => blk b4 (lscells g) 84 :: blk g.b #[g.s.val] T :: own rcells 19 g.s zz.2 :: L) (fun zz => zz.1 ≤ n ∧ Swr xs zz.2 a b zz.1) (fun zz => n - zz.1) (0, xs) ⟨Nat.zero_le _, Swr.zero⟩ (Sub.cons rfl (Sub.cons rfl (Sub.cons rfl (Sub.cons rfl (Sub.cons rfl (Sub.nil _)))))) (fun w hw => Keep.mem hw) ?_
 rintro ⟨i, ys⟩ ⟨hi1, hi2⟩
 dsimp only
 simp only at hi1 hi2
 have ly := hi2.len
 refine cw_seq ?_
 refine cw_seq ?_
 refine cw_region ?_
 refine sq_r (ry_move rfl) ?_
 refine sq_r (ry_move rfl) ?_
 refine sq_r (ry_int rfl rfl rfl) ?_
 refine sq_nil ?_
 refine ex_then ?_
 refine cw_cond rfl (fun h0 => ?_) (fun h0 => ?_)
 ·
  try simp only [bz0, bz1, bz2, bz3, bz4, bz5, bz6, bz7, bz8, bz9] at h0
  refine cw_skip ?_
  refine ex_then ?_
  refine cw_seq ?_
  refine cw_block ?_
  refine cw_region ?_
  refine sq_r (ry_field (o' := 1) rfl rfl) ?_
  refine sq_r (ry_cellc rfl) ?_
  refine sq_r (ry_move rfl) ?_
  refine sq_r (ry_move rfl) ?_
  refine sq_r (ry_add rfl rfl (by omega)) ?_
  refine sq_r (ry_move rfl) ?_
  refine sq_r (ry_move rfl) ?_
  refine sq_r (ry_add rfl rfl (by omega)) ?_
  refine sq_swap (a + i) (b + i) rfl (hsw (by omega)) rfl (by omega) (by omega) (by omega) (by omega) ?_
  refine sq_nil ?_
  refine ex_block ?_
  refine ex_then ?_
  refine cw_region ?_
  refine sq_r (ry_move rfl) ?_
  refine sq_r (ry_add rfl rfl (by omega)) ?_
  refine sq_r (ry_assign rfl) ?_
  refine sq_nil ?_
  exact ex_again (x := (i, ys)) (i + 1, swp ys (a + i) (b + i)) ⟨by first | omega | (simp only []; omega), hi2.step (by first | omega | (simp only []; omega)) (by first | omega | (simp only []; omega))⟩ (by simp only; omega) (Sub.cons rfl (Sub.cons rfl (Sub.cons rfl (Sub.cons rfl (Sub.cons rfl (Sub.nil _)))))) (fun w hw => Keep.mem hw)
 ·
  try simp only [bz0, bz1, bz2, bz3, bz4, bz5, bz6, bz7, bz8, bz9] at h0
  obtain rfl : i = n := by omega
  refine cw_exit ?_
  refine ex_pass_exit ?_
  refine ex_pass_exit ?_
  refine ex_block_hit ?_
  refine ex_ret (.inr rfl) (res_none rfl) (fun w1 hw => ?_)
  exact ⟨ys, rfl, hi2, Keep.mem hw⟩
instance swrange_i {w0 : World} {L R1 L2 : List Ent} {i j : Nat} {xs : List Rt} {T : TypeId} {g : Lsw} {a : Nat} {b : Nat} {n : Nat} [h : Has L g.b #[g.s.val] T i] [d1 : DelI L i R1] [q : Owns R1 g.s rcells 19 xs j] [d2 : DelI R1 j L2] : FnC Tryz.prog 95 w0 L [.agg (lscells g), .int .i64 (a : Nat), .int .i64 (b : Nat), .int .i64 (n : Nat)] (List Rt) (fun zz => .tuple #[]) (fun zz => blk g.b #[g.s.val] T :: own rcells 19 g.s zz :: L2) (fun zz => Swr xs zz a b n) (a + n ≤ b ∧ b + n ≤ xs.length ∧ xs.length ≤ 1000000 ∧ Swaps g xs.length) := ⟨fun hp w hw => swrange_c w0 w L2 xs T g a b n (mem_two h.h d1.h q.h d2.h hw) hp⟩
set_option maxRecDepth 20000 in
theorem srotate_c (w0 w : World) (L : List Ent) (xs : List Rt) (T : TypeId) (g : Lsw) (a : Nat) (m : Nat) (n : Nat) (hw : Mem w0 (blk g.b #[g.s.val] T :: own rcells 19 g.s xs :: L) w) (hpre : a < m ∧ m < n ∧ n ≤ xs.length ∧ xs.length ≤ 1000000 ∧ Swaps g xs.length) : Calls Tryz.prog 82 #[.agg (lscells g), .int .i64 (a : Nat), .int .i64 (m : Nat), .int .i64 (n : Nat)] w fun e w' => ∃ zz : List Rt, e = .returned (.tuple #[]) ∧ (zz = rot xs a m n) ∧ Mem w0 (blk g.b #[g.s.val] T :: own rcells 19 g.s zz :: L) w' := by
 obtain ⟨hp1, hp2, hp3, hp4, hsw⟩ := hpre
 have lr := rot_length (xs := xs) (s := a) (m := m) (e := n) (by omega) (by omega) hp3
 refine calls_in (args := [_, _, _, _]) Tryz.func82 rfl Tryz.ntmps82 rfl hw ?_
 change Cw _ _ _ _ _ [(0, .agg (lscells g)), (1, .int .i64 (a : Nat)), (2, .int .i64 (m : Nat)), (3, .int .i64 (n : Nat))] (blk g.b #[g.s.val] T :: own rcells 19 g.s xs :: L)
 refine cw_seq ?_
 refine cw_region ?_
 refine sq_boxA rfl fun b4 => ?_
 refine sq_nil ?_
 refine ex_then ?_
 refine cw_seq ?_
 refine cw_region ?_
 refine sq_r (ry_move rfl) ?_
 refine sq_r (ry_move rfl) ?_
 refine sq_r (Ry.to (v' := .int .i64 ((m - a : Nat) : Int)) (ry_sub rfl rfl (by omega)) (by congr 1 <;> omega)) ?_
 refine sq_r (ry_assign rfl) ?_
 refine sq_nil ?_
 refine ex_then ?_
 refine cw_seq ?_
 refine cw_region ?_
 refine sq_r (ry_move rfl) ?_
 refine sq_r (ry_move rfl) ?_
 refine sq_r (Ry.to (v' := .int .i64 ((n - m : Nat) : Int)) (ry_sub rfl rfl (by omega)) (by congr 1 <;> omega)) ?_
 refine sq_r (ry_assign rfl) ?_
 refine sq_nil ?_
 refine ex_then ?_
 refine cw_seq ?_
 refine cw_block ?_
 refine cw_loop (X := Nat × Nat × List Rt) (fun zz => [(8, .int .i64 (zz.1 : Nat)), (9, .int .i64 (zz.2.1 : Nat)), (2, .int .i64 (m : Nat)), (4, .pointer (some ⟨b4, 0, none⟩))]) (fun zz => blk b4 (lscells g) 84 :: blk g.b #[g.s.val] T :: own rcells 19 g.s zz.2.2 :: L) (fun zz => Turns zz.2.2 (rot xs a m n) m zz.1 zz.2.1 ∧ 0 < zz.1 ∧ 0 < zz.2.1 ∧ zz.2.2.length = xs.length) (fun zz => zz.1 + zz.2.1) (m - a, n - m, xs) ⟨Turns.start (by first | omega | (simp only []; omega)) (by first | omega | (simp only []; omega)) hp3, by first | omega | (simp only []; omega), by first | omega | (simp only []; omega), rfl⟩ (Sub.cons rfl (Sub.cons rfl (Sub.cons rfl (Sub.cons rfl (Sub.nil _))))) (fun w hw => Keep.mem hw) ?_
 rintro ⟨i, j, ys⟩ ⟨hi1, hi2, hi3, hi4⟩
 dsimp only
 simp only at hi1 hi2 hi3 hi4
 obtain ⟨hi5, hi6⟩ := hi1.len
 refine cw_seq ?_
 refine cw_seq ?_
 refine cw_region ?_
 refine sq_r (ry_move rfl) ?_
 refine sq_r (ry_move rfl) ?_
 refine sq_r (ry_int rfl rfl rfl) ?_
 refine sq_nil ?_
 refine ex_then ?_
 refine cw_cond rfl (fun h0 => ?_) (fun h0 => ?_)
 ·
  try simp only [bz0, bz1, bz2, bz3, bz4, bz5, bz6, bz7, bz8, bz9] at h0
  refine cw_skip ?_
  refine ex_then ?_
  refine cw_block ?_
  refine cw_seq ?_
  refine cw_region ?_
  refine sq_r (ry_move rfl) ?_
  refine sq_r (ry_move rfl) ?_
  refine sq_r (ry_int rfl rfl rfl) ?_
  refine sq_nil ?_
  refine ex_then ?_
  refine cw_cond rfl (fun h1 => ?_) (fun h1 => ?_)
  ·
   try simp only [bz0, bz1, bz2, bz3, bz4, bz5, bz6, bz7, bz8, bz9] at h1
   refine cw_seq ?_
   refine cw_region ?_
   refine sq_r (ry_whole rfl) ?_
   refine sq_r (ry_move rfl) ?_
   refine sq_r (ry_move rfl) ?_
   refine sq_r (Ry.to (v' := .int .i64 ((m - i : Nat) : Int)) (ry_sub rfl rfl (by omega)) (by congr 1 <;> omega)) ?_
   refine sq_r (ry_move rfl) ?_
   refine sq_r (ry_move rfl) ?_
   refine sq_callC rfl ⟨by omega, by omega, by omega, fun h => hsw (by omega)⟩ fun x28 hp28 => ?_
   refine sq_nil ?_
   refine ex_then ?_
   refine cw_region ?_
   refine sq_r (ry_move rfl) ?_
   refine sq_r (ry_move rfl) ?_
   refine sq_r (Ry.to (v' := .int .i64 ((i - j : Nat) : Int)) (ry_sub rfl rfl (by omega)) (by congr 1 <;> omega)) ?_
   refine sq_r (ry_assign rfl) ?_
   refine sq_nil ?_
   refine ex_block ?_
   exact ex_again (x := (i, j, ys)) (i - j, j, x28) ⟨hi1.left (by first | omega | (simp only []; omega)) hp28, by first | omega | (simp only []; omega), by first | omega | (simp only []; omega), by rw [hp28.len, hi4]⟩ (by simp only; omega) (Sub.cons rfl (Sub.cons rfl (Sub.cons rfl (Sub.cons rfl (Sub.nil _))))) (fun w hw => Keep.mem hw)
  ·
   try simp only [bz0, bz1, bz2, bz3, bz4, bz5, bz6, bz7, bz8, bz9] at h1
   refine cw_seq ?_
   refine cw_region ?_
   refine sq_r (ry_whole rfl) ?_
   refine sq_r (ry_move rfl) ?_
   refine sq_r (ry_move rfl) ?_
   refine sq_r (Ry.to (v' := .int .i64 ((m - i : Nat) : Int)) (ry_sub rfl rfl (by omega)) (by congr 1 <;> omega)) ?_
   refine sq_r (ry_move rfl) ?_
   refine sq_r (ry_move rfl) ?_
   refine sq_r (ry_add rfl rfl (by omega)) ?_
   refine sq_r (ry_move rfl) ?_
   refine sq_r (Ry.to (v' := .int .i64 ((m + j - i : Nat) : Int)) (ry_sub rfl rfl (by omega)) (by congr 1 <;> omega)) ?_
   refine sq_r (ry_move rfl) ?_
   refine sq_callC rfl ⟨by omega, by omega, by omega, fun h => hsw (by omega)⟩ fun x42 hp42 => ?_
   refine sq_nil ?_
   refine ex_then ?_
   refine cw_region ?_
   refine sq_r (ry_move rfl) ?_
   refine sq_r (ry_move rfl) ?_
   refine sq_r (Ry.to (v' := .int .i64 ((j - i : Nat) : Int)) (ry_sub rfl rfl (by omega)) (by congr 1 <;> omega)) ?_
   refine sq_r (ry_assign rfl) ?_
   refine sq_nil ?_
   refine ex_block ?_
   exact ex_again (x := (i, j, ys)) (i, j - i, x42) ⟨hi1.right (by first | omega | (simp only []; omega)) hp42, by first | omega | (simp only []; omega), by first | omega | (simp only []; omega), by rw [hp42.len, hi4]⟩ (by simp only; omega) (Sub.cons rfl (Sub.cons rfl (Sub.cons rfl (Sub.cons rfl (Sub.nil _))))) (fun w hw => Keep.mem hw)
 ·
  try simp only [bz0, bz1, bz2, bz3, bz4, bz5, bz6, bz7, bz8, bz9] at h0
  obtain rfl : i = j := by omega
  refine cw_exit ?_
  refine ex_pass_exit ?_
  refine ex_pass_exit ?_
  refine ex_block_hit ?_
  refine ex_then ?_
  refine cw_region ?_
  refine sq_r (ry_whole rfl) ?_
  refine sq_r (ry_move rfl) ?_
  refine sq_r (ry_move rfl) ?_
  refine sq_r (Ry.to (v' := .int .i64 ((m - i : Nat) : Int)) (ry_sub rfl rfl (by omega)) (by congr 1 <;> omega)) ?_
  refine sq_r (ry_move rfl) ?_
  refine sq_r (ry_move rfl) ?_
  refine sq_callC rfl ⟨by omega, by omega, by omega, fun h => hsw (by omega)⟩ fun x52 hp52 => ?_
  refine sq_nil ?_
  refine ex_ret (.inr rfl) (res_none rfl) (fun w1 hw => ?_)
  exact ⟨x52, rfl, hi1.done hp52, Keep.mem hw⟩
instance srotate_i {w0 : World} {L R1 L2 : List Ent} {i j : Nat} {xs : List Rt} {T : TypeId} {g : Lsw} {a : Nat} {m : Nat} {n : Nat} [h : Has L g.b #[g.s.val] T i] [d1 : DelI L i R1] [q : Owns R1 g.s rcells 19 xs j] [d2 : DelI R1 j L2] : FnC Tryz.prog 82 w0 L [.agg (lscells g), .int .i64 (a : Nat), .int .i64 (m : Nat), .int .i64 (n : Nat)] (List Rt) (fun zz => .tuple #[]) (fun zz => blk g.b #[g.s.val] T :: own rcells 19 g.s zz :: L2) (fun zz => zz = rot xs a m n) (a < m ∧ m < n ∧ n ≤ xs.length ∧ xs.length ≤ 1000000 ∧ Swaps g xs.length) := ⟨fun hp w hw => srotate_c w0 w L2 xs T g a m n (mem_two h.h d1.h q.h d2.h hw) hp⟩

end Go.Proofs.YtldkgicmfbofiaaGreatDoor

/- The merge in place: walked. -/
namespace Go.Proofs.YtldkgicmfbofiaaGreatDoor
open Go.Eng Go.Kb
set_option maxRecDepth 20000 in
theorem symmerge_s (kk : Nat) (ih : ∀ {w0 : World} {L R1 L2 : List Ent} {i j : Nat} {xs : List Rt} {T : TypeId} {g : Lsw} {a : Nat} {m : Nat} {n : Nat} [h : Has L g.b #[g.s.val] T i] [d1 : DelI L i R1] [q : Owns R1 g.s rcells 19 xs j] [d2 : DelI R1 j L2], FnC Tryz.prog 66 w0 L [.agg (lscells g), .int .i64 (a : Nat), .int .i64 (m : Nat), .int .i64 (n : Nat)] (List Rt) (fun zz => .tuple #[]) (fun zz => blk g.b #[g.s.val] T :: own rcells 19 g.s zz :: L2) (fun zz => Upto rkR xs a n zz) ((a < m ∧ m < n ∧ n ≤ xs.length ∧ xs.length ≤ 1000000 ∧ MayAll xs ∧ Srt rkR (seg xs a m) ∧ Srt rkR (seg xs m n) ∧ Swaps g xs.length) ∧ n - a < kk)) (w0 w : World) (L : List Ent) (xs : List Rt) (T : TypeId) (g : Lsw) (a : Nat) (m : Nat) (n : Nat) (hw : Mem w0 (blk g.b #[g.s.val] T :: own rcells 19 g.s xs :: L) w) (hpre : a < m ∧ m < n ∧ n ≤ xs.length ∧ xs.length ≤ 1000000 ∧ MayAll xs ∧ Srt rkR (seg xs a m) ∧ Srt rkR (seg xs m n) ∧ Swaps g xs.length) (hk : n - a ≤ kk) : Calls Tryz.prog 66 #[.agg (lscells g), .int .i64 (a : Nat), .int .i64 (m : Nat), .int .i64 (n : Nat)] w fun e w' => ∃ zz : List Rt, e = .returned (.tuple #[]) ∧ (Upto rkR xs a n zz) ∧ Mem w0 (blk g.b #[g.s.val] T :: own rcells 19 g.s zz :: L) w' := by
 obtain ⟨hp1, hp2, hp3, hp4, hp5, hp6, hp7, hsw⟩ := hpre
 have hsL := (srt_seg (by omega)).1 hp6
 have hsR := (srt_seg hp3).1 hp7
 refine calls_in (args := [_, _, _, _]) Tryz.func66 rfl Tryz.ntmps66 rfl hw ?_
 change Cw _ _ _ _ _ [(0, .agg (lscells g)), (1, .int .i64 (a : Nat)), (2, .int .i64 (m : Nat)), (3, .int .i64 (n : Nat))] (blk g.b #[g.s.val] T :: own rcells 19 g.s xs :: L)
 refine cw_seq ?_
 refine cw_region ?_
 refine sq_boxA rfl fun b4 => ?_
 refine sq_nil ?_
 refine ex_then ?_
 refine cw_seq ?_
 refine cw_seq ?_
 refine cw_region ?_
 refine sq_r (ry_move rfl) ?_
 refine sq_r (ry_move rfl) ?_
 refine sq_r (ry_sub rfl rfl (by omega)) ?_
 refine sq_r (ry_int rfl rfl rfl) ?_
 refine sq_nil ?_
 refine ex_then ?_
 refine cw_cond rfl (fun h0 => ?_) (fun h0 => ?_)
 ·
  try simp only [bz0, bz1, bz2, bz3, bz4, bz5, bz6, bz7, bz8, bz9] at h0
  refine cw_seq ?_
  refine cw_region ?_
  refine sq_r (ry_move rfl) ?_
  refine sq_r (ry_assign rfl) ?_
  refine sq_nil ?_
  refine ex_then ?_
  refine cw_seq ?_
  refine cw_region ?_
  refine sq_r (ry_move rfl) ?_
  refine sq_r (ry_assign rfl) ?_
  refine sq_nil ?_
  refine ex_then ?_
  refine cw_seq ?_
  refine cw_block ?_
  refine cw_loop (X := Nat × Nat) (fun zz => [(8, .int .i64 (zz.1 : Nat)), (9, .int .i64 (zz.2 : Nat)), (1, .int .i64 (a : Nat)), (4, .pointer (some ⟨b4, 0, none⟩))]) (fun zz => blk b4 (lscells g) 84 :: blk g.b #[g.s.val] T :: own rcells 19 g.s xs :: L) (fun zz => m ≤ zz.1 ∧ zz.1 ≤ zz.2 ∧ zz.2 ≤ n ∧ (∀ t, m ≤ t → t < zz.1 → rk rkR xs t < rk rkR xs a) ∧ (∀ t, zz.2 ≤ t → t < n → rk rkR xs a ≤ rk rkR xs t)) (fun zz => zz.2 - zz.1) (m, n) ⟨by first | omega | (simp only []; omega), by first | omega | (simp only []; omega), by first | omega | (simp only []; omega), fun t h1 h2 => absurd h2 (Nat.not_lt_of_le h1), fun t h1 h2 => absurd h2 (Nat.not_lt_of_le h1)⟩ (Sub.cons rfl (Sub.cons rfl (Sub.cons rfl (Sub.cons rfl (Sub.nil _))))) (fun w hw => Keep.mem hw) ?_
  rintro ⟨i, j⟩ ⟨hi1, hi2, hi3, hi4, hi5⟩
  dsimp only
  simp only at hi1 hi2 hi3 hi4 hi5
  refine cw_seq ?_
  refine cw_seq ?_
  refine cw_region ?_
  refine sq_r (ry_move rfl) ?_
  refine sq_r (ry_move rfl) ?_
  refine sq_r (ry_int rfl rfl rfl) ?_
  refine sq_nil ?_
  refine ex_then ?_
  refine cw_cond rfl (fun h1 => ?_) (fun h1 => ?_)
  ·
   try simp only [bz0, bz1, bz2, bz3, bz4, bz5, bz6, bz7, bz8, bz9] at h1
   refine cw_skip ?_
   refine ex_then ?_
   refine cw_block ?_
   refine cw_seq ?_
   refine cw_region ?_
   refine sq_r (ry_move rfl) ?_
   refine sq_r (ry_move rfl) ?_
   refine sq_r (ry_add rfl rfl (by omega)) ?_
   refine sq_r (ry_convn rfl (by simp only [nb]; omega)) ?_
   refine sq_r (Ry.to (v' := .int .u64 (((i + j) / 2 ^ 1 : Nat) : Int)) (ry_shr (p := (i + j)) rfl rfl (by simp only [nb]; omega) (by omega)) rfl) ?_
   refine sq_r (ry_convn rfl (by simp only [nb]; omega)) ?_
   refine sq_r (ry_assign rfl) ?_
   refine sq_nil ?_
   refine ex_then ?_
   refine cw_seq ?_
   refine cw_region ?_
   refine sq_r (ry_field (o' := 0) rfl rfl) ?_
   refine sq_r (ry_cellc rfl) ?_
   refine sq_r (ry_move rfl) ?_
   refine sq_r (ry_move rfl) ?_
   refine sq_y (yl_callV (vs := [.int .i64 (((i + j) / 2 ^ 1 : Nat) : Int), .int .i64 (a : Int)]) (vs2 := [.int .i64 (((i + j) / 2 ^ 1 : Nat) : Int), .int .i64 (a : Int), .pointer (some ⟨g.b, 0, none⟩)]) rfl rfl rfl (by omega)) ?_
   refine sq_nil ?_
   refine ex_then ?_
   refine cw_cond rfl (fun h2 => ?_) (fun h2 => ?_)
   ·
    try simp only [bz0, bz1, bz2, bz3, bz4, bz5, bz6, bz7, bz8, bz9] at h2
    rw [lessV_rk hp5 (s := ((i + j) / 2 ^ 1)) (t := a) (by omega) (by omega) (by omega) (by omega), decide_eq_true_eq] at h2
    refine cw_region ?_
    refine sq_r (ry_move rfl) ?_
    refine sq_r (ry_add rfl rfl (by omega)) ?_
    refine sq_r (ry_assign rfl) ?_
    refine sq_nil ?_
    refine ex_block ?_
    exact ex_again (x := (i, j)) (((i + j) / 2 ^ 1) + 1, j) ⟨by first | omega | (simp only []; omega), by first | omega | (simp only []; omega), by first | omega | (simp only []; omega), fun t t1 t2 => Nat.lt_of_le_of_lt (hsR t _ t1 (Nat.le_of_lt_succ t2) (by first | omega | (simp only []; omega))) h2, hi5⟩ (by simp only; omega) (Sub.cons rfl (Sub.cons rfl (Sub.cons rfl (Sub.cons rfl (Sub.nil _))))) (fun w hw => Keep.mem hw)
   ·
    try simp only [bz0, bz1, bz2, bz3, bz4, bz5, bz6, bz7, bz8, bz9] at h2
    rw [lessV_rk hp5 (s := ((i + j) / 2 ^ 1)) (t := a) (by omega) (by omega) (by omega) (by omega), decide_eq_false_iff_not] at h2
    refine cw_region ?_
    refine sq_r (ry_move rfl) ?_
    refine sq_r (ry_assign rfl) ?_
    refine sq_nil ?_
    refine ex_block ?_
    exact ex_again (x := (i, j)) (i, ((i + j) / 2 ^ 1)) ⟨hi1, by first | omega | (simp only []; omega), by first | omega | (simp only []; omega), hi4, fun t t1 t2 => Nat.le_trans (Nat.le_of_not_lt h2) (hsR _ t (by first | omega | (simp only []; omega)) t1 t2)⟩ (by simp only; omega) (Sub.cons rfl (Sub.cons rfl (Sub.cons rfl (Sub.cons rfl (Sub.nil _))))) (fun w hw => Keep.mem hw)
  ·
   try simp only [bz0, bz1, bz2, bz3, bz4, bz5, bz6, bz7, bz8, bz9] at h1
   have hij : i = j := by omega
   refine cw_exit ?_
   refine ex_pass_exit ?_
   refine ex_pass_exit ?_
   refine ex_block_hit ?_
   refine ex_then ?_
   refine cw_seq ?_
   refine cw_seq ?_
   refine cw_region ?_
   refine sq_r (ry_move rfl) ?_
   refine sq_r (ry_assign rfl) ?_
   refine sq_nil ?_
   refine ex_then ?_
   refine cw_block ?_
   refine cw_loop (X := Nat × List Rt) (fun zz => [(11, .int .i64 (zz.1 : Nat)), (4, .pointer (some ⟨b4, 0, none⟩)), (8, .int .i64 (i : Nat))]) (fun zz => blk b4 (lscells g) 84 :: blk g.b #[g.s.val] T :: own rcells 19 g.s zz.2 :: L) (fun zz => Slir xs zz.2 a zz.1 ∧ a ≤ zz.1 ∧ zz.1 + 1 ≤ i) (fun zz => i - zz.1) (a, xs) ⟨Slir.refl, Nat.le_refl _, by first | omega | (simp only []; omega)⟩ (Sub.cons rfl (Sub.cons rfl (Sub.cons rfl (Sub.nil _)))) (fun w hw => Keep.mem hw) ?_
   rintro ⟨k, ts⟩ ⟨hk1, hk2, hk3⟩
   dsimp only
   simp only at hk1 hk2 hk3
   have lt := hk1.len
   refine cw_seq ?_
   refine cw_seq ?_
   refine cw_region ?_
   refine sq_r (ry_move rfl) ?_
   refine sq_r (ry_move rfl) ?_
   refine sq_r (ry_sub rfl rfl (by omega)) ?_
   refine sq_r (ry_int rfl rfl rfl) ?_
   refine sq_nil ?_
   refine ex_then ?_
   refine cw_cond rfl (fun h3 => ?_) (fun h3 => ?_)
   ·
    try simp only [bz0, bz1, bz2, bz3, bz4, bz5, bz6, bz7, bz8, bz9] at h3
    refine cw_skip ?_
    refine ex_then ?_
    refine cw_seq ?_
    refine cw_block ?_
    refine cw_region ?_
    refine sq_r (ry_field (o' := 1) rfl rfl) ?_
    refine sq_r (ry_cellc rfl) ?_
    refine sq_r (ry_move rfl) ?_
    refine sq_r (ry_move rfl) ?_
    refine sq_r (ry_add rfl rfl (by omega)) ?_
    refine sq_swap k (k + 1) rfl (hsw (by omega)) rfl (by omega) (by omega) (by omega) (by omega) ?_
    refine sq_nil ?_
    refine ex_block ?_
    refine ex_then ?_
    refine cw_region ?_
    refine sq_r (ry_move rfl) ?_
    refine sq_r (ry_add rfl rfl (by omega)) ?_
    refine sq_r (ry_assign rfl) ?_
    refine sq_nil ?_
    exact ex_again (x := (k, ts)) (k + 1, swp ts k (k + 1)) ⟨hk1.step hk2 (by first | omega | (simp only []; omega)), by first | omega | (simp only []; omega), by first | omega | (simp only []; omega)⟩ (by simp only; omega) (Sub.cons rfl (Sub.cons rfl (Sub.cons rfl (Sub.nil _)))) (fun w hw => Keep.mem hw)
   ·
    try simp only [bz0, bz1, bz2, bz3, bz4, bz5, bz6, bz7, bz8, bz9] at h3
    have hkk : k = i - 1 := by omega
    refine cw_exit ?_
    refine ex_pass_exit ?_
    refine ex_pass_exit ?_
    refine ex_block_hit ?_
    refine ex_then ?_
    refine cw_ret ?_
    refine ex_pass_ret ?_
    refine ex_ret (.inl rfl) (res_none rfl) (fun w1 hw => ?_)
    exact ⟨ts, rfl, front_done (by rw [← hkk]; exact hk1) (by omega) (by omega) hp3 (by rw [show a + 1 = m by omega]; exact hp7) (fun t t1 t2 => hi4 t (by omega) t2) (fun t t1 t2 => hi5 t (by omega) t2), Keep.mem hw⟩
 ·
  try simp only [bz0, bz1, bz2, bz3, bz4, bz5, bz6, bz7, bz8, bz9] at h0
  refine cw_skip ?_
  refine ex_then ?_
  refine cw_seq ?_
  refine cw_seq ?_
  refine cw_region ?_
  refine sq_r (ry_move rfl) ?_
  refine sq_r (ry_move rfl) ?_
  refine sq_r (ry_sub rfl rfl (by omega)) ?_
  refine sq_r (ry_int rfl rfl rfl) ?_
  refine sq_nil ?_
  refine ex_then ?_
  refine cw_cond rfl (fun h4 => ?_) (fun h4 => ?_)
  ·
   try simp only [bz0, bz1, bz2, bz3, bz4, bz5, bz6, bz7, bz8, bz9] at h4
   refine cw_seq ?_
   refine cw_region ?_
   refine sq_r (ry_move rfl) ?_
   refine sq_r (ry_assign rfl) ?_
   refine sq_nil ?_
   refine ex_then ?_
   refine cw_seq ?_
   refine cw_region ?_
   refine sq_r (ry_move rfl) ?_
   refine sq_r (ry_assign rfl) ?_
   refine sq_nil ?_
   refine ex_then ?_
   refine cw_seq ?_
   refine cw_block ?_
   refine cw_loop (X := Nat × Nat) (fun zz => [(12, .int .i64 (zz.1 : Nat)), (13, .int .i64 (zz.2 : Nat)), (2, .int .i64 (m : Nat)), (4, .pointer (some ⟨b4, 0, none⟩))]) (fun zz => blk b4 (lscells g) 84 :: blk g.b #[g.s.val] T :: own rcells 19 g.s xs :: L) (fun zz => a ≤ zz.1 ∧ zz.1 ≤ zz.2 ∧ zz.2 ≤ m ∧ (∀ t, a ≤ t → t < zz.1 → rk rkR xs t ≤ rk rkR xs m) ∧ (∀ t, zz.2 ≤ t → t < m → rk rkR xs m < rk rkR xs t)) (fun zz => zz.2 - zz.1) (a, m) ⟨by first | omega | (simp only []; omega), by first | omega | (simp only []; omega), by first | omega | (simp only []; omega), fun t h1 h2 => absurd h2 (Nat.not_lt_of_le h1), fun t h1 h2 => absurd h2 (Nat.not_lt_of_le h1)⟩ (Sub.cons rfl (Sub.cons rfl (Sub.cons rfl (Sub.cons rfl (Sub.nil _))))) (fun w hw => Keep.mem hw) ?_
   rintro ⟨i, j⟩ ⟨hi1, hi2, hi3, hi4, hi5⟩
   dsimp only
   simp only at hi1 hi2 hi3 hi4 hi5
   refine cw_seq ?_
   refine cw_seq ?_
   refine cw_region ?_
   refine sq_r (ry_move rfl) ?_
   refine sq_r (ry_move rfl) ?_
   refine sq_r (ry_int rfl rfl rfl) ?_
   refine sq_nil ?_
   refine ex_then ?_
   refine cw_cond rfl (fun h5 => ?_) (fun h5 => ?_)
   ·
    try simp only [bz0, bz1, bz2, bz3, bz4, bz5, bz6, bz7, bz8, bz9] at h5
    refine cw_skip ?_
    refine ex_then ?_
    refine cw_block ?_
    refine cw_seq ?_
    refine cw_region ?_
    refine sq_r (ry_move rfl) ?_
    refine sq_r (ry_move rfl) ?_
    refine sq_r (ry_add rfl rfl (by omega)) ?_
    refine sq_r (ry_convn rfl (by simp only [nb]; omega)) ?_
    refine sq_r (Ry.to (v' := .int .u64 (((i + j) / 2 ^ 1 : Nat) : Int)) (ry_shr (p := (i + j)) rfl rfl (by simp only [nb]; omega) (by omega)) rfl) ?_
    refine sq_r (ry_convn rfl (by simp only [nb]; omega)) ?_
    refine sq_r (ry_assign rfl) ?_
    refine sq_nil ?_
    refine ex_then ?_
    refine cw_seq ?_
    refine cw_region ?_
    refine sq_r (ry_field (o' := 0) rfl rfl) ?_
    refine sq_r (ry_cellc rfl) ?_
    refine sq_r (ry_move rfl) ?_
    refine sq_r (ry_move rfl) ?_
    refine sq_y (yl_callV (vs := [.int .i64 (m : Int), .int .i64 (((i + j) / 2 ^ 1 : Nat) : Int)]) (vs2 := [.int .i64 (m : Int), .int .i64 (((i + j) / 2 ^ 1 : Nat) : Int), .pointer (some ⟨g.b, 0, none⟩)]) rfl rfl rfl (by omega)) ?_
    refine sq_r (ry_not rfl) ?_
    refine sq_nil ?_
    refine ex_then ?_
    refine cw_cond rfl (fun h6 => ?_) (fun h6 => ?_)
    ·
     try simp only [bz0, bz1, bz2, bz3, bz4, bz5, bz6, bz7, bz8, bz9] at h6
     rw [lessV_rk hp5 (s := m) (t := ((i + j) / 2 ^ 1)) (by omega) (by omega) (by omega) (by omega), decide_eq_false_iff_not] at h6
     refine cw_region ?_
     refine sq_r (ry_move rfl) ?_
     refine sq_r (ry_add rfl rfl (by omega)) ?_
     refine sq_r (ry_assign rfl) ?_
     refine sq_nil ?_
     refine ex_block ?_
     exact ex_again (x := (i, j)) (((i + j) / 2 ^ 1) + 1, j) ⟨by first | omega | (simp only []; omega), by first | omega | (simp only []; omega), by first | omega | (simp only []; omega), fun t t1 t2 => Nat.le_trans (hsL t _ t1 (Nat.le_of_lt_succ t2) (by first | omega | (simp only []; omega))) (Nat.le_of_not_lt h6), hi5⟩ (by simp only; omega) (Sub.cons rfl (Sub.cons rfl (Sub.cons rfl (Sub.cons rfl (Sub.nil _))))) (fun w hw => Keep.mem hw)
    ·
     try simp only [bz0, bz1, bz2, bz3, bz4, bz5, bz6, bz7, bz8, bz9] at h6
     rw [lessV_rk hp5 (s := m) (t := ((i + j) / 2 ^ 1)) (by omega) (by omega) (by omega) (by omega), decide_eq_true_eq] at h6
     refine cw_region ?_
     refine sq_r (ry_move rfl) ?_
     refine sq_r (ry_assign rfl) ?_
     refine sq_nil ?_
     refine ex_block ?_
     exact ex_again (x := (i, j)) (i, ((i + j) / 2 ^ 1)) ⟨hi1, by first | omega | (simp only []; omega), by first | omega | (simp only []; omega), hi4, fun t t1 t2 => Nat.lt_of_lt_of_le h6 (hsL _ t (by first | omega | (simp only []; omega)) t1 t2)⟩ (by simp only; omega) (Sub.cons rfl (Sub.cons rfl (Sub.cons rfl (Sub.cons rfl (Sub.nil _))))) (fun w hw => Keep.mem hw)
   ·
    try simp only [bz0, bz1, bz2, bz3, bz4, bz5, bz6, bz7, bz8, bz9] at h5
    have hij : i = j := by omega
    refine cw_exit ?_
    refine ex_pass_exit ?_
    refine ex_pass_exit ?_
    refine ex_block_hit ?_
    refine ex_then ?_
    refine cw_seq ?_
    refine cw_seq ?_
    refine cw_region ?_
    refine sq_r (ry_move rfl) ?_
    refine sq_r (ry_assign rfl) ?_
    refine sq_nil ?_
    refine ex_then ?_
    refine cw_block ?_
    refine cw_loop (X := Nat × List Rt) (fun zz => [(15, .int .i64 (zz.1 : Nat)), (4, .pointer (some ⟨b4, 0, none⟩)), (12, .int .i64 (i : Nat))]) (fun zz => blk b4 (lscells g) 84 :: blk g.b #[g.s.val] T :: own rcells 19 g.s zz.2 :: L) (fun zz => Slid xs zz.2 m zz.1 ∧ i ≤ zz.1 ∧ zz.1 ≤ m) (fun zz => zz.1) (m, xs) ⟨Slid.refl, by first | omega | (simp only []; omega), Nat.le_refl _⟩ (Sub.cons rfl (Sub.cons rfl (Sub.cons rfl (Sub.nil _)))) (fun w hw => Keep.mem hw) ?_
    rintro ⟨k, ts⟩ ⟨hk1, hk2, hk3⟩
    dsimp only
    simp only at hk1 hk2 hk3
    have lt := hk1.len
    refine cw_seq ?_
    refine cw_seq ?_
    refine cw_region ?_
    refine sq_r (ry_move rfl) ?_
    refine sq_r (ry_move rfl) ?_
    refine sq_r (ry_int rfl rfl rfl) ?_
    refine sq_nil ?_
    refine ex_then ?_
    refine cw_cond rfl (fun h7 => ?_) (fun h7 => ?_)
    ·
     try simp only [bz0, bz1, bz2, bz3, bz4, bz5, bz6, bz7, bz8, bz9] at h7
     refine cw_skip ?_
     refine ex_then ?_
     refine cw_seq ?_
     refine cw_block ?_
     refine cw_region ?_
     refine sq_r (ry_field (o' := 1) rfl rfl) ?_
     refine sq_r (ry_cellc rfl) ?_
     refine sq_r (ry_move rfl) ?_
     refine sq_r (ry_move rfl) ?_
     refine sq_r (ry_sub rfl rfl (by omega)) ?_
     refine sq_swap k (k - 1) rfl (hsw (by omega)) rfl (by omega) (by omega) (by omega) (by omega) ?_
     refine sq_nil ?_
     refine ex_block ?_
     refine ex_then ?_
     refine cw_region ?_
     refine sq_r (ry_move rfl) ?_
     refine sq_r (ry_sub rfl rfl (by omega)) ?_
     refine sq_r (ry_assign rfl) ?_
     refine sq_nil ?_
     exact ex_again (x := (k, ts)) (k - 1, swp ts k (k - 1)) ⟨hk1.step (by first | omega | (simp only []; omega)) hk3 (by first | omega | (simp only []; omega)), by first | omega | (simp only []; omega), by first | omega | (simp only []; omega)⟩ (by simp only; omega) (Sub.cons (look_eq rfl (by congr 1; omega)) (Sub.cons rfl (Sub.cons rfl (Sub.nil _)))) (fun w hw => Keep.mem hw)
    ·
     try simp only [bz0, bz1, bz2, bz3, bz4, bz5, bz6, bz7, bz8, bz9] at h7
     have hkk : k = i := by omega
     refine cw_exit ?_
     refine ex_pass_exit ?_
     refine ex_pass_exit ?_
     refine ex_block_hit ?_
     refine ex_then ?_
     refine cw_ret ?_
     refine ex_pass_ret ?_
     refine ex_ret (.inl rfl) (res_none rfl) (fun w1 hw => ?_)
     exact ⟨ts, rfl, by rw [show n = m + 1 by omega]; exact ins_done (Upto.refl (by omega) (by omega) hp6) (by omega) (by omega) hk1 (by omega) hk3 (fun t t1 t2 => hi5 t (by omega) t2) ((Nat.eq_or_lt_of_le (show a ≤ k by omega)).elim (fun h => .inl h.symm) fun h => .inr (hi4 (k - 1) (by omega) (by omega))), Keep.mem hw⟩
  ·
   try simp only [bz0, bz1, bz2, bz3, bz4, bz5, bz6, bz7, bz8, bz9] at h4
   refine cw_skip ?_
   refine ex_then ?_
   refine cw_seq ?_
   obtain ⟨d, hd⟩ : ∃ d, d = (a + n) / 2 ^ 1 := ⟨_, rfl⟩
   refine cw_region ?_
   refine sq_r (ry_move rfl) ?_
   refine sq_r (ry_move rfl) ?_
   refine sq_r (ry_add rfl rfl (by omega)) ?_
   refine sq_r (ry_convn rfl (by simp only [nb]; omega)) ?_
   refine sq_r (Ry.to (v' := .int .u64 (((a + n) / 2 ^ 1 : Nat) : Int)) (ry_shr (p := (a + n)) rfl rfl (by simp only [nb]; omega) (by omega)) rfl) ?_
   refine sq_r (Ry.to (v' := .int .i64 ((d : Nat) : Int)) (ry_convn rfl (by simp only [nb]; omega)) (by rw [hd])) ?_
   refine sq_r (ry_assign rfl) ?_
   refine sq_nil ?_
   refine ex_then ?_
   refine cw_seq ?_
   refine cw_region ?_
   refine sq_r (ry_move rfl) ?_
   refine sq_r (ry_move rfl) ?_
   refine sq_r (ry_add rfl rfl (by omega)) ?_
   refine sq_r (ry_assign rfl) ?_
   refine sq_nil ?_
   refine ex_then ?_
   refine cw_seq ?_
   refine cw_region ?_
   refine sq_r (ry_assign rfl) ?_
   refine sq_r (ry_assign rfl) ?_
   refine sq_nil ?_
   refine ex_then ?_
   refine cw_cut (X := Nat × Nat) (fun zz => [(18, .int .i64 (zz.1 : Nat)), (19, .int .i64 (zz.2 : Nat)), (1, .int .i64 (a : Nat)), (2, .int .i64 (m : Nat)), (3, .int .i64 (n : Nat)), (4, .pointer (some ⟨b4, 0, none⟩)), (16, .int .i64 (d : Nat)), (17, .int .i64 ((d + m) : Nat))]) (fun zz => blk b4 (lscells g) 84 :: blk g.b #[g.s.val] T :: own rcells 19 g.s xs :: L) (fun zz => a ≤ zz.1 ∧ zz.1 ≤ zz.2 ∧ zz.2 ≤ m ∧ zz.2 ≤ d ∧ d + m ≤ zz.1 + n ∧ (zz.1 = a ∨ zz.1 + n = d + m) ∧ (zz.2 = m ∨ zz.2 = d)) ?_ ?_
   ·
    refine cw_seq ?_
    refine cw_region ?_
    refine sq_r (ry_move rfl) ?_
    refine sq_r (ry_move rfl) ?_
    refine sq_r (ry_int rfl rfl rfl) ?_
    refine sq_nil ?_
    refine ex_then ?_
    refine cw_cond rfl (fun h8 => ?_) (fun h8 => ?_)
    ·
     try simp only [bz0, bz1, bz2, bz3, bz4, bz5, bz6, bz7, bz8, bz9] at h8
     refine cw_seq ?_
     refine cw_region ?_
     refine sq_r (ry_move rfl) ?_
     refine sq_r (ry_move rfl) ?_
     refine sq_r (Ry.to (v' := .int .i64 ((d + m - n : Nat) : Int)) (ry_sub rfl rfl (by omega)) (by congr 1 <;> omega)) ?_
     refine sq_r (ry_assign rfl) ?_
     refine sq_nil ?_
     refine ex_then ?_
     refine cw_region ?_
     refine sq_r (ry_move rfl) ?_
     refine sq_r (ry_assign rfl) ?_
     refine sq_nil ?_
     exact ex_meet (d + m - n, d) ⟨by first | omega | (simp only []; omega), by first | omega | (simp only []; omega), by first | omega | (simp only []; omega), by first | omega | (simp only []; omega), by first | omega | (simp only []; omega), .inr (by first | omega | (simp only []; omega)), .inr rfl⟩ (Sub.cons rfl (Sub.cons rfl (Sub.cons rfl (Sub.cons rfl (Sub.cons rfl (Sub.cons rfl (Sub.cons rfl (Sub.cons rfl (Sub.nil _))))))))) (fun w hw => Keep.mem hw)
    ·
     try simp only [bz0, bz1, bz2, bz3, bz4, bz5, bz6, bz7, bz8, bz9] at h8
     refine cw_seq ?_
     refine cw_region ?_
     refine sq_r (ry_move rfl) ?_
     refine sq_r (ry_assign rfl) ?_
     refine sq_nil ?_
     refine ex_then ?_
     refine cw_region ?_
     refine sq_r (ry_move rfl) ?_
     refine sq_r (ry_assign rfl) ?_
     refine sq_nil ?_
     exact ex_meet (a, m) ⟨by first | omega | (simp only []; omega), by first | omega | (simp only []; omega), by first | omega | (simp only []; omega), by first | omega | (simp only []; omega), by first | omega | (simp only []; omega), .inl rfl, .inl rfl⟩ (Sub.cons rfl (Sub.cons rfl (Sub.cons rfl (Sub.cons rfl (Sub.cons rfl (Sub.cons rfl (Sub.cons rfl (Sub.cons rfl (Sub.nil _))))))))) (fun w hw => Keep.mem hw)
   ·
    rintro ⟨s0, r0⟩ ⟨hj1, hj2, hj3, hj4, hj5, hj6, hj7⟩
    dsimp only
    simp only at hj1 hj2 hj3 hj4 hj5 hj6 hj7
    refine cw_seq ?_
    refine cw_region ?_
    refine sq_r (ry_move rfl) ?_
    refine sq_r (Ry.to (v' := .int .i64 ((d + m - 1 : Nat) : Int)) (ry_sub rfl rfl (by omega)) (by congr 1 <;> omega)) ?_
    refine sq_r (ry_assign rfl) ?_
    refine sq_nil ?_
    refine ex_then ?_
    refine cw_seq ?_
    refine cw_block ?_
    refine cw_loop (X := Nat × Nat) (fun zz => [(18, .int .i64 (zz.1 : Nat)), (19, .int .i64 (zz.2 : Nat)), (1, .int .i64 (a : Nat)), (2, .int .i64 (m : Nat)), (3, .int .i64 (n : Nat)), (4, .pointer (some ⟨b4, 0, none⟩)), (16, .int .i64 (d : Nat)), (17, .int .i64 ((d + m) : Nat)), (20, .int .i64 ((d + m - 1) : Nat))]) (fun zz => blk b4 (lscells g) 84 :: blk g.b #[g.s.val] T :: own rcells 19 g.s xs :: L) (fun zz => s0 ≤ zz.1 ∧ zz.1 ≤ zz.2 ∧ zz.2 ≤ r0 ∧ (zz.1 = s0 ∨ rk rkR xs (zz.1 - 1) ≤ rk rkR xs (d + m - zz.1)) ∧ (zz.2 = r0 ∨ rk rkR xs (d + m - 1 - zz.2) < rk rkR xs zz.2)) (fun zz => zz.2 - zz.1) (s0, r0) ⟨by first | omega | (simp only []; omega), by first | omega | (simp only []; omega), by first | omega | (simp only []; omega), .inl rfl, .inl rfl⟩ (Sub.cons rfl (Sub.cons rfl (Sub.cons rfl (Sub.cons rfl (Sub.cons rfl (Sub.cons rfl (Sub.cons rfl (Sub.cons rfl (Sub.cons rfl (Sub.nil _)))))))))) (fun w hw => Keep.mem hw) ?_
    rintro ⟨s, r⟩ ⟨hi1, hi2, hi3, hi4, hi5⟩
    dsimp only
    simp only at hi1 hi2 hi3 hi4 hi5
    refine cw_seq ?_
    refine cw_seq ?_
    refine cw_region ?_
    refine sq_r (ry_move rfl) ?_
    refine sq_r (ry_move rfl) ?_
    refine sq_r (ry_int rfl rfl rfl) ?_
    refine sq_nil ?_
    refine ex_then ?_
    refine cw_cond rfl (fun h9 => ?_) (fun h9 => ?_)
    ·
     try simp only [bz0, bz1, bz2, bz3, bz4, bz5, bz6, bz7, bz8, bz9] at h9
     refine cw_skip ?_
     refine ex_then ?_
     refine cw_block ?_
     refine cw_seq ?_
     refine cw_region ?_
     refine sq_r (ry_move rfl) ?_
     refine sq_r (ry_move rfl) ?_
     refine sq_r (ry_add rfl rfl (by omega)) ?_
     refine sq_r (ry_convn rfl (by simp only [nb]; omega)) ?_
     refine sq_r (Ry.to (v' := .int .u64 (((s + r) / 2 ^ 1 : Nat) : Int)) (ry_shr (p := (s + r)) rfl rfl (by simp only [nb]; omega) (by omega)) rfl) ?_
     refine sq_r (ry_convn rfl (by simp only [nb]; omega)) ?_
     refine sq_r (ry_assign rfl) ?_
     refine sq_nil ?_
     refine ex_then ?_
     refine cw_seq ?_
     refine cw_region ?_
     refine sq_r (ry_field (o' := 0) rfl rfl) ?_
     refine sq_r (ry_cellc rfl) ?_
     refine sq_r (ry_move rfl) ?_
     refine sq_r (ry_move rfl) ?_
     refine sq_r (Ry.to (v' := .int .i64 (((d + m - 1 - (s + r) / 2 ^ 1) : Nat) : Int)) (ry_sub rfl rfl (by omega)) (by congr 1 <;> omega)) ?_
     refine sq_r (ry_move rfl) ?_
     refine sq_y (yl_callV (vs := [.int .i64 (((d + m - 1 - (s + r) / 2 ^ 1) : Nat) : Int), .int .i64 ((((s + r) / 2 ^ 1) : Nat) : Int)]) (vs2 := [.int .i64 (((d + m - 1 - (s + r) / 2 ^ 1) : Nat) : Int), .int .i64 ((((s + r) / 2 ^ 1) : Nat) : Int), .pointer (some ⟨g.b, 0, none⟩)]) rfl rfl rfl (by omega)) ?_
     refine sq_r (ry_not rfl) ?_
     refine sq_nil ?_
     refine ex_then ?_
     refine cw_cond rfl (fun h10 => ?_) (fun h10 => ?_)
     ·
      try simp only [bz0, bz1, bz2, bz3, bz4, bz5, bz6, bz7, bz8, bz9] at h10
      rw [lessV_rk hp5 (s := (d + m - 1 - (s + r) / 2 ^ 1)) (t := ((s + r) / 2 ^ 1)) (by omega) (by omega) (by omega) (by omega), decide_eq_false_iff_not] at h10
      refine cw_region ?_
      refine sq_r (ry_move rfl) ?_
      refine sq_r (ry_add rfl rfl (by omega)) ?_
      refine sq_r (ry_assign rfl) ?_
      refine sq_nil ?_
      refine ex_block ?_
      exact ex_again (x := (s, r)) (((s + r) / 2 ^ 1) + 1, r) ⟨by first | omega | (simp only []; omega), by first | omega | (simp only []; omega), by first | omega | (simp only []; omega), .inr (by rw [Nat.add_sub_cancel, show d + m - (((s + r) / 2 ^ 1) + 1) = (d + m - 1 - (s + r) / 2 ^ 1) by first | omega | (simp only []; omega)]; exact Nat.le_of_not_lt h10), hi5⟩ (by simp only; omega) (Sub.cons rfl (Sub.cons rfl (Sub.cons rfl (Sub.cons rfl (Sub.cons rfl (Sub.cons rfl (Sub.cons rfl (Sub.cons rfl (Sub.cons rfl (Sub.nil _)))))))))) (fun w hw => Keep.mem hw)
     ·
      try simp only [bz0, bz1, bz2, bz3, bz4, bz5, bz6, bz7, bz8, bz9] at h10
      rw [lessV_rk hp5 (s := (d + m - 1 - (s + r) / 2 ^ 1)) (t := ((s + r) / 2 ^ 1)) (by omega) (by omega) (by omega) (by omega), decide_eq_true_eq] at h10
      refine cw_region ?_
      refine sq_r (ry_move rfl) ?_
      refine sq_r (ry_assign rfl) ?_
      refine sq_nil ?_
      refine ex_block ?_
      exact ex_again (x := (s, r)) (s, ((s + r) / 2 ^ 1)) ⟨hi1, by first | omega | (simp only []; omega), by first | omega | (simp only []; omega), hi4, .inr h10⟩ (by simp only; omega) (Sub.cons rfl (Sub.cons rfl (Sub.cons rfl (Sub.cons rfl (Sub.cons rfl (Sub.cons rfl (Sub.cons rfl (Sub.cons rfl (Sub.cons rfl (Sub.nil _)))))))))) (fun w hw => Keep.mem hw)
    ·
     try simp only [bz0, bz1, bz2, bz3, bz4, bz5, bz6, bz7, bz8, bz9] at h9
     refine cw_exit ?_
     refine ex_pass_exit ?_
     refine ex_pass_exit ?_
     refine ex_block_hit ?_
     refine ex_then ?_
     refine cw_seq ?_
     obtain ⟨e, he⟩ : ∃ e, e = d + m - s := ⟨_, rfl⟩
     have f1 : a ≤ s := by omega
     have f2 : s ≤ m := by omega
     have f3 : m ≤ e := by omega
     have f4 : e ≤ n := by omega
     have f5 : s + (e - m) = d := by omega
     have k1 := sym_k1 hp6 hp7 f1 f2 f3 f4 hp3 (by
      rcases hi5 with h | h
      ·
       rcases hj7 with h' | h'
       ·
        left; omega
       ·
        right; left; omega
      ·
       right; right; rw [show e - 1 = d + m - 1 - r by omega, show s = r by omega]; exact h)
     have k2 := sym_k2 hp6 hp7 f1 f2 f3 f4 hp3 (by
      rcases hi4 with h | h
      ·
       rcases hj6 with h' | h'
       ·
        left; omega
       ·
        right; left; omega
      ·
       right; right; rw [he]; exact h)
     have lr := rot_length (xs := xs) f2 f3 (show e ≤ xs.length by omega)
     obtain ⟨g1, g2, g3, g4⟩ := rot_segs (xs := xs) f1 f2 f3 f4 hp3
     rw [f5] at g2 g3
     have hmr : MayAll (rot xs s m e) := fun x hx => hp5 x (rot_mem f2 f3 (by omega) hx)
     have q1 : Srt rkR (seg (rot xs s m e) a s) := by rw [g1]; exact srt_sub hp6 (by omega) (Nat.le_refl _) f2
     have q2 : Srt rkR (seg (rot xs s m e) s d) := by rw [g2]; exact srt_sub hp7 hp3 (Nat.le_refl _) f4
     have q3 : Srt rkR (seg (rot xs s m e) d e) := by rw [g3]; exact srt_sub hp6 (by omega) f1 (Nat.le_refl _)
     have q4 : Srt rkR (seg (rot xs s m e) e n) := by rw [g4]; exact srt_sub hp7 hp3 f3 (Nat.le_refl _)
     refine cw_region ?_
     refine sq_r (ry_move rfl) ?_
     refine sq_r (ry_move rfl) ?_
     refine sq_r (Ry.to (v' := .int .i64 ((e : Nat) : Int)) (ry_sub rfl rfl (by omega)) (by congr 1 <;> omega)) ?_
     refine sq_r (ry_assign rfl) ?_
     refine sq_nil ?_
     refine ex_then ?_
     refine cw_cut (X := Unit) (fun zz => [(1, .int .i64 (a : Nat)), (3, .int .i64 (n : Nat)), (4, .pointer (some ⟨b4, 0, none⟩)), (16, .int .i64 (d : Nat)), (18, .int .i64 (s : Nat)), (22, .int .i64 (e : Nat))]) (fun zz => blk b4 (lscells g) 84 :: blk g.b #[g.s.val] T :: own rcells 19 g.s (rot xs s m e) :: L) (fun zz => True) ?_ ?_
     ·
      refine cw_seq ?_
      refine cw_region ?_
      refine sq_r (ry_move rfl) ?_
      refine sq_r (ry_move rfl) ?_
      refine sq_r (ry_int rfl rfl rfl) ?_
      refine sq_r (ry_move rfl) ?_
      refine sq_gt rfl rfl rfl (fun hg => (Ry.yl (ry_move rfl))) ?_
      refine sq_gt rfl rfl rfl (fun hg => (Ry.yl (ry_move rfl))) ?_
      refine sq_gt rfl rfl rfl (fun hg => (Ry.yl (ry_int (ev_c hg rfl) (ev_c hg rfl) rfl))) ?_
      refine sq_r (ry_and rfl rfl rfl) ?_
      refine sq_nil ?_
      refine ex_then ?_
      refine cw_cond rfl (fun h11 => ?_) (fun h11 => ?_)
      ·
       try simp only [bz0, bz1, bz2, bz3, bz4, bz5, bz6, bz7, bz8, bz9] at h11
       refine cw_region ?_
       refine sq_r (ry_whole rfl) ?_
       refine sq_r (ry_move rfl) ?_
       refine sq_r (ry_move rfl) ?_
       refine sq_r (ry_move rfl) ?_
       refine sq_callC rfl ⟨by omega, by omega, by omega, by omega, hsw⟩ fun x150 hp150 => ?_
       refine sq_nil ?_
       exact ex_meet () trivial (Sub.cons rfl (Sub.cons rfl (Sub.cons rfl (Sub.cons rfl (Sub.cons rfl (Sub.cons rfl (Sub.nil _))))))) (fun w hw => by rw [hp150] at hw; exact Keep.mem hw)
      ·
       try simp only [bz0, bz1, bz2, bz3, bz4, bz5, bz6, bz7, bz8, bz9] at h11
       refine cw_skip ?_
       exact ex_meet () trivial (Sub.cons rfl (Sub.cons rfl (Sub.cons rfl (Sub.cons rfl (Sub.cons rfl (Sub.cons rfl (Sub.nil _))))))) (fun w hw => by rw [rot_same f2 f3 (by omega) (by omega)]; exact Keep.mem hw)
     ·
      rintro ⟨⟩ hJ
      refine cw_cut (X := List Rt) (fun zz => [(3, .int .i64 (n : Nat)), (4, .pointer (some ⟨b4, 0, none⟩)), (16, .int .i64 (d : Nat)), (22, .int .i64 (e : Nat))]) (fun zz => blk b4 (lscells g) 84 :: blk g.b #[g.s.val] T :: own rcells 19 g.s zz :: L) (fun zz => Upto rkR (rot xs s m e) a d zz) ?_ ?_
      ·
       refine cw_seq ?_
       refine cw_region ?_
       refine sq_r (ry_move rfl) ?_
       refine sq_r (ry_move rfl) ?_
       refine sq_r (ry_int rfl rfl rfl) ?_
       refine sq_r (ry_move rfl) ?_
       refine sq_gt rfl rfl rfl (fun hg => (Ry.yl (ry_move rfl))) ?_
       refine sq_gt rfl rfl rfl (fun hg => (Ry.yl (ry_move rfl))) ?_
       refine sq_gt rfl rfl rfl (fun hg => (Ry.yl (ry_int (ev_c hg rfl) (ev_c hg rfl) rfl))) ?_
       refine sq_r (ry_and rfl rfl rfl) ?_
       refine sq_nil ?_
       refine ex_then ?_
       refine cw_cond rfl (fun h12 => ?_) (fun h12 => ?_)
       ·
        try simp only [bz0, bz1, bz2, bz3, bz4, bz5, bz6, bz7, bz8, bz9] at h12
        refine cw_region ?_
        refine sq_r (ry_whole rfl) ?_
        refine sq_r (ry_move rfl) ?_
        refine sq_r (ry_move rfl) ?_
        refine sq_r (ry_move rfl) ?_
        refine sq_callC rfl ⟨⟨by omega, by omega, by omega, by omega, hmr, q1, q2, fun h => hsw (by omega)⟩, by omega⟩ fun x163 hp163 => ?_
        refine sq_nil ?_
        exact ex_meet x163 hp163 (Sub.cons rfl (Sub.cons rfl (Sub.cons rfl (Sub.cons rfl (Sub.nil _))))) (fun w hw => Keep.mem hw)
       ·
        try simp only [bz0, bz1, bz2, bz3, bz4, bz5, bz6, bz7, bz8, bz9] at h12
        refine cw_skip ?_
        exact ex_meet (rot xs s m e) (two_skip f1 (by first | omega | (simp only []; omega)) (by first | omega | (simp only []; omega)) (by first | omega | (simp only []; omega)) q1 q2) (Sub.cons rfl (Sub.cons rfl (Sub.cons rfl (Sub.cons rfl (Sub.nil _))))) (fun w hw => Keep.mem hw)
      ·
       rintro ys hu
       have ly := hu.length (by omega) (by omega)
       have hmy : MayAll ys := fun x hx => hmr x ((upto_same hu (by omega) (by omega)).1 hx)
       have q5 : Srt rkR (seg ys d e) := by rw [upto_behind hu (by omega) (Nat.le_refl _) (by omega) (by omega)]; exact q3
       have q6 : Srt rkR (seg ys e n) := by rw [upto_behind hu (by omega) (by omega) (by omega) (by omega)]; exact q4
       refine cw_seq ?_
       refine cw_region ?_
       refine sq_r (ry_move rfl) ?_
       refine sq_r (ry_move rfl) ?_
       refine sq_r (ry_int rfl rfl rfl) ?_
       refine sq_r (ry_move rfl) ?_
       refine sq_gt rfl rfl rfl (fun hg => (Ry.yl (ry_move rfl))) ?_
       refine sq_gt rfl rfl rfl (fun hg => (Ry.yl (ry_move rfl))) ?_
       refine sq_gt rfl rfl rfl (fun hg => (Ry.yl (ry_int (ev_c hg rfl) (ev_c hg rfl) rfl))) ?_
       refine sq_r (ry_and rfl rfl rfl) ?_
       refine sq_nil ?_
       refine ex_then ?_
       refine cw_cond rfl (fun h13 => ?_) (fun h13 => ?_)
       ·
        try simp only [bz0, bz1, bz2, bz3, bz4, bz5, bz6, bz7, bz8, bz9] at h13
        refine cw_region ?_
        refine sq_r (ry_whole rfl) ?_
        refine sq_r (ry_move rfl) ?_
        refine sq_r (ry_move rfl) ?_
        refine sq_r (ry_move rfl) ?_
        refine sq_callC rfl ⟨⟨by omega, by omega, by omega, by omega, hmy, q5, q6, fun h => hsw (by omega)⟩, by omega⟩ fun x176 hp176 => ?_
        refine sq_nil ?_
        refine ex_ret (.inr rfl) (res_none rfl) (fun w1 hw => ?_)
        exact ⟨x176, rfl, sym_done f1 f2 f3 f4 hp3 hp6 hp7 k1 k2 (by rw [f5]; exact hu) (by rw [f5]; exact hp176), Keep.mem hw⟩
       ·
        try simp only [bz0, bz1, bz2, bz3, bz4, bz5, bz6, bz7, bz8, bz9] at h13
        refine cw_skip ?_
        refine ex_ret (.inr rfl) (res_none rfl) (fun w1 hw => ?_)
        exact ⟨ys, rfl, sym_done f1 f2 f3 f4 hp3 hp6 hp7 k1 k2 (by rw [f5]; exact hu) (by rw [f5]; exact two_skip (by omega) (by omega) (by omega) (by omega) q5 q6), Keep.mem hw⟩
theorem symmerge_a (kk : Nat) : ∀ (w0 w : World) (L : List Ent) (xs : List Rt) (T : TypeId) (g : Lsw) (a : Nat) (m : Nat) (n : Nat) (hw : Mem w0 (blk g.b #[g.s.val] T :: own rcells 19 g.s xs :: L) w) (hpre : a < m ∧ m < n ∧ n ≤ xs.length ∧ xs.length ≤ 1000000 ∧ MayAll xs ∧ Srt rkR (seg xs a m) ∧ Srt rkR (seg xs m n) ∧ Swaps g xs.length), n - a < kk → Calls Tryz.prog 66 #[.agg (lscells g), .int .i64 (a : Nat), .int .i64 (m : Nat), .int .i64 (n : Nat)] w fun e w' => ∃ zz : List Rt, e = .returned (.tuple #[]) ∧ (Upto rkR xs a n zz) ∧ Mem w0 (blk g.b #[g.s.val] T :: own rcells 19 g.s zz :: L) w' := by
 induction kk with
 | zero => intros; omega
 | succ kk ih =>
  intro w0 w L xs T g a m n hw hpre hk
  exact symmerge_s kk (by
   intro w0 L R1 L2 i j xs T g a m n h d1 q d2
   exact ⟨fun hp w hw => ih w0 w L2 xs T g a m n (mem_two h.h d1.h q.h d2.h hw) hp.1 hp.2⟩) w0 w L xs T g a m n hw hpre (by omega)
theorem symmerge_c (w0 w : World) (L : List Ent) (xs : List Rt) (T : TypeId) (g : Lsw) (a : Nat) (m : Nat) (n : Nat) (hw : Mem w0 (blk g.b #[g.s.val] T :: own rcells 19 g.s xs :: L) w) (hpre : a < m ∧ m < n ∧ n ≤ xs.length ∧ xs.length ≤ 1000000 ∧ MayAll xs ∧ Srt rkR (seg xs a m) ∧ Srt rkR (seg xs m n) ∧ Swaps g xs.length) : Calls Tryz.prog 66 #[.agg (lscells g), .int .i64 (a : Nat), .int .i64 (m : Nat), .int .i64 (n : Nat)] w fun e w' => ∃ zz : List Rt, e = .returned (.tuple #[]) ∧ (Upto rkR xs a n zz) ∧ Mem w0 (blk g.b #[g.s.val] T :: own rcells 19 g.s zz :: L) w' := symmerge_a (n - a + 1) w0 w L xs T g a m n hw hpre (Nat.lt_succ_self _)
instance symmerge_i {w0 : World} {L R1 L2 : List Ent} {i j : Nat} {xs : List Rt} {T : TypeId} {g : Lsw} {a : Nat} {m : Nat} {n : Nat} [h : Has L g.b #[g.s.val] T i] [d1 : DelI L i R1] [q : Owns R1 g.s rcells 19 xs j] [d2 : DelI R1 j L2] : FnC Tryz.prog 66 w0 L [.agg (lscells g), .int .i64 (a : Nat), .int .i64 (m : Nat), .int .i64 (n : Nat)] (List Rt) (fun zz => .tuple #[]) (fun zz => blk g.b #[g.s.val] T :: own rcells 19 g.s zz :: L2) (fun zz => Upto rkR xs a n zz) (a < m ∧ m < n ∧ n ≤ xs.length ∧ xs.length ≤ 1000000 ∧ MayAll xs ∧ Srt rkR (seg xs a m) ∧ Srt rkR (seg xs m n) ∧ Swaps g xs.length) := ⟨fun hp w hw => symmerge_c w0 w L2 xs T g a m n (mem_two h.h d1.h q.h d2.h hw) hp⟩

end Go.Proofs.YtldkgicmfbofiaaGreatDoor

/- A stable sort: walked. -/
namespace Go.Proofs.YtldkgicmfbofiaaGreatDoor
open Go.Eng Go.Kb
set_option maxRecDepth 20000 in
theorem stable_c (w0 w : World) (L : List Ent) (xs : List Rt) (T : TypeId) (g : Lsw) (n : Nat) (hw : Mem w0 (blk g.b #[g.s.val] T :: own rcells 19 g.s xs :: L) w) (hpre : n = xs.length ∧ xs.length ≤ 1000000 ∧ MayAll xs ∧ Swaps g xs.length) : Calls Tryz.prog 40 #[.agg (lscells g), .int .i64 (n : Nat)] w fun e w' => ∃ zz : List Rt, e = .returned (.tuple #[]) ∧ (Upto rkR xs 0 n zz) ∧ Mem w0 (blk g.b #[g.s.val] T :: own rcells 19 g.s zz :: L) w' := by
 obtain ⟨hp1, hp2, hp3, hsw⟩ := hpre
 refine calls_in (args := [_, _]) Tryz.func40 rfl Tryz.ntmps40 rfl hw ?_
 change Cw _ _ _ _ _ [(0, .agg (lscells g)), (1, .int .i64 (n : Nat))] (blk g.b #[g.s.val] T :: own rcells 19 g.s xs :: L)
 refine cw_seq ?_
 refine cw_region ?_
 refine sq_boxA rfl fun b2 => ?_
 refine sq_nil ?_
 refine ex_then ?_
 refine cw_seq ?_
 refine cw_region ?_
 refine sq_r (ry_assign rfl) ?_
 refine sq_nil ?_
 refine ex_then ?_
 refine cw_seq ?_
 refine cw_region ?_
 refine sq_r (ry_move rfl) ?_
 refine sq_r (ry_assign rfl) ?_
 refine sq_r (ry_assign rfl) ?_
 refine sq_nil ?_
 refine ex_then ?_
 refine cw_seq ?_
 refine cw_block ?_
 refine cw_loop (X := Nat × Nat × List Rt) (fun zz => [(5, .int .i64 (zz.1 : Nat)), (6, .int .i64 (zz.2.1 : Nat)), (1, .int .i64 (n : Nat)), (2, .pointer (some ⟨b2, 0, none⟩)), (4, .int .i64 20)]) (fun zz => blk b2 (lscells g) 84 :: blk g.b #[g.s.val] T :: own rcells 19 g.s zz.2.2 :: L) (fun zz => zz.2.1 = zz.1 + 20 ∧ zz.1 ≤ n ∧ zz.1 % 20 = 0 ∧ zz.2.2.length = xs.length ∧ Bk rkR xs zz.2.2 20 0 zz.1 ∧ (∀ t, zz.1 ≤ t → zz.2.2[t]? = xs[t]?) ∧ MayAll zz.2.2) (fun zz => n - zz.1) (0, 20, xs) ⟨rfl, Nat.zero_le _, rfl, rfl, fun s _ h => absurd h (Nat.not_lt_zero _), fun _ _ => rfl, hp3⟩ (Sub.cons rfl (Sub.cons rfl (Sub.cons rfl (Sub.cons rfl (Sub.cons rfl (Sub.nil _)))))) (fun w hw => Keep.mem hw) ?_
 rintro ⟨a, b, ys⟩ ⟨hi1, hi2, hi3, hi4, hi5, hi6, hi7⟩
 dsimp only
 simp only at hi1 hi2 hi3 hi4 hi5 hi6 hi7
 refine cw_seq ?_
 refine cw_seq ?_
 refine cw_region ?_
 refine sq_r (ry_move rfl) ?_
 refine sq_r (ry_move rfl) ?_
 refine sq_r (ry_int rfl rfl rfl) ?_
 refine sq_nil ?_
 refine ex_then ?_
 refine cw_cond rfl (fun h0 => ?_) (fun h0 => ?_)
 ·
  try simp only [bz0, bz1, bz2, bz3, bz4, bz5, bz6, bz7, bz8, bz9] at h0
  refine cw_skip ?_
  refine ex_then ?_
  refine cw_block ?_
  refine cw_seq ?_
  refine cw_region ?_
  refine sq_r (ry_whole rfl) ?_
  refine sq_r (ry_move rfl) ?_
  refine sq_r (ry_move rfl) ?_
  refine sq_callC rfl ⟨by omega, by omega, by omega, hi7, fun h => hsw (by omega)⟩ fun x15 hp15 => ?_
  refine sq_nil ?_
  refine ex_then ?_
  refine cw_seq ?_
  refine cw_region ?_
  refine sq_r (ry_move rfl) ?_
  refine sq_r (ry_assign rfl) ?_
  refine sq_nil ?_
  refine ex_then ?_
  refine cw_region ?_
  refine sq_r (ry_move rfl) ?_
  refine sq_r (ry_move rfl) ?_
  refine sq_r (ry_add rfl rfl (by omega)) ?_
  refine sq_r (ry_assign rfl) ?_
  refine sq_nil ?_
  refine ex_block ?_
  obtain ⟨hb1, hb2, hb3⟩ := bk_ins hi4 hi5 hi3 (show a ≤ b by omega) (by omega) hi6 hp15
  exact ex_again (x := (a, b, ys)) (b, b + 20, x15) ⟨rfl, by first | omega | (simp only []; omega), by first | omega | (simp only []; omega), hb1, hb2, hb3, fun x hx => hi7 x ((upto_same hp15 (by first | omega | (simp only []; omega)) (by first | omega | (simp only []; omega))).1 hx)⟩ (by simp only; omega) (Sub.cons rfl (Sub.cons rfl (Sub.cons rfl (Sub.cons rfl (Sub.cons rfl (Sub.nil _)))))) (fun w hw => Keep.mem hw)
 ·
  try simp only [bz0, bz1, bz2, bz3, bz4, bz5, bz6, bz7, bz8, bz9] at h0
  refine cw_exit ?_
  refine ex_pass_exit ?_
  refine ex_pass_exit ?_
  refine ex_block_hit ?_
  refine ex_then ?_
  refine cw_seq ?_
  refine cw_region ?_
  refine sq_r (ry_whole rfl) ?_
  refine sq_r (ry_move rfl) ?_
  refine sq_r (ry_move rfl) ?_
  refine sq_callC rfl ⟨by omega, by omega, by omega, hi7, fun h => hsw (by omega)⟩ fun x23 hp23 => ?_
  refine sq_nil ?_
  refine ex_then ?_
  refine cw_block ?_
  obtain ⟨hb1, hb2, hb3⟩ := bk_ins hi4 hi5 hi3 (show a ≤ n by omega) (by omega) hi6 hp23
  refine cw_loop (X := Nat × List Rt) (fun zz => [(4, .int .i64 (zz.1 : Nat)), (1, .int .i64 (n : Nat)), (2, .pointer (some ⟨b2, 0, none⟩))]) (fun zz => blk b2 (lscells g) 84 :: blk g.b #[g.s.val] T :: own rcells 19 g.s zz.2 :: L) (fun zz => 0 < zz.1 ∧ zz.1 ≤ 2 * n + 20 ∧ zz.2.length = xs.length ∧ Bk rkR xs zz.2 zz.1 0 xs.length ∧ MayAll zz.2) (fun zz => n - zz.1) (20, x23) ⟨by first | omega | (simp only []; omega), by first | omega | (simp only []; omega), hb1, by rw [← hp1]; exact hb2, fun x hx => hi7 x ((upto_same hp23 (by first | omega | (simp only []; omega)) (by first | omega | (simp only []; omega))).1 hx)⟩ (Sub.cons rfl (Sub.cons rfl (Sub.cons rfl (Sub.nil _)))) (fun w hw => Keep.mem hw) ?_
  rintro ⟨c, zs⟩ ⟨hc1, hc2, hc3, hc4, hc5⟩
  dsimp only
  simp only at hc1 hc2 hc3 hc4 hc5
  refine cw_seq ?_
  refine cw_seq ?_
  refine cw_region ?_
  refine sq_r (ry_move rfl) ?_
  refine sq_r (ry_move rfl) ?_
  refine sq_r (ry_int rfl rfl rfl) ?_
  refine sq_nil ?_
  refine ex_then ?_
  refine cw_cond rfl (fun h1 => ?_) (fun h1 => ?_)
  ·
   try simp only [bz0, bz1, bz2, bz3, bz4, bz5, bz6, bz7, bz8, bz9] at h1
   refine cw_skip ?_
   refine ex_then ?_
   refine cw_block ?_
   refine cw_seq ?_
   refine cw_region ?_
   refine sq_r (ry_move rfl) ?_
   refine sq_r (ry_mul rfl rfl (by omega)) ?_
   refine sq_r (ry_assign rfl) ?_
   refine sq_r (ry_assign rfl) ?_
   refine sq_nil ?_
   refine ex_then ?_
   refine cw_seq ?_
   refine cw_block ?_
   refine cw_loop (X := Nat × Nat × List Rt) (fun zz => [(5, .int .i64 (zz.1 : Nat)), (6, .int .i64 (zz.2.1 : Nat)), (1, .int .i64 (n : Nat)), (2, .pointer (some ⟨b2, 0, none⟩)), (4, .int .i64 (c : Nat))]) (fun zz => blk b2 (lscells g) 84 :: blk g.b #[g.s.val] T :: own rcells 19 g.s zz.2.2 :: L) (fun zz => zz.2.1 = zz.1 + 2 * c ∧ zz.1 ≤ n ∧ zz.1 % (2 * c) = 0 ∧ zz.2.2.length = xs.length ∧ Bk rkR xs zz.2.2 (2 * c) 0 zz.1 ∧ Bk rkR xs zz.2.2 c zz.1 xs.length ∧ MayAll zz.2.2) (fun zz => n - zz.1) (0, 2 * c, zs) ⟨by first | omega | (simp only []; omega), Nat.zero_le _, Nat.zero_mod _, hc3, fun s _ h => absurd h (Nat.not_lt_zero _), hc4, hc5⟩ (Sub.cons rfl (Sub.cons rfl (Sub.cons rfl (Sub.cons rfl (Sub.cons rfl (Sub.nil _)))))) (fun w hw => Keep.mem hw) ?_
   rintro ⟨a, b, ys⟩ ⟨hd1, hd2, hd3, hd4, hd5, hd6, hd7⟩
   dsimp only
   simp only at hd1 hd2 hd3 hd4 hd5 hd6 hd7
   refine cw_seq ?_
   refine cw_seq ?_
   refine cw_region ?_
   refine sq_r (ry_move rfl) ?_
   refine sq_r (ry_move rfl) ?_
   refine sq_r (ry_int rfl rfl rfl) ?_
   refine sq_nil ?_
   refine ex_then ?_
   refine cw_cond rfl (fun h2 => ?_) (fun h2 => ?_)
   ·
    try simp only [bz0, bz1, bz2, bz3, bz4, bz5, bz6, bz7, bz8, bz9] at h2
    refine cw_skip ?_
    refine ex_then ?_
    refine cw_block ?_
    refine cw_seq ?_
    refine cw_region ?_
    refine sq_r (ry_whole rfl) ?_
    refine sq_r (ry_move rfl) ?_
    refine sq_r (ry_move rfl) ?_
    refine sq_r (ry_move rfl) ?_
    refine sq_r (Ry.to (v' := .int .i64 ((a + c : Nat) : Int)) (ry_add rfl rfl (by omega)) (by congr 1 <;> omega)) ?_
    refine sq_r (ry_move rfl) ?_
    refine sq_callC rfl ⟨by omega, by omega, by omega, by omega, hd7, (bk_srt hd4 hd6 (mod_half hd3) (show a + c < xs.length by omega) (show b = min (a + c + c) xs.length by omega)).1, (bk_srt hd4 hd6 (mod_half hd3) (show a + c < xs.length by omega) (show b = min (a + c + c) xs.length by omega)).2, fun h => hsw (by omega)⟩ fun x38 hp38 => ?_
    refine sq_nil ?_
    refine ex_then ?_
    refine cw_seq ?_
    refine cw_region ?_
    refine sq_r (ry_move rfl) ?_
    refine sq_r (ry_assign rfl) ?_
    refine sq_nil ?_
    refine ex_then ?_
    refine cw_region ?_
    refine sq_r (ry_move rfl) ?_
    refine sq_r (ry_move rfl) ?_
    refine sq_r (ry_mul rfl rfl (by omega)) ?_
    refine sq_r (ry_add rfl rfl (by omega)) ?_
    refine sq_r (ry_assign rfl) ?_
    refine sq_nil ?_
    refine ex_block ?_
    obtain ⟨hb1, hb2, hb3⟩ := bk_merge hd4 hd5 hd6 hd3 hc1 (by omega) (by omega) hp38
    exact ex_again (x := (a, b, ys)) (b, b + 2 * c, x38) ⟨rfl, by first | omega | (simp only []; omega), by rw [hd1, Nat.add_mod_right]; exact hd3, hb1, hb2, hb3, fun x hx => hd7 x ((upto_same hp38 (by first | omega | (simp only []; omega)) (by first | omega | (simp only []; omega))).1 hx)⟩ (by simp only; omega) (Sub.cons rfl (Sub.cons rfl (Sub.cons rfl (Sub.cons rfl (Sub.cons rfl (Sub.nil _)))))) (fun w hw => Keep.mem hw)
   ·
    try simp only [bz0, bz1, bz2, bz3, bz4, bz5, bz6, bz7, bz8, bz9] at h2
    refine cw_exit ?_
    refine ex_pass_exit ?_
    refine ex_pass_exit ?_
    refine ex_block_hit ?_
    refine ex_then ?_
    refine cw_seq ?_
    refine cw_seq ?_
    refine cw_region ?_
    refine sq_r (ry_move rfl) ?_
    refine sq_r (ry_move rfl) ?_
    refine sq_r (Ry.to (v' := .int .i64 ((a + c : Nat) : Int)) (ry_add rfl rfl (by omega)) (by congr 1 <;> omega)) ?_
    refine sq_r (ry_assign rfl) ?_
    refine sq_nil ?_
    refine ex_then ?_
    refine cw_seq ?_
    refine cw_region ?_
    refine sq_r (ry_move rfl) ?_
    refine sq_r (ry_move rfl) ?_
    refine sq_r (ry_int rfl rfl rfl) ?_
    refine sq_nil ?_
    refine ex_then ?_
    refine cw_cond rfl (fun h3 => ?_) (fun h3 => ?_)
    ·
     try simp only [bz0, bz1, bz2, bz3, bz4, bz5, bz6, bz7, bz8, bz9] at h3
     refine cw_region ?_
     refine sq_r (ry_whole rfl) ?_
     refine sq_r (ry_move rfl) ?_
     refine sq_r (ry_move rfl) ?_
     refine sq_r (ry_move rfl) ?_
     refine sq_callC rfl ⟨by omega, by omega, by omega, by omega, hd7, (bk_srt hd4 hd6 (mod_half hd3) (show a + c < xs.length by omega) (show n = min (a + c + c) xs.length by omega)).1, (bk_srt hd4 hd6 (mod_half hd3) (show a + c < xs.length by omega) (show n = min (a + c + c) xs.length by omega)).2, fun h => hsw (by omega)⟩ fun x54 hp54 => ?_
     refine sq_nil ?_
     refine ex_then ?_
     refine cw_region ?_
     refine sq_r (ry_move rfl) ?_
     refine sq_r (ry_mul rfl rfl (by omega)) ?_
     refine sq_r (ry_assign rfl) ?_
     refine sq_nil ?_
     refine ex_block ?_
     obtain ⟨hb1, hb2, hb3⟩ := bk_merge hd4 hd5 hd6 hd3 hc1 (by omega) (by omega) hp54
     exact ex_again (x := (c, zs)) (c * 2, x54) ⟨by first | omega | (simp only []; omega), by first | omega | (simp only []; omega), hb1, by rw [Nat.mul_comm c 2, ← hp1]; exact hb2, fun x hx => hd7 x ((upto_same hp54 (by first | omega | (simp only []; omega)) (by first | omega | (simp only []; omega))).1 hx)⟩ (by simp only; omega) (Sub.cons rfl (Sub.cons rfl (Sub.cons rfl (Sub.nil _)))) (fun w hw => Keep.mem hw)
    ·
     try simp only [bz0, bz1, bz2, bz3, bz4, bz5, bz6, bz7, bz8, bz9] at h3
     refine cw_skip ?_
     refine ex_then ?_
     refine cw_region ?_
     refine sq_r (ry_move rfl) ?_
     refine sq_r (ry_mul rfl rfl (by omega)) ?_
     refine sq_r (ry_assign rfl) ?_
     refine sq_nil ?_
     refine ex_block ?_
     exact ex_again (x := (c, zs)) (c * 2, ys) ⟨by first | omega | (simp only []; omega), by first | omega | (simp only []; omega), hd4, by rw [Nat.mul_comm c 2]; exact bk_last hd5 hd6 hd3 (by first | omega | (simp only []; omega)), hd7⟩ (by simp only; omega) (Sub.cons rfl (Sub.cons rfl (Sub.cons rfl (Sub.nil _)))) (fun w hw => Keep.mem hw)
  ·
   try simp only [bz0, bz1, bz2, bz3, bz4, bz5, bz6, bz7, bz8, bz9] at h1
   refine cw_exit ?_
   refine ex_pass_exit ?_
   refine ex_pass_exit ?_
   refine ex_block_hit ?_
   refine ex_ret (.inr rfl) (res_none rfl) (fun w1 hw => ?_)
   exact ⟨zs, rfl, by rw [hp1]; exact bk_done hc3 hc4 (by omega), Keep.mem hw⟩
instance stable_i {w0 : World} {L R1 L2 : List Ent} {i j : Nat} {xs : List Rt} {T : TypeId} {g : Lsw} {n : Nat} [h : Has L g.b #[g.s.val] T i] [d1 : DelI L i R1] [q : Owns R1 g.s rcells 19 xs j] [d2 : DelI R1 j L2] : FnC Tryz.prog 40 w0 L [.agg (lscells g), .int .i64 (n : Nat)] (List Rt) (fun zz => .tuple #[]) (fun zz => blk g.b #[g.s.val] T :: own rcells 19 g.s zz :: L2) (fun zz => Upto rkR xs 0 n zz) (n = xs.length ∧ xs.length ≤ 1000000 ∧ MayAll xs ∧ Swaps g xs.length) := ⟨fun hp w hw => stable_c w0 w L2 xs T g n (mem_two h.h d1.h q.h d2.h hw) hp⟩

end Go.Proofs.YtldkgicmfbofiaaGreatDoor

