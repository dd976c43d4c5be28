/- Routes in order, and who stands over whom. No program in sight. -/
import Derived.Test.YtldkgicmfbofiaaMc

set_option linter.unusedSimpArgs false
set_option linter.unusedVariables false
namespace Go.Kb

structure Ord (t : List Rt) : Prop where
  may : ∀ r ∈ t, pmay r.p = true
  less : t.Pairwise fun a b => pless a.p b.p = true
theorem right_ord {t : List Rt} (h : tright t = true) : Ord t := ⟨fun _ hr => tr_may h hr, by
  rw [List.pairwise_iff_getElem]
  intro i j hi hj hij
  exact right_less h i j _ _ hij (by simp [hi]) (by simp [hj])⟩
theorem ord_right {t : List Rt} (h : Ord t) (hl : t.length ≤ 256) : tright t = true := by
  refine tright_all hl ?_
  have key : ∀ n, n ≤ t.length → okTo t n = true := by
    intro n
    induction n with
    | zero => intro _; rfl
    | succ n ih =>
      intro hn
      rw [okTo_succ, ih (by omega), Bool.true_and]
      have hi : t[n]? = some t[n] := by simp [show n < t.length by omega]
      have hm := h.may _ (List.mem_of_getElem? hi)
      cases n with
      | zero => rw [okAt_zero hi, hm]
      | succ m =>
        have hq : t[m]? = some t[m] := by simp [show m < t.length by omega]
        rw [okAt_succ hi hq, hm, Bool.true_and]
        exact (List.pairwise_iff_getElem.1 h.less) m (m + 1) (by omega) (by omega) (by omega)
  exact key _ (Nat.le_refl _)
theorem Ord.sub {s t : List Rt} (h : Ord t) (hs : s.Sublist t) : Ord s := ⟨fun r hr => h.may r (hs.subset hr), h.less.sublist hs⟩
theorem Ord.uniq {t : List Rt} (h : Ord t) {a b : Rt} (ha : a ∈ t) (hb : b ∈ t) (e : a.p = b.p) : a = b := by
  obtain ⟨i, hi, rfl⟩ := List.getElem_of_mem ha
  obtain ⟨j, hj, rfl⟩ := List.getElem_of_mem hb
  have hp := List.pairwise_iff_getElem.1 h.less
  have hm := h.may _ hb
  rcases Nat.lt_trichotomy i j with h1 | h1 | h1
  · have := hp i j hi hj h1; rw [e, less_irr hm] at this; cases this
  · subst h1; rfl
  · have := hp j i hj hi h1; rw [e, less_irr hm] at this; cases this
theorem Ord.nodup {t : List Rt} (h : Ord t) : t.Nodup := h.less.imp_of_mem fun {a b} ha _ hab e => by
  subst e; rw [less_irr (h.may _ ha)] at hab; cases hab

theorem covers_len {a b p : Pfx} (ha : pcovers a p = true) (hb : pcovers b p = true) (hl : b.len ≤ a.len) : pcovers b a = true := by
  obtain ⟨a1, a2, a3, a4, a5⟩ := (pcovers_iff a p).1 ha
  obtain ⟨b1, b2, b3, b4, b5⟩ := (pcovers_iff b p).1 hb
  refine (pcovers_iff b a).2 ⟨b1, a1, b3.trans a3.symm, hl, ?_⟩
  rw [← a5, kcut_cut, ← b5]; congr 1; omega
theorem covers_trans {a b c : Pfx} (ha : pcovers a b = true) (hb : pcovers b c = true) : pcovers a c = true := by
  obtain ⟨a1, a2, a3, a4, a5⟩ := (pcovers_iff a b).1 ha
  obtain ⟨b1, b2, b3, b4, b5⟩ := (pcovers_iff b c).1 hb
  refine (pcovers_iff a c).2 ⟨a1, b2, a3.trans b3, by omega, ?_⟩
  rw [← a5, ← b5, kcut_cut]; congr 1; omega
theorem covers_self {p : Pfx} (h : pmay p = true) : pcovers p p = true := by
  obtain ⟨h1, h2, h3, h4⟩ := (pmay_iff p).1 h
  exact (pcovers_iff p p).2 ⟨h, h, rfl, Int.le_refl _, h4⟩
theorem covers_lens {a b : Pfx} (h : pcovers a b = true) (hl : b.len ≤ a.len) : a = b := by
  obtain ⟨a1, a2, a3, a4, a5⟩ := (pcovers_iff a b).1 h
  obtain ⟨_, _, _, b4⟩ := (pmay_iff b).1 a2
  have e : a.len = b.len := by omega
  have hk : a.key = b.key := by rw [← a5, e, b4]
  cases a; cases b; simp_all

/-! Over. -/
def cov (r : Rt) (p : Pfx) : Bool := decide (r.p ≠ p) && pcovers r.p p
theorem cov_iff {r : Rt} {p : Pfx} : cov r p = true ↔ r.p ≠ p ∧ pcovers r.p p = true := by simp [cov]
theorem cov_len {r : Rt} {p : Pfx} (h : cov r p = true) : r.p.len < p.len := by
  obtain ⟨h1, h2⟩ := cov_iff.1 h
  apply Classical.byContradiction; intro hn
  exact h1 (covers_lens h2 (by omega))
def overF (t : List Rt) (p : Pfx) : Option Rt := t.reverse.find? fun r => cov r p
theorem overF_nil (p : Pfx) : overF [] p = none := rfl
theorem overF_snoc (t : List Rt) (r : Rt) (p : Pfx) : overF (t ++ [r]) p = if cov r p = true then some r else overF t p := by
  rw [overF, List.reverse_append]
  simp only [List.reverse_cons, List.reverse_nil, List.nil_append, List.singleton_append, List.find?_cons]
  cases cov r p <;> rfl
theorem overF_none {t : List Rt} {p : Pfx} : overF t p = none ↔ ∀ r ∈ t, cov r p = false := by
  rw [overF, List.find?_eq_none]
  simp
theorem overF_mem {t : List Rt} {p : Pfx} {o : Rt} (h : overF t p = some o) : o ∈ t ∧ cov o p = true := by
  have h1 := List.mem_of_find?_eq_some h
  have h2 := List.find?_some h
  exact ⟨by simpa using h1, h2⟩
theorem Ord.overF_max {t : List Rt} (h : Ord t) {p : Pfx} {o : Rt} (ho : overF t p = some o) {q : Rt} (hq : q ∈ t) (hc : cov q p = true) : q.p.len ≤ o.p.len := by
  obtain ⟨ho1, ho2⟩ := overF_mem ho
  apply Classical.byContradiction; intro hn
  have hn : o.p.len < q.p.len := by omega
  have hcov := covers_len (cov_iff.1 hc).2 (cov_iff.1 ho2).2 (by omega)
  obtain ⟨us, bs, e1, h3⟩ : ∃ us bs, t = us ++ o :: bs ∧ ∀ b ∈ bs, cov b p = false := by
    rw [overF, List.find?_eq_some_iff_append] at ho
    obtain ⟨_, us, bs, e, h3⟩ := ho
    refine ⟨bs.reverse, us.reverse, ?_, fun b hb => by simpa using h3 b (by simpa using hb)⟩
    have := congrArg List.reverse e
    simpa using this
  rw [e1] at hq
  rcases List.mem_append.1 hq with hq | hq
  · have hl := h.less
    rw [e1, List.pairwise_append] at hl
    have := hl.2.2 q hq o (by simp)
    rw [covers_less hcov] at this; cases this
  · rcases List.mem_cons.1 hq with rfl | hq
    · omega
    · rw [h3 q hq] at hc; cases hc
theorem Ord.overF_eq {t : List Rt} (h : Ord t) {p : Pfx} {o : Rt} (ho : o ∈ t) (hc : cov o p = true) (hm : ∀ q ∈ t, cov q p = true → q.p.len ≤ o.p.len) : overF t p = some o := by
  cases hf : overF t p with
  | none => rw [overF_none.1 hf o ho] at hc; cases hc
  | some r =>
    obtain ⟨h1, h2⟩ := overF_mem hf
    have a := h.overF_max hf ho hc
    have b := hm r h1 h2
    have e := covers_lens (covers_len (cov_iff.1 h2).2 (cov_iff.1 hc).2 a) b
    rw [h.uniq ho h1 e]
def rstep (p : Pfx) (b : Rt) (r : Rt) : Rt := if cov r p = true ∧ b.p.len < r.p.len then r else b
def noR : Rt := ⟨⟨0, -1, 0#128⟩, 0⟩
def roverR (t : List Rt) (p : Pfx) : Rt := t.foldl (rstep p) noR
theorem rover_snoc (t : List Rt) (r : Rt) (p : Pfx) : roverR (t ++ [r]) p = rstep p (roverR t p) r := by simp [roverR]
theorem rover_eq : ∀ (n : Nat) {t : List Rt}, t.length = n → Ord t → ∀ p, roverR t p = (overF t p).getD noR
  | 0, t, hn, _, p => by obtain rfl : t = [] := List.length_eq_zero_iff.1 hn; rfl
  | n + 1, t, hn, h, p => by
    obtain ⟨s, r, rfl⟩ : ∃ s r, t = s ++ [r] := ⟨t.dropLast, t.getLast (by intro e; simp [e] at hn), (List.dropLast_concat_getLast _).symm⟩
    have hs : Ord s := h.sub (List.sublist_append_left _ _)
    rw [rover_snoc, overF_snoc, rover_eq n (by simpa using hn) hs p, rstep]
    by_cases hc : cov r p = true
    · rw [if_pos hc, if_pos]
      · rfl
      · refine ⟨hc, ?_⟩
        cases ho : overF s p with
        | none =>
          have := (pmay_iff r.p).1 (h.may r (by simp))
          show (-1 : Int) < r.p.len; omega
        | some o =>
          obtain ⟨ho1, ho2⟩ := overF_mem ho
          show o.p.len < r.p.len
          apply Classical.byContradiction; intro hn2
          have hcov := covers_len (cov_iff.1 ho2).2 (cov_iff.1 hc).2 (by omega)
          have hl := h.less
          rw [List.pairwise_append] at hl
          have := hl.2.2 o ho1 r (by simp)
          rw [covers_less hcov] at this; cases this
    · rw [if_neg hc, if_neg (fun h => hc h.1)]

/-! Next; chains. -/
def nextP (t : List Rt) (p : Pfx) : Option Rt := t.find? fun r => pless p r.p
def onWay (k : Key) (bits : Int) (r : Rt) : Bool := decide (r.p.bits = bits) && pfits r.p k
def chainP (t : List Rt) (k : Key) (bits : Int) : List Rt := t.filter (onWay k bits)
def rchain (t : List Rt) (k : Key) (bits : Int) : Nat → List Rt
  | 0 => []
  | n + 1 => rchain t k bits n ++ t.filter fun r => decide (r.p.bits = bits) && decide (r.p.len = (n : Int)) && pfits r.p k
theorem Ord.fits_less {t : List Rt} (h : Ord t) {k : Key} {bits : Int} : (t.filter (onWay k bits)).Pairwise fun a b => a.p.len < b.p.len := by
  rw [List.pairwise_filter]
  refine h.less.imp_of_mem fun {a b} _ _ hab ha hb => ?_
  simp only [onWay, Bool.and_eq_true, decide_eq_true_eq] at ha hb
  apply Classical.byContradiction; intro hn
  rw [covers_less (covers_of_fits hb.2 ha.2 (hb.1.trans ha.1.symm) (by omega))] at hab; cases hab
theorem filter_lt {l : List Rt} (h : l.Pairwise fun a b => a.p.len < b.p.len) (n : Int) : l.filter (fun r => decide (r.p.len < n + 1)) = l.filter (fun r => decide (r.p.len < n)) ++ l.filter (fun r => decide (r.p.len = n)) := by
  induction l with
  | nil => rfl
  | cons a l ih =>
    rw [List.pairwise_cons] at h
    have ih := ih h.2
    simp only [List.filter_cons]
    rcases Int.lt_trichotomy a.p.len n with h1 | h1 | h1
    · rw [if_pos (by simp only [decide_eq_true_eq]; omega), if_pos (by simpa using h1), if_neg (by simp only [decide_eq_true_eq]; omega), ih]; rfl
    · have e1 : l.filter (fun r => decide (r.p.len < n)) = [] := List.filter_eq_nil_iff.2 fun b hb => by have := h.1 b hb; simp; omega
      rw [if_pos (by simp only [decide_eq_true_eq]; omega), if_neg (by simp only [decide_eq_true_eq]; omega), if_pos (by simpa using h1), ih, e1]; rfl
    · have e1 : l.filter (fun r => decide (r.p.len < n)) = [] := List.filter_eq_nil_iff.2 fun b hb => by have := h.1 b hb; simp; omega
      have e2 : l.filter (fun r => decide (r.p.len = n)) = [] := List.filter_eq_nil_iff.2 fun b hb => by have := h.1 b hb; simp; omega
      rw [if_neg (by simp only [decide_eq_true_eq]; omega), if_neg (by simp only [decide_eq_true_eq]; omega), if_neg (by simp only [decide_eq_true_eq]; omega), ih, e1, e2]
theorem rchain_lt {t : List Rt} (h : Ord t) {k : Key} {bits : Int} : ∀ n : Nat, rchain t k bits n = (chainP t k bits).filter fun r => decide (r.p.len < (n : Int))
  | 0 => by
    rw [rchain, eq_comm, List.filter_eq_nil_iff]
    intro r hr
    have := (pmay_iff r.p).1 (h.may r (List.mem_filter.1 hr).1)
    simp; omega
  | n + 1 => by
    rw [rchain, rchain_lt h n, show ((n + 1 : Nat) : Int) = (n : Int) + 1 by omega, chainP, filter_lt (h.fits_less (k := k) (bits := bits))]
    congr 1
    rw [List.filter_filter]
    refine List.filter_congr fun r _ => ?_
    simp only [onWay]
    cases decide (r.p.bits = bits) <;> cases decide (r.p.len = (n : Int)) <;> cases pfits r.p k <;> rfl
theorem rchain_eq {t : List Rt} (h : Ord t) {k : Key} {bits : Int} {n : Nat} (hn : bits < n) : rchain t k bits n = chainP t k bits := by
  rw [rchain_lt h, List.filter_eq_self]
  intro r hr
  have hm := (pmay_iff r.p).1 (h.may r (List.mem_filter.1 hr).1)
  have h2 := (List.mem_filter.1 hr).2
  simp only [onWay, Bool.and_eq_true, decide_eq_true_eq] at h2
  simp; omega

/-! Lean tables, tops, depth. -/
def needed (t : List Rt) (r : Rt) : Bool := match overF t r.p with
  | none => true
  | some o => !decide (o.hop = r.hop)
def leanP (t : List Rt) : List Rt := t.filter (needed t)
def isTop (t : List Rt) (r : Rt) : Bool := (overF t r.p).isNone
def topsP (t : List Rt) : List Rt := t.filter (isTop t)
def cnt (t : List Rt) (p : Pfx) : Nat := t.countP fun q => pcovers q.p p
def depP (t : List Rt) : Nat := t.foldl (fun m r => max m (cnt t r.p)) 0
theorem leanP_sub (t : List Rt) : (leanP t).Sublist t := List.filter_sublist
theorem topsP_sub (t : List Rt) : (topsP t).Sublist t := List.filter_sublist
theorem countP_or {α : Type} {p q r : α → Bool} : ∀ {l : List α}, (∀ x ∈ l, r x = (p x || q x) ∧ (p x && q x) = false) → l.countP r = l.countP p + l.countP q
  | [], _ => rfl
  | a :: l, h => by
    have ih := countP_or (l := l) fun x hx => h x (by simp [hx])
    have ha := h a (by simp)
    rw [List.countP_cons, List.countP_cons, List.countP_cons, ih, ha.1]
    have h2 := ha.2
    cases hp : p a <;> cases hq : q a <;> simp_all <;> omega
theorem Ord.count_one {t : List Rt} (h : Ord t) {r : Rt} (hr : r ∈ t) : (t.countP fun q => decide (q.p = r.p)) = 1 := by
  have key : ∀ s : List Rt, s.Pairwise (fun a b => a ≠ b) → (∀ q ∈ s, q ∈ t) → r ∈ s → (s.countP fun q => decide (q.p = r.p)) = 1 := by
    intro s
    induction s with
    | nil => intro _ _ h; cases h
    | cons a s ih =>
      intro hp hs hm
      rw [List.pairwise_cons] at hp
      rw [List.countP_cons]
      rcases List.mem_cons.1 hm with rfl | hm
      · have h0 : (s.countP fun q => decide (q.p = r.p)) = 0 := List.countP_eq_zero.2 fun q hq => by
          simp only [decide_eq_true_eq]
          intro e
          exact hp.1 q hq (h.uniq (hs _ (by simp)) (hs q (by simp [hq])) e.symm)
        rw [h0]; simp
      · rw [ih hp.2 (fun q hq => hs q (by simp [hq])) hm, if_neg]
        simp only [decide_eq_true_eq]
        intro e
        exact hp.1 r hm (h.uniq (hs _ (by simp)) hr e)
  exact key t h.nodup (fun _ h => h) hr
theorem Ord.cnt_top {t : List Rt} (h : Ord t) {r : Rt} (hr : r ∈ t) (ho : overF t r.p = none) : cnt t r.p = 1 := by
  rw [← h.count_one hr, cnt]
  refine List.countP_congr fun q hq => ?_
  have hc := overF_none.1 ho q hq
  simp only [decide_eq_true_eq]
  constructor
  · intro h1; apply Classical.byContradiction; intro hne
    rw [cov_iff.2 ⟨hne, h1⟩] at hc; cases hc
  · intro e; rw [e]; exact covers_self (h.may r hr)
theorem Ord.cnt_over {t : List Rt} (h : Ord t) {r o : Rt} (hr : r ∈ t) (ho : overF t r.p = some o) : cnt t r.p = cnt t o.p + 1 := by
  obtain ⟨ho1, ho2⟩ := overF_mem ho
  obtain ⟨o1, o2⟩ := cov_iff.1 ho2
  rw [cnt, cnt, ← h.count_one hr]
  refine countP_or fun q hq => ?_
  constructor
  · rw [Bool.eq_iff_iff]; simp only [Bool.or_eq_true, decide_eq_true_eq]
    constructor
    · intro h1
      by_cases e : q.p = r.p
      · exact .inr e
      · exact .inl (covers_len o2 h1 (h.overF_max ho hq (cov_iff.2 ⟨e, h1⟩)))
    · rintro (h1 | e)
      · exact covers_trans h1 o2
      · rw [e]; exact covers_self (h.may r hr)
  · rw [← Bool.not_eq_true]; simp only [Bool.and_eq_true, decide_eq_true_eq]
    rintro ⟨h1, e⟩
    rw [e] at h1; exact o1 (covers_anti o2 h1)
theorem dep_foldl (t s : List Rt) : ∀ {m : Nat}, m ≤ s.foldl (fun m r => max m (cnt t r.p)) m ∧ ∀ r ∈ s, cnt t r.p ≤ s.foldl (fun m r => max m (cnt t r.p)) m := by
  induction s with
  | nil => intro m; exact ⟨Nat.le_refl _, by simp⟩
  | cons a s ih =>
    intro m
    obtain ⟨h1, h2⟩ := ih (m := max m (cnt t a.p))
    rw [List.foldl_cons]
    refine ⟨by omega, fun r hr => ?_⟩
    rcases List.mem_cons.1 hr with rfl | hr
    · omega
    · exact h2 r hr
theorem dep_ge {t : List Rt} {r : Rt} (hr : r ∈ t) : cnt t r.p ≤ depP t := (dep_foldl t t).2 r hr
theorem dep_le {t : List Rt} {n : Nat} (h : ∀ r ∈ t, cnt t r.p ≤ n) : depP t ≤ n := by
  have key : ∀ (s : List Rt) (m : Nat), m ≤ n → (∀ r ∈ s, cnt t r.p ≤ n) → s.foldl (fun m r => max m (cnt t r.p)) m ≤ n := by
    intro s
    induction s with
    | nil => intro m hm _; exact hm
    | cons a s ih => intro m hm hs; rw [List.foldl_cons]; exact ih _ (by have := hs a (by simp); omega) fun r hr => hs r (by simp [hr])
  exact key t 0 (Nat.zero_le _) h

/-! What fits, or covers: of two such ones the shorter one covers the longer one; who covers such a one is such a one. -/
structure Fam (t : List Rt) (F : Rt → Prop) : Prop where
  comp : ∀ a b, a ∈ t → b ∈ t → F a → F b → b.p.len ≤ a.p.len → pcovers b.p a.p = true
  up : ∀ a b, a ∈ t → b ∈ t → F a → cov b a.p = true → F b
theorem fam_fits {t : List Rt} (k : Key) (bits : Int) : Fam t fun r => onWay k bits r = true :=
  ⟨fun a b _ _ ha hb hl => by
    simp only [onWay, Bool.and_eq_true, decide_eq_true_eq] at ha hb
    exact covers_of_fits hb.2 ha.2 (hb.1.trans ha.1.symm) hl,
   fun a b _ _ ha hb => by
    simp only [onWay, Bool.and_eq_true, decide_eq_true_eq] at ha ⊢
    obtain ⟨h1, h2⟩ := cov_iff.1 hb
    exact ⟨((pcovers_iff _ _).1 h2).2.2.1.trans ha.1, covers_fits h2 ha.2⟩⟩
theorem fam_cov {t : List Rt} (p : Pfx) : Fam t fun r => cov r p = true :=
  ⟨fun a b _ _ ha hb hl => covers_len (cov_iff.1 ha).2 (cov_iff.1 hb).2 hl,
   fun a b _ _ ha hb => by
    obtain ⟨a1, a2⟩ := cov_iff.1 ha
    obtain ⟨b1, b2⟩ := cov_iff.1 hb
    refine cov_iff.2 ⟨fun e => ?_, covers_trans b2 a2⟩
    rw [e] at b2; exact a1 (covers_anti a2 b2)⟩
theorem Fam.over {t : List Rt} {F : Rt → Prop} (f : Fam t F) (h : Ord t) {r q : Rt} (hr : r ∈ t) (hF : F r) (hq : q ∈ t) (hFq : F q) (hl : q.p.len < r.p.len) : ∃ o, overF t r.p = some o ∧ o ∈ t ∧ F o ∧ o.p.len < r.p.len ∧ q.p.len ≤ o.p.len := by
  have hc : cov q r.p = true := cov_iff.2 ⟨fun e => by rw [e] at hl; omega, f.comp r q hr hq hF hFq (by omega)⟩
  cases ho : overF t r.p with
  | none => rw [overF_none.1 ho q hq] at hc; cases hc
  | some o =>
    obtain ⟨h1, h2⟩ := overF_mem ho
    exact ⟨o, rfl, h1, f.up r o hr h1 hF h2, cov_len h2, h.overF_max ho hq hc⟩
theorem Fam.lean {t : List Rt} {F : Rt → Prop} (f : Fam t F) (h : Ord t) : ∀ (n : Nat) {r : Rt}, r.p.len.toNat = n → r ∈ t → F r →
    ∃ s ∈ leanP t, F s ∧ s.p.len ≤ r.p.len ∧ s.hop = r.hop ∧ ∀ q ∈ leanP t, F q → q.p.len ≤ r.p.len → q.p.len ≤ s.p.len := by
  intro n
  induction n using Nat.strongRecOn with
  | _ n ih =>
    intro r hn hr hF
    cases hd : needed t r with
    | true => exact ⟨r, List.mem_filter.2 ⟨hr, hd⟩, hF, Int.le_refl _, rfl, fun q _ _ hl => hl⟩
    | false =>
      unfold needed at hd
      split at hd
      · cases hd
      · rename_i o ho
        have hhop : o.hop = r.hop := by simpa using hd
        obtain ⟨h1, h2⟩ := overF_mem ho
        have hFo := f.up r o hr h1 hF h2
        have hlo := cov_len h2
        have hmo := (pmay_iff o.p).1 (h.may o h1)
        obtain ⟨s, hs1, hs2, hs3, hs4, hs5⟩ := ih o.p.len.toNat (by omega) rfl h1 hFo
        refine ⟨s, hs1, hs2, by omega, hs4.trans hhop, fun q hq hFq hl => hs5 q hq hFq ?_⟩
        have hqt := (leanP_sub t).subset hq
        have hne : q.p ≠ r.p := fun e => by
          have := h.uniq hqt hr e
          subst this
          have hq2 := (List.mem_filter.1 hq).2
          unfold needed at hq2; rw [ho] at hq2
          simp [hhop] at hq2
        exact h.overF_max ho hqt (cov_iff.2 ⟨hne, f.comp r q hr hqt hF hFq hl⟩)
theorem lean_over {t : List Rt} (h : Ord t) {p : Pfx} {o : Rt} (ho : overF t p = some o) : ∃ s, overF (leanP t) p = some s ∧ s.hop = o.hop := by
  obtain ⟨h1, h2⟩ := overF_mem ho
  obtain ⟨s, hs1, hs2, hs3, hs4, hs5⟩ := (fam_cov p).lean h _ rfl h1 h2
  refine ⟨s, (h.sub (leanP_sub t)).overF_eq hs1 hs2 fun q hq hc => hs5 q hq hc (h.overF_max ho ((leanP_sub t).subset hq) hc), hs4⟩
theorem over_sub {s t : List Rt} (hs : s.Sublist t) {p : Pfx} (h : overF t p = none) : overF s p = none := overF_none.2 fun r hr => overF_none.1 h r (hs.subset hr)
theorem lean_lean {t : List Rt} (h : Ord t) : leanP (leanP t) = leanP t := by
  show (leanP t).filter (needed (leanP t)) = leanP t
  rw [List.filter_eq_self]
  intro r hr
  have h2 := (List.mem_filter.1 hr).2
  unfold needed at h2 ⊢
  cases ho : overF t r.p with
  | none => rw [over_sub (leanP_sub t) ho]
  | some o =>
    rw [ho] at h2
    obtain ⟨s, hs1, hs2⟩ := lean_over h ho
    rw [hs1]; simp only [hs2]; exact h2
theorem tops_lean {t : List Rt} (h : Ord t) : topsP (leanP t) = topsP t := by
  rw [topsP, topsP, leanP, List.filter_filter]
  refine List.filter_congr fun r _ => ?_
  rw [Bool.eq_iff_iff]
  simp only [Bool.and_eq_true, isTop, Option.isNone_iff_eq_none]
  constructor
  · rintro ⟨h1, h2⟩
    cases ho : overF t r.p with
    | none => rfl
    | some o =>
      obtain ⟨s, hs1, _⟩ := lean_over h ho
      rw [leanP] at hs1
      rw [hs1] at h1; cases h1
  · intro h1
    exact ⟨over_sub List.filter_sublist h1, by unfold needed; rw [h1]⟩
theorem Fam.top {t : List Rt} {F : Rt → Prop} (f : Fam t F) (h : Ord t) : ∀ (n : Nat) {r : Rt}, r.p.len.toNat = n → r ∈ t → F r → ∃ s ∈ topsP t, F s := by
  intro n
  induction n using Nat.strongRecOn with
  | _ n ih =>
    intro r hn hr hF
    cases ho : overF t r.p with
    | none => exact ⟨r, List.mem_filter.2 ⟨hr, by rw [isTop, ho]; rfl⟩, hF⟩
    | some o =>
      obtain ⟨h1, h2⟩ := overF_mem ho
      have hlo := cov_len h2
      have hmo := (pmay_iff o.p).1 (h.may o h1)
      exact ih o.p.len.toNat (by omega) rfl h1 (f.up r o hr h1 hF h2)
theorem Fam.top_one {t : List Rt} {F : Rt → Prop} (f : Fam t F) (h : Ord t) {a b : Rt} (ha : a ∈ topsP t) (hb : b ∈ topsP t) (hFa : F a) (hFb : F b) : a = b := by
  have ha2 := List.mem_filter.1 ha
  have hb2 := List.mem_filter.1 hb
  simp only [isTop, Option.isNone_iff_eq_none] at ha2 hb2
  rcases Int.lt_trichotomy a.p.len b.p.len with h1 | h1 | h1
  · obtain ⟨o, ho, _⟩ := f.over h hb2.1 hFb ha2.1 hFa h1
    rw [hb2.2] at ho; cases ho
  · exact h.uniq ha2.1 hb2.1 (covers_lens (f.comp b a hb2.1 ha2.1 hFb hFa (by omega)) (by omega))
  · obtain ⟨o, ho, _⟩ := f.over h ha2.1 hFa hb2.1 hFb h1
    rw [ha2.2] at ho; cases ho
theorem tops_apart {t : List Rt} {a b : Rt} (ha : a ∈ t) (hb : b ∈ topsP t) (hne : a.p ≠ b.p) : pcovers a.p b.p = false := by
  have hb2 := List.mem_filter.1 hb
  simp only [isTop, Option.isNone_iff_eq_none] at hb2
  cases hc : pcovers a.p b.p with
  | false => rfl
  | true => have := overF_none.1 hb2.2 a ha; rw [cov_iff.2 ⟨hne, hc⟩] at this; cases this
theorem cnt_sub {s t : List Rt} (hs : s.Sublist t) (p : Pfx) : cnt s p ≤ cnt t p := hs.countP_le
theorem dep_lean (t : List Rt) : depP (leanP t) ≤ depP t := dep_le fun r hr => Nat.le_trans (cnt_sub (leanP_sub t) r.p) (dep_ge ((leanP_sub t).subset hr))
theorem dep_tops {t : List Rt} (h : Ord t) : depP (topsP t) ≤ 1 := dep_le fun r hr => by
  have hr2 := List.mem_filter.1 hr
  simp only [isTop, Option.isNone_iff_eq_none] at hr2
  rw [(h.sub (topsP_sub t)).cnt_top hr (over_sub (topsP_sub t) hr2.2)]
  exact Nat.le_refl _
end Go.Kb
namespace Go.Kb
theorem over_app {us bs : List Rt} {r : Rt} {p : Pfx} (hc : cov r p = true) (h : ∀ b ∈ bs, cov b p = false) : overF (us ++ r :: bs) p = some r := by
  rw [overF, List.find?_eq_some_iff_append]
  exact ⟨hc, bs.reverse, us.reverse, by simp, fun b hb => by rw [h b (by simpa using hb)]; rfl⟩
theorem over_at {t : List Rt} {p : Pfx} {k : Nat} (hk : k < t.length) (h : ∀ j, j < k → cov (t.getD (t.length - 1 - j) zroute) p = false) (hc : cov (t.getD (t.length - 1 - k) zroute) p = true) : overF t p = some (t.getD (t.length - 1 - k) zroute) := by
  have hi : t.length - 1 - k < t.length := by omega
  have e : t = t.take (t.length - 1 - k) ++ t.getD (t.length - 1 - k) zroute :: t.drop (t.length - 1 - k + 1) := by
    have : t.getD (t.length - 1 - k) zroute = t[t.length - 1 - k] := by simp [List.getD, hi]
    rw [this, List.getElem_cons_drop, List.take_append_drop]
  have := over_app (us := t.take (t.length - 1 - k)) (bs := t.drop (t.length - 1 - k + 1)) hc fun b hb => by
    obtain ⟨j, hj, rfl⟩ := List.getElem_of_mem hb
    rw [List.length_drop] at hj
    have := h (t.length - 1 - (t.length - 1 - k + 1 + j)) (by omega)
    rw [show t.length - 1 - (t.length - 1 - (t.length - 1 - k + 1 + j)) = t.length - 1 - k + 1 + j by omega] at this
    rw [List.getElem_drop]
    simpa [List.getD, show t.length - 1 - k + 1 + j < t.length by omega] using this
  rw [← e] at this; exact this
theorem over_no {t : List Rt} {p : Pfx} (h : ∀ j, j < t.length → cov (t.getD (t.length - 1 - j) zroute) p = false) : overF t p = none := overF_none.2 fun r hr => by
  obtain ⟨j, hj, rfl⟩ := List.getElem_of_mem hr
  have := h (t.length - 1 - j) (by omega)
  rw [show t.length - 1 - (t.length - 1 - j) = j by omega] at this
  simpa [List.getD, hj] using this
def nextOk (t : List Rt) (p : Pfx) : Bool := pmay p && tright t
def wnextE (t : List Rt) (p : Pfx) : Int := if nextOk t p = true then (if (nextP t p).isSome = true then 0 else 6) else 1
def wnextR (t : List Rt) (p : Pfx) : Rt := if nextOk t p = true then (nextP t p).getD zroute else zroute
def overE (t : List Rt) (p : Pfx) : Int := if nextOk t p = true then (if (overF t p).isSome = true then 0 else 6) else 1
def overR (t : List Rt) (p : Pfx) : Rt := if nextOk t p = true then (overF t p).getD zroute else zroute
theorem next_at {t : List Rt} {p : Pfx} {i : Nat} {r : Rt} (hr : t[i]? = some r) (h : ∀ j q, j < i → t[j]? = some q → pless p q.p = false) (hl : pless p r.p = true) : nextP t p = some r := by
  rw [nextP, List.find?_eq_some_iff_getElem]
  have hi := (List.getElem?_eq_some_iff.1 hr).1
  refine ⟨hl, i, hi, (List.getElem?_eq_some_iff.1 hr).2, fun j hj => ?_⟩
  rw [h j _ hj (by simp [show j < t.length by omega])]; rfl
theorem next_no {t : List Rt} {p : Pfx} (h : ∀ j q, j < t.length → t[j]? = some q → pless p q.p = false) : nextP t p = none := by
  rw [nextP, List.find?_eq_none]
  intro r hr
  obtain ⟨j, hj, rfl⟩ := List.getElem_of_mem hr
  rw [h j _ hj (by simp [hj])]; simp
theorem filter_take {α : Type} {f : α → Bool} {t : List α} {i : Nat} {r : α} (hr : t[i]? = some r) : (t.take (i + 1)).filter f = (t.take i).filter f ++ if f r = true then [r] else [] := by
  rw [List.take_add_one, hr, List.filter_append]
  congr 1
  simp only [Option.toList_some, List.filter_cons, List.filter_nil]
def chainV (t : List Rt) (k : Key) (bits : Int) : List Rt := if bestE t k bits = 1 then [] else chainP t k bits
def leanV (t : List Rt) : List Rt := if tright t = true then leanP t else t
def topsV (t : List Rt) : List Rt := if tright t = true then topsP t else []
def depV (t : List Rt) : Nat := if tright t = true then depP t else 0
def depM (t : List Rt) (i : Nat) (p : Pfx) : Option Int := if ((t.take i).any fun r => decide (r.p = p)) = true then some ((cnt t p : Nat) : Int) else none
theorem depM_zero (t : List Rt) : depM t 0 = fun _ => none := rfl
theorem depM_step {t : List Rt} {i : Nat} {r : Rt} (hr : t[i]? = some r) : depM t (i + 1) = fun z => if z = r.p then some ((cnt t r.p : Nat) : Int) else depM t i z := by
  funext z
  unfold depM
  rw [List.take_add_one, hr]
  simp only [Option.toList_some, List.any_append, List.any_cons, List.any_nil, Bool.or_false]
  by_cases e : z = r.p
  · subst e; simp
  · have e2 : ¬ r.p = z := fun h => e h.symm
    simp [e, e2]
theorem depM_over {t : List Rt} (h : Ord t) {i : Nat} {r o : Rt} (hr : t[i]? = some r) (ho : overF t r.p = some o) : depM t i o.p = some ((cnt t o.p : Nat) : Int) ∧ o.p ≠ r.p := by
  obtain ⟨h1, h2⟩ := overF_mem ho
  obtain ⟨h3, h4⟩ := cov_iff.1 h2
  refine ⟨?_, h3⟩
  obtain ⟨j, hj, hje⟩ := List.getElem_of_mem h1
  have hi := (List.getElem?_eq_some_iff.1 hr).1
  have hri : t[i] = r := (List.getElem?_eq_some_iff.1 hr).2
  have hji : j < i := by
    rcases Nat.lt_trichotomy j i with a | a | a
    · exact a
    · subst a; rw [hri] at hje; rw [hje] at h3; exact absurd rfl h3
    · have := (List.pairwise_iff_getElem.1 h.less) i j hi hj a
      rw [hje, hri, covers_less h4] at this; cases this
  rw [depM, if_pos]
  rw [List.any_eq_true]
  exact ⟨o, List.mem_iff_getElem?.2 ⟨j, by rw [List.getElem?_take_of_lt hji]; simp [hj, hje]⟩, by simp⟩
def depTo (t : List Rt) (i : Nat) : Nat := (t.take i).foldl (fun m r => max m (cnt t r.p)) 0
theorem depTo_step {t : List Rt} {i : Nat} {r : Rt} (hr : t[i]? = some r) : depTo t (i + 1) = max (depTo t i) (cnt t r.p) := by
  rw [depTo, List.take_add_one, hr, List.foldl_append]; rfl
theorem depTo_all (t : List Rt) : depTo t t.length = depP t := by rw [depTo, List.take_length]; rfl
theorem cnt_le (t : List Rt) (p : Pfx) : cnt t p ≤ t.length := List.countP_le_length
theorem depTo_le (t : List Rt) (i : Nat) : depTo t i ≤ t.length := by
  unfold depTo
  have key : ∀ (s : List Rt) (m : Nat), m ≤ t.length → s.foldl (fun m r => max m (cnt t r.p)) m ≤ t.length := by
    intro s
    induction s with
    | nil => intro m hm; exact hm
    | cons a s ih => intro m hm; rw [List.foldl_cons]; exact ih _ (by have := cnt_le t a.p; omega)
  exact key _ 0 (Nat.zero_le _)
theorem over_ref {t : List Rt} (h : Ord t) (p : Pfx) : (if (roverR t p).p.len < 0 then zroute else roverR t p) = (overF t p).getD zroute ∧ (if (roverR t p).p.len < 0 then (6 : Int) else 0) = if (overF t p).isSome = true then 0 else 6 := by
  rw [rover_eq _ rfl h p]
  cases ho : overF t p with
  | none => exact ⟨rfl, rfl⟩
  | some o =>
    have := (pmay_iff o.p).1 (h.may o (overF_mem ho).1)
    simp only [Option.getD_some, Option.isSome_some]
    rw [if_neg (by omega), if_neg (by omega)]
    exact ⟨rfl, rfl⟩
end Go.Kb
namespace Go.Kb
/-! Get: the hop of one prefix. -/
def getOk (t : List Rt) (p : Pfx) : Bool := tright t && pmay p
def getF (t : List Rt) (p : Pfx) : Option Rt := if placeB t p = true then t[placeN t p]? else none
def getH (t : List Rt) (p : Pfx) : UInt16 := if getOk t p = true then ((getF t p).getD zroute).hop else 0
def getE (t : List Rt) (p : Pfx) : Int := if getOk t p = true then (if (getF t p).isSome = true then 0 else 6) else 1
theorem getF_some {t : List Rt} (h : tright t = true) {r : Rt} (hr : r ∈ t) : getF t r.p = some r := by
  obtain ⟨h1, h2⟩ := place_some h (tr_may h hr) hr rfl
  rw [getF, if_pos h2, h1]
theorem get_of {t : List Rt} (h : tright t = true) {r : Rt} (hr : r ∈ t) : getE t r.p = 0 ∧ getH t r.p = r.hop := by
  have hok : getOk t r.p = true := by rw [getOk, h, tr_may h hr]; rfl
  rw [getE, getH, if_pos hok, if_pos hok, getF_some h hr]
  exact ⟨rfl, rfl⟩
theorem get_in {t : List Rt} (h : tright t = true) {p : Pfx} (he : getE t p = 0) : ∃ r ∈ t, r.p = p ∧ getH t p = r.hop := by
  unfold getE at he
  split at he
  · rename_i hok
    split at he
    · rename_i hs
      obtain ⟨r, hr⟩ := Option.isSome_iff_exists.1 hs
      unfold getF at hr
      split at hr
      · rename_i hp
        obtain ⟨q, h1, h2, h3⟩ := place_in hp
        rw [h2] at hr; cases hr
        exact ⟨r, h1, h3, by rw [getH, if_pos hok, getF, if_pos hp, h2]; rfl⟩
      · cases hr
    · cases he
  · cases he
end Go.Kb

/- What the laws of package walk say of routes in order. No program in sight. -/
namespace Go.Kb
variable {t : List Rt} {k : Key} {bits : Int}
theorem less_asymm {p q : Pfx} (hp : pmay p = true) (hq : pmay q = true) (h : pless p q = true) : pless q p = false := by
  rw [← Bool.not_eq_true, pless_iff hq hp]
  have := (pless_iff hp hq).1 h
  omega
theorem Ord.at {t : List Rt} (h : Ord t) {i j : Nat} {a b : Rt} (ha : t[i]? = some a) (hb : t[j]? = some b) (hij : i < j) : pless a.p b.p = true := by
  obtain ⟨hi, rfl⟩ := List.getElem?_eq_some_iff.1 ha
  obtain ⟨hj, rfl⟩ := List.getElem?_eq_some_iff.1 hb
  exact (List.pairwise_iff_getElem.1 h.less) i j hi hj hij
theorem next_succ (h : Ord t) {n : Nat} {r : Rt} (hr : t[n]? = some r) : nextP t r.p = t[n + 1]? := by
  have key : ∀ j q, j < n + 1 → t[j]? = some q → pless r.p q.p = false := fun j q hj hq => by
    rcases Nat.lt_or_ge j n with h1 | h1
    · exact less_asymm (h.may _ (List.mem_of_getElem? hq)) (h.may _ (List.mem_of_getElem? hr)) (h.at hq hr h1)
    · obtain rfl : j = n := by omega
      rw [hr] at hq; cases hq
      exact less_irr (h.may _ (List.mem_of_getElem? hr))
  cases hn : t[n + 1]? with
  | some q => exact next_at hn key (h.at hr hn (by omega))
  | none => exact next_no fun j q hj hq => key j q (by rw [List.getElem?_eq_none_iff] at hn; omega) hq
theorem lean_right (h : tright t = true) : tright (leanP t) = true := ord_right ((right_ord h).sub (leanP_sub t)) (Nat.le_trans (leanP_sub t).length_le (tr_len h))
theorem tops_right (h : tright t = true) : tright (topsP t) = true := ord_right ((right_ord h).sub (topsP_sub t)) (Nat.le_trans (topsP_sub t).length_le (tr_len h))

/-! The best one is the longest one on the way. -/
theorem onWay_ok {r : Rt} (h : onWay k bits r = true) : (bits = 32 ∨ bits = 128) ∧ kcut k bits = k ∧ pmay ⟨bits, bits, k⟩ = true := by
  simp only [onWay, Bool.and_eq_true, decide_eq_true_eq] at h
  obtain ⟨h1, h2⟩ := h
  obtain ⟨h3, h4, _⟩ := (pfits_iff _ _).1 h2
  obtain ⟨h5, _⟩ := (pmay_iff _).1 h3
  rw [h1] at h4 h5
  exact ⟨h5, h4, (pmay_iff _).2 ⟨h5, by simp only; omega, Int.le_refl _, h4⟩⟩
theorem best_cases (h : tright t = true) : (bestE t k bits = 0 ∧ bestR t k bits ∈ t ∧ onWay k bits (bestR t k bits) = true ∧ ∀ q ∈ t, onWay k bits q = true → q.p.len ≤ (bestR t k bits).p.len) ∨
    (bestE t k bits = (if pmay ⟨bits, bits, k⟩ = true then 6 else 1) ∧ bestR t k bits = zroute ∧ ∀ q ∈ t, onWay k bits q = false) := by
  by_cases hk : pmay ⟨bits, bits, k⟩ = true
  · have ho : bestO t k bits = true := by rw [bestO, h, hk]; rfl
    obtain ⟨hb, _, _, hc⟩ := (pmay_iff _).1 hk
    have hb : bits = 32 ∨ bits = 128 := hb
    have hc : kcut k bits = k := hc
    have hbb : ((bits.toNat : Nat) : Int) ≤ bits := by omega
    cases hf : bestF t k bits bits.toNat with
    | none =>
      refine .inr ⟨by rw [bestE, if_pos ho, hf, if_pos hk]; rfl, by rw [bestR, if_pos ho, hf]; rfl, fun q hq => ?_⟩
      rw [← Bool.not_eq_true]
      intro hw
      simp only [onWay, Bool.and_eq_true, decide_eq_true_eq] at hw
      obtain ⟨m, hm, e⟩ := fit_cut hw.1 hw.2
      exact bestF_none h hb hbb hf q hq m (by omega) e
    | some r =>
      obtain ⟨h1, ⟨m, hm, h2⟩, h3⟩ := bestF_some h hb hbb hf
      have e : bestR t k bits = r := by rw [bestR, if_pos ho, hf]; rfl
      refine .inl ⟨by rw [bestE, if_pos ho, hf]; rfl, by rw [e]; exact h1, ?_, fun q hq hw => ?_⟩
      · rw [e]
        have := cut_fit hb hc (r := r) (m := m) (by omega) h2
        rw [onWay, this.1, this.2]; simp
      · rw [e]
        simp only [onWay, Bool.and_eq_true, decide_eq_true_eq] at hw
        obtain ⟨m, hm, e⟩ := fit_cut hw.1 hw.2
        exact h3 q hq m (by omega) e
  · have ho : ¬ bestO t k bits = true := by rw [bestO, h]; simpa using hk
    refine .inr ⟨by rw [bestE, if_neg ho, if_neg hk], by rw [bestR, if_neg ho], fun q _ => ?_⟩
    rw [← Bool.not_eq_true]; intro hw
    exact hk (onWay_ok hw).2.2
theorem best_uniq (h : tright t = true) {r : Rt} (hr : r ∈ t) (hw : onWay k bits r = true) (hm : ∀ q ∈ t, onWay k bits q = true → q.p.len ≤ r.p.len) : bestE t k bits = 0 ∧ bestR t k bits = r := by
  rcases best_cases (k := k) (bits := bits) h with ⟨h1, h2, h3, h4⟩ | ⟨_, _, h3⟩
  · refine ⟨h1, ?_⟩
    have a := h4 r hr hw
    have b := hm _ h2 h3
    exact (right_ord h).uniq h2 hr (covers_lens ((fam_fits (t := t) k bits).comp r _ hr h2 hw h3 b) a)
  · rw [h3 r hr] at hw; cases hw
theorem best_lean (h : tright t = true) : bestE (leanP t) k bits = bestE t k bits ∧ (bestR (leanP t) k bits).hop = (bestR t k bits).hop := by
  rcases best_cases (k := k) (bits := bits) h with ⟨h1, h2, h3, h4⟩ | ⟨h1, h2, h3⟩
  · obtain ⟨s, hs1, hs2, hs3, hs4, hs5⟩ := (fam_fits (t := t) k bits).lean (right_ord h) _ rfl h2 h3
    obtain ⟨e1, e2⟩ := best_uniq (lean_right h) hs1 hs2 fun q hq hw => hs5 q hq hw (h4 q ((leanP_sub t).subset hq) hw)
    exact ⟨e1.trans h1.symm, by rw [e2, hs4]⟩
  · rcases best_cases (k := k) (bits := bits) (lean_right h) with ⟨g1, g2, g3, g4⟩ | ⟨g1, g2, g3⟩
    · rw [h3 _ ((leanP_sub t).subset g2)] at g3; cases g3
    · exact ⟨g1.trans h1.symm, by rw [g2, h2]⟩

/-! Chains. -/
theorem chain_mem {r : Rt} : r ∈ chainP t k bits ↔ r ∈ t ∧ onWay k bits r = true := List.mem_filter
theorem chainV_eq (h : tright t = true) : chainV t k bits = chainP t k bits := by
  unfold chainV
  split
  · rename_i he
    rcases best_cases (k := k) (bits := bits) h with ⟨h1, _⟩ | ⟨_, _, h3⟩
    · omega
    · rw [eq_comm, chainP, List.filter_eq_nil_iff]
      intro r hr; rw [h3 r hr]; simp
  · rfl
theorem chain_nil (h : tright t = true) (he : chainP t k bits = []) : bestE t k bits ≠ 0 := by
  rcases best_cases (k := k) (bits := bits) h with ⟨_, h2, h3, _⟩ | ⟨h1, _⟩
  · have := chain_mem.2 ⟨h2, h3⟩
    rw [he] at this; cases this
  · rw [h1]; split <;> omega
theorem chain_ord (h : tright t = true) {i j : Nat} {a b : Rt} (ha : (chainP t k bits)[i]? = some a) (hb : (chainP t k bits)[j]? = some b) (hij : i < j) : a.p.len < b.p.len := by
  obtain ⟨hi, rfl⟩ := List.getElem?_eq_some_iff.1 ha
  obtain ⟨hj, rfl⟩ := List.getElem?_eq_some_iff.1 hb
  exact (List.pairwise_iff_getElem.1 ((right_ord h).fits_less (k := k) (bits := bits))) i j hi hj hij
theorem chain_last (h : tright t = true) {r : Rt} (hr : (chainP t k bits)[(chainP t k bits).length - 1]? = some r) : bestE t k bits = 0 ∧ bestR t k bits = r ∧ (chainP t k bits).length ≤ depP t := by
  obtain ⟨h1, h2⟩ := chain_mem.1 (List.mem_of_getElem? hr)
  have hmax : ∀ q ∈ t, onWay k bits q = true → q.p.len ≤ r.p.len := fun q hq hw => by
    obtain ⟨j, hj⟩ := List.mem_iff_getElem?.1 (chain_mem.2 ⟨hq, hw⟩)
    have hjl := (List.getElem?_eq_some_iff.1 hj).1
    rcases Nat.lt_or_ge j ((chainP t k bits).length - 1) with g | g
    · exact Int.le_of_lt (chain_ord h hj hr g)
    · obtain rfl : j = (chainP t k bits).length - 1 := by omega
      rw [hr] at hj; cases hj; exact Int.le_refl _
  obtain ⟨e1, e2⟩ := best_uniq h h1 h2 hmax
  refine ⟨e1, e2, Nat.le_trans ?_ (dep_ge h1)⟩
  rw [chainP, ← List.countP_eq_length_filter, cnt]
  exact List.countP_mono_left fun q hq hw => (fam_fits (t := t) k bits).comp r q h1 hq h2 hw (hmax q hq hw)
theorem chain_over (h : tright t = true) {i : Nat} {a b : Rt} (ha : (chainP t k bits)[i]? = some a) (hb : (chainP t k bits)[i + 1]? = some b) : overF t b.p = some a ∧ pcovers a.p b.p = true := by
  obtain ⟨a1, a2⟩ := chain_mem.1 (List.mem_of_getElem? ha)
  obtain ⟨b1, b2⟩ := chain_mem.1 (List.mem_of_getElem? hb)
  have hl := chain_ord h ha hb (by omega)
  have hc := (fam_fits (t := t) k bits).comp b a b1 a1 b2 a2 (by omega)
  refine ⟨(right_ord h).overF_eq a1 (cov_iff.2 ⟨fun e => by rw [e] at hl; omega, hc⟩) fun q hq hcq => ?_, hc⟩
  have hw := (fam_fits (t := t) k bits).up b q b1 hq b2 hcq
  have hql := cov_len hcq
  obtain ⟨j, hj⟩ := List.mem_iff_getElem?.1 (chain_mem.2 ⟨hq, hw⟩)
  rcases Nat.lt_trichotomy j i with g | g | g
  · exact Int.le_of_lt (chain_ord h hj ha g)
  · subst g; rw [ha] at hj; cases hj; exact Int.le_refl _
  · rcases Nat.lt_or_ge (i + 1) j with g2 | g2
    · have := chain_ord h hb hj g2; omega
    · obtain rfl : j = i + 1 := by omega
      rw [hb] at hj; cases hj; omega
theorem chain_head (h : tright t = true) {a : Rt} (ha : (chainP t k bits)[0]? = some a) : overF t a.p = none ∧ a ∈ topsP t := by
  obtain ⟨a1, a2⟩ := chain_mem.1 (List.mem_of_getElem? ha)
  have key : overF t a.p = none := overF_none.2 fun q hq => by
    rw [← Bool.not_eq_true]; intro hc
    have hw := (fam_fits (t := t) k bits).up a q a1 hq a2 hc
    have hql := cov_len hc
    obtain ⟨j, hj⟩ := List.mem_iff_getElem?.1 (chain_mem.2 ⟨hq, hw⟩)
    cases j with
    | zero => rw [ha] at hj; cases hj; omega
    | succ j => have := chain_ord h ha hj (by omega); omega
  exact ⟨key, List.mem_filter.2 ⟨a1, by rw [isTop, key]; rfl⟩⟩

/-! Tops. -/
theorem countP_one {α : Type} {p : α → Bool} : ∀ {l : List α}, l.Nodup → (∀ a b, a ∈ l → b ∈ l → p a = true → p b = true → a = b) → l.countP p ≤ 1
  | [], _, _ => by simp
  | a :: l, hn, h => by
    rw [List.nodup_cons] at hn
    rw [List.countP_cons]
    have ih := countP_one hn.2 fun x y hx hy => h x y (by simp [hx]) (by simp [hy])
    split
    · rename_i ha
      have : l.countP p = 0 := List.countP_eq_zero.2 fun x hx hp => by
        have := h a x (by simp) (by simp [hx]) ha hp
        subst this; exact hn.1 hx
      omega
    · omega
theorem tops_few (h : tright t = true) : (topsP t).countP (onWay k bits) < 2 ∧ ((topsP t).countP (onWay k bits) = 1 ↔ bestE t k bits = 0) := by
  have ho := right_ord h
  have h1 : (topsP t).countP (onWay k bits) ≤ 1 := countP_one (ho.sub (topsP_sub t)).nodup fun a b ha hb hpa hpb => (fam_fits k bits).top_one ho ha hb hpa hpb
  refine ⟨by omega, ?_⟩
  rcases best_cases (k := k) (bits := bits) h with ⟨g1, g2, g3, _⟩ | ⟨g1, _, g3⟩
  · obtain ⟨s, hs1, hs2⟩ := (fam_fits (t := t) k bits).top ho _ rfl g2 g3
    have : 0 < (topsP t).countP (onWay k bits) := List.countP_pos_iff.2 ⟨s, hs1, hs2⟩
    exact ⟨fun _ => g1, fun _ => by omega⟩
  · have : (topsP t).countP (onWay k bits) = 0 := List.countP_eq_zero.2 fun x hx => by rw [g3 x ((topsP_sub t).subset hx)]; simp
    constructor
    · omega
    · intro h0; rw [g1] at h0; split at h0 <;> omega
theorem tops_no (h : tright t = true) {i : Nat} {a b : Rt} (ha : (topsP t)[i]? = some a) (hb : (topsP t)[i + 1]? = some b) : pcovers a.p b.p = false := by
  have ho := (right_ord h).sub (topsP_sub t)
  have hl := ho.at ha hb (by omega)
  refine tops_apart ((topsP_sub t).subset (List.mem_of_getElem? ha)) (List.mem_of_getElem? hb) fun e => ?_
  rw [e, less_irr (ho.may _ (List.mem_of_getElem? hb))] at hl; cases hl
end Go.Kb

/- Changes of a table. No program in sight. -/
namespace Go.Kb

structure Ch where
  r : Rt
  gone : Bool
  deriving DecidableEq
def zch : Ch := ⟨zroute, false⟩
def chcells (x : Ch) : Array Value := rcells x.r ++ #[.bool x.gone]
theorem chcells_size (x : Ch) : (chcells x).size = 20 := by unfold chcells; rw [Array.size_append, rcells_size]; rfl
theorem chcells_r (x : Ch) (j : Nat) (h : j < 19) : (chcells x)[j]? = (rcells x.r)[j]? := by
  unfold chcells; rw [Array.getElem?_append_left (by rw [rcells_size]; exact h)]
theorem chcells_g (x : Ch) : (chcells x)[19]? = some (.bool x.gone) := by
  unfold chcells; rw [Array.getElem?_append_right (by rw [rcells_size]; omega), rcells_size]; rfl

def chgE (t : List Rt) (c : Ch) : Int := if pmay c.r.p = true then (if placeB t c.r.p = true then 0 else if c.gone = true then 6 else if 256 ≤ t.length then 5 else 0) else 1
def chgL (t : List Rt) (c : Ch) : List Rt :=
  if chgE t c = 0 then (if c.gone = true then t.take (placeN t c.r.p) ++ t.drop (placeN t c.r.p + 1) else if placeB t c.r.p = true then t.set (placeN t c.r.p) c.r else t.take (placeN t c.r.p) ++ c.r :: t.drop (placeN t c.r.p)) else t
theorem chgL_len {t : List Rt} (h : t.length ≤ 256) (c : Ch) : (chgL t c).length ≤ 256 := by
  unfold chgL
  split
  · rename_i he
    split
    · simp only [List.length_append, List.length_take, List.length_drop]; omega
    · split
      · simpa using h
      · rename_i h1 h2
        have : t.length < 256 := by
          apply Classical.byContradiction; intro hn
          unfold chgE at he
          rw [if_neg h2, if_neg h1, if_pos (show 256 ≤ t.length by omega)] at he
          split at he <;> omega
        have hp := placeN_le t c.r.p
        simp only [List.length_append, List.length_take, List.length_cons, List.length_drop]; omega
  · exact h
def appF : List Rt → List Ch → List Rt × Int
  | t, [] => (t, 0)
  | t, c :: l => if chgE t c = 0 then appF (chgL t c) l else (t, chgE t c)
theorem appF_step {t : List Rt} {l : List Ch} {i : Nat} {c : Ch} (hc : l[i]? = some c) : appF t (l.drop i) = if chgE t c = 0 then appF (chgL t c) (l.drop (i + 1)) else (t, chgE t c) := by
  obtain ⟨hi, rfl⟩ := List.getElem?_eq_some_iff.1 hc
  rw [List.drop_eq_getElem_cons hi, appF]
def appE (t : List Rt) (l : List Ch) : Int := if tright t = true then (appF t l).2 else 1
def appL (t : List Rt) (l : List Ch) : List Rt := if appE t l = 0 then (appF t l).1 else t
end Go.Kb

/- A route more in a table, and what is best of a key. No program in sight. -/
namespace Go.Kb
variable {t u : List Rt} {r : Rt} {k : Key} {bits : Int}
theorem app_one (he : appE t [⟨r, false⟩] = 0) : chgE t ⟨r, false⟩ = 0 ∧ appL t [⟨r, false⟩] = chgL t ⟨r, false⟩ := by
  have hr : tright t = true := by
    cases h : tright t with
    | true => rfl
    | false => rw [appE, if_neg (by rw [h]; simp)] at he; omega
  have h2 := he
  rw [appE, if_pos hr, appF] at h2
  have hc : chgE t ⟨r, false⟩ = 0 := by
    apply Classical.byContradiction; intro hn
    rw [if_neg hn] at h2; exact hn h2
  exact ⟨hc, by rw [appL, if_pos he, appF, if_pos hc]; rfl⟩
theorem chg_may {c : Ch} (he : chgE t c = 0) : pmay c.r.p = true := by
  apply Classical.byContradiction; intro hn
  rw [chgE, if_neg hn] at he; omega
theorem more_mem (hr : tright t = true) (he : chgE t ⟨r, false⟩ = 0) (x : Rt) : x ∈ chgL t ⟨r, false⟩ ↔ x = r ∨ (x ∈ t ∧ x.p ≠ r.p) := by
  have hm : pmay r.p = true := chg_may he
  have ho := right_ord hr
  rw [chgL, if_pos he, if_neg (by simp)]
  by_cases hb : placeB t r.p = true
  · rw [if_pos hb]
    obtain ⟨r0, _, h1, h2⟩ := place_in hb
    have hn := (List.getElem?_eq_some_iff.1 h1).1
    have hne : ∀ j y, t[j]? = some y → j ≠ placeN t r.p → y.p ≠ r.p := fun j y hy hj e => by
      rcases Nat.lt_or_gt_of_ne hj with g | g
      · have := ho.at hy h1 g; rw [e, h2, less_irr hm] at this; cases this
      · have := ho.at h1 hy g; rw [e, h2, less_irr hm] at this; cases this
    constructor
    · intro hx
      obtain ⟨j, hj⟩ := List.mem_iff_getElem?.1 hx
      by_cases e : placeN t r.p = j
      · subst e
        rw [List.getElem?_set_self hn] at hj
        exact .inl (Option.some.inj hj).symm
      · rw [List.getElem?_set_ne e] at hj
        exact .inr ⟨List.mem_of_getElem? hj, hne j x hj fun h => e h.symm⟩
    · rintro (rfl | ⟨hx, hp⟩)
      · exact List.mem_of_getElem? (List.getElem?_set_self hn)
      · obtain ⟨j, hj⟩ := List.mem_iff_getElem?.1 hx
        have e : placeN t r.p ≠ j := fun e => by
          subst e; rw [h1] at hj; cases hj; exact hp h2
        exact List.mem_of_getElem? ((List.getElem?_set_ne e).trans hj)
  · rw [if_neg hb]
    have hno : ∀ y ∈ t, y.p ≠ r.p := fun y hy e => hb (place_some hr hm hy e).2
    have e : x ∈ t ↔ x ∈ t.take (placeN t r.p) ∨ x ∈ t.drop (placeN t r.p) := by
      rw [← List.mem_append, List.take_append_drop]
    simp only [List.mem_append, List.mem_cons]
    constructor
    · rintro (h | h | h)
      · exact .inr ⟨e.2 (.inl h), hno x (e.2 (.inl h))⟩
      · exact .inl h
      · exact .inr ⟨e.2 (.inr h), hno x (e.2 (.inr h))⟩
    · rintro (h | ⟨h, _⟩)
      · exact .inr (.inl h)
      · rcases e.1 h with h | h
        · exact .inl h
        · exact .inr (.inr h)
theorem onWay_p {a b : Rt} (e : a.p = b.p) : onWay k bits a = onWay k bits b := by rw [onWay, onWay, e]
theorem more_no (ht : tright t = true) (hu : tright u = true) (hm : ∀ x, x ∈ u ↔ x = r ∨ (x ∈ t ∧ x.p ≠ r.p)) (hw : onWay k bits r = false) : bestE u k bits = bestE t k bits ∧ bestR u k bits = bestR t k bits := by
  rcases best_cases (k := k) (bits := bits) ht with ⟨h1, h2, h3, h4⟩ | ⟨h1, h2, h3⟩
  · obtain ⟨e1, e2⟩ := best_uniq (k := k) (bits := bits) hu ((hm _).2 (.inr ⟨h2, fun e => by rw [onWay_p e, hw] at h3; cases h3⟩)) h3 fun q hq hwq => by
      rcases (hm q).1 hq with rfl | ⟨hq, _⟩
      · rw [hw] at hwq; cases hwq
      · exact h4 q hq hwq
    exact ⟨e1.trans h1.symm, e2⟩
  · rcases best_cases (k := k) (bits := bits) hu with ⟨g1, g2, g3, g4⟩ | ⟨g1, g2, g3⟩
    · rcases (hm _).1 g2 with e | ⟨e, _⟩
      · rw [e, hw] at g3; cases g3
      · rw [h3 _ e] at g3; cases g3
    · exact ⟨g1.trans h1.symm, g2.trans h2.symm⟩
theorem more_long (ht : tright t = true) (hu : tright u = true) (hm : ∀ x, x ∈ u ↔ x = r ∨ (x ∈ t ∧ x.p ≠ r.p)) (h0 : bestE t k bits = 0) (hl : r.p.len < (bestR t k bits).p.len) : bestE u k bits = bestE t k bits ∧ bestR u k bits = bestR t k bits := by
  rcases best_cases (k := k) (bits := bits) ht with ⟨h1, h2, h3, h4⟩ | ⟨h1, _⟩
  · obtain ⟨e1, e2⟩ := best_uniq (k := k) (bits := bits) hu ((hm _).2 (.inr ⟨h2, fun e => by rw [e] at hl; omega⟩)) h3 fun q hq hwq => by
      rcases (hm q).1 hq with rfl | ⟨hq, _⟩
      · omega
      · exact h4 q hq hwq
    exact ⟨e1.trans h1.symm, e2⟩
  · rw [h1] at h0; split at h0 <;> omega
theorem more_new (ht : tright t = true) (hu : tright u = true) (hm : ∀ x, x ∈ u ↔ x = r ∨ (x ∈ t ∧ x.p ≠ r.p)) (hw : onWay k bits r = true) (hl : bestE t k bits = 0 → (bestR t k bits).p.len ≤ r.p.len) : bestE u k bits = 0 ∧ bestR u k bits = r := by
  refine best_uniq hu ((hm r).2 (.inl rfl)) hw fun q hq hwq => ?_
  rcases (hm q).1 hq with rfl | ⟨hq, _⟩
  · exact Int.le_refl _
  · rcases best_cases (k := k) (bits := bits) ht with ⟨h1, h2, h3, h4⟩ | ⟨_, _, h3⟩
    · exact Int.le_trans (h4 q hq hwq) (hl h1)
    · rw [h3 q hq] at hwq; cases hwq

/-! Routes of other bits count for nothing. -/
def ofBits (bits : Int) (x : Rt) : Bool := decide (x.p.bits = bits)
theorem ways_bits_only (t : List Rt) : waysF bits (t.filter (ofBits bits)) = waysF bits t := by
  unfold waysF
  rw [List.foldl_filter]
  congr 1
  funext W x
  by_cases h : x.p.bits = bits
  · rw [if_pos (by simp [ofBits, h])]
  · rw [if_neg (by simp [ofBits, h]), addWs, if_neg h]
theorem slot_bits_only (t : List Rt) (w : Wy) (b : Nat) : slotF bits (t.filter (ofBits bits)) w b = slotF bits t w b := by
  unfold slotF
  rw [List.foldl_filter]
  congr 1
  funext s x
  by_cases h : x.p.bits = bits
  · rw [if_pos (by simp [ofBits, h])]
  · rw [if_neg (by simp [ofBits, h]), slotUp, if_neg (by simp [hit, h])]
theorem nodes_bits_only {t u : List Rt} (h : t.filter (ofBits bits) = u.filter (ofBits bits)) : nodes bits (waysF bits t) t = nodes bits (waysF bits u) u := by
  have e1 : waysF bits t = waysF bits u := by rw [← ways_bits_only t, h, ways_bits_only]
  have e2 : ∀ w b, slotF bits t w b = slotF bits u w b := fun w b => by rw [← slot_bits_only t, h, slot_bits_only]
  rw [e1]
  unfold nodes
  refine List.map_congr_left fun w _ => ?_
  unfold nodeF
  rw [show slotF bits t w = slotF bits u w from funext (e2 w)]
theorem more_filter (he : chgE t ⟨r, false⟩ = 0) (hb : r.p.bits ≠ bits) : t.filter (ofBits bits) = (chgL t ⟨r, false⟩).filter (ofBits bits) := by
  have hr : ofBits bits r = false := by simp [ofBits, hb]
  rw [chgL, if_pos he, if_neg (by simp)]
  by_cases hp : placeB t r.p = true
  · rw [if_pos hp]
    obtain ⟨r0, _, h1, h2⟩ := place_in hp
    obtain ⟨hn, h1'⟩ := List.getElem?_eq_some_iff.1 h1
    have hr0 : ofBits bits r0 = false := by simp [ofBits, h2, hb]
    have e : t = t.take (placeN t r.p) ++ r0 :: t.drop (placeN t r.p + 1) := by
      rw [← h1', List.getElem_cons_drop, List.take_append_drop]
    rw [List.set_eq_take_append_cons_drop, if_pos hn]
    conv => lhs; rw [e]
    simp [List.filter_append, List.filter_cons, hr, hr0]
  · rw [if_neg hp]
    rw [List.filter_append, List.filter_cons, hr]
    simp only [Bool.false_eq_true, if_false]
    rw [← List.filter_append, List.take_append_drop]
theorem more_same (he : chgE t ⟨r, false⟩ = 0) (hb : r.p.bits ≠ bits) (h1 : buildE t bits = 0) (h2 : buildE (chgL t ⟨r, false⟩) bits = 0) : buildB (chgL t ⟨r, false⟩) bits = buildB t bits ∧ buildN (chgL t ⟨r, false⟩) bits = buildN t bits := by
  rw [buildB, buildB, buildN, buildN, if_pos h1, if_pos h2, if_pos h1, if_pos h2]
  exact ⟨rfl, (nodes_bits_only (more_filter he hb)).symm⟩
theorem build_ok {t : List Rt} (h : buildE t bits = 0) : (tright t = true ∧ (bits = 32 ∨ bits = 128)) ∧ (waysF bits t).length ≤ 512 := by
  have h1 : tright t = true ∧ (bits = 32 ∨ bits = 128) := by
    apply Classical.byContradiction; intro hc; have := (buildE_arg hc).1; omega
  refine ⟨h1, ?_⟩
  apply Classical.byContradiction; intro hc
  have := (buildE_full h1 hc).1; omega
theorem find_best {t : List Rt} {b : Int} {N : List Nd} (h : buildE t bits = 0) (hb : b = buildB t bits) (hN : N = buildN t bits) : findE b N k = bestE t k bits ∧ findN b N k = (bestR t k bits).p.len ∧ findH b N k = (bestR t k bits).hop := by
  obtain ⟨h1, h2⟩ := build_ok h
  obtain ⟨_, e2, e3⟩ := buildE_ok h1 h2
  subst hb hN
  rw [e2, e3]
  exact trie_best h1.1 h1.2 h2
end Go.Kb

