/- Sorting that keeps the order of equals: insertion, and merging in place. No program in sight. -/
import Derived.Test.YtldkgicmfbofiaaMk
import Derived.Test.YtldkgicmfbofiaaMj
import Derived.Test.YtldkgicmfbofiaaMc
import Derived.Lib.ReflectliteSwap
import Derived.Laws.Externs
import Derived.Test.YtldkgicmfbofiaaMb
import Derived.Lib.ReflectliteSlice
import Derived.Test.YtldkgicmfbofiaaMt

set_option linter.unusedSimpArgs false
set_option linter.unusedVariables false
namespace Go.Kb
section
variable {α : Type} (f : α → Nat)
def Srt (l : List α) : Prop := l.Pairwise fun a b => f a ≤ f b
structure Stb (l l' : List α) : Prop where
  srt : Srt f l'
  same : ∀ k, l'.filter (fun x => decide (f x = k)) = l.filter (fun x => decide (f x = k))
variable {f}
theorem Stb.refl {l : List α} (h : Srt f l) : Stb f l l := ⟨h, fun _ => rfl⟩
theorem Stb.trans {a b c : List α} (h : ∀ k, b.filter (fun x => decide (f x = k)) = a.filter (fun x => decide (f x = k))) (h' : Stb f b c) : Stb f a c := ⟨h'.srt, fun k => (h'.same k).trans (h k)⟩
theorem Stb.mem {l l' : List α} (h : Stb f l l') {x : α} : x ∈ l' ↔ x ∈ l := by
  have h1 := h.same (f x)
  have e : ∀ m : List α, x ∈ m ↔ x ∈ m.filter fun y => decide (f y = f x) := fun m => by simp [List.mem_filter]
  rw [e l', h1, ← e l]
theorem Stb.length {l l' : List α} (h : Stb f l l') : l'.length = l.length := by
  have key : ∀ (n : Nat) (a b : List α), a.length = n → (∀ k, b.filter (fun x => decide (f x = k)) = a.filter (fun x => decide (f x = k))) → b.length = a.length := by
    intro n
    induction n using Nat.strongRecOn with
    | _ n ih =>
      intro a b hn hs
      cases a with
      | nil =>
        cases b with
        | nil => rfl
        | cons y b => have := hs (f y); simp at this
      | cons x a =>
        have e1 : ∀ m : List α, m.length = (m.filter fun y => decide (f y = f x)).length + (m.filter fun y => !decide (f y = f x)).length := fun m => by
          rw [← List.countP_eq_length_filter, ← List.countP_eq_length_filter]
          induction m with
          | nil => rfl
          | cons z m ihm => by_cases hz : f z = f x <;> simp [List.countP_cons, hz] at ihm ⊢ <;> omega
        have hx : ((x :: a).filter fun y => !decide (f y = f x)).length < n := by
          have := e1 (x :: a)
          have h2 : 0 < ((x :: a).filter fun y => decide (f y = f x)).length := List.length_pos_of_mem (by simp : x ∈ _)
          omega
        have hs' : ∀ k, (b.filter fun y => !decide (f y = f x)).filter (fun y => decide (f y = k)) = ((x :: a).filter fun y => !decide (f y = f x)).filter (fun y => decide (f y = k)) := fun k => by
          have sw : ∀ m : List α, (m.filter fun y => !decide (f y = f x)).filter (fun y => decide (f y = k)) = (m.filter (fun y => decide (f y = k))).filter fun y => !decide (f y = f x) := fun m => by
            rw [List.filter_filter, List.filter_filter]; congr 1; funext y; rw [Bool.and_comm]
          rw [sw, sw, hs k]
        have := ih _ hx _ _ rfl hs'
        rw [e1 b, e1 (x :: a), hs, this]
  exact key _ l l' rfl h.same
theorem srt_uniq : ∀ {a b : List α}, Srt f a → Srt f b → (∀ k, a.filter (fun x => decide (f x = k)) = b.filter (fun x => decide (f x = k))) → a = b
  | [], [], _, _, _ => rfl
  | [], y :: b, _, _, h => by have := h (f y); simp at this
  | x :: a, [], _, _, h => by have := h (f x); simp at this
  | x :: a, y :: b, ha, hb, h => by
    have ha' := List.pairwise_cons.1 ha
    have hb' := List.pairwise_cons.1 hb
    have hx : x ∈ y :: b := by
      have := (show x ∈ (x :: a).filter (fun z => decide (f z = f x)) by simp)
      rw [h] at this; exact (List.mem_filter.1 this).1
    have hy : y ∈ x :: a := by
      have := (show y ∈ (y :: b).filter (fun z => decide (f z = f y)) by simp)
      rw [← h] at this; exact (List.mem_filter.1 this).1
    have hle1 : f x ≤ f y := by
      rcases List.mem_cons.1 hy with e | e
      · rw [e]; exact Nat.le_refl _
      · exact ha'.1 y e
    have hle2 : f y ≤ f x := by
      rcases List.mem_cons.1 hx with e | e
      · rw [e]; exact Nat.le_refl _
      · exact hb'.1 x e
    have hf : f x = f y := by omega
    have h0 := h (f x)
    rw [List.filter_cons, List.filter_cons, if_pos (by simp), if_pos (by simp [hf])] at h0
    have exy := (List.cons.inj h0).1
    subst exy
    congr 1
    refine srt_uniq ha'.2 hb'.2 fun k => ?_
    have hk := h k
    rw [List.filter_cons, List.filter_cons] at hk
    by_cases e : f x = k
    · rw [if_pos (by simp [e]), if_pos (by simp [e])] at hk; exact (List.cons.inj hk).2
    · rw [if_neg (by simp [e]), if_neg (by simp [e])] at hk; exact hk
theorem Stb.uniq {l a b : List α} (ha : Stb f l a) (hb : Stb f l b) : a = b := srt_uniq ha.srt hb.srt fun k => (ha.same k).trans (hb.same k).symm
def ins (f : α → Nat) (x : α) : List α → List α
  | [] => [x]
  | y :: r => if f y < f x then y :: ins f x r else x :: y :: r
def srt (f : α → Nat) (l : List α) : List α := l.foldr (ins f) []
theorem ins_mem {x y : α} : ∀ {l : List α}, y ∈ ins f x l ↔ y = x ∨ y ∈ l
  | [] => by simp [ins]
  | z :: r => by
    rw [ins]; split
    · rw [List.mem_cons, ins_mem, List.mem_cons]
      constructor
      · rintro (h | h | h) <;> simp [h]
      · rintro (h | h | h) <;> simp [h]
    · simp
theorem ins_srt {x : α} : ∀ {l : List α}, Srt f l → Srt f (ins f x l)
  | [], _ => List.pairwise_singleton _ _
  | y :: r, h => by
    have h' := List.pairwise_cons.1 h
    rw [ins]; split
    · rename_i hl
      refine List.pairwise_cons.2 ⟨fun z hz => ?_, ins_srt h'.2⟩
      rcases ins_mem.1 hz with rfl | hz
      · omega
      · exact h'.1 z hz
    · rename_i hl
      refine List.pairwise_cons.2 ⟨fun z hz => ?_, h⟩
      rcases List.mem_cons.1 hz with rfl | hz
      · omega
      · have := h'.1 z hz; omega
theorem ins_filter {x : α} (k : Nat) : ∀ {l : List α}, Srt f l → (ins f x l).filter (fun z => decide (f z = k)) = (x :: l).filter (fun z => decide (f z = k))
  | [], _ => rfl
  | y :: r, h => by
    have h' := List.pairwise_cons.1 h
    rw [ins]; split
    · rename_i hl
      rw [List.filter_cons, ins_filter k h'.2]
      simp only [List.filter_cons]
      by_cases e1 : f y = k
      · have e2 : ¬ f x = k := by omega
        simp [e1, e2]
      · simp [e1]
    · rfl
theorem srt_stb : ∀ l : List α, Stb f l (srt f l)
  | [] => ⟨List.Pairwise.nil, fun _ => rfl⟩
  | x :: l => by
    have ih := srt_stb l
    refine ⟨ins_srt ih.srt, fun k => ?_⟩
    show (ins f x (srt f l)).filter _ = _
    rw [ins_filter k ih.srt, List.filter_cons, List.filter_cons, ih.same k]
theorem ins_behind {l S A B : List α} {x : α} (h : Stb f l S) (hS : S = A ++ B) (hB : ∀ y ∈ B, f x < f y) (hA : ∀ y ∈ A, f y ≤ f x) : Stb f (l ++ [x]) (A ++ x :: B) := by
  have hs := h.srt
  rw [hS] at hs
  have hp := List.pairwise_append.1 hs
  refine ⟨List.pairwise_append.2 ⟨hp.1, List.pairwise_cons.2 ⟨fun y hy => Nat.le_of_lt (hB y hy), hp.2.1⟩, fun a ha b hb => ?_⟩, fun k => ?_⟩
  · rcases List.mem_cons.1 hb with rfl | hb
    · exact hA a ha
    · exact hp.2.2 a ha b hb
  · have h1 := h.same k
    rw [hS, List.filter_append] at h1
    rw [List.filter_append, List.filter_append, ← h1, List.filter_cons]
    by_cases e : f x = k
    · have hn : B.filter (fun z => decide (f z = k)) = [] := List.filter_eq_nil_iff.2 fun y hy => by have := hB y hy; simp; omega
      simp [e, hn]
    · simp [e]
theorem stb_append {a b a' b' : List α} (ha : Stb f a a') (hb : Stb f b b') (h : ∀ x ∈ a, ∀ y ∈ b, f x ≤ f y) : Stb f (a ++ b) (a' ++ b') :=
  ⟨List.pairwise_append.2 ⟨ha.srt, hb.srt, fun x hx y hy => h x (ha.mem.1 hx) y (hb.mem.1 hy)⟩, fun k => by rw [List.filter_append, List.filter_append, ha.same, hb.same]⟩
theorem swap_mid {L1 L2 R1 R2 : List α} (h : ∀ x ∈ L2, ∀ y ∈ R1, f y < f x) (k : Nat) : ((L1 ++ R1) ++ (L2 ++ R2)).filter (fun z => decide (f z = k)) = ((L1 ++ L2) ++ (R1 ++ R2)).filter (fun z => decide (f z = k)) := by
  simp only [List.filter_append, List.append_assoc]
  congr 1
  rw [← List.append_assoc, ← List.append_assoc]
  congr 1
  cases hl : L2.filter (fun z => decide (f z = k)) with
  | nil => simp
  | cons x _ =>
    have hx : x ∈ L2.filter (fun z => decide (f z = k)) := by rw [hl]; simp
    have hx' := List.mem_filter.1 hx
    have hn : R1.filter (fun z => decide (f z = k)) = [] := List.filter_eq_nil_iff.2 fun y hy => by
      have h1 := h x hx'.1 y hy
      have h2 : f x = k := by simpa using hx'.2
      simp; omega
    rw [hn]; simp
theorem merge_parts {L1 L2 R1 R2 A B : List α} (hLR : Srt f (L1 ++ L2)) (hR : Srt f (R1 ++ R2)) (h1 : ∀ x ∈ L2, ∀ y ∈ R1, f y < f x) (h2 : ∀ x ∈ L1, ∀ y ∈ R2, f x ≤ f y) (hA : Stb f (L1 ++ R1) A) (hB : Stb f (L2 ++ R2) B) : Stb f ((L1 ++ L2) ++ (R1 ++ R2)) (A ++ B) := by
  have pL := (List.pairwise_append.1 hLR).2.2
  have pR := (List.pairwise_append.1 hR).2.2
  refine Stb.trans (fun k => swap_mid h1 k) (stb_append hA hB fun x hx y hy => ?_)
  rcases List.mem_append.1 hx with hx | hx <;> rcases List.mem_append.1 hy with hy | hy
  · exact pL x hx y hy
  · exact h2 x hx y hy
  · exact Nat.le_of_lt (h1 y hy x hx)
  · exact pR x hx y hy
end
end Go.Kb

/- Parts of a list by their places: sorted, turned, merged. No program in sight. -/
namespace Go.Kb
section
variable {α : Type} {f : α → Nat} {xs ys zs : List α} {a b m i j k s e : Nat}
def seg (xs : List α) (i j : Nat) : List α := (xs.drop i).take (j - i)
def rk (f : α → Nat) (xs : List α) (i : Nat) : Nat := match xs[i]? with
  | some x => f x
  | none => 0
theorem rk_at {x : α} (h : xs[i]? = some x) : rk f xs i = f x := by rw [rk, h]
theorem seg_length (h : j ≤ xs.length) : (seg xs i j).length = j - i := by rw [seg, List.length_take, List.length_drop]; omega
theorem seg_nil (h : j ≤ i) : seg xs i j = [] := by rw [seg, show j - i = 0 by omega, List.take_zero]
theorem seg_split (h1 : i ≤ k) (h2 : k ≤ j) : seg xs i j = seg xs i k ++ seg xs k j := by
  unfold seg
  rw [show j - i = (k - i) + (j - k) by omega, List.take_add, List.drop_drop, show i + (k - i) = k by omega]
theorem seg_get (h : k < j - i) : (seg xs i j)[k]? = xs[i + k]? := by rw [seg, List.getElem?_take, if_pos h, List.getElem?_drop]
theorem seg_mem {x : α} : x ∈ seg xs i j ↔ ∃ t, i ≤ t ∧ t < j ∧ xs[t]? = some x := by
  rw [List.mem_iff_getElem?]
  constructor
  · rintro ⟨t, ht⟩
    have hl := (List.getElem?_eq_some_iff.1 ht).1
    have hl2 : t < j - i := by rw [seg, List.length_take] at hl; omega
    rw [seg_get hl2] at ht
    exact ⟨i + t, by omega, by omega, ht⟩
  · rintro ⟨t, h1, h2, h3⟩
    exact ⟨t - i, by rw [seg_get (by omega), show i + (t - i) = t by omega]; exact h3⟩
theorem srt_seg (h : j ≤ xs.length) : Srt f (seg xs i j) ↔ ∀ s t, i ≤ s → s ≤ t → t < j → rk f xs s ≤ rk f xs t := by
  unfold Srt
  rw [List.pairwise_iff_getElem]
  have hl := seg_length (xs := xs) (i := i) h
  have hg : ∀ t (ht : t < (seg xs i j).length), rk f xs (i + t) = f (seg xs i j)[t] := fun t ht => by
    refine rk_at ?_
    rw [← seg_get (i := i) (j := j) (by omega), List.getElem?_eq_getElem ht]
  constructor
  · intro h1 s t h2 h3 h4
    rcases Nat.eq_or_lt_of_le h3 with rfl | h5
    · exact Nat.le_refl _
    · have := h1 (s - i) (t - i) (by omega) (by omega) (by omega)
      rw [← hg, ← hg] at this
      rwa [show i + (s - i) = s by omega, show i + (t - i) = t by omega] at this
  · intro h1 s t hs ht hst
    have := h1 (i + s) (i + t) (by omega) (by omega) (by omega)
    rwa [hg, hg] at this
def Upto (f : α → Nat) (xs : List α) (a b : Nat) (ys : List α) : Prop := ∃ T, Stb f (seg xs a b) T ∧ ys = xs.take a ++ T ++ xs.drop b
theorem Upto.length (h : Upto f xs a b ys) (h1 : a ≤ b) (h2 : b ≤ xs.length) : ys.length = xs.length := by
  obtain ⟨T, hT, rfl⟩ := h
  have := hT.length
  rw [seg_length h2] at this
  simp only [List.length_append, List.length_take, List.length_drop]; omega
theorem parts (h1 : a ≤ b) (h2 : b ≤ xs.length) : xs = xs.take a ++ seg xs a b ++ xs.drop b := by
  rw [seg, List.append_assoc]
  conv => lhs; rw [← List.take_append_drop a xs, ← List.take_append_drop (b - a) (xs.drop a), List.drop_drop, show a + (b - a) = b by omega]
theorem Upto.refl (h1 : a ≤ b) (h2 : b ≤ xs.length) (h : Srt f (seg xs a b)) : Upto f xs a b xs := ⟨seg xs a b, Stb.refl h, parts h1 h2⟩
theorem app_get {P T S : List α} (hP : P.length = a) : (P ++ T ++ S)[i]? = if i < a then P[i]? else if i < a + T.length then T[i - a]? else S[i - a - T.length]? := by
  rw [List.append_assoc, List.getElem?_append, hP]
  split
  · rfl
  · rw [List.getElem?_append]
    split
    · rw [if_pos (by omega)]
    · rw [if_neg (by omega)]
theorem Upto.get (h : Upto f xs a b ys) (h1 : a ≤ b) (h2 : b ≤ xs.length) (hi : i < a ∨ b ≤ i) : ys[i]? = xs[i]? := by
  obtain ⟨T, hT, rfl⟩ := h
  have hl := hT.length
  rw [seg_length h2] at hl
  rw [app_get (a := a) (by rw [List.length_take]; omega)]
  rcases hi with hi | hi
  · rw [if_pos hi, List.getElem?_take, if_pos hi]
  · rw [if_neg (by omega), if_neg (by omega), List.getElem?_drop]; congr 1; omega
theorem seg_ext {l : List α} (h2 : j ≤ xs.length) (hl : l.length = j - i) (h : ∀ t, i ≤ t → t < j → l[t - i]? = xs[t]?) : seg xs i j = l := by
  refine List.ext_getElem? fun t => ?_
  rcases Nat.lt_or_ge t (j - i) with ht | ht
  · rw [seg_get ht, ← h (i + t) (by omega) (by omega), Nat.add_sub_cancel_left]
  · rw [List.getElem?_eq_none (by rw [seg_length h2]; exact ht), List.getElem?_eq_none (by omega)]
theorem seg_same (hl : xs.length = ys.length) (hj : j ≤ xs.length) (h : ∀ t, i ≤ t → t < j → ys[t]? = xs[t]?) : seg ys i j = seg xs i j := by
  refine List.ext_getElem? fun t => ?_
  rcases Nat.lt_or_ge t (j - i) with ht | ht
  · rw [seg_get ht, seg_get ht, h (i + t) (by omega) (by omega)]
  · rw [List.getElem?_eq_none (by rw [seg_length (by omega)]; exact ht), List.getElem?_eq_none (by rw [seg_length hj]; exact ht)]
theorem Upto.seg_in (h : Upto f xs a b ys) (h1 : a ≤ b) (h2 : b ≤ xs.length) : Stb f (seg xs a b) (seg ys a b) := by
  have hl := h.length h1 h2
  obtain ⟨T, hT, rfl⟩ := h
  have hTl := hT.length
  rw [seg_length h2] at hTl
  rw [seg_ext (xs := xs.take a ++ T ++ xs.drop b) (i := a) (j := b) (l := T) (by omega) (by omega) fun t h3 h4 => by rw [app_get (a := a) (by rw [List.length_take]; omega), if_neg (by omega), if_pos (by omega)]]
  exact hT
theorem upto_of (h1 : a ≤ b) (h2 : b ≤ xs.length) (hl : ys.length = xs.length) (ho : ∀ i, i < a ∨ b ≤ i → ys[i]? = xs[i]?) (h : Stb f (seg xs a b) (seg ys a b)) : Upto f xs a b ys := by
  refine ⟨_, h, ?_⟩
  have e := parts (xs := ys) h1 (by omega)
  conv => lhs; rw [e]
  congr 1
  · congr 1
    refine List.ext_getElem? fun i => ?_
    rw [List.getElem?_take, List.getElem?_take]; split
    · exact ho i (.inl (by omega))
    · rfl
  · refine List.ext_getElem? fun i => ?_
    rw [List.getElem?_drop, List.getElem?_drop]; exact ho _ (.inr (by omega))
def rot (xs : List α) (s m e : Nat) : List α := xs.take s ++ (seg xs m e ++ seg xs s m) ++ xs.drop e
theorem rot_length (h1 : s ≤ m) (h2 : m ≤ e) (h3 : e ≤ xs.length) : (rot xs s m e).length = xs.length := by
  unfold rot
  simp only [List.length_append, seg_length h3, seg_length (show m ≤ xs.length by omega), List.length_take, List.length_drop]; omega
theorem rot_get (h1 : s ≤ m) (h2 : m ≤ e) (h3 : e ≤ xs.length) : (rot xs s m e)[i]? = if i < s then xs[i]? else if i < s + (e - m) then xs[m + (i - s)]? else if i < e then xs[i - (e - m)]? else xs[i]? := by
  have l1 := seg_length (xs := xs) (i := m) h3
  have l2 := seg_length (xs := xs) (i := s) (j := m) (by omega)
  unfold rot
  rw [app_get (a := s) (by rw [List.length_take]; omega)]
  split
  · rw [List.getElem?_take, if_pos (by omega)]
  · rw [List.length_append, l1, l2]
    split
    · rw [List.getElem?_append, l1]
      split
      · rw [if_pos (by omega), seg_get (by omega)]
      · rw [if_neg (by omega), if_pos (by omega), seg_get (by omega)]; congr 1; omega
    · rw [if_neg (by omega), if_neg (by omega), List.getElem?_drop]; congr 1; omega
theorem sym_done (h1 : a ≤ s) (h2 : s ≤ m) (h3 : m ≤ e) (h4 : e ≤ b) (h5 : b ≤ xs.length) (hL : Srt f (seg xs a m)) (hR : Srt f (seg xs m b))
    (k1 : ∀ x ∈ seg xs s m, ∀ y ∈ seg xs m e, f y < f x) (k2 : ∀ x ∈ seg xs a s, ∀ y ∈ seg xs e b, f x ≤ f y)
    (hA : Upto f (rot xs s m e) a (s + (e - m)) ys) (hB : Upto f ys (s + (e - m)) b zs) : Upto f xs a b zs := by
  have lr := rot_length h2 h3 (show e ≤ xs.length by omega)
  have ly := hA.length (by omega) (by omega)
  have lz := hB.length (by omega) (by omega)
  have gr : ∀ i, (rot xs s m e)[i]? = _ := fun i => rot_get (i := i) h2 h3 (show e ≤ xs.length by omega)
  have eL : seg (rot xs s m e) a (s + (e - m)) = seg xs a s ++ seg xs m e := by
    refine seg_ext (by omega) (by rw [List.length_append, seg_length (by omega), seg_length (by omega)]; omega) fun t t1 t2 => ?_
    rw [List.getElem?_append, seg_length (by omega)]
    by_cases ht : t < s
    · have e1 : (rot xs s m e)[t]? = xs[t]? := by rw [gr, if_pos ht]
      rw [e1, if_pos (by omega), seg_get (by omega)]; congr 1; omega
    · have e1 : (rot xs s m e)[t]? = xs[m + (t - s)]? := by rw [gr, if_neg ht, if_pos t2]
      rw [e1, if_neg (by omega), seg_get (by omega)]; congr 1; omega
  have eR0 : seg (rot xs s m e) (s + (e - m)) b = seg xs s m ++ seg xs e b := by
    refine seg_ext (by omega) (by rw [List.length_append, seg_length (by omega), seg_length (by omega)]; omega) fun t t1 t2 => ?_
    rw [List.getElem?_append, seg_length (by omega)]
    by_cases ht : t < e
    · have e1 : (rot xs s m e)[t]? = xs[t - (e - m)]? := by rw [gr, if_neg (by omega), if_neg (by omega), if_pos ht]
      rw [e1, if_pos (by omega), seg_get (by omega)]; congr 1; omega
    · have e1 : (rot xs s m e)[t]? = xs[t]? := by rw [gr, if_neg (by omega), if_neg (by omega), if_neg ht]
      rw [e1, if_neg (by omega), seg_get (by omega)]; congr 1; omega
  have eR : seg ys (s + (e - m)) b = seg xs s m ++ seg xs e b := by
    rw [← eR0]
    exact seg_same ly.symm (by omega) fun t t1 t2 => hA.get (by omega) (by omega) (.inr t1)
  have sA := hA.seg_in (by omega) (by omega)
  have sB := hB.seg_in (by omega) (by omega)
  rw [eL] at sA
  rw [eR] at sB
  have eA : seg zs a (s + (e - m)) = seg ys a (s + (e - m)) := seg_same lz.symm (by omega) fun t t1 t2 => hB.get (by omega) (by omega) (.inl t2)
  rw [seg_split h1 h2] at hL
  rw [seg_split h3 h4] at hR
  have := merge_parts hL hR k1 k2 sA sB
  rw [← seg_split h1 h2, ← seg_split h3 h4, ← seg_split (by omega) (by omega), ← eA, ← seg_split (by omega) (by omega)] at this
  refine upto_of (by omega) h5 (by omega) (fun i hi => ?_) this
  rw [hB.get (by omega) (by omega) (by omega), hA.get (by omega) (by omega) (by omega), gr]
  rcases hi with hi | hi
  · rw [if_pos (by omega)]
  · rw [if_neg (by omega), if_neg (by omega), if_neg (by omega)]
theorem upto_more (h1 : a ≤ b) (h2 : b ≤ xs.length) (h : Upto f xs a b ys) (i j : Nat) (hi : a ≤ i) (hj : j ≤ b) (hz : Upto f ys i j zs) (hij : i ≤ j) (hs : Srt f (seg zs a b)) : Upto f xs a b zs := by
  have ly := h.length h1 h2
  have lz := hz.length hij (by omega)
  refine upto_of h1 h2 (by omega) (fun t ht => by rw [hz.get hij (by omega) (by omega), h.get h1 h2 ht]) ⟨hs, fun k => ?_⟩
  rw [← (h.seg_in h1 h2).same k]
  have e1 : seg zs a b = seg ys a i ++ (seg zs i j ++ seg ys j b) := by
    rw [seg_split hi (show i ≤ b by omega), seg_split hij hj]
    congr 1
    · exact seg_same lz.symm (by omega) fun t t1 t2 => hz.get hij (by omega) (.inl t2)
    · congr 1
      exact seg_same lz.symm (by omega) fun t t1 t2 => hz.get hij (by omega) (.inr t1)
  have e2 : seg ys a b = seg ys a i ++ (seg ys i j ++ seg ys j b) := by rw [seg_split hi (show i ≤ b by omega), seg_split hij hj]
  rw [e1, e2]
  simp only [List.filter_append]
  rw [(hz.seg_in hij (by omega)).same k]
end
end Go.Kb

/- Natives that sorting calls: the swapper of a slice. -/
namespace Go.Eng
open Go.RowKit Go.Kb
section
variable {P : Program} {w0 w : World} {L : List Ent} {α : Type} {enc : α → Array Value} {c : Nat} {s : Sv} {xs : List α}
def swp (xs : List α) (i j : Nat) : List α := match xs[i]?, xs[j]? with
  | some x, some y => (xs.set i y).set j x
  | _, _ => xs
theorem swp_length (xs : List α) (i j : Nat) : (swp xs i j).length = xs.length := by
  unfold swp; split <;> simp
theorem swp_at {i j : Nat} {x y : α} (hx : xs[i]? = some x) (hy : xs[j]? = some y) (k : Nat) : (swp xs i j)[k]? = if k = j then some x else if k = i then some y else xs[k]? := by
  have hi := (List.getElem?_eq_some_iff.1 hx).1
  have hj := (List.getElem?_eq_some_iff.1 hy).1
  have e : swp xs i j = (xs.set i y).set j x := by unfold swp; rw [hx, hy]
  rw [e, List.getElem?_set, List.getElem?_set, List.length_set]
  by_cases e1 : k = j
  · subst e1; simp [hj]
  · rw [if_neg (fun h => e1 h.symm), if_neg e1]
    by_cases e2 : k = i
    · subst e2; simp [hi]
    · rw [if_neg (fun h => e2 h.symm), if_neg e2]
theorem swap_run {e : TypeId} {ie : TypeInfo} (hie : P.info? e = some ie) (hsz : ie.size = c) (hagg : ∀ w, (isAgg e).run P w = .ok true w) {i j idx : Nat} [he : Enc enc c] (hw : Mem w0 L w) (q : Owns L s enc c xs idx) (hi : i < xs.length) (hj : j < xs.length) :
    ∃ w', (Extern.ReflectliteSwapper.swap false #[.int .i64 i, .int .i64 j, s.val, typeHandle P e]).run P w = .ok (.tuple #[]) w' ∧ Mem w0 (L.set idx (own enc c s (swp xs i j))) w' := by
  obtain ⟨x, hx⟩ := get_some hi
  obtain ⟨y, hy⟩ := get_some hj
  obtain ⟨r, hrow⟩ := hw.get q.h
  have hn := r.some hi
  obtain ⟨hsp, _⟩ := hrow hn
  have hlen := r.len
  have cell : ∀ k z, xs[k]? = some z → ∀ t v, (enc z).toList[t]? = some v → w.cell? ⟨s.b, s.o + k * c + t, none⟩ = some v := fun k z hz t v hv => by
    have ht : t < c := by rw [← he.size z]; have := (List.getElem?_eq_some_iff.1 hv).1; simpa using this
    rw [cell_hp]
    have := r.row k z hz t ht
    rw [Array.getElem?_toList] at hv
    rw [← hv]; exact this
  have l1 := Lib.rl_loadVar_cells (P := P) e ie hie hagg s.b (s.o + i * c) (enc x).toList (by rw [Array.length_toList, he.size, hsz]) w (cell i x hx)
  have l2 := Lib.rl_loadVar_cells (P := P) e ie hie hagg s.b (s.o + j * c) (enc y).toList (by rw [Array.length_toList, he.size, hsz]) w (cell j y hy)
  obtain ⟨w1, s1, m1⟩ := mem_store (P := P) (j := 0) (a' := y) (vs := enc y) (L' := L.set idx (own enc c s (xs.set i y))) hw q hx (he.one y) (by rw [he.size]; omega) (by unfold over; apply Array.ext'; simp [he.size]) ⟨rfl⟩
  have hil : idx < L.length := (List.getElem?_eq_some_iff.1 q.h).1
  have q2 : Owns (L.set idx (own enc c s (xs.set i y))) s enc c (xs.set i y) idx := ⟨by rw [List.getElem?_set_self hil]⟩
  obtain ⟨z, hz⟩ := get_some (xs := xs.set i y) (i := j) (by rw [List.length_set]; exact hj)
  obtain ⟨w2, s2, m2⟩ := mem_store (P := P) (j := 0) (a' := x) (vs := enc x) (L' := L.set idx (own enc c s ((xs.set i y).set j x))) m1 q2 hz (he.one x) (by rw [he.size]; omega) (by unfold over; apply Array.ext'; simp [he.size]) ⟨by rw [List.set_set]⟩
  have st : ∀ (o : Nat) (vs : Array Value) (w w' : World), vs.size = c → (storeCells ⟨s.b, o, none⟩ vs.toList).run P w = .ok () w' → (storeVar e ⟨s.b, o, none⟩ (.agg vs)).run P w = .ok () w' := fun o vs w w' hs h => by
    simp [storeVar, Value.cells, sizeOf, Lib.rl_info e ie hie, hsz, hs, h, Result.andThen]
  have st1 := st _ _ _ _ (he.size y) s1
  have st2 := st _ _ _ _ (he.size x) s2
  rw [Nat.add_zero] at st1 st2
  have ex : (enc x).toList.toArray = enc x := by simp
  have ey : (enc y).toList.toArray = enc y := by simp
  rw [ex] at l1
  rw [ey] at l2
  refine ⟨w2, ?_, ?_⟩
  · rw [Sv.val_some hn, hsp, Lib.rl_swap]
    have i0 : ¬ ((i : Int) < 0) := by omega
    have i1 : ¬ ((i : Int) ≥ s.len) := by omega
    have j0 : ¬ ((j : Int) < 0) := by omega
    have j1 : ¬ ((j : Int) ≥ s.len) := by omega
    simp [i0, i1, j0, j1, Extern.Rtype.ofHandle, handleType, typeHandle, Extern.ReflectliteSwapper.exchange, sizeOf, Lib.rl_info e ie hie, hsz, Addr.add_lit, l1, l2, st1, st2, Result.andThen]
  · have : swp xs i j = (xs.set i y).set j x := by unfold swp; rw [hx, hy]
    rw [this]; exact m2
end
section
variable {P : Program} {N : Fra} {w0 : World} {env : Env} {L : List Ent} {l : List Oper} {Q : Exit → Act → World → Prop} {rest : List Oper} {d : Option Tmp} {ty : TypeId} {ps : String} {af : Array Edge} {gd : Option (Nat × Bool)}
theorem sq_native {f : FuncId} {fn : Func} {e : Array Value → Sem Value} {xs : List Operand} {ts : Array TypeId} {vs : List Value} (hf : P.funcs[f]? = some fn) (hname : (fn.name == "runtime.NumGoroutine") = false) (hb : fn.body.isNone = true) (hn : Extern.findNext fn = none) (he : Extern.find fn = some e) (hx : evl env xs = some vs)
    (h : ∀ w, Mem w0 L w → ∃ v w' L', (e vs.toArray).run P w = .ok v w' ∧ Mem w0 L' w' ∧ Sq P N w0 l Q rest (putE env d v) L') (hd : dstOk N d = true := by rfl) :
    Sq P N w0 l Q (⟨d, .call { callee := .value (.func f), args := xs.toArray, argTypes := ts }, ty, ps, af, none⟩ :: rest) env L :=
  sq_run rfl hd fun a w ha hw => by
    obtain ⟨v, w', L', h1, h2, h3⟩ := h w hw
    refine ⟨v, w', L', ?_, h2, h3⟩
    have hm := ha.evl hx
    have hr := run_callFunc_extern hf hname hb hn he vs.toArray w
    rw [h1] at hr
    simp [execOp, resolve, Act.eval, Deferred.ofValue, invoke, ← hm] at hr ⊢
    rw [hr]
theorem sq_nativeV {f : FuncId} {fn : Func} {e : Array Value → Sem Value} {x : Operand} {caps : Array Value} {xs : List Operand} {ts : Array TypeId} {vs : List Value} (hf : P.funcs[f]? = some fn) (hname : (fn.name == "runtime.NumGoroutine") = false) (hb : fn.body.isNone = true) (hn : Extern.findNext fn = none) (he : Extern.find fn = some e) (hx : ev env x = some (.func (.func f) #[] caps)) (hxs : evl env xs = some vs)
    (h : ∀ w, Mem w0 L w → ∃ v w' L', (e (vs ++ caps.toList).toArray).run P w = .ok v w' ∧ Mem w0 L' w' ∧ Sq P N w0 l Q rest (putE env d v) L') (hd : dstOk N d = true := by rfl) :
    Sq P N w0 l Q (⟨d, .call { callee := .value x, args := xs.toArray, argTypes := ts }, ty, ps, af, none⟩ :: rest) env L :=
  sq_run rfl hd fun a w ha hw => by
    obtain ⟨v, w', L', h1, h2, h3⟩ := h w hw
    refine ⟨v, w', L', ?_, h2, h3⟩
    have hm := ha.evl hxs
    have hr := run_callFunc_extern hf hname hb hn he (vs ++ caps.toList).toArray w
    rw [h1] at hr
    simp [execOp, resolve, ha.ev hx, Deferred.ofValue, invoke, ← hm] at hr ⊢
    have e2 : ((List.map a.eval xs).toArray ++ caps) = (List.map a.eval xs ++ caps.toList).toArray := by apply Array.ext'; simp
    rw [e2, hr]
theorem ry_iface {t : TypeId} {x : Operand} {v : Value} (hu : ∃ d, P.underlying t = some d ∧ (match d with | .interface _ => False | _ => True)) (hx : ev env x = some v) : Ry P N w0 env L ⟨d, .makeInterface t x, ty, ps, af, gd⟩ (.iface t v) := fun a w ha _ => by
  obtain ⟨D, h1, h2⟩ := hu
  have h3 : (underlying t).run P w = .ok D w := run_underlying h1 w
  have h4 : (Instr.makeInterface t v).run P w = .ok (.iface t v) w := by
    unfold Instr.makeInterface
    simp only [Sem.run_bind, h3, Result.andThen]
    cases D <;> first | rfl | exact h2.elim
  simp [execOp, ha.ev hx, h4, Result.andThen]
end
end Go.Eng

/- Steps of a stable sort in place. No program in sight. -/
namespace Go.Eng
open Go.Kb
section
variable {α : Type} {f : α → Nat} {xs ys zs ts : List α} {a b m i j k n : Nat}
theorem upto_same (h : Upto f xs a b ys) (h1 : a ≤ b) (h2 : b ≤ xs.length) {x : α} : x ∈ ys ↔ x ∈ xs := by
  have e := parts (xs := xs) h1 h2
  obtain ⟨T, hT, rfl⟩ := h
  conv => rhs; rw [e]
  simp only [List.mem_append, hT.mem]
structure Slid (zs ts : List α) (i j : Nat) : Prop where
  len : ts.length = zs.length
  at' : ∀ t, ts[t]? = if t < j then zs[t]? else if t = j then zs[i]? else if t ≤ i then zs[t - 1]? else zs[t]?
theorem Slid.refl : Slid zs zs i i := ⟨rfl, fun t => by
  split
  · rfl
  · split
    · rename_i h; rw [h]
    · split
      · omega
      · rfl⟩
theorem Slid.step (h : Slid zs ts i j) (hj : 0 < j) (hji : j ≤ i) (hi : i < zs.length) : Slid zs (swp ts j (j - 1)) i (j - 1) := by
  have hl := h.len
  obtain ⟨x, hx⟩ := get_some (xs := ts) (i := j) (by omega)
  obtain ⟨y, hy⟩ := get_some (xs := ts) (i := j - 1) (by omega)
  have ex : zs[i]? = some x := by rw [← hx, h.at', if_neg (by omega), if_pos rfl]
  have ey : zs[j - 1]? = some y := by rw [← hy, h.at', if_pos (by omega)]
  refine ⟨by rw [swp_length, hl], fun t => ?_⟩
  rw [swp_at hx hy]
  by_cases e1 : t = j - 1
  · rw [if_pos e1, if_neg (by omega), if_pos e1, ex]
  · rw [if_neg e1]
    by_cases e2 : t = j
    · rw [if_pos e2, if_neg (by omega), if_neg e1, if_pos (by omega), e2, ey]
    · rw [if_neg e2]
      by_cases e3 : t < j
      · have el : ts[t]? = zs[t]? := by rw [h.at', if_pos e3]
        rw [el, if_pos (by omega)]
      · rw [if_neg (show ¬ t < j - 1 by omega), if_neg e1, h.at', if_neg e3, if_neg e2]
theorem Slid.mem (h : Slid zs ts i j) (hji : j ≤ i) (hi : i < zs.length) {x : α} (hx : x ∈ ts) : x ∈ zs := by
  obtain ⟨t, ht⟩ := List.mem_iff_getElem?.1 hx
  rw [h.at'] at ht
  split at ht
  · exact List.mem_of_getElem? ht
  · split at ht
    · exact List.mem_of_getElem? ht
    · split at ht <;> exact List.mem_of_getElem? ht
theorem Slid.seg (h : Slid zs ts i j) (ha : a ≤ j) (hji : j ≤ i) (hi : i < zs.length) {x : α} (hx : zs[i]? = some x) : seg ts a (i + 1) = seg zs a j ++ x :: seg zs j i := by
  have hl := h.len
  refine seg_ext (by omega) (by rw [List.length_append, List.length_cons, seg_length (by omega), seg_length (by omega)]; omega) fun t h1 h2 => ?_
  rw [List.getElem?_append, seg_length (by omega), h.at']
  by_cases e1 : t < j
  · rw [if_pos (by omega), if_pos e1, seg_get (by omega), show a + (t - a) = t by omega]
  · rw [if_neg (by omega), if_neg e1]
    by_cases e2 : t = j
    · rw [if_pos e2, show t - a - (j - a) = 0 by omega, hx]; rfl
    · rw [if_neg e2, if_pos (by omega), show t - a - (j - a) = (t - j - 1) + 1 by omega, List.getElem?_cons_succ, seg_get (by omega)]; congr 1; omega
theorem mem_rk {x : α} (h : x ∈ seg zs i j) : ∃ t, i ≤ t ∧ t < j ∧ rk f zs t = f x := by
  obtain ⟨t, h1, h2, h3⟩ := seg_mem.1 h
  exact ⟨t, h1, h2, rk_at h3⟩
theorem ins_done (hu : Upto f xs a i zs) (hai : a ≤ i) (hi : i < xs.length) (h : Slid zs ts i j) (ha : a ≤ j) (hji : j ≤ i) (h1 : ∀ t, j ≤ t → t < i → rk f zs i < rk f zs t) (h2 : j = a ∨ rk f zs (j - 1) ≤ rk f zs i) : Upto f xs a (i + 1) ts := by
  have lz := hu.length hai (by omega)
  have hl := h.len
  obtain ⟨x, hx⟩ := get_some (xs := zs) (i := i) (by omega)
  have fx : rk f zs i = f x := rk_at hx
  have hs := hu.seg_in hai (by omega)
  have hsr := (srt_seg (xs := zs) (f := f) (i := a) (j := i) (by omega)).1 hs.srt
  have hxx : xs[i]? = some x := by rw [← hx]; exact (hu.get hai (by omega) (.inr (Nat.le_refl _))).symm
  have e1 : seg xs a (i + 1) = seg xs a i ++ [x] := by
    rw [seg_split hai (Nat.le_succ i)]
    congr 1
    unfold Go.Kb.seg
    obtain ⟨hh, hv⟩ := List.getElem?_eq_some_iff.1 hxx
    rw [show i + 1 - i = 1 by omega, List.drop_eq_getElem_cons hh, List.take_succ_cons, List.take_zero, hv]
  refine upto_of (by omega) (by omega) (by omega) (fun t ht => ?_) ?_
  · rw [h.at', ← hu.get hai (by omega) (i := t) (by omega)]
    rcases ht with ht | ht
    · rw [if_pos (by omega)]
    · rw [if_neg (by omega), if_neg (by omega), if_neg (by omega)]
  · rw [e1, h.seg ha hji (by omega) hx]
    refine ins_behind hs (seg_split ha hji) (fun y hy => ?_) fun y hy => ?_
    · obtain ⟨t, t1, t2, t3⟩ := mem_rk (f := f) hy
      rw [← t3, ← fx]; exact h1 t t1 t2
    · obtain ⟨t, t1, t2, t3⟩ := mem_rk (f := f) hy
      rw [← t3, ← fx]
      rcases h2 with h2 | h2
      · omega
      · exact Nat.le_trans (hsr t (j - 1) t1 (by omega) (by omega)) h2
theorem upto_one (h : a < xs.length) : Upto f xs a (a + 1) xs := Upto.refl (Nat.le_succ a) h ((srt_seg (by omega)).2 fun s t h1 h2 h3 => by obtain rfl : s = t := (by omega); exact Nat.le_refl _)
theorem upto_nil (h : a ≤ xs.length) : Upto f xs a a xs := Upto.refl (Nat.le_refl a) h (by rw [seg_nil (Nat.le_refl a)]; exact List.Pairwise.nil)
/-! Parts that change places. -/
structure Swr (xs ys : List α) (a b n : Nat) : Prop where
  len : ys.length = xs.length
  at' : ∀ t, ys[t]? = if a ≤ t ∧ t < a + n then xs[t - a + b]? else if b ≤ t ∧ t < b + n then xs[t - b + a]? else xs[t]?
theorem Swr.zero : Swr xs xs a b 0 := ⟨rfl, fun t => by rw [if_neg (by omega), if_neg (by omega)]⟩
theorem Swr.step (h : Swr xs ys a b n) (h1 : a + n < b) (h2 : b + n < xs.length) : Swr xs (swp ys (a + n) (b + n)) a b (n + 1) := by
  have hl := h.len
  obtain ⟨x, hx⟩ := get_some (xs := ys) (i := a + n) (by omega)
  obtain ⟨y, hy⟩ := get_some (xs := ys) (i := b + n) (by omega)
  have ex : xs[a + n]? = some x := by rw [← hx, h.at', if_neg (by omega), if_neg (by omega)]
  have ey : xs[b + n]? = some y := by rw [← hy, h.at', if_neg (by omega), if_neg (by omega)]
  refine ⟨by rw [swp_length, hl], fun t => ?_⟩
  rw [swp_at hx hy]
  by_cases e1 : t = b + n
  · rw [if_pos e1, if_neg (by omega), if_pos (by omega), show t - b + a = a + n by omega, ex]
  · rw [if_neg e1]
    by_cases e2 : t = a + n
    · rw [if_pos e2, if_pos (by omega), show t - a + b = b + n by omega, ey]
    · rw [if_neg e2]
      by_cases e3 : a ≤ t ∧ t < a + n
      · have el : ys[t]? = xs[t - a + b]? := by rw [h.at', if_pos e3]
        rw [el, if_pos (by omega)]
      · by_cases e4 : b ≤ t ∧ t < b + n
        · have el : ys[t]? = xs[t - b + a]? := by rw [h.at', if_neg e3, if_pos e4]
          rw [el, if_neg (by omega), if_pos (by omega)]
        · have el : ys[t]? = xs[t]? := by rw [h.at', if_neg e3, if_neg e4]
          rw [el, if_neg (by omega), if_neg (by omega)]
theorem four {P U W V S : List α} (t : Nat) : (P ++ (U ++ (W ++ (V ++ S))))[t]? = if t < P.length then P[t]? else if t < P.length + U.length then U[t - P.length]? else if t < P.length + U.length + W.length then W[t - P.length - U.length]? else if t < P.length + U.length + W.length + V.length then V[t - P.length - U.length - W.length]? else S[t - P.length - U.length - W.length - V.length]? := by
  simp only [List.getElem?_append]
  by_cases c1 : t < P.length
  · rw [if_pos c1, if_pos c1]
  · rw [if_neg c1, if_neg c1]
    by_cases c2 : t < P.length + U.length
    · rw [if_pos c2, if_pos (show t - P.length < U.length by omega)]
    · rw [if_neg c2, if_neg (show ¬ t - P.length < U.length by omega)]
      by_cases c3 : t < P.length + U.length + W.length
      · rw [if_pos c3, if_pos (show t - P.length - U.length < W.length by omega)]
      · rw [if_neg c3, if_neg (show ¬ t - P.length - U.length < W.length by omega)]
        by_cases c4 : t < P.length + U.length + W.length + V.length
        · rw [if_pos c4, if_pos (show t - P.length - U.length - W.length < V.length by omega)]
        · rw [if_neg c4, if_neg (show ¬ t - P.length - U.length - W.length < V.length by omega)]
theorem Swr.app {P U W V S : List α} (h : Swr (P ++ (U ++ (W ++ (V ++ S)))) ys P.length (P.length + U.length + W.length) U.length) (he : V.length = U.length) : ys = P ++ (V ++ (W ++ (U ++ S))) := by
  refine List.ext_getElem? fun t => ?_
  by_cases c2 : P.length ≤ t ∧ t < P.length + U.length
  · have e1 : ys[t]? = V[t - P.length]? := by
      rw [h.at', if_pos c2, four, if_neg (by omega), if_neg (by omega), if_neg (by omega), if_pos (by omega)]; congr 1; omega
    rw [e1, four, if_neg (by omega), if_pos (by omega)]
  · by_cases c4 : P.length + U.length + W.length ≤ t ∧ t < P.length + U.length + W.length + U.length
    · have e1 : ys[t]? = U[t - (P.length + U.length + W.length)]? := by
        rw [h.at', if_neg c2, if_pos c4, four, if_neg (by omega), if_pos (by omega)]; congr 1; omega
      rw [e1, four, if_neg (by omega), if_neg (by omega), if_neg (by omega), if_pos (by omega)]; congr 1; omega
    · rw [h.at', if_neg c2, if_neg c4, four, four]
      by_cases d1 : t < P.length
      · rw [if_pos d1, if_pos d1]
      · rw [if_neg d1, if_neg d1, if_neg (show ¬ t < P.length + U.length by omega), if_neg (show ¬ t < P.length + V.length by omega)]
        by_cases d3 : t < P.length + U.length + W.length
        · rw [if_pos d3, if_pos (show t < P.length + V.length + W.length by omega), he]
        · rw [if_neg d3, if_neg (show ¬ t < P.length + V.length + W.length by omega), if_neg (show ¬ t < P.length + U.length + W.length + V.length by omega), if_neg (show ¬ t < P.length + V.length + W.length + U.length by omega), he]
def Turns (cur fin : List α) (m i j : Nat) : Prop := ∃ P U V S : List α, cur = P ++ (U ++ (V ++ S)) ∧ fin = P ++ (V ++ (U ++ S)) ∧ P.length = m - i ∧ U.length = i ∧ V.length = j ∧ i ≤ m
theorem Turns.start (h1 : a ≤ m) (h2 : m ≤ b) (h3 : b ≤ xs.length) : Turns xs (rot xs a m b) m (m - a) (b - m) := by
  refine ⟨xs.take a, seg xs a m, seg xs m b, xs.drop b, ?_, by rw [rot]; simp only [List.append_assoc], by rw [List.length_take]; omega, seg_length (by omega), seg_length h3, by omega⟩
  have := parts (xs := xs) (show a ≤ b by omega) h3
  rw [seg_split h1 h2] at this
  simpa only [List.append_assoc] using this
theorem Turns.left {cur fin : List α} (h : Turns cur fin m i j) (hij : j ≤ i) (hs : Swr cur ys (m - i) m j) : Turns ys fin m (i - j) j := by
  obtain ⟨P, U, V, S, rfl, rfl, h1, h2, h3, h4⟩ := h
  obtain ⟨U1, U2, rfl, hu⟩ : ∃ U1 U2, U = U1 ++ U2 ∧ U1.length = j := ⟨U.take j, U.drop j, (List.take_append_drop j U).symm, by rw [List.length_take]; omega⟩
  have hu2 : U2.length = i - j := by rw [List.length_append] at h2; omega
  have e := Swr.app (P := P) (U := U1) (W := U2) (V := V) (S := S) (ys := ys) (by
    rw [show P.length = m - i from h1, hu, hu2, show m - i + j + (i - j) = m by omega]
    simpa only [List.append_assoc] using hs) (by omega)
  exact ⟨P ++ V, U2, U1, S, by rw [e]; simp only [List.append_assoc], by simp only [List.append_assoc], by rw [List.length_append]; omega, hu2, hu, by omega⟩
theorem Turns.right {cur fin : List α} (h : Turns cur fin m i j) (hij : i ≤ j) (hs : Swr cur ys (m - i) (m + j - i) i) : Turns ys fin m i (j - i) := by
  obtain ⟨P, U, V, S, rfl, rfl, h1, h2, h3, h4⟩ := h
  obtain ⟨V1, V2, rfl, hv⟩ : ∃ V1 V2, V = V1 ++ V2 ∧ V2.length = i := ⟨V.take (j - i), V.drop (j - i), (List.take_append_drop _ V).symm, by rw [List.length_drop]; omega⟩
  have hv1 : V1.length = j - i := by rw [List.length_append] at h3; omega
  have e := Swr.app (P := P) (U := U) (W := V1) (V := V2) (S := S) (ys := ys) (by
    rw [show P.length = m - i from h1, h2, hv1, show m - i + i + (j - i) = m + j - i by omega]
    simpa only [List.append_assoc] using hs) (by omega)
  exact ⟨P, V2, V1, U ++ S, by rw [e], by simp only [List.append_assoc], h1, hv, hv1, h4⟩
theorem Turns.done {cur fin : List α} (h : Turns cur fin m i i) (hs : Swr cur ys (m - i) m i) : ys = fin := by
  obtain ⟨P, U, V, S, rfl, rfl, h1, h2, h3, h4⟩ := h
  have e := Swr.app (P := P) (U := U) (W := []) (V := V) (S := S) (ys := ys) (by
    rw [h1, h2, show m - i + i + ([] : List α).length = m by simp; omega]
    simpa using hs) (by omega)
  rw [e]; simp
end
end Go.Eng

/- The order of routes as a number; steps of a merge in place; blocks. No program in sight. -/
namespace Go.Eng
open Go.Kb
/-! The order of prefixes as a number. -/
def rkP (p : Pfx) : Nat := (p.bits.toNat * 2 ^ 128 + p.key.toNat) * 256 + p.len.toNat
def rkR (r : Rt) : Nat := rkP r.p
def MayAll (xs : List Rt) : Prop := ∀ x ∈ xs, pmay x.p = true
theorem pless_rk {p q : Pfx} (hp : pmay p = true) (hq : pmay q = true) : pless p q = decide (rkP p < rkP q) := by
  rw [Bool.eq_iff_iff, decide_eq_true_iff, pless_iff hp hq]
  obtain ⟨a1, a2, a3, _⟩ := (pmay_iff p).1 hp
  obtain ⟨b1, b2, b3, _⟩ := (pmay_iff q).1 hq
  have := p.key.isLt
  have := q.key.isLt
  unfold rkP
  omega
theorem rkP_inj {p q : Pfx} (hp : pmay p = true) (hq : pmay q = true) (h : rkP p = rkP q) : p = q := by
  obtain ⟨a1, a2, a3, _⟩ := (pmay_iff p).1 hp
  obtain ⟨b1, b2, b3, _⟩ := (pmay_iff q).1 hq
  have h1 := p.key.isLt
  have h2 := q.key.isLt
  unfold rkP at h
  cases p; cases q
  simp only [Pfx.mk.injEq] at *
  refine ⟨by omega, by omega, BitVec.eq_of_toNat_eq (by omega)⟩
def lessV (xs : List Rt) (i j : Int) : Bool := pless (xs.getD i.toNat zroute).p (xs.getD j.toNat zroute).p
theorem lessV_rk {xs : List Rt} (h : MayAll xs) {i j : Int} {s t : Nat} (ei : i.toNat = s) (ej : j.toNat = t) (hi : s < xs.length) (hj : t < xs.length) : lessV xs i j = decide (rk rkR xs s < rk rkR xs t) := by
  obtain ⟨x, hx⟩ := get_some (xs := xs) (i := s) hi
  obtain ⟨y, hy⟩ := get_some (xs := xs) (i := t) hj
  have e1 : xs.getD s zroute = x := by simp [List.getD, hx]
  have e2 : xs.getD t zroute = y := by simp [List.getD, hy]
  unfold lessV
  rw [ei, ej, e1, e2, pless_rk (h x (List.mem_of_getElem? hx)) (h y (List.mem_of_getElem? hy)), rk_at hx, rk_at hy]; rfl
section
variable {α : Type} {f : α → Nat} {xs ys zs ts : List α} {a b c m i j k n s e : Nat}
theorem rot_mem (h1 : s ≤ m) (h2 : m ≤ e) (h3 : e ≤ xs.length) {x : α} (h : x ∈ rot xs s m e) : x ∈ xs := by
  obtain ⟨t, ht⟩ := List.mem_iff_getElem?.1 h
  rw [rot_get h1 h2 h3] at ht
  split at ht
  · exact List.mem_of_getElem? ht
  · split at ht
    · exact List.mem_of_getElem? ht
    · split at ht <;> exact List.mem_of_getElem? ht
theorem slid_at (h : Slid zs ts i j) : rk f ts j = rk f zs i := by
  unfold Go.Kb.rk
  rw [h.at', if_neg (Nat.lt_irrefl _), if_pos rfl]
theorem slid_below (h : Slid zs ts i j) (hj : 0 < j) : rk f ts (j - 1) = rk f zs (j - 1) := by
  unfold Go.Kb.rk
  rw [h.at', if_pos (by omega)]
structure Slir (zs ts : List α) (a k : Nat) : Prop where
  len : ts.length = zs.length
  at' : ∀ t, ts[t]? = if t < a then zs[t]? else if t < k then zs[t + 1]? else if t = k then zs[a]? else zs[t]?
theorem Slir.refl : Slir zs zs a a := ⟨rfl, fun t => by
  by_cases h1 : t < a
  · rw [if_pos h1]
  · rw [if_neg h1, if_neg h1]
    split
    · rename_i h; rw [h]
    · rfl⟩
theorem Slir.step (h : Slir zs ts a k) (hak : a ≤ k) (hk : k + 1 < zs.length) : Slir zs (swp ts k (k + 1)) a (k + 1) := by
  have hl := h.len
  obtain ⟨x, hx⟩ := get_some (xs := ts) (i := k) (by omega)
  obtain ⟨y, hy⟩ := get_some (xs := ts) (i := k + 1) (by omega)
  have ex : zs[a]? = some x := by rw [← hx, h.at', if_neg (by omega), if_neg (by omega), if_pos rfl]
  have ey : zs[k + 1]? = some y := by rw [← hy, h.at', if_neg (by omega), if_neg (by omega), if_neg (by omega)]
  refine ⟨by rw [swp_length, hl], fun t => ?_⟩
  rw [swp_at hx hy]
  by_cases e1 : t = k + 1
  · rw [if_pos e1, if_neg (by omega), if_neg (by omega), if_pos e1, ex]
  · rw [if_neg e1]
    by_cases e2 : t = k
    · rw [if_pos e2, if_neg (by omega), if_pos (by omega), e2, ey]
    · rw [if_neg e2]
      by_cases e3 : t < a
      · have el : ts[t]? = zs[t]? := by rw [h.at', if_pos e3]
        rw [el, if_pos e3]
      · by_cases e4 : t < k
        · have el : ts[t]? = zs[t + 1]? := by rw [h.at', if_neg e3, if_pos e4]
          rw [el, if_neg e3, if_pos (by omega)]
        · have el : ts[t]? = zs[t]? := by rw [h.at', if_neg e3, if_neg e4, if_neg e2]
          rw [el, if_neg e3, if_neg (by omega), if_neg e1]
theorem Slir.mem (h : Slir zs ts a k) {x : α} (hx : x ∈ ts) : x ∈ zs := by
  obtain ⟨t, ht⟩ := List.mem_iff_getElem?.1 hx
  rw [h.at'] at ht
  split at ht
  · exact List.mem_of_getElem? ht
  · split at ht
    · exact List.mem_of_getElem? ht
    · split at ht <;> exact List.mem_of_getElem? ht
theorem seg_one {x : α} (h : xs[i]? = some x) : seg xs i (i + 1) = [x] := by
  unfold Go.Kb.seg
  obtain ⟨hh, hv⟩ := List.getElem?_eq_some_iff.1 h
  rw [show i + 1 - i = 1 by omega, List.drop_eq_getElem_cons hh, List.take_succ_cons, List.take_zero, hv]
theorem srt_sub (h : Srt f (seg xs i j)) (hj : j ≤ xs.length) (h1 : i ≤ s) (h2 : e ≤ j) : Srt f (seg xs s e) :=
  (srt_seg (by omega)).2 fun p q hp hq he => (srt_seg hj).1 h p q (by omega) hq (by omega)
theorem front_done (h : Slir xs ts a (i - 1)) (h1 : a + 1 ≤ i) (h2 : i ≤ b) (h3 : b ≤ xs.length) (hs : Srt f (seg xs (a + 1) b)) (k1 : ∀ t, a + 1 ≤ t → t < i → rk f xs t < rk f xs a) (k2 : ∀ t, i ≤ t → t < b → rk f xs a ≤ rk f xs t) : Upto f xs a b ts := by
  have hl := h.len
  obtain ⟨x, hx⟩ := get_some (xs := xs) (i := a) (by omega)
  have fx : rk f xs a = f x := rk_at hx
  have e1 : seg xs a b = ([] ++ [x]) ++ (seg xs (a + 1) i ++ seg xs i b) := by
    rw [seg_split (show a ≤ a + 1 by omega) (show a + 1 ≤ b by omega), seg_one hx, seg_split h1 h2]; rfl
  have e2 : seg ts a b = seg xs (a + 1) i ++ ([x] ++ seg xs i b) := by
    refine seg_ext (by omega) (by simp only [List.length_append, List.length_cons, List.length_nil]; rw [seg_length (by omega), seg_length (by omega)]; omega) fun t t1 t2 => ?_
    rw [List.getElem?_append, seg_length (by omega), h.at', if_neg (show ¬ t < a by omega)]
    by_cases c1 : t < i - 1
    · rw [if_pos (by omega), if_pos c1, seg_get (by omega)]; congr 1; omega
    · rw [if_neg (by omega), if_neg c1]
      by_cases c2 : t = i - 1
      · rw [if_pos c2, show t - a - (i - (a + 1)) = 0 by omega, hx]; rfl
      · rw [if_neg c2, show t - a - (i - (a + 1)) = (t - i) + 1 by omega]
        show (seg xs i b)[t - i]? = _
        rw [seg_get (by omega)]; congr 1; omega
  refine upto_of (by omega) h3 (by omega) (fun t ht => ?_) ?_
  · rw [h.at']
    rcases ht with ht | ht
    · rw [if_pos ht]
    · rw [if_neg (by omega), if_neg (by omega), if_neg (by omega)]
  · have hb : ∀ y ∈ seg xs i b, f x ≤ f y := fun y hy => by
      obtain ⟨t, t1, t2, t3⟩ := mem_rk (f := f) hy
      rw [← t3, ← fx]; exact k2 t t1 t2
    rw [e1, e2]
    refine merge_parts (List.pairwise_singleton _ _) (by rw [← seg_split h1 h2]; exact hs) (fun z hz y hy => ?_) (fun z hz => by cases hz) (Stb.refl ?_) (Stb.refl ?_)
    · obtain rfl : z = x := by simpa using hz
      obtain ⟨t, t1, t2, t3⟩ := mem_rk (f := f) hy
      rw [← t3, ← fx]; exact k1 t t1 t2
    · exact srt_sub hs h3 (Nat.le_refl _) h2
    · exact List.pairwise_cons.2 ⟨hb, srt_sub hs h3 h1 (Nat.le_refl _)⟩
/-! The merge itself. -/
theorem rot_same (h1 : s ≤ m) (h2 : m ≤ e) (h3 : e ≤ xs.length) (h : ¬ (s < m ∧ m < e)) : rot xs s m e = xs := by
  have := parts (xs := xs) (show s ≤ e by omega) h3
  unfold rot
  rw [seg_split h1 h2] at this
  rcases Nat.lt_or_ge s m with h4 | h4
  · have h5 : e ≤ m := Nat.le_of_not_lt fun h5 => h ⟨h4, h5⟩
    rw [seg_nil h5] at this ⊢
    simpa using this.symm
  · rw [seg_nil h4] at this ⊢
    simpa using this.symm
theorem rot_segs (h1 : a ≤ s) (h2 : s ≤ m) (h3 : m ≤ e) (h4 : e ≤ b) (h5 : b ≤ xs.length) : seg (rot xs s m e) a s = seg xs a s ∧ seg (rot xs s m e) s (s + (e - m)) = seg xs m e ∧ seg (rot xs s m e) (s + (e - m)) e = seg xs s m ∧ seg (rot xs s m e) e b = seg xs e b := by
  have lr := rot_length h2 h3 (show e ≤ xs.length by omega)
  have gr : ∀ i, (rot xs s m e)[i]? = _ := fun i => rot_get (i := i) h2 h3 (show e ≤ xs.length by omega)
  refine ⟨?_, ?_, ?_, ?_⟩
  · exact seg_same lr.symm (by omega) fun t t1 t2 => by rw [gr, if_pos t2]
  · refine seg_ext (by omega) (by rw [seg_length (by omega)]; omega) fun t t1 t2 => ?_
    rw [gr, if_neg (by omega), if_pos t2, seg_get (by omega)]
  · refine seg_ext (by omega) (by rw [seg_length (by omega)]; omega) fun t t1 t2 => ?_
    rw [gr, if_neg (by omega), if_neg (by omega), if_pos t2, seg_get (by omega)]; congr 1; omega
  · exact seg_same lr.symm (by omega) fun t t1 t2 => by rw [gr, if_neg (by omega), if_neg (by omega), if_neg (by omega)]
theorem two_skip (h1 : a ≤ s) (h2 : s ≤ c) (h3 : c ≤ xs.length) (h : ¬ (a < s ∧ s < c)) (hA : Srt f (seg xs a s)) (hB : Srt f (seg xs s c)) : Upto f xs a c xs := by
  refine Upto.refl (by omega) h3 ?_
  rcases Nat.lt_or_ge a s with h4 | h4
  · obtain rfl : s = c := by omega
    exact hA
  · obtain rfl : a = s := by omega
    exact hB
theorem upto_behind (hu : Upto f xs a c ys) (h1 : a ≤ c) (h2 : c ≤ i) (h3 : i ≤ j) (h4 : j ≤ xs.length) : seg ys i j = seg xs i j :=
  seg_same (hu.length h1 (by omega)).symm h4 fun t t1 t2 => hu.get h1 (by omega) (.inr (by omega))
theorem sym_k1 (hL : Srt f (seg xs a m)) (hR : Srt f (seg xs m b)) (h1 : a ≤ s) (h2 : s ≤ m) (h3 : m ≤ e) (h4 : e ≤ b) (h5 : b ≤ xs.length) (h : s = m ∨ e = m ∨ rk f xs (e - 1) < rk f xs s) : ∀ x ∈ seg xs s m, ∀ y ∈ seg xs m e, f y < f x := fun x hx y hy => by
  obtain ⟨t, t1, t2, t3⟩ := mem_rk (f := f) hx
  obtain ⟨u, u1, u2, u3⟩ := mem_rk (f := f) hy
  have := (srt_seg (by omega)).1 hL s t h1 t1 t2
  have := (srt_seg h5).1 hR u (e - 1) u1 (by omega) (by omega)
  omega
theorem sym_k2 (hL : Srt f (seg xs a m)) (hR : Srt f (seg xs m b)) (h1 : a ≤ s) (h2 : s ≤ m) (h3 : m ≤ e) (h4 : e ≤ b) (h5 : b ≤ xs.length) (h : s = a ∨ e = b ∨ rk f xs (s - 1) ≤ rk f xs e) : ∀ x ∈ seg xs a s, ∀ y ∈ seg xs e b, f x ≤ f y := fun x hx y hy => by
  obtain ⟨t, t1, t2, t3⟩ := mem_rk (f := f) hx
  obtain ⟨u, u1, u2, u3⟩ := mem_rk (f := f) hy
  have := (srt_seg (by omega)).1 hL t (s - 1) t1 (by omega) (by omega)
  have := (srt_seg h5).1 hR e u h3 u1 u2
  omega
/-! Blocks. -/
def Bk (f : α → Nat) (xs ys : List α) (c lo hi : Nat) : Prop := ∀ s, lo ≤ s → s < hi → s % c = 0 → Stb f (seg xs s (min (s + c) xs.length)) (seg ys s (min (s + c) xs.length))
theorem gap (hs : s % c = 0) (ha : a % c = 0) (h : s < a) : s + c ≤ a := by
  obtain ⟨p, rfl⟩ := Nat.dvd_of_mod_eq_zero hs
  obtain ⟨q, rfl⟩ := Nat.dvd_of_mod_eq_zero ha
  have : p < q := Nat.lt_of_mul_lt_mul_left h
  calc c * p + c = c * (p + 1) := by rw [Nat.mul_succ]
    _ ≤ c * q := Nat.mul_le_mul_left c this
theorem bk_ins (hl : ys.length = xs.length) (hb : Bk f xs ys c 0 a) (ha : a % c = 0) (hab : a ≤ b) (eb : b = min (a + c) xs.length) (hsm : ∀ t, a ≤ t → ys[t]? = xs[t]?) (hu : Upto f ys a b zs) : zs.length = xs.length ∧ Bk f xs zs c 0 b ∧ ∀ t, b ≤ t → zs[t]? = xs[t]? := by
  have lz := hu.length hab (by omega)
  refine ⟨by omega, fun s _ hs h0 => ?_, fun t ht => by rw [hu.get hab (by omega) (.inr ht), hsm t (by omega)]⟩
  rcases Nat.lt_or_ge s a with h1 | h1
  · have hg := gap h0 ha h1
    have := hb s (Nat.zero_le _) h1 h0
    rwa [show seg zs s (min (s + c) xs.length) = seg ys s (min (s + c) xs.length) from seg_same lz.symm (by omega) fun t t1 t2 => hu.get hab (by omega) (.inl (by omega))]
  · obtain rfl : s = a := by
      rcases Nat.eq_or_lt_of_le h1 with h2 | h2
      · exact h2.symm
      · have := gap ha h0 h2; omega
    rw [← eb]
    have h2 := hu.seg_in hab (by omega)
    rwa [show seg ys s b = seg xs s b from seg_same hl.symm (by omega) fun t t1 _ => hsm t t1] at h2
theorem bk_merge (hl : ys.length = xs.length) (hb : Bk f xs ys (2 * c) 0 a) (hc : Bk f xs ys c a xs.length) (ha : a % (2 * c) = 0) (hcp : 0 < c) (ham : a + c < xs.length) (eb : b = min (a + 2 * c) xs.length) (hu : Upto f ys a b zs) : zs.length = xs.length ∧ Bk f xs zs (2 * c) 0 b ∧ Bk f xs zs c b xs.length := by
  have lz := hu.length (by omega) (by omega)
  have hac : a % c = 0 := by
    obtain ⟨p, rfl⟩ := Nat.dvd_of_mod_eq_zero ha
    rw [Nat.mul_comm 2 c, Nat.mul_assoc, Nat.mul_mod_right]
  refine ⟨by omega, fun s _ hs h0 => ?_, fun s h1 h2 h0 => ?_⟩
  · rcases Nat.lt_or_ge s a with h1 | h1
    · have hg := gap h0 ha h1
      have := hb s (Nat.zero_le _) h1 h0
      rwa [show seg zs s (min (s + 2 * c) xs.length) = seg ys s (min (s + 2 * c) xs.length) from seg_same lz.symm (by omega) fun t t1 t2 => hu.get (by omega) (by omega) (.inl (by omega))]
    · obtain rfl : s = a := by
        rcases Nat.eq_or_lt_of_le h1 with h2 | h2
        · exact h2.symm
        · have := gap ha h0 h2; omega
      rw [← eb]
      have b1 := hc s (Nat.le_refl _) (by omega) hac
      have b2 := hc (s + c) (by omega) ham (by rw [Nat.add_mod_right]; exact hac)
      rw [show min (s + c) xs.length = s + c by omega] at b1
      rw [show min (s + c + c) xs.length = b by omega] at b2
      refine Stb.trans (fun k => ?_) (hu.seg_in (by omega) (by omega))
      rw [seg_split (xs := ys) (show s ≤ s + c by omega) (show s + c ≤ b by omega), seg_split (xs := xs) (show s ≤ s + c by omega) (show s + c ≤ b by omega), List.filter_append, List.filter_append, b1.same k, b2.same k]
  · have := hc s (by omega) h2 h0
    rwa [show seg zs s (min (s + c) xs.length) = seg ys s (min (s + c) xs.length) from seg_same lz.symm (by omega) fun t t1 t2 => hu.get (by omega) (by omega) (.inr (by omega))]
theorem bk_srt (hl : ys.length = xs.length) (hc : Bk f xs ys c a xs.length) (hac : a % c = 0) (ham : a + c < xs.length) (eb : b = min (a + c + c) xs.length) : Srt f (seg ys a (a + c)) ∧ Srt f (seg ys (a + c) b) := by
  have b1 := hc a (Nat.le_refl _) (by omega) hac
  have b2 := hc (a + c) (by omega) ham (by rw [Nat.add_mod_right]; exact hac)
  rw [show min (a + c) xs.length = a + c by omega] at b1
  rw [← eb] at b2
  exact ⟨b1.srt, b2.srt⟩
theorem mod_half (h : a % (2 * c) = 0) : a % c = 0 := by
  obtain ⟨p, rfl⟩ := Nat.dvd_of_mod_eq_zero h
  rw [Nat.mul_comm 2 c, Nat.mul_assoc, Nat.mul_mod_right]
theorem bk_last (hb : Bk f xs ys (2 * c) 0 a) (hc : Bk f xs ys c a xs.length) (ha : a % (2 * c) = 0) (hal : xs.length ≤ a + c) : Bk f xs ys (2 * c) 0 xs.length := fun s _ hs h0 => by
  rcases Nat.lt_or_ge s a with h1 | h1
  · exact hb s (Nat.zero_le _) h1 h0
  · have := hc s h1 hs (mod_half h0)
    rwa [show min (s + 2 * c) xs.length = min (s + c) xs.length by omega]
theorem bk_done (hl : ys.length = xs.length) (hb : Bk f xs ys c 0 xs.length) (hc : xs.length ≤ c) : Upto f xs 0 xs.length ys := by
  refine upto_of (Nat.zero_le _) (Nat.le_refl _) hl (fun t ht => ?_) ?_
  · rw [List.getElem?_eq_none (by omega), List.getElem?_eq_none (by omega)]
  · rcases Nat.eq_zero_or_pos xs.length with h0 | h0
    · rw [h0, seg_nil (Nat.le_refl 0), seg_nil (Nat.le_refl 0)]
      exact Stb.refl List.Pairwise.nil
    · have := hb 0 (Nat.le_refl _) h0 (Nat.zero_mod c)
      rwa [show min (0 + c) xs.length = xs.length by omega] at this
theorem upto_stb (h : Upto f xs 0 xs.length ys) : Stb f xs ys := by
  have := h.seg_in (Nat.zero_le _) (Nat.le_refl _)
  have hl := h.length (Nat.zero_le _) (Nat.le_refl _)
  have e : ∀ l : List α, seg l 0 l.length = l := fun l => by unfold Go.Kb.seg; simp
  rw [e xs, ← hl, e ys] at this
  exact this
theorem Turns.len {cur fin : List α} (h : Turns cur fin m i j) : m + j ≤ cur.length ∧ i ≤ m := by
  obtain ⟨P, U, V, S, rfl, _, h1, h2, h3, h4⟩ := h
  refine ⟨?_, h4⟩
  simp only [List.length_append]; omega
theorem Turns.same {cur fin : List α} (h : Turns cur fin m i j) {x : α} : x ∈ cur ↔ x ∈ fin := by
  obtain ⟨P, U, V, S, rfl, rfl, _, _, _, _⟩ := h
  simp only [List.mem_append]
  constructor
  · rintro (h | h | h | h)
    · exact .inl h
    · exact .inr (.inr (.inl h))
    · exact .inr (.inl h)
    · exact .inr (.inr (.inr h))
  · rintro (h | h | h | h)
    · exact .inl h
    · exact .inr (.inr (.inl h))
    · exact .inr (.inl h)
    · exact .inr (.inr (.inr h))
end
end Go.Eng

/- Calls of functions held as values; the swapper that a slice was given. -/
namespace Go.Eng
open Go.RowKit Go.Kb
section
variable {P : Program} {N : Fra} {w0 : World} {env : Env} {L : List Ent} {l : List Oper} {Q : Exit → Act → World → Prop} {rest : List Oper} {d : Option Tmp} {ty : TypeId} {ps : String} {af : Array Edge} {gd : Option (Nat × Bool)}
theorem run_callV {f : FuncId} (hf : IsFn P f) {ρ : Operand → Value} {x : Operand} {caps : Array Value} {xs : List Operand} {ts : Array TypeId} (w : World) (hρ : ρ x = .func (.func f) #[] caps) :
    (execOp ρ ⟨d, .call { callee := .value x, args := xs.toArray, argTypes := ts }, ty, ps, af, gd⟩).run P w = .ok (.enter f (xs.map ρ ++ caps.toList).toArray) w := by
  obtain ⟨fn, h1, h2, h3⟩ := hf.fn
  have h2' : ¬ fn.body = none := fun e => by simp [e] at h2
  have h3' : ¬ fn.name = "runtime.NumGoroutine" := by simpa using h3
  have e : ((List.map ρ xs).toArray ++ caps) = (List.map ρ xs ++ caps.toList).toArray := by apply Array.ext'; simp
  simp [execOp, resolve, hρ, Deferred.ofValue, invoke, callFunc, h1, h2', h3', Result.andThen, e]
theorem yl_callV {f : FuncId} {x : Operand} {caps : Array Value} {xs : List Operand} {ts : Array TypeId} {vs vs2 : List Value} {v : Value} {pre : Prop} (hx : ev env x = some (.func (.func f) #[] caps)) (hxs : evl env xs = some vs) (e : vs ++ caps.toList = vs2) [hf : IsFn P f] [hc : FnQ P f w0 L vs2 v pre] (hp : pre) :
    Yl P N w0 env L ⟨d, .call { callee := .value x, args := xs.toArray, argTypes := ts }, ty, ps, af, gd⟩ v := fun a ha w hw => by
  unfold Oper.quietAt
  rw [run_callV hf w (ha.ev hx), ha.evl hxs, e]
  exact ⟨rfl, hc.h hp w hw⟩
end
end Go.Eng

/- What sort.SliceStable asks of its argument. -/
namespace Go.Eng
open Go.RowKit Go.Kb
section
variable {P : Program} {N : Fra} {w0 : World} {env : Env} {L : List Ent} {l : List Oper} {Q : Exit → Act → World → Prop} {rest : List Oper} {d : Option Tmp} {ty : TypeId} {ps : String} {af : Array Edge}
variable {α : Type} {enc : α → Array Value} {c : Nat} {s : Sv} {xs : List α} {t e : TypeId} {i ie : TypeInfo} {f : FuncId} {fn : Func} {as' : List Operand} {ts : Array TypeId}
section
variable {gd : Option (Nat × Bool)}
theorem ry_makeFn {fn : Fn} {c : List Operand} {vs : List Value} (hc : evl env c = some vs) : Ry P N w0 env L ⟨d, .makeFunc fn #[] c.toArray, ty, ps, af, gd⟩ (.func fn #[] vs.toArray) := fun a w ha _ => by
  simp only [execOp, Instr.makeFunc]
  rw [show c.toArray.map a.eval = vs.toArray by rw [List.map_toArray, ha.evl hc]]
  simp [Sem.run_pure, Result.andThen]
end
theorem Sv.val_is (s : Sv) : ∃ p n c, s.val = .slice p n c := by
  unfold Sv.val; split <;> exact ⟨_, _, _, rfl⟩
theorem sq_valueOf (hf : P.funcs[f]? = some fn) (hname : (fn.name == "runtime.NumGoroutine") = false) (hb : fn.body.isNone = true) (hn : Extern.findNext fn = none) (he : Extern.find fn = some (fun args => Extern.ReflectliteValue.unpack (args.getD 0 (.tuple #[]))))
    (hi : P.info? t = some i) (hd' : i.desc = .slice e) (hx : evl env as' = some [.iface t s.val])
    (hk : ∀ b, Sq P N w0 l Q rest (putE env d (.agg #[typeHandle P t, .pointer (some ⟨b, 0, none⟩), .int .u64 151])) (blk b #[s.val] t :: L)) (hd : dstOk N d = true := by rfl) :
    Sq P N w0 l Q (⟨d, .call { callee := .value (.func f), args := as'.toArray, argTypes := ts }, ty, ps, af, none⟩ :: rest) env L := by
  obtain ⟨p, n, c, e1⟩ := Sv.val_is s
  refine sq_native hf hname hb hn he hx (fun w hw => ⟨_, _, _, ?_, hw.alloc #[s.val] t, hk _⟩) hd
  have := Lib.run_valueOf_slice t e i hi hd' p n c w
  rw [e1]
  exact this
theorem sq_swapper (hf : P.funcs[f]? = some fn) (hname : (fn.name == "runtime.NumGoroutine") = false) (hb : fn.body.isNone = true) (hn : Extern.findNext fn = none) (he : Extern.find fn = some (Extern.ReflectliteSwapper.swapper "internal/reflectlite" (Extern.ReflectliteValue.valueError "Swapper")))
    (hi : P.info? t = some i) (hd' : i.desc = .slice e) (hie : P.info? e = some ie) {ke : Nat} (hke : ∀ w, (Extern.Rtype.kind e).run P w = .ok ke w) {f9 : Nat}
    (h0 : ∃ f, P.funcs.findIdx? (·.name == "internal/reflectlite" ++ ".Swapper$" ++ toString (Lib.swapperK 0 ie ke)) = some f) (h1 : ∃ f, P.funcs.findIdx? (·.name == "internal/reflectlite" ++ ".Swapper$" ++ toString (Lib.swapperK 1 ie ke)) = some f)
    (h9 : ∀ n, 2 ≤ n → Lib.swapperK n ie ke = 9) (hf9 : P.funcs.findIdx? (·.name == "internal/reflectlite" ++ ".Swapper$" ++ toString 9) = some f9) [q : Hd w0 L s enc c xs] (hx : evl env as' = some [.iface t s.val])
    (hk : ∀ (k : FuncId) (caps : Array Value), (2 ≤ xs.length → Value.func (.func k) #[] caps = .func (.func f9) #[] #[s.val, typeHandle P e]) → Sq P N w0 l Q rest (putE env d (.func (.func k) #[] caps)) L) (hd : dstOk N d = true := by rfl) :
    Sq P N w0 l Q (⟨d, .call { callee := .value (.func f), args := as'.toArray, argTypes := ts }, ty, ps, af, none⟩ :: rest) env L := by
  refine sq_native hf hname hb hn he hx (fun w hw => ?_) hd
  have hl := q.h w hw
  obtain ⟨p, n, c', e1⟩ := Sv.val_is s
  have hlen : n = xs.length := by
    rw [← hl.len]
    cases hs : s.nil with
    | true => rw [Sv.val_nil hs] at e1; injection e1 with _ h _; rw [← h, (hl.ok.nil hs).1]
    | false => rw [Sv.val_some hs] at e1; injection e1 with _ h _; exact h.symm
  have go : ∀ g, P.funcs.findIdx? (·.name == "internal/reflectlite" ++ ".Swapper$" ++ toString (Lib.swapperK n ie ke)) = some g → (2 ≤ n → g = f9 ∧ Lib.swapperK n ie ke = 9) → ∃ v w' L', (Extern.ReflectliteSwapper.swapper "internal/reflectlite" (Extern.ReflectliteValue.valueError "Swapper") [Value.iface t s.val].toArray).run P w = .ok v w' ∧ Mem w0 L' w' ∧ Sq P N w0 l Q rest (putE env d v) L' := fun g hg h2 => by
    have r := Lib.run_swapper_slice t e i ie hi hd' hie ke hke p n c' g hg w
    refine ⟨_, _, _, by rw [e1]; exact r, hw, hk _ _ fun h => ?_⟩
    obtain ⟨rfl, h3⟩ := h2 (by omega)
    rw [h3, e1]; rfl
  rcases Nat.lt_or_ge n 2 with h | h
  · rcases Nat.eq_zero_or_pos n with rfl | h2
    · obtain ⟨g, hg⟩ := h0
      exact go g hg fun h => by omega
    · obtain rfl : n = 1 := by omega
      obtain ⟨g, hg⟩ := h1
      exact go g hg fun h => by omega
  · exact go f9 (by rw [h9 n h]; exact hf9) fun _ => ⟨rfl, h9 n h⟩
theorem sq_valueLen (hf : P.funcs[f]? = some fn) (hname : (fn.name == "runtime.NumGoroutine") = false) (hb : fn.body.isNone = true) (hn : Extern.findNext fn = none) (he : Extern.find fn = some (Extern.ReflectliteValue.method (Extern.ReflectliteValue.valueError "reflectlite.Value.Len" 0) Extern.ReflectliteValue.len))
    (hi : P.info? t = some i) (hd' : i.desc = .slice e) (hpk : P.packed t = false) {b k : Nat} {T : TypeId} [hh : Has L b #[s.val] T k] [q : Hd w0 L s enc c xs] (hx : evl env as' = some [.agg #[typeHandle P t, .pointer (some ⟨b, 0, none⟩), .int .u64 151]])
    (hk : Sq P N w0 l Q rest (putE env d (.int .i64 (xs.length : Nat))) L) (hd : dstOk N d = true := by rfl) :
    Sq P N w0 l Q (⟨d, .call { callee := .value (.func f), args := as'.toArray, argTypes := ts }, ty, ps, af, none⟩ :: rest) env L := by
  refine sq_native hf hname hb hn he hx (fun w hw => ⟨_, _, _, ?_, hw, hk⟩) hd
  have hl := q.h w hw
  obtain ⟨p, n, c', e1⟩ := Sv.val_is s
  have hlen : n = xs.length := by
    rw [← hl.len]
    cases hs : s.nil with
    | true => rw [Sv.val_nil hs] at e1; injection e1 with _ h _; rw [← h, (hl.ok.nil hs).1]
    | false => rw [Sv.val_some hs] at e1; injection e1 with _ h _; exact h.symm
  rw [← hlen]
  exact Lib.run_valueLen_slice t e i hi hd' hpk ⟨b, 0, none⟩ p n c' w (by rw [hw.cell hh.h, ← e1]; rfl)
end
end Go.Eng

/- A table sorted: those that may, in order, the last of equals. No program in sight. -/
namespace Go.Eng
open Go.Kb
def keepF (xs : List Rt) : List Rt := xs.filter fun r => pmay r.p
def delI (xs : List Rt) : Int := match xs.findIdx? (fun r => !pmay r.p) with
  | some i => (i : Int)
  | none => -1
theorem delI_at {xs : List Rt} {i : Nat} {x : Rt} (hx : xs[i]? = some x) (h : pmay x.p = false) (hall : ∀ y ∈ xs.take i, pmay y.p = true) : delI xs = (i : Int) := by
  have : xs.findIdx? (fun r => !pmay r.p) = some i := by
    obtain ⟨hl, hv⟩ := List.getElem?_eq_some_iff.1 hx
    rw [List.findIdx?_eq_some_iff_getElem]
    refine ⟨hl, by rw [hv, h]; rfl, fun j hj => ?_⟩
    have := hall (xs[j]'(by omega)) (by rw [List.mem_take_iff_getElem]; exact ⟨j, by omega, rfl⟩)
    simp [this]
  rw [delI, this]
theorem delI_no {xs : List Rt} (hall : ∀ y ∈ xs, pmay y.p = true) : delI xs = -1 := by
  have : xs.findIdx? (fun r => !pmay r.p) = none := by
    rw [List.findIdx?_eq_none_iff]
    intro x hx
    simp [hall x hx]
  rw [delI, this]
theorem delI_yes {xs : List Rt} (h : delI xs ≠ -1) : ∃ i : Nat, delI xs = (i : Int) ∧ i < xs.length ∧ keepF (xs.take (i + 1)) = xs.take i := by
  unfold delI at h ⊢
  cases hf : xs.findIdx? (fun r => !pmay r.p) with
  | none => rw [hf] at h; exact absurd rfl h
  | some i =>
    obtain ⟨hl, hv, hj⟩ := List.findIdx?_eq_some_iff_getElem.1 hf
    refine ⟨i, rfl, hl, ?_⟩
    have hv' : pmay xs[i].p = false := by simpa using hv
    rw [keepF, List.take_add_one, List.getElem?_eq_getElem hl, List.filter_append]
    have e1 : (xs.take i).filter (fun r => pmay r.p) = xs.take i := by
      rw [List.filter_eq_self]
      intro y hy
      obtain ⟨j, hj1, rfl⟩ := List.mem_take_iff_getElem.1 hy
      have := hj j (by omega)
      simpa using this
    rw [e1]
    simp [hv']
theorem delI_same {xs : List Rt} (h : delI xs = -1) : keepF xs = xs := by
  unfold delI at h
  cases hf : xs.findIdx? (fun r => !pmay r.p) with
  | some i => rw [hf] at h; simp only at h; omega
  | none =>
    rw [List.findIdx?_eq_none_iff] at hf
    rw [keepF, List.filter_eq_self]
    intro x hx
    simpa using hf x hx
theorem keepF_may (xs : List Rt) : MayAll (keepF xs) := fun x hx => by
  have := (List.mem_filter.1 hx).2
  simpa using this
theorem keepF_length (xs : List Rt) : (keepF xs).length ≤ xs.length := List.length_filter_le _ _
structure Dl (xs cur : List Rt) (i j : Nat) : Prop where
  len : cur.length = xs.length
  lt : i < j
  le : j ≤ xs.length
  kept : cur.take i = keepF (xs.take j)
  left : cur.drop j = xs.drop j
theorem Dl.start {xs : List Rt} {i : Nat} (h : i < xs.length) (hk : keepF (xs.take (i + 1)) = xs.take i) : Dl xs xs i (i + 1) := ⟨rfl, Nat.lt_succ_self _, h, hk.symm, rfl⟩
theorem Dl.at {xs cur : List Rt} {i j : Nat} {x : Rt} (h : Dl xs cur i j) (hx : cur[j]? = some x) : xs[j]? = some x := by
  have := congrArg (·[0]?) h.left
  simpa [hx] using this.symm
theorem Dl.keep {xs cur : List Rt} {i j : Nat} {x : Rt} (h : Dl xs cur i j) (hx : cur[j]? = some x) (hm : pmay x.p = true) : Dl xs (cur.set i x) (i + 1) (j + 1) := by
  have hl := (List.getElem?_eq_some_iff.1 hx).1
  have hlen := h.len
  have hlt := h.lt
  refine ⟨by rw [List.length_set, hlen], Nat.succ_lt_succ hlt, by omega, ?_, ?_⟩
  · rw [List.take_add_one, List.getElem?_set_self (by omega), List.take_set_of_le (Nat.le_refl _), h.kept, List.take_add_one (l := xs), h.at hx]
    simp [keepF, List.filter_append, hm]
  · rw [List.drop_set_of_lt (by omega), ← List.drop_drop, h.left, List.drop_drop]
theorem Dl.drop {xs cur : List Rt} {i j : Nat} {x : Rt} (h : Dl xs cur i j) (hx : cur[j]? = some x) (hm : pmay x.p = false) : Dl xs cur i (j + 1) := by
  have hl := (List.getElem?_eq_some_iff.1 hx).1
  have hlen := h.len
  have hlt := h.lt
  refine ⟨hlen, by omega, by omega, ?_, ?_⟩
  · rw [h.kept, List.take_add_one, h.at hx]
    simp [keepF, List.filter_append, hm]
  · rw [← List.drop_drop, h.left, List.drop_drop]
theorem Dl.done {xs cur : List Rt} {i : Nat} (h : Dl xs cur i xs.length) : cur.take i = keepF xs := by rw [h.kept, List.take_length]
/-! The last of equals. -/
def sameN (ys : List Rt) (i : Nat) : Bool := match ys[i]?, ys[i + 1]? with
  | some x, some y => decide (y.p = x.p)
  | _, _ => false
def ddF (ys : List Rt) : Nat → List Rt
  | 0 => []
  | i + 1 => if sameN ys i = true then ddF ys i else ddF ys i ++ (ys[i]?).toList
theorem ddF_length (ys : List Rt) : ∀ i, (ddF ys i).length ≤ i
  | 0 => Nat.le_refl _
  | i + 1 => by
    have := ddF_length ys i
    unfold ddF
    split
    · omega
    · rw [List.length_append]
      have : (ys[i]?).toList.length ≤ 1 := by cases ys[i]? <;> simp
      omega
theorem ddF_yes {ys : List Rt} {i : Nat} {x y : Rt} (hx : ys[i]? = some x) (hy : ys[i + 1]? = some y) (h : y.p = x.p) : ddF ys (i + 1) = ddF ys i := by
  rw [ddF, if_pos (by unfold sameN; rw [hx, hy]; simp [h])]
theorem ddF_no {ys : List Rt} {i : Nat} {x : Rt} (hx : ys[i]? = some x) (h : ∀ y, ys[i + 1]? = some y → y.p ≠ x.p) : ddF ys (i + 1) = ddF ys i ++ [x] := by
  rw [ddF, if_neg (by
    unfold sameN
    rw [hx]
    cases hy : ys[i + 1]? with
    | none => simp
    | some y => simp [h y hy]), hx]; rfl
def tsortF (ts : List Rt) : List Rt := ddF (srt rkR (keepF ts)) (srt rkR (keepF ts)).length
theorem tsort_of {ts ys : List Rt} (h : Stb rkR (keepF ts) ys) : tsortF ts = ddF ys ys.length := by
  rw [tsortF, Stb.uniq (srt_stb (keepF ts)) h]
/-! Routes put one after another. -/
theorem putF_len (r : Rt) : ∀ (l : List Rt) (d : Bool), (putF r l d).length + (if d then 1 else 0) ≤ l.length + 1
  | [], d => by cases d <;> simp [putF]
  | x :: l, d => by
    have h1 := putF_len r l true
    have h2 := putF_len r l d
    have h3 : ((if x.p ≠ r.p then [x] else []) : List Rt).length ≤ 1 := by split <;> simp
    cases d with
    | true =>
      rw [putF_no (.inl rfl), List.length_append, List.length_cons]
      simp only [if_true] at *
      omega
    | false =>
      cases hx : pless x.p r.p with
      | true =>
        rw [putF_no (.inr hx), List.length_append, List.length_cons]
        simp only [Bool.false_eq_true, if_false, if_true] at *
        omega
      | false =>
        rw [putF_yes rfl hx, List.length_append, List.length_append, List.length_cons]
        simp only [Bool.false_eq_true, if_false, if_true, List.length_cons, List.length_nil] at *
        omega
def rsortF (ts : List Rt) : List Rt := ts.foldl (fun t r => if pmay r.p = true then putF r t false else t) []
theorem rsort_yes {ts : List Rt} {i : Nat} {x : Rt} (hx : ts[i]? = some x) (h : pmay x.p = true) : rsortF (ts.take (i + 1)) = putF x (rsortF (ts.take i)) false := by
  rw [rsortF, List.take_add_one, hx, List.foldl_append]
  simp [h, rsortF]
theorem rsort_no {ts : List Rt} {i : Nat} {x : Rt} (hx : ts[i]? = some x) (h : pmay x.p = false) : rsortF (ts.take (i + 1)) = rsortF (ts.take i) := by
  rw [rsortF, List.take_add_one, hx, List.foldl_append]
  simp [h, rsortF]
theorem putF_len1 (r : Rt) (l : List Rt) : (putF r l false).length ≤ l.length + 1 := by
  have := putF_len r l false
  simpa using this
end Go.Eng

/- What the laws of package table ask: the best by the reference, who lies under, the order. No program in sight. -/
namespace Go.Eng
open Go.Kb
variable {t ts : List Rt} {k : Key} {bits : Int} {p : Pfx}
def undF (ts : List Rt) (p : Pfx) : List Rt := ts.filter fun r => pcovers p r.p
def undT (ts : List Rt) (p : Pfx) : List Rt := if getOk ts p = true then undF ts p else []
def shortF (ts : List Rt) : List Rt := ts.filter fun r => decide (r.p.bits = 32)
theorem undF_bad (h : pmay p = false) : undF ts p = [] := by
  rw [undF, List.filter_eq_nil_iff]
  intro r _
  simp [pcovers, h]
theorem undT_right (h : tright ts = true) : undT ts p = undF ts p := by
  unfold undT
  split
  · rfl
  · rename_i h1
    rw [undF_bad]
    simpa [getOk, h] using h1
def nort : Rt := ⟨⟨0, -1, 0#128⟩, 0⟩
def BestTo (ts : List Rt) (k : Key) (bits : Int) (i : Nat) (r : Rt) : Prop :=
  (r = nort ∧ ∀ q ∈ ts.take i, onWay k bits q = false) ∨ (r ∈ ts ∧ onWay k bits r = true ∧ ∀ q ∈ ts.take i, onWay k bits q = true → q.p.len ≤ r.p.len)
theorem BestTo.zero : BestTo ts k bits 0 nort := .inl ⟨rfl, fun q hq => by simp at hq⟩
theorem on_may {r : Rt} (h : onWay k bits r = true) : pmay r.p = true := by
  simp only [onWay, pfits, Bool.and_eq_true] at h; exact h.2.1.1
theorem on_len {r : Rt} (h : onWay k bits r = true) : 0 ≤ r.p.len := ((pmay_iff _).1 (on_may h)).2.1
theorem BestTo.take {r e : Rt} {i : Nat} (h : BestTo ts k bits i r) (he : ts[i]? = some e) (ho : onWay k bits e = true) (hl : r.p.len < e.p.len) : BestTo ts k bits (i + 1) e := by
  refine .inr ⟨List.mem_of_getElem? he, ho, fun q hq hq2 => ?_⟩
  rw [List.take_add_one, he, List.mem_append] at hq
  rcases hq with hq | hq
  · rcases h with ⟨_, h2⟩ | ⟨_, _, h2⟩
    · rw [h2 q hq] at hq2; cases hq2
    · have := h2 q hq hq2; omega
  · obtain rfl : q = e := by simpa using hq
    exact Int.le_refl _
theorem BestTo.pass {r e : Rt} {i : Nat} (h : BestTo ts k bits i r) (he : ts[i]? = some e) (hn : onWay k bits e = true → e.p.len ≤ r.p.len) : BestTo ts k bits (i + 1) r := by
  rcases h with ⟨rfl, h2⟩ | ⟨h1, h3, h2⟩
  · refine .inl ⟨rfl, fun q hq => ?_⟩
    rw [List.take_add_one, he, List.mem_append] at hq
    rcases hq with hq | hq
    · exact h2 q hq
    · obtain rfl : q = e := by simpa using hq
      cases ho : onWay k bits q with
      | false => rfl
      | true => have h4 : q.p.len ≤ -1 := hn ho; have := on_len ho; omega
  · refine .inr ⟨h1, h3, fun q hq hq2 => ?_⟩
    rw [List.take_add_one, he, List.mem_append] at hq
    rcases hq with hq | hq
    · exact h2 q hq hq2
    · obtain rfl : q = e := by simpa using hq
      exact hn hq2
theorem BestTo.none {r : Rt} (hr : tright ts = true) (hk : pmay ⟨bits, bits, k⟩ = true) (h : BestTo ts k bits ts.length r) (hl : r.p.len < 0) : bestE ts k bits = 6 ∧ bestR ts k bits = zroute := by
  rcases h with ⟨_, h2⟩ | ⟨_, h3, _⟩
  · rw [List.take_length] at h2
    rcases best_cases (k := k) (bits := bits) hr with ⟨_, h4, h5, _⟩ | ⟨h4, h5, _⟩
    · rw [h2 _ h4] at h5; cases h5
    · rw [if_pos hk] at h4; exact ⟨h4, h5⟩
  · have := on_len h3; omega
theorem BestTo.some {r : Rt} (hr : tright ts = true) (h : BestTo ts k bits ts.length r) (hl : 0 ≤ r.p.len) : bestE ts k bits = 0 ∧ bestR ts k bits = r := by
  rcases h with ⟨rfl, _⟩ | ⟨h1, h3, h2⟩
  · exact absurd hl (by decide)
  · rw [List.take_length] at h2
    exact best_uniq hr h1 h3 h2
theorem best_bad (hr : tright ts = true) (hk : pmay ⟨bits, bits, k⟩ = false) : bestE ts k bits = 1 ∧ bestR ts k bits = zroute := by
  rcases best_cases (k := k) (bits := bits) hr with ⟨_, _, h5, _⟩ | ⟨h4, h5, _⟩
  · simp only [onWay, pfits, Bool.and_eq_true, decide_eq_true_eq] at h5
    obtain ⟨e1, ⟨e2, e3⟩, e4⟩ := h5
    obtain ⟨a1, a2, a3, a4⟩ := (pmay_iff _).1 e2
    have : pmay ⟨bits, bits, k⟩ = true := (pmay_iff _).2 ⟨by rw [← e1]; exact a1, by show 0 ≤ bits; omega, Int.le_refl _, by show kcut k bits = k; rw [← e1]; exact e3⟩
    rw [hk] at this; cases this
  · rw [if_neg (by rw [hk]; simp)] at h4; exact ⟨h4, h5⟩
/-! The last of a prefix. -/
def lastP (l : List Rt) (p : Pfx) : Option Rt := (l.filter fun r => decide (r.p = p)).getLast?
theorem lastP_app (l : List Rt) (r : Rt) (p : Pfx) : lastP (l ++ [r]) p = if r.p = p then some r else lastP l p := by
  unfold lastP
  rw [List.filter_append]
  by_cases h : r.p = p
  · rw [if_pos h]; simp [h]
  · rw [if_neg h]; simp [h]
theorem lastP_mem {l : List Rt} {p : Pfx} {x : Rt} (h : lastP l p = some x) : x ∈ l ∧ x.p = p := by
  have := List.mem_filter.1 (List.mem_of_getLast? h)
  exact ⟨this.1, by simpa using this.2⟩
theorem put_mem (hr : pmay p = true) {r x : Rt} (hp : r.p = p) (ho : Ord t) : x ∈ putF r t false ↔ x = r ∨ (x ∈ t ∧ x.p ≠ r.p) := by
  subst hp
  rw [putF_eq hr ho]
  simp only [List.mem_append, List.mem_cons, lessF, moreF, List.mem_filter]
  constructor
  · rintro (⟨h1, h2⟩ | h | ⟨h1, h2⟩)
    · exact .inr ⟨h1, less_ne (ho.may x h1) h2⟩
    · exact .inl h
    · exact .inr ⟨h1, fun e => less_ne hr h2 e.symm⟩
  · rintro (h | ⟨h1, h2⟩)
    · exact .inr (.inl h)
    · cases h3 : pless x.p r.p with
      | true => exact .inl ⟨h1, rfl⟩
      | false => exact .inr (.inr ⟨h1, less_tri (ho.may x h1) hr h3 h2⟩)
theorem put_ord {r : Rt} (hr : pmay r.p = true) (ho : Ord t) : Ord (putF r t false) := by
  rw [putF_eq hr ho]
  refine ⟨fun x hx => ?_, ?_⟩
  · simp only [List.mem_append, List.mem_cons, lessF, moreF, List.mem_filter] at hx
    rcases hx with h | rfl | h
    · exact ho.may x h.1
    · exact hr
    · exact ho.may x h.1
  · refine List.pairwise_append.2 ⟨ho.less.sublist List.filter_sublist, List.pairwise_cons.2 ⟨fun y hy => (List.mem_filter.1 hy).2, ho.less.sublist List.filter_sublist⟩, fun a ha b hb => ?_⟩
    have h1 := List.mem_filter.1 ha
    rcases List.mem_cons.1 hb with rfl | hb
    · exact h1.2
    · have h2 := List.mem_filter.1 hb
      exact less_trans' (ho.may a h1.1) hr (ho.may b h2.1) h1.2 h2.2
theorem keep_app (l : List Rt) (r : Rt) : keepF (l ++ [r]) = keepF l ++ (if pmay r.p = true then [r] else []) := by
  unfold keepF
  rw [List.filter_append]
  cases h : pmay r.p <;> simp [h]
theorem rsort_ok (l : List Rt) : Ord (rsortF l) ∧ ∀ x, x ∈ rsortF l ↔ lastP (keepF l) x.p = some x := by
  have key : ∀ n, n ≤ l.length → Ord (rsortF (l.take n)) ∧ ∀ x, x ∈ rsortF (l.take n) ↔ lastP (keepF (l.take n)) x.p = some x := by
    intro n
    induction n with
    | zero =>
      intro _
      simp only [List.take_zero]
      exact ⟨⟨fun _ h => (by simp [rsortF] at h), by simp [rsortF]⟩, fun x => by simp [rsortF, keepF, lastP]⟩
    | succ n ih =>
      intro hn
      obtain ⟨h1, h2⟩ := ih (by omega)
      obtain ⟨r, hr⟩ := get_some (xs := l) (i := n) (by omega)
      have e : l.take (n + 1) = l.take n ++ [r] := by rw [List.take_add_one, hr]; rfl
      cases hm : pmay r.p with
      | false =>
        rw [rsort_no hr hm, e, keep_app, hm]
        simpa using ⟨h1, h2⟩
      | true =>
        rw [rsort_yes hr hm]
        refine ⟨put_ord hm h1, fun x => ?_⟩
        rw [put_mem hm rfl h1, e, keep_app, hm, if_pos rfl, lastP_app, h2]
        by_cases hp : r.p = x.p
        · rw [if_pos hp]
          constructor
          · rintro (h | ⟨_, h⟩)
            · rw [h]
            · exact absurd hp.symm h
          · intro h; exact .inl (Option.some.inj h).symm
        · rw [if_neg hp]
          constructor
          · rintro (h | ⟨h, _⟩)
            · exact absurd (by rw [h]) hp
            · exact h
          · intro h; exact .inr ⟨h, fun h' => hp h'.symm⟩
  have := key l.length (Nat.le_refl _)
  rwa [List.take_length] at this
theorem ddF_mem {ys : List Rt} {x : Rt} : ∀ i, i ≤ ys.length → (x ∈ ddF ys i ↔ ∃ j, j < i ∧ ys[j]? = some x ∧ ∀ y, ys[j + 1]? = some y → y.p ≠ x.p)
  | 0, _ => by simp [ddF]
  | i + 1, hi => by
    obtain ⟨e, he⟩ := get_some (xs := ys) (i := i) (by omega)
    have ih := ddF_mem (ys := ys) (x := x) i (by omega)
    by_cases hs : ∀ y, ys[i + 1]? = some y → y.p ≠ e.p
    · rw [ddF_no he hs, List.mem_append, ih]
      constructor
      · rintro (⟨j, h1, h2, h3⟩ | h)
        · exact ⟨j, by omega, h2, h3⟩
        · obtain rfl : x = e := by simpa using h
          exact ⟨i, by omega, he, hs⟩
      · rintro ⟨j, h1, h2, h3⟩
        rcases Nat.eq_or_lt_of_le (Nat.le_of_lt_succ h1) with rfl | h4
        · right; rw [he] at h2; simp [(Option.some.inj h2).symm]
        · exact .inl ⟨j, h4, h2, h3⟩
    · obtain ⟨y, hy, hyp⟩ : ∃ y, ys[i + 1]? = some y ∧ y.p = e.p := by
        apply Classical.byContradiction
        intro hc
        exact hs fun y hy h => hc ⟨y, hy, h⟩
      rw [ddF_yes he hy hyp, ih]
      constructor
      · rintro ⟨j, h1, h2, h3⟩; exact ⟨j, by omega, h2, h3⟩
      · rintro ⟨j, h1, h2, h3⟩
        rcases Nat.eq_or_lt_of_le (Nat.le_of_lt_succ h1) with rfl | h4
        · rw [he] at h2
          obtain rfl := Option.some.inj h2
          exact absurd hyp (h3 y hy)
        · exact ⟨j, h4, h2, h3⟩
end Go.Eng

/- Both ways of sorting a table; both ways of asking it. No program in sight. -/
namespace Go.Eng
open Go.Kb
variable {t ts : List Rt} {k : Key} {bits : Int} {p : Pfx}
theorem filt_rk {l : List Rt} (hm : MayAll l) (hp : pmay p = true) : (l.filter fun r => decide (r.p = p)) = l.filter fun r => decide (rkR r = rkP p) := by
  refine List.filter_congr fun r hr => ?_
  rw [decide_eq_decide]
  exact ⟨fun e => by rw [rkR, e], fun e => rkP_inj (hm r hr) hp e⟩
theorem lastP_stb {l ys : List Rt} (h : Stb rkR l ys) (hm : MayAll l) (hp : pmay p = true) : lastP ys p = lastP l p := by
  unfold lastP
  rw [filt_rk (fun x hx => hm x (h.mem.1 hx)) hp, filt_rk hm hp, h.same]
theorem last_srt {ys : List Rt} (hs : Srt rkR ys) (hm : MayAll ys) {x : Rt} : (∃ j, j < ys.length ∧ ys[j]? = some x ∧ ∀ y, ys[j + 1]? = some y → y.p ≠ x.p) ↔ lastP ys x.p = some x := by
  constructor
  · rintro ⟨j, hj, hx, hn⟩
    obtain ⟨_, hv⟩ := List.getElem?_eq_some_iff.1 hx
    have e : ys = ys.take j ++ x :: ys.drop (j + 1) := by rw [← hv, List.getElem_cons_drop, List.take_append_drop]
    have hz : (ys.drop (j + 1)).filter (fun r => decide (r.p = x.p)) = [] := by
      rw [List.filter_eq_nil_iff]
      intro y hy
      obtain ⟨i, hi⟩ := List.mem_iff_getElem?.1 hy
      rw [List.getElem?_drop] at hi
      obtain ⟨z, hz⟩ := get_some (xs := ys) (i := j + 1) (by have := (List.getElem?_eq_some_iff.1 hi).1; omega)
      have hle : ∀ s t a b, s ≤ t → ys[s]? = some a → ys[t]? = some b → rkR a ≤ rkR b := fun s t a b hst ha hb => by
        obtain ⟨h1, rfl⟩ := List.getElem?_eq_some_iff.1 ha
        obtain ⟨h2, rfl⟩ := List.getElem?_eq_some_iff.1 hb
        rcases Nat.eq_or_lt_of_le hst with rfl | h3
        · exact Nat.le_refl _
        · exact (List.pairwise_iff_getElem.1 hs) s t h1 h2 h3
      have h1 := hle j (j + 1) x z (by omega) hx hz
      have h2 := hle (j + 1) (j + 1 + i) z y (by omega) hz hi
      have h3 := hn z hz
      simp only [decide_eq_true_eq]
      intro h4
      have h5 : rkR y = rkR x := by rw [rkR, h4]; rfl
      exact h3 (rkP_inj (hm z (List.mem_of_getElem? hz)) (hm x (List.mem_of_getElem? hx)) (by show rkR z = rkR x; omega))
    unfold lastP
    rw [e, List.filter_append, List.filter_cons, if_pos (by simp), hz]
    simp
  · intro h
    obtain ⟨A, hA⟩ := List.getLast?_eq_some_iff.1 h
    obtain ⟨l1, l2, e1, _, e2⟩ := List.filter_eq_append_iff.1 hA
    obtain ⟨m1, m2, e3, _, _, e4⟩ := List.filter_eq_cons_iff.1 e2
    subst e3
    have ey : ys = (l1 ++ m1) ++ x :: m2 := by rw [e1, List.append_assoc]
    refine ⟨(l1 ++ m1).length, by rw [ey]; simp, by rw [ey]; simp, fun y hy => ?_⟩
    rw [ey, List.getElem?_append_right (by omega)] at hy
    rw [show (l1 ++ m1).length + 1 - (l1 ++ m1).length = 0 + 1 by omega, List.getElem?_cons_succ] at hy
    have := List.filter_eq_nil_iff.1 e4 y (List.mem_of_getElem? hy)
    simpa using this
theorem tsort_ok (l : List Rt) : Ord (tsortF l) ∧ ∀ x, x ∈ tsortF l ↔ lastP (keepF l) x.p = some x := by
  have hst := srt_stb (f := rkR) (keepF l)
  have hmy : MayAll (srt rkR (keepF l)) := fun x hx => keepF_may l x (hst.mem.1 hx)
  have hmem : ∀ x, x ∈ tsortF l ↔ lastP (srt rkR (keepF l)) x.p = some x := fun x => by
    rw [tsortF, ddF_mem _ (Nat.le_refl _)]
    exact last_srt hst.srt hmy
  have hin : ∀ x, x ∈ tsortF l → x ∈ srt rkR (keepF l) := fun x hx => (lastP_mem ((hmem x).1 hx)).1
  have hpw : ∀ i, i ≤ (srt rkR (keepF l)).length → (ddF (srt rkR (keepF l)) i).Pairwise fun a b => pless a.p b.p = true := by
    generalize hys : srt rkR (keepF l) = ys at *
    have hle : ∀ s t a b, s ≤ t → ys[s]? = some a → ys[t]? = some b → rkR a ≤ rkR b := fun s t a b hst' ha hb => by
      obtain ⟨h1, rfl⟩ := List.getElem?_eq_some_iff.1 ha
      obtain ⟨h2, rfl⟩ := List.getElem?_eq_some_iff.1 hb
      rcases Nat.eq_or_lt_of_le hst' with rfl | h3
      · exact Nat.le_refl _
      · exact (List.pairwise_iff_getElem.1 hst.srt) s t h1 h2 h3
    intro i
    induction i with
    | zero => intro _; exact List.Pairwise.nil
    | succ i ih =>
      intro hi
      obtain ⟨e, he⟩ := get_some (xs := ys) (i := i) (by omega)
      rw [ddF]
      split
      · exact ih (by omega)
      · rw [he]
        refine List.pairwise_append.2 ⟨ih (by omega), by simp, fun a ha b hb => ?_⟩
        obtain rfl : b = e := by simpa using hb
        obtain ⟨j, h1, h2, h3⟩ := (ddF_mem i (by omega)).1 ha
        obtain ⟨z, hz⟩ := get_some (xs := ys) (i := j + 1) (by omega)
        have g1 := hle j (j + 1) a z (by omega) h2 hz
        have g2 := hle (j + 1) i z b (by omega) hz he
        have ma := hmy a (List.mem_of_getElem? h2)
        have mz := hmy z (List.mem_of_getElem? hz)
        have g3 : rkR a ≠ rkR z := fun e => h3 z hz (rkP_inj mz ma e.symm)
        rw [pless_rk ma (hmy b (List.mem_of_getElem? he)), decide_eq_true_eq]
        show rkR a < rkR b
        omega
  refine ⟨⟨fun x hx => hmy x (hin x hx), hpw _ (Nat.le_refl _)⟩, fun x => ?_⟩
  rw [hmem]
  cases hx : pmay x.p with
  | true => rw [lastP_stb hst (keepF_may l) hx]
  | false =>
    constructor
    · intro h
      have := hmy x (lastP_mem h).1
      rw [hx] at this; cases this
    · intro h
      have := keepF_may l x (lastP_mem h).1
      rw [hx] at this; cases this
theorem sort_same (l : List Rt) : tsortF l = rsortF l :=
  Go.Kb.Ord.ext (tsort_ok l).1 (rsort_ok l).1 fun x => ((tsort_ok l).2 x).trans ((rsort_ok l).2 x).symm
theorem tsort_right (h : tright t = true) : tsortF t = t := by
  have ho := right_ord h
  have hk : keepF t = t := by rw [keepF, List.filter_eq_self]; exact fun x hx => ho.may x hx
  refine Go.Kb.Ord.ext (tsort_ok t).1 ho fun x => ?_
  rw [(tsort_ok t).2, hk]
  constructor
  · intro h; exact (lastP_mem h).1
  · intro hx
    cases hl : lastP t x.p with
    | some y =>
      obtain ⟨h1, h2⟩ := lastP_mem hl
      rw [ho.uniq h1 hx h2]
    | none =>
      have : (t.filter fun r => decide (r.p = x.p)) = [] := List.getLast?_eq_none_iff.1 hl
      have := List.filter_eq_nil_iff.1 this x hx
      simp at this
theorem get_rget (h : tright t = true) : getE t p = rgetE t p ∧ getH t p = rgetH t p := by
  have ho := right_ord h
  cases hp : pmay p with
  | false =>
    obtain ⟨e1, e2⟩ := rget_bad (t := t) hp
    have hok : getOk t p = false := by rw [getOk, hp, Bool.and_false]
    rw [e1, e2, getE, getH, if_neg (by rw [hok]; simp), if_neg (by rw [hok]; simp)]
    exact ⟨rfl, rfl⟩
  | true =>
    have hok : getOk t p = true := by rw [getOk, h, hp]; rfl
    by_cases hx : ∃ r ∈ t, r.p = p
    · obtain ⟨r, hr, rfl⟩ := hx
      obtain ⟨i, hi⟩ := List.mem_iff_getElem?.1 hr
      obtain ⟨e1, e2⟩ := rget_hit (t := t) hp (i := i) (e := r) (fun x hx => by
        obtain ⟨j, hj, hv⟩ := List.mem_take_iff_getElem.1 hx
        have hjx : t[j]? = some x := by rw [List.getElem?_eq_getElem (by omega), hv]
        exact less_ne (ho.may x (List.mem_of_getElem? hjx)) (ho.at hjx hi (by omega))) hi rfl
      obtain ⟨e3, e4⟩ := get_of h hr
      rw [e1, e2, e3, e4]; exact ⟨rfl, rfl⟩
    · obtain ⟨e1, e2⟩ := rget_no (t := t) hp fun x hx' e => hx ⟨x, hx', e⟩
      rw [e1, e2]
      cases hf : getF t p with
      | some r =>
        have : getE t p = 0 := by rw [getE, if_pos hok, hf]; rfl
        obtain ⟨r', h1, h2, _⟩ := get_in h this
        exact absurd ⟨r', h1, h2⟩ hx
      | none => rw [getE, getH, if_pos hok, if_pos hok, hf]; exact ⟨rfl, rfl⟩
theorem ask_wrong (h : tright t = false) {l : List Ch} : getE t p = 1 ∧ getH t p = 0 ∧ bestE t k bits = 1 ∧ bestR t k bits = zroute ∧ appE t l = 1 ∧ appL t l = t ∧ undT t p = [] := by
  have hok : getOk t p = false := by rw [getOk, h]; rfl
  have hb : bestO t k bits = false := by rw [bestO, h]; rfl
  have he : appE t l = 1 := if_neg (by rw [h]; simp)
  refine ⟨by rw [getE, if_neg (by rw [hok]; simp)], by rw [getH, if_neg (by rw [hok]; simp)], by rw [bestE, if_neg (by rw [hb]; simp)], by rw [bestR, if_neg (by rw [hb]; simp)], he, by rw [appL, if_neg (by rw [he]; decide)], by rw [undT, if_neg (by rw [hok]; simp)]⟩
theorem tsort_len (l : List Rt) : (tsortF l).length ≤ l.length := by
  have h1 := ddF_length (srt rkR (keepF l)) (srt rkR (keepF l)).length
  have h2 := (srt_stb (f := rkR) (keepF l)).length
  have h3 := keepF_length l
  unfold tsortF
  omega
theorem undF_len (t : List Rt) (p : Pfx) : (undF t p).length ≤ t.length := List.length_filter_le _ _
theorem apF_right {t : List Rt} (h : tright t = true) : ∀ l : List Ch, tright (appF t l).1 = true := by
  intro l
  induction l generalizing t with
  | nil => exact h
  | cons c l ih =>
    rw [appF]; split
    · exact ih (chg_right h c)
    · exact h
theorem apL_right {t : List Rt} (h : tright t = true) (l : List Ch) : tright (appL t l) = true := by
  unfold appL; split
  · exact apF_right h l
  · exact h

end Go.Eng

/- A route taken away, and what is best then; all that lie under taken away; changes in halves. No program in sight. -/
namespace Go.Eng
open Go.Kb
variable {t ts : List Rt} {k : Key} {bits : Int} {p : Pfx} {r : Rt}
theorem chg_goneIn (h : tright t = true) (hr : r ∈ t) {c : Ch} (hc : c.r.p = r.p) (hg : c.gone = true) : chgE t c = 0 ∧ chgL t c = t.filter fun x => decide (x.p ≠ r.p) := by
  have hrg : rgetE t c.r.p = 0 := by rw [hc, ← (get_rget h).1, (get_of h hr).1]
  have he : chgE t c = 0 := by rw [chgE_get h, hrg, if_neg (by simp), if_neg (by simp)]
  obtain ⟨cr, cg⟩ := c
  simp only at hg hc
  subst hg
  exact ⟨he, by rw [chg_goneF h he, hc]⟩
theorem app1 (h : tright t = true) {c : Ch} (he : chgE t c = 0) : appE t [c] = 0 ∧ appL t [c] = chgL t c := by
  have e : appE t [c] = 0 := by rw [appE, if_pos h, appF, if_pos he]; rfl
  exact ⟨e, by rw [appL, if_pos e, appF, if_pos he]; rfl⟩
theorem less_one (h : Ord t) (hr : r ∈ t) : (t.filter fun x => decide (x.p ≠ r.p)).length + 1 = t.length := by
  have h1 := List.length_eq_countP_add_countP (p := fun q : Rt => decide (q.p = r.p)) (l := t)
  rw [h.count_one hr] at h1
  have h2 : (t.countP fun a => ¬ (decide (a.p = r.p)) = true) = (t.filter fun x => decide (x.p ≠ r.p)).length := by
    rw [List.countP_eq_length_filter]; congr 1; refine List.filter_congr fun x _ => ?_; simp
  omega
theorem best_all (h : tright ts = true) {e : Rt} (he : e ∈ ts) (ho : onWay k bits e = true) : bestE ts k bits = 0 ∧ e.p.len ≤ (bestR ts k bits).p.len := by
  rcases best_cases (k := k) (bits := bits) h with ⟨h1, _, _, h4⟩ | ⟨_, _, h3⟩
  · exact ⟨h1, h4 e he ho⟩
  · rw [h3 e he] at ho; cases ho
theorem best_in (h : tright ts = true) (hb : bestE ts k bits = 0) : bestR ts k bits ∈ ts ∧ onWay k bits (bestR ts k bits) = true := by
  rcases best_cases (k := k) (bits := bits) h with ⟨_, h2, h3, _⟩ | ⟨h1, _, _⟩
  · exact ⟨h2, h3⟩
  · rw [hb] at h1; split at h1 <;> omega
theorem best_zero (h : tright ts = true) (hb : bestE ts k bits ≠ 0) : bestR ts k bits = zroute := by
  rcases best_cases (k := k) (bits := bits) h with ⟨h1, _⟩ | ⟨_, h2, _⟩
  · exact absurd h1 hb
  · exact h2
theorem on_open (h : onWay k bits r = true) : pmay ⟨bits, bits, k⟩ = true := by
  simp only [onWay, pfits, Bool.and_eq_true, decide_eq_true_eq] at h
  obtain ⟨e1, ⟨e2, e3⟩, e4⟩ := h
  obtain ⟨a1, a2, a3, a4⟩ := (pmay_iff _).1 e2
  exact (pmay_iff _).2 ⟨by rw [← e1]; exact a1, by show 0 ≤ bits; omega, Int.le_refl _, by show kcut k bits = k; rw [← e1]; exact e3⟩
theorem on_fits (h : onWay k bits r = true) : pfits r.p k = true ∧ r.p.bits = bits := by
  simp only [onWay, Bool.and_eq_true, decide_eq_true_eq] at h
  exact ⟨h.2, h.1⟩
theorem on_cover {a b : Rt} (ha : onWay k bits a = true) (hb : onWay k bits b = true) (hl : a.p.len ≤ b.p.len) : pcovers a.p b.p = true :=
  covers_of_fits (on_fits ha).1 (on_fits hb).1 ((on_fits ha).2.trans (on_fits hb).2.symm) hl
theorem best_gone (h : tright ts = true) (hb : bestE ts k bits = 0) {c : Ch} (hc : c.r.p = (bestR ts k bits).p) (hg : c.gone = true) : appE ts [c] = 0 ∧ (appL ts [c]).length + 1 = ts.length ∧
    (bestE (appL ts [c]) k bits = 6 ∨ (bestE (appL ts [c]) k bits = 0 ∧ (bestR (appL ts [c]) k bits).p.len < (bestR ts k bits).p.len ∧ pcovers (bestR (appL ts [c]) k bits).p (bestR ts k bits).p = true)) := by
  obtain ⟨h1, h2⟩ := best_in h hb
  obtain ⟨e1, e2⟩ := chg_goneIn h h1 hc hg
  obtain ⟨e3, e4⟩ := app1 h e1
  have hu : tright (appL ts [c]) = true := apL_right h _
  refine ⟨e3, by rw [e4, e2]; exact less_one (right_ord h) h1, ?_⟩
  rcases best_cases (k := k) (bits := bits) hu with ⟨g1, g2, g3, _⟩ | ⟨g1, _, _⟩
  · right
    have hm : bestR (appL ts [c]) k bits ∈ ts ∧ (bestR (appL ts [c]) k bits).p ≠ (bestR ts k bits).p := by
      have : ∀ x, x ∈ appL ts [c] → x ∈ ts ∧ x.p ≠ (bestR ts k bits).p := fun x hx => by
        rw [e4, e2, List.mem_filter] at hx
        exact ⟨hx.1, by simpa using hx.2⟩
      exact this _ g2
    have hle := (best_all h hm.1 g3).2
    have hcv := on_cover g3 h2 hle
    refine ⟨g1, ?_, hcv⟩
    apply Classical.byContradiction; intro hn
    exact hm.2 (covers_lens (on_cover h2 g3 (by omega)) hle).symm
  · left
    rw [if_pos (on_open h2)] at g1; exact g1
/-! All that lie under. -/
def goneL (us : List Rt) : List Ch := us.map fun r => ⟨r, true⟩
theorem app_goneL : ∀ {us ts : List Rt}, tright ts = true → us.Pairwise (fun a b => a.p ≠ b.p) → (∀ u ∈ us, u ∈ ts) → appF ts (goneL us) = (ts.filter (fun x => decide (∀ u ∈ us, x.p ≠ u.p)), 0)
  | [], ts, _, _, _ => by
    rw [goneL, List.map_nil, appF]
    congr 1
    rw [eq_comm, List.filter_eq_self]
    intro x _; simp
  | u :: us, ts, h, hp, hin => by
    rw [List.pairwise_cons] at hp
    have hu := hin u (List.mem_cons_self)
    obtain ⟨e1, e2⟩ := chg_goneIn h hu (c := ⟨u, true⟩) rfl rfl
    have hr2 : tright (ts.filter fun x => decide (x.p ≠ u.p)) = true := by rw [← e2]; exact chg_right h _
    rw [goneL, List.map_cons, appF, if_pos e1, e2]
    have := app_goneL (us := us) (ts := ts.filter fun x => decide (x.p ≠ u.p)) hr2 hp.2 (fun v hv => by
      rw [List.mem_filter]
      exact ⟨hin v (List.mem_cons_of_mem _ hv), by have := hp.1 v hv; simpa using fun e => this e.symm⟩)
    rw [goneL] at this
    rw [this]
    congr 1
    rw [List.filter_filter]
    refine List.filter_congr fun x _ => ?_
    rw [Bool.eq_iff_iff]
    simp only [Bool.and_eq_true, decide_eq_true_eq, List.forall_mem_cons]
    exact ⟨fun h => ⟨h.2, h.1⟩, fun h => ⟨h.2, h.1⟩⟩
theorem two_parts {α : Type} (f : α → Bool) : ∀ l : List α, (l.filter fun x => !f x).length + (l.filter f).length = l.length
  | [] => rfl
  | x :: l => by
    have := two_parts f l
    rw [List.filter_cons, List.filter_cons, List.length_cons]
    cases f x <;> simp <;> omega
theorem ord_ne (h : Ord t) : t.Pairwise fun a b => a.p ≠ b.p := h.less.imp_of_mem fun {a b} ha _ hab => less_ne (h.may a ha) hab
theorem und_gone (h : tright ts = true) : appE ts (goneL (undF ts p)) = 0 ∧ (appL ts (goneL (undF ts p))).length + (undF ts p).length = ts.length ∧ undT (appL ts (goneL (undF ts p))) p = [] := by
  have ho := right_ord h
  have hsub : (undF ts p).Sublist ts := List.filter_sublist
  have e1 := app_goneL h (ord_ne (ho.sub hsub)) fun u hu => hsub.subset hu
  have e2 : appE ts (goneL (undF ts p)) = 0 := by rw [appE, if_pos h, e1]
  have e3 : appL ts (goneL (undF ts p)) = ts.filter fun x => !pcovers p x.p := by
    rw [appL, if_pos e2, e1]
    refine List.filter_congr fun x hx => ?_
    rw [Bool.eq_iff_iff, decide_eq_true_eq]
    constructor
    · intro h1
      cases hc : pcovers p x.p with
      | false => rfl
      | true => exact absurd rfl (h1 x (List.mem_filter.2 ⟨hx, hc⟩))
    · intro h1 u hu e
      have := (List.mem_filter.1 hu).2
      rw [← e] at this
      rw [this] at h1; cases h1
  refine ⟨e2, ?_, ?_⟩
  · rw [e3, undF]
    exact two_parts _ _
  · unfold undT
    split
    · rw [e3, undF, List.filter_filter, List.filter_eq_nil_iff]
      intro x _
      cases pcovers p x.p <;> simp
    · rfl
theorem und_best (h : tright ts = true) {b : Int} (hb : bestE ts k b = 0) (hpb : b = p.bits) (hf : pfits p k = true) : (getE (undF ts p) (bestR ts k b).p = 0) ↔ ¬ (pcovers (bestR ts k b).p p = true ∧ (bestR ts k b).p ≠ p) := by
  obtain ⟨h1, h2⟩ := best_in h hb
  obtain ⟨f1, f2⟩ := on_fits h2
  have ho := right_ord h
  have hlen : (undF ts p).length ≤ 256 := Nat.le_trans (undF_len ts p) (tr_len h)
  have hur : tright (undF ts p) = true := ord_right (ho.sub List.filter_sublist) hlen
  by_cases hl : p.len ≤ (bestR ts k b).p.len
  · have hc : pcovers p (bestR ts k b).p = true := covers_of_fits hf f1 (by rw [f2, hpb]) hl
    have hin : bestR ts k b ∈ undF ts p := List.mem_filter.2 ⟨h1, hc⟩
    refine ⟨fun _ hn => ?_, fun _ => (get_of hur hin).1⟩
    exact hn.2 (covers_lens hn.1 hl)
  · have hc : pcovers (bestR ts k b).p p = true := covers_of_fits f1 hf (by rw [f2, hpb]) (by omega)
    refine ⟨fun hg => ?_, fun hn => ?_⟩
    · obtain ⟨q, hq, hqp, _⟩ := get_in hur hg
      have := (List.mem_filter.1 hq).2
      rw [hqp] at this
      obtain ⟨_, _, _, h5, _⟩ := (pcovers_iff _ _).1 this
      omega
    · exact absurd ⟨hc, fun e => hl (by rw [e]; exact Int.le_refl _)⟩ hn
/-! Halves. -/
theorem appF_app : ∀ {a : List Ch} {t : List Rt} {b : List Ch}, appF t (a ++ b) = if (appF t a).2 = 0 then appF (appF t a).1 b else appF t a
  | [], t, b => by rw [List.nil_append, appF, if_pos rfl]
  | c :: a, t, b => by
    rw [List.cons_append, appF, appF]
    by_cases h : chgE t c = 0
    · rw [if_pos h, if_pos h, appF_app]
    · rw [if_neg h, if_neg h, if_neg h]
theorem app_halves (h : tright t = true) (a b : List Ch) : (appE t a = 0 → appE t (a ++ b) = appE (appL t a) b ∧ (appE (appL t a) b = 0 → appL t (a ++ b) = appL (appL t a) b)) ∧ (appE t a ≠ 0 → appE t (a ++ b) = appE t a ∧ appL t (a ++ b) = t) := by
  have e1 : appE t a = (appF t a).2 := if_pos h
  constructor
  · intro he
    have hl : appL t a = (appF t a).1 := by rw [appL, if_pos he]
    have hr2 := apL_right h a
    have e2 : appE t (a ++ b) = appE (appL t a) b := by rw [appE, if_pos h, appF_app, if_pos (by rw [← e1]; exact he), appE, if_pos hr2, hl]
    refine ⟨e2, fun h2 => ?_⟩
    rw [appL, if_pos (e2.trans h2), appF_app, if_pos (by rw [← e1]; exact he), ← hl]
    conv => rhs; rw [appL, if_pos h2]
  · intro he
    have e2 : appE t (a ++ b) = appE t a := by rw [appE, if_pos h, appF_app, if_neg (by rw [← e1]; exact he), ← e1]
    exact ⟨e2, by rw [appL, if_neg (by rw [e2]; exact he)]⟩
theorem add_gone (h : tright t = true) (hl : t.length ≤ 200) (hg : getE t r.p = 6) : appE t [⟨r, false⟩, ⟨r, true⟩] = 0 ∧ appL t [⟨r, false⟩, ⟨r, true⟩] = t := by
  have hrg : rgetE t r.p = 6 := by rw [← (get_rget h).1]; exact hg
  have hm : pmay r.p = true := by
    cases hm : pmay r.p with
    | true => rfl
    | false => rw [(rget_bad (t := t) hm).1] at hrg; omega
  have e1 : chgE t ⟨r, false⟩ = 0 := by rw [chgE_get h, if_neg (by simp [hrg]), if_neg (by simp only; omega)]
  have hno : ∀ x ∈ t, x.p ≠ r.p := fun x hx e => by
    have := (get_of h hx).1
    rw [e, hg] at this; omega
  have hmem := more_mem h e1
  have hr2 := chg_right h ⟨r, false⟩
  obtain ⟨e2, e3⟩ := chg_goneIn hr2 ((hmem r).2 (.inl rfl)) (c := ⟨r, true⟩) rfl rfl
  have e4 : (chgL t ⟨r, false⟩).filter (fun x => decide (x.p ≠ r.p)) = t := by
    refine Go.Kb.Ord.ext ((right_ord hr2).sub List.filter_sublist) (right_ord h) fun x => ?_
    rw [List.mem_filter, hmem]
    constructor
    · rintro ⟨h1 | h1, h2⟩
      · rw [h1] at h2; simp at h2
      · exact h1.1
    · intro hx; exact ⟨.inr ⟨hx, hno x hx⟩, by simpa using hno x hx⟩
  have ef : appF t [⟨r, false⟩, ⟨r, true⟩] = (t, 0) := by rw [appF, if_pos e1, appF, if_pos e2, e3, e4, appF]
  have ee : appE t [⟨r, false⟩, ⟨r, true⟩] = 0 := by rw [appE, if_pos h, ef]
  exact ⟨ee, by rw [appL, if_pos ee, ef]⟩
end Go.Eng

/- Behind changes a prefix leads where the last one of it says; all others as before. No program in sight. -/
namespace Go.Eng
open Go.Kb
variable {t ts : List Rt} {p : Pfx}
def lastC (l : List Ch) (p : Pfx) : Option Ch := (l.filter fun c => decide (c.r.p = p)).getLast?
theorem lastC_app (l : List Ch) (r : Ch) (p : Pfx) : lastC (l ++ [r]) p = if r.r.p = p then some r else lastC l p := by
  unfold lastC
  rw [List.filter_append]
  by_cases h : r.r.p = p
  · rw [if_pos h]; simp [h]
  · rw [if_neg h]; simp [h]
theorem lastC_mem {l : List Ch} {p : Pfx} {x : Ch} (h : lastC l p = some x) : x ∈ l ∧ x.r.p = p := by
  have := List.mem_filter.1 (List.mem_of_getLast? h)
  exact ⟨this.1, by simpa using this.2⟩
theorem lastC_cons (c : Ch) (l : List Ch) (p : Pfx) : lastC (c :: l) p = (lastC l p).or (if c.r.p = p then some c else none) := by
  unfold lastC
  rw [List.filter_cons]
  by_cases h : c.r.p = p
  · rw [if_pos (by simpa using h), if_pos h, List.getLast?_cons]
    cases hl : (l.filter fun c => decide (c.r.p = p)).getLast? <;> simp
  · rw [if_neg (by simpa using h), if_neg h]; simp
theorem lastC_none {l : List Ch} (h : ∀ c ∈ l, c.r.p ≠ p) : lastC l p = none := by
  unfold lastC
  rw [List.filter_eq_nil_iff.2 fun c hc => by simpa using h c hc]; rfl
theorem chg_mem (h : tright t = true) {c : Ch} (he : chgE t c = 0) (x : Rt) : x ∈ chgL t c ↔ if c.r.p = x.p then c.gone = false ∧ x = c.r else x ∈ t := by
  obtain ⟨r, g⟩ := c
  cases g with
  | false =>
    rw [more_mem h he]
    by_cases hp : r.p = x.p
    · rw [if_pos hp]
      constructor
      · rintro (h1 | ⟨_, h1⟩)
        · exact ⟨rfl, h1⟩
        · exact absurd hp.symm h1
      · exact fun h1 => .inl h1.2
    · rw [if_neg hp]
      constructor
      · rintro (h1 | h1)
        · exact absurd (by rw [h1]) hp
        · exact h1.1
      · exact fun h1 => .inr ⟨h1, fun e => hp e.symm⟩
  | true =>
    rw [chg_goneF h he, List.mem_filter]
    by_cases hp : r.p = x.p
    · rw [if_pos hp]; simp [hp]
    · rw [if_neg hp]
      exact ⟨fun h1 => h1.1, fun h1 => ⟨h1, by simpa using fun e => hp e.symm⟩⟩
theorem appF_mem : ∀ {l : List Ch} {t : List Rt}, tright t = true → (appF t l).2 = 0 → ∀ x, x ∈ (appF t l).1 ↔ match lastC l x.p with
    | some c => c.gone = false ∧ x = c.r
    | none => x ∈ t
  | [], t, _, _, x => by simp [lastC, appF]
  | c :: l, t, h, he, x => by
    rw [appF] at he ⊢
    by_cases hc : chgE t c = 0
    · rw [if_pos hc] at he ⊢
      rw [appF_mem (chg_right h c) he x, lastC_cons]
      cases hl : lastC l x.p with
      | some d => rfl
      | none =>
        simp only [Option.none_or]
        rw [chg_mem h hc]
        by_cases hp : c.r.p = x.p
        · rw [if_pos hp, if_pos hp]
        · rw [if_neg hp, if_neg hp]
    · rw [if_neg hc] at he; exact absurd he hc
theorem appF_may : ∀ {l : List Ch} {t : List Rt}, tright t = true → (appF t l).2 = 0 → ∀ c ∈ l, pmay c.r.p = true
  | [], _, _, _, c, hc => by cases hc
  | c :: l, t, h, he, d, hd => by
    rw [appF] at he
    by_cases hc : chgE t c = 0
    · rw [if_pos hc] at he
      rcases List.mem_cons.1 hd with rfl | hd
      · exact chg_may hc
      · exact appF_may (chg_right h c) he d hd
    · rw [if_neg hc] at he; exact absurd he hc
theorem app_mem (h : tright t = true) {l : List Ch} (he : appE t l = 0) (x : Rt) : x ∈ appL t l ↔ match lastC l x.p with
    | some c => c.gone = false ∧ x = c.r
    | none => x ∈ t := by
  rw [appL, if_pos he]
  rw [appE, if_pos h] at he
  exact appF_mem h he x
theorem get_non (h : tright t = true) (hp : pmay p = true) (hn : ∀ x ∈ t, x.p ≠ p) : getE t p = 6 ∧ getH t p = 0 := by
  rw [(get_rget h).1, (get_rget h).2]; exact rget_no hp hn
theorem app_gone (h : tright t = true) {l : List Ch} (he : appE t l = 0) {d : Ch} (hl : lastC l p = some d) (hg : d.gone = true) : getE (appL t l) p = 6 := by
  have he' := he
  rw [appE, if_pos h] at he'
  obtain ⟨h1, h2⟩ := lastC_mem hl
  have hm : pmay p = true := by rw [← h2]; exact appF_may h he' d h1
  refine (get_non (apL_right h l) hm fun x hx e => ?_).1
  rw [app_mem h he, e, hl] at hx
  have hx2 : d.gone = false ∧ x = d.r := hx
  rw [hg] at hx2; cases hx2.1
theorem app_put (h : tright t = true) {l : List Ch} (he : appE t l = 0) {d : Ch} (hl : lastC l p = some d) (hg : d.gone = false) : getE (appL t l) p = 0 ∧ getH (appL t l) p = d.r.hop := by
  obtain ⟨_, h2⟩ := lastC_mem hl
  have hin : d.r ∈ appL t l := by rw [app_mem h he, h2, hl]; exact ⟨hg, rfl⟩
  have := get_of (apL_right h l) hin
  rw [h2] at this; exact this
theorem app_kept (h : tright t = true) {l : List Ch} (he : appE t l = 0) {r : Rt} (hr : r ∈ t) (hn : ∀ c ∈ l, c.r.p ≠ r.p) : getE (appL t l) r.p = 0 ∧ getH (appL t l) r.p = r.hop := by
  have hin : r ∈ appL t l := by rw [app_mem h he, lastC_none hn]; exact hr
  exact get_of (apL_right h l) hin
theorem und_short (h : tright t = true) : undT t ⟨32, 0, 0#128⟩ = shortF t := by
  rw [undT_right h, undF, shortF]
  refine List.filter_congr fun x hx => ?_
  have hm := (right_ord h).may x hx
  obtain ⟨h1, h2, h3, h4⟩ := (pmay_iff x.p).1 hm
  rw [Bool.eq_iff_iff, decide_eq_true_eq]
  constructor
  · intro hc
    obtain ⟨_, _, h5, _⟩ := (pcovers_iff _ _).1 hc
    exact h5.symm
  · intro hb
    exact (pcovers_iff _ _).2 ⟨by decide, hm, hb.symm, h2, kcut_none _ _ (by decide)⟩
structure LastTo (l : List Ch) (i n m : Nat) (c d : Ch) : Prop where
  at' : l[m]? = some d
  le : n ≤ l.length
  last : (n = i ∧ m = i) ∨ lastC (l.take n) c.r.p = some d
theorem LastTo.start {l : List Ch} {i : Nat} {c : Ch} (hc : l[i]? = some c) : LastTo l i i i c c := ⟨hc, by have := (List.getElem?_eq_some_iff.1 hc).1; omega, .inl ⟨rfl, rfl⟩⟩
theorem LastTo.yes {l : List Ch} {i n m : Nat} {c d e : Ch} (h : LastTo l i n m c d) (he : l[n]? = some e) (hp : e.r.p = c.r.p) : LastTo l i (n + 1) n c e :=
  ⟨he, (List.getElem?_eq_some_iff.1 he).1, .inr (by rw [List.take_add_one, he]; exact (lastC_app _ e _).trans (if_pos hp))⟩
theorem LastTo.no {l : List Ch} {i n m : Nat} {c d e : Ch} (hc : l[i]? = some c) (h : LastTo l i n m c d) (he : l[n]? = some e) (hp : e.r.p ≠ c.r.p) : LastTo l i (n + 1) m c d := by
  refine ⟨h.at', (List.getElem?_eq_some_iff.1 he).1, .inr ?_⟩
  rcases h.last with ⟨rfl, rfl⟩ | h1
  · rw [hc] at he; obtain rfl := Option.some.inj he; exact absurd rfl hp
  · rw [List.take_add_one, he]; exact (lastC_app _ e _).trans ((if_neg hp).trans h1)
theorem LastTo.done {l : List Ch} {i m : Nat} {c d : Ch} (h : LastTo l i l.length m c d) (hi : i < l.length) : lastC l c.r.p = some d := by
  rcases h.last with ⟨h1, _⟩ | h1
  · omega
  · rwa [List.take_length] at h1
end Go.Eng

